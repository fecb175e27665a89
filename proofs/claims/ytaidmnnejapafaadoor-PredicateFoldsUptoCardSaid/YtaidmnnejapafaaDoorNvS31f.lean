/-
  PredicateFolds (law31) answers true and leaves its arguments as they were; header.fields holds what the program's text lays in it (the card's tie). The statement holds at every input of bulk at most 1048576.
-/
import Derived.Test.YtaidmnnejapafaaDoorCards
import Derived.Test.YtaidmnnejapafaaDoorTie
import Derived.WalkKit
import Derived.ProofKit
import Derived.OpenShut
import Derived.JoinedCond
import Derived.SevenTiedAt
import Derived.Deep.DeepHandedRow
import Derived.Lib.LaidTab
import Derived.Test.YtaidmnnejapafaaDoorXf15
import Derived.Test.YtaidmnnejapafaaDoorXf25
set_option linter.unusedVariables false
namespace Go.Ve
open Go Go.Proofs Go.Bd Go.Proofs.Bw
theorem zSZ {r:Ty.El zD} (h:zD.fits 1048576 r):SmL r:=by
 obtain ⟨_,_,f3,f4,f5,f6,f7,f8,⟨_,_,g1,g2,_⟩,⟨_,_,_,_,g3,_⟩,⟨_,_,_,g4,g5,g6,g7,g8,_⟩,_⟩:=h
 exact ⟨f3.1,f4.1,f5.1,f6.1,f7.1,f8.1,g1.1,g2.1,g3.1,g4.1,g5.1,g6.1,g7.1,g8.1,fun y hy=>(f4.2 y hy).2.1.1,fun y hy=>(f5.2 y hy).2.1.1,fun y hy=>(f6.2 y hy).2.1.1⟩
noncomputable def zS3:ElS [zD,tI]→Option (RTy.El (.p .bool)):=zR3 j3
theorem zRj:kX zAg Tryd.prog G0 6 (qF (zB1 [zD,tI] (.p .bool) zS3)):=
 zMV (by
  intro g cs hg m d hd
  match g,hg with
  |0,hg=>
   cases hg
   match m,hd with
   |0,h|1,h|2,h|3,h|4,h|5,h|6,h|7,h|8,h|9,h=>cases h;exact ⟨_,rfl⟩
   |m+10,h=>simp at h) (by kernel_rfl) (by kernel_rfl) zCa
theorem zQP (x:ElS [zD,tI]) (hx:zN0 1048576 [zD,tI] x):zS3 x=some true:=by
 obtain ⟨r,w,⟨⟩⟩:=x
 obtain ⟨q,h1,h2⟩:=zLH r w (zSZ hx.1)
 show Option.map _ _=_
 rw [h1,Option.map_some,h2]
end Go.Ve
namespace Go.Proofs.YtaidmnnejapafaaDoor.predicateFolds
open Go.ChangeShapes Go.WideShapes Go.ChangeAt Go.RowKit
set_option linter.unusedVariables false
set_option maxRecDepth 100000
set_option maxHeartbeats 0
theorem own:ownKnob Tryd.prog.godebug=none:=by kernel_rfl
theorem laid:laidOutB Tryd.prog=true:=by kernel_rfl
theorem zDY {H:Type} {d:DataW H} : ∀ {l:List (DataW H)},d∈l→Rows.uptoBulk d≤Rows.uptoBulkAll l:=by
 intro l
 induction l with
 |nil=>intro h;cases h
 |cons e l ih=>
  intro h
  simp only [Rows.uptoBulkAll]
  rcases List.mem_cons.1 h with rfl|h
  ·omega
  ·have:=ih h;omega
theorem zQK {H:Type} (d:DataW H):1≤Rows.uptoBulk d:=by
 cases d with
 |lit l=>cases l<;>simp [Rows.uptoBulk]
 |_=>simp [Rows.uptoBulk]
theorem zL1 {H:Type} : ∀ (l:List (DataW H)),l.length≤Rows.uptoBulkAll l:=by
 intro l
 induction l with
 |nil=>simp
 |cons e l ih=>have:=zQK e;simp only [Rows.uptoBulkAll,List.length_cons];omega
theorem zTo (H:Type):Ve.zQ0 (H:=H) Rows.uptoBulk where
 slice:=fun es sp=>⟨by have:=zL1 es;simp only [Rows.uptoBulk];omega,fun e he=>by have:=zDY he;simp only [Rows.uptoBulk];omega⟩
 agg:=fun ps p hp=>by have:=zDY hp;simp only [Rows.uptoBulk];omega
 str:=fun bs=>by simp only [Rows.uptoBulk];omega
theorem zOw:(Tryd.f6.params.toList.all fun t=>Ve.zBY Tryd.prog 12 t&&Tryd.prog.readableRec t&&decide (t<Tryd.prog.types.size))=true:=by kernel_rfl
open Go.Ve in
theorem zSi:Tryd.f6.params.toList.mapM (Ve.zEP Tryd.prog 12)=some [zD,tI]:=by kernel_rfl
theorem zSl:Tryd.f6.resultTypes= #[4]:=by kernel_rfl
theorem zRO:Tryd.prog.underlying 4=some .bool:=by kernel_rfl
theorem zKi:Tryd.f6.params.size=2:=by kernel_rfl
theorem gTab : Tryd.prog.globalNamed "netverify/header.fields" = some 0 := by kernel_rfl
theorem zQl:(Tryd.prog.globals[0]?).map (·.type)=some 195:=by kernel_rfl
theorem zSS:Tryd.prog.underlying 195=some (.array 5 194):=by kernel_rfl
theorem zO5:Tryd.prog.cellsOf 194=2:=by kernel_rfl
theorem zO4:Tryd.prog.cellsOf 3=1:=by kernel_rfl
theorem zSH:Tryd.prog.underlying 3=some (.int .i64):=by kernel_rfl
theorem zSN: ∃fs f0 f1,Tryd.prog.underlying 194=some (.struct fs)∧fs.toList=[f0,f1]∧(f0.offset=0∧f0.type=3)∧(f1.offset=1∧f1.type=3):=by
 have h:(match Tryd.prog.underlying 194 with
  |some (.struct fs)=>(match fs.toList with
   |[a,b]=>(a.offset==0&&a.type==3)&&(b.offset==1&&b.type==3)
   |_=>false)
  |_=>false)=true:=by kernel_rfl
 split at h
 ·rename_i fs hfs
  split at h
  ·rename_i a b hab
   simp only [Bool.and_eq_true,beq_iff_eq] at h
   exact ⟨fs,a,b,hfs,hab,h.1,h.2⟩
  ·cases h
 ·cases h
abbrev zs:List (Int×Int):=[(0,32),(32,32),(64,8),(72,16),(88,16)]
theorem zOC {W:World} (h:laidMetH Tryd.prog Rows.predicateFoldsUptoRow.laid W): ∀ (m:Nat) (x:Int),Bw.fldC[m]? =some x→W.cell? ⟨0,m,none⟩=some (.int .i64 x):=by
 have h : laidMet Tryd.prog [("netverify/header.fields", Rows.laid_netverify_header_fields)] W := h
 obtain ⟨ps,⟨g,t,cs,fuel,p,q,hg,ht,hvar,hd,_,_⟩,_⟩:=h
 obtain rfl:=Option.some.inj (gTab.symm.trans hg)
 obtain rfl:=Option.some.inj (zQl.symm.trans ht)
 obtain ⟨fs,f0,f1,he,hfs,h0,h1⟩:=zSN
 have hc:=Ve.zI0 (zs:=zs) (k:= .i64) zSS he hfs h0 h1 zSH zO5 zO4 (p:=p) hd
 have hcell: ∀i,W.cell? ⟨0,i,none⟩=cs.toList[i]? :=fun i=>(World.var?_cell gTab hvar i).trans (by simp)
 intro m x hx
 rw [hcell]
 match m,hx with
 |0,hx=>cases hx;exact (hc 0 _ rfl).1
 |1,hx=>cases hx;exact (hc 0 _ rfl).2
 |2,hx=>cases hx;exact (hc 1 _ rfl).1
 |3,hx=>cases hx;exact (hc 1 _ rfl).2
 |4,hx=>cases hx;exact (hc 2 _ rfl).1
 |5,hx=>cases hx;exact (hc 2 _ rfl).2
 |6,hx=>cases hx;exact (hc 3 _ rfl).1
 |7,hx=>cases hx;exact (hc 3 _ rfl).2
 |8,hx=>cases hx;exact (hc 4 _ rfl).1
 |9,hx=>cases hx;exact (hc 4 _ rfl).2
 |m+10,hx=>simp [Bw.fldC] at hx
theorem zTn {W:World} (h:laidMetH Tryd.prog Rows.predicateFoldsUptoRow.laid W):Ve.zBr Ve.G0 W (Ve.zMK W.heap.size):=by
 have hc:=zOC h
 intro g cs hg
 match g,hg with
 |0,hg=>
  cases hg
  have hsz:0<W.heap.size:=by
   have h0:=hc 0 0 rfl
   simp only [World.cell?] at h0
   split at h0
   ·rename_i o ho
    exact (Array.getElem?_eq_some_iff.1 ho).1
   all_goals first|cases h0|skip
  refine .pp 0 0 _ (fun m=> .int .i64 (Bw.fldC.getD m 0)) hsz (fun m hm=> ?_) (fun m d hd=> ?_)
  ·rw [Nat.zero_add]
   match m,hm with
   |0,_|1,_|2,_|3,_|4,_|5,_|6,_|7,_|8,_|9,_=>exact hc _ _ rfl
   |m+10,h=>exact absurd h (by simp)
  ·match m,hd with
   |0,h|1,h|2,h|3,h|4,h|5,h|6,h|7,h|8,h|9,h=>cases h;exact Ve.Rd.val _
   |m+10,h=>simp at h
theorem zQG (H:Type) (enc:TypeId×Value→H) (W:World) (base:Nat) (args:Array Value) (ds gs:List (DataW H)) (before:List MemPlace)
  (hk:Rows.uptoSmall H (ds++gs)=true)
  (hval: ∀ (j:Nat) t v,Tryd.f6.params[j]? =some t→args[j]? =some v→Value.okWide Tryd.prog W .any base t v)
  (hW:DataW.Whole enc Tryd.prog Tryd.f6.params.toList Rows.predicateFoldsSpec.vars false W args.toList ds gs before) (hL:laidMetH Tryd.prog Rows.predicateFoldsUptoRow.laid W):
  Calls Tryd.prog 6 args W fun e W'=> ∃v,e= .returned v∧Rows.predicateFoldsSpec.post enc Tryd.prog Tryd.f6 false true false false W args v W':=by
 have hsm:Rows.uptoBulkAll (ds++gs)≤1048576:=of_decide_eq_true hk
 refine Ve.zJk (bk:=Rows.uptoBulk) (N:=1048576) laid (zTo H) ?_ zSi rfl ?_ zSl zRO ?_ Ve.zRj (zTn hL) hval hW ?_
 ·intro t ht
  have:=List.all_eq_true.1 zOw t ht
  simp only [Bool.and_eq_true,decide_eq_true_eq] at this
  exact ⟨this.1.1,this.1.2,this.2⟩
 ·intro ds hd
  rw [zKi] at hd
  match ds,hd with
  |[a,b],_=>rfl
 ·exact Ve.zQP
 ·intro d hd
  exact Nat.le_trans (zDY (List.mem_append_left _ hd)) hsm
noncomputable def laidWorld (os:Os):World:=
 { World.holding Tryd.prog os ⟨#[], #[],[]⟩ with heap:=(World.holding Tryd.prog os ⟨#[], #[],[]⟩).heap.modify 0 fun
   | .cells _ t frozen=> .cells #[.int .i64 0, .int .i64 32, .int .i64 32, .int .i64 32, .int .i64 64, .int .i64 8, .int .i64 72, .int .i64 16, .int .i64 88, .int .i64 16] t frozen
   |o=>o }
theorem laid_met (os:Os):laidMet Tryd.prog Rows.predicateFoldsUptoRow.laid ((laidWorld os).forCall (fun _ _=>0) ⟨#[], #[.agg #[.string ⟨#[]⟩, .int .i64 0, .slice none 0 0, .slice none 0 0, .slice none 0 0, .slice none 0 0, .slice none 0 0, .slice none 0 0, .bool false, .int .i64 0, .slice none 0 0, .slice none 0 0, .bool false, .int .i64 0, .string ⟨#[]⟩, .string ⟨#[]⟩, .slice none 0 0, .bool false, .int .i64 0, .int .i64 0, .slice none 0 0, .slice none 0 0, .slice none 0 0, .slice none 0 0, .slice none 0 0], .int .i64 0],[]⟩).memory:=
 laidMet_of_run' 8 (by kernel_rfl) (by kernel_rfl)
theorem reads (os:Os) {H:Type} (enc:TypeId×Value→H): ∃places,DataW.whole enc Tryd.prog ((laidWorld os).forCall (fun _ _=>0) ⟨#[], #[.agg #[.string ⟨#[]⟩, .int .i64 0, .slice none 0 0, .slice none 0 0, .slice none 0 0, .slice none 0 0, .slice none 0 0, .slice none 0 0, .bool false, .int .i64 0, .slice none 0 0, .slice none 0 0, .bool false, .int .i64 0, .string ⟨#[]⟩, .string ⟨#[]⟩, .slice none 0 0, .bool false, .int .i64 0, .int .i64 0, .slice none 0 0, .slice none 0 0, .slice none 0 0, .slice none 0 0, .slice none 0 0], .int .i64 0],[]⟩).memory Tryd.f6.params.toList Rows.predicateFoldsSpec.vars false (#[.agg #[.string ⟨#[]⟩, .int .i64 0, .slice none 0 0, .slice none 0 0, .slice none 0 0, .slice none 0 0, .slice none 0 0, .slice none 0 0, .bool false, .int .i64 0, .slice none 0 0, .slice none 0 0, .bool false, .int .i64 0, .string ⟨#[]⟩, .string ⟨#[]⟩, .slice none 0 0, .bool false, .int .i64 0, .int .i64 0, .slice none 0 0, .slice none 0 0, .slice none 0 0, .slice none 0 0, .slice none 0 0], .int .i64 0]:Array Value).toList 8=some ([.agg [.lit (.string []), .lit (.int .i64 0), .nil, .nil, .nil, .nil, .nil, .nil, .agg [.lit (.bool false), .lit (.int .i64 0), .nil, .nil], .agg [.lit (.bool false), .lit (.int .i64 0), .lit (.string []), .lit (.string []), .nil], .agg [.lit (.bool false), .lit (.int .i64 0), .lit (.int .i64 0), .nil, .nil, .nil, .nil, .nil]], .lit (.int .i64 0)],[],places):=
 ⟨[],by kernel_rfl⟩
theorem lifted (os:Os) (started:os.Started) (H:Type) (enc:TypeId×Value→H) (F:Stop.Interp):
  ReturnsInHanded {} Tryd.checked os 6 .any ((Rows.OpenSpec.upto Rows.predicateFoldsSpec).preRow enc Tryd.prog Tryd.f6 Rows.predicateFoldsUptoRow.domain false Rows.predicateFoldsUptoRow.laid) (((Rows.OpenSpec.upto Rows.predicateFoldsSpec).at F).post enc Tryd.prog Tryd.f6 false true false false):=by
 obtain ⟨places,hx⟩:=reads os enc
 refine returnsInHanded_of_row (C:=Tryd.checked) (s:=Rows.OpenSpec.upto Rows.predicateFoldsSpec) own started (by kernel_rfl) Tryd.func6
  (witness_row_at (enc:=enc) (C:=Tryd.checked) false (laidWorld os) #[.agg #[.string ⟨#[]⟩, .int .i64 0, .slice none 0 0, .slice none 0 0, .slice none 0 0, .slice none 0 0, .slice none 0 0, .slice none 0 0, .bool false, .int .i64 0, .slice none 0 0, .slice none 0 0, .bool false, .int .i64 0, .string ⟨#[]⟩, .string ⟨#[]⟩, .slice none 0 0, .bool false, .int .i64 0, .int .i64 0, .slice none 0 0, .slice none 0 0, .slice none 0 0, .slice none 0 0, .slice none 0 0], .int .i64 0] rfl (by kernel_rfl) (by kernel_rfl) (by kernel_rfl)
   (OpenSpec.preRow_of_cond 8 hx (by kernel_rfl) (fun k hk=>by cases hk;kernel_rfl) (by kernel_rfl) (laid_met os))) ?_
 intro W base args ds gs before hval hW _ hk _ hL _ _
 exact zQG H enc W base args ds gs before (hk _ rfl) hval hW hL
theorem closed:joinedFacts Tryd.prog 6 Tryd.f6 (Rows.OpenSpec.upto Rows.predicateFoldsSpec).bare Rows.predicateFoldsUptoRow=true:=by
 unfold joinedFacts
 simp only [Bool.and_eq_true]
 repeat' apply And.intro
 all_goals as_aux_lemma=>kernel_rfl
theorem zPG:Rows.PredicateFoldsUptoSaid:=
 OpenClaim.holds_of_cond 6 Tryd.f6 rfl rfl rfl rfl rfl rfl rfl ⟨rfl,rfl,rfl,rfl,rfl⟩ rfl rfl rfl rfl rfl (by as_aux_lemma=>kernel_rfl) Tryd.func6 closed
  (of_decide_eq_true (by kernel_rfl)) (by unfold Func.isWrapper;first|(rw [if_pos (by decide+kernel)];kernel_rfl)|(rw [if_neg (by decide+kernel)];exact ⟨rfl,rfl⟩))
  (fun os started H enc _ F=>by rw [OpenClaim.pre_eq_preRow];exact lifted os started H enc F)
theorem zSL : Tryd.prog.funcNamed "netverify/netverifylaw31.PredicateFolds" = some 6 := by kernel_rfl
theorem zSY:(Tryd.f6.params.toList.all fun t=> !Tryd.prog.wantsStandIn t)=true:=by kernel_rfl
theorem zRm:false=Tryd.pinned.checked.prog.looks []:=by kernel_rfl
theorem plain (f : FuncId) (fn : Func) (hf : Tryd.pinned.checked.prog.funcNamed "netverify/netverifylaw31.PredicateFolds" = some f) (hfn : Tryd.pinned.checked.prog.funcs[f]? = some fn) :
  false=Tryd.pinned.checked.prog.looks []∧ ∀ (j:Nat) t,fn.params[j]? =some t→Tryd.pinned.checked.prog.wantsStandIn t=false:=by
 obtain rfl:f=6:=Option.some.inj (zSL.symm.trans hf)|>.symm
 obtain rfl:fn=Tryd.f6:=(Option.some.inj (Tryd.func6.symm.trans hfn)).symm
 refine ⟨zRm,fun j t ht=> ?_⟩
 have:=List.all_eq_true.1 zSY t (by simpa using Array.mem_of_getElem? ht)
 show Tryd.prog.wantsStandIn t=false
 simpa using this
theorem proved:Rows.PredicateFoldsUptoCardSaid:=
 Claim7.holds_tied_plain_at .later [] _ _ _ _ zPG (fun _ h=>by cases h) (by kernel_rfl) (fun _ h=>by cases h) predicateFoldsUpto_row_tie rfl ⟨rfl,rfl⟩ (by kernel_rfl) rfl plain (by kernel_rfl)
end Go.Proofs.YtaidmnnejapafaaDoor.predicateFolds
