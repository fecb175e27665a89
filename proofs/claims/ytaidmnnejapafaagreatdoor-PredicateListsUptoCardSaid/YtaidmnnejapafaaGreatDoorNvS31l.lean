/-
  PredicateLists (law31) answers true and leaves its arguments as they were; header.fields holds what the program's text lays in it (the card's tie). The statement holds at every input of bulk at most 1048576.
-/
import Derived.Test.YtaidmnnejapafaaGreatDoorCards
import Derived.Test.YtaidmnnejapafaaGreatDoorTie
import Derived.WalkKit
import Derived.ProofKit
import Derived.OpenShut
import Derived.JoinedCond
import Derived.SevenTiedAt
import Derived.Deep.DeepHandedRow
import Derived.Lib.LaidTab
import Derived.Test.YtaidmnnejapafaaGreatDoorl15
import Derived.Test.YtaidmnnejapafaaGreatDoorl26
set_option linter.unusedVariables false
namespace Go.Ve
open Go Go.Proofs Go.Bd Go.Proofs.Bw
theorem zUg {r:Ty.El zD} (h:zD.fits 1048576 r):SmL r:=by
 obtain ⟨_,_,f3,f4,f5,f6,f7,f8,⟨_,_,g1,g2,_⟩,⟨_,_,_,_,g3,_⟩,⟨_,_,_,g4,g5,g6,g7,g8,_⟩,_⟩:=h
 exact ⟨f3.1,f4.1,f5.1,f6.1,f7.1,f8.1,g1.1,g2.1,g3.1,g4.1,g5.1,g6.1,g7.1,g8.1,fun y hy=>(f4.2 y hy).2.1.1,fun y hy=>(f5.2 y hy).2.1.1,fun y hy=>(f6.2 y hy).2.1.1⟩
noncomputable def zUk:ElS [zD, .str,tI,qM]→Option (RTy.El (.p .bool)):=zTi j9
theorem zSv:kP zAl Tryz.prog G0 3 (z8 (zAQ [zD, .str,tI,qM] (.p .bool) zUk)):=
 zNW (by
  intro g cs hg m d hd
  match g,hg with
  |0,hg=>
   cases hg
   match m,hd with
   |0,h|1,h|2,h|3,h|4,h|5,h|6,h|7,h|8,h|9,h=>cases h;exact ⟨_,rfl⟩
   |m+10,h=>simp at h) (by kernel_rfl) (by kernel_rfl) zCt
theorem zR2 (x:ElS [zD, .str,tI,qM]) (hx:zO3 1048576 [zD, .str,tI,qM] x):zUk x=some true:=by
 obtain ⟨r,nm,w,p,⟨⟩⟩:=x
 obtain ⟨q,h1,h2⟩:=zMB r nm w p (zUg hx.1)
 show Option.map _ _=_
 rw [h1,Option.map_some,h2]
end Go.Ve
namespace Go.Proofs.YtaidmnnejapafaaGreatDoor.predicateLists
open Go.ChangeShapes Go.WideShapes Go.ChangeAt Go.RowKit
set_option linter.unusedVariables false
set_option maxRecDepth 100000
set_option maxHeartbeats 0
theorem own:ownKnob Tryz.prog.godebug=none:=by kernel_rfl
theorem laid:laidOutB Tryz.prog=true:=by kernel_rfl
theorem zEl {H:Type} {d:DataW H} : ∀ {l:List (DataW H)},d∈l→Rows.uptoBulk d≤Rows.uptoBulkAll l:=by
 intro l
 induction l with
 |nil=>intro h;cases h
 |cons e l ih=>
  intro h
  simp only [Rows.uptoBulkAll]
  rcases List.mem_cons.1 h with rfl|h
  ·omega
  ·have:=ih h;omega
theorem zRX {H:Type} (d:DataW H):1≤Rows.uptoBulk d:=by
 cases d with
 |lit l=>cases l<;>simp [Rows.uptoBulk]
 |_=>simp [Rows.uptoBulk]
theorem zMZ {H:Type} : ∀ (l:List (DataW H)),l.length≤Rows.uptoBulkAll l:=by
 intro l
 induction l with
 |nil=>simp
 |cons e l ih=>have:=zRX e;simp only [Rows.uptoBulkAll,List.length_cons];omega
theorem zUG (H:Type):Ve.zSc (H:=H) Rows.uptoBulk where
 slice:=fun es sp=>⟨by have:=zMZ es;simp only [Rows.uptoBulk];omega,fun e he=>by have:=zEl he;simp only [Rows.uptoBulk];omega⟩
 agg:=fun ps p hp=>by have:=zEl hp;simp only [Rows.uptoBulk];omega
 str:=fun bs=>by simp only [Rows.uptoBulk];omega
theorem zPB:(Tryz.f3.params.toList.all fun t=>Ve.zCg Tryz.prog 12 t&&Tryz.prog.readableRec t&&decide (t<Tryz.prog.types.size))=true:=by kernel_rfl
open Go.Ve in
theorem zTz:Tryz.f3.params.toList.mapM (Ve.zFi Tryz.prog 12)=some [zD, .str,tI,qM]:=by kernel_rfl
theorem zTC:Tryz.f3.resultTypes= #[4]:=by kernel_rfl
theorem zS3:Tryz.prog.underlying 4=some .bool:=by kernel_rfl
theorem zK4:Tryz.f3.params.size=4:=by kernel_rfl
theorem gTab : Tryz.prog.globalNamed "netverify/header.fields" = some 0 := by kernel_rfl
theorem zRu:(Tryz.prog.globals[0]?).map (·.type)=some 184:=by kernel_rfl
theorem zT8:Tryz.prog.underlying 184=some (.array 5 183):=by kernel_rfl
theorem zQa:Tryz.prog.cellsOf 183=2:=by kernel_rfl
theorem zP9:Tryz.prog.cellsOf 3=1:=by kernel_rfl
theorem zTV:Tryz.prog.underlying 3=some (.int .i64):=by kernel_rfl
theorem zT2: ∃fs f0 f1,Tryz.prog.underlying 183=some (.struct fs)∧fs.toList=[f0,f1]∧(f0.offset=0∧f0.type=3)∧(f1.offset=1∧f1.type=3):=by
 have h:(match Tryz.prog.underlying 183 with
  |some (.struct fs)=>(match fs.toList with
   |[a,b]=>(a.offset==0&&a.type==3)&&(b.offset==1&&b.type==3)
   |_=>false)
  |_=>false)=true:=by kernel_rfl
 split at h
 ·rename_i fs hfs
  split at h
  ·rename_i a b hab
   simp only [Bool.and_eq_true,beq_iff_eq] at h
   exact ⟨fs,a,b,hfs,hab,h.1,h.2⟩
  ·cases h
 ·cases h
abbrev zs:List (Int×Int):=[(0,32),(32,32),(64,8),(72,16),(88,16)]
theorem zPG {W:World} (h:laidMetH Tryz.prog Rows.predicateListsUptoRow.laid W): ∀ (m:Nat) (x:Int),Bw.fldC[m]? =some x→W.cell? ⟨0,m,none⟩=some (.int .i64 x):=by
 have h : laidMet Tryz.prog [("netverify/header.fields", Rows.laid_netverify_header_fields)] W := h
 obtain ⟨ps,⟨g,t,cs,fuel,p,q,hg,ht,hvar,hd,_,_⟩,_⟩:=h
 obtain rfl:=Option.some.inj (gTab.symm.trans hg)
 obtain rfl:=Option.some.inj (zRu.symm.trans ht)
 obtain ⟨fs,f0,f1,he,hfs,h0,h1⟩:=zT2
 have hc:=Ve.zJH (zs:=zs) (k:= .i64) zT8 he hfs h0 h1 zTV zQa zP9 (p:=p) hd
 have hcell: ∀i,W.cell? ⟨0,i,none⟩=cs.toList[i]? :=fun i=>(World.var?_cell gTab hvar i).trans (by simp)
 intro m x hx
 rw [hcell]
 match m,hx with
 |0,hx=>cases hx;exact (hc 0 _ rfl).1
 |1,hx=>cases hx;exact (hc 0 _ rfl).2
 |2,hx=>cases hx;exact (hc 1 _ rfl).1
 |3,hx=>cases hx;exact (hc 1 _ rfl).2
 |4,hx=>cases hx;exact (hc 2 _ rfl).1
 |5,hx=>cases hx;exact (hc 2 _ rfl).2
 |6,hx=>cases hx;exact (hc 3 _ rfl).1
 |7,hx=>cases hx;exact (hc 3 _ rfl).2
 |8,hx=>cases hx;exact (hc 4 _ rfl).1
 |9,hx=>cases hx;exact (hc 4 _ rfl).2
 |m+10,hx=>simp [Bw.fldC] at hx
theorem zUE {W:World} (h:laidMetH Tryz.prog Rows.predicateListsUptoRow.laid W):Ve.zBH Ve.G0 W (Ve.zNJ W.heap.size):=by
 have hc:=zPG h
 intro g cs hg
 match g,hg with
 |0,hg=>
  cases hg
  have hsz:0<W.heap.size:=by
   have h0:=hc 0 0 rfl
   simp only [World.cell?] at h0
   split at h0
   ·rename_i o ho
    exact (Array.getElem?_eq_some_iff.1 ho).1
   all_goals first|cases h0|skip
  refine .pp 0 0 _ (fun m=> .int .i64 (Bw.fldC.getD m 0)) hsz (fun m hm=> ?_) (fun m d hd=> ?_)
  ·rw [Nat.zero_add]
   match m,hm with
   |0,_|1,_|2,_|3,_|4,_|5,_|6,_|7,_|8,_|9,_=>exact hc _ _ rfl
   |m+10,h=>exact absurd h (by simp)
  ·match m,hd with
   |0,h|1,h|2,h|3,h|4,h|5,h|6,h|7,h|8,h|9,h=>cases h;exact Ve.Rd.val _
   |m+10,h=>simp at h
theorem zRT (H:Type) (enc:TypeId×Value→H) (W:World) (base:Nat) (args:Array Value) (ds gs:List (DataW H)) (before:List MemPlace)
  (hk:Rows.uptoSmall H (ds++gs)=true)
  (hval: ∀ (j:Nat) t v,Tryz.f3.params[j]? =some t→args[j]? =some v→Value.okWide Tryz.prog W .any base t v)
  (hW:DataW.Whole enc Tryz.prog Tryz.f3.params.toList Rows.predicateListsSpec.vars false W args.toList ds gs before) (hL:laidMetH Tryz.prog Rows.predicateListsUptoRow.laid W):
  Calls Tryz.prog 3 args W fun e W'=> ∃v,e= .returned v∧Rows.predicateListsSpec.post enc Tryz.prog Tryz.f3 false true false false W args v W':=by
 have hsm:Rows.uptoBulkAll (ds++gs)≤1048576:=of_decide_eq_true hk
 refine Ve.zJ6 (bk:=Rows.uptoBulk) (N:=1048576) laid (zUG H) ?_ zTz rfl ?_ zTC zS3 ?_ Ve.zSv (zUE hL) hval hW ?_
 ·intro t ht
  have:=List.all_eq_true.1 zPB t ht
  simp only [Bool.and_eq_true,decide_eq_true_eq] at this
  exact ⟨this.1.1,this.1.2,this.2⟩
 ·intro ds hd
  rw [zK4] at hd
  match ds,hd with
  |[a,b,c,d],_=>rfl
 ·exact Ve.zR2
 ·intro d hd
  exact Nat.le_trans (zEl (List.mem_append_left _ hd)) hsm
noncomputable def laidWorld (os:Os):World:=
 { World.holding Tryz.prog os ⟨#[], #[],[]⟩ with heap:=(World.holding Tryz.prog os ⟨#[], #[],[]⟩).heap.modify 0 fun
   | .cells _ t frozen=> .cells #[.int .i64 0, .int .i64 32, .int .i64 32, .int .i64 32, .int .i64 64, .int .i64 8, .int .i64 72, .int .i64 16, .int .i64 88, .int .i64 16] t frozen
   |o=>o }
theorem laid_met (os:Os):laidMet Tryz.prog Rows.predicateListsUptoRow.laid ((laidWorld os).forCall (fun _ _=>0) ⟨#[], #[.agg #[.string ⟨#[]⟩, .int .i64 0, .slice none 0 0, .slice none 0 0, .slice none 0 0, .slice none 0 0, .slice none 0 0, .slice none 0 0, .bool false, .int .i64 0, .slice none 0 0, .slice none 0 0, .bool false, .int .i64 0, .string ⟨#[]⟩, .string ⟨#[]⟩, .slice none 0 0, .bool false, .int .i64 0, .int .i64 0, .slice none 0 0, .slice none 0 0, .slice none 0 0, .slice none 0 0, .slice none 0 0], .string ⟨#[]⟩, .int .i64 0, .agg #[.int .u32 0, .int .u32 0, .int .i64 0, .int .i64 0, .int .i64 0]],[]⟩).memory:=
 laidMet_of_run' 8 (by kernel_rfl) (by kernel_rfl)
theorem reads (os:Os) {H:Type} (enc:TypeId×Value→H): ∃places,DataW.whole enc Tryz.prog ((laidWorld os).forCall (fun _ _=>0) ⟨#[], #[.agg #[.string ⟨#[]⟩, .int .i64 0, .slice none 0 0, .slice none 0 0, .slice none 0 0, .slice none 0 0, .slice none 0 0, .slice none 0 0, .bool false, .int .i64 0, .slice none 0 0, .slice none 0 0, .bool false, .int .i64 0, .string ⟨#[]⟩, .string ⟨#[]⟩, .slice none 0 0, .bool false, .int .i64 0, .int .i64 0, .slice none 0 0, .slice none 0 0, .slice none 0 0, .slice none 0 0, .slice none 0 0], .string ⟨#[]⟩, .int .i64 0, .agg #[.int .u32 0, .int .u32 0, .int .i64 0, .int .i64 0, .int .i64 0]],[]⟩).memory Tryz.f3.params.toList Rows.predicateListsSpec.vars false (#[.agg #[.string ⟨#[]⟩, .int .i64 0, .slice none 0 0, .slice none 0 0, .slice none 0 0, .slice none 0 0, .slice none 0 0, .slice none 0 0, .bool false, .int .i64 0, .slice none 0 0, .slice none 0 0, .bool false, .int .i64 0, .string ⟨#[]⟩, .string ⟨#[]⟩, .slice none 0 0, .bool false, .int .i64 0, .int .i64 0, .slice none 0 0, .slice none 0 0, .slice none 0 0, .slice none 0 0, .slice none 0 0], .string ⟨#[]⟩, .int .i64 0, .agg #[.int .u32 0, .int .u32 0, .int .i64 0, .int .i64 0, .int .i64 0]]:Array Value).toList 8=some ([.agg [.lit (.string []), .lit (.int .i64 0), .nil, .nil, .nil, .nil, .nil, .nil, .agg [.lit (.bool false), .lit (.int .i64 0), .nil, .nil], .agg [.lit (.bool false), .lit (.int .i64 0), .lit (.string []), .lit (.string []), .nil], .agg [.lit (.bool false), .lit (.int .i64 0), .lit (.int .i64 0), .nil, .nil, .nil, .nil, .nil]], .lit (.string []), .lit (.int .i64 0), .agg [.lit (.int .u32 0), .lit (.int .u32 0), .lit (.int .i64 0), .lit (.int .i64 0), .lit (.int .i64 0)]],[],places):=
 ⟨[],by kernel_rfl⟩
theorem lifted (os:Os) (started:os.Started) (H:Type) (enc:TypeId×Value→H) (F:Stop.Interp):
  ReturnsInHanded {} Tryz.checked os 3 .any ((Rows.OpenSpec.upto Rows.predicateListsSpec).preRow enc Tryz.prog Tryz.f3 Rows.predicateListsUptoRow.domain false Rows.predicateListsUptoRow.laid) (((Rows.OpenSpec.upto Rows.predicateListsSpec).at F).post enc Tryz.prog Tryz.f3 false true false false):=by
 obtain ⟨places,hx⟩:=reads os enc
 refine returnsInHanded_of_row (C:=Tryz.checked) (s:=Rows.OpenSpec.upto Rows.predicateListsSpec) own started (by kernel_rfl) Tryz.func3
  (witness_row_at (enc:=enc) (C:=Tryz.checked) false (laidWorld os) #[.agg #[.string ⟨#[]⟩, .int .i64 0, .slice none 0 0, .slice none 0 0, .slice none 0 0, .slice none 0 0, .slice none 0 0, .slice none 0 0, .bool false, .int .i64 0, .slice none 0 0, .slice none 0 0, .bool false, .int .i64 0, .string ⟨#[]⟩, .string ⟨#[]⟩, .slice none 0 0, .bool false, .int .i64 0, .int .i64 0, .slice none 0 0, .slice none 0 0, .slice none 0 0, .slice none 0 0, .slice none 0 0], .string ⟨#[]⟩, .int .i64 0, .agg #[.int .u32 0, .int .u32 0, .int .i64 0, .int .i64 0, .int .i64 0]] rfl (by kernel_rfl) (by kernel_rfl) (by kernel_rfl)
   (OpenSpec.preRow_of_cond 8 hx (by kernel_rfl) (fun k hk=>by cases hk;kernel_rfl) (by kernel_rfl) (laid_met os))) ?_
 intro W base args ds gs before hval hW _ hk _ hL _ _
 exact zRT H enc W base args ds gs before (hk _ rfl) hval hW hL
theorem closed:joinedFacts Tryz.prog 3 Tryz.f3 (Rows.OpenSpec.upto Rows.predicateListsSpec).bare Rows.predicateListsUptoRow=true:=by
 unfold joinedFacts
 simp only [Bool.and_eq_true]
 repeat' apply And.intro
 all_goals as_aux_lemma=>kernel_rfl
theorem zQP:Rows.PredicateListsUptoSaid:=
 OpenClaim.holds_of_cond 3 Tryz.f3 rfl rfl rfl rfl rfl rfl rfl ⟨rfl,rfl,rfl,rfl,rfl⟩ rfl rfl rfl rfl rfl (by as_aux_lemma=>kernel_rfl) Tryz.func3 closed
  (of_decide_eq_true (by kernel_rfl)) (by unfold Func.isWrapper;first|(rw [if_pos (by decide+kernel)];kernel_rfl)|(rw [if_neg (by decide+kernel)];exact ⟨rfl,rfl⟩))
  (fun os started H enc _ F=>by rw [OpenClaim.pre_eq_preRow];exact lifted os started H enc F)
theorem zTZ : Tryz.prog.funcNamed "netverify/netverifylaw31.PredicateLists" = some 3 := by kernel_rfl
theorem zUe:(Tryz.f3.params.toList.all fun t=> !Tryz.prog.wantsStandIn t)=true:=by kernel_rfl
theorem zSy:false=Tryz.pinned.checked.prog.looks []:=by kernel_rfl
theorem plain (f : FuncId) (fn : Func) (hf : Tryz.pinned.checked.prog.funcNamed "netverify/netverifylaw31.PredicateLists" = some f) (hfn : Tryz.pinned.checked.prog.funcs[f]? = some fn) :
  false=Tryz.pinned.checked.prog.looks []∧ ∀ (j:Nat) t,fn.params[j]? =some t→Tryz.pinned.checked.prog.wantsStandIn t=false:=by
 obtain rfl:f=3:=Option.some.inj (zTZ.symm.trans hf)|>.symm
 obtain rfl:fn=Tryz.f3:=(Option.some.inj (Tryz.func3.symm.trans hfn)).symm
 refine ⟨zSy,fun j t ht=> ?_⟩
 have:=List.all_eq_true.1 zUe t (by simpa using Array.mem_of_getElem? ht)
 show Tryz.prog.wantsStandIn t=false
 simpa using this
theorem proved:Rows.PredicateListsUptoCardSaid:=
 Claim7.holds_tied_plain_at .later [] _ _ _ _ zQP (fun _ h=>by cases h) (by kernel_rfl) (fun _ h=>by cases h) predicateListsUpto_row_tie rfl ⟨rfl,rfl⟩ (by kernel_rfl) rfl plain (by kernel_rfl)
end Go.Proofs.YtaidmnnejapafaaGreatDoor.predicateLists
