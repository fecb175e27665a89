/-
  PredicatePartition (law31) answers true and leaves its arguments as they were; header.fields holds what the program's text lays in it (the card's tie). The statement holds at every input of bulk at most 1048576.
-/
import Derived.Test.YtaidmnnejapafaaDoorCards
import Derived.Test.YtaidmnnejapafaaDoorTie
import Derived.WalkKit
import Derived.ProofKit
import Derived.OpenShut
import Derived.JoinedCond
import Derived.SevenTiedAt
import Derived.Deep.DeepHandedRow
import Derived.Lib.LaidTab
import Derived.Test.YtaidmnnejapafaaDoorXu15
import Derived.Test.YtaidmnnejapafaaDoorXu19
import Derived.Test.YtaidmnnejapafaaDoorXu20
set_option linter.unusedVariables false
namespace Go.Ve
open Go Go.Proofs Go.Bd Go.Proofs.Bw
noncomputable def zKk:ElS [.sl zD]→Option (RTy.El (.p .bool)):=zM5 jM
theorem zDG:uE uY Tryd.prog G0 3 (qJ (zAf [.sl zD] (.p .bool) zKk)):=
 zDN (by
  intro g cs hg m d hd
  match g,hg with
  |0,hg=>
   cases hg
   match m,hd with
   |0,h|1,h|2,h|3,h|4,h|5,h|6,h|7,h|8,h|9,h=>cases h;exact ⟨_,rfl⟩
   |m+10,h=>simp at h) (by kernel_rfl) (by kernel_rfl) zBy
theorem zB6 (x:ElS [.sl zD]) (hx:zKs 1048576 [.sl zD] x):zKk x=some true:=by
 obtain ⟨t,⟨⟩⟩:=x
 obtain ⟨r,h1,h2⟩:=zI9 t (by have h:t.length≤1048576:=hx.1.1;omega)
 show Option.map _ _=_
 rw [h1,Option.map_some,h2]
end Go.Ve
namespace Go.Proofs.YtaidmnnejapafaaDoor.predicatePartition
open Go.ChangeShapes Go.WideShapes Go.ChangeAt Go.RowKit
set_option linter.unusedVariables false
set_option maxRecDepth 100000
set_option maxHeartbeats 0
theorem own:ownKnob Tryd.prog.godebug=none:=by kernel_rfl
theorem laid:laidOutB Tryd.prog=true:=by kernel_rfl
theorem qO {H:Type} {d:DataW H} : ∀ {l:List (DataW H)},d∈l→Rows.uptoBulk d≤Rows.uptoBulkAll l:=by
 intro l
 induction l with
 |nil=>intro h;cases h
 |cons e l ih=>
  intro h
  simp only [Rows.uptoBulkAll]
  rcases List.mem_cons.1 h with rfl|h
  ·omega
  ·have:=ih h;omega
theorem zB4 {H:Type} (d:DataW H):1≤Rows.uptoBulk d:=by
 cases d with
 |lit l=>cases l<;>simp [Rows.uptoBulk]
 |_=>simp [Rows.uptoBulk]
theorem uX {H:Type} : ∀ (l:List (DataW H)),l.length≤Rows.uptoBulkAll l:=by
 intro l
 induction l with
 |nil=>simp
 |cons e l ih=>have:=zB4 e;simp only [Rows.uptoBulkAll,List.length_cons];omega
theorem zPo (H:Type):Ve.zOn (H:=H) Rows.uptoBulk where
 slice:=fun es sp=>⟨by have:=uX es;simp only [Rows.uptoBulk];omega,fun e he=>by have:=qO he;simp only [Rows.uptoBulk];omega⟩
 agg:=fun ps p hp=>by have:=qO hp;simp only [Rows.uptoBulk];omega
 str:=fun bs=>by simp only [Rows.uptoBulk];omega
theorem zAH:(Tryd.f3.params.toList.all fun t=>Ve.zBn Tryd.prog 12 t&&Tryd.prog.readableRec t&&decide (t<Tryd.prog.types.size))=true:=by kernel_rfl
open Go.Ve in
theorem zGf:Tryd.f3.params.toList.mapM (Ve.zEl Tryd.prog 12)=some [.sl zD]:=by kernel_rfl
theorem zGm:Tryd.f3.resultTypes= #[4]:=by kernel_rfl
theorem zD1:Tryd.prog.underlying 4=some .bool:=by kernel_rfl
theorem zBu:Tryd.f3.params.size=1:=by kernel_rfl
theorem gTab : Tryd.prog.globalNamed "netverify/header.fields" = some 0 := by kernel_rfl
theorem zBZ:(Tryd.prog.globals[0]?).map (·.type)=some 195:=by kernel_rfl
theorem zGW:Tryd.prog.underlying 195=some (.array 5 194):=by kernel_rfl
theorem zAS:Tryd.prog.cellsOf 194=2:=by kernel_rfl
theorem zAR:Tryd.prog.cellsOf 3=1:=by kernel_rfl
theorem zGE:Tryd.prog.underlying 3=some (.int .i64):=by kernel_rfl
theorem zGI: ∃fs f0 f1,Tryd.prog.underlying 194=some (.struct fs)∧fs.toList=[f0,f1]∧(f0.offset=0∧f0.type=3)∧(f1.offset=1∧f1.type=3):=by
 have h:(match Tryd.prog.underlying 194 with
  |some (.struct fs)=>(match fs.toList with
   |[a,b]=>(a.offset==0&&a.type==3)&&(b.offset==1&&b.type==3)
   |_=>false)
  |_=>false)=true:=by kernel_rfl
 split at h
 ·rename_i fs hfs
  split at h
  ·rename_i a b hab
   simp only [Bool.and_eq_true,beq_iff_eq] at h
   exact ⟨fs,a,b,hfs,hab,h.1,h.2⟩
  ·cases h
 ·cases h
abbrev zs:List (Int×Int):=[(0,32),(32,32),(64,8),(72,16),(88,16)]
theorem zAI {W:World} (h:laidMetH Tryd.prog Rows.predicatePartitionUptoRow.laid W): ∀ (m:Nat) (x:Int),Bw.fldC[m]? =some x→W.cell? ⟨0,m,none⟩=some (.int .i64 x):=by
 have h : laidMet Tryd.prog [("netverify/header.fields", Rows.laid_netverify_header_fields)] W := h
 obtain ⟨ps,⟨g,t,cs,fuel,p,q,hg,ht,hvar,hd,_,_⟩,_⟩:=h
 obtain rfl:=Option.some.inj (gTab.symm.trans hg)
 obtain rfl:=Option.some.inj (zBZ.symm.trans ht)
 obtain ⟨fs,f0,f1,he,hfs,h0,h1⟩:=zGI
 have hc:=Ve.zAt (zs:=zs) (k:= .i64) zGW he hfs h0 h1 zGE zAS zAR (p:=p) hd
 have hcell: ∀i,W.cell? ⟨0,i,none⟩=cs.toList[i]? :=fun i=>(World.var?_cell gTab hvar i).trans (by simp)
 intro m x hx
 rw [hcell]
 match m,hx with
 |0,hx=>cases hx;exact (hc 0 _ rfl).1
 |1,hx=>cases hx;exact (hc 0 _ rfl).2
 |2,hx=>cases hx;exact (hc 1 _ rfl).1
 |3,hx=>cases hx;exact (hc 1 _ rfl).2
 |4,hx=>cases hx;exact (hc 2 _ rfl).1
 |5,hx=>cases hx;exact (hc 2 _ rfl).2
 |6,hx=>cases hx;exact (hc 3 _ rfl).1
 |7,hx=>cases hx;exact (hc 3 _ rfl).2
 |8,hx=>cases hx;exact (hc 4 _ rfl).1
 |9,hx=>cases hx;exact (hc 4 _ rfl).2
 |m+10,hx=>simp [Bw.fldC] at hx
theorem zOT {W:World} (h:laidMetH Tryd.prog Rows.predicatePartitionUptoRow.laid W):Ve.zCQ Ve.G0 W (Ve.zK3 W.heap.size):=by
 have hc:=zAI h
 intro g cs hg
 match g,hg with
 |0,hg=>
  cases hg
  have hsz:0<W.heap.size:=by
   have h0:=hc 0 0 rfl
   simp only [World.cell?] at h0
   split at h0
   ·rename_i o ho
    exact (Array.getElem?_eq_some_iff.1 ho).1
   all_goals first|cases h0|skip
  refine .pp 0 0 _ (fun m=> .int .i64 (Bw.fldC.getD m 0)) hsz (fun m hm=> ?_) (fun m d hd=> ?_)
  ·rw [Nat.zero_add]
   match m,hm with
   |0,_|1,_|2,_|3,_|4,_|5,_|6,_|7,_|8,_|9,_=>exact hc _ _ rfl
   |m+10,h=>exact absurd h (by simp)
  ·match m,hd with
   |0,h|1,h|2,h|3,h|4,h|5,h|6,h|7,h|8,h|9,h=>cases h;exact Ve.Rd.val _
   |m+10,h=>simp at h
theorem zB3 (H:Type) (enc:TypeId×Value→H) (W:World) (base:Nat) (args:Array Value) (ds gs:List (DataW H)) (before:List MemPlace)
  (hk:Rows.uptoSmall H (ds++gs)=true)
  (hval: ∀ (j:Nat) t v,Tryd.f3.params[j]? =some t→args[j]? =some v→Value.okWide Tryd.prog W .any base t v)
  (hW:DataW.Whole enc Tryd.prog Tryd.f3.params.toList Rows.predicatePartitionSpec.vars false W args.toList ds gs before) (hL:laidMetH Tryd.prog Rows.predicatePartitionUptoRow.laid W):
  Calls Tryd.prog 3 args W fun e W'=> ∃v,e= .returned v∧Rows.predicatePartitionSpec.post enc Tryd.prog Tryd.f3 false true false false W args v W':=by
 have hsm:Rows.uptoBulkAll (ds++gs)≤1048576:=of_decide_eq_true hk
 refine Ve.zAY (bk:=Rows.uptoBulk) (N:=1048576) laid (zPo H) ?_ zGf rfl ?_ zGm zD1 ?_ Ve.zDG (zOT hL) hval hW ?_
 ·intro t ht
  have:=List.all_eq_true.1 zAH t ht
  simp only [Bool.and_eq_true,decide_eq_true_eq] at this
  exact ⟨this.1.1,this.1.2,this.2⟩
 ·intro ds hd
  rw [zBu] at hd
  match ds,hd with
  |[a],_=>rfl
 ·exact Ve.zB6
 ·intro d hd
  exact Nat.le_trans (qO (List.mem_append_left _ hd)) hsm
noncomputable def laidWorld (os:Os):World:=
 { World.holding Tryd.prog os ⟨#[], #[],[]⟩ with heap:=(World.holding Tryd.prog os ⟨#[], #[],[]⟩).heap.modify 0 fun
   | .cells _ t frozen=> .cells #[.int .i64 0, .int .i64 32, .int .i64 32, .int .i64 32, .int .i64 64, .int .i64 8, .int .i64 72, .int .i64 16, .int .i64 88, .int .i64 16] t frozen
   |o=>o }
theorem laid_met (os:Os):laidMet Tryd.prog Rows.predicatePartitionUptoRow.laid ((laidWorld os).forCall (fun _ _=>0) ⟨#[], #[.slice none 0 0],[]⟩).memory:=
 laidMet_of_run' 8 (by kernel_rfl) (by kernel_rfl)
theorem reads (os:Os) {H:Type} (enc:TypeId×Value→H): ∃places,DataW.whole enc Tryd.prog ((laidWorld os).forCall (fun _ _=>0) ⟨#[], #[.slice none 0 0],[]⟩).memory Tryd.f3.params.toList Rows.predicatePartitionSpec.vars false (#[.slice none 0 0]:Array Value).toList 8=some ([.nil],[],places):=
 ⟨[],by kernel_rfl⟩
theorem lifted (os:Os) (started:os.Started) (H:Type) (enc:TypeId×Value→H) (F:Stop.Interp):
  ReturnsInHanded {} Tryd.checked os 3 .any ((Rows.OpenSpec.upto Rows.predicatePartitionSpec).preRow enc Tryd.prog Tryd.f3 Rows.predicatePartitionUptoRow.domain false Rows.predicatePartitionUptoRow.laid) (((Rows.OpenSpec.upto Rows.predicatePartitionSpec).at F).post enc Tryd.prog Tryd.f3 false true false false):=by
 obtain ⟨places,hx⟩:=reads os enc
 refine returnsInHanded_of_row (C:=Tryd.checked) (s:=Rows.OpenSpec.upto Rows.predicatePartitionSpec) own started (by kernel_rfl) Tryd.func3
  (witness_row_at (enc:=enc) (C:=Tryd.checked) false (laidWorld os) #[.slice none 0 0] rfl (by kernel_rfl) (by kernel_rfl) (by kernel_rfl)
   (OpenSpec.preRow_of_cond 8 hx (by kernel_rfl) (fun k hk=>by cases hk;kernel_rfl) (by kernel_rfl) (laid_met os))) ?_
 intro W base args ds gs before hval hW _ hk _ hL _ _
 exact zB3 H enc W base args ds gs before (hk _ rfl) hval hW hL
theorem closed:joinedFacts Tryd.prog 3 Tryd.f3 (Rows.OpenSpec.upto Rows.predicatePartitionSpec).bare Rows.predicatePartitionUptoRow=true:=by
 unfold joinedFacts
 simp only [Bool.and_eq_true]
 repeat' apply And.intro
 all_goals as_aux_lemma=>kernel_rfl
theorem zBQ:Rows.PredicatePartitionUptoSaid:=
 OpenClaim.holds_of_cond 3 Tryd.f3 rfl rfl rfl rfl rfl rfl rfl ⟨rfl,rfl,rfl,rfl,rfl⟩ rfl rfl rfl rfl rfl (by as_aux_lemma=>kernel_rfl) Tryd.func3 closed
  (of_decide_eq_true (by kernel_rfl)) (by unfold Func.isWrapper;first|(rw [if_pos (by decide+kernel)];kernel_rfl)|(rw [if_neg (by decide+kernel)];exact ⟨rfl,rfl⟩))
  (fun os started H enc _ F=>by rw [OpenClaim.pre_eq_preRow];exact lifted os started H enc F)
theorem zGH : Tryd.prog.funcNamed "netverify/netverifylaw31.PredicatePartition" = some 3 := by kernel_rfl
theorem zJK:(Tryd.f3.params.toList.all fun t=> !Tryd.prog.wantsStandIn t)=true:=by kernel_rfl
theorem zDJ:false=Tryd.pinned.checked.prog.looks []:=by kernel_rfl
theorem plain (f : FuncId) (fn : Func) (hf : Tryd.pinned.checked.prog.funcNamed "netverify/netverifylaw31.PredicatePartition" = some f) (hfn : Tryd.pinned.checked.prog.funcs[f]? = some fn) :
  false=Tryd.pinned.checked.prog.looks []∧ ∀ (j:Nat) t,fn.params[j]? =some t→Tryd.pinned.checked.prog.wantsStandIn t=false:=by
 obtain rfl:f=3:=Option.some.inj (zGH.symm.trans hf)|>.symm
 obtain rfl:fn=Tryd.f3:=(Option.some.inj (Tryd.func3.symm.trans hfn)).symm
 refine ⟨zDJ,fun j t ht=> ?_⟩
 have:=List.all_eq_true.1 zJK t (by simpa using Array.mem_of_getElem? ht)
 show Tryd.prog.wantsStandIn t=false
 simpa using this
theorem proved:Rows.PredicatePartitionUptoCardSaid:=
 Claim7.holds_tied_plain_at .later [] _ _ _ _ zBQ (fun _ h=>by cases h) (by kernel_rfl) (fun _ h=>by cases h) predicatePartitionUpto_row_tie rfl ⟨rfl,rfl⟩ (by kernel_rfl) rfl plain (by kernel_rfl)
end Go.Proofs.YtaidmnnejapafaaDoor.predicatePartition
