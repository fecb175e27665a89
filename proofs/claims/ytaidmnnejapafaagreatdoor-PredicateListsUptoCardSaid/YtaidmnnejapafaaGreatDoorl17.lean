/-
  law31: the package bdd, part A.
-/
import Derived.RangeFuncBox
import Derived.RangeFuncCalls
import Derived.RangeFuncLeaves
import Derived.Shelf.Abstract
import Derived.WalkKit
import Derived.OwnWalkIn
import Derived.TacticsInMore
import Derived.LoopNIn
import Derived.LoopIn
import Derived.Test.YtaidmnnejapafaaGreatDoorProg
set_option linter.unusedVariables false
namespace Go.Proofs.Bw
open Go Go.Proofs Go.RowKit Go.Shelf
attribute [local go_sem] Oper.semAt_some
abbrev zAW (r:Nat→Value):Value:= .agg #[r 0,r 1,r 2,r 3,r 4,r 5,r 6,r 7,r 8,r 9]
set_option maxRecDepth 100000 in
set_option maxHeartbeats 2000000 in
theorem zS4 (F:Fence) (n:Nat) (hF:F.fn 71) (hro:F.round=none) (hn:1≤n) (l Bs b off len cap:Nat) (rv:Nat→Nat→Value) (hlen:len≤1048576) (J:Nat→World→Prop)
  (hmem: ∀k W,J k W→W.cell? ⟨Bs,0,none⟩=some (.slice (some ⟨b,off,none⟩) len cap)∧ ∀j,j<len→ ∀i,i<10→W.cell? ⟨b,off+j*10+i,none⟩=some (rv j i))
  (hY: ∀k W,k<len→J k W→YieldAt F (n-1) Tryz.prog l #[.int .i64 ((len-1-k:Nat):Int),zAW (rv (len-1-k))] W fun e W'=>e= .returned (.bool true)∧J (k+1) W')
  (W:World) (h0:J 0 W):
  CallsIn F n Tryz.prog 71 #[.func (.yield l) #[] #[], .pointer (some ⟨Bs,0,none⟩)] W fun e W'=>(∃v,e= .returned v)∧J len W':=by
 have hBs:=(hmem 0 W h0).1
 refine callsIn_of_wp Tryz.func71 rfl hF ?_ hro
 simp only [Tryz.ntmps71,List.size_toArray,List.length_cons,List.length_nil,Nat.reduceAdd,Nat.reduceSub,Array.replicate_succ,Array.replicate_zero,List.push_toArray,List.append_toArray,List.nil_append,List.cons_append]
 gi_wp2
 gi_loopw [3] (fun i wr=> ∃k:Nat,k≤len∧i= .int .i64 ((len:Int) -1- (k:Int))∧J k wr) (fun i _=>(intOf i+1).toNat)
 case atStart=>
  refine ⟨0,Nat.zero_le _,?_,h0⟩
  congr 1;omega
 case round=>
  obtain ⟨k,hk,rfl,hJ⟩:=hrel
  by_cases hlt:k<len
  ·obtain ⟨fn,tmps,assign,body,hy,hR⟩:=hY k wr hlt hJ
   obtain ⟨hb2,hc⟩:=hmem k wr hJ
   have e1:(len:Int) -1- (k:Int)=((len-1-k:Nat):Int):=by omega
   rw [e1]
   have hj:len-1-k<len:=by omega
   generalize len-1-k=j at*
   have c0:=hc j hj 0 (by omega)
   have c1:=hc j hj 1 (by omega)
   have c2:=hc j hj 2 (by omega)
   have c3:=hc j hj 3 (by omega)
   have c4:=hc j hj 4 (by omega)
   have c5:=hc j hj 5 (by omega)
   have c6:=hc j hj 6 (by omega)
   have c7:=hc j hj 7 (by omega)
   have c8:=hc j hj 8 (by omega)
   have c9:=hc j hj 9 (by omega)
   rw [Nat.add_zero] at c0
   clear hc
   gi_wp2
   refine hR.mono ?_
   rintro e W3 ⟨rfl,hJ3⟩
   gi_wp2
   go_roundw
   case rel=>exact ⟨k+1,by omega,by simp only [Value.int.injEq,true_and];omega,hJ3⟩
   case measure=>simp [intOf]
  ·obtain rfl:k=len:=by omega
   gi_wp2
   go_end0
   exact ⟨⟨_,rfl⟩,hJ⟩
set_option maxRecDepth 100000 in
set_option maxHeartbeats 1000000 in
theorem zM5 (F:Fence) (n:Nat) (hF:F.fn 71) (hro:F.round=none) (l Bs cap:Nat) (a:Option Addr) (J:World→Prop) (W:World) (hBs:W.cell? ⟨Bs,0,none⟩=some (.slice a 0 cap)) (h0:J W):
  CallsIn F n Tryz.prog 71 #[.func (.yield l) #[] #[], .pointer (some ⟨Bs,0,none⟩)] W fun e W'=>(∃v,e= .returned v)∧J W':=by
 refine callsIn_of_wp Tryz.func71 rfl hF ?_ hro
 simp only [Tryz.ntmps71,List.size_toArray,List.length_cons,List.length_nil,Nat.reduceAdd,Nat.reduceSub,Array.replicate_succ,Array.replicate_zero,List.push_toArray,List.append_toArray,List.nil_append,List.cons_append]
 gi_wp2
 gi_loopw [3] (fun i wr=>i= .int .i64 (-1)∧J wr) (fun _ _=>0)
 case atStart=>exact ⟨rfl,h0⟩
 case round=>
  obtain ⟨rfl,hJ⟩:=hrel
  gi_wp2
  go_end0
  exact ⟨⟨_,rfl⟩,hJ⟩
set_option maxHeartbeats 1000000 in
theorem zM4 (F:Fence) (n:Nat) (hF:F.fn 36) (hro:F.round=none) (a:Option Addr) (len cap:Nat) (w:World):
  CallsIn F n Tryz.prog 36 #[.slice a len cap] w fun e w'=>e= .returned (.func (.func 71) #[] #[.pointer (some ⟨w.heap.size,0,none⟩)])∧w'=w.alloc (.cells #[.slice a len cap] 50):=by
 refine callsIn_of_wp Tryz.func36 rfl hF ?_ hro
 simp only [Tryz.ntmps36,List.size_toArray,List.length_cons,List.length_nil,Nat.reduceAdd,Nat.reduceSub,Array.replicate_succ,Array.replicate_zero,List.push_toArray,List.append_toArray,List.nil_append,List.cons_append]
 gi_wp2
 go_ret
 exact ⟨rfl,rfl⟩
end Go.Proofs.Bw
