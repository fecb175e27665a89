/-
  law31: the package bdd, part B.
-/
import Derived.Test.YtaidmnnejapafaaGreatDoorl12
import Derived.Test.YtaidmnnejapafaaGreatDoorl13
set_option linter.unusedVariables false
namespace Go.Proofs.Bw
open Go Go.Proofs Go.RowKit Go.Bd
set_option maxRecDepth 100000
theorem zTP:zHM Tryz.prog 96 145 where
 und:=⟨55,by kernel_rfl,fun w=>by kernel_rfl⟩
 st:=by kernel_rfl
 eq:=fun k k'=>by kernel_rfl
 chk:=fun e k w=>by cases e<;>kernel_rfl
theorem zTR:zHM Tryz.prog 97 175 where
 und:=⟨55,by kernel_rfl,fun w=>by kernel_rfl⟩
 st:=by kernel_rfl
 eq:=fun k k'=>by kernel_rfl
 chk:=fun e k w=>by cases e<;>kernel_rfl
theorem zPC (m:Value) (v:Int) (lo:Nat) (w:World):
  Calls Tryz.prog 98 #[m, .int .i64 v, .int .i64 lo, .int .i64 lo] w fun e w'=>e= .returned (.int .i64 lo)∧w=w':=by
 go_enter Tryz.func98,Tryz.ntmps98
 go_wp2
 go_ret
 exact ⟨rfl,rfl⟩
theorem alloc_at {w:World} {o:Obj} {q i:Nat} (h:i<w.heap.size):((w.alloc o).drewN q).heap[i]? =w.heap[i]? :=by
 show (w.heap.push o)[i]? =_
 rw [Array.getElem?_push,if_neg (Nat.ne_of_lt h)]
theorem zRe (b bu ck v lo hi r:Nat) (l:List (Key×Nat)) (w:World) (h5:w.cell? ⟨b,5,none⟩=some (.map (some bu))) (hb:b<w.heap.size) (hu:Hid (bu<w.heap.size)) (hm:Hid (w.heap[bu]? =some (.map (wA 0 l).toArray ck)))
  (hne:((lo:Int)==hi)=false) (hl:Hid (Bd.look (v,lo,hi) l=some r)):
  Calls Tryz.prog 98 #[.pointer (some ⟨b,0,none⟩), .int .i64 v, .int .i64 lo, .int .i64 hi] w fun e w'=>e= .returned (.int .i64 r)∧ ∃q,w'=(w.alloc (.cells #[.int .i64 v, .int .i64 lo, .int .i64 hi] 145)).drewN q:=by
 have hlk: ∀q,Sem.run Tryz.prog (Instr.lookup 96 (.map (some bu)) (.agg #[.int .i64 v, .int .i64 lo, .int .i64 hi]) true) ((w.alloc (.cells #[.int .i64 v, .int .i64 lo, .int .i64 hi] 145)).drewN q)=
   .ok (.tuple #[.int .i64 r, .bool true]) ((w.alloc (.cells #[.int .i64 v, .int .i64 lo, .int .i64 hi] 145)).drewN q):=fun q=>by
  have:=zTP.lookup (v,lo,hi) (w:=(w.alloc (.cells #[.int .i64 v, .int .i64 lo, .int .i64 hi] 145)).drewN q) (b:=bu) (ck:=ck) (l:=l) (by rw [alloc_at hu.out];exact hm.out)
  rw [hl.out] at this
  exact this
 go_enter Tryz.func98,Tryz.ntmps98
 go_wp2
 go_quiet (fail)
 go_wp2
 go_ret
 exact ⟨rfl,_,rfl⟩
end Go.Proofs.Bw
