/-
  The evaluator over pure values, part 18: append in the machine.
-/
import Derived.Test.YtggmpbaiijodiaaGreatNvVe17
namespace Go.Ve
open Go

theorem growBy_le (n : Nat) : ∀ (r c : Nat), c < n → Builtin.growBy n r c ≤ 2 * n + 1024 := by
  intro r
  induction r with
  | zero => intro c h; simp [Builtin.growBy]; omega
  | succ r ih =>
    intro c h
    simp only [Builtin.growBy]
    rw [if_neg (by omega)]
    by_cases h2 : c + (c + 768) / 4 < n
    · exact ih _ h2
    · cases r with
      | zero => simp [Builtin.growBy]; omega
      | succ r => simp only [Builtin.growBy]; rw [if_pos (by omega)]; omega

theorem nextcap_le {n c : Nat} (h : c < n) : Builtin.nextslicecap n c ≤ 2 * n + 1024 := by
  unfold Builtin.nextslicecap
  split
  · omega
  · split
    · omega
    · exact growBy_le n 4 c h

section
variable {P : Program} {w : World}

/-- An append that finds room. -/
theorem run_append_room {at0 at1 : TypeId} {ts : Array TypeId} {ty el el1 : TypeId} {size b off len cap n cap1 : Nat} {a1 : Option Addr} {cells : List Value} {c : Array Value} {et : TypeId}
    (h0 : ts[0]? = some at0) (h1 : ts[1]? = some at1) (hu0 : P.underlying at0 = some (.slice el)) (hu1 : P.underlying at1 = some (.slice el1)) (hs : size? P el = some size)
    (hsrc : (Builtin.firstCells size n (.slice a1 n cap1)).run P w = .ok cells.toArray w) (hlen : cells.length = n * size)
    (hb : w.heap[b]? = some (.cells c et (0, 0))) (hfit : off + len * size + n * size ≤ c.size) (hone : ∀ v, v ∈ cells → v.oneCell' = true) (hroom : len + n ≤ cap) :
    (Builtin.append_ ts ty #[.slice (some ⟨b, off, none⟩) len cap, .slice a1 n cap1]).run P w =
      .ok (.slice (some ⟨b, off, none⟩) (len + n) cap) (setBlk w b (.cells (spliceA c (off + len * size) cells) et (0, 0))) := by
  have hst := run_storeCells (P := P) (b := b) (off := off + len * size) (et := et) cells 0 w c hb (by omega) hone
  have hw : (if cells = [] then w else setBlk w b (.cells (spliceA c (off + len * size + 0) cells) et (0, 0))) = setBlk w b (.cells (spliceA c (off + len * size) cells) et (0, 0)) := by
    split
    · rename_i hnil; rw [hnil]; exact (setBlk_self hb).symm
    · simp
  rw [hw] at hst
  simp only [Builtin.append_]
  simp [h0, h1, run_underlying? hu0, run_underlying? hu1, run_sizeOf hs, Builtin.lenOf, hroom, hsrc, add_eq, hst]

/-- An append that must grow. -/
theorem run_append_grow {at0 at1 : TypeId} {ts : Array TypeId} {ty el el1 : TypeId} {info : TypeInfo} {z : Value} {len cap n cap1 : Nat} {a0 a1 : Option Addr} {cells old : List Value}
    (h0 : ts[0]? = some at0) (h1 : ts[1]? = some at1) (hu0 : P.underlying at0 = some (.slice el)) (hu1 : P.underlying at1 = some (.slice el1)) (hi : P.info? el = some info) (hz : info.zero = some z)
    (hsrc : (Builtin.firstCells info.size n (.slice a1 n cap1)).run P w.drew = .ok cells.toArray w.drew)
    (hold : (Builtin.firstCells info.size len (.slice a0 len cap)).run P w.drew = .ok old.toArray w.drew)
    (hno : ¬ len + n ≤ cap) (hbytes : 1 ≤ info.bytes) (hbound : (2 * (len + n) + 1024) * info.bytes ≤ 140737488355328) :
    ∃ newCap : Nat, len + n ≤ newCap ∧ (Builtin.append_ ts ty #[.slice a0 len cap, .slice a1 n cap1]).run P w =
      .ok (.slice (some ⟨w.heap.size, 0, none⟩) (len + n) newCap) (w.drew.alloc (.cells (old.toArray ++ (cells.toArray ++ Builtin.zeroCells z.cells (newCap - (len + n)))) el)) := by
  have hs : size? P el = some info.size := size_of_info hi
  have hnc : Builtin.nextslicecap (len + n) cap * info.bytes ≤ 281474976710656 := by
    have := nextcap_le (n := len + n) (c := cap) (by omega)
    have := Nat.mul_le_mul_right info.bytes this
    omega
  refine ⟨(Question.appendCap (len + n) cap el).cut (w.tape w.drawn (.appendCap (len + n) cap el)), by simp [Question.cut], ?_⟩
  have hzv : (zeroValue el).run P w.drew = .ok z w.drew := by simp [zeroValue, run_typeInfo hi, hz]
  simp only [Builtin.append_]
  simp [h0, h1, run_underlying? hu0, run_underlying? hu1, run_sizeOf hs, Builtin.lenOf, hno, run_typeInfo hi, show ¬ info.bytes = 0 by omega, show ¬ 281474976710656 < Builtin.nextslicecap (len + n) cap * info.bytes by omega,
    Question.forced, hsrc, hold, hzv, newRow]

end
end Go.Ve
