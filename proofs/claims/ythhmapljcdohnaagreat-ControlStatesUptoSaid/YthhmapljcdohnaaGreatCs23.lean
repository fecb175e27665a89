/-
  law21, law23: linkstate.Routes at the sanity checks' network: no area, no route.
-/
import Derived.Tactics
import Derived.Tactics2
import Derived.WalkSpells
import Derived.StillTactics
import Derived.OwnWalk
import Derived.Laws.Pointers
import Derived.Deep.RegionHeld3
import Derived.Deep.RegionLaw
import Derived.Deep.AppendLies
import Derived.KernelRfl
import Derived.RegionTactic
import Derived.Lib.Hide
import Derived.Laws.CopyOwn
import Derived.Outline
import Derived.Test.YthhmapljcdohnaaGreatCs19
set_option linter.unusedVariables false
set_option linter.unusedSimpArgs false
namespace Go.Ve
open Go Go.Proofs Go.Shelf Go.RowKit
set_option maxRecDepth 1000000
set_option maxHeartbeats 400000

theorem area21 {w : World} {B : Nat} (num : Int) (c5 : w.cell? ⟨B, 5, none⟩ = some (.slice none 0 0)) :
    Calls Tryz.prog 227 #[.pointer (some ⟨B, 0, none⟩), .int .i64 num] w fun e w' => e = .returned (.pointer none) ∧ w' = w := by
  go_enter Tryz.func227, Tryz.ntmps227
  go_wp2_with fail
  go_loopg [12] 1 (fun g s12 wx => s12 = .int .i64 0 ∧ wx = w)
  case atStart => exact ⟨rfl, rfl⟩
  case round =>
    obtain ⟨rfl, rfl⟩ := hrel
    go_wp2_with fail
    go_ret
    exact ⟨rfl, rfl⟩

theorem in21 {w : World} {B : Nat} (r num : Int) (c5 : w.cell? ⟨B, 5, none⟩ = some (.slice none 0 0)) :
    Calls Tryz.prog 317 #[.pointer (some ⟨B, 0, none⟩), .int .i64 r, .int .i64 num] w fun e w' => e = .returned (.bool false) ∧ w' = w := by
  go_enter Tryz.func317, Tryz.ntmps317
  go_wp2_with (go_at_call 227; refine (area21 num c5).mono ?_; rintro e W ⟨rfl, rfl⟩)
  go_ret
  exact ⟨rfl, rfl⟩

theorem border21 {w : World} {B : Nat} (r : Int) (c5 : w.cell? ⟨B, 5, none⟩ = some (.slice none 0 0)) :
    Calls Tryz.prog 281 #[.pointer (some ⟨B, 0, none⟩), .int .i64 r] w fun e w' => e = .returned (.bool false) ∧ w' = w := by
  go_enter Tryz.func281, Tryz.ntmps281
  go_wp2_with (go_at_call 317; refine (in21 r 0 c5).mono ?_; rintro e W ⟨rfl, rfl⟩)
  go_ret
  exact ⟨rfl, rfl⟩

theorem intra21 {w : World} {B : Nat} (r : Int) (c5 : w.cell? ⟨B, 5, none⟩ = some (.slice none 0 0)) :
    Calls Tryz.prog 232 #[.pointer (some ⟨B, 0, none⟩), .int .i64 r] w fun e w' => e = .returned (.slice none 0 0) ∧ w' = w := by
  go_enter Tryz.func232, Tryz.ntmps232
  go_wp2_with fail
  go_loopg [5, 19] 1 (fun g s5 s19 wx => s5 = .slice none 0 0 ∧ s19 = .int .i64 0 ∧ wx = w)
  case atStart => exact ⟨rfl, rfl, rfl⟩
  case round =>
    obtain ⟨rfl, rfl, rfl⟩ := hrel
    go_wp2_with fail
    go_ret
    exact ⟨rfl, rfl⟩

theorem discards21 {w : World} {B : Nat} (r : Int) (l : Value) (c5 : w.cell? ⟨B, 5, none⟩ = some (.slice none 0 0)) :
    Calls Tryz.prog 233 #[.pointer (some ⟨B, 0, none⟩), .int .i64 r, l] w fun e w' => e = .returned (.slice none 0 0) ∧ w' = w := by
  go_enter Tryz.func233, Tryz.ntmps233
  go_wp2_with (go_at_call 281; refine (border21 r c5).mono ?_; rintro e W ⟨rfl, rfl⟩)
  go_ret
  exact ⟨rfl, rfl⟩

theorem inter21 {w : World} {B : Nat} (c4 : w.cell? ⟨B, 4, none⟩ = some (.int .i64 1)) :
    Calls Tryz.prog 234 #[.pointer (some ⟨B, 0, none⟩), .int .i64 0] w fun e w' => e = .returned (.slice none 0 0) ∧ w' = w := by
  go_enter Tryz.func234, Tryz.ntmps234
  go_wp2_with fail
  go_loopg [5, 16] 2 (fun g s5 s16 wx => s5 = .slice none 0 0 ∧ ∃ i : Nat, s16 = .int .i64 i ∧ i ≤ 1 ∧ 1 - i < g ∧ wx = w)
  case atStart => exact ⟨rfl, 0, rfl, by omega, by omega, rfl⟩
  case round =>
    obtain ⟨rfl, i, rfl, hi, hg, rfl⟩ := hrel
    by_cases h : i = 0
    · subst h
      go_wp2_with fail
      go_roundg 1
      case measure => omega
      case rel => exact ⟨rfl, 1, by go_num, by omega, by omega, rfl⟩
    · obtain rfl : i = 1 := by omega
      go_wp2_with fail
      go_ret
      exact ⟨rfl, rfl⟩

/-- A call by the interpreter. -/
theorem run_fb {f : FuncId} {ds : List V} {rv : V} (h : runC 14 f () ds = some ((), .p rv)) {w : World} {F : Blk → Prop} (hF : NoK F) (hFb : ∀ b : Nat, F b → b < w.heap.size) {args : Array Value} (hlen : args.size = ds.length)
    (hrd : ∀ (i : Nat) (x : Value) (d : V), args[i]? = some x → ds[i]? = some d → Rd w F x d) :
    Calls Tryz.prog f args w fun e w' => ∃ (v : Value) (F' : Blk → Prop), e = .returned v ∧ Keep (fun _ => False) w w' ∧ Rd w' F' v rv := by
  have hc := (table_runC 14).ok f w F (fun _ => False) () args ds () (.p rv) ⟨fun _ h => h, hF⟩ (fun g cs hg => by cases hg) (fun b hb => ⟨hFb b hb, fun h => h⟩) hlen hrd h
  refine hc.mono ?_
  rintro e w' ⟨v, F', O', rfl, g1, g2, g3, g4, g5, g6⟩
  exact ⟨v, F', rfl, g2, g6⟩

theorem merge_run : runC 14 188 () [.val (.slice none 0 0)] = some ((), .p (.val (.slice none 0 0))) := by kernel_rfl
theorem sort_run : runC 14 228 () [.val (.slice none 0 0), .clo 229 []] = some ((), .p (.tup [])) := by kernel_rfl
theorem takes_run : runC 14 226 () (encS [tView, tI, tI, tI] (view21, 0, 0, 0, ())) = some ((), .p (.val (.bool false))) := by kernel_rfl

theorem merge21 (w : World) : Calls Tryz.prog 188 #[.slice none 0 0] w fun e w' => e = .returned (.slice none 0 0) ∧ Keep (fun _ => False) w w' := by
  refine (run_fb merge_run (F := fun _ => False) ⟨fun _ _ _ h => h, fun _ h => h⟩ (fun b h => h.elim) rfl (fun i x d hx hd => ?_)).mono ?_
  · match i with
    | 0 => cases hx; cases hd; exact .val _
    | i + 1 => simp at hx
  · rintro e w' ⟨v, F', rfl, k, h⟩
    exact ⟨by rw [h.eq_val], k⟩

theorem internal21 {w : World} {B : Nat} (c5 : w.cell? ⟨B, 5, none⟩ = some (.slice none 0 0)) (c4 : w.cell? ⟨B, 4, none⟩ = some (.int .i64 1)) :
    Calls Tryz.prog 185 #[.pointer (some ⟨B, 0, none⟩), .int .i64 0] w fun e w' => e = .returned (.slice none 0 0) ∧ Keep (fun _ => False) w w' := by
  go_enter Tryz.func185, Tryz.ntmps185
  go_wp2_with (first | (go_at_call 232; refine (intra21 0 c5).mono ?_; rintro e W ⟨rfl, rfl⟩) | (go_at_call 233; refine (discards21 0 _ c5).mono ?_; rintro e W ⟨rfl, rfl⟩) | (go_at_call 234; refine (inter21 c4).mono ?_; rintro e W ⟨rfl, rfl⟩) | (go_at_call 188; refine (merge21 _).mono ?_; rintro e W ⟨rfl, hk⟩))
  go_ret
  exact ⟨rfl, hk⟩

theorem blk_lt {w : World} {b : Nat} {o : Obj} (h : w.heap[b]? = some o) : b < w.heap.size := (Array.getElem?_eq_some_iff.1 h).1

theorem Keep.nw (w : World) (o : Obj) : Keep (fun _ => False) w (w.alloc o) :=
  ⟨rfl, rfl, rfl, by show w.heap.size ≤ (w.heap.push o).size; simp, fun b hb _ => by show (w.heap.push o)[b]? = _; rw [Array.getElem?_push_lt hb]; exact (Array.getElem?_eq_getElem hb).symm, Nat.le_refl _⟩

theorem Keep.tr {w w' w'' : World} (h : Keep (fun _ => False) w w') (k : Keep (fun _ => False) w' w'') : Keep (fun _ => False) w w'' :=
  ⟨k.os.trans h.os, k.tape.trans h.tape, k.output.trans h.output, Nat.le_trans h.size k.size, fun b hb hn => (k.block b (Nat.lt_of_lt_of_le hb h.size) hn).trans (h.block b hb hn), Nat.le_trans h.drawn k.drawn⟩

theorem Keep.cell {w wr : World} {a : Addr} {v : Value} (h : Keep (fun _ => False) w wr) (hc : w.cell? a = some v) : wr.cell? a = some v := by
  have hlt : a.block < w.heap.size := by
    refine Classical.byContradiction fun hn => ?_
    have : w.heap[a.block]? = none := Array.getElem?_eq_none (Nat.le_of_not_lt hn)
    simp [World.cell?, this] at hc
  rw [World.cell?_of_block (h.block _ hlt (fun h => h))]
  exact hc

theorem sort21 (w : World) : Calls Tryz.prog 228 #[.slice none 0 0, .func (.func 229) #[] #[]] w fun e w' => e = .returned (.tuple #[]) ∧ Keep (fun _ => False) w w' := by
  refine (run_fb sort_run (F := fun _ => False) ⟨fun _ _ _ h => h, fun _ h => h⟩ (fun b h => h.elim) rfl (fun i x d hx hd => ?_)).mono ?_
  · match i with
    | 0 => cases hx; cases hd; exact .val _
    | 1 => cases hx; cases hd; exact .clo 229 #[] [] rfl (fun i x d h _ => by simp at h)
    | i + 2 => simp at hx
  · rintro e w' ⟨v, F', rfl, k, h⟩
    cases h with
    | tup cs ds hl h =>
      have : cs = #[] := Array.eq_empty_of_size_eq_zero (by simpa using hl)
      exact ⟨by rw [this], k⟩

/-- The set is made and empty. -/
structure NS (w wr : World) (B N : Nat) (v0 v1 v2 v3 : Value) : Prop where
  hB : wr.heap[B]? = some (.cells #[v0, v1, v2, v3, .int .i64 1, .slice none 0 0] 277 (0, 0))
  hV : wr.heap[N]? = some (.cells #[v0, v1, v2, v3] 38 (0, 0))
  k : Keep (fun _ => False) w wr

theorem NS.to {w wr w' : World} {B N : Nat} {v0 v1 v2 v3 : Value} (h : NS w wr B N v0 v1 v2 v3) (k : Keep (fun _ => False) wr w') : NS w w' B N v0 v1 v2 v3 :=
  ⟨(k.block B (blk_lt h.hB) (fun h => h)).trans h.hB, (k.block N (blk_lt h.hV) (fun h => h)).trans h.hV, h.k.tr k⟩

def ifv (y0 y9 y10 : ByteArray) (y1 : Int) : Nat → Value
  | 0 => .string y0 | 1 => .int .u32 y1 | 2 => .int .i64 24 | 3 => .int .i64 0 | 4 => .bool false | 5 => .bool false
  | 6 => .int .i64 0 | 7 => .int .i64 0 | 8 => .bool false | 9 => .string y9 | 10 => .string y10 | _ => .int .i64 0

theorem newset21 {w : World} {rb ro rc ib io ic : Nat} {v1 v2 v3 : Value} {y0 y9 y10 : ByteArray} {y1 : Int} (HI : Hid (w.cell? ⟨rb, ro + 2, none⟩ = some (.slice (some ⟨ib, io, none⟩) 1 ic)))
    (HX : Hid (∀ m, m < 12 → w.cell? ⟨ib, io + m, none⟩ = some (ifv y0 y9 y10 y1 m)))
    (HT : Hid (∀ wr, Keep (fun _ => False) w wr → Calls Tryz.prog 226 #[.agg #[.slice (some ⟨rb, ro, none⟩) 1 rc, v1, v2, v3], .int .i64 0, .int .i64 0, .int .i64 0] wr fun e w' => e = .returned (.bool false) ∧ Keep (fun _ => False) wr w')) :
    Calls Tryz.prog 184 #[.agg #[.slice (some ⟨rb, ro, none⟩) 1 rc, v1, v2, v3]] w fun e w' => ∃ B N, e = .returned (.pointer (some ⟨B, 0, none⟩)) ∧ NS w w' B N (.slice (some ⟨rb, ro, none⟩) 1 rc) v1 v2 v3 := by
  have hmn : min (1 : Int) 8 = 1 := by decide
  go_enter Tryz.func184, Tryz.ntmps184
  go_wp2_with fail
  have R0 : Hid (∀ W : World, W = ((w.alloc (Obj.cells #[Value.slice (some ⟨rb, ro, none⟩) 1 rc, v1, v2, v3] 38)).alloc (Obj.cells #[Value.slice (some ⟨rb, ro, none⟩) 1 rc, v1, v2, v3, Value.int IntKind.i64 1, Value.slice none 0 0] 277)) →
      NS w W (w.heap.size + 1) w.heap.size (.slice (some ⟨rb, ro, none⟩) 1 rc) v1 v2 v3) := Lib.hid (by
    rintro W rfl
    have hsz : ∀ (u : World) (o : Obj), (u.alloc o).heap.size = u.heap.size + 1 := fun u o => by show (u.heap.push o).size = _; simp
    have hnew : ∀ (u : World) (o : Obj), (u.alloc o).heap[u.heap.size]? = some o := fun u o => by show (u.heap.push o)[u.heap.size]? = _; simp
    refine ⟨?_, ((Keep.nw _ _).block _ (by rw [hsz]; omega) (fun h => h)).trans (hnew _ _), (Keep.nw _ _).tr (Keep.nw _ _)⟩
    have := hnew (w.alloc (Obj.cells #[Value.slice (some ⟨rb, ro, none⟩) 1 rc, v1, v2, v3] 38)) (Obj.cells #[Value.slice (some ⟨rb, ro, none⟩) 1 rc, v1, v2, v3, Value.int IntKind.i64 1, Value.slice none 0 0] 277)
    rw [hsz] at this
    exact this)
  generalize ((w.alloc (Obj.cells #[Value.slice (some ⟨rb, ro, none⟩) 1 rc, v1, v2, v3] 38)).alloc (Obj.cells #[Value.slice (some ⟨rb, ro, none⟩) 1 rc, v1, v2, v3, Value.int IntKind.i64 1, Value.slice none 0 0] 277)) = W0 at *
  have R1 := Lib.hid (R0.out W0 rfl)
  clear R0
  generalize w.heap.size + 1 = B at R1 ⊢
  generalize w.heap.size = N at R1 ⊢
  go_loopg [22] 2 (fun g s22 wr => ∃ r : Nat, s22 = .int .i64 r ∧ r ≤ 1 ∧ 1 - r < g ∧ Hid (NS w wr B N (.slice (some ⟨rb, ro, none⟩) 1 rc) v1 v2 v3))
  case atStart => exact ⟨0, rfl, by omega, by omega, R1⟩
  case round =>
    obtain ⟨r, rfl, hr, hg, R⟩ := hrel
    by_cases hlt : r = 0
    · subst hlt
      have c0 : wr.cell? ⟨N, 0, none⟩ = some (.slice (some ⟨rb, ro, none⟩) 1 rc) := by rw [cell_of_row wr N 0 _ _ _ R.out.hV]; rfl
      have c1 := R.out.k.cell HI.out
      go_wp2_with fail
      go_loopg [33] 2 (fun g s33 wx => ∃ i : Nat, s33 = .int .i64 i ∧ i ≤ 1 ∧ 1 - i < g ∧ Hid (NS w wx B N (.slice (some ⟨rb, ro, none⟩) 1 rc) v1 v2 v3))
      case atStart => exact ⟨0, rfl, by omega, by omega, R⟩
      case round =>
        obtain ⟨i, rfl, hi, hgi, R2⟩ := hrel
        by_cases hlti : i = 0
        · subst hlti
          have hx := fun m hm => R2.out.k.cell (HX.out m hm)
          have d0 : wr.cell? ⟨ib, io, none⟩ = some (.string y0) := hx 0 (by omega)
          have d1 : wr.cell? ⟨ib, io + 1, none⟩ = some (.int .u32 y1) := hx 1 (by omega)
          have d2 : wr.cell? ⟨ib, io + 2, none⟩ = some (.int .i64 24) := hx 2 (by omega)
          have d3 : wr.cell? ⟨ib, io + 3, none⟩ = some (.int .i64 0) := hx 3 (by omega)
          have d4 : wr.cell? ⟨ib, io + 4, none⟩ = some (.bool false) := hx 4 (by omega)
          have d5 : wr.cell? ⟨ib, io + 5, none⟩ = some (.bool false) := hx 5 (by omega)
          have d6 : wr.cell? ⟨ib, io + 6, none⟩ = some (.int .i64 0) := hx 6 (by omega)
          have d7 : wr.cell? ⟨ib, io + 7, none⟩ = some (.int .i64 0) := hx 7 (by omega)
          have d8 : wr.cell? ⟨ib, io + 8, none⟩ = some (.bool false) := hx 8 (by omega)
          have d9 : wr.cell? ⟨ib, io + 9, none⟩ = some (.string y9) := hx 9 (by omega)
          have d10 : wr.cell? ⟨ib, io + 10, none⟩ = some (.string y10) := hx 10 (by omega)
          have d11 : wr.cell? ⟨ib, io + 11, none⟩ = some (.int .i64 0) := hx 11 (by omega)
          have e0 : wr.cell? ⟨N, 0, none⟩ = some (.slice (some ⟨rb, ro, none⟩) 1 rc) := by rw [cell_of_row wr N 0 _ _ _ R2.out.hV]; rfl
          have e1 : wr.cell? ⟨N, 1, none⟩ = some v1 := by rw [cell_of_row wr N 1 _ _ _ R2.out.hV]; rfl
          have e2 : wr.cell? ⟨N, 2, none⟩ = some v2 := by rw [cell_of_row wr N 2 _ _ _ R2.out.hV]; rfl
          have e3 : wr.cell? ⟨N, 3, none⟩ = some v3 := by rw [cell_of_row wr N 3 _ _ _ R2.out.hV]; rfl
          clear hx
          go_upto_region 8 with fail
          have A1 : Hid (∀ W : World, W = wr.alloc (Obj.cells #[Value.string y0, Value.int IntKind.u32 y1, Value.int IntKind.i64 24, Value.int IntKind.i64 0, Value.bool false, Value.bool false, Value.int IntKind.i64 0, Value.int IntKind.i64 0, Value.bool false, Value.string y9, Value.string y10, Value.int IntKind.i64 0] 72) →
              NS w W B N (.slice (some ⟨rb, ro, none⟩) 1 rc) v1 v2 v3 ∧ W.heap[wr.heap.size]? = some (.cells #[Value.string y0, Value.int IntKind.u32 y1, Value.int IntKind.i64 24, Value.int IntKind.i64 0, Value.bool false, Value.bool false, Value.int IntKind.i64 0, Value.int IntKind.i64 0, Value.bool false, Value.string y9, Value.string y10, Value.int IntKind.i64 0] 72 (0, 0))) := Lib.hid (by
            rintro W rfl
            exact ⟨R2.out.to (Keep.nw _ _), by show (wr.heap.push _)[wr.heap.size]? = _; simp⟩)
          generalize wr.alloc (Obj.cells #[Value.string y0, Value.int IntKind.u32 y1, Value.int IntKind.i64 24, Value.int IntKind.i64 0, Value.bool false, Value.bool false, Value.int IntKind.i64 0, Value.int IntKind.i64 0, Value.bool false, Value.string y9, Value.string y10, Value.int IntKind.i64 0] 72) = W1 at A1 ⊢
          obtain ⟨q1, q2⟩ := A1.out W1 rfl
          have R3 := Lib.hid q1
          generalize wr.heap.size = K at q2 ⊢
          clear q1 A1 d0 d1 d2 d3 d4 d5 d6 d7 d8 d9 d10 d11 e0 e1 e2 e3
          have e0 : W1.cell? ⟨N, 0, none⟩ = some (.slice (some ⟨rb, ro, none⟩) 1 rc) := by rw [cell_of_row W1 N 0 _ _ _ R3.out.hV]; rfl
          have e1 : W1.cell? ⟨N, 1, none⟩ = some v1 := by rw [cell_of_row W1 N 1 _ _ _ R3.out.hV]; rfl
          have e2 : W1.cell? ⟨N, 2, none⟩ = some v2 := by rw [cell_of_row W1 N 2 _ _ _ R3.out.hV]; rfl
          have e3 : W1.cell? ⟨N, 3, none⟩ = some v3 := by rw [cell_of_row W1 N 3 _ _ _ R3.out.hV]; rfl
          have d6 : W1.cell? ⟨K, 6, none⟩ = some (.int .i64 0) := by rw [cell_of_row W1 K 6 _ _ _ q2]; rfl
          clear q2
          go_wp2_with (go_at_call 226; refine (HT.out _ R3.out.k).mono ?_; rintro e W2 ⟨rfl, hk⟩; have R4 := Lib.hid (R3.out.to hk); clear hk)
          go_roundg 1
          case measure => omega
          case rel => exact ⟨1, by go_num, by omega, by omega, R4⟩
        · obtain rfl : i = 1 := by omega
          go_wp2_with fail
          go_roundg 1
          case measure => omega
          case rel => exact ⟨1, by go_num, by omega, by omega, R2⟩
    · obtain rfl : r = 1 := by omega
      have c5 : wr.cell? ⟨B, 5, none⟩ = some (.slice none 0 0) := by rw [cell_of_row wr B 5 _ _ _ R.out.hB]; rfl
      go_upto_region 18 with (go_at_call 228; refine (sort21 _).mono ?_; rintro e W2 ⟨rfl, hk⟩; have R4 := Lib.hid (R.out.to hk); clear hk)
      have c5 : W2.cell? ⟨B, 5, none⟩ = some (.slice none 0 0) := by rw [cell_of_row W2 B 5 _ _ _ R4.out.hB]; rfl
      go_wp2_with fail
      go_loopg [100] 1 (fun g s100 wx => s100 = .int .i64 0 ∧ wx = W2)
      case atStart => exact ⟨rfl, rfl⟩
      case round =>
        obtain ⟨rfl, rfl⟩ := hrel
        go_wp2_with fail
        go_ret
        exact ⟨B, N, rfl, R4.out⟩

theorem routes21 {w : World} {rb ro rc ib io ic eb eo ec ecp : Nat} {ea : Option Addr} {v1 v2 v3 : Value} {y0 y9 y10 : ByteArray} {y1 : Int} (HI : Hid (w.cell? ⟨rb, ro + 2, none⟩ = some (.slice (some ⟨ib, io, none⟩) 1 ic)))
    (HX : Hid (∀ m, m < 12 → w.cell? ⟨ib, io + m, none⟩ = some (ifv y0 y9 y10 y1 m))) (HE : Hid (w.cell? ⟨eb, eo, none⟩ = some (.slice ea 0 ecp)))
    (HT : Hid (∀ wr, Keep (fun _ => False) w wr → Calls Tryz.prog 226 #[.agg #[.slice (some ⟨rb, ro, none⟩) 1 rc, v1, v2, v3], .int .i64 0, .int .i64 0, .int .i64 0] wr fun e w' => e = .returned (.bool false) ∧ Keep (fun _ => False) wr w')) :
    Calls Tryz.prog 140 #[.agg #[.slice (some ⟨rb, ro, none⟩) 1 rc, v1, v2, v3], .slice (some ⟨eb, eo, none⟩) 1 ec, .int .i64 0] w fun e w' => e = .returned (.slice none 0 0) ∧ Keep (fun _ => False) w w' := by
  have hmn : min (1 : Int) 1 = 1 := by decide
  go_enter Tryz.func140, Tryz.ntmps140
  go_upto_region 3 with fail
  have A0 : Hid (∀ W : World, W = w.alloc (Obj.cells #[Value.slice (some ⟨rb, ro, none⟩) 1 rc, v1, v2, v3] 38) → Keep (fun _ => False) w W ∧ W.heap[w.heap.size]? = some (.cells #[Value.slice (some ⟨rb, ro, none⟩) 1 rc, v1, v2, v3] 38 (0, 0))) := Lib.hid (by
    rintro W rfl
    exact ⟨Keep.nw _ _, by show (w.heap.push _)[w.heap.size]? = _; simp⟩)
  generalize w.alloc (Obj.cells #[Value.slice (some ⟨rb, ro, none⟩) 1 rc, v1, v2, v3] 38) = W0 at *
  obtain ⟨k0, hV⟩ := A0.out W0 rfl
  clear A0
  generalize w.heap.size = M at hV ⊢
  have K0 := Lib.hid k0
  have HV := Lib.hid hV
  have e0 : W0.cell? ⟨M, 0, none⟩ = some (.slice (some ⟨rb, ro, none⟩) 1 rc) := by rw [cell_of_row W0 M 0 _ _ _ hV]; rfl
  have e1 : W0.cell? ⟨M, 1, none⟩ = some v1 := by rw [cell_of_row W0 M 1 _ _ _ hV]; rfl
  have e2 : W0.cell? ⟨M, 2, none⟩ = some v2 := by rw [cell_of_row W0 M 2 _ _ _ hV]; rfl
  have e3 : W0.cell? ⟨M, 3, none⟩ = some v3 := by rw [cell_of_row W0 M 3 _ _ _ hV]; rfl
  clear k0 hV
  have HNS : Hid (Calls Tryz.prog 184 #[.agg #[.slice (some ⟨rb, ro, none⟩) 1 rc, v1, v2, v3]] W0 fun e w' => ∃ B N, e = .returned (.pointer (some ⟨B, 0, none⟩)) ∧ NS W0 w' B N (.slice (some ⟨rb, ro, none⟩) 1 rc) v1 v2 v3) :=
    Lib.hid (newset21 (Lib.hid (K0.out.cell HI.out)) (Lib.hid (fun m hm => K0.out.cell (HX.out m hm))) (Lib.hid (fun wr hk => HT.out wr (K0.out.tr hk))))
  go_upto_region 4 with (go_at_call 184; refine HNS.out.mono ?_; rintro e W1 ⟨B, N, rfl, h1⟩; have R1 := Lib.hid h1; clear h1)
  clear e0 e1 e2 e3
  have c5 : W1.cell? ⟨B, 5, none⟩ = some (.slice none 0 0) := by rw [cell_of_row W1 B 5 _ _ _ R1.out.hB]; rfl
  have c4 : W1.cell? ⟨B, 4, none⟩ = some (.int .i64 1) := by rw [cell_of_row W1 B 4 _ _ _ R1.out.hB]; rfl
  go_upto_region 5 with (go_at_call 185; refine (internal21 c5 c4).mono ?_; rintro e W2 ⟨rfl, hk⟩; have K2 := Lib.hid hk; clear hk)
  clear c5 c4
  have K3 : Hid (Keep (fun _ => False) w W2) := Lib.hid ((K0.out.tr R1.out.k).tr K2.out)
  have e0 : W2.cell? ⟨M, 0, none⟩ = some (.slice (some ⟨rb, ro, none⟩) 1 rc) := (R1.out.k.tr K2.out).cell (by rw [cell_of_row W0 M 0 _ _ _ HV.out]; rfl)
  have c0 : W2.cell? ⟨eb, eo, none⟩ = some (.slice ea 0 ecp) := K3.out.cell HE.out
  go_wp2_with fail
  go_loopg [8, 39] 2 (fun g s8 s39 wx => s8 = .slice none 0 0 ∧ ∃ q : Nat, s39 = .int .i64 q ∧ q ≤ 1 ∧ 1 - q < g ∧ wx = W2)
  case atStart => exact ⟨rfl, 0, rfl, by omega, by omega, rfl⟩
  case round =>
    obtain ⟨rfl, q, rfl, hq, hg, rfl⟩ := hrel
    by_cases h : q = 0
    · subst h
      go_wp2_with fail
      go_roundg 1
      case measure => omega
      case rel => exact ⟨rfl, 1, by go_num, by omega, by omega, rfl⟩
    · obtain rfl : q = 1 := by omega
      go_wp2_with (go_at_call 188; refine (merge21 _).mono ?_; rintro e W ⟨rfl, hk⟩)
      go_ret
      exact ⟨rfl, K3.out.tr hk⟩

theorem row_of {w : World} {F : Blk → Prop} {v : Value} {t : Ty} {x : t.El} (h : Rd w F v (.tl t [x])) : ∃ b off cap, v = .slice (some ⟨b, off, none⟩) 1 cap ∧ ∀ (m : Nat) (d : V), (t.cells x)[m]? = some d → ∃ u, w.cell? ⟨b, off + m, none⟩ = some u ∧ Rd w F u d := by
  have h := h.untl
  generalize hes : List.map t.enc [x] = es at h
  cases h with
  | slemp a cap => simp at hes
  | sl b off cap k es g hF hcap hk hg hr =>
    subst hes
    refine ⟨b, off, cap, rfl, fun m d hd => ?_⟩
    have hc : (t.enc x).cells.length = k := hk _ (by simp)
    rw [enc_cells] at hc
    have hm := (List.getElem?_eq_some_iff.1 hd).1
    refine ⟨g m, hg m (by simp; omega), ?_⟩
    have := hr 0 m (t.enc x) d (by simp) (by rw [enc_cells]; exact hd)
    simpa using this

noncomputable def linkstate_Routes_C : ElS [tView, (.sl (.sl tRoute)), tI] → Option (RTy.El (.p (.sl tRoute))) := atP [tView, (.sl (.sl tRoute)), tI] (view21, [[]], 0, ()) [] noF

theorem ok_linkstate_Routes_C : OkX 140 [tView, (.sl (.sl tRoute)), tI] (.p (.sl tRoute)) linkstate_Routes_C := by
  intro w F O s args ds s' r hsig hG hF hlen hrd hspec
  simp only [callS, specX, specG] at hspec
  cases hx : decS [tView, (.sl (.sl tRoute)), tI] ds with
  | none => rw [hx] at hspec; cases hspec
  | some x =>
    rw [hx] at hspec
    simp only [Option.map_eq_some_iff, Prod.mk.injEq] at hspec
    obtain ⟨y, hy, rfl, rfl⟩ := hspec
    unfold linkstate_Routes_C atP at hy
    cases he : eqS [tView, (.sl (.sl tRoute)), tI] x (view21, [[]], 0, ()) with
    | false => rw [he] at hy; cases hy
    | true =>
      rw [he] at hy
      cases hy
      have hxe := eqS_sound _ _ _ he
      have hwk := decS_sound _ ds x hx
      have hrd2 : ∀ (i : Nat) (u : Value) (d : V), args[i]? = some u → (encS [tView, (.sl (.sl tRoute)), tI] x)[i]? = some d → Rd w F u d := by
        intro i u d hu hd
        have hi := (Array.getElem?_eq_some_iff.1 hu).1
        obtain ⟨d0, hd0⟩ : ∃ d0, ds[i]? = some d0 := ⟨ds[i]'(by omega), by simp⟩
        exact hwk.get i d0 d hd0 hd w F u (hrd i u d0 hu hd0)
      have hl3 : args.size = 3 := by rw [hlen, hwk.len, hxe]; rfl
      subst hxe
      obtain ⟨a0, a1, a2, rfl⟩ : ∃ a0 a1 a2, args = #[a0, a1, a2] := by
        match args, hl3 with
        | ⟨[a, b, c]⟩, _ => exact ⟨a, b, c, rfl⟩
      have h0 : Rd w F a0 (.agg (tView.cells view21)) := hrd2 0 a0 _ rfl rfl
      have h1 : Rd w F a1 (.tl (.sl tRoute) [[]]) := hrd2 1 a1 _ rfl rfl
      have h2 : a2 = .int .i64 0 := (hrd2 2 a2 (.val (.int .i64 0)) rfl rfl).eq_val
      subst h2
      have h0' := h0
      cases h0 with
      | agg cs _ hl hc =>
        have hcs : cs.size = 4 := hl
        obtain ⟨c0, c1, c2, c3, rfl⟩ : ∃ c0 c1 c2 c3, cs = #[c0, c1, c2, c3] := by
          match cs, hcs with
          | ⟨[a, b, c, d]⟩, _ => exact ⟨a, b, c, d, rfl⟩
        have r0 : Rd w F c0 (.tl tRouter [rt21]) := hc 0 c0 _ rfl rfl
        obtain ⟨rb, ro, rc, rfl, hr⟩ := row_of r0
        obtain ⟨u2, hu2, hr2⟩ := hr 2 (.tl tIface [if21]) rfl
        obtain ⟨ib, io, ic, rfl, hi⟩ := row_of hr2
        obtain ⟨eb, eo, ec, rfl, hE⟩ := row_of h1
        obtain ⟨ue, hue, hre⟩ := hE 0 (.tl tRoute []) rfl
        obtain ⟨ea, ecp, rfl⟩ : ∃ ea ecp, ue = .slice ea 0 ecp := by
          have hre := hre.untl
          generalize hes : List.map tRoute.enc [] = es at hre
          cases hre with
          | slemp a cap => exact ⟨_, _, rfl⟩
          | sl b off cap k es g => subst hes; exact ⟨_, _, rfl⟩
        have hX : ∀ m, m < 12 → w.cell? ⟨ib, io + m, none⟩ = some (ifv ⟨#[101, 48]⟩ ⟨#[]⟩ ⟨#[]⟩ 167772161 m) := by
          intro m hm
          obtain ⟨u, hu, hru⟩ := hi m (.val (ifv ⟨#[101, 48]⟩ ⟨#[]⟩ ⟨#[]⟩ 167772161 m)) (by
            match m, hm with
            | 0, _ => rfl
            | 1, _ => rfl
            | 2, _ => rfl
            | 3, _ => rfl
            | 4, _ => rfl
            | 5, _ => rfl
            | 6, _ => rfl
            | 7, _ => rfl
            | 8, _ => rfl
            | 9, _ => rfl
            | 10, _ => rfl
            | 11, _ => rfl
            | n + 12, h => omega)
          rw [hu, hru.eq_val]
        refine (routes21 (Lib.hid hu2) (Lib.hid hX) (Lib.hid (by simpa using hue)) (Lib.hid (fun wr hk => ?_))).mono ?_
        · refine (run_fb takes_run (F := F) hsig.2 (fun b hb => Nat.lt_of_lt_of_le (hF b hb).1 hk.size) rfl (fun i x d hx hd => ?_)).mono ?_
          · match i with
            | 0 =>
              cases hx; cases hd
              exact h0'.mono (fun _ h => h) (fun b hb => hk.block b (hF b hb).1 (fun h => h))
            | 1 => cases hx; cases hd; exact .val _
            | 2 => cases hx; cases hd; exact .val _
            | 3 => cases hx; cases hd; exact .val _
            | i + 4 => simp at hx
          · rintro e w' ⟨v, F', rfl, k, h⟩
            exact ⟨by rw [h.eq_val], k⟩
        · rintro e w' ⟨rfl, k⟩
          refine ⟨_, F, O, rfl, hsig, ⟨k.os, k.tape, k.output, k.size, fun b hb _ => k.block b hb (fun h => h), k.drawn⟩, fun b hb => .inl hb, GrowW.refl _ _, fun b hb => ⟨.inl hb, Nat.lt_of_lt_of_le (hF b hb).1 k.size, (hF b hb).2⟩, ?_⟩
          exact .tl tRoute [] _ (.slemp none 0)
end Go.Ve
