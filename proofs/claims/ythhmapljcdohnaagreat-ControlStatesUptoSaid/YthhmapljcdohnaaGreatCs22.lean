/-
  slices.Concat at RouteO: the walk, over the kit's contract of slices.Grow; the contract over typed lists.
-/
import Derived.Test.YthhmapljcdohnaaGreatCs20
import Derived.Test.YthhmapljcdohnaaGreatCs16
import Derived.Test.YthhmapljcdohnaaGreatCs17
set_option linter.unusedVariables false
set_option linter.unusedSimpArgs false
namespace Go.Ve
open Go Go.Proofs Go.Shelf Go.RowKit
set_option maxRecDepth 100000

def ren_grow_RouteO : Ren := ⟨fun f => match f with
  | 4 => 198
  | n => n, fun t => match t with
  | 0 => 0
  | 3 => 3
  | 4 => 4
  | 9 => 9
  | 20 => 20
  | 22 => 41
  | 25 => 126
  | n => n, fun n => n⟩

theorem lay_grow_RouteO : Lays8.n4 Tryz.prog ren_grow_RouteO where
  mixed := mixed
  f4 := ⟨Tryz.f198.name, by kernel_rfl, by kernel_rfl⟩
  t0 := by kernel_rfl
  a0 := run_isAgg (by kernel_rfl)
  z0 := run_sizeOf (by kernel_rfl)
  v0 := fun w => by kernel_rfl
  t3 := by kernel_rfl
  a3 := run_isAgg (by kernel_rfl)
  z3 := run_sizeOf (by kernel_rfl)
  v3 := fun w => by kernel_rfl
  t4 := by kernel_rfl
  a4 := run_isAgg (by kernel_rfl)
  z4 := run_sizeOf (by kernel_rfl)
  v4 := fun w => by kernel_rfl
  t9 := by kernel_rfl
  a9 := run_isAgg (by kernel_rfl)
  z9 := run_sizeOf (by kernel_rfl)
  v9 := fun w => by kernel_rfl
  t20 := by kernel_rfl
  a20 := run_isAgg (by kernel_rfl)
  z20 := run_sizeOf (by kernel_rfl)
  v20 := fun w => by kernel_rfl
  t22 := by kernel_rfl
  a22 := run_isAgg (by kernel_rfl)
  z22 := run_sizeOf (by kernel_rfl)
  v22 := fun w => by kernel_rfl

theorem info_RouteO : (Tryz.prog.info? 126).map (fun i => (i.zero.map (fun z => z.cells.size), i.size, i.bytes)) = some (some tRoute.size, tRoute.size, 136) := by kernel_rfl

theorem info_at_RouteO : ∃ (i0 : TypeInfo) (z : Value), Tryz.prog.info? 126 = some i0 ∧ i0.zero = some z ∧ i0.size = tRoute.size ∧ i0.bytes = 136 ∧ z.cells.size = tRoute.size := by
  have h := info_RouteO
  cases hi : Tryz.prog.info? 126 with
  | none => rw [hi] at h; cases h
  | some i0 =>
    rw [hi] at h
    simp only [Option.map_some, Option.some.injEq, Prod.mk.injEq] at h
    obtain ⟨h1, h2, h3⟩ := h
    cases hz : i0.zero with
    | none => rw [hz] at h1; cases h1
    | some z =>
      rw [hz] at h1
      simp only [Option.map_some, Option.some.injEq] at h1
      exact ⟨i0, z, rfl, hz, h2, h3, h1⟩

theorem grow_RouteO (n : Nat) (w : World) (h0 : 0 < n) (hB : n * 136 ≤ 140737488355328) :
    Calls Tryz.prog 198 #[.slice none 0 0, .int .i64 n] w fun e w' => ∃ (G : Nat) (Z : Array Value), e = .returned (.slice (some ⟨w.heap.size, 0, none⟩) 0 G) ∧ n ≤ G ∧ Z.size = G * tRoute.size ∧ w' = (w.alloc (.cells Z 126)).drew := by
  obtain ⟨i0, z, hi, hz, hs, hb, hzs⟩ := info_at_RouteO
  have h := Any8.slices_Grow_grow lay_grow_RouteO i0 z hi hz (by rw [hs]; exact Nat.zero_lt_succ _) none 0 0 n [] w (Nat.le_refl _) (by omega) (by rw [hb]; omega) (by omega) (by simp) (fun _ => rfl) (fun a ha => by cases ha)
  refine h.mono ?_
  rintro e w' ⟨rfl, rfl⟩
  have hG := grownCap_ge w (0 + n) 0 (ren_grow_RouteO.t 25)
  refine ⟨_, _, rfl, by omega, ?_, rfl⟩
  have hsz : ∀ m, (Builtin.zeroCells z.cells m).size = m * tRoute.size := fun m => by simp [Builtin.zeroCells, hzs]
  simp only [Array.size_append, hsz]
  have e0 : (#[] : Array Value).size = 0 := rfl
  rw [e0, Nat.zero_add, ← Nat.add_mul]
  congr 1
  omega

theorem grow0_RouteO (w : World) : Calls Tryz.prog 198 #[.slice none 0 0, .int .i64 0] w fun e w' => e = .returned (.slice none 0 0) ∧ w = w' :=
  (Any8.slices_Grow_room lay_grow_RouteO none 0 0 0 w (Nat.le_refl _) (by omega) (by omega) (Nat.le_refl _)).mono fun _ _ h => ⟨h.1, h.2.symm⟩

theorem sum_step {a b : Nat} (h : a + b ≤ 140737488355328) : IntKind.wrap .i64 ((a : Int) + (b : Int)) = ((a + b : Nat) : Int) := by
  have e1 : ((2 : Int) ^ IntKind.bits .i64) = 18446744073709551616 := by decide
  have e2 : ((2 : Int) ^ (IntKind.bits .i64 - 1)) = 9223372036854775808 := by decide
  simp only [IntKind.wrap, IntKind.signed, Bool.true_and, decide_eq_true_eq, e1, e2]
  split <;> omega

theorem one_step {j n : Nat} (h : j < n) (hn : n ≤ 1048576) : IntKind.wrap .i64 ((j : Int) + 1) = ((j + 1 : Nat) : Int) := by
  have := sum_step (a := j) (b := 1) (by omega)
  simpa using this

set_option maxHeartbeats 4000000 in
set_option maxRecDepth 1000000 in
theorem concat_walk_RouteO (oa : Option Addr) (b0 off0 N cap0 : Nat) (hd : Nat → Option Addr) (ln cp : Nat → Nat) (rows : Nat → List Value) (w : World)
    (hoa : 0 < N → oa = some ⟨b0, off0, none⟩) (hb0 : Hid (0 < N → b0 < w.heap.size)) (hN : Hid (N ≤ 1048576)) (hc : Hid (∀ j, j < N → w.cell? ⟨b0, off0 + j, none⟩ = some (.slice (hd j) (ln j) (cp j))))
    (hs : Hid (∀ j, j < N → ∀ W : World, (∀ i, i < w.heap.size → W.heap[i]? = w.heap[i]?) → Src Tryz.prog tRoute.size 41 (.slice (hd j) (ln j) (cp j)) (ln j) (rows j) W)) (hB : Hid (sumU ln N * 136 ≤ 140737488355328)) :
    Calls Tryz.prog 144 #[.slice oa N cap0] w fun e w' => ∃ v, e = .returned v ∧ ((sumU ln N = 0 ∧ v = .slice none 0 0 ∧ w' = w) ∨
      (0 < sumU ln N ∧ ∃ (G : Nat) (Z : Array Value), v = .slice (some ⟨w.heap.size, 0, none⟩) (sumU ln N) G ∧ sumU ln N ≤ G ∧ Z.size = G * tRoute.size ∧ w' = (w.alloc (.cells Z 126)).drew.setCells w.heap.size 0 (rowsU rows N))) := by
  obtain ⟨i0, z, hi, hz, hsz, hby, _⟩ := info_at_RouteO
  have HI : Hid (Tryz.prog.info? 126 = some i0 ∧ i0.size = tRoute.size) := ⟨hi, hsz⟩
  clear hi hz hsz hby
  have hbound : Hid (∀ j, j ≤ N → sumU ln j ≤ 140737488355328) := fun j hj => by have h1 := sumU_le ln hj; have h2 := hB.out; omega
  have hgrow : Hid (0 < sumU ln N → _) := fun h0 => grow_RouteO (sumU ln N) w h0 hB.out
  go_enter Tryz.func144, Tryz.ntmps144
  go_wp2
  go_loopg [3, 11] N (fun g s3 s11 wr => ∃ j, g = N - j ∧ j ≤ N ∧ s3 = .int .i64 (sumU ln j) ∧ s11 = .int .i64 j ∧ w = wr)
  case atStart => exact ⟨0, rfl, Nat.zero_le _, rfl, rfl, rfl⟩
  case round =>
    obtain ⟨j, hg, hj, rfl, rfl, rfl⟩ := hrel
    by_cases hlt : j < N
    · obtain rfl := hoa (by omega)
      have hx := hc.out j hlt
      have hw1 := sum_step (a := sumU ln j) (b := ln j) (hbound.out (j + 1) hlt)
      have hw2 := one_step hlt hN.out
      generalize hq : sumU ln j + ln j = q at hw1
      have hneg : ¬ ((q : Int) < 0) := by omega
      go_wp2
      go_roundg (N - (j + 1))
      case measure => omega
      case rel => exact ⟨j + 1, rfl, hlt, by rw [← hq]; rfl, by go_num, rfl⟩
    · have hjN : j = N := by omega
      have hln : Hid (∀ i, i < N → sumU ln i + ln i ≤ sumU ln N) := fun i hi => sumU_le ln (i := i + 1) (j := N) hi
      rw [hjN]
      clear hjN hlt hj hg
      rcases Nat.eq_zero_or_pos (sumU ln N) with hzero | hpos
      · have hz0 : ((sumU ln N : Nat) : Int) = 0 := by omega
        rw [hz0]
        go_wp2_with (go_at_call 198; refine (grow0_RouteO w).mono ?_; rintro e w' ⟨rfl, rfl⟩)
        go_wp2
        go_loopg [6, 27] N (fun g s6 s27 wr => ∃ m, g = N - m ∧ m ≤ N ∧ s6 = .slice none 0 0 ∧ s27 = .int .i64 m ∧ w = wr)
        case atStart => exact ⟨0, rfl, Nat.zero_le _, rfl, rfl, rfl⟩
        case round =>
          obtain ⟨m, hg, hm, rfl, rfl, rfl⟩ := hrel
          by_cases hlt : m < N
          · obtain rfl := hoa (by omega)
            have hx := hc.out m hlt
            have hw2 := one_step hlt hN.out
            have hrz : ∀ ty, (Builtin.append_ #[41, 41] ty #[.slice none 0 0, .slice (hd m) (ln m) (cp m)]).run Tryz.prog w = .ok (.slice none 0 0) w := fun ty => by
              have h1 := hs.out m hlt w (fun _ _ => rfl)
              have h2 := hln.out m hlt
              have h3 : ln m = 0 := by omega
              have h4 : rows m = [] := List.eq_nil_of_length_eq_zero (by rw [h1.newsLen, h3, Nat.zero_mul])
              rw [h3, h4] at h1
              rw [h3]
              exact run_append_nothing w 41 41 ty 126 i0 (by kernel_rfl) HI.out.1 none 0 0 (Nat.le_refl _) _ (by rw [HI.out.2]; exact h1)
            go_wp2_with (at_builtin; refine Lib.wpList_append_run _ rfl _ _ _ _ rfl _ _ rfl rfl _ _ (hrz _) ?_)
            go_wp2
            go_roundg (N - (m + 1))
            case measure => omega
            case rel => exact ⟨m + 1, rfl, hlt, rfl, by go_num, rfl⟩
          · go_wp2
            go_ret
            exact ⟨_, rfl, .inl ⟨hzero, rfl, rfl⟩⟩
      · go_wp2_with (go_at_call 198; refine (hgrow.out hpos).mono ?_; rintro e w' ⟨G, Z, rfl, hG, hZ, rfl⟩)
        go_wp2
        have hold : Hid (∀ i, i < w.heap.size → (w.alloc (.cells Z 126)).drew.heap[i]? = w.heap[i]?) := fun i hi => alloc_old hi
        have hblk : Hid (∀ i, i < G * tRoute.size → ((w.alloc (.cells Z 126)).drew.cell? ⟨w.heap.size, i, none⟩).isSome = true ∧ (w.alloc (.cells Z 126)).drew.frozen? ⟨w.heap.size, i, none⟩ = false) := fun i hi => block_cell alloc_new (by omega)
        generalize hW1 : (w.alloc (.cells Z 126)).drew = W1 at hold hblk ⊢
        have HW : Hid ((w.alloc (.cells Z 126)).drew = W1) := hW1
        have HZ : Hid (Z.size = G * tRoute.size) := hZ
        clear hW1 hZ
        generalize hbk : w.heap.size = bk at hold hblk ⊢
        have HBK : Hid (w.heap.size = bk) := hbk
        clear hbk
        go_loopg [6, 27] N (fun g s6 s27 wr => ∃ m, g = N - m ∧ m ≤ N ∧ s6 = .slice (some ⟨bk, 0, none⟩) (sumU ln m) G ∧ s27 = .int .i64 m ∧ wr = W1.setCells bk 0 (rowsU rows m))
        case atStart => exact ⟨0, rfl, Nat.zero_le _, rfl, rfl, rfl⟩
        case round =>
          obtain ⟨m, hg, hm, rfl, rfl, hwr⟩ := hrel
          have HWR : Hid (wr = W1.setCells bk 0 (rowsU rows m)) := hwr
          clear hwr
          by_cases hlt : m < N
          · obtain rfl := hoa (by omega)
            have hb := hb0.out (by omega)
            have hagree : Hid (∀ i, i < bk → wr.heap[i]? = w.heap[i]?) := fun i hi => by
              rw [HWR.out, setCells_other bk _ _ _ (Nat.ne_of_lt hi)]
              exact hold.out i hi
            have hx : wr.cell? ⟨b0, off0 + m, none⟩ = some (.slice (hd m) (ln m) (cp m)) := by
              rw [World.cell?_of_block (w := w) (hagree.out b0 (by rw [← HBK.out]; exact hb))]
              exact hc.out m hlt
            have hw2 := one_step hlt hN.out
            have hroom := hln.out m hlt
            have hrl : Hid ((rowsU rows m).length = sumU ln m * tRoute.size) := rowsU_len (fun i hi => (hs.out i (by omega) w (fun _ _ => rfl)).newsLen)
            have hrz : ∀ ty, (Builtin.append_ #[41, 41] ty #[.slice (some ⟨bk, 0, none⟩) (sumU ln m) G, .slice (hd m) (ln m) (cp m)]).run Tryz.prog wr = .ok (.slice (some ⟨bk, 0, none⟩) (sumU ln m + ln m) G) (wr.setCells bk (rowsU rows m).length (rows m)) := fun ty => by
              have h1 := hs.out m hlt wr (fun i hi => hagree.out i (by rw [← HBK.out]; exact hi))
              have hle : sumU ln m * tRoute.size + ln m * tRoute.size ≤ G * tRoute.size := by rw [← Nat.add_mul]; exact Nat.mul_le_mul_right _ (by omega)
              have h2 := run_append_room_src (P := Tryz.prog) wr 41 41 ty 126 i0 (by kernel_rfl) HI.out.1 bk 0 (sumU ln m) G _ (ln m) (rows m) (by rw [HI.out.2]; exact h1) (by omega)
                (fun jj hjj => by
                  rw [h1.newsLen] at hjj
                  rw [HI.out.2, HWR.out]
                  exact Lib.isSome_setCells bk _ _ _ _ (hblk.out _ (by omega)).1)
                (fun jj hjj => by
                  rw [h1.newsLen] at hjj
                  rw [HI.out.2, HWR.out, World.frozen?_setCells]
                  exact (hblk.out _ (by omega)).2)
              rw [Nat.zero_add, HI.out.2, ← hrl.out] at h2
              exact h2
            go_wp2_with (at_builtin; refine Lib.wpList_append_run _ rfl _ _ _ _ rfl _ _ rfl rfl _ _ (hrz _) ?_)
            go_wp2
            go_roundg (N - (m + 1))
            case measure => omega
            case rel =>
              refine ⟨m + 1, rfl, hlt, rfl, by go_num, ?_⟩
              rw [HWR.out]
              have h3 := setCells_append bk (rowsU rows m) 0 W1 (rows m)
              rw [Nat.zero_add] at h3
              exact h3.symm
          · have hmN : m = N := by omega
            rw [hmN] at HWR ⊢
            go_wp2
            go_ret
            exact ⟨_, rfl, .inr ⟨hpos, G, Z, by rw [HBK.out]; rfl, hG, HZ.out, by rw [HBK.out, HW.out]; exact HWR.out⟩⟩

theorem ok_slices_Concat_Route : OkX 144 [(.sl (.sl tRoute))] (.p (.sl tRoute)) slices_Concat_Route :=
  fnOk_ownp (fnOk_concatO (t := tRoute) (TS := 41) (TE := 126) (bytes := 136) (by kernel_rfl) (fun oa b0 off0 N cap0 hd ln cp rows w h1 h2 h3 h4 h5 h6 => concat_walk_RouteO oa b0 off0 N cap0 hd ln cp rows w h1 h2 h3 h4 h5 h6))
end Go.Ve
