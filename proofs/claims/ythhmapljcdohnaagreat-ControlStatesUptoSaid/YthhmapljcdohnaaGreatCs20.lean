/-
  Lists joined: what lies where.
-/
import Derived.Shelf.Spec.SlicesGrow
import Derived.Deep.Upon
import Derived.Lib.ReflectliteSwap
import Derived.Test.YthhmapljcdohnaaGreatCs12
set_option linter.unusedVariables false
set_option linter.unusedSimpArgs false
namespace Go.Ve
open Go Go.Proofs

def sumU (ln : Nat → Nat) : Nat → Nat
  | 0 => 0
  | m + 1 => sumU ln m + ln m

def rowsU (rows : Nat → List Value) : Nat → List Value
  | 0 => []
  | m + 1 => rowsU rows m ++ rows m

theorem sumU_le (ln : Nat → Nat) {i j : Nat} (h : i ≤ j) : sumU ln i ≤ sumU ln j := by
  induction j with
  | zero => grind
  | succ j ih =>
    rcases Nat.lt_or_ge i (j + 1) with h1 | h1
    · grind [sumU]
    grind

theorem rowsU_len {ln : Nat → Nat} {rows : Nat → List Value} {k : Nat} : ∀ {n : Nat}, (∀ j, j < n → (rows j).length = ln j * k) → (rowsU rows n).length = sumU ln n * k
  | 0, _ => by simp [rowsU, sumU]
  | n + 1, h => by
    have h1 := rowsU_len (n := n) (fun j hj => h j (by omega))
    simp only [rowsU, sumU, List.length_append, h1, h n (by omega), Nat.add_mul]

theorem setCells_append (b : Nat) : ∀ (xs : List Value) (o : Nat) (w : World) (ys : List Value), w.setCells b o (xs ++ ys) = (w.setCells b o xs).setCells b (o + xs.length) ys
  | [], o, w, ys => by simp [World.setCells]
  | x :: xs, o, w, ys => by
    simp only [List.cons_append, World.setCells, List.length_cons]
    rw [setCells_append b xs (o + 1) _ ys, show o + 1 + xs.length = o + (xs.length + 1) by omega]

theorem setCells_other (b : Nat) : ∀ (vs : List Value) (o : Nat) (w : World) {i : Nat}, i ≠ b → (w.setCells b o vs).heap[i]? = w.heap[i]?
  | [], _, _, _, _ => rfl
  | v :: vs, o, w, i, h => by
    rw [World.setCells, setCells_other b vs (o + 1) _ h]
    simp only [World.setCell]
    grind

/-- A new block: what was there stays, its cells are there. -/
theorem alloc_old {w : World} {Z : Array Value} {t : TypeId} {i : Nat} (h : i < w.heap.size) : (w.alloc (.cells Z t)).drew.heap[i]? = w.heap[i]? := by
  show (w.heap.push _)[i]? = _
  grind

theorem alloc_new {w : World} {Z : Array Value} {t : TypeId} : (w.alloc (.cells Z t)).drew.heap[w.heap.size]? = some (.cells Z t (0, 0)) := by
  show (w.heap.push _)[w.heap.size]? = _
  grind

theorem block_cell {w : World} {b : Nat} {Z : Array Value} {t : TypeId} (h : w.heap[b]? = some (.cells Z t (0, 0))) {i : Nat} (hi : i < Z.size) : (w.cell? ⟨b, i, none⟩).isSome = true ∧ w.frozen? ⟨b, i, none⟩ = false := by
  simp_all [World.cell?, World.frozen?]

/-- The cells of a row read as the elements of a list. -/
def RowsRd (w : World) (F : Blk → Prop) (t : Ty) (xs : List t.El) (row : List Value) : Prop :=
  row.length = xs.length * t.size ∧ ∀ (i j : Nat) (e d : V), (xs.map t.enc)[i]? = some e → e.cells[j]? = some d → ∃ x, row[i * t.size + j]? = some x ∧ Rd w F x d

theorem RowsRd.nil {w : World} {F : Blk → Prop} {t : Ty} : RowsRd w F t [] [] := ⟨by simp, fun i j e d h => by simp at h⟩

theorem RowsRd.append {w : World} {F : Blk → Prop} {t : Ty} {xs ys : List t.El} {r s : List Value} (h1 : RowsRd w F t xs r) (h2 : RowsRd w F t ys s) : RowsRd w F t (xs ++ ys) (r ++ s) := by
  refine ⟨by rw [List.length_append, List.length_append, h1.1, h2.1, Nat.add_mul], ?_⟩
  intro i j e d he hd
  have hjt : j < t.size := by
    have := (List.getElem?_eq_some_iff.1 hd).1
    obtain ⟨x, _, rfl⟩ := List.mem_map.1 (List.mem_of_getElem? he)
    rwa [enc_len] at this
  rw [List.map_append] at he
  by_cases hi : i < xs.length
  · rw [List.getElem?_append_left (by simpa using hi)] at he
    obtain ⟨x, hx, hr⟩ := h1.2 i j e d he hd
    grind
  · rw [List.getElem?_append_right (by grind), List.length_map] at he
    obtain ⟨x, hx, hr⟩ := h2.2 (i - xs.length) j e d he hd
    refine ⟨x, ?_, hr⟩
    have e1 : i * t.size + j = r.length + ((i - xs.length) * t.size + j) := by
      rw [h1.1, ← Nat.add_assoc, ← Nat.add_mul, show xs.length + (i - xs.length) = i by omega]
    grind

theorem RowsRd.mono {w w' : World} {F F' : Blk → Prop} {t : Ty} {xs : List t.El} {r : List Value} (h : RowsRd w F t xs r) (hF : ∀ b, F b → F' b) (hw : ∀ b : Nat, F b → w'.heap[b]? = w.heap[b]?) : RowsRd w' F' t xs r :=
  ⟨h.1, fun i j e d he hd => by obtain ⟨x, hx, hr⟩ := h.2 i j e d he hd; exact ⟨x, hx, hr.mono hF hw⟩⟩

theorem RowsRd.one {w : World} {F : Blk → Prop} {t : Ty} {xs : List t.El} {r : List Value} (h : RowsRd w F t xs r) : ∀ v, v ∈ r → v.oneCell' = true := by
  refine src_one (w := w) (F := F) (es := xs.map t.enc) (k := t.size) (by rw [h.1, List.length_map]) ?_ ?_ h.2
  · intro e he
    obtain ⟨x, _, rfl⟩ := List.mem_map.1 he
    exact enc_len t x
  · intro e he
    obtain ⟨x, _, rfl⟩ := List.mem_map.1 he
    grind [enc_cells, cells_one]

/-- What a list that is read gives to an append, in whatever later world. -/
theorem src_part {P : Program} {w : World} {F : Blk → Prop} {v : Value} {t : Ty} {xs : List t.El} (h : Rd w F v (.tl t xs)) (hF : ∀ b : Nat, F b → b < w.heap.size) :
    ∃ (a : Option Addr) (c : Nat) (row : List Value), v = .slice a xs.length c ∧ RowsRd w F t xs row ∧
      (∀ (W : World) (tx e' : TypeId), P.underlying tx = some (.slice e') → (∀ i, i < w.heap.size → W.heap[i]? = w.heap[i]?) → Src P t.size tx v xs.length row W) ∧
      (0 < xs.length → ∃ b off, a = some ⟨b, off, none⟩ ∧ F (Blk.b b) ∧ ∀ (j : Nat) u, row[j]? = some u → w.cell? ⟨b, off + j, none⟩ = some u) := by
  have h2 := Rd.untl h
  generalize hd : V.sl (xs.map t.enc) = d at h2
  have empty : ∀ (a : Option Addr) (c : Nat), xs = [] → v = .slice a 0 c → ∃ (a : Option Addr) (c : Nat) (row : List Value), v = .slice a xs.length c ∧ RowsRd w F t xs row ∧
      (∀ (W : World) (tx e' : TypeId), P.underlying tx = some (.slice e') → (∀ i, i < w.heap.size → W.heap[i]? = w.heap[i]?) → Src P t.size tx v xs.length row W) ∧
      (0 < xs.length → ∃ b off, a = some ⟨b, off, none⟩ ∧ F (Blk.b b) ∧ ∀ (j : Nat) u, row[j]? = some u → w.cell? ⟨b, off + j, none⟩ = some u) := by
    rintro a c rfl rfl
    refine ⟨a, c, [], rfl, .nil, fun W tx e' hk _ => ?_, fun h => absurd h (Nat.lt_irrefl 0)⟩
    cases a with
    | none => exact Src.ofNil W hk c
    | some a => grind [Src.ofSlice]
  cases h2 with
  | slemp a c =>
    simp_all
  | sl b off cap k es g hb hcap hk hg hr =>
    cases hd
    cases hxs : xs with
    | nil => grind
    | cons x0 xr =>
      rw [← hxs]
      have hkk : k = t.size := by
        grind [enc_len]
      subst hkk
      rw [List.length_map] at hg
      have hrr : RowsRd w F t xs ((List.range (xs.length * t.size)).map g) := by
        refine ⟨by simp, fun i j e d hi hj => ?_⟩
        have h1 := (List.getElem?_eq_some_iff.1 hi).1
        have h2 := (List.getElem?_eq_some_iff.1 hj).1
        have h3 := hk e (List.mem_of_getElem? hi)
        rw [List.length_map] at h1
        have : (i + 1) * t.size ≤ xs.length * t.size := Nat.mul_le_mul_right t.size (by omega)
        grind
      have hcell : ∀ (j : Nat) u, ((List.range (xs.length * t.size)).map g)[j]? = some u → w.cell? ⟨b, off + j, none⟩ = some u := by
        grind
      refine ⟨some ⟨b, off, none⟩, cap, _, by grind, hrr, fun W tx e' hk' hW => ?_, fun _ => ⟨b, off, rfl, hb, hcell⟩⟩
      rw [List.length_map]
      refine Src.ofSlice W hk' _ _ cap _ hrr.1 (fun j u hj => ?_) hrr.one
      grind [Addr.add_lit, World.cell?_of_block]
  | _ => cases hd

theorem setCells_rest (b : Nat) : ∀ (vs : List Value) (o : Nat) (w : World), (w.setCells b o vs).os = w.os ∧ (w.setCells b o vs).tape = w.tape ∧ (w.setCells b o vs).output = w.output ∧ (w.setCells b o vs).drawn = w.drawn ∧ (w.setCells b o vs).heap.size = w.heap.size
  | [], _, _ => ⟨rfl, rfl, rfl, rfl, rfl⟩
  | v :: vs, o, w => by
    have h := setCells_rest b vs (o + 1) (w.setCell ⟨b, o, none⟩ v)
    have h1 : (w.setCell ⟨b, o, none⟩ v).heap.size = w.heap.size := by
      simp only [World.setCell]
      split <;> simp
    exact ⟨h.1, h.2.1, h.2.2.1, h.2.2.2.1, h.2.2.2.2.trans h1⟩

/-- What a list of lists is made of. -/
theorem parts_of {P : Program} {w : World} {F : Blk → Prop} {v : Value} {t : Ty} {xss : List (List t.El)} {TS TE : TypeId} (hu : P.underlying TS = some (.slice TE)) (h : Rd w F v (.tl (.sl t) xss)) (hF : ∀ b : Nat, F b → b < w.heap.size) :
    ∃ (oa : Option Addr) (b0 off0 cap0 : Nat) (hd : Nat → Option Addr) (cp : Nat → Nat) (rows : Nat → List Value), v = .slice oa xss.length cap0 ∧ (0 < xss.length → oa = some ⟨b0, off0, none⟩) ∧ (0 < xss.length → b0 < w.heap.size) ∧
      (∀ j, j < xss.length → w.cell? ⟨b0, off0 + j, none⟩ = some (.slice (hd j) ((xss[j]?).getD []).length (cp j))) ∧
      (∀ j, j < xss.length → RowsRd w F t ((xss[j]?).getD []) (rows j)) ∧
      (∀ j, j < xss.length → ∀ W : World, (∀ i, i < w.heap.size → W.heap[i]? = w.heap[i]?) → Src P t.size TS (.slice (hd j) ((xss[j]?).getD []).length (cp j)) ((xss[j]?).getD []).length (rows j) W) := by
  obtain ⟨oa, cap0, row, hv, hrow, _, hcell⟩ := src_part (P := P) h hF
  have part : ∀ j, j < xss.length → ∃ q : Option Addr × Nat × List Value, row[j]? = some (.slice q.1 ((xss[j]?).getD []).length q.2.1) ∧ RowsRd w F t ((xss[j]?).getD []) q.2.2 ∧
      ∀ W : World, (∀ i, i < w.heap.size → W.heap[i]? = w.heap[i]?) → Src P t.size TS (.slice q.1 ((xss[j]?).getD []).length q.2.1) ((xss[j]?).getD []).length q.2.2 W := by
    intro j hj
    obtain ⟨x, hx, hr⟩ := hrow.2 j 0 (.tl t xss[j]) (.tl t xss[j]) (by simp [Ty.enc]) rfl
    simp [Ty.size] at hx
    obtain ⟨a, c, r, rfl, k1, k2, _⟩ := src_part (P := P) hr hF
    have e : (xss[j]?).getD [] = xss[j] := by simp [hj]
    rw [e]
    exact ⟨(a, c, r), hx, k1, fun W hW => k2 W TS TE hu hW⟩
  let q : Nat → Option Addr × Nat × List Value := fun j => if h : j < xss.length then Classical.choose (part j h) else (none, 0, [])
  have hq : ∀ j (h : j < xss.length), q j = Classical.choose (part j h) := fun j h => dif_pos h
  by_cases h0 : 0 < xss.length
  · obtain ⟨b, off, ha, hb, hc⟩ := hcell h0
    refine ⟨oa, b, off, cap0, fun j => (q j).1, fun j => (q j).2.1, fun j => (q j).2.2, hv, fun _ => ha, fun _ => hF b hb, ?_, ?_, ?_⟩
    all_goals grind
  simp_all

theorem flat_take {α : Type} {xss : List (List α)} {m : Nat} (h : m < xss.length) : (xss.take (m + 1)).flatten = (xss.take m).flatten ++ ((xss[m]?).getD []) := by
  grind [List.take_add_one, List.flatten_append, Option.toList_some, List.flatten_cons, List.flatten_nil]

theorem sum_flat {α : Type} (xss : List (List α)) : ∀ m, m ≤ xss.length → sumU (fun j => ((xss[j]?).getD []).length) m = (xss.take m).flatten.length
  | 0, _ => rfl
  | m + 1, h => by
    simp only [sumU, sum_flat xss m (by omega)]
    rw [flat_take (by omega), List.length_append]

theorem rows_flat {w : World} {F : Blk → Prop} {t : Ty} {xss : List (List t.El)} {rows : Nat → List Value} (h : ∀ j, j < xss.length → RowsRd w F t ((xss[j]?).getD []) (rows j)) : ∀ m, m ≤ xss.length → RowsRd w F t (xss.take m).flatten (rowsU rows m)
  | 0, _ => .nil
  | m + 1, hm => by
    have h1 := rows_flat h m (by omega)
    have h2 := h m (by omega)
    rw [flat_take (by omega)]
    exact h1.append h2

/-- slices.Concat over typed lists, out of its walk. -/

theorem setCells_block {b : Nat} {et : TypeId} : ∀ (vs : List Value) (o : Nat) (w : World) (c : Array Value), w.heap[b]? = some (.cells c et (0, 0)) → (w.setCells b o vs).heap[b]? = some (.cells (spliceA c o vs) et (0, 0))
  | [], _, _, _, h => h
  | v :: vs, o, w, c, h => by
    have hs := setCell_setBlk (o := o) h v
    have h2 : (w.setCell ⟨b, o, none⟩ v).heap[b]? = some (.cells (c.setIfInBounds o v) et (0, 0)) := by rw [hs]; exact setBlk_eq (lt_of_block h)
    exact setCells_block vs (o + 1) _ _ h2

theorem fnOk_concatO {P : Program} {G : Nat → Option (List V)} {f : FuncId} {t : Ty} {TS TE : TypeId} {bytes : Nat} (hu : P.underlying TS = some (.slice TE))
    (walk : ∀ (oa : Option Addr) (b0 off0 N cap0 : Nat) (hd : Nat → Option Addr) (ln cp : Nat → Nat) (rows : Nat → List Value) (w : World),
      (0 < N → oa = some ⟨b0, off0, none⟩) → (0 < N → b0 < w.heap.size) → N ≤ 1048576 → (∀ j, j < N → w.cell? ⟨b0, off0 + j, none⟩ = some (.slice (hd j) (ln j) (cp j))) →
      (∀ j, j < N → ∀ W : World, (∀ i, i < w.heap.size → W.heap[i]? = w.heap[i]?) → Src P t.size TS (.slice (hd j) (ln j) (cp j)) (ln j) (rows j) W) → sumU ln N * bytes ≤ 140737488355328 →
      Calls P f #[.slice oa N cap0] w fun e w' => ∃ v, e = .returned v ∧ ((sumU ln N = 0 ∧ v = .slice none 0 0 ∧ w' = w) ∨
        (0 < sumU ln N ∧ ∃ (G : Nat) (Z : Array Value), v = .slice (some ⟨w.heap.size, 0, none⟩) (sumU ln N) G ∧ sumU ln N ≤ G ∧ Z.size = G * t.size ∧ w' = (w.alloc (.cells Z TE)).drew.setCells w.heap.size 0 (rowsU rows N)))) :
    FnOk unitSig P G f (callS (specX [.sl (.sl t)] (.o t) (fun x => if (2 * x.1.flatten.length + 1024) * bytes ≤ 140737488355328 ∧ x.1.length ≤ 1048576 then some x.1.flatten else none))) := by
  intro w F O s args ds s' r hsig hG hF hlen hrd hspec
  simp only [callS, specX, specG] at hspec
  cases hx : decS [.sl (.sl t)] ds with
  | none => grind
  | some x =>
    rw [hx] at hspec
    have hwk := decS_sound [.sl (.sl t)] ds x hx
    have hdl : ds.length = 1 := hwk.len
    have hal : args.size = 1 := hlen.trans hdl
    obtain ⟨xss, u⟩ := x
    have hv : Rd w F args[0] (.tl (.sl t) xss) := hwk.get 0 (ds[0]'(by omega)) (.tl (.sl t) xss) (by simp) rfl w F _ (hrd 0 _ _ (by simp) (by simp))
    by_cases hb : (2 * xss.flatten.length + 1024) * bytes ≤ 140737488355328 ∧ xss.length ≤ 1048576
    · simp only [if_pos hb, Option.map_some, Option.some.injEq, Prod.mk.injEq] at hspec
      obtain ⟨rfl, rfl⟩ := hspec
      have hF' : ∀ b : Nat, F b → b < w.heap.size := fun b hb => (hF b hb).1
      obtain ⟨oa, b0, off0, cap0, hd, cp, rows, ha, h1, h2, h3, h4, h5⟩ := parts_of (P := P) hu hv hF'
      have hargs : args = #[.slice oa xss.length cap0] := by
        grind
      have hsum : sumU (fun j => ((xss[j]?).getD []).length) xss.length = xss.flatten.length := by rw [sum_flat xss _ (Nat.le_refl _), List.take_length]
      have hrows : RowsRd w F t xss.flatten (rowsU rows xss.length) := by
        have := rows_flat h4 xss.length (Nat.le_refl _)
        grind
      have hbb : xss.flatten.length * bytes ≤ 140737488355328 := Nat.le_trans (Nat.mul_le_mul_right _ (by omega)) hb.1
      have hcall := walk oa b0 off0 xss.length cap0 hd (fun j => ((xss[j]?).getD []).length) cp rows w h1 h2 hb.2 h3 h5 (by grind)
      rw [← hargs] at hcall
      refine hcall.mono ?_
      rw [hsum]
      rintro e w' ⟨v, rfl, (⟨h0, rfl, rfl⟩ | ⟨h0, Gc, Z, rfl, hle, hZ, rfl⟩)⟩
      · have hnil : xss.flatten = [] := List.eq_nil_of_length_eq_zero h0
        refine ⟨_, F, O, rfl, hsig, Keep.refl _ _, fun b hb => .inl hb, .refl _ _, fun b hb => ⟨.inl hb, hF b hb⟩, .inl ⟨?_, none, rfl⟩⟩
        rw [hnil]; rfl
      · obtain ⟨e1, e2, e3, e4, e5⟩ := setCells_rest w.heap.size (rowsU rows xss.length) 0 (w.alloc (.cells Z TE)).drew
        have hsz : ((w.alloc (.cells Z TE)).drew.setCells w.heap.size 0 (rowsU rows xss.length)).heap.size = w.heap.size + 1 := by
          rw [e5]
          show (w.heap.push _).size = _
          simp
        have hold : ∀ i, i < w.heap.size → ((w.alloc (.cells Z TE)).drew.setCells w.heap.size 0 (rowsU rows xss.length)).heap[i]? = w.heap[i]? := fun i hi => by
          grind [setCells_other, Nat.ne_of_lt, alloc_old]
        have hrl := hrows.1
        have hZl : xss.flatten.length * t.size ≤ Z.size := by rw [hZ]; exact Nat.mul_le_mul_right _ hle
        refine ⟨_, F, O, rfl, hsig, ⟨e1, e2, e3, by omega, fun b hb _ => hold b hb, ?_⟩, fun b hb => .inl hb, .refl _ _, ?_, .inr ⟨?_, w.heap.size, Gc, ?_, Nat.le_refl _, by omega, ?_, hsig.1 _, t.size, ?_⟩⟩
        · rw [e4]
          show w.drawn ≤ w.drawn + 1
          omega
        · grind
        · intro hh
          have : xss.flatten.length = 0 := by
            have := congrArg List.length hh
            grind
          omega
        · grind
        · grind
        · have hm : RowsRd ((w.alloc (.cells Z TE)).drew.setCells w.heap.size 0 (rowsU rows xss.length)) F t xss.flatten (rowsU rows xss.length) :=
            hrows.mono (fun b hb => hb) (fun b hb => hold b (hF' b hb))
          have hblk := setCells_block (rowsU rows xss.length) 0 (w.alloc (.cells Z TE)).drew Z (et := TE) (b := w.heap.size) alloc_new
          refine ⟨_, TE, hblk, by rw [spliceA_size]; exact hZ, by grind, ?_, ?_⟩
          · intro e he
            obtain ⟨y, _, rfl⟩ := List.mem_map.1 he
            exact enc_len t y
          · intro i j e d x he hd hx
            obtain ⟨x', hx', hr⟩ := hm.2 i j e d he hd
            have hlt := (List.getElem?_eq_some_iff.1 hx').1
            rw [spliceA_get _ _ _ _ (by omega), if_pos ⟨Nat.zero_le _, by omega⟩, Nat.sub_zero, hx'] at hx
            grind
    grind

/-- What is handed back as the caller's own may be taken as it is. -/
theorem fnOk_ownp {Γ : Sig} {P : Program} {G : Nat → Option (List V)} {f : FuncId} {X : Type} {dec : List V → Option X} {t : Ty} {g : X → Option (List t.El)} (h : FnOk Γ P G f (callS (specG dec (.o t) g))) : FnOk Γ P G f (callS (specG dec (.p (.sl t)) g)) := by
  intro w F O s args ds s' r hsig hG hF hlen hrd hspec
  simp only [callS, specG] at hspec
  cases hx : dec ds with
  | none => rw [hx] at hspec; cases hspec
  | some x =>
    rw [hx] at hspec
    simp only [Option.map_eq_some_iff, Prod.mk.injEq] at hspec
    obtain ⟨y, hy, rfl, rfl⟩ := hspec
    have hcall := h w F O s args ds s (.ownT t y) hsig hG hF hlen hrd (by simp only [callS, specG, hx, hy, Option.map_some]; rfl)
    refine hcall.mono ?_
    rintro e w' ⟨v, F', O', rfl, g1, g2, g3, g4, g5, g6⟩
    obtain ⟨F'', k1, kh, k2, k3⟩ := fitRV_sound (r := .ownT t y) (r' := .p (.tl t y)) (by simp [fitRV, fitL, castL]) g6
    refine ⟨v, F'', O', rfl, Γ.mono g1 kh (fun _ _ => rfl) (fun _ _ h => ⟨k1 _ h, rfl⟩), g2, g3, g4.trans (.of_reg k1 kh) (Nat.le_refl _), ?_, k3⟩
    intro b hb
    rcases k2 b hb with hb | ⟨h1, h2, h3⟩
    · exact g5 b hb
    · exact ⟨.inr h1, h2, h3⟩
end Go.Ve
