/-
  Functions out of code, part 7: slices that go by a number: a state of lists; append.
  Functions out of code, part 8: contracts over a state of lists; from such a state to none, and from none to any.
  Functions out of code, part 9: a function with a state of lists of its own is a function without.
-/
import Derived.Test.YtcnlcmbchljpgaaGreatQt10
set_option linter.unusedVariables false
namespace Go.Ve
open Go
abbrev HSt (t : Ty) := List (Option (List t.El))
structure zTS (t : Ty) (st : HSt t) (F : Blk → Prop) (O : Nat → Prop) (w : World) (hb hc : Nat → Nat) : Prop where
 hdl : ∀ id xs, st[id]? = some (some xs) → ∀ a n c, F (.h id a n c) ↔ (a = some ⟨hb id, 0, none⟩ ∧ n = xs.length ∧ c = hc id)
 out : ∀ id, st.length ≤ id → ∀ a n c, ¬ F (.h id a n c)
 row : ∀ id xs, st[id]? = some (some xs) → xs ≠ [] ∧ O (hb id) ∧ qH w (fun _ => False) (hb id) t.size (hc id) (xs.map t.enc)
 dist : ∀ id id' xs xs', st[id]? = some (some xs) → st[id']? = some (some xs') → hb id = hb id' → id = id'
 own : ∀ b, O b → ∃ id xs, st[id]? = some (some xs) ∧ hb id = b
theorem qH.same {w w' : World} {F : Blk → Prop} {b k cap : Nat} {es : List V} (h : qH w (fun _ => False) b k cap es) (hw : w'.heap[b]? = w.heap[b]?) : qH w' F b k cap es := by
 obtain ⟨c, et, h1, h2, h3, h4, h5⟩ := h
 exact ⟨c, et, hw.trans h1, h2, h3, h4, fun i j e d x a1 a2 a3 => (h5 i j e d x a1 a2 a3).mono (fun _ h => h.elim) (fun _ h => h.elim)⟩
def jO (t : Ty) : Sig where
 St := HSt t
 R := fun st F O w => ∃ hb hc, zTS t st F O w hb hc
 mono := by
  rintro s F F' O w w' ⟨hb, hc, h⟩ hF hO
  refine ⟨hb, hc, ?_, ?_, ?_, h.dist, h.own⟩
  ·intro id xs hx a n c; rw [hF]; exact h.hdl id xs hx a n c
  ·intro id hx a n c hh; exact h.out id hx a n c ((hF id a n c).1 hh)
  ·intro id xs hx
   obtain ⟨h1, h2, h3⟩ := h.row id xs hx
   exact ⟨h1, h2, h3.same (hO _ h2)⟩
 inb := by
  rintro s F O w ⟨hb, hc, h⟩ b hO
  obtain ⟨id, xs, h1, rfl⟩ := h.own b hO
  obtain ⟨_, _, c, et, h3, _⟩ := h.row id xs h1
  exact (Array.getElem?_eq_some_iff.1 h3).1
def zOC {t : Ty} (bytes : Nat) (st : HSt t) (q : Option (Nat × Nat)) (ys : List t.El) : Option (HSt t × Option (Nat × Nat)) :=
 match ys with
 | [] => none
 | y :: r => match q with
  | none => if (2 * (y :: r).length + 1024) * bytes ≤ 140737488355328 then some (st ++ [some (y :: r)], some (st.length, (y :: r).length)) else none
  | some (id, _) => match st[id]? with
   | some (some xs) => if (2 * (xs.length + (y :: r).length) + 1024) * bytes ≤ 140737488355328 then some (st.set id none ++ [some (xs ++ y :: r)], some (st.length, (xs ++ y :: r).length)) else none
   | _ => none
theorem zCr {t : Ty} (h : t.flat = true) {x : t.El} {d : V} (hd : d ∈ (t.enc x).cells) {w w' : World} {F F' : Blk → Prop} {v : Value} (hr : Rd w F v d) : Rd w' F' v d := by
 rw [qN] at hd
 have := zAj (zPj t x h d hd)
 rw [this] at hr ⊢
 rw [Rd.eq_val hr]
 exact .val _
theorem zVS {t : Ty} (h : t.flat = true) {w : World} {F F' : Blk → Prop} {b k cap : Nat} {xs : List t.El} (hr : qH w F b k cap (xs.map t.enc)) : qH w F' b k cap (xs.map t.enc) := by
 obtain ⟨c, et, h1, h2, h3, h4, h5⟩ := hr
 refine ⟨c, et, h1, h2, h3, h4, fun i j e d x a1 a2 a3 => ?_⟩
 simp only [List.getElem?_map, Option.map_eq_some_iff] at a1
 obtain ⟨y, hy, rfl⟩ := a1
 exact zCr h (List.mem_of_getElem? a2) (h5 i j (t.enc y) d x (by simp [hy]) a2 a3)
theorem qR {α : Type} {st : List (Option α)} {id j : Nat} {z : α} {xs : α} (h : (st.set id none ++ [some z])[j]? = some (some xs)) : (j = st.length ∧ xs = z) ∨ (j ≠ id ∧ j < st.length ∧ st[j]? = some (some xs)) := by
 by_cases hj : j < st.length
 ·rw [List.getElem?_append_left (by simpa using hj)] at h
  by_cases hid : id = j
  ·subst hid; rw [List.getElem?_set_self hj] at h; cases h
  ·rw [List.getElem?_set_ne hid] at h; exact .inr ⟨Ne.symm hid, hj, h⟩
 ·rw [List.getElem?_append_right (by simp; omega)] at h
  simp only [List.length_set] at h
  have h0 : j - st.length = 0 := by
   rcases Nat.eq_zero_or_pos (j - st.length) with h0 | h0
   ·exact h0
   ·rw [List.getElem?_eq_none (by simp; omega)] at h; cases h
  rw [h0] at h
  simp at h
  exact .inl ⟨by omega, h.symm⟩
section
variable {t : Ty} {P : Program}
theorem zHH (hfl : t.flat = true) {st : HSt t} {F : Blk → Prop} {O : Nat → Prop} {w w' : World} {hb hc : Nat → Nat} (h : zTS t st F O w hb hc) (hF : ∀ b : Nat, F b → b < w.heap.size ∧ ¬ O b)
  {id : Nat} {zs : List t.El} (hz : zs ≠ []) {blk cap : Nat} {O' : Nat → Prop} (hk : zCo O w w') (hO1 : ∀ b, O' b ↔ (b = blk ∨ (O b ∧ ∀ xs, st[id]? = some (some xs) → b ≠ hb id)))
  (hblk : O blk ∨ w.heap.size ≤ blk) (hblt : blk < w'.heap.size) (hrow : qH w' F blk t.size cap (zs.map t.enc))
  (hold : ∀ j xs, j ≠ id → st[j]? = some (some xs) → hb j ≠ blk ∧ w'.heap[hb j]? = w.heap[hb j]?) (hid : id < st.length → ∃ xs, st[id]? = some (some xs)) :
  zTP (jO t) w F O (.slice (some ⟨blk, 0, none⟩) zs.length cap) w' (st.set id none ++ [some zs]) (.rf (some (st.length, zs.length))) := by
 let F' : Blk → Prop := fun b => F b ∨ b = .h st.length (some ⟨blk, 0, none⟩) zs.length cap
 have hOO : ∀ b, O' b → O b ∨ w.heap.size ≤ b := fun b hb0 => by
  rcases (hO1 b).1 hb0 with rfl | h1
  ·exact hblk
  ·exact .inl h1.1
 refine ⟨F', O', ⟨fun j => if j = st.length then blk else hb j, fun j => if j = st.length then cap else hc j, ?_, ?_, ?_, ?_, ?_⟩, hk, hOO, fun b hb => .inl hb, ?_, .rf _ _ _ _ (.inr rfl)⟩
 ·intro j xs hj a n c
  rcases qR hj with ⟨rfl, rfl⟩ | ⟨hne, hlt, hj⟩
  ·simp only [if_true, F']
   constructor
   ·rintro (hh | hh)
    ·exact absurd hh (h.out _ (Nat.le_refl _) _ _ _)
    ·cases hh; exact ⟨rfl, rfl, rfl⟩
   ·rintro ⟨rfl, rfl, rfl⟩; exact .inr rfl
  ·have hne' : j ≠ st.length := by omega
   simp only [if_neg hne', F']
   rw [← h.hdl j xs hj]
   constructor
   ·rintro (hh | hh)
    ·exact hh
    ·cases hh; exact absurd rfl hne'
   ·exact .inl
 ·intro j hj a n c
  simp only [List.length_append, List.length_set, List.length_singleton] at hj
  rintro (hh | hh)
  ·exact h.out j (by omega) _ _ _ hh
  ·cases hh; omega
 ·intro j xs hj
  rcases qR hj with ⟨rfl, rfl⟩ | ⟨hne, hlt, hj⟩
  ·simp only [if_true]
   exact ⟨hz, (hO1 _).2 (.inl rfl), zVS hfl hrow⟩
  ·have hne' : j ≠ st.length := by omega
   simp only [if_neg hne']
   obtain ⟨h1, h2, h3⟩ := h.row j xs hj
   refine ⟨h1, (hO1 _).2 (.inr ⟨h2, fun ys hy hh => hne (h.dist j id xs ys hj hy hh)⟩), h3.same (hold j xs hne hj).2⟩
 ·intro j j' xs xs' hj hj' hh
  rcases qR hj with ⟨rfl, rfl⟩ | ⟨hne, hlt, hj1⟩ <;> rcases qR hj' with ⟨rfl, rfl⟩ | ⟨hne', hlt', hj1'⟩
  ·rfl
  ·have h1 : j' ≠ st.length := by omega
   simp only [if_true, if_neg h1] at hh
   exact absurd hh.symm (hold j' xs' hne' hj1').1
  ·have h1 : j ≠ st.length := by omega
   simp only [if_true, if_neg h1] at hh
   exact absurd hh (hold j xs hne hj1).1
  ·have h1 : j ≠ st.length := by omega
   have h2 : j' ≠ st.length := by omega
   simp only [if_neg h1, if_neg h2] at hh
   exact h.dist j j' xs xs' hj1 hj1' hh
 ·intro b hb0
  rcases (hO1 b).1 hb0 with rfl | ⟨h1, h2⟩
  ·refine ⟨st.length, zs, ?_, by simp⟩
   rw [List.getElem?_append_right (by simp)]; simp
  ·obtain ⟨j, xs, hj, rfl⟩ := h.own b h1
   have hlt := (List.getElem?_eq_some_iff.1 hj).1
   have hji : j ≠ id := by
    rintro rfl
    exact h2 xs hj rfl
   refine ⟨j, xs, ?_, by simp [show j ≠ st.length by omega]⟩
   rw [List.getElem?_append_left (by simpa using hlt), List.getElem?_set_ne (Ne.symm hji)]
   exact hj
 ·intro b hb0
  rcases hb0 with hb0 | hb0
  ·obtain ⟨h1, h2⟩ := hF b hb0
   refine ⟨.inl hb0, Nat.lt_of_lt_of_le h1 hk.size, fun ho => ?_⟩
   rcases hOO b ho with ho | ho
   ·exact h2 ho
   ·omega
  ·cases hb0
theorem zXH (hfl : t.flat = true) {bytes : Nat} {st st' : HSt t} {q q' : Option (Nat × Nat)} {ys : List t.El} (h : zOC bytes st q ys = some (st', q')) :
  zYg (jO t) P st q t ys bytes st' (.rf q') := by
 intro ts ty t0 t1 el el1 info z w F O v0 v1 hts0 hts1 hu0 hu1 hinfo hz hsz hby hzc hbytes hR hF hr0 hr1
 subst hbytes
 obtain ⟨hb, hc, hR⟩ := hR
 have hk2 : ∀ q, q ∈ ys.map t.enc → q.cells.length = info.size := by
  intro q hq
  simp only [List.mem_map] at hq
  obtain ⟨y, _, rfl⟩ := hq
  rw [jZ]; exact hsz
 have ho2 : ∀ q, q ∈ ys.map t.enc → q.cells.all V.one = true := by
  intro q hq
  simp only [List.mem_map] at hq
  obtain ⟨y, _, rfl⟩ := hq
  rw [qN]; exact zGS t y
 obtain ⟨a1, cap1, cells, hv1, hcap1, hl2, hrun2, hr2⟩ := zIN (P := P) (β := ⟨id, id⟩) (al := fun _ => False) (x := .p (.sl (ys.map t.enc))) hr1.untl rfl hk2
 simp only [List.length_map] at hv1 hcap1 hl2 hrun2
 have hs : jR P el = some info.size := zAY hinfo
 have hrest : ∀ m, (Builtin.zeroCells z.cells m).size = m * info.size := by
  intro m; simp only [Builtin.zeroCells, Array.size_map, Array.size_range]; rw [hzc]
 unfold zOC at h
 split at h
 ·cases h
 ·rename_i y r
  have hl2' : cells.length = ((y :: r).map t.enc).length * info.size := by simpa using hl2
  split at h
  ·-- nil
   split at h
   ·rename_i hbound
    simp only [Option.some.injEq, Prod.mk.injEq] at h
    obtain ⟨rfl, rfl⟩ := h
    cases hr0 with
    | rfn =>
     obtain ⟨newCap, hnc, hrun⟩ := zAq (P := P) (w := w) (ts := ts) (ty := ty) (len := 0) (cap := 0) (n := (y :: r).length) (cap1 := cap1) (a0 := none) (a1 := a1) (cells := cells) (old := []) hts0 hts1 hu0 hu1 hinfo hz
      (by rw [← hv1]; exact hrun2 w.drew rfl) (by simp [Builtin.firstCells]) (by simp) hby (by simpa using hbound)
     rw [← hv1] at hrun
     simp only [Nat.zero_add] at hnc hrun
     refine ⟨_, _, hrun, ?_⟩
     have hrow := zIZ (w' := w.drew.alloc (.cells (([] : List Value).toArray ++ (cells.toArray ++ Builtin.zeroCells z.cells (newCap - (y :: r).length))) el)) (F := F) (b := w.heap.size) (k := info.size) (cap := newCap) (es := []) (es2 := (y :: r).map t.enc) (et := el) (old := []) (cells := cells)
      (by simp) hk2 (by simp) hl2' (fun i j q y hi hj => by simp at hi) (fun i j e d hi hj => by
       obtain ⟨x, hx, hrx⟩ := hr2 i j e d hi hj
       simp only [List.getElem?_map, Option.map_eq_some_iff] at hi
       obtain ⟨y0, _, rfl⟩ := hi
       exact ⟨x, hx, zCr hfl (List.mem_of_getElem? hj) hrx⟩) (by simpa using hnc) (by simpa using hrest _) (zAf (w := w.drew))
     rw [List.nil_append, ← hsz] at hrow
     have hset : st.set st.length none = st := List.set_eq_of_length_le (Nat.le_refl _)
     have := zHH (w' := w.drew.alloc (.cells (([] : List Value).toArray ++ (cells.toArray ++ Builtin.zeroCells z.cells (newCap - (y :: r).length))) el)) (O' := fun b => b = w.heap.size ∨ O b) (id := st.length) hfl hR hF (zs := y :: r) (by simp) (blk := w.heap.size) (cap := newCap)
      ⟨rfl, rfl, rfl, by simp, fun b hb _ => wN (w := w.drew) hb, Nat.le_succ _⟩ (fun b => by
       constructor
       ·rintro (rfl | hh)
        ·exact .inl rfl
        ·exact .inr ⟨hh, fun xs hx => by simp at hx⟩
       ·rintro (rfl | hh)
        ·exact .inl rfl
        ·exact .inr hh.1) (.inr (Nat.le_refl _)) (by simp) hrow (fun j xs _ hj => by
       have hlt := (jO t).inb (⟨hb, hc, hR⟩ : (jO t).R st F O w) _ (hR.row j xs hj).2.1
       exact ⟨by omega, wN (w := w.drew) hlt⟩) (fun hh => by omega)
     rw [hset] at this
     exact this
   ·cases h
  ·rename_i id n0
   split at h
   ·rename_i xs hst
    split at h
    ·rename_i hbound
     simp only [Option.some.injEq, Prod.mk.injEq] at h
     obtain ⟨rfl, rfl⟩ := h
     obtain ⟨hxne, hOid, hrow0⟩ := hR.row id xs hst
     cases hr0 with
     | rf _ a n c hh =>
      obtain ⟨rfl, rfl, rfl⟩ := (hR.hdl id xs hst _ _ _).1 hh
      obtain ⟨cc, et, g1, g2, g3, g4, g5⟩ := hrow0
      simp only [List.length_map] at g3
      rw [hsz] at g2 g4 g5
      by_cases hroom : xs.length + (y :: r).length ≤ hc id
      ·have hfit : xs.length * info.size + (y :: r).length * info.size ≤ cc.size := by rw [← Nat.add_mul, g2]; exact Nat.mul_le_mul_right _ hroom
       have hrun := zE3 (P := P) (w := w) (ts := ts) (ty := ty) (b := hb id) (off := 0) (len := xs.length) (cap := hc id) (n := (y :: r).length) (cap1 := cap1) (a1 := a1) (cells := cells) (c := cc) (et := et) hts0 hts1 hu0 hu1 hs
        (by rw [← hv1]; exact hrun2 w rfl) hl2 g1 (by omega) (zPJ hl2' hk2 ho2 hr2) hroom
       rw [← hv1] at hrun
       simp only [Nat.zero_add] at hrun
       refine ⟨_, _, hrun, ?_⟩
       have hlt : hb id < w.heap.size := (Array.getElem?_eq_some_iff.1 g1).1
       have hrow := zRe (w' := setBlk w (hb id) (.cells (j4 cc (xs.length * info.size) cells) et (0, 0))) (F := F) (b := hb id) (k := info.size) (cap := hc id) (es := xs.map t.enc) (es2 := (y :: r).map t.enc) (c := cc) (et := et) (cells := cells)
        (by simpa using g2) g4 (fun i j e d x hi hj hx => by
         simp only [List.getElem?_map, Option.map_eq_some_iff] at hi
         obtain ⟨y0, hy0, rfl⟩ := hi
         exact zCr hfl (List.mem_of_getElem? hj) (g5 i j _ d x (by simp [hy0]) hj hx)) hk2 hl2' (fun i j e d hi hj => by
         obtain ⟨x, hx, hrx⟩ := hr2 i j e d hi hj
         simp only [List.getElem?_map, Option.map_eq_some_iff] at hi
         obtain ⟨y0, _, rfl⟩ := hi
         exact ⟨x, hx, zCr hfl (List.mem_of_getElem? hj) hrx⟩) (by simpa using hroom) (by simpa using zBA hlt)
       rw [← List.map_append, ← hsz] at hrow
       have := zHH (w' := setBlk w (hb id) (.cells (j4 cc (xs.length * info.size) cells) et (0, 0))) (O' := O) (id := id) hfl hR hF (zs := xs ++ y :: r) (by simp) (blk := hb id) (cap := hc id)
        ⟨rfl, rfl, rfl, by rw [zBO]; exact Nat.le_refl _, fun b hb0 hno => j8 (fun hh => hno (by rw [hh]; exact hOid)), Nat.le_refl _⟩ (fun b => by
         constructor
         ·intro hh
          by_cases hbb : b = hb id
          ·exact .inl hbb
          ·exact .inr ⟨hh, fun _ _ => hbb⟩
         ·rintro (rfl | hh)
          ·exact hOid
          ·exact hh.1) (.inl hOid) (by rw [zBO]; exact hlt) (by rw [hsz] at hrow ⊢; exact hrow) (fun j xs' hne hj => by
         have h1 : hb j ≠ hb id := fun hh => hne (hR.dist j id xs' xs hj hst hh)
         exact ⟨h1, j8 h1⟩) (fun _ => ⟨xs, hst⟩)
       simpa using this
      ·obtain ⟨a0, cap0, old, hv0', hcap0, hl1, hrun1, hr1⟩ := zIN (P := P) (w := w) (F := F) (β := ⟨fun _ => hb id, fun _ => hb id⟩) (al := fun _ => True) (x := .ow 0 info.size (xs.map t.enc)) (v := .slice (some ⟨hb id, 0, none⟩) xs.length (hc id)) (k := info.size)
        ⟨trivial, hc id, by simp, cc, et, g1, g2, by simpa using g3, g4, fun i j e d x hi hj hx => (g5 i j e d x hi hj hx).mono (fun _ h => h.elim) (fun _ h => h.elim)⟩ rfl g4
       simp only [List.length_map] at hv0' hcap0 hl1 hrun1
       have hcc : cap0 = hc id := by simp at hv0'; exact hv0'.2.symm
       have haa : a0 = some ⟨hb id, 0, none⟩ := by simp at hv0'; exact hv0'.1.symm
       subst hcc haa
       obtain ⟨newCap, hnc, hrun⟩ := zAq (P := P) (w := w) (ts := ts) (ty := ty) (len := xs.length) (cap := hc id) (n := (y :: r).length) (cap1 := cap1) (a0 := some ⟨hb id, 0, none⟩) (a1 := a1) (cells := cells) (old := old) hts0 hts1 hu0 hu1 hinfo hz
        (by rw [← hv1]; exact hrun2 w.drew rfl) (hrun1 w.drew rfl) hroom hby hbound
       rw [← hv1] at hrun
       refine ⟨_, _, hrun, ?_⟩
       have hrow := zIZ (w' := w.drew.alloc (.cells (old.toArray ++ (cells.toArray ++ Builtin.zeroCells z.cells (newCap - (xs.length + (y :: r).length)))) el)) (F := F) (b := w.heap.size) (k := info.size) (cap := newCap) (es := xs.map t.enc) (es2 := (y :: r).map t.enc) (et := el) (old := old) (cells := cells) (rest := Builtin.zeroCells z.cells (newCap - (xs.length + (y :: r).length)))
        g4 hk2 (by simpa using hl1) hl2' (fun i j e d hi hj => by
         obtain ⟨x, hx, hrx⟩ := hr1 i j e d hi hj
         simp only [List.getElem?_map, Option.map_eq_some_iff] at hi
         obtain ⟨y0, _, rfl⟩ := hi
         exact ⟨x, hx, zCr hfl (List.mem_of_getElem? hj) hrx⟩) (fun i j e d hi hj => by
         obtain ⟨x, hx, hrx⟩ := hr2 i j e d hi hj
         simp only [List.getElem?_map, Option.map_eq_some_iff] at hi
         obtain ⟨y0, _, rfl⟩ := hi
         exact ⟨x, hx, zCr hfl (List.mem_of_getElem? hj) hrx⟩) (by simpa using hnc) (by simpa using hrest _) (zAf (w := w.drew))
       rw [← List.map_append, ← hsz] at hrow
       have := zHH (w' := w.drew.alloc (.cells (old.toArray ++ (cells.toArray ++ Builtin.zeroCells z.cells (newCap - (xs.length + (y :: r).length)))) el)) (O' := fun b => b = w.heap.size ∨ (O b ∧ b ≠ hb id)) (id := id) hfl hR hF (zs := xs ++ y :: r) (by simp) (blk := w.heap.size) (cap := newCap)
        ⟨rfl, rfl, rfl, by simp, fun b hb _ => wN (w := w.drew) hb, Nat.le_succ _⟩ (fun b => by
         constructor
         ·rintro (rfl | hh)
          ·exact .inl rfl
          ·exact .inr ⟨hh.1, fun _ _ => hh.2⟩
         ·rintro (rfl | hh)
          ·exact .inl rfl
          ·exact .inr ⟨hh.1, hh.2 xs hst⟩) (.inr (Nat.le_refl _)) (by simp) (by rw [hsz] at hrow ⊢; exact hrow) (fun j xs' _ hj => by
         have hlt := (jO t).inb (⟨hb, hc, hR⟩ : (jO t).R st F O w) _ (hR.row j xs' hj).2.1
         exact ⟨by omega, wN (w := w.drew) hlt⟩) (fun _ => ⟨xs, hst⟩)
       simpa using this
    ·cases h
   ·cases h
end
end Go.Ve

namespace Go.Ve
open Go
def zR.addH {t : Ty} (S : zR (jO t)) : zR (jO t) := fun f s ds =>
 match Nat.beq f uI with
 | true => match ds with
  | [.bot, .rf q, .tl t' ys, .val (.int _ b)] => match zD9 t' t ys with
   | .some zs => .some ⟨HSt t × Option (Nat × Nat), zOC b.toNat s q zs, fun y => y.1, fun y => .p (.rf y.2), false⟩
   | .none => S f s ds
  | _ => S f s ds
 | false => S f s ds
theorem zLb {t : Ty} {P : Program} {G : Nat → Option (List V)} {S : zR (jO t)} (hS : qG (jO t) P G S.toS) (hfl : t.flat = true) (hno : P.funcs[uI]? = none) :
  qG (jO t) P G S.addH.toS := by
 have e2 : ∀ g, g ≠ uI → S.addH.toS g = S.toS g := by
  intro g hg
  funext s ds
  have : Nat.beq g uI = false := by
   cases hb : Nat.beq g uI with
   | false => rfl
   | true => exact absurd (Nat.eq_of_beq_eq_true hb) hg
  simp only [zR.toS, zR.addH, this]
 have e1 : ∀ (s : HSt t) (ds : List V) r, S.addH.toS uI s ds = some r → S.toS uI s ds = some r ∨
   ∃ q ys zs k b, ds = [.bot, .rf q, .tl t ys, .val (.int k b)] ∧ ∃ q', zOC b.toNat s q ys = some (zs, q') ∧ r = (zs, .p (.rf q')) := by
  intro s ds r h
  have ht : Nat.beq uI uI = true := Nat.beq_refl _
  simp only [zR.toS, zR.addH, ht] at h
  split at h
  ·rename_i c hc
   split at hc
   ·rename_i q t' ys k b
    cases hzs : zD9 t' t ys with
    | none => rw [hzs] at hc; simp only at hc; exact .inl (by simp only [zR.toS, hc]; exact h)
    | some zs =>
     rw [hzs] at hc
     obtain ⟨htt, hz⟩ := xA (xG hzs)
     subst htt
     subst hz
     simp only [Option.some.injEq] at hc
     rw [← hc] at h
     simp only [Option.map_eq_some_iff] at h
     obtain ⟨⟨st', q'⟩, h1, h2⟩ := h
     exact .inr ⟨q, ys, st', k, b, rfl, q', h1, h2.symm⟩
   ·exact .inl (by simp only [zR.toS, hc]; exact h)
  ·cases h
 refine ⟨?_, ?_, ?_, ?_⟩
 ·intro g
  by_cases hg : g = uI
  ·subst hg
   intro w F O s args ds s' r a1 a2 a3 a4 a5 a6
   rcases e1 s ds _ a6 with h | ⟨q, ys, zs, k, b, rfl, _⟩
   ·exact hS.ok uI w F O s args ds s' r a1 a2 a3 a4 a5 h
   ·exfalso
    have h0 : 0 < args.size := by rw [a4]; simp
    have hnb : ∀ u : Value, ¬ Rd w F u .bot := fun u h => by cases h
    exact hnb _ (a5 0 args[0] .bot (by simp [h0]) rfl)
  ·rw [e2 g hg]; exact hS.ok g
 ·intro g s ds r hr hbot
  by_cases hg : g = uI
  ·subst hg
   rcases e1 s ds _ hr with h | ⟨q, ys, zs, k, b, rfl, _⟩
   ·exact hS.is _ s ds r h hbot
   ·exact absurd rfl (hbot _)
  ·rw [e2 g hg] at hr; exact hS.is g s ds r hr hbot
 ·intro _ st q t' ys bytes st' d h
  rcases e1 _ _ _ h with h | ⟨q0, ys0, zs, k, b, heq, q', h1, h2⟩
  ·exact hS.app hno st q t' ys bytes st' d h
  ·simp only [List.cons.injEq, V.rf.injEq, V.tl.injEq, V.val.injEq, Value.int.injEq, true_and, and_true] at heq
   obtain ⟨rfl, ⟨htt, hys⟩, rfl, rfl⟩ := heq
   subst htt
   have hys := eq_of_heq hys
   subst hys
   cases h2
   simp only [Int.toNat_natCast] at h1
   exact zXH hfl h1
 ·intro f st t' xs ds st' ys d h
  by_cases hf : f = uI
  ·subst hf
   rcases e1 _ _ _ h with h | ⟨q0, ys0, zs, k, b, heq, _⟩
   ·exact hS.bor _ st t' xs ds st' ys d h
   ·simp at heq
  ·rw [e2 f hf] at h; exact hS.bor f st t' xs ds st' ys d h
section
variable {Γ : Sig} {P : Program} {G : Nat → Option (List V)}
noncomputable def zYE (L : jC) (G : Nat → Option (List V)) (S : zR Γ) (A : Nat → Option JA) (fn : Func) (c : Code) (R : RTy) (s : Γ.St) (ds : List V) : Option (Γ.St × R.El) :=
 zCO (start fn.ntmps s ds) (fun e => exC L G S A c (Γ.St × R.El) (fun k e1 _ => match k with
  | .exit _ => none
  | _ => match zCe L e1 fn with
   | some r => match R.get r with
    | some y => some (e1.st, y)
    | none => none
   | none => none) e 0)
def zLd {X : Type} (dec : List V → Option X) (R : RTy) (g : Γ.St → X → Option (Γ.St × R.El)) : Γ.St → List V → Option (zEd Γ.St) := fun s ds =>
 match dec ds with
 | some x => some ⟨Γ.St × R.El, g s x, fun y => y.1, fun y => R.res y.2, R.pl⟩
 | none => none
theorem zWv {S : zR Γ} {A : Nat → Option JA} (hst : ∀ k j, A k = some j → zD2 j.sl = true) (hmix : P.follows .mixedOrders = true) (hS : qG Γ P G S.toS) {f : FuncId} {fn : Func} {c : Code} (hf : P.funcs[f]? = some fn) (hb : fn.body = some c)
  {X : Type} {dec : List V → Option X} {enc : X → List V} (hdec : ∀ ds x, dec ds = some x → wB ds (enc x)) {R : RTy} {g : Γ.St → X → Option (Γ.St × R.El)} (h : ∀ s x, zYE (Γ := Γ) P G S A fn c R s (enc x) = g s x) : wC Γ P G f (qI (zLd dec R g)) := by
 intro w F O s args ds s' r hsig hG hF hlen hrd hspec
 simp only [qI, zLd] at hspec
 split at hspec
 ·rename_i cx hcx
  split at hcx
  ·rename_i x hx
   simp only [Option.some.injEq] at hcx
   subst hcx
   simp only [Option.map_eq_some_iff] at hspec
   obtain ⟨⟨s1, y⟩, hy, hsr⟩ := hspec
   simp only [Prod.mk.injEq] at hsr
   obtain ⟨rfl, rfl⟩ := hsr
   have hwk := hdec ds x hx
   have hlen' : args.size = (enc x).length := hlen.trans hwk.len
   have hrd' : ∀ (i : Nat) (u : Value) (d : V), args[i]? = some u → (enc x)[i]? = some d → Rd w F u d := by
    intro i u d hu hd
    have hlt : i < ds.length := by rw [hwk.len]; exact (List.getElem?_eq_some_iff.1 hd).1
    exact hwk.get i ds[i] d (by simp [hlt]) hd w F u (hrd i u ds[i] hu (by simp [hlt]))
   have hex := h s x
   rw [hy] at hex
   unfold zYE at hex
   rw [kU] at hex
   obtain ⟨k, e', d, hok, _, hend⟩ := zKH (fun k j hj => .inr (hst k j hj)) hmix hS c _ _ _ _ _ hex
   have hk : (k = .normal ∨ k = .ret) ∧ (match zCe (jC.of P) e' fn with
    | some r => match R.get r with
     | some y => some (e'.st, y)
     | none => none
    | none => none) = some (s1, y) := by
    cases k with
    | normal => exact ⟨.inl rfl, hend⟩
    | ret => exact ⟨.inr rfl, hend⟩
    | exit id => cases hend
   obtain ⟨hk, hend⟩ := hk
   split at hend
   ·rename_i r' hr'
    split at hend
    ·rename_i y' hy'
     simp only [Option.some.injEq, Prod.mk.injEq] at hend
     obtain ⟨rfl, rfl⟩ := hend
     refine calls_of_wp hf hb ?_
     have qR : ∀ t, zU w F ⟨fun _ => 0, fun _ => 0⟩ (fun _ => False) ((args ++ Array.replicate (fn.ntmps - args.size) undef).getD t undef) ((start fn.ntmps s (enc x)).get t) := by
      intro t
      simp only [start, zEo, Env.get, List.getD_eq_getElem?_getD, Array.getD_eq_getD_getElem?]
      by_cases ht : t < (enc x).length
      ·rw [List.getElem?_append_left (by simpa using ht), Array.getElem?_append_left (by omega)]
       rw [List.getElem?_map, List.getElem?_eq_getElem ht, Array.getElem?_eq_getElem (by omega)]
       exact hrd' t _ _ (by simp [show t < args.size by omega]) (by simp [ht])
      ·rw [List.getElem?_append_right (by simpa using Nat.le_of_not_lt ht), Array.getElem?_append_right (by omega), hlen']
       simp only [List.length_map]
       by_cases h2 : t - (enc x).length < fn.ntmps - (enc x).length
       ·rw [List.getElem?_replicate, if_pos h2, Array.getElem?_replicate, if_pos h2]
        exact Rd.val _
       ·rw [List.getElem?_replicate, if_neg h2]
        trivial
     have hnovar : ∀ s0, (start fn.ntmps s (enc x)).var s0 = none := by
      intro s0
      simp only [start, Env.var, List.getElem?_replicate]
      split <;> rfl
     have hinv : Inv Γ G w F O { tmps := args ++ Array.replicate (fn.ntmps - args.size) undef, defers := [] } w (start fn.ntmps s (enc x)) := by
      refine Inv.of (F := F) (O := O) (β := ⟨fun _ => 0, fun _ => 0⟩) (al := fun _ => False) ⟨zCo.refl _ w, hsig, fun b hb => .inl hb, fun b hb => ⟨.inl hb, hF b hb⟩, fun b hb => hb, fun x hx => hx.elim, fun x y hx => hx.elim, fun b n h => by cases h⟩ hG ?_ rfl qR ?_ (fun s h => h.elim)
      ·simp [start, zEo, hlen']
      ·intro s0 cs hcs; rw [hnovar] at hcs; cases hcs
     refine wp_mono (hok w F O _ w hinv) ?_
     rintro ex a' w' ⟨rfl, hi'⟩
     obtain ⟨v, F', O', h1, h2, h3, h4, h5, h6, h7⟩ := zKI rfl hi' hr'
     have hdf : a'.defers = [] := by obtain ⟨_, _, _, _, _, _, hdf, _⟩ := hi'; exact hdf
     obtain ⟨F'', g1, gh, g2, g3⟩ := RTy.get_sound hy' h7
     have h2 := Γ.mono h2 gh (fun _ _ => rfl)
     have hF'' : ∀ b : Nat, F'' b → (F b ∨ w.heap.size ≤ b) ∧ b < w'.heap.size ∧ ¬ O' b := by
      intro b hb
      rcases g2 b hb with hb | ⟨h1, h2, h3⟩
      ·exact h6 b hb
      ·exact ⟨.inr h1, h2, h3⟩
     rcases hk with rfl | rfl
     ·exact ⟨hdf, v, h1, v, F'', O', rfl, h2, h3, h4, fun b hb => g1 b (h5 b hb), hF'', g3⟩
     ·exact ⟨hdf, v, h1, v, F'', O', rfl, h2, h3, h4, fun b hb => g1 b (h5 b hb), hF'', g3⟩
    ·cases hend
   ·cases hend
  ·cases hcx
 ·cases hspec
end
def Ty.norf : Ty → Bool
 | .rf => false
 | .pair a b => a.norf && b.norf
 | .sl t => t.norf
 | _ => true
theorem zEv {w : World} {F F' : Blk → Prop} (hF : ∀ b : Nat, F b → F' b) : ∀ (t : Ty) (_ : t.norf = true) (x : t.El) (v : Value) (d : V), d ∈ t.cells x → Rd w F v d → Rd w F' v d := by
 intro t
 induction t with
 | int k => intro _ x v d hd h; simp only [Ty.cells, List.mem_singleton] at hd; subst hd; rw [Rd.eq_val h]; exact .val _
 | bool => intro _ x v d hd h; simp only [Ty.cells, List.mem_singleton] at hd; subst hd; rw [Rd.eq_val h]; exact .val _
 | str => intro _ x v d hd h; simp only [Ty.cells, List.mem_singleton] at hd; subst hd; rw [Rd.eq_val h]; exact .val _
 | unit => intro _ x v d hd h; simp [Ty.cells] at hd
 | rf => intro hn; simp [Ty.norf] at hn
 | pair a b iha ihb =>
  intro hn x v d hd h
  simp only [Ty.norf, Bool.and_eq_true] at hn
  simp only [Ty.cells, List.mem_append] at hd
  rcases hd with hd | hd
  ·exact iha hn.1 x.1 v d hd h
  ·exact ihb hn.2 x.2 v d hd h
 | sl t ih =>
  intro hn x v d hd h
  simp only [Ty.cells, List.mem_singleton] at hd
  subst hd
  refine .tl t x v ?_
  have h := h.untl
  generalize hes : x.map t.enc = es at h
  cases h with
  | slemp a cap => exact .slemp a cap
  | sl b off cap k _ g hFb hcap hk hg hr =>
   refine .sl b off cap k es g (hF b hFb) hcap hk hg ?_
   intro i j e d' hi hj
   have hi0 := hi
   rw [← hes] at hi0
   simp only [List.getElem?_map, Option.map_eq_some_iff] at hi0
   obtain ⟨y, _, rfl⟩ := hi0
   exact ih hn y _ d' (by rw [← qN]; exact List.mem_of_getElem? hj) (hr i j _ d' hi hj)
theorem zT6 {w : World} {F F' : Blk → Prop} (hF : ∀ b : Nat, F b → F' b) {t : Ty} (hn : t.norf = true) {x : t.El} {v : Value} (h : Rd w F v (t.enc x)) : Rd w F' v (t.enc x) := by
 cases t with
 | int k => rw [Rd.eq_val h]; exact .val _
 | bool => rw [Rd.eq_val h]; exact .val _
 | str => rw [Rd.eq_val h]; exact .val _
 | rf => simp [Ty.norf] at hn
 | unit =>
  cases h with
  | agg cs _ hl hh => exact .agg cs _ hl (fun i x d hi hd => by simp at hd)
 | pair a b =>
  cases h with
  | agg cs _ hl hh => exact .agg cs _ hl (fun i u d hi hd => zEv hF (.pair a b) hn x u d (List.mem_of_getElem? hd) (hh i u d hi hd))
 | sl t => exact zEv hF (.sl t) hn x v _ (by simp [Ty.cells, Ty.enc]) h
theorem zVR {w : World} {F F' : Blk → Prop} (hF : ∀ b : Nat, F b → F' b) {t : Ty} (hn : t.norf = true) {b k cap : Nat} {xs : List t.El} (hr : qH w F b k cap (xs.map t.enc)) : qH w F' b k cap (xs.map t.enc) := by
 obtain ⟨c, et, h1, h2, h3, h4, h5⟩ := hr
 refine ⟨c, et, h1, h2, h3, h4, fun i j e d x a1 a2 a3 => ?_⟩
 have a0 := a1
 simp only [List.getElem?_map, Option.map_eq_some_iff] at a0
 obtain ⟨y, hy, rfl⟩ := a0
 exact zEv hF t hn y x d (by rw [← qN]; exact List.mem_of_getElem? a2) (h5 i j (t.enc y) d x a1 a2 a3)
def RTy.norf : RTy → Bool
 | .p ty => ty.norf
 | .o ty => ty.norf
 | .tu tys => tys.all Ty.norf
theorem zKO {w : World} {F F' : Blk → Prop} (hF : ∀ b : Nat, F b → F' b) : ∀ (ts : List Ty) (x : ElS ts), ts.all Ty.norf = true → ∀ (i : Nat) (v : Value) (d : V), (vN ts x)[i]? = some d → Rd w F v d → Rd w F' v d
 | [], _, _, i, v, d, hd, _ => by simp [vN] at hd
 | t :: ts, x, hn, i, v, d, hd, h => by
  simp only [List.all_cons, Bool.and_eq_true] at hn
  cases i with
  | zero => simp only [vN, List.getElem?_cons_zero, Option.some.injEq] at hd; subst hd; exact zT6 hF hn.1 h
  | succ i => exact zKO hF ts x.2 hn.2 i v d (by simpa [vN] using hd) h
theorem zVW {N : Nat} {w : World} {F F' : Blk → Prop} {O O' : Nat → Prop} (hF : ∀ b : Nat, F b → F' b) (hF' : ∀ b : Nat, N ≤ b → F' b → F b) (hO : ∀ b, N ≤ b → O' b → O b) {R : RTy} (hn : R.norf = true) {y : R.El} {v : Value} (h : yG N w F O v (R.res y)) : yG N w F' O' v (R.res y) := by
 cases R with
 | p ty => exact zT6 (t := ty) hF hn h
 | o ty =>
  rcases h with h | ⟨h0, b, cap, h1, h2, h3, h4, h5, k, h6⟩
  ·exact .inl h
  ·exact .inr ⟨h0, b, cap, h1, h2, h3, fun hh => h4 (hF' b h2 hh), fun hh => h5 (hO b h2 hh), k, zVR (t := ty) hF hn h6⟩
 | tu tys =>
  have h : Rd w F v (.tup (vN tys y)) := h
  cases h with
  | tup cs _ hl hh => exact .tup cs _ hl (fun i u d hi hd => zKO hF tys y hn i u d hd (hh i u d hi hd))
theorem zKC {Γ : Sig} {P : Program} {G : Nat → Option (List V)} {f : FuncId} {X : Type} {dec : List V → Option X} {R : RTy} {g : X → Option R.El} (hn : R.norf = true)
  (h : wC jB P G f (qI (wM dec R g))) : wC Γ P G f (qI (wM dec R g)) := by
 intro w F O s args ds s' r hsig hG hF hlen hrd hspec
 simp only [qI, wM] at hspec
 cases hx : dec ds with
 | none => rw [hx] at hspec; cases hspec
 | some x =>
  rw [hx] at hspec
  simp only [Option.map_eq_some_iff, Prod.mk.injEq] at hspec
  obtain ⟨y, hy, rfl, rfl⟩ := hspec
  have hcall := h w F (fun _ => False) () args ds () (R.res y) (fun _ h => h) hG (fun b hb => ⟨(hF b hb).1, fun h => h⟩) hlen hrd (by simp only [qI, wM, hx, hy, Option.map_some])
  refine hcall.mono ?_
  rintro e w' ⟨v, F', O', rfl, g1, g2, g3, g4, g5, g6⟩
  let F'' : Blk → Prop := fun b => match b with
   | .b n => F' (.b n)
   | .h id a n c => F (.h id a n c)
  have hkb : ∀ b, O b → w'.heap[b]? = w.heap[b]? := fun b hb => g2.block b (Γ.inb hsig b hb) (fun h => h)
  refine ⟨v, F'', O, rfl, Γ.mono hsig (fun _ _ _ _ => Iff.rfl) hkb, ⟨g2.os, g2.tape, g2.output, g2.size, fun b hb _ => g2.block b hb (fun h => h), g2.drawn⟩, fun b hb => .inl hb, ?_, ?_, ?_⟩
  ·intro b hb
   cases b with
   | b n => exact g4 _ hb
   | h _ _ _ _ => exact hb
  ·intro b hb
   obtain ⟨h1, h2, _⟩ := g5 b hb
   refine ⟨h1, h2, fun ho => ?_⟩
   rcases h1 with h1 | h1
   ·exact (hF b h1).2 ho
   ·have := Γ.inb hsig b ho; omega
  ·exact zVW (F := F') (F' := F'') (fun b hb => hb) (fun b _ hb => hb) (fun b hb ho => by have := Γ.inb hsig b ho; omega) hn g6
@[reducible] def w5 (tE : Ty) : Ty → Ty
 | .rf => .sl tE
 | .pair a b => .pair (w5 tE a) (w5 tE b)
 | .sl t => .sl (w5 tE t)
 | .int k => .int k
 | .bool => .bool
 | .str => .str
 | .unit => .unit
def zJt {α β : Type} (f : α → Option β) : List α → Option (List β)
 | [] => some []
 | x :: r => match f x, zJt f r with
  | some y, some ys => some (y :: ys)
  | _, _ => none
def xZ {tE : Ty} (st : HSt tE) : (t : Ty) → t.El → Option (w5 tE t).El
 | .rf, o => match o with
  | none => some []
  | some (id, _) => match st[id]? with
   | some (some xs) => some xs
   | _ => none
 | .pair a b, x => match xZ st a x.1, xZ st b x.2 with
  | some y, some z => some (y, z)
  | _, _ => none
 | .sl t, xs => zJt (xZ st t) xs
 | .int _, x => some x
 | .bool, x => some x
 | .str, x => some x
 | .unit, x => some x
theorem zJs {α β : Type} {f : α → Option β} : ∀ {xs : List α} {ys : List β}, zJt f xs = some ys → xs.length = ys.length ∧ ∀ (i : Nat) (y : β), ys[i]? = some y → ∃ x, xs[i]? = some x ∧ f x = some y
 | [], ys, h => by simp only [zJt, Option.some.injEq] at h; subst h; exact ⟨rfl, fun i y h => by simp at h⟩
 | x :: r, ys, h => by
  simp only [zJt] at h
  split at h
  ·rename_i y ys' hy hys
   simp only [Option.some.injEq] at h
   subst h
   obtain ⟨h1, h2⟩ := zJs hys
   refine ⟨by simp [h1], fun i z hz => ?_⟩
   cases i with
   | zero => simp only [List.getElem?_cons_zero, Option.some.injEq] at hz; subst hz; exact ⟨x, rfl, hy⟩
   | succ i => exact h2 i z (by simpa using hz)
  ·cases h
theorem vQ (tE : Ty) : ∀ t : Ty, (w5 tE t).size = t.size
 | .rf => rfl
 | .pair a b => by simp only [w5, Ty.size]; rw [vQ tE a, vQ tE b]
 | .sl _ => rfl
 | .int _ => rfl
 | .bool => rfl
 | .str => rfl
 | .unit => rfl
section
variable {tE : Ty} {st : HSt tE} {F F' : Blk → Prop} {O : Nat → Prop} {w : World} {hb hc : Nat → Nat}
theorem zJ8 (h : zTS tE st F O w hb hc) (hF : ∀ b : Nat, F b → F' b) (hO : ∀ b, O b → F' (.b b)) : ∀ (t : Ty) (x : t.El) (y : (w5 tE t).El), xZ st t x = some y →
  ∀ (i : Nat) (v : Value) (d d' : V), (t.cells x)[i]? = some d → ((w5 tE t).cells y)[i]? = some d' → Rd w F v d → Rd w F' v d' := by
 intro t
 induction t with
 | int k =>
  intro x y hxy i v d d' hd hd' hr
  obtain rfl : x = y := Option.some.inj hxy
  have := hd.symm.trans hd'
  simp only [Option.some.injEq] at this; subst this
  cases i with
  | zero => simp only [Ty.cells, List.getElem?_cons_zero, Option.some.injEq] at hd; subst hd; rw [Rd.eq_val hr]; exact .val _
  | succ i => simp [Ty.cells] at hd
 | bool =>
  intro x y hxy i v d d' hd hd' hr
  obtain rfl : x = y := Option.some.inj hxy
  have := hd.symm.trans hd'
  simp only [Option.some.injEq] at this; subst this
  cases i with
  | zero => simp only [Ty.cells, List.getElem?_cons_zero, Option.some.injEq] at hd; subst hd; rw [Rd.eq_val hr]; exact .val _
  | succ i => simp [Ty.cells] at hd
 | str =>
  intro x y hxy i v d d' hd hd' hr
  obtain rfl : x = y := Option.some.inj hxy
  have := hd.symm.trans hd'
  simp only [Option.some.injEq] at this; subst this
  cases i with
  | zero => simp only [Ty.cells, List.getElem?_cons_zero, Option.some.injEq] at hd; subst hd; rw [Rd.eq_val hr]; exact .val _
  | succ i => simp [Ty.cells] at hd
 | unit => intro x y hxy i v d d' hd; simp [Ty.cells] at hd
 | rf =>
  intro x y hxy i v d d' hd hd' hr
  cases i with
  | succ i => simp [Ty.cells] at hd
  | zero =>
   simp only [Ty.cells, List.getElem?_cons_zero, Option.some.injEq] at hd
   simp only [w5, Ty.cells, List.getElem?_cons_zero, Option.some.injEq] at hd'
   subst hd hd'
   cases hr with
   | rfn =>
    obtain rfl : ([] : List tE.El) = y := Option.some.inj hxy
    exact .tl tE [] _ (.slemp none 0)
   | rf id a n c hh =>
    simp only [xZ] at hxy
    split at hxy
    ·rename_i xs hxs
     obtain rfl : xs = y := Option.some.inj hxy
     obtain ⟨rfl, rfl, rfl⟩ := (h.hdl id xs hxs _ _ _).1 hh
     obtain ⟨_, h2, h3⟩ := h.row id xs hxs
     refine .tl tE xs _ ?_
     have := zGw (F' := F') h3 (fun _ h => h.elim) (hO _ h2)
     simpa using this
    ·cases hxy
 | pair a b iha ihb =>
  intro x y hxy i v d d' hd hd' hr
  simp only [xZ] at hxy
  split at hxy
  ·rename_i y1 y2 h1 h2
   obtain rfl : (y1, y2) = y := Option.some.inj hxy
   simp only [w5, Ty.cells] at hd hd'
   by_cases hi : i < (a.cells x.1).length
   ·rw [List.getElem?_append_left hi] at hd
    rw [List.getElem?_append_left (by rw [qQ, vQ]; rw [qQ] at hi; exact hi)] at hd'
    exact iha x.1 y1 h1 i v d d' hd hd' hr
   ·rw [List.getElem?_append_right (by omega)] at hd
    rw [List.getElem?_append_right (by rw [qQ, vQ]; rw [qQ] at hi; omega)] at hd'
    rw [qQ, vQ, ← qQ a x.1] at hd'
    exact ihb x.2 y2 h2 _ v d d' hd hd' hr
  ·cases hxy
 | sl t ih =>
  intro x y hxy i v d d' hd hd' hr
  cases i with
  | succ i => simp [Ty.cells] at hd
  | zero =>
   simp only [Ty.cells, List.getElem?_cons_zero, Option.some.injEq] at hd
   simp only [w5, Ty.cells, List.getElem?_cons_zero, Option.some.injEq] at hd'
   subst hd hd'
   obtain ⟨hlen, qR⟩ := zJs (show zJt (xZ st t) x = some y from hxy)
   refine .tl (w5 tE t) y v ?_
   have hr1 := hr.untl
   clear hr
   generalize hes : x.map t.enc = es at hr1
   cases hr1 with
   | slemp a cap =>
    have hx0 : x = [] := by simpa using hes
    subst hx0
    have hy0 : y = [] := List.eq_nil_of_length_eq_zero hlen.symm
    subst hy0
    exact .slemp a cap
   | sl b off cap k _ g hFb hcap hk hg hr =>
    have hel : es.length = (y.map (w5 tE t).enc).length := by rw [← hes, List.length_map, List.length_map]; exact hlen
    rw [hel] at hg hcap ⊢
    have hkk : ∀ e, e ∈ y.map (w5 tE t).enc → e.cells.length = k := by
     intro e he
     simp only [List.mem_map] at he
     obtain ⟨y0, hy0, rfl⟩ := he
     rw [jZ, vQ]
     obtain ⟨j, hj⟩ := List.getElem?_of_mem hy0
     obtain ⟨x0, hx0, _⟩ := qR j y0 hj
     have := hk (t.enc x0) (by rw [← hes]; exact List.mem_map_of_mem (List.mem_of_getElem? hx0))
     rw [jZ] at this; exact this
    refine .sl b off cap k _ g (hF b hFb) hcap hkk hg ?_
    intro i j e d' hi hj
    simp only [List.getElem?_map, Option.map_eq_some_iff] at hi
    obtain ⟨y0, hy0, rfl⟩ := hi
    obtain ⟨x0, hx0, hxy0⟩ := qR i y0 hy0
    rw [qN] at hj
    have hjl : j < (t.cells x0).length := by
     have := (List.getElem?_eq_some_iff.1 hj).1
     rw [qQ, vQ] at this; rw [qQ]; exact this
    refine ih x0 y0 hxy0 j _ (t.cells x0)[j] d' (by simp [hjl]) hj (hr i j (t.enc x0) _ (by rw [← hes]; simp [hx0]) (by rw [qN]; simp [hjl]))
theorem zTX (h : zTS tE st F O w hb hc) (hF : ∀ b : Nat, F b → F' b) (hO : ∀ b, O b → F' (.b b)) (t : Ty) (x : t.El) (y : (w5 tE t).El) (hxy : xZ st t x = some y) {v : Value} (hr : Rd w F v (t.enc x)) : Rd w F' v ((w5 tE t).enc y) := by
 have one : ∀ (_ : t.enc x = (t.cells x)[0]?.getD .bot) (_ : (w5 tE t).enc y = ((w5 tE t).cells y)[0]?.getD .bot) (_ : 0 < t.size), Rd w F' v ((w5 tE t).enc y) := by
  intro h1 h2 h3
  have l1 : 0 < (t.cells x).length := by rw [qQ]; exact h3
  have l2 : 0 < ((w5 tE t).cells y).length := by rw [qQ, vQ]; exact h3
  rw [h1] at hr
  rw [h2]
  simp only [List.getElem?_eq_getElem l1, Option.getD_some] at hr
  simp only [List.getElem?_eq_getElem l2, Option.getD_some]
  exact zJ8 h hF hO t x y hxy 0 v _ _ (by simp [l1]) (by simp [l2]) hr
 cases t with
 | int k => exact one rfl rfl Nat.one_pos
 | bool => exact one rfl rfl Nat.one_pos
 | str => exact one rfl rfl Nat.one_pos
 | rf => exact one rfl rfl Nat.one_pos
 | sl t => exact one rfl rfl Nat.one_pos
 | unit =>
  cases hr with
  | agg cs _ hl hh => exact .agg cs _ hl (fun i x d hi hd => by simp at hd)
 | pair a b =>
  cases hr with
  | agg cs _ hl hh =>
   have e1 : (a.cells x.1 ++ b.cells x.2).length = (Ty.pair a b).size := qQ (.pair a b) x
   have e2 : (((w5 tE a).cells y.1) ++ ((w5 tE b).cells y.2)).length = (w5 tE (Ty.pair a b)).size := qQ (w5 tE (Ty.pair a b)) y
   refine .agg cs _ (by rw [hl, e1, e2, vQ]) ?_
   intro i u d hi hd
   have hlt : i < (a.cells x.1 ++ b.cells x.2).length := by
    have := (List.getElem?_eq_some_iff.1 hd).1
    rw [e2, vQ] at this; rw [e1]; exact this
   exact zJ8 h hF hO (.pair a b) x y hxy i u _ d (by simp only [Ty.cells]; exact List.getElem?_eq_getElem hlt) hd (hh i u _ hi (List.getElem?_eq_getElem hlt))
end
end Go.Ve

namespace Go.Ve
open Go
theorem zDw : ∀ (t : Ty) (x : t.El) (r : List V), t.uncells (t.cells x ++ r) = some (x, r)
 | .int k, x, r => by simp [Ty.cells, Ty.uncells, zEk]
 | .bool, x, r => by simp [Ty.cells, Ty.uncells, zCy]
 | .str, x, r => by simp [Ty.cells, Ty.uncells, zEj]
 | .unit, x, r => by simp [Ty.cells, Ty.uncells]
 | .rf, x, r => by simp [Ty.cells, Ty.uncells, zHN]
 | .sl t, x, r => by simp [Ty.cells, Ty.uncells, zHM]
 | .pair a b, x, r => by
  simp only [Ty.cells, Ty.uncells, List.append_assoc]
  rw [zDw a x.1]
  simp only
  rw [zDw b x.2]
theorem zXO (t : Ty) (x : t.El) : t.dec (t.enc x) = some x := by
 cases t with
 | int k => simp [Ty.enc, Ty.dec, zEk]
 | bool => simp [Ty.enc, Ty.dec, zCy]
 | str => simp [Ty.enc, Ty.dec, zEj]
 | unit => rfl
 | rf => simp [Ty.enc, Ty.dec, zHN]
 | sl t => simp [Ty.enc, Ty.dec, zHM]
 | pair a b =>
  have := zDw (.pair a b) x []
  simp only [List.append_nil] at this
  simp only [Ty.enc, Ty.dec]
  simp only [Ty.cells] at this
  rw [this]
theorem zCY : ∀ (ts : List Ty) (x : ElS ts), zC9 ts (vN ts x) = some x
 | [], _ => rfl
 | t :: ts, x => by
  simp only [vN, zC9, zXO, zCY ts]
@[reducible] def zFG (tE : Ty) : List Ty → List Ty
 | [] => []
 | t :: r => w5 tE t :: zFG tE r
def zMs {tE : Ty} (st : HSt tE) : (ts : List Ty) → ElS ts → Option (ElS (zFG tE ts))
 | [], _ => some ()
 | t :: r, x => match xZ st t x.1, zMs st r x.2 with
  | some y, some z => some (y, z)
  | _, _ => none
@[reducible] def zQR (tE : Ty) : RTy → RTy
 | .p ty => .p (w5 tE ty)
 | .o ty => .o (w5 tE ty)
 | .tu tys => .tu (zFG tE tys)
def zVB {tE : Ty} (st : HSt tE) : (R : RTy) → R.El → Option (zQR tE R).El
 | .p ty, x => xZ st ty x
 | .o ty, xs => zJt (xZ st ty) xs
 | .tu tys, x => zMs st tys x
section
variable {tE : Ty} {st : HSt tE} {F F' : Blk → Prop} {O : Nat → Prop} {w : World} {hb hc : Nat → Nat}
theorem zQQ (h : zTS tE st F O w hb hc) (hF : ∀ b : Nat, F b → F' b) (hO : ∀ b, O b → F' (.b b)) : ∀ (ts : List Ty) (x : ElS ts) (y : ElS (zFG tE ts)), zMs st ts x = some y →
  (vN ts x).length = (vN (zFG tE ts) y).length ∧ ∀ (i : Nat) (v : Value) (d d' : V), (vN ts x)[i]? = some d → (vN (zFG tE ts) y)[i]? = some d' → Rd w F v d → Rd w F' v d'
 | [], _, _, _ => ⟨rfl, fun i v d d' hd => by simp [vN] at hd⟩
 | t :: ts, x, y, hxy => by
  simp only [zMs] at hxy
  split at hxy
  ·rename_i y1 y2 h1 h2
   obtain rfl : (y1, y2) = y := Option.some.inj hxy
   obtain ⟨k1, k2⟩ := zQQ h hF hO ts x.2 y2 h2
   refine ⟨by simp only [vN, List.length_cons, k1], fun i v d d' hd hd' hr => ?_⟩
   cases i with
   | zero =>
    simp only [vN, List.getElem?_cons_zero, Option.some.injEq] at hd hd'
    subst hd hd'
    exact zTX h hF hO t x.1 y1 h1 hr
   | succ i => exact k2 i v d d' (by simpa [vN] using hd) (by simpa [vN] using hd') hr
  ·cases hxy
theorem zVz (h : zTS tE st F O w hb hc) (hF : ∀ b : Nat, F b → F' b) (hO : ∀ b, O b → F' (.b b)) {t : Ty} {xs : List t.El} {ys : List (w5 tE t).El} (hxy : zJt (xZ st t) xs = some ys) {b k cap : Nat}
  (hr : qH w F b k cap (xs.map t.enc)) : qH w F' b k cap (ys.map (w5 tE t).enc) := by
 obtain ⟨hlen, qR⟩ := zJs hxy
 obtain ⟨c, et, h1, h2, h3, h4, h5⟩ := hr
 refine ⟨c, et, h1, h2, by simpa [← hlen] using h3, ?_, ?_⟩
 ·intro e he
  simp only [List.mem_map] at he
  obtain ⟨y0, hy0, rfl⟩ := he
  rw [jZ, vQ]
  obtain ⟨j, hj⟩ := List.getElem?_of_mem hy0
  obtain ⟨x0, hx0, _⟩ := qR j y0 hj
  have := h4 (t.enc x0) (List.mem_map_of_mem (List.mem_of_getElem? hx0))
  rw [jZ] at this; exact this
 ·intro i j e d' x hi hj hx
  simp only [List.getElem?_map, Option.map_eq_some_iff] at hi
  obtain ⟨y0, hy0, rfl⟩ := hi
  obtain ⟨x0, hx0, hxy0⟩ := qR i y0 hy0
  rw [qN] at hj
  have hjl : j < (t.cells x0).length := by
   have := (List.getElem?_eq_some_iff.1 hj).1
   rw [qQ, vQ] at this; rw [qQ]; exact this
  exact zJ8 h hF hO t x0 y0 hxy0 j _ (t.cells x0)[j] d' (by simp [hjl]) hj (h5 i j (t.enc x0) _ x (by simp [hx0]) (by rw [qN]; simp [hjl]) hx)
theorem zVA (h : zTS tE st F O w hb hc) (hF : ∀ b : Nat, F b → F' b) (hO : ∀ b, O b → F' (.b b)) (hF' : ∀ b : Nat, F' b → F b ∨ O b) {N : Nat} {R : RTy} {x : R.El} {y : (zQR tE R).El} (hxy : zVB st R x = some y) {v : Value}
  (hr : yG N w F O v (R.res x)) : yG N w F' (fun _ => False) v ((zQR tE R).res y) := by
 cases R with
 | p ty => exact zTX h hF hO ty x y hxy hr
 | o ty =>
  have hxy : zJt (xZ st ty) x = some y := hxy
  obtain ⟨hlen, _⟩ := zJs hxy
  rcases hr with ⟨h0, hv⟩ | ⟨h0, b, cap, h1, h2, h3, h4, h5, k, h6⟩
  ·have hx0 : x = [] := by simpa using h0
   subst hx0
   have hy0 : y = [] := List.eq_nil_of_length_eq_zero hlen.symm
   subst hy0
   exact .inl ⟨rfl, hv⟩
  ·refine .inr ⟨?_, b, cap, by rw [h1]; simp [hlen], h2, h3, fun hh => (hF' b hh).elim h4 h5, fun hh => hh, k, zVz h hF hO hxy h6⟩
   intro hh
   have hy0 : y = [] := by simpa using hh
   subst hy0
   have hx0 : x = [] := List.eq_nil_of_length_eq_zero hlen
   subst hx0
   exact h0 rfl
 | tu tys =>
  have hr : Rd w F v (.tup (vN tys x)) := hr
  obtain ⟨k1, k2⟩ := zQQ h hF hO tys x y hxy
  cases hr with
  | tup cs _ hl hh =>
   refine Rd.tup cs (vN (zFG tE tys) y) (hl.trans k1) ?_
   intro i u d hi hd
   have hlt : i < (vN tys x).length := by rw [k1]; exact (List.getElem?_eq_some_iff.1 hd).1
   exact k2 i u _ d (List.getElem?_eq_getElem hlt) hd (hh i u _ hi (List.getElem?_eq_getElem hlt))
end
def zMt {tE : Ty} {X : Type} (R : RTy) (g : HSt tE → X → Option (HSt tE × R.El)) (x : X) : Option (zQR tE R).El :=
 match g [] x with
 | some (st, y) => zVB st R y
 | none => none
theorem zLj {tE : Ty} {P : Program} {G : Nat → Option (List V)} (hG0 : ∀ g, G g = none) {f : FuncId} {ts : List Ty} (hts : ts.all Ty.norf = true) {R : RTy} {g : HSt tE → ElS ts → Option (HSt tE × R.El)}
  (h : wC (jO tE) P G f (qI (zLd (zC9 ts) R g))) : wC jB P G f (qI (jQ ts (zQR tE R) (zMt R g))) := by
 intro w F O s args ds s' r hsig hG hF hlen hrd hspec
 simp only [qI, jQ, wM] at hspec
 cases hx : zC9 ts ds with
 | none => rw [hx] at hspec; cases hspec
 | some x =>
  rw [hx] at hspec
  simp only [Option.map_eq_some_iff, Prod.mk.injEq] at hspec
  obtain ⟨y, hy, rfl, rfl⟩ := hspec
  unfold zMt at hy
  split at hy
  ·rename_i st y0 hg
   have hwk := vI ts ds x hx
   let F0 : Blk → Prop := fun b => match b with
    | .b n => F (.b n)
    | .h _ _ _ _ => False
   have hR0 : (jO tE).R [] F0 (fun _ => False) w := ⟨fun _ => 0, fun _ => 0, fun id xs hh => by simp at hh, fun id _ a n c hh => hh, fun id xs hh => by simp at hh, fun id id' xs xs' hh => by simp at hh, fun b hh => hh.elim⟩
   have hcall := h w F0 (fun _ => False) [] args (vN ts x) st (R.res y0) hR0 (fun g cs hg => by rw [hG0 g] at hg; cases hg) (fun b hb => ⟨(hF b hb).1, fun hh => hh⟩) (hlen.trans hwk.len) (by
    intro i u d hu hd
    have hlt : i < ds.length := by rw [hwk.len]; exact (List.getElem?_eq_some_iff.1 hd).1
    have := hwk.get i ds[i] d (by simp [hlt]) hd w F u (hrd i u ds[i] hu (by simp [hlt]))
    exact zKO (F := F) (F' := F0) (fun b hb => hb) ts x hts i u d hd this) (by simp only [qI, zLd, zCY]; rw [hg]; rfl)
   refine hcall.mono ?_
   rintro e w' ⟨v, F', O', rfl, ⟨hb, hc, g1⟩, g2, g3, g4, g5, g6⟩
   let F'' : Blk → Prop := fun b => match b with
    | .b n => F' (.b n) ∨ O' n
    | .h id a n c => F (.h id a n c)
   refine ⟨v, F'', fun _ => False, rfl, fun _ hh => hh, ⟨g2.os, g2.tape, g2.output, g2.size, fun b hb _ => g2.block b hb (fun hh => hh), g2.drawn⟩, fun b hh => hh.elim, ?_, ?_, ?_⟩
   ·intro b hb0
    cases b with
    | b n => exact .inl (g4 (.b n) hb0)
    | h _ _ _ _ => exact hb0
   ·intro b hb0
    rcases hb0 with hb0 | hb0
    ·obtain ⟨k1, k2, _⟩ := g5 b hb0
     exact ⟨k1, k2, fun hh => hh⟩
    ·refine ⟨.inr ((g3 b hb0).elim (fun hh => hh.elim) (fun hh => hh)), (jO tE).inb (⟨hb, hc, g1⟩ : (jO tE).R st F' O' w') b hb0, fun hh => hh⟩
   ·exact zVA (F' := F'') g1 (fun b hh => .inl hh) (fun b hh => .inr hh) (fun b hh => hh) hy g6
  ·cases hy
def zXn {St : Type} (S : St → List V → Option (St × RV)) (ts : List Ty) (R : RTy) (s : St) (x : ElS ts) : Option (St × R.El) :=
 match S s (vN ts x) with
 | some (s', r) => match R.get r with
  | some y => some (s', y)
  | none => none
 | none => none
theorem zUX {Γ : Sig} {P : Program} {G : Nat → Option (List V)} {f : FuncId} {S : Γ.St → List V → Option (Γ.St × RV)} (h : wC Γ P G f S) (ts : List Ty) (R : RTy) :
  wC Γ P G f (qI (zLd (zC9 ts) R (zXn S ts R))) := by
 intro w F O s args ds s' r hsig hG hF hlen hrd hspec
 simp only [qI, zLd] at hspec
 cases hx : zC9 ts ds with
 | none => rw [hx] at hspec; cases hspec
 | some x =>
  rw [hx] at hspec
  simp only [Option.map_eq_some_iff, Prod.mk.injEq] at hspec
  obtain ⟨⟨s1, y⟩, hy, rfl, rfl⟩ := hspec
  unfold zXn at hy
  split at hy
  ·rename_i s2 r0 hS
   split at hy
   ·rename_i y0 hy0
    simp only [Option.some.injEq, Prod.mk.injEq] at hy
    obtain ⟨rfl, rfl⟩ := hy
    have hwk := vI ts ds x hx
    have hcall := h w F O s args (vN ts x) s2 r0 hsig hG hF (hlen.trans hwk.len) (by
     intro i u d hu hd
     have hlt : i < ds.length := by rw [hwk.len]; exact (List.getElem?_eq_some_iff.1 hd).1
     exact hwk.get i ds[i] d (by simp [hlt]) hd w F u (hrd i u ds[i] hu (by simp [hlt]))) hS
    refine hcall.mono ?_
    rintro e w' ⟨v, F', O', rfl, g1, g2, g3, g4, g5, g6⟩
    obtain ⟨F'', k1, kh, k2, k3⟩ := RTy.get_sound hy0 g6
    refine ⟨v, F'', O', rfl, Γ.mono g1 kh (fun _ _ => rfl), g2, g3, fun b hb => k1 b (g4 b hb), ?_, k3⟩
    intro b hb
    rcases k2 b hb with hb | ⟨h1, h2, h3⟩
    ·exact g5 b hb
    ·exact ⟨.inr h1, h2, h3⟩
   ·cases hy
  ·cases hy
theorem zRJ {Γ : Sig} {P : Program} {G : Nat → Option (List V)} {f : FuncId} {S S' : Γ.St → List V → Option (Γ.St × RV)} (h : wC Γ P G f S) (hs : ∀ s ds r, S' s ds = some r → S s ds = some r) : wC Γ P G f S' :=
 fun w F O s args ds s' r a1 a2 a3 a4 a5 a6 => h w F O s args ds s' r a1 a2 a3 a4 a5 (hs _ _ _ a6)
end Go.Ve
