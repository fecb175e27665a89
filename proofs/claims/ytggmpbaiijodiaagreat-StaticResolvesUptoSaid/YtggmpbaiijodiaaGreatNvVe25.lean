/-
  The evaluator over pure values, part 25: readings that say less; typed data out of cells.
-/
import Derived.Test.YtggmpbaiijodiaaGreatNvVe2
namespace Go.Ve
open Go

/-- y says no more than x. -/
def WkV (x y : V) : Prop := ∀ (w : World) (F : Nat → Prop) (v : Value), Rd w F v x → Rd w F v y

def WkVs : List V → List V → Prop
  | [], [] => True
  | x :: xs, y :: ys => WkV x y ∧ WkVs xs ys
  | _, _ => False

theorem WkV.refl (x : V) : WkV x x := fun _ _ _ h => h

theorem WkVs.refl : ∀ (l : List V), WkVs l l
  | [] => trivial
  | x :: l => ⟨.refl x, WkVs.refl l⟩

theorem WkVs.get : ∀ {xs ys : List V} (_ : WkVs xs ys) (i : Nat) (x y : V), xs[i]? = some x → ys[i]? = some y → WkV x y
  | [], [], _, i, x, y, h1, _ => by simp at h1
  | a :: xs, b :: ys, h, i, x, y, h1, h2 => by
    cases i with
    | zero => simp at h1 h2; subst h1 h2; exact h.1
    | succ i => exact WkVs.get h.2 i x y (by simpa using h1) (by simpa using h2)

theorem WkVs.len : ∀ {xs ys : List V} (_ : WkVs xs ys), xs.length = ys.length
  | [], [], _ => rfl
  | a :: xs, b :: ys, h => by simp [WkVs.len h.2]

theorem WkVs.append : ∀ {xs ys xs' ys' : List V} (_ : WkVs xs ys) (_ : WkVs xs' ys'), WkVs (xs ++ xs') (ys ++ ys')
  | [], [], _, _, _, h => h
  | a :: xs, b :: ys, _, _, h, h' => ⟨h.1, WkVs.append h.2 h'⟩

theorem WkV.agg {xs ys : List V} (h : WkVs xs ys) : WkV (.agg xs) (.agg ys) := by
  intro w F v hr
  cases hr with
  | agg cs ds hl h0 =>
    refine .agg cs ys (hl.trans h.len) ?_
    intro i x d hi hd
    have hlt : i < xs.length := by rw [h.len]; exact (List.getElem?_eq_some_iff.1 hd).1
    exact h.get i xs[i] d (by simp [hlt]) hd w F x (h0 i x xs[i] hi (by simp [hlt]))

def takeInt (k : IntKind) : List V → Option (Int × List V)
  | .val (.int k' n) :: r => if k' = k then some (n, r) else none
  | _ => none

def takeBool : List V → Option (Bool × List V)
  | .val (.bool b) :: r => some (b, r)
  | _ => none

def takeStr : List V → Option (ByteArray × List V)
  | .val (.string s) :: r => some (s, r)
  | _ => none

def takeSl (t : Ty) : List V → Option (List t.El × List V)
  | .tl t' xs :: r => if h : t' = t then some (h ▸ xs, r) else none
  | .val (.slice none 0 0) :: r => some ([], r)
  | .sl [] :: r => some ([], r)
  | _ => none

/-- A typed datum, taken off the head of these cells. -/
def Ty.uncells : (t : Ty) → List V → Option (t.El × List V)
  | .int k, cs => takeInt k cs
  | .bool, cs => takeBool cs
  | .str, cs => takeStr cs
  | .unit, cs => some ((), cs)
  | .pair a b, cs => match a.uncells cs with
    | some (x, r) => match b.uncells r with
      | some (y, r) => some ((x, y), r)
      | none => none
    | none => none
  | .sl t, cs => takeSl t cs

theorem uncells_sound : ∀ (t : Ty) (cs : List V) (x : t.El) (r : List V), t.uncells cs = some (x, r) → ∃ cs1, cs = cs1 ++ r ∧ WkVs cs1 (t.cells x) := by
  intro t
  induction t with
  | int k =>
    intro cs x r h
    simp only [Ty.uncells, takeInt] at h
    split at h
    · split at h
      · rename_i hk
        simp only [Option.some.injEq, Prod.mk.injEq] at h
        obtain ⟨rfl, rfl⟩ := h
        subst hk
        exact ⟨[_], rfl, .refl _, trivial⟩
      · cases h
    · cases h
  | bool =>
    intro cs x r h
    simp only [Ty.uncells, takeBool] at h
    split at h
    · simp only [Option.some.injEq, Prod.mk.injEq] at h
      obtain ⟨rfl, rfl⟩ := h
      exact ⟨[_], rfl, .refl _, trivial⟩
    · cases h
  | str =>
    intro cs x r h
    simp only [Ty.uncells, takeStr] at h
    split at h
    · simp only [Option.some.injEq, Prod.mk.injEq] at h
      obtain ⟨rfl, rfl⟩ := h
      exact ⟨[_], rfl, .refl _, trivial⟩
    · cases h
  | unit =>
    intro cs x r h
    simp only [Ty.uncells, Option.some.injEq, Prod.mk.injEq] at h
    obtain ⟨_, rfl⟩ := h
    exact ⟨[], rfl, trivial⟩
  | pair a b iha ihb =>
    intro cs x r h
    simp only [Ty.uncells] at h
    split at h
    · rename_i xa r1 h1
      split at h
      · rename_i xb r2 h2
        simp only [Option.some.injEq, Prod.mk.injEq] at h
        obtain ⟨rfl, rfl⟩ := h
        obtain ⟨c1, rfl, k1⟩ := iha cs xa r1 h1
        obtain ⟨c2, rfl, k2⟩ := ihb r1 xb r2 h2
        exact ⟨c1 ++ c2, by simp, k1.append k2⟩
      · cases h
    · cases h
  | sl t _ =>
    intro cs x r h
    simp only [Ty.uncells, takeSl] at h
    split at h
    · split at h
      · rename_i ht
        subst ht
        simp only [Option.some.injEq, Prod.mk.injEq] at h
        obtain ⟨rfl, rfl⟩ := h
        exact ⟨[_], rfl, .refl _, trivial⟩
      · cases h
    · simp only [Option.some.injEq, Prod.mk.injEq] at h
      obtain ⟨rfl, rfl⟩ := h
      refine ⟨[_], rfl, ?_, trivial⟩
      intro w F v hr
      rw [Rd.eq_val hr]
      exact .tl t [] _ (.slemp none 0)
    · simp only [Option.some.injEq, Prod.mk.injEq] at h
      obtain ⟨rfl, rfl⟩ := h
      exact ⟨[_], rfl, fun w F v hr => .tl t [] v hr, trivial⟩
    · cases h

/-- A typed datum out of a value. -/
def Ty.dec (t : Ty) (d : V) : Option t.El :=
  match t with
  | .pair a b => match d with
    | .agg cs => match (Ty.pair a b).uncells cs with
      | some (x, []) => some x
      | _ => none
    | _ => none
  | .unit => match d with
    | .agg [] => some ()
    | _ => none
  | .int k => match takeInt k [d] with
    | some (x, _) => some x
    | none => none
  | .bool => match takeBool [d] with
    | some (x, _) => some x
    | none => none
  | .str => match takeStr [d] with
    | some (x, _) => some x
    | none => none
  | .sl t => match takeSl t [d] with
    | some (x, _) => some x
    | none => none

theorem dec_sound {t : Ty} {d : V} {x : t.El} (h : t.dec d = some x) : WkV d (t.enc x) := by
  have one : ∀ (t : Ty) (x : t.El) (r : List V), t.cells x = [t.enc x] → t.uncells [d] = some (x, r) → WkV d (t.enc x) := by
    intro t x r hc hu
    obtain ⟨c1, h1, h2⟩ := uncells_sound t [d] x r hu
    rw [hc] at h2
    have := h2.len
    match c1, this with
    | [y], _ =>
      simp at h1
      rw [← h1.1] at h2
      exact h2.1
  cases t with
  | pair a b =>
    simp only [Ty.dec] at h
    split at h
    · rename_i cs
      split at h
      · rename_i x' hx
        simp only [Option.some.injEq] at h
        subst h
        obtain ⟨c1, h1, h2⟩ := uncells_sound (.pair a b) cs x' [] hx
        simp only [List.append_nil] at h1
        subst h1
        exact WkV.agg h2
      · cases h
    · cases h
  | unit =>
    simp only [Ty.dec] at h
    split at h
    · exact .refl _
    · cases h
  | int k =>
    simp only [Ty.dec] at h
    split at h
    · rename_i y r hy; simp only [Option.some.injEq] at h; subst h; exact one (.int k) y r rfl hy
    · cases h
  | bool =>
    simp only [Ty.dec] at h
    split at h
    · rename_i y r hy; simp only [Option.some.injEq] at h; subst h; exact one .bool y r rfl hy
    · cases h
  | str =>
    simp only [Ty.dec] at h
    split at h
    · rename_i y r hy; simp only [Option.some.injEq] at h; subst h; exact one .str y r rfl hy
    · cases h
  | sl t =>
    simp only [Ty.dec] at h
    split at h
    · rename_i y r hy; simp only [Option.some.injEq] at h; subst h; exact one (.sl t) y r rfl hy
    · cases h

def Ty.decs (t : Ty) : List V → Option (List t.El)
  | [] => some []
  | d :: ds => match t.dec d with
    | some x => match t.decs ds with
      | some xs => some (x :: xs)
      | none => none
    | none => none

theorem decs_sound {t : Ty} : ∀ {ds : List V} {xs : List t.El}, t.decs ds = some xs → WkVs ds (xs.map t.enc)
  | [], xs, h => by simp [Ty.decs] at h; subst h; trivial
  | d :: ds, xs, h => by
    simp only [Ty.decs] at h
    split at h
    · rename_i x hx
      split at h
      · rename_i ys hys
        simp only [Option.some.injEq] at h
        subst h
        exact ⟨dec_sound hx, decs_sound hys⟩
      · cases h
    · cases h

theorem RowRel.weak {w : World} {F : Nat → Prop} {b k cap : Nat} {es es' : List V} (h : RowRel w F b k cap es) (hl : es.length = es'.length) (hk : ∀ e, e ∈ es' → e.cells.length = k)
    (hw : ∀ (i : Nat) (x y : V), es[i]? = some x → es'[i]? = some y → WkVs x.cells y.cells) : RowRel w F b k cap es' := by
  obtain ⟨c, et, h1, h2, h3, h4, h5⟩ := h
  refine ⟨c, et, h1, h2, by omega, hk, ?_⟩
  intro i j y d x hi hj hx
  have hlt : i < es.length := by rw [hl]; exact (List.getElem?_eq_some_iff.1 hi).1
  have hws := hw i es[i] y (by simp [hlt]) hi
  have hlt2 : j < es[i].cells.length := by rw [hws.len]; exact (List.getElem?_eq_some_iff.1 hj).1
  exact hws.get j _ d (by simp [hlt2]) hj w F x (h5 i j es[i] es[i].cells[j] x (by simp [hlt]) (by simp [hlt2]) hx)

/-- Elements of which each knows no more, cell by cell. -/
def WkEs (es es' : List V) : Prop := es.length = es'.length ∧ ∀ (i : Nat) (x y : V), es[i]? = some x → es'[i]? = some y → WkVs x.cells y.cells

theorem dec_cells {t : Ty} {d : V} {x : t.El} (h : t.dec d = some x) : WkVs d.cells (t.enc x).cells := by
  have one : ∀ (t : Ty) (x : t.El) (r : List V), t.cells x = [t.enc x] → t.uncells [d] = some (x, r) → (∀ cs, d ≠ .agg cs) → WkVs d.cells (t.enc x).cells := by
    intro t x r hc hu hd
    obtain ⟨c1, h1, h2⟩ := uncells_sound t [d] x r hu
    rw [enc_cells]
    have hl := h2.len
    rw [hc] at hl
    match c1, hl with
    | [y], _ =>
      simp at h1
      rw [← h1.1] at h2
      have : d.cells = [d] := by cases d <;> first | rfl | exact absurd rfl (hd _)
      rw [this]; exact h2
  cases t with
  | pair a b =>
    simp only [Ty.dec] at h
    split at h
    · rename_i cs
      split at h
      · rename_i x' hx
        simp only [Option.some.injEq] at h
        subst h
        obtain ⟨c1, h1, h2⟩ := uncells_sound (.pair a b) cs x' [] hx
        simp only [List.append_nil] at h1
        subst h1
        rw [enc_cells]
        exact h2
      · cases h
    · cases h
  | unit =>
    simp only [Ty.dec] at h
    split at h
    · exact .refl _
    · cases h
  | int k =>
    simp only [Ty.dec] at h
    split at h
    · rename_i y r hy
      simp only [Option.some.injEq] at h; subst h
      refine one (.int k) y r rfl hy ?_
      rintro cs rfl
      simp [takeInt] at hy
    · cases h
  | bool =>
    simp only [Ty.dec] at h
    split at h
    · rename_i y r hy
      simp only [Option.some.injEq] at h; subst h
      refine one .bool y r rfl hy ?_
      rintro cs rfl
      simp [takeBool] at hy
    · cases h
  | str =>
    simp only [Ty.dec] at h
    split at h
    · rename_i y r hy
      simp only [Option.some.injEq] at h; subst h
      refine one .str y r rfl hy ?_
      rintro cs rfl
      simp [takeStr] at hy
    · cases h
  | sl t =>
    simp only [Ty.dec] at h
    split at h
    · rename_i y r hy
      simp only [Option.some.injEq] at h; subst h
      refine one (.sl t) y r rfl hy ?_
      rintro cs rfl
      simp [takeSl] at hy
    · cases h

theorem decs_cells {t : Ty} : ∀ {ds : List V} {xs : List t.El}, t.decs ds = some xs → WkEs ds (xs.map t.enc)
  | [], xs, h => by simp [Ty.decs] at h; subst h; exact ⟨rfl, fun i x y h => by simp at h⟩
  | d :: ds, xs, h => by
    simp only [Ty.decs] at h
    split at h
    · rename_i x hx
      split at h
      · rename_i ys hys
        simp only [Option.some.injEq] at h
        subst h
        obtain ⟨h1, h2⟩ := decs_cells hys
        refine ⟨by simpa using h1, ?_⟩
        intro i p q hp hq
        cases i with
        | zero => simp at hp hq; subst hp hq; exact dec_cells hx
        | succ i => exact h2 i p q (by simpa using hp) (by simpa using hq)
      · cases h
    · cases h

theorem RowRel.typed {w : World} {F : Nat → Prop} {b k cap : Nat} {es : List V} {t : Ty} {xs : List t.El} (h : RowRel w F b k cap es) (hk : t.size = k) (hw : WkEs es (xs.map t.enc)) :
    RowRel w F b k cap (xs.map t.enc) := by
  refine h.weak hw.1 ?_ hw.2
  intro q hq
  simp only [List.mem_map] at hq
  obtain ⟨z, _, rfl⟩ := hq
  rw [enc_len]; exact hk
end Go.Ve
