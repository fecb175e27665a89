/-
  The evaluator over pure values, part 8: one operation in the machine; the state behind it.
-/
import Derived.Test.YtggmpbaiijodiaaGreatNvVe7
namespace Go.Ve
open Go

def ownT (d : Nat) : List V → T
  | [] => .emp
  | e :: es => .ow d e.cells.length (e :: es)

def ownK (d k : Nat) : List V → T
  | [] => .emp
  | e :: es => .ow d k (e :: es)

def frzT : List V → T
  | [] => .emp
  | e :: es => .p (.sl (e :: es))

def rvT (d : Nat) : RV → T
  | .p x => .p x
  | .own es => ownT d es
  | .ownT t xs => .ot d t xs

theorem flat_leaf : ∀ (t : Ty) (x : t.El), t.flat = true → ∀ d, d ∈ t.cells x → d.isVal = true := by
  intro t
  induction t with
  | pair a b iha ihb =>
    intro x h d hd
    simp only [Ty.flat, Bool.and_eq_true] at h
    simp only [Ty.cells, List.mem_append] at hd
    rcases hd with hd | hd
    · exact iha x.1 h.1 d hd
    · exact ihb x.2 h.2 d hd
  | sl t _ => intro x h; simp [Ty.flat] at h
  | unit => intro x _ d hd; simp [Ty.cells] at hd
  | _ => intro x _ d hd; simp [Ty.cells] at hd; subst hd; rfl

theorem flat_plain (t : Ty) (xs : List t.El) (h : t.flat = true) : (RV.own (xs.map t.enc)).plain = true := by
  simp only [RV.plain, List.all_map, List.all_eq_true, Function.comp]
  intro x _
  have hl := flat_leaf t x h
  cases t with
  | pair a b =>
    have : (a.cells x.1 ++ b.cells x.2).all V.isVal = true := List.all_eq_true.2 hl
    simp only [Ty.enc, V.toVal1, this, if_true, Option.isSome_some]
  | sl t => simp [Ty.flat] at h
  | _ => rfl

def resT {St : Type} (d : Nat) : R St → T
  | .ret x => x
  | .var _ => .lp d 0
  | .own k es => ownK d k es
  | .frz es => frzT es
  | .call _ _ r => rvT d r
  | .mk => .mp d [] 0
  | .frzT t xs => .p (.tl t xs)
  | .ownT t xs => .ot d t xs

def resSt {St : Type} (st : St) : R St → St
  | .call st' _ _ => st'
  | _ => st

/-- Does the operation need a temporary for what it makes? -/
def R.needs {St : Type} : R St → Bool
  | .ret _ => false
  | .call _ _ (.p _) => false
  | _ => true

/-- What of an operation's outcome is new: -/
structure After (Γ : Sig) (w0 : World) (F0 O0 : Nat → Prop) (w : World) (F : Nat → Prop) (β : Lay) (al : Site → Prop) (st : Γ.St) (d : Nat) (r : R Γ.St)
    (v : Value) (w' : World) (F' O' : Nat → Prop) (β' : Lay) (al' : Site → Prop) : Prop where
  core : Core Γ w0 F0 O0 w' F' O' β' al' (resSt st r)
  ext : Ext w F β al w' F' β' al'
  new : ∀ x, al' x → al x ∨ (r.needs = true ∧ ((x = .v d ∧ ∃ cs, r = .var cs) ∨ (x = .o d ∧ True)))
  res : TRel w' F' β' al' v (resT d r)
  var : ∀ cs, r = .var cs → al' (.v d) ∧ VarRel w' F' β' al' (β'.vb d) cs

section
variable {Γ : Sig} {P : Program} {G : Nat → Option (List V)} {S : Specs Γ} {o : Oper} {a : Act} {w0 : World} {F0 O0 : Nat → Prop} {w : World} {F O : Nat → Prop} {β : Lay} {al : Site → Prop} {st : Γ.St}

theorem push_old {w : World} {ob : Obj} {b : Nat} (h : b < w.heap.size) : ({ w with heap := w.heap.push ob } : World).heap[b]? = w.heap[b]? := by
  simp [Array.getElem?_push]; omega

theorem push_new {w : World} {ob : Obj} : ({ w with heap := w.heap.push ob } : World).heap[w.heap.size]? = some ob := by
  simp

theorem Keep.push (hk : Keep O0 w0 w) (ob : Obj) : Keep O0 w0 { w with heap := w.heap.push ob } :=
  ⟨hk.os, hk.tape, hk.output, by simp; have := hk.size; omega, fun b hb ho => by
    rw [push_old (by have := hk.size; omega)]; exact hk.block b hb ho⟩

theorem Core.push_ext (hc : Core Γ w0 F0 O0 w F O β al st) (ob : Obj) (β' : Lay) (al' : Site → Prop) (hb : ∀ x, al x → β'.blk x = β.blk x) (ha : ∀ x, al x → al' x) :
    Ext w F β al { w with heap := w.heap.push ob } F β' al' :=
  ⟨fun _ h => h, fun b hb => push_old (hc.fin b hb).2.1, ha, hb, fun x hx => push_old (hc.place x hx).2.1⟩

/-- A new block for one new site. -/
theorem Core.push (hc : Core Γ w0 F0 O0 w F O β al st) (ob : Obj) (β' : Lay) (s : Site) (hs : β'.blk s = w.heap.size) (hb : ∀ x, al x → β'.blk x = β.blk x) :
    Core Γ w0 F0 O0 { w with heap := w.heap.push ob } F O β' (fun x => al x ∨ x = s) st := by
  refine ⟨hc.keep.push ob, Γ.mono hc.sig (fun b hb => push_old (Γ.inb hc.sig b hb)), hc.oin, ?_, hc.f0, ?_, ?_⟩
  · intro b hb
    obtain ⟨h1, h2, h3⟩ := hc.fin b hb
    exact ⟨h1, by simp; omega, h3⟩
  · rintro x (hx | rfl)
    · obtain ⟨h1, h2, h3, h4⟩ := hc.place x hx
      rw [hb x hx]
      exact ⟨h1, by simp; omega, h3, h4⟩
    · rw [hs]
      refine ⟨hc.keep.size, by simp, fun hf => ?_, fun ho => ?_⟩
      · have := (hc.fin _ hf).2.1; omega
      · have := Γ.inb hc.sig _ ho; omega
  · rintro x y (hx | rfl) (hy | rfl) h
    · rw [hb x hx, hb y hy] at h; exact hc.dist x y hx hy h
    · rw [hb x hx, hs] at h; have := (hc.place x hx).2.1; omega
    · rw [hs, hb y hy] at h; have := (hc.place y hy).2.1; omega
    · rfl

theorem opSim_wp (hS : Table Γ P G S) (hG : GRel G w F) (hc : Core Γ w0 F0 O0 w F O β al st) {alv : Site → Prop} (hv : ∀ x, alv x → β.blk x < w.heap.size ∧ ¬ O (β.blk x)) {r : R Γ.St} (hs : OpSim Γ P S o a w F β al alv st r) {d : Nat}
    (hfr : r.needs = true → ¬ al (.v d) ∧ ¬ al (.o d)) {K : Act → World → Prop} {Q : Exit → Act → World → Prop}
    (hK : ∀ v w' F' O' β' al', After Γ w0 F0 O0 w F β al st d r v w' F' O' β' al' → K (a.put o.dst v) w') : o.wp P a w K Q := by
  unfold Oper.wp
  cases r with
  | ret x =>
    obtain ⟨v, h1, h2⟩ := hs
    rw [h1]
    exact hK v w F O β al ⟨hc, Ext.refl, fun x hx => .inl hx, h2, (fun cs h => by cases h)⟩
  | var cs =>
    obtain ⟨c, et, h1, h2, h3⟩ := hs
    rw [h1]
    let β' : Lay := { β with vb := fun s => if s = d then w.heap.size else β.vb s }
    have hb : ∀ x, al x → β'.blk x = β.blk x := by
      intro x hx
      cases x with
      | v s =>
        have hne : s ≠ d := fun h => (hfr rfl).1 (h ▸ hx)
        simp [Lay.blk, β', hne]
      | o id => rfl
    have hsb : β'.blk (.v d) = w.heap.size := by simp [Lay.blk, β']
    have hext := hc.push_ext (.cells c et) β' (fun x => al x ∨ x = .v d) hb (fun x hx => .inl hx)
    have hvar : VarRel { w with heap := w.heap.push (.cells c et) } F β' (fun x => al x ∨ x = .v d) (β'.vb d) cs := by
      refine ⟨c, et, ?_, h2, fun i x y hi hy => (h3 i x y hi hy).ext hext⟩
      have : β'.vb d = w.heap.size := hsb
      rw [this]; exact push_new
    refine hK _ _ F O β' (fun x => al x ∨ x = .v d) ⟨hc.push _ β' (.v d) hsb hb, hext, ?_, ?_, ?_⟩
    · rintro x (hx | rfl)
      · exact .inl hx
      · exact .inr ⟨rfl, .inl ⟨rfl, cs, rfl⟩⟩
    · refine ⟨.inr rfl, ?_⟩
      have : β'.vb d = w.heap.size := hsb
      rw [this]
    · intro cs' h; cases h; exact ⟨.inr rfl, hvar⟩
  | own k es =>
    obtain ⟨c, et, cap, h1, h2, h3, h30, h4, h5⟩ := hs
    rw [h1]
    let β' : Lay := { β with ob := fun s => if s = d then w.heap.size else β.ob s }
    have hb : ∀ x, al x → β'.blk x = β.blk x := by
      intro x hx
      cases x with
      | o s =>
        have hne : s ≠ d := fun h => (hfr rfl).2 (h ▸ hx)
        simp [Lay.blk, β', hne]
      | v id => rfl
    have hsb : β'.blk (.o d) = w.heap.size := by simp [Lay.blk, β']
    have hext := hc.push_ext (.cells c et) β' (fun x => al x ∨ x = .o d) hb (fun x hx => .inl hx)
    have hob : β'.ob d = w.heap.size := hsb
    cases es with
    | nil =>
      have hp := hc.push (.cells c et) β' (.o d) hsb hb
      refine hK _ _ F O β' al ⟨⟨hp.keep, hp.sig, hp.oin, hp.fin, hp.f0, fun x hx => hp.place x (.inl hx), fun x y hx hy => hp.dist x y (.inl hx) (.inl hy)⟩,
        ⟨hext.f, hext.hf, fun _ h => h, hext.b, hext.ha⟩, fun x hx => .inl hx, ?_, (fun cs h => by cases h)⟩
      exact ⟨_, by rw [h30 rfl]; rfl⟩
    | cons e0 es0 =>
    refine hK _ _ F O β' (fun x => al x ∨ x = .o d) ⟨hc.push _ β' (.o d) hsb hb, hext, ?_, ?_, ?_⟩
    · rintro x (hx | rfl)
      · exact .inl hx
      · exact .inr ⟨rfl, .inr ⟨rfl, trivial⟩⟩
    · refine ⟨.inr rfl, cap, by rw [hob], c, et, ?_, h2, h3, h4, ?_⟩
      · rw [hob]; exact push_new
      · intro i j e d' x a1 a2 a3; exact Rd.ext hext (h5 i j e d' x a1 a2 a3)
    · intro cs' h; cases h
  | frzT t xs =>
    obtain ⟨es, c, et, h1, h2, h4, h5, hwk⟩ := hs
    rw [h1]
    let F' : Nat → Prop := fun b => F b ∨ b = w.heap.size
    have hext : Ext w F β al { w with heap := w.heap.push (.cells c et) } F' β al :=
      ⟨fun _ h => .inl h, fun b hb => push_old (hc.fin b hb).2.1, fun _ h => h, fun _ _ => rfl, fun x hx => push_old (hc.place x hx).2.1⟩
    have hrd : Rd { w with heap := w.heap.push (.cells c et) } F' (.slice (some ⟨w.heap.size, 0, none⟩) es.length es.length) (.tl t xs) := by
      refine .tl t xs _ ?_
      have hrow : RowRel { w with heap := w.heap.push (.cells c et) } F' w.heap.size t.size es.length es := ⟨c, et, push_new, h2, Nat.le_refl _, h4, fun i j e d' x a1 a2 a3 => Rd.ext hext (h5 i j e d' x a1 a2 a3)⟩
      have := Row_rd (F := F') (hrow.typed rfl hwk) (fun _ h => h) (.inr rfl)
      rw [← hwk.1] at this
      exact this
    refine hK _ _ F' O β al ⟨?_, hext, fun x hx => .inl hx, hrd, (fun cs h => by cases h)⟩
    · refine ⟨hc.keep.push _, Γ.mono hc.sig (fun b hb => push_old (Γ.inb hc.sig b hb)), hc.oin, ?_, fun b hb => .inl (hc.f0 b hb), ?_, hc.dist⟩
      · rintro b (hb | rfl)
        · obtain ⟨h1, h2, h3⟩ := hc.fin b hb
          exact ⟨h1, by simp; omega, h3⟩
        · exact ⟨.inr hc.keep.size, by simp, fun ho => by have := Γ.inb hc.sig _ ho; omega⟩
      · intro x hx
        obtain ⟨h1, h2, h3, h4⟩ := hc.place x hx
        exact ⟨h1, by simp; omega, fun h => h.elim h3 (fun h => by omega), h4⟩
  | ownT t xs =>
    obtain ⟨es, c, et, cap, h1, h2, h3, h30, h4, h5, hwk⟩ := hs
    rw [h1]
    let β' : Lay := { β with ob := fun s => if s = d then w.heap.size else β.ob s }
    have hb : ∀ x, al x → β'.blk x = β.blk x := by
      intro x hx
      cases x with
      | o s =>
        have hne : s ≠ d := fun h => (hfr rfl).2 (h ▸ hx)
        simp [Lay.blk, β', hne]
      | v id => rfl
    have hsb : β'.blk (.o d) = w.heap.size := by simp [Lay.blk, β']
    have hext := hc.push_ext (.cells c et) β' (fun x => al x ∨ x = .o d) hb (fun x hx => .inl hx)
    have hob : β'.ob d = w.heap.size := hsb
    have hlx : es.length = xs.length := by have := hwk.1; simpa using this
    refine hK _ _ F O β' (fun x => al x ∨ x = .o d) ⟨hc.push _ β' (.o d) hsb hb, hext, ?_, ?_, ?_⟩
    · rintro x (hx | rfl)
      · exact .inl hx
      · exact .inr ⟨rfl, .inr ⟨rfl, trivial⟩⟩
    · by_cases h0 : xs.map t.enc = []
      · have he : es = [] := List.eq_nil_of_length_eq_zero (by rw [hwk.1, h0]; rfl)
        subst he
        exact .inl ⟨h0, _, by rw [h30 rfl]; rfl⟩
      · refine .inr ⟨h0, .inr rfl, cap, by rw [hob, ← hwk.1], ?_⟩
        rw [hob]
        refine RowRel.typed ⟨c, et, push_new, h2, h3, h4, ?_⟩ rfl hwk
        intro i j e d' x a1 a2 a3; exact Rd.ext hext (h5 i j e d' x a1 a2 a3)
    · intro cs' h; cases h
  | mk =>
    have hs' : (execOp a.eval o).run P w = .ok (.value (.map (some w.heap.size))) { w with heap := w.heap.push (.map #[] 0) } := hs
    rw [hs']
    let β' : Lay := { β with ob := fun s => if s = d then w.heap.size else β.ob s }
    have hb : ∀ x, al x → β'.blk x = β.blk x := by
      intro x hx
      cases x with
      | o s =>
        have hne : s ≠ d := fun h => (hfr rfl).2 (h ▸ hx)
        simp [Lay.blk, β', hne]
      | v id => rfl
    have hsb : β'.blk (.o d) = w.heap.size := by simp [Lay.blk, β']
    have hext := hc.push_ext (.map #[] 0) β' (fun x => al x ∨ x = .o d) hb (fun x hx => .inl hx)
    have hob : β'.ob d = w.heap.size := hsb
    refine hK _ _ F O β' (fun x => al x ∨ x = .o d) ⟨hc.push _ β' (.o d) hsb hb, hext, ?_, ?_, ?_⟩
    · rintro x (hx | rfl)
      · exact .inl hx
      · exact .inr ⟨rfl, .inr ⟨rfl, trivial⟩⟩
    · exact ⟨.inr rfl, by rw [hob], by rw [hob]; exact push_new⟩
    · intro cs' h; cases h
  | frz es =>
    obtain ⟨c, et, k, h1, h2, h4, h5⟩ := hs
    rw [h1]
    let F' : Nat → Prop := fun b => F b ∨ b = w.heap.size
    have hext : Ext w F β al { w with heap := w.heap.push (.cells c et) } F' β al :=
      ⟨fun _ h => .inl h, fun b hb => push_old (hc.fin b hb).2.1, fun _ h => h, fun _ _ => rfl, fun x hx => push_old (hc.place x hx).2.1⟩
    have hrd : Rd { w with heap := w.heap.push (.cells c et) } F' (.slice (some ⟨w.heap.size, 0, none⟩) es.length es.length) (.sl es) := by
      refine Row_rd (F := F') (k := k) ⟨c, et, push_new, h2, Nat.le_refl _, h4, ?_⟩ (fun _ h => h) (.inr rfl)
      intro i j e d' x a1 a2 a3; exact Rd.ext hext (h5 i j e d' x a1 a2 a3)
    refine hK _ _ F' O β al ⟨?_, hext, fun x hx => .inl hx, ?_, (fun cs h => by cases h)⟩
    · refine ⟨hc.keep.push _, Γ.mono hc.sig (fun b hb => push_old (Γ.inb hc.sig b hb)), hc.oin, ?_, fun b hb => .inl (hc.f0 b hb), ?_, hc.dist⟩
      · rintro b (hb | rfl)
        · obtain ⟨h1, h2, h3⟩ := hc.fin b hb
          exact ⟨h1, by simp; omega, h3⟩
        · exact ⟨.inr hc.keep.size, by simp, fun ho => by have := Γ.inb hc.sig _ ho; omega⟩
      · intro x hx
        obtain ⟨h1, h2, h3, h4⟩ := hc.place x hx
        exact ⟨h1, by simp; omega, fun h => h.elim h3 (fun h => by omega), h4⟩
    · cases es with
      | nil => exact ⟨_, rfl⟩
      | cons e es => exact hrd
  | call st' view rv =>
    obtain ⟨f, args, ds, h1, h2, h3, h4, h5⟩ := hs
    rw [h1]
    let Fc : Nat → Prop := if view then Fal F β alv else F
    have hFc : ∀ b, Fc b → b < w.heap.size ∧ ¬ O b := by
      intro b hb
      cases view with
      | false => exact (hc.fin b hb).2
      | true =>
        rcases hb with hb | ⟨x, hx, rfl⟩
        · exact (hc.fin b hb).2
        · exact hv x hx
    have hFF : ∀ b, F b → Fc b := by
      intro b hb
      cases view with
      | false => exact hb
      | true => exact .inl hb
    have hGc : GRel G w Fc := fun g cs hg => (hG g cs hg).mono hFF (fun _ _ => rfl)
    have hcall := hS.ok f w Fc O st args ds st' rv hc.sig hGc hFc h2 (fun i x d hi hd' => h3 i x d hi hd') h4
    refine hcall.mono ?_
    rintro e w' ⟨v, Fr, O', rfl, g1, g2, g3, g4, g5, g6⟩
    show K (a.put o.dst v) w'
    let F' : Nat → Prop := fun b => Fr b ∧ (F b ∨ w.heap.size ≤ b)
    have hO' : ∀ b, b < w.heap.size → ¬ O b → ¬ O' b := fun b hb ho h => by
      rcases g3 b h with h | h
      · exact ho h
      · omega
    have hsame : ∀ b, b < w.heap.size → ¬ O b → w'.heap[b]? = w.heap[b]? := g2.block
    have hplain : ∀ (u : Value) (x : V) (y : Value), x.toVal = some y → Rd w' Fr u x → Rd w' F' u x := fun u x y hx hr => hr.of_flat hx
    have hrd : ∀ (u : Value) (x : V), view = false → Rd w' Fr u x → Rd w' F' u x := by
      intro u x hv hr
      subst hv
      exact hr.mono (fun b hb => ⟨hb, (g5 b hb).1⟩) (fun _ _ => rfl)
    have hcore : ∀ (β' : Lay) (al' : Site → Prop), (∀ x, al' x → (al x ∧ β'.blk x = β.blk x) ∨ (w.heap.size ≤ β'.blk x ∧ β'.blk x < w'.heap.size ∧ ¬ F' (β'.blk x) ∧ ¬ O' (β'.blk x))) →
        (∀ x y, al' x → al' y → β'.blk x = β'.blk y → x = y) → Core Γ w0 F0 O0 w' F' O' β' al' st' := by
      intro β' al' hpl hdist
      refine ⟨⟨g2.os.trans hc.keep.os, g2.tape.trans hc.keep.tape, g2.output.trans hc.keep.output, Nat.le_trans hc.keep.size g2.size, ?_⟩, g1, ?_, ?_, ?_, ?_, hdist⟩
      · intro b hb ho
        have hno : ¬ O b := fun h => by
          rcases hc.oin b h with h | h
          · exact ho h
          · omega
        rw [hsame b (by have := hc.keep.size; omega) hno]
        exact hc.keep.block b hb ho
      · intro b hb
        rcases g3 b hb with h | h
        · exact hc.oin b h
        · exact .inr (Nat.le_trans hc.keep.size h)
      · intro b hb
        obtain ⟨h1, h2, h3⟩ := g5 b hb.1
        refine ⟨?_, h2, h3⟩
        rcases hb.2 with h | h
        · exact (hc.fin b h).1
        · exact .inr (Nat.le_trans hc.keep.size h)
      · intro b hb
        have := hc.f0 b hb
        exact ⟨g4 b (hFF b this), .inl this⟩
      · intro x hx
        rcases hpl x hx with ⟨h1, h2⟩ | ⟨h1, h2, h3, h4⟩
        · obtain ⟨k1, k2, k3, k4⟩ := hc.place x h1
          rw [h2]
          refine ⟨k1, Nat.lt_of_lt_of_le k2 g2.size, fun h => ?_, hO' _ k2 k4⟩
          rcases h.2 with h | h
          · exact k3 h
          · omega
        · exact ⟨Nat.le_trans hc.keep.size h1, h2, h3, h4⟩
    have hext : ∀ (β' : Lay) (al' : Site → Prop), (∀ x, al x → al' x) → (∀ x, al x → β'.blk x = β.blk x) → Ext w F β al w' F' β' al' := by
      intro β' al' ha hb
      refine ⟨fun b hb => ⟨g4 b (hFF b hb), .inl hb⟩, fun b hb => hsame b (hc.fin b hb).2.1 (hc.fin b hb).2.2, ha, hb, fun x hx => ?_⟩
      obtain ⟨k1, k2, k3, k4⟩ := hc.place x hx
      exact hsame _ k2 k4
    have hkeep := hcore β al (fun x hx => .inl ⟨hx, rfl⟩) hc.dist
    have hkext := hext β al (fun _ h => h) (fun _ _ => rfl)
    have hown : ∀ (es : List V), OwnRet w.heap.size w' Fr O' v es → (view = true → (RV.own es).plain = true) → (R.call st' view rv : R Γ.St).needs = true →
        (es = [] → ∀ β al, TRel w' F' β al v .emp → TRel w' F' β al v (rvT d rv)) →
        (es ≠ [] → ∀ k β al, (∀ e, e ∈ es → e.cells.length = k) → TRel w' F' β al v (.ow d k es) → TRel w' F' β al v (rvT d rv)) → K (a.put o.dst v) w' := by
      intro es g6 h5 hneeds hE hO
      rcases g6 with ⟨h0, a0, rfl⟩ | ⟨hne, b, cap, rfl, k1, k2, k3, k4, k, hrow⟩
      · exact hK _ w' F' O' β al ⟨hkeep, hkext, fun x hx => .inl hx, hE h0 β al ⟨a0, rfl⟩, (fun cs h => by cases h)⟩
      · have hkk : ∀ e, e ∈ es → e.cells.length = k := by
          obtain ⟨c, et, q1, q2, q3, q4, q5⟩ := hrow
          exact q4
        have hwant : TRel w' F' { β with ob := fun s => if s = d then b else β.ob s } (fun x => al x ∨ x = .o d) (.slice (some ⟨b, 0, none⟩) es.length cap) (.ow d k es) := by
          refine ⟨.inr rfl, cap, by simp, ?_⟩
          simp only [if_true]
          obtain ⟨c, et, q1, q2, q3, q4, q5⟩ := hrow
          refine ⟨c, et, q1, q2, q3, q4, ?_⟩
          intro i j e d' x a1 a2 a3
          have := q5 i j e d' x a1 a2 a3
          cases hvw : view with
          | false => exact hrd x d' hvw this
          | true =>
            have hpl := h5 hvw
            simp only [RV.plain] at hpl
            have h6 := List.all_eq_true.1 hpl e (List.mem_of_getElem? a1)
            obtain ⟨y, hy⟩ := Option.isSome_iff_exists.1 h6
            cases e with
            | val u =>
              cases j with
              | zero => simp [V.cells] at a2; subst a2; exact hplain x _ u rfl this
              | succ j => simp [V.cells] at a2
            | agg cs =>
              simp only [V.toVal1] at hy
              split at hy
              · rename_i hall
                have h7 := leaf_of_isVal (List.all_eq_true.1 hall d' (List.mem_of_getElem? a2))
                rw [h7] at this ⊢
                exact hplain x _ _ rfl this
              · cases hy
            | _ => simp [V.toVal1] at hy
        let β' : Lay := { β with ob := fun s => if s = d then b else β.ob s }
        have hb : ∀ x, al x → β'.blk x = β.blk x := by
          intro x hx
          cases x with
          | o s =>
            have hne : s ≠ d := fun h => (hfr hneeds).2 (h ▸ hx)
            simp [Lay.blk, β', hne]
          | v id => rfl
        have hsb : β'.blk (.o d) = b := by simp [Lay.blk, β']
        have hnF : ¬ F' b := fun h => k3 h.1
        refine hK _ w' F' O' β' (fun x => al x ∨ x = .o d) ⟨?_, hext β' _ (fun x hx => .inl hx) hb, ?_, hO hne k _ _ hkk hwant, (fun cs h => by cases h)⟩
        · refine hcore β' _ ?_ ?_
          · rintro x (hx | rfl)
            · exact .inl ⟨hx, hb x hx⟩
            · rw [hsb]; exact .inr ⟨k1, k2, hnF, k4⟩
          · rintro x y (hx | rfl) (hy | rfl) h
            · rw [hb x hx, hb y hy] at h; exact hc.dist x y hx hy h
            · rw [hb x hx, hsb] at h; have := (hc.place x hx).2.1; omega
            · rw [hsb, hb y hy] at h; have := (hc.place y hy).2.1; omega
            · rfl
        · rintro x (hx | rfl)
          · exact .inl hx
          · exact .inr ⟨hneeds, .inr ⟨rfl, trivial⟩⟩
    cases rv with
    | p x =>
      refine hK v w' F' O' β al ⟨hkeep, hkext, fun x hx => .inl hx, ?_, (fun cs h => by cases h)⟩
      show Rd w' F' v x
      cases hvw : view with
      | false => exact hrd v x hvw g6
      | true =>
        have := h5 hvw
        simp only [RV.plain, Option.isSome_iff_exists] at this
        obtain ⟨y, hy⟩ := this
        exact hplain v x y hy g6
    | own es =>
      refine hown es g6 h5 rfl ?_ ?_
      · intro h0 β al h; subst h0; exact h
      · intro hne k β al hk h
        cases es with
        | nil => exact absurd rfl hne
        | cons e es =>
          show TRel _ _ _ _ _ (.ow d e.cells.length (e :: es))
          rw [hk e (by simp)]; exact h
    | ownT t xs =>
      refine hown (xs.map t.enc) g6 (fun hv => flat_plain t xs (h5 hv)) rfl ?_ ?_
      · intro h0 β al h
        refine TRel_un.2 ?_
        simp only [rvT, T.un, h0]
        exact h
      · intro hne k β al hk h
        cases xs with
        | nil => exact absurd rfl hne
        | cons x xs =>
          refine TRel_un.2 ?_
          have : k = t.size := by rw [← hk (t.enc x) (by simp)]; exact enc_len t x
          subst this
          exact h
end
end Go.Ve
