/-
  The evaluator over pure values, part 2: a frame's temporaries, the variables and slices of its own, and the relation to the machine's frame and world.
-/
import Derived.Test.YtggmpbaiijodiaaGreatNvVe1
namespace Go.Ve
open Go

/-- What a temporary holds: pure data; a slice of the frame's own (k cells an element); a pointer into one; a pointer to a variable of the frame's own; an empty slice without room; nothing known. -/
inductive T where
  | p (d : V)
  | ow (id k : Nat) (es : List V)
  | oe (id k : Nat) (es : List V) (i off : Nat)
  | lp (s off : Nat)
  | mp (id : Nat) (es : List MapEntry) (ck : Nat)
  | ot (id : Nat) (t : Ty) (xs : List t.El)
  | oet (id : Nat) (t : Ty) (xs : List t.El) (i off : Nat)
  | emp
  | dead

inductive Site where
  | v (s : Nat)
  | o (id : Nat)

structure Lay where
  vb : Nat → Nat
  ob : Nat → Nat

def Lay.blk (β : Lay) : Site → Nat
  | .v s => β.vb s
  | .o id => β.ob id

/-- Block b is a row of the frame's own: its first elements read as es. -/
def RowRel (w : World) (F : Nat → Prop) (b k cap : Nat) (es : List V) : Prop :=
  ∃ (c : Array Value) (et : TypeId), w.heap[b]? = some (.cells c et (0, 0)) ∧ c.size = cap * k ∧ es.length ≤ cap ∧
    (∀ e, e ∈ es → e.cells.length = k) ∧
    ∀ (i j : Nat) (e d : V) (x : Value), es[i]? = some e → e.cells[j]? = some d → c[i * k + j]? = some x → Rd w F x d

/-- A slice of the frame's own, or an empty one without room. -/
def OwnR (w : World) (F : Nat → Prop) (β : Lay) (al : Site → Prop) (v : Value) (id k : Nat) (es : List V) : Prop :=
  (es = [] ∧ ∃ a : Option Addr, v = .slice a 0 0) ∨
    (es ≠ [] ∧ al (.o id) ∧ ∃ cap, v = .slice (some ⟨β.ob id, 0, none⟩) es.length cap ∧ RowRel w F (β.ob id) k cap es)

def TRel (w : World) (F : Nat → Prop) (β : Lay) (al : Site → Prop) (v : Value) : T → Prop
  | .p d => Rd w F v d
  | .ow id k es => al (.o id) ∧ ∃ cap, v = .slice (some ⟨β.ob id, 0, none⟩) es.length cap ∧ RowRel w F (β.ob id) k cap es
  | .oe id k es i off => al (.o id) ∧ i < es.length ∧ ∃ cap, v = .pointer (some ⟨β.ob id, i * k + off, none⟩) ∧ RowRel w F (β.ob id) k cap es
  | .lp s off => al (.v s) ∧ v = .pointer (some ⟨β.vb s, off, none⟩)
  | .mp id es ck => al (.o id) ∧ v = .map (some (β.ob id)) ∧ w.heap[β.ob id]? = some (.map es.toArray ck)
  | .ot id t xs => OwnR w F β al v id t.size (xs.map t.enc)
  | .oet id t xs i off => al (.o id) ∧ i < xs.length ∧ ∃ cap, v = .pointer (some ⟨β.ob id, i * t.size + off, none⟩) ∧ RowRel w F (β.ob id) t.size cap (xs.map t.enc)
  | .emp => ∃ a : Option Addr, v = .slice a 0 0
  | .dead => True

/-- The same without its type. -/
def T.un : T → T
  | .p (.tl t xs) => .p (.sl (xs.map t.enc))
  | .ot id t xs => match xs.map t.enc with
    | [] => .emp
    | e :: es => .ow id t.size (e :: es)
  | .oet id t xs i off => .oe id t.size (xs.map t.enc) i off
  | x => x

theorem TRel_un {w : World} {F : Nat → Prop} {β : Lay} {al : Site → Prop} {v : Value} {x : T} : TRel w F β al v x ↔ TRel w F β al v x.un := by
  cases x with
  | p d =>
    cases d with
    | tl t xs => exact ⟨fun h => Rd.untl h, fun h => .tl t xs v h⟩
    | _ => exact Iff.rfl
  | ot id t xs =>
    simp only [TRel, T.un, OwnR]
    cases hxs : xs.map t.enc with
    | nil => simp
    | cons e es => simp
  | oet id t xs i off => simp [TRel, T.un]
  | _ => exact Iff.rfl

/-- Block b is a variable of the frame's own. -/
def VarRel (w : World) (F : Nat → Prop) (β : Lay) (al : Site → Prop) (b : Nat) (cs : List T) : Prop :=
  ∃ (c : Array Value) (et : TypeId), w.heap[b]? = some (.cells c et (0, 0)) ∧ c.size = cs.length ∧
    ∀ (i : Nat) (x : Value) (d : T), c[i]? = some x → cs[i]? = some d → TRel w F β al x d

/-- A later state keeps all that the earlier one knows. -/
structure Ext (w : World) (F : Nat → Prop) (β : Lay) (al : Site → Prop) (w' : World) (F' : Nat → Prop) (β' : Lay) (al' : Site → Prop) : Prop where
  f : ∀ b, F b → F' b
  hf : ∀ b, F b → w'.heap[b]? = w.heap[b]?
  a : ∀ x, al x → al' x
  b : ∀ x, al x → β'.blk x = β.blk x
  ha : ∀ x, al x → w'.heap[β.blk x]? = w.heap[β.blk x]?

section
variable {w w' w'' : World} {F F' F'' : Nat → Prop} {β β' β'' : Lay} {al al' al'' : Site → Prop}

theorem Ext.refl : Ext w F β al w F β al := ⟨fun _ h => h, fun _ _ => rfl, fun _ h => h, fun _ _ => rfl, fun _ _ => rfl⟩

theorem Ext.trans (h : Ext w F β al w' F' β' al') (k : Ext w' F' β' al' w'' F'' β'' al'') : Ext w F β al w'' F'' β'' al'' :=
  ⟨fun b hb => k.f b (h.f b hb), fun b hb => (k.hf b (h.f b hb)).trans (h.hf b hb), fun x hx => k.a x (h.a x hx),
   fun x hx => (k.b x (h.a x hx)).trans (h.b x hx),
   fun x hx => by have := k.ha x (h.a x hx); rw [h.b x hx] at this; exact this.trans (h.ha x hx)⟩

theorem Rd.ext (h : Ext w F β al w' F' β' al') {v : Value} {d : V} (hr : Rd w F v d) : Rd w' F' v d := hr.mono h.f h.hf

theorem RowRel.mono {b k cap : Nat} {es : List V} (hr : RowRel w F b k cap es) (hF : ∀ b, F b → F' b) (hw : ∀ b, F b → w'.heap[b]? = w.heap[b]?)
    (hb : w'.heap[b]? = w.heap[b]?) : RowRel w' F' b k cap es := by
  obtain ⟨c, et, h1, h2, h3, h4, h5⟩ := hr
  exact ⟨c, et, hb.trans h1, h2, h3, h4, fun i j e d x a1 a2 a3 => (h5 i j e d x a1 a2 a3).mono hF hw⟩

theorem TRel.ext (h : Ext w F β al w' F' β' al') {v : Value} {x : T} (hr : TRel w F β al v x) : TRel w' F' β' al' v x := by
  cases x with
  | p d => exact Rd.ext h hr
  | ow id k es =>
    obtain ⟨ha, cap, hv, hrow⟩ := hr
    have hb : β'.ob id = β.ob id := h.b (.o id) ha
    refine ⟨h.a _ ha, cap, by rw [hb]; exact hv, ?_⟩
    rw [hb]; exact hrow.mono h.f h.hf (h.ha (.o id) ha)
  | oe id k es i off =>
    obtain ⟨ha, hi, cap, hv, hrow⟩ := hr
    have hb : β'.ob id = β.ob id := h.b (.o id) ha
    refine ⟨h.a _ ha, hi, cap, by rw [hb]; exact hv, ?_⟩
    rw [hb]; exact hrow.mono h.f h.hf (h.ha (.o id) ha)
  | lp s off =>
    obtain ⟨ha, hv⟩ := hr
    have hb : β'.vb s = β.vb s := h.b (.v s) ha
    exact ⟨h.a _ ha, by rw [hb]; exact hv⟩
  | mp id es ck =>
    obtain ⟨ha, hv, hm⟩ := hr
    have hb : β'.ob id = β.ob id := h.b (.o id) ha
    exact ⟨h.a _ ha, by rw [hb]; exact hv, by rw [hb]; exact (h.ha (.o id) ha).trans hm⟩
  | ot id t xs =>
    rcases hr with hr | ⟨hne, ha, cap, hv, hrow⟩
    · exact .inl hr
    · have hb : β'.ob id = β.ob id := h.b (.o id) ha
      refine .inr ⟨hne, h.a _ ha, cap, by rw [hb]; exact hv, ?_⟩
      rw [hb]; exact hrow.mono h.f h.hf (h.ha (.o id) ha)
  | oet id t xs i off =>
    obtain ⟨ha, hi, cap, hv, hrow⟩ := hr
    have hb : β'.ob id = β.ob id := h.b (.o id) ha
    refine ⟨h.a _ ha, hi, cap, by rw [hb]; exact hv, ?_⟩
    rw [hb]; exact hrow.mono h.f h.hf (h.ha (.o id) ha)
  | emp => exact hr
  | dead => trivial

theorem VarRel.ext (h : Ext w F β al w' F' β' al') {b : Nat} {cs : List T} (hb : w'.heap[b]? = w.heap[b]?) (hr : VarRel w F β al b cs) : VarRel w' F' β' al' b cs := by
  obtain ⟨c, et, h1, h2, h3⟩ := hr
  exact ⟨c, et, hb.trans h1, h2, fun i x d a1 a2 => (h3 i x d a1 a2).ext h⟩
end

/-- An abstract state that calls may turn, and where it lies. -/
structure Sig where
  St : Type
  R : St → (Nat → Prop) → World → Prop
  mono : ∀ {s : St} {O : Nat → Prop} {w w' : World}, R s O w → (∀ b, O b → w'.heap[b]? = w.heap[b]?) → R s O w'
  inb : ∀ {s : St} {O : Nat → Prop} {w : World}, R s O w → ∀ b, O b → b < w.heap.size

/-- No state. -/
def unitSig : Sig where
  St := Unit
  R := fun _ O _ => ∀ b, ¬ O b
  mono := fun h _ => h
  inb := fun h b hb => absurd hb (h b)

/-- From w on nothing of old has turned but the blocks of O. -/
structure Keep (O : Nat → Prop) (w w' : World) : Prop where
  os : w'.os = w.os
  tape : w'.tape = w.tape
  output : w'.output = w.output
  size : w.heap.size ≤ w'.heap.size
  block : ∀ b, b < w.heap.size → ¬ O b → w'.heap[b]? = w.heap[b]?

theorem Keep.refl (O : Nat → Prop) (w : World) : Keep O w w := ⟨rfl, rfl, rfl, Nat.le_refl _, fun _ _ _ => rfl⟩

/-- What a call hands back. -/
inductive RV where
  | p (d : V)
  | own (es : List V)
  | ownT (t : Ty) (xs : List t.El)

def OwnRet (N : Nat) (w : World) (F O : Nat → Prop) (v : Value) (es : List V) : Prop :=
  (es = [] ∧ ∃ a : Option Addr, v = .slice a 0 0) ∨
      es ≠ [] ∧ ∃ b cap, v = .slice (some ⟨b, 0, none⟩) es.length cap ∧ N ≤ b ∧ b < w.heap.size ∧ ¬ F b ∧ ¬ O b ∧ ∃ k, RowRel w F b k cap es

def RetRel (N : Nat) (w : World) (F O : Nat → Prop) (v : Value) : RV → Prop
  | .p d => Rd w F v d
  | .own es => OwnRet N w F O v es
  | .ownT t xs => OwnRet N w F O v (xs.map t.enc)

/-- Package-level variables that are read: their cells. -/
def GRel (G : Nat → Option (List V)) (w : World) (F : Nat → Prop) : Prop :=
  ∀ g cs, G g = some cs → Rd w F (.pointer (some ⟨g, 0, none⟩)) (.pp cs)

/-- THE CONTRACT: called with values that read as ds, in whatever world, function f hands back what spec says, and nothing of old has turned but the state's own blocks. -/
def FnOk (Γ : Sig) (P : Program) (G : Nat → Option (List V)) (f : FuncId) (spec : Γ.St → List V → Option (Γ.St × RV)) : Prop :=
  ∀ (w : World) (F O : Nat → Prop) (s : Γ.St) (args : Array Value) (ds : List V) (s' : Γ.St) (r : RV),
    Γ.R s O w → GRel G w F → (∀ b, F b → b < w.heap.size ∧ ¬ O b) → args.size = ds.length →
    (∀ (i : Nat) (x : Value) (d : V), args[i]? = some x → ds[i]? = some d → Rd w F x d) →
    spec s ds = some (s', r) →
    Calls P f args w fun e w' => ∃ (v : Value) (F' O' : Nat → Prop), e = .returned v ∧ Γ.R s' O' w' ∧ Keep O w w' ∧
      (∀ b, O' b → O b ∨ w.heap.size ≤ b) ∧ (∀ b, F b → F' b) ∧ (∀ b, F' b → (F b ∨ w.heap.size ≤ b) ∧ b < w'.heap.size ∧ ¬ O' b) ∧
      RetRel w.heap.size w' F' O' v r

abbrev Specs (Γ : Sig) := FuncId → Γ.St → List V → Option (Γ.St × RV)

/-- The frame's state. -/
structure Env (St : Type) where
  tm : List T
  vars : List (Option (List T))
  st : St

def Env.get {St : Type} (e : Env St) (t : Nat) : T := e.tm.getD t .dead
def Env.var {St : Type} (e : Env St) (s : Nat) : Option (List T) := (e.vars[s]?).getD none

/-- What of the frame's state speaks of memory, and where it lies: the part that operations hand on. -/
structure Core (Γ : Sig) (w0 : World) (F0 O0 : Nat → Prop) (w : World) (F O : Nat → Prop) (β : Lay) (al : Site → Prop) (st : Γ.St) : Prop where
  keep : Keep O0 w0 w
  sig : Γ.R st O w
  oin : ∀ b, O b → O0 b ∨ w0.heap.size ≤ b
  fin : ∀ b, F b → (F0 b ∨ w0.heap.size ≤ b) ∧ b < w.heap.size ∧ ¬ O b
  f0 : ∀ b, F0 b → F b
  place : ∀ x, al x → w0.heap.size ≤ β.blk x ∧ β.blk x < w.heap.size ∧ ¬ F (β.blk x) ∧ ¬ O (β.blk x)
  dist : ∀ x y, al x → al y → β.blk x = β.blk y → x = y

end Go.Ve
