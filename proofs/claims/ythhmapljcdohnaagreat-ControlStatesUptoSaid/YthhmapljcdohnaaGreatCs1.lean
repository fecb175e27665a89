/-
  The evaluator over pure values, part 1: values, readings of values in memory, and what keeps them.
  The evaluator over pure values, part 2: a frame's temporaries, the variables and slices of its own, and the relation to the machine's frame and world.
  The evaluator over pure values, part 25: readings that say less; typed data out of cells.
  The evaluator over pure values, part 3: operations that write nothing of old.
  The evaluator over pure values, part 4: what the operations that write nothing of old come to in the machine.
-/
import Derived.Orders
import Derived.Below
import Derived.KernelRfl
import Derived.IntWalk
set_option linter.unusedVariables false
namespace Go.Ve
open Go

/-- The shapes of typed data: a struct is a chain of pairs, its fields laid flat. -/
inductive Ty where
  | int (k : IntKind)
  | bool
  | str
  | unit
  | pair (a b : Ty)
  | sl (t : Ty)
  | rf
  | hd
  | pt (t : Ty)
  deriving DecidableEq

@[reducible] def Ty.El : Ty → Type
  | .int _ => Int
  | .bool => Bool
  | .str => ByteArray
  | .unit => Unit
  | .pair a b => a.El × b.El
  | .sl t => List t.El
  | .rf => Option (Nat × Nat)
  | .hd => Nat
  | .pt t => Option (Nat × t.El)

/-- Pure Go data: a leaf known exactly, a struct or array by its cells, a slice by its elements, a tuple, a function value with what it captured, a pointer to cells that stay. -/
inductive V where
  | val (v : Value)
  | agg (cs : List V)
  | sl (es : List V)
  | tup (vs : List V)
  | clo (f : FuncId) (caps : List V)
  | pp (cs : List V)
  | tl (t : Ty) (xs : List t.El)
  | rf (o : Option (Nat × Nat))
  | hd (id : Nat)
  | pt (t : Ty) (o : Option (Nat × t.El))
  | hp (cs : List V)
  | bot

/-- Typed data, cell by cell. -/
def Ty.cells : (t : Ty) → t.El → List V
  | .int k, n => [.val (.int k n)]
  | .bool, b => [.val (.bool b)]
  | .str, s => [.val (.string s)]
  | .unit, _ => []
  | .pair a b, x => a.cells x.1 ++ b.cells x.2
  | .sl t, xs => [.tl t xs]
  | .rf, o => [.rf o]
  | .hd, n => [.hd n]
  | .pt t, o => [.pt t o]

def Ty.enc : (t : Ty) → t.El → V
  | .int k, n => .val (.int k n)
  | .bool, b => .val (.bool b)
  | .str, s => .val (.string s)
  | .unit, _ => .agg []
  | .pair a b, x => .agg (a.cells x.1 ++ b.cells x.2)
  | .sl t, xs => .tl t xs
  | .rf, o => .rf o
  | .hd, n => .hd n
  | .pt t, o => .pt t o

def Ty.size : Ty → Nat
  | .unit => 0
  | .pair a b => a.size + b.size
  | _ => 1

def V.cells : V → List V
  | .agg cs => cs
  | d => [d]

def V.isVal : V → Bool
  | .val _ => true
  | _ => false

def V.leaf : V → Value
  | .val v => v
  | _ => undef

def V.toVal1 : V → Option Value
  | .val v => some v
  | .agg cs => if cs.all V.isVal then some (.agg (cs.map V.leaf).toArray) else none
  | _ => none

def V.toVal : V → Option Value
  | .tup vs => if vs.all (fun d => d.toVal1.isSome) then some (.tuple (vs.map (fun d => d.toVal1.getD undef)).toArray) else none
  | d => d.toVal1

def V.ofVal1 : Value → V
  | .agg cs => .agg (cs.toList.map .val)
  | v => .val v

def V.ofVal : Value → V
  | .tuple vs => .tup (vs.toList.map V.ofVal1)
  | v => V.ofVal1 v

/-- What stays: a block of memory; a number that stands for a slice; a number that stands for a pointer to a block whose first cells, as long as the state is what it is, read as cs; a block that the state refers to. -/
inductive Blk where
  | b (n : Nat)
  | h (id : Nat) (a : Option Addr) (n c : Nat)
  | k (id b : Nat) (cs : List V)
  | s (n : Nat)

def Blk.isB : Blk → Bool
  | .b _ => true
  | _ => false

instance : Coe Nat Blk := ⟨Blk.b⟩

theorem blk_eq {a b : Nat} (h : Blk.b a = Blk.b b) : a = b := by cases h; rfl

theorem addB_h {F : Blk → Prop} {m : Nat} (x : Blk) (hx : x.isB = false) : (F x ∨ x = Blk.b m) ↔ F x :=
  ⟨fun h => h.resolve_right (fun h => by subst h; cases hx), .inl⟩

/-- Nothing goes, and the state refers to no block of old that it did not refer to. -/
def Grow (N : Nat) (F F' : Blk → Prop) : Prop := (∀ b, F b → F' b) ∧ ∀ n, F' (.s n) → F (.s n) ∨ N ≤ n

theorem Grow.of_reg {N : Nat} {F F' : Blk → Prop} (h : ∀ b, F b → F' b) (hk : ∀ x : Blk, x.isB = false → (F' x ↔ F x)) : Grow N F F' := ⟨h, fun n hn => .inl ((hk _ rfl).1 hn)⟩

theorem Grow.refl (N : Nat) (F : Blk → Prop) : Grow N F F := ⟨fun _ h => h, fun _ h => .inl h⟩

theorem Grow.addB (N : Nat) (F : Blk → Prop) (m : Nat) : Grow N F (fun x => F x ∨ x = Blk.b m) := ⟨fun _ h => .inl h, fun _ h => h.elim .inl (fun h => by cases h)⟩

/-- The same, but a state that may take hold of what is old. -/
def GrowW (p : Prop) (N : Nat) (F F' : Blk → Prop) : Prop := (∀ b, F b → F' b) ∧ ∀ n, F' (.s n) → F (.s n) ∨ N ≤ n ∨ (p ∧ F (.b n))

theorem Grow.w {p : Prop} {N : Nat} {F F' : Blk → Prop} (h : Grow N F F') : GrowW p N F F' := ⟨h.1, fun n hn => (h.2 n hn).elim .inl (fun h => .inr (.inl h))⟩

theorem GrowW.no {p : Prop} (hp : ¬ p) {N : Nat} {F F' : Blk → Prop} (h : GrowW p N F F') : Grow N F F' := ⟨h.1, fun n hn => (h.2 n hn).elim .inl (fun h => h.elim .inr (fun h => absurd h.1 hp))⟩

theorem GrowW.of_reg {p : Prop} {N : Nat} {F F' : Blk → Prop} (h : ∀ b, F b → F' b) (hk : ∀ x : Blk, x.isB = false → (F' x ↔ F x)) : GrowW p N F F' := (Grow.of_reg h hk).w

theorem GrowW.refl {p : Prop} (N : Nat) (F : Blk → Prop) : GrowW p N F F := (Grow.refl N F).w

theorem GrowW.trans {p : Prop} {N N' : Nat} {F F' F'' : Blk → Prop} (h : GrowW p N F F') (k : Grow N' F' F'') (hN : N ≤ N') : GrowW p N F F'' :=
  ⟨fun b hb => k.1 b (h.1 b hb), fun n hn => (k.2 n hn).elim (fun hn => h.2 n hn) (fun hn => .inr (.inl (Nat.le_trans hN hn)))⟩

theorem GrowW.to {p q : Prop} (hp : ¬ p) {N : Nat} {F F' : Blk → Prop} (h : GrowW p N F F') : GrowW q N F F' := (h.no hp).w

/-- What is old. -/
def oldB (N : Nat) : Blk → Prop
  | .b n => n < N
  | _ => False

/-- What is new since w. -/
def newB (N : Nat) : Blk → Prop
  | .b n => N ≤ n
  | .s n => N ≤ n
  | _ => True

/-- The value v, in the world w, reads as the pure datum; all memory that the reading meets lies in blocks of F. -/
inductive Rd (w : World) (F : Blk → Prop) : Value → V → Prop
  | val (v : Value) : Rd w F v (.val v)
  | agg (cs : Array Value) (ds : List V) (hl : cs.size = ds.length)
      (h : ∀ (i : Nat) (x : Value) (d : V), cs[i]? = some x → ds[i]? = some d → Rd w F x d) : Rd w F (.agg cs) (.agg ds)
  | tup (cs : Array Value) (ds : List V) (hl : cs.size = ds.length)
      (h : ∀ (i : Nat) (x : Value) (d : V), cs[i]? = some x → ds[i]? = some d → Rd w F x d) : Rd w F (.tuple cs) (.tup ds)
  | slemp (a : Option Addr) (cap : Nat) : Rd w F (.slice a 0 cap) (.sl [])
  | sl (b off cap k : Nat) (es : List V) (g : Nat → Value) (hF : F b) (hcap : es.length ≤ cap) (hk : ∀ e, e ∈ es → e.cells.length = k)
      (hg : ∀ m, m < es.length * k → w.cell? ⟨b, off + m, none⟩ = some (g m))
      (hr : ∀ (i j : Nat) (e d : V), es[i]? = some e → e.cells[j]? = some d → Rd w F (g (i * k + j)) d) :
      Rd w F (.slice (some ⟨b, off, none⟩) es.length cap) (.sl es)
  | clo (f : FuncId) (cs : Array Value) (ds : List V) (hl : cs.size = ds.length)
      (h : ∀ (i : Nat) (x : Value) (d : V), cs[i]? = some x → ds[i]? = some d → Rd w F x d) : Rd w F (.func (.func f) #[] cs) (.clo f ds)
  | pp (b off : Nat) (cs : List V) (g : Nat → Value) (hF : F b)
      (hg : ∀ m, m < cs.length → w.cell? ⟨b, off + m, none⟩ = some (g m))
      (hr : ∀ (m : Nat) (d : V), cs[m]? = some d → Rd w F (g m) d) : Rd w F (.pointer (some ⟨b, off, none⟩)) (.pp cs)
  | tl (t : Ty) (xs : List t.El) (v : Value) (h : Rd w F v (.sl (xs.map t.enc))) : Rd w F v (.tl t xs)
  | rfn : Rd w F (.slice none 0 0) (.rf none)
  | rf (id : Nat) (a : Option Addr) (n c : Nat) (h : F (.h id a n c)) : Rd w F (.slice a n c) (.rf (some (id, n)))
  | hd (id : Nat) (a : Addr) (h : F (.h id (some a) 0 0)) : Rd w F (.pointer (some a)) (.hd id)
  | ptn (t : Ty) : Rd w F (.pointer none) (.pt t none)
  | pt (t : Ty) (id b : Nat) (x : t.El) (h : F (.k id b (t.cells x))) : Rd w F (.pointer (some ⟨b, 0, none⟩)) (.pt t (some (id, x)))
  | hp (id b off : Nat) (cs cs' : List V) (h : F (.k id b cs')) (hc : ∀ (m : Nat) (d : V), cs[m]? = some d → cs'[off + m]? = some d) : Rd w F (.pointer (some ⟨b, off, none⟩)) (.hp cs)

theorem Rd.mono {w w' : World} {F F' : Blk → Prop} {v : Value} {d : V} (h : Rd w F v d) (hF : ∀ b, F b → F' b)
    (hw : ∀ b : Nat, F b → w'.heap[b]? = w.heap[b]?) : Rd w' F' v d := by
  induction h with
  | val v => exact .val v
  | agg cs ds hl _ ih => exact .agg cs ds hl ih
  | tup cs ds hl _ ih => exact .tup cs ds hl ih
  | slemp a cap => exact .slemp a cap
  | sl b off cap k es g hb hcap hk hg _ ih =>
    exact .sl b off cap k es g (hF b hb) hcap hk (fun m hm => (World.cell?_of_block (w := w) (hw b hb)).trans (hg m hm)) ih
  | clo f cs ds hl _ ih => exact .clo f cs ds hl ih
  | pp b off cs g hb hg _ ih => exact .pp b off cs g (hF b hb) (fun m hm => (World.cell?_of_block (w := w) (hw b hb)).trans (hg m hm)) ih
  | tl t xs v _ ih => exact .tl t xs v ih
  | rfn => exact .rfn
  | rf id a n c h => exact .rf id a n c (hF _ h)
  | hd id a h => exact .hd id a (hF _ h)
  | ptn t => exact .ptn t
  | pt t id b x h => exact .pt t id b x (hF _ h)
  | hp id b off cs cs' h hc => exact .hp id b off cs cs' (hF _ h) hc

theorem enc_cells (t : Ty) (x : t.El) : (t.enc x).cells = t.cells x := by
  cases t <;> rfl

theorem cells_len (t : Ty) (x : t.El) : (t.cells x).length = t.size := by
  induction t with
  | pair a b iha ihb => grind [Ty.cells, Ty.size]
  | _ => rfl

theorem enc_len (t : Ty) (x : t.El) : (t.enc x).cells.length = t.size := by rw [enc_cells, cells_len]

theorem Rd.untl {w : World} {F : Blk → Prop} {v : Value} {t : Ty} {xs : List t.El} (h : Rd w F v (.tl t xs)) : Rd w F v (.sl (xs.map t.enc)) := by
  cases h with
  | tl _ _ _ h => exact h

theorem Rd.eq_val {w : World} {F : Blk → Prop} {v u : Value} (h : Rd w F v (.val u)) : v = u := by
  cases h; rfl

theorem leaf_of_isVal {d : V} (h : d.isVal = true) : d = .val d.leaf := by
  cases d <;> simp [V.isVal] at h; rfl

theorem Rd.eq_toVal1 {w : World} {F : Blk → Prop} {v u : Value} {d : V} (h : Rd w F v d) (hd : d.toVal1 = some u) : v = u := by
  cases h with
  | val v => grind [V.toVal1]
  | agg cs ds hl h =>
    simp only [V.toVal1] at hd
    split at hd
    · rename_i hall
      cases hd
      congr 1
      apply Array.ext
      · simp [hl]
      · intro i h1 h2
        have hi : i < ds.length := by omega
        have h3 := h i cs[i] ds[i] (by simp [h1]) (by simp [hi])
        have h4 := leaf_of_isVal (List.all_eq_true.1 hall ds[i] (List.getElem_mem hi))
        rw [h4] at h3
        rw [h3.eq_val]
        simp
    · cases hd
  | _ => simp [V.toVal1] at hd

theorem Rd.eq_toVal {w : World} {F : Blk → Prop} {v u : Value} {d : V} (h : Rd w F v d) (hd : d.toVal = some u) : v = u := by
  cases h with
  | tup cs ds hl h =>
    simp only [V.toVal] at hd
    split at hd
    · rename_i hall
      cases hd
      congr 1
      apply Array.ext
      · simp [hl]
      · intro i h1 h2
        have hi : i < ds.length := by omega
        have h3 := h i cs[i] ds[i] (by simp [h1]) (by simp [hi])
        have h4 := List.all_eq_true.1 hall ds[i] (List.getElem_mem hi)
        obtain ⟨u, hu⟩ := Option.isSome_iff_exists.1 h4
        rw [h3.eq_toVal1 hu]
        simp [hu]
    · cases hd
  | val v => exact Rd.eq_toVal1 (.val (w := w) (F := F) v) hd
  | agg cs ds hl h => exact Rd.eq_toVal1 (.agg cs ds hl h) hd
  | _ => simp [V.toVal, V.toVal1] at hd

theorem rd_ofVal1 (w : World) (F : Blk → Prop) (v : Value) : Rd w F v (V.ofVal1 v) := by
  cases v with
  | agg cs =>
    refine .agg cs _ (by simp) ?_
    intro i x d h1 h2
    simp only [List.getElem?_map, Option.map_eq_some_iff] at h2
    obtain ⟨y, hy, rfl⟩ := h2
    have : x = y := by
      grind
    subst this; exact .val x
  | _ => exact .val _

theorem rd_ofVal (w : World) (F : Blk → Prop) (v : Value) : Rd w F v (V.ofVal v) := by
  cases v with
  | tuple cs =>
    refine .tup cs _ (by simp) ?_
    intro i x d h1 h2
    simp only [List.getElem?_map, Option.map_eq_some_iff] at h2
    obtain ⟨y, hy, rfl⟩ := h2
    grind [Option.some.inj, rd_ofVal1]
  | agg cs => exact rd_ofVal1 w F (.agg cs)
  | _ => exact .val _

/-- What has no address in it reads the same in every world. -/
theorem Rd.of_flat {w w' : World} {F F' : Blk → Prop} {v : Value} {d : V} {u : Value} (h : Rd w F v d) (hd : d.toVal = some u) : Rd w' F' v d := by
  cases h with
  | val v => exact .val v
  | agg cs ds hl h =>
    refine .agg cs ds hl ?_
    intro i x d h1 h2
    simp only [V.toVal, V.toVal1] at hd
    split at hd
    · rename_i hall
      have h4 := leaf_of_isVal (List.all_eq_true.1 hall d (List.mem_of_getElem? h2))
      have h3 := h i x d h1 h2
      rw [h4] at h3 ⊢
      rw [h3.eq_val]; exact .val _
    · cases hd
  | tup cs ds hl h =>
    refine .tup cs ds hl ?_
    intro i x d h1 h2
    simp only [V.toVal] at hd
    split at hd
    · rename_i hall
      have h4 := List.all_eq_true.1 hall d (List.mem_of_getElem? h2)
      obtain ⟨u, hu⟩ := Option.isSome_iff_exists.1 h4
      have h3 := h i x d h1 h2
      cases h3 with
      | val => exact .val _
      | agg cs' ds' hl' h' =>
        refine .agg cs' ds' hl' ?_
        intro i' x' d' h1' h2'
        simp only [V.toVal1] at hu
        split at hu
        · rename_i hall'
          have h5 := leaf_of_isVal (List.all_eq_true.1 hall' d' (List.mem_of_getElem? h2'))
          have h6 := h' i' x' d' h1' h2'
          rw [h5] at h6 ⊢
          rw [h6.eq_val]; exact .val _
        · cases hu
      | _ => simp [V.toVal1] at hu
    · cases hd
  | _ => simp [V.toVal, V.toVal1] at hd

/-- The program's tables, as they are asked: so that a faster copy of them can be put in their place. -/
structure Look where
  P : Program
  und : TypeId → Option TypeDesc
  inf : TypeId → Option TypeInfo
  fn : FuncId → Option Func
  ty : TypeId → Option Ty

def Ty.rep (a : Ty) : Nat → Ty
  | 0 => .unit
  | n + 1 => .pair a (a.rep n)

/-- The shape of a Go type, where it has one. -/
def tyOf (P : Program) : Nat → TypeId → Option Ty
  | 0, _ => none
  | n + 1, t => match P.underlying t with
    | some .bool => some .bool
    | some (.int k) => some (.int k)
    | some .string => some .str
    | some (.slice el) => match tyOf P n el with
      | some a => some (.sl a)
      | none => none
    | some (.array m el) => match tyOf P n el with
      | some a => some (a.rep m)
      | none => none
    | some (.struct fs) => fs.toList.foldr (fun f acc => match tyOf P n f.type, acc with
      | some a, some b => some (.pair a b)
      | _, _ => none) (some .unit)
    | _ => none

/-- The same, but that a field named Ends goes by a number. -/
def tyRf (P : Program) : Nat → TypeId → Option Ty
  | 0, _ => none
  | n + 1, t => match P.underlying t with
    | some .bool => some .bool
    | some (.int k) => some (.int k)
    | some .string => some .str
    | some (.slice el) => match tyRf P n el with
      | some a => some (.sl a)
      | none => none
    | some (.array m el) => match tyRf P n el with
      | some a => some (a.rep m)
      | none => none
    | some (.struct fs) => fs.toList.foldr (fun f acc => match (match f.name == "Ends" with
        | true => some Ty.rf
        | false => tyRf P n f.type), acc with
      | some a, some b => some (.pair a b)
      | _, _ => none) (some .unit)
    | _ => none

/-- Structs one of whose fields is appended to in place keep their cells as they are. -/
def barTy (P : Program) (t : TypeId) : Bool :=
  match P.underlying t with
  | some (.struct fs) => fs.toList.any (fun f => f.name == "edges" || f.name == "Interfaces")
  | _ => false

/-- The shape by which a slice of such elements is made. -/
def creTy (P : Program) (t : TypeId) : Option Ty :=
  match barTy P t with
  | true => none
  | false => tyRf P 12 t

@[reducible] def Look.of (P : Program) : Look := ⟨P, P.underlying, P.info?, fun f => P.funcs[f]?, creTy P⟩

instance : Coe Program Look := ⟨Look.of⟩

/-- What an operation comes to that looks at nothing but the program's tables. -/
def pureIn {α : Type} (P : Program) : Sem α → Option α
  | .pure a => some a
  | .program k => pureIn P (k P)
  | _ => none

theorem pureIn_run {α : Type} {P : Program} {s : Sem α} {a : α} (h : pureIn P s = some a) (w : World) : s.run P w = .ok a w := by
  induction s with
  | pure b => simp_all [pureIn]
  | program k ih => exact ih P (by grind [pureIn])
  | _ => simp [pureIn] at h

theorem pureIn_bind {α β : Type} {P : Program} {s : Sem α} {f : α → Sem β} {b : β} (h : pureIn P (s >>= f) = some b) : ∃ a, pureIn P s = some a ∧ pureIn P (f a) = some b := by
  change pureIn P (s.bind f) = some b at h
  induction s with
  | pure a => exact ⟨a, rfl, h⟩
  | program k ih => grind [pureIn, Sem.bind]
  | _ => simp [pureIn, Sem.bind] at h

end Go.Ve

namespace Go.Ve
open Go

/-- A slice of lists of the frame's own whose element j is a slice of the frame's own too: as a slice (s), a pointer to element i (p), element j (r), a pointer into element k of that (q). -/
inductive NM where
  | s
  | p (i : Nat)
  | r
  | q (k off : Nat)

structure Nst where
  id : Nat
  id2 : Nat
  t : Ty
  xs : List (List t.El)
  j : Nat
  ys : List t.El
  m : NM

/-- What a temporary holds: pure data; a slice of the frame's own (k cells an element); a pointer into one; a pointer to a variable of the frame's own; an empty slice without room; nothing known. -/
inductive T where
  | p (d : V)
  | ow (id k : Nat) (es : List V)
  | oe (id k : Nat) (es : List V) (i off : Nat)
  | lp (s off : Nat)
  | mp (id : Nat) (es : List MapEntry) (ck : Nat)
  | ot (id : Nat) (t : Ty) (xs : List t.El)
  | oet (id : Nat) (t : Ty) (xs : List t.El) (i off : Nat)
  | ov (id : Nat) (t : Ty) (xs : List t.El) (lo hi : Nat)
  | on (n : Nst)
  | emp
  | dead

inductive Site where
  | v (s : Nat)
  | o (id : Nat)

structure Lay where
  vb : Nat → Nat
  ob : Nat → Nat

def Lay.blk (β : Lay) : Site → Nat
  | .v s => β.vb s
  | .o id => β.ob id

/-- Block b is a row of the frame's own: its first elements read as es. -/
def RowRel (w : World) (F : Blk → Prop) (b k cap : Nat) (es : List V) : Prop :=
  ∃ (c : Array Value) (et : TypeId), w.heap[b]? = some (.cells c et (0, 0)) ∧ c.size = cap * k ∧ es.length ≤ cap ∧
    (∀ e, e ∈ es → e.cells.length = k) ∧
    ∀ (i j : Nat) (e d : V) (x : Value), es[i]? = some e → e.cells[j]? = some d → c[i * k + j]? = some x → Rd w F x d

/-- A slice of the frame's own, or an empty one without room. -/
def OwnR (w : World) (F : Blk → Prop) (β : Lay) (al : Site → Prop) (v : Value) (id k : Nat) (es : List V) : Prop :=
  (es = [] ∧ ∃ a : Option Addr, v = .slice a 0 0) ∨
    (es ≠ [] ∧ al (.o id) ∧ ∃ cap, v = .slice (some ⟨β.ob id, 0, none⟩) es.length cap ∧ RowRel w F (β.ob id) k cap es)

def NM.Rel (b b2 cap cap2 len len2 z : Nat) (v : Value) : NM → Prop
  | .s => (len = 0 ∧ ∃ a : Option Addr, v = .slice a 0 0) ∨ v = .slice (some ⟨b, 0, none⟩) len cap
  | .p i => i < len ∧ v = .pointer (some ⟨b, i, none⟩)
  | .r => v = .slice (some ⟨b2, 0, none⟩) len2 cap2
  | .q k off => k < len2 ∧ v = .pointer (some ⟨b2, k * z + off, none⟩)

def NRel (w : World) (F : Blk → Prop) (β : Lay) (al : Site → Prop) (v : Value) (n : Nst) : Prop :=
  al (.o n.id) ∧ al (.o n.id2) ∧ ∃ (c : Array Value) (et : TypeId) (cap2 : Nat),
    w.heap[β.ob n.id]? = some (.cells c et (0, 0)) ∧ n.xs.length ≤ c.size ∧
    (∀ i x u, i ≠ n.j → n.xs[i]? = some x → c[i]? = some u → Rd w F u (.tl n.t x)) ∧
    c[n.j]? = some (.slice (some ⟨β.ob n.id2, 0, none⟩) n.ys.length cap2) ∧ RowRel w F (β.ob n.id2) n.t.size cap2 (n.ys.map n.t.enc) ∧
    n.m.Rel (β.ob n.id) (β.ob n.id2) c.size cap2 n.xs.length n.ys.length n.t.size v

def TRel (w : World) (F : Blk → Prop) (β : Lay) (al : Site → Prop) (v : Value) : T → Prop
  | .p d => Rd w F v d
  | .ow id k es => al (.o id) ∧ ∃ cap, v = .slice (some ⟨β.ob id, 0, none⟩) es.length cap ∧ RowRel w F (β.ob id) k cap es
  | .oe id k es i off => al (.o id) ∧ i < es.length ∧ ∃ cap, v = .pointer (some ⟨β.ob id, i * k + off, none⟩) ∧ RowRel w F (β.ob id) k cap es
  | .lp s off => al (.v s) ∧ v = .pointer (some ⟨β.vb s, off, none⟩)
  | .mp id es ck => al (.o id) ∧ v = .map (some (β.ob id)) ∧ w.heap[β.ob id]? = some (.map es.toArray ck)
  | .ot id t xs => OwnR w F β al v id t.size (xs.map t.enc)
  | .oet id t xs i off => al (.o id) ∧ i < xs.length ∧ ∃ cap, v = .pointer (some ⟨β.ob id, i * t.size + off, none⟩) ∧ RowRel w F (β.ob id) t.size cap (xs.map t.enc)
  | .ov id t xs lo hi => (xs = [] ∧ lo = 0 ∧ hi = 0 ∧ ∃ a : Option Addr, v = .slice a 0 0) ∨
      (xs ≠ [] ∧ al (.o id) ∧ lo ≤ hi ∧ hi ≤ xs.length ∧ ∃ cap, v = .slice (some ⟨β.ob id, if cap = lo then 0 else lo * t.size, none⟩) (hi - lo) (cap - lo) ∧ RowRel w F (β.ob id) t.size cap (xs.map t.enc))
  | .on n => NRel w F β al v n
  | .emp => ∃ a : Option Addr, v = .slice a 0 0
  | .dead => True

/-- The same without its type. -/
def T.un : T → T
  | .p (.tl t xs) => .p (.sl (xs.map t.enc))
  | .ot id t xs => match xs.map t.enc with
    | [] => .emp
    | e :: es => .ow id t.size (e :: es)
  | .oet id t xs i off => .oe id t.size (xs.map t.enc) i off
  | x => x

theorem TRel_un {w : World} {F : Blk → Prop} {β : Lay} {al : Site → Prop} {v : Value} {x : T} : TRel w F β al v x ↔ TRel w F β al v x.un := by
  cases x with
  | p d =>
    cases d with
    | tl t xs => exact ⟨fun h => Rd.untl h, fun h => .tl t xs v h⟩
    | _ => exact Iff.rfl
  | ot id t xs =>
    grind [TRel, T.un, OwnR]
  | oet id t xs i off => simp [TRel, T.un]
  | _ => exact Iff.rfl

/-- Block b is a variable of the frame's own. -/
def VarRel (w : World) (F : Blk → Prop) (β : Lay) (al : Site → Prop) (b : Nat) (cs : List T) : Prop :=
  ∃ (c : Array Value) (et : TypeId), w.heap[b]? = some (.cells c et (0, 0)) ∧ c.size = cs.length ∧
    ∀ (i : Nat) (x : Value) (d : T), c[i]? = some x → cs[i]? = some d → TRel w F β al x d

/-- A later state keeps all that the earlier one knows. -/
structure Ext (w : World) (F : Blk → Prop) (β : Lay) (al : Site → Prop) (w' : World) (F' : Blk → Prop) (β' : Lay) (al' : Site → Prop) : Prop where
  f : ∀ b, F b → F' b
  hf : ∀ b : Nat, F b → w'.heap[b]? = w.heap[b]?
  a : ∀ x, al x → al' x
  b : ∀ x, al x → β'.blk x = β.blk x
  ha : ∀ x, al x → w'.heap[β.blk x]? = w.heap[β.blk x]?

section
variable {w w' w'' : World} {F F' F'' : Blk → Prop} {β β' β'' : Lay} {al al' al'' : Site → Prop}

theorem Ext.refl : Ext w F β al w F β al := ⟨fun _ h => h, fun _ _ => rfl, fun _ h => h, fun _ _ => rfl, fun _ _ => rfl⟩

theorem Rd.ext (h : Ext w F β al w' F' β' al') {v : Value} {d : V} (hr : Rd w F v d) : Rd w' F' v d := hr.mono h.f h.hf

theorem RowRel.mono {b k cap : Nat} {es : List V} (hr : RowRel w F b k cap es) (hF : ∀ b, F b → F' b) (hw : ∀ b : Nat, F b → w'.heap[b]? = w.heap[b]?)
    (hb : w'.heap[b]? = w.heap[b]?) : RowRel w' F' b k cap es := by
  obtain ⟨c, et, h1, h2, h3, h4, h5⟩ := hr
  exact ⟨c, et, hb.trans h1, h2, h3, h4, fun i j e d x a1 a2 a3 => (h5 i j e d x a1 a2 a3).mono hF hw⟩

theorem NRel.mono {v : Value} {n : Nst} (hr : NRel w F β al v n) (hF : ∀ b, F b → F' b) (hw : ∀ b : Nat, F b → w'.heap[b]? = w.heap[b]?)
    (h1 : al' (.o n.id)) (h2 : al' (.o n.id2)) (b1 : β'.ob n.id = β.ob n.id) (b2 : β'.ob n.id2 = β.ob n.id2)
    (g1 : w'.heap[β.ob n.id]? = w.heap[β.ob n.id]?) (g2 : w'.heap[β.ob n.id2]? = w.heap[β.ob n.id2]?) : NRel w' F' β' al' v n := by
  obtain ⟨_, _, c, et, cap2, k1, k2, k5, k6, k7, k8⟩ := hr
  refine ⟨h1, h2, c, et, cap2, ?_, k2, fun i x u a1 a2 a3 => (k5 i x u a1 a2 a3).mono hF hw, ?_, ?_, ?_⟩
  · grind
  · rw [b2]; exact k6
  · rw [b2]; exact k7.mono hF hw g2
  grind

theorem NRel.shape {v : Value} {n : Nst} (hr : NRel w F β al v n) : (∃ a l k, v = .slice a l k) ∨ ∃ a, v = .pointer a := by
  obtain ⟨_, _, c, et, cap2, k1, k2, k5, k6, k7, k8⟩ := hr
  cases hm : n.m <;> rw [hm] at k8
  · rcases k8 with ⟨_, a, k8⟩ | k8 <;> exact .inl ⟨_, _, _, k8⟩
  · exact .inr ⟨_, k8.2⟩
  · exact .inl ⟨_, _, _, k8⟩
  · exact .inr ⟨_, k8.2⟩

theorem TRel.ext (h : Ext w F β al w' F' β' al') {v : Value} {x : T} (hr : TRel w F β al v x) : TRel w' F' β' al' v x := by
  cases x with
  | p d => exact Rd.ext h hr
  | ow id k es =>
    obtain ⟨ha, cap, hv, hrow⟩ := hr
    have hb : β'.ob id = β.ob id := h.b (.o id) ha
    refine ⟨h.a _ ha, cap, by rw [hb]; exact hv, ?_⟩
    rw [hb]; exact hrow.mono h.f h.hf (h.ha (.o id) ha)
  | oe id k es i off =>
    obtain ⟨ha, hi, cap, hv, hrow⟩ := hr
    have hb : β'.ob id = β.ob id := h.b (.o id) ha
    refine ⟨h.a _ ha, hi, cap, by rw [hb]; exact hv, ?_⟩
    rw [hb]; exact hrow.mono h.f h.hf (h.ha (.o id) ha)
  | lp s off =>
    obtain ⟨ha, hv⟩ := hr
    have hb : β'.vb s = β.vb s := h.b (.v s) ha
    exact ⟨h.a _ ha, by rw [hb]; exact hv⟩
  | mp id es ck =>
    obtain ⟨ha, hv, hm⟩ := hr
    have hb : β'.ob id = β.ob id := h.b (.o id) ha
    exact ⟨h.a _ ha, by rw [hb]; exact hv, by rw [hb]; exact (h.ha (.o id) ha).trans hm⟩
  | ot id t xs =>
    rcases hr with hr | ⟨hne, ha, cap, hv, hrow⟩
    · exact .inl hr
    · have hb : β'.ob id = β.ob id := h.b (.o id) ha
      refine .inr ⟨hne, h.a _ ha, cap, by rw [hb]; exact hv, ?_⟩
      rw [hb]; exact hrow.mono h.f h.hf (h.ha (.o id) ha)
  | oet id t xs i off =>
    obtain ⟨ha, hi, cap, hv, hrow⟩ := hr
    have hb : β'.ob id = β.ob id := h.b (.o id) ha
    refine ⟨h.a _ ha, hi, cap, by rw [hb]; exact hv, ?_⟩
    rw [hb]; exact hrow.mono h.f h.hf (h.ha (.o id) ha)
  | ov id t xs lo hi =>
    rcases hr with hr | ⟨hne, ha, h1, h2, cap, hv, hrow⟩
    · exact .inl hr
    · have hb : β'.ob id = β.ob id := h.b (.o id) ha
      refine .inr ⟨hne, h.a _ ha, h1, h2, cap, by rw [hb]; exact hv, ?_⟩
      rw [hb]; exact hrow.mono h.f h.hf (h.ha (.o id) ha)
  | on n => exact NRel.mono hr h.f h.hf (h.a _ hr.1) (h.a _ hr.2.1) (h.b (.o n.id) hr.1) (h.b (.o n.id2) hr.2.1) (h.ha (.o n.id) hr.1) (h.ha (.o n.id2) hr.2.1)
  | emp => exact hr
  | dead => trivial

theorem VarRel.ext (h : Ext w F β al w' F' β' al') {b : Nat} {cs : List T} (hb : w'.heap[b]? = w.heap[b]?) (hr : VarRel w F β al b cs) : VarRel w' F' β' al' b cs := by
  obtain ⟨c, et, h1, h2, h3⟩ := hr
  exact ⟨c, et, hb.trans h1, h2, fun i x d a1 a2 => (h3 i x d a1 a2).ext h⟩
end

/-- An abstract state that calls may turn, and where it lies. -/
structure Sig where
  St : Type
  R : St → (Blk → Prop) → (Nat → Prop) → World → Prop
  mono : ∀ {s : St} {F F' : Blk → Prop} {O : Nat → Prop} {w w' : World}, R s F O w → (∀ x : Blk, x.isB = false → (F' x ↔ F x)) → (∀ b, O b → w'.heap[b]? = w.heap[b]?) →
    (∀ n : Nat, F (.s n) → F n → F' n ∧ w'.heap[n]? = w.heap[n]?) → R s F' O w'
  inb : ∀ {s : St} {F : Blk → Prop} {O : Nat → Prop} {w : World}, R s F O w → ∀ b, O b → b < w.heap.size
  ld : ∀ {s : St} {F : Blk → Prop} {O : Nat → Prop} {w : World} {id b : Nat} {cs : List V}, R s F O w → F (.k id b cs) →
    ∃ (c : Array Value) (et : TypeId), w.heap[b]? = some (.cells c et (0, 0)) ∧ ∀ (m : Nat) (d : V), cs[m]? = some d → ∃ x, c[m]? = some x ∧ Rd w F x d
  eqk : ∀ {s : St} {F : Blk → Prop} {O : Nat → Prop} {w : World} {id id' b b' : Nat} {cs cs' : List V}, R s F O w → F (.k id b cs) → F (.k id' b' cs') → (b = b' ↔ id = id')
  sb : ∀ {s : St} {F : Blk → Prop} {O : Nat → Prop} {w : World} {n : Nat}, R s F O w → F (.s n) → F n
  wk : Prop := False

/-- A state that takes hold of nothing that is old. -/
class Calm (Γ : Sig) : Prop where
  no : ¬ Γ.wk

/-- No pointers to what the state holds. -/
def NoK (F : Blk → Prop) : Prop := (∀ id b cs, ¬ F (.k id b cs)) ∧ ∀ n, ¬ F (.s n)

theorem NoK.of {F F' : Blk → Prop} (h : NoK F) (hk : ∀ x : Blk, x.isB = false → (F' x ↔ F x)) : NoK F' :=
  ⟨fun _ _ _ hh => h.1 _ _ _ ((hk _ rfl).1 hh), fun _ hh => h.2 _ ((hk _ rfl).1 hh)⟩

/-- No state. -/
def unitSig : Sig where
  St := Unit
  R := fun _ F O _ => (∀ b, ¬ O b) ∧ NoK F
  mono := fun h hk _ _ => ⟨h.1, h.2.of hk⟩
  inb := fun h b hb => absurd hb (h.1 b)
  ld := fun h hk => absurd hk (h.2.1 _ _ _)
  eqk := fun h hk => absurd hk (h.2.1 _ _ _)
  sb := fun h hk => absurd hk (h.2.2 _)

instance : Calm unitSig := ⟨fun h => h⟩

/-- From w on nothing of old has turned but the blocks of O. -/
structure Keep (O : Nat → Prop) (w w' : World) : Prop where
  os : w'.os = w.os
  tape : w'.tape = w.tape
  output : w'.output = w.output
  size : w.heap.size ≤ w'.heap.size
  block : ∀ b, b < w.heap.size → ¬ O b → w'.heap[b]? = w.heap[b]?
  drawn : w.drawn ≤ w'.drawn

theorem Keep.refl (O : Nat → Prop) (w : World) : Keep O w w := ⟨rfl, rfl, rfl, Nat.le_refl _, fun _ _ _ => rfl, Nat.le_refl _⟩

/-- What a call hands back. -/
inductive RV where
  | p (d : V)
  | own (es : List V)
  | ownT (t : Ty) (xs : List t.El)

def RV.isH : RV → Prop
  | .p (.pt _ _) => True
  | _ => False

def OwnRet (N : Nat) (w : World) (F : Blk → Prop) (O : Nat → Prop) (v : Value) (es : List V) : Prop :=
  (es = [] ∧ ∃ a : Option Addr, v = .slice a 0 0) ∨
      es ≠ [] ∧ ∃ b cap, v = .slice (some ⟨b, 0, none⟩) es.length cap ∧ N ≤ b ∧ b < w.heap.size ∧ ¬ F b ∧ ¬ O b ∧ ∃ k, RowRel w F b k cap es

def RetRel (N : Nat) (w : World) (F : Blk → Prop) (O : Nat → Prop) (v : Value) : RV → Prop
  | .p d => Rd w F v d
  | .own es => OwnRet N w F O v es
  | .ownT t xs => OwnRet N w F O v (xs.map t.enc)

/-- Package-level variables that are read: their cells. -/
def GRel (G : Nat → Option (List V)) (w : World) (F : Blk → Prop) : Prop :=
  ∀ g cs, G g = some cs → Rd w F (.pointer (some ⟨g, 0, none⟩)) (.pp cs)

/-- THE CONTRACT: called with values that read as ds, in whatever world, function f hands back what spec says, and nothing of old has turned but the state's own blocks. -/
def FnOk (Γ : Sig) (P : Program) (G : Nat → Option (List V)) (f : FuncId) (spec : Γ.St → List V → Option (Γ.St × RV)) : Prop :=
  ∀ (w : World) (F : Blk → Prop) (O : Nat → Prop) (s : Γ.St) (args : Array Value) (ds : List V) (s' : Γ.St) (r : RV),
    Γ.R s F O w → GRel G w F → (∀ b : Nat, F b → b < w.heap.size ∧ ¬ O b) → args.size = ds.length →
    (∀ (i : Nat) (x : Value) (d : V), args[i]? = some x → ds[i]? = some d → Rd w F x d) →
    spec s ds = some (s', r) →
    Calls P f args w fun e w' => ∃ (v : Value) (F' : Blk → Prop) (O' : Nat → Prop), e = .returned v ∧ Γ.R s' F' O' w' ∧ Keep O w w' ∧
      (∀ b, O' b → O b ∨ w.heap.size ≤ b) ∧ GrowW (Γ.wk ∧ r.isH) w.heap.size F F' ∧ (∀ b : Nat, F' b → (F b ∨ w.heap.size ≤ b) ∧ b < w'.heap.size ∧ ¬ O' b) ∧
      RetRel w.heap.size w' F' O' v r

/-- The same, over a state that may take hold of what is old. -/
def FnOkW (Γ : Sig) (P : Program) (G : Nat → Option (List V)) (f : FuncId) (spec : Γ.St → List V → Option (Γ.St × RV)) : Prop :=
  ∀ (w : World) (F : Blk → Prop) (O : Nat → Prop) (s : Γ.St) (args : Array Value) (ds : List V) (s' : Γ.St) (r : RV),
    Γ.R s F O w → GRel G w F → (∀ b : Nat, F b → b < w.heap.size ∧ ¬ O b) → args.size = ds.length →
    (∀ (i : Nat) (x : Value) (d : V), args[i]? = some x → ds[i]? = some d → Rd w F x d) →
    spec s ds = some (s', r) →
    Calls P f args w fun e w' => ∃ (v : Value) (F' : Blk → Prop) (O' : Nat → Prop), e = .returned v ∧ Γ.R s' F' O' w' ∧ Keep O w w' ∧
      (∀ b, O' b → O b ∨ w.heap.size ≤ b) ∧ GrowW Γ.wk w.heap.size F F' ∧ (∀ b : Nat, F' b → (F b ∨ w.heap.size ≤ b) ∧ b < w'.heap.size ∧ ¬ O' b) ∧
      RetRel w.heap.size w' F' O' v r

theorem FnOkW.calm {Γ : Sig} [hc : Calm Γ] {P : Program} {G : Nat → Option (List V)} {f : FuncId} {spec : Γ.St → List V → Option (Γ.St × RV)} (h : FnOkW Γ P G f spec) : FnOk Γ P G f spec := by
  intro w F O s args ds s' r h1 h2 h3 h4 h5 h6
  refine (h w F O s args ds s' r h1 h2 h3 h4 h5 h6).mono ?_
  rintro e w' ⟨v, F', O', rfl, g1, g2, g3, g4, g5, g6⟩
  exact ⟨v, F', O', rfl, g1, g2, g3, (g4.no hc.no).w, g5, g6⟩

abbrev Specs (Γ : Sig) := FuncId → Γ.St → List V → Option (Γ.St × RV)

/-- The frame's state. -/
structure Env (St : Type) where
  tm : List T
  vars : List (Option (List T))
  st : St

def Env.get {St : Type} (e : Env St) (t : Nat) : T := e.tm.getD t .dead
def Env.var {St : Type} (e : Env St) (s : Nat) : Option (List T) := (e.vars[s]?).getD none

/-- What a frame may turn of old: the state's blocks, and a row that it is lent. -/
structure Lent where
  o : Nat → Prop
  l : Option (Nat × Nat)

def Lent.all (O : Lent) (b : Nat) : Prop := O.o b ∨ ∃ n, O.l = some (b, n)

instance : Coe (Nat → Prop) Lent := ⟨fun o => ⟨o, none⟩⟩

/-- The number of the row that is lent. -/
def lentId : Nat := 1000000

/-- Where a site may lie: in a new block; the row that is lent, where it lies. -/
def Home (w0 : World) (O0 : Lent) (x : Site) (b : Nat) : Prop := (x ≠ .o lentId ∧ w0.heap.size ≤ b) ∨ (x = .o lentId ∧ ∃ n, O0.l = some (b, n))

theorem Home.old {w0 : World} {O0 : Lent} {x : Site} {b : Nat} (h : Home w0 O0 x b) (hb : b < w0.heap.size) : O0.all b := by
  rcases h with ⟨_, h⟩ | ⟨_, h⟩
  · omega
  · exact .inr h

theorem Home.v {w0 : World} {O0 : Lent} {s : Nat} {b : Nat} (h : Home w0 O0 (.v s) b) : w0.heap.size ≤ b := by
  rcases h with ⟨_, h⟩ | ⟨h, _⟩
  all_goals grind

theorem Home.o {w0 : World} {O0 : Lent} {id : Nat} {b : Nat} (h : Home w0 O0 (.o id) b) (hid : id ≠ lentId) : w0.heap.size ≤ b := by
  rcases h with ⟨_, h⟩ | ⟨h, _⟩
  all_goals grind

/-- The row that is lent: of old, no part of the state, nothing that stays, as long as it was. -/
def LentOk (w0 : World) (O0 : Lent) (w : World) (F : Blk → Prop) (O : Nat → Prop) : Prop :=
  ∀ b n, O0.l = some (b, n) → b < w0.heap.size ∧ ¬ O b ∧ ¬ F b ∧ ∃ (c : Array Value) (et : TypeId) (fl : Nat × Nat), w.heap[b]? = some (.cells c et fl) ∧ c.size = n

theorem LentOk.step {w0 : World} {O0 : Lent} {w w' : World} {F F' : Blk → Prop} {O O' : Nat → Prop} (h : LentOk w0 O0 w F O)
    (hs : ∀ b n, O0.l = some (b, n) → b < w0.heap.size → ¬ O b → ¬ F b → w'.heap[b]? = w.heap[b]? ∧ ¬ O' b ∧ ¬ F' b) : LentOk w0 O0 w' F' O' := by
  intro b n hb
  obtain ⟨h1, h2, h3, c, et, fl, h4, h5⟩ := h b n hb
  grind

/-- What of the frame's state speaks of memory, and where it lies: the part that operations hand on. -/
structure Core (Γ : Sig) (w0 : World) (F0 : Blk → Prop) (O0 : Lent) (w : World) (F : Blk → Prop) (O : Nat → Prop) (β : Lay) (al : Site → Prop) (st : Γ.St) : Prop where
  keep : Keep O0.all w0 w
  sig : Γ.R st F O w
  oin : ∀ b, O b → O0.o b ∨ w0.heap.size ≤ b
  fin : ∀ b : Nat, F b → (F0 b ∨ w0.heap.size ≤ b) ∧ b < w.heap.size ∧ ¬ O b
  f0 : GrowW Γ.wk w0.heap.size F0 F
  place : ∀ x, al x → Home w0 O0 x (β.blk x) ∧ β.blk x < w.heap.size ∧ ¬ F (β.blk x) ∧ ¬ O (β.blk x)
  dist : ∀ x y, al x → al y → β.blk x = β.blk y → x = y
  lent : LentOk w0 O0 w F O

end Go.Ve

namespace Go.Ve
open Go

/-- y says no more than x. -/
def WkV (x y : V) : Prop := ∀ (w : World) (F : Blk → Prop) (v : Value), Rd w F v x → Rd w F v y

def WkVs : List V → List V → Prop
  | [], [] => True
  | x :: xs, y :: ys => WkV x y ∧ WkVs xs ys
  | _, _ => False

theorem WkV.refl (x : V) : WkV x x := fun _ _ _ h => h

theorem WkVs.refl : ∀ (l : List V), WkVs l l
  | [] => trivial
  | x :: l => ⟨.refl x, WkVs.refl l⟩

theorem WkVs.get : ∀ {xs ys : List V} (_ : WkVs xs ys) (i : Nat) (x y : V), xs[i]? = some x → ys[i]? = some y → WkV x y
  | [], [], _, i, x, y, h1, _ => by simp at h1
  | a :: xs, b :: ys, h, i, x, y, h1, h2 => by
    cases i with
    | zero => simp at h1 h2; subst h1 h2; exact h.1
    | succ i => exact WkVs.get h.2 i x y (by simpa using h1) (by simpa using h2)

theorem WkVs.len : ∀ {xs ys : List V} (_ : WkVs xs ys), xs.length = ys.length
  | [], [], _ => rfl
  | a :: xs, b :: ys, h => by simp [WkVs.len h.2]

theorem WkVs.append : ∀ {xs ys xs' ys' : List V} (_ : WkVs xs ys) (_ : WkVs xs' ys'), WkVs (xs ++ xs') (ys ++ ys')
  | [], [], _, _, _, h => h
  | a :: xs, b :: ys, _, _, h, h' => ⟨h.1, WkVs.append h.2 h'⟩

theorem WkV.agg {xs ys : List V} (h : WkVs xs ys) : WkV (.agg xs) (.agg ys) := by
  intro w F v hr
  cases hr with
  | agg cs ds hl h0 =>
    refine .agg cs ys (hl.trans h.len) ?_
    intro i x d hi hd
    have hlt : i < xs.length := by grind
    exact h.get i xs[i] d (by simp [hlt]) hd w F x (h0 i x xs[i] hi (by simp [hlt]))

def takeInt (k : IntKind) : List V → Option (Int × List V)
  | .val (.int k' n) :: r => if k' = k then some (n, r) else none
  | _ => none

def takeBool : List V → Option (Bool × List V)
  | .val (.bool b) :: r => some (b, r)
  | _ => none

def takeStr : List V → Option (ByteArray × List V)
  | .val (.string s) :: r => some (s, r)
  | _ => none

def takeSl (t : Ty) : List V → Option (List t.El × List V)
  | .tl t' xs :: r => if h : t' = t then some (h ▸ xs, r) else none
  | .val (.slice _ 0 _) :: r => some ([], r)
  | .sl [] :: r => some ([], r)
  | _ => none

def takeRf : List V → Option (Option (Nat × Nat) × List V)
  | .rf o :: r => some (o, r)
  | .val (.slice none 0 0) :: r => some (none, r)
  | _ => none

def takeHd : List V → Option (Nat × List V)
  | .hd o :: r => some (o, r)
  | _ => none

def takePt (t : Ty) : List V → Option (Option (Nat × t.El) × List V)
  | .pt t' o :: r => if h : t' = t then some (h ▸ o, r) else none
  | .val (.pointer none) :: r => some (none, r)
  | _ => none

/-- A typed datum, taken off the head of these cells. -/
def Ty.uncells : (t : Ty) → List V → Option (t.El × List V)
  | .int k, cs => takeInt k cs
  | .bool, cs => takeBool cs
  | .str, cs => takeStr cs
  | .unit, cs => some ((), cs)
  | .pair a b, cs => match a.uncells cs with
    | some (x, r) => match b.uncells r with
      | some (y, r) => some ((x, y), r)
      | none => none
    | none => none
  | .sl t, cs => takeSl t cs
  | .rf, cs => takeRf cs
  | .hd, cs => takeHd cs
  | .pt t, cs => takePt t cs

theorem uncells_sound : ∀ (t : Ty) (cs : List V) (x : t.El) (r : List V), t.uncells cs = some (x, r) → ∃ cs1, cs = cs1 ++ r ∧ WkVs cs1 (t.cells x) := by
  intro t
  induction t with
  | int k =>
    intro cs x r h
    simp [Ty.uncells, takeInt] at h
    split at h
    · split at h
      · rename_i hk
        simp at h
        obtain ⟨rfl, rfl⟩ := h
        subst hk
        exact ⟨[_], rfl, .refl _, trivial⟩
      · cases h
    · cases h
  | bool =>
    intro cs x r h
    simp [Ty.uncells, takeBool] at h
    split at h
    · simp at h
      obtain ⟨rfl, rfl⟩ := h
      exact ⟨[_], rfl, .refl _, trivial⟩
    · cases h
  | str =>
    intro cs x r h
    simp [Ty.uncells, takeStr] at h
    split at h
    · simp at h
      obtain ⟨rfl, rfl⟩ := h
      exact ⟨[_], rfl, .refl _, trivial⟩
    · cases h
  | unit =>
    intro cs x r h
    simp only [Ty.uncells, Option.some.injEq, Prod.mk.injEq] at h
    obtain ⟨_, rfl⟩ := h
    exact ⟨[], rfl, trivial⟩
  | pair a b iha ihb =>
    intro cs x r h
    simp only [Ty.uncells] at h
    split at h
    · rename_i xa r1 h1
      split at h
      · rename_i xb r2 h2
        simp at h
        obtain ⟨rfl, rfl⟩ := h
        obtain ⟨c1, rfl, k1⟩ := iha cs xa r1 h1
        obtain ⟨c2, rfl, k2⟩ := ihb r1 xb r2 h2
        exact ⟨c1 ++ c2, by simp, k1.append k2⟩
      · cases h
    · cases h
  | sl t _ =>
    intro cs x r h
    simp [Ty.uncells, takeSl] at h
    split at h
    · split at h
      · rename_i ht
        subst ht
        simp at h
        obtain ⟨rfl, rfl⟩ := h
        exact ⟨[_], rfl, .refl _, trivial⟩
      · cases h
    · simp only [Option.some.injEq, Prod.mk.injEq] at h
      obtain ⟨rfl, rfl⟩ := h
      refine ⟨[_], rfl, ?_, trivial⟩
      intro w F v hr
      rw [Rd.eq_val hr]
      exact .tl t [] _ (.slemp _ _)
    · simp only [Option.some.injEq, Prod.mk.injEq] at h
      obtain ⟨rfl, rfl⟩ := h
      exact ⟨[_], rfl, fun w F v hr => .tl t [] v hr, trivial⟩
    · cases h
  | rf =>
    intro cs x r h
    simp [Ty.uncells, takeRf] at h
    split at h
    · simp at h
      obtain ⟨rfl, rfl⟩ := h
      exact ⟨[_], rfl, .refl _, trivial⟩
    · simp at h
      obtain ⟨rfl, rfl⟩ := h
      refine ⟨[_], rfl, ?_, trivial⟩
      intro w F v hr
      rw [Rd.eq_val hr]
      exact .rfn
    · cases h
  | hd =>
    intro cs x r h
    simp [Ty.uncells, takeHd] at h
    split at h
    · simp at h
      obtain ⟨rfl, rfl⟩ := h
      exact ⟨[_], rfl, .refl _, trivial⟩
    · cases h
  | pt t _ =>
    intro cs x r h
    simp [Ty.uncells, takePt] at h
    split at h
    · split at h
      · rename_i ht
        subst ht
        simp at h
        obtain ⟨rfl, rfl⟩ := h
        exact ⟨[_], rfl, .refl _, trivial⟩
      · cases h
    · simp at h
      obtain ⟨rfl, rfl⟩ := h
      refine ⟨[_], rfl, ?_, trivial⟩
      intro w F v hr
      rw [Rd.eq_val hr]
      exact .ptn t
    · cases h

/-- A typed datum out of a value. -/
def Ty.dec (t : Ty) (d : V) : Option t.El :=
  match t with
  | .pair a b => match d with
    | .agg cs => match (Ty.pair a b).uncells cs with
      | some (x, []) => some x
      | _ => none
    | _ => none
  | .unit => match d with
    | .agg [] => some ()
    | _ => none
  | .int k => match takeInt k [d] with
    | some (x, _) => some x
    | none => none
  | .bool => match takeBool [d] with
    | some (x, _) => some x
    | none => none
  | .str => match takeStr [d] with
    | some (x, _) => some x
    | none => none
  | .sl t => match takeSl t [d] with
    | some (x, _) => some x
    | none => none
  | .rf => match takeRf [d] with
    | some (x, _) => some x
    | none => none
  | .hd => match takeHd [d] with
    | some (x, _) => some x
    | none => none
  | .pt t => match takePt t [d] with
    | some (x, _) => some x
    | none => none

theorem dec_sound {t : Ty} {d : V} {x : t.El} (h : t.dec d = some x) : WkV d (t.enc x) := by
  have one : ∀ (t : Ty) (x : t.El) (r : List V), t.cells x = [t.enc x] → t.uncells [d] = some (x, r) → WkV d (t.enc x) := by
    intro t x r hc hu
    obtain ⟨c1, h1, h2⟩ := uncells_sound t [d] x r hu
    rw [hc] at h2
    have := h2.len
    match c1, this with
    | [y], _ =>
      simp at h1
      rw [← h1.1] at h2
      exact h2.1
  cases t with
  | pair a b =>
    simp only [Ty.dec] at h
    split at h
    · rename_i cs
      split at h
      · rename_i x' hx
        simp at h
        subst h
        obtain ⟨c1, h1, h2⟩ := uncells_sound (.pair a b) cs x' [] hx
        simp at h1
        subst h1
        exact WkV.agg h2
      · cases h
    · cases h
  | unit =>
    simp only [Ty.dec] at h
    split at h
    · exact .refl _
    · cases h
  | int k =>
    simp only [Ty.dec] at h
    split at h
    · rename_i y r hy; simp at h; subst h; exact one (.int k) y r rfl hy
    · cases h
  | bool =>
    simp only [Ty.dec] at h
    split at h
    · rename_i y r hy; simp at h; subst h; exact one .bool y r rfl hy
    · cases h
  | str =>
    simp only [Ty.dec] at h
    split at h
    · rename_i y r hy; simp at h; subst h; exact one .str y r rfl hy
    · cases h
  | sl t =>
    simp only [Ty.dec] at h
    split at h
    · rename_i y r hy; simp at h; subst h; exact one (.sl t) y r rfl hy
    · cases h
  | rf =>
    simp only [Ty.dec] at h
    split at h
    · rename_i y r hy; simp at h; subst h; exact one .rf y r rfl hy
    · cases h
  | hd =>
    simp only [Ty.dec] at h
    split at h
    · rename_i y r hy; simp at h; subst h; exact one .hd y r rfl hy
    · cases h
  | pt t =>
    simp only [Ty.dec] at h
    split at h
    · rename_i y r hy; simp at h; subst h; exact one (.pt t) y r rfl hy
    · cases h

def Ty.decs (t : Ty) : List V → Option (List t.El)
  | [] => some []
  | d :: ds => match t.dec d with
    | some x => match t.decs ds with
      | some xs => some (x :: xs)
      | none => none
    | none => none

theorem RowRel.weak {w : World} {F : Blk → Prop} {b k cap : Nat} {es es' : List V} (h : RowRel w F b k cap es) (hl : es.length = es'.length) (hk : ∀ e, e ∈ es' → e.cells.length = k)
    (hw : ∀ (i : Nat) (x y : V), es[i]? = some x → es'[i]? = some y → WkVs x.cells y.cells) : RowRel w F b k cap es' := by
  obtain ⟨c, et, h1, h2, h3, h4, h5⟩ := h
  refine ⟨c, et, h1, h2, by omega, hk, ?_⟩
  intro i j y d x hi hj hx
  have hlt : i < es.length := by grind
  have hws := hw i es[i] y (by simp [hlt]) hi
  have hlt2 : j < es[i].cells.length := by grind
  exact hws.get j _ d (by simp [hlt2]) hj w F x (h5 i j es[i] es[i].cells[j] x (by simp [hlt]) (by simp [hlt2]) hx)

/-- Elements of which each knows no more, cell by cell. -/
def WkEs (es es' : List V) : Prop := es.length = es'.length ∧ ∀ (i : Nat) (x y : V), es[i]? = some x → es'[i]? = some y → WkVs x.cells y.cells

theorem dec_cells {t : Ty} {d : V} {x : t.El} (h : t.dec d = some x) : WkVs d.cells (t.enc x).cells := by
  have one : ∀ (t : Ty) (x : t.El) (r : List V), t.cells x = [t.enc x] → t.uncells [d] = some (x, r) → (∀ cs, d ≠ .agg cs) → WkVs d.cells (t.enc x).cells := by
    intro t x r hc hu hd
    obtain ⟨c1, h1, h2⟩ := uncells_sound t [d] x r hu
    rw [enc_cells]
    have hl := h2.len
    rw [hc] at hl
    match c1, hl with
    | [y], _ =>
      simp at h1
      rw [← h1.1] at h2
      have : d.cells = [d] := by cases d <;> first | rfl | exact absurd rfl (hd _)
      grind
  cases t with
  | pair a b =>
    simp only [Ty.dec] at h
    split at h
    · rename_i cs
      split at h
      · rename_i x' hx
        simp at h
        subst h
        obtain ⟨c1, h1, h2⟩ := uncells_sound (.pair a b) cs x' [] hx
        simp at h1
        subst h1
        rw [enc_cells]
        exact h2
      · cases h
    · cases h
  | unit =>
    simp only [Ty.dec] at h
    split at h
    · exact .refl _
    · cases h
  | int k =>
    simp only [Ty.dec] at h
    split at h
    · rename_i y r hy
      simp at h; subst h
      refine one (.int k) y r rfl hy ?_
      rintro cs rfl
      simp [takeInt] at hy
    · cases h
  | bool =>
    simp only [Ty.dec] at h
    split at h
    · rename_i y r hy
      simp at h; subst h
      refine one .bool y r rfl hy ?_
      rintro cs rfl
      simp [takeBool] at hy
    · cases h
  | str =>
    simp only [Ty.dec] at h
    split at h
    · rename_i y r hy
      simp at h; subst h
      refine one .str y r rfl hy ?_
      rintro cs rfl
      simp [takeStr] at hy
    · cases h
  | sl t =>
    simp only [Ty.dec] at h
    split at h
    · rename_i y r hy
      simp at h; subst h
      refine one (.sl t) y r rfl hy ?_
      rintro cs rfl
      simp [takeSl] at hy
    · cases h
  | rf =>
    simp only [Ty.dec] at h
    split at h
    · rename_i y r hy
      simp at h; subst h
      refine one .rf y r rfl hy ?_
      rintro cs rfl
      simp [takeRf] at hy
    · cases h
  | hd =>
    simp only [Ty.dec] at h
    split at h
    · rename_i y r hy
      simp at h; subst h
      refine one .hd y r rfl hy ?_
      rintro cs rfl
      simp [takeHd] at hy
    · cases h
  | pt t =>
    simp only [Ty.dec] at h
    split at h
    · rename_i y r hy
      simp at h; subst h
      refine one (.pt t) y r rfl hy ?_
      rintro cs rfl
      simp [takePt] at hy
    · cases h

/-- Typed data without addresses, taken off the head of these cells as they are. -/
def Ty.unx : (t : Ty) → List V → Option (t.El × List V)
  | .int k, cs => takeInt k cs
  | .bool, cs => takeBool cs
  | .str, cs => takeStr cs
  | .unit, cs => some ((), cs)
  | .pair a b, cs => match a.unx cs with
    | some (x, r) => match b.unx r with
      | some (y, r) => some ((x, y), r)
      | none => none
    | none => none
  | _, _ => none

theorem unx_sound : ∀ (t : Ty) (cs : List V) (x : t.El) (r : List V), t.unx cs = some (x, r) → cs = t.cells x ++ r := by
  intro t
  induction t with
  | int k =>
    intro cs x r h
    simp [Ty.unx, takeInt] at h
    split at h
    · split at h
      · rename_i hk
        simp at h
        obtain ⟨rfl, rfl⟩ := h
        subst hk; rfl
      · cases h
    · cases h
  | bool =>
    intro cs x r h
    simp [Ty.unx, takeBool] at h
    split at h
    · simp at h
      obtain ⟨rfl, rfl⟩ := h; rfl
    · cases h
  | str =>
    intro cs x r h
    simp [Ty.unx, takeStr] at h
    split at h
    · simp at h
      obtain ⟨rfl, rfl⟩ := h; rfl
    · cases h
  | unit =>
    intro cs x r h
    simp only [Ty.unx, Option.some.injEq, Prod.mk.injEq] at h
    obtain ⟨_, rfl⟩ := h; rfl
  | pair a b iha ihb =>
    intro cs x r h
    simp only [Ty.unx] at h
    split at h
    · rename_i xa r1 h1
      split at h
      · rename_i xb r2 h2
        simp at h
        obtain ⟨rfl, rfl⟩ := h
        grind [Ty.cells]
      · cases h
    · cases h
  | _ => grind [Ty.unx]

/-- The n elements of an array. -/
def Ty.unxs (t : Ty) : Nat → List V → Option (List t.El)
  | 0, _ => some []
  | n + 1, cs => match t.unx cs with
    | some (x, r) => match t.unxs n r with
      | some xs => some (x :: xs)
      | none => none
    | none => none

theorem unxs_sound {t : Ty} : ∀ {n : Nat} {cs : List V} {xs : List t.El}, t.unxs n cs = some xs → xs.length = n ∧ ∀ (i : Nat) (x : t.El), xs[i]? = some x → ∀ (m : Nat) (d : V), (t.cells x)[m]? = some d → cs[i * t.size + m]? = some d
  | 0, cs, xs, h => by
    simp [Ty.unxs] at h; grind
  | n + 1, cs, xs, h => by
    simp only [Ty.unxs] at h
    split at h
    · rename_i y r hy
      split at h
      · rename_i ys hys
        cases h
        obtain ⟨h1, h2⟩ := unxs_sound hys
        have hc := unx_sound t cs y r hy
        refine ⟨by simp [h1], ?_⟩
        intro i x hx m d hd
        cases i with
        | zero =>
          grind
        | succ i =>
          grind [List.getElem?_append_right, cells_len, Nat.succ_mul]
      · cases h
    · cases h

theorem decs_cells {t : Ty} : ∀ {ds : List V} {xs : List t.El}, t.decs ds = some xs → WkEs ds (xs.map t.enc)
  | [], xs, h => by cases h; exact ⟨rfl, fun i x y h => by simp at h⟩
  | d :: ds, xs, h => by
    simp only [Ty.decs] at h
    split at h
    · rename_i x hx
      split at h
      · rename_i ys hys
        cases h
        obtain ⟨h1, h2⟩ := decs_cells hys
        refine ⟨by simpa using h1, ?_⟩
        grind [dec_cells]
      · cases h
    · cases h

theorem RowRel.typed {w : World} {F : Blk → Prop} {b k cap : Nat} {es : List V} {t : Ty} {xs : List t.El} (h : RowRel w F b k cap es) (hk : t.size = k) (hw : WkEs es (xs.map t.enc)) :
    RowRel w F b k cap (xs.map t.enc) := by
  refine h.weak hw.1 ?_ hw.2
  intro q hq
  simp at hq
  obtain ⟨z, _, rfl⟩ := hq
  rw [enc_len]; exact hk
end Go.Ve

namespace Go.Ve
open Go

/-- What an operation comes to: a value; a new variable; a new slice of the frame's own; a new slice that stays as it is; a call. -/
inductive R (St : Type) where
  | ret (x : T)
  | var (cs : List T)
  | own (k : Nat) (es : List V)
  | frz (es : List V)
  | call (st : St) (view : Bool) (r : RV)
  | mk
  | frzT (t : Ty) (xs : List t.El)
  | ownT (t : Ty) (xs : List t.El)

/-- A look into a map with these entries. -/
def lookIn (xType : TypeId) (es : List MapEntry) (index : Value) (commaOk : Bool) : Sem Value := do
  let .map key elem ← underlying xType | stuck "Lookup: map type expected"
  Instr.checkKey es.isEmpty 10000 key index
  let (v, ok) ← match ← Instr.findKey key index es with
    | some (_, v) => pure (v, true)
    | none => pure (← zeroValue elem, false)
  pure (if commaOk then .tuple #[v, .bool ok] else v)

/-- A map's entries and clock behind an update. -/
def updIn (mapType : TypeId) (es : List MapEntry) (ck : Nat) (key value : Value) : Sem (List MapEntry × Nat) := do
  let .map keyType _ ← underlying mapType | stuck "MapUpdate: map type expected"
  Instr.checkKey false 10000 keyType key
  match ← Instr.findKey keyType key es with
  | some (i, _) => do
    let key ← Instr.keyThatStays (((es[i]?).map (·.key)).getD key) key
    pure (es.modify i (fun e => { e with key, val := value }), ck)
  | none => pure (es ++ [{ key, val := value, born := ck }], ck + 1)

def isAgg? (P : Look) (t : TypeId) : Option Bool :=
  match P.und t with
  | some (.struct _) => some true
  | some (.array _ _) => some true
  | some _ => some false
  | none => none

def size? (P : Look) (t : TypeId) : Option Nat := (P.inf t).map (·.size)

/-- A variable of type t, read at the head of these cells. -/
def ldV (P : Look) (t : TypeId) (cs : List V) : Option V :=
  match isAgg? P t with
  | some true => match size? P t with
    | some n => if n ≤ cs.length then some (.agg (cs.take n)) else none
    | none => none
  | some false => cs.head?
  | none => none

def pureCells : List T → Option (List V)
  | [] => some []
  | .p d :: r => (pureCells r).map (d :: ·)
  | _ => none

def ldT (P : Look) (t : TypeId) (cs : List T) : Option T :=
  match isAgg? P t with
  | some true => match size? P t with
    | some n => if n ≤ cs.length then (pureCells (cs.take n)).map (fun ds => .p (.agg ds)) else none
    | none => none
  | some false => cs.head?
  | none => none

/-- Part of a struct's or an array's value. -/
def partV (P : Look) (t : TypeId) (cs : List V) (off : Nat) : Option V :=
  match isAgg? P t with
  | some true => match size? P t with
    | some n => some (.agg ((cs.drop off).take n))
    | none => none
  | some false => cs[off]?
  | none => none

def fieldOf (P : Look) (t : TypeId) (i : Nat) : Option Field :=
  match P.und t with
  | some (.struct fs) => fs[i]?
  | _ => none

def V.leafy : V → Bool
  | .val (.agg _) => false
  | _ => true

def fillV (place : Nat → Option (Nat × Nat)) (cells : List V) : List (Nat × V) → Option (List V)
  | [] => some cells
  | (i, v) :: rest =>
    match place i with
    | none => none
    | some (off, size) =>
      if v.leafy = false ∨ v.cells.length ≠ size ∨ off + v.cells.length > cells.length then none
      else fillV place (v.cells.zipIdx.foldl (fun cs (c, j) => cs.set (off + j) c) cells) rest

section
variable {St : Type} (P : Look) (G : Nat → Option (List V)) (S : FuncId → St → List V → Option (St × RV)) (e : Env St)

def evx : Operand → T
  | .tmp t => e.get t
  | .const v => .p (V.ofVal v)
  | .global g => match G g with
    | some cs => .p (.pp cs)
    | none => .p (.val (.pointer (some ⟨g, 0, none⟩)))
  | .func f => .p (.clo f [])

def flatT : T → Option Value
  | .p d => d.toVal
  | _ => none

def evFlat (o : Oper) : Option (R St) :=
  if o.op.operands.toList.all (fun x => (flatT (evx G e x)).isSome) then
    match pureIn P.P (execOp (fun x => (flatT (evx G e x)).getD undef) o) with
    | some (.value v) => some (.ret (.p (V.ofVal v)))
    | _ => none
  else none

/-- What a callee may read of this. -/
def argV : T → Option V
  | .p d => some d
  | .emp => some (.sl [])
  | .ow _ _ es => some (.sl es)
  | .ot _ t xs => some (.tl t xs)
  | .lp s off => match e.var s with
    | some cs => (pureCells (cs.drop off)).map .pp
    | none => none
  | _ => none

def T.isView : T → Bool
  | .ow _ _ _ | .lp _ _ | .ot _ _ _ => true
  | _ => false

/-- No address in it. -/
def Ty.flat : Ty → Bool
  | .sl _ => false
  | .rf => false
  | .hd => false
  | .pt _ => false
  | .pair a b => a.flat && b.flat
  | _ => true

/-- No address in it, for what lists it holds are empty. -/
def Ty.bare : (t : Ty) → t.El → Bool
  | .sl _, xs => xs.isEmpty
  | .rf, _ => false
  | .hd, _ => false
  | .pt _, _ => false
  | .pair a b, x => a.bare x.1 && b.bare x.2
  | _, _ => true

def RV.plain : RV → Bool
  | .p d => d.toVal.isSome
  | .own es => es.all (fun d => d.toVal1.isSome)
  | .ownT t xs => t.flat || xs.all t.bare

def argsV : List Operand → Option (List V)
  | [] => some []
  | x :: r => match argV e (evx G e x), argsV r with
    | some d, some ds => some (d :: ds)
    | _, _ => none

def pureArgs : List Operand → Option (List V)
  | [] => some []
  | x :: r => match evx G e x, pureArgs r with
    | .p d, some ds => some (d :: ds)
    | _, _ => none

def purePairs : List (Nat × Operand) → Option (List (Nat × V))
  | [] => some []
  | (i, x) :: r => match evx G e x, purePairs r with
    | .p d, some ds => some ((i, d) :: ds)
    | _, _ => none

def evField (t : TypeId) (cs : List V) (i : Nat) : Option (R St) :=
  match fieldOf P t i with
  | some f => (partV P f.type cs f.offset).map (fun d => .ret (.p d))
  | none => none

def evLoad0 (t : TypeId) : T → Option (R St)
  | .p (.pp cs) => (ldV P t cs).map (fun d => .ret (.p d))
  | .lp s off => match e.var s with
    | some cs => (ldT P t (cs.drop off)).map .ret
    | none => none
  | .oe _ _ es i off => match es[i]? with
    | some d => (ldV P t (d.cells.drop off)).map (fun d => .ret (.p d))
    | none => none
  | _ => none

def evLoadN (t : TypeId) : Nst → Option (R St)
  | ⟨id, id2, ty, xs, j, ys, m⟩ => match m with
    | .p i => if i = j ∧ isAgg? P t = some false then some (.ret (.on ⟨id, id2, ty, xs, j, ys, .r⟩)) else none
    | _ => none

def evLoad (t : TypeId) : T → Option (R St)
  | .on n => evLoadN P t n
  | .oet _ ty xs i off => match xs[i]? with
    | some x => (ldV P t ((ty.cells x).drop off)).map (fun d => .ret (.p d))
    | none => none
  | x => evLoad0 P e t x

def evFieldAddr0 (t : TypeId) (i : Nat) (x : T) : Option (R St) :=
  match fieldOf P t i with
  | some f => match size? P f.type with
    | some (_ + 1) => match x with
      | .p (.pp cs) => some (.ret (.p (.pp (cs.drop f.offset))))
      | .p (.hp cs) => some (.ret (.p (.hp (cs.drop f.offset))))
      | .p (.pt ty (some y)) => some (.ret (.p (.hp ((ty.cells y.2).drop f.offset))))
      | .lp s off => some (.ret (.lp s (off + f.offset)))
      | .oe id k es i off => some (.ret (.oe id k es i (off + f.offset)))
      | _ => none
    | _ => none
  | none => none

def evFieldAddrN (t : TypeId) (i : Nat) : Nst → Option (R St)
  | ⟨id, id2, ty, xs, j, ys, m⟩ => match m with
    | .q k off => match fieldOf P t i with
      | some f => match size? P f.type with
        | some (_ + 1) => some (.ret (.on ⟨id, id2, ty, xs, j, ys, .q k (off + f.offset)⟩))
        | _ => none
      | none => none
    | _ => none

def evFieldAddr (t : TypeId) (i : Nat) (x : T) : Option (R St) :=
  match x with
  | .on n => evFieldAddrN P t i n
  | .oet id ty xs j off => match fieldOf P t i with
    | some f => match size? P f.type with
      | some (_ + 1) => some (.ret (.oet id ty xs j (off + f.offset)))
      | _ => none
    | none => none
  | x => evFieldAddr0 P t i x

def evIndexAddr0 (t : TypeId) (x : T) (i : Int) : Option (R St) :=
  if 0 ≤ i then
    match P.und t, x with
    | some (.slice el), .p (.sl es) => match es[i.toNat]? with
      | some d => if size? P el = some d.cells.length then some (.ret (.p (.pp d.cells))) else none
      | none => none
    | some (.slice el), .ow id k es => if i.toNat < es.length ∧ size? P el = some k then some (.ret (.oe id k es i.toNat 0)) else none
    | some (.array n el), .p (.pp cs) => match size? P el with
      | some z => if i < n then some (.ret (.p (.pp (cs.drop (i.toNat * z))))) else none
      | none => none
    | some (.array n el), .p (.hp cs) => match P.ty el with
      | some ty => if size? P el = some ty.size then
          match ty.unxs n cs with
          | some xs => match xs[i.toNat]? with
            | some x => some (.ret (.p (.hp (ty.cells x))))
            | none => none
          | none => none
        else none
      | none => none
    | some (.array n el), .lp s off => match size? P el with
      | some z => if i < n then some (.ret (.lp s (off + i.toNat * z))) else none
      | none => none
    | some (.array n el), .oe id k es j off => match size? P el with
      | some z => if i < n then some (.ret (.oe id k es j (off + i.toNat * z))) else none
      | none => none
    | _, _ => none
  else none

def evIndexAddrN (t : TypeId) (i : Int) : Nst → Option (R St)
  | ⟨id, id2, ty, xs, j, ys, m⟩ => if 0 ≤ i then
      match P.und t with
      | some (.slice el) => match m with
        | .s => if size? P el = some 1 ∧ i.toNat < xs.length then some (.ret (.on ⟨id, id2, ty, xs, j, ys, .p i.toNat⟩)) else none
        | .r => if size? P el = some ty.size ∧ i.toNat < ys.length then some (.ret (.on ⟨id, id2, ty, xs, j, ys, .q i.toNat 0⟩)) else none
        | _ => none
      | _ => none
    else none

def evIndexAddr (t : TypeId) (x : T) (i : Int) : Option (R St) :=
  match x with
  | .on n => evIndexAddrN P t i n
  | .p (.tl ty xs) => if 0 ≤ i then
      match P.und t with
      | some (.slice el) => if size? P el = some ty.size then
          match xs[i.toNat]? with
          | some x => some (.ret (.p (.pp (ty.cells x))))
          | none => none
        else none
      | _ => none
    else none
  | .ot id ty xs => if 0 ≤ i then
      match P.und t with
      | some (.slice el) => if size? P el = some ty.size then
          if i.toNat < xs.length then some (.ret (.oet id ty xs i.toNat 0)) else none
        else none
      | _ => none
    else none
  | .oet id ty xs j off => if 0 ≤ i then
      match P.und t with
      | some (.array n el) => match size? P el with
        | some z => if i < n then some (.ret (.oet id ty xs j (off + i.toNat * z))) else none
        | none => none
      | _ => none
    else none
  | x => evIndexAddr0 P t x i

def boundV (d : Option T) (dflt top : Nat) : Option Nat :=
  match d with
  | none => some dflt
  | some (.p (.val (.int _ i))) => if 0 ≤ i ∧ i ≤ top then some i.toNat else none
  | _ => none

def evSlice (t : TypeId) (es : List V) (lo hi mx : Option T) : Option (R St) :=
  match P.und t with
  | some (.slice el) =>
    match mx with
    | none => match boundV hi es.length es.length with
      | some h => match boundV lo 0 h with
        | some l => match size? P el with
          | some z => match es[l]? with
            | some d => if d.cells.length = z then some (.ret (.p (.sl ((es.take h).drop l)))) else none
            | none => some (.ret (.p (.sl [])))
          | none => none
        | none => none
      | none => none
    | some (.p (.val (.int _ 0))) => match hi, lo with
      | some (.p (.val (.int _ 0))), none => match size? P el with
        | some _ => some (.ret .emp)
        | none => none
      | _, _ => none
    | _ => none
  | _ => none

/-- The same of a typed slice. -/
def evSliceT (t : TypeId) (ty : Ty) (xs : List ty.El) (lo hi mx : Option T) : Option (R St) :=
  match P.und t with
  | some (.slice el) => if size? P el = some ty.size then
      match mx with
      | none => match boundV hi xs.length xs.length with
        | some h => match boundV lo 0 h with
          | some l => some (.ret (.p (.tl ty ((xs.take h).drop l))))
          | none => none
        | none => none
      | some _ => none
    else none
  | _ => none

def rfLen (o : Option (Nat × Nat)) : Nat :=
  match o with
  | none => 0
  | some q => q.2

def evLen (x : T) : Option (R St) :=
  match x with
  | .p (.tl _ xs) => some (.ret (.p (.val (.int .i64 xs.length))))
  | .ot _ _ xs => some (.ret (.p (.val (.int .i64 xs.length))))
  | .p (.sl es) => some (.ret (.p (.val (.int .i64 es.length))))
  | .ow _ _ es => some (.ret (.p (.val (.int .i64 es.length))))
  | .emp => some (.ret (.p (.val (.int .i64 0))))
  | .p (.rf o) => some (.ret (.p (.val (.int .i64 (rfLen o)))))
  | _ => none

def evBuild (t : TypeId) (parts : List (Nat × V)) : Option (R St) :=
  match (P.inf t).bind (·.zero) with
  | some z => match P.und t with
    | some (.struct fs) => if fs.toList.all (fun f => (size? P f.type).isSome) then (fillV ((fs.map fun f => (f.offset, (size? P f.type).getD 0))[·]?) (V.ofVal1 z).cells parts).map (fun cs => .ret (.p (.agg cs))) else none
    | some (.array _ el) => match size? P el with
      | some n => (fillV (fun i => some (i * n, n)) (V.ofVal1 z).cells parts).map (fun cs => .ret (.p (.agg cs)))
      | none => none
    | _ => none
  | none => none

def V.noAgg : V → Bool
  | .agg _ => false
  | _ => true

/-- The elements of a row that is laid cell by cell. -/
def mkElems (ag : Bool) (k : Nat) : Nat → List V → List V
  | 0, _ => []
  | n + 1, flat => (if ag then .agg (flat.take k) else (flat.head?).getD (.val undef)) :: mkElems ag k n (flat.drop k)

def evBuildSlice (t : TypeId) (len : Nat) (parts : List (Nat × V)) : Option (R St) :=
  match P.und t with
  | some (.slice el) => match P.inf el with
    | some info => match info.zero, isAgg? P el with
      | some z, some ag =>
        if len * info.size ≤ 16777216 ∧ (V.ofVal1 z).cells.length = info.size ∧ info.size ≠ 0 ∧ (ag = false → info.size = 1) then
          match fillV (fun i => some (i * info.size, info.size)) ((List.range (len * info.size)).map (fun i => ((V.ofVal1 z).cells[i % info.size]?).getD (.val undef))) parts with
          | some flat => if ag || flat.all V.noAgg then (if len = 0 then some (.own info.size []) else match P.ty el with
              | some ty => if ty.size = info.size then match ty.decs (mkElems ag info.size len flat) with
                | some xs => some (.frzT ty xs)
                | none => some (.frz (mkElems ag info.size len flat))
                else some (.frz (mkElems ag info.size len flat))
              | none => some (.frz (mkElems ag info.size len flat))) else none
          | none => none
        else none
      | _, _ => none
    | none => none
  | _ => none

def evMakeSlice (t : TypeId) (n : Int) : Option (R St) :=
  match P.und t with
  | some (.slice el) => match P.inf el with
    | some info => match info.zero with
      | some z =>
        if 0 ≤ n ∧ n * info.bytes ≤ 140737488355328 ∧ 1 ≤ info.bytes ∧ (V.ofVal1 z).cells.length = info.size ∧ info.size ≠ 0 then
          match P.ty el with
          | some ty => match ty.dec (V.ofVal1 z) with
            | some x => if ty.size = info.size then some (.ownT ty (List.replicate n.toNat x)) else none
            | none => some (.own info.size (List.replicate n.toNat (V.ofVal1 z)))
          | none => some (.own info.size (List.replicate n.toNat (V.ofVal1 z)))
        else none
      | none => none
    | none => none
  | _ => none

def callRes (view : Bool) : Option (St × RV) → Option (R St)
  | some (st, r) => if view && !r.plain then none else some (.call st view r)
  | none => none

/-- The number that stands for append in the table of contracts. -/
def happId : Nat := 1000000

/-- A load through a pointer to what the state holds. -/
def evLoadH (t : TypeId) : T → Option (R St)
  | .p (.hp cs) => (ldV P t cs).map (fun d => .ret (.p d))
  | .p (.pt ty (some y)) => (ldV P t (ty.cells y.2)).map (fun d => .ret (.p d))
  | _ => none

def sameH {α β : Type} (o : Option (Nat × α)) (o' : Option (Nat × β)) : Bool :=
  match o, o' with
  | none, none => true
  | some x, some y => Nat.beq x.1 y.1
  | _, _ => false

/-- Pointers to what the state holds, compared. -/
def evEqH (op : BinOp) (t : TypeId) : T → T → Option (R St)
  | .p (.pt _ o), .p (.pt _ o') => match P.und t with
    | some (.pointer el) => match size? P el with
      | some (_ + 1) => match op with
        | .eql => some (.ret (.p (.val (.bool (sameH o o')))))
        | .neq => some (.ret (.p (.val (.bool (!sameH o o')))))
        | _ => none
      | _ => none
    | _ => none
  | _, _ => none

/-- How the slice that is appended to is told: by its number; or it is empty, without room. -/
def keyE : T → Option V
  | .p (.rf q) => some (.rf q)
  | .emp => some .bot
  | .p (.val (.slice none 0 0)) => some .bot
  | _ => none

/-- Append to a slice that goes by a number, or to nothing. -/
def evHapp (c : Call) : Option (R St) :=
  match c.args.toList, c.argTypes.toList with
  | [x0, x1], [t0, t1] => match keyE (evx G e x0), evx G e x1 with
    | some q, .p (.tl t ys) => match P.fn happId with
      | some _ => none
      | none => match P.und t0, P.und t1 with
        | some (.slice el), some (.slice _) => match P.inf el with
          | some info => match info.zero with
            | some z => if t.size = info.size ∧ 1 ≤ info.bytes ∧ z.cells.size = info.size then
                match S happId e.st [.bot, q, .tl t ys, .val (.int .i64 info.bytes)] with
                | some (st', .p d) => some (.call st' false (.p d))
                | _ => none
              else none
            | none => none
          | none => none
        | _, _ => none
    | _, _ => none
  | _, _ => none

def evCall (c : Call) (o : Oper) : Option (R St) :=
  match c.callee with
  | .builtin .append => match evHapp P G S e c with
    | some r => some r
    | none => evFlat P G e o
  | .builtin .len => match c.args[0]? with
    | some x => match evLen (evx G e x) with
      | some r => match c.argTypes[0]? with
        | some t => match P.und t with
          | some (.slice _) => if c.args.size = 1 then some r else none
          | _ => none
        | none => none
      | none => evFlat P G e o
    | none => none
  | .builtin _ => evFlat P G e o
  | .invoke _ _ => none
  | .value f => match evx G e f, argsV G e c.args.toList with
    | .p (.clo g caps), some ds => callRes (c.args.toList.any (fun x => (evx G e x).isView)) (S g e.st (ds ++ caps))
    | _, _ => none

def T.thereS : T → Bool
  | .p (.sl (_ :: _)) | .ow _ _ _ | .p (.tl _ (_ :: _)) => true
  | _ => false

/-- A slice that is there against the literal nil. -/
def evNil (op : BinOp) (t : TypeId) (x y : T) : Option (R St) :=
  if x.thereS then match y with
    | .p (.val (.slice none _ _)) => match op with
      | .eql => match P.und t with
        | some (.slice _) => some (.ret (.p (.val (.bool false))))
        | _ => none
      | .neq => match P.und t with
        | some (.slice _) => some (.ret (.p (.val (.bool true))))
        | _ => none
      | _ => none
    | _ => none
  else match x with
    | .p (.hd _) => match y with
      | .p (.val (.pointer none)) => match op with
        | .eql => match P.und t with
          | some (.pointer _) => some (.ret (.p (.val (.bool false))))
          | _ => none
        | _ => none
      | _ => none
    | .p (.pt _ o) => match y with
      | .p (.val (.pointer none)) => match P.und t with
        | some (.pointer _) => match op with
          | .eql => some (.ret (.p (.val (.bool o.isNone))))
          | .neq => some (.ret (.p (.val (.bool (!o.isNone)))))
          | _ => none
        | _ => none
      | _ => none
    | _ => none

/-- Fields, one after the other. -/
def eqFs (eq : TypeId → V → V → Option Bool) (xs ys : List V) : List Field → Option Bool
  | [] => some true
  | f :: r => if f.name = "_" then none else
    match partV P f.type xs f.offset, partV P f.type ys f.offset with
    | some a, some b => match eq f.type a b, eqFs eq xs ys r with
      | some c, some c' => some (c && c')
      | _, _ => none
    | _, _ => none

/-- Equality of pure data. -/
def eqV : Nat → TypeId → V → V → Option Bool
  | 0, _, _, _ => none
  | d + 1, t, x, y => match P.und t with
    | some .bool => match x, y with
      | .val (.bool a), .val (.bool b) => some (a == b)
      | _, _ => none
    | some (.int _) => match x, y with
      | .val (.int k a), .val (.int k' b) => if k = k' then some (a == b) else none
      | _, _ => none
    | some .string => match x, y with
      | .val (.string a), .val (.string b) => some (a == b)
      | _, _ => none
    | some (.struct fs) => match x, y with
      | .agg xs, .agg ys => if P.P.stoodInHeld t = false then eqFs P (eqV d) xs ys fs.toList else none
      | _, _ => none
    | _ => none

def evEq (op : BinOp) (t : TypeId) (x y : T) : Option (R St) :=
  match x, y with
  | .p (.agg xs), .p (.agg ys) => match op with
    | .eql => if P.P.eqGuardType P.P.depth t = false then (eqV P 10000 t (.agg xs) (.agg ys)).map (fun b => .ret (.p (.val (.bool b)))) else none
    | .neq => if P.P.eqGuardType P.P.depth t = false then (eqV P 10000 t (.agg xs) (.agg ys)).map (fun b => .ret (.p (.val (.bool (!b))))) else none
    | _ => none
  | _, _ => none

/-- A part of a slice of the frame's own. -/
def evSliceO (t : TypeId) (id : Nat) (ty : Ty) (xs : List ty.El) (lo hi mx : Option T) : Option (R St) :=
  match P.und t with
  | some (.slice el) => if size? P el = some ty.size then
      match mx with
      | none => match boundV hi xs.length xs.length with
        | some h => match boundV lo 0 h with
          | some l => some (.ret (.ov id ty xs l h))
          | none => none
        | none => none
      | some _ => none
    else none
  | _ => none

def evQ (o : Oper) : Option (R St) :=
  match o.op with
  | .move x => some (.ret (evx G e x))
  | .assign x => some (.ret (evx G e x))
  | .field t x i => match evx G e x with
    | .p (.agg cs) => evField P t cs i
    | _ => none
  | .extract x i => match evx G e x with
    | .p (.tup vs) => (vs[i]?).map (fun d => .ret (.p d))
    | _ => none
  | .load t x => match evLoadH P t (evx G e x) with
    | some r => some r
    | none => evLoad P e t (evx G e x)
  | .box _ x => match evx G e x with
    | .p d => if d.leafy then some (.var (d.cells.map .p)) else none
    | .dead => none
    | y => some (.var [y])
  | .alloc t => match (P.inf t).bind (·.zero) with
    | some z => some (.var ((V.ofVal1 z).cells.map .p))
    | none => none
  | .fieldAddr t x i => evFieldAddr P t i (evx G e x)
  | .indexAddr t x ix => match evx G e ix with
    | .p (.val (.int _ i)) => evIndexAddr P t (evx G e x) i
    | _ => none
  | .slice t x lo hi mx => match evx G e x with
    | .p (.sl es) => evSlice P t es (lo.map (evx G e)) (hi.map (evx G e)) (mx.map (evx G e))
    | .p (.tl ty xs) => evSliceT P t ty xs (lo.map (evx G e)) (hi.map (evx G e)) (mx.map (evx G e))
    | .ot id ty xs => evSliceO P t id ty xs (lo.map (evx G e)) (hi.map (evx G e)) (mx.map (evx G e))
    | _ => evFlat P G e o
  | .nilCheck x => match evx G e x with
    | .p (.pp cs) => some (.ret (.p (.pp cs)))
    | .p (.hp cs) => some (.ret (.p (.hp cs)))
    | .p (.pt ty (some y)) => some (.ret (.p (.pt ty (some y))))
    | .p (.clo f caps) => some (.ret (.p (.clo f caps)))
    | .lp s off => some (.ret (.lp s off))
    | .oe id k es i off => some (.ret (.oe id k es i off))
    | .oet id ty xs i off => some (.ret (.oet id ty xs i off))
    | .on ⟨id, id2, ty, xs, j, ys, .q k off⟩ => some (.ret (.on ⟨id, id2, ty, xs, j, ys, .q k off⟩))
    | _ => evFlat P G e o
  | .build t parts => match purePairs G e parts.toList with
    | some ps => evBuild P t ps
    | none => none
  | .buildSlice t n parts => match purePairs G e parts.toList with
    | some ps => evBuildSlice P t n ps
    | none => none
  | .makeSlice t l c => match evx G e l, evx G e c with
    | .p (.val (.int .i64 n)), .p (.val (.int .i64 m)) => if n = m then evMakeSlice P t n else none
    | _, _ => none
  | .makeFunc (.func f) first captured => match pureArgs G e captured.toList with
    | some ds => if first.size = 0 then some (.ret (.p (.clo f ds))) else none
    | none => none
  | .call c => evCall P G S e c o
  | .makeMap _ none => some .mk
  | .lookup t x ix ok => match evx G e x with
    | .mp _ es _ => match flatT (evx G e ix) with
      | some k => (pureIn P.P (lookIn t es k ok)).map (fun v => .ret (.p (V.ofVal v)))
      | none => none
    | _ => none
  | .binOp op t x y _ => match evNil P op t (evx G e x) (evx G e y) with
    | some r => some r
    | none => match evEqH P op t (evx G e x) (evx G e y) with
      | some r => some r
      | none => match evEq P op t (evx G e x) (evx G e y) with
        | some r => some r
        | none => evFlat P G e o
  | .unOp _ _ _ | .convert _ _ _ | .pick _ _ _ | .index _ _ _ => evFlat P G e o
  | _ => none
end

end Go.Ve

namespace Go.Ve
open Go

theorem add_eq (b off i : Nat) : Addr.add ⟨b, off, none⟩ i = ⟨b, off + i, none⟩ := by
  grind [Addr.add]

theorem run_underlying? {P : Program} {t : TypeId} {d : TypeDesc} (h : P.underlying t = some d) (w : World) : (underlying t).run P w = .ok d w := by
  simp [underlying, h]

theorem run_isAgg {P : Program} {t : TypeId} {c : Bool} (h : isAgg? P t = some c) (w : World) : (isAgg t).run P w = .ok c w := by
  unfold isAgg? at h
  cases hu : P.underlying t with
  | none => simp [hu] at h
  | some d => cases d <;> simp [hu] at h <;> subst h <;> simp [isAgg, underlying, hu]

theorem run_typeInfo {P : Program} {t : TypeId} {i : TypeInfo} (h : P.info? t = some i) (w : World) : (typeInfo t).run P w = .ok i w := by
  simp [typeInfo, h]

theorem run_sizeOf {P : Program} {t : TypeId} {n : Nat} (h : size? P t = some n) (w : World) : (sizeOf t).run P w = .ok n w := by
  simp [size?] at h
  obtain ⟨i, hi, rfl⟩ := h
  simp [sizeOf, run_typeInfo hi]

theorem size_of_info {P : Program} {t : TypeId} {i : TypeInfo} (h : P.info? t = some i) : size? P t = some i.size := by
  show (P.info? t).map (·.size) = some i.size
  rw [h]; rfl

theorem run_loadCellsFrom {P : Program} {w : World} {b off : Nat} {g : Nat → Value} : ∀ (n i : Nat) (acc : Array Value),
    (∀ m, m < n → w.cell? ⟨b, off + (i + m), none⟩ = some (g (i + m))) →
    (loadCellsFrom ⟨b, off, none⟩ i n acc).run P w = .ok (acc ++ ((List.range n).map (fun m => g (i + m))).toArray) w := by
  intro n
  induction n with
  | zero => simp_all [loadCellsFrom]
  | succ n ih =>
    intro i acc h
    have h0 := h 0 (by omega)
    simp at h0
    have h1 := ih (i + 1) (acc.push (g i)) (fun m hm => by
      grind)
    simp only [loadCellsFrom, Sem.run_bind, add_eq, run_load, h0, Result.andThen_ok, h1]
    congr 1
    apply Array.ext'
    simp [List.range_succ_eq_map, Nat.add_assoc, Nat.add_comm 1]

theorem run_loadCells {P : Program} {w : World} {b off n : Nat} {g : Nat → Value} (h : ∀ m, m < n → w.cell? ⟨b, off + m, none⟩ = some (g m)) :
    (loadCells ⟨b, off, none⟩ n).run P w = .ok ((List.range n).map g).toArray w := by
  simp_all [run_loadCellsFrom, loadCells]

theorem run_loadAt_agg {P : Program} {w : World} {t : TypeId} {b off n : Nat} {g : Nat → Value} (ha : isAgg? P t = some true) (hs : size? P t = some n)
    (h : ∀ m, m < n → w.cell? ⟨b, off + m, none⟩ = some (g m)) :
    (Instr.loadAt t (.pointer (some ⟨b, off, none⟩))).run P w = .ok (.agg ((List.range n).map g).toArray) w := by
  simp [Instr.loadAt, Instr.sureAddr, loadVar, run_isAgg ha, run_sizeOf hs, run_loadCells h]

theorem run_loadAt_leaf {P : Program} {w : World} {t : TypeId} {b off : Nat} {x : Value} (ha : isAgg? P t = some false)
    (h : w.cell? ⟨b, off, none⟩ = some x) : (Instr.loadAt t (.pointer (some ⟨b, off, none⟩))).run P w = .ok x w := by
  simp [Instr.loadAt, Instr.sureAddr, loadVar, run_isAgg ha, h]

/-- What an operation that turns the state leaves behind. -/
def Turned (Γ : Sig) (w : World) (F : Blk → Prop) (O : Nat → Prop) (u : Value) (w' : World) (st' : Γ.St) (d : V) : Prop :=
  ∃ (F' : Blk → Prop) (O' : Nat → Prop), Γ.R st' F' O' w' ∧ Keep O w w' ∧ (∀ b, O' b → O b ∨ w.heap.size ≤ b) ∧ Grow w.heap.size F F' ∧
    (∀ b : Nat, F' b → (F b ∨ w.heap.size ≤ b) ∧ b < w'.heap.size ∧ ¬ O' b) ∧ Rd w' F' u d

/-- What the slice that is appended to is. -/
def AppRd (w : World) (F : Blk → Prop) (v : Value) : V → Prop
  | .bot => ∃ a : Option Addr, v = .slice a 0 0
  | d => Rd w F v d

/-- Append to a slice that goes by a number, or to nothing, in whatever world. -/
def AppOk (Γ : Sig) (P : Program) (st : Γ.St) (q : V) (t : Ty) (ys : List t.El) (bytes : Nat) (st' : Γ.St) (d : V) : Prop :=
  ∀ (ts : Array TypeId) (ty t0 t1 el el1 : TypeId) (info : TypeInfo) (z : Value) (w : World) (F : Blk → Prop) (O : Nat → Prop) (v0 v1 : Value),
    ts[0]? = some t0 → ts[1]? = some t1 → P.underlying t0 = some (.slice el) → P.underlying t1 = some (.slice el1) → P.info? el = some info → info.zero = some z →
    t.size = info.size → 1 ≤ info.bytes → z.cells.size = info.size → info.bytes = bytes → Γ.R st F O w → (∀ b : Nat, F b → b < w.heap.size ∧ ¬ O b) →
    AppRd w F v0 q → Rd w F v1 (.tl t ys) → ∃ u w', (Builtin.append_ ts ty #[v0, v1]).run P w = .ok u w' ∧ Turned Γ w F O u w' st' d

/-- What becomes of a row that is lent: it holds what it says, and d is handed back; or the row itself is handed back, in part, or a new one in its place. -/
def BorRet (N : Nat) (w : World) (F : Blk → Prop) (O : Nat → Prop) (b : Nat) (v0 : Value) (t : Ty) (xs ys : List t.El) (v : Value) : V → Prop
  | .bot => ∃ b' : Nat, ((b' = b ∧ (xs = [] → ys = [])) ∨ (N ≤ b' ∧ b' < w.heap.size ∧ ¬ F b' ∧ ¬ O b')) ∧ OwnR w F ⟨fun _ => b', fun _ => b'⟩ (fun _ => True) v 0 t.size (ys.map t.enc)
  | d => OwnR w F ⟨fun _ => b, fun _ => b⟩ (fun _ => True) v0 0 t.size (ys.map t.enc) ∧ Rd w F v d

theorem BorRet.of {N : Nat} {w : World} {F : Blk → Prop} {O : Nat → Prop} {b : Nat} {v0 : Value} {t : Ty} {xs ys : List t.El} {v : Value} {d : V}
    (h1 : OwnR w F ⟨fun _ => b, fun _ => b⟩ (fun _ => True) v0 0 t.size (ys.map t.enc)) (h2 : Rd w F v d) : BorRet N w F O b v0 t xs ys v d := by
  cases d with
  | bot => cases h2
  | _ => exact ⟨h1, h2⟩

theorem BorRet.out {N : Nat} {w : World} {F : Blk → Prop} {O : Nat → Prop} {b : Nat} {v0 : Value} {t : Ty} {xs ys : List t.El} {v : Value} {d : V} (hd : d = .bot → False) (h : BorRet N w F O b v0 t xs ys v d) :
    OwnR w F ⟨fun _ => b, fun _ => b⟩ (fun _ => True) v0 0 t.size (ys.map t.enc) ∧ Rd w F v d := by
  cases d with
  | bot => grind
  | _ => exact h

/-- Where the pointer of a variable stands among the arguments, and the others. -/
def ptrPos : List V → Option (Nat × List V)
  | .bot :: .val (.int _ k) :: r => some (k.toNat, r)
  | _ => none

theorem ptrPos_none {ds : List V} (h : ∀ r, ds ≠ .bot :: r) : ptrPos ds = none := by
  unfold ptrPos
  grind

/-- A call to which a variable is lent by its pointer, the argument at place k, in whatever world. -/
def PtrOk (Γ : Sig) (P : Program) (G : Nat → Option (List V)) (f : FuncId) (st : Γ.St) (t : Ty) (k : Nat) (xs : List t.El) (ds : List V) (st' : Γ.St) (ys : List t.El) (d : V) : Prop :=
  ∀ (w : World) (F : Blk → Prop) (O : Nat → Prop) (b cap : Nat) (args : Array Value),
    Γ.R st F O w → GRel G w F → (∀ c : Nat, F c → c < w.heap.size ∧ ¬ O c) →
    RowRel w F b t.size cap (xs.map t.enc) → xs.length = 1 → b < w.heap.size ∧ ¬ F b ∧ ¬ O b →
    args.size = ds.length + 1 → k ≤ ds.length → args[k]? = some (.pointer (some ⟨b, 0, none⟩)) →
    (∀ (i : Nat) (x : Value) (d : V), args[if i < k then i else i + 1]? = some x → ds[i]? = some d → Rd w F x d) →
    Calls P f args w fun e w' => ∃ (v : Value) (F' : Blk → Prop) (O' : Nat → Prop), e = .returned v ∧ Γ.R st' F' O' w' ∧ Keep (fun c => O c ∨ c = b) w w' ∧
      (∀ c, O' c → O c ∨ w.heap.size ≤ c) ∧ Grow w.heap.size F F' ∧ (∀ c : Nat, F' c → (F c ∨ w.heap.size ≤ c) ∧ c < w'.heap.size ∧ ¬ O' c) ∧
      RowRel w' F' b t.size cap (ys.map t.enc) ∧ ys.length = 1 ∧ Rd w' F' v d

/-- A call that turns a row that it is lent, in whatever world. -/
def RowOk (Γ : Sig) (P : Program) (G : Nat → Option (List V)) (f : FuncId) (st : Γ.St) (t : Ty) (xs : List t.El) (ds : List V) (st' : Γ.St) (ys : List t.El) (d : V) : Prop :=
  ∀ (w : World) (F : Blk → Prop) (O : Nat → Prop) (b : Nat) (v0 : Value) (args : Array Value),
    Γ.R st F O w → GRel G w F → (∀ c : Nat, F c → c < w.heap.size ∧ ¬ O c) →
    OwnR w F ⟨fun _ => b, fun _ => b⟩ (fun _ => True) v0 0 t.size (xs.map t.enc) → (xs ≠ [] → b < w.heap.size ∧ ¬ F b ∧ ¬ O b) →
    args.size = ds.length + 1 → args[0]? = some v0 → (∀ (i : Nat) (x : Value) (d : V), args[i + 1]? = some x → ds[i]? = some d → Rd w F x d) →
    Calls P f args w fun e w' => ∃ (v : Value) (F' : Blk → Prop) (O' : Nat → Prop), e = .returned v ∧ Γ.R st' F' O' w' ∧ Keep (fun c => O c ∨ (xs ≠ [] ∧ c = b)) w w' ∧
      (∀ c, O' c → O c ∨ w.heap.size ≤ c) ∧ Grow w.heap.size F F' ∧ (∀ c : Nat, F' c → (F c ∨ w.heap.size ≤ c) ∧ c < w'.heap.size ∧ ¬ O' c) ∧
      BorRet w.heap.size w' F' O' b v0 t xs ys v d

/-- A call to which a row or a variable is lent. -/
def BorOk (Γ : Sig) (P : Program) (G : Nat → Option (List V)) (f : FuncId) (st : Γ.St) (t : Ty) (xs : List t.El) (ds : List V) (st' : Γ.St) (ys : List t.El) (d : V) : Prop :=
  match ptrPos ds with
  | none => RowOk Γ P G f st t xs ds st' ys d
  | some (k, r) => PtrOk Γ P G f st t k xs r st' ys d

theorem BorOk.of {Γ : Sig} {P : Program} {G : Nat → Option (List V)} {f : FuncId} {st : Γ.St} {t : Ty} {xs : List t.El} {ds : List V} {st' : Γ.St} {ys : List t.El} {d : V}
    (h : ptrPos ds = none) (hr : RowOk Γ P G f st t xs ds st' ys d) : BorOk Γ P G f st t xs ds st' ys d := by grind [BorOk]

theorem BorOk.row {Γ : Sig} {P : Program} {G : Nat → Option (List V)} {f : FuncId} {st : Γ.St} {t : Ty} {xs : List t.El} {ds : List V} {st' : Γ.St} {ys : List t.El} {d : V}
    (h : ptrPos ds = none) (hr : BorOk Γ P G f st t xs ds st' ys d) : RowOk Γ P G f st t xs ds st' ys d := by grind [BorOk]

/-- The table of the callees' contracts. -/
structure Table (Γ : Sig) (P : Program) (G : Nat → Option (List V)) (S : Specs Γ) : Prop where
  ok : ∀ f, FnOk Γ P G f (S f)
  is : ∀ f s ds r, S f s ds = some r → (∀ ds', ds ≠ .bot :: ds') → ∃ fn, P.funcs[f]? = some fn ∧ fn.body.isSome = true ∧ (fn.name == "runtime.NumGoroutine") = false
  app : P.funcs[happId]? = none → ∀ st q t ys (bytes : Nat) st' d, S happId st [.bot, q, .tl t ys, .val (.int .i64 bytes)] = some (st', .p d) → AppOk Γ P st q t ys bytes st' d
  bor : ∀ f st t xs ds st' ys d, S f st (.bot :: .tl t xs :: ds) = some (st', .p (.tup [.tl t ys, d])) → BorOk Γ P G f st t xs ds st' ys d ∧ ∃ fn, P.funcs[f]? = some fn ∧ fn.body.isSome = true ∧ (fn.name == "runtime.NumGoroutine") = false

def Fal (F : Blk → Prop) (β : Lay) (al : Site → Prop) (b : Blk) : Prop := F b ∨ ∃ x, al x ∧ Blk.b (β.blk x) = b

def OpSim (Γ : Sig) (P : Program) (S : Specs Γ) (o : Oper) (a : Act) (w : World) (F : Blk → Prop) (β : Lay) (al alv : Site → Prop) (st : Γ.St) : R Γ.St → Prop
  | .ret x => ∃ v, (execOp a.eval o).run P w = .ok (.value v) w ∧ TRel w F β al v x
  | .var cs => ∃ (c : Array Value) (et : TypeId), (execOp a.eval o).run P w = .ok (.value (.pointer (some ⟨w.heap.size, 0, none⟩))) { w with heap := w.heap.push (.cells c et) } ∧
      c.size = cs.length ∧ ∀ (i : Nat) (x : Value) (d : T), c[i]? = some x → cs[i]? = some d → TRel w F β al x d
  | .own k es => ∃ (c : Array Value) (et : TypeId) (cap : Nat), (execOp a.eval o).run P w = .ok (.value (.slice (some ⟨w.heap.size, 0, none⟩) es.length cap)) { w with heap := w.heap.push (.cells c et) } ∧
      c.size = cap * k ∧ es.length ≤ cap ∧ (es = [] → cap = 0) ∧ (∀ e, e ∈ es → e.cells.length = k) ∧
      ∀ (i j : Nat) (e d : V) (x : Value), es[i]? = some e → e.cells[j]? = some d → c[i * k + j]? = some x → Rd w F x d
  | .frz es => ∃ (c : Array Value) (et : TypeId) (k : Nat), (execOp a.eval o).run P w = .ok (.value (.slice (some ⟨w.heap.size, 0, none⟩) es.length es.length)) { w with heap := w.heap.push (.cells c et) } ∧
      c.size = es.length * k ∧ (∀ e, e ∈ es → e.cells.length = k) ∧
      ∀ (i j : Nat) (e d : V) (x : Value), es[i]? = some e → e.cells[j]? = some d → c[i * k + j]? = some x → Rd w F x d
  | .call st' view r => (view = false ∧ ∃ d, r = .p d ∧ ∀ O, Γ.R st F O w → (∀ b : Nat, F b → b < w.heap.size ∧ ¬ O b) → ∃ u w', (execOp a.eval o).run P w = .ok (.value u) w' ∧ Turned Γ w F O u w' st' d) ∨
      ∃ (f : FuncId) (args : Array Value) (ds : List V), (execOp a.eval o).run P w = .ok (.enter f args) w ∧ args.size = ds.length ∧
      (∀ (i : Nat) (x : Value) (d : V), args[i]? = some x → ds[i]? = some d → Rd w (if view then Fal F β alv else F) x d) ∧
      S f st ds = some (st', r) ∧ (view = true → r.plain = true)
  | .frzT t xs => ∃ (es : List V) (c : Array Value) (et : TypeId), (execOp a.eval o).run P w = .ok (.value (.slice (some ⟨w.heap.size, 0, none⟩) es.length es.length)) { w with heap := w.heap.push (.cells c et) } ∧
      c.size = es.length * t.size ∧ (∀ e, e ∈ es → e.cells.length = t.size) ∧
      (∀ (i j : Nat) (e d : V) (x : Value), es[i]? = some e → e.cells[j]? = some d → c[i * t.size + j]? = some x → Rd w F x d) ∧ WkEs es (xs.map t.enc)
  | .ownT t xs => ∃ (es : List V) (c : Array Value) (et : TypeId) (cap : Nat), (execOp a.eval o).run P w = .ok (.value (.slice (some ⟨w.heap.size, 0, none⟩) es.length cap)) { w with heap := w.heap.push (.cells c et) } ∧
      c.size = cap * t.size ∧ es.length ≤ cap ∧ (es = [] → cap = 0) ∧ (∀ e, e ∈ es → e.cells.length = t.size) ∧
      (∀ (i j : Nat) (e d : V) (x : Value), es[i]? = some e → e.cells[j]? = some d → c[i * t.size + j]? = some x → Rd w F x d) ∧ WkEs es (xs.map t.enc)
  | .mk => (execOp a.eval o).run P w = .ok (.value (.map (some w.heap.size))) { w with heap := w.heap.push (.map #[] 0) }

section
variable {Γ : Sig} {P : Program} {G : Nat → Option (List V)} {S : Specs Γ} {e : Env Γ.St} {o : Oper} {a : Act} {w : World} {F : Blk → Prop} {β : Lay} {al : Site → Prop}

theorem flatT_eq {v u : Value} {x : T} (h : TRel w F β al v x) (hx : flatT x = some u) : v = u := by
  cases x <;> simp [flatT] at hx
  exact Rd.eq_toVal h hx

theorem evFlat_sim (hns : ∀ cs b, o.op ≠ .select cs b) (hops : ∀ x, x ∈ o.op.operands → TRel w F β al (a.eval x) (evx G e x)) {r : R Γ.St}
    (h : evFlat P G e o = some r) {st : Γ.St} : OpSim Γ P S o a w F β al al st r := by
  unfold evFlat at h
  split at h
  · rename_i hall
    have hc : execOp a.eval o = execOp (fun x => (flatT (evx G e x)).getD undef) o := by
      grind [execOp_congr, List.all_eq_true, Option.isSome_iff_exists, flatT_eq]
    split at h
    · rename_i v hv
      cases h
      exact ⟨v, by grind [pureIn_run], rd_ofVal w F v⟩
    · cases h
  · cases h

theorem ldV_sim {t : TypeId} {cs : List V} {d : V} {b off : Nat} {g : Nat → Value}
    (hg : ∀ m, m < cs.length → w.cell? ⟨b, off + m, none⟩ = some (g m)) (hr : ∀ (m : Nat) (d : V), cs[m]? = some d → Rd w F (g m) d)
    (h : ldV P t cs = some d) : ∃ v, (Instr.loadAt t (.pointer (some ⟨b, off, none⟩))).run P w = .ok v w ∧ Rd w F v d := by
  unfold ldV at h
  split at h
  · rename_i ha
    split at h
    · rename_i n hn
      split at h
      · rename_i hle
        cases h
        refine ⟨_, run_loadAt_agg ha hn (fun m hm => hg m (by omega)), ?_⟩
        refine .agg _ _ (by simp; omega) ?_
        grind
      · cases h
    · cases h
  · rename_i ha
    cases cs with
    | nil => simp at h
    | cons c cs =>
      simp at h
      subst h
      refine ⟨g 0, run_loadAt_leaf ha ?_, hr 0 c rfl⟩
      grind
  · cases h

theorem pureCells_get : ∀ {cs : List T} {ds : List V}, pureCells cs = some ds → cs = ds.map .p := by
  intro cs
  induction cs with
  | nil => grind [pureCells]
  | cons c cs ih =>
    intro ds h
    cases c <;> simp [pureCells] at h
    grind

theorem VarRel.at {b : Nat} {cs : List T} (h : VarRel w F β al b cs) (i : Nat) (hi : i < cs.length) :
    ∃ x, w.cell? ⟨b, i, none⟩ = some x ∧ TRel w F β al x cs[i] := by
  obtain ⟨c, et, h1, h2, h3⟩ := h
  have hic : i < c.size := by omega
  refine ⟨c[i], by grind [World.cell?], h3 i _ _ (by simp [hic]) (by simp [hi])⟩

theorem evLoad0_sim (hvars : ∀ s cs, e.var s = some cs → al (.v s) → VarRel w F β al (β.vb s) cs) {t : TypeId} {x : T} {v : Value} {r : R Γ.St}
    (hx : TRel w F β al v x) (h : evLoad0 P e t x = some r) : ∃ u y, r = .ret y ∧ (Instr.loadAt t v).run P w = .ok u w ∧ TRel w F β al u y := by
  unfold evLoad0 at h
  split at h
  · rename_i cs
    simp at h
    obtain ⟨d, hd, rfl⟩ := h
    cases hx with
    | pp b off cs g hF hg hr =>
      obtain ⟨u, h1, h2⟩ := ldV_sim hg hr hd
      exact ⟨u, _, rfl, h1, h2⟩
  · rename_i s off
    obtain ⟨ha, rfl⟩ := hx
    split at h
    · rename_i cs hcs
      have hv := hvars s cs hcs ha
      simp at h
      obtain ⟨y, hy, rfl⟩ := h
      unfold ldT at hy
      split at hy
      · rename_i hagg
        split at hy
        · rename_i n hn
          split at hy
          · rename_i hle
            simp at hy
            obtain ⟨ds, hds, rfl⟩ := hy
            have heq := pureCells_get hds
            simp at hle
            have hlen : ds.length = n := by
              have := congrArg List.length heq
              grind
            have hcell : ∀ m, m < n → ∃ x, w.cell? ⟨β.vb s, off + m, none⟩ = some x ∧ ∀ d, ds[m]? = some d → Rd w F x d := by
              intro m hm
              obtain ⟨x, h1, h2⟩ := hv.at (off + m) (by omega)
              refine ⟨x, h1, fun d hd => ?_⟩
              have h3 : ((cs.drop off).take n)[m]? = some (.p d) := by grind
              rw [List.getElem?_take, if_pos hm, List.getElem?_drop] at h3
              rw [List.getElem?_eq_getElem (by omega), Option.some.injEq] at h3
              rw [h3] at h2; exact h2
            let g : Nat → Value := fun m => (w.cell? ⟨β.vb s, off + m, none⟩).getD undef
            have hg : ∀ m, m < n → w.cell? ⟨β.vb s, off + m, none⟩ = some (g m) := fun m hm => by
              grind
            refine ⟨_, _, rfl, run_loadAt_agg hagg hn hg, ?_⟩
            refine Rd.agg _ _ (by simp [hlen]) ?_
            grind
          · cases hy
        · cases hy
      · rename_i hagg
        have hlt : off < cs.length := by
          grind [Nat.lt_or_ge, List.drop_eq_nil_of_le]
        rw [List.head?_drop, List.getElem?_eq_getElem hlt, Option.some.injEq] at hy
        subst hy
        obtain ⟨x, h1, h2⟩ := hv.at off hlt
        exact ⟨x, _, rfl, run_loadAt_leaf hagg h1, h2⟩
      · cases hy
    · cases h
  · rename_i id k es i off
    obtain ⟨ha, hi, cap, rfl, c, et, h1, h2, h3, h4, h5⟩ := hx
    split at h
    · rename_i d0 hd0
      simp at h
      obtain ⟨d, hd, rfl⟩ := h
      have hk := h4 d0 (List.mem_of_getElem? hd0)
      let g : Nat → Value := fun m => (c[i * k + (off + m)]?).getD undef
      have hin : ∀ m, off + m < k → i * k + (off + m) < c.size := by
        intro m hm
        have : (i + 1) * k ≤ cap * k := Nat.mul_le_mul_right k (by omega)
        grind
      have hlen : (d0.cells.drop off).length = k - off := by simp [hk]
      obtain ⟨u, h6, h7⟩ := ldV_sim (P := P) (w := w) (F := F) (t := t) (cs := d0.cells.drop off) (d := d) (b := β.ob id) (off := i * k + off) (g := g)
        (fun m hm => by
          grind [World.cell?])
        (fun m d' hd' => by
          grind) hd
      exact ⟨u, _, rfl, h6, h7⟩
    · cases h
  · cases h

theorem evLoad_sim (hvars : ∀ s cs, e.var s = some cs → al (.v s) → VarRel w F β al (β.vb s) cs) {t : TypeId} {x : T} {v : Value} {r : R Γ.St}
    (hx : TRel w F β al v x) (h : evLoad P e t x = some r) : ∃ u y, r = .ret y ∧ (Instr.loadAt t v).run P w = .ok u w ∧ TRel w F β al u y := by
  cases x with
  | oet id ty xs i off =>
    refine evLoad0_sim hvars (TRel_un.1 hx) ?_
    grind [enc_cells, evLoad, T.un, evLoad0]
  | on n =>
    obtain ⟨id, id2, ty, xs, j, ys, m⟩ := n
    simp [evLoad, evLoadN] at h
    split at h
    · rename_i i
      split at h
      · rename_i hc
        obtain ⟨hij, ha⟩ := hc
        subst hij
        cases h
        obtain ⟨a1, a2, c, et, cap2, k1, k2, k5, k6, k7, k8⟩ := hx
        simp only [NM.Rel] at k8
        obtain ⟨k8, rfl⟩ := k8
        refine ⟨_, _, rfl, run_loadAt_leaf ha (x := .slice (some ⟨β.ob id2, 0, none⟩) ys.length cap2) ?_, a1, a2, c, et, cap2, k1, k2, k5, k6, k7, rfl⟩
        grind [Array.getElem?_eq_some_iff, World.cell?]
      · cases h
    · cases h
  | _ => exact evLoad0_sim hvars hx h
end
end Go.Ve
