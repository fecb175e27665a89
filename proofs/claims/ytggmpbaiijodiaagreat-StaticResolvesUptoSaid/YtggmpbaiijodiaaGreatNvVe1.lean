/-
  The evaluator over pure values, part 1: values, readings of values in memory, and what keeps them.
-/
import Derived.Orders
import Derived.Below
import Derived.KernelRfl
import Derived.IntWalk
namespace Go.Ve
open Go

/-- The shapes of typed data: a struct is a chain of pairs, its fields laid flat. -/
inductive Ty where
  | int (k : IntKind)
  | bool
  | str
  | unit
  | pair (a b : Ty)
  | sl (t : Ty)
  deriving DecidableEq

@[reducible] def Ty.El : Ty → Type
  | .int _ => Int
  | .bool => Bool
  | .str => ByteArray
  | .unit => Unit
  | .pair a b => a.El × b.El
  | .sl t => List t.El

/-- Pure Go data: a leaf known exactly, a struct or array by its cells, a slice by its elements, a tuple, a function value with what it captured, a pointer to cells that stay. -/
inductive V where
  | val (v : Value)
  | agg (cs : List V)
  | sl (es : List V)
  | tup (vs : List V)
  | clo (f : FuncId) (caps : List V)
  | pp (cs : List V)
  | tl (t : Ty) (xs : List t.El)

/-- Typed data, cell by cell. -/
def Ty.cells : (t : Ty) → t.El → List V
  | .int k, n => [.val (.int k n)]
  | .bool, b => [.val (.bool b)]
  | .str, s => [.val (.string s)]
  | .unit, _ => []
  | .pair a b, x => a.cells x.1 ++ b.cells x.2
  | .sl t, xs => [.tl t xs]

def Ty.enc : (t : Ty) → t.El → V
  | .int k, n => .val (.int k n)
  | .bool, b => .val (.bool b)
  | .str, s => .val (.string s)
  | .unit, _ => .agg []
  | .pair a b, x => .agg (a.cells x.1 ++ b.cells x.2)
  | .sl t, xs => .tl t xs

def Ty.size : Ty → Nat
  | .unit => 0
  | .pair a b => a.size + b.size
  | _ => 1

def V.cells : V → List V
  | .agg cs => cs
  | d => [d]

def V.isVal : V → Bool
  | .val _ => true
  | _ => false

def V.leaf : V → Value
  | .val v => v
  | _ => undef

def V.toVal1 : V → Option Value
  | .val v => some v
  | .agg cs => if cs.all V.isVal then some (.agg (cs.map V.leaf).toArray) else none
  | _ => none

def V.toVal : V → Option Value
  | .tup vs => if vs.all (fun d => d.toVal1.isSome) then some (.tuple (vs.map (fun d => d.toVal1.getD undef)).toArray) else none
  | d => d.toVal1

def V.ofVal1 : Value → V
  | .agg cs => .agg (cs.toList.map .val)
  | v => .val v

def V.ofVal : Value → V
  | .tuple vs => .tup (vs.toList.map V.ofVal1)
  | v => V.ofVal1 v

/-- The value v, in the world w, reads as the pure datum; all memory that the reading meets lies in blocks of F. -/
inductive Rd (w : World) (F : Nat → Prop) : Value → V → Prop
  | val (v : Value) : Rd w F v (.val v)
  | agg (cs : Array Value) (ds : List V) (hl : cs.size = ds.length)
      (h : ∀ (i : Nat) (x : Value) (d : V), cs[i]? = some x → ds[i]? = some d → Rd w F x d) : Rd w F (.agg cs) (.agg ds)
  | tup (cs : Array Value) (ds : List V) (hl : cs.size = ds.length)
      (h : ∀ (i : Nat) (x : Value) (d : V), cs[i]? = some x → ds[i]? = some d → Rd w F x d) : Rd w F (.tuple cs) (.tup ds)
  | slemp (a : Option Addr) (cap : Nat) : Rd w F (.slice a 0 cap) (.sl [])
  | sl (b off cap k : Nat) (es : List V) (g : Nat → Value) (hF : F b) (hcap : es.length ≤ cap) (hk : ∀ e, e ∈ es → e.cells.length = k)
      (hg : ∀ m, m < es.length * k → w.cell? ⟨b, off + m, none⟩ = some (g m))
      (hr : ∀ (i j : Nat) (e d : V), es[i]? = some e → e.cells[j]? = some d → Rd w F (g (i * k + j)) d) :
      Rd w F (.slice (some ⟨b, off, none⟩) es.length cap) (.sl es)
  | clo (f : FuncId) (cs : Array Value) (ds : List V) (hl : cs.size = ds.length)
      (h : ∀ (i : Nat) (x : Value) (d : V), cs[i]? = some x → ds[i]? = some d → Rd w F x d) : Rd w F (.func (.func f) #[] cs) (.clo f ds)
  | pp (b off : Nat) (cs : List V) (g : Nat → Value) (hF : F b)
      (hg : ∀ m, m < cs.length → w.cell? ⟨b, off + m, none⟩ = some (g m))
      (hr : ∀ (m : Nat) (d : V), cs[m]? = some d → Rd w F (g m) d) : Rd w F (.pointer (some ⟨b, off, none⟩)) (.pp cs)
  | tl (t : Ty) (xs : List t.El) (v : Value) (h : Rd w F v (.sl (xs.map t.enc))) : Rd w F v (.tl t xs)

theorem Rd.mono {w w' : World} {F F' : Nat → Prop} {v : Value} {d : V} (h : Rd w F v d) (hF : ∀ b, F b → F' b)
    (hw : ∀ b, F b → w'.heap[b]? = w.heap[b]?) : Rd w' F' v d := by
  induction h with
  | val v => exact .val v
  | agg cs ds hl _ ih => exact .agg cs ds hl ih
  | tup cs ds hl _ ih => exact .tup cs ds hl ih
  | slemp a cap => exact .slemp a cap
  | sl b off cap k es g hb hcap hk hg _ ih =>
    exact .sl b off cap k es g (hF b hb) hcap hk (fun m hm => (World.cell?_of_block (w := w) (hw b hb)).trans (hg m hm)) ih
  | clo f cs ds hl _ ih => exact .clo f cs ds hl ih
  | pp b off cs g hb hg _ ih => exact .pp b off cs g (hF b hb) (fun m hm => (World.cell?_of_block (w := w) (hw b hb)).trans (hg m hm)) ih
  | tl t xs v _ ih => exact .tl t xs v ih

theorem enc_cells (t : Ty) (x : t.El) : (t.enc x).cells = t.cells x := by
  cases t <;> rfl

theorem cells_len (t : Ty) (x : t.El) : (t.cells x).length = t.size := by
  induction t with
  | pair a b iha ihb => simp [Ty.cells, Ty.size, iha, ihb]
  | _ => rfl

theorem enc_len (t : Ty) (x : t.El) : (t.enc x).cells.length = t.size := by rw [enc_cells, cells_len]

theorem Rd.untl {w : World} {F : Nat → Prop} {v : Value} {t : Ty} {xs : List t.El} (h : Rd w F v (.tl t xs)) : Rd w F v (.sl (xs.map t.enc)) := by
  cases h with
  | tl _ _ _ h => exact h

theorem Rd.eq_val {w : World} {F : Nat → Prop} {v u : Value} (h : Rd w F v (.val u)) : v = u := by
  cases h; rfl

theorem leaf_of_isVal {d : V} (h : d.isVal = true) : d = .val d.leaf := by
  cases d <;> simp [V.isVal] at h; rfl

theorem Rd.eq_toVal1 {w : World} {F : Nat → Prop} {v u : Value} {d : V} (h : Rd w F v d) (hd : d.toVal1 = some u) : v = u := by
  cases h with
  | val v => simpa [V.toVal1] using hd
  | agg cs ds hl h =>
    simp only [V.toVal1] at hd
    split at hd
    · rename_i hall
      simp only [Option.some.injEq] at hd
      subst hd
      congr 1
      apply Array.ext
      · simp [hl]
      · intro i h1 h2
        have hi : i < ds.length := by omega
        have h3 := h i cs[i] ds[i] (by simp [h1]) (by simp [hi])
        have h4 := leaf_of_isVal (List.all_eq_true.1 hall ds[i] (List.getElem_mem hi))
        rw [h4] at h3
        rw [h3.eq_val]
        simp
    · cases hd
  | _ => simp [V.toVal1] at hd

theorem Rd.eq_toVal {w : World} {F : Nat → Prop} {v u : Value} {d : V} (h : Rd w F v d) (hd : d.toVal = some u) : v = u := by
  cases h with
  | tup cs ds hl h =>
    simp only [V.toVal] at hd
    split at hd
    · rename_i hall
      simp only [Option.some.injEq] at hd
      subst hd
      congr 1
      apply Array.ext
      · simp [hl]
      · intro i h1 h2
        have hi : i < ds.length := by omega
        have h3 := h i cs[i] ds[i] (by simp [h1]) (by simp [hi])
        have h4 := List.all_eq_true.1 hall ds[i] (List.getElem_mem hi)
        obtain ⟨u, hu⟩ := Option.isSome_iff_exists.1 h4
        rw [h3.eq_toVal1 hu]
        simp [hu]
    · cases hd
  | val v => exact Rd.eq_toVal1 (.val (w := w) (F := F) v) hd
  | agg cs ds hl h => exact Rd.eq_toVal1 (.agg cs ds hl h) hd
  | _ => simp [V.toVal, V.toVal1] at hd

theorem rd_ofVal1 (w : World) (F : Nat → Prop) (v : Value) : Rd w F v (V.ofVal1 v) := by
  cases v with
  | agg cs =>
    refine .agg cs _ (by simp) ?_
    intro i x d h1 h2
    simp only [List.getElem?_map, Option.map_eq_some_iff] at h2
    obtain ⟨y, hy, rfl⟩ := h2
    have : x = y := by
      rw [Array.getElem?_toList] at hy
      rw [h1] at hy; exact Option.some.inj hy
    subst this; exact .val x
  | _ => exact .val _

theorem rd_ofVal (w : World) (F : Nat → Prop) (v : Value) : Rd w F v (V.ofVal v) := by
  cases v with
  | tuple cs =>
    refine .tup cs _ (by simp) ?_
    intro i x d h1 h2
    simp only [List.getElem?_map, Option.map_eq_some_iff] at h2
    obtain ⟨y, hy, rfl⟩ := h2
    have : x = y := by
      rw [Array.getElem?_toList] at hy
      rw [h1] at hy; exact Option.some.inj hy
    subst this; exact rd_ofVal1 w F x
  | agg cs => exact rd_ofVal1 w F (.agg cs)
  | _ => exact .val _

/-- What has no address in it reads the same in every world. -/
theorem Rd.of_flat {w w' : World} {F F' : Nat → Prop} {v : Value} {d : V} {u : Value} (h : Rd w F v d) (hd : d.toVal = some u) : Rd w' F' v d := by
  cases h with
  | val v => exact .val v
  | agg cs ds hl h =>
    refine .agg cs ds hl ?_
    intro i x d h1 h2
    simp only [V.toVal, V.toVal1] at hd
    split at hd
    · rename_i hall
      have h4 := leaf_of_isVal (List.all_eq_true.1 hall d (List.mem_of_getElem? h2))
      have h3 := h i x d h1 h2
      rw [h4] at h3 ⊢
      rw [h3.eq_val]; exact .val _
    · cases hd
  | tup cs ds hl h =>
    refine .tup cs ds hl ?_
    intro i x d h1 h2
    simp only [V.toVal] at hd
    split at hd
    · rename_i hall
      have h4 := List.all_eq_true.1 hall d (List.mem_of_getElem? h2)
      obtain ⟨u, hu⟩ := Option.isSome_iff_exists.1 h4
      have h3 := h i x d h1 h2
      cases h3 with
      | val => exact .val _
      | agg cs' ds' hl' h' =>
        refine .agg cs' ds' hl' ?_
        intro i' x' d' h1' h2'
        simp only [V.toVal1] at hu
        split at hu
        · rename_i hall'
          have h5 := leaf_of_isVal (List.all_eq_true.1 hall' d' (List.mem_of_getElem? h2'))
          have h6 := h' i' x' d' h1' h2'
          rw [h5] at h6 ⊢
          rw [h6.eq_val]; exact .val _
        · cases hu
      | _ => simp [V.toVal1] at hu
    · cases hd
  | _ => simp [V.toVal, V.toVal1] at hd

/-- The program's tables, as they are asked: so that a faster copy of them can be put in their place. -/
structure Look where
  P : Program
  und : TypeId → Option TypeDesc
  inf : TypeId → Option TypeInfo
  fn : FuncId → Option Func
  ty : TypeId → Option Ty

def Ty.rep (a : Ty) : Nat → Ty
  | 0 => .unit
  | n + 1 => .pair a (a.rep n)

/-- The shape of a Go type, where it has one. -/
def tyOf (P : Program) : Nat → TypeId → Option Ty
  | 0, _ => none
  | n + 1, t => match P.underlying t with
    | some .bool => some .bool
    | some (.int k) => some (.int k)
    | some .string => some .str
    | some (.slice el) => match tyOf P n el with
      | some a => some (.sl a)
      | none => none
    | some (.array m el) => match tyOf P n el with
      | some a => some (a.rep m)
      | none => none
    | some (.struct fs) => fs.toList.foldr (fun f acc => match tyOf P n f.type, acc with
      | some a, some b => some (.pair a b)
      | _, _ => none) (some .unit)
    | _ => none

/-- Structs one of whose fields is appended to in place keep their cells as they are. -/
def barTy (P : Program) (t : TypeId) : Bool :=
  match P.underlying t with
  | some (.struct fs) => fs.toList.any (fun f => f.name == "Ends" || f.name == "edges" || f.name == "Interfaces")
  | _ => false

/-- The shape by which a slice of such elements is made. -/
def creTy (P : Program) (t : TypeId) : Option Ty :=
  match barTy P t with
  | true => none
  | false => tyOf P 12 t

@[reducible] def Look.of (P : Program) : Look := ⟨P, P.underlying, P.info?, fun f => P.funcs[f]?, creTy P⟩

instance : Coe Program Look := ⟨Look.of⟩

/-- What an operation comes to that looks at nothing but the program's tables. -/
def pureIn {α : Type} (P : Program) : Sem α → Option α
  | .pure a => some a
  | .program k => pureIn P (k P)
  | _ => none

theorem pureIn_run {α : Type} {P : Program} {s : Sem α} {a : α} (h : pureIn P s = some a) (w : World) : s.run P w = .ok a w := by
  induction s with
  | pure b => simp only [pureIn, Option.some.injEq] at h; subst h; rfl
  | program k ih => exact ih P (by simpa [pureIn] using h)
  | _ => simp [pureIn] at h

theorem pureIn_bind {α β : Type} {P : Program} {s : Sem α} {f : α → Sem β} {b : β} (h : pureIn P (s >>= f) = some b) : ∃ a, pureIn P s = some a ∧ pureIn P (f a) = some b := by
  change pureIn P (s.bind f) = some b at h
  induction s with
  | pure a => exact ⟨a, rfl, h⟩
  | program k ih => exact ih P (by simpa [pureIn, Sem.bind] using h)
  | _ => simp [pureIn, Sem.bind] at h

end Go.Ve
