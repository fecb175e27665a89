/-
  The evaluator over pure values, part 3: operations that write nothing of old.
-/
import Derived.Test.YtggmpbaiijodiaaGreatNvVe25
namespace Go.Ve
open Go

/-- What an operation comes to: a value; a new variable; a new slice of the frame's own; a new slice that stays as it is; a call. -/
inductive R (St : Type) where
  | ret (x : T)
  | var (cs : List T)
  | own (k : Nat) (es : List V)
  | frz (es : List V)
  | call (st : St) (view : Bool) (r : RV)
  | mk
  | frzT (t : Ty) (xs : List t.El)
  | ownT (t : Ty) (xs : List t.El)

/-- A look into a map with these entries. -/
def lookIn (xType : TypeId) (es : List MapEntry) (index : Value) (commaOk : Bool) : Sem Value := do
  let .map key elem ← underlying xType | stuck "Lookup: map type expected"
  Instr.checkKey es.isEmpty 10000 key index
  let (v, ok) ← match ← Instr.findKey key index es with
    | some (_, v) => pure (v, true)
    | none => pure (← zeroValue elem, false)
  pure (if commaOk then .tuple #[v, .bool ok] else v)

/-- A map's entries and clock behind an update. -/
def updIn (mapType : TypeId) (es : List MapEntry) (ck : Nat) (key value : Value) : Sem (List MapEntry × Nat) := do
  let .map keyType _ ← underlying mapType | stuck "MapUpdate: map type expected"
  Instr.checkKey false 10000 keyType key
  match ← Instr.findKey keyType key es with
  | some (i, _) => do
    let key ← Instr.keyThatStays (((es[i]?).map (·.key)).getD key) key
    pure (es.modify i (fun e => { e with key, val := value }), ck)
  | none => pure (es ++ [{ key, val := value, born := ck }], ck + 1)

def isAgg? (P : Look) (t : TypeId) : Option Bool :=
  match P.und t with
  | some (.struct _) => some true
  | some (.array _ _) => some true
  | some _ => some false
  | none => none

def size? (P : Look) (t : TypeId) : Option Nat := (P.inf t).map (·.size)

/-- A variable of type t, read at the head of these cells. -/
def ldV (P : Look) (t : TypeId) (cs : List V) : Option V :=
  match isAgg? P t with
  | some true => match size? P t with
    | some n => if n ≤ cs.length then some (.agg (cs.take n)) else none
    | none => none
  | some false => cs.head?
  | none => none

def pureCells : List T → Option (List V)
  | [] => some []
  | .p d :: r => (pureCells r).map (d :: ·)
  | _ => none

def ldT (P : Look) (t : TypeId) (cs : List T) : Option T :=
  match isAgg? P t with
  | some true => match size? P t with
    | some n => if n ≤ cs.length then (pureCells (cs.take n)).map (fun ds => .p (.agg ds)) else none
    | none => none
  | some false => cs.head?
  | none => none

/-- Part of a struct's or an array's value. -/
def partV (P : Look) (t : TypeId) (cs : List V) (off : Nat) : Option V :=
  match isAgg? P t with
  | some true => match size? P t with
    | some n => some (.agg ((cs.drop off).take n))
    | none => none
  | some false => cs[off]?
  | none => none

def fieldOf (P : Look) (t : TypeId) (i : Nat) : Option Field :=
  match P.und t with
  | some (.struct fs) => fs[i]?
  | _ => none

def V.leafy : V → Bool
  | .val (.agg _) => false
  | _ => true

def fillV (place : Nat → Option (Nat × Nat)) (cells : List V) : List (Nat × V) → Option (List V)
  | [] => some cells
  | (i, v) :: rest =>
    match place i with
    | none => none
    | some (off, size) =>
      if v.leafy = false ∨ v.cells.length ≠ size ∨ off + v.cells.length > cells.length then none
      else fillV place (v.cells.zipIdx.foldl (fun cs (c, j) => cs.set (off + j) c) cells) rest

section
variable {St : Type} (P : Look) (G : Nat → Option (List V)) (S : FuncId → St → List V → Option (St × RV)) (e : Env St)

def evx : Operand → T
  | .tmp t => e.get t
  | .const v => .p (V.ofVal v)
  | .global g => match G g with
    | some cs => .p (.pp cs)
    | none => .p (.val (.pointer (some ⟨g, 0, none⟩)))
  | .func f => .p (.clo f [])

def flatT : T → Option Value
  | .p d => d.toVal
  | _ => none

def evFlat (o : Oper) : Option (R St) :=
  if o.op.operands.toList.all (fun x => (flatT (evx G e x)).isSome) then
    match pureIn P.P (execOp (fun x => (flatT (evx G e x)).getD undef) o) with
    | some (.value v) => some (.ret (.p (V.ofVal v)))
    | _ => none
  else none

/-- What a callee may read of this. -/
def argV : T → Option V
  | .p d => some d
  | .emp => some (.sl [])
  | .ow _ _ es => some (.sl es)
  | .ot _ t xs => some (.tl t xs)
  | .lp s off => match e.var s with
    | some cs => (pureCells (cs.drop off)).map .pp
    | none => none
  | _ => none

def T.isView : T → Bool
  | .ow _ _ _ | .lp _ _ | .ot _ _ _ => true
  | _ => false

/-- No address in it. -/
def Ty.flat : Ty → Bool
  | .sl _ => false
  | .pair a b => a.flat && b.flat
  | _ => true

def RV.plain : RV → Bool
  | .p d => d.toVal.isSome
  | .own es => es.all (fun d => d.toVal1.isSome)
  | .ownT t _ => t.flat

def argsV : List Operand → Option (List V)
  | [] => some []
  | x :: r => match argV e (evx G e x), argsV r with
    | some d, some ds => some (d :: ds)
    | _, _ => none

def pureArgs : List Operand → Option (List V)
  | [] => some []
  | x :: r => match evx G e x, pureArgs r with
    | .p d, some ds => some (d :: ds)
    | _, _ => none

def purePairs : List (Nat × Operand) → Option (List (Nat × V))
  | [] => some []
  | (i, x) :: r => match evx G e x, purePairs r with
    | .p d, some ds => some ((i, d) :: ds)
    | _, _ => none

def evField (t : TypeId) (cs : List V) (i : Nat) : Option (R St) :=
  match fieldOf P t i with
  | some f => (partV P f.type cs f.offset).map (fun d => .ret (.p d))
  | none => none

def evLoad0 (t : TypeId) : T → Option (R St)
  | .p (.pp cs) => (ldV P t cs).map (fun d => .ret (.p d))
  | .lp s off => match e.var s with
    | some cs => (ldT P t (cs.drop off)).map .ret
    | none => none
  | .oe _ _ es i off => match es[i]? with
    | some d => (ldV P t (d.cells.drop off)).map (fun d => .ret (.p d))
    | none => none
  | _ => none

def evLoad (t : TypeId) : T → Option (R St)
  | .oet _ ty xs i off => match xs[i]? with
    | some x => (ldV P t ((ty.cells x).drop off)).map (fun d => .ret (.p d))
    | none => none
  | x => evLoad0 P e t x

def evFieldAddr0 (t : TypeId) (i : Nat) (x : T) : Option (R St) :=
  match fieldOf P t i with
  | some f => match size? P f.type with
    | some (_ + 1) => match x with
      | .p (.pp cs) => some (.ret (.p (.pp (cs.drop f.offset))))
      | .lp s off => some (.ret (.lp s (off + f.offset)))
      | .oe id k es i off => some (.ret (.oe id k es i (off + f.offset)))
      | _ => none
    | _ => none
  | none => none

def evFieldAddr (t : TypeId) (i : Nat) (x : T) : Option (R St) :=
  match x with
  | .oet id ty xs j off => match fieldOf P t i with
    | some f => match size? P f.type with
      | some (_ + 1) => some (.ret (.oet id ty xs j (off + f.offset)))
      | _ => none
    | none => none
  | x => evFieldAddr0 P t i x

def evIndexAddr0 (t : TypeId) (x : T) (i : Int) : Option (R St) :=
  if 0 ≤ i then
    match P.und t, x with
    | some (.slice el), .p (.sl es) => match es[i.toNat]? with
      | some d => if size? P el = some d.cells.length then some (.ret (.p (.pp d.cells))) else none
      | none => none
    | some (.slice el), .ow id k es => if i.toNat < es.length ∧ size? P el = some k then some (.ret (.oe id k es i.toNat 0)) else none
    | some (.array n el), .p (.pp cs) => match size? P el with
      | some z => if i < n then some (.ret (.p (.pp (cs.drop (i.toNat * z))))) else none
      | none => none
    | some (.array n el), .lp s off => match size? P el with
      | some z => if i < n then some (.ret (.lp s (off + i.toNat * z))) else none
      | none => none
    | some (.array n el), .oe id k es j off => match size? P el with
      | some z => if i < n then some (.ret (.oe id k es j (off + i.toNat * z))) else none
      | none => none
    | _, _ => none
  else none

def evIndexAddr (t : TypeId) (x : T) (i : Int) : Option (R St) :=
  match x with
  | .p (.tl ty xs) => if 0 ≤ i then
      match P.und t with
      | some (.slice el) => if size? P el = some ty.size then
          match xs[i.toNat]? with
          | some x => some (.ret (.p (.pp (ty.cells x))))
          | none => none
        else none
      | _ => none
    else none
  | .ot id ty xs => if 0 ≤ i then
      match P.und t with
      | some (.slice el) => if size? P el = some ty.size then
          if i.toNat < xs.length then some (.ret (.oet id ty xs i.toNat 0)) else none
        else none
      | _ => none
    else none
  | .oet id ty xs j off => if 0 ≤ i then
      match P.und t with
      | some (.array n el) => match size? P el with
        | some z => if i < n then some (.ret (.oet id ty xs j (off + i.toNat * z))) else none
        | none => none
      | _ => none
    else none
  | x => evIndexAddr0 P t x i

def boundV (d : Option T) (dflt top : Nat) : Option Nat :=
  match d with
  | none => some dflt
  | some (.p (.val (.int _ i))) => if 0 ≤ i ∧ i ≤ top then some i.toNat else none
  | _ => none

def evSlice (t : TypeId) (es : List V) (lo hi mx : Option T) : Option (R St) :=
  match P.und t with
  | some (.slice el) =>
    match mx with
    | none => match boundV hi es.length es.length with
      | some h => match boundV lo 0 h with
        | some l => match size? P el with
          | some z => match es[l]? with
            | some d => if d.cells.length = z then some (.ret (.p (.sl ((es.take h).drop l)))) else none
            | none => some (.ret (.p (.sl [])))
          | none => none
        | none => none
      | none => none
    | some (.p (.val (.int _ 0))) => match hi, lo with
      | some (.p (.val (.int _ 0))), none => match size? P el with
        | some _ => some (.ret .emp)
        | none => none
      | _, _ => none
    | _ => none
  | _ => none

/-- The same of a typed slice. -/
def evSliceT (t : TypeId) (ty : Ty) (xs : List ty.El) (lo hi mx : Option T) : Option (R St) :=
  match P.und t with
  | some (.slice el) => if size? P el = some ty.size then
      match mx with
      | none => match boundV hi xs.length xs.length with
        | some h => match boundV lo 0 h with
          | some l => some (.ret (.p (.tl ty ((xs.take h).drop l))))
          | none => none
        | none => none
      | some _ => none
    else none
  | _ => none

def evLen (x : T) : Option (R St) :=
  match x with
  | .p (.tl _ xs) => some (.ret (.p (.val (.int .i64 xs.length))))
  | .ot _ _ xs => some (.ret (.p (.val (.int .i64 xs.length))))
  | .p (.sl es) => some (.ret (.p (.val (.int .i64 es.length))))
  | .ow _ _ es => some (.ret (.p (.val (.int .i64 es.length))))
  | .emp => some (.ret (.p (.val (.int .i64 0))))
  | _ => none

def evBuild (t : TypeId) (parts : List (Nat × V)) : Option (R St) :=
  match (P.inf t).bind (·.zero) with
  | some z => match P.und t with
    | some (.struct fs) => if fs.toList.all (fun f => (size? P f.type).isSome) then (fillV ((fs.map fun f => (f.offset, (size? P f.type).getD 0))[·]?) (V.ofVal1 z).cells parts).map (fun cs => .ret (.p (.agg cs))) else none
    | some (.array _ el) => match size? P el with
      | some n => (fillV (fun i => some (i * n, n)) (V.ofVal1 z).cells parts).map (fun cs => .ret (.p (.agg cs)))
      | none => none
    | _ => none
  | none => none

def V.noAgg : V → Bool
  | .agg _ => false
  | _ => true

/-- The elements of a row that is laid cell by cell. -/
def mkElems (ag : Bool) (k : Nat) : Nat → List V → List V
  | 0, _ => []
  | n + 1, flat => (if ag then .agg (flat.take k) else (flat.head?).getD (.val undef)) :: mkElems ag k n (flat.drop k)

def evBuildSlice (t : TypeId) (len : Nat) (parts : List (Nat × V)) : Option (R St) :=
  match P.und t with
  | some (.slice el) => match P.inf el with
    | some info => match info.zero, isAgg? P el with
      | some z, some ag =>
        if len * info.size ≤ 16777216 ∧ (V.ofVal1 z).cells.length = info.size ∧ info.size ≠ 0 ∧ (ag = false → info.size = 1) then
          match fillV (fun i => some (i * info.size, info.size)) ((List.range (len * info.size)).map (fun i => ((V.ofVal1 z).cells[i % info.size]?).getD (.val undef))) parts with
          | some flat => if ag || flat.all V.noAgg then (if len = 0 then some (.own info.size []) else match P.ty el with
              | some ty => if ty.size = info.size then match ty.decs (mkElems ag info.size len flat) with
                | some xs => some (.frzT ty xs)
                | none => some (.frz (mkElems ag info.size len flat))
                else some (.frz (mkElems ag info.size len flat))
              | none => some (.frz (mkElems ag info.size len flat))) else none
          | none => none
        else none
      | _, _ => none
    | none => none
  | _ => none

def evMakeSlice (t : TypeId) (n : Int) : Option (R St) :=
  match P.und t with
  | some (.slice el) => match P.inf el with
    | some info => match info.zero with
      | some z =>
        if 0 ≤ n ∧ n * info.bytes ≤ 140737488355328 ∧ 1 ≤ info.bytes ∧ (V.ofVal1 z).cells.length = info.size ∧ info.size ≠ 0 then
          match P.ty el with
          | some ty => match ty.dec (V.ofVal1 z) with
            | some x => if ty.size = info.size then some (.ownT ty (List.replicate n.toNat x)) else none
            | none => some (.own info.size (List.replicate n.toNat (V.ofVal1 z)))
          | none => some (.own info.size (List.replicate n.toNat (V.ofVal1 z)))
        else none
      | none => none
    | none => none
  | _ => none

def callRes (view : Bool) : Option (St × RV) → Option (R St)
  | some (st, r) => if view && !r.plain then none else some (.call st view r)
  | none => none

def evCall (c : Call) (o : Oper) : Option (R St) :=
  match c.callee with
  | .builtin .len => match c.args[0]? with
    | some x => match evLen (evx G e x) with
      | some r => match c.argTypes[0]? with
        | some t => match P.und t with
          | some (.slice _) => if c.args.size = 1 then some r else none
          | _ => none
        | none => none
      | none => evFlat P G e o
    | none => none
  | .builtin _ => evFlat P G e o
  | .invoke _ _ => none
  | .value f => match evx G e f, argsV G e c.args.toList with
    | .p (.clo g caps), some ds => callRes (c.args.toList.any (fun x => (evx G e x).isView)) (S g e.st (ds ++ caps))
    | _, _ => none

def T.thereS : T → Bool
  | .p (.sl (_ :: _)) | .ow _ _ _ | .p (.tl _ (_ :: _)) => true
  | _ => false

/-- A slice that is there against the literal nil. -/
def evNil (op : BinOp) (t : TypeId) (x y : T) : Option (R St) :=
  if x.thereS then match y with
    | .p (.val (.slice none _ _)) => match op with
      | .eql => match P.und t with
        | some (.slice _) => some (.ret (.p (.val (.bool false))))
        | _ => none
      | .neq => match P.und t with
        | some (.slice _) => some (.ret (.p (.val (.bool true))))
        | _ => none
      | _ => none
    | _ => none
  else none

/-- Fields, one after the other. -/
def eqFs (eq : TypeId → V → V → Option Bool) (xs ys : List V) : List Field → Option Bool
  | [] => some true
  | f :: r => if f.name = "_" then none else
    match partV P f.type xs f.offset, partV P f.type ys f.offset with
    | some a, some b => match eq f.type a b, eqFs eq xs ys r with
      | some c, some c' => some (c && c')
      | _, _ => none
    | _, _ => none

/-- Equality of pure data. -/
def eqV : Nat → TypeId → V → V → Option Bool
  | 0, _, _, _ => none
  | d + 1, t, x, y => match P.und t with
    | some .bool => match x, y with
      | .val (.bool a), .val (.bool b) => some (a == b)
      | _, _ => none
    | some (.int _) => match x, y with
      | .val (.int k a), .val (.int k' b) => if k = k' then some (a == b) else none
      | _, _ => none
    | some .string => match x, y with
      | .val (.string a), .val (.string b) => some (a == b)
      | _, _ => none
    | some (.struct fs) => match x, y with
      | .agg xs, .agg ys => if P.P.stoodInHeld t = false then eqFs P (eqV d) xs ys fs.toList else none
      | _, _ => none
    | _ => none

def evEq (op : BinOp) (t : TypeId) (x y : T) : Option (R St) :=
  match x, y with
  | .p (.agg xs), .p (.agg ys) => match op with
    | .eql => if P.P.eqGuardType P.P.depth t = false then (eqV P 10000 t (.agg xs) (.agg ys)).map (fun b => .ret (.p (.val (.bool b)))) else none
    | .neq => if P.P.eqGuardType P.P.depth t = false then (eqV P 10000 t (.agg xs) (.agg ys)).map (fun b => .ret (.p (.val (.bool (!b))))) else none
    | _ => none
  | _, _ => none

def evQ (o : Oper) : Option (R St) :=
  match o.op with
  | .move x => some (.ret (evx G e x))
  | .assign x => some (.ret (evx G e x))
  | .field t x i => match evx G e x with
    | .p (.agg cs) => evField P t cs i
    | _ => none
  | .extract x i => match evx G e x with
    | .p (.tup vs) => (vs[i]?).map (fun d => .ret (.p d))
    | _ => none
  | .load t x => evLoad P e t (evx G e x)
  | .box _ x => match evx G e x with
    | .p d => if d.leafy then some (.var (d.cells.map .p)) else none
    | .dead => none
    | y => some (.var [y])
  | .alloc t => match (P.inf t).bind (·.zero) with
    | some z => some (.var ((V.ofVal1 z).cells.map .p))
    | none => none
  | .fieldAddr t x i => evFieldAddr P t i (evx G e x)
  | .indexAddr t x ix => match evx G e ix with
    | .p (.val (.int _ i)) => evIndexAddr P t (evx G e x) i
    | _ => none
  | .slice t x lo hi mx => match evx G e x with
    | .p (.sl es) => evSlice P t es (lo.map (evx G e)) (hi.map (evx G e)) (mx.map (evx G e))
    | .p (.tl ty xs) => evSliceT P t ty xs (lo.map (evx G e)) (hi.map (evx G e)) (mx.map (evx G e))
    | _ => evFlat P G e o
  | .nilCheck x => match evx G e x with
    | .p (.pp cs) => some (.ret (.p (.pp cs)))
    | .p (.clo f caps) => some (.ret (.p (.clo f caps)))
    | .lp s off => some (.ret (.lp s off))
    | .oe id k es i off => some (.ret (.oe id k es i off))
    | .oet id ty xs i off => some (.ret (.oet id ty xs i off))
    | _ => evFlat P G e o
  | .build t parts => match purePairs G e parts.toList with
    | some ps => evBuild P t ps
    | none => none
  | .buildSlice t n parts => match purePairs G e parts.toList with
    | some ps => evBuildSlice P t n ps
    | none => none
  | .makeSlice t l c => match evx G e l, evx G e c with
    | .p (.val (.int .i64 n)), .p (.val (.int .i64 m)) => if n = m then evMakeSlice P t n else none
    | _, _ => none
  | .makeFunc (.func f) first captured => match pureArgs G e captured.toList with
    | some ds => if first.size = 0 then some (.ret (.p (.clo f ds))) else none
    | none => none
  | .call c => evCall P G S e c o
  | .makeMap _ none => some .mk
  | .lookup t x ix ok => match evx G e x with
    | .mp _ es _ => match flatT (evx G e ix) with
      | some k => (pureIn P.P (lookIn t es k ok)).map (fun v => .ret (.p (V.ofVal v)))
      | none => none
    | _ => none
  | .binOp op t x y _ => match evNil P op t (evx G e x) (evx G e y) with
    | some r => some r
    | none => match evEq P op t (evx G e x) (evx G e y) with
      | some r => some r
      | none => evFlat P G e o
  | .unOp _ _ _ | .convert _ _ _ | .pick _ _ _ | .index _ _ _ => evFlat P G e o
  | _ => none
end

end Go.Ve
