/-
  Functions out of code, part 3: regions.
  Functions out of code, part 4: joins, loops, statements.
-/
import Derived.Test.YtcnlcmbchljpgaaGreatQt8
set_option linter.unusedVariables false
namespace Go.Ve
open Go
section
variable {Γ : Sig} {ρ : Type} (P : jC) (G : Nat → Option (List V)) (S : zR Γ)
def zSp (e : Env Γ.St) (dst : Option Tmp) (c : Call) : Option (Kex Γ ρ) :=
 match c.callee, c.args.toList, c.argTypes.toList, dst with
 | .builtin .append, [.tmp p, x1], [t0, t1], some d =>
  match e.get p with
  | .ov id t' xs 0 hi => match P.und t0, P.und t1 with
   | some (.slice el), some (.slice _) => match P.inf el with
    | some info => match info.zero, zSI (evx G e x1) with
     | some z, some ⟨t, y :: ys⟩ =>
      if zWg p x1 = false then none else
      if h : t' = t then
       if t.size = info.size ∧ 1 ≤ info.bytes ∧ zMq z = info.size ∧ id ≠ jL then
        some (fun K => Option.bind (app info.bytes (List.take hi (h ▸ xs)) (y :: ys)) fun zs => K { (e.kill id) with tm := (e.kill id).tm.set d (.ot id t zs) })
       else none
      else none
     | _, _ => none
    | none => none
   | _, _ => none
  | _ => none
 | _, _, _, _ => none
def wX (e : Env Γ.St) (o : Oper) : Option (Kex Γ ρ) :=
 match o.op with
 | .store t ap x => match o.dst with
  | some _ => none
  | none => match evx G e ap, evx G e x with
   | .oet id ty xs i off, .p d =>
    if jR P t = some d.cells.length ∧ off + d.cells.length ≤ ty.size ∧ d.cells.all V.one = true ∧ (ty.aggT = false → d.cells.length = 1 ∧ ty.size = 1) then
     some (fun K => Option.bind (atN xs i) fun y => match zWe ty y off d with
      | some z => K (e.mapT (zFF id ty i z))
      | none => none)
    else none
   | _, _ => none
 | .call c => match zSp P G e o.dst c with
  | some q => some q
  | none => match c.callee, c.args.toList, c.argTypes.toList, o.dst with
  | .builtin .append, [x0, x1], [t0, t1], some d => match P.und t0, P.und t1 with
   | some (.slice el), some (.slice _) => match P.inf el with
    | some info => match info.zero, zSI (evx G e x1) with
     | some z, some ⟨t, ys⟩ => match zR0 t (evx G e x0) with
      | some (nm, xs) =>
       if t.size = info.size ∧ 1 ≤ info.bytes ∧ zMq z = info.size ∧ nm.getD d ≠ jL then
        some (fun K => Option.bind (app info.bytes xs ys) fun zs =>
         K { (e.kill (nm.getD d)) with tm := (e.kill (nm.getD d)).tm.set d (.ot (nm.getD d) t zs) })
       else none
      | none => none
     | _, _ => none
    | none => none
   | _, _ => none
  | _, _, _, _ => none
 | _ => none
def wXs (e : Env Γ.St) (o : Oper) : Option (Kex Γ ρ) :=
 match wX P G e o with
 | some q => some q
 | none => match evW P G e o with
  | some e1 => some (fun K => K e1)
  | none => none
def zH0 (e : Env Γ.St) (o : Oper) : Option (Kex Γ ρ) :=
 match qXs P G S e o with
 | some q => some (fun K => q (fun r => match xH e o.dst r with
  | some e1 => K e1
  | none => none))
 | none => wXs P G e o
def zYP (e : Env Γ.St) (o : Oper) : Option (Kex Γ ρ) :=
 match o.op with
 | .call c => match c.callee, c.args.toList with
  | .value f, .tmp p :: xs => match evx G e f, e.get p, uE G e xs with
   | .p (.clo g []), .ot id t ys, some ds => match S g e.st (.bot :: .tl t ys :: ds) with
    | some cx => match cx.pl with
     | false => some (fun K => zJr (zWY (zHs id p ys.length 0 e.tm)) (Option.bind cx.m fun y => match cx.res y with
      | .p (.tup [.tl _ _, .bot]) => none
      | .p (.tup [.tl t' zs, d]) => if h : t' = t then K (zV5 e id p t (h ▸ zs) (cx.st y) o.dst d) else none
      | _ => none))
     | true => match Nat.beq id jL with
      | true => none
      | false => some (fun K => Option.bind cx.m fun y => match cx.res y with
       | .p (.tup [.tl t' zs, .bot]) => if h : t' = t then K (zV4 e id t (h ▸ zs) (cx.st y) o.dst) else none
       | _ => none)
    | none => none
   | _, _, _ => none
  | _, _ => none
 | _ => none
def zY2 (tys : List TypeId) (k : Nat) : Option Ty :=
 match tys[k]? with
 | some tp => match P.und tp with
  | some (.pointer el) => P.ty el
  | _ => none
 | none => none
def zYr (e : Env Γ.St) (o : Oper) : Option (Kex Γ ρ) :=
 match o.op with
 | .call c => match c.callee with
  | .value f => match evx G e f, zHR G e c.args.toList with
   | .p (.clo g []), some (k, s, xs) => match uE G e xs, e.var s, zY2 P c.argTypes.toList k with
    | some ds, some cs, some t => match zH2 cs with
     | some vs => match t.dec (.agg vs) with
      | some y => match S g e.st (.bot :: .tl t [y] :: .bot :: .val (.int .i64 (k : Int)) :: ds) with
       | some cx => match cx.pl with
        | false => some (fun K => Option.bind cx.m fun u => match cx.res u with
         | .p (.tup [.tl t' [z], d]) => if h : t' = t then K (zV3 e s t (h ▸ z) (cx.st u) o.dst d) else none
         | _ => none)
        | true => none
       | none => none
      | none => none
     | none => none
    | _, _, _ => none
   | _, _ => none
  | _ => none
 | _ => none
def zZc : Option (Nat × Nat × List Operand) → Nat
 | some (_, s, _) => 2 ^ (2 * s + 1)
 | none => 0
def zHI (e : Env Γ.St) (o : Oper) : Nat :=
 j1 G e o ||| match o.op with
 | .call c => zZc (zHR G e c.args.toList)
 | _ => 0
def zPT (e : Env Γ.St) (o : Oper) : Option (Kex Γ ρ) :=
 match zH0 P G S e o with
 | some q => some q
 | none => match zYP G S e o with
  | some q => some q
  | none => zYr P G S e o
def zWX (e : Env Γ.St) (lg : Nat) (o : Oper) (K : Env Γ.St → Nat → Option ρ) : Option ρ :=
 match zPT P G S e o with
 | some q => q (fun e1 => K e1 (lg ||| zHI G e o))
 | none => match zPT P G S (frzOps G (zNs o) e) o with
  | some q => q (fun e1 => K e1 (lg ||| (zMu G (zNs o) e ||| zHI G (frzOps G (zNs o) e) o)))
  | none => none
def zVH (ops : Array Oper) (e : Env Γ.St) (lg : Nat) (o : Oper) (K : Env Γ.St → Nat → Option ρ) : Option ρ :=
 match o.guard with
 | none => zWX P G S e lg o K
 | some (j, want) => match (ops[j]?).bind (·.dst) with
  | none => K (e.put o.dst (.p (.val undef))) (lg ||| zBZ o.dst)
  | some t => match e.get t with
   | .p (.val (.bool b)) => if t < e.tm.length then
     cond b (match want with
      | true => zIc t (e.lit t true) (fun e => zWX P G S e lg o K)
      | false => K ((e.lit t true).put o.dst (.p (.val undef))) (lg ||| zBZ o.dst))
     (match want with
      | true => K ((e.lit t false).put o.dst (.p (.val undef))) (lg ||| zBZ o.dst)
      | false => zIc t (e.lit t false) (fun e => zWX P G S e lg o K))
    else none
   | .p (.val (.tuple _)) => K (e.put o.dst (.p (.val undef))) (lg ||| zBZ o.dst)
   | _ => none
def seqX (ops : Array Oper) : List Oper → Env Γ.St → Nat → (Env Γ.St → Nat → Option ρ) → Option ρ
 | [], e, lg, K => K e lg
 | o :: rest, e, lg, K => zVH P G S ops e lg o (fun e1 lg => kOp o e1 (fun e1 => seqX ops rest e1 lg K))
def zCs (e : Env Γ.St) (lg : Nat) (o : Oper) (K : Env Γ.St → Nat → Option ρ) : Option ρ :=
 match qXs P G S e o with
 | some q => q (fun r => match zGs e o.dst r with
  | some e1 => K e1 (lg ||| zBZ o.dst)
  | none => none)
 | none => none
def xU (ops : Array Oper) : List Oper → Env Γ.St → Nat → (Env Γ.St → Nat → Option ρ) → Option ρ
 | [], e, lg, K => K e lg
 | o :: rest, e, lg, K =>
  match o.guard with
  | none => if zKk G (z6 (o :: rest)) e o then zCs P G S e lg o (fun e1 lg => kOp o e1 (fun e1 => xU ops rest e1 lg K)) else none
  | some (j, want) => match (ops[j]?).bind (·.dst) with
   | none => zIc (o.dst.getD 0) (e.put o.dst (.p (.val undef))) (fun e1 => xU ops rest e1 (lg ||| zBZ o.dst) K)
   | some t => match e.get t with
    | .p (.val (.bool b)) => if t < e.tm.length then
      cond b (match want with
       | true => zIc t (e.lit t true) (fun e => if zKk G (z6 (o :: rest)) e o then zCs P G S e lg o (fun e1 lg => kOp o e1 (fun e1 => xU ops rest e1 lg K)) else none)
       | false => zIc (o.dst.getD 0) ((e.lit t true).put o.dst (.p (.val undef))) (fun e1 => xU ops rest e1 (lg ||| zBZ o.dst) K))
      (match want with
       | true => zIc (o.dst.getD 0) ((e.lit t false).put o.dst (.p (.val undef))) (fun e1 => xU ops rest e1 (lg ||| zBZ o.dst) K)
       | false => zIc t (e.lit t false) (fun e => if zKk G (z6 (o :: rest)) e o then zCs P G S e lg o (fun e1 lg => kOp o e1 (fun e1 => xU ops rest e1 lg K)) else none))
     else none
    | .p (.val (.tuple _)) => zIc (o.dst.getD 0) (e.put o.dst (.p (.val undef))) (fun e1 => xU ops rest e1 (lg ||| zBZ o.dst) K)
    | _ => none
def zSg : List Nat → Nat
 | [] => 0
 | d :: r => 2 ^ (2 * d) ||| zSg r
def zNV (ops : Array Oper) (k : Nat) (e : Env Γ.St) (lg : Nat) (K : Env Γ.St → Nat → Option ρ) : Option ρ :=
 if k ≤ ops.size && zFJ ops k && zEI ops k && zK2 (ops.extract 0 k) then
  zCO (killAll (z6 (ops.extract 0 k).toList) e) (fun e => xU P G S (ops.extract 0 k) (ops.extract 0 k).toList e (lg ||| zSg (z6 (ops.extract 0 k).toList))
   (fun e1 lg => seqX P G S ops (ops.toList.drop k) e1 lg K))
 else none
def zWN (ops : Array Oper) (e : Env Γ.St) (lg : Nat) (K : Env Γ.St → Nat → Option ρ) : Option ρ := zNV P G S ops (zBw ops.toList) e lg K
def zS2 : T → Bool
 | .p _ => true
 | .lp _ _ => true
 | _ => false
def zTe {St : Type} (ops : Array Oper) (e1 : Env St) : List Nat → Option (List Fl)
 | [] => some []
 | i :: r => match ops[i]? with
  | some o => match o.dst with
   | some d => match zS2 (e1.get d) with
    | true => (zTe ops e1 r).map (⟨i, d, .c (e1.get d)⟩ :: ·)
    | false => match o.op with
     | .move (.tmp s) => (zTe ops e1 r).map (⟨i, d, .a s⟩ :: ·)
     | _ => none
   | none => none
  | none => none
def flD (fl : List Fl) (t : Nat) : Bool := fl.any (fun q => Nat.beq q.d t)
def flC (fl : List Fl) (t : Nat) : Bool := fl.any (fun q => Nat.beq q.d t && (match q.v with
 | .c _ => true
 | .a _ => false))
def zRN (n : Nat) : List Fl → Bool
 | [] => true
 | q :: r => !flD r q.d && Nat.blt q.d n && zRN n r
def zWz (fl : List Fl) : Bool := fl.all (fun q => match q.v with
 | .c _ => true
 | .a s => !flD fl s)
def noD (d : Nat) : T → Bool
 | .ow i _ _ => !Nat.beq i d
 | .oe i _ _ _ _ => !Nat.beq i d
 | .lp s _ => !Nat.beq s d
 | .mp i _ _ => !Nat.beq i d
 | .ot i _ _ => !Nat.beq i d
 | .oet i _ _ _ _ => !Nat.beq i d
 | .ov i _ _ _ _ => !Nat.beq i d
 | _ => true
def zX9 {St : Type} (d : Nat) (e : Env St) : Bool :=
 e.tm.all (noD d) && e.vars.all (fun c => match c with
  | some cs => cs.all (noD d)
  | none => true) && (e.var d).isNone && Nat.blt d e.vars.length
def zWa {St : Type} (fl : List Fl) (m : Nat) (e1 : Env St) : Operand → Bool
 | .tmp t => (flC fl t || (!flD fl t && !Nat.testBit m (2 * t))) && (match e1.get t with
  | .p _ => true
  | .lp s _ => !Nat.testBit m (2 * s) && (match e1.var s with
   | some cs => cs.all (fun x => match x with | .p _ => true | _ => false) && !Nat.testBit m (2 * s + 1)
   | none => false)
  | _ => false)
 | _ => true
def zXv {St : Type} (ops : Array Oper) (fl : List Fl) (m : Nat) (e1 b : Env St) (q : Fl) : Bool :=
 match ops[q.i]? with
 | some o => match q.v with
  | .a s => match o.op with
   | .move (.tmp s') => Nat.beq s' s
   | _ => false
  | .c _ => o.op.operands.toList.all (zWa fl m e1) && zX9 q.d b && fl.all (fun r => match r.v with
   | .c x => noD q.d x
   | .a _ => true)
 | none => false
def zSF (m : Nat) (dst : Option Nat) (q : Fl) : Bool :=
 (match dst with
  | some d => !Nat.beq d q.d
  | none => true) && (match q.v with
  | .c (.p _) => true
  | .c (.lp s _) => !Nat.testBit m (2 * s)
  | .c _ => false
  | .a s => match dst with
   | some d => !Nat.beq d s
   | none => true)
def zZp (fl : List Fl) (A : Fl → Bool) (o : Oper) : Bool :=
 o.op.operands.toList.all (fun x => match x with
  | .tmp t => fl.all (fun q => !Nat.beq q.d t || A q)
  | _ => true)
def zBk : List Fl → Nat
 | [] => 0
 | q :: r => 2 ^ (2 * q.d) ||| zBk r
def zTJ (anc : Array Nat) (c : Nat) (q : Fl) : Bool := (anc.getD c 0).testBit q.i && decide (q.i < c)
def zSM (e : Env Γ.St) (o : Oper) : Option (Kex Γ ρ) :=
 match zH0 P G S e o with
 | some q => some q
 | none => match zGN o with
  | true => zH0 P G S (zRI G o e) o
  | false => none
def zGq (ops : Array Oper) (anc : Array Nat) (fl : List Fl) (e1 : Env Γ.St) : List Nat → Env Γ.St → Nat → (Env Γ.St → Nat → Option ρ) → Option ρ
 | [], b, m, K => zCO (jK b fl) (fun e => K e (m ||| zBk fl))
 | c :: rest, b, m, K => match ops[c]? with
  | some o => zCO (jK b (fl.filter (zTJ anc c))) (fun bA => match zZp fl (zTJ anc c) o && fl.all (zSF (j1 G bA o) o.dst) with
   | true => match zSM P G S bA o with
    | some q => q (fun b1 => kOp o b1 (fun b1 => match fl.all (fun q => zTJ anc c q || zXv ops fl (m ||| (zBk fl ||| j1 G bA o)) e1 b1 q) with
     | true => zGq ops anc fl e1 rest b1 (m ||| (zBk fl ||| j1 G bA o)) K
     | false => none))
    | none => none
   | false => none)
  | none => none
def zTD (ops : Array Oper) (Cm Um : Nat) (e : Env Γ.St) (lg : Nat) (K : Env Γ.St → Nat → Option ρ) : Option ρ :=
 if zYO ops (Region.before ops) Cm Um then
  zCO (killAll (z6 (wK ops Cm).toList) e) (fun e => xU P G S (wK ops Cm) (wK ops Cm).toList e (lg ||| zSg (z6 (wK ops Cm).toList))
   (fun e1 lg => match zTe ops e1 ((List.range ops.size).filter (fun i => Nat.testBit Um i && !Nat.testBit Cm i)) with
    | some fl => match zRN e1.tm.length fl && zWz fl && fl.all (fun q => (e1.var q.d).isNone) && fl.all (zXv ops fl (zBk fl) e1 (zDv e1 fl)) with
     | true => zCO (zDv e1 fl) (fun b => zGq P G S ops (Region.before ops) fl e1 ((List.range ops.size).filter (fun i => Nat.testBit Cm i)) b (zBk fl) (fun e2 m => K e2 (lg ||| m)))
     | false => none
    | none => none))
 else none
def zUG : List (Nat × Nat × Nat) → Env Γ.St → (Env Γ.St → Option ρ) → Option ρ
 | [], e, K => K e
 | (a, b, n) :: r, e, K => match n with
  | 1 => match zYv b e && (!Nat.beq a jL && !Nat.beq b jL) with
   | true => zCO (e.mapT (zSO a b)) (fun e => zUG r e K)
   | false => none
  | 2 => zCO (frzOE a e) (fun e => zUG r e K)
  | _ => zUG r e K
def zUc : List (Nat × Nat × Nat) → List Operand
 | [] => []
 | (t, _, n) :: r => match n with
  | 0 => .tmp t :: zUc r
  | _ => zUc r
def zRi (ops : Array Oper) (d : Bool) (fz : Option (List (Nat × Nat × Nat))) (e : Env Γ.St) (lg : Nat) (K : Env Γ.St → Nat → Option ρ) : Option ρ :=
 match d with
 | false => seqX P G S ops ops.toList e lg K
 | true => match fz with
  | none => zWN P G S ops e lg K
  | some [] => zCO (frzOps G (xW ops.toList) e) (fun e1 => zWN P G S ops e1 (lg ||| zMu G (xW ops.toList) e) K)
  | some ((Cm, Um, n) :: ts) => match n with
   | 9 => zWN P G S ops e lg K
   | 8 => zNV P G S ops Cm e lg K
   | _ => zCO (frzOps G (zUc ts) e) (fun e1 => zTD P G S ops Cm Um e1 (lg ||| zMu G (zUc ts) e) K)
def zXs (ops : Array Oper) (d : Bool) (fz : Option (List (Nat × Nat × Nat))) (e : Env Γ.St) (lg : Nat) (K : Env Γ.St → Nat → Option ρ) : Option ρ :=
 match fz with
 | none => zRi P G S ops d fz e lg K
 | some [] => zRi P G S ops d fz e lg K
 | some (x :: ts) => zRi P G S ops d fz e lg (fun e1 lg1 => zUG ts e1 (fun e2 => K e2 lg1))
end
section
variable {Γ : Sig} {ρ : Type} {P : Program} {G : Nat → Option (List V)} {S : zR Γ} {e : Env Γ.St} {o : Oper} {ops : Array Oper} {v : ρ}
theorem zSo {q : Kex Γ ρ} {K : Env Γ.St → Option ρ} {dst : Option Tmp} {c : Call} (h : zSp P G e dst c = some q) (hK : q K = some v) : ∃ e1, vC P G e dst c = some e1 ∧ K e1 = some v := by
 unfold zSp at h
 split at h
 ·rename_i p x1 t0 t1 d hcal hargs htys
  split at h
  ·rename_i id t' xs hi qR
   split at h
   ·rename_i el el1 hu0 hu1
    split at h
    ·rename_i info hinfo
     split at h
     ·rename_i z t y ys hz hsrc
      split at h
      ·cases h
      ·rename_i hne
       split at h
       ·rename_i htt
        subst htt
        split at h
        ·rename_i hok
         simp only [Option.some.injEq] at h
         subst h
         obtain ⟨zs, hzs, hK⟩ := bind_some hK
         unfold app at hzs
         split at hzs
         ·rename_i hroom
          simp only [Option.some.injEq] at hzs
          subst hzs
          refine ⟨_, ?_, hK⟩
          have hu0' : P.underlying t0 = some (.slice el) := hu0
          have hu1' : P.underlying t1 = some (.slice el1) := hu1
          have hinfo' : P.info? el = some info := hinfo
          simp only [vC, hcal, hargs, htys, hu0', hu1', hinfo', hz, hsrc, qR]
          rw [if_neg hne, dif_pos trivial, if_pos hok, if_pos hroom]
         ·cases hzs
        ·cases h
       ·cases h
     ·cases h
    ·cases h
   ·cases h
  ·cases h
 ·cases h
theorem zTI {q : Kex Γ ρ} {dst : Option Tmp} {c : Call} (h : zSp P G e dst c = some q) : j9 P G e dst c = none := by
 unfold zSp at h
 split at h
 ·rename_i p x1 t0 t1 d hcal hargs htys
  split at h
  ·rename_i id t' xs hi qR
   unfold j9
   simp only [hcal, hargs, htys]
   repeat' split
   all_goals first | rfl | skip
   all_goals (rename_i hdst _ _; simp only [evx, qR, zR0] at hdst; cases hdst)
  ·cases h
 ·cases h
theorem zVx {q : Kex Γ ρ} {K : Env Γ.St → Option ρ} (h : wX P G e o = some q) (hK : q K = some v) : ∃ e1, evW P G e o = some e1 ∧ K e1 = some v := by
 obtain ⟨dst, op, type, pos, after, guard⟩ := o
 cases op <;> simp only [wX, reduceCtorEq] at h
 case store t ap x =>
  split at h
  ·cases h
  ·rename_i hd
   split at h
   ·rename_i id ty xs i off d hp hx
    split at h
    ·rename_i hcond
     simp only [Option.some.injEq] at h
     subst h
     obtain ⟨y, hg, h3⟩ := bind_some hK
     unfold atN at hg
     split at h3
     ·rename_i z hz
      refine ⟨_, ?_, h3⟩
      simp only [evW, hp, hx, zCT]
      rw [if_pos hcond]
      simp only [hg, hz]
     ·cases h3
    ·cases h
   ·cases h
 case call c =>
  split at h
  ·rename_i q' hq
   simp only [Option.some.injEq] at h
   subst h
   obtain ⟨e1, h1, h2⟩ := zSo hq hK
   refine ⟨e1, ?_, h2⟩
   simp only [evW, zTI hq, h1]
  ·split at h
   ·rename_i x0 x1 t0 t1 d hcal hargs htys _
    split at h
    ·rename_i el el1 hu0 hu1
     split at h
     ·rename_i info hinfo
      split at h
      ·rename_i z t ys hz hsrc
       split at h
       ·rename_i nm xs hdst
        split at h
        ·rename_i hok
         simp only [Option.some.injEq] at h
         subst h
         obtain ⟨zs, hzs, hK⟩ := bind_some hK
         unfold app at hzs
         split at hzs
         ·rename_i hroom
          simp only [Option.some.injEq] at hzs
          subst hzs
          refine ⟨_, ?_, hK⟩
          have hu0' : P.underlying t0 = some (.slice el) := hu0
          have hu1' : P.underlying t1 = some (.slice el1) := hu1
          have hinfo' : P.info? el = some info := hinfo
          simp only [evW, j9, hcal, hargs, htys, hu0', hu1', hinfo', hz, hsrc, hdst]
          rw [if_pos hok, if_pos hroom]
         ·cases hzs
        ·cases h
       ·cases h
      ·cases h
     ·cases h
    ·cases h
   ·cases h
theorem zOO {q : Kex Γ ρ} {K : Env Γ.St → Option ρ} (h : wXs P G e o = some q) (hK : q K = some v) : ∃ e1, evW P G e o = some e1 ∧ K e1 = some v := by
 unfold wXs at h
 split at h
 ·rename_i q' hq
  simp only [Option.some.injEq] at h; subst h
  exact zVx hq hK
 ·split at h
  ·rename_i r hr
   simp only [Option.some.injEq] at h; subst h
   exact ⟨r, hr, hK⟩
  ·cases h
theorem zPR (hS : qG Γ P G S.toS) {q : Kex Γ ρ} {K : Env Γ.St → Option ρ} (h : zH0 P G S e o = some q) (hK : q K = some v) :
  ∃ e1, zTR P G e o e1 ∧ zW (j1 G e o) e e1 ∧ K e1 = some v := by
 unfold zH0 at h
 split at h
 ·rename_i q' hq
  simp only [Option.some.injEq] at h; subst h
  obtain ⟨r, hr, hk⟩ := zKj hq hK
  split at hk
  ·rename_i e1 he1
   refine ⟨e1, fun w0 F0 O0 a w Q hi => zGe (P := P) hS hi ?_, ?_, hk⟩
   ·simp only [zHe, hr, he1]
   ·refine (zJ2 he1).mono ?_
    intro t ht
    simp only [j1, vK] at ht
    exact ht.1
  ·cases hk
 ·obtain ⟨e1, h1, h2⟩ := zOO h hK
  exact ⟨e1, fun w0 F0 O0 a w Q hi => zMl hi h1, zPA h1, h2⟩
theorem zTM (e : Env Γ.St) (id p : Nat) (t : Ty) (ys zs : List t.El) (st : Γ.St) (dst : Option Tmp) (d : V) (hp : e.get p = .ot id t ys) : zW (zBZ dst) e (zV5 e id p t zs st dst d) := by
 have hg : ∀ t', t' ≠ p → (⟨(e.tm.map (zHF id t zs)).set p (.ot id t zs), e.vars.map (fun c => c.map (List.map (qM id))), st⟩ : Env Γ.St).get t' = zHF id t zs (e.get t') := by
  intro t' hne
  simp only [Env.get, List.getD_eq_getElem?_getD]
  rw [List.getElem?_set_ne (Ne.symm hne), List.getElem?_map]
  cases e.tm[t']? with
  | none => simp [zHF, qM]
  | some x => rfl
 have h1 : zW 0 e (⟨(e.tm.map (zHF id t zs)).set p (.ot id t zs), e.vars.map (fun c => c.map (List.map (qM id))), st⟩ : Env Γ.St) := by
  refine ⟨by simp, by simp, ?_, ?_, ?_⟩
  ·intro t' d' ht' hx
   have hne : t' ≠ p := fun h => by rw [h, hp] at hx; cases hx
   rw [hg t' hne, hx]; rfl
  ·intro t' s off _ _ hx
   have hne : t' ≠ p := fun h => by rw [h, hp] at hx; cases hx
   rw [hg t' hne, hx]; rfl
  ·intro s ds _ _ hx
   have h2 : (⟨(e.tm.map (zHF id t zs)).set p (.ot id t zs), e.vars.map (fun c => c.map (List.map (qM id))), st⟩ : Env Γ.St).var s = (e.mapT (qM id)).var s := rfl
   rw [h2, jA, hx]
   simp [qM, Function.comp_def]
 exact (h1.mono (fun t' _ => by simp)).same (xX _ dst _)
theorem zTL (e : Env Γ.St) (id : Nat) (t : Ty) (zs : List t.El) (st : Γ.St) (dst : Option Tmp) : zW (zBZ dst) e (zV4 e id t zs st dst) := by
 have hg : ∀ t', (⟨e.tm.map (qM id), e.vars.map (fun c => c.map (List.map (qM id))), st⟩ : Env Γ.St).get t' = qM id (e.get t') := jV (f := qM id) rfl e
 have h1 : zW 0 e (⟨e.tm.map (qM id), e.vars.map (fun c => c.map (List.map (qM id))), st⟩ : Env Γ.St) := by
  refine ⟨by simp, by simp, ?_, ?_, ?_⟩
  ·intro t' d' ht' hx
   rw [hg t', hx]; rfl
  ·intro t' s off _ _ hx
   rw [hg t', hx]; rfl
  ·intro s ds _ _ hx
   have h2 : (⟨e.tm.map (qM id), e.vars.map (fun c => c.map (List.map (qM id))), st⟩ : Env Γ.St).var s = (e.mapT (qM id)).var s := rfl
   rw [h2, jA, hx]
   simp [qM, Function.comp_def]
 exact (h1.mono (fun t' _ => by simp)).same (xX _ dst _)
theorem zTE (hS : qG Γ P G S.toS) {q : Kex Γ ρ} {K : Env Γ.St → Option ρ} (h : zYP G S e o = some q) (hK : q K = some v) :
  ∃ e1, zTR P G e o e1 ∧ zW (j1 G e o) e e1 ∧ K e1 = some v := by
 obtain ⟨dst, op, type, pos, after, guard⟩ := o
 unfold zYP at h
 split at h
 ·rename_i c hop
  subst hop
  split at h
  ·rename_i f p xs hcal hargs
   split at h
   ·rename_i g id t ys ds hf hp hxs
    split at h
    ·rename_i cx hcx
     split at h
     ·simp only [Option.some.injEq] at h
      subst h
      obtain ⟨hlens, hK⟩ := uH.1 hK
      obtain ⟨y, hy, hK⟩ := bind_some hK
      split at hK
      ·cases hK
      ·rename_i t' zs d hdb hres
       split at hK
       ·rename_i ht
        subst ht
        refine ⟨_, fun w0 F0 O0 a w Q hi => zXS hS hi hcal hf hargs hp hxs hlens hdb (by rw [zII hcx hy, hres]), ?_, hK⟩
        refine (zTM e id p t' ys zs _ dst d hp).mono ?_
        intro b hb
        simp only [j1, vK] at hb
        exact hb.1
       ·cases hK
      ·cases hK
     ·split at h
      ·cases h
      ·rename_i hid
       have hid : id ≠ jL := fun hh => by rw [hh, Nat.beq_refl] at hid; cases hid
       simp only [Option.some.injEq] at h
       subst h
       obtain ⟨y, hy, hK⟩ := bind_some hK
       split at hK
       ·rename_i t' zs hres
        split at hK
        ·rename_i ht
         subst ht
         refine ⟨_, fun w0 F0 O0 a w Q hi => zWi hS hi hcal hf hargs hp hxs hid (by rw [zII hcx hy, hres]), ?_, hK⟩
         refine (zTL e id t' zs _ dst).mono ?_
         intro b hb
         simp only [j1, vK] at hb
         exact hb.1
        ·cases hK
       ·cases hK
    ·cases h
   ·cases h
  ·cases h
 ·cases h
theorem zTK (e : Env Γ.St) (s : Nat) (t : Ty) (z : t.El) (st : Γ.St) (dst : Option Tmp) (d : V) : zW (zBZ dst ||| 2 ^ (2 * s + 1)) e (zV3 e s t z st dst d) := by
 have h1 : zW (2 ^ (2 * s + 1)) e (⟨e.tm, e.vars.set s (some ((t.cells z).map T.p)), st⟩ : Env Γ.St) :=
  (zOa s _ e).same ((zJ1 st _).mono (fun t _ => by simp))
 refine (h1.trans (xX _ dst (.p d))).mono ?_
 intro b hb
 simp only [vK] at hb ⊢
 exact ⟨hb.2, hb.1⟩
theorem zSQ (hS : qG Γ P G S.toS) {q : Kex Γ ρ} {K : Env Γ.St → Option ρ} (h : zYr P G S e o = some q) (hK : q K = some v) :
  ∃ e1, zTR P G e o e1 ∧ zW (zHI G e o) e e1 ∧ K e1 = some v := by
 obtain ⟨dst, op, type, pos, after, guard⟩ := o
 unfold zYr at h
 split at h
 ·rename_i c hop
  subst hop
  split at h
  ·rename_i f hcal
   split at h
   ·rename_i g k s xs hf hspl
    split at h
    ·rename_i ds cs t hxs hcs hty
     split at h
     ·rename_i vs hvs
      split at h
      ·rename_i y hy
       split at h
       ·rename_i cx hcx
        split at h
        ·simp only [Option.some.injEq] at h
         subst h
         obtain ⟨u, hu, hK⟩ := bind_some hK
         split at hK
         ·rename_i t' z d hres
          split at hK
          ·rename_i ht
           subst ht
           refine ⟨_, fun w0 F0 O0 a w Q hi => zXu hS hi hcal hf hspl hxs hcs hvs hy (by rw [zII hcx hu, hres]), ?_, hK⟩
           refine (zTK e s t' z _ dst d).mono ?_
           intro b hb
           simp only [zHI, j1, vK, hspl, zZc] at hb
           rw [vK]
           exact ⟨hb.1.1, hb.2⟩
          ·cases hK
         ·cases hK
        ·cases h
       ·cases h
      ·cases h
     ·cases h
    ·cases h
   ·cases h
  ·cases h
 ·cases h
theorem zI0 (hS : qG Γ P G S.toS) {q : Kex Γ ρ} {K : Env Γ.St → Option ρ} (h : zPT P G S e o = some q) (hK : q K = some v) :
  ∃ e1, zTR P G e o e1 ∧ zW (zHI G e o) e e1 ∧ K e1 = some v := by
 have hm : ∀ b, (zHI G e o).testBit b = false → (j1 G e o).testBit b = false := fun b hb => by
  unfold zHI at hb
  rw [vK] at hb
  exact hb.1
 unfold zPT at h
 split at h
 ·rename_i q' hq
  simp only [Option.some.injEq] at h; subst h
  obtain ⟨e1, h1, h2, h3⟩ := zPR hS hq hK
  exact ⟨e1, h1, h2.mono hm, h3⟩
 ·split at h
  ·rename_i q' hq
   simp only [Option.some.injEq] at h; subst h
   obtain ⟨e1, h1, h2, h3⟩ := zTE hS hq hK
   exact ⟨e1, h1, h2.mono hm, h3⟩
  ·exact zSQ hS h hK
theorem zIv (hS : qG Γ P G S.toS) {lg : Nat} {K : Env Γ.St → Nat → Option ρ} (h : zWX P G S e lg o K = some v) :
  ∃ e1 d, zTR P G e o e1 ∧ zW d e e1 ∧ K e1 (lg ||| d) = some v := by
 unfold zWX at h
 split at h
 ·rename_i q hq
  obtain ⟨e1, h1, h2, h3⟩ := zI0 hS hq h
  exact ⟨e1, _, h1, h2, h3⟩
 ·split at h
  ·rename_i q hq
   obtain ⟨e1, h1, h2, h3⟩ := zI0 hS hq h
   exact ⟨e1, _, fun w0 F0 O0 a w Q hi => h1 w0 F0 O0 a w Q (Inv.frzOps _ _ hi), (zEW _ e).trans h2, h3⟩
  ·cases h
theorem zQ1 (hS : qG Γ P G S.toS) {lg : Nat} {K : Env Γ.St → Nat → Option ρ} (h : zVH P G S ops e lg o K = some v) :
  ∃ e1 d, zUp P G ops e o e1 ∧ zW d e e1 ∧ K e1 (lg ||| d) = some v := by
 unfold zVH at h
 split at h
 ·rename_i hg
  obtain ⟨e1, d, h1, h2, h3⟩ := zIv hS h
  exact ⟨e1, d, .inl ⟨by simp only [jE, hg], h1⟩, h2, h3⟩
 ·rename_i j want hg
  split at h
  ·rename_i hj
   exact ⟨_, _, .inr ⟨by simp only [jE, hg, hj], rfl⟩, xX e o.dst _, h⟩
  ·rename_i t hj
   split at h
   ·rename_i b hb
    split at h
    ·rename_i hlt
     have hw : jE ops e o = some (b == want) := by simp only [jE, hg, hj, hb, hlt, if_true]
     cases b with
     | true =>
      simp only [cond_true] at h
      split at h
      ·rw [zGK, zF7 hb] at h
       obtain ⟨e1, d, h1, h2, h3⟩ := zIv hS h
       exact ⟨e1, d, .inl ⟨hw, h1⟩, h2, h3⟩
      ·rw [zF7 hb] at h
       exact ⟨_, _, .inr ⟨hw, rfl⟩, xX e o.dst _, h⟩
     | false =>
      simp only [cond_false] at h
      split at h
      ·rw [zF7 hb] at h
       exact ⟨_, _, .inr ⟨hw, rfl⟩, xX e o.dst _, h⟩
      ·rw [zGK, zF7 hb] at h
       obtain ⟨e1, d, h1, h2, h3⟩ := zIv hS h
       exact ⟨e1, d, .inl ⟨hw, h1⟩, h2, h3⟩
    ·cases h
   ·rename_i vs hb
    exact ⟨_, _, .inr ⟨by simp only [jE, hg, hj, hb], rfl⟩, xX e o.dst _, h⟩
   ·cases h
theorem zMI (hS : qG Γ P G S.toS) {K : Env Γ.St → Nat → Option ρ} : ∀ (l : List Oper) (e : Env Γ.St) (lg : Nat), seqX P G S ops l e lg K = some v → ∃ e' d, zQG P G ops l e e' ∧ zW d e e' ∧ K e' (lg ||| d) = some v := by
 intro l
 induction l with
 | nil => intro e lg h; exact ⟨e, 0, .nil e, zW.refl e, by rw [Nat.or_zero]; exact h⟩
 | cons o rest ih =>
  intro e lg h
  simp only [seqX] at h
  obtain ⟨e1, d, h1, h2, h3⟩ := zQ1 hS h
  rw [zS1] at h3
  obtain ⟨e', d', h4, h5, h6⟩ := ih e1 _ h3
  exact ⟨e', d ||| d', .cons h1 h4, h2.trans h5, by rw [← Nat.or_assoc]; exact h6⟩
theorem zMc {lg : Nat} {K : Env Γ.St → Nat → Option ρ} (h : zCs P G S e lg o K = some v) : ∃ r e1, evQ P G S.toS e o = some r ∧ zGs e o.dst r = some e1 ∧ K e1 (lg ||| zBZ o.dst) = some v := by
 unfold zCs at h
 split at h
 ·rename_i q hq
  obtain ⟨r, hr, hk⟩ := zKj hq h
  split at hk
  ·rename_i e1 he1; exact ⟨r, e1, hr, he1, hk⟩
  ·cases hk
 ·cases h
theorem zHy {K : Env Γ.St → Nat → Option ρ} : ∀ (l : List Oper) (e : Env Γ.St) (lg : Nat), xU P G S ops l e lg K = some v → ∃ e' d, zAx P G S.toS ops l e = some e' ∧ zW d e e' ∧ K e' (lg ||| d) = some v := by
 intro l
 induction l with
 | nil => intro e lg h; exact ⟨e, 0, rfl, zW.refl e, by rw [Nat.or_zero]; exact h⟩
 | cons o rest ih =>
  intro e lg h
  have run : ∀ e0 : Env Γ.St, e0 = e → jE ops e o = some true → (if zKk G (z6 (o :: rest)) e0 o then zCs P G S e0 lg o (fun e1 lg => kOp o e1 (fun e1 => xU P G S ops rest e1 lg K)) else none) = some v →
    ∃ e' d, zAx P G S.toS ops (o :: rest) e = some e' ∧ zW d e e' ∧ K e' (lg ||| d) = some v := by
   intro e0 he0 hw hh
   subst he0
   split at hh
   ·rename_i hp
    obtain ⟨r, e1, h1, h2, h3⟩ := zMc hh
    rw [zS1] at h3
    obtain ⟨e', d, h4, h5, h6⟩ := ih e1 _ h3
    refine ⟨e', zBZ o.dst ||| d, ?_, (zQE h2).trans h5, by rw [← Nat.or_assoc]; exact h6⟩
    simp only [zAx, hw, hp, if_true, h1, h2, h4]
   ·cases hh
  have skip : ∀ e0 : Env Γ.St, e0 = e → jE ops e o = some false → zIc (o.dst.getD 0) (e0.put o.dst (.p (.val undef))) (fun e1 => xU P G S ops rest e1 (lg ||| zBZ o.dst) K) = some v →
    ∃ e' d, zAx P G S.toS ops (o :: rest) e = some e' ∧ zW d e e' ∧ K e' (lg ||| d) = some v := by
   intro e0 he0 hw hh
   subst he0
   rw [zGK] at hh
   obtain ⟨e', d, h4, h5, h6⟩ := ih _ _ hh
   refine ⟨e', zBZ o.dst ||| d, ?_, (xX _ o.dst _).trans h5, by rw [← Nat.or_assoc]; exact h6⟩
   simp only [zAx, hw, h4]
  unfold xU at h
  split at h
  ·rename_i hg; exact run e rfl (by simp only [jE, hg]) h
  ·rename_i j want hg
   split at h
   ·rename_i hj; exact skip e rfl (by simp only [jE, hg, hj]) h
   ·rename_i t hj
    split at h
    ·rename_i b hb
     split at h
     ·rename_i hlt
      have hw : jE ops e o = some (b == want) := by simp only [jE, hg, hj, hb, hlt, if_true]
      cases b with
      | true =>
       simp only [cond_true] at h
       split at h
       ·rw [zGK] at h; exact run _ (zF7 hb) hw h
       ·exact skip _ (zF7 hb) hw h
      | false =>
       simp only [cond_false] at h
       split at h
       ·exact skip _ (zF7 hb) hw h
       ·rw [zGK] at h; exact run _ (zF7 hb) hw h
     ·cases h
    ·rename_i vs hb; exact skip e rfl (by simp only [jE, hg, hj, hb]) h
    ·cases h
theorem zHB : ∀ (ds : List Nat) (e : Env Γ.St), zW (zSg ds) e (killAll ds e) := by
 intro ds
 induction ds with
 | nil => intro e; exact zW.refl e
 | cons d r ih => intro e; exact (zIy d e).trans (ih _)
theorem zQv (hmix : P.follows .mixedOrders = true) (hS : qG Γ P G S.toS) {lg : Nat} {K : Env Γ.St → Nat → Option ρ} {k : Nat} (h : zNV P G S ops k e lg K = some v) : ∃ e' d, (∀ (id : Nat) (w0 : World) (F0 : Blk → Prop) (O0 : uR) (a : Act) (w : World) (Q : Exit → Act → World → Prop),
  Inv Γ G w0 F0 O0 a w e → (∀ a w, Inv Γ G w0 F0 O0 a w e' → Q .normal a w) → (Code.region id ops true).wp P Q a w) ∧ zW d e e' ∧ K e' (lg ||| d) = some v := by
 unfold zNV at h
 split at h
 ·rename_i hc
  simp only [Bool.and_eq_true, decide_eq_true_eq] at hc
  obtain ⟨⟨⟨h1, h2⟩, h3⟩, h4⟩ := hc
  rw [kU] at h
  obtain ⟨e1, d1, h5, h6, h7⟩ := zHy _ _ _ h
  obtain ⟨e', d2, h8, h9, h10⟩ := zMI hS _ _ _ h7
  refine ⟨e', _ ||| d1 ||| d2, fun id w0 F0 O0 a w Q hi hQ => zPs hmix hS hi h1 h2 h3 (e1 := e1) ?_ h8 hQ, ((zHB _ e).trans h6).trans h9, ?_⟩
  ·unfold zIh
   rw [if_pos h4]
   exact h5
  ·rw [Nat.or_assoc, ← Nat.or_assoc, ← Nat.or_assoc]; exact h10
 ·cases h
theorem zU0 {St : Type} {e1 : Env St} : ∀ (l : List Nat) (fl : List Fl), zTe ops e1 l = some fl →
  (∀ q, q ∈ fl → q.i ∈ l ∧ ∃ o, ops[q.i]? = some o ∧ o.dst = some q.d ∧ ((zS2 (e1.get q.d) = true ∧ q.v = .c (e1.get q.d)) ∨ ∃ s, o.op = .move (.tmp s) ∧ q.v = .a s)) ∧ ∀ i, i ∈ l → ∃ q, q ∈ fl ∧ q.i = i := by
 intro l
 induction l with
 | nil => intro fl h; simp only [zTe, Option.some.injEq] at h; subst h; exact ⟨fun q hq => by simp at hq, fun i hi => by simp at hi⟩
 | cons i r ih =>
  intro fl h
  simp only [zTe] at h
  split at h
  ·rename_i o ho
   split at h
   ·rename_i d hd
    have step : ∀ q0 : Fl, q0.i = i → q0.d = d → ((zS2 (e1.get d) = true ∧ q0.v = .c (e1.get d)) ∨ ∃ s, o.op = .move (.tmp s) ∧ q0.v = .a s) → (zTe ops e1 r).map (q0 :: ·) = some fl →
      (∀ q, q ∈ fl → q.i ∈ i :: r ∧ ∃ o, ops[q.i]? = some o ∧ o.dst = some q.d ∧ ((zS2 (e1.get q.d) = true ∧ q.v = .c (e1.get q.d)) ∨ ∃ s, o.op = .move (.tmp s) ∧ q.v = .a s)) ∧ ∀ j, j ∈ i :: r → ∃ q, q ∈ fl ∧ q.i = j := by
     intro q0 h1 h2 h3 hm
     simp only [Option.map_eq_some_iff] at hm
     obtain ⟨fl0, hfl0, rfl⟩ := hm
     obtain ⟨g1, g2⟩ := ih fl0 hfl0
     refine ⟨?_, ?_⟩
     ·intro q hq
      rcases List.mem_cons.1 hq with rfl | hq
      ·rw [h1, h2]; exact ⟨by simp, o, ho, hd, h3⟩
      ·obtain ⟨k1, k2⟩ := g1 q hq
       exact ⟨List.mem_cons_of_mem _ k1, k2⟩
     ·intro j hj
      rcases List.mem_cons.1 hj with rfl | hj
      ·exact ⟨q0, by simp, h1⟩
      ·obtain ⟨q, k1, k2⟩ := g2 j hj
       exact ⟨q, List.mem_cons_of_mem _ k1, k2⟩
    split at h
    ·rename_i hpl; exact step ⟨i, d, .c (e1.get d)⟩ rfl rfl (.inl ⟨hpl, rfl⟩) h
    ·split at h
     ·rename_i s hop; exact step ⟨i, d, .a s⟩ rfl rfl (.inr ⟨s, hop, rfl⟩) h
     ·cases h
   ·cases h
  ·cases h
theorem zQe {fl : List Fl} {t : Nat} : flD fl t = true ↔ ∃ q, q ∈ fl ∧ q.d = t := by
 simp only [flD, List.any_eq_true]
 constructor
 ·rintro ⟨q, hq, h⟩; exact ⟨q, hq, Nat.eq_of_beq_eq_true h⟩
 ·rintro ⟨q, hq, rfl⟩; exact ⟨q, hq, by simp⟩
theorem zRM {n : Nat} {fl : List Fl} (h1 : zRN n fl = true) (h2 : zWz fl = true) : zHj n fl := by
 have hd : ∀ l : List Fl, zRN n l = true → l.Pairwise (fun p q => p.d ≠ q.d) ∧ ∀ q, q ∈ l → q.d < n := by
  intro l
  induction l with
  | nil => intro _; exact ⟨.nil, fun q hq => by simp at hq⟩
  | cons q r ih =>
   intro h
   simp only [zRN, Bool.and_eq_true, Bool.not_eq_true'] at h
   obtain ⟨⟨g1, g2⟩, g3⟩ := h
   obtain ⟨k1, k2⟩ := ih g3
   refine ⟨List.pairwise_cons.2 ⟨?_, k1⟩, ?_⟩
   ·intro p hp hh
    have : flD r q.d = true := zQe.2 ⟨p, hp, hh.symm⟩
    rw [g1] at this; cases this
   ·intro p hp
    rcases List.mem_cons.1 hp with rfl | hp
    ·simpa using g2
    ·exact k2 p hp
 refine ⟨(hd fl h1).1, (hd fl h1).2, ?_⟩
 intro q hq s hs p hp hh
 have := List.all_eq_true.1 h2 q hq
 rw [hs] at this
 simp only [Bool.not_eq_true'] at this
 have h3 : flD fl s = true := zQe.2 ⟨p, hp, hh.symm⟩
 rw [this] at h3; cases h3
theorem zRu {d : Nat} {x : T} (h : noD d x = true) : qK d x = x := by
 cases x <;> simp only [noD, qK] at h ⊢ <;> first | rfl | (rw [if_neg]; intro hh; subst hh; simp at h)
theorem zTB {St : Type} {d : Nat} {e : Env St} (h1 : ∀ x, x ∈ e.tm → noD d x = true) (h2 : ∀ cs, some cs ∈ e.vars → ∀ x, x ∈ cs → noD d x = true) (h3 : e.var d = none) : e.kill d = e := by
 obtain ⟨tm, vars, st⟩ := e
 simp only [Env.kill, Env.mk.injEq, and_true]
 refine ⟨?_, ?_⟩
 ·exact (List.map_congr_left (fun x hx => zRu (h1 x hx))).trans (List.map_id _)
 ·have hs : vars.set d none = vars := by
   apply List.ext_getElem?
   intro i
   rw [List.getElem?_set]
   split
   ·rename_i h; subst h
    simp only [Env.var] at h3
    split
    ·rename_i hl
     rw [List.getElem?_eq_getElem hl] at h3 ⊢
     simpa using h3.symm
    ·rename_i hl; rw [List.getElem?_eq_none (by omega)]
   ·rfl
  rw [hs]
  refine (List.map_congr_left (g := id) ?_).trans (List.map_id _)
  intro c hc
  cases c with
  | none => rfl
  | some cs => exact congrArg some ((List.map_congr_left (fun x hx => zRu (h2 cs hc x hx))).trans (List.map_id _))
theorem zWD {S : q7 Γ} {L : jC} (st : Γ.St) (hc : isCall o = false) : evQ L G S { e with st := st } o = evQ L G S e o :=
 zNE (fun x _ => by cases x <;> rfl) (fun _ _ _ _ _ => rfl) (fun h => by rw [hc] at h; cases h)
theorem zXt {St : Type} {b : Env St} : ∀ (L : List Fl) (b : Env St) (x : T), x ∈ (jK b L).tm → x ∈ b.tm ∨ (∃ q, q ∈ L ∧ ∃ y, q.v = .c y ∧ x = y) ∨ x = .dead := by
 intro L
 induction L with
 | nil => intro b x h; exact .inl h
 | cons q L ih =>
  intro b x h
  rcases ih (zCg b q) x h with h | ⟨r, hr, y, hy⟩ | h
  ·simp only [zCg] at h
   rcases List.mem_or_eq_of_mem_set h with h | h
   ·exact .inl h
   ·unfold Fl.val at h
    cases hv : q.v with
    | c y => rw [hv] at h; exact .inr (.inl ⟨q, by simp, y, hv, h⟩)
    | a s =>
     rw [hv] at h
     simp only [Env.get, List.getD_eq_getElem?_getD] at h
     cases hg : b.tm[s]? with
     | none => rw [hg] at h; exact .inr (.inr h)
     | some z => rw [hg] at h; simp only [Option.getD_some] at h; subst h; exact .inl (List.mem_of_getElem? hg)
  ·exact .inr (.inl ⟨r, List.mem_cons_of_mem _ hr, y, hy⟩)
  ·exact .inr (.inr h)
theorem zNc {Sp : q7 Γ} {Cm Um : Nat} {anc : Array Nat} (hch : zTU ops anc Cm Um) {fl : List Fl} {e1 b : Env Γ.St} {m : Nat} (hfl : zHj e1.tm.length fl)
  (hspec : ∀ q, q ∈ fl → Cm.testBit q.i = false ∧ Um.testBit q.i = true ∧ ∃ o, ops[q.i]? = some o ∧ o.dst = some q.d ∧ ((zS2 (e1.get q.d) = true ∧ q.v = .c (e1.get q.d)) ∨ ∃ s, o.op = .move (.tmp s) ∧ q.v = .a s))
  (hvar : ∀ q, q ∈ fl → e1.var q.d = none) (hA : zW m (zDv e1 fl) b)
  {q : Fl} (hq : q ∈ fl) (hst : ∀ o, ops[q.i]? = some o → ∃ st st', zC6 P G Sp (wK ops Cm) e1 st o st') (h : zXv ops fl m e1 b q = true) : zJ4 P G Sp ops fl b q := by
 intro o p ho hp
 obtain ⟨hC, hU, o', ho', hd, hcase⟩ := hspec q hq
 rw [ho] at ho'
 cases ho'
 have hg := hch.guardC q.i o ho (.inr hU)
 have hnc := hch.call q.i o ho hC hU
 obtain ⟨d1, d2, d3⟩ := zR3 hfl
 have hlen : b.tm.length = e1.tm.length := hA.tl.trans d1.len
 obtain ⟨a1, a2⟩ := zAe (fl.filter p) b e1.tm.length (hfl.filter p) (by rw [hlen]; exact Nat.le_refl _)
 have hal := yT (fl.filter p) b
 unfold zXv at h
 rw [ho] at h
 simp only at h
 rcases hcase with ⟨hpl, hv⟩ | ⟨s, hop, hv⟩
 ·-- a value
  rw [hv] at h
  simp only [Bool.and_eq_true] at h
  obtain ⟨⟨h1, h2⟩, h3⟩ := h
  obtain ⟨st, st', jD⟩ := hst o ho
  rcases jD with ⟨_, r, hev, _, hneed, hdst⟩ | ⟨hw, _⟩
  ·obtain ⟨g1, g2, g3⟩ := hdst q.d hd
   have qR := g1 (hfl.lt q hq)
   have hev' : evQ P G Sp (jK b (fl.filter p)) o = some r := by
    rw [← hev, zWD st hnc, ← zWD (e := e1) (jK b (fl.filter p)).st hnc]
    have hops : ∀ x, x ∈ o.op.operands → evx G (jK b (fl.filter p)) x = evx G e1 x ∧ ∀ s off, evx G e1 x = .lp s off → (jK b (fl.filter p)).var s = e1.var s := by
     intro x hx
     have hok := List.all_eq_true.1 h1 x (by simpa using hx)
     cases x with
     | tmp t =>
      simp only [zWa, Bool.and_eq_true, Bool.or_eq_true] at hok
      obtain ⟨hwhich, hm⟩ := hok
      have hvars : ∀ s off, e1.get t = .lp s off → (jK b (fl.filter p)).var s = e1.var s := by
       intro s off hlp
       rw [hlp] at hm
       simp only [Bool.and_eq_true, Bool.not_eq_true'] at hm
       obtain ⟨hsb, hm⟩ := hm
       split at hm
       ·rename_i cs hcs
        simp only [Bool.and_eq_true, Bool.not_eq_true'] at hm
        have hds : ∃ ds : List V, cs = ds.map T.p := by
         have hall := hm.1
         clear hcs hm
         induction cs with
         | nil => exact ⟨[], rfl⟩
         | cons c cs ih =>
          simp only [List.all_cons, Bool.and_eq_true] at hall
          obtain ⟨ds, hds⟩ := ih hall.2
          cases c with
          | p d0 => exact ⟨d0 :: ds, by rw [hds]; rfl⟩
          | _ => simp at hall
        obtain ⟨ds, rfl⟩ := hds
        have hvv := hA.v s ds hsb hm.2 (by rw [d1.var]; exact hcs)
        rw [hal.var, hvv, hcs]
       ·cases hm
      refine ⟨?_, fun s off hs => hvars s off hs⟩
      show (jK b (fl.filter p)).get t = e1.get t
      rcases hwhich with hok | hok
      ·simp only [flC, List.any_eq_true, Bool.and_eq_true] at hok
       obtain ⟨q', hq', hqd, hqc⟩ := hok
       have hqd := Nat.eq_of_beq_eq_true hqd
       subst hqd
       obtain ⟨_, _, o2, ho2, hd2, hcase2⟩ := hspec q' hq'
       have hpq := hp q' hq' hx
       have hval := a2 q' (List.mem_filter.2 ⟨hq', hpq⟩)
       have hv2 : q'.v = .c (e1.get q'.d) := by
        rcases hcase2 with ⟨_, h5⟩ | ⟨s5, _, h5⟩
        ·exact h5
        ·rw [h5] at hqc; cases hqc
       rw [hval]; unfold Fl.val; rw [hv2]
      ·simp only [Bool.and_eq_true, Bool.not_eq_true'] at hok
       obtain ⟨hnf, hbit⟩ := hok
       have hnf' : ∀ q', q' ∈ fl → t ≠ q'.d := by
        intro q' hq' hh
        have : flD fl t = true := zQe.2 ⟨q', hq', hh.symm⟩
        rw [hnf] at this; cases this
       have hdt := d2 t hnf'
       have hbt := a1 t (fun q' hq' => hnf' q' (List.mem_filter.1 hq').1)
       split at hm
       ·rename_i dv hdv
        have := hA.p t dv hbit (by rw [hdt]; exact hdv)
        rw [hbt, this, hdv]
       ·rename_i s off hlp
        simp only [Bool.and_eq_true, Bool.not_eq_true'] at hm
        have := hA.lp t s off hbit hm.1 (by rw [hdt]; exact hlp)
        rw [hbt, this, hlp]
       ·cases hm
     | _ => exact ⟨rfl, fun s off hs => by
       simp only [evx] at hs
       first | cases hs | (split at hs <;> cases hs)⟩
    exact zKK (fun x hx => (hops x hx).1) (fun x hx s off hs => (hops x hx).2 s off (by rw [← (hops x hx).1]; exact hs)) rfl
   have hrc := zKJ hev hnc
   refine .inl ?_
   simp only [zHe, hev', hd]
   have hgoal : ∀ e2 : Env Γ.St, e2 = { (jK b (fl.filter p)) with tm := (jK b (fl.filter p)).tm.set q.d (zOn q.d r) } → some e2 = some (zCg (jK b (fl.filter p)) q) := by
    intro e2 he2
    rw [he2]
    unfold zCg Fl.val
    rw [hv, qR]
   unfold xH
   cases hn : r.needs with
   | false =>
    simp only [hn, Bool.false_eq_true, if_false]
    apply hgoal
    cases r with
    | ret x => rfl
    | call _ _ _ => cases hrc
    | _ => cases hn
   | true =>
    simp only [hn, if_true]
    unfold zX9 at h2
    simp only [Bool.and_eq_true] at h2
    obtain ⟨⟨⟨k1, k2⟩, k3⟩, k4⟩ := h2
    have hvl : q.d < (jK b (fl.filter p)).vars.length := by rw [hal.vars]; simpa using k4
    rw [if_pos ⟨hvl, by obtain ⟨d', hd', hdL⟩ := hneed hn; rw [hd] at hd'; simp only [Option.some.injEq] at hd'; rw [hd']; exact hdL⟩]
    have hk : (jK b (fl.filter p)).kill q.d = jK b (fl.filter p) := by
     refine zTB ?_ ?_ ?_
     ·intro x hx
      rcases zXt (b := b) _ _ x hx with hx | ⟨q', hq', y, hy, rfl⟩ | rfl
      ·exact List.all_eq_true.1 k1 x hx
      ·have := List.all_eq_true.1 h3 q' (List.mem_filter.1 hq').1
       rw [hy] at this
       exact this
      ·rfl
     ·intro cs hcs x hx
      rw [hal.vars] at hcs
      have := List.all_eq_true.1 k2 (some cs) hcs
      exact List.all_eq_true.1 this x hx
     ·rw [hal.var]; exact Option.isNone_iff_eq_none.1 k3
    rw [hk]
    apply hgoal
    cases r with
    | var cs => have := g2 cs rfl; rw [hvar q hq] at this; cases this
    | call _ _ _ => cases hrc
    | ret x => cases hn
    | _ => rfl
  ·simp only [jE, hg] at hw
   cases hw
 ·-- a copy
  refine .inl ?_
  obtain ⟨dst, op, type, pos, after, guard⟩ := o
  simp only at hop hd
  subst hop hd
  simp only [zHe, evQ, xH, R.needs, Bool.false_eq_true, if_false]
  simp only [zCg, Fl.val, hv]
  rfl
theorem zHp {q : Kex Γ ρ} {K : Env Γ.St → Option ρ} (h : zH0 P G S e o = some q) (hK : q K = some v) :
  ∃ e1, (zHe P G S.toS e o = some e1 ∨ evW P G e o = some e1) ∧ zW (j1 G e o) e e1 ∧ K e1 = some v := by
 unfold zH0 at h
 split at h
 ·rename_i q' hq
  simp only [Option.some.injEq] at h; subst h
  obtain ⟨r, hr, hk⟩ := zKj hq hK
  split at hk
  ·rename_i e1 he1
   refine ⟨e1, .inl ?_, ?_, hk⟩
   ·simp only [zHe, hr, he1]
   ·refine (zJ2 he1).mono ?_
    intro t ht
    simp only [j1, vK] at ht
    exact ht.1
  ·cases hk
 ·obtain ⟨e1, h1, h2⟩ := zOO h hK
  exact ⟨e1, .inr h1, zPA h1, h2⟩
theorem zTO : ∀ (l : List Nat) (e : Env Γ.St), zW 0 e (frzI l e) := by
 intro l
 induction l with
 | nil => intro e; exact zW.refl e
 | cons i r ih => intro e; exact ((zAL i e).trans (ih _)).mono (fun t _ => by simp)
theorem zPS {q : Kex Γ ρ} {K : Env Γ.St → Option ρ} (h : zSM P G S e o = some q) (hK : q K = some v) :
  ∃ e1, zFi P G S.toS e o e1 ∧ zW (j1 G e o) e e1 ∧ K e1 = some v := by
 unfold zSM at h
 split at h
 ·rename_i q' hq
  simp only [Option.some.injEq] at h; subst h
  obtain ⟨e1, h1, h2, h3⟩ := zHp hq hK
  exact ⟨e1, h1.elim .inl (fun h => .inr (.inl h)), h2, h3⟩
 ·split at h
  ·rename_i hB
   obtain ⟨e1, h1, h2, h3⟩ := zHp h hK
   refine ⟨e1, ?_, ?_, h3⟩
   ·rcases h1 with h1 | h1
    ·exact .inr (.inr ⟨hB, h1⟩)
    ·rw [zU6 hB] at h1
     cases h1
   ·rw [zEi hB] at h2 ⊢
    exact ((zTO _ e).trans h2).mono (fun t ht => by simpa using ht)
  ·cases h
theorem zVo : ∀ {fl : List Fl} {t : Nat}, (zBk fl).testBit t = false → ∀ q, q ∈ fl → t ≠ 2 * q.d := by
 intro fl
 induction fl with
 | nil => intro t _ q hq; simp at hq
 | cons p r ih =>
  intro t h q hq
  simp only [zBk, vK] at h
  rcases List.mem_cons.1 hq with rfl | hq
  ·exact (zMo _ _).1 h.1
  ·exact ih h.2 q hq
theorem zIx {St : Type} : ∀ (L : List Fl) (e : Env St), zW (zBk L) e (jK e L) := by
 intro L
 induction L with
 | nil => intro e; exact zW.refl e
 | cons q L ih => intro e; exact (zCt q.d (q.val e) e).trans (ih (zCg e q))
theorem zPx {L fl : List Fl} (h : ∀ q, q ∈ L → ∃ r, r ∈ fl ∧ r.d = q.d) {t : Nat} (ht : (zBk fl).testBit t = false) : (zBk L).testBit t = false := by
 induction L with
 | nil => simp [zBk]
 | cons q L ih =>
  simp only [zBk, vK]
  refine ⟨(zMo _ _).2 ?_, ih (fun p hp => h p (List.mem_cons_of_mem _ hp))⟩
  obtain ⟨r, hr, hrd⟩ := h q (by simp)
  rw [← hrd]
  exact zVo ht r hr
theorem zPI {m : Nat} {dst : Option Nat} {q : Fl} (h : zSF m dst q = true) : zSt m dst q := by
 unfold zSF at h
 simp only [Bool.and_eq_true] at h
 obtain ⟨h1, h2⟩ := h
 refine ⟨?_, ?_⟩
 ·intro hh
  rw [hh] at h1
  simp at h1
 ·split at h2
  ·rename_i hv; rw [hv]; trivial
  ·rename_i hv; rw [hv]; simpa using h2
  ·cases h2
  ·rename_i s hv
   rw [hv]
   intro hh
   rw [hh] at h2
   simp at h2
theorem zN2 {Cm Um : Nat} {anc : Array Nat} (hch : zTU ops anc Cm Um) {fl : List Fl} {e1 : Env Γ.St} (hfl : zHj e1.tm.length fl)
  (hspec : ∀ q, q ∈ fl → Cm.testBit q.i = false ∧ Um.testBit q.i = true ∧ ∃ o, ops[q.i]? = some o ∧ o.dst = some q.d ∧ ((zS2 (e1.get q.d) = true ∧ q.v = .c (e1.get q.d)) ∨ ∃ s, o.op = .move (.tmp s) ∧ q.v = .a s))
  (hvar : ∀ q, q ∈ fl → e1.var q.d = none)
  (hst : ∀ q, q ∈ fl → ∀ o, ops[q.i]? = some o → ∃ st st', zC6 P G S.toS (wK ops Cm) e1 st o st') {K : Env Γ.St → Nat → Option ρ} : ∀ (l : List Nat) (b : Env Γ.St) (m : Nat),
  zGq P G S ops anc fl e1 l b m K = some v → zW m (zDv e1 fl) b → (∀ t, m.testBit t = false → (zBk fl).testBit t = false) →
  ∃ b' M, zGy P G S.toS ops anc fl l b b' ∧ zW M (zDv e1 fl) (jK b' fl) ∧ (∀ t, M.testBit t = false → (zBk fl).testBit t = false) ∧ K (jK b' fl) M = some v := by
 intro l
 induction l with
 | nil =>
  intro b m h hA hm
  simp only [zGq] at h
  rw [kU] at h
  exact ⟨b, _, .nil b, hA.trans (zIx fl b), fun t ht => ((vK _ _ _).1 ht).2, h⟩
 | cons c rest ih =>
  intro b m h hA hm
  simp only [zGq] at h
  split at h
  ·rename_i o ho
   rw [kU] at h
   split at h
   ·rename_i hchk
    simp only [Bool.and_eq_true] at hchk
    obtain ⟨hops, hstays⟩ := hchk
    split at h
    ·rename_i q hq
     obtain ⟨b1, h1, h2, h3⟩ := zPS hq h
     rw [zS1] at h3
     split at h3
     ·rename_i hok
      have hA1 : zW (m ||| (zBk fl ||| j1 G (jK b (fl.filter (zTJ anc c))) o)) (zDv e1 fl) b1 := by
       have hput : zW (zBk fl) b (jK b (fl.filter (zTJ anc c))) := (zIx _ b).mono (fun t ht => zPx (fun q hq => ⟨q, (List.mem_filter.1 hq).1, rfl⟩) ht)
       exact hA.trans (hput.trans h2)
      obtain ⟨b', M, g1, g2, g3, g4⟩ := ih b1 _ h3 hA1 (fun t ht => hm t ((vK _ _ _).1 ht).1)
      refine ⟨b', M, .cons ho h1 ?_ ?_ ?_ g1, g2, g3, g4⟩
      ·intro q hqf hx
       have hx1 := List.all_eq_true.1 hops (.tmp q.d) (by simpa using hx)
       have hx2 := List.all_eq_true.1 hx1 q hqf
       simpa [zTJ] using hx2
      ·intro q hqf
       exact zPI (List.all_eq_true.1 hstays q hqf)
      ·intro q hqf hnA
       have hx := List.all_eq_true.1 hok q hqf
       rw [show zTJ anc c q = false from hnA, Bool.false_or] at hx
       exact zNc hch hfl hspec hvar hA1 hqf (hst q hqf) hx
     ·cases h3
    ·cases h
   ·cases h
  ·cases h
theorem zQz (hmix : P.follows .mixedOrders = true) (hS : qG Γ P G S.toS) {Cm Um lg : Nat} {K : Env Γ.St → Nat → Option ρ} (h : zTD P G S ops Cm Um e lg K = some v) : ∃ e' d, (∀ (id : Nat) (w0 : World) (F0 : Blk → Prop) (O0 : uR) (a : Act) (w : World) (Q : Exit → Act → World → Prop),
  Inv Γ G w0 F0 O0 a w e → (∀ a w, Inv Γ G w0 F0 O0 a w e' → Q .normal a w) → (Code.region id ops true).wp P Q a w) ∧ zW d e e' ∧ K e' (lg ||| d) = some v := by
 unfold zTD at h
 split at h
 ·rename_i hchk
  have hch := zXR hchk
  rw [kU] at h
  obtain ⟨e1, d1, h1, h2, h3⟩ := zHy _ _ _ h
  split at h3
  ·rename_i fl hfl
   split at h3
   ·rename_i hc
    simp only [Bool.and_eq_true] at hc
    obtain ⟨⟨⟨c1, c2⟩, c3⟩, c4⟩ := hc
    have hflok := zRM c1 c2
    obtain ⟨s1, s2⟩ := zU0 _ _ hfl
    have hspec : ∀ q, q ∈ fl → Cm.testBit q.i = false ∧ Um.testBit q.i = true ∧ ∃ o, ops[q.i]? = some o ∧ o.dst = some q.d ∧ ((zS2 (e1.get q.d) = true ∧ q.v = .c (e1.get q.d)) ∨ ∃ s, o.op = .move (.tmp s) ∧ q.v = .a s) := by
     intro q hq
     obtain ⟨k1, k2⟩ := s1 q hq
     simp only [List.mem_filter, Bool.and_eq_true, Bool.not_eq_true'] at k1
     exact ⟨k1.2.2, k1.2.1, k2⟩
    have hvar : ∀ q, q ∈ fl → e1.var q.d = none := fun q hq => Option.isNone_iff_eq_none.1 (List.all_eq_true.1 c3 q hq)
    have hah := zN9 hch.st 0 (wK ops Cm).toList (by simp)
    have hno : ∀ d, d ∈ z6 (wK ops Cm).toList → (killAll (z6 (wK ops Cm).toList) e).var d = none := by
     intro d hd
     cases hv : (killAll (z6 (wK ops Cm).toList) e).var d with
     | none => rfl
     | some cs => exact absurd ⟨cs, hv⟩ (zAk _ e d hd).1
    obtain ⟨sts, _, _, hsteps, _, _, _⟩ := zEQ _ _ _ h1 hah hno
    have hst : ∀ q, q ∈ fl → ∀ o, ops[q.i]? = some o → ∃ st st', zC6 P G S.toS (wK ops Cm) e1 st o st' := by
     intro q hq o ho
     exact ⟨_, _, hsteps q.i o (by rw [Array.getElem?_toList]; exact uG ho (hspec q hq).1)⟩
    rw [kU] at h3
    have hdead : zW (zBk fl) e1 (zDv e1 fl) := (zIx _ e1).mono (fun t ht => zPx (fun q hq => by
     obtain ⟨p, hp, rfl⟩ := List.mem_map.1 hq
     exact ⟨p, hp, rfl⟩) ht)
    have hA0 : zW (zBk fl) (zDv e1 fl) (zDv e1 fl) := (zW.refl _).mono (fun t _ => by simp)
    obtain ⟨b', M, g1, g2, g3, g4⟩ := zN2 hch hflok hspec hvar hst _ _ _ h3 hA0 (fun t ht => ht)
    have hfv : ∀ q, q ∈ fl → e1.get q.d = q.val e1 ∧ e1.var q.d = none := by
     intro q hq
     refine ⟨?_, hvar q hq⟩
     obtain ⟨hC, hU, o, ho, hd, hcase⟩ := hspec q hq
     rcases hcase with ⟨_, hv⟩ | ⟨s, hop, hv⟩
     ·unfold Fl.val; rw [hv]
     ·obtain ⟨st, st', jD⟩ := hst q hq o ho
      have hg := hch.guardC q.i o ho (.inr hU)
      rcases jD with ⟨_, r, hev, _, _, hdst⟩ | ⟨hw, _⟩
      ·obtain ⟨k1, _, _⟩ := hdst q.d hd
       rw [k1 (hflok.lt q hq)]
       simp only [evQ, hop, Option.some.injEq] at hev
       subst hev
       unfold Fl.val; rw [hv]; rfl
      ·simp only [jE, hg] at hw; cases hw
    refine ⟨jK b' fl, (zSg (z6 (wK ops Cm).toList) ||| d1) ||| M, ?_, ?_, ?_⟩
    ·intro id w0 F0 O0 a w Q hi hQ
     refine zVl hmix hch hS hi h1 hflok ?_ ?_ hfv ?_ g1 hQ
     ·intro i hU hC hlt
      exact s2 i (by simp [hlt, hU, hC])
     ·intro q hq
      obtain ⟨k1, k2, o, ho, hd, _⟩ := hspec q hq
      exact ⟨k1, k2, o, ho, hd⟩
     ·intro q hq
      exact zNc hch hflok hspec hvar hA0 hq (hst q hq) (List.all_eq_true.1 c4 q hq)
    ·have hd2 : zW M e1 (jK b' fl) := (hdead.mono (fun t ht => g3 t ht)).same g2
     exact ((zHB _ e).trans h2).trans hd2
    ·rw [← Nat.or_assoc, ← Nat.or_assoc]; exact g4
   ·cases h3
  ·cases h3
 ·cases h
theorem zFU (hmix : P.follows .mixedOrders = true) (hS : qG Γ P G S.toS) {d : Bool} {fz : Option (List (Nat × Nat × Nat))} {lg : Nat} {K : Env Γ.St → Nat → Option ρ} {id : Nat} (h : zRi P G S ops d fz e lg K = some v) :
  ∃ e' n, q9 P G (.region id ops d) e .normal e' ∧ zW n e e' ∧ K e' (lg ||| n) = some v := by
 have draw : ∀ (e : Env Γ.St) (lg k : Nat), zNV P G S ops k e lg K = some v → ∃ e' n, q9 P G (.region id ops true) e .normal e' ∧ zW n e e' ∧ K e' (lg ||| n) = some v := by
  intro e lg k h
  obtain ⟨e1, n, h1, h2, h3⟩ := zQv hmix hS h
  exact ⟨e1, n, fun w0 F0 O0 a w hi => h1 id w0 F0 O0 a w _ hi (fun a w h => ⟨rfl, h⟩), h2, h3⟩
 unfold zRi at h
 split at h
 ·obtain ⟨e1, n, h1, h2, h3⟩ := zMI hS _ _ _ h
  refine ⟨e1, n, ?_, h2, h3⟩
  intro w0 F0 O0 a w hi
  refine wp_region ?_
  have := zT3 (Q := fun ex a' w' => ex = X.toExit .normal ∧ Inv Γ G w0 F0 O0 a' w' e1) ops 0 ops.toList e e1 a w (by simp) h1 hi (fun a w h => ⟨rfl, h⟩)
  simpa [List.range_eq_range'] using this
 ·split at h
  ·exact draw e lg _ h
  ·rw [kU] at h
   obtain ⟨e1, n, h1, h2, h3⟩ := draw _ _ _ h
   exact ⟨e1, _, fun w0 F0 O0 a w hi => h1 w0 F0 O0 a w (Inv.frzOps _ _ hi), (zEW _ e).trans h2, by rw [← Nat.or_assoc]; exact h3⟩
  ·split at h
   ·exact draw e lg _ h
   ·exact draw e lg _ h
   ·rw [kU] at h
    obtain ⟨e1, n, h1, h2, h3⟩ := zQz hmix hS h
    exact ⟨e1, _, fun w0 F0 O0 a w hi => h1 id w0 F0 O0 a w _ (Inv.frzOps _ _ hi) (fun a w h => ⟨rfl, h⟩), (zEW _ e).trans h2, by rw [← Nat.or_assoc]; exact h3⟩
theorem zU1 (a b : Nat) : zW4 (zSO a b) := ⟨fun _ => rfl, fun _ _ => rfl, rfl⟩
theorem zSN {K : Env Γ.St → Option ρ} : ∀ (l : List (Nat × Nat × Nat)) (e : Env Γ.St), zUG l e K = some v → ∃ e', zW 0 e e' ∧ K e' = some v ∧ ∀ (w0 : World) (F0 : Blk → Prop) (O0 : uR) (a : Act) (w : World), Inv Γ G w0 F0 O0 a w e → Inv Γ G w0 F0 O0 a w e' := by
 intro l
 induction l with
 | nil => intro e h; exact ⟨e, zW.refl e, h, fun _ _ _ _ _ h => h⟩
 | cons x r ih =>
  intro e h
  obtain ⟨a, b, n⟩ := x
  simp only [zUG] at h
  split at h
  ·split at h
   ·rename_i hb
    rw [kU] at h
    obtain ⟨e', h1, h2, h3⟩ := ih _ h
    exact ⟨e', (zC2 (zU1 a b) e).same h1, h2, fun w0 F0 O0 a0 w hi => h3 w0 F0 O0 a0 w (by
     simp only [Bool.and_eq_true, Bool.not_eq_true'] at hb
     exact hi.ren hb.1 (fun h => by rw [h] at hb; simp at hb) (fun h => by rw [h] at hb; simp at hb))⟩
   ·cases h
  ·rw [kU] at h
   obtain ⟨e', h1, h2, h3⟩ := ih _ h
   exact ⟨e', (zAL _ e).same h1, h2, fun w0 F0 O0 a0 w hi => h3 w0 F0 O0 a0 w (hi.frzOE _)⟩
  ·exact ih e h
theorem zMO (hmix : P.follows .mixedOrders = true) (hS : qG Γ P G S.toS) {d : Bool} {fz : Option (List (Nat × Nat × Nat))} {lg : Nat} {K : Env Γ.St → Nat → Option ρ} {id : Nat} (h : zXs P G S ops d fz e lg K = some v) :
  ∃ e' n, q9 P G (.region id ops d) e .normal e' ∧ zW n e e' ∧ K e' (lg ||| n) = some v := by
 unfold zXs at h
 split at h
 ·exact zFU hmix hS h
 ·exact zFU hmix hS h
 ·obtain ⟨e1, n, h1, h2, h3⟩ := zFU hmix hS (id := id) h
  obtain ⟨e2, g1, g2, g3⟩ := zSN (G := G) _ _ h3
  refine ⟨e2, n, ?_, h2.same (g1.mono (fun t _ => by simp)), g2⟩
  intro w0 F0 O0 a w hi
  exact wp_mono (h1 w0 F0 O0 a w hi) (fun ex a' w' hh => ⟨hh.1, g3 w0 F0 O0 a' w' hh.2⟩)
end
end Go.Ve

namespace Go.Ve
open Go
inductive Cell where
 | p (ty : Ty)
 | o (id : Nat) (ty : Ty)
inductive zAP where
 | t (i : Nat) (ty : Ty)
 | o (i id : Nat) (ty : Ty)
 | v (s : Nat) (cs : List Cell)
 | st
@[reducible] def Cell.El : Cell → Type
 | .p ty => ty.El
 | .o _ ty => List ty.El
@[reducible] def zPC : List Cell → Type
 | [] => Unit
 | [c] => c.El
 | c :: c' :: r => c.El × zPC (c' :: r)
@[reducible] def zAP.El (St : Type) : zAP → Type
 | .t _ ty => ty.El
 | .o _ _ ty => List ty.El
 | .v _ cs => zPC cs
 | .st => St
@[reducible] def wU (St : Type) : List zAP → Type
 | [] => Unit
 | [c] => c.El St
 | c :: c' :: r => c.El St × wU St (c' :: r)
def rdT (ty : Ty) : T → Option ty.El
 | .p d => ty.dec d
 | .emp => ty.dec (.sl [])
 | _ => none
def rdO (id : Nat) (ty : Ty) : T → Option (List ty.El)
 | .p (.val (.slice none 0 0)) => some []
 | .emp => some []
 | .ot i t xs => match Nat.beq i id with
  | true => zD9 t ty xs
  | false => none
 | _ => none
def zQU : Nat → List T → Option (List V × List T)
 | 0, r => some ([], r)
 | n + 1, .p d :: r => match zQU n r with
  | some (ds, r') => some (d :: ds, r')
  | none => none
 | _ + 1, _ => none
def zKh : (c : Cell) → List T → Option (c.El × List T)
 | .p ty, ts => match zQU ty.size ts with
  | some (ds, r) => match ty.uncells ds with
   | some (x, []) => some (x, r)
   | _ => none
  | none => none
 | .o id ty, x :: r => match rdO id ty x with
  | some xs => some (xs, r)
  | none => none
 | .o _ _, [] => none
def zGE : (cs : List Cell) → List T → Option (zPC cs)
 | [], [] => some ()
 | [], _ :: _ => none
 | [c], ts => match zKh c ts with
  | some (x, []) => some x
  | _ => none
 | c :: c' :: r, ts => match zKh c ts with
  | some (x, ts') => match zGE (c' :: r) ts' with
   | some xs => some (x, xs)
   | none => none
  | none => none
def zJ7 : (c : Cell) → c.El → List T
 | .p ty, x => (ty.cells x).map .p
 | .o id ty, xs => [.ot id ty xs]
def zGz : (cs : List Cell) → zPC cs → List T
 | [], _ => []
 | [c], x => zJ7 c x
 | c :: c' :: r, x => zJ7 c x.1 ++ zGz (c' :: r) x.2
section
variable {St : Type}
def zH1 (e : Env St) : (s : zAP) → Option (s.El St)
 | .t i ty => rdT ty (e.get i)
 | .o i id ty => rdO id ty (e.get i)
 | .v s cs => match e.var s with
  | some ts => zGE cs ts
  | none => none
 | .st => some e.st
def rdS (e : Env St) : (l : List zAP) → Option (wU St l)
 | [] => some ()
 | [s] => zH1 e s
 | s :: s' :: r => match zH1 e s with
  | some x => match rdS e (s' :: r) with
   | some xs => some (x, xs)
   | none => none
  | none => none
def zCx : (s : zAP) → s.El St → List (Nat × T)
 | .t i ty, x => [(i, .p (ty.enc x))]
 | .o i id ty, xs => [(i, .ot id ty xs)]
 | .v _ _, _ => []
 | .st, _ => []
def zDH : (s : zAP) → s.El St → List (Nat × List T)
 | .v s cs, x => [(s, zGz cs x)]
 | .t _ _, _ => []
 | .o _ _ _, _ => []
 | .st, _ => []
def tmS : (l : List zAP) → wU St l → List (Nat × T)
 | [], _ => []
 | [s], x => zCx s x
 | s :: s' :: r, x => zCx s x.1 ++ tmS (s' :: r) x.2
def vS : (l : List zAP) → wU St l → List (Nat × List T)
 | [], _ => []
 | [s], x => zDH s x
 | s :: s' :: r, x => zDH s x.1 ++ vS (s' :: r) x.2
def zKb : (s : zAP) → s.El St → Option St
 | .st, x => some x
 | .t _ _, _ => none
 | .o _ _ _, _ => none
 | .v _ _, _ => none
def stS : (l : List zAP) → wU St l → Option St
 | [], _ => none
 | [s], x => zKb s x
 | s :: s' :: r, x => match zKb s x.1 with
  | some y => some y
  | none => stS (s' :: r) x.2
def zY4 (x : Option St) (y : St) : St :=
 match x with
 | some z => z
 | none => y
def zD2 : List zAP → Bool
 | [] => false
 | .st :: _ => true
 | .t _ _ :: r => zD2 r
 | .o _ _ _ :: r => zD2 r
 | .v _ _ :: r => zD2 r
end
def zCc {α : Type} : List (Nat × α) → Nat → Option α
 | [], _ => none
 | (j, x) :: r, i => match Nat.beq j i with
  | true => some x
  | false => zCc r i
def zJ0 : List T → Bool
 | [] => true
 | .p _ :: r => zJ0 r
 | _ => false
def zNm (m i : Nat) : Option (List T) → Option (List T)
 | some cs => match Nat.testBit m (2 * i) || Nat.testBit m (2 * i + 1) || !zJ0 cs with
  | true => none
  | false => some cs
 | none => none
def yA (m : Nat) (vs : List (Nat × List T)) : Nat → List (Option (List T)) → List (Option (List T))
 | _, [] => []
 | i, x :: r => (match zCc vs i with
  | some y => some y
  | none => zNm m i x) :: yA m vs (i + 1) r
def zNp (vars : List (Option (List T))) (s : Nat) : Bool :=
 match vars[s]? with
 | some (some _) => true
 | _ => false
def zPa (m : Nat) (vars : List (Option (List T))) : T → T
 | .p d => .p d
 | .lp s off => match !Nat.testBit m (2 * s) && zNp vars s with
  | true => .lp s off
  | false => .dead
 | _ => .dead
def zGa (m : Nat) (ts : List (Nat × T)) (vars : List (Option (List T))) : Nat → List T → List T
 | _, [] => []
 | i, x :: r => (match zCc ts i with
  | some y => y
  | none => match Nat.testBit m (2 * i) with
   | true => .dead
   | false => zPa m vars x) :: zGa m ts vars (i + 1) r
structure JA where
 mask : Nat
 lps : List (Nat × Nat × Nat)
 sl : List zAP
def lpT (vars : List (Option (List T))) (s off : Nat) : T :=
 match zNp vars s with
 | true => .lp s off
 | false => .dead
def zP7 (vars : List (Option (List T))) : List (Nat × Nat × Nat) → List (Nat × T)
 | [] => []
 | (i, s, off) :: r => (i, lpT vars s off) :: zP7 vars r
def zJu : List (Nat × Nat × Nat) → Nat
 | [] => 0
 | (i, _, _) :: r => 2 ^ (2 * i) ||| zJu r
def vV : List zAP → Nat
 | [] => 0
 | .t i _ :: r => 2 ^ (2 * i) ||| vV r
 | .o i _ _ :: r => 2 ^ (2 * i) ||| vV r
 | .v s _ :: r => 2 ^ (2 * s + 1) ||| vV r
 | .st :: r => vV r
def JA.bits (j : JA) : Nat := j.mask ||| (zJu j.lps ||| vV j.sl)
def zYz (s off : Nat) : T → Bool
 | .lp s' off' => Nat.beq s' s && Nat.beq off' off
 | _ => false
section
variable {St : Type}
def zWR (e : Env St) : List (Nat × Nat × Nat) → Bool
 | [] => true
 | (i, s, off) :: r => zYz s off (e.get i) && zWR e r
def rdJ (j : JA) (e : Env St) : Option (wU St j.sl) :=
 match zWR e j.lps with
 | true => rdS e j.sl
 | false => none
def jG (j : JA) (e : Env St) (s : wU St j.sl) : Env St :=
 ⟨zGa j.bits (zP7 (yA j.bits (vS j.sl s) 0 e.vars) j.lps ++ tmS j.sl s) (yA j.bits (vS j.sl s) 0 e.vars) 0 e.tm, yA j.bits (vS j.sl s) 0 e.vars, zY4 (stS j.sl s) e.st⟩
def xJ : List zAP → Nat → Bool
 | [], _ => false
 | .v s _ :: r, i => Nat.beq s i || xJ r i
 | .t _ _ :: r, i => xJ r i
 | .o _ _ _ :: r, i => xJ r i
 | .st :: r, i => xJ r i
def zSW (j : JA) (e : Env St) : Nat → List T → Bool
 | _, [] => true
 | i, .lp s _ :: r => (Nat.testBit j.bits (2 * i) || Nat.testBit j.bits (2 * s) || (xJ j.sl s && (e.vars[s]?).isSome) || (zNm j.bits s (e.var s)).isSome) && zSW j e (i + 1) r
 | i, _ :: r => zSW j e (i + 1) r
def okJ (j : JA) (e : Env St) : Bool := zSW j e 0 e.tm
def zQm (j : JA) (e : Env St) (lg : Nat) : Option (wU St j.sl) :=
 match Nat.beq (lg ||| j.bits) j.bits with
 | true => rdJ j e
 | false => none
end
def qV {σ ρ : Type} (m : Option (σ ⊕ ρ)) (K : σ → Option ρ) : Option ρ :=
 match m with
 | none => none
 | some (.inl s) => K s
 | some (.inr r) => some r
def zCP {σ ρ : Type} (f : σ → Option (σ ⊕ ρ)) : Nat → σ → Option ρ
 | 0, _ => none
 | n + 1, s => match f s with
  | none => none
  | some (.inl s') => zCP f n s'
  | some (.inr r) => some r
open Classical in
noncomputable def zN {σ ρ : Type} (f : σ → Option (σ ⊕ ρ)) (s : σ) : Option ρ :=
 if h : ∃ n r, zCP f n s = some r then some (Classical.choose (Classical.choose_spec h)) else none
theorem zNo {σ ρ : Type} {f : σ → Option (σ ⊕ ρ)} : ∀ (n m : Nat) (s : σ) (r : ρ), n ≤ m → zCP f n s = some r → zCP f m s = some r := by
 intro n
 induction n with
 | zero => intro m s r _ h; simp [zCP] at h
 | succ n ih =>
  intro m s r hm h
  obtain ⟨m', rfl⟩ : ∃ m', m = m' + 1 := ⟨m - 1, by omega⟩
  simp only [zCP] at h ⊢
  split at h
  ·cases h
  ·exact ih m' _ r (by omega) h
  ·exact h
theorem zGI {σ ρ : Type} {f : σ → Option (σ ⊕ ρ)} {s : σ} {r : ρ} : zN f s = some r ↔ ∃ n, zCP f n s = some r := by
 unfold zN
 constructor
 ·intro h
  split at h
  ·rename_i hex
   simp only [Option.some.injEq] at h
   subst h
   exact ⟨_, Classical.choose_spec (Classical.choose_spec hex)⟩
  ·cases h
 ·rintro ⟨n, hn⟩
  have hex : ∃ n r, zCP f n s = some r := ⟨n, r, hn⟩
  rw [dif_pos hex]
  have h1 := Classical.choose_spec (Classical.choose_spec hex)
  have h2 := zNo _ (max (Classical.choose hex) n) s _ (by omega) h1
  have h3 := zNo _ (max (Classical.choose hex) n) s _ (by omega) hn
  rw [h2] at h3
  exact h3
theorem zWl {σ ρ : Type} (f : σ → Option (σ ⊕ ρ)) (s : σ) : zN f s = match f s with
  | none => none
  | some (.inl s') => zN f s'
  | some (.inr r) => some r := by
 have key : ∀ r, zN f s = some r ↔ (match f s with
  | none => none
  | some (.inl s') => zN f s'
  | some (.inr r) => some r) = some r := by
  intro r
  rw [zGI]
  constructor
  ·rintro ⟨n, hn⟩
   cases n with
   | zero => simp [zCP] at hn
   | succ n =>
    simp only [zCP] at hn
    split at hn
    ·cases hn
    ·exact zGI.2 ⟨n, hn⟩
    ·exact hn
  ·intro h
   split at h
   ·cases h
   ·obtain ⟨n, hn⟩ := zGI.1 h
    rename_i s' hs
    exact ⟨n + 1, by simp only [zCP, hs]; exact hn⟩
   ·rename_i r' hs
    exact ⟨1, by simp only [zCP, hs]; exact h⟩
 cases hl : zN f s with
 | some r => exact ((key r).1 hl).symm
 | none =>
  generalize hm : (match f s with
   | none => none
   | some (.inl s') => zN f s'
   | some (.inr r) => some r) = m at key ⊢
  cases m with
  | none => rfl
  | some r => rw [(key r).2 rfl] at hl; cases hl
theorem zUS {σ ρ : Type} {f : σ → Option (σ ⊕ ρ)} (J : σ → Prop) (m : σ → Nat) (Q : ρ → Prop)
  (step : ∀ s, J s → ∃ o, f s = some o ∧ match o with
   | .inl s' => J s' ∧ m s' < m s
   | .inr r => Q r) {s : σ} (h : J s) : ∃ r, zN f s = some r ∧ Q r := by
 have key : ∀ (n : Nat) (s : σ), m s = n → J s → ∃ r, zN f s = some r ∧ Q r := by
  intro n
  induction n using Nat.strongRecOn with
  | _ n ih =>
   intro s hs hj
   obtain ⟨o, ho, h1⟩ := step s hj
   rw [zWl, ho]
   cases o with
   | inl s' => exact ih _ (by rw [← hs]; exact h1.2) s' rfl h1.1
   | inr r => exact ⟨r, rfl, h1⟩
 exact key _ s rfl h
def zIa : List Nat → Code → Bool
 | ids, .exit id => ids.any (Nat.beq id)
 | _, .ret => false
 | ids, .seq a b => zIa ids a && zIa ids b
 | ids, .cond _ a b => zIa ids a && zIa ids b
 | ids, .block id a => zIa (id :: ids) a
 | ids, .loop a => zIa ids a
 | _, _ => true
section
variable {Γ : Sig} (P : jC) (G : Nat → Option (List V)) (S : zR Γ) (A : Nat → Option JA)
def zID {ρ : Type} (body : (X → Env Γ.St → Nat → Option ρ) → Env Γ.St → Nat → Option ρ) (K : X → Env Γ.St → Nat → Option ρ) : Nat → Env Γ.St → Nat → Option ρ
 | 0, _, _ => none
 | n + 1, e, lg => body (fun k e1 lg1 => match k with
  | .normal => zID body K n e1 lg1
  | k => K k e1 lg1) e lg
def zXA (t : Nat) (c : Code) : Option JA :=
 match zNk c with
 | some k => A (4 * k + t)
 | none => none
noncomputable def exC : Code → (ρ : Type) → (X → Env Γ.St → Nat → Option ρ) → Env Γ.St → Nat → Option ρ
 | .skip, _, K, e, lg => K .normal e lg
 | .seq x y, ρ, K, e, lg => match zXA A 0 y with
  | some j => match zIa [] x with
   | true => zJr (okJ j e) (Option.bind (exC x (wU Γ.St j.sl) (fun k e1 lg1 => match k with
     | .normal => zQm j e1 lg1
     | _ => none) e 0) (fun s => zCO (jG j e s) (fun e1 => exC y ρ K e1 (lg ||| j.bits))))
   | false => zJr (okJ j e) (qV (exC x (wU Γ.St j.sl ⊕ ρ) (fun k e1 lg1 => match k with
     | .normal => (zQm j e1 lg1).map .inl
     | k => (K k e1 (lg ||| lg1)).map .inr) e 0) (fun s => zCO (jG j e s) (fun e1 => exC y ρ K e1 (lg ||| j.bits))))
  | none => exC x ρ (fun k e1 lg1 => match k with
   | .normal => exC y ρ K e1 lg1
   | k => K k e1 lg1) e lg
 | .cond c x y, ρ, K, e, lg => match evx G e c with
  | .p (.val (.bool b)) => cond b (exC x ρ K e lg) (exC y ρ K e lg)
  | _ => none
 | .block id c, ρ, K, e, lg => exC c ρ (fun k e1 lg1 => K (k.out id) e1 lg1) e lg
 | .loop c, ρ, K, e, lg => match zXA A 1 c with
  | some j => zJr (okJ j e) (Option.bind (rdJ j e) (fun s0 => zN (fun s => zCO (jG j e s) (fun e0 => exC c (wU Γ.St j.sl ⊕ ρ) (fun k e1 lg1 => match k with
    | .normal => (zQm j e1 lg1).map .inl
    | k => (K k e1 (lg ||| (j.bits ||| lg1))).map .inr) e0 0)) s0))
  | none => zID (exC c ρ) K 80 e lg
 | .exit id, _, K, e, lg => K (.exit id) e lg
 | .ret, _, K, e, lg => K .ret e lg
 | .region id ops d, _, K, e, lg => match A (4 * id + 2) with
  | some j => zJr (okJ j e) (Option.bind (zXs P G S ops d ((A (4 * id + 3)).map (·.lps)) e 0 (fun e1 lg1 => zQm j e1 lg1)) (fun s => zCO (jG j e s) (fun e1 => K .normal e1 (lg ||| j.bits))))
  | none => zXs P G S ops d ((A (4 * id + 3)).map (·.lps)) e lg (fun e1 lg1 => K .normal e1 lg1)
 | _, _, _, _, _ => none
end
theorem zQT : ∀ (n : Nat) (ts : List T) (ds : List V) (r : List T), zQU n ts = some (ds, r) → ts = ds.map .p ++ r ∧ ds.length = n := by
 intro n
 induction n with
 | zero => intro ts ds r h; simp only [zQU, Option.some.injEq, Prod.mk.injEq] at h; obtain ⟨rfl, rfl⟩ := h; exact ⟨rfl, rfl⟩
 | succ n ih =>
  intro ts ds r h
  unfold zQU at h
  split at h
  ·rename_i heq; cases heq
  ·rename_i m d r0 heq
   cases heq
   split at h
   ·rename_i ds' r' hr
    simp only [Option.some.injEq, Prod.mk.injEq] at h
    obtain ⟨rfl, rfl⟩ := h
    obtain ⟨h1, h2⟩ := ih _ _ _ hr
    exact ⟨by rw [h1]; rfl, by simp [h2]⟩
   ·cases h
  ·cases h
theorem xY.append : ∀ {xs ys xs' ys' : List T}, xY xs ys → xY xs' ys' → xY (xs ++ xs') (ys ++ ys')
 | [], [], _, _, _, h => h
 | _ :: _, _ :: _, _, _, h, h' => ⟨h.1, xY.append h.2 h'⟩
 | [], _ :: _, _, _, h, _ => h.elim
 | _ :: _, [], _, _, h, _ => h.elim
theorem xY.ofV : ∀ {xs ys : List V}, wB xs ys → xY (xs.map .p) (ys.map .p)
 | [], [], _ => trivial
 | _ :: _, _ :: _, h => ⟨fun w F _ _ v hr => h.1 w F v hr, xY.ofV h.2⟩
 | [], _ :: _, h => h.elim
 | _ :: _, [], h => h.elim
theorem zUH {ty : Ty} {x : T} {a : ty.El} (h : rdT ty x = some a) : WkT x (.p (ty.enc a)) := by
 unfold rdT at h
 split at h
 ·exact fun w F _ _ v hr => vD h w F v hr
 ·intro w F β al v hr
  obtain ⟨ad, rfl⟩ := hr
  exact vD h w F _ (.slemp ad 0)
 ·cases h
theorem xG {t t' : Ty} {xs : List t.El} {ys : List t'.El} (h : zD9 t t' xs = some ys) : zRO t t' xs ys := by
 simp only [zRO, h]
theorem zO1 {id : Nat} {ty : Ty} {x : T} {xs : List ty.El} (h : rdO id ty x = some xs) : WkT x (.ot id ty xs) := by
 unfold rdO at h
 split at h
 ·simp only [Option.some.injEq] at h; subst h
  exact fun w F β al v hh => .inl ⟨rfl, none, Rd.eq_val hh⟩
 ·simp only [Option.some.injEq] at h; subst h
  exact fun w F β al v hh => .inl ⟨rfl, hh⟩
 ·rename_i i t ys
  split at h
  ·rename_i hb
   have hi := Nat.eq_of_beq_eq_true hb
   subst hi
   obtain ⟨ht, h⟩ := xA (xG h)
   subst ht
   subst h
   exact .refl _
  ·cases h
 ·cases h
theorem zI5 : ∀ {c : Cell} {ts r : List T} {x : c.El}, zKh c ts = some (x, r) → ∃ ts1, ts = ts1 ++ r ∧ xY ts1 (zJ7 c x)
 | .p ty, ts, r, x, h => by
  simp only [zKh] at h
  split at h
  ·rename_i ds r' hr
   split at h
   ·rename_i y hy
    simp only [Option.some.injEq, Prod.mk.injEq] at h
    obtain ⟨rfl, rfl⟩ := h
    obtain ⟨h1, h2⟩ := zQT _ _ _ _ hr
    obtain ⟨cs1, h3, h4⟩ := q8 _ _ _ _ hy
    rw [List.append_nil] at h3
    subst h3
    exact ⟨_, h1, xY.ofV h4⟩
   ·cases h
  ·cases h
 | .o id ty, y :: ts, r, x, h => by
  simp only [zKh] at h
  split at h
  ·rename_i xs hx
   simp only [Option.some.injEq, Prod.mk.injEq] at h
   obtain ⟨rfl, rfl⟩ := h
   exact ⟨[y], rfl, zO1 hx, trivial⟩
  ·cases h
 | .o _ _, [], _, _, h => by simp [zKh] at h
theorem zHq : ∀ (cs : List Cell) (ts : List T) (x : zPC cs), zGE cs ts = some x → xY ts (zGz cs x)
 | [], [], _, _ => trivial
 | [], _ :: _, _, h => by simp [zGE] at h
 | [c], ts, x, h => by
  simp only [zGE] at h
  split at h
  ·rename_i y hy
   simp only [Option.some.injEq] at h
   subst h
   obtain ⟨ts1, h1, h2⟩ := zI5 hy
   rw [List.append_nil] at h1
   subst h1
   exact h2
  ·cases h
 | c :: c' :: r, ts, x, h => by
  simp only [zGE] at h
  split at h
  ·rename_i y ts' hy
   split at h
   ·rename_i ys hys
    simp only [Option.some.injEq] at h
    subst h
    obtain ⟨ts1, h1, h2⟩ := zI5 hy
    subst h1
    exact h2.append (zHq (c' :: r) ts' ys hys)
   ·cases h
  ·cases h
section
variable {St : Type} {e e1 : Env St}
theorem zO0 {s : zAP} {x : s.El St} (h : zH1 e s = some x) : ∀ i y, (i, y) ∈ zCx s x → WkT (e.get i) y := by
 intro i y hy
 cases s with
 | t j ty =>
  simp only [zCx, List.mem_singleton, Prod.mk.injEq] at hy
  obtain ⟨rfl, rfl⟩ := hy
  exact zUH h
 | o j id ty =>
  simp only [zCx, List.mem_singleton, Prod.mk.injEq] at hy
  obtain ⟨rfl, rfl⟩ := hy
  exact zO1 h
 | v s cs => simp [zCx] at hy
 | st => simp [zCx] at hy
theorem zRl {s : zAP} {x : s.El St} (h : zH1 e s = some x) : ∀ i cs2, (i, cs2) ∈ zDH s x → ∃ cs, e.var i = some cs ∧ xY cs cs2 := by
 intro i y hy
 cases s with
 | t j ty => simp [zDH] at hy
 | o j id ty => simp [zDH] at hy
 | st => simp [zDH] at hy
 | v s cs =>
  simp only [zDH, List.mem_singleton, Prod.mk.injEq] at hy
  obtain ⟨rfl, rfl⟩ := hy
  simp only [zH1] at h
  split at h
  ·rename_i ts hts
   exact ⟨ts, hts, zHq _ _ _ h⟩
  ·cases h
theorem zVZ : ∀ {l : List zAP} {x : wU St l}, rdS e l = some x → ∀ i y, (i, y) ∈ tmS l x → WkT (e.get i) y
 | [], _, _, i, y, hy => by simp [tmS] at hy
 | [s], x, h, i, y, hy => zO0 (s := s) h i y hy
 | s :: s' :: r, x, h, i, y, hy => by
  simp only [rdS] at h
  split at h
  ·rename_i a ha
   split at h
   ·rename_i as has
    simp only [Option.some.injEq] at h
    subst h
    simp only [tmS, List.mem_append] at hy
    rcases hy with hy | hy
    ·exact zO0 ha i y hy
    ·exact zVZ has i y hy
   ·cases h
  ·cases h
theorem zX4 : ∀ {l : List zAP} {x : wU St l}, rdS e l = some x → ∀ i cs2, (i, cs2) ∈ vS l x → ∃ cs, e.var i = some cs ∧ xY cs cs2
 | [], _, _, i, y, hy => by simp [vS] at hy
 | [s], x, h, i, y, hy => zRl (s := s) h i y hy
 | s :: s' :: r, x, h, i, y, hy => by
  simp only [rdS] at h
  split at h
  ·rename_i a ha
   split at h
   ·rename_i as has
    simp only [Option.some.injEq] at h
    subst h
    simp only [vS, List.mem_append] at hy
    rcases hy with hy | hy
    ·exact zRl ha i y hy
    ·exact zX4 has i y hy
   ·cases h
  ·cases h
theorem zV0 : ∀ {l : List zAP} {x : wU St l}, rdS e l = some x → ∀ y, stS l x = some y → y = e.st
 | [], _, _, y, hy => by simp [stS] at hy
 | [s], x, h, y, hy => by
  cases s <;> simp [stS, zKb] at hy
  simp only [rdS, zH1, Option.some.injEq] at h
  rw [← hy, ← h]
 | s :: s' :: r, x, h, y, hy => by
  simp only [rdS] at h
  split at h
  ·rename_i a ha
   split at h
   ·rename_i as has
    simp only [Option.some.injEq] at h
    subst h
    simp only [stS] at hy
    split at hy
    ·rename_i z hz
     cases s <;> simp [zKb] at hz
     simp only [zH1, Option.some.injEq] at ha
     simp only [Option.some.injEq] at hy
     rw [← hy, ← hz, ← ha]
    ·exact zV0 has y hy
   ·cases h
  ·cases h
theorem zQ2 : ∀ {l : List zAP} (x : wU St l), zD2 l = true → ∃ y, stS l x = some y
 | [], _, h => by simp [zD2] at h
 | [s], x, h => by
  cases s <;> simp [zD2] at h
  exact ⟨x, rfl⟩
 | s :: s' :: r, x, h => by
  simp only [stS]
  cases hs : zKb s x.1 with
  | some y => exact ⟨y, rfl⟩
  | none =>
   have h' : zD2 (s' :: r) = true := by
    cases s <;> simp only [zD2] at h ⊢ <;> first | exact h | simp [zKb] at hs
   obtain ⟨y, hy⟩ := zQ2 (l := s' :: r) x.2 h'
   exact ⟨y, hy⟩
theorem zD1 {α : Type} : ∀ {l : List (Nat × α)} {i : Nat} {x : α}, zCc l i = some x → (i, x) ∈ l
 | [], _, _, h => by simp [zCc] at h
 | (j, y) :: r, i, x, h => by
  simp only [zCc] at h
  split at h
  ·rename_i hb
   have := Nat.eq_of_beq_eq_true hb
   subst this
   simp only [Option.some.injEq] at h
   subst h
   exact List.mem_cons_self
  ·exact List.mem_cons_of_mem _ (zD1 h)
theorem zCl (m : Nat) (vs : List (Nat × List T)) : ∀ (l : List (Option (List T))) (n i : Nat), (yA m vs n l)[i]? = (l[i]?).map (fun x => match zCc vs (n + i) with
  | some y => some y
  | none => zNm m (n + i) x)
 | [], n, i => by simp [yA]
 | x :: r, n, i => by
  cases i with
  | zero => simp [yA]
  | succ i => simp only [yA, List.getElem?_cons_succ]; rw [zCl m vs r (n + 1) i]; rw [show n + 1 + i = n + (i + 1) by omega]
theorem zId (m : Nat) (ts : List (Nat × T)) (vars : List (Option (List T))) : ∀ (l : List T) (n i : Nat), (zGa m ts vars n l)[i]? = (l[i]?).map (fun x => match zCc ts (n + i) with
  | some y => y
  | none => match Nat.testBit m (2 * (n + i)) with
   | true => .dead
   | false => zPa m vars x)
 | [], n, i => by simp [zGa]
 | x :: r, n, i => by
  cases i with
  | zero => simp [zGa]
  | succ i => simp only [zGa, List.getElem?_cons_succ]; rw [zId m ts vars r (n + 1) i]; rw [show n + 1 + i = n + (i + 1) by omega]
theorem zJw (m : Nat) (vs : List (Nat × List T)) : ∀ (l : List (Option (List T))) (n : Nat), (yA m vs n l).length = l.length
 | [], _ => rfl
 | _ :: r, n => by simp [yA, zJw m vs r (n + 1)]
theorem zNn (m : Nat) (ts : List (Nat × T)) (vars : List (Option (List T))) : ∀ (l : List T) (n : Nat), (zGa m ts vars n l).length = l.length
 | [], _ => rfl
 | _ :: r, n => by simp [zGa, zNn m ts vars r (n + 1)]
theorem zUo : ∀ {cs : List T}, zJ0 cs = true → ∃ ds : List V, cs = ds.map .p
 | [], _ => ⟨[], rfl⟩
 | .p d :: r, h => by
  obtain ⟨ds, hds⟩ := zUo (cs := r) h
  exact ⟨d :: ds, by rw [hds]; rfl⟩
 | .ow _ _ _ :: _, h => by simp [zJ0] at h
 | .oe _ _ _ _ _ :: _, h => by simp [zJ0] at h
 | .lp _ _ :: _, h => by simp [zJ0] at h
 | .mp _ _ _ :: _, h => by simp [zJ0] at h
 | .ot _ _ _ :: _, h => by simp [zJ0] at h
 | .oet _ _ _ _ _ :: _, h => by simp [zJ0] at h
 | .ov _ _ _ _ _ :: _, h => by simp [zJ0] at h
 | .emp :: _, h => by simp [zJ0] at h
 | .dead :: _, h => by simp [zJ0] at h
theorem zNl {m i : Nat} {x : Option (List T)} {cs : List T} (h : zNm m i x = some cs) : x = some cs ∧ m.testBit (2 * i) = false ∧ m.testBit (2 * i + 1) = false ∧ ∃ ds : List V, cs = ds.map .p := by
 unfold zNm at h
 split at h
 ·split at h
  ·cases h
  ·rename_i hb
   simp only [Bool.or_eq_false_iff, Bool.not_eq_false'] at hb
   simp only [Option.some.injEq] at h
   subst h
   exact ⟨rfl, hb.1.1, hb.1.2, zUo hb.2⟩
 ·cases h
theorem zEf {s : Nat} {cs : List T} (h : e.vars[s]? = some (some cs)) : e.var s = some cs := by simp [Env.var, h]
theorem zIe {s : Nat} {cs : List T} (h : e.var s = some cs) : e.vars[s]? = some (some cs) := by
 simp only [Env.var] at h
 cases hs : e.vars[s]? with
 | none => rw [hs] at h; cases h
 | some x => rw [hs] at h; simp only [Option.getD_some] at h; rw [h]
theorem zPc {j : JA} {s : wU St j.sl} {i : Nat} {cs2 : List T} (h : (jG j e s).var i = some cs2) :
  (i, cs2) ∈ vS j.sl s ∨ (e.var i = some cs2 ∧ j.bits.testBit (2 * i) = false ∧ j.bits.testBit (2 * i + 1) = false ∧ ∃ ds : List V, cs2 = ds.map .p) := by
 have h1 := zIe h
 simp only [jG] at h1
 rw [zCl] at h1
 simp only [Option.map_eq_some_iff, Nat.zero_add] at h1
 obtain ⟨x, hx, h2⟩ := h1
 split at h2
 ·rename_i y hy
  simp only [Option.some.injEq] at h2
  subst h2
  exact .inl (zD1 hy)
 ·obtain ⟨rfl, h3, h4, h5⟩ := zNl h2
  exact .inr ⟨zEf hx, h3, h4, h5⟩
theorem zNg {vars : List (Option (List T))} : ∀ {l : List (Nat × Nat × Nat)} {i : Nat} {y : T}, (i, y) ∈ zP7 vars l → ∃ s off, (i, s, off) ∈ l ∧ y = lpT vars s off
 | [], _, _, h => by simp [zP7] at h
 | (j, s, off) :: r, i, y, h => by
  simp only [zP7, List.mem_cons, Prod.mk.injEq] at h
  rcases h with ⟨rfl, rfl⟩ | h
  ·exact ⟨s, off, List.mem_cons_self, rfl⟩
  ·obtain ⟨s', off', h1, h2⟩ := zNg h
   exact ⟨s', off', List.mem_cons_of_mem _ h1, h2⟩
theorem zXC {s off : Nat} {x : T} (h : zYz s off x = true) : x = .lp s off := by
 unfold zYz at h
 split at h
 ·simp only [Bool.and_eq_true] at h
  rw [Nat.eq_of_beq_eq_true h.1, Nat.eq_of_beq_eq_true h.2]
 ·cases h
theorem zSa : ∀ {l : List (Nat × Nat × Nat)}, zWR e l = true → ∀ i s off, (i, s, off) ∈ l → e.get i = .lp s off
 | [], _, _, _, _, h => by simp at h
 | (j, s0, off0) :: r, h, i, s, off, hm => by
  simp only [zWR, Bool.and_eq_true] at h
  simp only [List.mem_cons, Prod.mk.injEq] at hm
  rcases hm with ⟨rfl, rfl, rfl⟩ | hm
  ·exact zXC h.1
  ·exact zSa h.2 i s off hm
theorem zUR (vars : List (Option (List T))) (s off : Nat) : lpT vars s off = .dead ∨ (lpT vars s off = .lp s off ∧ zNp vars s = true) := by
 unfold lpT
 split
 ·rename_i h; exact .inr ⟨rfl, h⟩
 ·exact .inl rfl
theorem zUV {j : JA} {s : wU St j.sl} {i : Nat} (hi : i < e.tm.length) :
  (∃ y, (i, y) ∈ zP7 (jG j e s).vars j.lps ++ tmS j.sl s ∧ (jG j e s).get i = y) ∨
   ((jG j e s).get i = .dead) ∨ (j.bits.testBit (2 * i) = false ∧ (jG j e s).get i = zPa j.bits (jG j e s).vars (e.get i)) := by
 have h1 : (jG j e s).tm[i]? = _ := zId j.bits (zP7 (jG j e s).vars j.lps ++ tmS j.sl s) (jG j e s).vars e.tm 0 i
 rw [List.getElem?_eq_getElem hi, Option.map_some, Nat.zero_add] at h1
 have hg : (jG j e s).get i = ((jG j e s).tm[i]?).getD .dead := by simp [Env.get, List.getD_eq_getElem?_getD]
 have he : e.get i = e.tm[i] := by simp [Env.get, hi]
 rw [hg, h1, he]
 simp only [Option.getD_some]
 split
 ·rename_i y hy
  exact .inl ⟨y, zD1 hy, rfl⟩
 ·split
  ·exact .inr (.inl rfl)
  ·rename_i hb
   exact .inr (.inr ⟨hb, rfl⟩)
theorem zGM {j : JA} {s : wU St j.sl} : (jG j e s).tm.length = e.tm.length ∧ (jG j e s).vars.length = e.vars.length :=
 ⟨zNn _ _ _ _ _, zJw _ _ _ _⟩
theorem zWq {i : Nat} (h : e.tm.length ≤ i) : e.get i = .dead := by simp [Env.get, List.getD_eq_getElem?_getD, h]
theorem zKA {s : Nat} : zNp e.vars s = true ↔ ∃ cs, e.var s = some cs := by
 unfold zNp
 constructor
 ·intro h
  split at h
  ·rename_i cs hcs; exact ⟨cs, zEf hcs⟩
  ·cases h
 ·rintro ⟨cs, hcs⟩
  rw [zIe hcs]
end
theorem zUm {St : Type} {l : List zAP} {x : wU St l} : ∀ {i : Nat} {y : T}, (i, y) ∈ tmS l x → (vV l).testBit (2 * i) = true := by
 match l, x with
 | [], _ => intro i y h; simp [tmS] at h
 | [s], x =>
  intro i y h
  cases s <;> simp only [tmS, zCx, List.mem_singleton, Prod.mk.injEq, List.not_mem_nil] at h
  all_goals
   obtain ⟨rfl, _⟩ := h
   simp [vV, Nat.testBit_two_pow]
 | s :: s' :: r, x =>
  intro i y h
  simp only [tmS, List.mem_append] at h
  rcases h with h | h
  ·cases s <;> simp only [zCx, List.mem_singleton, Prod.mk.injEq, List.not_mem_nil] at h
   all_goals
    obtain ⟨rfl, _⟩ := h
    simp [vV, Nat.testBit_two_pow, Nat.testBit_or]
  ·have := zUm (l := s' :: r) (x := x.2) h
   cases s <;> simp [vV, Nat.testBit_or] at this ⊢ <;> first | exact .inr this | exact this
theorem zWU {St : Type} {l : List zAP} {x : wU St l} : ∀ {i : Nat} {y : List T}, (i, y) ∈ vS l x → (vV l).testBit (2 * i + 1) = true := by
 match l, x with
 | [], _ => intro i y h; simp [vS] at h
 | [s], x =>
  intro i y h
  cases s <;> simp only [vS, zDH, List.mem_singleton, Prod.mk.injEq, List.not_mem_nil] at h
  all_goals
   obtain ⟨rfl, _⟩ := h
   simp [vV, Nat.testBit_two_pow]
 | s :: s' :: r, x =>
  intro i y h
  simp only [vS, List.mem_append] at h
  rcases h with h | h
  ·cases s <;> simp only [zDH, List.mem_singleton, Prod.mk.injEq, List.not_mem_nil] at h
   all_goals
    obtain ⟨rfl, _⟩ := h
    simp [vV, Nat.testBit_two_pow, Nat.testBit_or]
  ·have := zWU (l := s' :: r) (x := x.2) h
   cases s <;> simp [vV, Nat.testBit_or] at this ⊢ <;> first | exact .inr this | exact this
theorem zPM {St : Type} : ∀ {l : List zAP} {x : wU St l} {i : Nat}, xJ l i = true → ∃ cs, zCc (vS l x) i = some cs := by
 have app : ∀ {a b : List (Nat × List T)} {i : Nat}, ((∃ cs, zCc a i = some cs) ∨ ∃ cs, zCc b i = some cs) → ∃ cs, zCc (a ++ b) i = some cs := by
  intro a b i h
  induction a with
  | nil =>
   rcases h with ⟨cs, h⟩ | h
   ·simp [zCc] at h
   ·exact h
  | cons x a ih =>
   obtain ⟨k, y⟩ := x
   simp only [List.cons_append, zCc] at h ⊢
   split
   ·exact ⟨_, rfl⟩
   ·rename_i hb
    simp only [hb] at h
    exact ih h
 have one : ∀ {s : zAP} {x : s.El St} {i : Nat}, xJ [s] i = true → ∃ cs, zCc (zDH s x) i = some cs := by
  intro s x i h
  cases s <;> simp only [xJ, Bool.or_false, Bool.false_eq_true] at h
  simp only [zDH, zCc, h]
  exact ⟨_, rfl⟩
 intro l
 induction l with
 | nil => intro x i h; simp [xJ] at h
 | cons s r ih =>
  intro x i h
  cases r with
  | nil => exact one (s := s) (x := x) h
  | cons s' r =>
   have h2 : xJ [s] i = true ∨ xJ (s' :: r) i = true := by
    cases s <;> simp only [xJ, Bool.or_eq_true, Bool.or_false] at h ⊢
    ·exact .inr h
    ·exact .inr h
    ·exact h
    ·exact .inr h
   simp only [vS]
   rcases h2 with h2 | h2
   ·exact app (.inl (one h2))
   ·exact app (.inr (ih h2))
theorem zSf : ∀ {l : List (Nat × Nat × Nat)} {i s off : Nat}, (i, s, off) ∈ l → (zJu l).testBit (2 * i) = true
 | [], _, _, _, h => by simp at h
 | (j, s0, off0) :: r, i, s, off, h => by
  simp only [List.mem_cons, Prod.mk.injEq] at h
  simp only [zJu, Nat.testBit_or, Bool.or_eq_true, Nat.testBit_two_pow, decide_eq_true_eq]
  rcases h with ⟨rfl, _⟩ | h
  ·exact .inl rfl
  ·exact .inr (zSf h)
end Go.Ve
