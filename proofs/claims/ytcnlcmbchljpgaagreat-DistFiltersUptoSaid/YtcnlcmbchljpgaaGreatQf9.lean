/-
  Functions out of code, part 3: regions.
  Functions out of code, part 4: joins, loops, statements.
-/
import Derived.Test.YtcnlcmbchljpgaaGreatQf8
set_option linter.unusedVariables false
namespace Go.Ve
open Go
section
variable {Γ : Sig} {ρ : Type} (P : jC) (G : Nat → Option (List V)) (S : zS Γ)
def zQ0 (e : Env Γ.St) (dst : Option Tmp) (c : Call) : Option (Kex Γ ρ) :=
 match c.callee, c.args.toList, c.argTypes.toList, dst with
 | .builtin .append, [.tmp p, x1], [t0, t1], some d =>
  match e.get p with
  | .ov id t' xs 0 hi => match P.und t0, P.und t1 with
   | some (.slice el), some (.slice _) => match P.inf el with
    | some info => match info.zero, zRj (evx G e x1) with
     | some z, some ⟨t, y :: ys⟩ =>
      if zUW p x1 = false then none else
      if h : t' = t then
       if t.size = info.size ∧ 1 ≤ info.bytes ∧ zLi z = info.size ∧ id ≠ jK then
        some (fun K => Option.bind (app info.bytes (List.take hi (h ▸ xs)) (y :: ys)) fun zs => K { (e.kill id) with tm := (e.kill id).tm.set d (.ot id t zs) })
       else none
      else none
     | _, _ => none
    | none => none
   | _, _ => none
  | _ => none
 | _, _, _, _ => none
def wX (e : Env Γ.St) (o : Oper) : Option (Kex Γ ρ) :=
 match o.op with
 | .store t ap x => match o.dst with
  | some _ => none
  | none => match evx G e ap, evx G e x with
   | .oet id ty xs i off, .p d =>
    if jQ P t = some d.cells.length ∧ off + d.cells.length ≤ ty.size ∧ d.cells.all V.one = true ∧ (ty.aggT = false → d.cells.length = 1 ∧ ty.size = 1) then
     some (fun K => Option.bind (atN xs i) fun y => match zUV ty y off d with
      | some z => K (e.mapT (zE7 id ty i z))
      | none => none)
    else none
   | _, _ => none
 | .call c => match zQ0 P G e o.dst c with
  | some q => some q
  | none => match c.callee, c.args.toList, c.argTypes.toList, o.dst with
  | .builtin .append, [x0, x1], [t0, t1], some d => match P.und t0, P.und t1 with
   | some (.slice el), some (.slice _) => match P.inf el with
    | some info => match info.zero, zRj (evx G e x1) with
     | some z, some ⟨t, ys⟩ => match zQC t (evx G e x0) with
      | some (nm, xs) =>
       if t.size = info.size ∧ 1 ≤ info.bytes ∧ zLi z = info.size ∧ nm.getD d ≠ jK then
        some (fun K => Option.bind (app info.bytes xs ys) fun zs =>
         K { (e.kill (nm.getD d)) with tm := (e.kill (nm.getD d)).tm.set d (.ot (nm.getD d) t zs) })
       else none
      | none => none
     | _, _ => none
    | none => none
   | _, _ => none
  | _, _, _, _ => none
 | _ => none
def wXs (e : Env Γ.St) (o : Oper) : Option (Kex Γ ρ) :=
 match wX P G e o with
 | some q => some q
 | none => match evW P G e o with
  | some e1 => some (fun K => K e1)
  | none => none
def zG4 (e : Env Γ.St) (o : Oper) : Option (Kex Γ ρ) :=
 match qXs P G S e o with
 | some q => some (fun K => q (fun r => match yW e o.dst r with
  | some e1 => K e1
  | none => none))
 | none => wXs P G e o
def zXD (e : Env Γ.St) (o : Oper) : Option (Kex Γ ρ) :=
 match o.op with
 | .call c => match c.callee, c.args.toList with
  | .value f, .tmp p :: xs => match evx G e f, e.get p, kY G e xs with
   | .p (.clo g []), .ot id t ys, some ds => match S g e.st (.bot :: .tl t ys :: ds) with
    | some cx => match cx.pl with
     | false => some (fun K => zIr (zVE (zGD id p ys.length 0 e.tm)) (Option.bind cx.m fun y => match cx.res y with
      | .p (.tup [.tl _ _, .bot]) => none
      | .p (.tup [.tl t' zs, d]) => if h : t' = t then K (zUL e id p t (h ▸ zs) (cx.st y) o.dst d) else none
      | _ => none))
     | true => match Nat.beq id jK with
      | true => none
      | false => some (fun K => Option.bind cx.m fun y => match cx.res y with
       | .p (.tup [.tl t' zs, .bot]) => if h : t' = t then K (zUK e id t (h ▸ zs) (cx.st y) o.dst) else none
       | _ => none)
    | none => none
   | _, _, _ => none
  | _, _ => none
 | _ => none
def zXR (tys : List TypeId) (k : Nat) : Option Ty :=
 match tys[k]? with
 | some tp => match P.und tp with
  | some (.pointer el) => P.ty el
  | _ => none
 | none => none
def zXd (e : Env Γ.St) (o : Oper) : Option (Kex Γ ρ) :=
 match o.op with
 | .call c => match c.callee with
  | .value f => match evx G e f, zGY G e c.args.toList with
   | .p (.clo g []), some (k, s, xs) => match kY G e xs, e.var s, zXR P c.argTypes.toList k with
    | some ds, some cs, some t => match zG6 cs with
     | some vs => match t.dec (.agg vs) with
      | some y => match S g e.st (.bot :: .tl t [y] :: .bot :: .val (.int .i64 (k : Int)) :: ds) with
       | some cx => match cx.pl with
        | false => some (fun K => Option.bind cx.m fun u => match cx.res u with
         | .p (.tup [.tl t' [z], d]) => if h : t' = t then K (zUJ e s t (h ▸ z) (cx.st u) o.dst d) else none
         | _ => none)
        | true => none
       | none => none
      | none => none
     | none => none
    | _, _, _ => none
   | _, _ => none
  | _ => none
 | _ => none
def zX1 : Option (Nat × Nat × List Operand) → Nat
 | some (_, s, _) => 2 ^ (2 * s + 1)
 | none => 0
def zGP (e : Env Γ.St) (o : Oper) : Nat :=
 jZ G e o ||| match o.op with
 | .call c => zX1 (zGY G e c.args.toList)
 | _ => 0
def zOy (e : Env Γ.St) (o : Oper) : Option (Kex Γ ρ) :=
 match zG4 P G S e o with
 | some q => some q
 | none => match zXD G S e o with
  | some q => some q
  | none => zXd P G S e o
def zVD (e : Env Γ.St) (lg : Nat) (o : Oper) (K : Env Γ.St → Nat → Option ρ) : Option ρ :=
 match zOy P G S e o with
 | some q => q (fun e1 => K e1 (lg ||| zGP G e o))
 | none => match zOy P G S (frzOps G (zMb o) e) o with
  | some q => q (fun e1 => K e1 (lg ||| (zLm G (zMb o) e ||| zGP G (frzOps G (zMb o) e) o)))
  | none => none
def zUk (ops : Array Oper) (e : Env Γ.St) (lg : Nat) (o : Oper) (K : Env Γ.St → Nat → Option ρ) : Option ρ :=
 match o.guard with
 | none => zVD P G S e lg o K
 | some (j, want) => match (ops[j]?).bind (·.dst) with
  | none => K (e.put o.dst (.p (.val undef))) (lg ||| zBA o.dst)
  | some t => match e.get t with
   | .p (.val (.bool b)) => if t < e.tm.length then
     cond b (match want with
      | true => zHh t (e.lit t true) (fun e => zVD P G S e lg o K)
      | false => K ((e.lit t true).put o.dst (.p (.val undef))) (lg ||| zBA o.dst))
     (match want with
      | true => K ((e.lit t false).put o.dst (.p (.val undef))) (lg ||| zBA o.dst)
      | false => zHh t (e.lit t false) (fun e => zVD P G S e lg o K))
    else none
   | .p (.val (.tuple _)) => K (e.put o.dst (.p (.val undef))) (lg ||| zBA o.dst)
   | _ => none
def seqX (ops : Array Oper) : List Oper → Env Γ.St → Nat → (Env Γ.St → Nat → Option ρ) → Option ρ
 | [], e, lg, K => K e lg
 | o :: rest, e, lg, K => zUk P G S ops e lg o (fun e1 lg => kOp o e1 (fun e1 => seqX ops rest e1 lg K))
def zB4 (e : Env Γ.St) (lg : Nat) (o : Oper) (K : Env Γ.St → Nat → Option ρ) : Option ρ :=
 match qXs P G S e o with
 | some q => q (fun r => match zFM e o.dst r with
  | some e1 => K e1 (lg ||| zBA o.dst)
  | none => none)
 | none => none
def xH (ops : Array Oper) : List Oper → Env Γ.St → Nat → (Env Γ.St → Nat → Option ρ) → Option ρ
 | [], e, lg, K => K e lg
 | o :: rest, e, lg, K =>
  match o.guard with
  | none => if zJl G (z2 (o :: rest)) e o then zB4 P G S e lg o (fun e1 lg => kOp o e1 (fun e1 => xH ops rest e1 lg K)) else none
  | some (j, want) => match (ops[j]?).bind (·.dst) with
   | none => zHh (o.dst.getD 0) (e.put o.dst (.p (.val undef))) (fun e1 => xH ops rest e1 (lg ||| zBA o.dst) K)
   | some t => match e.get t with
    | .p (.val (.bool b)) => if t < e.tm.length then
      cond b (match want with
       | true => zHh t (e.lit t true) (fun e => if zJl G (z2 (o :: rest)) e o then zB4 P G S e lg o (fun e1 lg => kOp o e1 (fun e1 => xH ops rest e1 lg K)) else none)
       | false => zHh (o.dst.getD 0) ((e.lit t true).put o.dst (.p (.val undef))) (fun e1 => xH ops rest e1 (lg ||| zBA o.dst) K))
      (match want with
       | true => zHh (o.dst.getD 0) ((e.lit t false).put o.dst (.p (.val undef))) (fun e1 => xH ops rest e1 (lg ||| zBA o.dst) K)
       | false => zHh t (e.lit t false) (fun e => if zJl G (z2 (o :: rest)) e o then zB4 P G S e lg o (fun e1 lg => kOp o e1 (fun e1 => xH ops rest e1 lg K)) else none))
     else none
    | .p (.val (.tuple _)) => zHh (o.dst.getD 0) (e.put o.dst (.p (.val undef))) (fun e1 => xH ops rest e1 (lg ||| zBA o.dst) K)
    | _ => none
def zQS : List Nat → Nat
 | [] => 0
 | d :: r => 2 ^ (2 * d) ||| zQS r
def zMF (ops : Array Oper) (k : Nat) (e : Env Γ.St) (lg : Nat) (K : Env Γ.St → Nat → Option ρ) : Option ρ :=
 if k ≤ ops.size && zFb ops k && zEf ops k && zJW (ops.extract 0 k) then
  zCp (killAll (z2 (ops.extract 0 k).toList) e) (fun e => xH P G S (ops.extract 0 k) (ops.extract 0 k).toList e (lg ||| zQS (z2 (ops.extract 0 k).toList))
   (fun e1 lg => seqX P G S ops (ops.toList.drop k) e1 lg K))
 else none
def zVr (ops : Array Oper) (e : Env Γ.St) (lg : Nat) (K : Env Γ.St → Nat → Option ρ) : Option ρ := zMF P G S ops (zA8 ops.toList) e lg K
def zRD : T → Bool
 | .p _ => true
 | .lp _ _ => true
 | _ => false
def zRO {St : Type} (ops : Array Oper) (e1 : Env St) : List Nat → Option (List Fl)
 | [] => some []
 | i :: r => match ops[i]? with
  | some o => match o.dst with
   | some d => match zRD (e1.get d) with
    | true => (zRO ops e1 r).map (⟨i, d, .c (e1.get d)⟩ :: ·)
    | false => match o.op with
     | .move (.tmp s) => (zRO ops e1 r).map (⟨i, d, .a s⟩ :: ·)
     | _ => none
   | none => none
  | none => none
def flD (fl : List Fl) (t : Nat) : Bool := fl.any (fun q => Nat.beq q.d t)
def flC (fl : List Fl) (t : Nat) : Bool := fl.any (fun q => Nat.beq q.d t && (match q.v with
 | .c _ => true
 | .a _ => false))
def zQq (n : Nat) : List Fl → Bool
 | [] => true
 | q :: r => !flD r q.d && Nat.blt q.d n && zQq n r
def zVd (fl : List Fl) : Bool := fl.all (fun q => match q.v with
 | .c _ => true
 | .a s => !flD fl s)
def noD (d : Nat) : T → Bool
 | .ow i _ _ => !Nat.beq i d
 | .oe i _ _ _ _ => !Nat.beq i d
 | .lp s _ => !Nat.beq s d
 | .mp i _ _ => !Nat.beq i d
 | .ot i _ _ => !Nat.beq i d
 | .oet i _ _ _ _ => !Nat.beq i d
 | .ov i _ _ _ _ => !Nat.beq i d
 | _ => true
def zWS {St : Type} (d : Nat) (e : Env St) : Bool :=
 e.tm.all (noD d) && e.vars.all (fun c => match c with
  | some cs => cs.all (noD d)
  | none => true) && (e.var d).isNone && Nat.blt d e.vars.length
def zUR {St : Type} (fl : List Fl) (m : Nat) (e1 : Env St) : Operand → Bool
 | .tmp t => (flC fl t || (!flD fl t && !Nat.testBit m (2 * t))) && (match e1.get t with
  | .p _ => true
  | .lp s _ => !Nat.testBit m (2 * s) && (match e1.var s with
   | some cs => cs.all (fun x => match x with | .p _ => true | _ => false) && !Nat.testBit m (2 * s + 1)
   | none => false)
  | _ => false)
 | _ => true
def zWf {St : Type} (ops : Array Oper) (fl : List Fl) (m : Nat) (e1 b : Env St) (q : Fl) : Bool :=
 match ops[q.i]? with
 | some o => match q.v with
  | .a s => match o.op with
   | .move (.tmp s') => Nat.beq s' s
   | _ => false
  | .c _ => o.op.operands.toList.all (zUR fl m e1) && zWS q.d b && fl.all (fun r => match r.v with
   | .c x => noD q.d x
   | .a _ => true)
 | none => false
def zRg (m : Nat) (dst : Option Nat) (q : Fl) : Bool :=
 (match dst with
  | some d => !Nat.beq d q.d
  | none => true) && (match q.v with
  | .c (.p _) => true
  | .c (.lp s _) => !Nat.testBit m (2 * s)
  | .c _ => false
  | .a s => match dst with
   | some d => !Nat.beq d s
   | none => true)
def zYf (fl : List Fl) (A : Fl → Bool) (o : Oper) : Bool :=
 o.op.operands.toList.all (fun x => match x with
  | .tmp t => fl.all (fun q => !Nat.beq q.d t || A q)
  | _ => true)
def zAW : List Fl → Nat
 | [] => 0
 | q :: r => 2 ^ (2 * q.d) ||| zAW r
def zSj (anc : Array Nat) (c : Nat) (q : Fl) : Bool := (anc.getD c 0).testBit q.i && decide (q.i < c)
def zRo (e : Env Γ.St) (o : Oper) : Option (Kex Γ ρ) :=
 match zG4 P G S e o with
 | some q => some q
 | none => match zF2 o with
  | true => zG4 P G S (zQl G o e) o
  | false => none
def zFK (ops : Array Oper) (anc : Array Nat) (fl : List Fl) (e1 : Env Γ.St) : List Nat → Env Γ.St → Nat → (Env Γ.St → Nat → Option ρ) → Option ρ
 | [], b, m, K => zCp (jJ b fl) (fun e => K e (m ||| zAW fl))
 | c :: rest, b, m, K => match ops[c]? with
  | some o => zCp (jJ b (fl.filter (zSj anc c))) (fun bA => match zYf fl (zSj anc c) o && fl.all (zRg (jZ G bA o) o.dst) with
   | true => match zRo P G S bA o with
    | some q => q (fun b1 => kOp o b1 (fun b1 => match fl.all (fun q => zSj anc c q || zWf ops fl (m ||| (zAW fl ||| jZ G bA o)) e1 b1 q) with
     | true => zFK ops anc fl e1 rest b1 (m ||| (zAW fl ||| jZ G bA o)) K
     | false => none))
    | none => none
   | false => none)
  | none => none
def zSc (ops : Array Oper) (Cm Um : Nat) (e : Env Γ.St) (lg : Nat) (K : Env Γ.St → Nat → Option ρ) : Option ρ :=
 if zXC ops (Region.before ops) Cm Um then
  zCp (killAll (z2 (wH ops Cm).toList) e) (fun e => xH P G S (wH ops Cm) (wH ops Cm).toList e (lg ||| zQS (z2 (wH ops Cm).toList))
   (fun e1 lg => match zRO ops e1 ((List.range ops.size).filter (fun i => Nat.testBit Um i && !Nat.testBit Cm i)) with
    | some fl => match zQq e1.tm.length fl && zVd fl && fl.all (fun q => (e1.var q.d).isNone) && fl.all (zWf ops fl (zAW fl) e1 (zC6 e1 fl)) with
     | true => zCp (zC6 e1 fl) (fun b => zFK P G S ops (Region.before ops) fl e1 ((List.range ops.size).filter (fun i => Nat.testBit Cm i)) b (zAW fl) (fun e2 m => K e2 (lg ||| m)))
     | false => none
    | none => none))
 else none
def zTh : List (Nat × Nat × Nat) → Env Γ.St → (Env Γ.St → Option ρ) → Option ρ
 | [], e, K => K e
 | (a, b, n) :: r, e, K => match n with
  | 1 => match zXh b e && (!Nat.beq a jK && !Nat.beq b jK) with
   | true => zCp (e.mapT (zRq a b)) (fun e => zTh r e K)
   | false => none
  | 2 => zCp (frzOE a e) (fun e => zTh r e K)
  | _ => zTh r e K
def zSM : List (Nat × Nat × Nat) → List Operand
 | [] => []
 | (t, _, n) :: r => match n with
  | 0 => .tmp t :: zSM r
  | _ => zSM r
def zPQ (ops : Array Oper) (d : Bool) (fz : Option (List (Nat × Nat × Nat))) (e : Env Γ.St) (lg : Nat) (K : Env Γ.St → Nat → Option ρ) : Option ρ :=
 match d with
 | false => seqX P G S ops ops.toList e lg K
 | true => match fz with
  | none => zVr P G S ops e lg K
  | some [] => zCp (frzOps G (xK ops.toList) e) (fun e1 => zVr P G S ops e1 (lg ||| zLm G (xK ops.toList) e) K)
  | some ((Cm, Um, n) :: ts) => match n with
   | 9 => zVr P G S ops e lg K
   | 8 => zMF P G S ops Cm e lg K
   | _ => zCp (frzOps G (zSM ts) e) (fun e1 => zSc P G S ops Cm Um e1 (lg ||| zLm G (zSM ts) e) K)
def zV9 (ops : Array Oper) (d : Bool) (fz : Option (List (Nat × Nat × Nat))) (e : Env Γ.St) (lg : Nat) (K : Env Γ.St → Nat → Option ρ) : Option ρ :=
 match fz with
 | none => zPQ P G S ops d fz e lg K
 | some [] => zPQ P G S ops d fz e lg K
 | some (x :: ts) => zPQ P G S ops d fz e lg (fun e1 lg1 => zTh ts e1 (fun e2 => K e2 lg1))
end
section
variable {Γ : Sig} {ρ : Type} {P : Program} {G : Nat → Option (List V)} {S : zS Γ} {e : Env Γ.St} {o : Oper} {ops : Array Oper} {v : ρ}
theorem zQZ {q : Kex Γ ρ} {K : Env Γ.St → Option ρ} {dst : Option Tmp} {c : Call} (h : zQ0 P G e dst c = some q) (hK : q K = some v) : ∃ e1, w7 P G e dst c = some e1 ∧ K e1 = some v := by
 unfold zQ0 at h
 split at h
 ·rename_i p x1 t0 t1 d hcal hargs htys
  split at h
  ·rename_i id t' xs hi qP
   split at h
   ·rename_i el el1 hu0 hu1
    split at h
    ·rename_i info hinfo
     split at h
     ·rename_i z t y ys hz hsrc
      split at h
      ·cases h
      ·rename_i hne
       split at h
       ·rename_i htt
        subst htt
        split at h
        ·rename_i hok
         simp only [Option.some.injEq] at h
         subst h
         obtain ⟨zs, hzs, hK⟩ := bind_some hK
         unfold app at hzs
         split at hzs
         ·rename_i hroom
          simp only [Option.some.injEq] at hzs
          subst hzs
          refine ⟨_, ?_, hK⟩
          have hu0' : P.underlying t0 = some (.slice el) := hu0
          have hu1' : P.underlying t1 = some (.slice el1) := hu1
          have hinfo' : P.info? el = some info := hinfo
          simp only [w7, hcal, hargs, htys, hu0', hu1', hinfo', hz, hsrc, qP]
          rw [if_neg hne, dif_pos trivial, if_pos hok, if_pos hroom]
         ·cases hzs
        ·cases h
       ·cases h
     ·cases h
    ·cases h
   ·cases h
  ·cases h
 ·cases h
theorem zSi {q : Kex Γ ρ} {dst : Option Tmp} {c : Call} (h : zQ0 P G e dst c = some q) : j5 P G e dst c = none := by
 unfold zQ0 at h
 split at h
 ·rename_i p x1 t0 t1 d hcal hargs htys
  split at h
  ·rename_i id t' xs hi qP
   unfold j5
   simp only [hcal, hargs, htys]
   repeat' split
   all_goals first | rfl | skip
   all_goals (rename_i hdst _ _; simp only [evx, qP, zQC] at hdst; cases hdst)
  ·cases h
 ·cases h
theorem zT9 {q : Kex Γ ρ} {K : Env Γ.St → Option ρ} (h : wX P G e o = some q) (hK : q K = some v) : ∃ e1, evW P G e o = some e1 ∧ K e1 = some v := by
 obtain ⟨dst, op, type, pos, after, guard⟩ := o
 cases op <;> simp only [wX, reduceCtorEq] at h
 case store t ap x =>
  split at h
  ·cases h
  ·rename_i hd
   split at h
   ·rename_i id ty xs i off d hp hx
    split at h
    ·rename_i hcond
     simp only [Option.some.injEq] at h
     subst h
     obtain ⟨y, hg, h3⟩ := bind_some hK
     unfold atN at hg
     split at h3
     ·rename_i z hz
      refine ⟨_, ?_, h3⟩
      simp only [evW, hp, hx, zCt]
      rw [if_pos hcond]
      simp only [hg, hz]
     ·cases h3
    ·cases h
   ·cases h
 case call c =>
  split at h
  ·rename_i q' hq
   simp only [Option.some.injEq] at h
   subst h
   obtain ⟨e1, h1, h2⟩ := zQZ hq hK
   refine ⟨e1, ?_, h2⟩
   simp only [evW, zSi hq, h1]
  ·split at h
   ·rename_i x0 x1 t0 t1 d hcal hargs htys _
    split at h
    ·rename_i el el1 hu0 hu1
     split at h
     ·rename_i info hinfo
      split at h
      ·rename_i z t ys hz hsrc
       split at h
       ·rename_i nm xs hdst
        split at h
        ·rename_i hok
         simp only [Option.some.injEq] at h
         subst h
         obtain ⟨zs, hzs, hK⟩ := bind_some hK
         unfold app at hzs
         split at hzs
         ·rename_i hroom
          simp only [Option.some.injEq] at hzs
          subst hzs
          refine ⟨_, ?_, hK⟩
          have hu0' : P.underlying t0 = some (.slice el) := hu0
          have hu1' : P.underlying t1 = some (.slice el1) := hu1
          have hinfo' : P.info? el = some info := hinfo
          simp only [evW, j5, hcal, hargs, htys, hu0', hu1', hinfo', hz, hsrc, hdst]
          rw [if_pos hok, if_pos hroom]
         ·cases hzs
        ·cases h
       ·cases h
      ·cases h
     ·cases h
    ·cases h
   ·cases h
theorem zNv {q : Kex Γ ρ} {K : Env Γ.St → Option ρ} (h : wXs P G e o = some q) (hK : q K = some v) : ∃ e1, evW P G e o = some e1 ∧ K e1 = some v := by
 unfold wXs at h
 split at h
 ·rename_i q' hq
  simp only [Option.some.injEq] at h; subst h
  exact zT9 hq hK
 ·split at h
  ·rename_i r hr
   simp only [Option.some.injEq] at h; subst h
   exact ⟨r, hr, hK⟩
  ·cases h
theorem zOw (hS : qD Γ P G S.toS) {q : Kex Γ ρ} {K : Env Γ.St → Option ρ} (h : zG4 P G S e o = some q) (hK : q K = some v) :
  ∃ e1, zSr P G e o e1 ∧ zV (jZ G e o) e e1 ∧ K e1 = some v := by
 unfold zG4 at h
 split at h
 ·rename_i q' hq
  simp only [Option.some.injEq] at h; subst h
  obtain ⟨r, hr, hk⟩ := zJk hq hK
  split at hk
  ·rename_i e1 he1
   refine ⟨e1, fun w0 F0 O0 a w Q hi => zFB (P := P) hS hi ?_, ?_, hk⟩
   ·simp only [zGq, hr, he1]
   ·refine (zI3 he1).mono ?_
    intro t ht
    simp only [jZ, vE] at ht
    exact ht.1
  ·cases hk
 ·obtain ⟨e1, h1, h2⟩ := zNv h hK
  exact ⟨e1, fun w0 F0 O0 a w Q hi => zLd hi h1, zOg h1, h2⟩
theorem zSm (e : Env Γ.St) (id p : Nat) (t : Ty) (ys zs : List t.El) (st : Γ.St) (dst : Option Tmp) (d : V) (hp : e.get p = .ot id t ys) : zV (zBA dst) e (zUL e id p t zs st dst d) := by
 have hg : ∀ t', t' ≠ p → (⟨(e.tm.map (zGM id t zs)).set p (.ot id t zs), e.vars.map (fun c => c.map (List.map (qK id))), st⟩ : Env Γ.St).get t' = zGM id t zs (e.get t') := by
  intro t' hne
  simp only [Env.get, List.getD_eq_getElem?_getD]
  rw [List.getElem?_set_ne (Ne.symm hne), List.getElem?_map]
  cases e.tm[t']? with
  | none => simp [zGM, qK]
  | some x => rfl
 have h1 : zV 0 e (⟨(e.tm.map (zGM id t zs)).set p (.ot id t zs), e.vars.map (fun c => c.map (List.map (qK id))), st⟩ : Env Γ.St) := by
  refine ⟨by simp, by simp, ?_, ?_, ?_⟩
  ·intro t' d' ht' hx
   have hne : t' ≠ p := fun h => by rw [h, hp] at hx; cases hx
   rw [hg t' hne, hx]; rfl
  ·intro t' s off _ _ hx
   have hne : t' ≠ p := fun h => by rw [h, hp] at hx; cases hx
   rw [hg t' hne, hx]; rfl
  ·intro s ds _ _ hx
   have h2 : (⟨(e.tm.map (zGM id t zs)).set p (.ot id t zs), e.vars.map (fun c => c.map (List.map (qK id))), st⟩ : Env Γ.St).var s = (e.mapT (qK id)).var s := rfl
   rw [h2, jA, hx]
   simp [qK, Function.comp_def]
 exact (h1.mono (fun t' _ => by simp)).same (xL _ dst _)
theorem zSl (e : Env Γ.St) (id : Nat) (t : Ty) (zs : List t.El) (st : Γ.St) (dst : Option Tmp) : zV (zBA dst) e (zUK e id t zs st dst) := by
 have hg : ∀ t', (⟨e.tm.map (qK id), e.vars.map (fun c => c.map (List.map (qK id))), st⟩ : Env Γ.St).get t' = qK id (e.get t') := jU (f := qK id) rfl e
 have h1 : zV 0 e (⟨e.tm.map (qK id), e.vars.map (fun c => c.map (List.map (qK id))), st⟩ : Env Γ.St) := by
  refine ⟨by simp, by simp, ?_, ?_, ?_⟩
  ·intro t' d' ht' hx
   rw [hg t', hx]; rfl
  ·intro t' s off _ _ hx
   rw [hg t', hx]; rfl
  ·intro s ds _ _ hx
   have h2 : (⟨e.tm.map (qK id), e.vars.map (fun c => c.map (List.map (qK id))), st⟩ : Env Γ.St).var s = (e.mapT (qK id)).var s := rfl
   rw [h2, jA, hx]
   simp [qK, Function.comp_def]
 exact (h1.mono (fun t' _ => by simp)).same (xL _ dst _)
theorem zSd (hS : qD Γ P G S.toS) {q : Kex Γ ρ} {K : Env Γ.St → Option ρ} (h : zXD G S e o = some q) (hK : q K = some v) :
  ∃ e1, zSr P G e o e1 ∧ zV (jZ G e o) e e1 ∧ K e1 = some v := by
 obtain ⟨dst, op, type, pos, after, guard⟩ := o
 unfold zXD at h
 split at h
 ·rename_i c hop
  subst hop
  split at h
  ·rename_i f p xs hcal hargs
   split at h
   ·rename_i g id t ys ds hf hp hxs
    split at h
    ·rename_i cx hcx
     split at h
     ·simp only [Option.some.injEq] at h
      subst h
      obtain ⟨hlens, hK⟩ := k7.1 hK
      obtain ⟨y, hy, hK⟩ := bind_some hK
      split at hK
      ·cases hK
      ·rename_i t' zs d hdb hres
       split at hK
       ·rename_i ht
        subst ht
        refine ⟨_, fun w0 F0 O0 a w Q hi => zWC hS hi hcal hf hargs hp hxs hlens hdb (by rw [zHO hcx hy, hres]), ?_, hK⟩
        refine (zSm e id p t' ys zs _ dst d hp).mono ?_
        intro b hb
        simp only [jZ, vE] at hb
        exact hb.1
       ·cases hK
      ·cases hK
     ·split at h
      ·cases h
      ·rename_i hid
       have hid : id ≠ jK := fun hh => by rw [hh, Nat.beq_refl] at hid; cases hid
       simp only [Option.some.injEq] at h
       subst h
       obtain ⟨y, hy, hK⟩ := bind_some hK
       split at hK
       ·rename_i t' zs hres
        split at hK
        ·rename_i ht
         subst ht
         refine ⟨_, fun w0 F0 O0 a w Q hi => zUX hS hi hcal hf hargs hp hxs hid (by rw [zHO hcx hy, hres]), ?_, hK⟩
         refine (zSl e id t' zs _ dst).mono ?_
         intro b hb
         simp only [jZ, vE] at hb
         exact hb.1
        ·cases hK
       ·cases hK
    ·cases h
   ·cases h
  ·cases h
 ·cases h
theorem zSk (e : Env Γ.St) (s : Nat) (t : Ty) (z : t.El) (st : Γ.St) (dst : Option Tmp) (d : V) : zV (zBA dst ||| 2 ^ (2 * s + 1)) e (zUJ e s t z st dst d) := by
 have h1 : zV (2 ^ (2 * s + 1)) e (⟨e.tm, e.vars.set s (some ((t.cells z).map T.p)), st⟩ : Env Γ.St) :=
  (zMQ s _ e).same ((zI2 st _).mono (fun t _ => by simp))
 refine (h1.trans (xL _ dst (.p d))).mono ?_
 intro b hb
 simp only [vE] at hb ⊢
 exact ⟨hb.2, hb.1⟩
theorem zRs (hS : qD Γ P G S.toS) {q : Kex Γ ρ} {K : Env Γ.St → Option ρ} (h : zXd P G S e o = some q) (hK : q K = some v) :
  ∃ e1, zSr P G e o e1 ∧ zV (zGP G e o) e e1 ∧ K e1 = some v := by
 obtain ⟨dst, op, type, pos, after, guard⟩ := o
 unfold zXd at h
 split at h
 ·rename_i c hop
  subst hop
  split at h
  ·rename_i f hcal
   split at h
   ·rename_i g k s xs hf hspl
    split at h
    ·rename_i ds cs t hxs hcs hty
     split at h
     ·rename_i vs hvs
      split at h
      ·rename_i y hy
       split at h
       ·rename_i cx hcx
        split at h
        ·simp only [Option.some.injEq] at h
         subst h
         obtain ⟨u, hu, hK⟩ := bind_some hK
         split at hK
         ·rename_i t' z d hres
          split at hK
          ·rename_i ht
           subst ht
           refine ⟨_, fun w0 F0 O0 a w Q hi => zWc hS hi hcal hf hspl hxs hcs hvs hy (by rw [zHO hcx hu, hres]), ?_, hK⟩
           refine (zSk e s t' z _ dst d).mono ?_
           intro b hb
           simp only [zGP, jZ, vE, hspl, zX1] at hb
           rw [vE]
           exact ⟨hb.1.1, hb.2⟩
          ·cases hK
         ·cases hK
        ·cases h
       ·cases h
      ·cases h
     ·cases h
    ·cases h
   ·cases h
  ·cases h
 ·cases h
theorem zH3 (hS : qD Γ P G S.toS) {q : Kex Γ ρ} {K : Env Γ.St → Option ρ} (h : zOy P G S e o = some q) (hK : q K = some v) :
  ∃ e1, zSr P G e o e1 ∧ zV (zGP G e o) e e1 ∧ K e1 = some v := by
 have hm : ∀ b, (zGP G e o).testBit b = false → (jZ G e o).testBit b = false := fun b hb => by
  unfold zGP at hb
  rw [vE] at hb
  exact hb.1
 unfold zOy at h
 split at h
 ·rename_i q' hq
  simp only [Option.some.injEq] at h; subst h
  obtain ⟨e1, h1, h2, h3⟩ := zOw hS hq hK
  exact ⟨e1, h1, h2.mono hm, h3⟩
 ·split at h
  ·rename_i q' hq
   simp only [Option.some.injEq] at h; subst h
   obtain ⟨e1, h1, h2, h3⟩ := zSd hS hq hK
   exact ⟨e1, h1, h2.mono hm, h3⟩
  ·exact zRs hS h hK
theorem zHA (hS : qD Γ P G S.toS) {lg : Nat} {K : Env Γ.St → Nat → Option ρ} (h : zVD P G S e lg o K = some v) :
  ∃ e1 d, zSr P G e o e1 ∧ zV d e e1 ∧ K e1 (lg ||| d) = some v := by
 unfold zVD at h
 split at h
 ·rename_i q hq
  obtain ⟨e1, h1, h2, h3⟩ := zH3 hS hq h
  exact ⟨e1, _, h1, h2, h3⟩
 ·split at h
  ·rename_i q hq
   obtain ⟨e1, h1, h2, h3⟩ := zH3 hS hq h
   exact ⟨e1, _, fun w0 F0 O0 a w Q hi => h1 w0 F0 O0 a w Q (Inv.frzOps _ _ hi), (zEs _ e).trans h2, h3⟩
  ·cases h
theorem zPz (hS : qD Γ P G S.toS) {lg : Nat} {K : Env Γ.St → Nat → Option ρ} (h : zUk P G S ops e lg o K = some v) :
  ∃ e1 d, zSZ P G ops e o e1 ∧ zV d e e1 ∧ K e1 (lg ||| d) = some v := by
 unfold zUk at h
 split at h
 ·rename_i hg
  obtain ⟨e1, d, h1, h2, h3⟩ := zHA hS h
  exact ⟨e1, d, .inl ⟨by simp only [jE, hg], h1⟩, h2, h3⟩
 ·rename_i j want hg
  split at h
  ·rename_i hj
   exact ⟨_, _, .inr ⟨by simp only [jE, hg, hj], rfl⟩, xL e o.dst _, h⟩
  ·rename_i t hj
   split at h
   ·rename_i b hb
    split at h
    ·rename_i hlt
     have hw : jE ops e o = some (b == want) := by simp only [jE, hg, hj, hb, hlt, if_true]
     cases b with
     | true =>
      simp only [cond_true] at h
      split at h
      ·rw [zFZ, zFu hb] at h
       obtain ⟨e1, d, h1, h2, h3⟩ := zHA hS h
       exact ⟨e1, d, .inl ⟨hw, h1⟩, h2, h3⟩
      ·rw [zFu hb] at h
       exact ⟨_, _, .inr ⟨hw, rfl⟩, xL e o.dst _, h⟩
     | false =>
      simp only [cond_false] at h
      split at h
      ·rw [zFu hb] at h
       exact ⟨_, _, .inr ⟨hw, rfl⟩, xL e o.dst _, h⟩
      ·rw [zFZ, zFu hb] at h
       obtain ⟨e1, d, h1, h2, h3⟩ := zHA hS h
       exact ⟨e1, d, .inl ⟨hw, h1⟩, h2, h3⟩
    ·cases h
   ·rename_i vs hb
    exact ⟨_, _, .inr ⟨by simp only [jE, hg, hj, hb], rfl⟩, xL e o.dst _, h⟩
   ·cases h
theorem zLz (hS : qD Γ P G S.toS) {K : Env Γ.St → Nat → Option ρ} : ∀ (l : List Oper) (e : Env Γ.St) (lg : Nat), seqX P G S ops l e lg K = some v → ∃ e' d, zPf P G ops l e e' ∧ zV d e e' ∧ K e' (lg ||| d) = some v := by
 intro l
 induction l with
 | nil => intro e lg h; exact ⟨e, 0, .nil e, zV.refl e, by rw [Nat.or_zero]; exact h⟩
 | cons o rest ih =>
  intro e lg h
  simp only [seqX] at h
  obtain ⟨e1, d, h1, h2, h3⟩ := zPz hS h
  rw [zRC] at h3
  obtain ⟨e', d', h4, h5, h6⟩ := ih e1 _ h3
  exact ⟨e', d ||| d', .cons h1 h4, h2.trans h5, by rw [← Nat.or_assoc]; exact h6⟩
theorem zK3 {lg : Nat} {K : Env Γ.St → Nat → Option ρ} (h : zB4 P G S e lg o K = some v) : ∃ r e1, evQ P G S.toS e o = some r ∧ zFM e o.dst r = some e1 ∧ K e1 (lg ||| zBA o.dst) = some v := by
 unfold zB4 at h
 split at h
 ·rename_i q hq
  obtain ⟨r, hr, hk⟩ := zJk hq h
  split at hk
  ·rename_i e1 he1; exact ⟨r, e1, hr, he1, hk⟩
  ·cases hk
 ·cases h
theorem zGG {K : Env Γ.St → Nat → Option ρ} : ∀ (l : List Oper) (e : Env Γ.St) (lg : Nat), xH P G S ops l e lg K = some v → ∃ e' d, zAj P G S.toS ops l e = some e' ∧ zV d e e' ∧ K e' (lg ||| d) = some v := by
 intro l
 induction l with
 | nil => intro e lg h; exact ⟨e, 0, rfl, zV.refl e, by rw [Nat.or_zero]; exact h⟩
 | cons o rest ih =>
  intro e lg h
  have run : ∀ e0 : Env Γ.St, e0 = e → jE ops e o = some true → (if zJl G (z2 (o :: rest)) e0 o then zB4 P G S e0 lg o (fun e1 lg => kOp o e1 (fun e1 => xH P G S ops rest e1 lg K)) else none) = some v →
    ∃ e' d, zAj P G S.toS ops (o :: rest) e = some e' ∧ zV d e e' ∧ K e' (lg ||| d) = some v := by
   intro e0 he0 hw hh
   subst he0
   split at hh
   ·rename_i hp
    obtain ⟨r, e1, h1, h2, h3⟩ := zK3 hh
    rw [zRC] at h3
    obtain ⟨e', d, h4, h5, h6⟩ := ih e1 _ h3
    refine ⟨e', zBA o.dst ||| d, ?_, (zPd h2).trans h5, by rw [← Nat.or_assoc]; exact h6⟩
    simp only [zAj, hw, hp, if_true, h1, h2, h4]
   ·cases hh
  have skip : ∀ e0 : Env Γ.St, e0 = e → jE ops e o = some false → zHh (o.dst.getD 0) (e0.put o.dst (.p (.val undef))) (fun e1 => xH P G S ops rest e1 (lg ||| zBA o.dst) K) = some v →
    ∃ e' d, zAj P G S.toS ops (o :: rest) e = some e' ∧ zV d e e' ∧ K e' (lg ||| d) = some v := by
   intro e0 he0 hw hh
   subst he0
   rw [zFZ] at hh
   obtain ⟨e', d, h4, h5, h6⟩ := ih _ _ hh
   refine ⟨e', zBA o.dst ||| d, ?_, (xL _ o.dst _).trans h5, by rw [← Nat.or_assoc]; exact h6⟩
   simp only [zAj, hw, h4]
  unfold xH at h
  split at h
  ·rename_i hg; exact run e rfl (by simp only [jE, hg]) h
  ·rename_i j want hg
   split at h
   ·rename_i hj; exact skip e rfl (by simp only [jE, hg, hj]) h
   ·rename_i t hj
    split at h
    ·rename_i b hb
     split at h
     ·rename_i hlt
      have hw : jE ops e o = some (b == want) := by simp only [jE, hg, hj, hb, hlt, if_true]
      cases b with
      | true =>
       simp only [cond_true] at h
       split at h
       ·rw [zFZ] at h; exact run _ (zFu hb) hw h
       ·exact skip _ (zFu hb) hw h
      | false =>
       simp only [cond_false] at h
       split at h
       ·exact skip _ (zFu hb) hw h
       ·rw [zFZ] at h; exact run _ (zFu hb) hw h
     ·cases h
    ·rename_i vs hb; exact skip e rfl (by simp only [jE, hg, hj, hb]) h
    ·cases h
theorem zGI : ∀ (ds : List Nat) (e : Env Γ.St), zV (zQS ds) e (killAll ds e) := by
 intro ds
 induction ds with
 | nil => intro e; exact zV.refl e
 | cons d r ih => intro e; exact (zHD d e).trans (ih _)
theorem zO7 (hmix : P.follows .mixedOrders = true) (hS : qD Γ P G S.toS) {lg : Nat} {K : Env Γ.St → Nat → Option ρ} {k : Nat} (h : zMF P G S ops k e lg K = some v) : ∃ e' d, (∀ (id : Nat) (w0 : World) (F0 : Blk → Prop) (O0 : uE) (a : Act) (w : World) (Q : Exit → Act → World → Prop),
  Inv Γ G w0 F0 O0 a w e → (∀ a w, Inv Γ G w0 F0 O0 a w e' → Q .normal a w) → (Code.region id ops true).wp P Q a w) ∧ zV d e e' ∧ K e' (lg ||| d) = some v := by
 unfold zMF at h
 split at h
 ·rename_i hc
  simp only [Bool.and_eq_true, decide_eq_true_eq] at hc
  obtain ⟨⟨⟨h1, h2⟩, h3⟩, h4⟩ := hc
  rw [kH] at h
  obtain ⟨e1, d1, h5, h6, h7⟩ := zGG _ _ _ h
  obtain ⟨e', d2, h8, h9, h10⟩ := zLz hS _ _ _ h7
  refine ⟨e', _ ||| d1 ||| d2, fun id w0 F0 O0 a w Q hi hQ => zN9 hmix hS hi h1 h2 h3 (e1 := e1) ?_ h8 hQ, ((zGI _ e).trans h6).trans h9, ?_⟩
  ·unfold zHn
   rw [if_pos h4]
   exact h5
  ·rw [Nat.or_assoc, ← Nat.or_assoc, ← Nat.or_assoc]; exact h10
 ·cases h
theorem zTB {St : Type} {e1 : Env St} : ∀ (l : List Nat) (fl : List Fl), zRO ops e1 l = some fl →
  (∀ q, q ∈ fl → q.i ∈ l ∧ ∃ o, ops[q.i]? = some o ∧ o.dst = some q.d ∧ ((zRD (e1.get q.d) = true ∧ q.v = .c (e1.get q.d)) ∨ ∃ s, o.op = .move (.tmp s) ∧ q.v = .a s)) ∧ ∀ i, i ∈ l → ∃ q, q ∈ fl ∧ q.i = i := by
 intro l
 induction l with
 | nil => intro fl h; simp only [zRO, Option.some.injEq] at h; subst h; exact ⟨fun q hq => by simp at hq, fun i hi => by simp at hi⟩
 | cons i r ih =>
  intro fl h
  simp only [zRO] at h
  split at h
  ·rename_i o ho
   split at h
   ·rename_i d hd
    have step : ∀ q0 : Fl, q0.i = i → q0.d = d → ((zRD (e1.get d) = true ∧ q0.v = .c (e1.get d)) ∨ ∃ s, o.op = .move (.tmp s) ∧ q0.v = .a s) → (zRO ops e1 r).map (q0 :: ·) = some fl →
      (∀ q, q ∈ fl → q.i ∈ i :: r ∧ ∃ o, ops[q.i]? = some o ∧ o.dst = some q.d ∧ ((zRD (e1.get q.d) = true ∧ q.v = .c (e1.get q.d)) ∨ ∃ s, o.op = .move (.tmp s) ∧ q.v = .a s)) ∧ ∀ j, j ∈ i :: r → ∃ q, q ∈ fl ∧ q.i = j := by
     intro q0 h1 h2 h3 hm
     simp only [Option.map_eq_some_iff] at hm
     obtain ⟨fl0, hfl0, rfl⟩ := hm
     obtain ⟨g1, g2⟩ := ih fl0 hfl0
     refine ⟨?_, ?_⟩
     ·intro q hq
      rcases List.mem_cons.1 hq with rfl | hq
      ·rw [h1, h2]; exact ⟨by simp, o, ho, hd, h3⟩
      ·obtain ⟨k1, k2⟩ := g1 q hq
       exact ⟨List.mem_cons_of_mem _ k1, k2⟩
     ·intro j hj
      rcases List.mem_cons.1 hj with rfl | hj
      ·exact ⟨q0, by simp, h1⟩
      ·obtain ⟨q, k1, k2⟩ := g2 j hj
       exact ⟨q, List.mem_cons_of_mem _ k1, k2⟩
    split at h
    ·rename_i hpl; exact step ⟨i, d, .c (e1.get d)⟩ rfl rfl (.inl ⟨hpl, rfl⟩) h
    ·split at h
     ·rename_i s hop; exact step ⟨i, d, .a s⟩ rfl rfl (.inr ⟨s, hop, rfl⟩) h
     ·cases h
   ·cases h
  ·cases h
theorem zOS {fl : List Fl} {t : Nat} : flD fl t = true ↔ ∃ q, q ∈ fl ∧ q.d = t := by
 simp only [flD, List.any_eq_true]
 constructor
 ·rintro ⟨q, hq, h⟩; exact ⟨q, hq, Nat.eq_of_beq_eq_true h⟩
 ·rintro ⟨q, hq, rfl⟩; exact ⟨q, hq, by simp⟩
theorem zQp {n : Nat} {fl : List Fl} (h1 : zQq n fl = true) (h2 : zVd fl = true) : zGv n fl := by
 have hd : ∀ l : List Fl, zQq n l = true → l.Pairwise (fun p q => p.d ≠ q.d) ∧ ∀ q, q ∈ l → q.d < n := by
  intro l
  induction l with
  | nil => intro _; exact ⟨.nil, fun q hq => by simp at hq⟩
  | cons q r ih =>
   intro h
   simp only [zQq, Bool.and_eq_true, Bool.not_eq_true'] at h
   obtain ⟨⟨g1, g2⟩, g3⟩ := h
   obtain ⟨k1, k2⟩ := ih g3
   refine ⟨List.pairwise_cons.2 ⟨?_, k1⟩, ?_⟩
   ·intro p hp hh
    have : flD r q.d = true := zOS.2 ⟨p, hp, hh.symm⟩
    rw [g1] at this; cases this
   ·intro p hp
    rcases List.mem_cons.1 hp with rfl | hp
    ·simpa using g2
    ·exact k2 p hp
 refine ⟨(hd fl h1).1, (hd fl h1).2, ?_⟩
 intro q hq s hs p hp hh
 have := List.all_eq_true.1 h2 q hq
 rw [hs] at this
 simp only [Bool.not_eq_true'] at this
 have h3 : flD fl s = true := zOS.2 ⟨p, hp, hh.symm⟩
 rw [this] at h3; cases h3
theorem zP5 {d : Nat} {x : T} (h : noD d x = true) : qI d x = x := by
 cases x <;> simp only [noD, qI] at h ⊢ <;> first | rfl | (rw [if_neg]; intro hh; subst hh; simp at h)
theorem zSa {St : Type} {d : Nat} {e : Env St} (h1 : ∀ x, x ∈ e.tm → noD d x = true) (h2 : ∀ cs, some cs ∈ e.vars → ∀ x, x ∈ cs → noD d x = true) (h3 : e.var d = none) : e.kill d = e := by
 obtain ⟨tm, vars, st⟩ := e
 simp only [Env.kill, Env.mk.injEq, and_true]
 refine ⟨?_, ?_⟩
 ·exact (List.map_congr_left (fun x hx => zP5 (h1 x hx))).trans (List.map_id _)
 ·have hs : vars.set d none = vars := by
   apply List.ext_getElem?
   intro i
   rw [List.getElem?_set]
   split
   ·rename_i h; subst h
    simp only [Env.var] at h3
    split
    ·rename_i hl
     rw [List.getElem?_eq_getElem hl] at h3 ⊢
     simpa using h3.symm
    ·rename_i hl; rw [List.getElem?_eq_none (by omega)]
   ·rfl
  rw [hs]
  refine (List.map_congr_left (g := id) ?_).trans (List.map_id _)
  intro c hc
  cases c with
  | none => rfl
  | some cs => exact congrArg some ((List.map_congr_left (fun x hx => zP5 (h2 cs hc x hx))).trans (List.map_id _))
theorem zVh {S : q7 Γ} {L : jC} (st : Γ.St) (hc : isCall o = false) : evQ L G S { e with st := st } o = evQ L G S e o :=
 zMn (fun x _ => by cases x <;> rfl) (fun _ _ _ _ _ => rfl) (fun h => by rw [hc] at h; cases h)
theorem zWb {St : Type} {b : Env St} : ∀ (L : List Fl) (b : Env St) (x : T), x ∈ (jJ b L).tm → x ∈ b.tm ∨ (∃ q, q ∈ L ∧ ∃ y, q.v = .c y ∧ x = y) ∨ x = .dead := by
 intro L
 induction L with
 | nil => intro b x h; exact .inl h
 | cons q L ih =>
  intro b x h
  rcases ih (zBQ b q) x h with h | ⟨r, hr, y, hy⟩ | h
  ·simp only [zBQ] at h
   rcases List.mem_or_eq_of_mem_set h with h | h
   ·exact .inl h
   ·unfold Fl.val at h
    cases hv : q.v with
    | c y => rw [hv] at h; exact .inr (.inl ⟨q, by simp, y, hv, h⟩)
    | a s =>
     rw [hv] at h
     simp only [Env.get, List.getD_eq_getElem?_getD] at h
     cases hg : b.tm[s]? with
     | none => rw [hg] at h; exact .inr (.inr h)
     | some z => rw [hg] at h; simp only [Option.getD_some] at h; subst h; exact .inl (List.mem_of_getElem? hg)
  ·exact .inr (.inl ⟨r, List.mem_cons_of_mem _ hr, y, hy⟩)
  ·exact .inr (.inr h)
theorem zLX {Sp : q7 Γ} {Cm Um : Nat} {anc : Array Nat} (hch : zSu ops anc Cm Um) {fl : List Fl} {e1 b : Env Γ.St} {m : Nat} (hfl : zGv e1.tm.length fl)
  (hspec : ∀ q, q ∈ fl → Cm.testBit q.i = false ∧ Um.testBit q.i = true ∧ ∃ o, ops[q.i]? = some o ∧ o.dst = some q.d ∧ ((zRD (e1.get q.d) = true ∧ q.v = .c (e1.get q.d)) ∨ ∃ s, o.op = .move (.tmp s) ∧ q.v = .a s))
  (hvar : ∀ q, q ∈ fl → e1.var q.d = none) (hA : zV m (zC6 e1 fl) b)
  {q : Fl} (hq : q ∈ fl) (hst : ∀ o, ops[q.i]? = some o → ∃ st st', zCG P G Sp (wH ops Cm) e1 st o st') (h : zWf ops fl m e1 b q = true) : zI6 P G Sp ops fl b q := by
 intro o p ho hp
 obtain ⟨hC, hU, o', ho', hd, hcase⟩ := hspec q hq
 rw [ho] at ho'
 cases ho'
 have hg := hch.guardC q.i o ho (.inr hU)
 have hnc := hch.call q.i o ho hC hU
 obtain ⟨d1, d2, d3⟩ := zQF hfl
 have hlen : b.tm.length = e1.tm.length := hA.tl.trans d1.len
 obtain ⟨a1, a2⟩ := xX (fl.filter p) b e1.tm.length (hfl.filter p) (by rw [hlen]; exact Nat.le_refl _)
 have hal := yI (fl.filter p) b
 unfold zWf at h
 rw [ho] at h
 simp only at h
 rcases hcase with ⟨hpl, hv⟩ | ⟨s, hop, hv⟩
 ·-- a value
  rw [hv] at h
  simp only [Bool.and_eq_true] at h
  obtain ⟨⟨h1, h2⟩, h3⟩ := h
  obtain ⟨st, st', yM⟩ := hst o ho
  rcases yM with ⟨_, r, hev, _, hneed, hdst⟩ | ⟨hw, _⟩
  ·obtain ⟨g1, g2, g3⟩ := hdst q.d hd
   have qP := g1 (hfl.lt q hq)
   have hev' : evQ P G Sp (jJ b (fl.filter p)) o = some r := by
    rw [← hev, zVh st hnc, ← zVh (e := e1) (jJ b (fl.filter p)).st hnc]
    have hops : ∀ x, x ∈ o.op.operands → evx G (jJ b (fl.filter p)) x = evx G e1 x ∧ ∀ s off, evx G e1 x = .lp s off → (jJ b (fl.filter p)).var s = e1.var s := by
     intro x hx
     have hok := List.all_eq_true.1 h1 x (by simpa using hx)
     cases x with
     | tmp t =>
      simp only [zUR, Bool.and_eq_true, Bool.or_eq_true] at hok
      obtain ⟨hwhich, hm⟩ := hok
      have hvars : ∀ s off, e1.get t = .lp s off → (jJ b (fl.filter p)).var s = e1.var s := by
       intro s off hlp
       rw [hlp] at hm
       simp only [Bool.and_eq_true, Bool.not_eq_true'] at hm
       obtain ⟨hsb, hm⟩ := hm
       split at hm
       ·rename_i cs hcs
        simp only [Bool.and_eq_true, Bool.not_eq_true'] at hm
        have hds : ∃ ds : List V, cs = ds.map T.p := by
         have hall := hm.1
         clear hcs hm
         induction cs with
         | nil => exact ⟨[], rfl⟩
         | cons c cs ih =>
          simp only [List.all_cons, Bool.and_eq_true] at hall
          obtain ⟨ds, hds⟩ := ih hall.2
          cases c with
          | p d0 => exact ⟨d0 :: ds, by rw [hds]; rfl⟩
          | _ => simp at hall
        obtain ⟨ds, rfl⟩ := hds
        have hvv := hA.v s ds hsb hm.2 (by rw [d1.var]; exact hcs)
        rw [hal.var, hvv, hcs]
       ·cases hm
      refine ⟨?_, fun s off hs => hvars s off hs⟩
      show (jJ b (fl.filter p)).get t = e1.get t
      rcases hwhich with hok | hok
      ·simp only [flC, List.any_eq_true, Bool.and_eq_true] at hok
       obtain ⟨q', hq', hqd, hqc⟩ := hok
       have hqd := Nat.eq_of_beq_eq_true hqd
       subst hqd
       obtain ⟨_, _, o2, ho2, hd2, hcase2⟩ := hspec q' hq'
       have hpq := hp q' hq' hx
       have hval := a2 q' (List.mem_filter.2 ⟨hq', hpq⟩)
       have hv2 : q'.v = .c (e1.get q'.d) := by
        rcases hcase2 with ⟨_, h5⟩ | ⟨s5, _, h5⟩
        ·exact h5
        ·rw [h5] at hqc; cases hqc
       rw [hval]; unfold Fl.val; rw [hv2]
      ·simp only [Bool.and_eq_true, Bool.not_eq_true'] at hok
       obtain ⟨hnf, hbit⟩ := hok
       have hnf' : ∀ q', q' ∈ fl → t ≠ q'.d := by
        intro q' hq' hh
        have : flD fl t = true := zOS.2 ⟨q', hq', hh.symm⟩
        rw [hnf] at this; cases this
       have hdt := d2 t hnf'
       have hbt := a1 t (fun q' hq' => hnf' q' (List.mem_filter.1 hq').1)
       split at hm
       ·rename_i dv hdv
        have := hA.p t dv hbit (by rw [hdt]; exact hdv)
        rw [hbt, this, hdv]
       ·rename_i s off hlp
        simp only [Bool.and_eq_true, Bool.not_eq_true'] at hm
        have := hA.lp t s off hbit hm.1 (by rw [hdt]; exact hlp)
        rw [hbt, this, hlp]
       ·cases hm
     | _ => exact ⟨rfl, fun s off hs => by
       simp only [evx] at hs
       first | cases hs | (split at hs <;> cases hs)⟩
    exact zJG (fun x hx => (hops x hx).1) (fun x hx s off hs => (hops x hx).2 s off (by rw [← (hops x hx).1]; exact hs)) rfl
   have hrc := zJF hev hnc
   refine .inl ?_
   simp only [zGq, hev', hd]
   have hgoal : ∀ e2 : Env Γ.St, e2 = { (jJ b (fl.filter p)) with tm := (jJ b (fl.filter p)).tm.set q.d (zM3 q.d r) } → some e2 = some (zBQ (jJ b (fl.filter p)) q) := by
    intro e2 he2
    rw [he2]
    unfold zBQ Fl.val
    rw [hv, qP]
   unfold yW
   cases hn : r.needs with
   | false =>
    simp only [hn, Bool.false_eq_true, if_false]
    apply hgoal
    cases r with
    | ret x => rfl
    | call _ _ _ => cases hrc
    | _ => cases hn
   | true =>
    simp only [hn, if_true]
    unfold zWS at h2
    simp only [Bool.and_eq_true] at h2
    obtain ⟨⟨⟨k1, k2⟩, k3⟩, k4⟩ := h2
    have hvl : q.d < (jJ b (fl.filter p)).vars.length := by rw [hal.vars]; simpa using k4
    rw [if_pos ⟨hvl, by obtain ⟨d', hd', hdL⟩ := hneed hn; rw [hd] at hd'; simp only [Option.some.injEq] at hd'; rw [hd']; exact hdL⟩]
    have hk : (jJ b (fl.filter p)).kill q.d = jJ b (fl.filter p) := by
     refine zSa ?_ ?_ ?_
     ·intro x hx
      rcases zWb (b := b) _ _ x hx with hx | ⟨q', hq', y, hy, rfl⟩ | rfl
      ·exact List.all_eq_true.1 k1 x hx
      ·have := List.all_eq_true.1 h3 q' (List.mem_filter.1 hq').1
       rw [hy] at this
       exact this
      ·rfl
     ·intro cs hcs x hx
      rw [hal.vars] at hcs
      have := List.all_eq_true.1 k2 (some cs) hcs
      exact List.all_eq_true.1 this x hx
     ·rw [hal.var]; exact Option.isNone_iff_eq_none.1 k3
    rw [hk]
    apply hgoal
    cases r with
    | var cs => have := g2 cs rfl; rw [hvar q hq] at this; cases this
    | call _ _ _ => cases hrc
    | ret x => cases hn
    | _ => rfl
  ·simp only [jE, hg] at hw
   cases hw
 ·-- a copy
  refine .inl ?_
  obtain ⟨dst, op, type, pos, after, guard⟩ := o
  simp only at hop hd
  subst hop hd
  simp only [zGq, evQ, yW, R.needs, Bool.false_eq_true, if_false]
  simp only [zBQ, Fl.val, hv]
  rfl
theorem zGz {q : Kex Γ ρ} {K : Env Γ.St → Option ρ} (h : zG4 P G S e o = some q) (hK : q K = some v) :
  ∃ e1, (zGq P G S.toS e o = some e1 ∨ evW P G e o = some e1) ∧ zV (jZ G e o) e e1 ∧ K e1 = some v := by
 unfold zG4 at h
 split at h
 ·rename_i q' hq
  simp only [Option.some.injEq] at h; subst h
  obtain ⟨r, hr, hk⟩ := zJk hq hK
  split at hk
  ·rename_i e1 he1
   refine ⟨e1, .inl ?_, ?_, hk⟩
   ·simp only [zGq, hr, he1]
   ·refine (zI3 he1).mono ?_
    intro t ht
    simp only [jZ, vE] at ht
    exact ht.1
  ·cases hk
 ·obtain ⟨e1, h1, h2⟩ := zNv h hK
  exact ⟨e1, .inr h1, zOg h1, h2⟩
theorem zSo : ∀ (l : List Nat) (e : Env Γ.St), zV 0 e (frzI l e) := by
 intro l
 induction l with
 | nil => intro e; exact zV.refl e
 | cons i r ih => intro e; exact ((zAu i e).trans (ih _)).mono (fun t _ => by simp)
theorem zOx {q : Kex Γ ρ} {K : Env Γ.St → Option ρ} (h : zRo P G S e o = some q) (hK : q K = some v) :
  ∃ e1, zEK P G S.toS e o e1 ∧ zV (jZ G e o) e e1 ∧ K e1 = some v := by
 unfold zRo at h
 split at h
 ·rename_i q' hq
  simp only [Option.some.injEq] at h; subst h
  obtain ⟨e1, h1, h2, h3⟩ := zGz hq hK
  exact ⟨e1, h1.elim .inl (fun h => .inr (.inl h)), h2, h3⟩
 ·split at h
  ·rename_i hB
   obtain ⟨e1, h1, h2, h3⟩ := zGz h hK
   refine ⟨e1, ?_, ?_, h3⟩
   ·rcases h1 with h1 | h1
    ·exact .inr (.inr ⟨hB, h1⟩)
    ·rw [zTH hB] at h1
     cases h1
   ·rw [zDR hB] at h2 ⊢
    exact ((zSo _ e).trans h2).mono (fun t ht => by simpa using ht)
  ·cases h
theorem zT2 : ∀ {fl : List Fl} {t : Nat}, (zAW fl).testBit t = false → ∀ q, q ∈ fl → t ≠ 2 * q.d := by
 intro fl
 induction fl with
 | nil => intro t _ q hq; simp at hq
 | cons p r ih =>
  intro t h q hq
  simp only [zAW, vE] at h
  rcases List.mem_cons.1 hq with rfl | hq
  ·exact (zLg _ _).1 h.1
  ·exact ih h.2 q hq
theorem zHC {St : Type} : ∀ (L : List Fl) (e : Env St), zV (zAW L) e (jJ e L) := by
 intro L
 induction L with
 | nil => intro e; exact zV.refl e
 | cons q L ih => intro e; exact (zB5 q.d (q.val e) e).trans (ih (zBQ e q))
theorem zOd {L fl : List Fl} (h : ∀ q, q ∈ L → ∃ r, r ∈ fl ∧ r.d = q.d) {t : Nat} (ht : (zAW fl).testBit t = false) : (zAW L).testBit t = false := by
 induction L with
 | nil => simp [zAW]
 | cons q L ih =>
  simp only [zAW, vE]
  refine ⟨(zLg _ _).2 ?_, ih (fun p hp => h p (List.mem_cons_of_mem _ hp))⟩
  obtain ⟨r, hr, hrd⟩ := h q (by simp)
  rw [← hrd]
  exact zT2 ht r hr
theorem zOo {m : Nat} {dst : Option Nat} {q : Fl} (h : zRg m dst q = true) : zQ4 m dst q := by
 unfold zRg at h
 simp only [Bool.and_eq_true] at h
 obtain ⟨h1, h2⟩ := h
 refine ⟨?_, ?_⟩
 ·intro hh
  rw [hh] at h1
  simp at h1
 ·split at h2
  ·rename_i hv; rw [hv]; trivial
  ·rename_i hv; rw [hv]; simpa using h2
  ·cases h2
  ·rename_i s hv
   rw [hv]
   intro hh
   rw [hh] at h2
   simp at h2
theorem zML {Cm Um : Nat} {anc : Array Nat} (hch : zSu ops anc Cm Um) {fl : List Fl} {e1 : Env Γ.St} (hfl : zGv e1.tm.length fl)
  (hspec : ∀ q, q ∈ fl → Cm.testBit q.i = false ∧ Um.testBit q.i = true ∧ ∃ o, ops[q.i]? = some o ∧ o.dst = some q.d ∧ ((zRD (e1.get q.d) = true ∧ q.v = .c (e1.get q.d)) ∨ ∃ s, o.op = .move (.tmp s) ∧ q.v = .a s))
  (hvar : ∀ q, q ∈ fl → e1.var q.d = none)
  (hst : ∀ q, q ∈ fl → ∀ o, ops[q.i]? = some o → ∃ st st', zCG P G S.toS (wH ops Cm) e1 st o st') {K : Env Γ.St → Nat → Option ρ} : ∀ (l : List Nat) (b : Env Γ.St) (m : Nat),
  zFK P G S ops anc fl e1 l b m K = some v → zV m (zC6 e1 fl) b → (∀ t, m.testBit t = false → (zAW fl).testBit t = false) →
  ∃ b' M, zFQ P G S.toS ops anc fl l b b' ∧ zV M (zC6 e1 fl) (jJ b' fl) ∧ (∀ t, M.testBit t = false → (zAW fl).testBit t = false) ∧ K (jJ b' fl) M = some v := by
 intro l
 induction l with
 | nil =>
  intro b m h hA hm
  simp only [zFK] at h
  rw [kH] at h
  exact ⟨b, _, .nil b, hA.trans (zHC fl b), fun t ht => ((vE _ _ _).1 ht).2, h⟩
 | cons c rest ih =>
  intro b m h hA hm
  simp only [zFK] at h
  split at h
  ·rename_i o ho
   rw [kH] at h
   split at h
   ·rename_i hchk
    simp only [Bool.and_eq_true] at hchk
    obtain ⟨hops, hstays⟩ := hchk
    split at h
    ·rename_i q hq
     obtain ⟨b1, h1, h2, h3⟩ := zOx hq h
     rw [zRC] at h3
     split at h3
     ·rename_i hok
      have hA1 : zV (m ||| (zAW fl ||| jZ G (jJ b (fl.filter (zSj anc c))) o)) (zC6 e1 fl) b1 := by
       have hput : zV (zAW fl) b (jJ b (fl.filter (zSj anc c))) := (zHC _ b).mono (fun t ht => zOd (fun q hq => ⟨q, (List.mem_filter.1 hq).1, rfl⟩) ht)
       exact hA.trans (hput.trans h2)
      obtain ⟨b', M, g1, g2, g3, g4⟩ := ih b1 _ h3 hA1 (fun t ht => hm t ((vE _ _ _).1 ht).1)
      refine ⟨b', M, .cons ho h1 ?_ ?_ ?_ g1, g2, g3, g4⟩
      ·intro q hqf hx
       have hx1 := List.all_eq_true.1 hops (.tmp q.d) (by simpa using hx)
       have hx2 := List.all_eq_true.1 hx1 q hqf
       simpa [zSj] using hx2
      ·intro q hqf
       exact zOo (List.all_eq_true.1 hstays q hqf)
      ·intro q hqf hnA
       have hx := List.all_eq_true.1 hok q hqf
       rw [show zSj anc c q = false from hnA, Bool.false_or] at hx
       exact zLX hch hfl hspec hvar hA1 hqf (hst q hqf) hx
     ·cases h3
    ·cases h
   ·cases h
  ·cases h
theorem zPa (hmix : P.follows .mixedOrders = true) (hS : qD Γ P G S.toS) {Cm Um lg : Nat} {K : Env Γ.St → Nat → Option ρ} (h : zSc P G S ops Cm Um e lg K = some v) : ∃ e' d, (∀ (id : Nat) (w0 : World) (F0 : Blk → Prop) (O0 : uE) (a : Act) (w : World) (Q : Exit → Act → World → Prop),
  Inv Γ G w0 F0 O0 a w e → (∀ a w, Inv Γ G w0 F0 O0 a w e' → Q .normal a w) → (Code.region id ops true).wp P Q a w) ∧ zV d e e' ∧ K e' (lg ||| d) = some v := by
 unfold zSc at h
 split at h
 ·rename_i hchk
  have hch := zWB hchk
  rw [kH] at h
  obtain ⟨e1, d1, h1, h2, h3⟩ := zGG _ _ _ h
  split at h3
  ·rename_i fl hfl
   split at h3
   ·rename_i hc
    simp only [Bool.and_eq_true] at hc
    obtain ⟨⟨⟨c1, c2⟩, c3⟩, c4⟩ := hc
    have hflok := zQp c1 c2
    obtain ⟨s1, s2⟩ := zTB _ _ hfl
    have hspec : ∀ q, q ∈ fl → Cm.testBit q.i = false ∧ Um.testBit q.i = true ∧ ∃ o, ops[q.i]? = some o ∧ o.dst = some q.d ∧ ((zRD (e1.get q.d) = true ∧ q.v = .c (e1.get q.d)) ∨ ∃ s, o.op = .move (.tmp s) ∧ q.v = .a s) := by
     intro q hq
     obtain ⟨k1, k2⟩ := s1 q hq
     simp only [List.mem_filter, Bool.and_eq_true, Bool.not_eq_true'] at k1
     exact ⟨k1.2.2, k1.2.1, k2⟩
    have hvar : ∀ q, q ∈ fl → e1.var q.d = none := fun q hq => Option.isNone_iff_eq_none.1 (List.all_eq_true.1 c3 q hq)
    have hah := zMP hch.st 0 (wH ops Cm).toList (by simp)
    have hno : ∀ d, d ∈ z2 (wH ops Cm).toList → (killAll (z2 (wH ops Cm).toList) e).var d = none := by
     intro d hd
     cases hv : (killAll (z2 (wH ops Cm).toList) e).var d with
     | none => rfl
     | some cs => exact absurd ⟨cs, hv⟩ (x5 _ e d hd).1
    obtain ⟨sts, _, _, hsteps, _, _, _⟩ := zEm _ _ _ h1 hah hno
    have hst : ∀ q, q ∈ fl → ∀ o, ops[q.i]? = some o → ∃ st st', zCG P G S.toS (wH ops Cm) e1 st o st' := by
     intro q hq o ho
     exact ⟨_, _, hsteps q.i o (by rw [Array.getElem?_toList]; exact k6 ho (hspec q hq).1)⟩
    rw [kH] at h3
    have hdead : zV (zAW fl) e1 (zC6 e1 fl) := (zHC _ e1).mono (fun t ht => zOd (fun q hq => by
     obtain ⟨p, hp, rfl⟩ := List.mem_map.1 hq
     exact ⟨p, hp, rfl⟩) ht)
    have hA0 : zV (zAW fl) (zC6 e1 fl) (zC6 e1 fl) := (zV.refl _).mono (fun t _ => by simp)
    obtain ⟨b', M, g1, g2, g3, g4⟩ := zML hch hflok hspec hvar hst _ _ _ h3 hA0 (fun t ht => ht)
    have hfv : ∀ q, q ∈ fl → e1.get q.d = q.val e1 ∧ e1.var q.d = none := by
     intro q hq
     refine ⟨?_, hvar q hq⟩
     obtain ⟨hC, hU, o, ho, hd, hcase⟩ := hspec q hq
     rcases hcase with ⟨_, hv⟩ | ⟨s, hop, hv⟩
     ·unfold Fl.val; rw [hv]
     ·obtain ⟨st, st', yM⟩ := hst q hq o ho
      have hg := hch.guardC q.i o ho (.inr hU)
      rcases yM with ⟨_, r, hev, _, _, hdst⟩ | ⟨hw, _⟩
      ·obtain ⟨k1, _, _⟩ := hdst q.d hd
       rw [k1 (hflok.lt q hq)]
       simp only [evQ, hop, Option.some.injEq] at hev
       subst hev
       unfold Fl.val; rw [hv]; rfl
      ·simp only [jE, hg] at hw; cases hw
    refine ⟨jJ b' fl, (zQS (z2 (wH ops Cm).toList) ||| d1) ||| M, ?_, ?_, ?_⟩
    ·intro id w0 F0 O0 a w Q hi hQ
     refine zTZ hmix hch hS hi h1 hflok ?_ ?_ hfv ?_ g1 hQ
     ·intro i hU hC hlt
      exact s2 i (by simp [hlt, hU, hC])
     ·intro q hq
      obtain ⟨k1, k2, o, ho, hd, _⟩ := hspec q hq
      exact ⟨k1, k2, o, ho, hd⟩
     ·intro q hq
      exact zLX hch hflok hspec hvar hA0 hq (hst q hq) (List.all_eq_true.1 c4 q hq)
    ·have hd2 : zV M e1 (jJ b' fl) := (hdead.mono (fun t ht => g3 t ht)).same g2
     exact ((zGI _ e).trans h2).trans hd2
    ·rw [← Nat.or_assoc, ← Nat.or_assoc]; exact g4
   ·cases h3
  ·cases h3
 ·cases h
theorem zFl (hmix : P.follows .mixedOrders = true) (hS : qD Γ P G S.toS) {d : Bool} {fz : Option (List (Nat × Nat × Nat))} {lg : Nat} {K : Env Γ.St → Nat → Option ρ} {id : Nat} (h : zPQ P G S ops d fz e lg K = some v) :
  ∃ e' n, q9 P G (.region id ops d) e .normal e' ∧ zV n e e' ∧ K e' (lg ||| n) = some v := by
 have draw : ∀ (e : Env Γ.St) (lg k : Nat), zMF P G S ops k e lg K = some v → ∃ e' n, q9 P G (.region id ops true) e .normal e' ∧ zV n e e' ∧ K e' (lg ||| n) = some v := by
  intro e lg k h
  obtain ⟨e1, n, h1, h2, h3⟩ := zO7 hmix hS h
  exact ⟨e1, n, fun w0 F0 O0 a w hi => h1 id w0 F0 O0 a w _ hi (fun a w h => ⟨rfl, h⟩), h2, h3⟩
 unfold zPQ at h
 split at h
 ·obtain ⟨e1, n, h1, h2, h3⟩ := zLz hS _ _ _ h
  refine ⟨e1, n, ?_, h2, h3⟩
  intro w0 F0 O0 a w hi
  refine wp_region ?_
  have := zSD (Q := fun ex a' w' => ex = X.toExit .normal ∧ Inv Γ G w0 F0 O0 a' w' e1) ops 0 ops.toList e e1 a w (by simp) h1 hi (fun a w h => ⟨rfl, h⟩)
  simpa [List.range_eq_range'] using this
 ·split at h
  ·exact draw e lg _ h
  ·rw [kH] at h
   obtain ⟨e1, n, h1, h2, h3⟩ := draw _ _ _ h
   exact ⟨e1, _, fun w0 F0 O0 a w hi => h1 w0 F0 O0 a w (Inv.frzOps _ _ hi), (zEs _ e).trans h2, by rw [← Nat.or_assoc]; exact h3⟩
  ·split at h
   ·exact draw e lg _ h
   ·exact draw e lg _ h
   ·rw [kH] at h
    obtain ⟨e1, n, h1, h2, h3⟩ := zPa hmix hS h
    exact ⟨e1, _, fun w0 F0 O0 a w hi => h1 id w0 F0 O0 a w _ (Inv.frzOps _ _ hi) (fun a w h => ⟨rfl, h⟩), (zEs _ e).trans h2, by rw [← Nat.or_assoc]; exact h3⟩
theorem zTC (a b : Nat) : zVK (zRq a b) := ⟨fun _ => rfl, fun _ _ => rfl, rfl⟩
theorem zRp {K : Env Γ.St → Option ρ} : ∀ (l : List (Nat × Nat × Nat)) (e : Env Γ.St), zTh l e K = some v → ∃ e', zV 0 e e' ∧ K e' = some v ∧ ∀ (w0 : World) (F0 : Blk → Prop) (O0 : uE) (a : Act) (w : World), Inv Γ G w0 F0 O0 a w e → Inv Γ G w0 F0 O0 a w e' := by
 intro l
 induction l with
 | nil => intro e h; exact ⟨e, zV.refl e, h, fun _ _ _ _ _ h => h⟩
 | cons x r ih =>
  intro e h
  obtain ⟨a, b, n⟩ := x
  simp only [zTh] at h
  split at h
  ·split at h
   ·rename_i hb
    rw [kH] at h
    obtain ⟨e', h1, h2, h3⟩ := ih _ h
    exact ⟨e', (zCC (zTC a b) e).same h1, h2, fun w0 F0 O0 a0 w hi => h3 w0 F0 O0 a0 w (by
     simp only [Bool.and_eq_true, Bool.not_eq_true'] at hb
     exact hi.ren hb.1 (fun h => by rw [h] at hb; simp at hb) (fun h => by rw [h] at hb; simp at hb))⟩
   ·cases h
  ·rw [kH] at h
   obtain ⟨e', h1, h2, h3⟩ := ih _ h
   exact ⟨e', (zAu _ e).same h1, h2, fun w0 F0 O0 a0 w hi => h3 w0 F0 O0 a0 w (hi.frzOE _)⟩
  ·exact ih e h
theorem zLE (hmix : P.follows .mixedOrders = true) (hS : qD Γ P G S.toS) {d : Bool} {fz : Option (List (Nat × Nat × Nat))} {lg : Nat} {K : Env Γ.St → Nat → Option ρ} {id : Nat} (h : zV9 P G S ops d fz e lg K = some v) :
  ∃ e' n, q9 P G (.region id ops d) e .normal e' ∧ zV n e e' ∧ K e' (lg ||| n) = some v := by
 unfold zV9 at h
 split at h
 ·exact zFl hmix hS h
 ·exact zFl hmix hS h
 ·obtain ⟨e1, n, h1, h2, h3⟩ := zFl hmix hS (id := id) h
  obtain ⟨e2, g1, g2, g3⟩ := zRp (G := G) _ _ h3
  refine ⟨e2, n, ?_, h2.same (g1.mono (fun t _ => by simp)), g2⟩
  intro w0 F0 O0 a w hi
  exact wp_mono (h1 w0 F0 O0 a w hi) (fun ex a' w' hh => ⟨hh.1, g3 w0 F0 O0 a' w' hh.2⟩)
end
end Go.Ve

namespace Go.Ve
open Go
inductive Cell where
 | p (ty : Ty)
 | o (id : Nat) (ty : Ty)
inductive zAx where
 | t (i : Nat) (ty : Ty)
 | o (i id : Nat) (ty : Ty)
 | v (s : Nat) (cs : List Cell)
 | st
@[reducible] def Cell.El : Cell → Type
 | .p ty => ty.El
 | .o _ ty => List ty.El
@[reducible] def zOi : List Cell → Type
 | [] => Unit
 | [c] => c.El
 | c :: c' :: r => c.El × zOi (c' :: r)
@[reducible] def zAx.El (St : Type) : zAx → Type
 | .t _ ty => ty.El
 | .o _ _ ty => List ty.El
 | .v _ cs => zOi cs
 | .st => St
@[reducible] def wQ (St : Type) : List zAx → Type
 | [] => Unit
 | [c] => c.El St
 | c :: c' :: r => c.El St × wQ St (c' :: r)
def rdT (ty : Ty) : T → Option ty.El
 | .p d => ty.dec d
 | .emp => ty.dec (.sl [])
 | _ => none
def rdO (id : Nat) (ty : Ty) : T → Option (List ty.El)
 | .p (.val (.slice none 0 0)) => some []
 | .emp => some []
 | .ot i t xs => match Nat.beq i id with
  | true => zDH t ty xs
  | false => none
 | _ => none
def zPt : Nat → List T → Option (List V × List T)
 | 0, r => some ([], r)
 | n + 1, .p d :: r => match zPt n r with
  | some (ds, r') => some (d :: ds, r')
  | none => none
 | _ + 1, _ => none
def zJh : (c : Cell) → List T → Option (c.El × List T)
 | .p ty, ts => match zPt ty.size ts with
  | some (ds, r) => match ty.uncells ds with
   | some (x, []) => some (x, r)
   | _ => none
  | none => none
 | .o id ty, x :: r => match rdO id ty x with
  | some xs => some (xs, r)
  | none => none
 | .o _ _, [] => none
def zFV : (cs : List Cell) → List T → Option (zOi cs)
 | [], [] => some ()
 | [], _ :: _ => none
 | [c], ts => match zJh c ts with
  | some (x, []) => some x
  | _ => none
 | c :: c' :: r, ts => match zJh c ts with
  | some (x, ts') => match zFV (c' :: r) ts' with
   | some xs => some (x, xs)
   | none => none
  | none => none
def zI8 : (c : Cell) → c.El → List T
 | .p ty, x => (ty.cells x).map .p
 | .o id ty, xs => [.ot id ty xs]
def zFR : (cs : List Cell) → zOi cs → List T
 | [], _ => []
 | [c], x => zI8 c x
 | c :: c' :: r, x => zI8 c x.1 ++ zFR (c' :: r) x.2
section
variable {St : Type}
def zG5 (e : Env St) : (s : zAx) → Option (s.El St)
 | .t i ty => rdT ty (e.get i)
 | .o i id ty => rdO id ty (e.get i)
 | .v s cs => match e.var s with
  | some ts => zFV cs ts
  | none => none
 | .st => some e.st
def rdS (e : Env St) : (l : List zAx) → Option (wQ St l)
 | [] => some ()
 | [s] => zG5 e s
 | s :: s' :: r => match zG5 e s with
  | some x => match rdS e (s' :: r) with
   | some xs => some (x, xs)
   | none => none
  | none => none
def zB8 : (s : zAx) → s.El St → List (Nat × T)
 | .t i ty, x => [(i, .p (ty.enc x))]
 | .o i id ty, xs => [(i, .ot id ty xs)]
 | .v _ _, _ => []
 | .st, _ => []
def zDh : (s : zAx) → s.El St → List (Nat × List T)
 | .v s cs, x => [(s, zFR cs x)]
 | .t _ _, _ => []
 | .o _ _ _, _ => []
 | .st, _ => []
def tmS : (l : List zAx) → wQ St l → List (Nat × T)
 | [], _ => []
 | [s], x => zB8 s x
 | s :: s' :: r, x => zB8 s x.1 ++ tmS (s' :: r) x.2
def vS : (l : List zAx) → wQ St l → List (Nat × List T)
 | [], _ => []
 | [s], x => zDh s x
 | s :: s' :: r, x => zDh s x.1 ++ vS (s' :: r) x.2
def zJc : (s : zAx) → s.El St → Option St
 | .st, x => some x
 | .t _ _, _ => none
 | .o _ _ _, _ => none
 | .v _ _, _ => none
def stS : (l : List zAx) → wQ St l → Option St
 | [], _ => none
 | [s], x => zJc s x
 | s :: s' :: r, x => match zJc s x.1 with
  | some y => some y
  | none => stS (s' :: r) x.2
def zXT (x : Option St) (y : St) : St :=
 match x with
 | some z => z
 | none => y
def zDA : List zAx → Bool
 | [] => false
 | .st :: _ => true
 | .t _ _ :: r => zDA r
 | .o _ _ _ :: r => zDA r
 | .v _ _ :: r => zDA r
end
def zBN {α : Type} : List (Nat × α) → Nat → Option α
 | [], _ => none
 | (j, x) :: r, i => match Nat.beq j i with
  | true => some x
  | false => zBN r i
def zI1 : List T → Bool
 | [] => true
 | .p _ :: r => zI1 r
 | _ => false
def zL6 (m i : Nat) : Option (List T) → Option (List T)
 | some cs => match Nat.testBit m (2 * i) || Nat.testBit m (2 * i + 1) || !zI1 cs with
  | true => none
  | false => some cs
 | none => none
def uS (m : Nat) (vs : List (Nat × List T)) : Nat → List (Option (List T)) → List (Option (List T))
 | _, [] => []
 | i, x :: r => (match zBN vs i with
  | some y => some y
  | none => zL6 m i x) :: uS m vs (i + 1) r
def zL9 (vars : List (Option (List T))) (s : Nat) : Bool :=
 match vars[s]? with
 | some (some _) => true
 | _ => false
def zNS (m : Nat) (vars : List (Option (List T))) : T → T
 | .p d => .p d
 | .lp s off => match !Nat.testBit m (2 * s) && zL9 vars s with
  | true => .lp s off
  | false => .dead
 | _ => .dead
def zFx (m : Nat) (ts : List (Nat × T)) (vars : List (Option (List T))) : Nat → List T → List T
 | _, [] => []
 | i, x :: r => (match zBN ts i with
  | some y => y
  | none => match Nat.testBit m (2 * i) with
   | true => .dead
   | false => zNS m vars x) :: zFx m ts vars (i + 1) r
structure JA where
 mask : Nat
 lps : List (Nat × Nat × Nat)
 sl : List zAx
def lpT (vars : List (Option (List T))) (s off : Nat) : T :=
 match zL9 vars s with
 | true => .lp s off
 | false => .dead
def zOM (vars : List (Option (List T))) : List (Nat × Nat × Nat) → List (Nat × T)
 | [] => []
 | (i, s, off) :: r => (i, lpT vars s off) :: zOM vars r
def zIu : List (Nat × Nat × Nat) → Nat
 | [] => 0
 | (i, _, _) :: r => 2 ^ (2 * i) ||| zIu r
def vM : List zAx → Nat
 | [] => 0
 | .t i _ :: r => 2 ^ (2 * i) ||| vM r
 | .o i _ _ :: r => 2 ^ (2 * i) ||| vM r
 | .v s _ :: r => 2 ^ (2 * s + 1) ||| vM r
 | .st :: r => vM r
def JA.bits (j : JA) : Nat := j.mask ||| (zIu j.lps ||| vM j.sl)
def zXl (s off : Nat) : T → Bool
 | .lp s' off' => Nat.beq s' s && Nat.beq off' off
 | _ => false
section
variable {St : Type}
def zVw (e : Env St) : List (Nat × Nat × Nat) → Bool
 | [] => true
 | (i, s, off) :: r => zXl s off (e.get i) && zVw e r
def rdJ (j : JA) (e : Env St) : Option (wQ St j.sl) :=
 match zVw e j.lps with
 | true => rdS e j.sl
 | false => none
def jG (j : JA) (e : Env St) (s : wQ St j.sl) : Env St :=
 ⟨zFx j.bits (zOM (uS j.bits (vS j.sl s) 0 e.vars) j.lps ++ tmS j.sl s) (uS j.bits (vS j.sl s) 0 e.vars) 0 e.tm, uS j.bits (vS j.sl s) 0 e.vars, zXT (stS j.sl s) e.st⟩
def yY : List zAx → Nat → Bool
 | [], _ => false
 | .v s _ :: r, i => Nat.beq s i || yY r i
 | .t _ _ :: r, i => yY r i
 | .o _ _ _ :: r, i => yY r i
 | .st :: r, i => yY r i
def zRw (j : JA) (e : Env St) : Nat → List T → Bool
 | _, [] => true
 | i, .lp s _ :: r => (Nat.testBit j.bits (2 * i) || Nat.testBit j.bits (2 * s) || (yY j.sl s && (e.vars[s]?).isSome) || (zL6 j.bits s (e.var s)).isSome) && zRw j e (i + 1) r
 | i, _ :: r => zRw j e (i + 1) r
def okJ (j : JA) (e : Env St) : Bool := zRw j e 0 e.tm
def zO0 (j : JA) (e : Env St) (lg : Nat) : Option (wQ St j.sl) :=
 match Nat.beq (lg ||| j.bits) j.bits with
 | true => rdJ j e
 | false => none
end
def qQ {σ ρ : Type} (m : Option (σ ⊕ ρ)) (K : σ → Option ρ) : Option ρ :=
 match m with
 | none => none
 | some (.inl s) => K s
 | some (.inr r) => some r
def zCq {σ ρ : Type} (f : σ → Option (σ ⊕ ρ)) : Nat → σ → Option ρ
 | 0, _ => none
 | n + 1, s => match f s with
  | none => none
  | some (.inl s') => zCq f n s'
  | some (.inr r) => some r
open Classical in
noncomputable def zO {σ ρ : Type} (f : σ → Option (σ ⊕ ρ)) (s : σ) : Option ρ :=
 if h : ∃ n r, zCq f n s = some r then some (Classical.choose (Classical.choose_spec h)) else none
theorem zL8 {σ ρ : Type} {f : σ → Option (σ ⊕ ρ)} : ∀ (n m : Nat) (s : σ) (r : ρ), n ≤ m → zCq f n s = some r → zCq f m s = some r := by
 intro n
 induction n with
 | zero => intro m s r _ h; simp [zCq] at h
 | succ n ih =>
  intro m s r hm h
  obtain ⟨m', rfl⟩ : ∃ m', m = m' + 1 := ⟨m - 1, by omega⟩
  simp only [zCq] at h ⊢
  split at h
  ·cases h
  ·exact ih m' _ r (by omega) h
  ·exact h
theorem zFY {σ ρ : Type} {f : σ → Option (σ ⊕ ρ)} {s : σ} {r : ρ} : zO f s = some r ↔ ∃ n, zCq f n s = some r := by
 unfold zO
 constructor
 ·intro h
  split at h
  ·rename_i hex
   simp only [Option.some.injEq] at h
   subst h
   exact ⟨_, Classical.choose_spec (Classical.choose_spec hex)⟩
  ·cases h
 ·rintro ⟨n, hn⟩
  have hex : ∃ n r, zCq f n s = some r := ⟨n, r, hn⟩
  rw [dif_pos hex]
  have h1 := Classical.choose_spec (Classical.choose_spec hex)
  have h2 := zL8 _ (max (Classical.choose hex) n) s _ (by omega) h1
  have h3 := zL8 _ (max (Classical.choose hex) n) s _ (by omega) hn
  rw [h2] at h3
  exact h3
theorem zUY {σ ρ : Type} (f : σ → Option (σ ⊕ ρ)) (s : σ) : zO f s = match f s with
  | none => none
  | some (.inl s') => zO f s'
  | some (.inr r) => some r := by
 have key : ∀ r, zO f s = some r ↔ (match f s with
  | none => none
  | some (.inl s') => zO f s'
  | some (.inr r) => some r) = some r := by
  intro r
  rw [zFY]
  constructor
  ·rintro ⟨n, hn⟩
   cases n with
   | zero => simp [zCq] at hn
   | succ n =>
    simp only [zCq] at hn
    split at hn
    ·cases hn
    ·exact zFY.2 ⟨n, hn⟩
    ·exact hn
  ·intro h
   split at h
   ·cases h
   ·obtain ⟨n, hn⟩ := zFY.1 h
    rename_i s' hs
    exact ⟨n + 1, by simp only [zCq, hs]; exact hn⟩
   ·rename_i r' hs
    exact ⟨1, by simp only [zCq, hs]; exact h⟩
 cases hl : zO f s with
 | some r => exact ((key r).1 hl).symm
 | none =>
  generalize hm : (match f s with
   | none => none
   | some (.inl s') => zO f s'
   | some (.inr r) => some r) = m at key ⊢
  cases m with
  | none => rfl
  | some r => rw [(key r).2 rfl] at hl; cases hl
theorem zTs {σ ρ : Type} {f : σ → Option (σ ⊕ ρ)} (J : σ → Prop) (m : σ → Nat) (Q : ρ → Prop)
  (step : ∀ s, J s → ∃ o, f s = some o ∧ match o with
   | .inl s' => J s' ∧ m s' < m s
   | .inr r => Q r) {s : σ} (h : J s) : ∃ r, zO f s = some r ∧ Q r := by
 have key : ∀ (n : Nat) (s : σ), m s = n → J s → ∃ r, zO f s = some r ∧ Q r := by
  intro n
  induction n using Nat.strongRecOn with
  | _ n ih =>
   intro s hs hj
   obtain ⟨o, ho, h1⟩ := step s hj
   rw [zUY, ho]
   cases o with
   | inl s' => exact ih _ (by rw [← hs]; exact h1.2) s' rfl h1.1
   | inr r => exact ⟨r, rfl, h1⟩
 exact key _ s rfl h
def zHf : List Nat → Code → Bool
 | ids, .exit id => ids.any (Nat.beq id)
 | _, .ret => false
 | ids, .seq a b => zHf ids a && zHf ids b
 | ids, .cond _ a b => zHf ids a && zHf ids b
 | ids, .block id a => zHf (id :: ids) a
 | ids, .loop a => zHf ids a
 | _, _ => true
section
variable {Γ : Sig} (P : jC) (G : Nat → Option (List V)) (S : zS Γ) (A : Nat → Option JA)
def zHI {ρ : Type} (body : (X → Env Γ.St → Nat → Option ρ) → Env Γ.St → Nat → Option ρ) (K : X → Env Γ.St → Nat → Option ρ) : Nat → Env Γ.St → Nat → Option ρ
 | 0, _, _ => none
 | n + 1, e, lg => body (fun k e1 lg1 => match k with
  | .normal => zHI body K n e1 lg1
  | k => K k e1 lg1) e lg
def zWk (t : Nat) (c : Code) : Option JA :=
 match zL4 c with
 | some k => A (4 * k + t)
 | none => none
noncomputable def exC : Code → (ρ : Type) → (X → Env Γ.St → Nat → Option ρ) → Env Γ.St → Nat → Option ρ
 | .skip, _, K, e, lg => K .normal e lg
 | .seq x y, ρ, K, e, lg => match zWk A 0 y with
  | some j => match zHf [] x with
   | true => zIr (okJ j e) (Option.bind (exC x (wQ Γ.St j.sl) (fun k e1 lg1 => match k with
     | .normal => zO0 j e1 lg1
     | _ => none) e 0) (fun s => zCp (jG j e s) (fun e1 => exC y ρ K e1 (lg ||| j.bits))))
   | false => zIr (okJ j e) (qQ (exC x (wQ Γ.St j.sl ⊕ ρ) (fun k e1 lg1 => match k with
     | .normal => (zO0 j e1 lg1).map .inl
     | k => (K k e1 (lg ||| lg1)).map .inr) e 0) (fun s => zCp (jG j e s) (fun e1 => exC y ρ K e1 (lg ||| j.bits))))
  | none => exC x ρ (fun k e1 lg1 => match k with
   | .normal => exC y ρ K e1 lg1
   | k => K k e1 lg1) e lg
 | .cond c x y, ρ, K, e, lg => match evx G e c with
  | .p (.val (.bool b)) => cond b (exC x ρ K e lg) (exC y ρ K e lg)
  | _ => none
 | .block id c, ρ, K, e, lg => exC c ρ (fun k e1 lg1 => K (k.out id) e1 lg1) e lg
 | .loop c, ρ, K, e, lg => match zWk A 1 c with
  | some j => zIr (okJ j e) (Option.bind (rdJ j e) (fun s0 => zO (fun s => zCp (jG j e s) (fun e0 => exC c (wQ Γ.St j.sl ⊕ ρ) (fun k e1 lg1 => match k with
    | .normal => (zO0 j e1 lg1).map .inl
    | k => (K k e1 (lg ||| (j.bits ||| lg1))).map .inr) e0 0)) s0))
  | none => zHI (exC c ρ) K 80 e lg
 | .exit id, _, K, e, lg => K (.exit id) e lg
 | .ret, _, K, e, lg => K .ret e lg
 | .region id ops d, _, K, e, lg => match A (4 * id + 2) with
  | some j => zIr (okJ j e) (Option.bind (zV9 P G S ops d ((A (4 * id + 3)).map (·.lps)) e 0 (fun e1 lg1 => zO0 j e1 lg1)) (fun s => zCp (jG j e s) (fun e1 => K .normal e1 (lg ||| j.bits))))
  | none => zV9 P G S ops d ((A (4 * id + 3)).map (·.lps)) e lg (fun e1 lg1 => K .normal e1 lg1)
 | _, _, _, _, _ => none
end
theorem zPs : ∀ (n : Nat) (ts : List T) (ds : List V) (r : List T), zPt n ts = some (ds, r) → ts = ds.map .p ++ r ∧ ds.length = n := by
 intro n
 induction n with
 | zero => intro ts ds r h; simp only [zPt, Option.some.injEq, Prod.mk.injEq] at h; obtain ⟨rfl, rfl⟩ := h; exact ⟨rfl, rfl⟩
 | succ n ih =>
  intro ts ds r h
  unfold zPt at h
  split at h
  ·rename_i heq; cases heq
  ·rename_i m d r0 heq
   cases heq
   split at h
   ·rename_i ds' r' hr
    simp only [Option.some.injEq, Prod.mk.injEq] at h
    obtain ⟨rfl, rfl⟩ := h
    obtain ⟨h1, h2⟩ := ih _ _ _ hr
    exact ⟨by rw [h1]; rfl, by simp [h2]⟩
   ·cases h
  ·cases h
theorem xM.append : ∀ {xs ys xs' ys' : List T}, xM xs ys → xM xs' ys' → xM (xs ++ xs') (ys ++ ys')
 | [], [], _, _, _, h => h
 | _ :: _, _ :: _, _, _, h, h' => ⟨h.1, xM.append h.2 h'⟩
 | [], _ :: _, _, _, h, _ => h.elim
 | _ :: _, [], _, _, h, _ => h.elim
theorem xM.ofV : ∀ {xs ys : List V}, j7 xs ys → xM (xs.map .p) (ys.map .p)
 | [], [], _ => trivial
 | _ :: _, _ :: _, h => ⟨fun w F _ _ v hr => h.1 w F v hr, xM.ofV h.2⟩
 | [], _ :: _, h => h.elim
 | _ :: _, [], h => h.elim
theorem zTi {ty : Ty} {x : T} {a : ty.El} (h : rdT ty x = some a) : WkT x (.p (ty.enc a)) := by
 unfold rdT at h
 split at h
 ·exact fun w F _ _ v hr => w8 h w F v hr
 ·intro w F β al v hr
  obtain ⟨ad, rfl⟩ := hr
  exact w8 h w F _ (.slemp ad 0)
 ·cases h
theorem yV {t t' : Ty} {xs : List t.El} {ys : List t'.El} (h : zDH t t' xs = some ys) : zQr t t' xs ys := by
 simp only [zQr, h]
theorem zNH {id : Nat} {ty : Ty} {x : T} {xs : List ty.El} (h : rdO id ty x = some xs) : WkT x (.ot id ty xs) := by
 unfold rdO at h
 split at h
 ·simp only [Option.some.injEq] at h; subst h
  exact fun w F β al v hh => .inl ⟨rfl, none, Rd.eq_val hh⟩
 ·simp only [Option.some.injEq] at h; subst h
  exact fun w F β al v hh => .inl ⟨rfl, hh⟩
 ·rename_i i t ys
  split at h
  ·rename_i hb
   have hi := Nat.eq_of_beq_eq_true hb
   subst hi
   obtain ⟨ht, h⟩ := yP (yV h)
   subst ht
   subst h
   exact .refl _
  ·cases h
 ·cases h
theorem zH8 : ∀ {c : Cell} {ts r : List T} {x : c.El}, zJh c ts = some (x, r) → ∃ ts1, ts = ts1 ++ r ∧ xM ts1 (zI8 c x)
 | .p ty, ts, r, x, h => by
  simp only [zJh] at h
  split at h
  ·rename_i ds r' hr
   split at h
   ·rename_i y hy
    simp only [Option.some.injEq, Prod.mk.injEq] at h
    obtain ⟨rfl, rfl⟩ := h
    obtain ⟨h1, h2⟩ := zPs _ _ _ _ hr
    obtain ⟨cs1, h3, h4⟩ := q8 _ _ _ _ hy
    rw [List.append_nil] at h3
    subst h3
    exact ⟨_, h1, xM.ofV h4⟩
   ·cases h
  ·cases h
 | .o id ty, y :: ts, r, x, h => by
  simp only [zJh] at h
  split at h
  ·rename_i xs hx
   simp only [Option.some.injEq, Prod.mk.injEq] at h
   obtain ⟨rfl, rfl⟩ := h
   exact ⟨[y], rfl, zNH hx, trivial⟩
  ·cases h
 | .o _ _, [], _, _, h => by simp [zJh] at h
theorem zGA : ∀ (cs : List Cell) (ts : List T) (x : zOi cs), zFV cs ts = some x → xM ts (zFR cs x)
 | [], [], _, _ => trivial
 | [], _ :: _, _, h => by simp [zFV] at h
 | [c], ts, x, h => by
  simp only [zFV] at h
  split at h
  ·rename_i y hy
   simp only [Option.some.injEq] at h
   subst h
   obtain ⟨ts1, h1, h2⟩ := zH8 hy
   rw [List.append_nil] at h1
   subst h1
   exact h2
  ·cases h
 | c :: c' :: r, ts, x, h => by
  simp only [zFV] at h
  split at h
  ·rename_i y ts' hy
   split at h
   ·rename_i ys hys
    simp only [Option.some.injEq] at h
    subst h
    obtain ⟨ts1, h1, h2⟩ := zH8 hy
    subst h1
    exact h2.append (zGA (c' :: r) ts' ys hys)
   ·cases h
  ·cases h
section
variable {St : Type} {e e1 : Env St}
theorem zNG {s : zAx} {x : s.El St} (h : zG5 e s = some x) : ∀ i y, (i, y) ∈ zB8 s x → WkT (e.get i) y := by
 intro i y hy
 cases s with
 | t j ty =>
  simp only [zB8, List.mem_singleton, Prod.mk.injEq] at hy
  obtain ⟨rfl, rfl⟩ := hy
  exact zTi h
 | o j id ty =>
  simp only [zB8, List.mem_singleton, Prod.mk.injEq] at hy
  obtain ⟨rfl, rfl⟩ := hy
  exact zNH h
 | v s cs => simp [zB8] at hy
 | st => simp [zB8] at hy
theorem zPT {s : zAx} {x : s.El St} (h : zG5 e s = some x) : ∀ i cs2, (i, cs2) ∈ zDh s x → ∃ cs, e.var i = some cs ∧ xM cs cs2 := by
 intro i y hy
 cases s with
 | t j ty => simp [zDh] at hy
 | o j id ty => simp [zDh] at hy
 | st => simp [zDh] at hy
 | v s cs =>
  simp only [zDh, List.mem_singleton, Prod.mk.injEq] at hy
  obtain ⟨rfl, rfl⟩ := hy
  simp only [zG5] at h
  split at h
  ·rename_i ts hts
   exact ⟨ts, hts, zGA _ _ _ h⟩
  ·cases h
theorem zUD : ∀ {l : List zAx} {x : wQ St l}, rdS e l = some x → ∀ i y, (i, y) ∈ tmS l x → WkT (e.get i) y
 | [], _, _, i, y, hy => by simp [tmS] at hy
 | [s], x, h, i, y, hy => zNG (s := s) h i y hy
 | s :: s' :: r, x, h, i, y, hy => by
  simp only [rdS] at h
  split at h
  ·rename_i a ha
   split at h
   ·rename_i as has
    simp only [Option.some.injEq] at h
    subst h
    simp only [tmS, List.mem_append] at hy
    rcases hy with hy | hy
    ·exact zNG ha i y hy
    ·exact zUD has i y hy
   ·cases h
  ·cases h
theorem zWN : ∀ {l : List zAx} {x : wQ St l}, rdS e l = some x → ∀ i cs2, (i, cs2) ∈ vS l x → ∃ cs, e.var i = some cs ∧ xM cs cs2
 | [], _, _, i, y, hy => by simp [vS] at hy
 | [s], x, h, i, y, hy => zPT (s := s) h i y hy
 | s :: s' :: r, x, h, i, y, hy => by
  simp only [rdS] at h
  split at h
  ·rename_i a ha
   split at h
   ·rename_i as has
    simp only [Option.some.injEq] at h
    subst h
    simp only [vS, List.mem_append] at hy
    rcases hy with hy | hy
    ·exact zPT ha i y hy
    ·exact zWN has i y hy
   ·cases h
  ·cases h
theorem zUE : ∀ {l : List zAx} {x : wQ St l}, rdS e l = some x → ∀ y, stS l x = some y → y = e.st
 | [], _, _, y, hy => by simp [stS] at hy
 | [s], x, h, y, hy => by
  cases s <;> simp [stS, zJc] at hy
  simp only [rdS, zG5, Option.some.injEq] at h
  rw [← hy, ← h]
 | s :: s' :: r, x, h, y, hy => by
  simp only [rdS] at h
  split at h
  ·rename_i a ha
   split at h
   ·rename_i as has
    simp only [Option.some.injEq] at h
    subst h
    simp only [stS] at hy
    split at hy
    ·rename_i z hz
     cases s <;> simp [zJc] at hz
     simp only [zG5, Option.some.injEq] at ha
     simp only [Option.some.injEq] at hy
     rw [← hy, ← hz, ← ha]
    ·exact zUE has y hy
   ·cases h
  ·cases h
theorem zPA : ∀ {l : List zAx} (x : wQ St l), zDA l = true → ∃ y, stS l x = some y
 | [], _, h => by simp [zDA] at h
 | [s], x, h => by
  cases s <;> simp [zDA] at h
  exact ⟨x, rfl⟩
 | s :: s' :: r, x, h => by
  simp only [stS]
  cases hs : zJc s x.1 with
  | some y => exact ⟨y, rfl⟩
  | none =>
   have h' : zDA (s' :: r) = true := by
    cases s <;> simp only [zDA] at h ⊢ <;> first | exact h | simp [zJc] at hs
   obtain ⟨y, hy⟩ := zPA (l := s' :: r) x.2 h'
   exact ⟨y, hy⟩
theorem zDz {α : Type} : ∀ {l : List (Nat × α)} {i : Nat} {x : α}, zBN l i = some x → (i, x) ∈ l
 | [], _, _, h => by simp [zBN] at h
 | (j, y) :: r, i, x, h => by
  simp only [zBN] at h
  split at h
  ·rename_i hb
   have := Nat.eq_of_beq_eq_true hb
   subst this
   simp only [Option.some.injEq] at h
   subst h
   exact List.mem_cons_self
  ·exact List.mem_cons_of_mem _ (zDz h)
theorem zBX (m : Nat) (vs : List (Nat × List T)) : ∀ (l : List (Option (List T))) (n i : Nat), (uS m vs n l)[i]? = (l[i]?).map (fun x => match zBN vs (n + i) with
  | some y => some y
  | none => zL6 m (n + i) x)
 | [], n, i => by simp [uS]
 | x :: r, n, i => by
  cases i with
  | zero => simp [uS]
  | succ i => simp only [uS, List.getElem?_cons_succ]; rw [zBX m vs r (n + 1) i]; rw [show n + 1 + i = n + (i + 1) by omega]
theorem zHi (m : Nat) (ts : List (Nat × T)) (vars : List (Option (List T))) : ∀ (l : List T) (n i : Nat), (zFx m ts vars n l)[i]? = (l[i]?).map (fun x => match zBN ts (n + i) with
  | some y => y
  | none => match Nat.testBit m (2 * (n + i)) with
   | true => .dead
   | false => zNS m vars x)
 | [], n, i => by simp [zFx]
 | x :: r, n, i => by
  cases i with
  | zero => simp [zFx]
  | succ i => simp only [zFx, List.getElem?_cons_succ]; rw [zHi m ts vars r (n + 1) i]; rw [show n + 1 + i = n + (i + 1) by omega]
theorem zIw (m : Nat) (vs : List (Nat × List T)) : ∀ (l : List (Option (List T))) (n : Nat), (uS m vs n l).length = l.length
 | [], _ => rfl
 | _ :: r, n => by simp [uS, zIw m vs r (n + 1)]
theorem zL7 (m : Nat) (ts : List (Nat × T)) (vars : List (Option (List T))) : ∀ (l : List T) (n : Nat), (zFx m ts vars n l).length = l.length
 | [], _ => rfl
 | _ :: r, n => by simp [zFx, zL7 m ts vars r (n + 1)]
theorem zSY : ∀ {cs : List T}, zI1 cs = true → ∃ ds : List V, cs = ds.map .p
 | [], _ => ⟨[], rfl⟩
 | .p d :: r, h => by
  obtain ⟨ds, hds⟩ := zSY (cs := r) h
  exact ⟨d :: ds, by rw [hds]; rfl⟩
 | .ow _ _ _ :: _, h => by simp [zI1] at h
 | .oe _ _ _ _ _ :: _, h => by simp [zI1] at h
 | .lp _ _ :: _, h => by simp [zI1] at h
 | .mp _ _ _ :: _, h => by simp [zI1] at h
 | .ot _ _ _ :: _, h => by simp [zI1] at h
 | .oet _ _ _ _ _ :: _, h => by simp [zI1] at h
 | .ov _ _ _ _ _ :: _, h => by simp [zI1] at h
 | .emp :: _, h => by simp [zI1] at h
 | .dead :: _, h => by simp [zI1] at h
theorem zL5 {m i : Nat} {x : Option (List T)} {cs : List T} (h : zL6 m i x = some cs) : x = some cs ∧ m.testBit (2 * i) = false ∧ m.testBit (2 * i + 1) = false ∧ ∃ ds : List V, cs = ds.map .p := by
 unfold zL6 at h
 split at h
 ·split at h
  ·cases h
  ·rename_i hb
   simp only [Bool.or_eq_false_iff, Bool.not_eq_false'] at hb
   simp only [Option.some.injEq] at h
   subst h
   exact ⟨rfl, hb.1.1, hb.1.2, zSY hb.2⟩
 ·cases h
theorem zDO {s : Nat} {cs : List T} (h : e.vars[s]? = some (some cs)) : e.var s = some cs := by simp [Env.var, h]
theorem zHj {s : Nat} {cs : List T} (h : e.var s = some cs) : e.vars[s]? = some (some cs) := by
 simp only [Env.var] at h
 cases hs : e.vars[s]? with
 | none => rw [hs] at h; cases h
 | some x => rw [hs] at h; simp only [Option.getD_some] at h; rw [h]
theorem zNU {j : JA} {s : wQ St j.sl} {i : Nat} {cs2 : List T} (h : (jG j e s).var i = some cs2) :
  (i, cs2) ∈ vS j.sl s ∨ (e.var i = some cs2 ∧ j.bits.testBit (2 * i) = false ∧ j.bits.testBit (2 * i + 1) = false ∧ ∃ ds : List V, cs2 = ds.map .p) := by
 have h1 := zHj h
 simp only [jG] at h1
 rw [zBX] at h1
 simp only [Option.map_eq_some_iff, Nat.zero_add] at h1
 obtain ⟨x, hx, h2⟩ := h1
 split at h2
 ·rename_i y hy
  simp only [Option.some.injEq] at h2
  subst h2
  exact .inl (zDz hy)
 ·obtain ⟨rfl, h3, h4, h5⟩ := zL5 h2
  exact .inr ⟨zDO hx, h3, h4, h5⟩
theorem zL1 {vars : List (Option (List T))} : ∀ {l : List (Nat × Nat × Nat)} {i : Nat} {y : T}, (i, y) ∈ zOM vars l → ∃ s off, (i, s, off) ∈ l ∧ y = lpT vars s off
 | [], _, _, h => by simp [zOM] at h
 | (j, s, off) :: r, i, y, h => by
  simp only [zOM, List.mem_cons, Prod.mk.injEq] at h
  rcases h with ⟨rfl, rfl⟩ | h
  ·exact ⟨s, off, List.mem_cons_self, rfl⟩
  ·obtain ⟨s', off', h1, h2⟩ := zL1 h
   exact ⟨s', off', List.mem_cons_of_mem _ h1, h2⟩
theorem zWm {s off : Nat} {x : T} (h : zXl s off x = true) : x = .lp s off := by
 unfold zXl at h
 split at h
 ·simp only [Bool.and_eq_true] at h
  rw [Nat.eq_of_beq_eq_true h.1, Nat.eq_of_beq_eq_true h.2]
 ·cases h
theorem zQM : ∀ {l : List (Nat × Nat × Nat)}, zVw e l = true → ∀ i s off, (i, s, off) ∈ l → e.get i = .lp s off
 | [], _, _, _, _, h => by simp at h
 | (j, s0, off0) :: r, h, i, s, off, hm => by
  simp only [zVw, Bool.and_eq_true] at h
  simp only [List.mem_cons, Prod.mk.injEq] at hm
  rcases hm with ⟨rfl, rfl, rfl⟩ | hm
  ·exact zWm h.1
  ·exact zQM h.2 i s off hm
theorem zTr (vars : List (Option (List T))) (s off : Nat) : lpT vars s off = .dead ∨ (lpT vars s off = .lp s off ∧ zL9 vars s = true) := by
 unfold lpT
 split
 ·rename_i h; exact .inr ⟨rfl, h⟩
 ·exact .inl rfl
theorem zTw {j : JA} {s : wQ St j.sl} {i : Nat} (hi : i < e.tm.length) :
  (∃ y, (i, y) ∈ zOM (jG j e s).vars j.lps ++ tmS j.sl s ∧ (jG j e s).get i = y) ∨
   ((jG j e s).get i = .dead) ∨ (j.bits.testBit (2 * i) = false ∧ (jG j e s).get i = zNS j.bits (jG j e s).vars (e.get i)) := by
 have h1 : (jG j e s).tm[i]? = _ := zHi j.bits (zOM (jG j e s).vars j.lps ++ tmS j.sl s) (jG j e s).vars e.tm 0 i
 rw [List.getElem?_eq_getElem hi, Option.map_some, Nat.zero_add] at h1
 have hg : (jG j e s).get i = ((jG j e s).tm[i]?).getD .dead := by simp [Env.get, List.getD_eq_getElem?_getD]
 have he : e.get i = e.tm[i] := by simp [Env.get, hi]
 rw [hg, h1, he]
 simp only [Option.getD_some]
 split
 ·rename_i y hy
  exact .inl ⟨y, zDz hy, rfl⟩
 ·split
  ·exact .inr (.inl rfl)
  ·rename_i hb
   exact .inr (.inr ⟨hb, rfl⟩)
theorem zF1 {j : JA} {s : wQ St j.sl} : (jG j e s).tm.length = e.tm.length ∧ (jG j e s).vars.length = e.vars.length :=
 ⟨zL7 _ _ _ _ _, zIw _ _ _ _⟩
theorem zU4 {i : Nat} (h : e.tm.length ≤ i) : e.get i = .dead := by simp [Env.get, List.getD_eq_getElem?_getD, h]
theorem zJw {s : Nat} : zL9 e.vars s = true ↔ ∃ cs, e.var s = some cs := by
 unfold zL9
 constructor
 ·intro h
  split at h
  ·rename_i cs hcs; exact ⟨cs, zDO hcs⟩
  ·cases h
 ·rintro ⟨cs, hcs⟩
  rw [zHj hcs]
end
theorem zSW {St : Type} {l : List zAx} {x : wQ St l} : ∀ {i : Nat} {y : T}, (i, y) ∈ tmS l x → (vM l).testBit (2 * i) = true := by
 match l, x with
 | [], _ => intro i y h; simp [tmS] at h
 | [s], x =>
  intro i y h
  cases s <;> simp only [tmS, zB8, List.mem_singleton, Prod.mk.injEq, List.not_mem_nil] at h
  all_goals
   obtain ⟨rfl, _⟩ := h
   simp [vM, Nat.testBit_two_pow]
 | s :: s' :: r, x =>
  intro i y h
  simp only [tmS, List.mem_append] at h
  rcases h with h | h
  ·cases s <;> simp only [zB8, List.mem_singleton, Prod.mk.injEq, List.not_mem_nil] at h
   all_goals
    obtain ⟨rfl, _⟩ := h
    simp [vM, Nat.testBit_two_pow, Nat.testBit_or]
  ·have := zSW (l := s' :: r) (x := x.2) h
   cases s <;> simp [vM, Nat.testBit_or] at this ⊢ <;> first | exact .inr this | exact this
theorem zVz {St : Type} {l : List zAx} {x : wQ St l} : ∀ {i : Nat} {y : List T}, (i, y) ∈ vS l x → (vM l).testBit (2 * i + 1) = true := by
 match l, x with
 | [], _ => intro i y h; simp [vS] at h
 | [s], x =>
  intro i y h
  cases s <;> simp only [vS, zDh, List.mem_singleton, Prod.mk.injEq, List.not_mem_nil] at h
  all_goals
   obtain ⟨rfl, _⟩ := h
   simp [vM, Nat.testBit_two_pow]
 | s :: s' :: r, x =>
  intro i y h
  simp only [vS, List.mem_append] at h
  rcases h with h | h
  ·cases s <;> simp only [zDh, List.mem_singleton, Prod.mk.injEq, List.not_mem_nil] at h
   all_goals
    obtain ⟨rfl, _⟩ := h
    simp [vM, Nat.testBit_two_pow, Nat.testBit_or]
  ·have := zVz (l := s' :: r) (x := x.2) h
   cases s <;> simp [vM, Nat.testBit_or] at this ⊢ <;> first | exact .inr this | exact this
theorem zOs {St : Type} : ∀ {l : List zAx} {x : wQ St l} {i : Nat}, yY l i = true → ∃ cs, zBN (vS l x) i = some cs := by
 have app : ∀ {a b : List (Nat × List T)} {i : Nat}, ((∃ cs, zBN a i = some cs) ∨ ∃ cs, zBN b i = some cs) → ∃ cs, zBN (a ++ b) i = some cs := by
  intro a b i h
  induction a with
  | nil =>
   rcases h with ⟨cs, h⟩ | h
   ·simp [zBN] at h
   ·exact h
  | cons x a ih =>
   obtain ⟨k, y⟩ := x
   simp only [List.cons_append, zBN] at h ⊢
   split
   ·exact ⟨_, rfl⟩
   ·rename_i hb
    simp only [hb] at h
    exact ih h
 have one : ∀ {s : zAx} {x : s.El St} {i : Nat}, yY [s] i = true → ∃ cs, zBN (zDh s x) i = some cs := by
  intro s x i h
  cases s <;> simp only [yY, Bool.or_false, Bool.false_eq_true] at h
  simp only [zDh, zBN, h]
  exact ⟨_, rfl⟩
 intro l
 induction l with
 | nil => intro x i h; simp [yY] at h
 | cons s r ih =>
  intro x i h
  cases r with
  | nil => exact one (s := s) (x := x) h
  | cons s' r =>
   have h2 : yY [s] i = true ∨ yY (s' :: r) i = true := by
    cases s <;> simp only [yY, Bool.or_eq_true, Bool.or_false] at h ⊢
    ·exact .inr h
    ·exact .inr h
    ·exact h
    ·exact .inr h
   simp only [vS]
   rcases h2 with h2 | h2
   ·exact app (.inl (one h2))
   ·exact app (.inr (ih h2))
theorem zQR : ∀ {l : List (Nat × Nat × Nat)} {i s off : Nat}, (i, s, off) ∈ l → (zIu l).testBit (2 * i) = true
 | [], _, _, _, h => by simp at h
 | (j, s0, off0) :: r, i, s, off, h => by
  simp only [List.mem_cons, Prod.mk.injEq] at h
  simp only [zIu, Nat.testBit_or, Bool.or_eq_true, Nat.testBit_two_pow, decide_eq_true_eq]
  rcases h with ⟨rfl, _⟩ | h
  ·exact .inl rfl
  ·exact .inr (zQR h)
end Go.Ve
