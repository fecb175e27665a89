/-
  Drawn regions that write, part 2: floating operations; the chain of what writes.
  Drawn regions that write, part 3: in whatever order, they come to what the chain comes to.
  Drawn regions that write, part 4: the beginning; the whole region.
  Rows that are lent: the call that turns a row of the frame's own.
-/
import Derived.Test.YthhmapljcdohnaaGreatCs8
set_option linter.unusedVariables false
namespace Go.Ve
open Go

/-- What a floating operation leaves: a value; what another temporary holds. -/
inductive FV where
  | c (x : T)
  | a (s : Nat)

structure Fl where
  i : Nat
  d : Nat
  v : FV

section
variable {St : Type}

def Fl.val (q : Fl) (e : Env St) : T :=
  match q.v with
  | .c x => x
  | .a s => e.get s

def putF (e : Env St) (q : Fl) : Env St := { e with tm := e.tm.set q.d (q.val e) }

def putL (e : Env St) (L : List Fl) : Env St := L.foldl putF e

/-- The temporaries of floating operations are all different, and nobody copies one of them. -/
structure FlOk (n : Nat) (L : List Fl) : Prop where
  dist : L.Pairwise (fun p q => p.d ≠ q.d)
  lt : ∀ q, q ∈ L → q.d < n
  src : ∀ q, q ∈ L → ∀ s, q.v = .a s → ∀ p, p ∈ L → s ≠ p.d

theorem FlOk.filter {n : Nat} {L : List Fl} (h : FlOk n L) (p : Fl → Bool) : FlOk n (L.filter p) :=
  ⟨h.dist.filter _, fun q hq => h.lt q (List.mem_filter.1 hq).1, fun q hq s hs p hp => h.src q (List.mem_filter.1 hq).1 s hs p (List.mem_filter.1 hp).1⟩

theorem putF_len (e : Env St) (q : Fl) : (putF e q).tm.length = e.tm.length := by simp [putF]

theorem putL_len : ∀ (L : List Fl) (e : Env St), (putL e L).tm.length = e.tm.length := by
  intro L
  induction L with
  | nil => intro e; rfl
  | cons q L ih => intro e; exact (ih (putF e q)).trans (putF_len e q)

theorem putL_vars : ∀ (L : List Fl) (e : Env St), (putL e L).vars = e.vars ∧ (putL e L).st = e.st := by
  intro L
  induction L with
  | nil => intro e; exact ⟨rfl, rfl⟩
  | cons q L ih => intro e; exact ih (putF e q)

theorem putL_alike (L : List Fl) (e : Env St) : Alike (putL e L) e := ⟨(putL_vars L e).1, (putL_vars L e).2, putL_len L e⟩

theorem get_putF (e : Env St) (q : Fl) (t : Nat) : (putF e q).get t = if t = q.d ∧ q.d < e.tm.length then q.val e else e.get t := get_set e q.d t (q.val e)

theorem putL_get : ∀ (L : List Fl) (e : Env St) (n : Nat), FlOk n L → n ≤ e.tm.length → (∀ t, (∀ q, q ∈ L → t ≠ q.d) → (putL e L).get t = e.get t) ∧ (∀ q, q ∈ L → (putL e L).get q.d = q.val e) := by
  intro L
  induction L with
  | nil => intro e n _ _; exact ⟨fun _ _ => rfl, fun q hq => by simp at hq⟩
  | cons q L ih =>
    intro e n h hn
    have hd := List.pairwise_cons.1 h.dist
    have hL : FlOk n L := ⟨hd.2, fun p hp => h.lt p (List.mem_cons_of_mem _ hp), fun p hp s hs r hr => h.src p (List.mem_cons_of_mem _ hp) s hs r (List.mem_cons_of_mem _ hr)⟩
    obtain ⟨h1, h2⟩ := ih (putF e q) n hL (by rw [putF_len]; exact hn)
    refine ⟨?_, ?_⟩
    · intro t ht
      show (putL (putF e q) L).get t = e.get t
      simp_all [get_putF]
    · intro p hp
      show (putL (putF e q) L).get p.d = p.val e
      rcases List.mem_cons.1 hp with rfl | hp
      · rw [h1 p.d (fun r hr => hd.1 r hr), get_putF, if_pos ⟨rfl, Nat.lt_of_lt_of_le (h.lt p (by simp)) hn⟩]
      · rw [h2 p hp]
        unfold Fl.val
        cases hv : p.v with
        | c x => rfl
        | a s =>
          simp only
          rw [get_putF, if_neg (fun hh => h.src p (List.mem_cons_of_mem _ hp) s hv q (by simp) hh.1)]

theorem env_ext {e b : Env St} (h : Alike e b) (hg : ∀ t, e.get t = b.get t) : e = b := by
  obtain ⟨tm, vars, st⟩ := e
  obtain ⟨tm', vars', st'⟩ := b
  have h1 := h.vars
  have h2 := h.st
  have h3 := h.len
  simp only at h1 h2 h3
  subst h1 h2
  have : tm = tm' := by
    apply List.ext_getElem h3
    intro i h4 h5
    have := hg i
    grind [Env.get]
  rw [this]

theorem Alike.trans {e b c : Env St} (h : Alike e b) (k : Alike b c) : Alike e c := ⟨h.vars.trans k.vars, h.st.trans k.st, h.len.trans k.len⟩
theorem Alike.symm {e b : Env St} (h : Alike e b) : Alike b e := ⟨h.vars.symm, h.st.symm, h.len.symm⟩

/-- Values that are put once more. -/
theorem putL_twice {fl : List Fl} {e : Env St} (h : FlOk e.tm.length fl) (p p' : Fl → Bool) (hp : ∀ q, q ∈ fl → p q = true → p' q = true) : putL (putL e (fl.filter p)) (fl.filter p') = putL e (fl.filter p') := by
  refine env_ext ((putL_alike _ _).trans ((putL_alike _ e).trans (putL_alike _ e).symm)) ?_
  intro t
  obtain ⟨a1, a2⟩ := putL_get (fl.filter p) e _ (h.filter p) (Nat.le_refl _)
  obtain ⟨b1, b2⟩ := putL_get (fl.filter p') e _ (h.filter p') (Nat.le_refl _)
  obtain ⟨c1, c2⟩ := putL_get (fl.filter p') (putL e (fl.filter p)) e.tm.length (h.filter p') (by rw [putL_len]; omega)
  by_cases ht : ∃ q, q ∈ fl.filter p' ∧ t = q.d
  · obtain ⟨q, hq, rfl⟩ := ht
    rw [b2 q hq, c2 q hq]
    unfold Fl.val
    cases hv : q.v with
    | c x => rfl
    | a s =>
      simp only
      exact a1 s (fun r hr => h.src q (List.mem_filter.1 hq).1 s hv r (List.mem_filter.1 hr).1)
  grind

/-- One more value. -/
theorem putL_more {fl : List Fl} {e : Env St} (h : FlOk e.tm.length fl) (p p' : Fl → Bool) {q : Fl} (hq : q ∈ fl) (hp : ∀ r, r ∈ fl → (p' r = true ↔ p r = true ∨ r.d = q.d)) (hpq : p q = false) :
    putF (putL e (fl.filter p)) q = putL e (fl.filter p') := by
  have hal : Alike (putF (putL e (fl.filter p)) q) e := ⟨(putL_vars _ e).1, (putL_vars _ e).2, by rw [putF_len, putL_len]⟩
  refine env_ext (hal.trans (putL_alike _ e).symm) ?_
  intro t
  obtain ⟨a1, a2⟩ := putL_get (fl.filter p) e _ (h.filter p) (Nat.le_refl _)
  obtain ⟨b1, b2⟩ := putL_get (fl.filter p') e _ (h.filter p') (Nat.le_refl _)
  have hval : q.val (putL e (fl.filter p)) = q.val e := by
    unfold Fl.val
    cases hv : q.v with
    | c x => rfl
    | a s =>
      simp only
      exact a1 s (fun r hr => h.src q hq s hv r (List.mem_filter.1 hr).1)
  rw [get_putF, putL_len]
  by_cases htq : t = q.d
  · subst htq
    rw [if_pos ⟨rfl, h.lt q hq⟩, hval, b2 q (List.mem_filter.2 ⟨hq, (hp q hq).2 (.inr rfl)⟩)]
  grind

/-- What a chain's operation leaves of a floating value. -/
def Stays (m : Nat) (dst : Option Nat) (q : Fl) : Prop :=
  dst ≠ some q.d ∧ match q.v with
    | .c (.p _) => True
    | .c (.lp s _) => m.testBit (2 * s) = false
    | .c _ => False
    | .a s => dst ≠ some s

theorem get_form {e : Env St} {f : T → T} {V : List (Option (List T))} {dst : Option Nat} {y : T} {st : St} (hf : f .dead = .dead) (t : Nat) (ht : dst ≠ some t) : (form e f V dst y st).get t = f (e.get t) := by
  cases dst with
  | none =>
    grind [form, Env.get]
  | some d =>
    grind [List.getElem?_set_ne, form, Env.get]

theorem putF_form {e : Env St} {m : Nat} {f : T → T} {V : List (Option (List T))} {dst : Option Nat} {y : T} {st : St} (hf : Leaves m f) {q : Fl} (hq : Stays m dst q) :
    form (putF e q) f V dst y st = putF (form e f V dst y st) q := by
  have hv : f (q.val e) = q.val (form e f V dst y st) := by
    unfold Fl.val
    have h2 := hq.2
    cases hv : q.v with
    | c x =>
      rw [hv] at h2
      cases x with
      | p d => exact hf.p d
      | lp s off => exact hf.lp s off h2
      | _ => exact h2.elim
    | a s =>
      rw [hv] at h2
      exact (get_form hf.dead s h2).symm
  cases dst with
  | none =>
    grind [List.map_set, form, putF]
  | some d =>
    have hne : d ≠ q.d := fun h => hq.1 (by rw [h])
    grind [List.map_set, List.set_comm, form, putF]

theorem putL_form : ∀ (L : List Fl) {e : Env St} {m : Nat} {f : T → T} {V : List (Option (List T))} {dst : Option Nat} {y : T} {st : St}, Leaves m f → (∀ q, q ∈ L → Stays m dst q) →
    form (putL e L) f V dst y st = putL (form e f V dst y st) L := by
  intro L
  induction L with
  | nil => intro e m f V dst y st _ _; rfl
  | cons q L ih =>
    intro e m f V dst y st hf hs
    show form (putL (putF e q) L) f V dst y st = putL (putF (form e f V dst y st) q) L
    grind [List.mem_cons_of_mem, putF_form]
end

section
variable {Γ : Sig} {P : Program} {G : Nat → Option (List V)} {S : Specs Γ}

/-- Lists of the frame's own among the operands. -/
def otIds (G : Nat → Option (List V)) (e : Env Γ.St) : List Operand → List Nat
  | [] => []
  | x :: r => match evx G e x with
    | .ot id _ _ => id :: otIds G e r
    | _ => otIds G e r

def frzI : List Nat → Env Γ.St → Env Γ.St
  | [], e => e
  | i :: r, e => frzI r (frzOE i e)

/-- What a composite is built of is frozen first. -/
def frzB (G : Nat → Option (List V)) (o : Oper) (e : Env Γ.St) : Env Γ.St := frzI (otIds G e o.op.operands.toList) e

def isBuild (o : Oper) : Bool :=
  match o.op with
  | .build _ _ => true
  | .call c => match c.callee with
    | .value _ => true
    | _ => false
  | _ => false

theorem frzI_map : ∀ (l : List Nat), ∃ g : T → T, (∀ d, g (.p d) = .p d) ∧ g .dead = .dead ∧ (∀ s off, g (.lp s off) = .lp s off) ∧ ∀ e : Env Γ.St, frzI l e = e.mapT g := by
  intro l
  induction l with
  | nil => exact ⟨fun x => x, fun _ => rfl, rfl, fun _ _ => rfl, fun e => by
      simp_all [frzI, Env.mapT]⟩
  | cons i r ih =>
    obtain ⟨g, h1, h2, h3, h4⟩ := ih
    cases hb : Nat.beq i lentId with
    | true => exact ⟨g, h1, h2, h3, fun e => by grind [frzI, frzOE]⟩
    | false =>
      refine ⟨fun x => g (frzOT i x), fun d => h1 d, h2, fun s off => h3 s off, fun e => ?_⟩
      simp_all [Function.comp_def, frzI, frzOE, Env.mapT]

theorem otIds_same {e b : Env Γ.St} : ∀ (l : List Operand), (∀ x, x ∈ l → evx G e x = evx G b x) → otIds G e l = otIds G b l := by
  intro l
  induction l with
  | nil => intro _; rfl
  | cons x r ih =>
    grind [List.mem_cons_of_mem, otIds]

theorem Inv.frzI {w0 : World} {F0 : Blk → Prop} {O0 : Lent} {a : Act} {w : World} : ∀ (l : List Nat) {e : Env Γ.St}, Inv Γ G w0 F0 O0 a w e → Inv Γ G w0 F0 O0 a w (Ve.frzI l e) := by
  intro l
  induction l with
  | nil => intro e h; exact h
  | cons i r ih => intro e h; exact ih (h.frzOE i)

/-- What an operation may come to. -/
def Route (P : Look) (G : Nat → Option (List V)) (S : Specs Γ) (e : Env Γ.St) (o : Oper) (e1 : Env Γ.St) : Prop :=
  evQA P G S e o = some e1 ∨ evW P G e o = some e1 ∨ (isBuild o = true ∧ evQA P G S (frzB G o e) o = some e1)

theorem touchW_build {e : Env Γ.St} {o : Oper} (h : isBuild o = true) : touchW G e o = bitO o.dst := by
  grind [isBuild, touchW]

theorem evW_build {e : Env Γ.St} {o : Oper} (h : isBuild o = true) : evW P G e o = none := by
  unfold isBuild at h
  unfold evW
  split at h
  · grind
  · rename_i c hop
    split at h
    all_goals simp_all [evAppendT, evAppendV, evAppend, evAppendN]
  · cases h

theorem route_form {L : Look} {b b1 : Env Γ.St} {o : Oper} (h : Route L G S b o b1) : ∃ f V y st, Leaves (touchW G b o) f ∧ b1 = form b f V o.dst y st ∧ ∀ e, Same G e b o → Route L G S e o (form e f V o.dst y st) := by
  have hb : Same G b b o := ⟨⟨rfl, rfl, rfl⟩, fun _ _ => rfl⟩
  rcases h with h | h | ⟨hB, h⟩
  · obtain ⟨f, V, y, st, h1, h2⟩ := evQA_form h
    have := h2 b hb
    rw [h] at this
    exact ⟨f, V, y, st, h1, Option.some.inj this, fun e he => .inl (h2 e he)⟩
  · obtain ⟨f, V, y, st, h1, h2⟩ := evW_form h
    have := h2 b hb
    rw [h] at this
    exact ⟨f, V, y, st, h1, Option.some.inj this, fun e he => .inr (.inl (h2 e he))⟩
  · obtain ⟨g, g1, g2, g3, g4⟩ := frzI_map (Γ := Γ) (otIds G b o.op.operands.toList)
    obtain ⟨f, V, y, st, h1, h2⟩ := evQA_form h
    rw [touchW_build hB] at h1
    have hform : ∀ e : Env Γ.St, form (e.mapT g) f V o.dst y st = form e (fun x => f (g x)) V o.dst y st := by
      simp_all [Function.comp_def, form, Env.mapT]
    have key : ∀ e, Same G e b o → frzB G o e = e.mapT g ∧ evQA L G S (frzB G o e) o = some (form e (fun x => f (g x)) V o.dst y st) := by
      intro e he
      have hids : otIds G e o.op.operands.toList = otIds G b o.op.operands.toList := otIds_same _ (fun x hx => he.2 x (by simpa using hx))
      have hfe : frzB G o e = e.mapT g := by grind [frzB]
      have hfb : frzB G o b = b.mapT g := by grind [frzB]
      refine ⟨hfe, ?_⟩
      rw [hfe, ← hform]
      apply h2
      rw [hfb]
      obtain ⟨⟨e1, e2, e3⟩, e4⟩ := he
      refine ⟨⟨?_, ?_, ?_⟩, ?_⟩
      · simp [Env.mapT, e1]
      · simp [Env.mapT, e2]
      · simp [Env.mapT, e3]
      · intro x hx
        have := e4 x hx
        cases x with
        | tmp t =>
          have ht : e.get t = b.get t := this
          show (e.mapT g).get t = (b.mapT g).get t
          grind [get, Env.mapT, Env.get]
        | _ => rfl
    refine ⟨fun x => f (g x), V, y, st, ?_, ?_, fun e he => .inr (.inr ⟨hB, (key e he).2⟩)⟩
    · rw [touchW_build hB]
      exact ⟨fun d => by simp only [g1]; exact h1.p d, by simp only [g2]; exact h1.dead, fun s off hs => by simp only [g3]; exact h1.lp s off hs⟩
    grind

theorem Route.op {e e1 : Env Γ.St} {o : Oper} (hS : Table Γ P G S) (h : Route P G S e o e1) : OpOk P G e o e1 := by
  intro w0 F0 O0 a w Q hi
  rcases h with h | h | ⟨_, h⟩
  · exact evQA_sim hS hi h
  · exact evW_sim hi h
  · exact evQA_sim hS (hi.frzI _) h

/-- A chain's operation, whatever floating values are there already. -/
theorem route_put {L : Look} {fl : List Fl} {b b1 : Env Γ.St} {o : Oper} {A p : Fl → Bool} (hfl : FlOk b.tm.length fl) (hA : ∀ q, q ∈ fl → A q = true → p q = true)
    (hops : ∀ q, q ∈ fl → Operand.tmp q.d ∈ o.op.operands → A q = true)
    (h : Route L G S (putL b (fl.filter A)) o b1) (hst : ∀ q, q ∈ fl → Stays (touchW G (putL b (fl.filter A)) o) o.dst q) : Route L G S (putL b (fl.filter p)) o (putL b1 (fl.filter p)) := by
  obtain ⟨f, V, y, st, h1, rfl, h3⟩ := route_form h
  rw [← putL_twice hfl A p hA]
  have hlen : (putL b (fl.filter A)).tm.length = b.tm.length := putL_len _ _
  obtain ⟨c1, c2⟩ := putL_get (fl.filter p) (putL b (fl.filter A)) _ (hfl.filter p) (by omega)
  obtain ⟨a1, a2⟩ := putL_get (fl.filter A) b _ (hfl.filter A) (Nat.le_refl _)
  have hsame : Same G (putL (putL b (fl.filter A)) (fl.filter p)) (putL b (fl.filter A)) o := by
    refine ⟨putL_alike _ _, ?_⟩
    intro x hx
    cases x with
    | tmp t =>
      show (putL (putL b (fl.filter A)) (fl.filter p)).get t = (putL b (fl.filter A)).get t
      by_cases ht : ∃ q, q ∈ fl.filter p ∧ t = q.d
      · obtain ⟨q, hq, rfl⟩ := ht
        have hq1 := (List.mem_filter.1 hq).1
        have hqA : q ∈ fl.filter A := List.mem_filter.2 ⟨hq1, hops q hq1 hx⟩
        rw [c2 q hq, a2 q hqA]
        unfold Fl.val
        cases hv : q.v with
        | c x => rfl
        | a s =>
          simp only
          exact a1 s (fun r hr => hfl.src q hq1 s hv r (List.mem_filter.1 hr).1)
      grind
    | _ => rfl
  grind [putL_form]
end
end Go.Ve

namespace Go.Ve
open Go

def nopOp : Oper := ⟨none, .move (.const undef), 0, "", #[], none⟩

/-- The region without its chain. -/
def opsQ (ops : Array Oper) (Cm : Nat) : Array Oper := ops.mapIdx fun i o => match Nat.testBit Cm i with
  | true => nopOp
  | false => o

def chOk (ops : Array Oper) (anc : Array Nat) (Cm Um : Nat) : Bool :=
  ancOk ops anc && drawOk (opsQ ops Cm) &&
  (List.range ops.size).all fun i => match ops[i]? with
    | some o => o.after.all (fun e => !Region.binds .any e || decide (e.on < i)) && (match Nat.testBit Cm i with
      | true => o.guard.isNone && (List.range ops.size).all fun j => match Nat.testBit Cm j with
        | true => decide (i ≤ j) || (anc.getD i 0).testBit j
        | false => Nat.testBit Um j || (decide (j < i) && (anc.getD i 0).testBit j)
      | false => o.after.all (fun e => !Region.binds .any e || !Nat.testBit Cm e.on) && (match o.guard with
          | some (j, _) => !Nat.testBit Cm j
          | none => true) && (!Nat.testBit Um i || (o.guard.isNone && !isCall o)))
    | none => true

section
variable {ops : Array Oper} {anc : Array Nat} {Cm Um : Nat}

def Closed (ops : Array Oper) (listed : Nat → Prop) : Prop := ∀ (i : Nat) (o : Oper) (e : Edge), ops[i]? = some o → listed i → e ∈ o.after → Region.binds .any e = true → listed e.on

structure ChSt (ops : Array Oper) (anc : Array Nat) (Cm Um : Nat) : Prop where
  st : Static (opsQ ops Cm)
  edge : ∀ (i : Nat) (o : Oper) (e : Edge), ops[i]? = some o → e ∈ o.after → Region.binds .any e = true → e.on < i
  noC : ∀ (i : Nat) (o : Oper) (e : Edge), ops[i]? = some o → Cm.testBit i = false → e ∈ o.after → Region.binds .any e = true → Cm.testBit e.on = false
  guardQ : ∀ (i : Nat) (o : Oper) (j : Nat) (w : Bool), ops[i]? = some o → Cm.testBit i = false → o.guard = some (j, w) → Cm.testBit j = false
  guardC : ∀ (i : Nat) (o : Oper), ops[i]? = some o → Cm.testBit i = true ∨ Um.testBit i = true → o.guard = none
  call : ∀ (i : Nat) (o : Oper), ops[i]? = some o → Cm.testBit i = false → Um.testBit i = true → isCall o = false
  up : ∀ (listed : Nat → Prop), Closed ops listed → ∀ (c : Nat) (o : Oper), ops[c]? = some o → (∀ e, e ∈ o.after → Region.binds .any e = true → listed e.on) →
    ∀ j, j < c → (anc.getD c 0).testBit j = true → listed j
  before : ∀ (c : Nat) (o : Oper), ops[c]? = some o → Cm.testBit c = true → ∀ (j : Nat), j < ops.size → (Cm.testBit j = true ∧ j < c) ∨ (Cm.testBit j = false ∧ Um.testBit j = false) → j < c ∧ (anc.getD c 0).testBit j = true

theorem chst_of (h : chOk ops anc Cm Um = true) : ChSt ops anc Cm Um := by
  unfold chOk at h
  simp only [Bool.and_eq_true] at h
  obtain ⟨⟨hanc, hdr⟩, hall⟩ := h
  have hone : ∀ i o, ops[i]? = some o → _ := fun i o ho => by
    have hlt : i < ops.size := (Array.getElem?_eq_some_iff.1 ho).1
    have := List.all_eq_true.1 hall i (List.mem_range.2 hlt)
    simp only [ho] at this
    exact this
  have hedge : ∀ (i : Nat) (o : Oper) (e : Edge), ops[i]? = some o → e ∈ o.after → Region.binds .any e = true → e.on < i := by
    intro i o e ho he hb
    have h1 := hone i o ho
    rw [Bool.and_eq_true] at h1
    have h2 := Array.all_eq_true_iff_forall_mem.1 h1.1 e he
    simpa [hb] using h2
  have hcl : ∀ (listed : Nat → Prop), Closed ops listed →
      ∀ (i : Nat) (o : Oper) (j : Nat), ops[i]? = some o → j < i → (anc.getD i 0).testBit j = true → (∀ e, e ∈ o.after → Region.binds .any e = true → listed e.on) → listed j := by
    intro listed hdown i
    induction i using Nat.strongRecOn with
    | _ i ih =>
      intro o j ho hji hbit hi
      have hlt : i < ops.size := (Array.getElem?_eq_some_iff.1 ho).1
      have h1 := List.all_eq_true.1 hanc i (List.mem_range.2 hlt)
      simp only [ho] at h1
      have h2 := List.all_eq_true.1 h1 j (List.mem_range.2 hji)
      simp only [hbit, Bool.not_true, Bool.false_or, Array.any_eq_true', Bool.and_eq_true, Bool.or_eq_true, decide_eq_true_eq, beq_iff_eq] at h2
      obtain ⟨e, he, ⟨hb, hon⟩, hj⟩ := h2
      have hle := hi e he hb
      rcases hj with rfl | ⟨hjlt, hbit'⟩
      · exact hle
      · have hlt' : e.on < ops.size := by omega
        have ho' : ops[e.on]? = some ops[e.on] := by simp [hlt']
        exact ih e.on hon ops[e.on] j ho' hjlt hbit' (fun e2 he2 hb2 => hdown e.on _ e2 ho' hle he2 hb2)
  refine ⟨static_of hdr, hedge, ?_, ?_, ?_, ?_, fun listed hd c o hc hdeps j hj hb => hcl listed hd c o j hc hj hb hdeps, ?_⟩
  · intro i o e ho hC he hb
    have h1 := hone i o ho
    simp only [hC, Bool.and_eq_true] at h1
    have h2 := Array.all_eq_true_iff_forall_mem.1 h1.2.1.1 e he
    simpa [hb] using h2
  · intro i o j w ho hC hg
    have h1 := hone i o ho
    simp only [hC, hg, Bool.and_eq_true] at h1
    simpa using h1.2.1.2
  · intro i o ho hor
    have h1 := hone i o ho
    cases hC : Cm.testBit i with
    | true =>
      simp only [hC, Bool.and_eq_true] at h1
      exact Option.isNone_iff_eq_none.1 h1.2.1
    | false =>
      rw [hC] at hor
      have hU := hor.resolve_left (by simp)
      simp only [hC, hU, Bool.and_eq_true, Bool.not_true, Bool.false_or] at h1
      exact Option.isNone_iff_eq_none.1 h1.2.2.1
  · intro i o ho hC hU
    have h1 := hone i o ho
    simp only [hC, hU, Bool.and_eq_true, Bool.not_true, Bool.false_or, Bool.not_eq_true'] at h1
    exact h1.2.2.2
  · intro c o ho hC j hj hor
    have h1 := hone c o ho
    simp only [hC, Bool.and_eq_true] at h1
    have h2 := List.all_eq_true.1 h1.2.2 j (List.mem_range.2 hj)
    rcases hor with ⟨hCj, hlt⟩ | ⟨hCj, hUj⟩
    · simp only [hCj, Bool.or_eq_true, decide_eq_true_eq] at h2
      exact ⟨hlt, h2.resolve_left (by omega)⟩
    · simp only [hCj, hUj, Bool.false_or, Bool.and_eq_true, decide_eq_true_eq] at h2
      exact h2

theorem opsQ_get (i : Nat) : (opsQ ops Cm)[i]? = (ops[i]?).map (fun o => match Cm.testBit i with | true => nopOp | false => o) := by
  simp [opsQ]

theorem opsQ_size : (opsQ ops Cm).size = ops.size := by simp [opsQ]

theorem opsQ_some {i : Nat} {o : Oper} (h : ops[i]? = some o) (hC : Cm.testBit i = false) : (opsQ ops Cm)[i]? = some o := by
  grind [opsQ_get]
end

section
variable {Γ : Sig} {P : Program} {G : Nat → Option (List V)} {S : Specs Γ} {w0 : World} {F0 : Blk → Prop} {O0 : Lent} {ops : Array Oper} {anc : Array Nat} {Cm Um : Nat}

/-- A floating operation that has not come up yet may come up. -/
def FloatOk (P : Look) (G : Nat → Option (List V)) (S : Specs Γ) (ops : Array Oper) (fl : List Fl) (b : Env Γ.St) (q : Fl) : Prop :=
  ∀ (o : Oper) (p : Fl → Bool), ops[q.i]? = some o → (∀ r, r ∈ fl → Operand.tmp r.d ∈ o.op.operands → p r = true) → Route P G S (putL b (fl.filter p)) o (putF (putL b (fl.filter p)) q)

/-- The chain. -/
inductive ChainR (P : Look) (G : Nat → Option (List V)) (S : Specs Γ) (ops : Array Oper) (anc : Array Nat) (fl : List Fl) : List Nat → Env Γ.St → Env Γ.St → Prop
  | nil (b : Env Γ.St) : ChainR P G S ops anc fl [] b b
  | cons {c : Nat} {rest : List Nat} {b b1 b' : Env Γ.St} {o : Oper} (ho : ops[c]? = some o)
      (hr : Route P G S (putL b (fl.filter (fun q => (anc.getD c 0).testBit q.i && decide (q.i < c)))) o b1)
      (hops : ∀ q, q ∈ fl → Operand.tmp q.d ∈ o.op.operands → ((anc.getD c 0).testBit q.i && decide (q.i < c)) = true)
      (hst : ∀ q, q ∈ fl → Stays (touchW G (putL b (fl.filter (fun q => (anc.getD c 0).testBit q.i && decide (q.i < c)))) o) o.dst q)
      (hfl : ∀ q, q ∈ fl → ((anc.getD c 0).testBit q.i && decide (q.i < c)) = false → FloatOk P G S ops fl b1 q)
      (hrest : ChainR P G S ops anc fl rest b1 b') : ChainR P G S ops anc fl (c :: rest) b b'

theorem form_len {St : Type} (e : Env St) (f : T → T) (V : List (Option (List T))) (dst : Option Nat) (y : T) (st : St) : (form e f V dst y st).tm.length = e.tm.length := by
  cases dst <;> simp [form]

theorem Route.len {L : Look} {b b1 : Env Γ.St} {o : Oper} (h : Route L G S b o b1) : b1.tm.length = b.tm.length := by
  obtain ⟨f, V, y, st, _, rfl, _⟩ := route_form h
  grind [form_len]

theorem stepRt {e e1 : Env Γ.St} {o : Oper} {a : Act} {w : World} {Q : Exit → Act → World → Prop} {K : Act → World → Prop} {i : Nat} (hS : Table Γ P G S) (hi : ops[i]? = some o) (hg : o.guard = none) (h : Route P G S e o e1)
    (hinv : Inv Γ G w0 F0 O0 a w e) (hK : ∀ a w, Inv Γ G w0 F0 O0 a w e1 → K a w) : wpOp P ops Q i K a w :=
  stepR_op hi (.inl ⟨by grind [wantedV], h.op hS⟩) hinv hK

theorem wpAny_chain (hch : ChSt ops anc Cm Um) (hS : Table Γ P G S) {fl : List Fl} {n : Nat} (hflok : FlOk n fl)
    (hfi : ∀ i, Um.testBit i = true → Cm.testBit i = false → i < ops.size → ∃ q, q ∈ fl ∧ q.i = i)
    (hfo : ∀ q, q ∈ fl → Cm.testBit q.i = false ∧ Um.testBit q.i = true ∧ ∃ o, ops[q.i]? = some o ∧ o.dst = some q.d)
    {b' : Env Γ.St} {Q : Exit → Act → World → Prop} (hQ : ∀ a w, Inv Γ G w0 F0 O0 a w (putL b' fl) → Q .normal a w) : ∀ (fuel : Nat) (rest : List Nat) (b : Env Γ.St) (listed : Array Bool) (a : Act) (w : World),
    listed.size = ops.size → listed.count false ≤ fuel → Closed ops (fun i => listed.getD i true = true) →
    (∀ i, i < ops.size → Cm.testBit i = false → Um.testBit i = false → listed.getD i true = true) →
    (∀ c, c ∈ rest ↔ c < ops.size ∧ Cm.testBit c = true ∧ listed.getD c true = false) → rest.Pairwise (· < ·) →
    ChainR P G S ops anc fl rest b b' → (∀ q, q ∈ fl → listed.getD q.i true = false → FloatOk P G S ops fl b q) → b.tm.length = n →
    Inv Γ G w0 F0 O0 a w (putL b (fl.filter (fun q => listed.getD q.i true))) → wpAny P .any ops Q fuel listed a w := by
  have hfd : ∀ q r, q ∈ fl → r ∈ fl → (q.d = r.d ↔ q.i = r.i) := by
    intro q r hq hr
    obtain ⟨cq, _, oq, ho1, hd1⟩ := hfo q hq
    obtain ⟨cr, _, or', ho2, hd2⟩ := hfo r hr
    constructor
    · intro h
      exact hch.st.dist q.i r.i oq or' q.d (opsQ_some ho1 cq) (opsQ_some ho2 cr) hd1 (by rw [h]; exact hd2)
    grind
  have hend : ∀ (rest : List Nat) (b : Env Γ.St) (listed : Array Bool) (a : Act) (w : World), (∀ i, listed.getD i true = true) →
      (∀ c, c ∈ rest ↔ c < ops.size ∧ Cm.testBit c = true ∧ listed.getD c true = false) → ChainR P G S ops anc fl rest b b' → Inv Γ G w0 F0 O0 a w (putL b (fl.filter (fun q => listed.getD q.i true))) → Q .normal a w := by
    intro rest b listed a w hall hrest hchain hinv
    have hnil : rest = [] := by
      simp_all [List.eq_nil_iff_forall_not_mem]
    subst hnil
    cases hchain
    grind [List.filter_eq_self]
  have hallof : ∀ (listed : Array Bool), listed.size = ops.size → Region.ready .any ops listed = [] → ∀ i, listed.getD i true = true := by
    intro listed hls hr
    have : ∀ i, i < ops.size → listed.getD i true = true := by
      intro i
      induction i using Nat.strongRecOn with
      | _ i ih =>
        intro hi
        cases hl : listed.getD i true with
        | true => rfl
        | false =>
          exfalso
          have hmem : i ∈ Region.ready .any ops listed := by
            rw [mem_ready]
            refine ⟨hl, ops[i], by simp [hi], ?_⟩
            intro e he hb
            have hon := hch.edge i ops[i] e (by simp [hi]) he hb
            grind
          grind
    grind
  intro fuel
  induction fuel with
  | zero =>
    intro rest b listed a w hls hcnt hcl hq hrest hsort hchain hfl hlen hinv
    have hall : ∀ i, listed.getD i true = true := by
      intro i
      cases hl : listed.getD i true with
      | true => rfl
      | false =>
        exfalso
        have h0 : listed.count false = 0 := by omega
        rw [Array.count_eq_zero] at h0
        apply h0
        rcases Nat.lt_or_ge i listed.size with h | h
        · simp [h] at hl
          grind
        grind
    refine ⟨?_, hend rest b listed a w hall hrest hchain hinv⟩
    apply List.eq_nil_iff_forall_not_mem.2
    grind [mem_ready]
  | succ fuel ih =>
    intro rest b listed a w hls hcnt hcl hq hrest hsort hchain hfl hlen hinv
    refine ⟨fun hr => hend rest b listed a w (hallof listed hls hr) hrest hchain hinv, ?_⟩
    intro i hi
    obtain ⟨hun, o, ho, hdeps⟩ := mem_ready.1 hi
    have hlt : i < ops.size := (Array.getElem?_eq_some_iff.1 ho).1
    have hin : i < listed.size := by omega
    have hdeps' : ∀ e, e ∈ o.after → Region.binds .any e = true → listed.getD e.on true = true := by
      grind
    have hcl' : Closed ops (fun j => (listed.setIfInBounds i true).getD j true = true) := by
      intro j oj e hj hl he hb
      show (listed.setIfInBounds i true).getD e.on true = true
      have hl : (listed.setIfInBounds i true).getD j true = true := hl
      rw [getD_set _ _ _ hin] at hl ⊢
      split
      · rfl
      · by_cases hji : j = i
        · grind
        · rw [if_neg hji] at hl; exact hcl j oj e hj hl he hb
    have hcnt' : (listed.setIfInBounds i true).count false ≤ fuel := by
      have hli : listed[i] = false := by simpa [hin] using hun
      grind
    have hq' : ∀ j, j < ops.size → Cm.testBit j = false → Um.testBit j = false → (listed.setIfInBounds i true).getD j true = true := by
      intro j hj h1 h2
      rw [getD_set _ _ _ hin]
      split
      all_goals grind
    cases hC : Cm.testBit i with
    | false =>
      -- a floating one
      have hU : Um.testBit i = true := by
        grind
      obtain ⟨q, hqf, hqi⟩ := hfi i hU hC hlt
      subst hqi
      have hg := hch.guardC q.i o ho (.inr hU)
      have hroute := hfl q hqf hun o (fun q => listed.getD q.i true) ho (by
        intro r hr hx
        obtain ⟨cr, _, or', hor, hdr⟩ := hfo r hr
        obtain ⟨e, he, hb, hon⟩ := hch.st.look q.i o r.d r.i or' (opsQ_some ho hC) (List.mem_append_left _ (List.mem_filterMap.2 ⟨.tmp r.d, by simpa using hx, rfl⟩)) (opsQ_some hor cr) hdr
        have := hdeps' e he hb
        grind)
      refine stepRt hS ho hg hroute hinv ?_
      intro a' w' hinv'
      refine ih rest b (listed.setIfInBounds q.i true) a' w' (by simpa using hls) hcnt' hcl' hq' ?_ hsort hchain ?_ hlen ?_
      · intro c
        rw [hrest c, getD_set _ _ _ hin]
        constructor
        · rintro ⟨h1, h2, h3⟩
          refine ⟨h1, h2, ?_⟩
          rw [if_neg (fun hh => by grind)]; exact h3
        · rintro ⟨h1, h2, h3⟩
          refine ⟨h1, h2, ?_⟩
          rwa [if_neg (fun hh => by grind)] at h3
      · intro r hr hl
        refine hfl r hr ?_
        rw [getD_set _ _ _ hin] at hl
        split at hl
        all_goals grind
      · have := putL_more (e := b) (fl := fl) (by grind) (fun q => listed.getD q.i true) (fun r => (listed.setIfInBounds q.i true).getD r.i true) hqf (by
          intro r hr
          show (listed.setIfInBounds q.i true).getD r.i true = true ↔ _
          rw [getD_set _ _ _ hin]
          split
          · grind
          · rename_i h
            constructor
            all_goals grind) hun
        grind
    | true =>
      -- one of the chain
      have hmem : i ∈ rest := (hrest i).2 ⟨hlt, hC, hun⟩
      cases hchain with
      | nil => cases hmem
      | cons hoc hr hops hst hfl1 hrest1 =>
        rename_i c rest1 b1 oc
        have hcr := (hrest c).1 (by simp)
        have hic : i = c := by
          rcases Nat.lt_trichotomy i c with h | h | h
          · exfalso
            have hs := List.pairwise_cons.1 hsort
            rcases List.mem_cons.1 hmem with hh | hh
            · omega
            · have := hs.1 i hh; omega
          · exact h
          · exfalso
            have hb := hch.before i o ho hC c hcr.1 (.inl ⟨hcr.2.1, h⟩)
            have := hch.up (fun j => listed.getD j true = true) hcl i o ho hdeps' c hb.1 hb.2
            grind
        subst hic
        rw [ho] at hoc
        cases hoc
        have hg := hch.guardC i o ho (.inl hC)
        have hA : ∀ q, q ∈ fl → ((anc.getD i 0).testBit q.i && decide (q.i < i)) = true → listed.getD q.i true = true := by
          intro q hq hb
          simp only [Bool.and_eq_true, decide_eq_true_eq] at hb
          exact hch.up (fun j => listed.getD j true = true) hcl i o ho hdeps' q.i hb.2 hb.1
        have hroute := route_put (p := fun q => listed.getD q.i true) (by grind) hA hops hr hst
        refine stepRt hS ho hg hroute hinv ?_
        intro a' w' hinv'
        have hs := List.pairwise_cons.1 hsort
        refine ih rest1 b1 (listed.setIfInBounds i true) a' w' (by simpa using hls) hcnt' hcl' hq' ?_ hs.2 hrest1 ?_ ?_ ?_
        · intro c
          rw [getD_set _ _ _ hin]
          constructor
          · intro hc
            obtain ⟨h1, h2, h3⟩ := (hrest c).1 (List.mem_cons_of_mem _ hc)
            have := hs.1 c hc
            refine ⟨h1, h2, ?_⟩
            rw [if_neg (by omega)]; exact h3
          · rintro ⟨h1, h2, h3⟩
            split at h3
            · cases h3
            · rename_i hne
              rcases List.mem_cons.1 ((hrest c).2 ⟨h1, h2, h3⟩) with hh | hh
              all_goals omega
        · intro q hq hl
          rw [getD_set _ _ _ hin] at hl
          split at hl
          · cases hl
          · refine hfl1 q hq ?_
            cases hb : ((anc.getD i 0).testBit q.i && decide (q.i < i)) with
            | false => rfl
            | true => rw [hA q hq hb] at hl; cases hl
        · rw [hr.len, putL_len]; exact hlen
        · have heq : fl.filter (fun q => (listed.setIfInBounds i true).getD q.i true) = fl.filter (fun q => listed.getD q.i true) := by
            apply List.filter_congr
            intro q hq
            rw [getD_set _ _ _ hin]
            rw [if_neg (fun hh => by have := (hfo q hq).1; grind)]
          rw [heq]; exact hinv'
end
end Go.Ve

namespace Go.Ve
open Go

def lq (Cm : Nat) (listed : Array Bool) : Array Bool := listed.mapIdx fun i b => b || Nat.testBit Cm i

theorem lq_size {Cm : Nat} {listed : Array Bool} : (lq Cm listed).size = listed.size := by simp [lq]

theorem lq_get {Cm : Nat} {listed : Array Bool} {i : Nat} : (lq Cm listed).getD i true = (listed.getD i true || Nat.testBit Cm i) := by
  simp [lq]
  grind

theorem lq_set {Cm : Nat} {listed : Array Bool} {i : Nat} : lq Cm (listed.setIfInBounds i true) = (lq Cm listed).setIfInBounds i true := by
  apply arr_ext
  grind [Array.size_mapIdx, lq]

def deadL {St : Type} (e : Env St) (fl : List Fl) : Env St := putL e (fl.map fun q => ⟨q.i, q.d, .c .dead⟩)

theorem deadL_ok {St : Type} {e : Env St} {fl : List Fl} (h : FlOk e.tm.length fl) : Alike (deadL e fl) e ∧ (∀ t, (∀ q, q ∈ fl → t ≠ q.d) → (deadL e fl).get t = e.get t) ∧ (∀ q, q ∈ fl → (deadL e fl).get q.d = .dead) := by
  have hok : FlOk e.tm.length (fl.map fun q => ⟨q.i, q.d, .c .dead⟩) := by
    refine ⟨?_, ?_, ?_⟩
    · rw [List.pairwise_map]; exact h.dist
    · intro q hq
      obtain ⟨p, hp, rfl⟩ := List.mem_map.1 hq
      exact h.lt p hp
    grind
  obtain ⟨h1, h2⟩ := putL_get _ e _ hok (Nat.le_refl _)
  refine ⟨putL_alike _ e, ?_, ?_⟩
  · intro t ht
    refine h1 t (fun q hq => ?_)
    grind
  · intro q hq
    exact h2 ⟨q.i, q.d, .c .dead⟩ (List.mem_map.2 ⟨q, hq, rfl⟩)

section
variable {Γ : Sig} {P : Program} {G : Nat → Option (List V)} {S : Specs Γ} {w0 : World} {F0 : Blk → Prop} {O0 : Lent} {ops : Array Oper} {anc : Array Nat} {Cm Um : Nat}

theorem wpOp_opsQ {Q : Exit → Act → World → Prop} {K : Act → World → Prop} {i : Nat} {o : Oper} {a : Act} {w : World} (hch : ChSt ops anc Cm Um) (ho : ops[i]? = some o) (hC : Cm.testBit i = false)
    (h : wpOp P (opsQ ops Cm) Q i K a w) : wpOp P ops Q i K a w := by
  unfold wpOp at *
  rw [opsQ_some ho hC] at h
  rw [ho]
  simp only at h ⊢
  have hw : Region.wanted o (yielded (opsQ ops Cm) a.tmps) = Region.wanted o (yielded ops a.tmps) := by
    unfold Region.wanted
    cases hg : o.guard with
    | none => rfl
    | some gw =>
      obtain ⟨j, want⟩ := gw
      have hj := hch.guardQ i o j want ho hC hg
      grind [opsQ_get, yielded]
  grind

theorem wpAny_stage0 (hch : ChSt ops anc Cm Um) (hS : Table Γ P G S) {e1 b0 b' : Env Γ.St} {sts : Nat → Γ.St}
    (hsteps : ∀ (i : Nat) (o : Oper), (opsQ ops Cm)[i]? = some o → StepAt P G S (opsQ ops Cm) e1 (sts i) o (sts (i + 1))) (hlast : sts ops.size = e1.st)
    {fl : List Fl} (hflok : FlOk e1.tm.length fl)
    (hfi : ∀ i, Um.testBit i = true → Cm.testBit i = false → i < ops.size → ∃ q, q ∈ fl ∧ q.i = i)
    (hfo : ∀ q, q ∈ fl → Cm.testBit q.i = false ∧ Um.testBit q.i = true ∧ ∃ o, ops[q.i]? = some o ∧ o.dst = some q.d)
    (hfv : ∀ q, q ∈ fl → e1.get q.d = q.val e1 ∧ e1.var q.d = none)
    (hb0 : Alike b0 e1) (hb1 : ∀ t, (∀ q, q ∈ fl → t ≠ q.d) → b0.get t = e1.get t) (hb2 : ∀ q, q ∈ fl → b0.get q.d = .dead)
    (hf0 : ∀ q, q ∈ fl → FloatOk P G S ops fl b0 q)
    (hchain : ChainR P G S ops anc fl ((List.range ops.size).filter (fun i => Cm.testBit i)) b0 b')
    {Q : Exit → Act → World → Prop} (hQ : ∀ a w, Inv Γ G w0 F0 O0 a w (putL b' fl) → Q .normal a w) : ∀ (fuel : Nat) (listed : Array Bool) (a : Act) (w : World),
    listed.size = ops.size → listed.count false ≤ fuel → Closed ops (fun i => listed.getD i true = true) → (∀ c, c < ops.size → Cm.testBit c = true → listed.getD c true = false) →
    (∃ F O β al m, PInv Γ G w0 F0 O0 (opsQ ops Cm) e1 sts (lq Cm listed) a w F O β al m) → wpAny P .any ops Q fuel listed a w := by
  -- where all that does not float has come up
  have hgo : ∀ (fuel : Nat) (listed : Array Bool) (a : Act) (w : World), listed.size = ops.size → listed.count false ≤ fuel → Closed ops (fun i => listed.getD i true = true) →
      (∀ c, c < ops.size → Cm.testBit c = true → listed.getD c true = false) → (∀ i, i < ops.size → Cm.testBit i = false → Um.testBit i = false → listed.getD i true = true) →
      (∃ F O β al m, PInv Γ G w0 F0 O0 (opsQ ops Cm) e1 sts (lq Cm listed) a w F O β al m) → wpAny P .any ops Q fuel listed a w := by
    rintro fuel listed a w hls hcnt hcl hnc hall ⟨F, O, β, al, m, hp⟩
    refine wpAny_chain hch hS hflok hfi hfo hQ fuel _ b0 listed a w hls hcnt hcl hall ?_ (List.Pairwise.filter _ List.pairwise_lt_range) hchain (fun q hq _ => hf0 q hq) hb0.len ?_
    · grind
    · have hgq : ∀ (i : Nat) (o : Oper), (opsQ ops Cm)[i]? = some o → (lq Cm listed).getD i true = false → ops[i]? = some o ∧ Cm.testBit i = false ∧ Um.testBit i = true ∧ listed.getD i true = false := by
        grind [lq_get, Bool.or_eq_false_iff, Array.getElem?_eq_some_iff, opsQ_size, opsQ_get, Option.map_eq_some_iff]
      have hknown : ∀ t, (∀ q, q ∈ fl → t = q.d → listed.getD q.i true = true) → Known (opsQ ops Cm) (lq Cm listed) t := by
        intro t ht i o ho hl hd
        grind
      have heq : ∀ k, m + k ≤ ops.size → sts (m + k) = sts m := by
        intro k
        induction k with
        | zero => intro _; rfl
        | succ k ih =>
          intro hk
          have hlt : m + k < (opsQ ops Cm).size := by rw [opsQ_size]; omega
          have hj : (opsQ ops Cm)[m + k]? = some (opsQ ops Cm)[m + k] := Array.getElem?_eq_getElem hlt
          have hnc : isCall (opsQ ops Cm)[m + k] = false := by
            cases hc : isCall (opsQ ops Cm)[m + k] with
            | false => rfl
            | true =>
              exfalso
              cases hl : (lq Cm listed).getD (m + k) true with
              | true => have := (hp.calls _ _ hj hc).1 hl; omega
              | false =>
                obtain ⟨h1, h2, h3, h4⟩ := hgq _ _ hj hl
                have := hch.call _ _ h1 h2 h3
                grind
          rw [← ih (by omega)]
          rcases hsteps (m + k) _ hj with ⟨_, r', hev', hst'', _, _⟩ | ⟨_, hst'', _⟩
          all_goals grind [Nat.add_assoc, st_of_nocall, evQ_nc]
      have hmle : m ≤ ops.size := by have := hp.mle; rwa [opsQ_size] at this
      have hlst : sts m = e1.st := by
        grind [Nat.add_sub_cancel']
      have hal := putL_alike (fl.filter (fun q => listed.getD q.i true)) b0
      obtain ⟨a1, a2⟩ := putL_get (fl.filter (fun q => listed.getD q.i true)) b0 _ (hflok.filter _) (by rw [hb0.len]; omega)
      have hvar : ∀ s, (putL b0 (fl.filter (fun q => listed.getD q.i true))).var s = e1.var s := fun s => (hal.trans hb0).var s
      refine Inv.of (al := al) (by rw [hal.st, hb0.st, ← hlst]; exact hp.core) hp.g (by rw [hal.len, hb0.len]; exact hp.size) hp.defers ?_ ?_ ?_
      · intro t
        by_cases ht : ∃ q, q ∈ fl ∧ t = q.d
        · obtain ⟨q, hq, rfl⟩ := ht
          cases hl : listed.getD q.i true with
          | true =>
            rw [a2 q (List.mem_filter.2 ⟨hq, hl⟩)]
            have hk := hp.tm q.d (hknown q.d (by
              intro r hr hrd
              have : r.i = q.i := by
                obtain ⟨c1, _, o1, h1, d1⟩ := hfo q hq
                obtain ⟨c2, _, o2, h2, d2⟩ := hfo r hr
                exact (hch.st.dist q.i r.i o1 o2 q.d (opsQ_some h1 c1) (opsQ_some h2 c2) d1 (by grind)).symm
              grind))
            rw [(hfv q hq).1] at hk
            have : q.val b0 = q.val e1 := by
              unfold Fl.val
              cases hv : q.v with
              | c x => rfl
              | a s => simp only; exact hb1 s (fun r hr => hflok.src q hq s hv r hr)
            grind
          | false =>
            rw [a1 q.d (by
              intro r hr hrd
              obtain ⟨hr1, hr2⟩ := List.mem_filter.1 hr
              obtain ⟨c1, _, o1, h1, d1⟩ := hfo q hq
              obtain ⟨c2, _, o2, h2, d2⟩ := hfo r hr1
              have : q.i = r.i := hch.st.dist q.i r.i o1 o2 q.d (opsQ_some h1 c1) (opsQ_some h2 c2) d1 (by grind)
              grind), hb2 q hq]
            trivial
        · have ht' : ∀ q, q ∈ fl → t ≠ q.d := fun q hq hh => ht ⟨q, hq, hh⟩
          rw [a1 t (fun q hq => ht' q (List.mem_filter.1 hq).1), hb1 t ht']
          exact hp.tm t (hknown t (fun q hq hh => absurd hh (ht' q hq)))
      · intro s cs hcs
        rw [hvar] at hcs
        have hks : Known (opsQ ops Cm) (lq Cm listed) s := hknown s (by
          grind)
        have ha := hp.vk s cs hcs hks
        exact ⟨ha, hp.var s cs hcs ha⟩
      · intro s hs
        obtain ⟨cs, hcs⟩ := hp.lp s hs
        grind
  intro fuel
  induction fuel with
  | zero =>
    intro listed a w hls hcnt hcl hnc hp
    refine hgo 0 listed a w hls hcnt hcl hnc ?_ hp
    intro i hi _ _
    cases hl : listed.getD i true with
    | true => rfl
    | false =>
      exfalso
      have h0 : listed.count false = 0 := by omega
      rw [Array.count_eq_zero] at h0
      apply h0
      have h : i < listed.size := by omega
      simp [h] at hl
      grind
  | succ fuel ih =>
    intro listed a w hls hcnt hcl hnc hp
    by_cases hall : ∀ i, i < ops.size → Cm.testBit i = false → Um.testBit i = false → listed.getD i true = true
    · grind
    · obtain ⟨j, hj⟩ := Classical.not_forall.1 hall
      simp only [Classical.not_imp] at hj
      obtain ⟨hj1, hj2, hj3, hj4⟩ := hj
      refine ⟨fun hr => ?_, ?_⟩
      · exfalso
        apply hj4
        have : ∀ i, i < ops.size → listed.getD i true = true := by
          intro i
          induction i using Nat.strongRecOn with
          | _ i ihi =>
            intro hi
            cases hl : listed.getD i true with
            | true => rfl
            | false =>
              exfalso
              have hmem : i ∈ Region.ready .any ops listed := by
                rw [mem_ready]
                refine ⟨hl, ops[i], by simp [hi], ?_⟩
                intro e he hb
                have hon := hch.edge i ops[i] e (by simp [hi]) he hb
                grind
              grind
        exact this j hj1
      · intro i hi
        obtain ⟨hun, o, ho, hdeps⟩ := mem_ready.1 hi
        have hlt : i < ops.size := (Array.getElem?_eq_some_iff.1 ho).1
        have hin : i < listed.size := by omega
        have hdeps' : ∀ e, e ∈ o.after → Region.binds .any e = true → listed.getD e.on true = true := by
          grind
        have hC : Cm.testBit i = false := by
          cases hC : Cm.testBit i with
          | false => rfl
          | true =>
            exfalso
            have hb := hch.before i o ho hC j hj1 (.inr ⟨hj2, hj3⟩)
            exact hj4 (hch.up (fun j => listed.getD j true = true) hcl i o ho hdeps' j hb.1 hb.2)
        obtain ⟨F, O, β, al, m, hp⟩ := hp
        refine wpOp_opsQ hch ho hC ?_
        refine pinv_step hch.st hS hsteps hp (by grind [lq_size, opsQ_size]) ?_ (opsQ_some ho hC) ?_ ?_ ?_
        · intro k ok e hk hl he hb
          rw [lq_get, Bool.or_eq_true] at hl ⊢
          have hkl : k < ops.size := by grind [Array.getElem?_eq_some_iff, opsQ_size]
          rw [opsQ_get] at hk
          simp at hk
          obtain ⟨o', ho', heq⟩ := hk
          cases hCk : Cm.testBit k with
          | true =>
            grind [nopOp]
          | false =>
            simp only [hCk] at heq
            subst heq
            rw [hCk] at hl
            exact .inl (hcl k o' e ho' (hl.resolve_right (by simp)) he hb)
        · grind [lq_get]
        · grind [lq_get]
        · intro a' w' F' O' β' al' m' hp'
          rw [← lq_set] at hp'
          refine ih (listed.setIfInBounds i true) a' w' (by simpa using hls) ?_ ?_ ?_ ⟨F', O', β', al', m', hp'⟩
          · have hli : listed[i] = false := by simpa [hin] using hun
            grind
          · intro k ok e hk hl he hb
            show (listed.setIfInBounds i true).getD e.on true = true
            have hl : (listed.setIfInBounds i true).getD k true = true := hl
            rw [getD_set _ _ _ hin] at hl ⊢
            split
            · rfl
            · by_cases hki : k = i
              · grind
              · rw [if_neg hki] at hl; exact hcl k ok e hk hl he hb
          · intro c hc hCc
            rw [getD_set _ _ _ hin, if_neg (fun hh => by grind)]
            grind

theorem chain_sim (hmix : P.follows .mixedOrders = true) (hch : ChSt ops anc Cm Um) (hS : Table Γ P G S) {a : Act} {w : World} {e e1 b' : Env Γ.St} (hi : Inv Γ G w0 F0 O0 a w e)
    (he1 : drawGo P G S (opsQ ops Cm) (opsQ ops Cm).toList (killAll (dstsOf (opsQ ops Cm).toList) e) = some e1)
    {fl : List Fl} (hflok : FlOk e1.tm.length fl)
    (hfi : ∀ i, Um.testBit i = true → Cm.testBit i = false → i < ops.size → ∃ q, q ∈ fl ∧ q.i = i)
    (hfo : ∀ q, q ∈ fl → Cm.testBit q.i = false ∧ Um.testBit q.i = true ∧ ∃ o, ops[q.i]? = some o ∧ o.dst = some q.d)
    (hfv : ∀ q, q ∈ fl → e1.get q.d = q.val e1 ∧ e1.var q.d = none)
    (hf0 : ∀ q, q ∈ fl → FloatOk P G S ops fl (deadL e1 fl) q)
    (hchain : ChainR P G S ops anc fl ((List.range ops.size).filter (fun i => Cm.testBit i)) (deadL e1 fl) b') {id : Nat}
    {Q : Exit → Act → World → Prop} (hQ : ∀ a w, Inv Γ G w0 F0 O0 a w (putL b' fl) → Q .normal a w) : (Code.region id ops true).wp P Q a w := by
  have hst := hch.st
  have hah := ahead_of hst 0 (opsQ ops Cm).toList (by simp)
  have hno : ∀ d, d ∈ dstsOf (opsQ ops Cm).toList → (killAll (dstsOf (opsQ ops Cm).toList) e).var d = none := by
    intro d hd
    cases hv : (killAll (dstsOf (opsQ ops Cm).toList) e).var d with
    | none => rfl
    | some cs => exact absurd ⟨cs, hv⟩ (killAll_alive _ e d hd).1
  obtain ⟨sts, h0, hn, hsteps, hg, hv, hl⟩ := drawGo_trace _ _ _ he1 hah hno
  have hsteps' : ∀ (i : Nat) (o : Oper), (opsQ ops Cm)[i]? = some o → StepAt P G S (opsQ ops Cm) e1 (sts i) o (sts (i + 1)) := fun i o ho => hsteps i o (by grind)
  refine wp_region_any hmix ?_
  obtain ⟨F, O, β, hc, hG, hsz, hdf, ht, hvv⟩ := (hi.killAll (dstsOf (opsQ ops Cm).toList)).drew (w.drawn + 1) (Nat.le_succ _)
  have hlqf : ∀ i, i < ops.size → Cm.testBit i = false → (lq Cm (Array.replicate ops.size false)).getD i true = false := by
    intro i hi hC
    rw [lq_get, hC]
    simp_all
  have hmem : ∀ (i : Nat) (o : Oper) (d : Nat), (opsQ ops Cm)[i]? = some o → o.dst = some d → d ∈ dstsOf (opsQ ops Cm).toList ∧ Cm.testBit i = false := by
    intro i o d ho hd
    refine ⟨?_, ?_⟩
    · grind [Array.mem_of_getElem?, dstsOf]
    · cases hC : Cm.testBit i with
      | false => rfl
      | true =>
        rw [opsQ_get] at ho
        simp at ho
        obtain ⟨o', _, heq⟩ := ho
        simp only [hC] at heq
        subst heq
        cases hd
  have hnotin : ∀ t, Known (opsQ ops Cm) (lq Cm (Array.replicate ops.size false)) t → t ∉ dstsOf (opsQ ops Cm).toList := by
    intro t hkn hin
    simp only [dstsOf, List.mem_filterMap] at hin
    obtain ⟨o, hm', hd⟩ := hin
    obtain ⟨i, hi', rfl⟩ := List.getElem_of_mem hm'
    have hi'' : i < (opsQ ops Cm).size := by simpa using hi'
    have hoi : (opsQ ops Cm)[i]? = some (opsQ ops Cm)[i] := Array.getElem?_eq_getElem hi''
    have hd' : (opsQ ops Cm)[i].dst = some t := by grind
    refine hkn i _ hoi (hlqf i (by rwa [opsQ_size] at hi'') (hmem i _ t hoi hd').2) hd'
  obtain ⟨d1, d2, d3⟩ := deadL_ok hflok
  refine wpAny_stage0 hch hS hsteps' (by grind [opsQ_size]) hflok hfi hfo hfv d1 d2 d3 hf0 hchain hQ ops.size _ a _ (by simp) (by simp) ?_ ?_ ⟨F, O, β, alive (killAll (dstsOf (opsQ ops Cm).toList) e), 0, ?_⟩
  · intro i o ed ho hlst
    have hi'' : i < ops.size := (Array.getElem?_eq_some_iff.1 ho).1
    simp_all
  · simp_all
  · refine ⟨by rw [h0]; exact hc, hG, by omega, hdf, ?_, ?_, ?_, ?_, ?_, Nat.zero_le _, ?_⟩
    · grind
    · intro s cs hcs hs
      obtain ⟨cs0, hcs0⟩ := hs
      grind
    · intro s hs
      obtain ⟨cs0, hcs0⟩ := hs
      grind
    · intro s cs hcs hkn
      rw [hv s (hnotin s hkn)] at hcs
      exact ⟨cs, hcs⟩
    · grind [killAll_alive]
    · intro i o ho hcall
      cases hC : Cm.testBit i with
      | false =>
        grind [Array.getElem?_eq_some_iff, opsQ_size]
      | true =>
        exfalso
        rw [opsQ_get] at ho
        simp at ho
        obtain ⟨o', _, heq⟩ := ho
        simp only [hC] at heq
        subst heq
        cases hcall
end
/-- Another number for a slice of the frame's own. -/
def renT (a b : Nat) : T → T
  | .ow i k es => .ow (if i = a then b else i) k es
  | .oe i k es j off => .oe (if i = a then b else i) k es j off
  | .mp i es ck => .mp (if i = a then b else i) es ck
  | .ot i t xs => .ot (if i = a then b else i) t xs
  | .oet i t xs j off => .oet (if i = a then b else i) t xs j off
  | .ov i t xs lo hi => .ov (if i = a then b else i) t xs lo hi
  | .on n => .on { n with id := if n.id = a then b else n.id, id2 := if n.id2 = a then b else n.id2 }
  | x => x

def noO (d : Nat) : T → Bool
  | .ow i _ _ => !Nat.beq i d
  | .oe i _ _ _ _ => !Nat.beq i d
  | .mp i _ _ => !Nat.beq i d
  | .ot i _ _ => !Nat.beq i d
  | .oet i _ _ _ _ => !Nat.beq i d
  | .ov i _ _ _ _ => !Nat.beq i d
  | .on n => !Nat.beq n.id d && !Nat.beq n.id2 d
  | _ => true

def noOE {St : Type} (d : Nat) (e : Env St) : Bool :=
  e.tm.all (noO d) && e.vars.all (fun c => match c with
    | some cs => cs.all (noO d)
    | none => true)

section
variable {Γ : Sig} {G : Nat → Option (List V)} {w0 : World} {F0 : Blk → Prop} {O0 : Lent} {e : Env Γ.St} {a0 : Act} {w : World}

theorem noO_has {d : Nat} {x : T} (h : noO d x = true) : ¬ x.hasO d := by
  cases x <;> simp only [noO, T.hasO, Bool.not_eq_true'] at h ⊢ <;> first | (intro hh; exact hh) | (intro hh; subst hh; simp at h) | (rintro ⟨hh, _⟩; subst hh; simp at h) | (rintro (hh | hh) <;> (subst hh; simp at h))

theorem Inv.ren (hi : Inv Γ G w0 F0 O0 a0 w e) {a b : Nat} (hb : noOE b e = true) (hal : a ≠ lentId) (hbl : b ≠ lentId) : Inv Γ G w0 F0 O0 a0 w (e.mapT (renT a b)) := by
  obtain ⟨F, O, β, hc, hG, hsz, hdf, ht, hv⟩ := hi
  by_cases hab : a = b
  · subst hab
    have : e.mapT (renT a a) = e := by
      have hid : ∀ x : T, renT a a x = x := by
        intro x
        cases x with
        | on n =>
          have h : ∀ i, (if i = a then a else i) = i := fun i => by grind
          simp [renT, h]
        | _ => simp only [renT] <;> (try split) <;> simp_all
      obtain ⟨tm, vars, st⟩ := e
      simp [Env.mapT]
      refine ⟨(List.map_congr_left (fun x _ => hid x)).trans (List.map_id _), ?_⟩
      refine (List.map_congr_left (g := id) ?_).trans (List.map_id _)
      intro c _
      cases c with
      | none => rfl
      | some cs => exact congrArg some ((List.map_congr_left (fun x _ => hid x)).trans (List.map_id _))
    rw [this]
    exact ⟨F, O, β, hc, hG, hsz, hdf, ht, hv⟩
  have hnb : ¬ alive e (.o b) := by
    rintro ⟨x, hx, hid⟩
    unfold noOE at hb
    simp only [Bool.and_eq_true] at hb
    rcases hx with hx | ⟨s, cs, hcs, hx⟩
    · grind [noO_has, List.all_eq_true]
    · have hm : some cs ∈ e.vars := by
        grind [List.mem_of_getElem?, Env.var]
      grind [List.all_eq_true, noO_has]
  let β' : Lay := { β with ob := fun i => if i = b then β.ob a else β.ob i }
  let al' : Site → Prop := fun x => match x with
    | .v s => alive e (.v s)
    | .o i => (i = b ∧ alive e (.o a)) ∨ (i ≠ a ∧ i ≠ b ∧ alive e (.o i))
  have hblk : ∀ i, alive e (.o i) → al' (.o (if i = a then b else i)) ∧ β'.ob (if i = a then b else i) = β.ob i := by
    grind
  have hf : ∀ v x, TRel w F β (alive e) v x → TRel w F β' al' v (renT a b x) := by
    intro v x hx
    cases x with
    | p d => exact hx
    | ow i k es =>
      obtain ⟨ha, cap, hv', hr⟩ := hx
      obtain ⟨h1, h2⟩ := hblk i ha
      exact ⟨h1, cap, by grind, by rw [h2]; exact hr⟩
    | oe i k es j off =>
      obtain ⟨ha, hj, cap, hv', hr⟩ := hx
      obtain ⟨h1, h2⟩ := hblk i ha
      exact ⟨h1, hj, cap, by grind, by rw [h2]; exact hr⟩
    | lp s off => exact hx
    | mp i es ck =>
      obtain ⟨ha, hv', hr⟩ := hx
      obtain ⟨h1, h2⟩ := hblk i ha
      exact ⟨h1, by grind, by rw [h2]; exact hr⟩
    | ot i t xs =>
      rcases hx with hx | ⟨hne, ha, cap, hv', hr⟩
      · exact .inl hx
      · obtain ⟨h1, h2⟩ := hblk i ha
        exact .inr ⟨hne, h1, cap, by grind, by rw [h2]; exact hr⟩
    | oet i t xs j off =>
      obtain ⟨ha, hj, cap, hv', hr⟩ := hx
      obtain ⟨h1, h2⟩ := hblk i ha
      exact ⟨h1, hj, cap, by grind, by rw [h2]; exact hr⟩
    | ov i t xs lo hi =>
      rcases hx with hx | ⟨hne, ha, k1, k2, cap, hv', hr⟩
      · exact .inl hx
      · obtain ⟨h1, h2⟩ := hblk i ha
        exact .inr ⟨hne, h1, k1, k2, cap, by grind, by rw [h2]; exact hr⟩
    | on n =>
      obtain ⟨id, id2, ty, xs, j, ys, m⟩ := n
      obtain ⟨ha, ha2, c, et, cap2, k1, k2, k5, k6, k7, k8⟩ := hx
      obtain ⟨h1, h2⟩ := hblk id ha
      obtain ⟨h3, h4⟩ := hblk id2 ha2
      simp only at k1 k6 k7 k8
      exact ⟨h1, h3, c, et, cap2, by grind, k2, k5, by grind, by grind, by grind⟩
    | emp => exact hx
    | dead => trivial
  have hsite : ∀ x, al' x → ∃ y, alive e y ∧ β'.blk x = β.blk y ∧ (∀ s, x = .v s ↔ y = .v s) ∧ (x = .o b ↔ y = .o a) ∧ (x ≠ .o b → x = y) := by
    intro x hx
    cases x with
    | v s => exact ⟨.v s, hx, rfl, fun _ => Iff.rfl, by simp, fun _ => rfl⟩
    | o i =>
      rcases hx with ⟨rfl, ha⟩ | ⟨h1, h2, ha⟩
      · exact ⟨.o a, ha, by simp [Lay.blk, β'], by simp, by simp, fun h => absurd rfl h⟩
      · exact ⟨.o i, ha, by grind [Lay.blk], fun s => Iff.rfl, by simp [h1, h2], fun _ => rfl⟩
  refine Inv.of (al := al') (β := β') ⟨hc.keep, hc.sig, hc.oin, hc.fin, hc.f0, ?_, ?_, hc.lent⟩ hG (by grind [Env.mapT]) hdf (fun t => by rw [get_mapT rfl]; grind) ?_ ?_
  · intro x hx
    obtain ⟨y, hy, hb', _, hx1, hx2⟩ := hsite x hx
    rw [hb']
    refine ⟨?_, (hc.place y hy).2⟩
    have hp := (hc.place y hy).1
    by_cases h1 : x = .o b
    · have h2 := hx1.1 h1
      subst h2
      subst h1
      exact .inl ⟨fun h => hbl (by injection h), hp.o hal⟩
    grind
  · intro x y hx hy hxy
    obtain ⟨x', hx', hbx, _, hx1, hx2⟩ := hsite x hx
    obtain ⟨y', hy', hby, _, hy1, hy2⟩ := hsite y hy
    rw [hbx, hby] at hxy
    have := hc.dist x' y' hx' hy' hxy
    grind
  · intro s cs hcs
    rw [var_mapT] at hcs
    simp at hcs
    obtain ⟨cs0, hcs0, rfl⟩ := hcs
    exact ⟨⟨cs0, hcs0⟩, (hv s cs0 hcs0).mapT rfl hf⟩
  · rintro s ⟨cs, hcs⟩
    grind [var_mapT]
end
end Go.Ve

namespace Go.Ve
open Go

def killOT (d : Nat) : T → T
  | .ow i k es => if i = d then .dead else .ow i k es
  | .oe i k es j off => if i = d then .dead else .oe i k es j off
  | .mp i es ck => if i = d then .dead else .mp i es ck
  | .ot i t xs => if i = d then .dead else .ot i t xs
  | .oet i t xs j off => if i = d then .dead else .oet i t xs j off
  | .ov i t xs j off => if i = d then .dead else .ov i t xs j off
  | .on n => if n.id = d ∨ n.id2 = d then .dead else .on n
  | x => x

def alo (d : Nat) (al : Site → Prop) (x : Site) : Prop := al x ∧ x ≠ .o d

theorem TRel.killO {w : World} {F : Blk → Prop} {β : Lay} {al : Site → Prop} {v : Value} {x : T} {d : Nat} (h : TRel w F β al v x) : TRel w F β (alo d al) v (killOT d x) := by
  cases x with
  | p d => exact h
  | ow i k es =>
    simp only [killOT]; split
    · trivial
    · rename_i hne; exact ⟨⟨h.1, by simpa using hne⟩, h.2⟩
  | oe i k es j off =>
    simp only [killOT]; split
    · trivial
    · rename_i hne; exact ⟨⟨h.1, by simpa using hne⟩, h.2⟩
  | lp s off => exact ⟨⟨h.1, by simp⟩, h.2⟩
  | mp i es ck =>
    simp only [killOT]; split
    · trivial
    · rename_i hne; exact ⟨⟨h.1, by simpa using hne⟩, h.2⟩
  | ot i t xs =>
    simp only [killOT]; split
    · trivial
    · rename_i hne
      rcases h with h | ⟨h0, ha, h⟩
      · exact .inl h
      · exact .inr ⟨h0, ⟨ha, by simpa using hne⟩, h⟩
  | oet i t xs j off =>
    simp only [killOT]; split
    · trivial
    · rename_i hne; exact ⟨⟨h.1, by simpa using hne⟩, h.2⟩
  | ov i t xs lo hi =>
    simp only [killOT]; split
    · trivial
    · rename_i hne
      rcases h with h | ⟨h0, ha, h⟩
      · exact .inl h
      · exact .inr ⟨h0, ⟨ha, by simpa using hne⟩, h⟩
  | on n =>
    simp only [killOT]; split
    · trivial
    · rename_i hne
      have h1 := not_or.1 hne
      exact ⟨⟨h.1, by simpa using h1.1⟩, ⟨h.2.1, by simpa using h1.2⟩, h.2.2⟩
  | emp => exact h
  | dead => trivial

/-- The same list in another temporary. -/
def updB (id : Nat) (t : Ty) (zs : List t.El) : T → T
  | .ot i t' xs => if i = id then (if t' = t then .ot id t zs else .dead) else .ot i t' xs
  | x => killOT id x

def andL : List Bool → Bool
  | [] => true
  | [b] => b
  | b :: c :: r => b && andL (c :: r)

/-- Are they as long as n? -/
def lensB (id p n : Nat) : Nat → List T → List Bool
  | _, [] => []
  | i, .ot j _ xs :: r => match Nat.beq j id with
    | true => match Nat.beq i p with
      | true => lensB id p n (i + 1) r
      | false => Nat.beq xs.length n :: lensB id p n (i + 1) r
    | false => lensB id p n (i + 1) r
  | i, _ :: r => lensB id p n (i + 1) r

theorem andL_all : ∀ {l : List Bool}, andL l = true → ∀ b, b ∈ l → b = true
  | [], _, b, hb => by simp at hb
  | [c], h, b, hb => by simp at hb; subst hb; exact h
  | c :: c' :: r, h, b, hb => by
    simp [andL] at h
    rcases List.mem_cons.1 hb with rfl | hb
    · exact h.1
    · exact andL_all h.2 b hb

theorem lensB_get {id p n : Nat} : ∀ {l : List T} {i : Nat}, (∀ b, b ∈ lensB id p n i l → b = true) → ∀ (k : Nat) (t : Ty) (xs : List t.El), l[k]? = some (.ot id t xs) → i + k ≠ p → xs.length = n
  | [], i, _, k, t, xs, hk, _ => by simp at hk
  | x :: r, i, h, k, t, xs, hk, hne => by
    have hr : ∀ b, b ∈ lensB id p n (i + 1) r → b = true := by
      intro b hb
      refine h b ?_
      cases x with
      | ot j t' ys =>
        grind [List.mem_cons_of_mem, lensB]
      | _ => exact hb
    cases k with
    | zero =>
      grind [List.getElem?_cons_zero, Option.some.injEq, Nat.eq_of_beq_eq_true, Nat.beq_refl, List.mem_cons_self, absurd, lensB]
    | succ k => exact lensB_get hr k t xs (by simpa using hk) (by omega)

/-- The state behind a call to which the list with number id was lent out of temporary p. -/
def putB {St : Type} (e : Env St) (id p : Nat) (t : Ty) (zs : List t.El) (st : St) (dst : Option Tmp) (d : V) : Env St :=
  (⟨(e.tm.map (updB id t zs)).set p (.ot id t zs), e.vars.map (fun c => c.map (List.map (killOT id))), st⟩ : Env St).put dst (.p d)

/-- The state behind a call to which the list with number id was handed for good. -/
def putM {St : Type} (e : Env St) (id : Nat) (t : Ty) (zs : List t.El) (st : St) (dst : Option Tmp) : Env St :=
  (⟨e.tm.map (killOT id), e.vars.map (fun c => c.map (List.map (killOT id))), st⟩ : Env St).put dst (.ot id t zs)

section
variable {Γ : Sig} {P : Program} {G : Nat → Option (List V)} {S : Specs Γ} {w0 : World} {F0 : Blk → Prop} {O0 : Lent} {a : Act} {w : World} {e : Env Γ.St}

theorem rd_nobot {w : World} {F : Blk → Prop} (u : Value) (h : Rd w F u .bot) : False := by cases h

theorem bor_sim (hS : Table Γ P G S) (hi : Inv Γ G w0 F0 O0 a w e) {dst : Option Tmp} {c : Call} {type : TypeId} {pos : String} {after : Array Edge} {guard : Option (Nat × Bool)}
    {f : Operand} {g : FuncId} {p id : Nat} {xs : List Operand} {t : Ty} {ys zs : List t.El} {ds : List V} {st' : Γ.St} {d : V}
    (hcal : c.callee = .value f) (hf : evx G e f = .p (.clo g [])) (hcargs : c.args.toList = .tmp p :: xs) (hp : e.get p = .ot id t ys) (hxs : pureArgs G e xs = some ds)
    (hlens : andL (lensB id p ys.length 0 e.tm) = true) (hdb : d = .bot → False) (hsp : S g e.st (.bot :: .tl t ys :: ds) = some (st', .p (.tup [.tl t zs, d]))) {Q : Exit → Act → World → Prop} :
    (⟨dst, .call c, type, pos, after, guard⟩ : Oper).wp P a w (fun a' w' => Inv Γ G w0 F0 O0 a' w' (putB e id p t zs st' dst d)) Q := by
  obtain ⟨F, O, β, hc, hG, hsz, hdf, ht, hv⟩ := hi
  obtain ⟨hbor, fn, hfn, hbody, hname⟩ := hS.bor g e.st t ys ds st' zs d hsp
  have hops : ∀ x, TRel w F β (alive e) (a.eval x) (evx G e x) := fun x => evx_sim hG ht x
  have hf0 := hops f
  rw [hf] at hf0
  have hx0 := ht p
  rw [hp] at hx0
  have hplt : p < e.tm.length := by
    grind [Nat.lt_or_ge, List.getElem?_eq_none, Env.get]
  obtain ⟨hlen, hargs⟩ := pureArgs_sim (a := a) xs ds (fun x _ => hops x) hxs
  have hrun : (execOp a.eval ⟨dst, .call c, type, pos, after, guard⟩).run P w = .ok (.enter g (c.args.map a.eval)) w := by
    have hf1 : Rd w F (a.eval f) (.clo g []) := hf0
    generalize hev : a.eval f = fv at hf1
    cases hf1 with
    | clo _ cv _ hl hcap =>
      have hcv : cv = #[] := by simpa using hl
      subst hcv
      have hb : ¬ fn.body = none := by grind
      have hname' : ¬ fn.name = "runtime.NumGoroutine" := by simpa using hname
      simp [execOp, resolve, hcal, hev, Deferred.ofValue, invoke, callFunc, hfn, hname', hb]
  have hnp : ptrPos ds = none := ptrPos_none (fun r hr => by
    cases xs with
    | nil => grind
    | cons x xs' => exact rd_nobot _ (hargs 0 (a.eval x) .bot (by simp) (by rw [hr]; rfl)))
  have hcs : c.args = (.tmp p :: xs).toArray := by grind
  have hsize : (c.args.map a.eval).size = ds.length + 1 := by grind
  have ha0 : (c.args.map a.eval)[0]? = some (a.tmps.getD p undef) := by grind [Act.eval]
  have hown : OwnR w F ⟨fun _ => β.ob id, fun _ => β.ob id⟩ (fun _ => True) (a.tmps.getD p undef) 0 t.size (ys.map t.enc) := by
    rcases hx0 with h | ⟨h0, _, h⟩
    · exact .inl h
    · exact .inr ⟨h0, trivial, h⟩
  have hal0 : ys ≠ [] → alive e (.o id) := by
    intro h0
    rcases hx0 with ⟨h, _⟩ | ⟨_, h, _⟩
    all_goals simp_all
  have hcall := (hbor.row hnp) w F O (β.ob id) (a.tmps.getD p undef) (c.args.map a.eval) hc.sig hG (fun b hb => (hc.fin b hb).2) hown
    (fun h0 => ⟨(hc.place _ (hal0 h0)).2.1, (hc.place _ (hal0 h0)).2.2.1, (hc.place _ (hal0 h0)).2.2.2⟩) hsize ha0
    (fun i x y hi hd => hargs i x y (by grind) hd)
  unfold Oper.wp
  rw [hrun]
  refine hcall.mono ?_
  rintro ex w' ⟨v, F', O', rfl, g1, g2, g3, g4, g5, g67⟩
  obtain ⟨g6, g7⟩ := g67.out hdb
  have hkb : ∀ b, b < w.heap.size → ¬ O b → (ys ≠ [] → b ≠ β.ob id) → w'.heap[b]? = w.heap[b]? := fun b hb ho hne => g2.block b hb (fun h => h.elim ho (fun h => hne h.1 h.2))
  have hne : ∀ x, alive e x → x ≠ .o id → ys ≠ [] → β.blk x ≠ β.ob id := fun x hx hxi h0 hh => hxi (hc.dist x (.o id) hx (hal0 h0) hh)
  have hO' : ∀ b, b < w.heap.size → ¬ O b → ¬ O' b := fun b hb ho h => by
    grind
  have hF' : ∀ b : Nat, b < w.heap.size → ¬ F b → ¬ F' b := fun b hb hf h => by
    grind
  have hext : Ext w F β (alo id (alive e)) w' F' β (alive e) :=
    ⟨g4.1, fun b hb => hkb b (hc.fin b hb).2.1 (hc.fin b hb).2.2 (fun h0 hh => (hc.place _ (hal0 h0)).2.2.1 (by rw [hh] at hb; exact hb)), fun x hx => hx.1, fun _ _ => rfl,
      fun x hx => hkb _ (hc.place x hx.1).2.1 (hc.place x hx.1).2.2.2 (hne x hx.1 hx.2)⟩
  have hcore : Core Γ w0 F0 O0 w' F' O' β (alive e) st' := by
    refine ⟨⟨g2.os.trans hc.keep.os, g2.tape.trans hc.keep.tape, g2.output.trans hc.keep.output, Nat.le_trans hc.keep.size g2.size, ?_, Nat.le_trans hc.keep.drawn g2.drawn⟩, g1, ?_, ?_, hc.f0.trans g4 hc.keep.size, ?_, hc.dist, ?_⟩
    · intro b hb ho
      rw [hkb b (by have := hc.keep.size; omega) (fun h => by
        rcases hc.oin b h with h | h
        · exact ho (.inl h)
        · omega) (fun h0 hh => ho ((hc.place _ (hal0 h0)).1.old (by show β.ob id < _; omega) |> fun h => by rw [hh]; exact h))]
      exact hc.keep.block b hb ho
    · intro b hb
      rcases g3 b hb with h | h
      · exact hc.oin b h
      · exact .inr (Nat.le_trans hc.keep.size h)
    · intro b hb
      obtain ⟨h1, h2, h3⟩ := g5 b hb
      refine ⟨?_, h2, h3⟩
      rcases h1 with h | h
      · exact (hc.fin b h).1
      · exact .inr (Nat.le_trans hc.keep.size h)
    · intro x hx
      obtain ⟨k1, k2, k3, k4⟩ := hc.place x hx
      exact ⟨k1, Nat.lt_of_lt_of_le k2 g2.size, hF' _ k2 k3, hO' _ k2 k4⟩
    · intro b n hb
      obtain ⟨h1, h2, h3, cc, et, fl, h4, h5⟩ := hc.lent b n hb
      have hbw : b < w.heap.size := by grind
      refine ⟨h1, hO' b hbw h2, hF' b hbw h3, ?_⟩
      by_cases hbi : ys ≠ [] ∧ b = β.ob id
      · obtain ⟨hy, rfl⟩ := hbi
        rcases hown with ⟨hh, _⟩ | ⟨_, _, cap, hv0, c0, et0, r1, r2, _⟩
        · exact absurd (by simpa using hh) hy
        · rw [r1] at h4
          simp at h4
          obtain ⟨rfl, _, _⟩ := h4
          rcases g6 with ⟨hh, a0, hv1⟩ | ⟨_, _, cap1, hv1, c1, et1, q1, q2, _⟩
          all_goals grind
      grind
  have hnew : TRel w' F' β (alive e) (a.tmps.getD p undef) (.ot id t zs) := by
    rcases g6 with h | ⟨h0, _, cap, hv0, hr⟩
    · exact .inl h
    · refine .inr ⟨h0, hal0 ?_, cap, hv0, hr⟩
      intro hy
      subst hy
      rcases hown with ⟨_, a0, h1⟩ | ⟨h1, _⟩
      all_goals grind
  have hzl : zs.length = ys.length := by
    have l1 : ∀ (w : World) (F : Blk → Prop) (us : List t.El), OwnR w F ⟨fun _ => β.ob id, fun _ => β.ob id⟩ (fun _ => True) (a.tmps.getD p undef) 0 t.size (us.map t.enc) → ∃ ad c, a.tmps.getD p undef = .slice ad us.length c := by
      intro w F us h
      rcases h with ⟨h0, a0, h1⟩ | ⟨_, _, cap, h1, _⟩
      · have hu0 : us = [] := by simpa using h0
        grind
      grind
    grind
  have hother : ∀ q (us : List t.El), e.get q = .ot id t us → us.length = ys.length → TRel w' F' β (alive e) (a.tmps.getD q undef) (.ot id t zs) := by
    intro q us hq hul
    have hTq := ht q
    rw [hq] at hTq
    rcases hTq with ⟨h0, a0, h1⟩ | ⟨h0, hal, cap1, h1, c1, et1, k1, k2, k3, _⟩
    · have hu0 : us = [] := by simpa using h0
      subst hu0
      have hz0 : zs = [] := List.eq_nil_of_length_eq_zero (by grind)
      subst hz0
      exact .inl ⟨rfl, a0, h1⟩
    · have hy0 : ys ≠ [] := fun hh => h0 (by grind)
      rcases hown with ⟨hh, _⟩ | ⟨_, _, cap, hv0, c0, et0, r1, r2, _⟩
      · exact absurd (by simpa using hh) hy0
      · rcases g6 with ⟨hh, _⟩ | ⟨hz0, _, cap2, hv1, c2, et2, q1, q2, q3, q4, q5⟩
        · grind
        · rw [hv0] at hv1
          simp only [Value.slice.injEq] at hv1
          rw [r1] at k1
          simp only [Option.some.injEq, Obj.cells.injEq] at k1
          obtain ⟨rfl, _, _⟩ := k1
          refine .inr ⟨hz0, hal, cap1, ?_, c2, et2, q1, ?_, ?_, q4, q5⟩
          all_goals grind
  have hlen1 : ((e.tm.map (updB id t zs)).set p (.ot id t zs)).length = e.tm.length := by simp
  have hget : ∀ t', TRel w' F' β (alive e) (a.tmps.getD t' undef) ((⟨(e.tm.map (updB id t zs)).set p (.ot id t zs), e.vars.map (fun c => c.map (List.map (killOT id))), st'⟩ : Env Γ.St).get t') := by
    intro q
    have h1 : (⟨(e.tm.map (updB id t zs)).set p (.ot id t zs), e.vars.map (fun c => c.map (List.map (killOT id))), st'⟩ : Env Γ.St).get q = if q = p then .ot id t zs else updB id t zs (e.get q) := by
      simp only [Env.get, List.getD_eq_getElem?_getD, List.getElem?_set]
      split
      · grind
      · rename_i hpq
        rw [if_neg (fun hh => hpq hh.symm), List.getElem?_map]
        grind [updB, killOT]
    rw [h1]
    split
    · grind
    · rename_i hqp
      have hkill : TRel w' F' β (alive e) (a.tmps.getD q undef) (killOT id (e.get q)) := (ht q).killO.ext hext
      cases hx : e.get q with
      | ot i t' us =>
        rw [hx] at hkill
        simp only [updB]
        split
        · rename_i hi
          subst hi
          split
          · rename_i htt
            subst htt
            refine hother q us hx ?_
            refine lensB_get (andL_all hlens) q t' us ?_ (by simpa using hqp)
            grind [Env.get]
          · trivial
        · rename_i hi
          simp only [killOT, if_neg hi] at hkill
          exact hkill
      | _ => rw [hx] at hkill; exact hkill
  refine Inv.of (al := alive e) (F := F') (O := O') (β := β) ?_ (hG.ext hext) ?_ ?_ ?_ ?_ ?_
  · cases dst <;> exact hcore
  · cases dst <;> simp [putB, Env.put, Act.put, hsz]
  · cases dst <;> exact hdf
  · intro t'
    cases dst with
    | none => exact hget t'
    | some q =>
      have h1 : (putB e id p t zs st' (some q) d).get t' = if t' = q ∧ q < ((e.tm.map (updB id t zs)).set p (.ot id t zs)).length then .p d else (⟨(e.tm.map (updB id t zs)).set p (.ot id t zs), e.vars.map (fun c => c.map (List.map (killOT id))), st'⟩ : Env Γ.St).get t' := get_set (⟨(e.tm.map (updB id t zs)).set p (.ot id t zs), e.vars.map (fun c => c.map (List.map (killOT id))), st'⟩ : Env Γ.St) q t' (.p d)
      rw [tmps_put, h1, hlen1, hsz]
      split
      · exact g7
      · exact hget t'
  · intro s cs hcs
    have hcs' : (e.mapT (killOT id)).var s = some cs := by cases dst <;> exact hcs
    rw [var_mapT] at hcs'
    simp at hcs'
    obtain ⟨cs0, hcs0, rfl⟩ := hcs'
    have ha : alive e (.v s) := ⟨cs0, hcs0⟩
    refine ⟨ha, ?_⟩
    obtain ⟨c0, et, q1, q2, q3⟩ := hv s cs0 hcs0
    refine ⟨c0, et, (hext.ha (.v s) ⟨ha, by simp⟩).trans q1, by simpa using q2, ?_⟩
    intro i x y hi hy
    simp at hy
    obtain ⟨y0, hy0, rfl⟩ := hy
    exact (q3 i x y0 hi hy0).killO.ext hext
  · rintro s ⟨cs, hcs⟩
    refine ⟨cs.map (killOT id), ?_⟩
    have : (e.mapT (killOT id)).var s = some (cs.map (killOT id)) := by rw [var_mapT, hcs]; rfl
    cases dst <;> exact this

/-- The first pointer to a variable among the operands: its place, the variable, the other operands. -/
def splitP {St : Type} (G : Nat → Option (List V)) (e : Env St) : List Operand → Option (Nat × Nat × List Operand)
  | [] => none
  | x :: r => match evx G e x with
    | .lp s 0 => some (0, s, r)
    | _ => match splitP G e r with
      | some (k, s, r') => some (k + 1, s, x :: r')
      | none => none

theorem splitP_sound {St : Type} {G : Nat → Option (List V)} {e : Env St} : ∀ {l : List Operand} {k s : Nat} {r : List Operand}, splitP G e l = some (k, s, r) →
    k ≤ r.length ∧ l.length = r.length + 1 ∧ (∃ x, l[k]? = some x ∧ evx G e x = .lp s 0) ∧ ∀ (i : Nat) (x : Operand), r[i]? = some x → l[if i < k then i else i + 1]? = some x
  | [], _, _, _, h => by simp [splitP] at h
  | x :: r0, k, s, r, h => by
    simp only [splitP] at h
    split at h
    · grind
    · split at h
      · rename_i k' s' r' hr
        simp at h
        obtain ⟨rfl, rfl, rfl⟩ := h
        obtain ⟨h1, h2, ⟨y, h3, h4⟩, h5⟩ := splitP_sound hr
        grind
      · cases h

def pureTs : List T → Option (List V)
  | [] => some []
  | .p d :: r => match pureTs r with
    | some ds => some (d :: ds)
    | none => none
  | _ => none

theorem pureTs_sound : ∀ {cs : List T} {vs : List V}, pureTs cs = some vs → cs = vs.map T.p
  | [], vs, h => by grind [pureTs]
  | x :: r, vs, h => by
    cases x with
    | p d =>
      simp only [pureTs] at h
      split at h
      · rename_i ds hds
        simp only [Option.some.injEq] at h
        subst h
        rw [List.map_cons, ← pureTs_sound hds]
      · cases h
    | _ => simp [pureTs] at h

/-- The state behind a call to which the variable s was lent. -/
def putP {St : Type} (e : Env St) (s : Nat) (t : Ty) (z : t.El) (st : St) (dst : Option Tmp) (d : V) : Env St :=
  (⟨e.tm, e.vars.set s (some ((t.cells z).map T.p)), st⟩ : Env St).put dst (.p d)

theorem TRel.extV {w w' : World} {F F' : Blk → Prop} {β : Lay} {al : Site → Prop} {v : Value} {x : T} {s : Nat} (h : Ext w F β (fun y => al y ∧ y ≠ .v s) w' F' β al) (hx : TRel w F β al v x) : TRel w' F' β al v x := by
  cases x with
  | lp s' off => exact hx
  | p d => exact TRel.ext (x := .p d) h hx
  | ow id k es => exact TRel.ext (x := .ow id k es) h ⟨⟨hx.1, by simp⟩, hx.2⟩
  | oe id k es i off => exact TRel.ext (x := .oe id k es i off) h ⟨⟨hx.1, by simp⟩, hx.2⟩
  | mp id es ck => exact TRel.ext (x := .mp id es ck) h ⟨⟨hx.1, by simp⟩, hx.2⟩
  | ot id t xs =>
    refine TRel.ext (x := .ot id t xs) h ?_
    rcases hx with h0 | ⟨h0, ha, h1⟩
    · exact .inl h0
    · exact .inr ⟨h0, ⟨ha, by simp⟩, h1⟩
  | oet id t xs i off => exact TRel.ext (x := .oet id t xs i off) h ⟨⟨hx.1, by simp⟩, hx.2⟩
  | ov id t xs lo hi =>
    refine TRel.ext (x := .ov id t xs lo hi) h ?_
    rcases hx with h0 | ⟨h0, ha, h1⟩
    · exact .inl h0
    · exact .inr ⟨h0, ⟨ha, by simp⟩, h1⟩
  | on n => exact TRel.ext (x := .on n) h ⟨⟨hx.1, by simp⟩, ⟨hx.2.1, by simp⟩, hx.2.2⟩
  | emp => exact hx
  | dead => trivial

/-- The call to which a variable of the frame's own is lent by its pointer. -/
theorem ptr_sim (hS : Table Γ P G S) (hi : Inv Γ G w0 F0 O0 a w e) {dst : Option Tmp} {c : Call} {type : TypeId} {pos : String} {after : Array Edge} {guard : Option (Nat × Bool)}
    {f : Operand} {g : FuncId} {k s : Nat} {xs : List Operand} {cs : List T} {vs : List V} {t : Ty} {y z : t.El} {ds : List V} {st' : Γ.St} {d : V}
    (hcal : c.callee = .value f) (hf : evx G e f = .p (.clo g [])) (hspl : splitP G e c.args.toList = some (k, s, xs)) (hxs : pureArgs G e xs = some ds)
    (hcs : e.var s = some cs) (hvs : pureTs cs = some vs) (hy : t.dec (.agg vs) = some y)
    (hsp : S g e.st (.bot :: .tl t [y] :: .bot :: .val (.int .i64 (k : Int)) :: ds) = some (st', .p (.tup [.tl t [z], d]))) {Q : Exit → Act → World → Prop} :
    (⟨dst, .call c, type, pos, after, guard⟩ : Oper).wp P a w (fun a' w' => Inv Γ G w0 F0 O0 a' w' (putP e s t z st' dst d)) Q := by
  obtain ⟨F, O, β, hc, hG, hsz, hdf, ht, hv⟩ := hi
  obtain ⟨hbor, fn, hfn, hbody, hname⟩ := hS.bor g e.st t [y] (.bot :: .val (.int .i64 (k : Int)) :: ds) st' [z] d hsp
  have hptr : PtrOk Γ P G g e.st t k [y] ds st' [z] d := hbor
  have hops : ∀ x, TRel w F β (alive e) (a.eval x) (evx G e x) := fun x => evx_sim hG ht x
  have hf0 := hops f
  rw [hf] at hf0
  obtain ⟨s1, s2, ⟨x0, s3, s4⟩, s5⟩ := splitP_sound hspl
  have hx0 := hops x0
  rw [s4] at hx0
  obtain ⟨hal, hpv⟩ := hx0
  obtain ⟨hlen, hargs⟩ := pureArgs_sim (a := a) xs ds (fun x _ => hops x) hxs
  have hrun : (execOp a.eval ⟨dst, .call c, type, pos, after, guard⟩).run P w = .ok (.enter g (c.args.map a.eval)) w := by
    have hf1 : Rd w F (a.eval f) (.clo g []) := hf0
    generalize hev : a.eval f = fv at hf1
    cases hf1 with
    | clo _ cv _ hl hcap =>
      have hcv : cv = #[] := by simpa using hl
      subst hcv
      have hb : ¬ fn.body = none := by grind
      have hname' : ¬ fn.name = "runtime.NumGoroutine" := by simpa using hname
      simp [execOp, resolve, hcal, hev, Deferred.ofValue, invoke, callFunc, hfn, hname', hb]
  have hsize : (c.args.map a.eval).size = ds.length + 1 := by grind
  have hat : ∀ (i : Nat) (x : Operand), c.args.toList[i]? = some x → (c.args.map a.eval)[i]? = some (a.eval x) := by
    grind
  have hak : (c.args.map a.eval)[k]? = some (.pointer (some ⟨β.vb s, 0, none⟩)) := by grind
  have hrest : ∀ (i : Nat) (x : Value) (d : V), (c.args.map a.eval)[if i < k then i else i + 1]? = some x → ds[i]? = some d → Rd w F x d := by
    grind
  obtain ⟨c0, et, q1, q2, q3⟩ := hv s cs hcs
  have hcv := pureTs_sound hvs
  subst hcv
  have hws : WkVs vs (t.enc y).cells := dec_cells hy
  have hrow : RowRel w F (β.vb s) t.size 1 ([y].map t.enc) := by
    refine ⟨c0, et, q1, ?_, by simp, ?_, ?_⟩
    · rw [q2, List.length_map, hws.len, enc_len]; simp
    · grind [List.mem_singleton, enc_len]
    · intro i j e0 d0 x h1 h2 h3
      cases i with
      | succ i => simp at h1
      | zero =>
        cases h1
        have hlt : j < vs.length := by grind
        have h4 : vs[j]? = some vs[j] := by simp [hlt]
        have h5 : Rd w F x vs[j] := q3 j x (.p vs[j]) (by simpa using h3) (by grind)
        exact hws.get j _ d0 h4 h2 w F x h5
  obtain ⟨p1, p2, p3, p4⟩ := hc.place (.v s) hal
  have hcall := hptr w F O (β.vb s) 1 (c.args.map a.eval) hc.sig hG (fun b hb => (hc.fin b hb).2) hrow rfl ⟨p2, p3, p4⟩ hsize (by omega) hak hrest
  unfold Oper.wp
  rw [hrun]
  refine hcall.mono ?_
  rintro ex w' ⟨v, F', O', rfl, g1, g2, g3, g4, g5, g6, _, g7⟩
  have hkb : ∀ b, b < w.heap.size → ¬ O b → b ≠ β.vb s → w'.heap[b]? = w.heap[b]? := fun b hb ho hne => g2.block b hb (fun h => h.elim ho hne)
  have hne : ∀ x, alive e x → x ≠ .v s → β.blk x ≠ β.vb s := fun x hx hxi hh => hxi (hc.dist x (.v s) hx hal hh)
  have hnew0 : w0.heap.size ≤ β.vb s := p1.v
  have hO' : ∀ b, b < w.heap.size → ¬ O b → ¬ O' b := fun b hb ho h => by
    grind
  have hF' : ∀ b : Nat, b < w.heap.size → ¬ F b → ¬ F' b := fun b hb hf h => by
    grind
  have hext : Ext w F β (fun x => alive e x ∧ x ≠ .v s) w' F' β (alive e) :=
    ⟨g4.1, fun b hb => hkb b (hc.fin b hb).2.1 (hc.fin b hb).2.2 (fun hh => p3 (by rw [hh] at hb; exact hb)), fun x hx => hx.1, fun _ _ => rfl,
      fun x hx => hkb _ (hc.place x hx.1).2.1 (hc.place x hx.1).2.2.2 (hne x hx.1 hx.2)⟩
  have hext0 : Ext w F β (fun _ => False) w' F' β (fun _ => False) :=
    ⟨g4.1, hext.hf, fun x hx => hx, fun _ _ => rfl, fun x hx => hx.elim⟩
  have hcore : Core Γ w0 F0 O0 w' F' O' β (alive e) st' := by
    refine ⟨⟨g2.os.trans hc.keep.os, g2.tape.trans hc.keep.tape, g2.output.trans hc.keep.output, Nat.le_trans hc.keep.size g2.size, ?_, Nat.le_trans hc.keep.drawn g2.drawn⟩, g1, ?_, ?_, hc.f0.trans g4 hc.keep.size, ?_, hc.dist, ?_⟩
    · intro b hb ho
      rw [hkb b (by grind) (fun h => by
        rcases hc.oin b h with h | h
        · exact ho (.inl h)
        · omega) (fun hh => by omega)]
      exact hc.keep.block b hb ho
    · intro b hb
      rcases g3 b hb with h | h
      · exact hc.oin b h
      grind
    · intro b hb
      obtain ⟨h1, h2, h3⟩ := g5 b hb
      refine ⟨?_, h2, h3⟩
      rcases h1 with h | h
      · exact (hc.fin b h).1
      grind
    · intro x hx
      obtain ⟨k1, k2, k3, k4⟩ := hc.place x hx
      exact ⟨k1, Nat.lt_of_lt_of_le k2 g2.size, hF' _ k2 k3, hO' _ k2 k4⟩
    · intro b n hb
      obtain ⟨h1, h2, h3, cc, et, fl, h4, h5⟩ := hc.lent b n hb
      grind
  have hsl : s < e.vars.length := by
    grind [Nat.lt_or_ge, List.getElem?_eq_none, Env.var]
  have hvar : ∀ s', (⟨e.tm, e.vars.set s (some ((t.cells z).map T.p)), st'⟩ : Env Γ.St).var s' = if s' = s then some ((t.cells z).map T.p) else e.var s' := by
    intro s'
    simp only [Env.var]
    grind
  have hget : ∀ t', TRel w' F' β (alive e) (a.tmps.getD t' undef) (e.get t') := fun t' => (ht t').extV hext
  refine Inv.of (al := alive e) (F := F') (O := O') (β := β) ?_ (hG.ext hext0) ?_ ?_ ?_ ?_ ?_
  · cases dst <;> exact hcore
  · cases dst <;> simp [putP, Env.put, Act.put, hsz]
  · cases dst <;> exact hdf
  · intro t'
    cases dst with
    | none => exact hget t'
    | some q =>
      have h1 : (putP e s t z st' (some q) d).get t' = if t' = q ∧ q < e.tm.length then .p d else e.get t' := get_set (⟨e.tm, e.vars.set s (some ((t.cells z).map T.p)), st'⟩ : Env Γ.St) q t' (.p d)
      rw [tmps_put, h1, hsz]
      split
      · exact g7
      · exact hget t'
  · intro s' cs' hcs'
    have hcs2 : (⟨e.tm, e.vars.set s (some ((t.cells z).map T.p)), st'⟩ : Env Γ.St).var s' = some cs' := by cases dst <;> exact hcs'
    rw [hvar] at hcs2
    split at hcs2
    · rename_i hss
      subst hss
      cases hcs2
      obtain ⟨c1, et1, k1, k2, k3, k4, k5⟩ := g6
      refine ⟨hal, c1, et1, k1, ?_, ?_⟩
      · rw [k2, List.length_map, cells_len]; simp
      · intro i x y0 hx hy0
        simp at hy0
        obtain ⟨d0, hd0, rfl⟩ := hy0
        exact k5 0 i (t.enc z) d0 x rfl (by grind [enc_cells]) (by simpa using hx)
    · rename_i hss
      have ha' : alive e (.v s') := ⟨cs', hcs2⟩
      refine ⟨ha', ?_⟩
      obtain ⟨c', et', r1, r2, r3⟩ := hv s' cs' hcs2
      exact ⟨c', et', (hext.ha (.v s') ⟨ha', by simpa using hss⟩).trans r1, r2, fun i u y0 hu hy0 => (r3 i u y0 hu hy0).extV hext⟩
  · rintro s' ⟨cs', hcs'⟩
    by_cases hss : s' = s
    · refine ⟨(t.cells z).map T.p, ?_⟩
      have := hvar s'
      rw [if_pos hss] at this
      cases dst <;> exact this
    · refine ⟨cs', ?_⟩
      have := hvar s'
      rw [if_neg hss, hcs'] at this
      cases dst <;> exact this

/-- The call to which a row of the frame's own is handed for good: the row, or its beginning, comes back. -/
theorem move_sim (hS : Table Γ P G S) (hi : Inv Γ G w0 F0 O0 a w e) {dst : Option Tmp} {c : Call} {type : TypeId} {pos : String} {after : Array Edge} {guard : Option (Nat × Bool)}
    {f : Operand} {g : FuncId} {p id : Nat} {xs : List Operand} {t : Ty} {ys zs : List t.El} {ds : List V} {st' : Γ.St}
    (hcal : c.callee = .value f) (hf : evx G e f = .p (.clo g [])) (hcargs : c.args.toList = .tmp p :: xs) (hp : e.get p = .ot id t ys) (hxs : pureArgs G e xs = some ds)
    (hid : id ≠ lentId) (hsp : S g e.st (.bot :: .tl t ys :: ds) = some (st', .p (.tup [.tl t zs, .bot]))) {Q : Exit → Act → World → Prop} :
    (⟨dst, .call c, type, pos, after, guard⟩ : Oper).wp P a w (fun a' w' => Inv Γ G w0 F0 O0 a' w' (putM e id t zs st' dst)) Q := by
  obtain ⟨F, O, β, hc, hG, hsz, hdf, ht, hv⟩ := hi
  obtain ⟨hbor, fn, hfn, hbody, hname⟩ := hS.bor g e.st t ys ds st' zs .bot hsp
  have hops : ∀ x, TRel w F β (alive e) (a.eval x) (evx G e x) := fun x => evx_sim hG ht x
  have hf0 := hops f
  rw [hf] at hf0
  have hx0 := ht p
  rw [hp] at hx0
  obtain ⟨hlen, hargs⟩ := pureArgs_sim (a := a) xs ds (fun x _ => hops x) hxs
  have hrun : (execOp a.eval ⟨dst, .call c, type, pos, after, guard⟩).run P w = .ok (.enter g (c.args.map a.eval)) w := by
    have hf1 : Rd w F (a.eval f) (.clo g []) := hf0
    generalize hev : a.eval f = fv at hf1
    cases hf1 with
    | clo _ cv _ hl hcap =>
      have hcv : cv = #[] := by simpa using hl
      subst hcv
      have hb : ¬ fn.body = none := by grind
      have hname' : ¬ fn.name = "runtime.NumGoroutine" := by simpa using hname
      simp [execOp, resolve, hcal, hev, Deferred.ofValue, invoke, callFunc, hfn, hname', hb]
  have hnp : ptrPos ds = none := ptrPos_none (fun r hr => by
    cases xs with
    | nil => grind
    | cons x xs' => exact rd_nobot _ (hargs 0 (a.eval x) .bot (by simp) (by rw [hr]; rfl)))
  have hcs : c.args = (.tmp p :: xs).toArray := by grind
  have hsize : (c.args.map a.eval).size = ds.length + 1 := by grind
  have ha0 : (c.args.map a.eval)[0]? = some (a.tmps.getD p undef) := by grind [Act.eval]
  have hown : OwnR w F ⟨fun _ => β.ob id, fun _ => β.ob id⟩ (fun _ => True) (a.tmps.getD p undef) 0 t.size (ys.map t.enc) := by
    rcases hx0 with h | ⟨h0, _, h⟩
    · exact .inl h
    · exact .inr ⟨h0, trivial, h⟩
  have hal0 : ys ≠ [] → alive e (.o id) := by
    intro h0
    rcases hx0 with ⟨h, _⟩ | ⟨_, h, _⟩
    all_goals simp_all
  have hcall := (hbor.row hnp) w F O (β.ob id) (a.tmps.getD p undef) (c.args.map a.eval) hc.sig hG (fun b hb => (hc.fin b hb).2) hown
    (fun h0 => ⟨(hc.place _ (hal0 h0)).2.1, (hc.place _ (hal0 h0)).2.2.1, (hc.place _ (hal0 h0)).2.2.2⟩) hsize ha0
    (fun i x y hi hd => hargs i x y (by grind) hd)
  unfold Oper.wp
  rw [hrun]
  refine hcall.mono ?_
  rintro ex w' ⟨v, F', O', rfl, g1, g2, g3, g4, g5, b', g7, g6⟩
  have hkb : ∀ b, b < w.heap.size → ¬ O b → (ys ≠ [] → b ≠ β.ob id) → w'.heap[b]? = w.heap[b]? := fun b hb ho hne => g2.block b hb (fun h => h.elim ho (fun h => hne h.1 h.2))
  have hne : ∀ x, alive e x → x ≠ .o id → ys ≠ [] → β.blk x ≠ β.ob id := fun x hx hxi h0 hh => hxi (hc.dist x (.o id) hx (hal0 h0) hh)
  have hnew0 : ys ≠ [] → w0.heap.size ≤ β.ob id := fun h0 => (hc.place _ (hal0 h0)).1.o hid
  have hO' : ∀ b, b < w.heap.size → ¬ O b → ¬ O' b := fun b hb ho h => by
    grind
  have hF' : ∀ b : Nat, b < w.heap.size → ¬ F b → ¬ F' b := fun b hb hf h => by
    grind
  have hext : Ext w F β (alo id (alive e)) w' F' β (alive e) :=
    ⟨g4.1, fun b hb => hkb b (hc.fin b hb).2.1 (hc.fin b hb).2.2 (fun h0 hh => (hc.place _ (hal0 h0)).2.2.1 (by rw [hh] at hb; exact hb)), fun x hx => hx.1, fun _ _ => rfl,
      fun x hx => hkb _ (hc.place x hx.1).2.1 (hc.place x hx.1).2.2.2 (hne x hx.1 hx.2)⟩
  have hcore : Core Γ w0 F0 O0 w' F' O' β (alive e) st' := by
    refine ⟨⟨g2.os.trans hc.keep.os, g2.tape.trans hc.keep.tape, g2.output.trans hc.keep.output, Nat.le_trans hc.keep.size g2.size, ?_, Nat.le_trans hc.keep.drawn g2.drawn⟩, g1, ?_, ?_, hc.f0.trans g4 hc.keep.size, ?_, hc.dist, ?_⟩
    · intro b hb ho
      rw [hkb b (by have := hc.keep.size; omega) (fun h => by
        rcases hc.oin b h with h | h
        · exact ho (.inl h)
        · omega) (fun h0 hh => by grind)]
      exact hc.keep.block b hb ho
    · intro b hb
      rcases g3 b hb with h | h
      · exact hc.oin b h
      · exact .inr (Nat.le_trans hc.keep.size h)
    · intro b hb
      obtain ⟨h1, h2, h3⟩ := g5 b hb
      refine ⟨?_, h2, h3⟩
      rcases h1 with h | h
      · exact (hc.fin b h).1
      · exact .inr (Nat.le_trans hc.keep.size h)
    · intro x hx
      obtain ⟨k1, k2, k3, k4⟩ := hc.place x hx
      exact ⟨k1, Nat.lt_of_lt_of_le k2 g2.size, hF' _ k2 k3, hO' _ k2 k4⟩
    · intro b n hb
      obtain ⟨h1, h2, h3, cc, et, fl, h4, h5⟩ := hc.lent b n hb
      grind
  have hboth : ∃ (β' : Lay) (al' : Site → Prop), Ext w F β (alo id (alive e)) w' F' β' al' ∧ Core Γ w0 F0 O0 w' F' O' β' al' st' ∧ TRel w' F' β' al' v (.ot id t zs) ∧ (∀ s, al' (.v s) ↔ alive e (.v s)) ∧ β'.vb = β.vb := by
    rcases g7 with ⟨rfl, g7⟩ | ⟨k1, k2, k3, k4⟩
    · refine ⟨β, alive e, hext, hcore, ?_, fun _ => Iff.rfl, rfl⟩
      rcases g6 with h | ⟨h0, _, cap, hv0, hr⟩
      · exact .inl h
      · exact .inr ⟨h0, hal0 (fun hy => h0 (by rw [g7 hy]; rfl)), cap, hv0, hr⟩
    · let β' : Lay := { β with ob := fun i => if i = id then b' else β.ob i }
      have hb : ∀ x, x ≠ .o id → β'.blk x = β.blk x := by
        intro x hx
        cases x with
        | v s => rfl
        | o i =>
          grind [id, Lay.blk]
      have hb0 : β'.blk (.o id) = b' := by simp [Lay.blk, β']
      refine ⟨β', fun x => (alive e x ∧ x ≠ .o id) ∨ x = .o id, ⟨hext.f, hext.hf, fun x hx => .inl hx, fun x hx => hb x hx.2, hext.ha⟩, ⟨hcore.keep, hcore.sig, hcore.oin, hcore.fin, hcore.f0, ?_, ?_, hcore.lent⟩, ?_, ?_, rfl⟩
      · rintro x (⟨hx, hne'⟩ | rfl)
        · rw [hb x hne']; exact hcore.place x hx
        · rw [hb0]; exact ⟨.inl ⟨fun h => hid (by injection h), Nat.le_trans hc.keep.size k1⟩, k2, k3, k4⟩
      · rintro x y (⟨hx, hnx⟩ | rfl) (⟨hy, hny⟩ | rfl) h
        · rw [hb x hnx, hb y hny] at h; exact hc.dist x y hx hy h
        · rw [hb x hnx, hb0] at h; have := (hc.place x hx).2.1; omega
        · rw [hb0, hb y hny] at h; have := (hc.place y hy).2.1; omega
        · rfl
      · have hob : β'.ob id = b' := hb0
        rcases g6 with h | ⟨h0, _, cap, hv0, hr⟩
        · exact .inl h
        · refine .inr ⟨h0, .inr rfl, cap, ?_, ?_⟩
          all_goals grind
      grind
  obtain ⟨β', al', hext, hcore, hnew, hals, hvb⟩ := hboth
  have hget : ∀ t', TRel w' F' β' al' (a.tmps.getD t' undef) ((e.mapT (killOT id)).get t') := by
    intro q
    rw [get_mapT rfl]
    exact (ht q).killO.ext hext
  refine Inv.of (al := al') (F := F') (O := O') (β := β') ?_ (hG.ext hext) ?_ ?_ ?_ ?_ ?_
  · cases dst <;> exact hcore
  · cases dst <;> simp [putM, Env.put, Act.put, hsz]
  · cases dst <;> exact hdf
  · intro t'
    cases dst with
    | none => exact hget t'
    | some q =>
      have h1 : (putM e id t zs st' (some q)).get t' = if t' = q ∧ q < (e.tm.map (killOT id)).length then .ot id t zs else (e.mapT (killOT id)).get t' := get_set (⟨e.tm.map (killOT id), e.vars.map (fun c => c.map (List.map (killOT id))), st'⟩ : Env Γ.St) q t' (.ot id t zs)
      grind [tmps_put, List.length_map]
  · intro s cs hcs
    have hcs' : (e.mapT (killOT id)).var s = some cs := by cases dst <;> exact hcs
    rw [var_mapT] at hcs'
    simp at hcs'
    obtain ⟨cs0, hcs0, rfl⟩ := hcs'
    have ha : alive e (.v s) := ⟨cs0, hcs0⟩
    refine ⟨(hals s).2 ha, ?_⟩
    obtain ⟨c0, et, q1, q2, q3⟩ := hv s cs0 hcs0
    rw [hvb]
    refine ⟨c0, et, (hext.ha (.v s) ⟨ha, by simp⟩).trans q1, by simpa using q2, ?_⟩
    intro i x y hi hy
    simp at hy
    obtain ⟨y0, hy0, rfl⟩ := hy
    exact (q3 i x y0 hi hy0).killO.ext hext
  · intro s hs
    obtain ⟨cs, hcs⟩ := (hals s).1 hs
    refine ⟨cs.map (killOT id), ?_⟩
    have : (e.mapT (killOT id)).var s = some (cs.map (killOT id)) := by rw [var_mapT, hcs]; rfl
    cases dst <;> exact this

/-- The first pointer to a row of one element among the operands: its place, the row, the other operands. -/
def splitE {St : Type} (G : Nat → Option (List V)) (e : Env St) : List Operand → Option (Nat × Nat × ((t : Ty) × t.El) × List Operand)
  | [] => none
  | x :: r => match evx G e x with
    | .oet id t [y] 0 0 => some (0, id, ⟨t, y⟩, r)
    | _ => match splitE G e r with
      | some (k, id, q, r') => some (k + 1, id, q, x :: r')
      | none => none

theorem splitE_sound {St : Type} {G : Nat → Option (List V)} {e : Env St} : ∀ {l : List Operand} {k id : Nat} {q : (t : Ty) × t.El} {r : List Operand}, splitE G e l = some (k, id, q, r) →
    k ≤ r.length ∧ l.length = r.length + 1 ∧ (∃ x, l[k]? = some x ∧ evx G e x = .oet id q.1 [q.2] 0 0) ∧ ∀ (i : Nat) (x : Operand), r[i]? = some x → l[if i < k then i else i + 1]? = some x
  | [], _, _, _, _, h => by simp [splitE] at h
  | x :: r0, k, s, q, r, h => by
    simp only [splitE] at h
    split at h
    · grind
    · split at h
      · rename_i k' s' q' r' hr
        simp at h
        obtain ⟨rfl, rfl, rfl, rfl⟩ := h
        obtain ⟨h1, h2, ⟨y, h3, h4⟩, h5⟩ := splitE_sound hr
        grind
      · cases h

/-- The same element behind another pointer. -/
def updE (id : Nat) (t : Ty) (z : t.El) : T → T
  | .oet i t' xs j off => if i = id then (if t' = t ∧ j = 0 then .oet id t [z] 0 off else .dead) else .oet i t' xs j off
  | x => killOT id x

/-- The state behind a call to which the element of the row with number id was lent by its pointer. -/
def putE {St : Type} (e : Env St) (id : Nat) (t : Ty) (z : t.El) (st : St) (dst : Option Tmp) (d : V) : Env St :=
  (⟨e.tm.map (updE id t z), e.vars.map (fun c => c.map (List.map (killOT id))), st⟩ : Env St).put dst (.p d)

/-- The call to which the element of a row is lent by its pointer. -/
theorem ptrE_sim (hS : Table Γ P G S) (hi : Inv Γ G w0 F0 O0 a w e) {dst : Option Tmp} {c : Call} {type : TypeId} {pos : String} {after : Array Edge} {guard : Option (Nat × Bool)}
    {f : Operand} {g : FuncId} {k id : Nat} {xs : List Operand} {t : Ty} {y z : t.El} {ds : List V} {st' : Γ.St} {d : V}
    (hcal : c.callee = .value f) (hf : evx G e f = .p (.clo g [])) (hspl : splitE G e c.args.toList = some (k, id, ⟨t, y⟩, xs)) (hxs : pureArgs G e xs = some ds)
    (hsp : S g e.st (.bot :: .tl t [y] :: .bot :: .val (.int .i64 (k : Int)) :: ds) = some (st', .p (.tup [.tl t [z], d]))) {Q : Exit → Act → World → Prop} :
    (⟨dst, .call c, type, pos, after, guard⟩ : Oper).wp P a w (fun a' w' => Inv Γ G w0 F0 O0 a' w' (putE e id t z st' dst d)) Q := by
  obtain ⟨F, O, β, hc, hG, hsz, hdf, ht, hv⟩ := hi
  obtain ⟨hbor, fn, hfn, hbody, hname⟩ := hS.bor g e.st t [y] (.bot :: .val (.int .i64 (k : Int)) :: ds) st' [z] d hsp
  have hptr : PtrOk Γ P G g e.st t k [y] ds st' [z] d := hbor
  have hops : ∀ x, TRel w F β (alive e) (a.eval x) (evx G e x) := fun x => evx_sim hG ht x
  have hf0 := hops f
  rw [hf] at hf0
  obtain ⟨s1, s2, ⟨x0, s3, s4⟩, s5⟩ := splitE_sound hspl
  have hx0 := hops x0
  rw [s4] at hx0
  obtain ⟨hal, _, cap, hpv, hrow⟩ := hx0
  simp at hpv
  obtain ⟨hlen, hargs⟩ := pureArgs_sim (a := a) xs ds (fun x _ => hops x) hxs
  have hrun : (execOp a.eval ⟨dst, .call c, type, pos, after, guard⟩).run P w = .ok (.enter g (c.args.map a.eval)) w := by
    have hf1 : Rd w F (a.eval f) (.clo g []) := hf0
    generalize hev : a.eval f = fv at hf1
    cases hf1 with
    | clo _ cv _ hl hcap =>
      have hcv : cv = #[] := by simpa using hl
      subst hcv
      have hb : ¬ fn.body = none := by grind
      have hname' : ¬ fn.name = "runtime.NumGoroutine" := by simpa using hname
      simp [execOp, resolve, hcal, hev, Deferred.ofValue, invoke, callFunc, hfn, hname', hb]
  have hsize : (c.args.map a.eval).size = ds.length + 1 := by grind
  have hat : ∀ (i : Nat) (x : Operand), c.args.toList[i]? = some x → (c.args.map a.eval)[i]? = some (a.eval x) := by
    grind
  have hak : (c.args.map a.eval)[k]? = some (.pointer (some ⟨β.ob id, 0, none⟩)) := by grind
  have hrest : ∀ (i : Nat) (x : Value) (d : V), (c.args.map a.eval)[if i < k then i else i + 1]? = some x → ds[i]? = some d → Rd w F x d := by
    grind
  obtain ⟨p1, p2, p3, p4⟩ := hc.place (.o id) hal
  have hcall := hptr w F O (β.ob id) cap (c.args.map a.eval) hc.sig hG (fun b hb => (hc.fin b hb).2) hrow rfl ⟨p2, p3, p4⟩ hsize (by omega) hak hrest
  unfold Oper.wp
  rw [hrun]
  refine hcall.mono ?_
  rintro ex w' ⟨v, F', O', rfl, g1, g2, g3, g4, g5, g6, _, g7⟩
  have hkb : ∀ b, b < w.heap.size → ¬ O b → b ≠ β.ob id → w'.heap[b]? = w.heap[b]? := fun b hb ho hne => g2.block b hb (fun h => h.elim ho hne)
  have hne : ∀ x, alive e x → x ≠ .o id → β.blk x ≠ β.ob id := fun x hx hxi hh => hxi (hc.dist x (.o id) hx hal hh)
  have hO' : ∀ b, b < w.heap.size → ¬ O b → ¬ O' b := fun b hb ho h => by
    grind
  have hF' : ∀ b : Nat, b < w.heap.size → ¬ F b → ¬ F' b := fun b hb hf h => by
    grind
  have hext : Ext w F β (alo id (alive e)) w' F' β (alive e) :=
    ⟨g4.1, fun b hb => hkb b (hc.fin b hb).2.1 (hc.fin b hb).2.2 (fun hh => p3 (by show F (Blk.b (β.ob id)); grind)), fun x hx => hx.1, fun _ _ => rfl,
      fun x hx => hkb _ (hc.place x hx.1).2.1 (hc.place x hx.1).2.2.2 (hne x hx.1 hx.2)⟩
  have hcore : Core Γ w0 F0 O0 w' F' O' β (alive e) st' := by
    refine ⟨⟨g2.os.trans hc.keep.os, g2.tape.trans hc.keep.tape, g2.output.trans hc.keep.output, Nat.le_trans hc.keep.size g2.size, ?_, Nat.le_trans hc.keep.drawn g2.drawn⟩, g1, ?_, ?_, hc.f0.trans g4 hc.keep.size, ?_, hc.dist, ?_⟩
    · intro b hb ho
      rw [hkb b (by have := hc.keep.size; omega) (fun h => by
        rcases hc.oin b h with h | h
        · exact ho (.inl h)
        · omega) (fun hh => ho (p1.old (by show β.ob id < _; omega) |> fun h => by rw [hh]; exact h))]
      exact hc.keep.block b hb ho
    · intro b hb
      rcases g3 b hb with h | h
      · exact hc.oin b h
      · exact .inr (Nat.le_trans hc.keep.size h)
    · intro b hb
      obtain ⟨h1, h2, h3⟩ := g5 b hb
      refine ⟨?_, h2, h3⟩
      rcases h1 with h | h
      · exact (hc.fin b h).1
      · exact .inr (Nat.le_trans hc.keep.size h)
    · intro x hx
      obtain ⟨k1, k2, k3, k4⟩ := hc.place x hx
      exact ⟨k1, Nat.lt_of_lt_of_le k2 g2.size, hF' _ k2 k3, hO' _ k2 k4⟩
    · intro b n hb
      obtain ⟨h1, h2, h3, cc, et, fl, h4, h5⟩ := hc.lent b n hb
      have hbw : b < w.heap.size := by grind
      refine ⟨h1, hO' b hbw h2, hF' b hbw h3, ?_⟩
      by_cases hbi : b = β.ob id
      · subst hbi
        obtain ⟨c0, et0, r1, r2, _⟩ := hrow
        obtain ⟨c1, et1, q1, q2, _⟩ := g6
        grind
      grind
  have hget : ∀ t', TRel w' F' β (alive e) (a.tmps.getD t' undef) ((⟨e.tm.map (updE id t z), e.vars.map (fun c => c.map (List.map (killOT id))), st'⟩ : Env Γ.St).get t') := by
    intro q
    have h1 : (⟨e.tm.map (updE id t z), e.vars.map (fun c => c.map (List.map (killOT id))), st'⟩ : Env Γ.St).get q = updE id t z (e.get q) := by
      grind [Env.get, updE, killOT]
    rw [h1]
    have hkill : TRel w' F' β (alive e) (a.tmps.getD q undef) (killOT id (e.get q)) := (ht q).killO.ext hext
    have hq := ht q
    cases hx : e.get q with
    | oet i t' us j off =>
      rw [hx] at hkill hq
      simp only [updE]
      split
      · rename_i hi
        subst hi
        split
        · rename_i htt
          obtain ⟨htt, hj⟩ := htt
          subst htt
          subst hj
          obtain ⟨_, _, cap', hv', _⟩ := hq
          exact ⟨hal, by simp, cap, hv', g6⟩
        · trivial
      · rename_i hi
        simp only [killOT, if_neg hi] at hkill
        exact hkill
    | _ => rw [hx] at hkill; exact hkill
  refine Inv.of (al := alive e) (F := F') (O := O') (β := β) ?_ (hG.ext hext) ?_ ?_ ?_ ?_ ?_
  · cases dst <;> exact hcore
  · cases dst <;> simp [putE, Env.put, Act.put, hsz]
  · cases dst <;> exact hdf
  · intro t'
    cases dst with
    | none => exact hget t'
    | some q =>
      have h1 : (putE e id t z st' (some q) d).get t' = if t' = q ∧ q < (e.tm.map (updE id t z)).length then .p d else (⟨e.tm.map (updE id t z), e.vars.map (fun c => c.map (List.map (killOT id))), st'⟩ : Env Γ.St).get t' := get_set (⟨e.tm.map (updE id t z), e.vars.map (fun c => c.map (List.map (killOT id))), st'⟩ : Env Γ.St) q t' (.p d)
      rw [tmps_put, h1, List.length_map, hsz]
      split
      · exact g7
      · exact hget t'
  · intro s cs hcs
    have hcs' : (e.mapT (killOT id)).var s = some cs := by cases dst <;> exact hcs
    rw [var_mapT] at hcs'
    simp at hcs'
    obtain ⟨cs0, hcs0, rfl⟩ := hcs'
    have ha : alive e (.v s) := ⟨cs0, hcs0⟩
    refine ⟨ha, ?_⟩
    obtain ⟨c0, et, q1, q2, q3⟩ := hv s cs0 hcs0
    refine ⟨c0, et, (hext.ha (.v s) ⟨ha, by simp⟩).trans q1, by simpa using q2, ?_⟩
    intro i x y hi hy
    simp at hy
    obtain ⟨y0, hy0, rfl⟩ := hy
    exact (q3 i x y0 hi hy0).killO.ext hext
  · rintro s ⟨cs, hcs⟩
    refine ⟨cs.map (killOT id), ?_⟩
    have : (e.mapT (killOT id)).var s = some (cs.map (killOT id)) := by rw [var_mapT, hcs]; rfl
    cases dst <;> exact this
end
end Go.Ve
