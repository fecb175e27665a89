/-
  The evaluator over pure values, part 21: regions: in the order of the text; in an order that is drawn, with a tail that comes last in every order.
  The evaluator over pure values, part 14: statements and functions.
  The evaluator over pure values, part 15: a function's contract out of the evaluation of its body.
  The evaluator over pure values, part 16: an evaluation that computes; the interpreter over all functions.
-/
import Derived.Test.YtggmpbaiijodiaaGreatR4
set_option linter.unusedVariables false
namespace Go.Ve
open Go

section
variable {Γ : Sig} (P : Look) (G : Nat → Option (List V)) (S : Specs Γ)

/-- One operation behind the other. -/
def evStep (ops : Array Oper) (e : Env Γ.St) (o : Oper) : Option (Env Γ.St) :=
  match wantedV ops e o with
  | some true => evAny P G S e o
  | some false => some (e.put o.dst (.p (.val undef)))
  | none => none

def evSeq (ops : Array Oper) : List Oper → Env Γ.St → Option (Env Γ.St)
  | [], e => some e
  | o :: rest, e => match evStep P G S ops e o with
    | some e1 => evSeq ops rest e1
    | none => none

def isW (o : Oper) : Bool :=
  match o.op with
  | .store _ _ _ => true
  | .mapUpdate _ _ _ _ => true
  | .call c => match c.callee with
    | .builtin .append => true
    | _ => false
  | _ => false

/-- Where the tail begins: at the first operation that writes. -/
def tailAt : List Oper → Nat
  | [] => 0
  | o :: r => if isW o then 0 else tailAt r + 1

def tailOk (ops : Array Oper) (k : Nat) : Bool :=
  if k = ops.size then true else
  let anc := Region.before ops
  ancOk ops anc && (List.range ops.size).all fun j => match ops[j]? with
    | some o => o.after.all (fun e => !Region.binds .any e || decide (e.on < j)) && (decide (j < k) || (List.range j).all fun i => (anc.getD j 0).testBit i)
    | none => true

def guardOk (ops : Array Oper) (k : Nat) : Bool :=
  (List.range k).all fun i => match ops[i]? with
    | some o => match o.guard with
      | some (j, _) => decide (j < k)
      | none => true
    | none => true

/-- Everything that the region's calls are handed is pure from the region's beginning on. -/
def callOperands : List Oper → List Operand
  | [] => []
  | o :: r => if isCall o && !isW o then o.op.operands.toList ++ callOperands r else callOperands r

def evDrawK (ops : Array Oper) (k : Nat) (e : Env Γ.St) : Option (Env Γ.St) :=
  match evDraw P G S (ops.extract 0 k) e with
  | some e1 => evSeq P G S ops (ops.toList.drop k) e1
  | none => none

def evDrawT (ops : Array Oper) (e : Env Γ.St) : Option (Env Γ.St) :=
  if tailAt ops.toList ≤ ops.size && tailOk ops (tailAt ops.toList) && guardOk ops (tailAt ops.toList) then
    match evDrawK P G S ops (tailAt ops.toList) e with
    | some e1 => some e1
    | none => evDrawK P G S ops (tailAt ops.toList) (frzOps G (callOperands ops.toList) e)
  else none
end

section
variable {Γ : Sig} {P : Program} {G : Nat → Option (List V)} {S : Specs Γ} {w0 : World} {F0 : Blk → Prop} {O0 : Lent} {a : Act} {w : World} {e e' : Env Γ.St} {ops : Array Oper} {k : Nat}

/-- By the machine: an operation takes every world of state e to one of state e1. -/
def OpOk (P : Program) (G : Nat → Option (List V)) (e : Env Γ.St) (o : Oper) (e1 : Env Γ.St) : Prop :=
  ∀ (w0 : World) (F0 : Blk → Prop) (O0 : Lent) (a : Act) (w : World) (Q : Exit → Act → World → Prop), Inv Γ G w0 F0 O0 a w e → o.wp P a w (fun a' w' => Inv Γ G w0 F0 O0 a' w' e1) Q

def StepR (P : Program) (G : Nat → Option (List V)) (ops : Array Oper) (e : Env Γ.St) (o : Oper) (e1 : Env Γ.St) : Prop :=
  (wantedV ops e o = some true ∧ OpOk P G e o e1) ∨ (wantedV ops e o = some false ∧ e1 = e.put o.dst (.p (.val undef)))

inductive SeqR (P : Program) (G : Nat → Option (List V)) (ops : Array Oper) : List Oper → Env Γ.St → Env Γ.St → Prop
  | nil (e : Env Γ.St) : SeqR P G ops [] e e
  | cons {o : Oper} {rest : List Oper} {e e1 e' : Env Γ.St} : StepR P G ops e o e1 → SeqR P G ops rest e1 e' → SeqR P G ops (o :: rest) e e'

theorem stepR_of (hS : Table Γ P G S) {o : Oper} (h : evStep P G S ops e o = some e') : StepR P G ops e o e' := by
  unfold evStep at h
  split at h
  · rename_i hw; exact .inl ⟨hw, fun w0 F0 O0 a w Q hi => evAny_sim hS hi h⟩
  · rename_i hw; simp only [Option.some.injEq] at h; exact .inr ⟨hw, h.symm⟩
  · cases h

theorem seqR_of (hS : Table Γ P G S) : ∀ {l : List Oper} {e e' : Env Γ.St}, evSeq P G S ops l e = some e' → SeqR P G ops l e e' := by
  intro l
  induction l with
  | nil => intro e e' h; simp only [evSeq, Option.some.injEq] at h; subst h; exact .nil e
  | cons o l ih =>
    intro e e' h
    simp only [evSeq] at h
    split at h
    · rename_i e1 he1; exact .cons (stepR_of hS he1) (ih h)
    · cases h

theorem stepR_op {o : Oper} {Q : Exit → Act → World → Prop} {K : Act → World → Prop} {i : Nat} (hi : ops[i]? = some o) (h : StepR P G ops e o e') (hinv : Inv Γ G w0 F0 O0 a w e)
    (hK : ∀ a w, Inv Γ G w0 F0 O0 a w e' → K a w) : wpOp P ops Q i K a w := by
  unfold wpOp
  simp only [hi]
  obtain ⟨F, O, β, hc, hG, hsz, hdf, ht, hv⟩ := hinv
  rcases h with ⟨hw, h⟩ | ⟨hw, h⟩
  · rw [wanted_eq (fun t _ => ht t) hsz hw, if_pos rfl]
    exact .inl (Oper.wp_mono hK (h w0 F0 O0 a w Q ⟨F, O, β, hc, hG, hsz, hdf, ht, hv⟩))
  · rw [wanted_eq (fun t _ => ht t) hsz hw]
    simp only [Bool.false_eq_true, if_false]
    subst h
    refine hK _ _ ?_
    refine Inv.of (al := alive e) (by cases o.dst <;> exact hc) hG ?_ ?_ ?_ ?_ ?_
    · cases hd : o.dst <;> simp [Act.put, Env.put, hsz]
    · cases hd : o.dst <;> exact hdf
    · intro t
      cases hd : o.dst with
      | none => exact ht t
      | some d =>
        rw [tmps_put]
        simp only [Env.put]
        rw [get_set, hsz]
        split
        · exact Rd.val _
        · exact ht t
    · intro s cs hcs
      have : (e.put o.dst (.p (.val undef))).var s = e.var s := by cases o.dst <;> rfl
      rw [this] at hcs
      exact ⟨⟨cs, hcs⟩, hv s cs hcs⟩
    · intro s hs
      have : (e.put o.dst (.p (.val undef))).var s = e.var s := by cases o.dst <;> rfl
      rw [this]; exact hs

theorem seq_ops (ops : Array Oper) {Q : Exit → Act → World → Prop} : ∀ (n : Nat) (l : List Oper) (e e' : Env Γ.St) (a : Act) (w : World),
    ops.toList.drop n = l → SeqR P G ops l e e' → Inv Γ G w0 F0 O0 a w e → (∀ a w, Inv Γ G w0 F0 O0 a w e' → Q .normal a w) →
    wpOps P ops Q (List.range' n l.length) a w := by
  intro n l
  induction l generalizing n with
  | nil =>
    intro e e' a w _ h hi hQ
    cases h
    exact hQ a w hi
  | cons o rest ih =>
    intro e e' a w hl h hi hQ
    cases h with
    | cons he1 h =>
      rename_i e1
      have hat : ops[n]? = some o := by
        have : (ops.toList.drop n)[0]? = some o := by rw [hl]; rfl
        rw [List.getElem?_drop] at this
        simpa using this
      have hrest : ops.toList.drop (n + 1) = rest := by rw [← List.tail_drop, hl]; rfl
      simp only [List.length_cons, List.range'_succ]
      rw [wpOps_cons]
      exact stepR_op hat he1 hi (fun a w hi1 => ih (n + 1) e1 e' a w hrest h hi1 hQ)

structure Tail (ops : Array Oper) (k : Nat) : Prop where
  edge : ∀ (i : Nat) (o : Oper) (e : Edge), ops[i]? = some o → e ∈ o.after → Region.binds .any e = true → e.on < i
  last : ∀ (listed : Nat → Prop), (∀ (i : Nat) (o : Oper) (e : Edge), ops[i]? = some o → listed i → e ∈ o.after → Region.binds .any e = true → listed e.on) →
    ∀ (j i : Nat) (o : Oper), ops[j]? = some o → k ≤ j → i < j → (∀ e, e ∈ o.after → Region.binds .any e = true → listed e.on) → listed i

theorem tail_of (h : tailOk ops k = true) (hne : k ≠ ops.size) : Tail ops k := by
  unfold tailOk at h
  rw [if_neg hne] at h
  simp only [Bool.and_eq_true] at h
  obtain ⟨hanc, hall⟩ := h
  generalize Region.before ops = anc at hanc hall
  have hone : ∀ j o, ops[j]? = some o → (o.after.all (fun e => !Region.binds .any e || decide (e.on < j)) && (decide (j < k) || (List.range j).all fun i => (anc.getD j 0).testBit i)) = true := by
    intro j o ho
    have hlt : j < ops.size := (Array.getElem?_eq_some_iff.1 ho).1
    have := List.all_eq_true.1 hall j (List.mem_range.2 hlt)
    simpa [ho] using this
  have hedge : ∀ (i : Nat) (o : Oper) (e : Edge), ops[i]? = some o → e ∈ o.after → Region.binds .any e = true → e.on < i := by
    intro i o e ho he hb
    have h1 := hone i o ho
    rw [Bool.and_eq_true] at h1
    have h2 := Array.all_eq_true_iff_forall_mem.1 h1.1 e he
    simpa [hb] using h2
  have hcl : ∀ (listed : Nat → Prop), (∀ (i : Nat) (o : Oper) (e : Edge), ops[i]? = some o → listed i → e ∈ o.after → Region.binds .any e = true → listed e.on) →
      ∀ (i : Nat) (o : Oper) (j : Nat), ops[i]? = some o → j < i → (anc.getD i 0).testBit j = true → (∀ e, e ∈ o.after → Region.binds .any e = true → listed e.on) → listed j := by
    intro listed hdown i
    induction i using Nat.strongRecOn with
    | _ i ih =>
      intro o j ho hji hbit hi
      have hlt : i < ops.size := (Array.getElem?_eq_some_iff.1 ho).1
      have h1 := List.all_eq_true.1 hanc i (List.mem_range.2 hlt)
      simp only [ho] at h1
      have h2 := List.all_eq_true.1 h1 j (List.mem_range.2 hji)
      simp only [hbit, Bool.not_true, Bool.false_or, Array.any_eq_true', Bool.and_eq_true, Bool.or_eq_true, decide_eq_true_eq, beq_iff_eq] at h2
      obtain ⟨e, he, ⟨hb, hon⟩, hj⟩ := h2
      have hle := hi e he hb
      rcases hj with rfl | ⟨hjlt, hbit'⟩
      · exact hle
      · have hlt' : e.on < ops.size := by omega
        have ho' : ops[e.on]? = some ops[e.on] := by simp [hlt']
        exact ih e.on hon ops[e.on] j ho' hjlt hbit' (fun e2 he2 hb2 => hdown e.on _ e2 ho' hle he2 hb2)
  refine ⟨hedge, ?_⟩
  intro listed hdown j i o ho hkj hij hdeps
  have h1 := hone j o ho
  rw [Bool.and_eq_true] at h1
  have h2 := h1.2
  simp only [Bool.or_eq_true, decide_eq_true_eq] at h2
  have h3 := h2.resolve_left (by omega)
  exact hcl listed hdown j o i ho hij (List.all_eq_true.1 h3 i (List.mem_range.2 hij)) hdeps

theorem wpAny_tail (ht : Tail ops k) {Q : Exit → Act → World → Prop} : ∀ (l : List Oper) (j : Nat) (e e' : Env Γ.St) (fuel : Nat) (listed : Array Bool) (a : Act) (w : World),
    k ≤ j → ops.toList.drop j = l → SeqR P G ops l e e' → listed.size = ops.size → (∀ i, i < ops.size → listed.getD i true = decide (i < j)) → Inv Γ G w0 F0 O0 a w e → l.length ≤ fuel →
    (∀ a w, Inv Γ G w0 F0 O0 a w e' → Q .normal a w) → wpAny P .any ops Q fuel listed a w := by
  intro l
  induction l with
  | nil =>
    intro j e e' fuel listed a w hkj hl hev hls hlist hinv hfuel hQ
    cases hev
    have hge : ops.size ≤ j := by simpa using hl
    have hr : Region.ready .any ops listed = [] := by
      apply List.eq_nil_iff_forall_not_mem.2
      intro i hi
      obtain ⟨hun, o, ho, _⟩ := mem_ready.1 hi
      have hlt : i < ops.size := (Array.getElem?_eq_some_iff.1 ho).1
      rw [hlist i hlt] at hun
      simp at hun; omega
    exact wpAny_done hr (hQ a w hinv) fuel
  | cons o rest ih =>
    intro j e e' fuel listed a w hkj hl hev hls hlist hinv hfuel hQ
    cases hev with
    | cons he1 hev =>
      rename_i e1
      have hat : ops[j]? = some o := by
        have : (ops.toList.drop j)[0]? = some o := by rw [hl]; rfl
        rw [List.getElem?_drop] at this
        simpa using this
      have hjlt : j < ops.size := (Array.getElem?_eq_some_iff.1 hat).1
      have hrest : ops.toList.drop (j + 1) = rest := by rw [← List.tail_drop, hl]; rfl
      cases fuel with
      | zero => simp at hfuel
      | succ fuel =>
        have hdown : ∀ (i : Nat) (o : Oper) (e : Edge), ops[i]? = some o → listed.getD i true = true → e ∈ o.after → Region.binds .any e = true → listed.getD e.on true = true := by
          intro i oi ed hi hli hed hb
          have hlt : i < ops.size := (Array.getElem?_eq_some_iff.1 hi).1
          have hon := ht.edge i oi ed hi hed hb
          rw [hlist i hlt] at hli
          rw [hlist ed.on (by omega)]
          simp at hli ⊢; omega
        refine ⟨fun hr => ?_, ?_⟩
        · exfalso
          have : j ∈ Region.ready .any ops listed := by
            rw [mem_ready]
            refine ⟨by rw [hlist j hjlt]; simp, o, hat, ?_⟩
            intro ed hed hb
            have hon := ht.edge j o ed hat hed hb
            rw [getD_tf (by omega), hlist ed.on (by omega)]
            simpa using hon
          rw [hr] at this; cases this
        · intro i hi
          obtain ⟨hun, oi, ho, hdeps⟩ := mem_ready.1 hi
          have hlt : i < ops.size := (Array.getElem?_eq_some_iff.1 ho).1
          have hij : j ≤ i := by rw [hlist i hlt] at hun; simp at hun; exact hun
          have hdeps' : ∀ ed, ed ∈ oi.after → Region.binds .any ed = true → listed.getD ed.on true = true := by
            intro ed hed hb
            have h1 := hdeps ed hed hb
            have hon := ht.edge i oi ed ho hed hb
            rw [← getD_tf (by omega)]; exact h1
          have hii : i = j := by
            rcases Nat.lt_or_ge j i with h | h
            · exfalso
              have := ht.last (fun k => listed.getD k true = true) hdown i j oi ho (by omega) h hdeps'
              rw [hlist j hjlt] at this; simp at this
            · omega
          subst hii
          refine stepR_op hat he1 hinv ?_
          intro a' w' hinv'
          refine ih (i + 1) e1 e' fuel _ a' w' (by omega) hrest hev (by simpa using hls) ?_ hinv' (by simpa using hfuel) hQ
          intro i' hi'
          rw [getD_set _ _ _ (by omega)]
          split
          · rename_i h; subst h; simp
          · rename_i h
            rw [hlist i' hi']
            simp; omega

theorem extract_get {i : Nat} (hi : i < k) : (ops.extract 0 k)[i]? = ops[i]? := by
  rw [Array.getElem?_extract]
  split
  · simp
  · rename_i h
    rw [Array.getElem?_eq_none (by simp at h; omega)]

theorem wpOp_extract {Q : Exit → Act → World → Prop} {K : Act → World → Prop} {i : Nat} (hi : i < k) (hg : guardOk ops k = true) (h : wpOp P (ops.extract 0 k) Q i K a w) : wpOp P ops Q i K a w := by
  unfold wpOp at *
  rw [extract_get hi] at h
  cases ho : ops[i]? with
  | none => rw [ho] at h; exact h
  | some o =>
    rw [ho] at h
    simp only at h ⊢
    have hw : Region.wanted o (yielded (ops.extract 0 k) a.tmps) = Region.wanted o (yielded ops a.tmps) := by
      unfold Region.wanted
      cases hgd : o.guard with
      | none => rfl
      | some gw =>
        obtain ⟨j, want⟩ := gw
        have h1 := List.all_eq_true.1 hg i (List.mem_range.2 hi)
        simp only [ho, hgd, decide_eq_true_eq] at h1
        simp only [yielded, extract_get h1]
    rw [hw] at h
    exact h

theorem wpAny_drawK (hm : k ≤ ops.size) (hst : Static (ops.extract 0 k)) (htl : tailOk ops k = true) (hgd : guardOk ops k = true) (hS : Table Γ P G S) {sts : Nat → Γ.St} {e1 e' : Env Γ.St}
    (hsteps : ∀ (i : Nat) (o : Oper), (ops.extract 0 k)[i]? = some o → StepAt P G S (ops.extract 0 k) e1 (sts i) o (sts (i + 1))) (hlast : sts k = e1.st)
    (htail : SeqR P G ops (ops.toList.drop k) e1 e')
    {Q : Exit → Act → World → Prop} (hQ : ∀ a w, Inv Γ G w0 F0 O0 a w e' → Q .normal a w) : ∀ (fuel : Nat) (listed : Array Bool) (a : Act) (w : World), listed.size = ops.size →
    listed.count false ≤ fuel → (∀ i, k ≤ i → i < ops.size → listed.getD i true = false) →
    (∀ (i : Nat) (o : Oper) (e : Edge), ops[i]? = some o → listed.getD i true = true → e ∈ o.after → Region.binds .any e = true → listed.getD e.on true = true) →
    (∃ F O β al m, PInv Γ G w0 F0 O0 (ops.extract 0 k) e1 sts (listed.extract 0 k) a w F O β al m) → wpAny P .any ops Q fuel listed a w := by
  have hks : (ops.extract 0 k).size = k := by simp; omega
  have hlk : ∀ (listed : Array Bool) (i : Nat), i < k → (listed.extract 0 k).getD i true = listed.getD i true := by
    intro listed i hi
    simp only [Array.getD_eq_getD_getElem?]
    rw [Array.getElem?_extract]
    split
    · simp
    · rename_i h
      rw [Array.getElem?_eq_none (by simp at h; omega)]
  have hinvOf : ∀ (listed : Array Bool) (a : Act) (w : World), (∀ i, i < k → listed.getD i true = true) → (∃ F O β al m, PInv Γ G w0 F0 O0 (ops.extract 0 k) e1 sts (listed.extract 0 k) a w F O β al m) → Inv Γ G w0 F0 O0 a w e1 := by
    rintro listed a w hall ⟨F, O, β, al, m, hp⟩
    have hkn : ∀ t, Known (ops.extract 0 k) (listed.extract 0 k) t := fun t i o ho hl => by
      have hi : i < k := by have := (Array.getElem?_eq_some_iff.1 ho).1; omega
      rw [hlk listed i hi, hall i hi] at hl; cases hl
    have heq : ∀ q, m + q ≤ k → sts (m + q) = sts m := by
      intro q
      induction q with
      | zero => intro _; rfl
      | succ q ih =>
        intro hq
        have hlt : m + q < (ops.extract 0 k).size := by omega
        have hj : (ops.extract 0 k)[m + q]? = some (ops.extract 0 k)[m + q] := by rw [Array.getElem?_eq_getElem hlt]
        have hnc : isCall (ops.extract 0 k)[m + q] = false := by
          cases hc : isCall (ops.extract 0 k)[m + q] with
          | false => rfl
          | true => have := (hp.calls _ _ hj hc).1 (by rw [hlk listed _ (by omega)]; exact hall _ (by omega)); omega
        rw [← ih (by omega)]
        rcases hsteps (m + q) _ hj with ⟨_, r', hev', hst'', _, _⟩ | ⟨_, hst'', _⟩
        · rw [← Nat.add_assoc, hst'']; exact st_of_nocall (evQ_nc hev' hnc) _
        · rw [← Nat.add_assoc, hst'']
    have hmle := hp.mle
    have hlst : sts m = e1.st := by
      have := heq (k - m) (by omega)
      rw [Nat.add_sub_cancel' (by omega)] at this
      rw [← this, hlast]
    refine Inv.of (al := al) (by rw [← hlst]; exact hp.core) hp.g hp.size hp.defers (fun t => hp.tm t (hkn t)) ?_ hp.lp
    intro s cs hcs
    have ha := hp.vk s cs hcs (hkn s)
    exact ⟨ha, hp.var s cs hcs ha⟩
  have hdone : ∀ (fuel : Nat) (listed : Array Bool) (a : Act) (w : World), listed.size = ops.size → listed.count false ≤ fuel → (∀ i, k ≤ i → i < ops.size → listed.getD i true = false) →
      (∀ i, i < k → listed.getD i true = true) → Inv Γ G w0 F0 O0 a w e1 → wpAny P .any ops Q fuel listed a w := by
    intro fuel listed a w hls hcnt htf hall hinv
    by_cases hke : k = ops.size
    · have hnil : ops.toList.drop k = [] := by rw [hke]; simp
      rw [hnil] at htail
      cases htail
      have hr : Region.ready .any ops listed = [] := by
        apply List.eq_nil_iff_forall_not_mem.2
        intro i hi
        obtain ⟨hun, o, ho, _⟩ := mem_ready.1 hi
        have hlt : i < ops.size := (Array.getElem?_eq_some_iff.1 ho).1
        rw [hall i (by omega)] at hun; cases hun
      exact wpAny_done hr (hQ a w hinv) fuel
    · have htail' := tail_of htl hke
      refine wpAny_tail htail' _ k e1 e' fuel listed a w (Nat.le_refl _) rfl htail hls ?_ hinv ?_ hQ
      · intro i hi
        by_cases h : i < k
        · rw [hall i h]; simp [h]
        · rw [htf i (by omega) hi]; simp [h]
      · have hle : (ops.toList.drop k).length ≤ listed.count false := by
          have h1 : listed = listed.extract 0 k ++ listed.extract k listed.size := by
            apply arr_ext
            intro i
            rw [Array.getElem?_append]
            simp only [Array.size_extract, Array.getElem?_extract]
            by_cases hi : i < k
            · by_cases hi2 : i < listed.size
              · simp [show i < min k listed.size by omega]
              · rw [Array.getElem?_eq_none (by omega), if_neg (by omega), if_neg (by omega)]
            · by_cases hi2 : i < listed.size
              · rw [if_neg (by omega), if_pos (by omega)]
                congr 1; omega
              · rw [if_neg (by omega), if_neg (by omega), Array.getElem?_eq_none (by omega)]
          have h2 : listed.extract k listed.size = Array.replicate (listed.size - k) false := by
            apply arr_ext
            intro i
            rw [Array.getElem?_extract, Array.getElem?_replicate]
            by_cases hi : i < listed.size - k
            · rw [if_pos (by omega), if_pos hi]
              have := htf (k + i) (by omega) (by omega)
              rw [Array.getD_eq_getD_getElem?, Array.getElem?_eq_getElem (by omega), Option.getD_some] at this
              rw [Array.getElem?_eq_getElem (by omega), this]
            · rw [if_neg (by omega), if_neg hi]
          rw [h1, Array.count_append, h2]
          simp
          omega
        omega
  intro fuel
  induction fuel with
  | zero =>
    intro listed a w hls hcnt htf hdown hp
    have hall : ∀ i, i < k → listed.getD i true = true := by
      intro i hi
      cases hl : listed.getD i true with
      | true => rfl
      | false =>
        exfalso
        have h0 : listed.count false = 0 := by omega
        rw [Array.count_eq_zero] at h0
        apply h0
        have h : i < listed.size := by omega
        simp [Array.getD_eq_getD_getElem?, h] at hl
        rw [← hl]; exact Array.getElem_mem h
    exact hdone 0 listed a w hls hcnt htf hall (hinvOf listed a w hall hp)
  | succ fuel ih =>
    intro listed a w hls hcnt htf hdown hp
    by_cases hall : ∀ i, i < k → listed.getD i true = true
    · exact hdone (fuel + 1) listed a w hls hcnt htf hall (hinvOf listed a w hall hp)
    · have hmin : ∃ i, i < k ∧ listed.getD i true = false ∧ ∀ j, j < i → listed.getD j true = true := by
        have : ∀ n, n ≤ k → (∀ i, i < n → listed.getD i true = true) ∨ ∃ i, i < n ∧ listed.getD i true = false ∧ ∀ j, j < i → listed.getD j true = true := by
          intro n
          induction n with
          | zero => intro _; exact .inl (fun i hi => by omega)
          | succ n ihn =>
            intro hn
            rcases ihn (by omega) with h | ⟨i, h1, h2, h3⟩
            · cases hl : listed.getD n true with
              | true => exact .inl (fun i hi => by rcases Nat.lt_or_ge i n with h' | h'; exact h i h'; obtain rfl : i = n := by omega
                                                   exact hl)
              | false => exact .inr ⟨n, by omega, hl, h⟩
            · exact .inr ⟨i, by omega, h2, h3⟩
        rcases this k (Nat.le_refl _) with h | ⟨i, h1, h2, h3⟩
        · exact absurd h hall
        · exact ⟨i, h1, h2, h3⟩
      obtain ⟨i0, hi0, hun0, hbel⟩ := hmin
      refine ⟨fun hr => ?_, ?_⟩
      · exfalso
        have hlt : i0 < ops.size := by omega
        have : i0 ∈ Region.ready .any ops listed := by
          rw [mem_ready]
          refine ⟨hun0, ops[i0], by simp [hlt], ?_⟩
          intro ed hed hb
          have hon := hst.edge i0 ops[i0] ed (by rw [extract_get hi0]; simp [hlt]) hed hb
          rw [getD_tf (by omega)]
          exact hbel ed.on hon
        rw [hr] at this; cases this
      · intro i hi
        obtain ⟨hun, o, ho, hdeps⟩ := mem_ready.1 hi
        have hlt : i < ops.size := (Array.getElem?_eq_some_iff.1 ho).1
        have hin : i < listed.size := by omega
        have hdeps' : ∀ ed, ed ∈ o.after → Region.binds .any ed = true → listed.getD ed.on true = true := by
          intro ed hed hb
          have h1 := hdeps ed hed hb
          rcases Nat.lt_or_ge ed.on listed.size with h | h
          · rw [← getD_tf h]; exact h1
          · simp [Array.getD_eq_getD_getElem?, Array.getElem?_eq_none h]
        have hik : i < k := by
          rcases Nat.lt_or_ge i k with h | h
          · exact h
          · exfalso
            have hke : k ≠ ops.size := by omega
            have htail' := tail_of htl hke
            have := htail'.last (fun q => listed.getD q true = true) hdown i i0 o ho h (by omega) hdeps'
            rw [hun0] at this; cases this
        obtain ⟨F, O, β, al, m, hp⟩ := hp
        refine wpOp_extract hik hgd ?_
        refine pinv_step hst hS hsteps hp (by simp; omega) ?_ (by rw [extract_get hik]; exact ho) (by rw [hlk listed i hik]; exact hun) ?_ ?_
        · intro j oj ed hj hl hed hb
          have hjk : j < k := by have := (Array.getElem?_eq_some_iff.1 hj).1; omega
          have hon := hst.edge j oj ed hj hed hb
          rw [hlk listed j hjk] at hl
          rw [hlk listed ed.on (by omega)]
          exact hdown j oj ed (by rw [← extract_get hjk]; exact hj) hl hed hb
        · intro ed hed hb
          have hon := hst.edge i o ed (by rw [extract_get hik]; exact ho) hed hb
          rw [hlk listed ed.on (by omega)]
          exact hdeps' ed hed hb
        · intro a' w' F' O' β' al' m' hp'
          have hset : (listed.extract 0 k).setIfInBounds i true = (listed.setIfInBounds i true).extract 0 k := by
            apply arr_ext
            intro q
            rw [Array.getElem?_extract]
            by_cases hq : q = i
            · subst hq
              rw [Array.getElem?_setIfInBounds_self_of_lt (by simp; omega), if_pos (by simp; omega)]
              rw [Nat.zero_add, Array.getElem?_setIfInBounds_self_of_lt hin]
            · rw [Array.getElem?_setIfInBounds_ne (Ne.symm hq), Array.getElem?_extract]
              simp only [Array.size_setIfInBounds, Nat.zero_add]
              rw [Array.getElem?_setIfInBounds_ne (Ne.symm hq)]
          rw [hset] at hp'
          refine ih (listed.setIfInBounds i true) a' w' (by simpa using hls) ?_ ?_ ?_ ⟨F', O', β', al', m', hp'⟩
          · have hli : listed[i] = false := by simpa [Array.getD_eq_getD_getElem?, hin] using hun
            rw [Array.setIfInBounds_def, dif_pos hin, Array.count_set hin, hli]
            simp
            omega
          · intro q hq1 hq2
            rw [getD_set _ _ _ hin, if_neg (by omega)]; exact htf q hq1 hq2
          · intro j oj ed hj hl hed hb
            rw [getD_set _ _ _ hin] at hl ⊢
            split
            · rfl
            · by_cases hji : j = i
              · subst hji; rw [ho] at hj; cases hj; exact hdeps' ed hed hb
              · rw [if_neg hji] at hl; exact hdown j oj ed hj hl hed hb

theorem drawR_sim (hmix : P.follows .mixedOrders = true) (hS : Table Γ P G S) (hi : Inv Γ G w0 F0 O0 a w e) (hk : k ≤ ops.size) (htl : tailOk ops k = true) (hgd : guardOk ops k = true)
    {e1 : Env Γ.St} (he1 : evDraw P G S (ops.extract 0 k) e = some e1) (hev : SeqR P G ops (ops.toList.drop k) e1 e') {id : Nat} {Q : Exit → Act → World → Prop} (hQ : ∀ a w, Inv Γ G w0 F0 O0 a w e' → Q .normal a w) : (Code.region id ops true).wp P Q a w := by
  · unfold evDraw at he1
    split at he1
    · rename_i hok
      have hst := static_of hok
      have hah := ahead_of hst 0 (ops.extract 0 k).toList (by simp)
      have hno : ∀ d, d ∈ dstsOf (ops.extract 0 k).toList → (killAll (dstsOf (ops.extract 0 k).toList) e).var d = none := by
        intro d hd
        cases hv : (killAll (dstsOf (ops.extract 0 k).toList) e).var d with
        | none => rfl
        | some cs => exact absurd ⟨cs, hv⟩ (killAll_alive _ e d hd).1
      obtain ⟨sts, h0, hn, hsteps, hg, hv, hl⟩ := drawGo_trace _ _ _ he1 hah hno
      have hks : (ops.extract 0 k).size = k := by simp; omega
      have hsteps' : ∀ (i : Nat) (o : Oper), (ops.extract 0 k)[i]? = some o → StepAt P G S (ops.extract 0 k) e1 (sts i) o (sts (i + 1)) := fun i o ho => hsteps i o (by rw [Array.getElem?_toList]; exact ho)
      refine wp_region_any hmix ?_
      obtain ⟨F, O, β, hc, hG, hsz, hdf, ht, hvv⟩ := (hi.killAll (dstsOf (ops.extract 0 k).toList)).drew (w.drawn + 1)
      have hrep : (Array.replicate ops.size false).extract 0 k = Array.replicate k false := by
        apply arr_ext
        intro i
        rw [Array.getElem?_extract, Array.getElem?_replicate]
        simp only [Array.size_replicate]
        by_cases h : i < k
        · simp [h, show i < ops.size by omega, show i < min k ops.size by omega]
        · rw [if_neg (by omega)]; simp [h]
      have hnotin : ∀ t, Known (ops.extract 0 k) (Array.replicate k false) t → t ∉ dstsOf (ops.extract 0 k).toList := by
        intro t hkn hin
        simp only [dstsOf, List.mem_filterMap] at hin
        obtain ⟨o, hm', hd⟩ := hin
        obtain ⟨i, hi', rfl⟩ := List.getElem_of_mem hm'
        have hi'' : i < (ops.extract 0 k).size := by simpa using hi'
        refine hkn i (ops.extract 0 k)[i] (Array.getElem?_eq_getElem hi'') (by simp [Array.getD_eq_getD_getElem?, show i < k by omega]) (by rw [← Array.getElem_toList]; exact hd)
      refine wpAny_drawK hk hst htl hgd hS hsteps' (by rw [← hn]; simp; congr 1; omega) hev hQ ops.size _ a _ (by simp) (by simp) ?_ ?_ ⟨F, O, β, alive (killAll (dstsOf (ops.extract 0 k).toList) e), 0, ?_⟩
      · intro i _ hi'; simp [Array.getD_eq_getD_getElem?, hi']
      · intro i o ed ho hlst
        have hi'' : i < ops.size := (Array.getElem?_eq_some_iff.1 ho).1
        simp [Array.getD_eq_getD_getElem?, hi''] at hlst
      · rw [hrep]
        refine ⟨by rw [h0]; exact hc, hG, by rw [hl]; exact hsz, hdf, ?_, ?_, ?_, ?_, ?_, Nat.zero_le _, ?_⟩
        · intro t hkn; rw [hg t (hnotin t hkn)]; exact ht t
        · intro s cs hcs hs
          obtain ⟨cs0, hcs0⟩ := hs
          have hni : s ∉ dstsOf (ops.extract 0 k).toList := fun hin => by rw [hno s hin] at hcs0; cases hcs0
          rw [hv s hni] at hcs
          exact hvv s cs hcs
        · intro s hs
          obtain ⟨cs0, hcs0⟩ := hs
          have hni : s ∉ dstsOf (ops.extract 0 k).toList := fun hin => by rw [hno s hin] at hcs0; cases hcs0
          exact ⟨cs0, by rw [hv s hni]; exact hcs0⟩
        · intro s cs hcs hkn
          rw [hv s (hnotin s hkn)] at hcs
          exact ⟨cs, hcs⟩
        · intro i o d ho _ hd
          refine killAll_alive _ e d ?_
          simp only [dstsOf, List.mem_filterMap]
          exact ⟨o, Array.mem_toList_iff.2 (Array.mem_of_getElem? ho), hd⟩
        · intro i o ho _
          have hi'' : i < (ops.extract 0 k).size := (Array.getElem?_eq_some_iff.1 ho).1
          have : i < k := by omega
          simp [Array.getD_eq_getD_getElem?, this]
    · cases he1

theorem drawK_sim (hmix : P.follows .mixedOrders = true) (hS : Table Γ P G S) (hi : Inv Γ G w0 F0 O0 a w e) (hk : k ≤ ops.size) (htl : tailOk ops k = true) (hgd : guardOk ops k = true)
    (hev : evDrawK P G S ops k e = some e') {id : Nat} {Q : Exit → Act → World → Prop} (hQ : ∀ a w, Inv Γ G w0 F0 O0 a w e' → Q .normal a w) : (Code.region id ops true).wp P Q a w := by
  unfold evDrawK at hev
  split at hev
  · rename_i e1 he1
    exact drawR_sim hmix hS hi hk htl hgd he1 (seqR_of hS hev) hQ
  · cases hev

theorem drawT_sim (hmix : P.follows .mixedOrders = true) (hS : Table Γ P G S) (hi : Inv Γ G w0 F0 O0 a w e) (hev : evDrawT P G S ops e = some e') {id : Nat}
    {Q : Exit → Act → World → Prop} (hQ : ∀ a w, Inv Γ G w0 F0 O0 a w e' → Q .normal a w) : (Code.region id ops true).wp P Q a w := by
  unfold evDrawT at hev
  split at hev
  · rename_i hcond
    simp only [Bool.and_eq_true, decide_eq_true_eq] at hcond
    obtain ⟨⟨h1, h2⟩, h3⟩ := hcond
    split at hev
    · rename_i e1 he1
      simp only [Option.some.injEq] at hev
      subst hev
      exact drawK_sim hmix hS hi h1 h2 h3 he1 hQ
    · exact drawK_sim hmix hS (Inv.frzOps _ _ hi) h1 h2 h3 hev hQ
  · cases hev
end
end Go.Ve

namespace Go.Ve
open Go

inductive X where
  | normal
  | exit (id : Nat)
  | ret

def X.toExit : X → Exit
  | .normal => .normal
  | .exit id => .exit id
  | .ret => .ret

def X.out (id : Nat) : X → X
  | .exit id' => if id' = id then .normal else .exit id'
  | x => x

section
variable {Γ : Sig} (P : Look) (G : Nat → Option (List V)) (S : Specs Γ)

inductive Ev : Code → Env Γ.St → X → Env Γ.St → Prop
  | skip (e) : Ev .skip e .normal e
  | seqN {x y : Code} {e e1 e2 : Env Γ.St} {k : X} : Ev x e .normal e1 → Ev y e1 k e2 → Ev (.seq x y) e k e2
  | seqX {x y : Code} {e e1 : Env Γ.St} {k : X} : Ev x e k e1 → k ≠ .normal → Ev (.seq x y) e k e1
  | condT {c : Operand} {x y : Code} {e e1 : Env Γ.St} {k : X} : evx G e c = .p (.val (.bool true)) → Ev x e k e1 → Ev (.cond c x y) e k e1
  | condF {c : Operand} {x y : Code} {e e1 : Env Γ.St} {k : X} : evx G e c = .p (.val (.bool false)) → Ev y e k e1 → Ev (.cond c x y) e k e1
  | block {id : Nat} {c : Code} {e e1 : Env Γ.St} {k : X} : Ev c e k e1 → Ev (.block id c) e (k.out id) e1
  | loop {c : Code} {e e1 : Env Γ.St} {k : X} (n : Nat) (es : Nat → Env Γ.St) : es 0 = e → (∀ i, i < n → Ev c (es i) .normal (es (i + 1))) → Ev c (es n) k e1 → k ≠ .normal → Ev (.loop c) e k e1
  | exit (id : Nat) (e) : Ev (.exit id) e (.exit id) e
  | ret (e) : Ev .ret e .ret e
  | seqR {id : Nat} {ops : Array Oper} {e e1 : Env Γ.St} : evSeq P G S ops ops.toList e = some e1 → Ev (.region id ops false) e .normal e1
  | drawR {id : Nat} {ops : Array Oper} {e e1 : Env Γ.St} : evDrawT P G S ops e = some e1 → Ev (.region id ops true) e .normal e1
end

section
variable {Γ : Sig} {P : Program} {G : Nat → Option (List V)} {S : Specs Γ} {w0 : World} {F0 : Blk → Prop} {O0 : Lent}

theorem wp_loop_n {c : Code} {Q : Exit → Act → World → Prop} (J : Nat → Act → World → Prop)
    (round : ∀ n a w, J n a w → c.wp P (Exit.then (fun a' w' => ∃ m, m < n ∧ J m a' w') Q) a w) {n : Nat} {a : Act} {w : World} (h0 : J n a w) : (Code.loop c).wp P Q a w := by
  intro b k cs
  have key : ∀ n a w, J n a w → ∃ e a' w', Q e a' w' ∧ Arrives P (lone (b.at a (.code c :: .inLoop c :: k)) cs w) b k cs e a' w' := by
    intro n
    induction n using Nat.strongRecOn with
    | _ n ih =>
      intro a w hJ
      obtain ⟨e, a₁, w₁, hq, harr⟩ := round n a w hJ b (.inLoop c :: k) cs
      cases e with
      | normal =>
        obtain ⟨m, hlt, hJ₁⟩ := hq
        obtain ⟨e₂, a₂, w₂, hq₂, harr₂⟩ := ih m hlt a₁ w₁ hJ₁
        exact ⟨e₂, a₂, w₂, hq₂, .of_steps (Steps.trans harr (.one step_inLoop)) harr₂⟩
      | exit id => exact ⟨_, a₁, w₁, hq, .pass (x := .inLoop c) rfl (fun _ _ => .inl (by simp)) harr⟩
      | goto l => exact ⟨_, a₁, w₁, hq, .pass (x := .inLoop c) rfl (fun _ _ => .inl (by simp)) harr⟩
      | ret => exact ⟨_, a₁, w₁, hq, .pass (x := .inLoop c) rfl (fun _ _ => .inl (by simp)) harr⟩
      | panic ch => exact ⟨_, a₁, w₁, hq, .pass (x := .inLoop c) rfl (fun _ _ => .inl (by simp)) harr⟩
      | outgrown => exact ⟨_, a₁, w₁, hq, .pass (x := .inLoop c) rfl (fun _ _ => .inl (by simp)) harr⟩
  obtain ⟨e, a', w', hq, harr⟩ := key n a w h0
  exact ⟨e, a', w', hq, .of_steps (.one step_loop) harr⟩

theorem ev_sim (hm : P.follows .mixedOrders = true) (hS : Table Γ P G S) {c : Code} {e e' : Env Γ.St} {k : X} (h : Ev P G S c e k e') : ∀ {a : Act} {w : World}, Inv Γ G w0 F0 O0 a w e →
    c.wp P (fun ex a' w' => ex = k.toExit ∧ Inv Γ G w0 F0 O0 a' w' e') a w := by
  induction h with
  | skip e => intro a w hi; exact wp_skip ⟨rfl, hi⟩
  | seqN h1 h2 ih1 ih2 =>
    intro a w hi
    refine wp_seq (wp_mono (ih1 hi) ?_)
    rintro ex a' w' ⟨rfl, hi'⟩
    exact ih2 hi'
  | seqX h1 hne ih1 =>
    rename_i x y e0 e1 k
    intro a w hi
    refine wp_seq (wp_mono (ih1 hi) ?_)
    rintro ex a' w' ⟨rfl, hi'⟩
    cases k with
    | normal => exact absurd rfl hne
    | exit id => exact ⟨rfl, hi'⟩
    | ret => exact ⟨rfl, hi'⟩
  | condT hc h1 ih1 =>
    rename_i c0 x0 y0 e0 e1 k0
    intro a w hi
    obtain ⟨F, O, β, hcr, hG, hsz, hdf, ht, hv⟩ := hi
    have h2 := evx_sim (e := e0) hG ht c0
    rw [hc] at h2
    exact wp_cond_true (Rd.eq_val h2) (ih1 ⟨F, O, β, hcr, hG, hsz, hdf, ht, hv⟩)
  | condF hc h1 ih1 =>
    rename_i c0 x0 y0 e0 e1 k0
    intro a w hi
    obtain ⟨F, O, β, hcr, hG, hsz, hdf, ht, hv⟩ := hi
    have h2 := evx_sim (e := e0) hG ht c0
    rw [hc] at h2
    exact wp_cond_false (Rd.eq_val h2) (ih1 ⟨F, O, β, hcr, hG, hsz, hdf, ht, hv⟩)
  | block h1 ih1 =>
    rename_i id c e0 e1 k
    intro a w hi
    refine wp_block (wp_mono (ih1 hi) ?_)
    rintro ex a' w' ⟨rfl, hi'⟩
    cases k with
    | normal => exact ⟨rfl, hi'⟩
    | exit id' =>
      simp only [X.toExit, Exit.inBlock, X.out]
      split
      · exact ⟨rfl, hi'⟩
      · exact ⟨rfl, hi'⟩
    | ret => exact ⟨rfl, hi'⟩
  | loop n es h0 h1 h2 hne ih1 ih2 =>
    rename_i c e0 e1 k
    intro a w hi
    refine wp_loop_n (fun j a w => ∃ i, i + j = n ∧ Inv Γ G w0 F0 O0 a w (es i)) ?_ (n := n) ⟨0, by omega, by rw [h0]; exact hi⟩
    rintro j a w ⟨i, hij, hi'⟩
    by_cases hlt : i < n
    · refine wp_mono (ih1 i hlt hi') ?_
      rintro ex a' w' ⟨rfl, hi''⟩
      exact ⟨j - 1, by omega, i + 1, by omega, hi''⟩
    · obtain rfl : i = n := by omega
      refine wp_mono (ih2 hi') ?_
      rintro ex a' w' ⟨rfl, hi''⟩
      cases k with
      | normal => exact absurd rfl hne
      | exit id => exact ⟨rfl, hi''⟩
      | ret => exact ⟨rfl, hi''⟩
  | exit id e => intro a w hi; exact wp_exit ⟨rfl, hi⟩
  | ret e => intro a w hi; exact wp_ret ⟨rfl, hi⟩
  | seqR hev =>
    rename_i id ops e0 e1
    intro a w hi
    refine wp_region ?_
    have := seq_ops (Q := fun ex a' w' => ex = X.toExit .normal ∧ Inv Γ G w0 F0 O0 a' w' e1) ops 0 ops.toList e0 e1 a w (by simp) (seqR_of hS hev) hi (fun a w h => ⟨rfl, h⟩)
    simpa [List.range_eq_range'] using this
  | drawR hev =>
    intro a w hi
    exact drawT_sim hm hS hi hev (fun a w h => ⟨rfl, h⟩)
end
end Go.Ve

namespace Go.Ve
open Go

section
variable {St : Type} (P : Look) (e : Env St)

def argsT : List T → Option (List V)
  | [] => some []
  | x :: r => match argV e x, argsT r with
    | some d, some ds => some (d :: ds)
    | _, _ => none

/-- A result that lies in a variable. -/
def resCell (t : TypeId) : T → Option V
  | .p (.pp cs) => ldV P t cs
  | .lp s off => match e.var s with
    | some cs => match isAgg? P t with
      | some true => match size? P t with
        | some n => if n ≤ (cs.drop off).length then (argsT e ((cs.drop off).take n)).map .agg else none
        | none => none
      | some false => match (cs.drop off).head? with
        | some x => argV e x
        | none => none
      | none => none
    | none => none
  | _ => none

def resV : ResultVar → Option V
  | .tmp t => argV e (e.get t)
  | .cell t ty => resCell P e ty (e.get t)

def resVs : List ResultVar → Option (List V)
  | [] => some []
  | x :: r => match resV P e x, resVs r with
    | some d, some ds => some (d :: ds)
    | _, _ => none

def evRet (fn : Func) : Option RV :=
  match fn.results.toList with
  | [.tmp t] => match e.get t with
    | .emp => some (.own [])
    | .ow _ _ [] => some (.p (.sl []))
    | .ow _ _ (x :: es) => some (.own (x :: es))
    | .ot _ t xs => some (.ownT t xs)
    | x => (argV e x).map .p
  | [r] => (resV P e r).map .p
  | rs => (resVs P e rs).map (fun ds => .p (.tup ds))
end

def startTm (n : Nat) (ds : List V) : List T := ds.map .p ++ List.replicate (n - ds.length) (.p (.val undef))

def start {St : Type} (n : Nat) (s : St) (ds : List V) : Env St := { tm := startTm n ds, vars := List.replicate n none, st := s }

section
variable {Γ : Sig} {P : Program} {G : Nat → Option (List V)} {S : Specs Γ} {e : Env Γ.St} {a : Act} {w : World} {F : Blk → Prop} {β : Lay} {al : Site → Prop}

theorem argsT_sim (hvars : ∀ s cs, e.var s = some cs → al (.v s) → VarRel w F β al (β.vb s) cs) : ∀ (xs : List T) (vs : List Value) (ds : List V), xs.length = vs.length →
    (∀ (i : Nat) (v : Value) (x : T), vs[i]? = some v → xs[i]? = some x → TRel w F β al v x) → argsT e xs = some ds →
    vs.length = ds.length ∧ ∀ (i : Nat) (v : Value) (d : V), vs[i]? = some v → ds[i]? = some d → Rd w (Fal F β al) v d := by
  intro xs
  induction xs with
  | nil =>
    intro vs ds hl _ h
    simp [argsT] at h; subst h
    cases vs with
    | nil => exact ⟨rfl, fun i v d h => by simp at h⟩
    | cons v vs => simp at hl
  | cons x xs ih =>
    intro vs ds hl hr h
    cases vs with
    | nil => simp at hl
    | cons v vs =>
      simp only [argsT] at h
      split at h
      · rename_i d ds' hd hds
        simp only [Option.some.injEq] at h
        subst h
        obtain ⟨h1, h2⟩ := ih vs ds' (by simpa using hl) (fun i v x hv hx => hr (i + 1) v x (by simpa using hv) (by simpa using hx)) hds
        refine ⟨by simpa using h1, ?_⟩
        intro i u y hu hy
        cases i with
        | zero => simp at hu hy; subst hu hy; exact (argV_sim hvars (hr 0 v x rfl rfl) hd).1
        | succ i => exact h2 i u y (by simpa using hu) (by simpa using hy)
      · cases h

theorem resCell_sim (hvars : ∀ s cs, e.var s = some cs → al (.v s) → VarRel w F β al (β.vb s) cs) {t : TypeId} {x : T} {v : Value} {d : V}
    (hx : TRel w F β al v x) (h : resCell P e t x = some d) : ∃ ad u, v = .pointer (some ad) ∧ (loadVar t ad).run P w = .ok u w ∧ Rd w (Fal F β al) u d := by
  unfold resCell at h
  split at h
  · rename_i cs
    cases hx with
    | pp b off cs g hF hg hr =>
      obtain ⟨u, h1, h2⟩ := ldV_sim (P := P) hg hr h
      refine ⟨⟨b, off, none⟩, u, rfl, ?_, h2.mono (fun b hb => .inl hb) (fun _ _ => rfl)⟩
      simpa [Instr.loadAt, Instr.sureAddr] using h1
  · rename_i s off
    obtain ⟨ha, rfl⟩ := hx
    split at h
    · rename_i cs hcs
      have hv := hvars s cs hcs ha
      split at h
      · rename_i hagg
        split at h
        · rename_i n hn
          split at h
          · rename_i hle
            simp only [Option.map_eq_some_iff] at h
            obtain ⟨ds, hds, rfl⟩ := h
            simp only [List.length_drop] at hle
            let g : Nat → Value := fun m => (w.cell? ⟨β.vb s, off + m, none⟩).getD undef
            have hg : ∀ m, m < n → w.cell? ⟨β.vb s, off + m, none⟩ = some (g m) ∧ ∀ x, ((cs.drop off).take n)[m]? = some x → TRel w F β al (g m) x := fun m hm => by
              obtain ⟨x, h1, h2⟩ := hv.at (off + m) (by omega)
              refine ⟨by simp [g, h1], fun y hy => ?_⟩
              rw [List.getElem?_take, if_pos hm, List.getElem?_drop, List.getElem?_eq_getElem (by omega), Option.some.injEq] at hy
              subst hy
              simpa [g, h1] using h2
            have hrun := run_loadAt_agg (P := P) hagg hn (fun m hm => (hg m hm).1)
            obtain ⟨h3, h4⟩ := argsT_sim hvars ((cs.drop off).take n) ((List.range n).map g) ds (by simp; omega) (by
              intro i v x hv hx
              simp only [List.getElem?_map, Option.map_eq_some_iff] at hv
              obtain ⟨m, hm, rfl⟩ := hv
              have hi : i < n := by
                have := (List.getElem?_eq_some_iff.1 hm).1; simpa using this
              rw [List.getElem?_range hi] at hm
              simp only [Option.some.injEq] at hm
              subst hm
              exact (hg i hi).2 x hx) hds
            refine ⟨_, _, rfl, by simpa [Instr.loadAt, Instr.sureAddr] using hrun, ?_⟩
            exact Rd.agg _ ds (by simpa using h3) (fun i x d hi hd => h4 i x d (by simpa using hi) hd)
          · cases h
        · cases h
      · rename_i hagg
        split at h
        · rename_i x hx
          have hlt : off < cs.length := by
            rcases Nat.lt_or_ge off cs.length with h | h
            · exact h
            · rw [List.drop_eq_nil_of_le h] at hx; simp at hx
          rw [List.head?_drop, List.getElem?_eq_getElem hlt, Option.some.injEq] at hx
          subst hx
          obtain ⟨x, h1, h2⟩ := hv.at off hlt
          have hrun := run_loadAt_leaf (P := P) hagg h1
          exact ⟨_, x, rfl, by simpa [Instr.loadAt, Instr.sureAddr] using hrun, (argV_sim hvars h2 h).1⟩
        · cases h
      · cases h
    · cases h
  · cases h

def resFn (tmps : Array Value) : ResultVar → Sem Value
  | .tmp t => pure (tmps.getD t undef)
  | .cell x t => do loadVar t (← asAddr (tmps.getD x undef))

theorem results_eq (fn : Func) (tmps : Array Value) : results fn tmps = (do
    let vs ← fn.results.mapM (resFn tmps)
    pure (if h : vs.size = 1 then vs[0] else .tuple vs)) := by
  unfold results
  congr 1

theorem resV_sim (hvars : ∀ s cs, e.var s = some cs → al (.v s) → VarRel w F β al (β.vb s) cs) (ht : ∀ t, TRel w F β al (a.tmps.getD t undef) (e.get t)) {r : ResultVar} {d : V}
    (h : resV P e r = some d) : ∃ u, (resFn a.tmps r).run P w = .ok u w ∧ Rd w (Fal F β al) u d := by
  cases r with
  | tmp t => exact ⟨_, rfl, (argV_sim hvars (ht t) h).1⟩
  | cell t ty =>
    obtain ⟨ad, u, h1, h2, h3⟩ := resCell_sim (P := P) hvars (ht t) h
    exact ⟨u, by simp only [resFn, Sem.run_bind, h1, asAddr, Sem.run_pure, Result.andThen_ok, h2], h3⟩

theorem resVs_sim (hvars : ∀ s cs, e.var s = some cs → al (.v s) → VarRel w F β al (β.vb s) cs) (ht : ∀ t, TRel w F β al (a.tmps.getD t undef) (e.get t)) : ∀ (rs : List ResultVar) (ds : List V),
    resVs P e rs = some ds → ∃ us, (rs.mapM (resFn a.tmps)).run P w = .ok us w ∧ us.length = ds.length ∧
      ∀ (i : Nat) (v : Value) (d : V), us[i]? = some v → ds[i]? = some d → Rd w (Fal F β al) v d := by
  intro rs
  induction rs with
  | nil => intro ds h; simp [resVs] at h; subst h; exact ⟨[], rfl, rfl, fun i v d h => by simp at h⟩
  | cons r rs ih =>
    intro ds h
    simp only [resVs] at h
    split at h
    · rename_i d ds' hd hds
      simp only [Option.some.injEq] at h
      subst h
      obtain ⟨u, h1, h2⟩ := resV_sim (P := P) hvars ht hd
      obtain ⟨us, h3, h4, h5⟩ := ih ds' hds
      refine ⟨u :: us, ?_, by simpa using h4, ?_⟩
      · rw [List.mapM_cons]
        simp only [Sem.run_bind, h1, Result.andThen_ok, h3, Sem.run_pure]
      · intro i v y hv hy
        cases i with
        | zero => simp at hv hy; subst hv hy; exact h2
        | succ i => exact h5 i v y (by simpa using hv) (by simpa using hy)
    · cases h

/-- What the function hands back, in the world in which it ends. -/
theorem evRet_sim {w0 : World} {F0 : Blk → Prop} {O0 : Lent} (hnl : O0.l = none) (hi : Inv Γ G w0 F0 O0 a w e) {fn : Func} {r : RV} (h : evRet P e fn = some r) :
    ∃ (v : Value) (F' : Blk → Prop) (O' : Nat → Prop), (results fn a.tmps).run P w = .ok v w ∧ Γ.R e.st F' O' w ∧ Keep O0.o w0 w ∧ (∀ b, O' b → O0.o b ∨ w0.heap.size ≤ b) ∧ (∀ b, F0 b → F' b) ∧
      (∀ b : Nat, F' b → (F0 b ∨ w0.heap.size ≤ b) ∧ b < w.heap.size ∧ ¬ O' b) ∧ RetRel w0.heap.size w F' O' v r := by
  obtain ⟨F, O, β, hc, hG, hsz, hdf, ht, hv⟩ := hi
  have hkeep : Keep O0.o w0 w := ⟨hc.keep.os, hc.keep.tape, hc.keep.output, hc.keep.size, fun b hb ho => hc.keep.block b hb (fun h => h.elim ho (fun ⟨n, h⟩ => by rw [hnl] at h; cases h))⟩
  have hhome : ∀ x b, Home w0 O0 x b → w0.heap.size ≤ b := fun x b h => h.elim (fun h => h.2) (fun ⟨_, n, h⟩ => by rw [hnl] at h; cases h)
  have hvars : ∀ s cs, e.var s = some cs → alive e (.v s) → VarRel w F β (alive e) (β.vb s) cs := fun s cs hcs _ => hv s cs hcs
  have hFal : ∀ b : Nat, Fal F β (alive e) b → (F0 b ∨ w0.heap.size ≤ b) ∧ b < w.heap.size ∧ ¬ O b := by
    rintro b (hb | ⟨x, hx, hxb⟩)
    · exact hc.fin b hb
    · have hxb := blk_eq hxb
      subst hxb
      obtain ⟨h1, h2, h3, h4⟩ := hc.place x hx
      exact ⟨.inr (hhome _ _ h1), h2, h4⟩
  have hsigF : Γ.R e.st (Fal F β (alive e)) O w := Γ.mono hc.sig (fun _ _ _ _ => ⟨fun h => h.elim (fun h => h) (fun ⟨_, _, h⟩ => by cases h), .inl⟩) (fun _ _ => rfl)
  have hrun : ∀ us, (fn.results.toList.mapM (resFn a.tmps)).run P w = .ok us w →
      (results fn a.tmps).run P w = .ok (if h : us.length = 1 then us[0] else .tuple us.toArray) w := by
    intro us hus
    rw [results_eq, Array.mapM_eq_mapM_toList]
    simp only [Sem.run_bind, Sem.run_map, hus, Result.andThen_ok, Sem.run_pure]
    rfl
  have hfin : ∀ (v : Value) (d : V), (results fn a.tmps).run P w = .ok v w → Rd w (Fal F β (alive e)) v d →
      ∃ (v : Value) (F' : Blk → Prop) (O' : Nat → Prop), (results fn a.tmps).run P w = .ok v w ∧ Γ.R e.st F' O' w ∧ Keep O0.o w0 w ∧ (∀ b, O' b → O0.o b ∨ w0.heap.size ≤ b) ∧ (∀ b, F0 b → F' b) ∧
      (∀ b : Nat, F' b → (F0 b ∨ w0.heap.size ≤ b) ∧ b < w.heap.size ∧ ¬ O' b) ∧ RetRel w0.heap.size w F' O' v (.p d) :=
    fun v d h1 h2 => ⟨v, Fal F β (alive e), O, h1, hsigF, hkeep, hc.oin, fun b hb => .inl (hc.f0 b hb), hFal, h2⟩
  have hone : ∀ r0, fn.results.toList = [r0] → ∀ d, resV P e r0 = some d → ∃ v, (results fn a.tmps).run P w = .ok v w ∧ Rd w (Fal F β (alive e)) v d := by
    intro r0 hr d hd
    obtain ⟨us, h1, h2, h3⟩ := resVs_sim (P := P) hvars ht [r0] [d] (by simp [resVs, hd])
    cases us with
    | nil => simp at h2
    | cons u us =>
      cases us with
      | cons _ _ => simp at h2
      | nil =>
        have := hrun [u] (by rw [hr]; exact h1)
        exact ⟨u, by simpa using this, h3 0 u d rfl rfl⟩
  unfold evRet at h
  split at h
  · rename_i t hres
    have hrun1 : (results fn a.tmps).run P w = .ok (a.tmps.getD t undef) w := by
      have := hrun [a.tmps.getD t undef] (by rw [hres]; rfl)
      simpa using this
    have hT := ht t
    split at h
    · rename_i hx
      simp only [Option.some.injEq] at h; subst h
      rw [hx] at hT
      obtain ⟨a0, ha0⟩ := hT
      exact ⟨_, Fal F β (alive e), O, hrun1, hsigF, hkeep, hc.oin, fun b hb => .inl (hc.f0 b hb), hFal, .inl ⟨rfl, a0, ha0⟩⟩
    · rename_i id k hx
      simp only [Option.some.injEq] at h; subst h
      rw [hx] at hT
      obtain ⟨ha, cap, hvv, hrow⟩ := hT
      exact hfin _ _ hrun1 (by rw [hvv]; exact .slemp _ _)
    · rename_i id k x es hx
      simp only [Option.some.injEq] at h; subst h
      rw [hx] at hT
      obtain ⟨ha, cap, hvv, hrow⟩ := hT
      obtain ⟨p1, p2, p3, p4⟩ := hc.place (.o id) ha
      refine ⟨_, F, O, hrun1, hc.sig, hkeep, hc.oin, hc.f0, hc.fin, .inr ⟨by simp, β.ob id, cap, hvv, hhome _ _ p1, p2, p3, p4, k, hrow⟩⟩
    · rename_i id t xs hx
      simp only [Option.some.injEq] at h; subst h
      rw [hx] at hT
      rcases hT with ⟨h0, a0, hv0⟩ | ⟨hne, ha, cap, hvv, hrow⟩
      · exact ⟨_, F, O, hrun1, hc.sig, hkeep, hc.oin, hc.f0, hc.fin, .inl ⟨h0, a0, hv0⟩⟩
      · obtain ⟨p1, p2, p3, p4⟩ := hc.place (.o id) ha
        exact ⟨_, F, O, hrun1, hc.sig, hkeep, hc.oin, hc.f0, hc.fin, .inr ⟨hne, β.ob id, cap, hvv, hhome _ _ p1, p2, p3, p4, t.size, hrow⟩⟩
    · simp only [Option.map_eq_some_iff] at h
      obtain ⟨d, hd, rfl⟩ := h
      obtain ⟨v, h1, h2⟩ := hone _ hres d hd
      exact hfin v d h1 h2
  · rename_i r0 _ hres
    simp only [Option.map_eq_some_iff] at h
    obtain ⟨d, hd, rfl⟩ := h
    obtain ⟨v, h1, h2⟩ := hone _ hres d hd
    exact hfin v d h1 h2
  · rename_i hn1 hn2
    simp only [Option.map_eq_some_iff] at h
    obtain ⟨ds, hds, rfl⟩ := h
    obtain ⟨us, h1, h2, h3⟩ := resVs_sim (P := P) hvars ht _ ds hds
    have hrun2 := hrun us h1
    have hne : us.length ≠ 1 := by
      intro hl
      have hlen : ∀ (l : List ResultVar) (ds : List V), resVs P e l = some ds → ds.length = l.length := by
        intro l
        induction l with
        | nil => intro ds h; simp [resVs] at h; subst h; rfl
        | cons r l ih =>
          intro ds h
          simp only [resVs] at h
          split at h
          · rename_i d ds' hd hds
            simp only [Option.some.injEq] at h; subst h
            simp [ih ds' hds]
          · cases h
      have := hlen _ ds hds
      match hl' : fn.results.toList with
      | [] => rw [hl'] at this; simp only [List.length_nil] at this; omega
      | [r0] => exact hn2 r0 hl'
      | _ :: _ :: _ => rw [hl'] at this; simp only [List.length_cons] at this; omega
    rw [dif_neg hne] at hrun2
    exact hfin _ _ hrun2 (.tup _ ds (by simpa using h2) (fun i x d hi hd => h3 i x d (by simpa using hi) hd))

theorem fnOk_of_ev (hm : P.follows .mixedOrders = true) (hS : Table Γ P G S) {f : FuncId} {fn : Func} {c : Code} (hf : P.funcs[f]? = some fn) (hb : fn.body = some c)
    {spec : Γ.St → List V → Option (Γ.St × RV)}
    (h : ∀ s ds s' r, spec s ds = some (s', r) → ∃ k e', Ev P G S c (start fn.ntmps s ds) k e' ∧ (k = .normal ∨ k = .ret) ∧ e'.st = s' ∧ evRet P e' fn = some r) : FnOk Γ P G f spec := by
  intro w F O s args ds s' r hsig hG hF hlen hrd hspec
  obtain ⟨k, e', hev, hk, hst, hret⟩ := h s ds s' r hspec
  refine calls_of_wp hf hb ?_
  have hget : ∀ t, TRel w F ⟨fun _ => 0, fun _ => 0⟩ (fun _ => False) ((args ++ Array.replicate (fn.ntmps - args.size) undef).getD t undef) ((start fn.ntmps s ds).get t) := by
    intro t
    simp only [start, startTm, Env.get, List.getD_eq_getElem?_getD, Array.getD_eq_getD_getElem?]
    by_cases ht : t < ds.length
    · rw [List.getElem?_append_left (by simpa using ht), Array.getElem?_append_left (by omega)]
      rw [List.getElem?_map, List.getElem?_eq_getElem ht, Array.getElem?_eq_getElem (by omega)]
      exact hrd t _ _ (by simp [show t < args.size by omega]) (by simp [ht])
    · rw [List.getElem?_append_right (by simpa using Nat.le_of_not_lt ht), Array.getElem?_append_right (by omega), hlen]
      simp only [List.length_map]
      by_cases h2 : t - ds.length < fn.ntmps - ds.length
      · rw [List.getElem?_replicate, if_pos h2, Array.getElem?_replicate, if_pos h2]
        exact Rd.val _
      · rw [List.getElem?_replicate, if_neg h2]
        trivial
  have hnovar : ∀ s0, (start fn.ntmps s ds).var s0 = none := by
    intro s0
    simp only [start, Env.var, List.getElem?_replicate]
    split <;> rfl
  have hinv : Inv Γ G w F O { tmps := args ++ Array.replicate (fn.ntmps - args.size) undef, defers := [] } w (start fn.ntmps s ds) := by
    refine Inv.of (F := F) (O := O) (β := ⟨fun _ => 0, fun _ => 0⟩) (al := fun _ => False) ⟨Keep.refl _ w, hsig, fun b hb => .inl hb, fun b hb => ⟨.inl hb, hF b hb⟩, fun b hb => hb, fun x hx => hx.elim, fun x y hx => hx.elim, fun b n h => by cases h⟩ hG ?_ rfl hget ?_ (fun s h => h.elim)
    · simp [start, startTm, hlen]
    · intro s0 cs hcs; rw [hnovar] at hcs; cases hcs
  refine wp_mono (ev_sim hm hS hev hinv) ?_
  rintro ex a' w' ⟨rfl, hi'⟩
  obtain ⟨v, F', O', h1, h2, h3, h4, h5, h6, h7⟩ := evRet_sim rfl hi' hret
  have hdf : a'.defers = [] := by obtain ⟨_, _, _, _, _, _, hdf, _⟩ := hi'; exact hdf
  rw [hst] at h2
  rcases hk with rfl | rfl
  · exact ⟨hdf, v, h1, v, F', O', rfl, h2, h3, h4, h5, h6, h7⟩
  · exact ⟨hdf, v, h1, v, F', O', rfl, h2, h3, h4, h5, h6, h7⟩
end
end Go.Ve

namespace Go.Ve
open Go

section
variable {Γ : Sig} (P : Look) (G : Nat → Option (List V)) (S : Specs Γ)

def evCode : Nat → Code → Env Γ.St → Option (X × Env Γ.St)
  | 0, _, _ => none
  | _ + 1, .skip, e => some (.normal, e)
  | n + 1, .seq x y, e => match evCode n x e with
    | some (.normal, e1) => evCode n y e1
    | r => r
  | n + 1, .cond c x y, e => match evx G e c with
    | .p (.val (.bool true)) => evCode n x e
    | .p (.val (.bool false)) => evCode n y e
    | _ => none
  | n + 1, .block id c, e => match evCode n c e with
    | some (k, e1) => some (k.out id, e1)
    | none => none
  | n + 1, .loop c, e => match evCode n c e with
    | some (.normal, e1) => evCode n (.loop c) e1
    | r => r
  | _ + 1, .exit id, e => some (.exit id, e)
  | _ + 1, .ret, e => some (.ret, e)
  | _ + 1, .region _ ops false, e => match evSeq P G S ops ops.toList e with
    | some e1 => some (.normal, e1)
    | none => none
  | _ + 1, .region _ ops true, e => match evDrawT P G S ops e with
    | some e1 => some (.normal, e1)
    | none => none
  | _, _, _ => none

variable {P G S}

theorem Ev.loopStep {c : Code} {e e1 e2 : Env Γ.St} {k : X} (h1 : Ev P G S c e .normal e1) (h2 : Ev P G S (.loop c) e1 k e2) : Ev P G S (.loop c) e k e2 := by
  cases h2 with
  | loop n es h0 hs hl hne =>
    refine .loop (n + 1) (fun i => match i with | 0 => e | i + 1 => es i) rfl ?_ hl hne
    intro i hi
    cases i with
    | zero => simp only; rw [h0]; exact h1
    | succ i => exact hs i (by omega)

theorem Ev.loopDone {c : Code} {e e1 : Env Γ.St} {k : X} (h1 : Ev P G S c e k e1) (hne : k ≠ .normal) : Ev P G S (.loop c) e k e1 :=
  .loop 0 (fun _ => e) rfl (fun i hi => by omega) h1 hne

theorem ev_of_code : ∀ (n : Nat) (c : Code) (e e' : Env Γ.St) (k : X), evCode P G S n c e = some (k, e') → Ev P G S c e k e' := by
  intro n
  induction n with
  | zero => intro c e e' k h; simp [evCode] at h
  | succ n ih =>
    intro c e e' k h
    cases c <;> (try simp only [evCode] at h)
    case skip => simp only [Option.some.injEq, Prod.mk.injEq] at h; obtain ⟨rfl, rfl⟩ := h; exact .skip e
    case region id ops draw =>
      cases draw
      · simp only [evCode] at h
        split at h
        · rename_i e1 he1
          simp only [Option.some.injEq, Prod.mk.injEq] at h; obtain ⟨rfl, rfl⟩ := h
          exact .seqR he1
        · cases h
      · simp only [evCode] at h
        split at h
        · rename_i e1 he1
          simp only [Option.some.injEq, Prod.mk.injEq] at h; obtain ⟨rfl, rfl⟩ := h
          exact .drawR he1
        · cases h
    case seq x y =>
      split at h
      · rename_i e1 he1
        exact .seqN (ih x e e1 .normal he1) (ih y e1 e' k h)
      · rename_i hne
        refine .seqX (ih x e e' k h) ?_
        rintro rfl
        exact hne e' h
    case cond c x y =>
      split at h
      · rename_i hc; exact .condT hc (ih x e e' k h)
      · rename_i hc; exact .condF hc (ih y e e' k h)
      · cases h
    case block id c =>
      split at h
      · rename_i k0 e1 he1
        simp only [Option.some.injEq, Prod.mk.injEq] at h; obtain ⟨rfl, rfl⟩ := h
        exact .block (ih c e e1 k0 he1)
      · cases h
    case loop c =>
      split at h
      · rename_i e1 he1
        exact (ih c e e1 .normal he1).loopStep (ih (.loop c) e1 e' k h)
      · rename_i hne
        refine (ih c e e' k h).loopDone ?_
        rintro rfl
        exact hne e' h
    case exit id => simp only [Option.some.injEq, Prod.mk.injEq] at h; obtain ⟨rfl, rfl⟩ := h; exact .exit id e
    case ret => simp only [Option.some.injEq, Prod.mk.injEq] at h; obtain ⟨rfl, rfl⟩ := h; exact .ret e
    all_goals (cases h)

variable (P G S)

/-- A function by the evaluation of its body. -/
def evFn (n : Nat) (fn : Func) (s : Γ.St) (ds : List V) : Option (Γ.St × RV) :=
  match fn.body with
  | some c => match evCode P G S n c (start fn.ntmps s ds) with
    | some (.normal, e') => (evRet P e' fn).map (fun r => (e'.st, r))
    | some (.ret, e') => (evRet P e' fn).map (fun r => (e'.st, r))
    | _ => none
  | none => none

def isBot : List V → Bool
  | .bot :: _ => true
  | _ => false

/-- The interpreter: contracts that are given, else the bodies. -/
def runN (Xs : Specs Γ) (k : Nat) : Nat → Specs Γ
  | 0 => Xs
  | n + 1 => fun f s ds => match Xs f s ds with
    | some r => some r
    | none => match isBot ds with
      | true => none
      | false => match P.fn f with
        | some fn => evFn P G (runN Xs k n) k fn s ds
        | none => none

end

section
variable {Γ : Sig} {P : Program} {G : Nat → Option (List V)} {S : Specs Γ}

theorem fnOk_evFn (hm : P.follows .mixedOrders = true) (hS : Table Γ P G S) {f : FuncId} {fn : Func} (hf : P.funcs[f]? = some fn) (n : Nat) : FnOk Γ P G f (evFn P G S n fn) := by
  cases hb : fn.body with
  | none =>
    intro w F O s args ds s' r _ _ _ _ _ h
    simp [evFn, hb] at h
  | some c =>
    refine fnOk_of_ev hm hS hf hb ?_
    intro s ds s' r h
    simp only [evFn, hb] at h
    split at h
    · rename_i e' he'
      simp only [Option.map_eq_some_iff, Prod.mk.injEq] at h
      obtain ⟨r', hr, hst, rfl⟩ := h
      exact ⟨_, e', ev_of_code n c _ e' _ he', .inl rfl, hst, hr⟩
    · rename_i e' he'
      simp only [Option.map_eq_some_iff, Prod.mk.injEq] at h
      obtain ⟨r', hr, hst, rfl⟩ := h
      exact ⟨_, e', ev_of_code n c _ e' _ he', .inr rfl, hst, hr⟩
    · cases h

theorem FnOk.or {f : FuncId} {s1 s2 : Γ.St → List V → Option (Γ.St × RV)} (h1 : FnOk Γ P G f s1) (h2 : FnOk Γ P G f s2) :
    FnOk Γ P G f (fun s ds => match s1 s ds with | some r => some r | none => s2 s ds) := by
  intro w F O s args ds s' r a1 a2 a3 a4 a5 h
  simp only at h
  split at h
  · rename_i r' hr'
    simp only [Option.some.injEq] at h
    subst h
    exact h1 w F O s args ds s' r a1 a2 a3 a4 a5 hr'
  · exact h2 w F O s args ds s' r a1 a2 a3 a4 a5 h

theorem FnOk.nothing {f : FuncId} : FnOk Γ P G f (fun _ _ => none) := by
  intro w F O s args ds s' r _ _ _ _ _ h; cases h

/-- No function of the program is the one that counts goroutines. -/
def noCount (P : Program) : Bool := P.funcs.toList.all (fun fn => !(fn.name == "runtime.NumGoroutine"))

theorem table_runN (hm : P.follows .mixedOrders = true) (hn : noCount P = true) {Xs : Specs Γ} (hX : Table Γ P G Xs) (k : Nat) : ∀ n, Table Γ P G (runN P G Xs k n) := by
  intro n
  induction n with
  | zero => exact hX
  | succ n ih =>
    refine ⟨?_, ?_, ?_, ?_⟩
    · intro f
      cases hf : P.funcs[f]? with
      | none =>
        have : runN P G Xs k (n + 1) f = fun s ds => match Xs f s ds with | some r => some r | none => none := by
          funext s ds; simp only [runN, hf]; cases isBot ds <;> rfl
        rw [this]
        exact (hX.ok f).or .nothing
      | some fn =>
        have : runN P G Xs k (n + 1) f = fun s ds => match Xs f s ds with | some r => some r | none => match isBot ds with | true => none | false => evFn P G (runN P G Xs k n) k fn s ds := by
          funext s ds; simp only [runN, hf]
        rw [this]
        refine (hX.ok f).or ?_
        intro w F O s args ds s' r a1 a2 a3 a4 a5 h
        simp only at h
        split at h
        · cases h
        · exact fnOk_evFn hm ih hf k w F O s args ds s' r a1 a2 a3 a4 a5 h
    · intro f s ds r h hb
      simp only [runN] at h
      split at h
      · rename_i r' hr'
        exact hX.is f s ds r' hr' hb
      · split at h
        · cases h
        · split at h
          · rename_i fn hf
            refine ⟨fn, hf, ?_, ?_⟩
            · cases hb : fn.body with
              | some c => rfl
              | none => simp [evFn, hb] at h
            · have := List.all_eq_true.1 hn fn (by simpa using Array.mem_of_getElem? hf)
              simpa using this
          · cases h
    · intro hno st q t ys bytes st' d h
      refine hX.app hno st q t ys bytes st' d ?_
      simp only [runN, isBot] at h
      split at h
      · rename_i r' hr'; rw [hr']; exact h
      · cases h
    · intro f st t xs ds st' ys d h
      refine hX.bor f st t xs ds st' ys d ?_
      simp only [runN, isBot] at h
      split at h
      · rename_i r' hr'; rw [hr']; exact h
      · cases h

def noSpecs (Γ : Sig) : Specs Γ := fun _ _ _ => none

theorem table_none : Table Γ P G (noSpecs Γ) :=
  ⟨fun _ => .nothing, (fun f s ds r h => by cases h), (fun _ st q t ys bytes st' d h => by cases h), (fun f st t xs ds st' ys d h => by cases h)⟩
end
end Go.Ve
