/-
  The evaluator over pure values, part 21: regions: in the order of the text; in an order that is drawn, with a tail that comes last in every order.
-/
import Derived.Test.YtggmpbaiijodiaaGreatNvVe20
namespace Go.Ve
open Go

section
variable {Γ : Sig} (P : Look) (G : Nat → Option (List V)) (S : Specs Γ)

/-- One operation behind the other. -/
def evStep (ops : Array Oper) (e : Env Γ.St) (o : Oper) : Option (Env Γ.St) :=
  match wantedV ops e o with
  | some true => evAny P G S e o
  | some false => some (e.put o.dst (.p (.val undef)))
  | none => none

def evSeq (ops : Array Oper) : List Oper → Env Γ.St → Option (Env Γ.St)
  | [], e => some e
  | o :: rest, e => match evStep P G S ops e o with
    | some e1 => evSeq ops rest e1
    | none => none

def isW (o : Oper) : Bool :=
  match o.op with
  | .store _ _ _ => true
  | .mapUpdate _ _ _ _ => true
  | .call c => match c.callee with
    | .builtin .append => true
    | _ => false
  | _ => false

/-- Where the tail begins: at the first operation that writes. -/
def tailAt : List Oper → Nat
  | [] => 0
  | o :: r => if isW o then 0 else tailAt r + 1

def tailOk (ops : Array Oper) (k : Nat) : Bool :=
  if k = ops.size then true else
  let anc := Region.before ops
  ancOk ops anc && (List.range ops.size).all fun j => match ops[j]? with
    | some o => o.after.all (fun e => !Region.binds .any e || decide (e.on < j)) && (decide (j < k) || (List.range j).all fun i => (anc.getD j 0).testBit i)
    | none => true

def guardOk (ops : Array Oper) (k : Nat) : Bool :=
  (List.range k).all fun i => match ops[i]? with
    | some o => match o.guard with
      | some (j, _) => decide (j < k)
      | none => true
    | none => true

/-- Everything that the region's calls are handed is pure from the region's beginning on. -/
def callOperands : List Oper → List Operand
  | [] => []
  | o :: r => if isCall o then o.op.operands.toList ++ callOperands r else callOperands r

def evDrawK (ops : Array Oper) (k : Nat) (e : Env Γ.St) : Option (Env Γ.St) :=
  match evDraw P G S (ops.extract 0 k) e with
  | some e1 => evSeq P G S ops (ops.toList.drop k) e1
  | none => none

def evDrawT (ops : Array Oper) (e : Env Γ.St) : Option (Env Γ.St) :=
  if tailAt ops.toList ≤ ops.size && tailOk ops (tailAt ops.toList) && guardOk ops (tailAt ops.toList) then
    match evDrawK P G S ops (tailAt ops.toList) e with
    | some e1 => some e1
    | none => evDrawK P G S ops (tailAt ops.toList) (frzOps G (callOperands ops.toList) e)
  else none
end

section
variable {Γ : Sig} {P : Program} {G : Nat → Option (List V)} {S : Specs Γ} {w0 : World} {F0 O0 : Nat → Prop} {a : Act} {w : World} {e e' : Env Γ.St} {ops : Array Oper} {k : Nat}

/-- By the machine: an operation takes every world of state e to one of state e1. -/
def OpOk (P : Program) (G : Nat → Option (List V)) (e : Env Γ.St) (o : Oper) (e1 : Env Γ.St) : Prop :=
  ∀ (w0 : World) (F0 O0 : Nat → Prop) (a : Act) (w : World) (Q : Exit → Act → World → Prop), Inv Γ G w0 F0 O0 a w e → o.wp P a w (fun a' w' => Inv Γ G w0 F0 O0 a' w' e1) Q

def StepR (P : Program) (G : Nat → Option (List V)) (ops : Array Oper) (e : Env Γ.St) (o : Oper) (e1 : Env Γ.St) : Prop :=
  (wantedV ops e o = some true ∧ OpOk P G e o e1) ∨ (wantedV ops e o = some false ∧ e1 = e.put o.dst (.p (.val undef)))

inductive SeqR (P : Program) (G : Nat → Option (List V)) (ops : Array Oper) : List Oper → Env Γ.St → Env Γ.St → Prop
  | nil (e : Env Γ.St) : SeqR P G ops [] e e
  | cons {o : Oper} {rest : List Oper} {e e1 e' : Env Γ.St} : StepR P G ops e o e1 → SeqR P G ops rest e1 e' → SeqR P G ops (o :: rest) e e'

theorem stepR_of (hS : Table Γ P G S) {o : Oper} (h : evStep P G S ops e o = some e') : StepR P G ops e o e' := by
  unfold evStep at h
  split at h
  · rename_i hw; exact .inl ⟨hw, fun w0 F0 O0 a w Q hi => evAny_sim hS hi h⟩
  · rename_i hw; simp only [Option.some.injEq] at h; exact .inr ⟨hw, h.symm⟩
  · cases h

theorem seqR_of (hS : Table Γ P G S) : ∀ {l : List Oper} {e e' : Env Γ.St}, evSeq P G S ops l e = some e' → SeqR P G ops l e e' := by
  intro l
  induction l with
  | nil => intro e e' h; simp only [evSeq, Option.some.injEq] at h; subst h; exact .nil e
  | cons o l ih =>
    intro e e' h
    simp only [evSeq] at h
    split at h
    · rename_i e1 he1; exact .cons (stepR_of hS he1) (ih h)
    · cases h

theorem stepR_op {o : Oper} {Q : Exit → Act → World → Prop} {K : Act → World → Prop} {i : Nat} (hi : ops[i]? = some o) (h : StepR P G ops e o e') (hinv : Inv Γ G w0 F0 O0 a w e)
    (hK : ∀ a w, Inv Γ G w0 F0 O0 a w e' → K a w) : wpOp P ops Q i K a w := by
  unfold wpOp
  simp only [hi]
  obtain ⟨F, O, β, hc, hG, hsz, hdf, ht, hv⟩ := hinv
  rcases h with ⟨hw, h⟩ | ⟨hw, h⟩
  · rw [wanted_eq (fun t _ => ht t) hsz hw, if_pos rfl]
    exact .inl (Oper.wp_mono hK (h w0 F0 O0 a w Q ⟨F, O, β, hc, hG, hsz, hdf, ht, hv⟩))
  · rw [wanted_eq (fun t _ => ht t) hsz hw]
    simp only [Bool.false_eq_true, if_false]
    subst h
    refine hK _ _ ?_
    refine Inv.of (al := alive e) (by cases o.dst <;> exact hc) hG ?_ ?_ ?_ ?_ ?_
    · cases hd : o.dst <;> simp [Act.put, Env.put, hsz]
    · cases hd : o.dst <;> exact hdf
    · intro t
      cases hd : o.dst with
      | none => exact ht t
      | some d =>
        rw [tmps_put]
        simp only [Env.put]
        rw [get_set, hsz]
        split
        · exact Rd.val _
        · exact ht t
    · intro s cs hcs
      have : (e.put o.dst (.p (.val undef))).var s = e.var s := by cases o.dst <;> rfl
      rw [this] at hcs
      exact ⟨⟨cs, hcs⟩, hv s cs hcs⟩
    · intro s hs
      have : (e.put o.dst (.p (.val undef))).var s = e.var s := by cases o.dst <;> rfl
      rw [this]; exact hs

theorem seq_ops (ops : Array Oper) {Q : Exit → Act → World → Prop} : ∀ (n : Nat) (l : List Oper) (e e' : Env Γ.St) (a : Act) (w : World),
    ops.toList.drop n = l → SeqR P G ops l e e' → Inv Γ G w0 F0 O0 a w e → (∀ a w, Inv Γ G w0 F0 O0 a w e' → Q .normal a w) →
    wpOps P ops Q (List.range' n l.length) a w := by
  intro n l
  induction l generalizing n with
  | nil =>
    intro e e' a w _ h hi hQ
    cases h
    exact hQ a w hi
  | cons o rest ih =>
    intro e e' a w hl h hi hQ
    cases h with
    | cons he1 h =>
      rename_i e1
      have hat : ops[n]? = some o := by
        have : (ops.toList.drop n)[0]? = some o := by rw [hl]; rfl
        rw [List.getElem?_drop] at this
        simpa using this
      have hrest : ops.toList.drop (n + 1) = rest := by rw [← List.tail_drop, hl]; rfl
      simp only [List.length_cons, List.range'_succ]
      rw [wpOps_cons]
      exact stepR_op hat he1 hi (fun a w hi1 => ih (n + 1) e1 e' a w hrest h hi1 hQ)

structure Tail (ops : Array Oper) (k : Nat) : Prop where
  edge : ∀ (i : Nat) (o : Oper) (e : Edge), ops[i]? = some o → e ∈ o.after → Region.binds .any e = true → e.on < i
  last : ∀ (listed : Nat → Prop), (∀ (i : Nat) (o : Oper) (e : Edge), ops[i]? = some o → listed i → e ∈ o.after → Region.binds .any e = true → listed e.on) →
    ∀ (j i : Nat) (o : Oper), ops[j]? = some o → k ≤ j → i < j → (∀ e, e ∈ o.after → Region.binds .any e = true → listed e.on) → listed i

theorem tail_of (h : tailOk ops k = true) (hne : k ≠ ops.size) : Tail ops k := by
  unfold tailOk at h
  rw [if_neg hne] at h
  simp only [Bool.and_eq_true] at h
  obtain ⟨hanc, hall⟩ := h
  generalize Region.before ops = anc at hanc hall
  have hone : ∀ j o, ops[j]? = some o → (o.after.all (fun e => !Region.binds .any e || decide (e.on < j)) && (decide (j < k) || (List.range j).all fun i => (anc.getD j 0).testBit i)) = true := by
    intro j o ho
    have hlt : j < ops.size := (Array.getElem?_eq_some_iff.1 ho).1
    have := List.all_eq_true.1 hall j (List.mem_range.2 hlt)
    simpa [ho] using this
  have hedge : ∀ (i : Nat) (o : Oper) (e : Edge), ops[i]? = some o → e ∈ o.after → Region.binds .any e = true → e.on < i := by
    intro i o e ho he hb
    have h1 := hone i o ho
    rw [Bool.and_eq_true] at h1
    have h2 := Array.all_eq_true_iff_forall_mem.1 h1.1 e he
    simpa [hb] using h2
  have hcl : ∀ (listed : Nat → Prop), (∀ (i : Nat) (o : Oper) (e : Edge), ops[i]? = some o → listed i → e ∈ o.after → Region.binds .any e = true → listed e.on) →
      ∀ (i : Nat) (o : Oper) (j : Nat), ops[i]? = some o → j < i → (anc.getD i 0).testBit j = true → (∀ e, e ∈ o.after → Region.binds .any e = true → listed e.on) → listed j := by
    intro listed hdown i
    induction i using Nat.strongRecOn with
    | _ i ih =>
      intro o j ho hji hbit hi
      have hlt : i < ops.size := (Array.getElem?_eq_some_iff.1 ho).1
      have h1 := List.all_eq_true.1 hanc i (List.mem_range.2 hlt)
      simp only [ho] at h1
      have h2 := List.all_eq_true.1 h1 j (List.mem_range.2 hji)
      simp only [hbit, Bool.not_true, Bool.false_or, Array.any_eq_true', Bool.and_eq_true, Bool.or_eq_true, decide_eq_true_eq, beq_iff_eq] at h2
      obtain ⟨e, he, ⟨hb, hon⟩, hj⟩ := h2
      have hle := hi e he hb
      rcases hj with rfl | ⟨hjlt, hbit'⟩
      · exact hle
      · have hlt' : e.on < ops.size := by omega
        have ho' : ops[e.on]? = some ops[e.on] := by simp [hlt']
        exact ih e.on hon ops[e.on] j ho' hjlt hbit' (fun e2 he2 hb2 => hdown e.on _ e2 ho' hle he2 hb2)
  refine ⟨hedge, ?_⟩
  intro listed hdown j i o ho hkj hij hdeps
  have h1 := hone j o ho
  rw [Bool.and_eq_true] at h1
  have h2 := h1.2
  simp only [Bool.or_eq_true, decide_eq_true_eq] at h2
  have h3 := h2.resolve_left (by omega)
  exact hcl listed hdown j o i ho hij (List.all_eq_true.1 h3 i (List.mem_range.2 hij)) hdeps

theorem wpAny_tail (ht : Tail ops k) {Q : Exit → Act → World → Prop} : ∀ (l : List Oper) (j : Nat) (e e' : Env Γ.St) (fuel : Nat) (listed : Array Bool) (a : Act) (w : World),
    k ≤ j → ops.toList.drop j = l → SeqR P G ops l e e' → listed.size = ops.size → (∀ i, i < ops.size → listed.getD i true = decide (i < j)) → Inv Γ G w0 F0 O0 a w e → l.length ≤ fuel →
    (∀ a w, Inv Γ G w0 F0 O0 a w e' → Q .normal a w) → wpAny P .any ops Q fuel listed a w := by
  intro l
  induction l with
  | nil =>
    intro j e e' fuel listed a w hkj hl hev hls hlist hinv hfuel hQ
    cases hev
    have hge : ops.size ≤ j := by simpa using hl
    have hr : Region.ready .any ops listed = [] := by
      apply List.eq_nil_iff_forall_not_mem.2
      intro i hi
      obtain ⟨hun, o, ho, _⟩ := mem_ready.1 hi
      have hlt : i < ops.size := (Array.getElem?_eq_some_iff.1 ho).1
      rw [hlist i hlt] at hun
      simp at hun; omega
    exact wpAny_done hr (hQ a w hinv) fuel
  | cons o rest ih =>
    intro j e e' fuel listed a w hkj hl hev hls hlist hinv hfuel hQ
    cases hev with
    | cons he1 hev =>
      rename_i e1
      have hat : ops[j]? = some o := by
        have : (ops.toList.drop j)[0]? = some o := by rw [hl]; rfl
        rw [List.getElem?_drop] at this
        simpa using this
      have hjlt : j < ops.size := (Array.getElem?_eq_some_iff.1 hat).1
      have hrest : ops.toList.drop (j + 1) = rest := by rw [← List.tail_drop, hl]; rfl
      cases fuel with
      | zero => simp at hfuel
      | succ fuel =>
        have hdown : ∀ (i : Nat) (o : Oper) (e : Edge), ops[i]? = some o → listed.getD i true = true → e ∈ o.after → Region.binds .any e = true → listed.getD e.on true = true := by
          intro i oi ed hi hli hed hb
          have hlt : i < ops.size := (Array.getElem?_eq_some_iff.1 hi).1
          have hon := ht.edge i oi ed hi hed hb
          rw [hlist i hlt] at hli
          rw [hlist ed.on (by omega)]
          simp at hli ⊢; omega
        refine ⟨fun hr => ?_, ?_⟩
        · exfalso
          have : j ∈ Region.ready .any ops listed := by
            rw [mem_ready]
            refine ⟨by rw [hlist j hjlt]; simp, o, hat, ?_⟩
            intro ed hed hb
            have hon := ht.edge j o ed hat hed hb
            rw [getD_tf (by omega), hlist ed.on (by omega)]
            simpa using hon
          rw [hr] at this; cases this
        · intro i hi
          obtain ⟨hun, oi, ho, hdeps⟩ := mem_ready.1 hi
          have hlt : i < ops.size := (Array.getElem?_eq_some_iff.1 ho).1
          have hij : j ≤ i := by rw [hlist i hlt] at hun; simp at hun; exact hun
          have hdeps' : ∀ ed, ed ∈ oi.after → Region.binds .any ed = true → listed.getD ed.on true = true := by
            intro ed hed hb
            have h1 := hdeps ed hed hb
            have hon := ht.edge i oi ed ho hed hb
            rw [← getD_tf (by omega)]; exact h1
          have hii : i = j := by
            rcases Nat.lt_or_ge j i with h | h
            · exfalso
              have := ht.last (fun k => listed.getD k true = true) hdown i j oi ho (by omega) h hdeps'
              rw [hlist j hjlt] at this; simp at this
            · omega
          subst hii
          refine stepR_op hat he1 hinv ?_
          intro a' w' hinv'
          refine ih (i + 1) e1 e' fuel _ a' w' (by omega) hrest hev (by simpa using hls) ?_ hinv' (by simpa using hfuel) hQ
          intro i' hi'
          rw [getD_set _ _ _ (by omega)]
          split
          · rename_i h; subst h; simp
          · rename_i h
            rw [hlist i' hi']
            simp; omega

theorem extract_get {i : Nat} (hi : i < k) : (ops.extract 0 k)[i]? = ops[i]? := by
  rw [Array.getElem?_extract]
  split
  · simp
  · rename_i h
    rw [Array.getElem?_eq_none (by simp at h; omega)]

theorem wpOp_extract {Q : Exit → Act → World → Prop} {K : Act → World → Prop} {i : Nat} (hi : i < k) (hg : guardOk ops k = true) (h : wpOp P (ops.extract 0 k) Q i K a w) : wpOp P ops Q i K a w := by
  unfold wpOp at *
  rw [extract_get hi] at h
  cases ho : ops[i]? with
  | none => rw [ho] at h; exact h
  | some o =>
    rw [ho] at h
    simp only at h ⊢
    have hw : Region.wanted o (yielded (ops.extract 0 k) a.tmps) = Region.wanted o (yielded ops a.tmps) := by
      unfold Region.wanted
      cases hgd : o.guard with
      | none => rfl
      | some gw =>
        obtain ⟨j, want⟩ := gw
        have h1 := List.all_eq_true.1 hg i (List.mem_range.2 hi)
        simp only [ho, hgd, decide_eq_true_eq] at h1
        simp only [yielded, extract_get h1]
    rw [hw] at h
    exact h

theorem wpAny_drawK (hm : k ≤ ops.size) (hst : Static (ops.extract 0 k)) (htl : tailOk ops k = true) (hgd : guardOk ops k = true) (hS : Table Γ P G S) {sts : Nat → Γ.St} {e1 e' : Env Γ.St}
    (hsteps : ∀ (i : Nat) (o : Oper), (ops.extract 0 k)[i]? = some o → StepAt P G S (ops.extract 0 k) e1 (sts i) o (sts (i + 1))) (hlast : sts k = e1.st)
    (htail : SeqR P G ops (ops.toList.drop k) e1 e')
    {Q : Exit → Act → World → Prop} (hQ : ∀ a w, Inv Γ G w0 F0 O0 a w e' → Q .normal a w) : ∀ (fuel : Nat) (listed : Array Bool) (a : Act) (w : World), listed.size = ops.size →
    listed.count false ≤ fuel → (∀ i, k ≤ i → i < ops.size → listed.getD i true = false) →
    (∀ (i : Nat) (o : Oper) (e : Edge), ops[i]? = some o → listed.getD i true = true → e ∈ o.after → Region.binds .any e = true → listed.getD e.on true = true) →
    (∃ F O β al m, PInv Γ G w0 F0 O0 (ops.extract 0 k) e1 sts (listed.extract 0 k) a w F O β al m) → wpAny P .any ops Q fuel listed a w := by
  have hks : (ops.extract 0 k).size = k := by simp; omega
  have hlk : ∀ (listed : Array Bool) (i : Nat), i < k → (listed.extract 0 k).getD i true = listed.getD i true := by
    intro listed i hi
    simp only [Array.getD_eq_getD_getElem?]
    rw [Array.getElem?_extract]
    split
    · simp
    · rename_i h
      rw [Array.getElem?_eq_none (by simp at h; omega)]
  have hinvOf : ∀ (listed : Array Bool) (a : Act) (w : World), (∀ i, i < k → listed.getD i true = true) → (∃ F O β al m, PInv Γ G w0 F0 O0 (ops.extract 0 k) e1 sts (listed.extract 0 k) a w F O β al m) → Inv Γ G w0 F0 O0 a w e1 := by
    rintro listed a w hall ⟨F, O, β, al, m, hp⟩
    have hkn : ∀ t, Known (ops.extract 0 k) (listed.extract 0 k) t := fun t i o ho hl => by
      have hi : i < k := by have := (Array.getElem?_eq_some_iff.1 ho).1; omega
      rw [hlk listed i hi, hall i hi] at hl; cases hl
    have heq : ∀ q, m + q ≤ k → sts (m + q) = sts m := by
      intro q
      induction q with
      | zero => intro _; rfl
      | succ q ih =>
        intro hq
        have hlt : m + q < (ops.extract 0 k).size := by omega
        have hj : (ops.extract 0 k)[m + q]? = some (ops.extract 0 k)[m + q] := by rw [Array.getElem?_eq_getElem hlt]
        have hnc : isCall (ops.extract 0 k)[m + q] = false := by
          cases hc : isCall (ops.extract 0 k)[m + q] with
          | false => rfl
          | true => have := (hp.calls _ _ hj hc).1 (by rw [hlk listed _ (by omega)]; exact hall _ (by omega)); omega
        rw [← ih (by omega)]
        rcases hsteps (m + q) _ hj with ⟨_, r', hev', hst'', _, _⟩ | ⟨_, hst'', _⟩
        · rw [← Nat.add_assoc, hst'']; exact st_of_nocall (evQ_nc hev' hnc) _
        · rw [← Nat.add_assoc, hst'']
    have hmle := hp.mle
    have hlst : sts m = e1.st := by
      have := heq (k - m) (by omega)
      rw [Nat.add_sub_cancel' (by omega)] at this
      rw [← this, hlast]
    refine Inv.of (al := al) (by rw [← hlst]; exact hp.core) hp.g hp.size hp.defers (fun t => hp.tm t (hkn t)) ?_ hp.lp
    intro s cs hcs
    have ha := hp.vk s cs hcs (hkn s)
    exact ⟨ha, hp.var s cs hcs ha⟩
  have hdone : ∀ (fuel : Nat) (listed : Array Bool) (a : Act) (w : World), listed.size = ops.size → listed.count false ≤ fuel → (∀ i, k ≤ i → i < ops.size → listed.getD i true = false) →
      (∀ i, i < k → listed.getD i true = true) → Inv Γ G w0 F0 O0 a w e1 → wpAny P .any ops Q fuel listed a w := by
    intro fuel listed a w hls hcnt htf hall hinv
    by_cases hke : k = ops.size
    · have hnil : ops.toList.drop k = [] := by rw [hke]; simp
      rw [hnil] at htail
      cases htail
      have hr : Region.ready .any ops listed = [] := by
        apply List.eq_nil_iff_forall_not_mem.2
        intro i hi
        obtain ⟨hun, o, ho, _⟩ := mem_ready.1 hi
        have hlt : i < ops.size := (Array.getElem?_eq_some_iff.1 ho).1
        rw [hall i (by omega)] at hun; cases hun
      exact wpAny_done hr (hQ a w hinv) fuel
    · have htail' := tail_of htl hke
      refine wpAny_tail htail' _ k e1 e' fuel listed a w (Nat.le_refl _) rfl htail hls ?_ hinv ?_ hQ
      · intro i hi
        by_cases h : i < k
        · rw [hall i h]; simp [h]
        · rw [htf i (by omega) hi]; simp [h]
      · have hle : (ops.toList.drop k).length ≤ listed.count false := by
          have h1 : listed = listed.extract 0 k ++ listed.extract k listed.size := by
            apply arr_ext
            intro i
            rw [Array.getElem?_append]
            simp only [Array.size_extract, Array.getElem?_extract]
            by_cases hi : i < k
            · by_cases hi2 : i < listed.size
              · simp [show i < min k listed.size by omega]
              · rw [Array.getElem?_eq_none (by omega), if_neg (by omega), if_neg (by omega)]
            · by_cases hi2 : i < listed.size
              · rw [if_neg (by omega), if_pos (by omega)]
                congr 1; omega
              · rw [if_neg (by omega), if_neg (by omega), Array.getElem?_eq_none (by omega)]
          have h2 : listed.extract k listed.size = Array.replicate (listed.size - k) false := by
            apply arr_ext
            intro i
            rw [Array.getElem?_extract, Array.getElem?_replicate]
            by_cases hi : i < listed.size - k
            · rw [if_pos (by omega), if_pos hi]
              have := htf (k + i) (by omega) (by omega)
              rw [Array.getD_eq_getD_getElem?, Array.getElem?_eq_getElem (by omega), Option.getD_some] at this
              rw [Array.getElem?_eq_getElem (by omega), this]
            · rw [if_neg (by omega), if_neg hi]
          rw [h1, Array.count_append, h2]
          simp
          omega
        omega
  intro fuel
  induction fuel with
  | zero =>
    intro listed a w hls hcnt htf hdown hp
    have hall : ∀ i, i < k → listed.getD i true = true := by
      intro i hi
      cases hl : listed.getD i true with
      | true => rfl
      | false =>
        exfalso
        have h0 : listed.count false = 0 := by omega
        rw [Array.count_eq_zero] at h0
        apply h0
        have h : i < listed.size := by omega
        simp [Array.getD_eq_getD_getElem?, h] at hl
        rw [← hl]; exact Array.getElem_mem h
    exact hdone 0 listed a w hls hcnt htf hall (hinvOf listed a w hall hp)
  | succ fuel ih =>
    intro listed a w hls hcnt htf hdown hp
    by_cases hall : ∀ i, i < k → listed.getD i true = true
    · exact hdone (fuel + 1) listed a w hls hcnt htf hall (hinvOf listed a w hall hp)
    · have hmin : ∃ i, i < k ∧ listed.getD i true = false ∧ ∀ j, j < i → listed.getD j true = true := by
        have : ∀ n, n ≤ k → (∀ i, i < n → listed.getD i true = true) ∨ ∃ i, i < n ∧ listed.getD i true = false ∧ ∀ j, j < i → listed.getD j true = true := by
          intro n
          induction n with
          | zero => intro _; exact .inl (fun i hi => by omega)
          | succ n ihn =>
            intro hn
            rcases ihn (by omega) with h | ⟨i, h1, h2, h3⟩
            · cases hl : listed.getD n true with
              | true => exact .inl (fun i hi => by rcases Nat.lt_or_ge i n with h' | h'; exact h i h'; obtain rfl : i = n := by omega
                                                   exact hl)
              | false => exact .inr ⟨n, by omega, hl, h⟩
            · exact .inr ⟨i, by omega, h2, h3⟩
        rcases this k (Nat.le_refl _) with h | ⟨i, h1, h2, h3⟩
        · exact absurd h hall
        · exact ⟨i, h1, h2, h3⟩
      obtain ⟨i0, hi0, hun0, hbel⟩ := hmin
      refine ⟨fun hr => ?_, ?_⟩
      · exfalso
        have hlt : i0 < ops.size := by omega
        have : i0 ∈ Region.ready .any ops listed := by
          rw [mem_ready]
          refine ⟨hun0, ops[i0], by simp [hlt], ?_⟩
          intro ed hed hb
          have hon := hst.edge i0 ops[i0] ed (by rw [extract_get hi0]; simp [hlt]) hed hb
          rw [getD_tf (by omega)]
          exact hbel ed.on hon
        rw [hr] at this; cases this
      · intro i hi
        obtain ⟨hun, o, ho, hdeps⟩ := mem_ready.1 hi
        have hlt : i < ops.size := (Array.getElem?_eq_some_iff.1 ho).1
        have hin : i < listed.size := by omega
        have hdeps' : ∀ ed, ed ∈ o.after → Region.binds .any ed = true → listed.getD ed.on true = true := by
          intro ed hed hb
          have h1 := hdeps ed hed hb
          rcases Nat.lt_or_ge ed.on listed.size with h | h
          · rw [← getD_tf h]; exact h1
          · simp [Array.getD_eq_getD_getElem?, Array.getElem?_eq_none h]
        have hik : i < k := by
          rcases Nat.lt_or_ge i k with h | h
          · exact h
          · exfalso
            have hke : k ≠ ops.size := by omega
            have htail' := tail_of htl hke
            have := htail'.last (fun q => listed.getD q true = true) hdown i i0 o ho h (by omega) hdeps'
            rw [hun0] at this; cases this
        obtain ⟨F, O, β, al, m, hp⟩ := hp
        refine wpOp_extract hik hgd ?_
        refine pinv_step hst hS hsteps hp (by simp; omega) ?_ (by rw [extract_get hik]; exact ho) (by rw [hlk listed i hik]; exact hun) ?_ ?_
        · intro j oj ed hj hl hed hb
          have hjk : j < k := by have := (Array.getElem?_eq_some_iff.1 hj).1; omega
          have hon := hst.edge j oj ed hj hed hb
          rw [hlk listed j hjk] at hl
          rw [hlk listed ed.on (by omega)]
          exact hdown j oj ed (by rw [← extract_get hjk]; exact hj) hl hed hb
        · intro ed hed hb
          have hon := hst.edge i o ed (by rw [extract_get hik]; exact ho) hed hb
          rw [hlk listed ed.on (by omega)]
          exact hdeps' ed hed hb
        · intro a' w' F' O' β' al' m' hp'
          have hset : (listed.extract 0 k).setIfInBounds i true = (listed.setIfInBounds i true).extract 0 k := by
            apply arr_ext
            intro q
            rw [Array.getElem?_extract]
            by_cases hq : q = i
            · subst hq
              rw [Array.getElem?_setIfInBounds_self_of_lt (by simp; omega), if_pos (by simp; omega)]
              rw [Nat.zero_add, Array.getElem?_setIfInBounds_self_of_lt hin]
            · rw [Array.getElem?_setIfInBounds_ne (Ne.symm hq), Array.getElem?_extract]
              simp only [Array.size_setIfInBounds, Nat.zero_add]
              rw [Array.getElem?_setIfInBounds_ne (Ne.symm hq)]
          rw [hset] at hp'
          refine ih (listed.setIfInBounds i true) a' w' (by simpa using hls) ?_ ?_ ?_ ⟨F', O', β', al', m', hp'⟩
          · have hli : listed[i] = false := by simpa [Array.getD_eq_getD_getElem?, hin] using hun
            rw [Array.setIfInBounds_def, dif_pos hin, Array.count_set hin, hli]
            simp
            omega
          · intro q hq1 hq2
            rw [getD_set _ _ _ hin, if_neg (by omega)]; exact htf q hq1 hq2
          · intro j oj ed hj hl hed hb
            rw [getD_set _ _ _ hin] at hl ⊢
            split
            · rfl
            · by_cases hji : j = i
              · subst hji; rw [ho] at hj; cases hj; exact hdeps' ed hed hb
              · rw [if_neg hji] at hl; exact hdown j oj ed hj hl hed hb

theorem drawR_sim (hmix : P.follows .mixedOrders = true) (hS : Table Γ P G S) (hi : Inv Γ G w0 F0 O0 a w e) (hk : k ≤ ops.size) (htl : tailOk ops k = true) (hgd : guardOk ops k = true)
    {e1 : Env Γ.St} (he1 : evDraw P G S (ops.extract 0 k) e = some e1) (hev : SeqR P G ops (ops.toList.drop k) e1 e') {id : Nat} {Q : Exit → Act → World → Prop} (hQ : ∀ a w, Inv Γ G w0 F0 O0 a w e' → Q .normal a w) : (Code.region id ops true).wp P Q a w := by
  · unfold evDraw at he1
    split at he1
    · rename_i hok
      have hst := static_of hok
      have hah := ahead_of hst 0 (ops.extract 0 k).toList (by simp)
      have hno : ∀ d, d ∈ dstsOf (ops.extract 0 k).toList → (killAll (dstsOf (ops.extract 0 k).toList) e).var d = none := by
        intro d hd
        cases hv : (killAll (dstsOf (ops.extract 0 k).toList) e).var d with
        | none => rfl
        | some cs => exact absurd ⟨cs, hv⟩ (killAll_alive _ e d hd).1
      obtain ⟨sts, h0, hn, hsteps, hg, hv, hl⟩ := drawGo_trace _ _ _ he1 hah hno
      have hks : (ops.extract 0 k).size = k := by simp; omega
      have hsteps' : ∀ (i : Nat) (o : Oper), (ops.extract 0 k)[i]? = some o → StepAt P G S (ops.extract 0 k) e1 (sts i) o (sts (i + 1)) := fun i o ho => hsteps i o (by rw [Array.getElem?_toList]; exact ho)
      refine wp_region_any hmix ?_
      obtain ⟨F, O, β, hc, hG, hsz, hdf, ht, hvv⟩ := (hi.killAll (dstsOf (ops.extract 0 k).toList)).drew (w.drawn + 1)
      have hrep : (Array.replicate ops.size false).extract 0 k = Array.replicate k false := by
        apply arr_ext
        intro i
        rw [Array.getElem?_extract, Array.getElem?_replicate]
        simp only [Array.size_replicate]
        by_cases h : i < k
        · simp [h, show i < ops.size by omega, show i < min k ops.size by omega]
        · rw [if_neg (by omega)]; simp [h]
      have hnotin : ∀ t, Known (ops.extract 0 k) (Array.replicate k false) t → t ∉ dstsOf (ops.extract 0 k).toList := by
        intro t hkn hin
        simp only [dstsOf, List.mem_filterMap] at hin
        obtain ⟨o, hm', hd⟩ := hin
        obtain ⟨i, hi', rfl⟩ := List.getElem_of_mem hm'
        have hi'' : i < (ops.extract 0 k).size := by simpa using hi'
        refine hkn i (ops.extract 0 k)[i] (Array.getElem?_eq_getElem hi'') (by simp [Array.getD_eq_getD_getElem?, show i < k by omega]) (by rw [← Array.getElem_toList]; exact hd)
      refine wpAny_drawK hk hst htl hgd hS hsteps' (by rw [← hn]; simp; congr 1; omega) hev hQ ops.size _ a _ (by simp) (by simp) ?_ ?_ ⟨F, O, β, alive (killAll (dstsOf (ops.extract 0 k).toList) e), 0, ?_⟩
      · intro i _ hi'; simp [Array.getD_eq_getD_getElem?, hi']
      · intro i o ed ho hlst
        have hi'' : i < ops.size := (Array.getElem?_eq_some_iff.1 ho).1
        simp [Array.getD_eq_getD_getElem?, hi''] at hlst
      · rw [hrep]
        refine ⟨by rw [h0]; exact hc, hG, by rw [hl]; exact hsz, hdf, ?_, ?_, ?_, ?_, ?_, Nat.zero_le _, ?_⟩
        · intro t hkn; rw [hg t (hnotin t hkn)]; exact ht t
        · intro s cs hcs hs
          obtain ⟨cs0, hcs0⟩ := hs
          have hni : s ∉ dstsOf (ops.extract 0 k).toList := fun hin => by rw [hno s hin] at hcs0; cases hcs0
          rw [hv s hni] at hcs
          exact hvv s cs hcs
        · intro s hs
          obtain ⟨cs0, hcs0⟩ := hs
          have hni : s ∉ dstsOf (ops.extract 0 k).toList := fun hin => by rw [hno s hin] at hcs0; cases hcs0
          exact ⟨cs0, by rw [hv s hni]; exact hcs0⟩
        · intro s cs hcs hkn
          rw [hv s (hnotin s hkn)] at hcs
          exact ⟨cs, hcs⟩
        · intro i o d ho _ hd
          refine killAll_alive _ e d ?_
          simp only [dstsOf, List.mem_filterMap]
          exact ⟨o, Array.mem_toList_iff.2 (Array.mem_of_getElem? ho), hd⟩
        · intro i o ho _
          have hi'' : i < (ops.extract 0 k).size := (Array.getElem?_eq_some_iff.1 ho).1
          have : i < k := by omega
          simp [Array.getD_eq_getD_getElem?, this]
    · cases he1

theorem drawK_sim (hmix : P.follows .mixedOrders = true) (hS : Table Γ P G S) (hi : Inv Γ G w0 F0 O0 a w e) (hk : k ≤ ops.size) (htl : tailOk ops k = true) (hgd : guardOk ops k = true)
    (hev : evDrawK P G S ops k e = some e') {id : Nat} {Q : Exit → Act → World → Prop} (hQ : ∀ a w, Inv Γ G w0 F0 O0 a w e' → Q .normal a w) : (Code.region id ops true).wp P Q a w := by
  unfold evDrawK at hev
  split at hev
  · rename_i e1 he1
    exact drawR_sim hmix hS hi hk htl hgd he1 (seqR_of hS hev) hQ
  · cases hev

theorem drawT_sim (hmix : P.follows .mixedOrders = true) (hS : Table Γ P G S) (hi : Inv Γ G w0 F0 O0 a w e) (hev : evDrawT P G S ops e = some e') {id : Nat}
    {Q : Exit → Act → World → Prop} (hQ : ∀ a w, Inv Γ G w0 F0 O0 a w e' → Q .normal a w) : (Code.region id ops true).wp P Q a w := by
  unfold evDrawT at hev
  split at hev
  · rename_i hcond
    simp only [Bool.and_eq_true, decide_eq_true_eq] at hcond
    obtain ⟨⟨h1, h2⟩, h3⟩ := hcond
    split at hev
    · rename_i e1 he1
      simp only [Option.some.injEq] at hev
      subst hev
      exact drawK_sim hmix hS hi h1 h2 h3 he1 hQ
    · exact drawK_sim hmix hS (Inv.frzOps _ _ hi) h1 h2 h3 hev hQ
  · cases hev
end
end Go.Ve
