/-
  Conditions out of code, part 3: statements, loops, functions.
-/
import Derived.Test.YtggmpbaiijodiaaGreatNvW2
namespace Go.Ve
open Go

def castL (t t' : Ty) (xs : List t.El) : Option (List t'.El) := if h : t = t' then some (h ▸ xs) else none

def fitL (t t' : Ty) (xs : List t.El) (ys : List t'.El) : Prop :=
  match castL t t' xs with
  | some zs => zs = ys
  | none => False

def fitLeaf : Value → Value → Prop
  | .int k n, .int k' m => if k = k' then n = m else False
  | .bool a, .bool b => a = b
  | .string a, .string b => a = b
  | a, b => a = b

def fitAll {α : Type} (f : α → α → Prop) : List α → List α → Prop
  | [], [] => True
  | x :: xs, y :: ys => f x y ∧ fitAll f xs ys
  | _, _ => False

/-- y says no more than x: leaf by leaf. -/
def fitV : Nat → V → V → Prop
  | 0, x, y => x = y
  | _ + 1, .val (.slice none 0 0), .tl _ ys => ys = []
  | _ + 1, .sl [], .tl _ ys => ys = []
  | _ + 1, .val a, .val b => fitLeaf a b
  | _ + 1, .tl t xs, .tl t' ys => fitL t t' xs ys
  | n + 1, .agg cs, .agg ds => fitAll (fitV n) cs ds
  | n + 1, .tup cs, .tup ds => fitAll (fitV n) cs ds
  | _ + 1, x, y => x = y

def fitT : T → T → Prop
  | _, .dead => True
  | .p (.val (.slice none 0 0)), .ot _ _ ys => ys = []
  | .emp, .ot _ _ ys => ys = []
  | .ot i t xs, .ot j t' ys => if i = j then fitL t t' xs ys else False
  | .p d, .p d' => fitV 6 d d'
  | .lp s off, .lp s' off' => if s = s' ∧ off = off' then True else False
  | x, y => x = y

def fitO : Option (List T) → Option (List T) → Prop
  | _, none => True
  | some cs, some ds => fitAll fitT cs ds
  | none, some _ => False

def lpOkT {St : Type} (e : Env St) : T → Bool
  | .lp s _ => (e.var s).isSome
  | _ => true

def lpOk {St : Type} (e : Env St) : Bool :=
  e.tm.all (lpOkT e) && e.vars.all (fun o => match o with | some cs => cs.all (lpOkT e) | none => true)

/-- All temporaries, then K. -/
def fitTs : List T → List T → Prop → Prop
  | [], [], K => K
  | _ :: xs, .dead :: ys, K => fitTs xs ys K
  | x :: xs, y :: ys, K => fitT x y ∧ fitTs xs ys K
  | _, _, _ => False

def fitOs : List (Option (List T)) → List (Option (List T)) → Prop → Prop
  | [], [], K => K
  | _ :: xs, none :: ys, K => fitOs xs ys K
  | some cs :: xs, some ds :: ys, K => fitTs cs ds (fitOs xs ys K)
  | _, _, _ => False

def fitE {St : Type} (e e2 : Env St) (K : Prop) : Prop :=
  if lpOk e2 then fitTs e.tm e2.tm (fitOs e.vars e2.vars (e.st = e2.st ∧ K)) else False

theorem fitTs_sound : ∀ (xs ys : List T) (K : Prop), fitTs xs ys K → fitAll fitT xs ys ∧ K
  | [], [], K, h => ⟨trivial, h⟩
  | [], _ :: _, _, h => by simp [fitTs] at h
  | _ :: _, [], _, h => by simp [fitTs] at h
  | x :: xs, y :: ys, K, h => by
    unfold fitTs at h
    split at h
    · rename_i heq; cases heq
    · rename_i h1 h2
      simp only [List.cons.injEq] at h1 h2
      obtain ⟨rfl, rfl⟩ := h1
      obtain ⟨rfl, rfl⟩ := h2
      obtain ⟨g1, g2⟩ := fitTs_sound _ _ _ h
      exact ⟨⟨by simp [fitT], g1⟩, g2⟩
    · rename_i h1 h2
      simp only [List.cons.injEq] at h1 h2
      obtain ⟨rfl, rfl⟩ := h1
      obtain ⟨rfl, rfl⟩ := h2
      obtain ⟨g1, g2⟩ := fitTs_sound _ _ _ h.2
      exact ⟨⟨h.1, g1⟩, g2⟩
    · exact h.elim

theorem fitOs_sound : ∀ (xs ys : List (Option (List T))) (K : Prop), fitOs xs ys K → fitAll fitO xs ys ∧ K
  | [], [], K, h => ⟨trivial, h⟩
  | [], _ :: _, _, h => by simp [fitOs] at h
  | _ :: _, [], _, h => by simp [fitOs] at h
  | x :: xs, none :: ys, K, h => by
    simp only [fitOs] at h
    obtain ⟨g1, g2⟩ := fitOs_sound _ _ _ h
    exact ⟨⟨by cases x <;> trivial, g1⟩, g2⟩
  | none :: xs, some ds :: ys, K, h => by simp [fitOs] at h
  | some cs :: xs, some ds :: ys, K, h => by
    simp only [fitOs] at h
    obtain ⟨g0, h⟩ := fitTs_sound _ _ _ h
    obtain ⟨g1, g2⟩ := fitOs_sound _ _ _ h
    exact ⟨⟨g0, g1⟩, g2⟩

theorem fitL_sound {t t' : Ty} {xs : List t.El} {ys : List t'.El} (h : fitL t t' xs ys) : ∃ ht : t = t', (ht ▸ xs) = ys := by
  unfold fitL castL at h
  split at h
  · rename_i zs hz
    split at hz
    · rename_i ht
      simp only [Option.some.injEq] at hz
      exact ⟨ht, hz.trans h⟩
    · cases hz
  · exact h.elim

theorem fitLeaf_eq {a b : Value} (h : fitLeaf a b) : a = b := by
  unfold fitLeaf at h
  split at h
  · split at h
    · rename_i hk; rw [hk, h]
    · exact h.elim
  · rw [h]
  · rw [h]
  · exact h

theorem fitAll_vs {f : V → V → Prop} (hf : ∀ x y, f x y → WkV x y) : ∀ (xs ys : List V), fitAll f xs ys → WkVs xs ys
  | [], [], _ => trivial
  | x :: xs, y :: ys, h => ⟨hf x y h.1, fitAll_vs hf xs ys h.2⟩
  | [], _ :: _, h => h.elim
  | _ :: _, [], h => h.elim

theorem WkV.tup {xs ys : List V} (h : WkVs xs ys) : WkV (.tup xs) (.tup ys) := by
  intro w F v hr
  cases hr with
  | tup cs ds hl h0 =>
    refine .tup cs ys (hl.trans h.len) ?_
    intro i x d hi hd
    have hlt : i < xs.length := by rw [h.len]; exact (List.getElem?_eq_some_iff.1 hd).1
    exact h.get i xs[i] d (by simp [hlt]) hd w F x (h0 i x xs[i] hi (by simp [hlt]))

theorem fitV_sound : ∀ (n : Nat) (x y : V), fitV n x y → WkV x y := by
  intro n
  induction n with
  | zero => intro x y h; simp only [fitV] at h; subst h; exact .refl _
  | succ n ih =>
    intro x y h
    unfold fitV at h
    split at h
    · cases ‹_ = 0›
    · subst h; intro w F v hr; rw [Rd.eq_val hr]; exact .tl _ [] _ (.slemp none 0)
    · subst h; intro w F v hr; exact .tl _ [] _ hr
    · rw [fitLeaf_eq h]; exact .refl _
    · obtain ⟨ht, h⟩ := fitL_sound h; subst ht; subst h; exact .refl _
    · rename_i m cs ds heq
      simp only [Nat.succ_eq_add_one, Nat.add_right_cancel_iff] at heq
      subst heq
      exact WkV.agg (fitAll_vs ih cs ds h)
    · rename_i m cs ds heq
      simp only [Nat.succ_eq_add_one, Nat.add_right_cancel_iff] at heq
      subst heq
      exact WkV.tup (fitAll_vs ih cs ds h)
    · subst h; exact .refl _

theorem fitT_sound {x y : T} (h : fitT x y) : WkT x y := by
  unfold fitT at h
  split at h
  · exact .dead _
  · subst h; exact fun w F β al v hh => .inl ⟨rfl, none, Rd.eq_val hh⟩
  · subst h; exact fun w F β al v hh => .inl ⟨rfl, hh⟩
  · split at h
    · rename_i hij
      subst hij
      obtain ⟨ht, h⟩ := fitL_sound h
      subst ht
      subst h
      exact .refl _
    · exact h.elim
  · exact fun w F β al v hh => fitV_sound 6 _ _ h w F v hh
  · split at h
    · rename_i hc; rw [hc.1, hc.2]; exact .refl _
    · exact h.elim
  · subst h; exact .refl _

theorem fitAll_ts : ∀ (xs ys : List T), fitAll fitT xs ys → WkTs xs ys
  | [], [], _ => trivial
  | x :: xs, y :: ys, h => ⟨fitT_sound h.1, fitAll_ts xs ys h.2⟩
  | [], _ :: _, h => h.elim
  | _ :: _, [], h => h.elim

theorem fitAll_len {α : Type} {f : α → α → Prop} : ∀ (xs ys : List α), fitAll f xs ys → xs.length = ys.length
  | [], [], _ => rfl
  | x :: xs, y :: ys, h => by simp [fitAll_len xs ys h.2]
  | [], _ :: _, h => h.elim
  | _ :: _, [], h => h.elim

theorem fitAll_get {α : Type} {f : α → α → Prop} : ∀ (xs ys : List α), fitAll f xs ys → ∀ (i : Nat) (x y : α), xs[i]? = some x → ys[i]? = some y → f x y
  | [], [], _, i, x, y, h1, _ => by simp at h1
  | a :: xs, b :: ys, h, i, x, y, h1, h2 => by
    cases i with
    | zero => simp at h1 h2; subst h1 h2; exact h.1
    | succ i => exact fitAll_get xs ys h.2 i x y (by simpa using h1) (by simpa using h2)
  | [], _ :: _, h, _, _, _, _, _ => h.elim
  | _ :: _, [], h, _, _, _, _, _ => h.elim

section
variable {Γ : Sig} {P : Program} {G : Nat → Option (List V)} {w0 : World} {F0 O0 : Nat → Prop} {a : Act} {w : World} {e e2 : Env Γ.St}

theorem Inv.fit {K : Prop} (h : Inv Γ G w0 F0 O0 a w e) (hf : fitE e e2 K) : Inv Γ G w0 F0 O0 a w e2 ∧ K := by
  unfold fitE at hf
  split at hf
  · rename_i hlp
    obtain ⟨f1, hf⟩ := fitTs_sound _ _ _ hf
    obtain ⟨f2, f3, fK⟩ := fitOs_sound _ _ _ hf
    refine ⟨?_, fK⟩
    simp only [lpOk, Bool.and_eq_true, List.all_eq_true] at hlp
    obtain ⟨hl1, hl2⟩ := hlp
    obtain ⟨F, O, β, hc, hG, hsz, hdf, ht, hv⟩ := h
    let al' : Site → Prop := fun x => alive e x ∧ ∀ s, x = .v s → ∃ cs, e2.var s = some cs
    have hon : ∀ v x, TRel w F β (alive e) v x → lpOkT e2 x = true → TRel w F β al' v x := by
      intro v x hx hl
      refine hx.on ?_
      have hs := hx.sites
      cases x with
      | ow i k es => exact ⟨hs, fun s h => by cases h⟩
      | oe i k es j off => exact ⟨hs, fun s h => by cases h⟩
      | mp i es ck => exact ⟨hs, fun s h => by cases h⟩
      | ot i t xs => exact fun h0 => ⟨hs h0, fun s h => by cases h⟩
      | oet i t xs j off => exact ⟨hs, fun s h => by cases h⟩
      | lp s off =>
        refine ⟨hs, fun s' h => ?_⟩
        simp only [Site.v.injEq] at h
        subst h
        exact Option.isSome_iff_exists.1 hl
      | _ => trivial
    have hvar : ∀ s, (∃ cs2, e2.var s = some cs2) → ∃ cs cs2, e.var s = some cs ∧ e2.var s = some cs2 ∧ WkTs cs cs2 ∧ ∀ x, x ∈ cs2 → lpOkT e2 x = true := by
      rintro s ⟨cs2, hcs2⟩
      have hlt : s < e2.vars.length := by
        rcases Nat.lt_or_ge s e2.vars.length with h | h
        · exact h
        · simp [Env.var, List.getElem?_eq_none h] at hcs2
      have hlt' : s < e.vars.length := by rw [fitAll_len _ _ f2]; exact hlt
      have h2 : e2.vars[s]? = some (some cs2) := by
        simp only [Env.var, List.getElem?_eq_getElem hlt, Option.getD_some] at hcs2
        rw [List.getElem?_eq_getElem hlt, hcs2]
      have h1 := fitAll_get _ _ f2 s e.vars[s] (some cs2) (by simp [hlt']) h2
      cases hcs : e.vars[s] with
      | none => rw [hcs] at h1; exact h1.elim
      | some cs =>
        rw [hcs] at h1
        refine ⟨cs, cs2, by simp [Env.var, hlt', hcs], hcs2, fitAll_ts cs cs2 h1, ?_⟩
        have := hl2 (some cs2) (List.mem_of_getElem? h2)
        simpa using this
    refine Inv.of (al := al') (by rw [← f3]; exact hc.anti (fun x hx => hx.1)) hG (by rw [← fitAll_len _ _ f1]; exact hsz) hdf ?_ ?_ ?_
    · intro t
      rcases Nat.lt_or_ge t e2.tm.length with hlt | hlt
      · have hlt' : t < e.tm.length := by rw [fitAll_len _ _ f1]; exact hlt
        have h1 := fitAll_get _ _ f1 t e.tm[t] e2.tm[t] (by simp [hlt']) (by simp [hlt])
        have hg : e.get t = e.tm[t] := by simp [Env.get, hlt']
        have hg2 : e2.get t = e2.tm[t] := by simp [Env.get, hlt]
        rw [hg2]
        have h2 := ht t
        rw [hg] at h2
        exact hon _ _ (fitT_sound h1 _ _ _ _ _ h2) (hl1 _ (List.getElem_mem hlt))
      · have hg2 : e2.get t = .dead := by simp [Env.get, hlt]
        rw [hg2]; trivial
    · intro s cs2 hcs2
      obtain ⟨cs, cs2', h1, h2, h3, h4⟩ := hvar s ⟨cs2, hcs2⟩
      rw [hcs2] at h2
      simp only [Option.some.injEq] at h2
      subst h2
      obtain ⟨c, et, g1, g2, g3⟩ := hv s cs h1
      refine ⟨⟨⟨cs, h1⟩, fun s' h => by simp only [Site.v.injEq] at h; subst h; exact ⟨cs2, hcs2⟩⟩, c, et, g1, g2.trans h3.len, ?_⟩
      intro i x y hx hy
      have hlt : i < cs.length := by rw [h3.len]; exact (List.getElem?_eq_some_iff.1 hy).1
      exact hon _ _ (h3.get i cs[i] y (by simp [hlt]) hy _ _ _ _ _ (g3 i x cs[i] hx (by simp [hlt]))) (h4 y (List.mem_of_getElem? hy))
    · rintro s ⟨_, hs⟩
      exact hs s rfl
  · exact hf.elim

end

/-- What is known at a loop's head: the data of a round, read off a state; the state of such data; what holds of them; what falls. -/
structure Head (St : Type) where
  σ : Type
  get : Env St → Option σ
  env : σ → Env St
  inv : σ → Prop
  mes : σ → Nat

/-- The first region in it. -/
def keyOf : Code → Option Nat
  | .region id _ _ => some id
  | .seq a b => match keyOf a with
    | some n => some n
    | none => keyOf b
  | .cond _ a b => match keyOf a with
    | some n => some n
    | none => keyOf b
  | .block _ a => keyOf a
  | .loop a => keyOf a
  | _ => none

section
variable {Γ : Sig} (P : Look) (G : Nat → Option (List V)) (S : SpecsW Γ) (A : Nat → Option (Head Γ.St))

def unroll (body : (X → Env Γ.St → Prop) → Env Γ.St → Prop) (Q : X → Env Γ.St → Prop) : Nat → Env Γ.St → Prop
  | 0, _ => False
  | n + 1, e => body (fun k e1 => match k with
    | .normal => unroll body Q n e1
    | k => Q k e1) e

noncomputable def wpC : Code → (X → Env Γ.St → Prop) → Env Γ.St → Prop
  | .skip, Q, e => Q .normal e
  | .seq x y, Q, e => wpC x (fun k e1 => match k with
    | .normal => wpC y Q e1
    | k => Q k e1) e
  | .cond c x y, Q, e => match evx G e c with
    | .p (.val (.bool b)) => ifb b (wpC x Q e) (wpC y Q e)
    | _ => False
  | .block id c, Q, e => wpC c (fun k e1 => Q (k.out id) e1) e
  | .loop c, Q, e => match (keyOf c).bind A with
    | some h => (match h.get e with
      | some s0 => fitE e (h.env s0) (h.inv s0)
      | none => False) ∧ ∀ s, h.inv s → gEnv (h.env s) (fun e0 => wpC c (fun k e1 => match k with
      | .normal => (match h.get e1 with
        | some s1 => fitE e1 (h.env s1) (h.inv s1 ∧ h.mes s1 < h.mes s)
        | none => False)
      | k => Q k e1) e0)
    | none => unroll (wpC c) Q 80 e
  | .exit id, Q, e => Q (.exit id) e
  | .ret, Q, e => Q .ret e
  | .region _ ops false, Q, e => seqW P G S ops ops.toList e (fun e1 => Q .normal e1)
  | .region _ ops true, Q, e => drawW P G S ops e (fun e1 => Q .normal e1)
  | _, _, _ => False
end

section
variable {Γ : Sig} {P : Program} {G : Nat → Option (List V)} {S : SpecsW Γ} {A : Nat → Option (Head Γ.St)}

/-- By the machine: the code takes every world of state e to one of state e1, and ends so. -/
def CodeOk (P : Program) (G : Nat → Option (List V)) (c : Code) (e : Env Γ.St) (k : X) (e1 : Env Γ.St) : Prop :=
  ∀ (w0 : World) (F0 O0 : Nat → Prop) (a : Act) (w : World), Inv Γ G w0 F0 O0 a w e → c.wp P (fun ex a' w' => ex = k.toExit ∧ Inv Γ G w0 F0 O0 a' w' e1) a w

/-- In a loop, at the head of a round. -/
def RoundWp (P : Program) (c : Code) (Q : Exit → Act → World → Prop) (a : Act) (w : World) : Prop :=
  ∀ (b : Frame) (k : List Item) (cs : List Frame), ∃ e a' w', Q e a' w' ∧ Arrives P (lone (b.at a (.code c :: .inLoop c :: k)) cs w) b k cs e a' w'

def LoopOk (P : Program) (G : Nat → Option (List V)) (c : Code) (e : Env Γ.St) (k : X) (e1 : Env Γ.St) : Prop :=
  ∀ (w0 : World) (F0 O0 : Nat → Prop) (a : Act) (w : World), Inv Γ G w0 F0 O0 a w e → RoundWp P c (fun ex a' w' => ex = k.toExit ∧ Inv Γ G w0 F0 O0 a' w' e1) a w

theorem CodeOk.skip (e : Env Γ.St) : CodeOk P G .skip e .normal e := fun _ _ _ _ _ hi => wp_skip ⟨rfl, hi⟩
theorem CodeOk.exit (id : Nat) (e : Env Γ.St) : CodeOk P G (.exit id) e (.exit id) e := fun _ _ _ _ _ hi => wp_exit ⟨rfl, hi⟩
theorem CodeOk.ret (e : Env Γ.St) : CodeOk P G .ret e .ret e := fun _ _ _ _ _ hi => wp_ret ⟨rfl, hi⟩

theorem CodeOk.seqN {x y : Code} {e e1 e2 : Env Γ.St} {k : X} (h1 : CodeOk P G x e .normal e1) (h2 : CodeOk P G y e1 k e2) : CodeOk P G (.seq x y) e k e2 := by
  intro w0 F0 O0 a w hi
  refine wp_seq (wp_mono (h1 w0 F0 O0 a w hi) ?_)
  rintro ex a' w' ⟨rfl, hi'⟩
  exact h2 w0 F0 O0 a' w' hi'

theorem CodeOk.seqX {x y : Code} {e e1 : Env Γ.St} {k : X} (h1 : CodeOk P G x e k e1) (hk : k ≠ .normal) : CodeOk P G (.seq x y) e k e1 := by
  intro w0 F0 O0 a w hi
  refine wp_seq (wp_mono (h1 w0 F0 O0 a w hi) ?_)
  rintro ex a' w' ⟨rfl, hi'⟩
  cases k with
  | normal => exact absurd rfl hk
  | exit id => exact ⟨rfl, hi'⟩
  | ret => exact ⟨rfl, hi'⟩

theorem CodeOk.condB {c : Operand} {x y : Code} {e e1 : Env Γ.St} {k : X} {b : Bool} (hc : evx G e c = .p (.val (.bool b))) (h : CodeOk P G (if b then x else y) e k e1) : CodeOk P G (.cond c x y) e k e1 := by
  intro w0 F0 O0 a w hi
  have hw := h w0 F0 O0 a w hi
  obtain ⟨F, O, β, hcr, hG, hsz, hdf, ht, hv⟩ := hi
  have h2 := evx_sim (e := e) hG ht c
  rw [hc] at h2
  cases b with
  | true => exact wp_cond_true (Rd.eq_val h2) hw
  | false => exact wp_cond_false (Rd.eq_val h2) hw

theorem CodeOk.block {id : Nat} {c : Code} {e e1 : Env Γ.St} {k : X} (h : CodeOk P G c e k e1) : CodeOk P G (.block id c) e (k.out id) e1 := by
  intro w0 F0 O0 a w hi
  refine wp_block (wp_mono (h w0 F0 O0 a w hi) ?_)
  rintro ex a' w' ⟨rfl, hi'⟩
  cases k with
  | normal => exact ⟨rfl, hi'⟩
  | exit id' =>
    simp only [X.toExit, Exit.inBlock, X.out]
    split
    · exact ⟨rfl, hi'⟩
    · exact ⟨rfl, hi'⟩
  | ret => exact ⟨rfl, hi'⟩

theorem CodeOk.loop {c : Code} {e e1 : Env Γ.St} {k : X} (h : LoopOk P G c e k e1) : CodeOk P G (.loop c) e k e1 := by
  intro w0 F0 O0 a w hi b k' cs
  obtain ⟨ex, a', w', hq, harr⟩ := h w0 F0 O0 a w hi b k' cs
  exact ⟨ex, a', w', hq, .of_steps (.one step_loop) harr⟩

theorem LoopOk.last {c : Code} {e e1 : Env Γ.St} {k : X} (h : CodeOk P G c e k e1) (hk : k ≠ .normal) : LoopOk P G c e k e1 := by
  intro w0 F0 O0 a w hi b k' cs
  obtain ⟨ex, a', w', ⟨rfl, hi'⟩, harr⟩ := h w0 F0 O0 a w hi b (.inLoop c :: k') cs
  cases k with
  | normal => exact absurd rfl hk
  | exit id => exact ⟨_, a', w', ⟨rfl, hi'⟩, .pass (x := .inLoop c) rfl (fun _ _ => .inl (by simp [X.toExit])) harr⟩
  | ret => exact ⟨_, a', w', ⟨rfl, hi'⟩, .pass (x := .inLoop c) rfl (fun _ _ => .inl (by simp [X.toExit])) harr⟩

theorem LoopOk.step {c : Code} {e e1 e2 : Env Γ.St} {k : X} (h : CodeOk P G c e .normal e1) (h2 : LoopOk P G c e1 k e2) : LoopOk P G c e k e2 := by
  intro w0 F0 O0 a w hi b k' cs
  obtain ⟨ex, a', w', ⟨rfl, hi'⟩, harr⟩ := h w0 F0 O0 a w hi b (.inLoop c :: k') cs
  obtain ⟨ex2, a2, w2, hq2, harr2⟩ := h2 w0 F0 O0 a' w' hi' b k' cs
  exact ⟨ex2, a2, w2, hq2, .of_steps (Steps.trans harr (.one step_inLoop)) harr2⟩

theorem LoopOk.fit {c : Code} {e e' e2 : Env Γ.St} {k : X} {K : Prop} (hf : fitE e e' K) (h : LoopOk P G c e' k e2) : LoopOk P G c e k e2 :=
  fun w0 F0 O0 a w hi => h w0 F0 O0 a w (hi.fit hf).1

theorem fitE_K {St : Type} {e e2 : Env St} {K : Prop} (hf : fitE e e2 K) : K := by
  unfold fitE at hf
  split at hf
  · exact (fitOs_sound _ _ _ (fitTs_sound _ _ _ hf).2).2.2
  · exact hf.elim

theorem wpC_sound (hmix : P.follows .mixedOrders = true) (hS : Table Γ P G S.toS) : ∀ (c : Code) (Q : X → Env Γ.St → Prop) (e : Env Γ.St), wpC P G S A c Q e → ∃ k e1, CodeOk P G c e k e1 ∧ Q k e1 := by
  intro c
  induction c with
  | skip => intro Q e h; exact ⟨_, _, .skip e, h⟩
  | exit id => intro Q e h; exact ⟨_, _, .exit id e, h⟩
  | ret => intro Q e h; exact ⟨_, _, .ret e, h⟩
  | seq x y ihx ihy =>
    intro Q e h
    simp only [wpC] at h
    obtain ⟨k, e1, h1, h2⟩ := ihx _ _ h
    cases k with
    | normal =>
      obtain ⟨k2, e2, h3, h4⟩ := ihy _ _ h2
      exact ⟨k2, e2, h1.seqN h3, h4⟩
    | exit id => exact ⟨_, e1, h1.seqX (by simp), h2⟩
    | ret => exact ⟨_, e1, h1.seqX (by simp), h2⟩
  | cond c x y ihx ihy =>
    intro Q e h
    simp only [wpC] at h
    split at h
    · rename_i b hb
      refine ifb_cases h (fun hbt hh => ?_) (fun hbt hh => ?_)
      · subst hbt
        obtain ⟨k, e1, h1, h2⟩ := ihx _ _ hh
        exact ⟨k, e1, CodeOk.condB hb h1, h2⟩
      · subst hbt
        obtain ⟨k, e1, h1, h2⟩ := ihy _ _ hh
        exact ⟨k, e1, CodeOk.condB hb h1, h2⟩
    · exact h.elim
  | block id c ih =>
    intro Q e h
    simp only [wpC] at h
    obtain ⟨k, e1, h1, h2⟩ := ih _ _ h
    exact ⟨_, e1, h1.block, h2⟩
  | loop c ih =>
    intro Q e h
    simp only [wpC] at h
    split at h
    · rename_i hd _
      obtain ⟨h1, h3⟩ := h
      have key : ∀ (n : Nat) (s : hd.σ), hd.mes s = n → hd.inv s → ∃ k e1, LoopOk P G c (hd.env s) k e1 ∧ Q k e1 := by
        intro n
        induction n using Nat.strongRecOn with
        | _ n ihn =>
          intro s hs hinv
          have h4 := h3 s hinv
          rw [gEnv_eq] at h4
          obtain ⟨k, e1, h5, h6⟩ := ih _ _ h4
          cases k with
          | normal =>
            simp only at h6
            split at h6
            · rename_i s1 _
              obtain ⟨f2, f3⟩ := fitE_K h6
              obtain ⟨k2, e2, h7, h8⟩ := ihn _ (by omega) s1 rfl f2
              exact ⟨k2, e2, LoopOk.step h5 (h7.fit h6), h8⟩
            · exact h6.elim
          | exit id => exact ⟨_, e1, .last h5 (by simp), h6⟩
          | ret => exact ⟨_, e1, .last h5 (by simp), h6⟩
      split at h1
      · rename_i s0 _
        obtain ⟨k, e1, h4, h5⟩ := key _ s0 rfl (fitE_K h1)
        exact ⟨k, e1, CodeOk.loop (h4.fit h1), h5⟩
      · exact h1.elim
    · have key : ∀ (n : Nat) (e : Env Γ.St), unroll (wpC P G S A c) Q n e → ∃ k e1, LoopOk P G c e k e1 ∧ Q k e1 := by
        intro n
        induction n with
        | zero => intro e h; exact h.elim
        | succ n ihn =>
          intro e h
          simp only [unroll] at h
          obtain ⟨k, e1, h5, h6⟩ := ih _ _ h
          cases k with
          | normal =>
            obtain ⟨k2, e2, h7, h8⟩ := ihn e1 h6
            exact ⟨k2, e2, LoopOk.step h5 h7, h8⟩
          | exit id => exact ⟨_, e1, .last h5 (by simp), h6⟩
          | ret => exact ⟨_, e1, .last h5 (by simp), h6⟩
      obtain ⟨k, e1, h4, h5⟩ := key _ e h
      exact ⟨k, e1, CodeOk.loop h4, h5⟩
  | region id ops draw =>
    intro Q e h
    cases draw with
    | false =>
      simp only [wpC] at h
      obtain ⟨e1, h1, h2⟩ := seqW_sound hS _ _ h
      refine ⟨.normal, e1, ?_, h2⟩
      intro w0 F0 O0 a w hi
      refine wp_region ?_
      have := seq_ops (Q := fun ex a' w' => ex = X.toExit .normal ∧ Inv Γ G w0 F0 O0 a' w' e1) ops 0 ops.toList e e1 a w (by simp) h1 hi (fun a w h => ⟨rfl, h⟩)
      simpa [List.range_eq_range'] using this
    | true =>
      simp only [wpC] at h
      obtain ⟨e1, h1, h2⟩ := drawW_sound hmix hS h
      exact ⟨.normal, e1, fun w0 F0 O0 a w hi => h1 id w0 F0 O0 a w _ hi (fun a w h => ⟨rfl, h⟩), h2⟩
  | _ => intro Q e h; simp only [wpC] at h

/-- A result that says no more. -/
def fitRV : RV → RV → Prop
  | .p (.val (.slice none 0 0)), .ownT _ ys => ys = []
  | .own [], .ownT _ ys => ys = []
  | .own [], .p (.tl _ ys) => ys = []
  | .ownT t xs, .ownT t' ys => fitL t t' xs ys
  | .ownT t xs, .p (.tl t' ys) => fitL t t' xs ys
  | .p d, .p d' => fitV 7 d d'
  | _, _ => False

theorem fitRV_sound {N : Nat} {w : World} {F O : Nat → Prop} {v : Value} {r r' : RV} (h : fitRV r r') (hr : RetRel N w F O v r) :
    ∃ F' : Nat → Prop, (∀ b, F b → F' b) ∧ (∀ b, F' b → F b ∨ (N ≤ b ∧ b < w.heap.size ∧ ¬ O b)) ∧ RetRel N w F' O v r' := by
  have same : RetRel N w F O v r' → ∃ F' : Nat → Prop, (∀ b, F b → F' b) ∧ (∀ b, F' b → F b ∨ (N ≤ b ∧ b < w.heap.size ∧ ¬ O b)) ∧ RetRel N w F' O v r' :=
    fun h => ⟨F, fun _ h => h, fun _ h => .inl h, h⟩
  unfold fitRV at h
  split at h
  · subst h; exact same (.inl ⟨rfl, none, Rd.eq_val hr⟩)
  · subst h; exact same hr
  · subst h
    refine same ?_
    rcases hr with ⟨_, a0, rfl⟩ | ⟨h, _⟩
    · exact .tl _ [] _ (.slemp a0 0)
    · exact absurd rfl h
  · obtain ⟨ht, h⟩ := fitL_sound h; subst ht; subst h; exact same hr
  · obtain ⟨ht, h⟩ := fitL_sound h
    subst ht
    subst h
    rename_i t xs
    rcases hr with ⟨h0, a0, rfl⟩ | ⟨hne, b, cap, rfl, h1, h2, h3, h4, k, hrow⟩
    · exact same (.tl _ _ _ (by rw [h0]; exact .slemp a0 0))
    · refine ⟨fun b' => F b' ∨ b' = b, fun _ h => .inl h, fun b' hb => hb.elim .inl (fun h => by subst h; exact .inr ⟨h1, h2, h4⟩), ?_⟩
      exact .tl _ _ _ (Row_rd (hrow.mono (fun _ h => .inl h) (fun _ _ => rfl) rfl) (fun _ h => h) (.inr rfl))
  · exact same (fitV_sound 7 _ _ h _ _ _ hr)
  · exact h.elim

/-- The end of a function's body. -/
def endW (P : Look) (fn : Func) (s' : Γ.St) (r : RV) : X → Env Γ.St → Prop
  | .exit _, _ => False
  | _, e => e.st = s' ∧ match evRet P e fn with
    | some r' => fitRV r' r
    | none => False

theorem fnOk_of_wpC (hmix : P.follows .mixedOrders = true) (hS : Table Γ P G S.toS) {f : FuncId} {fn : Func} {c : Code} (hf : P.funcs[f]? = some fn) (hb : fn.body = some c)
    {spec : Γ.St → List V → Option (Γ.St × RV)}
    (h : ∀ s ds s' r, spec s ds = some (s', r) → wpC P G S A c (endW P fn s' r) (start fn.ntmps s ds)) : FnOk Γ P G f spec := by
  intro w F O s args ds s' r hsig hG hF hlen hrd hspec
  obtain ⟨k, e', hok, hend⟩ := wpC_sound hmix hS c _ _ (h s ds s' r hspec)
  have hk : k = .normal ∨ k = .ret := by
    cases k with
    | normal => exact .inl rfl
    | ret => exact .inr rfl
    | exit id => exact hend.elim
  have hend' : e'.st = s' ∧ match evRet P e' fn with | some r' => fitRV r' r | none => False := by
    rcases hk with rfl | rfl <;> exact hend
  obtain ⟨hst, hret⟩ := hend'
  split at hret
  · rename_i r' hr'
    refine calls_of_wp hf hb ?_
    have hget : ∀ t, TRel w F ⟨fun _ => 0, fun _ => 0⟩ (fun _ => False) ((args ++ Array.replicate (fn.ntmps - args.size) undef).getD t undef) ((start fn.ntmps s ds).get t) := by
      intro t
      simp only [start, startTm, Env.get, List.getD_eq_getElem?_getD, Array.getD_eq_getD_getElem?]
      by_cases ht : t < ds.length
      · rw [List.getElem?_append_left (by simpa using ht), Array.getElem?_append_left (by omega)]
        rw [List.getElem?_map, List.getElem?_eq_getElem ht, Array.getElem?_eq_getElem (by omega)]
        exact hrd t _ _ (by simp [show t < args.size by omega]) (by simp [ht])
      · rw [List.getElem?_append_right (by simpa using Nat.le_of_not_lt ht), Array.getElem?_append_right (by omega), hlen]
        simp only [List.length_map]
        by_cases h2 : t - ds.length < fn.ntmps - ds.length
        · rw [List.getElem?_replicate, if_pos h2, Array.getElem?_replicate, if_pos h2]
          exact Rd.val _
        · rw [List.getElem?_replicate, if_neg h2]
          trivial
    have hnovar : ∀ s0, (start fn.ntmps s ds).var s0 = none := by
      intro s0
      simp only [start, Env.var, List.getElem?_replicate]
      split <;> rfl
    have hinv : Inv Γ G w F O { tmps := args ++ Array.replicate (fn.ntmps - args.size) undef, defers := [] } w (start fn.ntmps s ds) := by
      refine Inv.of (F := F) (O := O) (β := ⟨fun _ => 0, fun _ => 0⟩) (al := fun _ => False) ⟨Keep.refl O w, hsig, fun b hb => .inl hb, fun b hb => ⟨.inl hb, hF b hb⟩, fun b hb => hb, fun x hx => hx.elim, fun x y hx => hx.elim⟩ hG ?_ rfl hget ?_ (fun s h => h.elim)
      · simp [start, startTm, hlen]
      · intro s0 cs hcs; rw [hnovar] at hcs; cases hcs
    refine wp_mono (hok w F O _ w hinv) ?_
    rintro ex a' w' ⟨rfl, hi'⟩
    obtain ⟨v, F', O', h1, h2, h3, h4, h5, h6, h7⟩ := evRet_sim hi' hr'
    have hdf : a'.defers = [] := by obtain ⟨_, _, _, _, _, _, hdf, _⟩ := hi'; exact hdf
    rw [hst] at h2
    obtain ⟨F'', g1, g2, g3⟩ := fitRV_sound hret h7
    have hF'' : ∀ b, F'' b → (F b ∨ w.heap.size ≤ b) ∧ b < w'.heap.size ∧ ¬ O' b := by
      intro b hb
      rcases g2 b hb with hb | ⟨h1, h2, h3⟩
      · exact h6 b hb
      · exact ⟨.inr h1, h2, h3⟩
    rcases hk with rfl | rfl
    · exact ⟨hdf, v, h1, v, F'', O', rfl, h2, h3, h4, fun b hb => g1 b (h5 b hb), hF'', g3⟩
    · exact ⟨hdf, v, h1, v, F'', O', rfl, h2, h3, h4, fun b hb => g1 b (h5 b hb), hF'', g3⟩
  · exact hret.elim
end
end Go.Ve
