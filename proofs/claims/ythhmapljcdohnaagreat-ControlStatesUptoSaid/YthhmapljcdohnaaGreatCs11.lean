/-
  Functions out of code, part 5: soundness; contracts of functions.
  Functions out of code: the checks of a network.
  Functions out of code, part 6: contracts of functions to which a list is lent.
  Functions out of code, part 7: slices that go by a number: a state of lists; append.
-/
import Derived.Test.YthhmapljcdohnaaGreatCs10
import Derived.Test.YthhmapljcdohnaaGreatCs2
set_option linter.unusedVariables false
namespace Go.Ve
open Go

section
variable {Γ : Sig} {P : Program} {G : Nat → Option (List V)} {e e1 e2 : Env Γ.St}

/-- Whatever is true of a world of state e is true of it as one of state e2. -/
def Fits (G : Nat → Option (List V)) (e e2 : Env Γ.St) : Prop :=
  ∀ (w0 : World) (F0 : Blk → Prop) (O0 : Lent) (a : Act) (w : World), Inv Γ G w0 F0 O0 a w e → Inv Γ G w0 F0 O0 a w e2

theorem fits_of (hl : e2.tm.length = e.tm.length) (hst : e2.st = e.st) (ht2 : ∀ t, WkT (e.get t) (e2.get t))
    (hv2 : ∀ s cs2, e2.var s = some cs2 → ∃ cs, e.var s = some cs ∧ WkTs cs cs2) (hlp : ∀ t, lpOkT e2 (e2.get t) = true)
    (hlv : ∀ s cs2 x, e2.var s = some cs2 → x ∈ cs2 → lpOkT e2 x = true) : Fits G e e2 := by
  intro w0 F0 O0 a w h
  obtain ⟨F, O, β, hc, hG, hsz, hdf, ht, hv⟩ := h
  let al' : Site → Prop := fun x => alive e x ∧ ∀ s, x = .v s → ∃ cs, e2.var s = some cs
  have hon : ∀ v x, TRel w F β (alive e) v x → lpOkT e2 x = true → TRel w F β al' v x := by
    intro v x hx hl
    refine hx.on ?_
    have hs := hx.sites
    cases x with
    | ow i k es => exact ⟨hs, fun s h => by cases h⟩
    | oe i k es j off => exact ⟨hs, fun s h => by cases h⟩
    | mp i es ck => exact ⟨hs, fun s h => by cases h⟩
    | ot i t xs => exact fun h0 => ⟨hs h0, fun s h => by cases h⟩
    | oet i t xs j off => exact ⟨hs, fun s h => by cases h⟩
    | ov i t xs lo hi => exact fun h0 => ⟨hs h0, fun s h => by cases h⟩
    | on n => exact ⟨⟨hs.1, fun s h => by cases h⟩, ⟨hs.2, fun s h => by cases h⟩⟩
    | lp s off =>
      refine ⟨hs, fun s' h => ?_⟩
      cases h
      exact Option.isSome_iff_exists.1 hl
    | _ => trivial
  refine Inv.of (al := al') (by rw [hst]; exact hc.anti (fun x hx => hx.1)) hG (by omega) hdf ?_ ?_ ?_
  · intro t
    exact hon _ _ (ht2 t _ _ _ _ _ (ht t)) (hlp t)
  · intro s cs2 hcs2
    obtain ⟨cs, h1, h3⟩ := hv2 s cs2 hcs2
    obtain ⟨c, et, g1, g2, g3⟩ := hv s cs h1
    refine ⟨⟨⟨cs, h1⟩, fun s' h => by grind⟩, c, et, g1, g2.trans h3.len, ?_⟩
    intro i x y hx hy
    have hlt : i < cs.length := by grind
    exact hon _ _ (h3.get i cs[i] y (by simp [hlt]) hy _ _ _ _ _ (g3 i x cs[i] hx (by simp [hlt]))) (hlv s cs2 y hcs2 (List.mem_of_getElem? hy))
  grind

theorem wrCell_lp {c : Cell} {x : c.El} : ∀ y, y ∈ wrCell c x → lpOkT e y = true := by
  intro y hy
  cases c with
  | p ty =>
    simp [wrCell] at hy
    obtain ⟨d, _, rfl⟩ := hy
    rfl
  | o id ty =>
    simp [wrCell] at hy
    subst hy
    rfl

theorem wrCells_lp : ∀ {cs : List Cell} {x : CellS cs}, ∀ y, y ∈ wrCells cs x → lpOkT e y = true
  | [], _, y, h => by simp [wrCells] at h
  | [c], x, y, h => wrCell_lp (c := c) (x := x) y h
  | c :: c' :: r, x, y, h => by
    simp only [wrCells, List.mem_append] at h
    rcases h with h | h
    · exact wrCell_lp y h
    · exact wrCells_lp y h

theorem vSlot_lp {s : Slot} {x : s.El Γ.St} {i : Nat} {cs : List T} (h : (i, cs) ∈ vSlot s x) : ∀ y, y ∈ cs → lpOkT e y = true := by
  intro y hy
  cases s <;> simp only [vSlot, List.mem_singleton, Prod.mk.injEq, List.not_mem_nil] at h
  obtain ⟨_, rfl⟩ := h
  exact wrCells_lp y hy

theorem vS_lp : ∀ {l : List Slot} {x : SlotS Γ.St l} {i : Nat} {cs : List T}, (i, cs) ∈ vS l x → ∀ y, y ∈ cs → lpOkT e y = true
  | [], _, _, _, h => by simp [vS] at h
  | [s], x, _, _, h => vSlot_lp (s := s) (x := x) h
  | s :: s' :: r, x, _, _, h => by
    simp only [vS, List.mem_append] at h
    rcases h with h | h
    · exact vSlot_lp h
    · exact vS_lp h

theorem tmSlot_lp {s : Slot} {x : s.El Γ.St} {i : Nat} {y : T} (h : (i, y) ∈ tmSlot s x) : lpOkT e y = true := by
  cases s <;> simp only [tmSlot, List.mem_singleton, Prod.mk.injEq, List.not_mem_nil] at h
  all_goals
    obtain ⟨_, rfl⟩ := h
    rfl

theorem tmS_lp : ∀ {l : List Slot} {x : SlotS Γ.St l} {i : Nat} {y : T}, (i, y) ∈ tmS l x → lpOkT e y = true
  | [], _, _, _, h => by simp [tmS] at h
  | [s], x, _, _, h => tmSlot_lp (s := s) (x := x) h
  | s :: s' :: r, x, _, _, h => by
    simp only [tmS, List.mem_append] at h
    rcases h with h | h
    · exact tmSlot_lp h
    · exact tmS_lp h

theorem bits_sub {j : JA} {i : Nat} (h : j.bits.testBit i = false) : (lpsBits j.lps).testBit i = false ∧ (slotBits j.sl).testBit i = false := by
  grind [bit_or, JA.bits]

theorem join_fits {j : JA} (hst : Subsingleton Γ.St ∨ hasSt j.sl = true) {s : SlotS Γ.St j.sl} (hA : Agree j.bits e e1) (hr : rdJ j e1 = some s) : Fits G e1 (joinJ j e s) := by
  have hchk : chkL e1 j.lps = true ∧ rdS e1 j.sl = some s := by
    grind [rdJ]
  obtain ⟨hL, hS⟩ := hchk
  have hv : ∀ i cs2, (joinJ j e s).var i = some cs2 → ∃ cs, e1.var i = some cs ∧ WkTs cs cs2 := by
    intro i cs2 h
    rcases joinJ_var h with h | ⟨h1, h2, h3, ds, rfl⟩
    · grind [rdS_v]
    · exact ⟨_, hA.v i ds h2 h3 h1, WkTs.refl _⟩
  have hlp1 : ∀ s' off, isVar (joinJ j e s).vars s' = true → lpOkT (joinJ j e s) (.lp s' off) = true := by
    grind [isVar_iff, Option.isSome_some, lpOkT]
  have hget : ∀ t, WkT (e1.get t) ((joinJ j e s).get t) ∧ lpOkT (joinJ j e s) ((joinJ j e s).get t) = true := by
    intro t
    rcases Nat.lt_or_ge t e.tm.length with hlt | hge
    · rcases joinJ_get (j := j) (s := s) hlt with ⟨y, hy, h1⟩ | h1 | ⟨hb, h1⟩
      · rw [h1]
        rw [List.mem_append] at hy
        rcases hy with hy | hy
        · obtain ⟨s', off, h2, rfl⟩ := lpsT_mem hy
          have h3 := chkL_mem hL t s' off h2
          rcases lpT_cases (joinJ j e s).vars s' off with h4 | ⟨h4, h5⟩
          · rw [h4]; exact ⟨.dead _, rfl⟩
          · rw [h4, h3]; exact ⟨.refl _, hlp1 s' off h5⟩
        grind [rdS_tm, tmS_lp]
      · rw [h1]; exact ⟨.dead _, rfl⟩
      · rw [h1]
        cases hx : e.get t with
        | p d => rw [hA.p t d hb hx]; exact ⟨.refl _, rfl⟩
        | lp s' off =>
          simp only [keepT]
          split
          · rename_i hk
            simp at hk
            rw [hA.lp t s' off hb hk.1 hx]
            exact ⟨.refl _, hlp1 s' off hk.2⟩
          · exact ⟨.dead _, rfl⟩
        | _ => exact ⟨.dead _, rfl⟩
    · rw [get_ge (e := joinJ j e s) (by grind [joinJ_len])]
      exact ⟨.dead _, rfl⟩
  have hst' : (joinJ j e s).st = e1.st := by
    rcases hst with hsub | hst
    · exact Subsingleton.elim _ _
    · obtain ⟨y, hy⟩ := stS_some s hst
      have := rdS_st hS y hy
      show orSt (stS j.sl s) e.st = e1.st
      rw [hy]; exact this
  refine fits_of (by rw [joinJ_len.1, hA.tl]) hst' (fun t => (hget t).1) hv (fun t => (hget t).2) ?_
  intro i cs2 x h hx
  rcases joinJ_var h with h | ⟨_, _, _, ds, rfl⟩
  · exact vS_lp h x hx
  · simp at hx
    obtain ⟨d, _, rfl⟩ := hx
    rfl

theorem okTm_get {j : JA} : ∀ (l : List T) (n : Nat), okTm j e n l = true → ∀ i s off, l[i]? = some (.lp s off) → j.bits.testBit (2 * (n + i)) = false → j.bits.testBit (2 * s) = false →
    (slotHas j.sl s = true ∧ (e.vars[s]?).isSome = true) ∨ (keepV j.bits s (e.var s)).isSome = true
  | [], _, _, i, s, off, h, _, _ => by simp at h
  | x :: r, n, hk, i, s, off, h, h1, h2 => by
    have hr : okTm j e (n + 1) r = true := by
      cases x <;> simp only [okTm, Bool.and_eq_true] at hk <;> first | exact hk | exact hk.2
    cases i with
    | zero =>
      simp_all [okTm]
    | succ i =>
      simp only [List.getElem?_cons_succ] at h
      exact okTm_get r (n + 1) hr i s off h (by rw [show n + 1 + i = n + (i + 1) by omega]; exact h1) h2

theorem join_agree {j : JA} {s : SlotS Γ.St j.sl} (hok : okJ j e = true) : Agree j.bits e (joinJ j e s) := by
  have hlook : ∀ t, j.bits.testBit (2 * t) = false → ∀ y, (t, y) ∉ lpsT (joinJ j e s).vars j.lps ++ tmS j.sl s := by
    intro t ht y hy
    obtain ⟨h1, h2⟩ := bits_sub ht
    grind [lpsT_mem, bits_lps, bits_tm]
  have hget : ∀ t, j.bits.testBit (2 * t) = false → t < e.tm.length → (joinJ j e s).get t = keepT j.bits (joinJ j e s).vars (e.get t) := by
    intro t ht hlt
    have h1 : (joinJ j e s).tm[t]? = _ := joinTm_get j.bits (lpsT (joinJ j e s).vars j.lps ++ tmS j.sl s) (joinJ j e s).vars e.tm 0 t
    rw [List.getElem?_eq_getElem hlt, Option.map_some, Nat.zero_add] at h1
    have hg : (joinJ j e s).get t = ((joinJ j e s).tm[t]?).getD .dead := by simp [Env.get]
    have he : e.get t = e.tm[t] := by simp [Env.get, hlt]
    rw [hg, h1, he]
    simp
    split
    · rename_i y hy
      exact absurd (lookN_mem hy) (hlook t ht y)
    · rw [ht]
  have hvar : ∀ i (ds : List V), j.bits.testBit (2 * i) = false → j.bits.testBit (2 * i + 1) = false → e.var i = some (ds.map T.p) → (joinJ j e s).var i = some (ds.map T.p) := by
    intro i ds h1 h2 h3
    apply var_of_get
    show (joinVars _ _ _ _)[i]? = _
    rw [joinVars_get, get_of_var h3, Option.map_some, Nat.zero_add]
    congr 1
    split
    · rename_i y hy
      have := bits_v (lookN_mem hy)
      simp_all [bits_sub]
    · have hall : ∀ l : List V, allP (l.map T.p) = true := by
        intro l
        induction l with
        | nil => rfl
        | cons x l ih => grind [allP]
      grind [keepV]
  have hlt : ∀ t x, e.get t = x → x ≠ .dead → t < e.tm.length := by
    grind [Nat.lt_or_ge, get_ge, absurd]
  refine ⟨joinJ_len.1, joinJ_len.2, ?_, ?_, hvar⟩
  · intro t d ht hx
    rw [hget t ht (hlt t _ hx (by simp)), hx]; rfl
  · intro t s' off ht hs' hx
    have hl := hlt t _ hx (by simp)
    rw [hget t ht hl, hx]
    have hg : e.tm[t]? = some (.lp s' off) := by
      grind [List.getElem?_eq_getElem, Env.get]
    have h3 : isVar (joinJ j e s).vars s' = true := by
      rcases okTm_get e.tm 0 hok t s' off hg (by grind) hs' with ⟨h4, h5⟩ | h4
      · obtain ⟨cs, hcs⟩ := slotHas_look (x := s) h4
        obtain ⟨y, hy⟩ := Option.isSome_iff_exists.1 h5
        rw [isVar_iff]
        refine ⟨cs, var_of_get ?_⟩
        show (joinVars _ _ _ _)[s']? = _
        rw [joinVars_get, hy, Option.map_some, Nat.zero_add, hcs]
      · obtain ⟨cs, hcs⟩ := Option.isSome_iff_exists.1 h4
        obtain ⟨h5, h6, h7, ds, rfl⟩ := keepV_some hcs
        grind [isVar_iff]
    grind [keepT]

theorem Fits.code {c : Code} {k : X} (h : CodeOk P G c e k e1) (hf : Fits G e1 e2) : CodeOk P G c e k e2 := by
  intro w0 F0 O0 a w hi
  refine wp_mono (h w0 F0 O0 a w hi) ?_
  rintro ex a' w' ⟨rfl, hi'⟩
  exact ⟨rfl, hf _ _ _ _ _ hi'⟩

theorem Fits.loop {c : Code} {k : X} (hf : Fits G e e1) (h : LoopOk P G c e1 k e2) : LoopOk P G c e k e2 :=
  fun w0 F0 O0 a w hi => h w0 F0 O0 a w (hf _ _ _ _ _ hi)

theorem endJ_some {j : JA} {lg : Nat} {s : SlotS Γ.St j.sl} (h : endJ j e lg = some s) : rdJ j e = some s ∧ ∀ t, j.bits.testBit t = false → lg.testBit t = false := by
  grind [Nat.eq_of_beq_eq_true, bit_or, endJ]

theorem keyA_some {A : Nat → Option JA} {t : Nat} {c : Code} {j : JA} (h : keyA A t c = some j) : ∃ k, A k = some j := by
  grind [keyA]

theorem exC_sound {S : SpecsX Γ} {A : Nat → Option JA} (hst : ∀ k j, A k = some j → Subsingleton Γ.St ∨ hasSt j.sl = true) (hmix : P.follows .mixedOrders = true) (hS : Table Γ P G S.toS) : ∀ (c : Code) (ρ : Type) (K : X → Env Γ.St → Nat → Option ρ) (e : Env Γ.St) (lg : Nat) (v : ρ),
    exC P G S A c ρ K e lg = some v → ∃ k e1 d, CodeOk P G c e k e1 ∧ Agree d e e1 ∧ K k e1 (lg ||| d) = some v := by
  intro c
  induction c with
  | skip => intro ρ K e lg v h; exact ⟨_, _, 0, .skip e, Agree.refl e, by rw [Nat.or_zero]; exact h⟩
  | exit id => intro ρ K e lg v h; exact ⟨_, _, 0, .exit id e, Agree.refl e, by rw [Nat.or_zero]; exact h⟩
  | ret => intro ρ K e lg v h; exact ⟨_, _, 0, .ret e, Agree.refl e, by rw [Nat.or_zero]; exact h⟩
  | seq x y ihx ihy =>
    intro ρ K e lg v h
    simp only [exC] at h
    split at h
    · rename_i j hj0
      obtain ⟨jk, hj⟩ := keyA_some hj0
      have hjs := hst jk j hj
      have fin : ∀ (k : X) (e1 : Env Γ.St) (d : Nat) (s : SlotS Γ.St j.sl), CodeOk P G x e .normal e1 → Agree d e e1 → endJ j e1 (0 ||| d) = some s → okJ j e = true → kEnv (joinJ j e s) (fun e1 => exC P G S A y ρ K e1 (lg ||| j.bits)) = some v →
          ∃ k e1 d, CodeOk P G (.seq x y) e k e1 ∧ Agree d e e1 ∧ K k e1 (lg ||| d) = some v := by
        intro k e1 d s h1 h2 h3 hok h4
        rw [kEnv_eq] at h4
        obtain ⟨h5, h6⟩ := endJ_some h3
        have hA : Agree j.bits e e1 := h2.mono (fun t ht => by grind)
        obtain ⟨k2, e2, d2, h7, h8, h9⟩ := ihy ρ K _ _ v h4
        exact ⟨k2, e2, j.bits ||| d2, (Fits.code h1 (join_fits hjs hA h5)).seqN h7, (join_agree hok).trans h8, by grind⟩
      split at h
      · obtain ⟨hok, h⟩ := need_some.1 h
        obtain ⟨s, h1, h2⟩ := bind_some h
        obtain ⟨k, e1, d, h3, h4, h5⟩ := ihx _ _ _ _ _ h1
        cases k with
        | normal => exact fin .normal e1 d s h3 h4 h5 hok h2
        | exit id => cases h5
        | ret => cases h5
      · obtain ⟨hok, h⟩ := need_some.1 h
        have h0 : ∃ o, exC P G S A x (SlotS Γ.St j.sl ⊕ ρ) (fun k e1 lg1 => match k with
          | .normal => (endJ j e1 lg1).map .inl
          | k => (K k e1 (lg ||| lg1)).map .inr) e 0 = some o ∧ match o with
          | .inl s => kEnv (joinJ j e s) (fun e1 => exC P G S A y ρ K e1 (lg ||| j.bits)) = some v
          | .inr r => r = v := by
          unfold cut2 at h
          grind
        obtain ⟨o, h1, h2⟩ := h0
        obtain ⟨k, e1, d, h3, h4, h5⟩ := ihx _ _ _ _ _ h1
        have other : k ≠ .normal → (K k e1 (lg ||| (0 ||| d))).map (Sum.inr (α := SlotS Γ.St j.sl)) = some o → ∃ k e1 d, CodeOk P G (.seq x y) e k e1 ∧ Agree d e e1 ∧ K k e1 (lg ||| d) = some v := by
          intro hk hm
          rw [Option.map_eq_some_iff] at hm
          obtain ⟨r, hr, rfl⟩ := hm
          simp only at h2
          subst h2
          exact ⟨k, e1, d, h3.seqX hk, h4, by grind⟩
        cases k with
        | normal =>
          simp only [Option.map_eq_some_iff] at h5
          obtain ⟨s, hs, rfl⟩ := h5
          exact fin .normal e1 d s h3 h4 hs hok h2
        | exit id => grind
        | ret => grind
    · obtain ⟨k, e1, d, h1, h2, h3⟩ := ihx _ _ _ _ _ h
      cases k with
      | normal =>
        obtain ⟨k2, e2, d2, h4, h5, h6⟩ := ihy _ _ _ _ _ h3
        exact ⟨k2, e2, d ||| d2, h1.seqN h4, h2.trans h5, by grind⟩
      | exit id => exact ⟨_, e1, d, h1.seqX (by simp), h2, h3⟩
      | ret => exact ⟨_, e1, d, h1.seqX (by simp), h2, h3⟩
  | cond c x y ihx ihy =>
    grind [CodeOk.condB, exC]
  | block id c ih =>
    intro ρ K e lg v h
    simp only [exC] at h
    obtain ⟨k, e1, d, h1, h2, h3⟩ := ih _ _ _ _ _ h
    exact ⟨_, e1, d, h1.block, h2, h3⟩
  | loop c ih =>
    intro ρ K e lg v h
    simp only [exC] at h
    split at h
    · rename_i j hj0
      obtain ⟨jk, hj⟩ := keyA_some hj0
      have hjs := hst jk j hj
      obtain ⟨hok, h⟩ := need_some.1 h
      obtain ⟨s0, h1, h2⟩ := bind_some h
      simp only [kEnv_eq] at h2
      rw [loopX_iff] at h2
      obtain ⟨n, hn⟩ := h2
      have key : ∀ (n : Nat) (s : SlotS Γ.St j.sl), iterX (fun s => exC P G S A c (SlotS Γ.St j.sl ⊕ ρ) (fun k e1 lg1 => match k with
        | .normal => (endJ j e1 lg1).map .inl
        | k => (K k e1 (lg ||| (j.bits ||| lg1))).map .inr) (joinJ j e s) 0) n s = some v → ∃ k e1 d, LoopOk P G c (joinJ j e s) k e1 ∧ Agree (j.bits ||| d) e e1 ∧ K k e1 (lg ||| (j.bits ||| d)) = some v := by
        intro n
        induction n with
        | zero => grind [iterX]
        | succ n ihn =>
          intro s hs
          simp only [iterX] at hs
          have other : ∀ (o : SlotS Γ.St j.sl ⊕ ρ) (k : X) (e1 : Env Γ.St) (d : Nat), k ≠ .normal → CodeOk P G c (joinJ j e s) k e1 → Agree d (joinJ j e s) e1 → (K k e1 (lg ||| (j.bits ||| (0 ||| d)))).map (Sum.inr (α := SlotS Γ.St j.sl)) = some o →
              (∃ r, o = .inr r ∧ K k e1 (lg ||| (j.bits ||| d)) = some r) ∧ LoopOk P G c (joinJ j e s) k e1 ∧ Agree (j.bits ||| d) e e1 := by
            intro o k e1 d hk h3 h4 hm
            rw [Option.map_eq_some_iff] at hm
            obtain ⟨r, hr, rfl⟩ := hm
            rw [Nat.zero_or] at hr
            exact ⟨⟨r, rfl, hr⟩, .last h3 hk, (join_agree hok).trans h4⟩
          split at hs
          · cases hs
          · rename_i s' hs'
            obtain ⟨k, e1, d, h3, h4, h5⟩ := ih _ _ _ _ _ hs'
            cases k with
            | normal =>
              simp only [Option.map_eq_some_iff] at h5
              obtain ⟨s1, hs1, heq⟩ := h5
              simp at heq
              subst heq
              obtain ⟨h6, h7⟩ := endJ_some hs1
              have hA : Agree j.bits e e1 := (join_agree hok).same (h4.mono (fun t ht => by grind))
              obtain ⟨k2, e2, d2, h8, h9, h10⟩ := ihn _ hs
              exact ⟨k2, e2, d2, LoopOk.step (Fits.code h3 (join_fits hjs hA h6)) h8, h9, h10⟩
            | exit id => simp_all
            | ret => simp_all
          · rename_i r hs'
            simp at hs
            subst hs
            obtain ⟨k, e1, d, h3, h4, h5⟩ := ih _ _ _ _ _ hs'
            cases k with
            | normal =>
              simp_all
            | exit id =>
              obtain ⟨⟨r', hr, hK⟩, hL, hA⟩ := other _ _ _ _ (by simp) h3 h4 h5
              grind
            | ret =>
              obtain ⟨⟨r', hr, hK⟩, hL, hA⟩ := other _ _ _ _ (by simp) h3 h4 h5
              grind
      obtain ⟨k, e1, d, h3, h4, h5⟩ := key n s0 hn
      exact ⟨k, e1, _, CodeOk.loop (Fits.loop (join_fits hjs ((Agree.refl e).mono (fun t _ => by simp)) h1) h3), h4, h5⟩
    · have key : ∀ (n : Nat) (e : Env Γ.St) (lg : Nat), unrollX (exC P G S A c ρ) K n e lg = some v → ∃ k e1 d, LoopOk P G c e k e1 ∧ Agree d e e1 ∧ K k e1 (lg ||| d) = some v := by
        intro n
        induction n with
        | zero => grind [unrollX]
        | succ n ihn =>
          intro e lg h
          simp only [unrollX] at h
          obtain ⟨k, e1, d, h5, h6, h7⟩ := ih _ _ _ _ _ h
          cases k with
          | normal =>
            obtain ⟨k2, e2, d2, h8, h9, h10⟩ := ihn e1 _ h7
            exact ⟨k2, e2, d ||| d2, LoopOk.step h5 h8, h6.trans h9, by grind⟩
          | exit id => exact ⟨_, e1, d, .last h5 (by simp), h6, h7⟩
          | ret => exact ⟨_, e1, d, .last h5 (by simp), h6, h7⟩
      grind [CodeOk.loop]
  | region id ops draw =>
    intro ρ K e lg v h
    simp only [exC] at h
    split at h
    · rename_i j hj
      have hjs := hst _ j hj
      obtain ⟨hok, h⟩ := need_some.1 h
      obtain ⟨s, h1, h2⟩ := bind_some h
      obtain ⟨e1, n, h3, h4, h5⟩ := regX_sound hmix hS (id := id) h1
      rw [kEnv_eq] at h2
      obtain ⟨h6, h7⟩ := endJ_some h5
      have hA : Agree j.bits e e1 := h4.mono (fun t ht => by grind)
      grind [Fits.code, join_fits, join_agree, joinJ]
    · obtain ⟨e1, n, h3, h4, h5⟩ := regX_sound hmix hS (id := id) h
      grind
  | _ => intro ρ K e lg v h; simp [exC] at h

/-- The shapes of results. -/
inductive RTy where
  | p (ty : Ty)
  | o (ty : Ty)
  | tu (tys : List Ty)

@[reducible] def RTy.El : RTy → Type
  | .p ty => ty.El
  | .o ty => List ty.El
  | .tu tys => ElS tys

def RTy.get : (R : RTy) → RV → Option R.El
  | .p ty, .p d => ty.dec d
  | .p (.sl ty), .ownT t' xs => castL t' ty xs
  | .p ty, .own [] => ty.dec (.sl [])
  | .p _, _ => none
  | .o ty, .ownT t' xs => castL t' ty xs
  | .o _, .p (.val (.slice none 0 0)) => some []
  | .o _, .own [] => some []
  | .o _, _ => none
  | .tu tys, .p (.tup ds) => decS tys ds
  | .tu _, _ => none

def RTy.res : (R : RTy) → R.El → RV
  | .p ty, x => .p (ty.enc x)
  | .o ty, xs => .ownT ty xs
  | .tu tys, x => .p (.tup (encS tys x))

def RTy.pl : RTy → Bool
  | .p ty => ty.flat
  | .o _ => true
  | .tu tys => tys.all Ty.flat

theorem RTy.get_sound {N : Nat} {w : World} {F : Blk → Prop} {O : Nat → Prop} {v : Value} {R : RTy} {r : RV} {y : R.El} (h : R.get r = some y) (hr : RetRel N w F O v r) :
    ∃ F' : Blk → Prop, (∀ b, F b → F' b) ∧ (∀ x : Blk, x.isB = false → (F' x ↔ F x)) ∧ (∀ b : Nat, F' b → F b ∨ (N ≤ b ∧ b < w.heap.size ∧ ¬ O b)) ∧ RetRel N w F' O v (R.res y) := by
  have same : RetRel N w F O v (R.res y) → ∃ F' : Blk → Prop, (∀ b, F b → F' b) ∧ (∀ x : Blk, x.isB = false → (F' x ↔ F x)) ∧ (∀ b : Nat, F' b → F b ∨ (N ≤ b ∧ b < w.heap.size ∧ ¬ O b)) ∧ RetRel N w F' O v (R.res y) :=
    fun h => ⟨F, fun _ h => h, fun _ _ => Iff.rfl, fun _ h => .inl h, h⟩
  unfold RTy.get at h
  split at h
  · exact same (dec_sound h _ _ _ hr)
  · rename_i ty t' xs
    exact fitRV_sound (r := .ownT t' xs) (r' := .p (.tl ty y)) (castL_sound h) hr
  · rename_i ty _
    refine same ?_
    rcases hr with ⟨_, a0, rfl⟩ | ⟨h', _⟩
    · exact dec_sound h _ _ _ (.slemp a0 0)
    grind
  · cases h
  · rename_i ty t' xs
    exact fitRV_sound (r := .ownT t' xs) (r' := .ownT ty y) (castL_sound h) hr
  · cases h
    exact same (.inl ⟨rfl, none, Rd.eq_val hr⟩)
  · cases h
    exact same hr
  · cases h
  · exact same (WkV.tup (decS_sound _ _ _ h) _ _ _ hr)
  · cases h

/-- What a body comes to, over typed data. -/
noncomputable def exF (L : Look) (G : Nat → Option (List V)) (S : SpecsX Γ) (A : Nat → Option JA) (fn : Func) (c : Code) (R : RTy) (s : Γ.St) (ds : List V) : Option R.El :=
  kEnv (start fn.ntmps s ds) (fun e => exC L G S A c R.El (fun k e1 _ => match k with
    | .exit _ => none
    | _ => match evRet L e1 fn with
      | some r => R.get r
      | none => none) e 0)

/-- A contract by a partial function over typed data. -/
def specG {X : Type} (dec : List V → Option X) (R : RTy) (g : X → Option R.El) : Γ.St → List V → Option (CallX Γ.St) := fun s ds =>
  match dec ds with
  | some x => some ⟨R.El, g x, fun _ => s, R.res, R.pl⟩
  | none => none

def specX (ts : List Ty) (R : RTy) (g : ElS ts → Option R.El) : Γ.St → List V → Option (CallX Γ.St) := specG (decS ts) R g

/-- The shapes of arguments: data; a pointer to what stays; a function value with what it captured (a pointer, where the flag is set). -/
inductive ATy where
  | d (ty : Ty)
  | pp (ty : Ty)
  | clo (f : Nat) (caps : List (Bool × Ty))

@[reducible] def CapS : List (Bool × Ty) → Type
  | [] => Unit
  | c :: r => c.2.El × CapS r

@[reducible] def ATy.El : ATy → Type
  | .d ty => ty.El
  | .pp ty => ty.El
  | .clo _ caps => CapS caps

@[reducible] def ElA : List ATy → Type
  | [] => Unit
  | t :: ts => t.El × ElA ts

def encCap : (l : List (Bool × Ty)) → CapS l → List V
  | [], _ => []
  | (b, t) :: r, x => (match b with
    | true => .pp (t.cells x.1)
    | false => t.enc x.1) :: encCap r x.2

def ATy.enc : (t : ATy) → t.El → V
  | .d ty, x => ty.enc x
  | .pp ty, x => .pp (ty.cells x)
  | .clo f caps, x => .clo f (encCap caps x)

def encA : (ts : List ATy) → ElA ts → List V
  | [], _ => []
  | t :: ts, x => t.enc x.1 :: encA ts x.2

def decPP (t : Ty) : V → Option t.El
  | .pp cs => match t.uncells cs with
    | some (x, []) => some x
    | _ => none
  | _ => none

def decCap : (l : List (Bool × Ty)) → List V → Option (CapS l)
  | [], [] => some ()
  | (b, t) :: r, d :: ds => match b with
    | true => match decPP t d with
      | some x => match decCap r ds with
        | some xs => some (x, xs)
        | none => none
      | none => none
    | false => match t.dec d with
      | some x => match decCap r ds with
        | some xs => some (x, xs)
        | none => none
      | none => none
  | _, _ => none

def ATy.dec : (t : ATy) → V → Option t.El
  | .d ty, v => ty.dec v
  | .pp ty, v => decPP ty v
  | .clo f caps, .clo g ds => match Nat.beq g f with
    | true => decCap caps ds
    | false => none
  | .clo _ _, _ => none

def decA : (ts : List ATy) → List V → Option (ElA ts)
  | [], [] => some ()
  | t :: ts, d :: ds => match t.dec d with
    | some x => match decA ts ds with
      | some xs => some (x, xs)
      | none => none
    | none => none
  | _, _ => none

def specA (ts : List ATy) (R : RTy) (g : ElA ts → Option R.El) : Γ.St → List V → Option (CallX Γ.St) := specG (decA ts) R g

def SpecsX.none (Γ : Sig) : SpecsX Γ := fun _ _ _ => Option.none

def SpecsX.add (S : SpecsX Γ) (f : FuncId) (sp : Γ.St → List V → Option (CallX Γ.St)) : SpecsX Γ := fun g s ds =>
  match Nat.beq g f with
  | true => match isBot ds with
    | true => S g s ds
    | false => match sp s ds with
      | .some c => some c
      | .none => S g s ds
  | false => S g s ds

def callS (sp : Γ.St → List V → Option (CallX Γ.St)) : Γ.St → List V → Option (Γ.St × RV) := fun s ds =>
  match sp s ds with
  | some c => c.m.map (fun y => (c.st y, c.res y))
  | none => none

theorem tableX_none : Table Γ P G (SpecsX.none Γ).toS := by
  have : (SpecsX.none Γ).toS = noSpecs Γ := by funext f s ds; rfl
  grind [table_none]

theorem tableX_add {S : SpecsX Γ} (hS : Table Γ P G S.toS) {f : FuncId} {sp : Γ.St → List V → Option (CallX Γ.St)} (hi : isFn P f = true) (h : FnOk Γ P G f (callS sp)) : Table Γ P G (S.add f sp).toS := by
  have e0 : ∀ s ds, isBot ds = true → (S.add f sp).toS f s ds = S.toS f s ds := by
    grind [Nat.beq_refl, SpecsX.toS, SpecsX.add]
  have e1 : ∀ s ds, isBot ds = false → (S.add f sp).toS f s ds = if (sp s ds).isSome then callS sp s ds else S.toS f s ds := by
    grind [Nat.beq_refl, SpecsX.toS, SpecsX.add, callS]
  have e2 : ∀ g, g ≠ f → (S.add f sp).toS g = S.toS g := by
    grind [Nat.eq_of_beq_eq_true, absurd, SpecsX.toS, SpecsX.add]
  have hnf : ∀ k, P.funcs[k]? = none → k ≠ f := by
    rintro k hk rfl
    grind [isFn]
  refine ⟨?_, ?_, fun hno st q t ys bytes st' d h => hS.app hno st q t ys bytes st' d (by simp_all), ?_⟩
  · intro g
    by_cases hg : g = f
    · subst hg
      intro w F O s args ds s' r a1 a2 a3 a4 a5 a6
      cases hb : isBot ds with
      | true =>
        rw [e0 s ds hb] at a6
        exact hS.ok g w F O s args ds s' r a1 a2 a3 a4 a5 a6
      | false =>
        rw [e1 s ds hb] at a6
        split at a6
        · exact h w F O s args ds s' r a1 a2 a3 a4 a5 a6
        · exact hS.ok g w F O s args ds s' r a1 a2 a3 a4 a5 a6
    · rw [e2 g hg]; exact hS.ok g
  · intro g s ds r hr hbot
    by_cases hg : g = f
    · subst hg
      unfold isFn at hi
      grind
    · rw [e2 g hg] at hr; exact hS.is g s ds r hr hbot
  · intro g st t xs ds st' ys d h
    by_cases hg : g = f
    · subst hg; rw [e0 _ _ rfl] at h; exact hS.bor g st t xs ds st' ys d h
    · rw [e2 g hg] at h; exact hS.bor g st t xs ds st' ys d h

theorem WkV.pp {xs ys : List V} (h : WkVs xs ys) : WkV (.pp xs) (.pp ys) := by
  intro w F v hr
  cases hr with
  | pp b off cs g hF hg hr0 =>
    refine .pp b off ys g hF (fun m hm => hg m (by rw [h.len]; exact hm)) ?_
    intro m d hd
    have hlt : m < xs.length := by rw [h.len]; exact (List.getElem?_eq_some_iff.1 hd).1
    exact h.get m xs[m] d (by simp [hlt]) hd w F _ (hr0 m xs[m] (by simp [hlt]))

theorem WkV.clo {f : FuncId} {xs ys : List V} (h : WkVs xs ys) : WkV (.clo f xs) (.clo f ys) := by
  intro w F v hr
  cases hr with
  | clo _ cs ds hl h0 =>
    refine .clo f cs ys (hl.trans h.len) ?_
    intro i x d hi hd
    have hlt : i < xs.length := by rw [h.len]; exact (List.getElem?_eq_some_iff.1 hd).1
    exact h.get i xs[i] d (by simp [hlt]) hd w F x (h0 i x xs[i] hi (by simp [hlt]))

theorem decPP_sound {t : Ty} {d : V} {x : t.El} (h : decPP t d = some x) : WkV d (.pp (t.cells x)) := by
  unfold decPP at h
  grind [Option.some.injEq, uncells_sound, WkV.pp]

theorem decCap_sound : ∀ (l : List (Bool × Ty)) (ds : List V) (x : CapS l), decCap l ds = some x → WkVs ds (encCap l x)
  | [], [], _, _ => trivial
  | [], _ :: _, _, h => by simp [decCap] at h
  | _ :: _, [], _, h => by simp [decCap] at h
  | (b, t) :: r, d :: ds, x, h => by
    simp only [decCap] at h
    split at h
    · split at h
      · rename_i y hy
        split at h
        · rename_i ys hys
          simp only [Option.some.injEq] at h
          subst h
          exact ⟨decPP_sound hy, decCap_sound r ds ys hys⟩
        · cases h
      · cases h
    · split at h
      · rename_i y hy
        split at h
        · rename_i ys hys
          simp only [Option.some.injEq] at h
          subst h
          exact ⟨dec_sound hy, decCap_sound r ds ys hys⟩
        · cases h
      · cases h

theorem decA_sound : ∀ (ts : List ATy) (ds : List V) (x : ElA ts), decA ts ds = some x → WkVs ds (encA ts x)
  | [], [], _, _ => trivial
  | [], _ :: _, _, h => by simp [decA] at h
  | _ :: _, [], _, h => by simp [decA] at h
  | t :: ts, d :: ds, x, h => by
    simp only [decA] at h
    split at h
    · rename_i y hy
      split at h
      · rename_i ys hys
        cases h
        refine ⟨?_, decA_sound ts ds ys hys⟩
        cases t with
        | d ty => exact dec_sound (t := ty) (x := y) hy
        | pp ty => exact decPP_sound (t := ty) (x := y) hy
        | clo f caps =>
          cases d with
          | clo g ds0 =>
            simp only [ATy.dec] at hy
            split at hy
            · rename_i hb
              have hb := Nat.eq_of_beq_eq_true hb
              subst hb
              exact WkV.clo (decCap_sound _ _ _ hy)
            · cases hy
          | _ => simp [ATy.dec] at hy
      · cases h
    · cases h

theorem fnOk_exG [Calm Γ] [hsub : Subsingleton Γ.St] {S : SpecsX Γ} {A : Nat → Option JA} (hmix : P.follows .mixedOrders = true) (hS : Table Γ P G S.toS) {f : FuncId} {fn : Func} {c : Code} (hf : P.funcs[f]? = some fn) (hb : fn.body = some c)
    {X : Type} {dec : List V → Option X} {enc : X → List V} (hdec : ∀ ds x, dec ds = some x → WkVs ds (enc x)) {R : RTy} {g : X → Option R.El} (h : ∀ s x, exF (Γ := Γ) P G S A fn c R s (enc x) = g x) : FnOk Γ P G f (callS (specG dec R g)) := by
  refine FnOkW.calm ?_
  intro w F O s args ds s' r hsig hG hF hlen hrd hspec
  simp [callS, specG] at hspec
  split at hspec
  · rename_i cx hcx
    split at hcx
    · rename_i x hx
      cases hcx
      simp only [Option.map_eq_some_iff] at hspec
      obtain ⟨y, hy, hsr⟩ := hspec
      simp at hsr
      obtain ⟨rfl, rfl⟩ := hsr
      have hwk := hdec ds x hx
      have hlen' : args.size = (enc x).length := hlen.trans hwk.len
      have hrd' : ∀ (i : Nat) (u : Value) (d : V), args[i]? = some u → (enc x)[i]? = some d → Rd w F u d := by
        intro i u d hu hd
        have hlt : i < ds.length := by grind
        exact hwk.get i ds[i] d (by simp [hlt]) hd w F u (hrd i u ds[i] hu (by simp [hlt]))
      have hex := h s x
      rw [hy] at hex
      unfold exF at hex
      rw [kEnv_eq] at hex
      obtain ⟨k, e', d, hok, _, hend⟩ := exC_sound (fun _ _ _ => .inl hsub) hmix hS c _ _ _ _ _ hex
      have hk : (k = .normal ∨ k = .ret) ∧ (match evRet (Look.of P) e' fn with
        | some r => R.get r
        | none => none) = some y := by
        cases k with
        | normal => grind
        | ret => grind
        | exit id => cases hend
      obtain ⟨hk, hend⟩ := hk
      split at hend
      · rename_i r' hr'
        refine calls_of_wp hf hb ?_
        have hget : ∀ t, TRel w F ⟨fun _ => 0, fun _ => 0⟩ (fun _ => False) ((args ++ Array.replicate (fn.ntmps - args.size) undef).getD t undef) ((start fn.ntmps s (enc x)).get t) := by
          intro t
          simp [start, startTm, Env.get]
          by_cases ht : t < (enc x).length
          · rw [List.getElem?_append_left (by simpa using ht), Array.getElem?_append_left (by omega)]
            rw [List.getElem?_map, List.getElem?_eq_getElem ht, Array.getElem?_eq_getElem (by omega)]
            exact hrd' t _ _ (by grind) (by simp [ht])
          · rw [List.getElem?_append_right (by grind), Array.getElem?_append_right (by omega), hlen']
            simp
            by_cases h2 : t - (enc x).length < fn.ntmps - (enc x).length
            · rw [List.getElem?_replicate, if_pos h2, Array.getElem?_replicate, if_pos h2]
              exact Rd.val _
            · rw [List.getElem?_replicate, if_neg h2]
              trivial
        have hnovar : ∀ s0, (start fn.ntmps s (enc x)).var s0 = none := by
          grind [start, Env.var]
        have hinv : Inv Γ G w F O { tmps := args ++ Array.replicate (fn.ntmps - args.size) undef, defers := [] } w (start fn.ntmps s (enc x)) := by
          refine Inv.of (F := F) (O := O) (β := ⟨fun _ => 0, fun _ => 0⟩) (al := fun _ => False) ⟨Keep.refl _ w, hsig, fun b hb => .inl hb, fun b hb => ⟨.inl hb, hF b hb⟩, .refl _ _, fun x hx => hx.elim, fun x y hx => hx.elim, fun b n h => by cases h⟩ hG ?_ rfl hget ?_ (fun s h => h.elim)
          all_goals grind [start, startTm]
        refine wp_mono (hok w F O _ w hinv) ?_
        rintro ex a' w' ⟨rfl, hi'⟩
        obtain ⟨v, F', O', h1, h2, h3, h4, h5, h6, h7⟩ := evRet_sim rfl hi' hr'
        have hdf : a'.defers = [] := by obtain ⟨_, _, _, _, _, _, hdf, _⟩ := hi'; exact hdf
        rw [Subsingleton.elim e'.st s] at h2
        obtain ⟨F'', g1, gh, g2, g3⟩ := RTy.get_sound hend h7
        have h2 := Γ.mono h2 gh (fun _ _ => rfl) (fun _ _ h => ⟨g1 _ h, rfl⟩)
        have hF'' : ∀ b : Nat, F'' b → (F b ∨ w.heap.size ≤ b) ∧ b < w'.heap.size ∧ ¬ O' b := by
          grind
        rcases hk with rfl | rfl
        · exact ⟨hdf, v, h1, v, F'', O', rfl, h2, h3, h4, h5.trans (.of_reg g1 gh) (Nat.le_refl _), hF'', g3⟩
        · exact ⟨hdf, v, h1, v, F'', O', rfl, h2, h3, h4, h5.trans (.of_reg g1 gh) (Nat.le_refl _), hF'', g3⟩
      · cases hend
    · cases hcx
  · cases hspec

theorem fnOk_exF [Calm Γ] [hsub : Subsingleton Γ.St] {S : SpecsX Γ} {A : Nat → Option JA} (hmix : P.follows .mixedOrders = true) (hS : Table Γ P G S.toS) {f : FuncId} {fn : Func} {c : Code} (hf : P.funcs[f]? = some fn) (hb : fn.body = some c)
    {ts : List Ty} {R : RTy} {g : ElS ts → Option R.El} (h : ∀ s x, exF (Γ := Γ) P G S A fn c R s (encS ts x) = g x) : FnOk Γ P G f (callS (specX ts R g)) := by
  have := fnOk_exG hmix hS hf hb (decS_sound ts) h
  exact this

theorem fnOk_exA [Calm Γ] [hsub : Subsingleton Γ.St] {S : SpecsX Γ} {A : Nat → Option JA} (hmix : P.follows .mixedOrders = true) (hS : Table Γ P G S.toS) {f : FuncId} {fn : Func} {c : Code} (hf : P.funcs[f]? = some fn) (hb : fn.body = some c)
    {ts : List ATy} {R : RTy} {g : ElA ts → Option R.El} (h : ∀ s x, exF (Γ := Γ) P G S A fn c R s (encA ts x) = g x) : FnOk Γ P G f (callS (specA ts R g)) :=
  fnOk_exG hmix hS hf hb (decA_sound ts) h
end
end Go.Ve

namespace Go.Ve
open Go
set_option maxRecDepth 1000000
noncomputable def ref4_letter : ElS [(.int .u8)] → Option (RTy.El (.p .bool)) := fun x => match x with | (a1, ()) => Option.bind (bif decide (a1 ≥ (97 : Int)) then bif decide (a1 ≤ (122 : Int)) then some true else bif decide (a1 ≥ (65 : Int)) then some (decide (a1 ≤ (90 : Int))) else some false else bif decide (a1 ≥ (65 : Int)) then some (decide (a1 ≤ (90 : Int))) else some false) fun (s0 : Bool) => some s0
noncomputable def ref4_Name : ElS [.str] → Option (RTy.El (.p .bool)) := fun x => match x with | (a1, ()) => Option.bind (bif decide ((↑(ByteArray.size a1) : Int) < (1 : Int)) then some true else bif decide ((↑(ByteArray.size a1) : Int) > (15 : Int)) then some true else Option.bind (byteAt a1 (0 : Int)) fun (y2 : Int) => Option.bind (ref4_letter (y2, ())) fun (y3 : Bool) => some !y3) fun (s4 : Bool) => bif s4 then some false else cut2 (loopX (fun (s14 : Int) => bif decide (s14 < (↑(ByteArray.size a1) : Int)) then Option.bind (byteAt a1 s14) fun (y15 : Int) => Option.bind (Option.bind (ref4_letter (y15, ())) fun (y16 : Bool) => bif !y16 then bif decide (y15 ≥ (48 : Int)) then bif !decide (y15 ≤ (57 : Int)) then bif y15 != (45 : Int) then bif y15 != (95 : Int) then bif y15 != (47 : Int) then some (y15 != (46 : Int)) else some false else some false else some false else some false else bif y15 != (45 : Int) then bif y15 != (95 : Int) then bif y15 != (47 : Int) then some (y15 != (46 : Int)) else some false else some false else some false else some false) fun (s17 : Bool) => bif s17 then some (Sum.inr (Sum.inr false)) else some (Sum.inl (IntKind.wrap IntKind.i64 (s14 + (1 : Int)))) else some (Sum.inr (Sum.inl ()))) (1 : Int)) fun (s18 : Unit) => some true
noncomputable def ref8_within : ElS [tI, tI, tI] → Option (RTy.El (.p .bool)) := fun x => match x with | (a1, a2, a3, ()) => Option.bind (bif decide (a2 ≤ a1) then some (decide (a1 ≤ a3)) else some false) fun (s0 : Bool) => some s0
noncomputable def ref4_Mask : ElS [tI] → Option (RTy.El (.p tU)) := fun x => match x with | (a1, ()) => Option.bind (loopX (fun (s4 : Int × Int) => bif decide (s4.fst < (32 : Int)) then Option.bind (bif decide (s4.fst < a1) then bif decide ((0 : Int) ≤ IntKind.wrap IntKind.u64 (IntKind.wrap IntKind.i64 ((31 : Int) - s4.fst))) then some (IntKind.wrap IntKind.u32 (↑(BitVec.toNat (BitVec.ofInt (IntKind.bits IntKind.u32) s4.snd ||| BitVec.ofInt (IntKind.bits IntKind.u32) (IntKind.wrap IntKind.u32 ((1 : Int) * (2 : Int) ^ min (Int.toNat (IntKind.wrap IntKind.u64 (IntKind.wrap IntKind.i64 ((31 : Int) - s4.fst)))) (IntKind.bits IntKind.u32))))) : Int)) else none else some s4.snd) fun (s5 : Int) => some (Sum.inl (IntKind.wrap IntKind.i64 (s4.fst + (1 : Int)), s5)) else some (Sum.inr s4.snd)) ((0 : Int), (0 : Int))) fun (s6 : Int) => some s6
noncomputable def ref4_Network : ElS [tU, tI] → Option (RTy.El (.p tPrefix)) := fun x => match x with | (a1, a2, ()) => Option.bind (ref4_Mask (if (0 : Int) > if (32 : Int) < a2 then (32 : Int) else a2 then (0 : Int) else if (32 : Int) < a2 then (32 : Int) else a2, ())) fun (y0 : Int) => some (IntKind.wrap IntKind.u32 (↑(BitVec.toNat (BitVec.ofInt (IntKind.bits IntKind.u32) a1 &&& BitVec.ofInt (IntKind.bits IntKind.u32) y0)) : Int), if (0 : Int) > if (32 : Int) < a2 then (32 : Int) else a2 then (0 : Int) else if (32 : Int) < a2 then (32 : Int) else a2, ())
noncomputable def ref4_Contains : ElS [tPrefix, tU] → Option (RTy.El (.p .bool)) := fun x => match x with | (a1, a2, ()) => Option.bind (ref4_Mask (a1.snd.fst, ())) fun (y1 : Int) => some (IntKind.wrap IntKind.u32 (↑(BitVec.toNat (BitVec.ofInt (IntKind.bits IntKind.u32) a2 &&& BitVec.ofInt (IntKind.bits IntKind.u32) y1)) : Int) == a1.fst)
noncomputable def ref4_Covers : ElS [tPrefix, tPrefix] → Option (RTy.El (.p .bool)) := fun x => match x with | (a1, a2, ()) => Option.bind (bif decide (a1.snd.fst ≤ a2.snd.fst) then Option.bind (ref4_Contains (a1, a2.fst, ())) fun (y1 : Bool) => some y1 else some false) fun (s2 : Bool) => some s2
noncomputable def ref4_Overlaps : ElS [tPrefix, tPrefix] → Option (RTy.El (.p .bool)) := fun x => match x with | (a1, a2, ()) => Option.bind (Option.bind (ref4_Covers (a1, a2, ())) fun (y2 : Bool) => bif y2 then some true else Option.bind (ref4_Covers (a2, a1, ())) fun (y3 : Bool) => some y3) fun (s4 : Bool) => some s4
noncomputable def ref8_interfaces : ElS [(.sl tIface)] → Option (RTy.El (.p tI)) := fun x => match x with | (a1, ()) => bif decide ((↑(List.length a1) : Int) > (8 : Int)) then some (7 : Int) else cut2 (loopX (fun (s164 : Int) => bif decide (s164 < (↑(List.length a1) : Int)) then cut2 (Option.bind (idx a1 s164) fun (y165 : Ty.El tIface) => Option.bind (ref4_Name (y165.fst, ())) fun (y166 : Bool) => bif !y166 then some (Sum.inr (Sum.inr (Sum.inr (3 : Int)))) else cut2 (loopX (fun (s167 : Int) => bif decide (s167 < s164) then Option.bind (idx a1 s167) fun (y168 : Ty.El tIface) => bif y168.fst == y165.fst then some (Sum.inr (Sum.inr (Sum.inr (Sum.inr (Sum.inr (4 : Int)))))) else some (Sum.inl (IntKind.wrap IntKind.i64 (s167 + (1 : Int)))) else some (Sum.inr (Sum.inl ()))) (0 : Int)) fun (s169 : Unit) => Option.bind (Option.bind (ref8_within (y165.snd.snd.fst, (0 : Int), (32 : Int), ())) fun (y170 : Bool) => bif !y170 then some true else Option.bind (ref8_within (y165.snd.snd.snd.fst, (0 : Int), (4094 : Int), ())) fun (y171 : Bool) => bif !y171 then some true else Option.bind (ref8_within (y165.snd.snd.snd.snd.snd.snd.snd.snd.snd.snd.snd.fst, (0 : Int), (2 : Int), ())) fun (y172 : Bool) => some !y172) fun (s173 : Bool) => bif s173 then some (Sum.inr (Sum.inr (Sum.inr (1 : Int)))) else Option.bind (bif y165.snd.snd.fst == (0 : Int) then bif y165.snd.fst != (0 : Int) then some true else bif y165.snd.snd.snd.fst != (0 : Int) then some true else bif y165.snd.snd.snd.snd.snd.snd.snd.snd.snd.snd.snd.fst != (0 : Int) then some true else bif y165.snd.snd.snd.snd.snd.fst then some true else bif y165.snd.snd.snd.snd.snd.snd.snd.snd.fst then some true else bif y165.snd.snd.snd.snd.snd.snd.snd.snd.snd.fst != { data := #[] } then some true else bif y165.snd.snd.snd.snd.snd.snd.snd.snd.snd.snd.fst != { data := #[] } then some true else bif y165.snd.snd.fst != (0 : Int) then some (y165.snd.fst == (0 : Int)) else some false else bif y165.snd.snd.fst != (0 : Int) then some (y165.snd.fst == (0 : Int)) else some false) fun (s174 : Bool) => bif s174 then some (Sum.inr (Sum.inr (Sum.inr (1 : Int)))) else Option.bind (bif y165.snd.snd.snd.snd.snd.fst then Option.bind (ref8_within (y165.snd.snd.snd.snd.snd.snd.fst, (0 : Int), (255 : Int), ())) fun (y175 : Bool) => bif !y175 then some true else Option.bind (ref8_within (y165.snd.snd.snd.snd.snd.snd.snd.fst, (1 : Int), (65535 : Int), ())) fun (y176 : Bool) => bif !y176 then some true else bif !y165.snd.snd.snd.snd.snd.fst then bif y165.snd.snd.snd.snd.snd.snd.fst != (0 : Int) then some true else some (y165.snd.snd.snd.snd.snd.snd.snd.fst != (0 : Int)) else some false else bif !y165.snd.snd.snd.snd.snd.fst then bif y165.snd.snd.snd.snd.snd.snd.fst != (0 : Int) then some true else some (y165.snd.snd.snd.snd.snd.snd.snd.fst != (0 : Int)) else some false) fun (s177 : Bool) => bif s177 then some (Sum.inr (Sum.inr (Sum.inr (1 : Int)))) else loopX (fun (s178 : Int) => bif decide (s178 < s164) then Option.bind (bif y165.snd.snd.fst != (0 : Int) then Option.bind (idx a1 s178) fun (y179 : Ty.El tIface) => bif y179.snd.snd.fst != (0 : Int) then Option.bind (ref4_Network (y165.snd.fst, y165.snd.snd.fst, ())) fun (y180 : Int × Int × Unit) => Option.bind (idx a1 s178) fun (y181 : Ty.El tIface) => Option.bind (idx a1 s178) fun (y182 : Ty.El tIface) => Option.bind (ref4_Network (y181.snd.fst, y182.snd.snd.fst, ())) fun (y183 : Int × Int × Unit) => Option.bind (ref4_Overlaps (y180, y183, ())) fun (y184 : Bool) => some y184 else some false else some false) fun (s185 : Bool) => bif s185 then some (Sum.inr (Sum.inr (Sum.inr (Sum.inr (6 : Int))))) else some (Sum.inl (IntKind.wrap IntKind.i64 (s178 + (1 : Int)))) else some (Sum.inr (Sum.inl ()))) (0 : Int)) fun (s186 : Unit) => some (Sum.inl (IntKind.wrap IntKind.i64 (s164 + (1 : Int)))) else some (Sum.inr (Sum.inl ()))) (0 : Int)) fun (s187 : Unit) => some (0 : Int)
noncomputable def ref4_Valid : ElS [tPrefix] → Option (RTy.El (.p .bool)) := fun x => match x with | (a1, ()) => Option.bind (bif decide (a1.snd.fst ≥ (0 : Int)) then bif decide (a1.snd.fst ≤ (32 : Int)) then Option.bind (ref4_Mask (a1.snd.fst, ())) fun (y2 : Int) => some (IntKind.wrap IntKind.u32 (↑(BitVec.toNat (BitVec.ofInt (IntKind.bits IntKind.u32) a1.fst &&& ~~~BitVec.ofInt (IntKind.bits IntKind.u32) y2)) : Int) == (0 : Int)) else some false else some false) fun (s3 : Bool) => some s3
noncomputable def ref8_ValidPrefixRule : ElS [tPRule] → Option (RTy.El (.p .bool)) := fun x => match x with | (a1, ()) => Option.bind (Option.bind (ref4_Valid (a1.snd.fst, ())) fun (y1 : Bool) => bif y1 then bif decide (a1.snd.fst.snd.fst ≤ a1.snd.snd.fst) then bif decide (a1.snd.snd.fst ≤ a1.snd.snd.snd.fst) then some (decide (a1.snd.snd.snd.fst ≤ (32 : Int))) else some false else some false else some false) fun (s2 : Bool) => some s2
noncomputable def ref8_prefixLists : ElS [(.sl tPList)] → Option (RTy.El (.p tI)) := fun x => match x with | (a1, ()) => bif decide ((↑(List.length a1) : Int) > (8 : Int)) then some (7 : Int) else cut2 (loopX (fun (s56 : Int) => bif decide (s56 < (↑(List.length a1) : Int)) then cut2 (Option.bind (idx a1 s56) fun (y57 : Ty.El tPList) => Option.bind (ref4_Name (y57.fst, ())) fun (y58 : Bool) => bif !y58 then some (Sum.inr (Sum.inr (Sum.inr (3 : Int)))) else cut2 (loopX (fun (s59 : Int) => bif decide (s59 < s56) then Option.bind (idx a1 s59) fun (y60 : Ty.El tPList) => Option.bind (idx a1 s56) fun (y61 : Ty.El tPList) => bif y60.fst == y61.fst then some (Sum.inr (Sum.inr (Sum.inr (Sum.inr (Sum.inr (4 : Int)))))) else some (Sum.inl (IntKind.wrap IntKind.i64 (s59 + (1 : Int)))) else some (Sum.inr (Sum.inl ()))) (0 : Int)) fun (s62 : Unit) => Option.bind (idx a1 s56) fun (y63 : Ty.El tPList) => bif (↑(List.length y63.snd.fst) : Int) == (0 : Int) then some (Sum.inr (Sum.inr (Sum.inr (1 : Int)))) else Option.bind (idx a1 s56) fun (y64 : Ty.El tPList) => bif decide ((↑(List.length y64.snd.fst) : Int) > (16 : Int)) then some (Sum.inr (Sum.inr (Sum.inr (7 : Int)))) else loopX (fun (s65 : Int) => Option.bind (idx a1 s56) fun (y66 : Ty.El tPList) => bif decide (s65 < (↑(List.length y66.snd.fst) : Int)) then Option.bind (idx a1 s56) fun (y67 : Ty.El tPList) => Option.bind (idx y67.snd.fst s65) fun (y68 : Ty.El tPRule) => Option.bind (ref8_ValidPrefixRule (y68, ())) fun (y69 : Bool) => bif !y69 then some (Sum.inr (Sum.inr (Sum.inr (Sum.inr (1 : Int))))) else some (Sum.inl (IntKind.wrap IntKind.i64 (s65 + (1 : Int)))) else some (Sum.inr (Sum.inl ()))) (0 : Int)) fun (s70 : Unit) => some (Sum.inl (IntKind.wrap IntKind.i64 (s56 + (1 : Int)))) else some (Sum.inr (Sum.inl ()))) (0 : Int)) fun (s71 : Unit) => some (0 : Int)
noncomputable def ref8_PrefixList : ElS [tRouter, .str] → Option (RTy.El (.p tI)) := fun x => match x with | (a1, a2, ()) => cut2 (loopX (fun (s4 : Int) => bif decide (s4 < (↑(List.length a1.snd.snd.snd.fst) : Int)) then Option.bind (idx a1.snd.snd.snd.fst s4) fun (y5 : Ty.El tPList) => bif y5.fst == a2 then some (Sum.inr (Sum.inr s4)) else some (Sum.inl (IntKind.wrap IntKind.i64 (s4 + (1 : Int)))) else some (Sum.inr (Sum.inl ()))) (0 : Int)) fun (s6 : Unit) => some (-1 : Int)
noncomputable def ref8_routeMaps : ElS [tRouter] → Option (RTy.El (.p tI)) := fun x => match x with | (a1, ()) => bif decide ((↑(List.length a1.snd.snd.snd.snd.fst) : Int) > (8 : Int)) then some (7 : Int) else cut2 (loopX (fun (s192 : Int) => bif decide (s192 < (↑(List.length a1.snd.snd.snd.snd.fst) : Int)) then cut2 (Option.bind (idx a1.snd.snd.snd.snd.fst s192) fun (y193 : Ty.El tRMap) => Option.bind (ref4_Name (y193.fst, ())) fun (y194 : Bool) => bif !y194 then some (Sum.inr (Sum.inr (Sum.inr (3 : Int)))) else cut2 (loopX (fun (s195 : Int) => bif decide (s195 < s192) then Option.bind (idx a1.snd.snd.snd.snd.fst s195) fun (y196 : Ty.El tRMap) => Option.bind (idx a1.snd.snd.snd.snd.fst s192) fun (y197 : Ty.El tRMap) => bif y196.fst == y197.fst then some (Sum.inr (Sum.inr (Sum.inr (Sum.inr (Sum.inr (4 : Int)))))) else some (Sum.inl (IntKind.wrap IntKind.i64 (s195 + (1 : Int)))) else some (Sum.inr (Sum.inl ()))) (0 : Int)) fun (s198 : Unit) => Option.bind (idx a1.snd.snd.snd.snd.fst s192) fun (y199 : Ty.El tRMap) => bif (↑(List.length y199.snd.fst) : Int) == (0 : Int) then some (Sum.inr (Sum.inr (Sum.inr (1 : Int)))) else Option.bind (idx a1.snd.snd.snd.snd.fst s192) fun (y200 : Ty.El tRMap) => bif decide ((↑(List.length y200.snd.fst) : Int) > (8 : Int)) then some (Sum.inr (Sum.inr (Sum.inr (7 : Int)))) else loopX (fun (s201 : Int) => Option.bind (idx a1.snd.snd.snd.snd.fst s192) fun (y202 : Ty.El tRMap) => bif decide (s201 < (↑(List.length y202.snd.fst) : Int)) then Option.bind (idx a1.snd.snd.snd.snd.fst s192) fun (y203 : Ty.El tRMap) => Option.bind (idx y203.snd.fst s201) fun (y204 : Ty.El tClause) => Option.bind (bif y204.snd.fst != { data := #[] } then Option.bind (ref8_PrefixList (a1, y204.snd.fst, ())) fun (y205 : Int) => some (decide (y205 < (0 : Int))) else some false) fun (s206 : Bool) => bif s206 then some (Sum.inr (Sum.inr (Sum.inr (Sum.inr (5 : Int))))) else Option.bind (Option.bind (ref8_within (y204.snd.snd.fst, (-1 : Int), (65535 : Int), ())) fun (y207 : Bool) => bif !y207 then some true else Option.bind (ref8_within (y204.snd.snd.snd.snd.fst, (-1 : Int), (65535 : Int), ())) fun (y208 : Bool) => bif !y208 then some true else Option.bind (ref8_within (y204.snd.snd.snd.fst, (-1 : Int), (16777215 : Int), ())) fun (y209 : Bool) => bif !y209 then some true else Option.bind (ref8_within (y204.snd.snd.snd.snd.snd.fst, (-1 : Int), (1000000 : Int), ())) fun (y210 : Bool) => bif !y210 then some true else Option.bind (ref8_within (y204.snd.snd.snd.snd.snd.snd.fst, (0 : Int), (8 : Int), ())) fun (y211 : Bool) => some !y211) fun (s212 : Bool) => bif s212 then some (Sum.inr (Sum.inr (Sum.inr (Sum.inr (1 : Int))))) else some (Sum.inl (IntKind.wrap IntKind.i64 (s201 + (1 : Int)))) else some (Sum.inr (Sum.inl ()))) (0 : Int)) fun (s213 : Unit) => some (Sum.inl (IntKind.wrap IntKind.i64 (s192 + (1 : Int)))) else some (Sum.inr (Sum.inl ()))) (0 : Int)) fun (s214 : Unit) => some (0 : Int)
noncomputable def ref8_ports : ElS [tPorts] → Option (RTy.El (.p .bool)) := fun x => match x with | (a1, ()) => Option.bind (bif decide ((0 : Int) ≤ a1.fst) then bif decide (a1.fst ≤ a1.snd.fst) then some (decide (a1.snd.fst ≤ (65535 : Int))) else some false else some false) fun (s0 : Bool) => some s0
noncomputable def ref8_all : ElS [tPorts] → Option (RTy.El (.p .bool)) := fun x => match x with | (a1, ()) => some (a1.fst == (0 : Int) && (a1.snd.fst == (65535 : Int) && true))
noncomputable def ref8_ValidRule : ElS [tRule] → Option (RTy.El (.p .bool)) := fun x => match x with | (a1, ()) => Option.bind (Option.bind (ref8_within (a1.snd.fst, (-1 : Int), (255 : Int), ())) fun (y3 : Bool) => bif !y3 then some true else bif IntKind.wrap IntKind.u32 (↑(BitVec.toNat (BitVec.ofInt (IntKind.bits IntKind.u32) a1.snd.snd.fst.fst &&& BitVec.ofInt (IntKind.bits IntKind.u32) a1.snd.snd.fst.snd.fst)) : Int) != (0 : Int) then some true else bif IntKind.wrap IntKind.u32 (↑(BitVec.toNat (BitVec.ofInt (IntKind.bits IntKind.u32) a1.snd.snd.snd.fst.fst &&& BitVec.ofInt (IntKind.bits IntKind.u32) a1.snd.snd.snd.fst.snd.fst)) : Int) != (0 : Int) then some true else Option.bind (ref8_ports (a1.snd.snd.snd.snd.fst, ())) fun (y4 : Bool) => bif !y4 then some true else Option.bind (ref8_ports (a1.snd.snd.snd.snd.snd.fst, ())) fun (y5 : Bool) => some !y5) fun (s6 : Bool) => bif s6 then some false else Option.bind (bif a1.snd.fst == (6 : Int) then some true else bif a1.snd.fst == (17 : Int) then some true else Option.bind (ref8_all (a1.snd.snd.snd.snd.fst, ())) fun (y9 : Bool) => bif y9 then Option.bind (ref8_all (a1.snd.snd.snd.snd.snd.fst, ())) fun (y10 : Bool) => some y10 else some false) fun (s11 : Bool) => some s11
noncomputable def ref8_accessLists : ElS [(.sl tACL)] → Option (RTy.El (.p tI)) := fun x => match x with | (a1, ()) => bif decide ((↑(List.length a1) : Int) > (8 : Int)) then some (7 : Int) else cut2 (loopX (fun (s56 : Int) => bif decide (s56 < (↑(List.length a1) : Int)) then cut2 (Option.bind (idx a1 s56) fun (y57 : Ty.El tACL) => Option.bind (ref4_Name (y57.fst, ())) fun (y58 : Bool) => bif !y58 then some (Sum.inr (Sum.inr (Sum.inr (3 : Int)))) else cut2 (loopX (fun (s59 : Int) => bif decide (s59 < s56) then Option.bind (idx a1 s59) fun (y60 : Ty.El tACL) => Option.bind (idx a1 s56) fun (y61 : Ty.El tACL) => bif y60.fst == y61.fst then some (Sum.inr (Sum.inr (Sum.inr (Sum.inr (Sum.inr (4 : Int)))))) else some (Sum.inl (IntKind.wrap IntKind.i64 (s59 + (1 : Int)))) else some (Sum.inr (Sum.inl ()))) (0 : Int)) fun (s62 : Unit) => Option.bind (idx a1 s56) fun (y63 : Ty.El tACL) => bif (↑(List.length y63.snd.fst) : Int) == (0 : Int) then some (Sum.inr (Sum.inr (Sum.inr (1 : Int)))) else Option.bind (idx a1 s56) fun (y64 : Ty.El tACL) => bif decide ((↑(List.length y64.snd.fst) : Int) > (16 : Int)) then some (Sum.inr (Sum.inr (Sum.inr (7 : Int)))) else loopX (fun (s65 : Int) => Option.bind (idx a1 s56) fun (y66 : Ty.El tACL) => bif decide (s65 < (↑(List.length y66.snd.fst) : Int)) then Option.bind (idx a1 s56) fun (y67 : Ty.El tACL) => Option.bind (idx y67.snd.fst s65) fun (y68 : Ty.El tRule) => Option.bind (ref8_ValidRule (y68, ())) fun (y69 : Bool) => bif !y69 then some (Sum.inr (Sum.inr (Sum.inr (Sum.inr (1 : Int))))) else some (Sum.inl (IntKind.wrap IntKind.i64 (s65 + (1 : Int)))) else some (Sum.inr (Sum.inl ()))) (0 : Int)) fun (s70 : Unit) => some (Sum.inl (IntKind.wrap IntKind.i64 (s56 + (1 : Int)))) else some (Sum.inr (Sum.inl ()))) (0 : Int)) fun (s71 : Unit) => some (0 : Int)
noncomputable def ref8_ACL : ElS [tRouter, .str] → Option (RTy.El (.p tI)) := fun x => match x with | (a1, a2, ()) => cut2 (loopX (fun (s4 : Int) => bif decide (s4 < (↑(List.length a1.snd.snd.snd.snd.snd.fst) : Int)) then Option.bind (idx a1.snd.snd.snd.snd.snd.fst s4) fun (y5 : Ty.El tACL) => bif y5.fst == a2 then some (Sum.inr (Sum.inr s4)) else some (Sum.inl (IntKind.wrap IntKind.i64 (s4 + (1 : Int)))) else some (Sum.inr (Sum.inl ()))) (0 : Int)) fun (s6 : Unit) => some (-1 : Int)
noncomputable def ref8_translations : ElS [tRouter] → Option (RTy.El (.p tI)) := fun x => match x with | (a1, ()) => bif decide ((↑(List.length a1.snd.snd.snd.snd.snd.snd.fst) : Int) > (8 : Int)) then some (7 : Int) else cut2 (loopX (fun (s60 : Int) => bif decide (s60 < (↑(List.length a1.snd.snd.snd.snd.snd.snd.fst) : Int)) then Option.bind (idx a1.snd.snd.snd.snd.snd.snd.fst s60) fun (y61 : Ty.El tNat) => Option.bind (bif y61.fst == (1 : Int) then Option.bind (bif y61.snd.fst != (0 : Int) then bif y61.snd.snd.fst != (0 : Int) then some (y61.fst == y61.fst && (y61.snd.fst == y61.snd.fst && (y61.snd.snd.fst == y61.snd.snd.fst && (y61.snd.snd.snd.fst == (0 : Int) && (y61.snd.snd.snd.snd.fst == (0 : Int) && (y61.snd.snd.snd.snd.snd.fst == (0 : Int) && (y61.snd.snd.snd.snd.snd.snd.fst == { data := #[] } && (y61.snd.snd.snd.snd.snd.snd.snd.fst == (0 : Int) && (y61.snd.snd.snd.snd.snd.snd.snd.snd.fst == (0 : Int) && true))))))))) else some false else some false) fun (s62 : Bool) => some s62 else bif y61.fst == (2 : Int) then Option.bind (bif y61.snd.snd.snd.snd.snd.snd.snd.fst != (0 : Int) then bif decide (y61.snd.snd.snd.snd.snd.snd.snd.fst ≤ y61.snd.snd.snd.snd.snd.snd.snd.snd.fst) then bif decide (IntKind.wrap IntKind.u32 (y61.snd.snd.snd.snd.snd.snd.snd.snd.fst - y61.snd.snd.snd.snd.snd.snd.snd.fst) < (8 : Int)) then some (y61.fst == y61.fst && (y61.snd.fst == (0 : Int) && (y61.snd.snd.fst == (0 : Int) && (y61.snd.snd.snd.fst == (0 : Int) && (y61.snd.snd.snd.snd.fst == (0 : Int) && (y61.snd.snd.snd.snd.snd.fst == (0 : Int) && (y61.snd.snd.snd.snd.snd.snd.fst == y61.snd.snd.snd.snd.snd.snd.fst && (y61.snd.snd.snd.snd.snd.snd.snd.fst == y61.snd.snd.snd.snd.snd.snd.snd.fst && (y61.snd.snd.snd.snd.snd.snd.snd.snd.fst == y61.snd.snd.snd.snd.snd.snd.snd.snd.fst && true))))))))) else some false else some false else some false) fun (s63 : Bool) => some s63 else bif y61.fst == (3 : Int) then Option.bind (bif y61.snd.fst != (0 : Int) then bif y61.snd.snd.fst != (0 : Int) then bif y61.snd.snd.snd.fst == (6 : Int) then Option.bind (ref8_within (y61.snd.snd.snd.snd.fst, (0 : Int), (65535 : Int), ())) fun (y64 : Bool) => bif y64 then Option.bind (ref8_within (y61.snd.snd.snd.snd.snd.fst, (0 : Int), (65535 : Int), ())) fun (y65 : Bool) => bif y65 then bif y61.snd.snd.snd.snd.snd.snd.fst == { data := #[] } then bif y61.snd.snd.snd.snd.snd.snd.snd.fst == (0 : Int) then some (y61.snd.snd.snd.snd.snd.snd.snd.snd.fst == (0 : Int)) else some false else some false else some false else some false else bif y61.snd.snd.snd.fst == (17 : Int) then Option.bind (ref8_within (y61.snd.snd.snd.snd.fst, (0 : Int), (65535 : Int), ())) fun (y66 : Bool) => bif y66 then Option.bind (ref8_within (y61.snd.snd.snd.snd.snd.fst, (0 : Int), (65535 : Int), ())) fun (y67 : Bool) => bif y67 then bif y61.snd.snd.snd.snd.snd.snd.fst == { data := #[] } then bif y61.snd.snd.snd.snd.snd.snd.snd.fst == (0 : Int) then some (y61.snd.snd.snd.snd.snd.snd.snd.snd.fst == (0 : Int)) else some false else some false else some false else some false else some false else some false else some false) fun (s68 : Bool) => some s68 else some false) fun (s69 : Bool) => bif !s69 then some (Sum.inr (Sum.inr (1 : Int))) else Option.bind (bif y61.fst == (2 : Int) then Option.bind (ref8_ACL (a1, y61.snd.snd.snd.snd.snd.snd.fst, ())) fun (y70 : Int) => some (decide (y70 < (0 : Int))) else some false) fun (s71 : Bool) => bif s71 then some (Sum.inr (Sum.inr (5 : Int))) else some (Sum.inl (IntKind.wrap IntKind.i64 (s60 + (1 : Int)))) else some (Sum.inr (Sum.inl ()))) (0 : Int)) fun (s72 : Unit) => some (0 : Int)
noncomputable def ref8_filters : ElS [tRouter] → Option (RTy.El (.p tI)) := fun x => match x with | (a1, ()) => cut2 (loopX (fun (s24 : Int) => bif decide (s24 < (↑(List.length a1.snd.snd.fst) : Int)) then Option.bind (idx a1.snd.snd.fst s24) fun (y25 : Ty.El tIface) => Option.bind (bif y25.snd.snd.snd.snd.snd.snd.snd.snd.snd.fst != { data := #[] } then Option.bind (ref8_ACL (a1, y25.snd.snd.snd.snd.snd.snd.snd.snd.snd.fst, ())) fun (y26 : Int) => bif decide (y26 < (0 : Int)) then some true else bif y25.snd.snd.snd.snd.snd.snd.snd.snd.snd.snd.fst != { data := #[] } then Option.bind (ref8_ACL (a1, y25.snd.snd.snd.snd.snd.snd.snd.snd.snd.snd.fst, ())) fun (y27 : Int) => some (decide (y27 < (0 : Int))) else some false else bif y25.snd.snd.snd.snd.snd.snd.snd.snd.snd.snd.fst != { data := #[] } then Option.bind (ref8_ACL (a1, y25.snd.snd.snd.snd.snd.snd.snd.snd.snd.snd.fst, ())) fun (y28 : Int) => some (decide (y28 < (0 : Int))) else some false) fun (s29 : Bool) => bif s29 then some (Sum.inr (Sum.inr (5 : Int))) else some (Sum.inl (IntKind.wrap IntKind.i64 (s24 + (1 : Int)))) else some (Sum.inr (Sum.inl ()))) (0 : Int)) fun (s30 : Unit) => some (0 : Int)
noncomputable def ref8_Address : ElS [tRouter, tU] → Option (RTy.El (.p tI)) := fun x => match x with | (a1, a2, ()) => cut2 (loopX (fun (s10 : Int) => bif decide (s10 < (↑(List.length a1.snd.snd.fst) : Int)) then Option.bind (Option.bind (idx a1.snd.snd.fst s10) fun (y11 : Ty.El tIface) => bif y11.snd.snd.fst != (0 : Int) then Option.bind (idx a1.snd.snd.fst s10) fun (y12 : Ty.El tIface) => some (y12.snd.fst == a2) else some false) fun (s13 : Bool) => bif s13 then some (Sum.inr (Sum.inr s10)) else some (Sum.inl (IntKind.wrap IntKind.i64 (s10 + (1 : Int)))) else some (Sum.inr (Sum.inl ()))) (0 : Int)) fun (s14 : Unit) => some (-1 : Int)
noncomputable def ref8_Interface : ElS [tRouter, .str] → Option (RTy.El (.p tI)) := fun x => match x with | (a1, a2, ()) => cut2 (loopX (fun (s4 : Int) => bif decide (s4 < (↑(List.length a1.snd.snd.fst) : Int)) then Option.bind (idx a1.snd.snd.fst s4) fun (y5 : Ty.El tIface) => bif y5.fst == a2 then some (Sum.inr (Sum.inr s4)) else some (Sum.inl (IntKind.wrap IntKind.i64 (s4 + (1 : Int)))) else some (Sum.inr (Sum.inl ()))) (0 : Int)) fun (s6 : Unit) => some (-1 : Int)
noncomputable def ref8_statics : ElS [tRouter] → Option (RTy.El (.p tI)) := fun x => match x with | (a1, ()) => bif decide ((↑(List.length a1.snd.snd.snd.snd.snd.snd.snd.fst) : Int) > (16 : Int)) then some (7 : Int) else cut2 (loopX (fun (s126 : Int) => bif decide (s126 < (↑(List.length a1.snd.snd.snd.snd.snd.snd.snd.fst) : Int)) then cut2 (Option.bind (idx a1.snd.snd.snd.snd.snd.snd.snd.fst s126) fun (y127 : Ty.El tStatic) => Option.bind (bif y127.snd.fst != (0 : Int) then some (IntKind.wrap IntKind.i64 ((0 : Int) + (1 : Int))) else some (0 : Int)) fun (s128 : Int) => Option.bind (bif y127.snd.snd.fst != { data := #[] } then some (IntKind.wrap IntKind.i64 (s128 + (1 : Int))) else some s128) fun (s129 : Int) => Option.bind (bif y127.snd.snd.snd.fst then some (IntKind.wrap IntKind.i64 (s129 + (1 : Int))) else some s129) fun (s130 : Int) => Option.bind (Option.bind (ref4_Valid (y127.fst, ())) fun (y131 : Bool) => bif !y131 then some true else bif s130 != (1 : Int) then some true else bif y127.snd.fst != (0 : Int) then Option.bind (ref8_Address (a1, y127.snd.fst, ())) fun (y132 : Int) => bif decide (y132 ≥ (0 : Int)) then some true else Option.bind (ref8_within (y127.snd.snd.snd.snd.fst, (1 : Int), (255 : Int), ())) fun (y133 : Bool) => bif !y133 then some true else Option.bind (ref8_within (y127.snd.snd.snd.snd.snd.fst, (0 : Int), (65535 : Int), ())) fun (y134 : Bool) => some !y134 else Option.bind (ref8_within (y127.snd.snd.snd.snd.fst, (1 : Int), (255 : Int), ())) fun (y135 : Bool) => bif !y135 then some true else Option.bind (ref8_within (y127.snd.snd.snd.snd.snd.fst, (0 : Int), (65535 : Int), ())) fun (y136 : Bool) => some !y136) fun (s137 : Bool) => bif s137 then some (Sum.inr (Sum.inr (Sum.inr (1 : Int)))) else cut2 (bif y127.snd.snd.fst != { data := #[] } then Option.bind (ref8_Interface (a1, y127.snd.snd.fst, ())) fun (y138 : Int) => bif decide (y138 < (0 : Int)) then some (Sum.inr (Sum.inr (Sum.inr (Sum.inr (5 : Int))))) else Option.bind (idx a1.snd.snd.fst y138) fun (y139 : Ty.El tIface) => bif y139.snd.snd.fst == (0 : Int) then some (Sum.inr (Sum.inr (Sum.inr (Sum.inr (1 : Int))))) else some (Sum.inl ()) else some (Sum.inl ())) fun (s140 : Unit) => loopX (fun (s141 : Int) => bif decide (s141 < s126) then Option.bind (Option.bind (idx a1.snd.snd.snd.snd.snd.snd.snd.fst s141) fun (y142 : Ty.El tStatic) => bif y142.fst.fst == y127.fst.fst && (y142.fst.snd.fst == y127.fst.snd.fst && true) then Option.bind (idx a1.snd.snd.snd.snd.snd.snd.snd.fst s141) fun (y143 : Ty.El tStatic) => some (y143.snd.snd.snd.snd.fst == y127.snd.snd.snd.snd.fst) else some false) fun (s144 : Bool) => bif s144 then some (Sum.inr (Sum.inr (Sum.inr (Sum.inr (6 : Int))))) else some (Sum.inl (IntKind.wrap IntKind.i64 (s141 + (1 : Int)))) else some (Sum.inr (Sum.inl ()))) (0 : Int)) fun (s145 : Unit) => some (Sum.inl (IntKind.wrap IntKind.i64 (s126 + (1 : Int)))) else some (Sum.inr (Sum.inl ()))) (0 : Int)) fun (s146 : Unit) => some (0 : Int)
noncomputable def ref8_RouteMap : ElS [tRouter, .str] → Option (RTy.El (.p tI)) := fun x => match x with | (a1, a2, ()) => cut2 (loopX (fun (s4 : Int) => bif decide (s4 < (↑(List.length a1.snd.snd.snd.snd.fst) : Int)) then Option.bind (idx a1.snd.snd.snd.snd.fst s4) fun (y5 : Ty.El tRMap) => bif y5.fst == a2 then some (Sum.inr (Sum.inr s4)) else some (Sum.inl (IntKind.wrap IntKind.i64 (s4 + (1 : Int)))) else some (Sum.inr (Sum.inl ()))) (0 : Int)) fun (s6 : Unit) => some (-1 : Int)
noncomputable def ref8_redistributions : ElS [tRouter, (.sl tRedist), tI, tI, tI] → Option (RTy.El (.p tI)) := fun x => match x with | (a1, a2, a3, a4, a5, ()) => bif decide ((↑(List.length a2) : Int) > (4 : Int)) then some (7 : Int) else cut2 (loopX (fun (s69 : Int) => bif decide (s69 < (↑(List.length a2) : Int)) then cut2 (Option.bind (idx a2 s69) fun (y70 : Ty.El tRedist) => Option.bind (Option.bind (ref8_within (y70.fst, (1 : Int), (5 : Int), ())) fun (y71 : Bool) => bif !y71 then some true else bif y70.fst == a3 then some true else Option.bind (ref8_within (y70.snd.fst, a4, a5, ())) fun (y72 : Bool) => bif !y72 then some true else Option.bind (ref8_within (y70.snd.snd.fst, (0 : Int), (65535 : Int), ())) fun (y73 : Bool) => some !y73) fun (s74 : Bool) => bif s74 then some (Sum.inr (Sum.inr (Sum.inr (1 : Int)))) else Option.bind (bif a3 == (3 : Int) then bif y70.snd.snd.snd.snd.fst != (1 : Int) then bif y70.snd.snd.snd.snd.fst != (2 : Int) then some true else bif a3 != (3 : Int) then some (y70.snd.snd.snd.snd.fst != (0 : Int)) else some false else bif a3 != (3 : Int) then some (y70.snd.snd.snd.snd.fst != (0 : Int)) else some false else bif a3 != (3 : Int) then some (y70.snd.snd.snd.snd.fst != (0 : Int)) else some false) fun (s75 : Bool) => bif s75 then some (Sum.inr (Sum.inr (Sum.inr (1 : Int)))) else Option.bind (bif y70.snd.snd.snd.fst != { data := #[] } then Option.bind (ref8_RouteMap (a1, y70.snd.snd.snd.fst, ())) fun (y76 : Int) => some (decide (y76 < (0 : Int))) else some false) fun (s77 : Bool) => bif s77 then some (Sum.inr (Sum.inr (Sum.inr (5 : Int)))) else loopX (fun (s78 : Int) => bif decide (s78 < s69) then Option.bind (idx a2 s78) fun (y79 : Ty.El tRedist) => bif y79.fst == y70.fst then some (Sum.inr (Sum.inr (Sum.inr (Sum.inr (4 : Int))))) else some (Sum.inl (IntKind.wrap IntKind.i64 (s78 + (1 : Int)))) else some (Sum.inr (Sum.inl ()))) (0 : Int)) fun (s80 : Unit) => some (Sum.inl (IntKind.wrap IntKind.i64 (s69 + (1 : Int)))) else some (Sum.inr (Sum.inl ()))) (0 : Int)) fun (s81 : Unit) => some (0 : Int)
noncomputable def ref8_linkState : ElS [tRouter] → Option (RTy.El (.p tI)) := fun x => match x with | (a1, ()) => bif !a1.snd.snd.snd.snd.snd.snd.snd.snd.fst.fst then Option.bind (bif a1.snd.snd.snd.snd.snd.snd.snd.snd.fst.snd.fst != (0 : Int) then some true else bif decide ((↑(List.length a1.snd.snd.snd.snd.snd.snd.snd.snd.fst.snd.snd.fst) : Int) > (0 : Int)) then some true else some (decide ((↑(List.length a1.snd.snd.snd.snd.snd.snd.snd.snd.fst.snd.snd.snd.fst) : Int) > (0 : Int)))) fun (s0 : Bool) => bif s0 then some (1 : Int) else some (0 : Int) else Option.bind (ref8_within (a1.snd.snd.snd.snd.snd.snd.snd.snd.fst.snd.fst, (1 : Int), (255 : Int), ())) fun (y1 : Bool) => bif !y1 then some (1 : Int) else bif decide ((↑(List.length a1.snd.snd.snd.snd.snd.snd.snd.snd.fst.snd.snd.fst) : Int) > (4 : Int)) then some (7 : Int) else cut2 (loopX (fun (s63 : Int) => bif decide (s63 < (↑(List.length a1.snd.snd.snd.snd.snd.snd.snd.snd.fst.snd.snd.fst) : Int)) then cut2 (Option.bind (Option.bind (idx a1.snd.snd.snd.snd.snd.snd.snd.snd.fst.snd.snd.fst s63) fun (y64 : Ty.El tARange) => Option.bind (ref8_within (y64.fst, (0 : Int), (255 : Int), ())) fun (y65 : Bool) => bif !y65 then some true else Option.bind (idx a1.snd.snd.snd.snd.snd.snd.snd.snd.fst.snd.snd.fst s63) fun (y66 : Ty.El tARange) => Option.bind (ref4_Valid (y66.snd.fst, ())) fun (y67 : Bool) => some !y67) fun (s68 : Bool) => bif s68 then some (Sum.inr (Sum.inr (Sum.inr (1 : Int)))) else loopX (fun (s69 : Int) => bif decide (s69 < s63) then Option.bind (Option.bind (idx a1.snd.snd.snd.snd.snd.snd.snd.snd.fst.snd.snd.fst s69) fun (y70 : Ty.El tARange) => Option.bind (idx a1.snd.snd.snd.snd.snd.snd.snd.snd.fst.snd.snd.fst s63) fun (y71 : Ty.El tARange) => bif y70.fst == y71.fst then Option.bind (idx a1.snd.snd.snd.snd.snd.snd.snd.snd.fst.snd.snd.fst s69) fun (y72 : Ty.El tARange) => Option.bind (idx a1.snd.snd.snd.snd.snd.snd.snd.snd.fst.snd.snd.fst s63) fun (y73 : Ty.El tARange) => Option.bind (ref4_Overlaps (y72.snd.fst, y73.snd.fst, ())) fun (y74 : Bool) => some y74 else some false) fun (s75 : Bool) => bif s75 then some (Sum.inr (Sum.inr (Sum.inr (Sum.inr (6 : Int))))) else some (Sum.inl (IntKind.wrap IntKind.i64 (s69 + (1 : Int)))) else some (Sum.inr (Sum.inl ()))) (0 : Int)) fun (s76 : Unit) => some (Sum.inl (IntKind.wrap IntKind.i64 (s63 + (1 : Int)))) else some (Sum.inr (Sum.inl ()))) (0 : Int)) fun (s77 : Unit) => Option.bind (ref8_redistributions (a1, a1.snd.snd.snd.snd.snd.snd.snd.snd.fst.snd.snd.snd.fst, (3 : Int), (0 : Int), (16777215 : Int), ())) fun (y78 : Int) => some y78
noncomputable def ref8_distance : ElS [tRouter] → Option (RTy.El (.p tI)) := fun x => match x with | (a1, ()) => bif !a1.snd.snd.snd.snd.snd.snd.snd.snd.snd.fst.fst then Option.bind (bif a1.snd.snd.snd.snd.snd.snd.snd.snd.snd.fst.snd.fst != (0 : Int) then some true else bif a1.snd.snd.snd.snd.snd.snd.snd.snd.snd.fst.snd.snd.fst != { data := #[] } then some true else bif a1.snd.snd.snd.snd.snd.snd.snd.snd.snd.fst.snd.snd.snd.fst != { data := #[] } then some true else some (decide ((↑(List.length a1.snd.snd.snd.snd.snd.snd.snd.snd.snd.fst.snd.snd.snd.snd.fst) : Int) > (0 : Int)))) fun (s0 : Bool) => bif s0 then some (1 : Int) else some (0 : Int) else Option.bind (ref8_within (a1.snd.snd.snd.snd.snd.snd.snd.snd.snd.fst.snd.fst, (1 : Int), (255 : Int), ())) fun (y1 : Bool) => bif !y1 then some (1 : Int) else Option.bind (bif a1.snd.snd.snd.snd.snd.snd.snd.snd.snd.fst.snd.snd.fst != { data := #[] } then Option.bind (ref8_PrefixList (a1, a1.snd.snd.snd.snd.snd.snd.snd.snd.snd.fst.snd.snd.fst, ())) fun (y5 : Int) => bif decide (y5 < (0 : Int)) then some true else bif a1.snd.snd.snd.snd.snd.snd.snd.snd.snd.fst.snd.snd.snd.fst != { data := #[] } then Option.bind (ref8_PrefixList (a1, a1.snd.snd.snd.snd.snd.snd.snd.snd.snd.fst.snd.snd.snd.fst, ())) fun (y6 : Int) => some (decide (y6 < (0 : Int))) else some false else bif a1.snd.snd.snd.snd.snd.snd.snd.snd.snd.fst.snd.snd.snd.fst != { data := #[] } then Option.bind (ref8_PrefixList (a1, a1.snd.snd.snd.snd.snd.snd.snd.snd.snd.fst.snd.snd.snd.fst, ())) fun (y7 : Int) => some (decide (y7 < (0 : Int))) else some false) fun (s8 : Bool) => bif s8 then some (5 : Int) else Option.bind (ref8_redistributions (a1, a1.snd.snd.snd.snd.snd.snd.snd.snd.snd.fst.snd.snd.snd.snd.fst, (4 : Int), (1 : Int), (15 : Int), ())) fun (y9 : Int) => some y9
noncomputable def ref8_neighbors : ElS [tRouter] → Option (RTy.El (.p tI)) := fun x => match x with | (a1, ()) => bif decide ((↑(List.length a1.snd.snd.snd.snd.snd.snd.snd.snd.snd.snd.fst.snd.snd.snd.fst) : Int) > (8 : Int)) then some (7 : Int) else cut2 (loopX (fun (s81 : Int) => bif decide (s81 < (↑(List.length a1.snd.snd.snd.snd.snd.snd.snd.snd.snd.snd.fst.snd.snd.snd.fst) : Int)) then cut2 (Option.bind (Option.bind (idx a1.snd.snd.snd.snd.snd.snd.snd.snd.snd.snd.fst.snd.snd.snd.fst s81) fun (y82 : Ty.El tNeighbor) => bif y82.fst == (0 : Int) then some true else Option.bind (idx a1.snd.snd.snd.snd.snd.snd.snd.snd.snd.snd.fst.snd.snd.snd.fst s81) fun (y83 : Ty.El tNeighbor) => Option.bind (ref8_within (y83.snd.fst, (1 : Int), (65535 : Int), ())) fun (y84 : Bool) => some !y84) fun (s85 : Bool) => bif s85 then some (Sum.inr (Sum.inr (Sum.inr (1 : Int)))) else Option.bind (Option.bind (idx a1.snd.snd.snd.snd.snd.snd.snd.snd.snd.snd.fst.snd.snd.snd.fst s81) fun (y86 : Ty.El tNeighbor) => bif y86.snd.snd.fst != { data := #[] } then Option.bind (idx a1.snd.snd.snd.snd.snd.snd.snd.snd.snd.snd.fst.snd.snd.snd.fst s81) fun (y87 : Ty.El tNeighbor) => Option.bind (ref8_RouteMap (a1, y87.snd.snd.fst, ())) fun (y88 : Int) => bif decide (y88 < (0 : Int)) then some true else Option.bind (idx a1.snd.snd.snd.snd.snd.snd.snd.snd.snd.snd.fst.snd.snd.snd.fst s81) fun (y89 : Ty.El tNeighbor) => bif y89.snd.snd.snd.fst != { data := #[] } then Option.bind (idx a1.snd.snd.snd.snd.snd.snd.snd.snd.snd.snd.fst.snd.snd.snd.fst s81) fun (y90 : Ty.El tNeighbor) => Option.bind (ref8_RouteMap (a1, y90.snd.snd.snd.fst, ())) fun (y91 : Int) => some (decide (y91 < (0 : Int))) else some false else Option.bind (idx a1.snd.snd.snd.snd.snd.snd.snd.snd.snd.snd.fst.snd.snd.snd.fst s81) fun (y92 : Ty.El tNeighbor) => bif y92.snd.snd.snd.fst != { data := #[] } then Option.bind (idx a1.snd.snd.snd.snd.snd.snd.snd.snd.snd.snd.fst.snd.snd.snd.fst s81) fun (y93 : Ty.El tNeighbor) => Option.bind (ref8_RouteMap (a1, y93.snd.snd.snd.fst, ())) fun (y94 : Int) => some (decide (y94 < (0 : Int))) else some false) fun (s95 : Bool) => bif s95 then some (Sum.inr (Sum.inr (Sum.inr (5 : Int)))) else loopX (fun (s96 : Int) => bif decide (s96 < s81) then Option.bind (idx a1.snd.snd.snd.snd.snd.snd.snd.snd.snd.snd.fst.snd.snd.snd.fst s96) fun (y97 : Ty.El tNeighbor) => Option.bind (idx a1.snd.snd.snd.snd.snd.snd.snd.snd.snd.snd.fst.snd.snd.snd.fst s81) fun (y98 : Ty.El tNeighbor) => bif y97.fst == y98.fst then some (Sum.inr (Sum.inr (Sum.inr (Sum.inr (4 : Int))))) else some (Sum.inl (IntKind.wrap IntKind.i64 (s96 + (1 : Int)))) else some (Sum.inr (Sum.inl ()))) (0 : Int)) fun (s99 : Unit) => some (Sum.inl (IntKind.wrap IntKind.i64 (s81 + (1 : Int)))) else some (Sum.inr (Sum.inl ()))) (0 : Int)) fun (s100 : Unit) => some (0 : Int)
noncomputable def ref8_originations : ElS [tPV] → Option (RTy.El (.p tI)) := fun x => match x with | (a1, ()) => bif decide ((↑(List.length a1.snd.snd.snd.snd.fst) : Int) > (8 : Int)) then some (7 : Int) else cut2 (loopX (fun (s24 : Int) => bif decide (s24 < (↑(List.length a1.snd.snd.snd.snd.fst) : Int)) then cut2 (Option.bind (idx a1.snd.snd.snd.snd.fst s24) fun (y25 : Ty.El tPrefix) => Option.bind (ref4_Valid (y25, ())) fun (y26 : Bool) => bif !y26 then some (Sum.inr (Sum.inr (Sum.inr (1 : Int)))) else loopX (fun (s27 : Int) => bif decide (s27 < s24) then Option.bind (idx a1.snd.snd.snd.snd.fst s27) fun (y28 : Ty.El tPrefix) => Option.bind (idx a1.snd.snd.snd.snd.fst s24) fun (y29 : Ty.El tPrefix) => bif y28.fst == y29.fst && (y28.snd.fst == y29.snd.fst && true) then some (Sum.inr (Sum.inr (Sum.inr (Sum.inr (4 : Int))))) else some (Sum.inl (IntKind.wrap IntKind.i64 (s27 + (1 : Int)))) else some (Sum.inr (Sum.inl ()))) (0 : Int)) fun (s30 : Unit) => some (Sum.inl (IntKind.wrap IntKind.i64 (s24 + (1 : Int)))) else some (Sum.inr (Sum.inl ()))) (0 : Int)) fun (s31 : Unit) => bif decide ((↑(List.length a1.snd.snd.snd.snd.snd.fst) : Int) > (8 : Int)) then some (7 : Int) else cut2 (loopX (fun (s56 : Int) => bif decide (s56 < (↑(List.length a1.snd.snd.snd.snd.snd.fst) : Int)) then cut2 (Option.bind (idx a1.snd.snd.snd.snd.snd.fst s56) fun (y57 : Ty.El tAggregate) => Option.bind (ref4_Valid (y57.fst, ())) fun (y58 : Bool) => bif !y58 then some (Sum.inr (Sum.inr (Sum.inr (1 : Int)))) else loopX (fun (s59 : Int) => bif decide (s59 < s56) then Option.bind (idx a1.snd.snd.snd.snd.snd.fst s59) fun (y60 : Ty.El tAggregate) => Option.bind (idx a1.snd.snd.snd.snd.snd.fst s56) fun (y61 : Ty.El tAggregate) => bif y60.fst.fst == y61.fst.fst && (y60.fst.snd.fst == y61.fst.snd.fst && true) then some (Sum.inr (Sum.inr (Sum.inr (Sum.inr (4 : Int))))) else some (Sum.inl (IntKind.wrap IntKind.i64 (s59 + (1 : Int)))) else some (Sum.inr (Sum.inl ()))) (0 : Int)) fun (s62 : Unit) => some (Sum.inl (IntKind.wrap IntKind.i64 (s56 + (1 : Int)))) else some (Sum.inr (Sum.inl ()))) (0 : Int)) fun (s63 : Unit) => bif decide ((↑(List.length a1.snd.snd.snd.snd.snd.snd.fst) : Int) > (8 : Int)) then some (7 : Int) else cut2 (loopX (fun (s109 : Int) => bif decide (s109 < (↑(List.length a1.snd.snd.snd.snd.snd.snd.fst) : Int)) then cut2 (Option.bind (idx a1.snd.snd.snd.snd.snd.snd.fst s109) fun (y110 : Ty.El tCondition) => Option.bind (Option.bind (ref4_Valid (y110.fst, ())) fun (y111 : Bool) => bif !y111 then some true else Option.bind (ref4_Valid (y110.snd.fst, ())) fun (y112 : Bool) => some !y112) fun (s113 : Bool) => bif s113 then some (Sum.inr (Sum.inr (Sum.inr (1 : Int)))) else bif y110.fst.fst == y110.snd.fst.fst && (y110.fst.snd.fst == y110.snd.fst.snd.fst && true) then some (Sum.inr (Sum.inr (Sum.inr (6 : Int)))) else loopX (fun (s114 : Int) => bif decide (s114 < s109) then Option.bind (idx a1.snd.snd.snd.snd.snd.snd.fst s114) fun (y115 : Ty.El tCondition) => bif y115.fst.fst == y110.fst.fst && (y115.fst.snd.fst == y110.fst.snd.fst && true) then some (Sum.inr (Sum.inr (Sum.inr (Sum.inr (4 : Int))))) else some (Sum.inl (IntKind.wrap IntKind.i64 (s114 + (1 : Int)))) else some (Sum.inr (Sum.inl ()))) (0 : Int)) fun (s116 : Unit) => some (Sum.inl (IntKind.wrap IntKind.i64 (s109 + (1 : Int)))) else some (Sum.inr (Sum.inl ()))) (0 : Int)) fun (s117 : Unit) => some (0 : Int)
noncomputable def ref8_pathVector : ElS [tRouter] → Option (RTy.El (.p tI)) := fun x => match x with | (a1, ()) => bif !a1.snd.snd.snd.snd.snd.snd.snd.snd.snd.snd.fst.fst then Option.bind (bif a1.snd.snd.snd.snd.snd.snd.snd.snd.snd.snd.fst.snd.fst != (0 : Int) then some true else bif a1.snd.snd.snd.snd.snd.snd.snd.snd.snd.snd.fst.snd.snd.fst != (0 : Int) then some true else some (decide (IntKind.wrap IntKind.i64 (IntKind.wrap IntKind.i64 (IntKind.wrap IntKind.i64 (IntKind.wrap IntKind.i64 ((↑(List.length a1.snd.snd.snd.snd.snd.snd.snd.snd.snd.snd.fst.snd.snd.snd.fst) : Int) + (↑(List.length a1.snd.snd.snd.snd.snd.snd.snd.snd.snd.snd.fst.snd.snd.snd.snd.fst) : Int)) + (↑(List.length a1.snd.snd.snd.snd.snd.snd.snd.snd.snd.snd.fst.snd.snd.snd.snd.snd.fst) : Int)) + (↑(List.length a1.snd.snd.snd.snd.snd.snd.snd.snd.snd.snd.fst.snd.snd.snd.snd.snd.snd.fst) : Int)) + (↑(List.length a1.snd.snd.snd.snd.snd.snd.snd.snd.snd.snd.fst.snd.snd.snd.snd.snd.snd.snd.fst) : Int)) > (0 : Int)))) fun (s0 : Bool) => bif s0 then some (1 : Int) else some (0 : Int) else Option.bind (bif a1.snd.fst == (0 : Int) then some true else Option.bind (ref8_within (a1.snd.snd.snd.snd.snd.snd.snd.snd.snd.snd.fst.snd.fst, (1 : Int), (255 : Int), ())) fun (y3 : Bool) => bif !y3 then some true else Option.bind (ref8_within (a1.snd.snd.snd.snd.snd.snd.snd.snd.snd.snd.fst.snd.snd.fst, (1 : Int), (255 : Int), ())) fun (y4 : Bool) => some !y4) fun (s5 : Bool) => bif s5 then some (1 : Int) else Option.bind (ref8_neighbors (a1, ())) fun (y6 : Int) => bif y6 != (0 : Int) then some y6 else Option.bind (ref8_originations (a1.snd.snd.snd.snd.snd.snd.snd.snd.snd.snd.fst, ())) fun (y7 : Int) => bif y7 != (0 : Int) then some y7 else Option.bind (ref8_redistributions (a1, a1.snd.snd.snd.snd.snd.snd.snd.snd.snd.snd.fst.snd.snd.snd.snd.snd.snd.snd.fst, (5 : Int), (0 : Int), (16777215 : Int), ())) fun (y8 : Int) => some y8
noncomputable def ref8_CheckRouter : ElS [tRouter] → Option (RTy.El (.p tI)) := fun x => match x with | (a1, ()) => Option.bind (ref4_Name (a1.fst, ())) fun (y0 : Bool) => bif !y0 then some (3 : Int) else Option.bind (ref8_within (a1.snd.fst, (0 : Int), (65535 : Int), ())) fun (y1 : Bool) => bif !y1 then some (1 : Int) else Option.bind (ref8_interfaces (a1.snd.snd.fst, ())) fun (y12 : Int) => Option.bind (ref8_prefixLists (a1.snd.snd.snd.fst, ())) fun (y13 : Int) => Option.bind (ref8_routeMaps (a1, ())) fun (y14 : Int) => Option.bind (ref8_accessLists (a1.snd.snd.snd.snd.snd.fst, ())) fun (y15 : Int) => Option.bind (ref8_translations (a1, ())) fun (y16 : Int) => Option.bind (ref8_filters (a1, ())) fun (y17 : Int) => Option.bind (ref8_statics (a1, ())) fun (y18 : Int) => Option.bind (ref8_linkState (a1, ())) fun (y19 : Int) => Option.bind (ref8_distance (a1, ())) fun (y20 : Int) => Option.bind (ref8_pathVector (a1, ())) fun (y21 : Int) => cut2 (loopX (fun (s28 : Int) => bif decide (s28 < (↑(List.length [y12, y13, y14, y15, y16, y17, y18, y19, y20, y21]) : Int)) then Option.bind (idx [y12, y13, y14, y15, y16, y17, y18, y19, y20, y21] s28) fun (y29 : Int) => bif y29 != (0 : Int) then Option.bind (idx [y12, y13, y14, y15, y16, y17, y18, y19, y20, y21] s28) fun (y30 : Int) => some (Sum.inr (Sum.inr y30)) else some (Sum.inl (IntKind.wrap IntKind.i64 (s28 + (1 : Int)))) else some (Sum.inr (Sum.inl ()))) (0 : Int)) fun (s31 : Unit) => some (0 : Int)
noncomputable def ref8_Check : ElS [tNetwork] → Option (RTy.El (.p tI)) := fun x => match x with | (a1, ()) => bif decide ((↑(List.length a1.fst) : Int) > (8 : Int)) then some (7 : Int) else cut2 (loopX (fun (s181 : Int) => bif decide (s181 < (↑(List.length a1.fst) : Int)) then cut2 (Option.bind (idx a1.fst s181) fun (y182 : Ty.El tRouter) => Option.bind (ref8_CheckRouter (y182, ())) fun (y183 : Int) => bif y183 != (0 : Int) then some (Sum.inr (Sum.inr (Sum.inr y183))) else cut2 (loopX (fun (s184 : Int) => bif decide (s184 < s181) then Option.bind (idx a1.fst s184) fun (y185 : Ty.El tRouter) => Option.bind (idx a1.fst s181) fun (y186 : Ty.El tRouter) => bif y185.fst == y186.fst then some (Sum.inr (Sum.inr (Sum.inr (Sum.inr (Sum.inr (4 : Int)))))) else some (Sum.inl (IntKind.wrap IntKind.i64 (s184 + (1 : Int)))) else some (Sum.inr (Sum.inl ()))) (0 : Int)) fun (s187 : Unit) => loopX (fun (s188 : Int) => Option.bind (idx a1.fst s181) fun (y189 : Ty.El tRouter) => bif decide (s188 < (↑(List.length y189.snd.snd.fst) : Int)) then cut2 (Option.bind (idx a1.fst s181) fun (y190 : Ty.El tRouter) => Option.bind (idx y190.snd.snd.fst s188) fun (y191 : Ty.El tIface) => loopX (fun (s192 : Int) => bif decide (s192 < s181) then Option.bind (bif y191.snd.snd.fst != (0 : Int) then Option.bind (idx a1.fst s192) fun (y193 : Ty.El tRouter) => Option.bind (ref8_Address (y193, y191.snd.fst, ())) fun (y194 : Int) => some (decide (y194 ≥ (0 : Int))) else some false) fun (s195 : Bool) => bif s195 then some (Sum.inr (Sum.inr (Sum.inr (Sum.inr (Sum.inr (Sum.inr (4 : Int))))))) else some (Sum.inl (IntKind.wrap IntKind.i64 (s192 + (1 : Int)))) else some (Sum.inr (Sum.inl ()))) (0 : Int)) fun (s196 : Unit) => some (Sum.inl (IntKind.wrap IntKind.i64 (s188 + (1 : Int)))) else some (Sum.inr (Sum.inl ()))) (0 : Int)) fun (s197 : Unit) => some (Sum.inl (IntKind.wrap IntKind.i64 (s181 + (1 : Int)))) else some (Sum.inr (Sum.inl ()))) (0 : Int)) fun (s198 : Unit) => some (0 : Int)
end Go.Ve



namespace Go.Ve
open Go

abbrev HSt (t : Ty) := List (Option (List t.El))

/-- The lists of the state, each in a block of its own. -/
structure HRel (t : Ty) (st : HSt t) (F : Blk → Prop) (O : Nat → Prop) (w : World) (hb hc : Nat → Nat) : Prop where
  hdl : ∀ id xs, st[id]? = some (some xs) → ∀ a n c, F (.h id a n c) ↔ (a = some ⟨hb id, 0, none⟩ ∧ n = xs.length ∧ c = hc id)
  out : ∀ id, st.length ≤ id → ∀ a n c, ¬ F (.h id a n c)
  row : ∀ id xs, st[id]? = some (some xs) → xs ≠ [] ∧ O (hb id) ∧ RowRel w (fun _ => False) (hb id) t.size (hc id) (xs.map t.enc)
  dist : ∀ id id' xs xs', st[id]? = some (some xs) → st[id']? = some (some xs') → hb id = hb id' → id = id'
  own : ∀ b, O b → ∃ id xs, st[id]? = some (some xs) ∧ hb id = b
  nok : NoK F

theorem RowRel.same {w w' : World} {F : Blk → Prop} {b k cap : Nat} {es : List V} (h : RowRel w (fun _ => False) b k cap es) (hw : w'.heap[b]? = w.heap[b]?) : RowRel w' F b k cap es := by
  obtain ⟨c, et, h1, h2, h3, h4, h5⟩ := h
  exact ⟨c, et, hw.trans h1, h2, h3, h4, fun i j e d x a1 a2 a3 => (h5 i j e d x a1 a2 a3).mono (fun _ h => h.elim) (fun _ h => h.elim)⟩

def heapSig (t : Ty) : Sig where
  St := HSt t
  R := fun st F O w => ∃ hb hc, HRel t st F O w hb hc
  mono := by
    rintro s F F' O w w' ⟨hb, hc, h⟩ hF hO _
    refine ⟨hb, hc, ?_, ?_, ?_, h.dist, h.own, h.nok.of hF⟩
    · intro id xs hx a n c; rw [hF _ rfl]; exact h.hdl id xs hx a n c
    · intro id hx a n c hh; exact h.out id hx a n c ((hF _ rfl).1 hh)
    · intro id xs hx
      obtain ⟨h1, h2, h3⟩ := h.row id xs hx
      exact ⟨h1, h2, h3.same (hO _ h2)⟩
  inb := by
    rintro s F O w ⟨hb, hc, h⟩ b hO
    obtain ⟨id, xs, h1, rfl⟩ := h.own b hO
    obtain ⟨_, _, c, et, h3, _⟩ := h.row id xs h1
    grind
  ld := fun ⟨_, _, h⟩ hk => absurd hk (h.nok.1 _ _ _)
  eqk := fun ⟨_, _, h⟩ hk => absurd hk (h.nok.1 _ _ _)
  sb := fun ⟨_, _, h⟩ hk => absurd hk (h.nok.2 _)

instance (t : Ty) : Calm (heapSig t) := ⟨fun h => h⟩

/-- Append to a slice that goes by a number, where there is room for it. -/
def happ {t : Ty} (bytes : Nat) (st : HSt t) (q : Option (Nat × Nat)) (ys : List t.El) : Option (HSt t × Option (Nat × Nat)) :=
  match ys with
  | [] => none
  | y :: r => match q with
    | none => if (2 * (y :: r).length + 1024) * bytes ≤ 140737488355328 then some (st ++ [some (y :: r)], some (st.length, (y :: r).length)) else none
    | some (id, _) => match st[id]? with
      | some (some xs) => if (2 * (xs.length + (y :: r).length) + 1024) * bytes ≤ 140737488355328 then some (st.set id none ++ [some (xs ++ y :: r)], some (st.length, (xs ++ y :: r).length)) else none
      | _ => none

theorem flat_cell {t : Ty} (h : t.flat = true) {x : t.El} {d : V} (hd : d ∈ (t.enc x).cells) {w w' : World} {F F' : Blk → Prop} {v : Value} (hr : Rd w F v d) : Rd w' F' v d := by
  rw [enc_cells] at hd
  have := leaf_of_isVal (flat_leaf t x h d hd)
  rw [this] at hr ⊢
  rw [Rd.eq_val hr]
  exact .val _

theorem row_flat {t : Ty} (h : t.flat = true) {w : World} {F F' : Blk → Prop} {b k cap : Nat} {xs : List t.El} (hr : RowRel w F b k cap (xs.map t.enc)) : RowRel w F' b k cap (xs.map t.enc) := by
  obtain ⟨c, et, h1, h2, h3, h4, h5⟩ := hr
  refine ⟨c, et, h1, h2, h3, h4, fun i j e d x a1 a2 a3 => ?_⟩
  simp at a1
  obtain ⟨y, hy, rfl⟩ := a1
  exact flat_cell h (List.mem_of_getElem? a2) (h5 i j (t.enc y) d x (by simp [hy]) a2 a3)

theorem hget {α : Type} {st : List (Option α)} {id j : Nat} {z : α} {xs : α} (h : (st.set id none ++ [some z])[j]? = some (some xs)) : (j = st.length ∧ xs = z) ∨ (j ≠ id ∧ j < st.length ∧ st[j]? = some (some xs)) := by
  grind

section
variable {t : Ty} {P : Program}

/-- Behind an append: one list the longer, by a number of its own. -/
theorem turned_app (hfl : t.flat = true) {st : HSt t} {F : Blk → Prop} {O : Nat → Prop} {w w' : World} {hb hc : Nat → Nat} (h : HRel t st F O w hb hc) (hF : ∀ b : Nat, F b → b < w.heap.size ∧ ¬ O b)
    {id : Nat} {zs : List t.El} (hz : zs ≠ []) {blk cap : Nat} {O' : Nat → Prop} (hk : Keep O w w') (hO1 : ∀ b, O' b ↔ (b = blk ∨ (O b ∧ ∀ xs, st[id]? = some (some xs) → b ≠ hb id)))
    (hblk : O blk ∨ w.heap.size ≤ blk) (hblt : blk < w'.heap.size) (hrow : RowRel w' F blk t.size cap (zs.map t.enc))
    (hold : ∀ j xs, j ≠ id → st[j]? = some (some xs) → hb j ≠ blk ∧ w'.heap[hb j]? = w.heap[hb j]?) (hid : id < st.length → ∃ xs, st[id]? = some (some xs)) :
    Turned (heapSig t) w F O (.slice (some ⟨blk, 0, none⟩) zs.length cap) w' (st.set id none ++ [some zs]) (.rf (some (st.length, zs.length))) := by
  let F' : Blk → Prop := fun b => F b ∨ b = .h st.length (some ⟨blk, 0, none⟩) zs.length cap
  have hOO : ∀ b, O' b → O b ∨ w.heap.size ≤ b := fun b hb0 => by
    grind
  refine ⟨F', O', ⟨fun j => if j = st.length then blk else hb j, fun j => if j = st.length then cap else hc j, ?_, ?_, ?_, ?_, ?_, ⟨fun _ _ _ hh => hh.elim (h.nok.1 _ _ _) (fun hh => by cases hh), fun _ hh => hh.elim (h.nok.2 _) (fun hh => by cases hh)⟩⟩, hk, hOO,
    ⟨fun b hb => .inl hb, fun n hn => hn.elim .inl (fun hh => by cases hh)⟩, ?_, .rf _ _ _ _ (.inr rfl)⟩
  · intro j xs hj a n c
    rcases hget hj with ⟨rfl, rfl⟩ | ⟨hne, hlt, hj⟩
    · simp only [if_true, F']
      constructor
      · rintro (hh | hh)
        · exact absurd hh (h.out _ (Nat.le_refl _) _ _ _)
        grind
      grind
    · have hne' : j ≠ st.length := by omega
      simp only [if_neg hne', F']
      rw [← h.hdl j xs hj]
      grind
  · intro j hj a n c
    simp at hj
    rintro (hh | hh)
    · exact h.out j (by omega) _ _ _ hh
    grind
  · intro j xs hj
    rcases hget hj with ⟨rfl, rfl⟩ | ⟨hne, hlt, hj⟩
    · simp only [if_true]
      exact ⟨hz, (hO1 _).2 (.inl rfl), row_flat hfl hrow⟩
    · have hne' : j ≠ st.length := by omega
      simp only [if_neg hne']
      obtain ⟨h1, h2, h3⟩ := h.row j xs hj
      refine ⟨h1, (hO1 _).2 (.inr ⟨h2, fun ys hy hh => hne (h.dist j id xs ys hj hy hh)⟩), h3.same (hold j xs hne hj).2⟩
  · intro j j' xs xs' hj hj' hh
    rcases hget hj with ⟨rfl, rfl⟩ | ⟨hne, hlt, hj1⟩ <;> rcases hget hj' with ⟨rfl, rfl⟩ | ⟨hne', hlt', hj1'⟩
    · rfl
    · grind
    · grind
    · have h1 : j ≠ st.length := by omega
      have h2 : j' ≠ st.length := by omega
      simp [if_neg h1, if_neg h2] at hh
      exact h.dist j j' xs xs' hj1 hj1' hh
  · intro b hb0
    rcases (hO1 b).1 hb0 with rfl | ⟨h1, h2⟩
    · refine ⟨st.length, zs, ?_, by simp⟩
      grind
    · obtain ⟨j, xs, hj, rfl⟩ := h.own b h1
      grind
  · intro b hb0
    rcases hb0 with hb0 | hb0
    · obtain ⟨h1, h2⟩ := hF b hb0
      refine ⟨.inl hb0, Nat.lt_of_lt_of_le h1 hk.size, fun ho => ?_⟩
      grind
    · cases hb0

theorem happ_ok (hfl : t.flat = true) {bytes : Nat} {st st' : HSt t} {q q' : Option (Nat × Nat)} {ys : List t.El} (h : happ bytes st q ys = some (st', q')) :
    AppOk (heapSig t) P st (.rf q) t ys bytes st' (.rf q') := by
  intro ts ty t0 t1 el el1 info z w F O v0 v1 hts0 hts1 hu0 hu1 hinfo hz hsz hby hzc hbytes hR hF
  intro (hr0 : Rd w F v0 (.rf q)) hr1
  subst hbytes
  obtain ⟨hb, hc, hR⟩ := hR
  have hk2 : ∀ q, q ∈ ys.map t.enc → q.cells.length = info.size := by
    intro q hq
    simp at hq
    obtain ⟨y, _, rfl⟩ := hq
    grind [enc_len]
  have ho2 : ∀ q, q ∈ ys.map t.enc → q.cells.all V.one = true := by
    intro q hq
    simp at hq
    obtain ⟨y, _, rfl⟩ := hq
    rw [enc_cells]; exact cells_one t y
  obtain ⟨a1, cap1, cells, hv1, hcap1, hl2, hrun2, hr2⟩ := src_sim (P := P) (β := ⟨id, id⟩) (al := fun _ => False) (x := .p (.sl (ys.map t.enc))) hr1.untl rfl hk2
  simp at hv1 hcap1 hl2 hrun2
  have hs : size? P el = some info.size := size_of_info hinfo
  have hrest : ∀ m, (Builtin.zeroCells z.cells m).size = m * info.size := by
    grind [Array.size_map, Array.size_range, Builtin.zeroCells]
  unfold happ at h
  split at h
  · cases h
  · rename_i y r
    have hl2' : cells.length = ((y :: r).map t.enc).length * info.size := by simpa using hl2
    split at h
    · -- nil
      split at h
      · rename_i hbound
        simp only [Option.some.injEq, Prod.mk.injEq] at h
        obtain ⟨rfl, rfl⟩ := h
        cases hr0 with
        | rfn =>
          obtain ⟨newCap, hnc, hrun⟩ := run_append_grow (P := P) (w := w) (ts := ts) (ty := ty) (len := 0) (cap := 0) (n := (y :: r).length) (cap1 := cap1) (a0 := none) (a1 := a1) (cells := cells) (old := []) hts0 hts1 hu0 hu1 hinfo hz
            (by rw [← hv1]; exact hrun2 w.drew rfl) (by simp [Builtin.firstCells]) (by simp) hby (by grind)
          rw [← hv1] at hrun
          simp only [Nat.zero_add] at hnc hrun
          refine ⟨_, _, hrun, ?_⟩
          have hrow := row_grow (w' := w.drew.alloc (.cells (([] : List Value).toArray ++ (cells.toArray ++ Builtin.zeroCells z.cells (newCap - (y :: r).length))) el)) (F := F) (b := w.heap.size) (k := info.size) (cap := newCap) (es := []) (es2 := (y :: r).map t.enc) (et := el) (old := []) (cells := cells)
            (by simp) hk2 (by simp) hl2' (fun i j q y hi hj => by simp at hi) (fun i j e d hi hj => by
              obtain ⟨x, hx, hrx⟩ := hr2 i j e d hi hj
              simp only [List.getElem?_map, Option.map_eq_some_iff] at hi
              obtain ⟨y0, _, rfl⟩ := hi
              grind [flat_cell, List.mem_of_getElem?]) (by simpa using hnc) (by grind) (push_new (w := w.drew))
          rw [List.nil_append, ← hsz] at hrow
          have hset : st.set st.length none = st := List.set_eq_of_length_le (Nat.le_refl _)
          have := turned_app (w' := w.drew.alloc (.cells (([] : List Value).toArray ++ (cells.toArray ++ Builtin.zeroCells z.cells (newCap - (y :: r).length))) el)) (O' := fun b => b = w.heap.size ∨ O b) (id := st.length) hfl hR hF (zs := y :: r) (by simp) (blk := w.heap.size) (cap := newCap)
            ⟨rfl, rfl, rfl, by simp, fun b hb _ => push_old (w := w.drew) hb, Nat.le_succ _⟩ (fun b => by
              grind) (.inr (Nat.le_refl _)) (by simp) hrow (fun j xs _ hj => by
              have hlt := (heapSig t).inb (⟨hb, hc, hR⟩ : (heapSig t).R st F O w) _ (hR.row j xs hj).2.1
              exact ⟨by omega, push_old (w := w.drew) hlt⟩) (fun hh => by omega)
          grind
      · cases h
    · rename_i id n0
      split at h
      · rename_i xs hst
        split at h
        · rename_i hbound
          simp only [Option.some.injEq, Prod.mk.injEq] at h
          obtain ⟨rfl, rfl⟩ := h
          obtain ⟨hxne, hOid, hrow0⟩ := hR.row id xs hst
          cases hr0 with
          | rf _ a n c hh =>
            obtain ⟨rfl, rfl, rfl⟩ := (hR.hdl id xs hst _ _ _).1 hh
            obtain ⟨cc, et, g1, g2, g3, g4, g5⟩ := hrow0
            simp at g3
            rw [hsz] at g2 g4 g5
            by_cases hroom : xs.length + (y :: r).length ≤ hc id
            · have hfit : xs.length * info.size + (y :: r).length * info.size ≤ cc.size := by rw [← Nat.add_mul, g2]; exact Nat.mul_le_mul_right _ hroom
              have hrun := run_append_room (P := P) (w := w) (ts := ts) (ty := ty) (b := hb id) (off := 0) (len := xs.length) (cap := hc id) (n := (y :: r).length) (cap1 := cap1) (a1 := a1) (cells := cells) (c := cc) (et := et) hts0 hts1 hu0 hu1 hs
                (by grind) hl2 g1 (by omega) (src_one hl2' hk2 ho2 hr2) hroom
              rw [← hv1] at hrun
              simp only [Nat.zero_add] at hrun
              refine ⟨_, _, hrun, ?_⟩
              have hlt : hb id < w.heap.size := (Array.getElem?_eq_some_iff.1 g1).1
              have hrow := row_room (w' := setBlk w (hb id) (.cells (spliceA cc (xs.length * info.size) cells) et (0, 0))) (F := F) (b := hb id) (k := info.size) (cap := hc id) (es := xs.map t.enc) (es2 := (y :: r).map t.enc) (c := cc) (et := et) (cells := cells)
                (by simpa using g2) g4 (fun i j e d x hi hj hx => by
                  simp at hi
                  obtain ⟨y0, hy0, rfl⟩ := hi
                  exact flat_cell hfl (List.mem_of_getElem? hj) (g5 i j _ d x (by simp [hy0]) hj hx)) hk2 hl2' (fun i j e d hi hj => by
                  obtain ⟨x, hx, hrx⟩ := hr2 i j e d hi hj
                  simp only [List.getElem?_map, Option.map_eq_some_iff] at hi
                  obtain ⟨y0, _, rfl⟩ := hi
                  grind [flat_cell, List.mem_of_getElem?]) (by simpa using hroom) (by grind [setBlk_eq])
              rw [← List.map_append, ← hsz] at hrow
              have := turned_app (w' := setBlk w (hb id) (.cells (spliceA cc (xs.length * info.size) cells) et (0, 0))) (O' := O) (id := id) hfl hR hF (zs := xs ++ y :: r) (by simp) (blk := hb id) (cap := hc id)
                ⟨rfl, rfl, rfl, by rw [setBlk_size]; omega, fun b hb0 hno => setBlk_ne (fun hh => hno (by grind)), Nat.le_refl _⟩ (fun b => by
                  grind) (.inl hOid) (by grind [setBlk_size]) (by grind) (fun j xs' hne hj => by
                  have h1 : hb j ≠ hb id := fun hh => hne (hR.dist j id xs' xs hj hst hh)
                  grind [setBlk_ne]) (fun _ => ⟨xs, hst⟩)
              simpa using this
            · obtain ⟨a0, cap0, old, hv0', hcap0, hl1, hrun1, hr1⟩ := src_sim (P := P) (w := w) (F := F) (β := ⟨fun _ => hb id, fun _ => hb id⟩) (al := fun _ => True) (x := .ow 0 info.size (xs.map t.enc)) (v := .slice (some ⟨hb id, 0, none⟩) xs.length (hc id)) (k := info.size)
                ⟨trivial, hc id, by simp, cc, et, g1, g2, by simpa using g3, g4, fun i j e d x hi hj hx => (g5 i j e d x hi hj hx).mono (fun _ h => h.elim) (fun _ h => h.elim)⟩ rfl g4
              simp only [List.length_map] at hv0' hcap0 hl1 hrun1
              have hcc : cap0 = hc id := by grind
              have haa : a0 = some ⟨hb id, 0, none⟩ := by grind
              subst hcc haa
              obtain ⟨newCap, hnc, hrun⟩ := run_append_grow (P := P) (w := w) (ts := ts) (ty := ty) (len := xs.length) (cap := hc id) (n := (y :: r).length) (cap1 := cap1) (a0 := some ⟨hb id, 0, none⟩) (a1 := a1) (cells := cells) (old := old) hts0 hts1 hu0 hu1 hinfo hz
                (by rw [← hv1]; exact hrun2 w.drew rfl) (hrun1 w.drew rfl) hroom hby hbound
              rw [← hv1] at hrun
              refine ⟨_, _, hrun, ?_⟩
              have hrow := row_grow (w' := w.drew.alloc (.cells (old.toArray ++ (cells.toArray ++ Builtin.zeroCells z.cells (newCap - (xs.length + (y :: r).length)))) el)) (F := F) (b := w.heap.size) (k := info.size) (cap := newCap) (es := xs.map t.enc) (es2 := (y :: r).map t.enc) (et := el) (old := old) (cells := cells) (rest := Builtin.zeroCells z.cells (newCap - (xs.length + (y :: r).length)))
                g4 hk2 (by simpa using hl1) hl2' (fun i j e d hi hj => by
                  obtain ⟨x, hx, hrx⟩ := hr1 i j e d hi hj
                  simp at hi
                  obtain ⟨y0, _, rfl⟩ := hi
                  grind [flat_cell, List.mem_of_getElem?]) (fun i j e d hi hj => by
                  obtain ⟨x, hx, hrx⟩ := hr2 i j e d hi hj
                  simp only [List.getElem?_map, Option.map_eq_some_iff] at hi
                  obtain ⟨y0, _, rfl⟩ := hi
                  grind [flat_cell, List.mem_of_getElem?]) (by simpa using hnc) (by grind) (push_new (w := w.drew))
              rw [← List.map_append, ← hsz] at hrow
              have := turned_app (w' := w.drew.alloc (.cells (old.toArray ++ (cells.toArray ++ Builtin.zeroCells z.cells (newCap - (xs.length + (y :: r).length)))) el)) (O' := fun b => b = w.heap.size ∨ (O b ∧ b ≠ hb id)) (id := id) hfl hR hF (zs := xs ++ y :: r) (by simp) (blk := w.heap.size) (cap := newCap)
                ⟨rfl, rfl, rfl, by simp, fun b hb _ => push_old (w := w.drew) hb, Nat.le_succ _⟩ (fun b => by
                  grind) (.inr (Nat.le_refl _)) (by simp) (by omega) (fun j xs' _ hj => by
                  have hlt := (heapSig t).inb (⟨hb, hc, hR⟩ : (heapSig t).R st F O w) _ (hR.row j xs' hj).2.1
                  exact ⟨by omega, push_old (w := w.drew) hlt⟩) (fun _ => ⟨xs, hst⟩)
              simpa using this
        · cases h
      · cases h
end
end Go.Ve
