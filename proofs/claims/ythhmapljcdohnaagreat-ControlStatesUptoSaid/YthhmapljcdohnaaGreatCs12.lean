/-
  Functions out of code, part 8: contracts over a state of lists; from such a state to none, and from none to any.
  Functions out of code, part 9: a function with a state of lists of its own is a function without.
  Functions out of code: views, tables, static routes.
  Functions out of code: distance-vector and path-vector routing.
  Plain laws, part 1: what partial values come to.
  Plain laws, part 2: loops over lists.
  Plain laws, part 3: loops over lists within loops.
  Plain laws: sorting by insertion.
  Plain laws: prefixes in order; domains in order.
-/
import Derived.Test.YthhmapljcdohnaaGreatCs11
set_option linter.unusedVariables false
namespace Go.Ve
open Go

/-- Contracts with append to slices that go by a number. -/
def SpecsX.addH {t : Ty} (S : SpecsX (heapSig t)) : SpecsX (heapSig t) := fun f s ds =>
  match Nat.beq f happId with
  | true => match ds with
    | [.bot, .rf q, .tl t' ys, .val (.int _ b)] => match castL t' t ys with
      | .some zs => .some ⟨HSt t × Option (Nat × Nat), happ b.toNat s q zs, fun y => y.1, fun y => .p (.rf y.2), false⟩
      | .none => S f s ds
    | _ => S f s ds
  | false => S f s ds

theorem tableX_addH {t : Ty} {P : Program} {G : Nat → Option (List V)} {S : SpecsX (heapSig t)} (hS : Table (heapSig t) P G S.toS) (hfl : t.flat = true) (hno : P.funcs[happId]? = none) :
    Table (heapSig t) P G S.addH.toS := by
  have e2 : ∀ g, g ≠ happId → S.addH.toS g = S.toS g := by
    intro g hg
    funext s ds
    have : Nat.beq g happId = false := by
      grind [Nat.eq_of_beq_eq_true, happId, absurd]
    simp [SpecsX.toS, SpecsX.addH, this]
  have e1 : ∀ (s : HSt t) (ds : List V) r, S.addH.toS happId s ds = some r → S.toS happId s ds = some r ∨
      ∃ q ys zs k b, ds = [.bot, .rf q, .tl t ys, .val (.int k b)] ∧ ∃ q', happ b.toNat s q ys = some (zs, q') ∧ r = (zs, .p (.rf q')) := by
    intro s ds r h
    have ht : Nat.beq happId happId = true := Nat.beq_refl _
    simp [SpecsX.toS, SpecsX.addH] at h
    split at h
    · rename_i c hc
      split at hc
      · rename_i q t' ys k b
        cases hzs : castL t' t ys with
        | none => grind [SpecsX.toS]
        | some zs =>
          rw [hzs] at hc
          obtain ⟨htt, hz⟩ := fitL_sound (castL_sound hzs)
          subst htt
          subst hz
          simp at hc
          rw [← hc] at h
          simp only [Option.map_eq_some_iff] at h
          obtain ⟨⟨st', q'⟩, h1, h2⟩ := h
          exact .inr ⟨q, ys, st', k, b, rfl, q', h1, h2.symm⟩
      grind [SpecsX.toS]
    · cases h
  refine ⟨?_, ?_, ?_, ?_⟩
  · intro g
    by_cases hg : g = happId
    · subst hg
      intro w F O s args ds s' r a1 a2 a3 a4 a5 a6
      rcases e1 s ds _ a6 with h | ⟨q, ys, zs, k, b, rfl, _⟩
      · exact hS.ok happId w F O s args ds s' r a1 a2 a3 a4 a5 h
      · exfalso
        have h0 : 0 < args.size := by rw [a4]; simp
        have hnb : ∀ u : Value, ¬ Rd w F u .bot := fun u h => by cases h
        exact hnb _ (a5 0 args[0] .bot (by simp [h0]) rfl)
    · rw [e2 g hg]; exact hS.ok g
  · intro g s ds r hr hbot
    by_cases hg : g = happId
    · subst hg
      rcases e1 s ds _ hr with h | ⟨q, ys, zs, k, b, rfl, _⟩
      · exact hS.is _ s ds r h hbot
      grind
    · rw [e2 g hg] at hr; exact hS.is g s ds r hr hbot
  · intro _ st q t' ys bytes st' d h
    rcases e1 _ _ _ h with h | ⟨q0, ys0, zs, k, b, heq, q', h1, h2⟩
    · exact hS.app hno st q t' ys bytes st' d h
    · simp at heq
      obtain ⟨rfl, ⟨htt, hys⟩, rfl, rfl⟩ := heq
      subst htt
      have hys := eq_of_heq hys
      grind [Int.toNat_natCast, happ_ok]
  · intro f st t' xs ds st' ys d h
    by_cases hf : f = happId
    · subst hf
      rcases e1 _ _ _ h with h | ⟨q0, ys0, zs, k, b, heq, _⟩
      · exact hS.bor _ st t' xs ds st' ys d h
      · simp at heq
    · rw [e2 f hf] at h; exact hS.bor f st t' xs ds st' ys d h

section
variable {Γ : Sig} {P : Program} {G : Nat → Option (List V)}

/-- What a body comes to, over a state and typed data. -/
noncomputable def exFS (L : Look) (G : Nat → Option (List V)) (S : SpecsX Γ) (A : Nat → Option JA) (fn : Func) (c : Code) (R : RTy) (s : Γ.St) (ds : List V) : Option (Γ.St × R.El) :=
  kEnv (start fn.ntmps s ds) (fun e => exC L G S A c (Γ.St × R.El) (fun k e1 _ => match k with
    | .exit _ => none
    | _ => match evRet L e1 fn with
      | some r => match R.get r with
        | some y => some (e1.st, y)
        | none => none
      | none => none) e 0)

/-- A contract by a partial function over a state and typed data. -/
def specS {X : Type} (dec : List V → Option X) (R : RTy) (g : Γ.St → X → Option (Γ.St × R.El)) : Γ.St → List V → Option (CallX Γ.St) := fun s ds =>
  match dec ds with
  | some x => some ⟨Γ.St × R.El, g s x, fun y => y.1, fun y => R.res y.2, R.pl⟩
  | none => none

theorem fnOk_exSW {S : SpecsX Γ} {A : Nat → Option JA} (hst : ∀ k j, A k = some j → hasSt j.sl = true) (hmix : P.follows .mixedOrders = true) (hS : Table Γ P G S.toS) {f : FuncId} {fn : Func} {c : Code} (hf : P.funcs[f]? = some fn) (hb : fn.body = some c)
    {X : Type} {dec : List V → Option X} {enc : X → List V} (hdec : ∀ ds x, dec ds = some x → WkVs ds (enc x)) {R : RTy} {g : Γ.St → X → Option (Γ.St × R.El)} (h : ∀ s x, exFS (Γ := Γ) P G S A fn c R s (enc x) = g s x) : FnOkW Γ P G f (callS (specS dec R g)) := by
  intro w F O s args ds s' r hsig hG hF hlen hrd hspec
  simp [callS, specS] at hspec
  split at hspec
  · rename_i cx hcx
    split at hcx
    · rename_i x hx
      cases hcx
      simp only [Option.map_eq_some_iff] at hspec
      obtain ⟨⟨s1, y⟩, hy, hsr⟩ := hspec
      simp at hsr
      obtain ⟨rfl, rfl⟩ := hsr
      have hwk := hdec ds x hx
      have hlen' : args.size = (enc x).length := hlen.trans hwk.len
      have hrd' : ∀ (i : Nat) (u : Value) (d : V), args[i]? = some u → (enc x)[i]? = some d → Rd w F u d := by
        intro i u d hu hd
        have hlt : i < ds.length := by grind
        exact hwk.get i ds[i] d (by simp [hlt]) hd w F u (hrd i u ds[i] hu (by simp [hlt]))
      have hex := h s x
      rw [hy] at hex
      unfold exFS at hex
      rw [kEnv_eq] at hex
      obtain ⟨k, e', d, hok, _, hend⟩ := exC_sound (fun k j hj => .inr (hst k j hj)) hmix hS c _ _ _ _ _ hex
      have hk : (k = .normal ∨ k = .ret) ∧ (match evRet (Look.of P) e' fn with
        | some r => match R.get r with
          | some y => some (e'.st, y)
          | none => none
        | none => none) = some (s1, y) := by
        cases k with
        | normal => grind
        | ret => grind
        | exit id => cases hend
      obtain ⟨hk, hend⟩ := hk
      split at hend
      · rename_i r' hr'
        split at hend
        · rename_i y' hy'
          simp at hend
          obtain ⟨rfl, rfl⟩ := hend
          refine calls_of_wp hf hb ?_
          have hget : ∀ t, TRel w F ⟨fun _ => 0, fun _ => 0⟩ (fun _ => False) ((args ++ Array.replicate (fn.ntmps - args.size) undef).getD t undef) ((start fn.ntmps s (enc x)).get t) := by
            intro t
            simp [start, startTm, Env.get]
            by_cases ht : t < (enc x).length
            · rw [List.getElem?_append_left (by simpa using ht), Array.getElem?_append_left (by omega)]
              rw [List.getElem?_map, List.getElem?_eq_getElem ht, Array.getElem?_eq_getElem (by omega)]
              exact hrd' t _ _ (by grind) (by simp [ht])
            · rw [List.getElem?_append_right (by grind), Array.getElem?_append_right (by omega), hlen']
              simp
              by_cases h2 : t - (enc x).length < fn.ntmps - (enc x).length
              · rw [List.getElem?_replicate, if_pos h2, Array.getElem?_replicate, if_pos h2]
                exact Rd.val _
              · rw [List.getElem?_replicate, if_neg h2]
                trivial
          have hnovar : ∀ s0, (start fn.ntmps s (enc x)).var s0 = none := by
            grind [start, Env.var]
          have hinv : Inv Γ G w F O { tmps := args ++ Array.replicate (fn.ntmps - args.size) undef, defers := [] } w (start fn.ntmps s (enc x)) := by
            refine Inv.of (F := F) (O := O) (β := ⟨fun _ => 0, fun _ => 0⟩) (al := fun _ => False) ⟨Keep.refl _ w, hsig, fun b hb => .inl hb, fun b hb => ⟨.inl hb, hF b hb⟩, .refl _ _, fun x hx => hx.elim, fun x y hx => hx.elim, fun b n h => by cases h⟩ hG ?_ rfl hget ?_ (fun s h => h.elim)
            all_goals grind [start, startTm]
          refine wp_mono (hok w F O _ w hinv) ?_
          rintro ex a' w' ⟨rfl, hi'⟩
          obtain ⟨v, F', O', h1, h2, h3, h4, h5, h6, h7⟩ := evRet_sim rfl hi' hr'
          have hdf : a'.defers = [] := by obtain ⟨_, _, _, _, _, _, hdf, _⟩ := hi'; exact hdf
          obtain ⟨F'', g1, gh, g2, g3⟩ := RTy.get_sound hy' h7
          have h2 := Γ.mono h2 gh (fun _ _ => rfl) (fun _ _ h => ⟨g1 _ h, rfl⟩)
          have hF'' : ∀ b : Nat, F'' b → (F b ∨ w.heap.size ≤ b) ∧ b < w'.heap.size ∧ ¬ O' b := by
            grind
          rcases hk with rfl | rfl
          · exact ⟨hdf, v, h1, v, F'', O', rfl, h2, h3, h4, h5.trans (.of_reg g1 gh) (Nat.le_refl _), hF'', g3⟩
          · exact ⟨hdf, v, h1, v, F'', O', rfl, h2, h3, h4, h5.trans (.of_reg g1 gh) (Nat.le_refl _), hF'', g3⟩
        · cases hend
      · cases hend
    · cases hcx
  · cases hspec
theorem fnOk_exS [Calm Γ] {S : SpecsX Γ} {A : Nat → Option JA} (hst : ∀ k j, A k = some j → hasSt j.sl = true) (hmix : P.follows .mixedOrders = true) (hS : Table Γ P G S.toS) {f : FuncId} {fn : Func} {c : Code} (hf : P.funcs[f]? = some fn) (hb : fn.body = some c)
    {X : Type} {dec : List V → Option X} {enc : X → List V} (hdec : ∀ ds x, dec ds = some x → WkVs ds (enc x)) {R : RTy} {g : Γ.St → X → Option (Γ.St × R.El)} (h : ∀ s x, exFS (Γ := Γ) P G S A fn c R s (enc x) = g s x) : FnOk Γ P G f (callS (specS dec R g)) :=
  (fnOk_exSW hst hmix hS hf hb hdec h).calm
end

/-! ## Data without numbers -/

def Ty.norf : Ty → Bool
  | .rf => false
  | .hd => false
  | .pt _ => false
  | .pair a b => a.norf && b.norf
  | .sl t => t.norf
  | _ => true

theorem rd_norf_cell {w : World} {F F' : Blk → Prop} (hF : ∀ b : Nat, F b → F' b) : ∀ (t : Ty) (_ : t.norf = true) (x : t.El) (v : Value) (d : V), d ∈ t.cells x → Rd w F v d → Rd w F' v d := by
  intro t
  induction t with
  | int k => intro _ x v d hd h; simp [Ty.cells] at hd; subst hd; rw [Rd.eq_val h]; exact .val _
  | bool => intro _ x v d hd h; simp [Ty.cells] at hd; subst hd; rw [Rd.eq_val h]; exact .val _
  | str => intro _ x v d hd h; simp [Ty.cells] at hd; subst hd; rw [Rd.eq_val h]; exact .val _
  | unit => grind [Ty.cells]
  | rf => grind [Ty.norf]
  | hd => grind [Ty.norf]
  | pt t => grind [Ty.norf]
  | pair a b iha ihb =>
    intro hn x v d hd h
    simp [Ty.norf] at hn
    grind [Ty.cells]
  | sl t ih =>
    intro hn x v d hd h
    simp [Ty.cells] at hd
    subst hd
    refine .tl t x v ?_
    have h := h.untl
    generalize hes : x.map t.enc = es at h
    cases h with
    | slemp a cap => exact .slemp a cap
    | sl b off cap k _ g hFb hcap hk hg hr =>
      refine .sl b off cap k es g (hF b hFb) hcap hk hg ?_
      intro i j e d' hi hj
      have hi0 := hi
      rw [← hes] at hi0
      simp at hi0
      obtain ⟨y, _, rfl⟩ := hi0
      exact ih hn y _ d' (by grind [enc_cells, List.mem_of_getElem?]) (hr i j _ d' hi hj)

theorem rd_norf {w : World} {F F' : Blk → Prop} (hF : ∀ b : Nat, F b → F' b) {t : Ty} (hn : t.norf = true) {x : t.El} {v : Value} (h : Rd w F v (t.enc x)) : Rd w F' v (t.enc x) := by
  cases t with
  | int k => rw [Rd.eq_val h]; exact .val _
  | bool => rw [Rd.eq_val h]; exact .val _
  | str => rw [Rd.eq_val h]; exact .val _
  | rf => simp [Ty.norf] at hn
  | hd => simp [Ty.norf] at hn
  | pt t => simp [Ty.norf] at hn
  | unit =>
    cases h with
    | agg cs _ hl hh => exact .agg cs _ hl (fun i x d hi hd => by simp at hd)
  | pair a b =>
    cases h with
    | agg cs _ hl hh => exact .agg cs _ hl (fun i u d hi hd => rd_norf_cell hF (.pair a b) hn x u d (List.mem_of_getElem? hd) (hh i u d hi hd))
  | sl t => exact rd_norf_cell hF (.sl t) hn x v _ (by simp [Ty.cells, Ty.enc]) h

theorem row_norf {w : World} {F F' : Blk → Prop} (hF : ∀ b : Nat, F b → F' b) {t : Ty} (hn : t.norf = true) {b k cap : Nat} {xs : List t.El} (hr : RowRel w F b k cap (xs.map t.enc)) : RowRel w F' b k cap (xs.map t.enc) := by
  obtain ⟨c, et, h1, h2, h3, h4, h5⟩ := hr
  refine ⟨c, et, h1, h2, h3, h4, fun i j e d x a1 a2 a3 => ?_⟩
  have a0 := a1
  simp at a0
  obtain ⟨y, hy, rfl⟩ := a0
  grind [rd_norf_cell, enc_cells, List.mem_of_getElem?]

def RTy.norf : RTy → Bool
  | .p ty => ty.norf
  | .o ty => ty.norf
  | .tu tys => tys.all Ty.norf

theorem encS_norf {w : World} {F F' : Blk → Prop} (hF : ∀ b : Nat, F b → F' b) : ∀ (ts : List Ty) (x : ElS ts), ts.all Ty.norf = true → ∀ (i : Nat) (v : Value) (d : V), (encS ts x)[i]? = some d → Rd w F v d → Rd w F' v d
  | [], _, _, i, v, d, hd, _ => by simp [encS] at hd
  | t :: ts, x, hn, i, v, d, hd, h => by
    simp only [List.all_cons, Bool.and_eq_true] at hn
    cases i with
    | zero => simp only [encS, List.getElem?_cons_zero, Option.some.injEq] at hd; subst hd; exact rd_norf hF hn.1 h
    | succ i => exact encS_norf hF ts x.2 hn.2 i v d (by simpa [encS] using hd) h

theorem ret_norf {N : Nat} {w : World} {F F' : Blk → Prop} {O O' : Nat → Prop} (hF : ∀ b : Nat, F b → F' b) (hF' : ∀ b : Nat, N ≤ b → F' b → F b) (hO : ∀ b, N ≤ b → O' b → O b) {R : RTy} (hn : R.norf = true) {y : R.El} {v : Value} (h : RetRel N w F O v (R.res y)) : RetRel N w F' O' v (R.res y) := by
  cases R with
  | p ty => exact rd_norf (t := ty) hF hn h
  | o ty =>
    rcases h with h | ⟨h0, b, cap, h1, h2, h3, h4, h5, k, h6⟩
    · exact .inl h
    · exact .inr ⟨h0, b, cap, h1, h2, h3, fun hh => h4 (hF' b h2 hh), fun hh => h5 (hO b h2 hh), k, row_norf (t := ty) hF hn h6⟩
  | tu tys =>
    have h : Rd w F v (.tup (encS tys y)) := h
    cases h with
    | tup cs _ hl hh => exact .tup cs _ hl (fun i u d hi hd => encS_norf hF tys y hn i u d hd (hh i u d hi hd))

/-- The blocks of F alone. -/
def onlyB (F : Blk → Prop) : Blk → Prop
  | .b n => F (.b n)
  | _ => False

theorem onlyB_nok (F : Blk → Prop) : NoK (onlyB F) := ⟨fun _ _ _ h => h, fun _ h => h⟩

/-- The blocks of F', all else of F. -/
def mixB (F F' : Blk → Prop) : Blk → Prop
  | .b n => F' (.b n)
  | x => F x

theorem mixB_reg (F F' : Blk → Prop) (x : Blk) (hx : x.isB = false) : mixB F F' x ↔ F x := by
  cases x with
  | b n => cases hx
  | _ => exact Iff.rfl

/-- The data speak of nothing but blocks. -/
def DecB {X : Type} (dec : List V → Option X) : Prop :=
  ∀ ds x, dec ds = some x → ∃ ds', dec ds' = some x ∧ ds'.length = ds.length ∧ ∀ (w : World) (F F' : Blk → Prop), (∀ b : Nat, F b → F' b) → ∀ (i : Nat) (v : Value) (d d' : V), ds[i]? = some d → ds'[i]? = some d' → Rd w F v d → Rd w F' v d'

/-- A function that knows no state leaves every state alone. -/
theorem fnOk_lift {Γ : Sig} {P : Program} {G : Nat → Option (List V)} (hG0 : ∀ g, G g = none) {f : FuncId} {X : Type} {dec : List V → Option X} (hd : DecB dec) {R : RTy} {g : X → Option R.El} (hn : R.norf = true)
    (h : FnOk unitSig P G f (callS (specG dec R g))) : FnOk Γ P G f (callS (specG dec R g)) := by
  intro w F O s args ds s' r hsig hG hF hlen hrd hspec
  simp [callS, specG] at hspec
  cases hx : dec ds with
  | none => grind
  | some x =>
    rw [hx] at hspec
    simp at hspec
    obtain ⟨y, hy, rfl, rfl⟩ := hspec
    obtain ⟨ds', hx', hl', hrd'⟩ := hd ds x hx
    have hcall := h w (onlyB F) (fun _ => False) () args ds' () (R.res y) ⟨fun _ h => h, onlyB_nok F⟩ (fun g cs hg => by grind) (fun b hb => ⟨(hF b hb).1, fun h => h⟩) (hlen.trans hl'.symm)
      (fun i v d hi hd0 => by
        grind [List.getElem?_eq_some_iff, onlyB]) (by simp [callS, specG, hx', hy])
    refine hcall.mono ?_
    rintro e w' ⟨v, F', O', rfl, g1, g2, g3, g4, g5, g6⟩
    have hkb : ∀ b, O b → w'.heap[b]? = w.heap[b]? := fun b hb => g2.block b (Γ.inb hsig b hb) (fun h => h)
    refine ⟨v, mixB F F', O, rfl, Γ.mono hsig (mixB_reg F F') hkb (fun n _ hb => ⟨g4.1 (.b n) hb, g2.block n (hF n hb).1 (fun h => h)⟩), ⟨g2.os, g2.tape, g2.output, g2.size, fun b hb _ => g2.block b hb (fun h => h), g2.drawn⟩, fun b hb => .inl hb,
      .of_reg (fun b hb => ?_) (mixB_reg F F'), ?_, ?_⟩
    · cases b with
      | b n => exact g4.1 (.b n) hb
      | _ => exact hb
    · intro b hb
      obtain ⟨h1, h2, _⟩ := g5 b hb
      refine ⟨h1, h2, fun ho => ?_⟩
      rcases h1 with h1 | h1
      · exact (hF b h1).2 ho
      grind
    · exact ret_norf (F := F') (F' := mixB F F') (fun b hb => hb) (fun b _ hb => hb) (fun b hb ho => by have := Γ.inb hsig b ho; omega) hn g6

/-! ## From a state of lists to none -/

@[reducible] def unrfT (tE : Ty) : Ty → Ty
  | .rf => .sl tE
  | .hd => .hd
  | .pt t => .pt t
  | .pair a b => .pair (unrfT tE a) (unrfT tE b)
  | .sl t => .sl (unrfT tE t)
  | .int k => .int k
  | .bool => .bool
  | .str => .str
  | .unit => .unit

def mapO {α β : Type} (f : α → Option β) : List α → Option (List β)
  | [] => some []
  | x :: r => match f x, mapO f r with
    | some y, some ys => some (y :: ys)
    | _, _ => none

/-- What a number stands for. -/
def unrfV {tE : Ty} (st : HSt tE) : (t : Ty) → t.El → Option (unrfT tE t).El
  | .rf, o => match o with
    | none => some []
    | some (id, _) => match st[id]? with
      | some (some xs) => some xs
      | _ => none
  | .hd, _ => none
  | .pt _, _ => none
  | .pair a b, x => match unrfV st a x.1, unrfV st b x.2 with
    | some y, some z => some (y, z)
    | _, _ => none
  | .sl t, xs => mapO (unrfV st t) xs
  | .int _, x => some x
  | .bool, x => some x
  | .str, x => some x
  | .unit, x => some x

theorem mapO_get {α β : Type} {f : α → Option β} : ∀ {xs : List α} {ys : List β}, mapO f xs = some ys → xs.length = ys.length ∧ ∀ (i : Nat) (y : β), ys[i]? = some y → ∃ x, xs[i]? = some x ∧ f x = some y
  | [], ys, h => by simp only [mapO, Option.some.injEq] at h; grind
  | x :: r, ys, h => by
    simp only [mapO] at h
    split at h
    · rename_i y ys' hy hys
      cases h
      obtain ⟨h1, h2⟩ := mapO_get hys
      grind
    · cases h

theorem unrf_size (tE : Ty) : ∀ t : Ty, (unrfT tE t).size = t.size
  | .rf => rfl
  | .hd => rfl
  | .pt _ => rfl
  | .pair a b => by simp_all [unrf_size, Ty.size]
  | .sl _ => rfl
  | .int _ => rfl
  | .bool => rfl
  | .str => rfl
  | .unit => rfl

section
variable {tE : Ty} {st : HSt tE} {F F' : Blk → Prop} {O : Nat → Prop} {w : World} {hb hc : Nat → Nat}

theorem unrf_cell (h : HRel tE st F O w hb hc) (hF : ∀ b : Nat, F b → F' b) (hO : ∀ b, O b → F' (.b b)) : ∀ (t : Ty) (x : t.El) (y : (unrfT tE t).El), unrfV st t x = some y →
    ∀ (i : Nat) (v : Value) (d d' : V), (t.cells x)[i]? = some d → ((unrfT tE t).cells y)[i]? = some d' → Rd w F v d → Rd w F' v d' := by
  intro t
  induction t with
  | int k =>
    intro x y hxy i v d d' hd hd' hr
    obtain rfl : x = y := Option.some.inj hxy
    have := hd.symm.trans hd'
    cases this
    cases i with
    | zero => cases hd; rw [Rd.eq_val hr]; exact .val _
    | succ i => simp [Ty.cells] at hd
  | bool =>
    intro x y hxy i v d d' hd hd' hr
    obtain rfl : x = y := Option.some.inj hxy
    have := hd.symm.trans hd'
    cases this
    cases i with
    | zero => cases hd; rw [Rd.eq_val hr]; exact .val _
    | succ i => simp [Ty.cells] at hd
  | str =>
    intro x y hxy i v d d' hd hd' hr
    obtain rfl : x = y := Option.some.inj hxy
    have := hd.symm.trans hd'
    cases this
    cases i with
    | zero => cases hd; rw [Rd.eq_val hr]; exact .val _
    | succ i => simp [Ty.cells] at hd
  | unit => grind [Ty.cells]
  | hd => intro x y hxy; cases hxy
  | pt t => intro x y hxy; cases hxy
  | rf =>
    intro x y hxy i v d d' hd hd' hr
    cases i with
    | succ i => simp [Ty.cells] at hd
    | zero =>
      simp [Ty.cells] at hd
      simp [Ty.cells] at hd'
      subst hd hd'
      cases hr with
      | rfn =>
        obtain rfl : ([] : List tE.El) = y := Option.some.inj hxy
        exact .tl tE [] _ (.slemp none 0)
      | rf id a n c hh =>
        simp only [unrfV] at hxy
        split at hxy
        · rename_i xs hxs
          obtain rfl : xs = y := Option.some.inj hxy
          obtain ⟨rfl, rfl, rfl⟩ := (h.hdl id xs hxs _ _ _).1 hh
          obtain ⟨_, h2, h3⟩ := h.row id xs hxs
          refine .tl tE xs _ ?_
          have := Row_rd (F' := F') h3 (fun _ h => h.elim) (hO _ h2)
          simpa using this
        · cases hxy
  | pair a b iha ihb =>
    intro x y hxy i v d d' hd hd' hr
    simp only [unrfV] at hxy
    split at hxy
    · rename_i y1 y2 h1 h2
      obtain rfl : (y1, y2) = y := Option.some.inj hxy
      simp only [Ty.cells] at hd hd'
      grind [List.getElem?_append_left, cells_len, unrf_size, List.getElem?_append_right]
    · cases hxy
  | sl t ih =>
    intro x y hxy i v d d' hd hd' hr
    cases i with
    | succ i => simp [Ty.cells] at hd
    | zero =>
      simp [Ty.cells] at hd
      simp [Ty.cells] at hd'
      subst hd hd'
      obtain ⟨hlen, hget⟩ := mapO_get (show mapO (unrfV st t) x = some y from hxy)
      refine .tl (unrfT tE t) y v ?_
      have hr1 := hr.untl
      clear hr
      generalize hes : x.map t.enc = es at hr1
      cases hr1 with
      | slemp a cap =>
        have hx0 : x = [] := by simpa using hes
        subst hx0
        have hy0 : y = [] := List.eq_nil_of_length_eq_zero hlen.symm
        subst hy0
        exact .slemp a cap
      | sl b off cap k _ g hFb hcap hk hg hr =>
        have hel : es.length = (y.map (unrfT tE t).enc).length := by grind
        rw [hel] at hg hcap ⊢
        have hkk : ∀ e, e ∈ y.map (unrfT tE t).enc → e.cells.length = k := by
          intro e he
          simp at he
          obtain ⟨y0, hy0, rfl⟩ := he
          rw [enc_len, unrf_size]
          obtain ⟨j, hj⟩ := List.getElem?_of_mem hy0
          obtain ⟨x0, hx0, _⟩ := hget j y0 hj
          have := hk (t.enc x0) (by grind)
          grind [enc_len]
        refine .sl b off cap k _ g (hF b hFb) hcap hkk hg ?_
        intro i j e d' hi hj
        simp at hi
        obtain ⟨y0, hy0, rfl⟩ := hi
        obtain ⟨x0, hx0, hxy0⟩ := hget i y0 hy0
        rw [enc_cells] at hj
        have hjl : j < (t.cells x0).length := by
          grind [List.getElem?_eq_some_iff, cells_len, unrf_size]
        refine ih x0 y0 hxy0 j _ (t.cells x0)[j] d' (by simp [hjl]) hj (hr i j (t.enc x0) _ (by grind) (by grind [enc_cells]))

theorem unrf_rd (h : HRel tE st F O w hb hc) (hF : ∀ b : Nat, F b → F' b) (hO : ∀ b, O b → F' (.b b)) (t : Ty) (x : t.El) (y : (unrfT tE t).El) (hxy : unrfV st t x = some y) {v : Value} (hr : Rd w F v (t.enc x)) : Rd w F' v ((unrfT tE t).enc y) := by
  have one : ∀ (_ : t.enc x = (t.cells x)[0]?.getD .bot) (_ : (unrfT tE t).enc y = ((unrfT tE t).cells y)[0]?.getD .bot) (_ : 0 < t.size), Rd w F' v ((unrfT tE t).enc y) := by
    intro h1 h2 h3
    have l1 : 0 < (t.cells x).length := by rw [cells_len]; exact h3
    have l2 : 0 < ((unrfT tE t).cells y).length := by rw [cells_len, unrf_size]; exact h3
    grind [List.getElem?_eq_getElem, unrf_cell]
  cases t with
  | int k => exact one rfl rfl Nat.one_pos
  | bool => exact one rfl rfl Nat.one_pos
  | str => exact one rfl rfl Nat.one_pos
  | rf => exact one rfl rfl Nat.one_pos
  | hd => exact one rfl rfl Nat.one_pos
  | pt t => exact one rfl rfl Nat.one_pos
  | sl t => exact one rfl rfl Nat.one_pos
  | unit =>
    cases hr with
    | agg cs _ hl hh => exact .agg cs _ hl (fun i x d hi hd => by simp at hd)
  | pair a b =>
    cases hr with
    | agg cs _ hl hh =>
      have e1 : (a.cells x.1 ++ b.cells x.2).length = (Ty.pair a b).size := cells_len (.pair a b) x
      have e2 : (((unrfT tE a).cells y.1) ++ ((unrfT tE b).cells y.2)).length = (unrfT tE (Ty.pair a b)).size := cells_len (unrfT tE (Ty.pair a b)) y
      refine .agg cs _ (by rw [hl, e1, e2, unrf_size]) ?_
      intro i u d hi hd
      have hlt : i < (a.cells x.1 ++ b.cells x.2).length := by
        grind
      exact unrf_cell h hF hO (.pair a b) x y hxy i u _ d (by grind [List.getElem?_eq_getElem, Ty.cells]) hd (hh i u _ hi (List.getElem?_eq_getElem hlt))
end
end Go.Ve

namespace Go.Ve
open Go

theorem uncells_cells : ∀ (t : Ty) (x : t.El) (r : List V), t.uncells (t.cells x ++ r) = some (x, r)
  | .int k, x, r => by simp [Ty.cells, Ty.uncells, takeInt]
  | .bool, x, r => by simp [Ty.cells, Ty.uncells, takeBool]
  | .str, x, r => by simp [Ty.cells, Ty.uncells, takeStr]
  | .unit, x, r => by simp [Ty.cells, Ty.uncells]
  | .rf, x, r => by simp [Ty.cells, Ty.uncells, takeRf]
  | .hd, x, r => by simp [Ty.cells, Ty.uncells, takeHd]
  | .pt t, x, r => by simp [Ty.cells, Ty.uncells, takePt]
  | .sl t, x, r => by simp [Ty.cells, Ty.uncells, takeSl]
  | .pair a b, x, r => by
    simp [Ty.cells, Ty.uncells]
    rw [uncells_cells a x.1]
    simp only
    rw [uncells_cells b x.2]

theorem dec_enc (t : Ty) (x : t.El) : t.dec (t.enc x) = some x := by
  cases t with
  | int k => simp [Ty.enc, Ty.dec, takeInt]
  | bool => simp [Ty.enc, Ty.dec, takeBool]
  | str => simp [Ty.enc, Ty.dec, takeStr]
  | unit => rfl
  | rf => simp [Ty.enc, Ty.dec, takeRf]
  | hd => simp [Ty.enc, Ty.dec, takeHd]
  | pt t => simp [Ty.enc, Ty.dec, takePt]
  | sl t => simp [Ty.enc, Ty.dec, takeSl]
  | pair a b =>
    have := uncells_cells (.pair a b) x []
    grind [Ty.enc, Ty.dec, Ty.cells]

theorem decS_enc : ∀ (ts : List Ty) (x : ElS ts), decS ts (encS ts x) = some x
  | [], _ => rfl
  | t :: ts, x => by
    simp [encS, decS, dec_enc, decS_enc ts]

@[reducible] def unrfTs (tE : Ty) : List Ty → List Ty
  | [] => []
  | t :: r => unrfT tE t :: unrfTs tE r

def unrfS {tE : Ty} (st : HSt tE) : (ts : List Ty) → ElS ts → Option (ElS (unrfTs tE ts))
  | [], _ => some ()
  | t :: r, x => match unrfV st t x.1, unrfS st r x.2 with
    | some y, some z => some (y, z)
    | _, _ => none

@[reducible] def unrfR (tE : Ty) : RTy → RTy
  | .p ty => .p (unrfT tE ty)
  | .o ty => .o (unrfT tE ty)
  | .tu tys => .tu (unrfTs tE tys)

def unrfRV {tE : Ty} (st : HSt tE) : (R : RTy) → R.El → Option (unrfR tE R).El
  | .p ty, x => unrfV st ty x
  | .o ty, xs => mapO (unrfV st ty) xs
  | .tu tys, x => unrfS st tys x

section
variable {tE : Ty} {st : HSt tE} {F F' : Blk → Prop} {O : Nat → Prop} {w : World} {hb hc : Nat → Nat}

theorem unrfS_rd (h : HRel tE st F O w hb hc) (hF : ∀ b : Nat, F b → F' b) (hO : ∀ b, O b → F' (.b b)) : ∀ (ts : List Ty) (x : ElS ts) (y : ElS (unrfTs tE ts)), unrfS st ts x = some y →
    (encS ts x).length = (encS (unrfTs tE ts) y).length ∧ ∀ (i : Nat) (v : Value) (d d' : V), (encS ts x)[i]? = some d → (encS (unrfTs tE ts) y)[i]? = some d' → Rd w F v d → Rd w F' v d'
  | [], _, _, _ => ⟨rfl, fun i v d d' hd => by simp [encS] at hd⟩
  | t :: ts, x, y, hxy => by
    simp only [unrfS] at hxy
    split at hxy
    · rename_i y1 y2 h1 h2
      obtain rfl : (y1, y2) = y := Option.some.inj hxy
      obtain ⟨k1, k2⟩ := unrfS_rd h hF hO ts x.2 y2 h2
      grind [List.length_cons, List.getElem?_cons_zero, Option.some.injEq, unrf_rd, encS]
    · cases hxy

theorem unrf_row (h : HRel tE st F O w hb hc) (hF : ∀ b : Nat, F b → F' b) (hO : ∀ b, O b → F' (.b b)) {t : Ty} {xs : List t.El} {ys : List (unrfT tE t).El} (hxy : mapO (unrfV st t) xs = some ys) {b k cap : Nat}
    (hr : RowRel w F b k cap (xs.map t.enc)) : RowRel w F' b k cap (ys.map (unrfT tE t).enc) := by
  obtain ⟨hlen, hget⟩ := mapO_get hxy
  obtain ⟨c, et, h1, h2, h3, h4, h5⟩ := hr
  refine ⟨c, et, h1, h2, by grind, ?_, ?_⟩
  · intro e he
    simp at he
    obtain ⟨y0, hy0, rfl⟩ := he
    rw [enc_len, unrf_size]
    obtain ⟨j, hj⟩ := List.getElem?_of_mem hy0
    obtain ⟨x0, hx0, _⟩ := hget j y0 hj
    have := h4 (t.enc x0) (List.mem_map_of_mem (List.mem_of_getElem? hx0))
    grind [enc_len]
  · intro i j e d' x hi hj hx
    simp at hi
    obtain ⟨y0, hy0, rfl⟩ := hi
    obtain ⟨x0, hx0, hxy0⟩ := hget i y0 hy0
    rw [enc_cells] at hj
    have hjl : j < (t.cells x0).length := by
      grind [List.getElem?_eq_some_iff, cells_len, unrf_size]
    exact unrf_cell h hF hO t x0 y0 hxy0 j _ (t.cells x0)[j] d' (by simp [hjl]) hj (h5 i j (t.enc x0) _ x (by simp [hx0]) (by grind [enc_cells]) hx)

theorem unrf_ret (h : HRel tE st F O w hb hc) (hF : ∀ b : Nat, F b → F' b) (hO : ∀ b, O b → F' (.b b)) (hF' : ∀ b : Nat, F' b → F b ∨ O b) {N : Nat} {R : RTy} {x : R.El} {y : (unrfR tE R).El} (hxy : unrfRV st R x = some y) {v : Value}
    (hr : RetRel N w F O v (R.res x)) : RetRel N w F' (fun _ => False) v ((unrfR tE R).res y) := by
  cases R with
  | p ty => exact unrf_rd h hF hO ty x y hxy hr
  | o ty =>
    have hxy : mapO (unrfV st ty) x = some y := hxy
    obtain ⟨hlen, _⟩ := mapO_get hxy
    rcases hr with ⟨h0, hv⟩ | ⟨h0, b, cap, h1, h2, h3, h4, h5, k, h6⟩
    · have hx0 : x = [] := by simpa using h0
      subst hx0
      have hy0 : y = [] := List.eq_nil_of_length_eq_zero hlen.symm
      subst hy0
      exact .inl ⟨rfl, hv⟩
    · refine .inr ⟨?_, b, cap, by grind, h2, h3, fun hh => (hF' b hh).elim h4 h5, fun hh => hh, k, unrf_row h hF hO hxy h6⟩
      intro hh
      simp_all
  | tu tys =>
    have hr : Rd w F v (.tup (encS tys x)) := hr
    obtain ⟨k1, k2⟩ := unrfS_rd h hF hO tys x y hxy
    cases hr with
    | tup cs _ hl hh =>
      refine Rd.tup cs (encS (unrfTs tE tys) y) (hl.trans k1) ?_
      grind
end

/-- What a function over a state of lists comes to from no lists on. -/
def unheap {tE : Ty} {X : Type} (R : RTy) (g : HSt tE → X → Option (HSt tE × R.El)) (x : X) : Option (unrfR tE R).El :=
  match g [] x with
  | some (st, y) => unrfRV st R y
  | none => none

theorem fnOk_unheap {tE : Ty} {P : Program} {G : Nat → Option (List V)} (hG0 : ∀ g, G g = none) {f : FuncId} {ts : List Ty} (hts : ts.all Ty.norf = true) {R : RTy} {g : HSt tE → ElS ts → Option (HSt tE × R.El)}
    (h : FnOk (heapSig tE) P G f (callS (specS (decS ts) R g))) : FnOk unitSig P G f (callS (specX ts (unrfR tE R) (unheap R g))) := by
  intro w F O s args ds s' r hsig hG hF hlen hrd hspec
  simp [callS, specX, specG] at hspec
  cases hx : decS ts ds with
  | none => grind
  | some x =>
    rw [hx] at hspec
    simp at hspec
    obtain ⟨y, hy, rfl, rfl⟩ := hspec
    unfold unheap at hy
    split at hy
    · rename_i st y0 hg
      have hwk := decS_sound ts ds x hx
      let F0 : Blk → Prop := onlyB F
      have hR0 : (heapSig tE).R [] F0 (fun _ => False) w := ⟨fun _ => 0, fun _ => 0, fun id xs hh => by simp at hh, fun id _ a n c hh => hh, fun id xs hh => by simp at hh, fun id id' xs xs' hh => by simp at hh, fun b hh => hh.elim, onlyB_nok F⟩
      have hcall := h w F0 (fun _ => False) [] args (encS ts x) st (R.res y0) hR0 (fun g cs hg => by grind) (fun b hb => ⟨(hF b hb).1, fun hh => hh⟩) (hlen.trans hwk.len) (by
        intro i u d hu hd
        have hlt : i < ds.length := by grind
        have := hwk.get i ds[i] d (by simp [hlt]) hd w F u (hrd i u ds[i] hu (by simp [hlt]))
        exact encS_norf (F := F) (F' := F0) (fun b hb => hb) ts x hts i u d hd this) (by simp [callS, specS, decS_enc]; rw [hg]; rfl)
      refine hcall.mono ?_
      rintro e w' ⟨v, F', O', rfl, ⟨hb, hc, g1⟩, g2, g3, g4, g5, g6⟩
      let F'' : Blk → Prop := mixB F fun b => match b with
        | .b n => F' (.b n) ∨ O' n
        | _ => False
      refine ⟨v, F'', fun _ => False, rfl, ⟨fun _ hh => hh, hsig.2.of (mixB_reg _ _)⟩, ⟨g2.os, g2.tape, g2.output, g2.size, fun b hb _ => g2.block b hb (fun hh => hh), g2.drawn⟩, fun b hh => hh.elim, ?_, ?_, ?_⟩
      · refine .of_reg (fun b hb0 => ?_) (mixB_reg _ _)
        cases b with
        | b n => exact .inl (g4.1 (.b n) hb0)
        | _ => exact hb0
      · intro b hb0
        rcases hb0 with hb0 | hb0
        · obtain ⟨k1, k2, _⟩ := g5 b hb0
          exact ⟨k1, k2, fun hh => hh⟩
        · refine ⟨.inr ((g3 b hb0).elim (fun hh => hh.elim) (fun hh => hh)), (heapSig tE).inb (⟨hb, hc, g1⟩ : (heapSig tE).R st F' O' w') b hb0, fun hh => hh⟩
      · exact unrf_ret (F' := F'') g1 (fun b hh => .inl hh) (fun b hh => .inr hh) (fun b hh => hh) hy g6
    · cases hy

/-- What a contract over data comes to on typed data. -/
def runX {St : Type} (S : St → List V → Option (St × RV)) (ts : List Ty) (R : RTy) (s : St) (x : ElS ts) : Option (St × R.El) :=
  match S s (encS ts x) with
  | some (s', r) => match R.get r with
    | some y => some (s', y)
    | none => none
  | none => none

theorem fnOk_runX {Γ : Sig} [hcalm : Calm Γ] {P : Program} {G : Nat → Option (List V)} {f : FuncId} {S : Γ.St → List V → Option (Γ.St × RV)} (h : FnOk Γ P G f S) (ts : List Ty) (R : RTy) :
    FnOk Γ P G f (callS (specS (decS ts) R (runX S ts R))) := by
  intro w F O s args ds s' r hsig hG hF hlen hrd hspec
  simp [callS, specS] at hspec
  cases hx : decS ts ds with
  | none => grind
  | some x =>
    rw [hx] at hspec
    simp only [Option.map_eq_some_iff, Prod.mk.injEq] at hspec
    obtain ⟨⟨s1, y⟩, hy, rfl, rfl⟩ := hspec
    unfold runX at hy
    split at hy
    · rename_i s2 r0 hS
      split at hy
      · rename_i y0 hy0
        simp at hy
        obtain ⟨rfl, rfl⟩ := hy
        have hwk := decS_sound ts ds x hx
        have hcall := h w F O s args (encS ts x) s2 r0 hsig hG hF (hlen.trans hwk.len) (by
          intro i u d hu hd
          have hlt : i < ds.length := by grind
          exact hwk.get i ds[i] d (by simp [hlt]) hd w F u (hrd i u ds[i] hu (by simp [hlt]))) hS
        refine hcall.mono ?_
        rintro e w' ⟨v, F', O', rfl, g1, g2, g3, g4, g5, g6⟩
        obtain ⟨F'', k1, kh, k2, k3⟩ := RTy.get_sound hy0 g6
        refine ⟨v, F'', O', rfl, Γ.mono g1 kh (fun _ _ => rfl) (fun _ _ h => ⟨k1 _ h, rfl⟩), g2, g3, (g4.to (fun h => hcalm.no h.1)).trans (.of_reg k1 kh) (Nat.le_refl _), ?_, k3⟩
        grind
      · cases hy
    · cases hy

theorem fnOk_wkS {Γ : Sig} {P : Program} {G : Nat → Option (List V)} {f : FuncId} {S S' : Γ.St → List V → Option (Γ.St × RV)} (h : FnOk Γ P G f S) (hs : ∀ s ds r, S' s ds = some r → S s ds = some r) : FnOk Γ P G f S' :=
  fun w F O s args ds s' r a1 a2 a3 a4 a5 a6 => h w F O s args ds s' r a1 a2 a3 a4 a5 (hs _ _ _ a6)
end Go.Ve

namespace Go.Ve
open Go
set_option maxRecDepth 1000000
noncomputable def law5_Small : ElS [tRouter] → Option (RTy.El (.p .bool)) := fun x => match x with | (a1, ()) => Option.bind (bif decide ((↑(List.length a1.snd.snd.fst) : Int) > (12 : Int)) then some true else bif decide ((↑(List.length a1.snd.snd.snd.fst) : Int) > (12 : Int)) then some true else bif decide ((↑(List.length a1.snd.snd.snd.snd.fst) : Int) > (12 : Int)) then some true else bif decide ((↑(List.length a1.snd.snd.snd.snd.snd.fst) : Int) > (12 : Int)) then some true else bif decide ((↑(List.length a1.snd.snd.snd.snd.snd.snd.fst) : Int) > (12 : Int)) then some true else bif decide ((↑(List.length a1.snd.snd.snd.snd.snd.snd.snd.fst) : Int) > (20 : Int)) then some true else bif decide ((↑(List.length a1.snd.snd.snd.snd.snd.snd.snd.snd.fst.snd.snd.fst) : Int) > (8 : Int)) then some true else bif decide ((↑(List.length a1.snd.snd.snd.snd.snd.snd.snd.snd.fst.snd.snd.snd.fst) : Int) > (8 : Int)) then some true else bif decide ((↑(List.length a1.snd.snd.snd.snd.snd.snd.snd.snd.snd.fst.snd.snd.snd.snd.fst) : Int) > (8 : Int)) then some true else bif decide ((↑(List.length a1.snd.snd.snd.snd.snd.snd.snd.snd.snd.snd.fst.snd.snd.snd.snd.snd.snd.snd.fst) : Int) > (8 : Int)) then some true else bif decide ((↑(List.length a1.snd.snd.snd.snd.snd.snd.snd.snd.snd.snd.fst.snd.snd.snd.fst) : Int) > (12 : Int)) then some true else bif decide ((↑(List.length a1.snd.snd.snd.snd.snd.snd.snd.snd.snd.snd.fst.snd.snd.snd.snd.fst) : Int) > (12 : Int)) then some true else bif decide ((↑(List.length a1.snd.snd.snd.snd.snd.snd.snd.snd.snd.snd.fst.snd.snd.snd.snd.snd.fst) : Int) > (12 : Int)) then some true else some (decide ((↑(List.length a1.snd.snd.snd.snd.snd.snd.snd.snd.snd.snd.fst.snd.snd.snd.snd.snd.snd.fst) : Int) > (12 : Int)))) fun (s0 : Bool) => bif s0 then some false else cut2 (loopX (fun (s5 : Int) => bif decide (s5 < (↑(List.length a1.snd.snd.snd.fst) : Int)) then Option.bind (idx a1.snd.snd.snd.fst s5) fun (y6 : Ty.El tPList) => bif decide ((↑(List.length y6.snd.fst) : Int) > (20 : Int)) then some (Sum.inr (Sum.inr false)) else some (Sum.inl (IntKind.wrap IntKind.i64 (s5 + (1 : Int)))) else some (Sum.inr (Sum.inl ()))) (0 : Int)) fun (s7 : Unit) => cut2 (loopX (fun (s12 : Int) => bif decide (s12 < (↑(List.length a1.snd.snd.snd.snd.fst) : Int)) then Option.bind (idx a1.snd.snd.snd.snd.fst s12) fun (y13 : Ty.El tRMap) => bif decide ((↑(List.length y13.snd.fst) : Int) > (12 : Int)) then some (Sum.inr (Sum.inr false)) else some (Sum.inl (IntKind.wrap IntKind.i64 (s12 + (1 : Int)))) else some (Sum.inr (Sum.inl ()))) (0 : Int)) fun (s14 : Unit) => cut2 (loopX (fun (s19 : Int) => bif decide (s19 < (↑(List.length a1.snd.snd.snd.snd.snd.fst) : Int)) then Option.bind (idx a1.snd.snd.snd.snd.snd.fst s19) fun (y20 : Ty.El tACL) => bif decide ((↑(List.length y20.snd.fst) : Int) > (20 : Int)) then some (Sum.inr (Sum.inr false)) else some (Sum.inl (IntKind.wrap IntKind.i64 (s19 + (1 : Int)))) else some (Sum.inr (Sum.inl ()))) (0 : Int)) fun (s21 : Unit) => some true
noncomputable def law13_Small : ElS [tNetwork] → Option (RTy.El (.p .bool)) := fun x => match x with | (a1, ()) => bif decide ((↑(List.length a1.fst) : Int) > (9 : Int)) then some false else cut2 (loopX (fun (s6 : Int) => bif decide (s6 < (↑(List.length a1.fst) : Int)) then Option.bind (idx a1.fst s6) fun (y7 : Ty.El tRouter) => Option.bind (law5_Small (y7, ())) fun (y8 : Bool) => bif !y8 then some (Sum.inr (Sum.inr false)) else some (Sum.inl (IntKind.wrap IntKind.i64 (s6 + (1 : Int)))) else some (Sum.inr (Sum.inl ()))) (0 : Int)) fun (s9 : Unit) => some true
noncomputable def ref4_Compare : ElS [tPrefix, tPrefix] → Option (RTy.El (.p tI)) := fun x => match x with | (a1, a2, ()) => Option.bind (bif decide (a1.fst < a2.fst) then some true else bif a1.fst == a2.fst then some (decide (a1.snd.fst < a2.snd.fst)) else some false) fun (s0 : Bool) => bif s0 then some (-1 : Int) else bif a1.fst == a2.fst && (a1.snd.fst == a2.snd.fst && true) then some (0 : Int) else some (1 : Int)
noncomputable def ref15_Build_H : HSt tPorts → ElS [tNetwork] → Option (HSt tPorts × RTy.El (.tu [tTopoR, tI])) := fun st0 x => match x with | (a1, ()) => Option.bind (ref8_Check (a1, ())) fun (y0 : Int) => bif y0 != (0 : Int) then some (st0, ([], [], ()), y0, ()) else Option.bind (loopX (fun (s1 : Int × (List (Ty.El tDomainR) × List Int) × HSt tPorts) => bif decide (s1.fst < (↑(List.length a1.fst) : Int)) then Option.bind (loopX (fun (s2 : Int × (List (Ty.El tDomainR) × List Int) × HSt tPorts) => Option.bind (idx a1.fst s1.fst) fun (y3 : Ty.El tRouter) => bif decide (s2.fst < (↑(List.length y3.snd.snd.fst) : Int)) then Option.bind (Option.bind (idx a1.fst s1.fst) fun (y4 : Ty.El tRouter) => Option.bind (idx y4.snd.snd.fst s2.fst) fun (y5 : Ty.El tIface) => Option.bind (bif y5.snd.snd.fst == (0 : Int) then some (true, s2.snd) else some (y5.snd.snd.snd.snd.fst, s2.snd)) fun (s6 : Bool × (List (Ty.El tDomainR) × List Int) × HSt tPorts) => bif s6.fst then some s6.snd else Option.bind (ref4_Network (y5.snd.fst, y5.snd.snd.fst, ())) fun (y7 : Int × Int × Unit) => Option.bind (loopX (fun (s8 : Int × (List (Ty.El tDomainR) × List Int) × HSt tPorts) => Option.bind (bif decide (s8.fst < (↑(List.length s8.snd.fst.fst) : Int)) then Option.bind (idx s8.snd.fst.fst s8.fst) fun (y16 : Ty.El tDomainR) => Option.bind (atN s8.snd.fst.fst (Int.toNat s8.fst)) fun (y17 : Ty.El tDomainR) => Option.bind (ref4_Compare (y17.fst, y7, ())) fun (y18 : Int) => bif decide (y18 < (0 : Int)) then some (true, s8.snd) else Option.bind (idx s8.snd.fst.fst s8.fst) fun (y19 : Ty.El tDomainR) => Option.bind (atN s8.snd.fst.fst (Int.toNat s8.fst)) fun (y20 : Ty.El tDomainR) => bif y20.fst.fst == y7.fst && (y20.fst.snd.fst == y7.snd.fst && true) then Option.bind (idx s8.snd.fst.fst s8.fst) fun (y21 : Ty.El tDomainR) => Option.bind (atN s8.snd.fst.fst (Int.toNat s8.fst)) fun (y22 : Ty.El tDomainR) => some (decide (y22.snd.fst < y5.snd.snd.snd.fst), s8.snd) else some (false, s8.snd) else some (false, s8.snd)) fun (s23 : Bool × (List (Ty.El tDomainR) × List Int) × HSt tPorts) => bif s23.fst then some (Sum.inl (IntKind.wrap IntKind.i64 (s8.fst + (1 : Int)), s23.snd)) else some (Sum.inr (s8.fst, s23.snd))) ((0 : Int), s6.snd)) fun (s24 : Int × (List (Ty.El tDomainR) × List Int) × HSt tPorts) => Option.bind (Option.bind (bif s24.fst == (↑(List.length s24.snd.fst.fst) : Int) then some (true, s24.snd) else Option.bind (idx s24.snd.fst.fst s24.fst) fun (y29 : Ty.El tDomainR) => Option.bind (atN s24.snd.fst.fst (Int.toNat s24.fst)) fun (y30 : Ty.El tDomainR) => bif !(y30.fst.fst == y7.fst && (y30.fst.snd.fst == y7.snd.fst && true)) then some (true, s24.snd) else Option.bind (idx s24.snd.fst.fst s24.fst) fun (y31 : Ty.El tDomainR) => Option.bind (atN s24.snd.fst.fst (Int.toNat s24.fst)) fun (y32 : Ty.El tDomainR) => some (y32.snd.fst != y5.snd.snd.snd.fst, s24.snd)) fun (s33 : Bool × (List (Ty.El tDomainR) × List Int) × HSt tPorts) => bif s33.fst then bif decide ((0 : Int) ≤ s24.fst) && decide (s24.fst ≤ (↑(List.length s33.snd.fst.fst) : Int)) && decide ((↑(List.length s33.snd.fst.fst) : Int) ≤ (↑(List.length s33.snd.fst.fst) : Int)) then Option.bind (app (48 : Nat) [] (List.drop (Int.toNat s24.fst) (List.take (Int.toNat (↑(List.length s33.snd.fst.fst) : Int)) s33.snd.fst.fst))) fun (y34 : List (Ty.El tDomainR)) => bif decide ((0 : Int) ≤ (0 : Int)) && decide ((0 : Int) ≤ s24.fst) && decide (s24.fst ≤ (↑(List.length s33.snd.fst.fst) : Int)) then Option.bind (app (48 : Nat) (List.take (Int.toNat s24.fst) s33.snd.fst.fst) [(y7, y5.snd.snd.snd.fst, none, ())]) fun (y35 : List (Ty.El tDomainR)) => Option.bind (app (48 : Nat) y35 y34) fun (y36 : List (Ty.El tDomainR)) => some ((y36, s33.snd.fst.snd), s33.snd.snd) else none else none else some s33.snd) fun (s37 : (List (Ty.El tDomainR) × List Int) × HSt tPorts) => Option.bind (idx s37.fst.fst s24.fst) fun (y38 : Ty.El tDomainR) => Option.bind (atN s37.fst.fst (Int.toNat s24.fst)) fun (y39 : Ty.El tDomainR) => Option.bind (happ (16 : Nat) s37.snd y39.snd.snd.fst [(s1.fst, s2.fst, ())]) fun (y40 : List (Option (List (Ty.El tPorts))) × Option (Nat × Nat)) => Option.bind (idx s37.fst.fst s24.fst) fun (y41 : Ty.El tDomainR) => Option.bind (atN s37.fst.fst (Int.toNat s24.fst)) fun (y42 : Ty.El tDomainR) => some ((List.set s37.fst.fst (Int.toNat s24.fst) (y42.fst, y42.snd.fst, y40.snd, ()), s37.fst.snd), y40.fst)) fun (s43 : (List (Ty.El tDomainR) × List Int) × HSt tPorts) => some (Sum.inl (IntKind.wrap IntKind.i64 (s2.fst + (1 : Int)), s43)) else some (Sum.inr s2.snd)) ((0 : Int), s1.snd)) fun (s44 : (List (Ty.El tDomainR) × List Int) × HSt tPorts) => some (Sum.inl (IntKind.wrap IntKind.i64 (s1.fst + (1 : Int)), s44)) else some (Sum.inr s1.snd)) ((0 : Int), ([], []), st0)) fun (s45 : (List (Ty.El tDomainR) × List Int) × HSt tPorts) => Option.bind (loopX (fun (s67 : Int × (List (Ty.El tDomainR) × List Int) × HSt tPorts) => bif decide (s67.fst < (↑(List.length s67.snd.fst.fst) : Int)) then Option.bind (Option.bind (idx s67.snd.fst.fst s67.fst) fun (y68 : Ty.El tDomainR) => Option.bind (atN s67.snd.fst.fst (Int.toNat s67.fst)) fun (y69 : Ty.El tDomainR) => bif decide ((↑(rfLen y69.snd.snd.fst) : Int) > (1 : Int)) then Option.bind (app (8 : Nat) s67.snd.fst.snd [s67.fst]) fun (y70 : List Int) => some ((s67.snd.fst.fst, y70), s67.snd.snd) else some s67.snd) fun (s71 : (List (Ty.El tDomainR) × List Int) × HSt tPorts) => some (Sum.inl (IntKind.wrap IntKind.i64 (s67.fst + (1 : Int)), s71)) else some (Sum.inr s67.snd)) ((0 : Int), s45)) fun (s72 : (List (Ty.El tDomainR) × List Int) × HSt tPorts) => bif decide ((↑(List.length s72.fst.snd) : Int) > (12 : Int)) then some (s72.snd, ([], [], ()), (7 : Int), ()) else some (s72.snd, (s72.fst.fst, s72.fst.snd, ()), (0 : Int), ())
noncomputable def ref15_Build : ElS [tNetwork] → Option (RTy.El (.tu [tTopo, tI])) := unheap (.tu [tTopoR, tI]) ref15_Build_H
noncomputable def ref15_Ascending : ElS [(.sl tI), tI] → Option (RTy.El (.p .bool)) := fun x => match x with | (a1, a2, ()) => bif decide ((↑(List.length a1) : Int) > (2 : Int)) then some false else cut2 (loopX (fun (s20 : Int) => bif decide (s20 < (↑(List.length a1) : Int)) then Option.bind (Option.bind (idx a1 s20) fun (y21 : Int) => bif decide (y21 < (0 : Int)) then some true else Option.bind (idx a1 s20) fun (y22 : Int) => bif decide (y22 ≥ a2) then some true else bif decide (s20 > (0 : Int)) then Option.bind (idx a1 s20) fun (y23 : Int) => Option.bind (idx a1 (IntKind.wrap IntKind.i64 (s20 - (1 : Int)))) fun (y24 : Int) => some (decide (y23 ≤ y24)) else some false) fun (s25 : Bool) => bif s25 then some (Sum.inr (Sum.inr false)) else some (Sum.inl (IntKind.wrap IntKind.i64 (s20 + (1 : Int)))) else some (Sum.inr (Sum.inl ()))) (0 : Int)) fun (s26 : Unit) => some true
noncomputable def ref15_Make : ElS [tNetwork, (.sl tI)] → Option (RTy.El (.tu [tView, tI])) := fun x => match x with | (a1, a2, ()) => Option.bind (ref15_Build (a1, ())) fun (y0 : Ty.El tTopo × Int × Unit) => bif y0.snd.fst != (0 : Int) then some ((([], ()), ([], [], ()), [], ()), y0.snd.fst, ()) else Option.bind (ref15_Ascending (a2, (↑(List.length y0.fst.snd.fst) : Int), ())) fun (y1 : Bool) => bif !y1 then some ((([], ()), ([], [], ()), [], ()), (1 : Int), ()) else Option.bind (app (8 : Nat) [] a2) fun (y3 : List Int) => some ((a1, y0.fst, y3, ()), (0 : Int), ())
noncomputable def law13_View : ElS [tNetwork, (.sl tI)] → Option (RTy.El (.tu [tView, .bool])) := fun x => match x with | (a1, a2, ()) => Option.bind (Option.bind (law13_Small (a1, ())) fun (y1 : Bool) => bif !y1 then some true else some (decide ((↑(List.length a2) : Int) > (2 : Int)))) fun (s2 : Bool) => bif s2 then some ((([], ()), ([], [], ()), [], ()), false, ()) else Option.bind (ref15_Make (a1, a2, ())) fun (y3 : Ty.El tView × Int × Unit) => some (y3.fst, y3.snd.fst == (0 : Int), ())
noncomputable def ref15_within : ElS [tI, tI, tI] → Option (RTy.El (.p .bool)) := fun x => match x with | (a1, a2, a3, ()) => Option.bind (bif decide (a2 ≤ a1) then some (decide (a1 ≤ a3)) else some false) fun (s0 : Bool) => some s0
noncomputable def ref15_plain : ElS [tRoute, .bool, .bool, .bool] → Option (RTy.El (.p .bool)) := fun x => match x with | (a1, a2, a3, a4, ()) => Option.bind (bif a2 then bif a3 then bif a4 then some true else some (a1.snd.snd.snd.snd.snd.snd.snd.snd.snd.snd.fst == (0 : Int)) else bif a1.snd.snd.snd.snd.snd.snd.snd.fst == (0 : Int) then bif (↑(List.length a1.snd.snd.snd.snd.snd.snd.snd.snd.fst) : Int) == (0 : Int) then bif a1.snd.snd.snd.snd.snd.snd.snd.snd.snd.fst == (0 : Int) then bif a4 then some true else some (a1.snd.snd.snd.snd.snd.snd.snd.snd.snd.snd.fst == (0 : Int)) else some false else some false else some false else bif a1.snd.snd.snd.snd.snd.fst == (0 : Int) then bif a3 then bif a4 then some true else some (a1.snd.snd.snd.snd.snd.snd.snd.snd.snd.snd.fst == (0 : Int)) else bif a1.snd.snd.snd.snd.snd.snd.snd.fst == (0 : Int) then bif (↑(List.length a1.snd.snd.snd.snd.snd.snd.snd.snd.fst) : Int) == (0 : Int) then bif a1.snd.snd.snd.snd.snd.snd.snd.snd.snd.fst == (0 : Int) then bif a4 then some true else some (a1.snd.snd.snd.snd.snd.snd.snd.snd.snd.snd.fst == (0 : Int)) else some false else some false else some false else some false) fun (s0 : Bool) => some s0
noncomputable def ref15_lessHop : ElS [tHop, tHop] → Option (RTy.El (.p .bool)) := fun x => match x with | (a1, a2, ()) => Option.bind (bif decide (a1.fst < a2.fst) then some true else bif a1.fst == a2.fst then some (decide (a1.snd.fst < a2.snd.fst)) else some false) fun (s0 : Bool) => some s0
noncomputable def ref15_hops : ElS [(.sl tHop), .bool] → Option (RTy.El (.p .bool)) := fun x => match x with | (a1, a2, ()) => cut2 (loopX (fun (s28 : Int) => bif decide (s28 < (↑(List.length a1) : Int)) then Option.bind (Option.bind (idx a1 s28) fun (y29 : Ty.El tHop) => bif decide (y29.fst < (0 : Int)) then some true else bif decide (s28 > (0 : Int)) then Option.bind (idx a1 (IntKind.wrap IntKind.i64 (s28 - (1 : Int)))) fun (y30 : Ty.El tHop) => Option.bind (idx a1 s28) fun (y31 : Ty.El tHop) => Option.bind (ref15_lessHop (y30, y31, ())) fun (y32 : Bool) => bif !y32 then some true else Option.bind (idx a1 s28) fun (y33 : Ty.El tHop) => some !(y33.snd.fst == (0 : Int)) == a2 else Option.bind (idx a1 s28) fun (y34 : Ty.El tHop) => some !(y34.snd.fst == (0 : Int)) == a2) fun (s35 : Bool) => bif s35 then some (Sum.inr (Sum.inr false)) else some (Sum.inl (IntKind.wrap IntKind.i64 (s28 + (1 : Int)))) else some (Sum.inr (Sum.inl ()))) (0 : Int)) fun (s36 : Unit) => some true
noncomputable def ref15_validStatic : ElS [tRoute] → Option (RTy.El (.p .bool)) := fun x => match x with | (a1, ()) => Option.bind (bif a1.snd.snd.fst != (0 : Int) then some true else bif a1.snd.snd.snd.snd.fst != (0 : Int) then some true else Option.bind (ref15_within (a1.snd.snd.snd.fst, (1 : Int), (255 : Int), ())) fun (y2 : Bool) => bif !y2 then some true else Option.bind (ref15_plain (a1, false, false, true, ())) fun (y3 : Bool) => some !y3) fun (s4 : Bool) => bif s4 then some false else bif a1.snd.snd.snd.snd.snd.snd.snd.snd.snd.snd.fst != (0 : Int) then Option.bind (bif (↑(List.length a1.snd.snd.snd.snd.snd.snd.snd.snd.snd.snd.snd.fst) : Int) == (0 : Int) then some !a1.snd.snd.snd.snd.snd.snd.snd.snd.snd.snd.snd.snd.fst else some false) fun (s5 : Bool) => some s5 else bif a1.snd.snd.snd.snd.snd.snd.snd.snd.snd.snd.snd.snd.fst then some ((↑(List.length a1.snd.snd.snd.snd.snd.snd.snd.snd.snd.snd.snd.fst) : Int) == (0 : Int)) else Option.bind (bif (↑(List.length a1.snd.snd.snd.snd.snd.snd.snd.snd.snd.snd.snd.fst) : Int) == (1 : Int) then Option.bind (ref15_hops (a1.snd.snd.snd.snd.snd.snd.snd.snd.snd.snd.snd.fst, true, ())) fun (y7 : Bool) => some y7 else some false) fun (s8 : Bool) => some s8
noncomputable def ref15_validLinkState : ElS [tRoute] → Option (RTy.El (.p .bool)) := fun x => match x with | (a1, ()) => Option.bind (Option.bind (ref15_within (a1.snd.snd.fst, (1 : Int), (4 : Int), ())) fun (y4 : Bool) => bif !y4 then some true else Option.bind (ref15_within (a1.snd.snd.snd.fst, (1 : Int), (255 : Int), ())) fun (y5 : Bool) => bif !y5 then some true else Option.bind (ref15_within (a1.snd.snd.snd.snd.fst, (0 : Int), (1073741824 : Int), ())) fun (y6 : Bool) => bif !y6 then some true else Option.bind (ref15_plain (a1, true, false, false, ())) fun (y7 : Bool) => some !y7) fun (s8 : Bool) => bif s8 then some false else Option.bind (Option.bind (ref15_within (a1.snd.snd.snd.snd.snd.fst, (0 : Int), (1073741824 : Int), ())) fun (y10 : Bool) => bif !y10 then some true else bif a1.snd.snd.fst != (4 : Int) then some (a1.snd.snd.snd.snd.snd.fst != (0 : Int)) else some false) fun (s11 : Bool) => bif s11 then some false else bif a1.snd.snd.snd.snd.snd.snd.snd.snd.snd.snd.snd.snd.fst then Option.bind (bif a1.snd.snd.fst == (1 : Int) then bif a1.snd.snd.snd.snd.fst == (0 : Int) then bif a1.snd.snd.snd.snd.snd.snd.fst == (0 : Int) then some ((↑(List.length a1.snd.snd.snd.snd.snd.snd.snd.snd.snd.snd.snd.fst) : Int) == (0 : Int)) else some false else some false else some false) fun (s12 : Bool) => some s12 else Option.bind (bif decide ((↑(List.length a1.snd.snd.snd.snd.snd.snd.snd.snd.snd.snd.snd.fst) : Int) > (0 : Int)) then Option.bind (ref15_hops (a1.snd.snd.snd.snd.snd.snd.snd.snd.snd.snd.snd.fst, false, ())) fun (y14 : Bool) => some y14 else some false) fun (s15 : Bool) => some s15
noncomputable def ref15_validDistance : ElS [tRoute] → Option (RTy.El (.p .bool)) := fun x => match x with | (a1, ()) => Option.bind (Option.bind (ref15_within (a1.snd.snd.snd.fst, (1 : Int), (255 : Int), ())) fun (y3 : Bool) => bif !y3 then some true else Option.bind (ref15_within (a1.snd.snd.snd.snd.fst, (1 : Int), (15 : Int), ())) fun (y4 : Bool) => bif !y4 then some true else Option.bind (ref15_plain (a1, false, false, false, ())) fun (y5 : Bool) => bif !y5 then some true else some a1.snd.snd.snd.snd.snd.snd.snd.snd.snd.snd.snd.snd.fst) fun (s6 : Bool) => bif s6 then some false else bif a1.snd.snd.fst == (1 : Int) then Option.bind (bif a1.snd.snd.snd.snd.fst == (1 : Int) then bif a1.snd.snd.snd.snd.snd.snd.fst == (0 : Int) then bif (↑(List.length a1.snd.snd.snd.snd.snd.snd.snd.snd.snd.snd.snd.fst) : Int) == (1 : Int) then Option.bind (ref15_hops (a1.snd.snd.snd.snd.snd.snd.snd.snd.snd.snd.snd.fst, true, ())) fun (y8 : Bool) => some y8 else some false else some false else some false) fun (s9 : Bool) => some s9 else bif a1.snd.snd.fst == (2 : Int) then some ((↑(List.length a1.snd.snd.snd.snd.snd.snd.snd.snd.snd.snd.snd.fst) : Int) == (0 : Int)) else bif a1.snd.snd.fst == (3 : Int) then Option.bind (bif decide ((↑(List.length a1.snd.snd.snd.snd.snd.snd.snd.snd.snd.snd.snd.fst) : Int) > (0 : Int)) then Option.bind (ref15_hops (a1.snd.snd.snd.snd.snd.snd.snd.snd.snd.snd.snd.fst, false, ())) fun (y11 : Bool) => some y11 else some false) fun (s12 : Bool) => some s12 else some false
noncomputable def ref15_validPath : ElS [tRoute] → Option (RTy.El (.p .bool)) := fun x => match x with | (a1, ()) => Option.bind (Option.bind (ref15_within (a1.snd.snd.snd.fst, (1 : Int), (255 : Int), ())) fun (y4 : Bool) => bif !y4 then some true else Option.bind (ref15_within (a1.snd.snd.snd.snd.fst, (0 : Int), (16777215 : Int), ())) fun (y5 : Bool) => bif !y5 then some true else Option.bind (ref15_within (a1.snd.snd.snd.snd.snd.snd.snd.fst, (0 : Int), (1000000 : Int), ())) fun (y6 : Bool) => bif !y6 then some true else Option.bind (ref15_plain (a1, false, true, false, ())) fun (y7 : Bool) => some !y7) fun (s8 : Bool) => bif s8 then some false else Option.bind (bif a1.snd.snd.fst == (1 : Int) then some (a1.snd.snd.fst == (1 : Int)) else some (a1.snd.snd.fst == (2 : Int))) fun (s9 : Bool) => bif s9 then Option.bind (bif (↑(List.length a1.snd.snd.snd.snd.snd.snd.snd.snd.fst) : Int) == (0 : Int) then bif a1.snd.snd.snd.snd.snd.snd.snd.snd.snd.fst == (0 : Int) then bif (↑(List.length a1.snd.snd.snd.snd.snd.snd.snd.snd.snd.snd.snd.fst) : Int) == (0 : Int) then some (a1.snd.snd.snd.snd.snd.snd.snd.snd.snd.snd.snd.snd.fst == (a1.snd.snd.fst == (2 : Int))) else some false else some false else some false) fun (s10 : Bool) => some s10 else Option.bind (bif a1.snd.snd.fst == (3 : Int) then some (a1.snd.snd.fst == (3 : Int)) else some (a1.snd.snd.fst == (4 : Int))) fun (s11 : Bool) => bif s11 then Option.bind (bif a1.snd.snd.fst == (4 : Int) then bif a1.snd.snd.snd.snd.snd.snd.snd.snd.snd.fst != (0 : Int) then bif (↑(List.length a1.snd.snd.snd.snd.snd.snd.snd.snd.snd.snd.snd.fst) : Int) == (1 : Int) then Option.bind (ref15_hops (a1.snd.snd.snd.snd.snd.snd.snd.snd.snd.snd.snd.fst, false, ())) fun (y20 : Bool) => bif y20 then Option.bind (idx a1.snd.snd.snd.snd.snd.snd.snd.snd.snd.snd.snd.fst (0 : Int)) fun (y21 : Ty.El tHop) => bif y21.snd.fst == a1.snd.snd.snd.snd.snd.snd.snd.snd.snd.fst then some !a1.snd.snd.snd.snd.snd.snd.snd.snd.snd.snd.snd.snd.fst else some false else some false else some false else some false else bif decide ((↑(List.length a1.snd.snd.snd.snd.snd.snd.snd.snd.fst) : Int) > (0 : Int)) then bif a1.snd.snd.snd.snd.snd.snd.snd.snd.snd.fst != (0 : Int) then bif (↑(List.length a1.snd.snd.snd.snd.snd.snd.snd.snd.snd.snd.snd.fst) : Int) == (1 : Int) then Option.bind (ref15_hops (a1.snd.snd.snd.snd.snd.snd.snd.snd.snd.snd.snd.fst, false, ())) fun (y22 : Bool) => bif y22 then Option.bind (idx a1.snd.snd.snd.snd.snd.snd.snd.snd.snd.snd.snd.fst (0 : Int)) fun (y23 : Ty.El tHop) => bif y23.snd.fst == a1.snd.snd.snd.snd.snd.snd.snd.snd.snd.fst then some !a1.snd.snd.snd.snd.snd.snd.snd.snd.snd.snd.snd.snd.fst else some false else some false else some false else some false else some false) fun (s24 : Bool) => some s24 else some false
noncomputable def ref15_Valid : ElS [tRoute] → Option (RTy.El (.p .bool)) := fun x => match x with | (a1, ()) => Option.bind (Option.bind (ref4_Valid (a1.fst, ())) fun (y2 : Bool) => bif !y2 then some true else Option.bind (ref15_within (a1.snd.snd.snd.snd.snd.snd.fst, (0 : Int), (65535 : Int), ())) fun (y3 : Bool) => bif !y3 then some true else some (decide ((↑(List.length a1.snd.snd.snd.snd.snd.snd.snd.snd.fst) : Int) > (64 : Int)))) fun (s4 : Bool) => bif s4 then some false else cut2 (loopX (fun (s11 : Int) => bif decide (s11 < (↑(List.length a1.snd.snd.snd.snd.snd.snd.snd.snd.fst) : Int)) then Option.bind (idx a1.snd.snd.snd.snd.snd.snd.snd.snd.fst s11) fun (y12 : Int) => Option.bind (ref15_within (y12, (1 : Int), (65535 : Int), ())) fun (y13 : Bool) => bif !y13 then some (Sum.inr (Sum.inr false)) else some (Sum.inl (IntKind.wrap IntKind.i64 (s11 + (1 : Int)))) else some (Sum.inr (Sum.inl ()))) (0 : Int)) fun (s14 : Unit) => bif a1.snd.fst == (1 : Int) then Option.bind (bif a1.snd.snd.fst == (0 : Int) then bif a1.snd.snd.snd.fst == (0 : Int) then bif a1.snd.snd.snd.snd.fst == (0 : Int) then bif a1.snd.snd.snd.snd.snd.snd.fst == (0 : Int) then Option.bind (ref15_plain (a1, false, false, false, ())) fun (y17 : Bool) => bif y17 then bif !a1.snd.snd.snd.snd.snd.snd.snd.snd.snd.snd.snd.snd.fst then bif (↑(List.length a1.snd.snd.snd.snd.snd.snd.snd.snd.snd.snd.snd.fst) : Int) == (1 : Int) then Option.bind (ref15_hops (a1.snd.snd.snd.snd.snd.snd.snd.snd.snd.snd.snd.fst, true, ())) fun (y18 : Bool) => some y18 else some false else some false else some false else some false else some false else some false else some false) fun (s19 : Bool) => some s19 else bif a1.snd.fst == (2 : Int) then Option.bind (ref15_validStatic (a1, ())) fun (y20 : Bool) => some y20 else bif a1.snd.fst == (3 : Int) then Option.bind (ref15_validLinkState (a1, ())) fun (y21 : Bool) => some y21 else bif a1.snd.fst == (4 : Int) then Option.bind (ref15_validDistance (a1, ())) fun (y22 : Bool) => some y22 else bif a1.snd.fst == (5 : Int) then Option.bind (ref15_validPath (a1, ())) fun (y23 : Bool) => some y23 else some false
noncomputable def ref15_Table : ElS [(.sl tRoute), tI] → Option (RTy.El (.p .bool)) := fun x => match x with | (a1, a2, ()) => cut2 (loopX (fun (s40 : Int) => bif decide (s40 < (↑(List.length a1) : Int)) then Option.bind (Option.bind (idx a1 s40) fun (y41 : Ty.El tRoute) => Option.bind (ref15_Valid (y41, ())) fun (y42 : Bool) => bif !y42 then some true else bif a2 != (0 : Int) then Option.bind (idx a1 s40) fun (y43 : Ty.El tRoute) => bif y43.snd.fst != a2 then some true else bif decide (s40 > (0 : Int)) then Option.bind (idx a1 (IntKind.wrap IntKind.i64 (s40 - (1 : Int)))) fun (y44 : Ty.El tRoute) => Option.bind (idx a1 s40) fun (y45 : Ty.El tRoute) => Option.bind (ref4_Compare (y44.fst, y45.fst, ())) fun (y46 : Int) => some (decide (y46 ≥ (0 : Int))) else some false else bif decide (s40 > (0 : Int)) then Option.bind (idx a1 (IntKind.wrap IntKind.i64 (s40 - (1 : Int)))) fun (y47 : Ty.El tRoute) => Option.bind (idx a1 s40) fun (y48 : Ty.El tRoute) => Option.bind (ref4_Compare (y47.fst, y48.fst, ())) fun (y49 : Int) => some (decide (y49 ≥ (0 : Int))) else some false) fun (s50 : Bool) => bif s50 then some (Sum.inr (Sum.inr false)) else some (Sum.inl (IntKind.wrap IntKind.i64 (s40 + (1 : Int)))) else some (Sum.inr (Sum.inl ()))) (0 : Int)) fun (s51 : Unit) => some true
noncomputable def addr_clamp : ElS [tI] → Option (RTy.El (.p tI)) := fun x => match x with | (a1, ()) => some (if (if (32 : Int) < a1 then (32 : Int) else a1) > (0 : Int) then if (32 : Int) < a1 then (32 : Int) else a1 else (0 : Int))
noncomputable def addr_Mask : ElS [tI] → Option (RTy.El (.p tU)) := fun x => match x with | (a1, ()) => Option.bind (addr_clamp (a1, ())) fun (y0 : Int) => bif decide ((0 : Int) ≤ IntKind.wrap IntKind.i64 ((32 : Int) - y0)) then some (IntKind.wrap IntKind.u32 ((4294967295 : Int) * (2 : Int) ^ min (Int.toNat (IntKind.wrap IntKind.i64 ((32 : Int) - y0))) (IntKind.bits IntKind.u32))) else none
noncomputable def ref15_Same : ElS [tRoute, tRoute] → Option (RTy.El (.p .bool)) := fun x => match x with | (a1, a2, ()) => Option.bind (bif !(a1.fst.fst == a2.fst.fst && (a1.fst.snd.fst == a2.fst.snd.fst && true)) then some true else bif a1.snd.fst != a2.snd.fst then some true else bif a1.snd.snd.fst != a2.snd.snd.fst then some true else bif a1.snd.snd.snd.fst != a2.snd.snd.snd.fst then some true else bif a1.snd.snd.snd.snd.fst != a2.snd.snd.snd.snd.fst then some true else bif a1.snd.snd.snd.snd.snd.fst != a2.snd.snd.snd.snd.snd.fst then some true else bif a1.snd.snd.snd.snd.snd.snd.fst != a2.snd.snd.snd.snd.snd.snd.fst then some true else bif a1.snd.snd.snd.snd.snd.snd.snd.fst != a2.snd.snd.snd.snd.snd.snd.snd.fst then some true else bif a1.snd.snd.snd.snd.snd.snd.snd.snd.snd.fst != a2.snd.snd.snd.snd.snd.snd.snd.snd.snd.fst then some true else bif a1.snd.snd.snd.snd.snd.snd.snd.snd.snd.snd.fst != a2.snd.snd.snd.snd.snd.snd.snd.snd.snd.snd.fst then some true else bif !a1.snd.snd.snd.snd.snd.snd.snd.snd.snd.snd.snd.snd.fst == a2.snd.snd.snd.snd.snd.snd.snd.snd.snd.snd.snd.snd.fst then some true else bif (↑(List.length a1.snd.snd.snd.snd.snd.snd.snd.snd.fst) : Int) != (↑(List.length a2.snd.snd.snd.snd.snd.snd.snd.snd.fst) : Int) then some true else some ((↑(List.length a1.snd.snd.snd.snd.snd.snd.snd.snd.snd.snd.snd.fst) : Int) != (↑(List.length a2.snd.snd.snd.snd.snd.snd.snd.snd.snd.snd.snd.fst) : Int))) fun (s0 : Bool) => bif s0 then some false else cut2 (loopX (fun (s9 : Int) => bif decide (s9 < (↑(List.length a1.snd.snd.snd.snd.snd.snd.snd.snd.fst) : Int)) then Option.bind (idx a1.snd.snd.snd.snd.snd.snd.snd.snd.fst s9) fun (y10 : Int) => Option.bind (idx a2.snd.snd.snd.snd.snd.snd.snd.snd.fst s9) fun (y11 : Int) => bif y10 != y11 then some (Sum.inr (Sum.inr false)) else some (Sum.inl (IntKind.wrap IntKind.i64 (s9 + (1 : Int)))) else some (Sum.inr (Sum.inl ()))) (0 : Int)) fun (s12 : Unit) => cut2 (loopX (fun (s21 : Int) => bif decide (s21 < (↑(List.length a1.snd.snd.snd.snd.snd.snd.snd.snd.snd.snd.snd.fst) : Int)) then Option.bind (idx a1.snd.snd.snd.snd.snd.snd.snd.snd.snd.snd.snd.fst s21) fun (y22 : Ty.El tHop) => Option.bind (idx a2.snd.snd.snd.snd.snd.snd.snd.snd.snd.snd.snd.fst s21) fun (y23 : Ty.El tHop) => bif !(y22.fst == y23.fst && (y22.snd.fst == y23.snd.fst && true)) then some (Sum.inr (Sum.inr false)) else some (Sum.inl (IntKind.wrap IntKind.i64 (s21 + (1 : Int)))) else some (Sum.inr (Sum.inl ()))) (0 : Int)) fun (s24 : Unit) => some true
noncomputable def cmp_isNaN_uint32 : ElS [tU] → Option (RTy.El (.p .bool)) := fun x => match x with | (a1, ()) => some (a1 != a1)
noncomputable def cmp_Compare_uint32 : ElS [tU, tU] → Option (RTy.El (.p tI)) := fun x => match x with | (a1, a2, ()) => Option.bind (cmp_isNaN_uint32 (a1, ())) fun (y0 : Bool) => Option.bind (cmp_isNaN_uint32 (a2, ())) fun (y1 : Bool) => bif y0 then bif y1 then some (0 : Int) else some (-1 : Int) else bif y1 then some (1 : Int) else bif decide (a1 < a2) then some (-1 : Int) else bif decide (a1 > a2) then some (1 : Int) else some (0 : Int)
noncomputable def cmp_isNaN_int : ElS [tI] → Option (RTy.El (.p .bool)) := fun x => match x with | (a1, ()) => some (a1 != a1)
noncomputable def cmp_Compare_int : ElS [tI, tI] → Option (RTy.El (.p tI)) := fun x => match x with | (a1, a2, ()) => Option.bind (cmp_isNaN_int (a1, ())) fun (y0 : Bool) => Option.bind (cmp_isNaN_int (a2, ())) fun (y1 : Bool) => bif y0 then bif y1 then some (0 : Int) else some (-1 : Int) else bif y1 then some (1 : Int) else bif decide (a1 < a2) then some (-1 : Int) else bif decide (a1 > a2) then some (1 : Int) else some (0 : Int)
noncomputable def addr_Compare : ElS [tPrefix, tPrefix] → Option (RTy.El (.p tI)) := fun x => match x with | (a1, a2, ()) => Option.bind (cmp_Compare_uint32 (a1.fst, a2.fst, ())) fun (y0 : Int) => bif y0 != (0 : Int) then some y0 else Option.bind (cmp_Compare_int (a1.snd.fst, a2.snd.fst, ())) fun (y1 : Int) => some y1
noncomputable def ref15_SameAll : ElS [(.sl tRoute), (.sl tRoute)] → Option (RTy.El (.p .bool)) := fun x => match x with | (a1, a2, ()) => bif (↑(List.length a1) : Int) != (↑(List.length a2) : Int) then some false else cut2 (loopX (fun (s11 : Int) => bif decide (s11 < (↑(List.length a1) : Int)) then Option.bind (idx a1 s11) fun (y12 : Ty.El tRoute) => Option.bind (idx a2 s11) fun (y13 : Ty.El tRoute) => Option.bind (ref15_Same (y12, y13, ())) fun (y14 : Bool) => bif !y14 then some (Sum.inr (Sum.inr false)) else some (Sum.inl (IntKind.wrap IntKind.i64 (s11 + (1 : Int)))) else some (Sum.inr (Sum.inl ()))) (0 : Int)) fun (s15 : Unit) => some true
end Go.Ve

namespace Go.Ve
open Go
set_option maxRecDepth 1000000
noncomputable def slices_Clone_int : ElS [(.sl tI)] → Option (RTy.El (.p (.sl tI))) := fun x => match x with | (a1, ()) => Option.bind (app (8 : Nat) [] a1) fun (z : List (Ty.El tI)) => some z
noncomputable def slices_Clone_Hop : ElS [(.sl tHop)] → Option (RTy.El (.p (.sl tHop))) := fun x => match x with | (a1, ()) => Option.bind (app (16 : Nat) [] a1) fun (z : List (Ty.El tHop)) => some z
end Go.Ve

namespace Go.Ve
open Go

/-- There is a value, and it is so. -/
def Wp {α : Type} (m : Option α) (Q : α → Prop) : Prop := ∃ r, m = some r ∧ Q r

section
variable {α β ρ σ : Type}

theorem Wp.mono {m : Option α} {Q Q' : α → Prop} (h : Wp m Q) (hq : ∀ r, Q r → Q' r) : Wp m Q' := by
  obtain ⟨r, h1, h2⟩ := h; exact ⟨r, h1, hq r h2⟩

theorem wp_some {x : α} {Q : α → Prop} (h : Q x) : Wp (some x) Q := ⟨x, rfl, h⟩

theorem wp_bind {m : Option α} {f : α → Option β} {Q : β → Prop} (h : Wp m (fun y => Wp (f y) Q)) : Wp (Option.bind m f) Q := by
  obtain ⟨y, rfl, h⟩ := h; exact h

/-- A bind of which only the second part matters. -/
theorem wp_bindT {m : Option α} {f : α → Option β} {Q : β → Prop} (h : Wp m (fun _ => True)) (k : ∀ y, m = some y → Wp (f y) Q) : Wp (Option.bind m f) Q := by
  obtain ⟨y, rfl, _⟩ := h; exact k y rfl

theorem wp_bif {c : Bool} {x y : Option α} {Q : α → Prop} (h1 : c = true → Wp x Q) (h2 : c = false → Wp y Q) : Wp (bif c then x else y) Q := by
  grind

/-- What is asked of either end. -/
def Either2 (P : σ → Prop) (Q : ρ → Prop) : σ ⊕ ρ → Prop
  | .inl s => P s
  | .inr r => Q r

theorem e2l {P : σ → Prop} {Q : ρ → Prop} {s : σ} (h : P s) : Either2 P Q (.inl s) := h
theorem e2r {P : σ → Prop} {Q : ρ → Prop} {r : ρ} (h : Q r) : Either2 P Q (.inr r) := h

theorem wp_cut2 {m : Option (σ ⊕ ρ)} {K : σ → Option ρ} {Q : ρ → Prop} (h : Wp m (Either2 (fun s => Wp (K s) Q) Q)) : Wp (cut2 m K) Q := by
  obtain ⟨o, rfl, h⟩ := h
  cases o with
  | inl s => exact h
  | inr r => exact ⟨r, rfl, h⟩

theorem wp_loop {f : σ → Option (σ ⊕ ρ)} {Q : ρ → Prop} (J : σ → Prop) (m : σ → Nat) {s0 : σ} (h0 : J s0)
    (step : ∀ s, J s → Wp (f s) (Either2 (fun s' => J s' ∧ m s' < m s) Q)) : Wp (loopX f s0) Q := by
  refine loopX_inv J m Q ?_ h0
  intro s hs
  obtain ⟨o, h1, h2⟩ := step s hs
  refine ⟨o, h1, ?_⟩
  cases o with
  | inl s' => exact h2
  | inr r => exact h2

/-- A loop that counts. -/
theorem wp_for {n s0 : Int} {body els : Int → Option (Int ⊕ ρ)} {Q : ρ → Prop}
    (step : ∀ s, s0 ≤ s → s < n → Wp (body s) (Either2 (fun s' => s' = s + 1) Q))
    (fin : ∀ s, s0 ≤ s → n ≤ s → Wp (els s) (Either2 (fun _ => False) Q)) : Wp (loopX (fun s => bif decide (s < n) then body s else els s) s0) Q := by
  refine wp_loop (fun s => s0 ≤ s) (fun s => (n - s).toNat) (Int.le_refl _) ?_
  intro s hs
  refine wp_bif ?_ ?_
  · intro hc
    have hc : s < n := by simpa using hc
    refine (step s hs hc).mono ?_
    intro o ho
    cases o with
    | inl s' => have : s' = s + 1 := ho; subst this; exact ⟨by omega, by omega⟩
    | inr r => exact ho
  grind

/-- One that counts and carries something of which an invariant holds. -/
theorem wp_for2 {γ : Type} {n s0 : Int} {g0 : γ} {body els : Int × γ → Option ((Int × γ) ⊕ ρ)} {Q : ρ → Prop} (J : Int → γ → Prop) (h0 : J s0 g0)
    (step : ∀ s g, s0 ≤ s → s < n → J s g → Wp (body (s, g)) (Either2 (fun o => o.1 = s + 1 ∧ J (s + 1) o.2) Q))
    (fin : ∀ s g, s0 ≤ s → n ≤ s → J s g → Wp (els (s, g)) (Either2 (fun _ => False) Q)) : Wp (loopX (fun o => bif decide (o.fst < n) then body o else els o) (s0, g0)) Q := by
  refine wp_loop (fun o => s0 ≤ o.1 ∧ J o.1 o.2) (fun o => (n - o.1).toNat) ⟨Int.le_refl _, h0⟩ ?_
  rintro ⟨s, g⟩ ⟨hs, hj⟩
  refine wp_bif ?_ ?_
  · intro hc
    have hc : s < n := by simpa using hc
    refine (step s g hs hc hj).mono ?_
    intro o ho
    cases o with
    | inl s' => obtain ⟨s1, g1⟩ := s'; obtain ⟨h1, h2⟩ := ho; simp only at h1 h2; subst h1; exact ⟨⟨by omega, h2⟩, by simp only; omega⟩
    | inr r => exact ho
  grind

theorem wp_idx {xs : List α} {i : Int} {Q : α → Prop} (h0 : 0 ≤ i) (h1 : i < xs.length) (h : ∀ y, y ∈ xs → xs[i.toNat]? = some y → Q y) : Wp (idx xs i) Q := by
  unfold idx
  rw [if_pos h0]
  have hl : i.toNat < xs.length := by omega
  exact ⟨xs[i.toNat], by simp [hl], h _ (List.getElem_mem hl) (by simp [hl])⟩

theorem wp_byteAt {s : ByteArray} {i : Int} {Q : Int → Prop} (h0 : 0 ≤ i) (h1 : i < s.size) (h : ∀ y, 0 ≤ y → y < 256 → Q y) : Wp (byteAt s i) Q := by
  unfold byteAt
  rw [if_pos h0]
  have hl : i.toNat < s.size := by omega
  refine ⟨(s[i.toNat].toNat : Int), by simp [hl], h _ (by omega) ?_⟩
  have := s[i.toNat].toNat_lt
  omega

theorem wp_app {bytes : Nat} {xs ys : List α} {Q : List α → Prop} (h0 : (2 * (xs.length + ys.length) + 1024) * bytes ≤ 140737488355328) (h : Q (xs ++ ys)) : Wp (app bytes xs ys) Q := by
  unfold app
  rw [if_pos h0]
  exact ⟨_, rfl, h⟩

end

theorem wrap_i64 {x : Int} (h0 : -9223372036854775808 ≤ x) (h1 : x < 9223372036854775808) : IntKind.wrap .i64 x = x := by
  have e1 : ((2 : Int) ^ IntKind.bits .i64) = 18446744073709551616 := by decide
  have e2 : ((2 : Int) ^ (IntKind.bits .i64 - 1)) = 9223372036854775808 := by decide
  simp only [IntKind.wrap, IntKind.signed, Bool.true_and, decide_eq_true_eq, e1, e2]
  split <;> omega

theorem wrap_u64 {x : Int} (h0 : 0 ≤ x) (h1 : x < 18446744073709551616) : IntKind.wrap .u64 x = x := by
  have e1 : ((2 : Int) ^ IntKind.bits .u64) = 18446744073709551616 := by decide
  simp [IntKind.wrap, IntKind.signed, e1]
  omega

theorem wp_bifd {α : Type} {p : Prop} [Decidable p] {x y : Option α} {Q : α → Prop} (h1 : p → Wp x Q) (h2 : ¬ p → Wp y Q) : Wp (bif decide p then x else y) Q := by
  grind

theorem wp_bifn {α : Type} {p : Prop} [Decidable p] {x y : Option α} {Q : α → Prop} (h1 : ¬ p → Wp x Q) (h2 : p → Wp y Q) : Wp (bif !decide p then x else y) Q := by
  grind
end Go.Ve

namespace Go.Ve
open Go

theorem idx_nat {α : Type} {xs : List α} {i : Nat} {x : α} (h : xs[i]? = some x) : idx xs (i : Int) = some x := by
  simp_all [idx]

theorem wp_eq {α : Type} {m : Option α} {x : α} {Q : α → Prop} (h : m = some x) (hq : Q x) : Wp m Q := ⟨x, h, hq⟩

section
variable {α γ ρ : Type}

/-- A loop over a list that carries something. -/
theorem wp_fold {xs : List α} {g0 : γ} {body : Int × γ → Option γ} {Q : γ → Prop} (hl : xs.length < 4611686018427387904) (J : Nat → γ → Prop) (h0 : J 0 g0)
    (step : ∀ i x g, xs[i]? = some x → J i g → Wp (body ((i : Int), g)) (J (i + 1))) (fin : ∀ g, J xs.length g → Q g) :
    Wp (loopX (fun s : Int × γ => bif decide (s.fst < (xs.length : Int)) then Option.bind (body s) (fun g => some (Sum.inl (IntKind.wrap IntKind.i64 (s.fst + (1 : Int)), g))) else some (Sum.inr s.snd)) ((0 : Int), g0)) Q := by
  refine wp_loop (fun (s : Int × γ) => ∃ i : Nat, s.1 = (i : Int) ∧ i ≤ xs.length ∧ J i s.2) (fun (s : Int × γ) => ((xs.length : Int) - s.1).toNat) ⟨(0 : Nat), rfl, Nat.zero_le _, h0⟩ ?_
  rintro ⟨s, g⟩ ⟨i, hi, hle, hj⟩
  simp only at hi
  subst hi
  refine wp_bifd ?_ ?_
  · intro hc
    have hlt : i < xs.length := by omega
    refine wp_bind ((step i xs[i] g (by simp [hlt]) hj).mono ?_)
    grind [wp_some, e2l, wrap_i64]
  grind [wp_some, e2r]

/-- A loop that counts up to a number that what it carries determines. -/
theorem wp_foldN {n : Nat} {c : Int × γ → Int} {g0 : γ} {body : Int × γ → Option γ} {Q : γ → Prop} (hl : n < 4611686018427387904) (J : Nat → γ → Prop) (h0 : J 0 g0) (hc : ∀ i g, J i g → c ((i : Int), g) = n)
    (step : ∀ i g, i < n → J i g → Wp (body ((i : Int), g)) (J (i + 1))) (fin : ∀ g, J n g → Q g) :
    Wp (loopX (fun s : Int × γ => bif decide (s.fst < c s) then Option.bind (body s) (fun g => some (Sum.inl (IntKind.wrap IntKind.i64 (s.fst + (1 : Int)), g))) else some (Sum.inr s.snd)) ((0 : Int), g0)) Q := by
  refine wp_loop (fun (s : Int × γ) => ∃ i : Nat, s.1 = (i : Int) ∧ i ≤ n ∧ J i s.2) (fun (s : Int × γ) => ((n : Int) - s.1).toNat) ⟨(0 : Nat), rfl, Nat.zero_le _, h0⟩ ?_
  rintro ⟨s, g⟩ ⟨i, hi, hle, hj⟩
  simp only at hi
  subst hi
  have hci := hc i g hj
  refine wp_bifd ?_ ?_
  · intro hc'
    simp only [hci] at hc'
    have hlt : i < n := by omega
    refine wp_bind ((step i g hlt hj).mono ?_)
    grind [wp_some, e2l, wrap_i64]
  grind [wp_some, e2r]

/-- A loop over a list that looks for something. -/
theorem wp_find {xs : List α} {body : Int → Option (Int ⊕ (Unit ⊕ ρ))} {K : Unit → Option ρ} {Q : ρ → Prop} (hl : xs.length < 4611686018427387904) (J : Nat → Prop) (h0 : J 0)
    (step : ∀ i x, xs[i]? = some x → J i → Wp (body (i : Int)) (Either2 (fun s' => s' = IntKind.wrap IntKind.i64 ((i : Int) + 1) ∧ J (i + 1)) (Either2 (fun _ => False) Q))) (fin : J xs.length → Wp (K ()) Q) :
    Wp (cut2 (loopX (fun s : Int => bif decide (s < (xs.length : Int)) then body s else some (Sum.inr (Sum.inl ()))) (0 : Int)) K) Q := by
  refine wp_cut2 ?_
  refine wp_loop (fun (s : Int) => ∃ i : Nat, s = (i : Int) ∧ i ≤ xs.length ∧ J i) (fun (s : Int) => ((xs.length : Int) - s).toNat) ⟨(0 : Nat), rfl, Nat.zero_le _, h0⟩ ?_
  rintro s ⟨i, hi, hle, hj⟩
  subst hi
  refine wp_bifd ?_ ?_
  · intro hc
    have hlt : i < xs.length := by omega
    refine (step i xs[i] (by simp [hlt]) hj).mono ?_
    intro o ho
    cases o with
    | inl s' =>
      obtain ⟨rfl, h2⟩ := ho
      rw [wrap_i64 (by omega) (by omega)]
      exact ⟨⟨i + 1, by omega, hlt, h2⟩, by omega⟩
    | inr o =>
      cases o with
      | inl _ => exact ho.elim
      | inr r => exact ho
  · intro hc
    have : i = xs.length := by omega
    subst this
    exact wp_some (e2r (fin hj))
end

end Go.Ve





namespace Go.Ve
open Go
set_option maxRecDepth 1000000
set_option maxHeartbeats 4000000

theorem wp_val {α : Type} {m : Option α} {x : α} (h : Wp m (fun r => r = x)) : m = some x := by
  obtain ⟨r, h1, rfl⟩ := h; exact h1

theorem pre_eq {p q : Ty.El tPrefix} (h : (p.fst == q.fst && (p.snd.fst == q.snd.fst && true)) = true) : p = q := by
  grind

def pltI (a b c d : Int) : Prop := a < c ∨ (a = c ∧ b < d)

/-- The order of prefixes. -/
def plt (p q : Ty.El tPrefix) : Prop := pltI p.1 p.2.1 q.1 q.2.1

theorem pltI_or {a b c d : Int} (h : ¬ pltI c d a b) (hne : ¬ (a = c ∧ b = d)) : pltI a b c d := by
  grind [pltI]

theorem plt_or {p q : Ty.El tPrefix} (h : ¬ plt q p) (hne : p ≠ q) : plt p q := by
  refine pltI_or h (fun e => hne ?_)
  grind

def cmpI (a b c d : Int) : Int := if a < c then -1 else if c < a then 1 else if b < d then -1 else if d < b then 1 else 0

def cmpP (p q : Ty.El tPrefix) : Int := cmpI p.1 p.2.1 q.1 q.2.1

theorem cmpI_lt {a b c d : Int} : cmpI a b c d < 0 ↔ pltI a b c d := by
  grind [cmpI, pltI]

theorem cmpP_lt {p q : Ty.El tPrefix} : cmpP p q < 0 ↔ plt p q := cmpI_lt

theorem spec_cmp_u (a b : Int) : cmp_Compare_uint32 (a, b, ()) = some (if a < b then -1 else if b < a then 1 else 0) := by
  refine wp_val ?_
  unfold cmp_Compare_uint32 cmp_isNaN_uint32
  simp only [Option.bind_some, bne_self_eq_false, cond_false]
  refine wp_bifd (fun h => wp_some ?_) (fun h => wp_bifd (fun h' => wp_some ?_) (fun h' => wp_some ?_))
  all_goals grind

theorem spec_cmp_i (a b : Int) : cmp_Compare_int (a, b, ()) = some (if a < b then -1 else if b < a then 1 else 0) := by
  refine wp_val ?_
  unfold cmp_Compare_int cmp_isNaN_int
  simp only [Option.bind_some, bne_self_eq_false, cond_false]
  refine wp_bifd (fun h => wp_some ?_) (fun h => wp_bifd (fun h' => wp_some ?_) (fun h' => wp_some ?_))
  all_goals grind

theorem cmp_two {a b c d : Int} : (if ((if a < c then (-1 : Int) else if c < a then 1 else 0) != 0) = true then (if a < c then (-1 : Int) else if c < a then 1 else 0) else (if b < d then (-1 : Int) else if d < b then 1 else 0)) = cmpI a b c d := by
  grind [cmpI]

theorem spec_addr_Compare (p q : Ty.El tPrefix) : addr_Compare (p, q, ()) = some (cmpP p q) := by
  refine wp_val ?_
  unfold addr_Compare
  dsimp only
  refine wp_bind (wp_eq (spec_cmp_u _ _) (wp_bif (fun h => wp_some ?_) (fun h => wp_bind (wp_eq (spec_cmp_i _ _) (wp_some ?_)))))
  · have := cmp_two (a := p.1) (b := p.2.1) (c := q.1) (d := q.2.1)
    rw [if_pos h] at this
    exact this
  · have := cmp_two (a := p.1) (b := p.2.1) (c := q.1) (d := q.2.1)
    rw [if_neg (by rw [h]; simp)] at this
    exact this

theorem cmpI_m {a b c d : Int} (h : pltI a b c d) : -1 = cmpI a b c d := by
  unfold cmpI; unfold pltI at h
  omega

theorem cmpI_z {a b : Int} : 0 = cmpI a b a b := by
  simp_all [cmpI]

theorem cmpI_p {a b c d : Int} (h : ¬ pltI a b c d) (hne : ¬ (a = c ∧ b = d)) : 1 = cmpI a b c d := by
  unfold cmpI; unfold pltI at h
  omega

theorem spec_ref4_Compare (p q : Ty.El tPrefix) : ref4_Compare (p, q, ()) = some (cmpP p q) := by
  refine wp_val ?_
  unfold ref4_Compare
  dsimp only
  refine wp_bind ((show Wp _ (fun s : Bool => s = true ↔ plt p q) from ?_).mono (fun s hs => ?_))
  · refine wp_bifd (fun h => wp_some ⟨fun _ => .inl h, fun _ => rfl⟩) (fun h => wp_bif (fun h' => wp_some ?_) (fun h' => wp_some ?_))
    · have h' : p.1 = q.1 := by simpa using h'
      rw [decide_eq_true_eq]
      constructor
      · intro h2; exact .inr ⟨h', h2⟩
      · intro h2
        rcases h2 with h2 | h2
        all_goals grind
    · have h' : ¬ p.1 = q.1 := by simpa using h'
      constructor
      · grind
      · intro h2
        exfalso
        rcases h2 with h2 | h2
        all_goals grind
  · refine wp_bif (fun h => wp_some (cmpI_m (hs.1 h))) (fun h => wp_bif (fun he => wp_some ?_) (fun he => wp_some (cmpI_p ?_ ?_)))
    · have := pre_eq he
      subst this
      exact cmpI_z
    · exact fun hp => by rw [hs.2 hp] at h; cases h
    grind

/-- The order of domains: by prefix, then by number. -/
def keyLt (p : Ty.El tPrefix) (v : Int) (p' : Ty.El tPrefix) (v' : Int) : Prop := plt p p' ∨ (p = p' ∧ v < v')

theorem keyLt_trans {p q r : Ty.El tPrefix} {u v w : Int} (h1 : keyLt p u q v) (h2 : keyLt q v r w) : keyLt p u r w := by
  rcases h1 with h1 | ⟨rfl, h1⟩
  · rcases h2 with h2 | ⟨rfl, h2⟩
    · exact .inl (by grind [plt, pltI])
    · exact .inl h1
  · rcases h2 with h2 | ⟨rfl, h2⟩
    · exact .inl h2
    · exact .inr ⟨rfl, by omega⟩

theorem keyLt_or {p q : Ty.El tPrefix} {u v : Int} (h : ¬ keyLt p u q v) (hne : ¬ (p = q ∧ u = v)) : keyLt q v p u := by
  by_cases he : p = q
  · subst he
    refine .inr ⟨rfl, ?_⟩
    have h1 : ¬ u < v := fun h' => h (.inr ⟨rfl, h'⟩)
    grind
  · exact .inl (plt_or (fun h' => h (.inl h')) (fun h' => he h'.symm))

end Go.Ve
