/-
  The evaluator over pure values, part 15: a function's contract out of the evaluation of its body.
  The evaluator over pure values, part 16: an evaluation that computes; the interpreter over all functions.
-/
import Derived.Test.YtcnlcmbchljpgaaGreatQt5
set_option linter.unusedVariables false
namespace Go.Ve
open Go
section
variable {St : Type} (P : jC) (e : Env St)
def zSl : List T → Option (List V)
 | [] => some []
 | x :: r => match zEV e x, zSl r with
  | some d, some ds => some (d :: ds)
  | _, _ => none
def zPW (t : TypeId) : T → Option V
 | .p (.pp cs) => ldV P t cs
 | .lp s off => match e.var s with
  | some cs => match zEH P t with
   | some true => match jR P t with
    | some n => if n ≤ (cs.drop off).length then (zSl e ((cs.drop off).take n)).map .agg else none
    | none => none
   | some false => match (cs.drop off).head? with
    | some x => zEV e x
    | none => none
   | none => none
  | none => none
 | _ => none
def zVY : ResultVar → Option V
 | .tmp t => zEV e (e.get t)
 | .cell t ty => zPW P e ty (e.get t)
def zDS : List ResultVar → Option (List V)
 | [] => some []
 | x :: r => match zVY P e x, zDS r with
  | some d, some ds => some (d :: ds)
  | _, _ => none
def zCe (fn : Func) : Option RV :=
 match fn.results.toList with
 | [.tmp t] => match e.get t with
  | .emp => some (.own [])
  | .ow _ _ [] => some (.p (.sl []))
  | .ow _ _ (x :: es) => some (.own (x :: es))
  | .ot _ t xs => some (.ownT t xs)
  | x => (zEV e x).map .p
 | [r] => (zVY P e r).map .p
 | rs => (zDS P e rs).map (fun ds => .p (.tup ds))
end
def zEo (n : Nat) (ds : List V) : List T := ds.map .p ++ List.replicate (n - ds.length) (.p (.val undef))
def start {St : Type} (n : Nat) (s : St) (ds : List V) : Env St := { tm := zEo n ds, vars := List.replicate n none, st := s }
section
variable {Γ : Sig} {P : Program} {G : Nat → Option (List V)} {S : q7 Γ} {e : Env Γ.St} {a : Act} {w : World} {F : Blk → Prop} {β : Lay} {al : jP → Prop}
theorem zVr (hvars : ∀ s cs, e.var s = some cs → al (.v s) → qW w F β al (β.vb s) cs) : ∀ (xs : List T) (vs : List Value) (ds : List V), xs.length = vs.length →
  (∀ (i : Nat) (v : Value) (x : T), vs[i]? = some v → xs[i]? = some x → zU w F β al v x) → zSl e xs = some ds →
  vs.length = ds.length ∧ ∀ (i : Nat) (v : Value) (d : V), vs[i]? = some v → ds[i]? = some d → Rd w (Fal F β al) v d := by
 intro xs
 induction xs with
 | nil =>
  intro vs ds hl _ h
  simp [zSl] at h; subst h
  cases vs with
  | nil => exact ⟨rfl, fun i v d h => by simp at h⟩
  | cons v vs => simp at hl
 | cons x xs ih =>
  intro vs ds hl hr h
  cases vs with
  | nil => simp at hl
  | cons v vs =>
   simp only [zSl] at h
   split at h
   ·rename_i d ds' hd hds
    simp only [Option.some.injEq] at h
    subst h
    obtain ⟨h1, h2⟩ := ih vs ds' (by simpa using hl) (fun i v x hv hx => hr (i + 1) v x (by simpa using hv) (by simpa using hx)) hds
    refine ⟨by simpa using h1, ?_⟩
    intro i u y hu hy
    cases i with
    | zero => simp at hu hy; subst hu hy; exact (zJZ hvars (hr 0 v x rfl rfl) hd).1
    | succ i => exact h2 i u y (by simpa using hu) (by simpa using hy)
   ·cases h
theorem zRh (hvars : ∀ s cs, e.var s = some cs → al (.v s) → qW w F β al (β.vb s) cs) {t : TypeId} {x : T} {v : Value} {d : V}
  (hx : zU w F β al v x) (h : zPW P e t x = some d) : ∃ ad u, v = .pointer (some ad) ∧ (loadVar t ad).run P w = .ok u w ∧ Rd w (Fal F β al) u d := by
 unfold zPW at h
 split at h
 ·rename_i cs
  cases hx with
  | pp b off cs g hF hg hr =>
   obtain ⟨u, h1, h2⟩ := zP9 (P := P) hg hr h
   refine ⟨⟨b, off, none⟩, u, rfl, ?_, h2.mono (fun b hb => .inl hb) (fun _ _ => rfl)⟩
   simpa [Instr.loadAt, Instr.sureAddr] using h1
 ·rename_i s off
  obtain ⟨ha, rfl⟩ := hx
  split at h
  ·rename_i cs hcs
   have hv := hvars s cs hcs ha
   split at h
   ·rename_i hagg
    split at h
    ·rename_i n hn
     split at h
     ·rename_i hle
      simp only [Option.map_eq_some_iff] at h
      obtain ⟨ds, hds, rfl⟩ := h
      simp only [List.length_drop] at hle
      let g : Nat → Value := fun m => (w.cell? ⟨β.vb s, off + m, none⟩).getD undef
      have hg : ∀ m, m < n → w.cell? ⟨β.vb s, off + m, none⟩ = some (g m) ∧ ∀ x, ((cs.drop off).take n)[m]? = some x → zU w F β al (g m) x := fun m hm => by
       obtain ⟨x, h1, h2⟩ := hv.at (off + m) (by omega)
       refine ⟨by simp [g, h1], fun y hy => ?_⟩
       rw [List.getElem?_take, if_pos hm, List.getElem?_drop, List.getElem?_eq_getElem (by omega), Option.some.injEq] at hy
       subst hy
       simpa [g, h1] using h2
      have hrun := zCF (P := P) hagg hn (fun m hm => (hg m hm).1)
      obtain ⟨h3, h4⟩ := zVr hvars ((cs.drop off).take n) ((List.range n).map g) ds (by simp; omega) (by
       intro i v x hv hx
       simp only [List.getElem?_map, Option.map_eq_some_iff] at hv
       obtain ⟨m, hm, rfl⟩ := hv
       have hi : i < n := by
        have := (List.getElem?_eq_some_iff.1 hm).1; simpa using this
       rw [List.getElem?_range hi] at hm
       simp only [Option.some.injEq] at hm
       subst hm
       exact (hg i hi).2 x hx) hds
      refine ⟨_, _, rfl, by simpa [Instr.loadAt, Instr.sureAddr] using hrun, ?_⟩
      exact Rd.agg _ ds (by simpa using h3) (fun i x d hi hd => h4 i x d (by simpa using hi) hd)
     ·cases h
    ·cases h
   ·rename_i hagg
    split at h
    ·rename_i x hx
     have hlt : off < cs.length := by
      rcases Nat.lt_or_ge off cs.length with h | h
      ·exact h
      ·rw [List.drop_eq_nil_of_le h] at hx; simp at hx
     rw [List.head?_drop, List.getElem?_eq_getElem hlt, Option.some.injEq] at hx
     subst hx
     obtain ⟨x, h1, h2⟩ := hv.at off hlt
     have hrun := zB4 (P := P) hagg h1
     exact ⟨_, x, rfl, by simpa [Instr.loadAt, Instr.sureAddr] using hrun, (zJZ hvars h2 h).1⟩
    ·cases h
   ·cases h
  ·cases h
 ·cases h
def zOZ (tmps : Array Value) : ResultVar → Sem Value
 | .tmp t => pure (tmps.getD t undef)
 | .cell x t => do loadVar t (← asAddr (tmps.getD x undef))
theorem zMN (fn : Func) (tmps : Array Value) : results fn tmps = (do
  let vs ← fn.results.mapM (zOZ tmps)
  pure (if h : vs.size = 1 then vs[0] else .tuple vs)) := by
 unfold results
 congr 1
theorem zVX (hvars : ∀ s cs, e.var s = some cs → al (.v s) → qW w F β al (β.vb s) cs) (ht : ∀ t, zU w F β al (a.tmps.getD t undef) (e.get t)) {r : ResultVar} {d : V}
  (h : zVY P e r = some d) : ∃ u, (zOZ a.tmps r).run P w = .ok u w ∧ Rd w (Fal F β al) u d := by
 cases r with
 | tmp t => exact ⟨_, rfl, (zJZ hvars (ht t) h).1⟩
 | cell t ty =>
  obtain ⟨ad, u, h1, h2, h3⟩ := zRh (P := P) hvars (ht t) h
  exact ⟨u, by simp only [zOZ, Sem.run_bind, h1, asAddr, Sem.run_pure, Result.andThen_ok, h2], h3⟩
theorem zGD (hvars : ∀ s cs, e.var s = some cs → al (.v s) → qW w F β al (β.vb s) cs) (ht : ∀ t, zU w F β al (a.tmps.getD t undef) (e.get t)) : ∀ (rs : List ResultVar) (ds : List V),
  zDS P e rs = some ds → ∃ us, (rs.mapM (zOZ a.tmps)).run P w = .ok us w ∧ us.length = ds.length ∧
   ∀ (i : Nat) (v : Value) (d : V), us[i]? = some v → ds[i]? = some d → Rd w (Fal F β al) v d := by
 intro rs
 induction rs with
 | nil => intro ds h; simp [zDS] at h; subst h; exact ⟨[], rfl, rfl, fun i v d h => by simp at h⟩
 | cons r rs ih =>
  intro ds h
  simp only [zDS] at h
  split at h
  ·rename_i d ds' hd hds
   simp only [Option.some.injEq] at h
   subst h
   obtain ⟨u, h1, h2⟩ := zVX (P := P) hvars ht hd
   obtain ⟨us, h3, h4, h5⟩ := ih ds' hds
   refine ⟨u :: us, ?_, by simpa using h4, ?_⟩
   ·rw [List.mapM_cons]
    simp only [Sem.run_bind, h1, Result.andThen_ok, h3, Sem.run_pure]
   ·intro i v y hv hy
    cases i with
    | zero => simp at hv hy; subst hv hy; exact h2
    | succ i => exact h5 i v y (by simpa using hv) (by simpa using hy)
  ·cases h
theorem zKI {w0 : World} {F0 : Blk → Prop} {O0 : uR} (hnl : O0.l = none) (hi : Inv Γ G w0 F0 O0 a w e) {fn : Func} {r : RV} (h : zCe P e fn = some r) :
  ∃ (v : Value) (F' : Blk → Prop) (O' : Nat → Prop), (results fn a.tmps).run P w = .ok v w ∧ Γ.R e.st F' O' w ∧ zCo O0.o w0 w ∧ (∀ b, O' b → O0.o b ∨ w0.heap.size ≤ b) ∧ (∀ b, F0 b → F' b) ∧
   (∀ b : Nat, F' b → (F0 b ∨ w0.heap.size ≤ b) ∧ b < w.heap.size ∧ ¬ O' b) ∧ yG w0.heap.size w F' O' v r := by
 obtain ⟨F, O, β, hc, hG, hsz, hdf, ht, hv⟩ := hi
 have hkeep : zCo O0.o w0 w := ⟨hc.keep.os, hc.keep.tape, hc.keep.output, hc.keep.size, fun b hb ho => hc.keep.block b hb (fun h => h.elim ho (fun ⟨n, h⟩ => by rw [hnl] at h; cases h)), hc.keep.drawn⟩
 have hhome : ∀ x b, zSu w0 O0 x b → w0.heap.size ≤ b := fun x b h => h.elim (fun h => h.2) (fun ⟨_, n, h⟩ => by rw [hnl] at h; cases h)
 have hvars : ∀ s cs, e.var s = some cs → zQ e (.v s) → qW w F β (zQ e) (β.vb s) cs := fun s cs hcs _ => hv s cs hcs
 have hFal : ∀ b : Nat, Fal F β (zQ e) b → (F0 b ∨ w0.heap.size ≤ b) ∧ b < w.heap.size ∧ ¬ O b := by
  rintro b (hb | ⟨x, hx, hxb⟩)
  ·exact hc.fin b hb
  ·have hxb := x7 hxb
   subst hxb
   obtain ⟨h1, h2, h3, h4⟩ := hc.place x hx
   exact ⟨.inr (hhome _ _ h1), h2, h4⟩
 have hsigF : Γ.R e.st (Fal F β (zQ e)) O w := Γ.mono hc.sig (fun _ _ _ _ => ⟨fun h => h.elim (fun h => h) (fun ⟨_, _, h⟩ => by cases h), .inl⟩) (fun _ _ => rfl)
 have hrun : ∀ us, (fn.results.toList.mapM (zOZ a.tmps)).run P w = .ok us w →
   (results fn a.tmps).run P w = .ok (if h : us.length = 1 then us[0] else .tuple us.toArray) w := by
  intro us hus
  rw [zMN, Array.mapM_eq_mapM_toList]
  simp only [Sem.run_bind, Sem.run_map, hus, Result.andThen_ok, Sem.run_pure]
  rfl
 have hfin : ∀ (v : Value) (d : V), (results fn a.tmps).run P w = .ok v w → Rd w (Fal F β (zQ e)) v d →
   ∃ (v : Value) (F' : Blk → Prop) (O' : Nat → Prop), (results fn a.tmps).run P w = .ok v w ∧ Γ.R e.st F' O' w ∧ zCo O0.o w0 w ∧ (∀ b, O' b → O0.o b ∨ w0.heap.size ≤ b) ∧ (∀ b, F0 b → F' b) ∧
   (∀ b : Nat, F' b → (F0 b ∨ w0.heap.size ≤ b) ∧ b < w.heap.size ∧ ¬ O' b) ∧ yG w0.heap.size w F' O' v (.p d) :=
  fun v d h1 h2 => ⟨v, Fal F β (zQ e), O, h1, hsigF, hkeep, hc.oin, fun b hb => .inl (hc.f0 b hb), hFal, h2⟩
 have hone : ∀ r0, fn.results.toList = [r0] → ∀ d, zVY P e r0 = some d → ∃ v, (results fn a.tmps).run P w = .ok v w ∧ Rd w (Fal F β (zQ e)) v d := by
  intro r0 hr d hd
  obtain ⟨us, h1, h2, h3⟩ := zGD (P := P) hvars ht [r0] [d] (by simp [zDS, hd])
  cases us with
  | nil => simp at h2
  | cons u us =>
   cases us with
   | cons _ _ => simp at h2
   | nil =>
    have := hrun [u] (by rw [hr]; exact h1)
    exact ⟨u, by simpa using this, h3 0 u d rfl rfl⟩
 unfold zCe at h
 split at h
 ·rename_i t hres
  have hrun1 : (results fn a.tmps).run P w = .ok (a.tmps.getD t undef) w := by
   have := hrun [a.tmps.getD t undef] (by rw [hres]; rfl)
   simpa using this
  have hT := ht t
  split at h
  ·rename_i hx
   simp only [Option.some.injEq] at h; subst h
   rw [hx] at hT
   obtain ⟨a0, ha0⟩ := hT
   exact ⟨_, Fal F β (zQ e), O, hrun1, hsigF, hkeep, hc.oin, fun b hb => .inl (hc.f0 b hb), hFal, .inl ⟨rfl, a0, ha0⟩⟩
  ·rename_i id k hx
   simp only [Option.some.injEq] at h; subst h
   rw [hx] at hT
   obtain ⟨ha, cap, hvv, hrow⟩ := hT
   exact hfin _ _ hrun1 (by rw [hvv]; exact .slemp _ _)
  ·rename_i id k x es hx
   simp only [Option.some.injEq] at h; subst h
   rw [hx] at hT
   obtain ⟨ha, cap, hvv, hrow⟩ := hT
   obtain ⟨p1, p2, p3, p4⟩ := hc.place (.o id) ha
   refine ⟨_, F, O, hrun1, hc.sig, hkeep, hc.oin, hc.f0, hc.fin, .inr ⟨by simp, β.ob id, cap, hvv, hhome _ _ p1, p2, p3, p4, k, hrow⟩⟩
  ·rename_i id t xs hx
   simp only [Option.some.injEq] at h; subst h
   rw [hx] at hT
   rcases hT with ⟨h0, a0, hv0⟩ | ⟨hne, ha, cap, hvv, hrow⟩
   ·exact ⟨_, F, O, hrun1, hc.sig, hkeep, hc.oin, hc.f0, hc.fin, .inl ⟨h0, a0, hv0⟩⟩
   ·obtain ⟨p1, p2, p3, p4⟩ := hc.place (.o id) ha
    exact ⟨_, F, O, hrun1, hc.sig, hkeep, hc.oin, hc.f0, hc.fin, .inr ⟨hne, β.ob id, cap, hvv, hhome _ _ p1, p2, p3, p4, t.size, hrow⟩⟩
  ·simp only [Option.map_eq_some_iff] at h
   obtain ⟨d, hd, rfl⟩ := h
   obtain ⟨v, h1, h2⟩ := hone _ hres d hd
   exact hfin v d h1 h2
 ·rename_i r0 _ hres
  simp only [Option.map_eq_some_iff] at h
  obtain ⟨d, hd, rfl⟩ := h
  obtain ⟨v, h1, h2⟩ := hone _ hres d hd
  exact hfin v d h1 h2
 ·rename_i hn1 hn2
  simp only [Option.map_eq_some_iff] at h
  obtain ⟨ds, hds, rfl⟩ := h
  obtain ⟨us, h1, h2, h3⟩ := zGD (P := P) hvars ht _ ds hds
  have hrun2 := hrun us h1
  have hne : us.length ≠ 1 := by
   intro hl
   have hlen : ∀ (l : List ResultVar) (ds : List V), zDS P e l = some ds → ds.length = l.length := by
    intro l
    induction l with
    | nil => intro ds h; simp [zDS] at h; subst h; rfl
    | cons r l ih =>
     intro ds h
     simp only [zDS] at h
     split at h
     ·rename_i d ds' hd hds
      simp only [Option.some.injEq] at h; subst h
      simp [ih ds' hds]
     ·cases h
   have := hlen _ ds hds
   match hl' : fn.results.toList with
   | [] => rw [hl'] at this; simp only [List.length_nil] at this; omega
   | [r0] => exact hn2 r0 hl'
   | _ :: _ :: _ => rw [hl'] at this; simp only [List.length_cons] at this; omega
  rw [dif_neg hne] at hrun2
  exact hfin _ _ hrun2 (.tup _ ds (by simpa using h2) (fun i x d hi hd => h3 i x d (by simpa using hi) hd))
theorem zTa (hm : P.follows .mixedOrders = true) (hS : qG Γ P G S) {f : FuncId} {fn : Func} {c : Code} (hf : P.funcs[f]? = some fn) (hb : fn.body = some c)
  {spec : Γ.St → List V → Option (Γ.St × RV)}
  (h : ∀ s ds s' r, spec s ds = some (s', r) → ∃ k e', Ev P G S c (start fn.ntmps s ds) k e' ∧ (k = .normal ∨ k = .ret) ∧ e'.st = s' ∧ zCe P e' fn = some r) : wC Γ P G f spec := by
 intro w F O s args ds s' r hsig hG hF hlen hrd hspec
 obtain ⟨k, e', hev, hk, hst, hret⟩ := h s ds s' r hspec
 refine calls_of_wp hf hb ?_
 have qR : ∀ t, zU w F ⟨fun _ => 0, fun _ => 0⟩ (fun _ => False) ((args ++ Array.replicate (fn.ntmps - args.size) undef).getD t undef) ((start fn.ntmps s ds).get t) := by
  intro t
  simp only [start, zEo, Env.get, List.getD_eq_getElem?_getD, Array.getD_eq_getD_getElem?]
  by_cases ht : t < ds.length
  ·rw [List.getElem?_append_left (by simpa using ht), Array.getElem?_append_left (by omega)]
   rw [List.getElem?_map, List.getElem?_eq_getElem ht, Array.getElem?_eq_getElem (by omega)]
   exact hrd t _ _ (by simp [show t < args.size by omega]) (by simp [ht])
  ·rw [List.getElem?_append_right (by simpa using Nat.le_of_not_lt ht), Array.getElem?_append_right (by omega), hlen]
   simp only [List.length_map]
   by_cases h2 : t - ds.length < fn.ntmps - ds.length
   ·rw [List.getElem?_replicate, if_pos h2, Array.getElem?_replicate, if_pos h2]
    exact Rd.val _
   ·rw [List.getElem?_replicate, if_neg h2]
    trivial
 have hnovar : ∀ s0, (start fn.ntmps s ds).var s0 = none := by
  intro s0
  simp only [start, Env.var, List.getElem?_replicate]
  split <;> rfl
 have hinv : Inv Γ G w F O { tmps := args ++ Array.replicate (fn.ntmps - args.size) undef, defers := [] } w (start fn.ntmps s ds) := by
  refine Inv.of (F := F) (O := O) (β := ⟨fun _ => 0, fun _ => 0⟩) (al := fun _ => False) ⟨zCo.refl _ w, hsig, fun b hb => .inl hb, fun b hb => ⟨.inl hb, hF b hb⟩, fun b hb => hb, fun x hx => hx.elim, fun x y hx => hx.elim, fun b n h => by cases h⟩ hG ?_ rfl qR ?_ (fun s h => h.elim)
  ·simp [start, zEo, hlen]
  ·intro s0 cs hcs; rw [hnovar] at hcs; cases hcs
 refine wp_mono (zYG hm hS hev hinv) ?_
 rintro ex a' w' ⟨rfl, hi'⟩
 obtain ⟨v, F', O', h1, h2, h3, h4, h5, h6, h7⟩ := zKI rfl hi' hret
 have hdf : a'.defers = [] := by obtain ⟨_, _, _, _, _, _, hdf, _⟩ := hi'; exact hdf
 rw [hst] at h2
 rcases hk with rfl | rfl
 ·exact ⟨hdf, v, h1, v, F', O', rfl, h2, h3, h4, h5, h6, h7⟩
 ·exact ⟨hdf, v, h1, v, F', O', rfl, h2, h3, h4, h5, h6, h7⟩
end
end Go.Ve

namespace Go.Ve
open Go
section
variable {Γ : Sig} (P : jC) (G : Nat → Option (List V)) (S : q7 Γ)
def kI : Nat → Code → Env Γ.St → Option (X × Env Γ.St)
 | 0, _, _ => none
 | _ + 1, .skip, e => some (.normal, e)
 | n + 1, .seq x y, e => match kI n x e with
  | some (.normal, e1) => kI n y e1
  | r => r
 | n + 1, .cond c x y, e => match evx G e c with
  | .p (.val (.bool true)) => kI n x e
  | .p (.val (.bool false)) => kI n y e
  | _ => none
 | n + 1, .block id c, e => match kI n c e with
  | some (k, e1) => some (k.out id, e1)
  | none => none
 | n + 1, .loop c, e => match kI n c e with
  | some (.normal, e1) => kI n (.loop c) e1
  | r => r
 | _ + 1, .exit id, e => some (.exit id, e)
 | _ + 1, .ret, e => some (.ret, e)
 | _ + 1, .region _ ops false, e => match zJI P G S ops ops.toList e with
  | some e1 => some (.normal, e1)
  | none => none
 | _ + 1, .region _ ops true, e => match zGQ P G S ops e with
  | some e1 => some (.normal, e1)
  | none => none
 | _, _, _ => none
variable {P G S}
theorem Ev.loopStep {c : Code} {e e1 e2 : Env Γ.St} {k : X} (h1 : Ev P G S c e .normal e1) (h2 : Ev P G S (.loop c) e1 k e2) : Ev P G S (.loop c) e k e2 := by
 cases h2 with
 | loop n es h0 hs hl hne =>
  refine .loop (n + 1) (fun i => match i with | 0 => e | i + 1 => es i) rfl ?_ hl hne
  intro i hi
  cases i with
  | zero => simp only; rw [h0]; exact h1
  | succ i => exact hs i (by omega)
theorem Ev.loopDone {c : Code} {e e1 : Env Γ.St} {k : X} (h1 : Ev P G S c e k e1) (hne : k ≠ .normal) : Ev P G S (.loop c) e k e1 :=
 .loop 0 (fun _ => e) rfl (fun i hi => by omega) h1 hne
theorem zNB : ∀ (n : Nat) (c : Code) (e e' : Env Γ.St) (k : X), kI P G S n c e = some (k, e') → Ev P G S c e k e' := by
 intro n
 induction n with
 | zero => intro c e e' k h; simp [kI] at h
 | succ n ih =>
  intro c e e' k h
  cases c <;> (try simp only [kI] at h)
  case skip => simp only [Option.some.injEq, Prod.mk.injEq] at h; obtain ⟨rfl, rfl⟩ := h; exact .skip e
  case region id ops draw =>
   cases draw
   ·simp only [kI] at h
    split at h
    ·rename_i e1 he1
     simp only [Option.some.injEq, Prod.mk.injEq] at h; obtain ⟨rfl, rfl⟩ := h
     exact .seqR he1
    ·cases h
   ·simp only [kI] at h
    split at h
    ·rename_i e1 he1
     simp only [Option.some.injEq, Prod.mk.injEq] at h; obtain ⟨rfl, rfl⟩ := h
     exact .drawR he1
    ·cases h
  case seq x y =>
   split at h
   ·rename_i e1 he1
    exact .seqN (ih x e e1 .normal he1) (ih y e1 e' k h)
   ·rename_i hne
    refine .seqX (ih x e e' k h) ?_
    rintro rfl
    exact hne e' h
  case cond c x y =>
   split at h
   ·rename_i hc; exact .condT hc (ih x e e' k h)
   ·rename_i hc; exact .condF hc (ih y e e' k h)
   ·cases h
  case block id c =>
   split at h
   ·rename_i k0 e1 he1
    simp only [Option.some.injEq, Prod.mk.injEq] at h; obtain ⟨rfl, rfl⟩ := h
    exact .block (ih c e e1 k0 he1)
   ·cases h
  case loop c =>
   split at h
   ·rename_i e1 he1
    exact (ih c e e1 .normal he1).loopStep (ih (.loop c) e1 e' k h)
   ·rename_i hne
    refine (ih c e e' k h).loopDone ?_
    rintro rfl
    exact hne e' h
  case exit id => simp only [Option.some.injEq, Prod.mk.injEq] at h; obtain ⟨rfl, rfl⟩ := h; exact .exit id e
  case ret => simp only [Option.some.injEq, Prod.mk.injEq] at h; obtain ⟨rfl, rfl⟩ := h; exact .ret e
  all_goals (cases h)
variable (P G S)
def zRV (n : Nat) (fn : Func) (s : Γ.St) (ds : List V) : Option (Γ.St × RV) :=
 match fn.body with
 | some c => match kI P G S n c (start fn.ntmps s ds) with
  | some (.normal, e') => (zCe P e' fn).map (fun r => (e'.st, r))
  | some (.ret, e') => (zCe P e' fn).map (fun r => (e'.st, r))
  | _ => none
 | none => none
def zCQ : List V → Bool
 | .bot :: _ => true
 | _ => false
def zLG (Xs : q7 Γ) (k : Nat) : Nat → q7 Γ
 | 0 => Xs
 | n + 1 => fun f s ds => match Xs f s ds with
  | some r => some r
  | none => match zCQ ds with
   | true => none
   | false => match P.fn f with
    | some fn => zRV P G (zLG Xs k n) k fn s ds
    | none => none
end
section
variable {Γ : Sig} {P : Program} {G : Nat → Option (List V)} {S : q7 Γ}
theorem zUZ (hm : P.follows .mixedOrders = true) (hS : qG Γ P G S) {f : FuncId} {fn : Func} (hf : P.funcs[f]? = some fn) (n : Nat) : wC Γ P G f (zRV P G S n fn) := by
 cases hb : fn.body with
 | none =>
  intro w F O s args ds s' r _ _ _ _ _ h
  simp [zRV, hb] at h
 | some c =>
  refine zTa hm hS hf hb ?_
  intro s ds s' r h
  simp only [zRV, hb] at h
  split at h
  ·rename_i e' he'
   simp only [Option.map_eq_some_iff, Prod.mk.injEq] at h
   obtain ⟨r', hr, hst, rfl⟩ := h
   exact ⟨_, e', zNB n c _ e' _ he', .inl rfl, hst, hr⟩
  ·rename_i e' he'
   simp only [Option.map_eq_some_iff, Prod.mk.injEq] at h
   obtain ⟨r', hr, hst, rfl⟩ := h
   exact ⟨_, e', zNB n c _ e' _ he', .inr rfl, hst, hr⟩
  ·cases h
theorem wC.or {f : FuncId} {s1 s2 : Γ.St → List V → Option (Γ.St × RV)} (h1 : wC Γ P G f s1) (h2 : wC Γ P G f s2) :
  wC Γ P G f (fun s ds => match s1 s ds with | some r => some r | none => s2 s ds) := by
 intro w F O s args ds s' r a1 a2 a3 a4 a5 h
 simp only at h
 split at h
 ·rename_i r' hr'
  simp only [Option.some.injEq] at h
  subst h
  exact h1 w F O s args ds s' r a1 a2 a3 a4 a5 hr'
 ·exact h2 w F O s args ds s' r a1 a2 a3 a4 a5 h
theorem wC.nothing {f : FuncId} : wC Γ P G f (fun _ _ => none) := by
 intro w F O s args ds s' r _ _ _ _ _ h; cases h
def zMj (P : Program) : Bool := P.funcs.toList.all (fun fn => !(fn.name == "runtime.NumGoroutine"))
theorem zSz (hm : P.follows .mixedOrders = true) (hn : zMj P = true) {Xs : q7 Γ} (hX : qG Γ P G Xs) (k : Nat) : ∀ n, qG Γ P G (zLG P G Xs k n) := by
 intro n
 induction n with
 | zero => exact hX
 | succ n ih =>
  refine ⟨?_, ?_, ?_, ?_⟩
  ·intro f
   cases hf : P.funcs[f]? with
   | none =>
    have : zLG P G Xs k (n + 1) f = fun s ds => match Xs f s ds with | some r => some r | none => none := by
     funext s ds; simp only [zLG, hf]; cases zCQ ds <;> rfl
    rw [this]
    exact (hX.ok f).or .nothing
   | some fn =>
    have : zLG P G Xs k (n + 1) f = fun s ds => match Xs f s ds with | some r => some r | none => match zCQ ds with | true => none | false => zRV P G (zLG P G Xs k n) k fn s ds := by
     funext s ds; simp only [zLG, hf]
    rw [this]
    refine (hX.ok f).or ?_
    intro w F O s args ds s' r a1 a2 a3 a4 a5 h
    simp only at h
    split at h
    ·cases h
    ·exact zUZ hm ih hf k w F O s args ds s' r a1 a2 a3 a4 a5 h
  ·intro f s ds r h hb
   simp only [zLG] at h
   split at h
   ·rename_i r' hr'
    exact hX.is f s ds r' hr' hb
   ·split at h
    ·cases h
    ·split at h
     ·rename_i fn hf
      refine ⟨fn, hf, ?_, ?_⟩
      ·cases hb : fn.body with
       | some c => rfl
       | none => simp [zRV, hb] at h
      ·have := List.all_eq_true.1 hn fn (by simpa using Array.mem_of_getElem? hf)
       simpa using this
     ·cases h
  ·intro hno st q t ys bytes st' d h
   refine hX.app hno st q t ys bytes st' d ?_
   simp only [zLG, zCQ] at h
   split at h
   ·rename_i r' hr'; rw [hr']; exact h
   ·cases h
  ·intro f st t xs ds st' ys d h
   refine hX.bor f st t xs ds st' ys d ?_
   simp only [zLG, zCQ] at h
   split at h
   ·rename_i r' hr'; rw [hr']; exact h
   ·cases h
def zMi (Γ : Sig) : q7 Γ := fun _ _ _ => none
theorem zHO : qG Γ P G (zMi Γ) :=
 ⟨fun _ => .nothing, (fun f s ds r h => by cases h), (fun _ st q t ys bytes st' d h => by cases h), (fun f st t xs ds st' ys d h => by cases h)⟩
end
end Go.Ve
