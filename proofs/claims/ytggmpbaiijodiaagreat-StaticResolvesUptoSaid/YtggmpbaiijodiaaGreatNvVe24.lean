/-
  The evaluator over pure values, part 24: states that know less; typed slices that are appended to.
-/
import Derived.Test.YtggmpbaiijodiaaGreatNvVe19
namespace Go.Ve
open Go

section
variable {St : Type}
def Env.mapT (f : T → T) (e : Env St) : Env St := { e with tm := e.tm.map f, vars := e.vars.map (fun c => c.map (List.map f)) }

theorem get_mapT {f : T → T} (hf : f .dead = .dead) (e : Env St) (t : Nat) : (e.mapT f).get t = f (e.get t) := by
  simp only [Env.mapT, Env.get, List.getD_eq_getElem?_getD, List.getElem?_map]
  cases e.tm[t]? <;> simp [hf]

theorem var_mapT {f : T → T} (e : Env St) (s : Nat) : (e.mapT f).var s = (e.var s).map (List.map f) := by
  simp only [Env.mapT, Env.var, List.getElem?_map]
  cases e.vars[s]? <;> rfl
end

def WkT (x y : T) : Prop := ∀ (w : World) (F : Nat → Prop) (β : Lay) (al : Site → Prop) (v : Value), TRel w F β al v x → TRel w F β al v y

def WkTs : List T → List T → Prop
  | [], [] => True
  | x :: xs, y :: ys => WkT x y ∧ WkTs xs ys
  | _, _ => False

theorem WkT.refl (x : T) : WkT x x := fun _ _ _ _ _ h => h
theorem WkT.trans {x y z : T} (h : WkT x y) (k : WkT y z) : WkT x z := fun w F β al v hh => k w F β al v (h w F β al v hh)
theorem WkT.dead (x : T) : WkT x .dead := fun _ _ _ _ _ _ => trivial
theorem WkT.un (x : T) : WkT x x.un := fun _ _ _ _ _ h => TRel_un.1 h
theorem WkT.ofUn (x : T) : WkT x.un x := fun _ _ _ _ _ h => TRel_un.2 h

theorem WkTs.refl : ∀ (l : List T), WkTs l l
  | [] => trivial
  | x :: l => ⟨.refl x, WkTs.refl l⟩

theorem WkTs.map {f g : T → T} (h : ∀ x, WkT (f x) (g x)) : ∀ (l : List T), WkTs (l.map f) (l.map g)
  | [] => trivial
  | x :: l => ⟨h x, WkTs.map h l⟩

theorem WkTs.get : ∀ {xs ys : List T} (_ : WkTs xs ys) (i : Nat) (x y : T), xs[i]? = some x → ys[i]? = some y → WkT x y
  | [], [], _, i, x, y, h1, _ => by simp at h1
  | a :: xs, b :: ys, h, i, x, y, h1, h2 => by
    cases i with
    | zero => simp at h1 h2; subst h1 h2; exact h.1
    | succ i => exact WkTs.get h.2 i x y (by simpa using h1) (by simpa using h2)

theorem WkTs.len : ∀ {xs ys : List T} (_ : WkTs xs ys), xs.length = ys.length
  | [], [], _ => rfl
  | a :: xs, b :: ys, h => by simp [WkTs.len h.2]

section
variable {Γ : Sig} {P : Program} {G : Nat → Option (List V)} {S : Specs Γ} {o : Oper} {a : Act} {w0 : World} {F0 O0 : Nat → Prop} {w : World} {e e' : Env Γ.St}

/-- The variables of e2 are those of e; each cell knows no more. -/
def WkVars (e e2 : Env Γ.St) : Prop := ∀ s, match e.var s, e2.var s with
  | none, none => True
  | some cs, some cs2 => WkTs cs cs2
  | _, _ => False

theorem Inv.weak {e2 : Env Γ.St} (h : Inv Γ G w0 F0 O0 a w e) (hl : e2.tm.length = e.tm.length) (hst : e2.st = e.st) (ht2 : ∀ t, WkT (e.get t) (e2.get t)) (hv2 : WkVars e e2) :
    Inv Γ G w0 F0 O0 a w e2 := by
  obtain ⟨F, O, β, hc, hG, hsz, hdf, ht, hv⟩ := h
  refine Inv.of (al := alive e) (by rw [hst]; exact hc) hG (by rw [hl]; exact hsz) hdf (fun t => ht2 t _ _ _ _ _ (ht t)) ?_ ?_
  · intro s cs2 hcs2
    have h1 := hv2 s
    rw [hcs2] at h1
    cases hcs : e.var s with
    | none => rw [hcs] at h1; exact h1.elim
    | some cs =>
      rw [hcs] at h1
      obtain ⟨c, et, g1, g2, g3⟩ := hv s cs hcs
      refine ⟨⟨cs, hcs⟩, c, et, g1, g2.trans h1.len, ?_⟩
      intro i x y hx hy
      have hlt : i < cs.length := by rw [h1.len]; exact (List.getElem?_eq_some_iff.1 hy).1
      exact h1.get i cs[i] y (by simp [hlt]) hy _ _ _ _ _ (g3 i x cs[i] hx (by simp [hlt]))
  · rintro s ⟨cs, hcs⟩
    have h1 := hv2 s
    rw [hcs] at h1
    cases hcs2 : e2.var s with
    | none => rw [hcs2] at h1; exact h1.elim
    | some cs2 => exact ⟨cs2, rfl⟩

theorem evx_un (x : Operand) : evx G (e.mapT T.un) x = (evx G e x).un := by
  cases x with
  | tmp t => exact get_mapT rfl e t
  | const v =>
    simp only [evx]
    cases v with
    | tuple vs => rfl
    | agg cs => rfl
    | _ => rfl
  | global g => simp only [evx]; cases G g <;> rfl
  | func f => rfl

theorem Inv.un (h : Inv Γ G w0 F0 O0 a w e) : Inv Γ G w0 F0 O0 a w (e.mapT T.un) := by
  refine h.weak (by simp [Env.mapT]) rfl (fun t => by rw [get_mapT rfl]; exact WkT.un _) ?_
  intro s
  rw [var_mapT]
  cases hs : e.var s with
  | none => trivial
  | some cs =>
    have := WkTs.map (f := id) (g := T.un) (fun x => WkT.un x) cs
    simpa using this

theorem kill_un (n : Nat) (x : T) : WkT (killT n x.un) (killT n x) := by
  cases x with
  | p d =>
    cases d with
    | tl t xs => exact WkT.ofUn (.p (.tl t xs))
    | _ => exact .refl _
  | ot i t xs =>
    cases xs with
    | nil =>
      simp only [killT, T.un, List.map_nil]
      split
      · exact .dead _
      · exact WkT.ofUn (.ot i t [])
    | cons x xs =>
      simp only [killT, T.un, List.map_cons]
      split
      · exact .dead _
      · exact WkT.ofUn (.ot i t (x :: xs))
  | oet i t xs j off =>
    simp only [killT, T.un]
    split
    · exact .dead _
    · exact WkT.ofUn (.oet i t xs j off)
  | _ => exact .refl _

theorem cells_one (t : Ty) (x : t.El) : (t.cells x).all V.one = true := by
  induction t with
  | pair a b iha ihb => simp only [Ty.cells, List.all_append, iha, ihb, Bool.and_self]
  | _ => rfl

def srcT : T → Option ((t : Ty) × List t.El)
  | .p (.tl t xs) => some ⟨t, xs⟩
  | .ot _ t xs => some ⟨t, xs⟩
  | _ => none

def dstT (t : Ty) : T → Option (Option Nat × List t.El)
  | .p (.val (.slice none 0 0)) => some (none, [])
  | .emp => some (none, [])
  | .ot id t' xs => if h : t' = t then some (some id, h ▸ xs) else none
  | _ => none

def evAppendT (P : Look) (G : Nat → Option (List V)) (e : Env Γ.St) (dst : Option Tmp) (c : Call) : Option (Env Γ.St) :=
  match c.callee, c.args.toList, c.argTypes.toList, dst with
  | .builtin .append, [x0, x1], [t0, t1], some d =>
    match P.und t0, P.und t1 with
    | some (.slice el), some (.slice _) => match P.inf el with
      | some info => match info.zero, srcT (evx G e x1) with
        | some z, some ⟨t, ys⟩ => match dstT t (evx G e x0) with
          | some (nm, xs) =>
            if t.size = info.size ∧ 1 ≤ info.bytes ∧ zcells z = info.size then
              if (2 * (xs.length + ys.length) + 1024) * info.bytes ≤ 140737488355328 then
                some { (e.kill (nm.getD d)) with tm := (e.kill (nm.getD d)).tm.set d (.ot (nm.getD d) t (xs ++ ys)) }
              else none
            else none
          | none => none
        | _, _ => none
      | none => none
    | _, _ => none
  | _, _, _, _ => none

theorem weak_set {n d : Nat} {X Y : T} (hXY : WkT X Y) (h : Inv Γ G w0 F0 O0 a w { ((e.mapT T.un).kill n) with tm := ((e.mapT T.un).kill n).tm.set d X }) :
    Inv Γ G w0 F0 O0 a w { (e.kill n) with tm := (e.kill n).tm.set d Y } := by
  refine h.weak (by simp [Env.kill, Env.mapT]) rfl ?_ ?_
  · intro t
    rw [get_set, get_set]
    have hlen : ((e.mapT T.un).kill n).tm.length = (e.kill n).tm.length := by simp [Env.kill, Env.mapT]
    rw [hlen]
    split
    · exact hXY
    · rw [get_map, get_map, get_mapT rfl]
      exact kill_un n _
  · intro s
    have h1 : ({ ((e.mapT T.un).kill n) with tm := ((e.mapT T.un).kill n).tm.set d X } : Env Γ.St).var s = ((e.mapT T.un).kill n).var s := rfl
    have h2 : ({ (e.kill n) with tm := (e.kill n).tm.set d Y } : Env Γ.St).var s = (e.kill n).var s := rfl
    rw [h1, h2, var_kill, var_kill, var_mapT]
    by_cases hs : s = n
    · rw [if_pos hs, if_pos hs]; trivial
    · rw [if_neg hs, if_neg hs]
      cases e.var s with
      | none => trivial
      | some cs =>
        simp only [Option.map_some, List.map_map]
        exact WkTs.map (fun x => kill_un n x) cs

theorem appendT_sim (hi : Inv Γ G w0 F0 O0 a w e) {dst : Option Tmp} {c : Call} {type : TypeId} {pos : String} {after : Array Edge} {guard : Option (Nat × Bool)}
    (h : evAppendT P G e dst c = some e') {Q : Exit → Act → World → Prop} :
    (⟨dst, .call c, type, pos, after, guard⟩ : Oper).wp P a w (fun a' w' => Inv Γ G w0 F0 O0 a' w' e') Q := by
  unfold evAppendT at h
  split at h
  · rename_i x0 x1 t0 t1 d hcal hargs htys
    split at h
    · rename_i el el1 hu0 hu1
      have hu0' : P.underlying t0 = some (.slice el) := hu0
      have hu1' : P.underlying t1 = some (.slice el1) := hu1
      split at h
      · rename_i info hinfo
        have hinfo' : P.info? el = some info := hinfo
        split at h
        · rename_i z t ys hz hsrc
          split at h
          · rename_i nm xs hdst
            split at h
            · rename_i hok
              obtain ⟨hsz, hby, hzc⟩ := hok
              split at h
              · rename_i hbound
                simp only [Option.some.injEq] at h
                subst h
                have hsu : elemsT (evx G (e.mapT T.un) x1) = some (ys.map t.enc) := by
                  rw [evx_un]
                  unfold srcT at hsrc
                  split at hsrc
                  · rename_i heq
                    simp only [Option.some.injEq, Sigma.mk.injEq] at hsrc
                    obtain ⟨rfl, hys⟩ := hsrc
                    cases hys
                    rw [heq]; rfl
                  · rename_i i0 ys0 heq
                    simp only [Option.some.injEq, Sigma.mk.injEq] at hsrc
                    obtain ⟨rfl, hys⟩ := hsrc
                    cases hys
                    rw [heq]
                    cases ys0 <;> rfl
                  · cases hsrc
                have hao : appendOk info z (ys.map t.enc) = true := by
                  simp only [appendOk, Bool.and_eq_true, decide_eq_true_eq, beq_iff_eq, List.all_eq_true]
                  refine ⟨⟨?_, hby⟩, hzc⟩
                  intro q hq
                  simp only [List.mem_map] at hq
                  obtain ⟨y, _, rfl⟩ := hq
                  refine ⟨by rw [enc_len]; exact hsz, ?_⟩
                  rw [enc_cells]
                  exact fun y hy => List.all_eq_true.1 (cells_one t _) y hy
                -- a slice of the frame's own that is not empty
                have hown : ∀ id x xs', nm = some id → xs = x :: xs' → evx G (e.mapT T.un) x0 = .ow id t.size (xs.map t.enc) → (⟨some d, .call c, type, pos, after, guard⟩ : Oper).wp P a w (fun a' w' => Inv Γ G w0 F0 O0 a' w' { (e.kill (nm.getD d)) with tm := (e.kill (nm.getD d)).tm.set d (.ot (nm.getD d) t (xs ++ ys)) }) Q := by
                  intro id x xs' hnm hxs hx0
                  subst hnm
                  have hev : evAppendN P G (e.mapT T.un) (some id) (some d) c = some { ((e.mapT T.un).kill id) with tm := ((e.mapT T.un).kill id).tm.set d (.ow id t.size (xs.map t.enc ++ ys.map t.enc)) } := by
                    have hb' : (2 * ((xs.map t.enc).length + (ys.map t.enc).length) + 1024) * info.bytes ≤ 140737488355328 := by simpa using hbound
                    simp only [evAppendN, hcal, hargs, htys, hu0', hu1', hinfo', hz, hsu, hao, if_true, hx0, hsz, hb', and_self]
                  refine Oper.wp_mono (fun a' w' hh => ?_) (appendN_sim hi.un hev)
                  refine weak_set ?_ hh
                  have : (T.ot id t (xs ++ ys)).un = .ow id t.size (xs.map t.enc ++ ys.map t.enc) := by
                    subst hxs; simp [T.un]
                  rw [← this]; exact WkT.ofUn _
                have hemp : ∀ x : T, evx G (e.mapT T.un) x0 = x → (x = .emp ∨ x = .p (.val (.slice none 0 0))) → xs = [] → (⟨some d, .call c, type, pos, after, guard⟩ : Oper).wp P a w (fun a' w' => Inv Γ G w0 F0 O0 a' w' { (e.kill (nm.getD d)) with tm := (e.kill (nm.getD d)).tm.set d (.ot (nm.getD d) t (xs ++ ys)) }) Q := by
                  intro x hx0 hx hxs
                  subst hxs
                  have hel : elemsT x = some [] := by rcases hx with rfl | rfl <;> rfl
                  cases ys with
                  | nil =>
                    have hev : evAppendN P G (e.mapT T.un) nm (some d) c = some ((e.mapT T.un).put (some d) x) := by
                      simp only [evAppendN, hcal, hargs, htys, hu0', hu1', hinfo', hz, hsu, hao, if_true, hx0]
                      rcases hx with rfl | rfl <;> simp [elemsT]
                    refine Oper.wp_mono (fun a' w' hh => ?_) (appendN_sim hi.un hev)
                    have hk := hh.kill (nm.getD d)
                    have heq : ((e.mapT T.un).put (some d) x).kill (nm.getD d) = { ((e.mapT T.un).kill (nm.getD d)) with tm := ((e.mapT T.un).kill (nm.getD d)).tm.set d (killT (nm.getD d) x) } := by
                      simp [Env.kill, Env.put, List.map_set]
                    rw [heq] at hk
                    refine weak_set ?_ hk
                    rcases hx with rfl | rfl
                    · exact fun w F β al v h => .inl ⟨rfl, h⟩
                    · exact fun w F β al v h => .inl ⟨rfl, none, Rd.eq_val h⟩
                  | cons y ys =>
                    have hev : evAppendN P G (e.mapT T.un) nm (some d) c = some { ((e.mapT T.un).kill (nm.getD d)) with tm := ((e.mapT T.un).kill (nm.getD d)).tm.set d (.ow (nm.getD d) info.size ((y :: ys).map t.enc)) } := by
                      have hb' : (2 * (t.enc y :: ys.map t.enc).length + 1024) * info.bytes ≤ 140737488355328 := by simpa using hbound
                      simp only [evAppendN, hcal, hargs, htys, hu0', hu1', hinfo', hz, hsu, hao, if_true, hx0]
                      rcases hx with rfl | rfl <;> simp only [elemsT, List.map_cons, hb', if_true]
                    refine Oper.wp_mono (fun a' w' hh => ?_) (appendN_sim hi.un hev)
                    refine weak_set ?_ hh
                    have : (T.ot (nm.getD d) t ([] ++ y :: ys)).un = .ow (nm.getD d) info.size ((y :: ys).map t.enc) := by
                      simp [T.un, hsz]
                    rw [← this]; exact WkT.ofUn _
                unfold dstT at hdst
                split at hdst
                · rename_i heq
                  simp only [Option.some.injEq, Prod.mk.injEq] at hdst
                  obtain ⟨rfl, rfl⟩ := hdst
                  exact hemp _ rfl (by rw [evx_un, heq]; exact .inr rfl) rfl
                · rename_i heq
                  simp only [Option.some.injEq, Prod.mk.injEq] at hdst
                  obtain ⟨rfl, rfl⟩ := hdst
                  exact hemp _ rfl (by rw [evx_un, heq]; exact .inl rfl) rfl
                · rename_i id t' xs0 heq
                  split at hdst
                  · rename_i ht
                    subst ht
                    simp only [Option.some.injEq, Prod.mk.injEq] at hdst
                    obtain ⟨rfl, rfl⟩ := hdst
                    cases hxs : xs0 with
                    | nil =>
                      subst hxs
                      exact hemp _ rfl (by rw [evx_un, heq]; exact .inl rfl) rfl
                    | cons x xs' =>
                      subst hxs
                      exact hown id x xs' rfl rfl (by rw [evx_un, heq]; rfl)
                  · cases hdst
                · cases hdst
              · cases h
            · cases h
          · cases h
        · cases h
      · cases h
    · cases h
  · cases h
end
end Go.Ve
