/-
  The evaluator over pure values, part 24: states that know less; typed slices that are appended to.
  The evaluator over pure values, part 20: stores into a slice of the frame's own; what stays from now on; one operation, whatever it is.
  The evaluator over pure values, part 21: regions: in the order of the text; in an order that is drawn, with a tail that comes last in every order.
  The evaluator over pure values, part 14: statements and functions.
-/
import Derived.Test.YtcnlcmbchljpgaaGreatQt4
set_option linter.unusedVariables false
namespace Go.Ve
open Go
section
variable {St : Type}
def Env.mapT (f : T → T) (e : Env St) : Env St := { e with tm := e.tm.map f, vars := e.vars.map (fun c => c.map (List.map f)) }
theorem jV {f : T → T} (hf : f .dead = .dead) (e : Env St) (t : Nat) : (e.mapT f).get t = f (e.get t) := by
 simp only [Env.mapT, Env.get, List.getD_eq_getElem?_getD, List.getElem?_map]
 cases e.tm[t]? <;> simp [hf]
theorem jA {f : T → T} (e : Env St) (s : Nat) : (e.mapT f).var s = (e.var s).map (List.map f) := by
 simp only [Env.mapT, Env.var, List.getElem?_map]
 cases e.vars[s]? <;> rfl
end
def WkT (x y : T) : Prop := ∀ (w : World) (F : Blk → Prop) (β : Lay) (al : jP → Prop) (v : Value), zU w F β al v x → zU w F β al v y
def xY : List T → List T → Prop
 | [], [] => True
 | x :: xs, y :: ys => WkT x y ∧ xY xs ys
 | _, _ => False
theorem WkT.refl (x : T) : WkT x x := fun _ _ _ _ _ h => h
theorem WkT.dead (x : T) : WkT x .dead := fun _ _ _ _ _ _ => trivial
theorem WkT.un (x : T) : WkT x x.un := fun _ _ _ _ _ h => zAu.1 h
theorem WkT.ofUn (x : T) : WkT x.un x := fun _ _ _ _ _ h => zAu.2 h
theorem xY.refl : ∀ (l : List T), xY l l
 | [] => trivial
 | x :: l => ⟨.refl x, xY.refl l⟩
theorem xY.map {f g : T → T} (h : ∀ x, WkT (f x) (g x)) : ∀ (l : List T), xY (l.map f) (l.map g)
 | [] => trivial
 | x :: l => ⟨h x, xY.map h l⟩
theorem xY.get : ∀ {xs ys : List T} (_ : xY xs ys) (i : Nat) (x y : T), xs[i]? = some x → ys[i]? = some y → WkT x y
 | [], [], _, i, x, y, h1, _ => by simp at h1
 | a :: xs, b :: ys, h, i, x, y, h1, h2 => by
  cases i with
  | zero => simp at h1 h2; subst h1 h2; exact h.1
  | succ i => exact xY.get h.2 i x y (by simpa using h1) (by simpa using h2)
theorem xY.len : ∀ {xs ys : List T} (_ : xY xs ys), xs.length = ys.length
 | [], [], _ => rfl
 | a :: xs, b :: ys, h => by simp [xY.len h.2]
section
variable {Γ : Sig} {P : Program} {G : Nat → Option (List V)} {S : q7 Γ} {o : Oper} {a : Act} {w0 : World} {F0 : Blk → Prop} {O0 : uR} {w : World} {e e' : Env Γ.St}
def zYR (e e2 : Env Γ.St) : Prop := ∀ s, match e.var s, e2.var s with
 | none, none => True
 | some cs, some cs2 => xY cs cs2
 | _, _ => False
theorem Inv.weak {e2 : Env Γ.St} (h : Inv Γ G w0 F0 O0 a w e) (hl : e2.tm.length = e.tm.length) (hst : e2.st = e.st) (ht2 : ∀ t, WkT (e.get t) (e2.get t)) (hv2 : zYR e e2) :
  Inv Γ G w0 F0 O0 a w e2 := by
 obtain ⟨F, O, β, hc, hG, hsz, hdf, ht, hv⟩ := h
 refine Inv.of (al := zQ e) (by rw [hst]; exact hc) hG (by rw [hl]; exact hsz) hdf (fun t => ht2 t _ _ _ _ _ (ht t)) ?_ ?_
 ·intro s cs2 hcs2
  have h1 := hv2 s
  rw [hcs2] at h1
  cases hcs : e.var s with
  | none => rw [hcs] at h1; exact h1.elim
  | some cs =>
   rw [hcs] at h1
   obtain ⟨c, et, g1, g2, g3⟩ := hv s cs hcs
   refine ⟨⟨cs, hcs⟩, c, et, g1, g2.trans h1.len, ?_⟩
   intro i x y hx hy
   have hlt : i < cs.length := by rw [h1.len]; exact (List.getElem?_eq_some_iff.1 hy).1
   exact h1.get i cs[i] y (by simp [hlt]) hy _ _ _ _ _ (g3 i x cs[i] hx (by simp [hlt]))
 ·rintro s ⟨cs, hcs⟩
  have h1 := hv2 s
  rw [hcs] at h1
  cases hcs2 : e2.var s with
  | none => rw [hcs2] at h1; exact h1.elim
  | some cs2 => exact ⟨cs2, rfl⟩
theorem zGd (x : Operand) : evx G (e.mapT T.un) x = (evx G e x).un := by
 cases x with
 | tmp t => exact jV rfl e t
 | const v =>
  simp only [evx]
  cases v with
  | tuple vs => rfl
  | agg cs => rfl
  | _ => rfl
 | global g => simp only [evx]; cases G g <;> rfl
 | func f => rfl
theorem Inv.un (h : Inv Γ G w0 F0 O0 a w e) : Inv Γ G w0 F0 O0 a w (e.mapT T.un) := by
 refine h.weak (by simp [Env.mapT]) rfl (fun t => by rw [jV rfl]; exact WkT.un _) ?_
 intro s
 rw [jA]
 cases hs : e.var s with
 | none => trivial
 | some cs =>
  have := xY.map (f := id) (g := T.un) (fun x => WkT.un x) cs
  simpa using this
theorem zT9 (n : Nat) (x : T) : WkT (qK n x.un) (qK n x) := by
 cases x with
 | p d =>
  cases d with
  | tl t xs => exact WkT.ofUn (.p (.tl t xs))
  | _ => exact .refl _
 | ot i t xs =>
  cases xs with
  | nil =>
   simp only [qK, T.un, List.map_nil]
   split
   ·exact .dead _
   ·exact WkT.ofUn (.ot i t [])
  | cons x xs =>
   simp only [qK, T.un, List.map_cons]
   split
   ·exact .dead _
   ·exact WkT.ofUn (.ot i t (x :: xs))
 | oet i t xs j off =>
  simp only [qK, T.un]
  split
  ·exact .dead _
  ·exact WkT.ofUn (.oet i t xs j off)
 | _ => exact .refl _
theorem zGS (t : Ty) (x : t.El) : (t.cells x).all V.one = true := by
 induction t with
 | pair a b iha ihb => simp only [Ty.cells, List.all_append, iha, ihb, Bool.and_self]
 | _ => rfl
def zSI : T → Option ((t : Ty) × List t.El)
 | .p (.tl t xs) => some ⟨t, xs⟩
 | .ot _ t xs => some ⟨t, xs⟩
 | .ov _ t xs lo hi => some ⟨t, (xs.take hi).drop lo⟩
 | _ => none
def zR0 (t : Ty) : T → Option (Option Nat × List t.El)
 | .p (.val (.slice none 0 0)) => some (none, [])
 | .emp => some (none, [])
 | .ot id t' xs => if h : t' = t then some (some id, h ▸ xs) else none
 | _ => none
def j9 (P : jC) (G : Nat → Option (List V)) (e : Env Γ.St) (dst : Option Tmp) (c : Call) : Option (Env Γ.St) :=
 match c.callee, c.args.toList, c.argTypes.toList, dst with
 | .builtin .append, [x0, x1], [t0, t1], some d =>
  match P.und t0, P.und t1 with
  | some (.slice el), some (.slice _) => match P.inf el with
   | some info => match info.zero, zSI (evx G e x1) with
    | some z, some ⟨t, ys⟩ => match zR0 t (evx G e x0) with
     | some (nm, xs) =>
      if t.size = info.size ∧ 1 ≤ info.bytes ∧ zMq z = info.size ∧ nm.getD d ≠ jL then
       if (2 * (xs.length + ys.length) + 1024) * info.bytes ≤ 140737488355328 then
        some { (e.kill (nm.getD d)) with tm := (e.kill (nm.getD d)).tm.set d (.ot (nm.getD d) t (xs ++ ys)) }
       else none
      else none
     | none => none
    | _, _ => none
   | none => none
  | _, _ => none
 | _, _, _, _ => none
theorem zIC {n d : Nat} {X Y : T} (hXY : WkT X Y) (h : Inv Γ G w0 F0 O0 a w { ((e.mapT T.un).kill n) with tm := ((e.mapT T.un).kill n).tm.set d X }) :
  Inv Γ G w0 F0 O0 a w { (e.kill n) with tm := (e.kill n).tm.set d Y } := by
 refine h.weak (by simp [Env.kill, Env.mapT]) rfl ?_ ?_
 ·intro t
  rw [v6, v6]
  have hlen : ((e.mapT T.un).kill n).tm.length = (e.kill n).tm.length := by simp [Env.kill, Env.mapT]
  rw [hlen]
  split
  ·exact hXY
  ·rw [zEJ, zEJ, jV rfl]
   exact zT9 n _
 ·intro s
  have h1 : ({ ((e.mapT T.un).kill n) with tm := ((e.mapT T.un).kill n).tm.set d X } : Env Γ.St).var s = ((e.mapT T.un).kill n).var s := rfl
  have h2 : ({ (e.kill n) with tm := (e.kill n).tm.set d Y } : Env Γ.St).var s = (e.kill n).var s := rfl
  rw [h1, h2, kY, kY, jA]
  by_cases hs : s = n
  ·rw [if_pos hs, if_pos hs]; trivial
  ·rw [if_neg hs, if_neg hs]
   cases e.var s with
   | none => trivial
   | some cs =>
    simp only [Option.map_some, List.map_map]
    exact xY.map (fun x => zT9 n x) cs
theorem zLw (hi : Inv Γ G w0 F0 O0 a w e) {dst : Option Tmp} {c : Call} {type : TypeId} {pos : String} {after : Array Edge} {guard : Option (Nat × Bool)}
  (h : j9 P G e dst c = some e') {Q : Exit → Act → World → Prop} :
  (⟨dst, .call c, type, pos, after, guard⟩ : Oper).wp P a w (fun a' w' => Inv Γ G w0 F0 O0 a' w' e') Q := by
 unfold j9 at h
 split at h
 ·rename_i x0 x1 t0 t1 d hcal hargs htys
  split at h
  ·rename_i el el1 hu0 hu1
   have hu0' : P.underlying t0 = some (.slice el) := hu0
   have hu1' : P.underlying t1 = some (.slice el1) := hu1
   split at h
   ·rename_i info hinfo
    have hinfo' : P.info? el = some info := hinfo
    split at h
    ·rename_i z t ys hz hsrc
     split at h
     ·rename_i nm xs hdst
      split at h
      ·rename_i hok
       obtain ⟨hsz, hby, hzc, hnl⟩ := hok
       split at h
       ·rename_i hbound
        simp only [Option.some.injEq] at h
        subst h
        have hsu : zB5 (evx G (e.mapT T.un) x1) = some (ys.map t.enc) := by
         rw [zGd]
         unfold zSI at hsrc
         split at hsrc
         ·rename_i heq
          simp only [Option.some.injEq, Sigma.mk.injEq] at hsrc
          obtain ⟨rfl, hys⟩ := hsrc
          cases hys
          rw [heq]; rfl
         ·rename_i i0 ys0 heq
          simp only [Option.some.injEq, Sigma.mk.injEq] at hsrc
          obtain ⟨rfl, hys⟩ := hsrc
          cases hys
          rw [heq]
          cases ys0 <;> rfl
         ·rename_i i0 xs0 lo0 hi0 heq
          simp only [Option.some.injEq, Sigma.mk.injEq] at hsrc
          obtain ⟨rfl, hys⟩ := hsrc
          cases hys
          rw [heq]; rfl
         ·cases hsrc
        have hao : zEb info z (ys.map t.enc) = true := by
         simp only [zEb, Bool.and_eq_true, decide_eq_true_eq, beq_iff_eq, List.all_eq_true]
         refine ⟨⟨?_, hby⟩, hzc⟩
         intro q hq
         simp only [List.mem_map] at hq
         obtain ⟨y, _, rfl⟩ := hq
         refine ⟨by rw [jZ]; exact hsz, ?_⟩
         rw [qN]
         exact fun y hy => List.all_eq_true.1 (zGS t _) y hy
        have hown : ∀ id x xs', nm = some id → xs = x :: xs' → evx G (e.mapT T.un) x0 = .ow id t.size (xs.map t.enc) → (⟨some d, .call c, type, pos, after, guard⟩ : Oper).wp P a w (fun a' w' => Inv Γ G w0 F0 O0 a' w' { (e.kill (nm.getD d)) with tm := (e.kill (nm.getD d)).tm.set d (.ot (nm.getD d) t (xs ++ ys)) }) Q := by
         intro id x xs' hnm hxs hx0
         subst hnm
         have hev : jW P G (e.mapT T.un) (some id) (some d) c = some { ((e.mapT T.un).kill id) with tm := ((e.mapT T.un).kill id).tm.set d (.ow id t.size (xs.map t.enc ++ ys.map t.enc)) } := by
          have hb' : (2 * ((xs.map t.enc).length + (ys.map t.enc).length) + 1024) * info.bytes ≤ 140737488355328 := by simpa using hbound
          have hnl' : id ≠ jL := hnl
          simp only [jW, hcal, hargs, htys, hu0', hu1', hinfo', hz, hsu, hao, if_true, hx0]
          rw [if_pos ⟨hsz, hb', hnl'⟩]
         refine Oper.wp_mono (fun a' w' hh => ?_) (zB0 hi.un hev)
         refine zIC ?_ hh
         have : (T.ot id t (xs ++ ys)).un = .ow id t.size (xs.map t.enc ++ ys.map t.enc) := by
          subst hxs; simp [T.un]
         rw [← this]; exact WkT.ofUn _
        have hemp : ∀ x : T, evx G (e.mapT T.un) x0 = x → (x = .emp ∨ x = .p (.val (.slice none 0 0))) → xs = [] → (⟨some d, .call c, type, pos, after, guard⟩ : Oper).wp P a w (fun a' w' => Inv Γ G w0 F0 O0 a' w' { (e.kill (nm.getD d)) with tm := (e.kill (nm.getD d)).tm.set d (.ot (nm.getD d) t (xs ++ ys)) }) Q := by
         intro x hx0 hx hxs
         subst hxs
         have hel : zB5 x = some [] := by rcases hx with rfl | rfl <;> rfl
         cases ys with
         | nil =>
          have hev : jW P G (e.mapT T.un) nm (some d) c = some ((e.mapT T.un).put (some d) x) := by
           simp only [jW, hcal, hargs, htys, hu0', hu1', hinfo', hz, hsu, hao, if_true, hx0]
           rcases hx with rfl | rfl <;> simp [zB5]
          refine Oper.wp_mono (fun a' w' hh => ?_) (zB0 hi.un hev)
          have hk := hh.kill (nm.getD d)
          have heq : ((e.mapT T.un).put (some d) x).kill (nm.getD d) = { ((e.mapT T.un).kill (nm.getD d)) with tm := ((e.mapT T.un).kill (nm.getD d)).tm.set d (qK (nm.getD d) x) } := by
           simp [Env.kill, Env.put, List.map_set]
          rw [heq] at hk
          refine zIC ?_ hk
          rcases hx with rfl | rfl
          ·exact fun w F β al v h => .inl ⟨rfl, h⟩
          ·exact fun w F β al v h => .inl ⟨rfl, none, Rd.eq_val h⟩
         | cons y ys =>
          have hev : jW P G (e.mapT T.un) nm (some d) c = some { ((e.mapT T.un).kill (nm.getD d)) with tm := ((e.mapT T.un).kill (nm.getD d)).tm.set d (.ow (nm.getD d) info.size ((y :: ys).map t.enc)) } := by
           have hb' : (2 * (t.enc y :: ys.map t.enc).length + 1024) * info.bytes ≤ 140737488355328 := by simpa using hbound
           simp only [jW, hcal, hargs, htys, hu0', hu1', hinfo', hz, hsu, hao, if_true, hx0]
           rcases hx with rfl | rfl <;> (simp only [zB5, List.map_cons]; rw [if_pos ⟨hb', hnl⟩])
          refine Oper.wp_mono (fun a' w' hh => ?_) (zB0 hi.un hev)
          refine zIC ?_ hh
          have : (T.ot (nm.getD d) t ([] ++ y :: ys)).un = .ow (nm.getD d) info.size ((y :: ys).map t.enc) := by
           simp [T.un, hsz]
          rw [← this]; exact WkT.ofUn _
        unfold zR0 at hdst
        split at hdst
        ·rename_i heq
         simp only [Option.some.injEq, Prod.mk.injEq] at hdst
         obtain ⟨rfl, rfl⟩ := hdst
         exact hemp _ rfl (by rw [zGd, heq]; exact .inr rfl) rfl
        ·rename_i heq
         simp only [Option.some.injEq, Prod.mk.injEq] at hdst
         obtain ⟨rfl, rfl⟩ := hdst
         exact hemp _ rfl (by rw [zGd, heq]; exact .inl rfl) rfl
        ·rename_i id t' xs0 heq
         split at hdst
         ·rename_i ht
          subst ht
          simp only [Option.some.injEq, Prod.mk.injEq] at hdst
          obtain ⟨rfl, rfl⟩ := hdst
          cases hxs : xs0 with
          | nil =>
           subst hxs
           exact hemp _ rfl (by rw [zGd, heq]; exact .inl rfl) rfl
          | cons x xs' =>
           subst hxs
           exact hown id x xs' rfl rfl (by rw [zGd, heq]; rfl)
         ·cases hdst
        ·cases hdst
       ·cases h
      ·cases h
     ·cases h
    ·cases h
   ·cases h
  ·cases h
 ·cases h
def zWg (p : Nat) : Operand → Bool
 | .tmp q => !Nat.beq q p
 | _ => true
def vC (P : jC) (G : Nat → Option (List V)) (e : Env Γ.St) (dst : Option Tmp) (c : Call) : Option (Env Γ.St) :=
 match c.callee, c.args.toList, c.argTypes.toList, dst with
 | .builtin .append, [.tmp p, x1], [t0, t1], some d =>
  match P.und t0, P.und t1 with
  | some (.slice el), some (.slice _) => match P.inf el with
   | some info => match info.zero, zSI (evx G e x1) with
    | some z, some ⟨t, y :: ys⟩ => match e.get p with
     | .ov id t' xs 0 hi =>
      if zWg p x1 = false then none else
      if h : t' = t then
       if t.size = info.size ∧ 1 ≤ info.bytes ∧ zMq z = info.size ∧ id ≠ jL then
        if (2 * ((List.take hi (h ▸ xs)).length + (y :: ys).length) + 1024) * info.bytes ≤ 140737488355328 then
         some { (e.kill id) with tm := (e.kill id).tm.set d (.ot id t (List.take hi (h ▸ xs) ++ y :: ys)) }
        else none
       else none
      else none
     | _ => none
    | _, _ => none
   | none => none
  | _, _ => none
 | _, _, _, _ => none
theorem zNA {x : Operand} {p : Nat} {X : T} (h : ∀ t, x = .tmp t → t ≠ p) : evx G (e.put (some p) X) x = evx G e x := by
 cases x with
 | tmp t =>
  simp only [evx, Env.put, Env.get, List.getD_eq_getElem?_getD]
  rw [List.getElem?_set_ne (fun hh => h t rfl hh.symm)]
 | _ => rfl
theorem Inv.putWeak (h : Inv Γ G w0 F0 O0 a w e) {p : Nat} {X : T} (hw : WkT (e.get p) X) : Inv Γ G w0 F0 O0 a w (e.put (some p) X) := by
 refine h.weak (by simp [Env.put]) rfl ?_ ?_
 ·intro t
  simp only [Env.put]
  rw [v6]
  split
  ·rename_i ht; rw [ht.1]; exact hw
  ·exact .refl _
 ·intro s
  have : (e.put (some p) X).var s = e.var s := rfl
  rw [this]
  cases e.var s with
  | none => trivial
  | some cs => exact xY.refl cs
theorem qH.take {w : World} {F : Blk → Prop} {b k cap : Nat} {es : List V} (h : qH w F b k cap es) (n : Nat) : qH w F b k cap (es.take n) := by
 obtain ⟨c, et, g1, g2, g3, g4, g5⟩ := h
 refine ⟨c, et, g1, g2, by simp; omega, fun e he => g4 e (List.mem_of_mem_take he), ?_⟩
 intro i j e d x hi hj hx
 rw [List.getElem?_take] at hi
 split at hi
 ·exact g5 i j e d x hi hj hx
 ·cases hi
theorem zRC {p id : Nat} {X : T} (h1 : qK id X = .dead) (h2 : qK id (e.get p) = .dead) (hp : p < e.tm.length) : (e.put (some p) X).kill id = e.kill id := by
 have : (e.tm.set p X).map (qK id) = e.tm.map (qK id) := by
  rw [List.map_set, h1]
  apply List.ext_getElem?
  intro i
  rw [List.getElem?_set]
  split
  ·rename_i hpi
   subst hpi
   rw [if_pos (by simpa using hp), List.getElem?_map, List.getElem?_eq_getElem hp]
   simp only [Env.get, List.getD_eq_getElem?_getD, List.getElem?_eq_getElem hp, Option.getD_some] at h2
   simp [h2]
  ·rfl
 simp only [Env.kill, Env.put, this]
theorem zSn (hi : Inv Γ G w0 F0 O0 a w e) {dst : Option Tmp} {c : Call} {type : TypeId} {pos : String} {after : Array Edge} {guard : Option (Nat × Bool)}
  (h : vC P G e dst c = some e') {Q : Exit → Act → World → Prop} :
  (⟨dst, .call c, type, pos, after, guard⟩ : Oper).wp P a w (fun a' w' => Inv Γ G w0 F0 O0 a' w' e') Q := by
 unfold vC at h
 split at h
 ·rename_i p x1 t0 t1 d hcal hargs htys
  split at h
  ·rename_i el el1 hu0 hu1
   have hu0' : P.underlying t0 = some (.slice el) := hu0
   have hu1' : P.underlying t1 = some (.slice el1) := hu1
   split at h
   ·rename_i info hinfo
    have hinfo' : P.info? el = some info := hinfo
    split at h
    ·rename_i z t y ys hz hsrc
     split at h
     ·rename_i id t' xs hi0 qR
      split at h
      ·cases h
      ·rename_i hne0
       split at h
       ·rename_i htt
        subst htt
        simp only at h
        split at h
        ·rename_i hok
         obtain ⟨hsz, hby, hzc, hnl⟩ := hok
         split at h
         ·rename_i hbound
          simp only [Option.some.injEq] at h
          subst h
          have hx1p : ∀ q, x1 = .tmp q → q ≠ p := by
           rintro q rfl hqp
           subst hqp
           exact hne0 (by simp [zWg])
          have hlt : p < e.tm.length := by
           rcases Nat.lt_or_ge p e.tm.length with h | h
           ·exact h
           ·simp only [Env.get, List.getD_eq_getElem?_getD, List.getElem?_eq_none h, Option.getD_none] at qR
            cases qR
          have hkov : qK id (e.get p) = .dead := by rw [qR]; simp [qK]
          have hgp : ∀ (e1 : Env Γ.St) (X : T), p < e1.tm.length → (e1.put (some p) X).get p = X := by
           intro e1 X h1
           simp only [Env.put]
           rw [v6, if_pos ⟨rfl, h1⟩]
          cases xs with
          | nil =>
           have hw : WkT (e.get p) (.ot id t' []) := by
            rw [qR]
            rintro w F β al v (⟨_, _, _, hv⟩ | ⟨h0, _⟩)
            ·exact .inl ⟨rfl, hv⟩
            ·exact absurd rfl h0
           have hk : (e.put (some p) (.ot id t' [])).kill id = e.kill id := zRC (by simp [qK]) hkov hlt
           have hev : j9 P G (e.put (some p) (.ot id t' [])) (some d) c = some { ((e.put (some p) (.ot id t' [])).kill id) with tm := ((e.put (some p) (.ot id t' [])).kill id).tm.set d (.ot id t' ([] ++ y :: ys)) } := by
            have hb' : (2 * (([] : List t'.El).length + (y :: ys).length) + 1024) * info.bytes ≤ 140737488355328 := by simpa using hbound
            have hsrc' : zSI (evx G (e.put (some p) (.ot id t' [])) x1) = some ⟨t', y :: ys⟩ := by rw [zNA hx1p]; exact hsrc
            have hdst : zR0 t' (evx G (e.put (some p) (.ot id t' [])) (.tmp p)) = some (some id, []) := by
             simp only [evx, hgp e _ hlt, zR0, dif_pos]
            simp only [j9, hcal, hargs, htys, hu0', hu1', hinfo', hz, hsrc', hdst]
            rw [if_pos ⟨hsz, hby, hzc, hnl⟩, if_pos hb']; rfl
           have := zLw (type := type) (pos := pos) (after := after) (guard := guard) (Q := Q) (hi.putWeak hw) hev
           rw [hk] at this
           simpa using this
          | cons x xs =>
           have hw : WkT ((e.mapT T.un).get p) (.ow id t'.size (((x :: xs).take hi0).map t'.enc)) := by
            rw [jV rfl, qR]
            rintro w F β al v (⟨h0, _⟩ | ⟨_, ha, h1, h2, cap, hv, hr⟩)
            ·cases h0
            ·refine ⟨ha, cap, ?_, ?_⟩
             ·rw [hv]
              have : ((List.take hi0 (x :: xs)).map t'.enc).length = hi0 := by simp at h2 ⊢; omega
              rw [this]
              simp
             ·rw [List.map_take]; exact hr.take hi0
           have hlt' : p < (e.mapT T.un).tm.length := by simpa [Env.mapT] using hlt
           have hkov' : qK id ((e.mapT T.un).get p) = .dead := by rw [jV rfl, qR]; simp [T.un, qK]
           have hk : ((e.mapT T.un).put (some p) (.ow id t'.size (((x :: xs).take hi0).map t'.enc))).kill id = (e.mapT T.un).kill id := zRC (by simp [qK]) hkov' hlt'
           have hsu : zB5 (evx G (e.mapT T.un) x1) = some ((y :: ys).map t'.enc) := by
            rw [zGd]
            unfold zSI at hsrc
            split at hsrc
            ·rename_i heq
             simp only [Option.some.injEq, Sigma.mk.injEq] at hsrc
             obtain ⟨rfl, hys⟩ := hsrc
             cases hys
             rw [heq]; rfl
            ·rename_i i0 ys0 heq
             simp only [Option.some.injEq, Sigma.mk.injEq] at hsrc
             obtain ⟨rfl, hys⟩ := hsrc
             cases hys
             rw [heq]; rfl
            ·rename_i i0 xs0 lo0 hi1 heq
             simp only [Option.some.injEq, Sigma.mk.injEq] at hsrc
             obtain ⟨rfl, hys⟩ := hsrc
             rw [heq]
             simp only [T.un, zB5]
             rw [eq_of_heq hys]
            ·cases hsrc
           have hao : zEb info z ((y :: ys).map t'.enc) = true := by
            simp only [zEb, Bool.and_eq_true, decide_eq_true_eq, beq_iff_eq, List.all_eq_true]
            refine ⟨⟨?_, hby⟩, hzc⟩
            intro q hq
            simp only [List.mem_map] at hq
            obtain ⟨y, _, rfl⟩ := hq
            refine ⟨by rw [jZ]; exact hsz, ?_⟩
            rw [qN]
            exact fun y hy => List.all_eq_true.1 (zGS t' _) y hy
           have hev : jW P G ((e.mapT T.un).put (some p) (.ow id t'.size (((x :: xs).take hi0).map t'.enc))) (some id) (some d) c =
             some { (((e.mapT T.un).put (some p) (.ow id t'.size (((x :: xs).take hi0).map t'.enc))).kill id) with tm := (((e.mapT T.un).put (some p) (.ow id t'.size (((x :: xs).take hi0).map t'.enc))).kill id).tm.set d (.ow id t'.size (((x :: xs).take hi0).map t'.enc ++ (y :: ys).map t'.enc)) } := by
            have hb' : (2 * ((((x :: xs).take hi0).map t'.enc).length + ((y :: ys).map t'.enc).length) + 1024) * info.bytes ≤ 140737488355328 := by simpa using hbound
            have hsu' : zB5 (evx G ((e.mapT T.un).put (some p) (.ow id t'.size (((x :: xs).take hi0).map t'.enc))) x1) = some ((y :: ys).map t'.enc) := by rw [zNA hx1p]; exact hsu
            have hx0 : evx G ((e.mapT T.un).put (some p) (.ow id t'.size (((x :: xs).take hi0).map t'.enc))) (.tmp p) = .ow id t'.size (((x :: xs).take hi0).map t'.enc) := hgp _ _ hlt'
            simp only [jW, hcal, hargs, htys, hu0', hu1', hinfo', hz, hsu', hao, if_true, hx0]
            rw [if_pos ⟨hsz, hb', hnl⟩]
           refine Oper.wp_mono (fun a' w' hh => ?_) (zB0 (hi.un.putWeak hw) hev)
           rw [hk] at hh
           refine zIC ?_ hh
           have : (T.ot id t' ((x :: xs).take hi0 ++ y :: ys)).un = .ow id t'.size (((x :: xs).take hi0).map t'.enc ++ (y :: ys).map t'.enc) := by
            simp only [T.un, List.map_append]
            cases hm : ((x :: xs).take hi0).map t'.enc with
            | nil => rfl
            | cons _ _ => rfl
           rw [← this]; exact WkT.ofUn _
         ·cases h
        ·cases h
       ·cases h
     ·cases h
    ·cases h
   ·cases h
  ·cases h
 ·cases h
end
end Go.Ve

namespace Go.Ve
open Go
def jY (cs : List V) (o : Nat) : List V → List V
 | [] => cs
 | x :: r => jY (cs.set o x) (o + 1) r
theorem zFM : ∀ (xs cs : List V) (o : Nat), (jY cs o xs).length = cs.length := by
 intro xs
 induction xs with
 | nil => intro cs o; rfl
 | cons x xs ih => intro cs o; simp [jY, ih]
theorem zQ5 : ∀ (xs cs : List V) (o i : Nat), o + xs.length ≤ cs.length → (jY cs o xs)[i]? = if o ≤ i ∧ i < o + xs.length then xs[i - o]? else cs[i]? := by
 intro xs
 induction xs with
 | nil => intro cs o i _; simp [jY]; intro h1 h2; omega
 | cons x xs ih =>
  intro cs o i h
  simp only [List.length_cons] at h
  simp only [jY]
  rw [ih _ _ _ (by simp; omega)]
  by_cases h1 : o + 1 ≤ i ∧ i < o + 1 + xs.length
  ·rw [if_pos h1, if_pos (by simp; omega)]
   have : i - o = (i - (o + 1)) + 1 := by omega
   rw [this]; simp
  ·rw [if_neg h1]
   by_cases h2 : i = o
   ·subst h2
    rw [List.getElem?_set_self (by omega), if_pos (by simp)]
    simp
   ·rw [List.getElem?_set_ne (Ne.symm h2), if_neg (by simp; omega)]
def zCJ (q : V) (cs : List V) : V :=
 match q with
 | .agg _ => .agg cs
 | _ => match cs with
  | [y] => y
  | _ => q
def zEh (id k n : Nat) (q : V) : T → T
 | .ow i k' es => if i = id then (if k' = k then .ow i k (es.set n q) else .dead) else .ow i k' es
 | .oe i k' es j off => if i = id then (if k' = k then .oe i k (es.set n q) j off else .dead) else .oe i k' es j off
 | .ot i t xs => if i = id then .dead else .ot i t xs
 | .oet i t xs j off => if i = id then .dead else .oet i t xs j off
 | .ov i t xs j off => if i = id then .dead else .ov i t xs j off
 | x => x
section
variable {Γ : Sig} {P : Program} {G : Nat → Option (List V)} {S : q7 Γ} {o : Oper} {a : Act} {w0 : World} {F0 : Blk → Prop} {O0 : uR} {w : World} {e e' : Env Γ.St}
theorem qW.mapT {w' : World} {F F' : Blk → Prop} {β β' : Lay} {al al' : jP → Prop} {f : T → T} {b : Nat} {cs : List T} (hb : w'.heap[b]? = w.heap[b]?)
  (hf : ∀ v x, zU w F β al v x → zU w' F' β' al' v (f x)) (h : qW w F β al b cs) : qW w' F' β' al' b (cs.map f) := by
 obtain ⟨c, et, h1, h2, h3⟩ := h
 refine ⟨c, et, hb.trans h1, by simpa using h2, ?_⟩
 intro i x y hi hy
 simp only [List.getElem?_map, Option.map_eq_some_iff] at hy
 obtain ⟨z, hz, rfl⟩ := hy
 exact hf x z (h3 i x z hi hz)
def zBV (P : jC) (e : Env Γ.St) (t : TypeId) (id k : Nat) (es : List V) (i off : Nat) (d : V) : Option (Env Γ.St) :=
 match es[i]? with
 | some q =>
  if jR P t = some d.cells.length ∧ off + d.cells.length ≤ k ∧ d.cells.all V.one = true ∧ q.cells.length = k ∧ (zCJ q (jY q.cells off d.cells)).cells.length = k ∧
    (q.noAgg = true → d.cells.length = 1 ∧ k = 1) then
   some (e.mapT (zEh id k i (zCJ q (jY q.cells off d.cells))))
  else none
 | none => none
theorem zI3 {q d : V} {off k : Nat} (hq : q.cells.length = k) (hone : d.cells.all V.one = true) (hfit : off + d.cells.length ≤ k)
  (hc : q.noAgg = true → d.cells.length = 1 ∧ k = 1) : (zCJ q (jY q.cells off d.cells)).cells = jY q.cells off d.cells := by
 have hl := zFM d.cells q.cells off
 have main : (∀ cs, q ≠ .agg cs) → d.cells.length = 1 ∧ k = 1 → (match jY q.cells off d.cells with | [y] => y | _ => q).cells = jY q.cells off d.cells := by
  intro hna ⟨h1, hk⟩
  subst hk
  obtain rfl : off = 0 := by omega
  match hd : d.cells, h1 with
  | [y], _ =>
   have hy : y.one = true := by rw [hd] at hone; simpa using hone
   match hqc : q.cells, hq with
   | [z], _ =>
    simp only [jY, List.set_cons_zero]
    cases y <;> first | rfl | (simp [V.one] at hy)
 cases q with
 | agg cs => rfl
 | val v => exact main (fun cs h => by cases h) (hc rfl)
 | sl es => exact main (fun cs h => by cases h) (hc rfl)
 | tup vs => exact main (fun cs h => by cases h) (hc rfl)
 | clo f cs => exact main (fun cs h => by cases h) (hc rfl)
 | pp cs => exact main (fun cs h => by cases h) (hc rfl)
 | tl t xs => exact main (fun cs h => by cases h) (hc rfl)
 | rf o => exact main (fun cs h => by cases h) (hc rfl)
 | bot => exact main (fun cs h => by cases h) (hc rfl)
theorem zMB (hi : Inv Γ G w0 F0 O0 a w e) {t : TypeId} {id k i off : Nat} {es : List V} {d : V} {ap xv : Operand} (hp : evx G e ap = .oe id k es i off) (hx : evx G e xv = .p d)
  (h : zBV P e t id k es i off d = some e') : ∃ w', (Instr.storeAt t (a.eval ap) (a.eval xv)).run P w = .ok () w' ∧ Inv Γ G w0 F0 O0 a w' e' := by
 obtain ⟨F, O, β, hc, hG, hsz, hdf, ht, hv⟩ := hi
 have hpt := kW hG ht ap
 have hxt := kW hG ht xv
 rw [hp] at hpt
 rw [hx] at hxt
 obtain ⟨ha, hil, cap, hpv, c, et, g1, g2, g3, g4, g5⟩ := hpt
 unfold zBV at h
 split at h
 ·rename_i q hq
  split at h
  ·rename_i hcond
   obtain ⟨hsize, hfit, hone, hqk, hre, hag⟩ := hcond
   simp only [Option.some.injEq] at h
   subst h
   have hrc := zI3 hqk hone hfit hag
   obtain ⟨h1, h2, h3⟩ := zN3 (xs := d.cells.map .p) hxt (by simp [T.cellsT, hone])
   simp only [List.length_map] at h1
   have hik : (i + 1) * k ≤ cap * k := Nat.mul_le_mul_right k (by omega)
   rw [Nat.succ_mul] at hik
   have hrun : (Instr.storeAt t (a.eval ap) (a.eval xv)).run P w = .ok () (setBlk w (β.ob id) (.cells (j4 c (i * k + off) (a.eval xv).cells.toList) et (0, 0))) := by
    have hst := zCE (P := P) (b := β.ob id) (off := i * k + off) (et := et) (a.eval xv).cells.toList 0 w c g1 (by simp [h1]; omega) (fun u hu => h2 u (by simpa using hu))
    have hw : (if (a.eval xv).cells.toList = [] then w else setBlk w (β.ob id) (.cells (j4 c (i * k + off + 0) (a.eval xv).cells.toList) et (0, 0))) = setBlk w (β.ob id) (.cells (j4 c (i * k + off) (a.eval xv).cells.toList) et (0, 0)) := by
     split
     ·rename_i hnil; rw [hnil]; exact (zFS g1).symm
     ·simp
    rw [hw] at hst
    simp only [Instr.storeAt, hpv, Instr.sureAddr, Sem.run_bind, Sem.run_pure, Result.andThen_ok, storeVar, zP hsize, h1, ne_eq, not_true, if_false]
    exact hst
   refine ⟨_, hrun, ?_⟩
   obtain ⟨p1, p2, p3, p4⟩ := hc.place (.o id) ha
   have hFne : ∀ b' : Nat, F b' → b' ≠ β.ob id := fun b' hb hh => p3 (by rw [hh] at hb; exact hb)
   have hvne : ∀ s, zQ e (.v s) → β.vb s ≠ β.ob id := fun s hs hh => by
    have := hc.dist (.v s) (.o id) hs ha hh
    cases this
   have hone' : ∀ id', id' ≠ id → zQ e (.o id') → β.ob id' ≠ β.ob id := fun id' hne hs hh => by
    have := hc.dist (.o id') (.o id) hs ha hh
    simp at this; exact hne this
   have hrow : ∀ es0 cap', qH w F (β.ob id) k cap' es0 → qH (setBlk w (β.ob id) (.cells (j4 c (i * k + off) (a.eval xv).cells.toList) et (0, 0))) F (β.ob id) k cap' (es0.set i (zCJ q (jY q.cells off d.cells))) := by
    intro es0 cap' hr0
    obtain ⟨c', et', q1, q2, q3, q4, q5⟩ := hr0
    rw [g1] at q1
    simp only [Option.some.injEq, Obj.cells.injEq] at q1
    obtain ⟨rfl, _, _⟩ := q1
    refine ⟨_, et, zBA p2, by rw [xI]; exact q2, by simpa using q3, ?_, ?_⟩
    ·intro y hy
     rcases List.mem_or_eq_of_mem_set hy with h | h
     ·exact q4 y h
     ·rw [h]; exact hre
    ·intro i' j y d' x hi' hj hx
     have hj' := (List.getElem?_eq_some_iff.1 hj).1
     rw [zFN _ _ _ _ (by simp [h1]; omega)] at hx
     simp only [Array.length_toList, h1] at hx
     by_cases hii : i = i'
     ·subst hii
      have hil0 : i < es0.length := by have := (List.getElem?_eq_some_iff.1 hi').1; simpa using this
      rw [List.getElem?_set_self hil0, Option.some.injEq] at hi'
      subst hi'
      rw [hrc] at hj hj'
      rw [zQ5 _ _ _ _ (by omega)] at hj
      rw [zFM] at hj'
      by_cases hin : off ≤ j ∧ j < off + d.cells.length
      ·rw [if_pos hin] at hj
       rw [if_pos (by omega)] at hx
       have := h3 (j - off) x (.p d') (by rw [show j - off = i * k + j - (i * k + off) by omega]; simpa using hx) (by simp [hj])
       exact Rd.setBlk hFne this
      ·rw [if_neg hin] at hj
       rw [if_neg (by omega)] at hx
       exact Rd.setBlk hFne (g5 i j q d' x hq hj hx)
     ·rw [List.getElem?_set_ne hii] at hi'
      have hyk := q4 y (List.mem_of_getElem? hi')
      have hout : ¬ (i * k + off ≤ i' * k + j ∧ i' * k + j < i * k + off + d.cells.length) := by
       intro hh
       rcases Nat.lt_or_ge i i' with h | h
       ·have := Nat.mul_le_mul_right k (show i + 1 ≤ i' by omega)
        rw [Nat.succ_mul] at this; omega
       ·have := Nat.mul_le_mul_right k (show i' + 1 ≤ i by omega)
        rw [Nat.succ_mul] at this; omega
      rw [if_neg hout] at hx
      exact Rd.setBlk hFne (q5 i' j y d' x hi' hj hx)
   have hf : ∀ v x, zU w F β (zQ e) v x → zU (setBlk w (β.ob id) (.cells (j4 c (i * k + off) (a.eval xv).cells.toList) et (0, 0))) F β (zQ e) v (zEh id k i (zCJ q (jY q.cells off d.cells)) x) := by
    intro v x hx
    cases x with
    | p y => exact Rd.setBlk hFne hx
    | ow id' k' es0 =>
     simp only [zEh]
     obtain ⟨ha', cap', hv', hr'⟩ := hx
     split
     ·rename_i hid
      subst hid
      split
      ·rename_i hke
       subst hke
       exact ⟨ha', cap', by simpa using hv', hrow es0 cap' hr'⟩
      ·trivial
     ·rename_i hid
      exact ⟨ha', cap', hv', hr'.setBlk hFne (hone' id' hid ha')⟩
    | oe id' k' es0 j off' =>
     simp only [zEh]
     obtain ⟨ha', hj', cap', hv', hr'⟩ := hx
     split
     ·rename_i hid
      subst hid
      split
      ·rename_i hke
       subst hke
       exact ⟨ha', by simpa using hj', cap', hv', hrow es0 cap' hr'⟩
      ·trivial
     ·rename_i hid
      exact ⟨ha', hj', cap', hv', hr'.setBlk hFne (hone' id' hid ha')⟩
    | lp s off' => exact hx
    | mp id' es' ck =>
     obtain ⟨ha', hv', hr'⟩ := hx
     by_cases hid : id' = id
     ·subst hid; rw [g1] at hr'; cases hr'
     ·exact ⟨ha', hv', (j8 (hone' id' hid ha')).trans hr'⟩
    | ot id' t' xs' =>
     simp only [zEh]
     split
     ·trivial
     ·rename_i hid
      rcases hx with hx | ⟨hne, ha', cap', hv', hr'⟩
      ·exact .inl hx
      ·exact .inr ⟨hne, ha', cap', hv', hr'.setBlk hFne (hone' id' hid ha')⟩
    | oet id' t' xs' j off' =>
     simp only [zEh]
     split
     ·trivial
     ·rename_i hid
      obtain ⟨ha', hj', cap', hv', hr'⟩ := hx
      exact ⟨ha', hj', cap', hv', hr'.setBlk hFne (hone' id' hid ha')⟩
    | ov id' t' xs' lo' hi' =>
     simp only [zEh]
     split
     ·trivial
     ·rename_i hid
      rcases hx with hx | ⟨hne, ha', q1, q2, cap', hv', hr'⟩
      ·exact .inl hx
      ·exact .inr ⟨hne, ha', q1, q2, cap', hv', hr'.setBlk hFne (hone' id' hid ha')⟩
    | emp => exact hx
    | dead => trivial
   refine Inv.of (al := zQ e) (hc.setBlk ha _ (fun c' et' fl' hh => by rw [show w.heap[β.blk (.o id)]? = _ from g1] at hh; simp only [Option.some.injEq, Obj.cells.injEq] at hh; exact ⟨_, _, _, rfl, by rw [xI, hh.1]⟩)) (fun g cs hg => (hG g cs hg).setBlk hFne) (by simpa [Env.mapT] using hsz) hdf (fun t => by rw [jV rfl]; exact hf _ _ (ht t)) ?_ ?_
   ·intro s cs hcs
    rw [jA] at hcs
    simp only [Option.map_eq_some_iff] at hcs
    obtain ⟨cs0, hcs0, rfl⟩ := hcs
    have ha' : zQ e (.v s) := ⟨cs0, hcs0⟩
    exact ⟨ha', (hv s cs0 hcs0).mapT (j8 (hvne s ha')) hf⟩
   ·rintro s ⟨cs, hcs⟩
    exact ⟨_, by rw [jA, hcs]; rfl⟩
  ·cases h
 ·cases h
def zWe (ty : Ty) (x : ty.El) (off : Nat) (d : V) : Option ty.El :=
 match ty.uncells (jY (ty.cells x) off d.cells) with
 | some (y, []) => some y
 | _ => none
def Ty.aggT : Ty → Bool
 | .pair _ _ | .unit => true
 | _ => false
def zFF (id : Nat) (ty : Ty) (n : Nat) (x : ty.El) : T → T
 | .ow i k es => if i = id then .dead else .ow i k es
 | .oe i k es j off => if i = id then .dead else .oe i k es j off
 | .ot i t ys => if i = id then (if h : t = ty then .ot i ty ((h ▸ ys).set n x) else .dead) else .ot i t ys
 | .oet i t ys j off => if i = id then (if h : t = ty then .oet i ty ((h ▸ ys).set n x) j off else .dead) else .oet i t ys j off
 | .ov i t xs j off => if i = id then .dead else .ov i t xs j off
 | y => y
def zCT (P : jC) (e : Env Γ.St) (t : TypeId) (id : Nat) (ty : Ty) (xs : List ty.El) (i off : Nat) (d : V) : Option (Env Γ.St) :=
 if jR P t = some d.cells.length ∧ off + d.cells.length ≤ ty.size ∧ d.cells.all V.one = true ∧ (ty.aggT = false → d.cells.length = 1 ∧ ty.size = 1) then
  match xs[i]? with
  | some x => match zWe ty x off d with
   | some y => some (e.mapT (zFF id ty i y))
   | none => none
  | none => none
 else none
theorem wB.set : ∀ {xs ys : List V} (_ : wB xs ys) {a b : V} (_ : WkV a b) (n : Nat), wB (xs.set n a) (ys.set n b)
 | [], [], _, _, _, _, _ => trivial
 | x :: xs, y :: ys, h, a, b, hab, n => by
  cases n with
  | zero => exact ⟨hab, h.2⟩
  | succ n => exact ⟨h.1, wB.set h.2 hab n⟩
theorem wB.splice : ∀ {ds ds' : List V} (_ : wB ds ds') {cs cs' : List V} (_ : wB cs cs') (o : Nat), wB (jY cs o ds) (jY cs' o ds')
 | [], [], _, _, _, h, _ => h
 | x :: ds, y :: ds', hd, cs, cs', h, o => wB.splice hd.2 (h.set hd.1 o) (o + 1)
theorem WkV.trans {x y z : V} (h : WkV x y) (k : WkV y z) : WkV x z := fun w F v hh => k w F v (h w F v hh)
theorem wB.trans : ∀ {xs ys zs : List V} (_ : wB xs ys) (_ : wB ys zs), wB xs zs
 | [], [], [], _, _ => trivial
 | _ :: _, _ :: _, _ :: _, h, k => ⟨h.1.trans k.1, wB.trans h.2 k.2⟩
def V.un : V → V
 | .tl t xs => .sl (xs.map t.enc)
 | d => d
theorem zVC (d : V) : wB d.un.cells d.cells ∧ d.un.cells.length = d.cells.length ∧ d.un.cells.all V.one = d.cells.all V.one := by
 cases d with
 | tl t xs => exact ⟨⟨fun w F v h => .tl t xs v h, trivial⟩, rfl, rfl⟩
 | _ => exact ⟨.refl _, rfl, rfl⟩
theorem zZi (d : V) : (T.p d).un = .p d.un := by cases d <;> rfl
theorem zSE (hi : Inv Γ G w0 F0 O0 a w e) {t : TypeId} {id : Nat} {ty : Ty} {xs : List ty.El} {i off : Nat} {d : V} {ap xv : Operand} (hp : evx G e ap = .oet id ty xs i off) (hx : evx G e xv = .p d)
  (h : zCT P e t id ty xs i off d = some e') : ∃ w', (Instr.storeAt t (a.eval ap) (a.eval xv)).run P w = .ok () w' ∧ Inv Γ G w0 F0 O0 a w' e' := by
 unfold zCT at h
 split at h
 ·rename_i hcond
  obtain ⟨hs, hfit, hone, hag⟩ := hcond
  split at h
  ·rename_i x hxi
   split at h
   ·rename_i y hy
    simp only [Option.some.injEq] at h
    subst h
    have hq : (xs.map ty.enc)[i]? = some (ty.enc x) := by simp [hxi]
    have hne : ((ty.enc x).noAgg = true → d.cells.length = 1 ∧ ty.size = 1) := by
     intro hh
     refine hag ?_
     cases ty <;> first | rfl | (simp [Ty.enc, V.noAgg] at hh)
    obtain ⟨u1, u2, u3⟩ := zVC d
    rw [← u2] at hs hfit hne
    rw [← u3] at hone
    have hrc := zI3 (q := ty.enc x) (d := d.un) (off := off) (k := ty.size) (jZ ty x) hone hfit hne
    have hev : zBV P (e.mapT T.un) t id ty.size (xs.map ty.enc) i off d.un = some ((e.mapT T.un).mapT (zEh id ty.size i (zCJ (ty.enc x) (jY (ty.enc x).cells off d.un.cells)))) := by
     simp only [zBV, hq]
     rw [if_pos]
     exact ⟨hs, hfit, hone, jZ ty x, by rw [hrc, zFM, jZ], hne⟩
    obtain ⟨w', h1, h2⟩ := zMB (P := P) hi.un (ap := ap) (xv := xv) (by rw [zGd, hp]; rfl) (by rw [zGd, hx, zZi]) hev
    refine ⟨w', h1, ?_⟩
    have hcy : wB (zCJ (ty.enc x) (jY (ty.enc x).cells off d.un.cells)).cells (ty.enc y).cells := by
     rw [hrc, qN, qN]
     unfold zWe at hy
     split at hy
     ·rename_i y' hy'
      simp only [Option.some.injEq] at hy
      subst hy
      obtain ⟨c1, e1, e2⟩ := q8 ty _ y' [] hy'
      simp only [List.append_nil] at e1
      exact (wB.splice u1 (.refl _) off).trans (by rw [e1]; exact e2)
     ·cases hy
    have hset : ∀ (ys : List ty.El) (F : Blk → Prop) (b cap : Nat) (w : World), qH w F b ty.size cap ((ys.map ty.enc).set i (zCJ (ty.enc x) (jY (ty.enc x).cells off d.un.cells))) → qH w F b ty.size cap ((ys.set i y).map ty.enc) := by
     intro ys F b cap w hr
     refine hr.weak (by simp) ?_ ?_
     ·intro q hq
      simp only [List.mem_map] at hq
      obtain ⟨z, _, rfl⟩ := hq
      exact jZ ty z
     ·intro m p q hp hq
      rw [List.map_set] at hq
      by_cases hm : i = m
      ·subst hm
       have hlt : i < ys.length := by have := (List.getElem?_eq_some_iff.1 hq).1; simpa using this
       rw [List.getElem?_set_self (by simpa using hlt)] at hp hq
       simp only [Option.some.injEq] at hp hq
       subst hp hq
       exact hcy
      ·rw [List.getElem?_set_ne hm] at hp hq
       rw [hp] at hq
       simp only [Option.some.injEq] at hq
       subst hq
       exact .refl _
    have hT : ∀ z : T, WkT (zEh id ty.size i (zCJ (ty.enc x) (jY (ty.enc x).cells off d.un.cells)) z.un) (zFF id ty i y z) := by
     intro z
     cases z with
     | p q =>
      cases q with
      | tl t xs => exact WkT.ofUn (.p (.tl t xs))
      | _ => exact .refl _
     | ow i0 k0 es0 =>
      simp only [T.un, zEh, zFF]
      split
      ·exact .dead _
      ·exact .refl _
     | oe i0 k0 es0 j0 off0 =>
      simp only [T.un, zEh, zFF]
      split
      ·exact .dead _
      ·exact .refl _
     | ot i0 t0 ys =>
      simp only [zFF]
      split
      ·rename_i hid
       split
       ·rename_i htt
        subst htt
        cases ys with
        | nil => exact fun w F β al v hh => .inl ⟨rfl, hh⟩
        | cons z zs =>
         intro w F β al v hh
         simp only [T.un, List.map_cons, zEh, hid, if_true] at hh
         obtain ⟨ha, cap, hv, hr⟩ := hh
         have hr' := hset (z :: zs) F _ cap w hr
         refine .inr ⟨by simp, by rw [hid]; exact ha, cap, by rw [hid]; simpa using hv, by rw [hid]; exact hr'⟩
       ·exact .dead _
      ·rename_i hid
       cases ys with
       | nil => exact WkT.ofUn (.ot i0 t0 [])
       | cons z zs =>
        simp only [T.un, List.map_cons, zEh, if_neg hid]
        exact WkT.ofUn (.ot i0 t0 (z :: zs))
     | oet i0 t0 ys j0 off0 =>
      simp only [zFF]
      split
      ·rename_i hid
       split
       ·rename_i htt
        subst htt
        intro w F β al v hh
        simp only [T.un, zEh, hid, if_true] at hh
        obtain ⟨ha, hj, cap, hv, hr⟩ := hh
        refine ⟨by rw [hid]; exact ha, by simpa using hj, cap, by rw [hid]; exact hv, by rw [hid]; exact hset ys F _ cap w hr⟩
       ·exact .dead _
      ·rename_i hid
       simp only [T.un, zEh, if_neg hid]
       exact WkT.ofUn (.oet i0 t0 ys j0 off0)
     | ov i0 t0 ys j0 off0 =>
      simp only [T.un, zEh, zFF]
      exact .refl _
     | _ => exact .refl _
    refine h2.weak (by simp [Env.mapT]) rfl (fun t => by rw [jV rfl, jV rfl, jV rfl]; exact hT _) ?_
    intro s
    rw [jA, jA, jA]
    cases e.var s with
    | none => trivial
    | some cs =>
     simp only [Option.map_some, List.map_map]
     exact xY.map (fun z => hT z) cs
   ·cases h
  ·cases h
 ·cases h
def zUu (id : Nat) (es' : List MapEntry) (ck' : Nat) : T → T
 | .mp i es ck => if i = id then .mp i es' ck' else .mp i es ck
 | x => x
def zPl (P : jC) (e : Env Γ.St) (t : TypeId) (id : Nat) (es : List MapEntry) (ck : Nat) (k v : Value) : Option (Env Γ.St) :=
 match qP P.P (zX2 t es ck k v) with
 | some (es', ck') => some (e.mapT (zUu id es' ck'))
 | none => none
theorem zOl {t : TypeId} {b : Nat} {es es' : List MapEntry} {ck ck' : Nat} {k v : Value} (hm : w.heap[b]? = some (.map es.toArray ck))
  (h : qP P (zX2 t es ck k v) = some (es', ck')) : (Instr.mapUpdate t (.map (some b)) k v).run P w = .ok () (setBlk w b (.map es'.toArray ck')) := by
 have hlt := zDo hm
 have hg : (getObj b).run P w = .ok (.map es.toArray ck) w := by simp [getObj, Sem.run, hm]
 have hset : ∀ ob, (setObj b ob).run P w = .ok () (setBlk w b ob) := by intro ob; simp [setObj, Sem.run, hm, setBlk]
 obtain ⟨d, h1, h⟩ := zDk h
 have h1 := zBB h1 w
 split at h
 ·rename_i keyType elem
  obtain ⟨u, h2, h⟩ := zDk h
  obtain ⟨r, h3, h⟩ := zDk h
  have h2 := zBB h2 w
  have h3 := zBB h3 w
  split at h
  ·rename_i i v0
   obtain ⟨key, h4, h⟩ := zDk h
   have h4 := zBB h4 w
   simp only [qP, pure, Option.some.injEq, Prod.mk.injEq] at h
   obtain ⟨rfl, rfl⟩ := h
   simp only [Instr.mapUpdate, Sem.run_bind, h1, Result.andThen_ok, hg, h2, h3]
   simp only [List.getElem?_toArray, h4, Result.andThen_ok, hset]
   congr 2
   simp
  ·simp only [qP, pure, Option.some.injEq, Prod.mk.injEq] at h
   obtain ⟨rfl, rfl⟩ := h
   simp only [Instr.mapUpdate, Sem.run_bind, h1, Result.andThen_ok, hg, h2, h3, hset]
   congr 2
   simp
 ·cases h
theorem zXe (hi : Inv Γ G w0 F0 O0 a w e) {t : TypeId} {id : Nat} {es : List MapEntry} {ck : Nat} {m kx vx : Operand} {k v : Value} (hm : evx G e m = .mp id es ck)
  (hk : w8 (evx G e kx) = some k) (hx : w8 (evx G e vx) = some v)
  (h : zPl P e t id es ck k v = some e') : ∃ w', (Instr.mapUpdate t (a.eval m) (a.eval kx) (a.eval vx)).run P w = .ok () w' ∧ Inv Γ G w0 F0 O0 a w' e' := by
 obtain ⟨F, O, β, hc, hG, hsz, hdf, ht, hv⟩ := hi
 have hmt := kW hG ht m
 rw [hm] at hmt
 have hkt := zJD (kW hG ht kx) hk
 have hxt := zJD (kW hG ht vx) hx
 obtain ⟨ha, hmv, hblk⟩ := hmt
 unfold zPl at h
 split at h
 ·rename_i es' ck' hp
  simp only [Option.some.injEq] at h
  subst h
  refine ⟨_, by rw [hmv, hkt, hxt]; exact zOl hblk hp, ?_⟩
  obtain ⟨p1, p2, p3, p4⟩ := hc.place (.o id) ha
  have hFne : ∀ b' : Nat, F b' → b' ≠ β.ob id := fun b' hb hh => p3 (by rw [hh] at hb; exact hb)
  have hvne : ∀ s, zQ e (.v s) → β.vb s ≠ β.ob id := fun s hs hh => by
   have := hc.dist (.v s) (.o id) hs ha hh
   cases this
  have hone' : ∀ id', id' ≠ id → zQ e (.o id') → β.ob id' ≠ β.ob id := fun id' hne hs hh => by
   have := hc.dist (.o id') (.o id) hs ha hh
   simp at this; exact hne this
  have hf : ∀ v x, zU w F β (zQ e) v x → zU (setBlk w (β.ob id) (.map es'.toArray ck')) F β (zQ e) v (zUu id es' ck' x) := by
   intro v x hx
   cases x with
   | p y => exact Rd.setBlk hFne hx
   | ow id' k' es0 =>
    obtain ⟨ha', cap', hv', hr'⟩ := hx
    by_cases hid : id' = id
    ·subst hid; obtain ⟨c, et, q1, _⟩ := hr'; rw [hblk] at q1; cases q1
    ·exact ⟨ha', cap', hv', hr'.setBlk hFne (hone' id' hid ha')⟩
   | oe id' k' es0 j off' =>
    obtain ⟨ha', hj', cap', hv', hr'⟩ := hx
    by_cases hid : id' = id
    ·subst hid; obtain ⟨c, et, q1, _⟩ := hr'; rw [hblk] at q1; cases q1
    ·exact ⟨ha', hj', cap', hv', hr'.setBlk hFne (hone' id' hid ha')⟩
   | lp s off' => exact hx
   | mp id' es0 ck0 =>
    obtain ⟨ha', hv', hr'⟩ := hx
    simp only [zUu]
    split
    ·rename_i hid
     subst hid
     exact ⟨ha', hv', zBA p2⟩
    ·rename_i hid
     exact ⟨ha', hv', (j8 (hone' id' hid ha')).trans hr'⟩
   | ot id' t' xs' =>
    rcases hx with hx | ⟨hne, ha', cap', hv', hr'⟩
    ·exact .inl hx
    ·by_cases hid : id' = id
     ·subst hid; obtain ⟨c, et, q1, _⟩ := hr'; rw [hblk] at q1; cases q1
     ·exact .inr ⟨hne, ha', cap', hv', hr'.setBlk hFne (hone' id' hid ha')⟩
   | oet id' t' xs' j off' =>
    obtain ⟨ha', hj', cap', hv', hr'⟩ := hx
    by_cases hid : id' = id
    ·subst hid; obtain ⟨c, et, q1, _⟩ := hr'; rw [hblk] at q1; cases q1
    ·exact ⟨ha', hj', cap', hv', hr'.setBlk hFne (hone' id' hid ha')⟩
   | ov id' t' xs' lo' hi' =>
    rcases hx with hx | ⟨hne, ha', k1, k2, cap', hv', hr'⟩
    ·exact .inl hx
    ·by_cases hid : id' = id
     ·subst hid; obtain ⟨c, et, q1, _⟩ := hr'; rw [hblk] at q1; cases q1
     ·exact .inr ⟨hne, ha', k1, k2, cap', hv', hr'.setBlk hFne (hone' id' hid ha')⟩
   | emp => exact hx
   | dead => trivial
  refine Inv.of (al := zQ e) (hc.setBlk ha _ (fun c' et' fl' hh => by rw [show w.heap[β.blk (.o id)]? = _ from hblk] at hh; cases hh)) (fun g cs hg => (hG g cs hg).setBlk hFne) (by simpa [Env.mapT] using hsz) hdf (fun t => by rw [jV rfl]; exact hf _ _ (ht t)) ?_ ?_
  ·intro s cs hcs
   rw [jA] at hcs
   simp only [Option.map_eq_some_iff] at hcs
   obtain ⟨cs0, hcs0, rfl⟩ := hcs
   have ha' : zQ e (.v s) := ⟨cs0, hcs0⟩
   exact ⟨ha', (hv s cs0 hcs0).mapT (j8 (hvne s ha')) hf⟩
  ·rintro s ⟨cs, hcs⟩
   exact ⟨_, by rw [jA, hcs]; rfl⟩
 ·cases h
def zBs (id : Nat) : T → T
 | .ow i k es => if i = id then .p (.sl es) else .ow i k es
 | .oe i k es j off => if i = id then (match es[j]? with | some q => .p (.pp (q.cells.drop off)) | none => .dead) else .oe i k es j off
 | .mp i es ck => if i = id then .dead else .mp i es ck
 | .ot i t xs => if i = id then .p (.tl t xs) else .ot i t xs
 | .oet i t xs j off => if i = id then .dead else .oet i t xs j off
 | .ov i t xs j off => if i = id then .dead else .ov i t xs j off
 | x => x
theorem Inv.frzO (hi : Inv Γ G w0 F0 O0 a w e) {id : Nat} (hidl : id ≠ jL) : Inv Γ G w0 F0 O0 a w (e.mapT (zBs id)) := by
 obtain ⟨F, O, β, hc, hG, hsz, hdf, ht, hv⟩ := hi
 by_cases ha : zQ e (.o id)
 ·obtain ⟨p1, p2, p3, p4⟩ := hc.place (.o id) ha
  let F' : Blk → Prop := fun b => F b ∨ b = β.ob id
  let al' : jP → Prop := fun x => zQ e x ∧ x ≠ .o id
  have hcore : zB2 Γ w0 F0 O0 w F' O β al' e.st := by
   refine ⟨hc.keep, Γ.mono hc.sig zOb (fun _ _ => rfl), hc.oin, ?_, fun b hb => .inl (hc.f0 b hb), ?_, fun x y hx hy => hc.dist x y hx.1 hy.1, hc.lent.step (fun b n _ hb ho hf => ⟨rfl, ho, fun h => h.elim hf (fun h => by have h1 := x7 h; have h2 : w0.heap.size ≤ β.ob id := p1.o hidl; omega)⟩)⟩
   ·rintro b (hb | hb)
    ·exact hc.fin b hb
    ·have hb := x7 hb; subst hb; exact ⟨.inr (p1.o hidl), p2, p4⟩
   ·intro x hx
    obtain ⟨q1, q2, q3, q4⟩ := hc.place x hx.1
    refine ⟨q1, q2, fun hh => hh.elim q3 (fun hh => hx.2 (hc.dist x (.o id) hx.1 ha (x7 hh))), q4⟩
  have hext : Ext w F β al' w F' β al' := ⟨fun _ h => .inl h, fun _ _ => rfl, fun _ h => h, fun _ _ => rfl, fun _ _ => rfl⟩
  have hf : ∀ v x, zU w F β (zQ e) v x → zU w F' β al' v (zBs id x) := by
   intro v x hx
   cases x with
   | p y => exact Rd.ext hext hx
   | ow i k es =>
    simp only [zBs]
    obtain ⟨ha', cap, hv', hr⟩ := hx
    split
    ·rename_i hid
     subst hid
     rw [hv']
     exact zGw hr (fun b hb => .inl hb) (.inr rfl)
    ·rename_i hid
     exact zU.ext hext (show zU w F β al' v (.ow i k es) from ⟨⟨ha', by simpa using hid⟩, cap, hv', hr⟩)
   | oe i k es j off =>
    simp only [zBs]
    obtain ⟨ha', hj, cap, hv', hr⟩ := hx
    split
    ·rename_i hid
     subst hid
     split
     ·rename_i q hq
      obtain ⟨c, et, g1, g2, g3, g4, g5⟩ := hr
      have hqk := g4 q (List.mem_of_getElem? hq)
      have hjk : (j + 1) * k ≤ cap * k := Nat.mul_le_mul_right k (by omega)
      rw [Nat.succ_mul] at hjk
      rw [hv']
      refine Rd.pp (β.ob i) (j * k + off) _ (fun m => (c[j * k + (off + m)]?).getD undef) (.inr rfl) ?_ ?_
      ·intro m hm
       simp only [List.length_drop, hqk] at hm
       have hlt : j * k + (off + m) < c.size := by omega
       have he : j * k + off + m = j * k + (off + m) := by omega
       simp [World.cell?, g1, he, hlt]
      ·intro m d hd
       rw [List.getElem?_drop] at hd
       have hlt2 := (List.getElem?_eq_some_iff.1 hd).1
       have hlt : j * k + (off + m) < c.size := by omega
       exact Rd.ext hext (g5 j (off + m) q d _ hq hd (by simp [hlt]))
     ·trivial
    ·rename_i hid
     exact zU.ext hext (show zU w F β al' v (.oe i k es j off) from ⟨⟨ha', by simpa using hid⟩, hj, cap, hv', hr⟩)
   | lp s off => exact ⟨⟨hx.1, by simp⟩, hx.2⟩
   | mp i es' ck =>
    simp only [zBs]
    split
    ·trivial
    ·rename_i hid
     exact zU.ext hext (show zU w F β al' v (.mp i es' ck) from ⟨⟨hx.1, by simpa using hid⟩, hx.2⟩)
   | ot i t xs =>
    simp only [zBs]
    split
    ·rename_i hid
     subst hid
     refine .tl t xs v ?_
     rcases hx with ⟨h0, a0, rfl⟩ | ⟨hne, ha', cap, rfl, hr⟩
     ·rw [h0]; exact .slemp a0 0
     ·exact zGw (hr.mono hext.f hext.hf rfl) (fun _ h => h) (.inr rfl)
    ·rename_i hid
     rcases hx with hx | ⟨hne, ha', cap, hv', hr⟩
     ·exact .inl hx
     ·exact zU.ext hext (show zU w F β al' v (.ot i t xs) from .inr ⟨hne, ⟨ha', by simpa using hid⟩, cap, hv', hr⟩)
   | oet i t xs j off =>
    simp only [zBs]
    split
    ·trivial
    ·rename_i hid
     obtain ⟨ha', hj, cap, hv', hr⟩ := hx
     exact zU.ext hext (show zU w F β al' v (.oet i t xs j off) from ⟨⟨ha', by simpa using hid⟩, hj, cap, hv', hr⟩)
   | ov i t xs lo hi =>
    simp only [zBs]
    split
    ·trivial
    ·rename_i hid
     rcases hx with hx | ⟨hne, ha', k1, k2, cap, hv', hr⟩
     ·exact .inl hx
     ·exact zU.ext hext (show zU w F β al' v (.ov i t xs lo hi) from .inr ⟨hne, ⟨ha', by simpa using hid⟩, k1, k2, cap, hv', hr⟩)
   | emp => exact hx
   | dead => trivial
  refine Inv.of (al := al') hcore (hG.ext hext) (by simpa [Env.mapT] using hsz) hdf (fun t => by rw [jV rfl]; exact hf _ _ (ht t)) ?_ ?_
  ·intro s cs hcs
   rw [jA] at hcs
   simp only [Option.map_eq_some_iff] at hcs
   obtain ⟨cs0, hcs0, rfl⟩ := hcs
   exact ⟨⟨⟨cs0, hcs0⟩, by simp⟩, (hv s cs0 hcs0).mapT rfl hf⟩
  ·rintro s ⟨⟨cs, hcs⟩, _⟩
   exact ⟨_, by rw [jA, hcs]; rfl⟩
 ·have hf : ∀ v x, zU w F β (zQ e) v x → zU w F β (zQ e) v (zBs id x) := by
   intro v x hx
   cases x with
   | ow i k es =>
    simp only [zBs]
    split
    ·rename_i hid; subst hid; exact absurd hx.1 ha
    ·exact hx
   | oe i k es j off =>
    simp only [zBs]
    split
    ·rename_i hid; subst hid; exact absurd hx.1 ha
    ·exact hx
   | mp i es ck =>
    simp only [zBs]
    split
    ·trivial
    ·exact hx
   | ot i t xs =>
    simp only [zBs]
    split
    ·rename_i hid
     subst hid
     rcases hx with ⟨h0, a0, rfl⟩ | ⟨hne, ha', _⟩
     ·exact .tl t xs _ (by rw [h0]; exact .slemp a0 0)
     ·exact absurd ha' ha
    ·exact hx
   | oet i t xs j off =>
    simp only [zBs]
    split
    ·trivial
    ·exact hx
   | ov i t xs lo hi =>
    simp only [zBs]
    split
    ·trivial
    ·exact hx
   | _ => exact hx
  refine Inv.of (al := zQ e) hc hG (by simpa [Env.mapT] using hsz) hdf (fun t => by rw [jV rfl]; exact hf _ _ (ht t)) ?_ ?_
  ·intro s cs hcs
   rw [jA] at hcs
   simp only [Option.map_eq_some_iff] at hcs
   obtain ⟨cs0, hcs0, rfl⟩ := hcs
   exact ⟨⟨cs0, hcs0⟩, (hv s cs0 hcs0).mapT rfl hf⟩
  ·rintro s ⟨cs, hcs⟩
   exact ⟨_, by rw [jA, hcs]; rfl⟩
def zLi (s : Nat) (ds : List V) : T → T
 | .lp s' off => if s' = s then .p (.pp (ds.drop off)) else .lp s' off
 | x => x
def Env.frzV (s : Nat) (ds : List V) (e : Env Γ.St) : Env Γ.St := ({ e with vars := e.vars.set s none } : Env Γ.St).mapT (zLi s ds)
theorem zVe {cs : List T} {ds : List V} (h : vB cs = some ds) (off : Nat) : vB (cs.drop off) = some (ds.drop off) := by
 have := zDD h
 subst this
 have hall : ∀ ds : List V, vB (ds.map .p) = some ds := by
  intro ds
  induction ds with
  | nil => rfl
  | cons d ds ih => simp [vB, ih]
 rw [← List.map_drop]; exact hall _
theorem Inv.frzV (hi : Inv Γ G w0 F0 O0 a w e) {s : Nat} {cs : List T} {ds : List V} (hs : e.var s = some cs) (hp : vB cs = some ds) : Inv Γ G w0 F0 O0 a w (e.frzV s ds) := by
 obtain ⟨F, O, β, hc, hG, hsz, hdf, ht, hv⟩ := hi
 have ha : zQ e (.v s) := ⟨cs, hs⟩
 obtain ⟨p1, p2, p3, p4⟩ := hc.place (.v s) ha
 let F' : Blk → Prop := fun b => F b ∨ b = β.vb s
 let al' : jP → Prop := fun x => zQ e x ∧ x ≠ .v s
 have hcore : zB2 Γ w0 F0 O0 w F' O β al' e.st := by
  refine ⟨hc.keep, Γ.mono hc.sig zOb (fun _ _ => rfl), hc.oin, ?_, fun b hb => .inl (hc.f0 b hb), ?_, fun x y hx hy => hc.dist x y hx.1 hy.1, hc.lent.step (fun b n _ hb ho hf => ⟨rfl, ho, fun h => h.elim hf (fun h => by have h1 := x7 h; have h2 : w0.heap.size ≤ β.vb s := p1.v; omega)⟩)⟩
  ·rintro b (hb | hb)
   ·exact hc.fin b hb
   ·have hb := x7 hb; subst hb; exact ⟨.inr p1.v, p2, p4⟩
  ·intro x hx
   obtain ⟨q1, q2, q3, q4⟩ := hc.place x hx.1
   refine ⟨q1, q2, fun hh => hh.elim q3 (fun hh => hx.2 (hc.dist x (.v s) hx.1 ha (x7 hh))), q4⟩
 have hext : Ext w F β al' w F' β al' := ⟨fun _ h => .inl h, fun _ _ => rfl, fun _ h => h, fun _ _ => rfl, fun _ _ => rfl⟩
 have hf : ∀ v x, zU w F β (zQ e) v x → zU w F' β al' v (zLi s ds x) := by
  intro v x hx
  cases x with
  | p y => exact Rd.ext hext hx
  | ow i k es => exact zU.ext hext (show zU w F β al' v (.ow i k es) from ⟨⟨hx.1, by simp⟩, hx.2⟩)
  | oe i k es j off => exact zU.ext hext (show zU w F β al' v (.oe i k es j off) from ⟨⟨hx.1, by simp⟩, hx.2⟩)
  | lp s' off =>
   simp only [zLi]
   obtain ⟨ha', hv'⟩ := hx
   split
   ·rename_i hss
    subst hss
    rw [hv']
    exact zW1 (hv s' cs hs) (fun b hb => .inl hb) (.inr rfl) (zVe hp off)
   ·rename_i hss
    exact ⟨⟨ha', by simpa using hss⟩, hv'⟩
  | mp i es ck => exact zU.ext hext (show zU w F β al' v (.mp i es ck) from ⟨⟨hx.1, by simp⟩, hx.2⟩)
  | ot i t xs =>
   rcases hx with hx | ⟨hne, ha', h2⟩
   ·exact .inl hx
   ·exact zU.ext hext (show zU w F β al' v (.ot i t xs) from .inr ⟨hne, ⟨ha', by simp⟩, h2⟩)
  | oet i t xs j off => exact zU.ext hext (show zU w F β al' v (.oet i t xs j off) from ⟨⟨hx.1, by simp⟩, hx.2⟩)
  | ov i t xs lo hi =>
   rcases hx with hx | ⟨hne, ha', hx⟩
   ·exact .inl hx
   ·exact zU.ext hext (show zU w F β al' v (.ov i t xs lo hi) from .inr ⟨hne, ⟨ha', by simp⟩, hx⟩)
  | emp => exact hx
  | dead => trivial
 have hvar : ∀ s', (e.frzV s ds).var s' = if s' = s then none else (e.var s').map (List.map (zLi s ds)) := by
  intro s'
  simp only [Env.frzV, jA]
  simp only [Env.var]
  by_cases hh : s' = s
  ·subst hh
   rw [if_pos rfl]
   by_cases hl : s' < e.vars.length
   ·simp [hl]
   ·rw [List.getElem?_eq_none (by simp; omega)]; rfl
  ·rw [if_neg hh, List.getElem?_set_ne (Ne.symm hh)]
 have qR : ∀ t, (e.frzV s ds).get t = zLi s ds (e.get t) := fun t => jV (f := zLi s ds) rfl _ t
 refine Inv.of (al := al') hcore (hG.ext hext) (by simpa [Env.frzV, Env.mapT] using hsz) hdf (fun t => by rw [qR]; exact hf _ _ (ht t)) ?_ ?_
 ·intro s' cs' hcs'
  rw [hvar] at hcs'
  split at hcs'
  ·cases hcs'
  ·rename_i hne
   simp only [Option.map_eq_some_iff] at hcs'
   obtain ⟨cs0, hcs0, rfl⟩ := hcs'
   exact ⟨⟨⟨cs0, hcs0⟩, by simpa using hne⟩, (hv s' cs0 hcs0).mapT rfl hf⟩
 ·rintro s' ⟨⟨cs', hcs'⟩, hne⟩
  have hne' : s' ≠ s := by simpa using hne
  exact ⟨_, by rw [hvar, if_neg hne', hcs']; rfl⟩
def frzOE (id : Nat) (e : Env Γ.St) : Env Γ.St :=
 match Nat.beq id jL with
 | true => e
 | false => e.mapT (zBs id)
theorem Inv.frzOE (hi : Inv Γ G w0 F0 O0 a w e) (id : Nat) : Inv Γ G w0 F0 O0 a w (Ve.frzOE id e) := by
 unfold Ve.frzOE
 split
 ·exact hi
 ·rename_i hb
  exact hi.frzO (fun h => by subst h; simp at hb)
def frzCells (e : Env Γ.St) : List T → Env Γ.St
 | [] => e
 | .ow id _ _ :: r => frzCells (frzOE id e) r
 | .ot id _ _ :: r => frzCells (frzOE id e) r
 | _ :: r => frzCells e r
def frzT1 (x : T) (e : Env Γ.St) : Env Γ.St :=
 match x with
 | .ow id _ _ => frzOE id e
 | .oe id _ _ _ _ => frzOE id e
 | .ot id _ _ => frzOE id e
 | .lp s _ => match e.var s with
  | some cs => match (frzCells e cs).var s with
   | some cs' => match vB cs' with
    | some ds => (frzCells e cs).frzV s ds
    | none => frzCells e cs
   | none => frzCells e cs
  | none => e
 | _ => e
theorem Inv.frzCells : ∀ (cs : List T) (e : Env Γ.St), Inv Γ G w0 F0 O0 a w e → Inv Γ G w0 F0 O0 a w (Ve.frzCells e cs) := by
 intro cs
 induction cs with
 | nil => intro e h; exact h
 | cons c cs ih =>
  intro e h
  cases c with
  | ow id k es => exact ih _ (h.frzOE id)
  | ot id t xs => exact ih _ (h.frzOE id)
  | _ => exact ih _ h
theorem Inv.frzT1 (h : Inv Γ G w0 F0 O0 a w e) (x : T) : Inv Γ G w0 F0 O0 a w (Ve.frzT1 x e) := by
 unfold Ve.frzT1
 split
 ·exact h.frzOE _
 ·exact h.frzOE _
 ·exact h.frzOE _
 ·split
  ·rename_i cs hcs
   have h1 := Inv.frzCells cs e h
   split
   ·rename_i cs' hcs'
    split
    ·rename_i ds hds; exact h1.frzV hcs' hds
    ·exact h1
   ·exact h1
  ·exact h
 ·exact h
def frzOps (G : Nat → Option (List V)) : List Operand → Env Γ.St → Env Γ.St
 | [], e => e
 | x :: r, e => frzOps G r (frzT1 (evx G e x) e)
theorem Inv.frzOps : ∀ (xs : List Operand) (e : Env Γ.St), Inv Γ G w0 F0 O0 a w e → Inv Γ G w0 F0 O0 a w (Ve.frzOps G xs e) := by
 intro xs
 induction xs with
 | nil => intro e h; exact h
 | cons x xs ih => intro e h; exact ih _ (h.frzT1 _)
end
section
variable {Γ : Sig} (P : jC) (G : Nat → Option (List V)) (S : q7 Γ)
def evW (e : Env Γ.St) (o : Oper) : Option (Env Γ.St) :=
 match o.op with
 | .store t ap x => match o.dst with
  | some _ => none
  | none => match evx G e ap with
   | .lp s off => zD3 e P t s off (evx G e x)
   | .oe id k es i off => match evx G e x with
    | .p d => zBV P e t id k es i off d
    | _ => none
   | .oet id ty xs i off => match evx G e x with
    | .p d => zCT P e t id ty xs i off d
    | _ => none
   | _ => none
 | .call c => match j9 P G e o.dst c with
  | some e1 => some e1
  | none => match vC P G e o.dst c with
   | some e1 => some e1
   | none => xC P G e o.dst c
 | .mapUpdate t m k v => match o.dst with
  | some _ => none
  | none => match evx G e m, w8 (evx G e k), w8 (evx G e v) with
   | .mp id es ck, some k, some v => zPl P e t id es ck k v
   | _, _, _ => none
 | _ => none
def zHe (e : Env Γ.St) (o : Oper) : Option (Env Γ.St) :=
 match evQ P G S e o with
 | some r => xH e o.dst r
 | none => none
def zNs (o : Oper) : List Operand :=
 match o.op with
 | .store _ _ x => [x]
 | .mapUpdate _ _ _ v => [v]
 | _ => o.op.operands.toList
def zWJ (e : Env Γ.St) (o : Oper) : Option (Env Γ.St) :=
 match zHe P G S e o with
 | some e1 => some e1
 | none => match evW P G e o with
  | some e1 => some e1
  | none => match zHe P G S (frzOps G (zNs o) e) o with
   | some e1 => some e1
   | none => evW P G (frzOps G (zNs o) e) o
end
section
variable {Γ : Sig} {P : Program} {G : Nat → Option (List V)} {S : q7 Γ} {o : Oper} {a : Act} {w0 : World} {F0 : Blk → Prop} {O0 : uR} {w : World} {e e' : Env Γ.St}
theorem zMl (hi : Inv Γ G w0 F0 O0 a w e) (h : evW P G e o = some e') {Q : Exit → Act → World → Prop} : o.wp P a w (fun a' w' => Inv Γ G w0 F0 O0 a' w' e') Q := by
 obtain ⟨dst, op, type, pos, after, guard⟩ := o
 unfold evW at h
 split at h
 ·rename_i t ap x hop
  simp only at hop
  subst hop
  split at h
  ·cases h
  ·rename_i hd
   simp only at hd
   subst hd
   have hfin : ∀ w', (Instr.storeAt t (a.eval ap) (a.eval x)).run P w = .ok () w' → Inv Γ G w0 F0 O0 a w' e' → (⟨none, .store t ap x, type, pos, after, guard⟩ : Oper).wp P a w (fun a' w' => Inv Γ G w0 F0 O0 a' w' e') Q := by
    intro w' hr hinv
    unfold Oper.wp
    have : (execOp a.eval ⟨none, .store t ap x, type, pos, after, guard⟩).run P w = .ok .skip w' := by simp [execOp, hr]
    rw [this]
    exact hinv
   split at h
   ·rename_i s off hp
    obtain ⟨w', h1, h2⟩ := zSD (P := P) hi hp rfl h
    exact hfin w' h1 h2
   ·rename_i id k es i off hp
    split at h
    ·rename_i d hx
     obtain ⟨w', h1, h2⟩ := zMB (P := P) hi hp hx h
     exact hfin w' h1 h2
    ·cases h
   ·rename_i id ty xs i off hp
    split at h
    ·rename_i d hx
     obtain ⟨w', h1, h2⟩ := zSE (P := P) hi hp hx h
     exact hfin w' h1 h2
    ·cases h
   ·cases h
 ·rename_i c hop
  simp only at hop
  subst hop
  split at h
  ·rename_i e1 h1
   simp only [Option.some.injEq] at h
   subst h
   exact zLw hi h1
  ·split at h
   ·rename_i e1 h1
    simp only [Option.some.injEq] at h
    subst h
    exact zSn hi h1
   ·exact zTH hi h
 ·rename_i t m k v hop
  simp only at hop
  subst hop
  split at h
  ·cases h
  ·rename_i hd
   simp only at hd
   subst hd
   split at h
   ·rename_i id es ck kv vv hm hk hv
    obtain ⟨w', h1, h2⟩ := zXe (P := P) hi hm hk hv h
    unfold Oper.wp
    have : (execOp a.eval ⟨none, .mapUpdate t m k v, type, pos, after, guard⟩).run P w = .ok .skip w' := by simp [execOp, h1]
    rw [this]
    exact h2
   ·cases h
 ·cases h
theorem zGe (hS : qG Γ P G S) (hi : Inv Γ G w0 F0 O0 a w e) (h : zHe P G S e o = some e') {Q : Exit → Act → World → Prop} : o.wp P a w (fun a' w' => Inv Γ G w0 F0 O0 a' w' e') Q := by
 unfold zHe at h
 split at h
 ·rename_i r hr; exact zYX hS hi hr h
 ·cases h
theorem zVa (hS : qG Γ P G S) (hi : Inv Γ G w0 F0 O0 a w e) (h : zWJ P G S e o = some e') {Q : Exit → Act → World → Prop} : o.wp P a w (fun a' w' => Inv Γ G w0 F0 O0 a' w' e') Q := by
 unfold zWJ at h
 split at h
 ·rename_i e1 h1; simp only [Option.some.injEq] at h; subst h; exact zGe hS hi h1
 ·split at h
  ·rename_i e1 h1; simp only [Option.some.injEq] at h; subst h; exact zMl hi h1
  ·split at h
   ·rename_i e1 h1; simp only [Option.some.injEq] at h; subst h; exact zGe hS (Inv.frzOps _ _ hi) h1
   ·exact zMl (Inv.frzOps _ _ hi) h
end
end Go.Ve

namespace Go.Ve
open Go
section
variable {Γ : Sig} (P : jC) (G : Nat → Option (List V)) (S : q7 Γ)
def zNC (ops : Array Oper) (e : Env Γ.St) (o : Oper) : Option (Env Γ.St) :=
 match jE ops e o with
 | some true => zWJ P G S e o
 | some false => some (e.put o.dst (.p (.val undef)))
 | none => none
def zJI (ops : Array Oper) : List Oper → Env Γ.St → Option (Env Γ.St)
 | [], e => some e
 | o :: rest, e => match zNC P G S ops e o with
  | some e1 => zJI ops rest e1
  | none => none
def isW (o : Oper) : Bool :=
 match o.op with
 | .store _ _ _ => true
 | .mapUpdate _ _ _ _ => true
 | .call c => match c.callee with
  | .builtin .append => true
  | _ => false
 | _ => false
def zBw : List Oper → Nat
 | [] => 0
 | o :: r => if isW o then 0 else zBw r + 1
def zFJ (ops : Array Oper) (k : Nat) : Bool :=
 if k = ops.size then true else
 let anc := Region.before ops
 zWZ ops anc && (List.range ops.size).all fun j => match ops[j]? with
  | some o => o.after.all (fun e => !Region.binds .any e || decide (e.on < j)) && (decide (j < k) || (List.range j).all fun i => (anc.getD j 0).testBit i)
  | none => true
def zEI (ops : Array Oper) (k : Nat) : Bool :=
 (List.range k).all fun i => match ops[i]? with
  | some o => match o.guard with
   | some (j, _) => decide (j < k)
   | none => true
  | none => true
def xW : List Oper → List Operand
 | [] => []
 | o :: r => if isCall o && !isW o then o.op.operands.toList ++ xW r else xW r
def zEN (ops : Array Oper) (k : Nat) (e : Env Γ.St) : Option (Env Γ.St) :=
 match zIh P G S (ops.extract 0 k) e with
 | some e1 => zJI P G S ops (ops.toList.drop k) e1
 | none => none
def zGQ (ops : Array Oper) (e : Env Γ.St) : Option (Env Γ.St) :=
 if zBw ops.toList ≤ ops.size && zFJ ops (zBw ops.toList) && zEI ops (zBw ops.toList) then
  match zEN P G S ops (zBw ops.toList) e with
  | some e1 => some e1
  | none => zEN P G S ops (zBw ops.toList) (frzOps G (xW ops.toList) e)
 else none
end
section
variable {Γ : Sig} {P : Program} {G : Nat → Option (List V)} {S : q7 Γ} {w0 : World} {F0 : Blk → Prop} {O0 : uR} {a : Act} {w : World} {e e' : Env Γ.St} {ops : Array Oper} {k : Nat}
def zTR (P : Program) (G : Nat → Option (List V)) (e : Env Γ.St) (o : Oper) (e1 : Env Γ.St) : Prop :=
 ∀ (w0 : World) (F0 : Blk → Prop) (O0 : uR) (a : Act) (w : World) (Q : Exit → Act → World → Prop), Inv Γ G w0 F0 O0 a w e → o.wp P a w (fun a' w' => Inv Γ G w0 F0 O0 a' w' e1) Q
def zUp (P : Program) (G : Nat → Option (List V)) (ops : Array Oper) (e : Env Γ.St) (o : Oper) (e1 : Env Γ.St) : Prop :=
 (jE ops e o = some true ∧ zTR P G e o e1) ∨ (jE ops e o = some false ∧ e1 = e.put o.dst (.p (.val undef)))
inductive zQG (P : Program) (G : Nat → Option (List V)) (ops : Array Oper) : List Oper → Env Γ.St → Env Γ.St → Prop
 | nil (e : Env Γ.St) : zQG P G ops [] e e
 | cons {o : Oper} {rest : List Oper} {e e1 e' : Env Γ.St} : zUp P G ops e o e1 → zQG P G ops rest e1 e' → zQG P G ops (o :: rest) e e'
theorem zVJ (hS : qG Γ P G S) {o : Oper} (h : zNC P G S ops e o = some e') : zUp P G ops e o e' := by
 unfold zNC at h
 split at h
 ·rename_i hw; exact .inl ⟨hw, fun w0 F0 O0 a w Q hi => zVa hS hi h⟩
 ·rename_i hw; simp only [Option.some.injEq] at h; exact .inr ⟨hw, h.symm⟩
 ·cases h
theorem zT4 (hS : qG Γ P G S) : ∀ {l : List Oper} {e e' : Env Γ.St}, zJI P G S ops l e = some e' → zQG P G ops l e e' := by
 intro l
 induction l with
 | nil => intro e e' h; simp only [zJI, Option.some.injEq] at h; subst h; exact .nil e
 | cons o l ih =>
  intro e e' h
  simp only [zJI] at h
  split at h
  ·rename_i e1 he1; exact .cons (zVJ hS he1) (ih h)
  ·cases h
theorem zMC {o : Oper} {Q : Exit → Act → World → Prop} {K : Act → World → Prop} {i : Nat} (hi : ops[i]? = some o) (h : zUp P G ops e o e') (hinv : Inv Γ G w0 F0 O0 a w e)
  (hK : ∀ a w, Inv Γ G w0 F0 O0 a w e' → K a w) : wpOp P ops Q i K a w := by
 unfold wpOp
 simp only [hi]
 obtain ⟨F, O, β, hc, hG, hsz, hdf, ht, hv⟩ := hinv
 rcases h with ⟨hw, h⟩ | ⟨hw, h⟩
 ·rw [zGA (fun t _ => ht t) hsz hw, if_pos rfl]
  exact .inl (Oper.wp_mono hK (h w0 F0 O0 a w Q ⟨F, O, β, hc, hG, hsz, hdf, ht, hv⟩))
 ·rw [zGA (fun t _ => ht t) hsz hw]
  simp only [Bool.false_eq_true, if_false]
  subst h
  refine hK _ _ ?_
  refine Inv.of (al := zQ e) (by cases o.dst <;> exact hc) hG ?_ ?_ ?_ ?_ ?_
  ·cases hd : o.dst <;> simp [Act.put, Env.put, hsz]
  ·cases hd : o.dst <;> exact hdf
  ·intro t
   cases hd : o.dst with
   | none => exact ht t
   | some d =>
    rw [x9]
    simp only [Env.put]
    rw [v6, hsz]
    split
    ·exact Rd.val _
    ·exact ht t
  ·intro s cs hcs
   have : (e.put o.dst (.p (.val undef))).var s = e.var s := by cases o.dst <;> rfl
   rw [this] at hcs
   exact ⟨⟨cs, hcs⟩, hv s cs hcs⟩
  ·intro s hs
   have : (e.put o.dst (.p (.val undef))).var s = e.var s := by cases o.dst <;> rfl
   rw [this]; exact hs
theorem zT3 (ops : Array Oper) {Q : Exit → Act → World → Prop} : ∀ (n : Nat) (l : List Oper) (e e' : Env Γ.St) (a : Act) (w : World),
  ops.toList.drop n = l → zQG P G ops l e e' → Inv Γ G w0 F0 O0 a w e → (∀ a w, Inv Γ G w0 F0 O0 a w e' → Q .normal a w) →
  wpOps P ops Q (List.range' n l.length) a w := by
 intro n l
 induction l generalizing n with
 | nil =>
  intro e e' a w _ h hi hQ
  cases h
  exact hQ a w hi
 | cons o rest ih =>
  intro e e' a w hl h hi hQ
  cases h with
  | cons he1 h =>
   rename_i e1
   have hat : ops[n]? = some o := by
    have : (ops.toList.drop n)[0]? = some o := by rw [hl]; rfl
    rw [List.getElem?_drop] at this
    simpa using this
   have hrest : ops.toList.drop (n + 1) = rest := by rw [← List.tail_drop, hl]; rfl
   simp only [List.length_cons, List.range'_succ]
   rw [wpOps_cons]
   exact zMC hat he1 hi (fun a w hi1 => ih (n + 1) e1 e' a w hrest h hi1 hQ)
structure zZe (ops : Array Oper) (k : Nat) : Prop where
 edge : ∀ (i : Nat) (o : Oper) (e : Edge), ops[i]? = some o → e ∈ o.after → Region.binds .any e = true → e.on < i
 last : ∀ (listed : Nat → Prop), (∀ (i : Nat) (o : Oper) (e : Edge), ops[i]? = some o → listed i → e ∈ o.after → Region.binds .any e = true → listed e.on) →
  ∀ (j i : Nat) (o : Oper), ops[j]? = some o → k ≤ j → i < j → (∀ e, e ∈ o.after → Region.binds .any e = true → listed e.on) → listed i
theorem zTY (h : zFJ ops k = true) (hne : k ≠ ops.size) : zZe ops k := by
 unfold zFJ at h
 rw [if_neg hne] at h
 simp only [Bool.and_eq_true] at h
 obtain ⟨hanc, hall⟩ := h
 generalize Region.before ops = anc at hanc hall
 have hone : ∀ j o, ops[j]? = some o → (o.after.all (fun e => !Region.binds .any e || decide (e.on < j)) && (decide (j < k) || (List.range j).all fun i => (anc.getD j 0).testBit i)) = true := by
  intro j o ho
  have hlt : j < ops.size := (Array.getElem?_eq_some_iff.1 ho).1
  have := List.all_eq_true.1 hall j (List.mem_range.2 hlt)
  simpa [ho] using this
 have hedge : ∀ (i : Nat) (o : Oper) (e : Edge), ops[i]? = some o → e ∈ o.after → Region.binds .any e = true → e.on < i := by
  intro i o e ho he hb
  have h1 := hone i o ho
  rw [Bool.and_eq_true] at h1
  have h2 := Array.all_eq_true_iff_forall_mem.1 h1.1 e he
  simpa [hb] using h2
 have hcl : ∀ (listed : Nat → Prop), (∀ (i : Nat) (o : Oper) (e : Edge), ops[i]? = some o → listed i → e ∈ o.after → Region.binds .any e = true → listed e.on) →
   ∀ (i : Nat) (o : Oper) (j : Nat), ops[i]? = some o → j < i → (anc.getD i 0).testBit j = true → (∀ e, e ∈ o.after → Region.binds .any e = true → listed e.on) → listed j := by
  intro listed hdown i
  induction i using Nat.strongRecOn with
  | _ i ih =>
   intro o j ho hji hbit hi
   have hlt : i < ops.size := (Array.getElem?_eq_some_iff.1 ho).1
   have h1 := List.all_eq_true.1 hanc i (List.mem_range.2 hlt)
   simp only [ho] at h1
   have h2 := List.all_eq_true.1 h1 j (List.mem_range.2 hji)
   simp only [hbit, Bool.not_true, Bool.false_or, Array.any_eq_true', Bool.and_eq_true, Bool.or_eq_true, decide_eq_true_eq, beq_iff_eq] at h2
   obtain ⟨e, he, ⟨hb, hon⟩, hj⟩ := h2
   have hle := hi e he hb
   rcases hj with rfl | ⟨hjlt, hbit'⟩
   ·exact hle
   ·have hlt' : e.on < ops.size := by omega
    have ho' : ops[e.on]? = some ops[e.on] := by simp [hlt']
    exact ih e.on hon ops[e.on] j ho' hjlt hbit' (fun e2 he2 hb2 => hdown e.on _ e2 ho' hle he2 hb2)
 refine ⟨hedge, ?_⟩
 intro listed hdown j i o ho hkj hij hdeps
 have h1 := hone j o ho
 rw [Bool.and_eq_true] at h1
 have h2 := h1.2
 simp only [Bool.or_eq_true, decide_eq_true_eq] at h2
 have h3 := h2.resolve_left (by omega)
 exact hcl listed hdown j o i ho hij (List.all_eq_true.1 h3 i (List.mem_range.2 hij)) hdeps
theorem zSv (ht : zZe ops k) {Q : Exit → Act → World → Prop} : ∀ (l : List Oper) (j : Nat) (e e' : Env Γ.St) (fuel : Nat) (listed : Array Bool) (a : Act) (w : World),
  k ≤ j → ops.toList.drop j = l → zQG P G ops l e e' → listed.size = ops.size → (∀ i, i < ops.size → listed.getD i true = decide (i < j)) → Inv Γ G w0 F0 O0 a w e → l.length ≤ fuel →
  (∀ a w, Inv Γ G w0 F0 O0 a w e' → Q .normal a w) → wpAny P .any ops Q fuel listed a w := by
 intro l
 induction l with
 | nil =>
  intro j e e' fuel listed a w hkj hl hev hls hlist hinv hfuel hQ
  cases hev
  have hge : ops.size ≤ j := by simpa using hl
  have hr : Region.ready .any ops listed = [] := by
   apply List.eq_nil_iff_forall_not_mem.2
   intro i hi
   obtain ⟨hun, o, ho, _⟩ := mem_ready.1 hi
   have hlt : i < ops.size := (Array.getElem?_eq_some_iff.1 ho).1
   rw [hlist i hlt] at hun
   simp at hun; omega
  exact wpAny_done hr (hQ a w hinv) fuel
 | cons o rest ih =>
  intro j e e' fuel listed a w hkj hl hev hls hlist hinv hfuel hQ
  cases hev with
  | cons he1 hev =>
   rename_i e1
   have hat : ops[j]? = some o := by
    have : (ops.toList.drop j)[0]? = some o := by rw [hl]; rfl
    rw [List.getElem?_drop] at this
    simpa using this
   have hjlt : j < ops.size := (Array.getElem?_eq_some_iff.1 hat).1
   have hrest : ops.toList.drop (j + 1) = rest := by rw [← List.tail_drop, hl]; rfl
   cases fuel with
   | zero => simp at hfuel
   | succ fuel =>
    have hdown : ∀ (i : Nat) (o : Oper) (e : Edge), ops[i]? = some o → listed.getD i true = true → e ∈ o.after → Region.binds .any e = true → listed.getD e.on true = true := by
     intro i oi ed hi hli hed hb
     have hlt : i < ops.size := (Array.getElem?_eq_some_iff.1 hi).1
     have hon := ht.edge i oi ed hi hed hb
     rw [hlist i hlt] at hli
     rw [hlist ed.on (by omega)]
     simp at hli ⊢; omega
    refine ⟨fun hr => ?_, ?_⟩
    ·exfalso
     have : j ∈ Region.ready .any ops listed := by
      rw [mem_ready]
      refine ⟨by rw [hlist j hjlt]; simp, o, hat, ?_⟩
      intro ed hed hb
      have hon := ht.edge j o ed hat hed hb
      rw [zDs (by omega), hlist ed.on (by omega)]
      simpa using hon
     rw [hr] at this; cases this
    ·intro i hi
     obtain ⟨hun, oi, ho, hdeps⟩ := mem_ready.1 hi
     have hlt : i < ops.size := (Array.getElem?_eq_some_iff.1 ho).1
     have hij : j ≤ i := by rw [hlist i hlt] at hun; simp at hun; exact hun
     have hdeps' : ∀ ed, ed ∈ oi.after → Region.binds .any ed = true → listed.getD ed.on true = true := by
      intro ed hed hb
      have h1 := hdeps ed hed hb
      have hon := ht.edge i oi ed ho hed hb
      rw [← zDs (by omega)]; exact h1
     have hii : i = j := by
      rcases Nat.lt_or_ge j i with h | h
      ·exfalso
       have := ht.last (fun k => listed.getD k true = true) hdown i j oi ho (by omega) h hdeps'
       rw [hlist j hjlt] at this; simp at this
      ·omega
     subst hii
     refine zMC hat he1 hinv ?_
     intro a' w' hinv'
     refine ih (i + 1) e1 e' fuel _ a' w' (by omega) hrest hev (by simpa using hls) ?_ hinv' (by simpa using hfuel) hQ
     intro i' hi'
     rw [qZ _ _ _ (by omega)]
     split
     ·rename_i h; subst h; simp
     ·rename_i h
      rw [hlist i' hi']
      simp; omega
theorem zAJ {i : Nat} (hi : i < k) : (ops.extract 0 k)[i]? = ops[i]? := by
 rw [Array.getElem?_extract]
 split
 ·simp
 ·rename_i h
  rw [Array.getElem?_eq_none (by simp at h; omega)]
theorem zPE {Q : Exit → Act → World → Prop} {K : Act → World → Prop} {i : Nat} (hi : i < k) (hg : zEI ops k = true) (h : wpOp P (ops.extract 0 k) Q i K a w) : wpOp P ops Q i K a w := by
 unfold wpOp at *
 rw [zAJ hi] at h
 cases ho : ops[i]? with
 | none => rw [ho] at h; exact h
 | some o =>
  rw [ho] at h
  simp only at h ⊢
  have hw : Region.wanted o (yielded (ops.extract 0 k) a.tmps) = Region.wanted o (yielded ops a.tmps) := by
   unfold Region.wanted
   cases hgd : o.guard with
   | none => rfl
   | some gw =>
    obtain ⟨j, want⟩ := gw
    have h1 := List.all_eq_true.1 hg i (List.mem_range.2 hi)
    simp only [ho, hgd, decide_eq_true_eq] at h1
    simp only [yielded, zAJ h1]
  rw [hw] at h
  exact h
theorem zQK (hm : k ≤ ops.size) (hst : zOc (ops.extract 0 k)) (htl : zFJ ops k = true) (hgd : zEI ops k = true) (hS : qG Γ P G S) {sts : Nat → Γ.St} {e1 e' : Env Γ.St}
  (hsteps : ∀ (i : Nat) (o : Oper), (ops.extract 0 k)[i]? = some o → zC6 P G S (ops.extract 0 k) e1 (sts i) o (sts (i + 1))) (hlast : sts k = e1.st)
  (htail : zQG P G ops (ops.toList.drop k) e1 e')
  {Q : Exit → Act → World → Prop} (hQ : ∀ a w, Inv Γ G w0 F0 O0 a w e' → Q .normal a w) : ∀ (fuel : Nat) (listed : Array Bool) (a : Act) (w : World), listed.size = ops.size →
  listed.count false ≤ fuel → (∀ i, k ≤ i → i < ops.size → listed.getD i true = false) →
  (∀ (i : Nat) (o : Oper) (e : Edge), ops[i]? = some o → listed.getD i true = true → e ∈ o.after → Region.binds .any e = true → listed.getD e.on true = true) →
  (∃ F O β al m, zVt Γ G w0 F0 O0 (ops.extract 0 k) e1 sts (listed.extract 0 k) a w F O β al m) → wpAny P .any ops Q fuel listed a w := by
 have hks : (ops.extract 0 k).size = k := by simp; omega
 have hlk : ∀ (listed : Array Bool) (i : Nat), i < k → (listed.extract 0 k).getD i true = listed.getD i true := by
  intro listed i hi
  simp only [Array.getD_eq_getD_getElem?]
  rw [Array.getElem?_extract]
  split
  ·simp
  ·rename_i h
   rw [Array.getElem?_eq_none (by simp at h; omega)]
 have hinvOf : ∀ (listed : Array Bool) (a : Act) (w : World), (∀ i, i < k → listed.getD i true = true) → (∃ F O β al m, zVt Γ G w0 F0 O0 (ops.extract 0 k) e1 sts (listed.extract 0 k) a w F O β al m) → Inv Γ G w0 F0 O0 a w e1 := by
  rintro listed a w hall ⟨F, O, β, al, m, hp⟩
  have hkn : ∀ t, zHC (ops.extract 0 k) (listed.extract 0 k) t := fun t i o ho hl => by
   have hi : i < k := by have := (Array.getElem?_eq_some_iff.1 ho).1; omega
   rw [hlk listed i hi, hall i hi] at hl; cases hl
  have heq : ∀ q, m + q ≤ k → sts (m + q) = sts m := by
   intro q
   induction q with
   | zero => intro _; rfl
   | succ q ih =>
    intro hq
    have hlt : m + q < (ops.extract 0 k).size := by omega
    have hj : (ops.extract 0 k)[m + q]? = some (ops.extract 0 k)[m + q] := by rw [Array.getElem?_eq_getElem hlt]
    have hnc : isCall (ops.extract 0 k)[m + q] = false := by
     cases hc : isCall (ops.extract 0 k)[m + q] with
     | false => rfl
     | true => have := (hp.calls _ _ hj hc).1 (by rw [hlk listed _ (by omega)]; exact hall _ (by omega)); omega
    rw [← ih (by omega)]
    rcases hsteps (m + q) _ hj with ⟨_, r', hev', hst'', _, _⟩ | ⟨_, hst'', _⟩
    ·rw [← Nat.add_assoc, hst'']; exact zAT (zKJ hev' hnc) _
    ·rw [← Nat.add_assoc, hst'']
  have hmle := hp.mle
  have hlst : sts m = e1.st := by
   have := heq (k - m) (by omega)
   rw [Nat.add_sub_cancel' (by omega)] at this
   rw [← this, hlast]
  refine Inv.of (al := al) (by rw [← hlst]; exact hp.core) hp.g hp.size hp.defers (fun t => hp.tm t (hkn t)) ?_ hp.lp
  intro s cs hcs
  have ha := hp.vk s cs hcs (hkn s)
  exact ⟨ha, hp.var s cs hcs ha⟩
 have hdone : ∀ (fuel : Nat) (listed : Array Bool) (a : Act) (w : World), listed.size = ops.size → listed.count false ≤ fuel → (∀ i, k ≤ i → i < ops.size → listed.getD i true = false) →
   (∀ i, i < k → listed.getD i true = true) → Inv Γ G w0 F0 O0 a w e1 → wpAny P .any ops Q fuel listed a w := by
  intro fuel listed a w hls hcnt htf hall hinv
  by_cases hke : k = ops.size
  ·have hnil : ops.toList.drop k = [] := by rw [hke]; simp
   rw [hnil] at htail
   cases htail
   have hr : Region.ready .any ops listed = [] := by
    apply List.eq_nil_iff_forall_not_mem.2
    intro i hi
    obtain ⟨hun, o, ho, _⟩ := mem_ready.1 hi
    have hlt : i < ops.size := (Array.getElem?_eq_some_iff.1 ho).1
    rw [hall i (by omega)] at hun; cases hun
   exact wpAny_done hr (hQ a w hinv) fuel
  ·have htail' := zTY htl hke
   refine zSv htail' _ k e1 e' fuel listed a w (Nat.le_refl _) rfl htail hls ?_ hinv ?_ hQ
   ·intro i hi
    by_cases h : i < k
    ·rw [hall i h]; simp [h]
    ·rw [htf i (by omega) hi]; simp [h]
   ·have hle : (ops.toList.drop k).length ≤ listed.count false := by
     have h1 : listed = listed.extract 0 k ++ listed.extract k listed.size := by
      apply zEU
      intro i
      rw [Array.getElem?_append]
      simp only [Array.size_extract, Array.getElem?_extract]
      by_cases hi : i < k
      ·by_cases hi2 : i < listed.size
       ·simp [show i < min k listed.size by omega]
       ·rw [Array.getElem?_eq_none (by omega), if_neg (by omega), if_neg (by omega)]
      ·by_cases hi2 : i < listed.size
       ·rw [if_neg (by omega), if_pos (by omega)]
        congr 1; omega
       ·rw [if_neg (by omega), if_neg (by omega), Array.getElem?_eq_none (by omega)]
     have h2 : listed.extract k listed.size = Array.replicate (listed.size - k) false := by
      apply zEU
      intro i
      rw [Array.getElem?_extract, Array.getElem?_replicate]
      by_cases hi : i < listed.size - k
      ·rw [if_pos (by omega), if_pos hi]
       have := htf (k + i) (by omega) (by omega)
       rw [Array.getD_eq_getD_getElem?, Array.getElem?_eq_getElem (by omega), Option.getD_some] at this
       rw [Array.getElem?_eq_getElem (by omega), this]
      ·rw [if_neg (by omega), if_neg hi]
     rw [h1, Array.count_append, h2]
     simp
     omega
    omega
 intro fuel
 induction fuel with
 | zero =>
  intro listed a w hls hcnt htf hdown hp
  have hall : ∀ i, i < k → listed.getD i true = true := by
   intro i hi
   cases hl : listed.getD i true with
   | true => rfl
   | false =>
    exfalso
    have h0 : listed.count false = 0 := by omega
    rw [Array.count_eq_zero] at h0
    apply h0
    have h : i < listed.size := by omega
    simp [Array.getD_eq_getD_getElem?, h] at hl
    rw [← hl]; exact Array.getElem_mem h
  exact hdone 0 listed a w hls hcnt htf hall (hinvOf listed a w hall hp)
 | succ fuel ih =>
  intro listed a w hls hcnt htf hdown hp
  by_cases hall : ∀ i, i < k → listed.getD i true = true
  ·exact hdone (fuel + 1) listed a w hls hcnt htf hall (hinvOf listed a w hall hp)
  ·have hmin : ∃ i, i < k ∧ listed.getD i true = false ∧ ∀ j, j < i → listed.getD j true = true := by
    have : ∀ n, n ≤ k → (∀ i, i < n → listed.getD i true = true) ∨ ∃ i, i < n ∧ listed.getD i true = false ∧ ∀ j, j < i → listed.getD j true = true := by
     intro n
     induction n with
     | zero => intro _; exact .inl (fun i hi => by omega)
     | succ n ihn =>
      intro hn
      rcases ihn (by omega) with h | ⟨i, h1, h2, h3⟩
      ·cases hl : listed.getD n true with
       | true => exact .inl (fun i hi => by rcases Nat.lt_or_ge i n with h' | h'; exact h i h'; obtain rfl : i = n := (by omega); exact hl)
       | false => exact .inr ⟨n, by omega, hl, h⟩
      ·exact .inr ⟨i, by omega, h2, h3⟩
    rcases this k (Nat.le_refl _) with h | ⟨i, h1, h2, h3⟩
    ·exact absurd h hall
    ·exact ⟨i, h1, h2, h3⟩
   obtain ⟨i0, hi0, hun0, hbel⟩ := hmin
   refine ⟨fun hr => ?_, ?_⟩
   ·exfalso
    have hlt : i0 < ops.size := by omega
    have : i0 ∈ Region.ready .any ops listed := by
     rw [mem_ready]
     refine ⟨hun0, ops[i0], by simp [hlt], ?_⟩
     intro ed hed hb
     have hon := hst.edge i0 ops[i0] ed (by rw [zAJ hi0]; simp [hlt]) hed hb
     rw [zDs (by omega)]
     exact hbel ed.on hon
    rw [hr] at this; cases this
   ·intro i hi
    obtain ⟨hun, o, ho, hdeps⟩ := mem_ready.1 hi
    have hlt : i < ops.size := (Array.getElem?_eq_some_iff.1 ho).1
    have hin : i < listed.size := by omega
    have hdeps' : ∀ ed, ed ∈ o.after → Region.binds .any ed = true → listed.getD ed.on true = true := by
     intro ed hed hb
     have h1 := hdeps ed hed hb
     rcases Nat.lt_or_ge ed.on listed.size with h | h
     ·rw [← zDs h]; exact h1
     ·simp [Array.getD_eq_getD_getElem?, Array.getElem?_eq_none h]
    have hik : i < k := by
     rcases Nat.lt_or_ge i k with h | h
     ·exact h
     ·exfalso
      have hke : k ≠ ops.size := by omega
      have htail' := zTY htl hke
      have := htail'.last (fun q => listed.getD q true = true) hdown i i0 o ho h (by omega) hdeps'
      rw [hun0] at this; cases this
    obtain ⟨F, O, β, al, m, hp⟩ := hp
    refine zPE hik hgd ?_
    refine zO2 hst hS hsteps hp (by simp; omega) ?_ (by rw [zAJ hik]; exact ho) (by rw [hlk listed i hik]; exact hun) ?_ ?_
    ·intro j oj ed hj hl hed hb
     have hjk : j < k := by have := (Array.getElem?_eq_some_iff.1 hj).1; omega
     have hon := hst.edge j oj ed hj hed hb
     rw [hlk listed j hjk] at hl
     rw [hlk listed ed.on (by omega)]
     exact hdown j oj ed (by rw [← zAJ hjk]; exact hj) hl hed hb
    ·intro ed hed hb
     have hon := hst.edge i o ed (by rw [zAJ hik]; exact ho) hed hb
     rw [hlk listed ed.on (by omega)]
     exact hdeps' ed hed hb
    ·intro a' w' F' O' β' al' m' hp'
     have hset : (listed.extract 0 k).setIfInBounds i true = (listed.setIfInBounds i true).extract 0 k := by
      apply zEU
      intro q
      rw [Array.getElem?_extract]
      by_cases hq : q = i
      ·subst hq
       rw [Array.getElem?_setIfInBounds_self_of_lt (by simp; omega), if_pos (by simp; omega)]
       rw [Nat.zero_add, Array.getElem?_setIfInBounds_self_of_lt hin]
      ·rw [Array.getElem?_setIfInBounds_ne (Ne.symm hq), Array.getElem?_extract]
       simp only [Array.size_setIfInBounds, Nat.zero_add]
       rw [Array.getElem?_setIfInBounds_ne (Ne.symm hq)]
     rw [hset] at hp'
     refine ih (listed.setIfInBounds i true) a' w' (by simpa using hls) ?_ ?_ ?_ ⟨F', O', β', al', m', hp'⟩
     ·have hli : listed[i] = false := by simpa [Array.getD_eq_getD_getElem?, hin] using hun
      rw [Array.setIfInBounds_def, dif_pos hin, Array.count_set hin, hli]
      simp
      omega
     ·intro q hq1 hq2
      rw [qZ _ _ _ hin, if_neg (by omega)]; exact htf q hq1 hq2
     ·intro j oj ed hj hl hed hb
      rw [qZ _ _ _ hin] at hl ⊢
      split
      ·rfl
      ·by_cases hji : j = i
       ·subst hji; rw [ho] at hj; cases hj; exact hdeps' ed hed hb
       ·rw [if_neg hji] at hl; exact hdown j oj ed hj hl hed hb
theorem zPs (hmix : P.follows .mixedOrders = true) (hS : qG Γ P G S) (hi : Inv Γ G w0 F0 O0 a w e) (hk : k ≤ ops.size) (htl : zFJ ops k = true) (hgd : zEI ops k = true)
  {e1 : Env Γ.St} (he1 : zIh P G S (ops.extract 0 k) e = some e1) (hev : zQG P G ops (ops.toList.drop k) e1 e') {id : Nat} {Q : Exit → Act → World → Prop} (hQ : ∀ a w, Inv Γ G w0 F0 O0 a w e' → Q .normal a w) : (Code.region id ops true).wp P Q a w := by
 ·unfold zIh at he1
  split at he1
  ·rename_i hok
   have hst := zOT hok
   have hah := zN9 hst 0 (ops.extract 0 k).toList (by simp)
   have hno : ∀ d, d ∈ z6 (ops.extract 0 k).toList → (killAll (z6 (ops.extract 0 k).toList) e).var d = none := by
    intro d hd
    cases hv : (killAll (z6 (ops.extract 0 k).toList) e).var d with
    | none => rfl
    | some cs => exact absurd ⟨cs, hv⟩ (zAk _ e d hd).1
   obtain ⟨sts, h0, hn, hsteps, hg, hv, hl⟩ := zEQ _ _ _ he1 hah hno
   have hks : (ops.extract 0 k).size = k := by simp; omega
   have hsteps' : ∀ (i : Nat) (o : Oper), (ops.extract 0 k)[i]? = some o → zC6 P G S (ops.extract 0 k) e1 (sts i) o (sts (i + 1)) := fun i o ho => hsteps i o (by rw [Array.getElem?_toList]; exact ho)
   refine wp_region_any hmix ?_
   obtain ⟨F, O, β, hc, hG, hsz, hdf, ht, hvv⟩ := (hi.killAll (z6 (ops.extract 0 k).toList)).drew (w.drawn + 1) (Nat.le_succ _)
   have hrep : (Array.replicate ops.size false).extract 0 k = Array.replicate k false := by
    apply zEU
    intro i
    rw [Array.getElem?_extract, Array.getElem?_replicate]
    simp only [Array.size_replicate]
    by_cases h : i < k
    ·simp [h, show i < ops.size by omega, show i < min k ops.size by omega]
    ·rw [if_neg (by omega)]; simp [h]
   have hnotin : ∀ t, zHC (ops.extract 0 k) (Array.replicate k false) t → t ∉ z6 (ops.extract 0 k).toList := by
    intro t hkn hin
    simp only [z6, List.mem_filterMap] at hin
    obtain ⟨o, hm', hd⟩ := hin
    obtain ⟨i, hi', rfl⟩ := List.getElem_of_mem hm'
    have hi'' : i < (ops.extract 0 k).size := by simpa using hi'
    refine hkn i (ops.extract 0 k)[i] (Array.getElem?_eq_getElem hi'') (by simp [Array.getD_eq_getD_getElem?, show i < k by omega]) (by rw [← Array.getElem_toList]; exact hd)
   refine zQK hk hst htl hgd hS hsteps' (by rw [← hn]; simp; congr 1; omega) hev hQ ops.size _ a _ (by simp) (by simp) ?_ ?_ ⟨F, O, β, zQ (killAll (z6 (ops.extract 0 k).toList) e), 0, ?_⟩
   ·intro i _ hi'; simp [Array.getD_eq_getD_getElem?, hi']
   ·intro i o ed ho hlst
    have hi'' : i < ops.size := (Array.getElem?_eq_some_iff.1 ho).1
    simp [Array.getD_eq_getD_getElem?, hi''] at hlst
   ·rw [hrep]
    refine ⟨by rw [h0]; exact hc, hG, by rw [hl]; exact hsz, hdf, ?_, ?_, ?_, ?_, ?_, Nat.zero_le _, ?_⟩
    ·intro t hkn; rw [hg t (hnotin t hkn)]; exact ht t
    ·intro s cs hcs hs
     obtain ⟨cs0, hcs0⟩ := hs
     have hni : s ∉ z6 (ops.extract 0 k).toList := fun hin => by rw [hno s hin] at hcs0; cases hcs0
     rw [hv s hni] at hcs
     exact hvv s cs hcs
    ·intro s hs
     obtain ⟨cs0, hcs0⟩ := hs
     have hni : s ∉ z6 (ops.extract 0 k).toList := fun hin => by rw [hno s hin] at hcs0; cases hcs0
     exact ⟨cs0, by rw [hv s hni]; exact hcs0⟩
    ·intro s cs hcs hkn
     rw [hv s (hnotin s hkn)] at hcs
     exact ⟨cs, hcs⟩
    ·intro i o d ho _ hd
     refine zAk _ e d ?_
     simp only [z6, List.mem_filterMap]
     exact ⟨o, Array.mem_toList_iff.2 (Array.mem_of_getElem? ho), hd⟩
    ·intro i o ho _
     have hi'' : i < (ops.extract 0 k).size := (Array.getElem?_eq_some_iff.1 ho).1
     have : i < k := by omega
     simp [Array.getD_eq_getD_getElem?, this]
  ·cases he1
theorem zPt (hmix : P.follows .mixedOrders = true) (hS : qG Γ P G S) (hi : Inv Γ G w0 F0 O0 a w e) (hk : k ≤ ops.size) (htl : zFJ ops k = true) (hgd : zEI ops k = true)
  (hev : zEN P G S ops k e = some e') {id : Nat} {Q : Exit → Act → World → Prop} (hQ : ∀ a w, Inv Γ G w0 F0 O0 a w e' → Q .normal a w) : (Code.region id ops true).wp P Q a w := by
 unfold zEN at hev
 split at hev
 ·rename_i e1 he1
  exact zPs hmix hS hi hk htl hgd he1 (zT4 hS hev) hQ
 ·cases hev
theorem zVf (hmix : P.follows .mixedOrders = true) (hS : qG Γ P G S) (hi : Inv Γ G w0 F0 O0 a w e) (hev : zGQ P G S ops e = some e') {id : Nat}
  {Q : Exit → Act → World → Prop} (hQ : ∀ a w, Inv Γ G w0 F0 O0 a w e' → Q .normal a w) : (Code.region id ops true).wp P Q a w := by
 unfold zGQ at hev
 split at hev
 ·rename_i hcond
  simp only [Bool.and_eq_true, decide_eq_true_eq] at hcond
  obtain ⟨⟨h1, h2⟩, h3⟩ := hcond
  split at hev
  ·rename_i e1 he1
   simp only [Option.some.injEq] at hev
   subst hev
   exact zPt hmix hS hi h1 h2 h3 he1 hQ
  ·exact zPt hmix hS (Inv.frzOps _ _ hi) h1 h2 h3 hev hQ
 ·cases hev
end
end Go.Ve

namespace Go.Ve
open Go
inductive X where
 | normal
 | exit (id : Nat)
 | ret
def X.toExit : X → Exit
 | .normal => .normal
 | .exit id => .exit id
 | .ret => .ret
def X.out (id : Nat) : X → X
 | .exit id' => if id' = id then .normal else .exit id'
 | x => x
section
variable {Γ : Sig} (P : jC) (G : Nat → Option (List V)) (S : q7 Γ)
inductive Ev : Code → Env Γ.St → X → Env Γ.St → Prop
 | skip (e) : Ev .skip e .normal e
 | seqN {x y : Code} {e e1 e2 : Env Γ.St} {k : X} : Ev x e .normal e1 → Ev y e1 k e2 → Ev (.seq x y) e k e2
 | seqX {x y : Code} {e e1 : Env Γ.St} {k : X} : Ev x e k e1 → k ≠ .normal → Ev (.seq x y) e k e1
 | condT {c : Operand} {x y : Code} {e e1 : Env Γ.St} {k : X} : evx G e c = .p (.val (.bool true)) → Ev x e k e1 → Ev (.cond c x y) e k e1
 | condF {c : Operand} {x y : Code} {e e1 : Env Γ.St} {k : X} : evx G e c = .p (.val (.bool false)) → Ev y e k e1 → Ev (.cond c x y) e k e1
 | block {id : Nat} {c : Code} {e e1 : Env Γ.St} {k : X} : Ev c e k e1 → Ev (.block id c) e (k.out id) e1
 | loop {c : Code} {e e1 : Env Γ.St} {k : X} (n : Nat) (es : Nat → Env Γ.St) : es 0 = e → (∀ i, i < n → Ev c (es i) .normal (es (i + 1))) → Ev c (es n) k e1 → k ≠ .normal → Ev (.loop c) e k e1
 | exit (id : Nat) (e) : Ev (.exit id) e (.exit id) e
 | ret (e) : Ev .ret e .ret e
 | seqR {id : Nat} {ops : Array Oper} {e e1 : Env Γ.St} : zJI P G S ops ops.toList e = some e1 → Ev (.region id ops false) e .normal e1
 | drawR {id : Nat} {ops : Array Oper} {e e1 : Env Γ.St} : zGQ P G S ops e = some e1 → Ev (.region id ops true) e .normal e1
end
section
variable {Γ : Sig} {P : Program} {G : Nat → Option (List V)} {S : q7 Γ} {w0 : World} {F0 : Blk → Prop} {O0 : uR}
theorem zUs {c : Code} {Q : Exit → Act → World → Prop} (J : Nat → Act → World → Prop)
  (round : ∀ n a w, J n a w → c.wp P (Exit.then (fun a' w' => ∃ m, m < n ∧ J m a' w') Q) a w) {n : Nat} {a : Act} {w : World} (h0 : J n a w) : (Code.loop c).wp P Q a w := by
 intro b k cs
 have key : ∀ n a w, J n a w → ∃ e a' w', Q e a' w' ∧ Arrives P (lone (b.at a (.code c :: .inLoop c :: k)) cs w) b k cs e a' w' := by
  intro n
  induction n using Nat.strongRecOn with
  | _ n ih =>
   intro a w hJ
   obtain ⟨e, a₁, w₁, hq, harr⟩ := round n a w hJ b (.inLoop c :: k) cs
   cases e with
   | normal =>
    obtain ⟨m, hlt, hJ₁⟩ := hq
    obtain ⟨e₂, a₂, w₂, hq₂, harr₂⟩ := ih m hlt a₁ w₁ hJ₁
    exact ⟨e₂, a₂, w₂, hq₂, .of_steps (Steps.trans harr (.one step_inLoop)) harr₂⟩
   | exit id => exact ⟨_, a₁, w₁, hq, .pass (x := .inLoop c) rfl (fun _ _ => .inl (by simp)) harr⟩
   | goto l => exact ⟨_, a₁, w₁, hq, .pass (x := .inLoop c) rfl (fun _ _ => .inl (by simp)) harr⟩
   | ret => exact ⟨_, a₁, w₁, hq, .pass (x := .inLoop c) rfl (fun _ _ => .inl (by simp)) harr⟩
   | panic ch => exact ⟨_, a₁, w₁, hq, .pass (x := .inLoop c) rfl (fun _ _ => .inl (by simp)) harr⟩
   | outgrown => exact ⟨_, a₁, w₁, hq, .pass (x := .inLoop c) rfl (fun _ _ => .inl (by simp)) harr⟩
 obtain ⟨e, a', w', hq, harr⟩ := key n a w h0
 exact ⟨e, a', w', hq, .of_steps (.one step_loop) harr⟩
theorem zYG (hm : P.follows .mixedOrders = true) (hS : qG Γ P G S) {c : Code} {e e' : Env Γ.St} {k : X} (h : Ev P G S c e k e') : ∀ {a : Act} {w : World}, Inv Γ G w0 F0 O0 a w e →
  c.wp P (fun ex a' w' => ex = k.toExit ∧ Inv Γ G w0 F0 O0 a' w' e') a w := by
 induction h with
 | skip e => intro a w hi; exact wp_skip ⟨rfl, hi⟩
 | seqN h1 h2 ih1 ih2 =>
  intro a w hi
  refine wp_seq (wp_mono (ih1 hi) ?_)
  rintro ex a' w' ⟨rfl, hi'⟩
  exact ih2 hi'
 | seqX h1 hne ih1 =>
  rename_i x y e0 e1 k
  intro a w hi
  refine wp_seq (wp_mono (ih1 hi) ?_)
  rintro ex a' w' ⟨rfl, hi'⟩
  cases k with
  | normal => exact absurd rfl hne
  | exit id => exact ⟨rfl, hi'⟩
  | ret => exact ⟨rfl, hi'⟩
 | condT hc h1 ih1 =>
  rename_i c0 x0 y0 e0 e1 k0
  intro a w hi
  obtain ⟨F, O, β, hcr, hG, hsz, hdf, ht, hv⟩ := hi
  have h2 := kW (e := e0) hG ht c0
  rw [hc] at h2
  exact wp_cond_true (Rd.eq_val h2) (ih1 ⟨F, O, β, hcr, hG, hsz, hdf, ht, hv⟩)
 | condF hc h1 ih1 =>
  rename_i c0 x0 y0 e0 e1 k0
  intro a w hi
  obtain ⟨F, O, β, hcr, hG, hsz, hdf, ht, hv⟩ := hi
  have h2 := kW (e := e0) hG ht c0
  rw [hc] at h2
  exact wp_cond_false (Rd.eq_val h2) (ih1 ⟨F, O, β, hcr, hG, hsz, hdf, ht, hv⟩)
 | block h1 ih1 =>
  rename_i id c e0 e1 k
  intro a w hi
  refine wp_block (wp_mono (ih1 hi) ?_)
  rintro ex a' w' ⟨rfl, hi'⟩
  cases k with
  | normal => exact ⟨rfl, hi'⟩
  | exit id' =>
   simp only [X.toExit, Exit.inBlock, X.out]
   split
   ·exact ⟨rfl, hi'⟩
   ·exact ⟨rfl, hi'⟩
  | ret => exact ⟨rfl, hi'⟩
 | loop n es h0 h1 h2 hne ih1 ih2 =>
  rename_i c e0 e1 k
  intro a w hi
  refine zUs (fun j a w => ∃ i, i + j = n ∧ Inv Γ G w0 F0 O0 a w (es i)) ?_ (n := n) ⟨0, by omega, by rw [h0]; exact hi⟩
  rintro j a w ⟨i, hij, hi'⟩
  by_cases hlt : i < n
  ·refine wp_mono (ih1 i hlt hi') ?_
   rintro ex a' w' ⟨rfl, hi''⟩
   exact ⟨j - 1, by omega, i + 1, by omega, hi''⟩
  ·obtain rfl : i = n := by omega
   refine wp_mono (ih2 hi') ?_
   rintro ex a' w' ⟨rfl, hi''⟩
   cases k with
   | normal => exact absurd rfl hne
   | exit id => exact ⟨rfl, hi''⟩
   | ret => exact ⟨rfl, hi''⟩
 | exit id e => intro a w hi; exact wp_exit ⟨rfl, hi⟩
 | ret e => intro a w hi; exact wp_ret ⟨rfl, hi⟩
 | seqR hev =>
  rename_i id ops e0 e1
  intro a w hi
  refine wp_region ?_
  have := zT3 (Q := fun ex a' w' => ex = X.toExit .normal ∧ Inv Γ G w0 F0 O0 a' w' e1) ops 0 ops.toList e0 e1 a w (by simp) (zT4 hS hev) hi (fun a w h => ⟨rfl, h⟩)
  simpa [List.range_eq_range'] using this
 | drawR hev =>
  intro a w hi
  exact zVf hm hS hi hev (fun a w h => ⟨rfl, h⟩)
end
end Go.Ve
