/-
  The evaluator over pure values, part 20: stores into a slice of the frame's own; what stays from now on; one operation, whatever it is.
-/
import Derived.Test.YtggmpbaiijodiaaGreatNvVe24
namespace Go.Ve
open Go

def spliceV (cs : List V) (o : Nat) : List V → List V
  | [] => cs
  | x :: r => spliceV (cs.set o x) (o + 1) r

theorem spliceV_len : ∀ (xs cs : List V) (o : Nat), (spliceV cs o xs).length = cs.length := by
  intro xs
  induction xs with
  | nil => intro cs o; rfl
  | cons x xs ih => intro cs o; simp [spliceV, ih]

theorem spliceV_get : ∀ (xs cs : List V) (o i : Nat), o + xs.length ≤ cs.length → (spliceV cs o xs)[i]? = if o ≤ i ∧ i < o + xs.length then xs[i - o]? else cs[i]? := by
  intro xs
  induction xs with
  | nil => intro cs o i _; simp [spliceV]; intro h1 h2; omega
  | cons x xs ih =>
    intro cs o i h
    simp only [List.length_cons] at h
    simp only [spliceV]
    rw [ih _ _ _ (by simp; omega)]
    by_cases h1 : o + 1 ≤ i ∧ i < o + 1 + xs.length
    · rw [if_pos h1, if_pos (by simp; omega)]
      have : i - o = (i - (o + 1)) + 1 := by omega
      rw [this]; simp
    · rw [if_neg h1]
      by_cases h2 : i = o
      · subst h2
        rw [List.getElem?_set_self (by omega), if_pos (by simp)]
        simp
      · rw [List.getElem?_set_ne (Ne.symm h2), if_neg (by simp; omega)]

def reElem (q : V) (cs : List V) : V :=
  match q with
  | .agg _ => .agg cs
  | _ => match cs with
    | [y] => y
    | _ => q

def updT (id k n : Nat) (q : V) : T → T
  | .ow i k' es => if i = id then (if k' = k then .ow i k (es.set n q) else .dead) else .ow i k' es
  | .oe i k' es j off => if i = id then (if k' = k then .oe i k (es.set n q) j off else .dead) else .oe i k' es j off
  | .ot i t xs => if i = id then .dead else .ot i t xs
  | .oet i t xs j off => if i = id then .dead else .oet i t xs j off
  | x => x


section
variable {Γ : Sig} {P : Program} {G : Nat → Option (List V)} {S : Specs Γ} {o : Oper} {a : Act} {w0 : World} {F0 O0 : Nat → Prop} {w : World} {e e' : Env Γ.St}

theorem VarRel.mapT {w' : World} {F F' : Nat → Prop} {β β' : Lay} {al al' : Site → Prop} {f : T → T} {b : Nat} {cs : List T} (hb : w'.heap[b]? = w.heap[b]?)
    (hf : ∀ v x, TRel w F β al v x → TRel w' F' β' al' v (f x)) (h : VarRel w F β al b cs) : VarRel w' F' β' al' b (cs.map f) := by
  obtain ⟨c, et, h1, h2, h3⟩ := h
  refine ⟨c, et, hb.trans h1, by simpa using h2, ?_⟩
  intro i x y hi hy
  simp only [List.getElem?_map, Option.map_eq_some_iff] at hy
  obtain ⟨z, hz, rfl⟩ := hy
  exact hf x z (h3 i x z hi hz)

/-- A store into a slice of the frame's own. -/
def evStoreO (P : Look) (e : Env Γ.St) (t : TypeId) (id k : Nat) (es : List V) (i off : Nat) (d : V) : Option (Env Γ.St) :=
  match es[i]? with
  | some q =>
    if size? P t = some d.cells.length ∧ off + d.cells.length ≤ k ∧ d.cells.all V.one = true ∧ q.cells.length = k ∧ (reElem q (spliceV q.cells off d.cells)).cells.length = k ∧
        (q.noAgg = true → d.cells.length = 1 ∧ k = 1) then
      some (e.mapT (updT id k i (reElem q (spliceV q.cells off d.cells))))
    else none
  | none => none

theorem reElem_cells {q d : V} {off k : Nat} (hq : q.cells.length = k) (hone : d.cells.all V.one = true) (hfit : off + d.cells.length ≤ k)
    (hc : q.noAgg = true → d.cells.length = 1 ∧ k = 1) : (reElem q (spliceV q.cells off d.cells)).cells = spliceV q.cells off d.cells := by
  have hl := spliceV_len d.cells q.cells off
  have main : (∀ cs, q ≠ .agg cs) → d.cells.length = 1 ∧ k = 1 → (match spliceV q.cells off d.cells with | [y] => y | _ => q).cells = spliceV q.cells off d.cells := by
    intro hna ⟨h1, hk⟩
    subst hk
    obtain rfl : off = 0 := by omega
    match hd : d.cells, h1 with
    | [y], _ =>
      have hy : y.one = true := by rw [hd] at hone; simpa using hone
      match hqc : q.cells, hq with
      | [z], _ =>
        simp only [spliceV, List.set_cons_zero]
        cases y <;> first | rfl | (simp [V.one] at hy)
  cases q with
  | agg cs => rfl
  | val v => exact main (fun cs h => by cases h) (hc rfl)
  | sl es => exact main (fun cs h => by cases h) (hc rfl)
  | tup vs => exact main (fun cs h => by cases h) (hc rfl)
  | clo f cs => exact main (fun cs h => by cases h) (hc rfl)
  | pp cs => exact main (fun cs h => by cases h) (hc rfl)
  | tl t xs => exact main (fun cs h => by cases h) (hc rfl)

theorem storeO_sim (hi : Inv Γ G w0 F0 O0 a w e) {t : TypeId} {id k i off : Nat} {es : List V} {d : V} {ap xv : Operand} (hp : evx G e ap = .oe id k es i off) (hx : evx G e xv = .p d)
    (h : evStoreO P e t id k es i off d = some e') : ∃ w', (Instr.storeAt t (a.eval ap) (a.eval xv)).run P w = .ok () w' ∧ Inv Γ G w0 F0 O0 a w' e' := by
  obtain ⟨F, O, β, hc, hG, hsz, hdf, ht, hv⟩ := hi
  have hpt := evx_sim hG ht ap
  have hxt := evx_sim hG ht xv
  rw [hp] at hpt
  rw [hx] at hxt
  obtain ⟨ha, hil, cap, hpv, c, et, g1, g2, g3, g4, g5⟩ := hpt
  unfold evStoreO at h
  split at h
  · rename_i q hq
    split at h
    · rename_i hcond
      obtain ⟨hsize, hfit, hone, hqk, hre, hag⟩ := hcond
      simp only [Option.some.injEq] at h
      subst h
      have hrc := reElem_cells hqk hone hfit hag
      obtain ⟨h1, h2, h3⟩ := cellsT_sim (xs := d.cells.map .p) hxt (by simp [T.cellsT, hone])
      simp only [List.length_map] at h1
      have hik : (i + 1) * k ≤ cap * k := Nat.mul_le_mul_right k (by omega)
      rw [Nat.succ_mul] at hik
      have hrun : (Instr.storeAt t (a.eval ap) (a.eval xv)).run P w = .ok () (setBlk w (β.ob id) (.cells (spliceA c (i * k + off) (a.eval xv).cells.toList) et (0, 0))) := by
        have hst := run_storeCells (P := P) (b := β.ob id) (off := i * k + off) (et := et) (a.eval xv).cells.toList 0 w c g1 (by simp [h1]; omega) (fun u hu => h2 u (by simpa using hu))
        have hw : (if (a.eval xv).cells.toList = [] then w else setBlk w (β.ob id) (.cells (spliceA c (i * k + off + 0) (a.eval xv).cells.toList) et (0, 0))) = setBlk w (β.ob id) (.cells (spliceA c (i * k + off) (a.eval xv).cells.toList) et (0, 0)) := by
          split
          · rename_i hnil; rw [hnil]; exact (setBlk_self g1).symm
          · simp
        rw [hw] at hst
        simp only [Instr.storeAt, hpv, Instr.sureAddr, Sem.run_bind, Sem.run_pure, Result.andThen_ok, storeVar, run_sizeOf hsize, h1, ne_eq, not_true, if_false]
        exact hst
      refine ⟨_, hrun, ?_⟩
      obtain ⟨p1, p2, p3, p4⟩ := hc.place (.o id) ha
      have hFne : ∀ b', F b' → b' ≠ β.ob id := fun b' hb hh => p3 (by rw [hh] at hb; exact hb)
      have hvne : ∀ s, alive e (.v s) → β.vb s ≠ β.ob id := fun s hs hh => by
        have := hc.dist (.v s) (.o id) hs ha hh
        cases this
      have hone' : ∀ id', id' ≠ id → alive e (.o id') → β.ob id' ≠ β.ob id := fun id' hne hs hh => by
        have := hc.dist (.o id') (.o id) hs ha hh
        simp at this; exact hne this
      have hrow : ∀ es0 cap', RowRel w F (β.ob id) k cap' es0 → RowRel (setBlk w (β.ob id) (.cells (spliceA c (i * k + off) (a.eval xv).cells.toList) et (0, 0))) F (β.ob id) k cap' (es0.set i (reElem q (spliceV q.cells off d.cells))) := by
        intro es0 cap' hr0
        obtain ⟨c', et', q1, q2, q3, q4, q5⟩ := hr0
        rw [g1] at q1
        simp only [Option.some.injEq, Obj.cells.injEq] at q1
        obtain ⟨rfl, _, _⟩ := q1
        refine ⟨_, et, setBlk_eq p2, by rw [spliceA_size]; exact q2, by simpa using q3, ?_, ?_⟩
        · intro y hy
          rcases List.mem_or_eq_of_mem_set hy with h | h
          · exact q4 y h
          · rw [h]; exact hre
        · intro i' j y d' x hi' hj hx
          have hj' := (List.getElem?_eq_some_iff.1 hj).1
          rw [spliceA_get _ _ _ _ (by simp [h1]; omega)] at hx
          simp only [Array.length_toList, h1] at hx
          by_cases hii : i = i'
          · subst hii
            have hil0 : i < es0.length := by have := (List.getElem?_eq_some_iff.1 hi').1; simpa using this
            rw [List.getElem?_set_self hil0, Option.some.injEq] at hi'
            subst hi'
            rw [hrc] at hj hj'
            rw [spliceV_get _ _ _ _ (by omega)] at hj
            rw [spliceV_len] at hj'
            by_cases hin : off ≤ j ∧ j < off + d.cells.length
            · rw [if_pos hin] at hj
              rw [if_pos (by omega)] at hx
              have := h3 (j - off) x (.p d') (by rw [show j - off = i * k + j - (i * k + off) by omega]; simpa using hx) (by simp [hj])
              exact Rd.setBlk hFne this
            · rw [if_neg hin] at hj
              rw [if_neg (by omega)] at hx
              exact Rd.setBlk hFne (g5 i j q d' x hq hj hx)
          · rw [List.getElem?_set_ne hii] at hi'
            have hyk := q4 y (List.mem_of_getElem? hi')
            have hout : ¬ (i * k + off ≤ i' * k + j ∧ i' * k + j < i * k + off + d.cells.length) := by
              intro hh
              rcases Nat.lt_or_ge i i' with h | h
              · have := Nat.mul_le_mul_right k (show i + 1 ≤ i' by omega)
                rw [Nat.succ_mul] at this; omega
              · have := Nat.mul_le_mul_right k (show i' + 1 ≤ i by omega)
                rw [Nat.succ_mul] at this; omega
            rw [if_neg hout] at hx
            exact Rd.setBlk hFne (q5 i' j y d' x hi' hj hx)
      have hf : ∀ v x, TRel w F β (alive e) v x → TRel (setBlk w (β.ob id) (.cells (spliceA c (i * k + off) (a.eval xv).cells.toList) et (0, 0))) F β (alive e) v (updT id k i (reElem q (spliceV q.cells off d.cells)) x) := by
        intro v x hx
        cases x with
        | p y => exact Rd.setBlk hFne hx
        | ow id' k' es0 =>
          simp only [updT]
          obtain ⟨ha', cap', hv', hr'⟩ := hx
          split
          · rename_i hid
            subst hid
            split
            · rename_i hke
              subst hke
              exact ⟨ha', cap', by simpa using hv', hrow es0 cap' hr'⟩
            · trivial
          · rename_i hid
            exact ⟨ha', cap', hv', hr'.setBlk hFne (hone' id' hid ha')⟩
        | oe id' k' es0 j off' =>
          simp only [updT]
          obtain ⟨ha', hj', cap', hv', hr'⟩ := hx
          split
          · rename_i hid
            subst hid
            split
            · rename_i hke
              subst hke
              exact ⟨ha', by simpa using hj', cap', hv', hrow es0 cap' hr'⟩
            · trivial
          · rename_i hid
            exact ⟨ha', hj', cap', hv', hr'.setBlk hFne (hone' id' hid ha')⟩
        | lp s off' => exact hx
        | mp id' es' ck =>
          obtain ⟨ha', hv', hr'⟩ := hx
          by_cases hid : id' = id
          · subst hid; rw [g1] at hr'; cases hr'
          · exact ⟨ha', hv', (setBlk_ne (hone' id' hid ha')).trans hr'⟩
        | ot id' t' xs' =>
          simp only [updT]
          split
          · trivial
          · rename_i hid
            rcases hx with hx | ⟨hne, ha', cap', hv', hr'⟩
            · exact .inl hx
            · exact .inr ⟨hne, ha', cap', hv', hr'.setBlk hFne (hone' id' hid ha')⟩
        | oet id' t' xs' j off' =>
          simp only [updT]
          split
          · trivial
          · rename_i hid
            obtain ⟨ha', hj', cap', hv', hr'⟩ := hx
            exact ⟨ha', hj', cap', hv', hr'.setBlk hFne (hone' id' hid ha')⟩
        | emp => exact hx
        | dead => trivial
      refine Inv.of (al := alive e) (hc.setBlk ha _) (fun g cs hg => (hG g cs hg).setBlk hFne) (by simpa [Env.mapT] using hsz) hdf (fun t => by rw [get_mapT rfl]; exact hf _ _ (ht t)) ?_ ?_
      · intro s cs hcs
        rw [var_mapT] at hcs
        simp only [Option.map_eq_some_iff] at hcs
        obtain ⟨cs0, hcs0, rfl⟩ := hcs
        have ha' : alive e (.v s) := ⟨cs0, hcs0⟩
        exact ⟨ha', (hv s cs0 hcs0).mapT (setBlk_ne (hvne s ha')) hf⟩
      · rintro s ⟨cs, hcs⟩
        exact ⟨_, by rw [var_mapT, hcs]; rfl⟩
    · cases h
  · cases h

/-- A typed element behind a store into it. -/
def newEl (ty : Ty) (x : ty.El) (off : Nat) (d : V) : Option ty.El :=
  match ty.uncells (spliceV (ty.cells x) off d.cells) with
  | some (y, []) => some y
  | _ => none

def Ty.aggT : Ty → Bool
  | .pair _ _ | .unit => true
  | _ => false

def updTT (id : Nat) (ty : Ty) (n : Nat) (x : ty.El) : T → T
  | .ow i k es => if i = id then .dead else .ow i k es
  | .oe i k es j off => if i = id then .dead else .oe i k es j off
  | .ot i t ys => if i = id then (if h : t = ty then .ot i ty ((h ▸ ys).set n x) else .dead) else .ot i t ys
  | .oet i t ys j off => if i = id then (if h : t = ty then .oet i ty ((h ▸ ys).set n x) j off else .dead) else .oet i t ys j off
  | y => y

/-- A store into a typed slice of the frame's own. -/
def evStoreT (P : Look) (e : Env Γ.St) (t : TypeId) (id : Nat) (ty : Ty) (xs : List ty.El) (i off : Nat) (d : V) : Option (Env Γ.St) :=
  if size? P t = some d.cells.length ∧ off + d.cells.length ≤ ty.size ∧ d.cells.all V.one = true ∧ (ty.aggT = false → d.cells.length = 1 ∧ ty.size = 1) then
    match xs[i]? with
    | some x => match newEl ty x off d with
      | some y => some (e.mapT (updTT id ty i y))
      | none => none
    | none => none
  else none

theorem WkVs.set : ∀ {xs ys : List V} (_ : WkVs xs ys) {a b : V} (_ : WkV a b) (n : Nat), WkVs (xs.set n a) (ys.set n b)
  | [], [], _, _, _, _, _ => trivial
  | x :: xs, y :: ys, h, a, b, hab, n => by
    cases n with
    | zero => exact ⟨hab, h.2⟩
    | succ n => exact ⟨h.1, WkVs.set h.2 hab n⟩

theorem WkVs.splice : ∀ {ds ds' : List V} (_ : WkVs ds ds') {cs cs' : List V} (_ : WkVs cs cs') (o : Nat), WkVs (spliceV cs o ds) (spliceV cs' o ds')
  | [], [], _, _, _, h, _ => h
  | x :: ds, y :: ds', hd, cs, cs', h, o => WkVs.splice hd.2 (h.set hd.1 o) (o + 1)

theorem WkV.trans {x y z : V} (h : WkV x y) (k : WkV y z) : WkV x z := fun w F v hh => k w F v (h w F v hh)

theorem WkVs.trans : ∀ {xs ys zs : List V} (_ : WkVs xs ys) (_ : WkVs ys zs), WkVs xs zs
  | [], [], [], _, _ => trivial
  | _ :: _, _ :: _, _ :: _, h, k => ⟨h.1.trans k.1, WkVs.trans h.2 k.2⟩

def V.un : V → V
  | .tl t xs => .sl (xs.map t.enc)
  | d => d

theorem un_cells (d : V) : WkVs d.un.cells d.cells ∧ d.un.cells.length = d.cells.length ∧ d.un.cells.all V.one = d.cells.all V.one := by
  cases d with
  | tl t xs => exact ⟨⟨fun w F v h => .tl t xs v h, trivial⟩, rfl, rfl⟩
  | _ => exact ⟨.refl _, rfl, rfl⟩

theorem un_p (d : V) : (T.p d).un = .p d.un := by cases d <;> rfl

theorem storeT_sim (hi : Inv Γ G w0 F0 O0 a w e) {t : TypeId} {id : Nat} {ty : Ty} {xs : List ty.El} {i off : Nat} {d : V} {ap xv : Operand} (hp : evx G e ap = .oet id ty xs i off) (hx : evx G e xv = .p d)
    (h : evStoreT P e t id ty xs i off d = some e') : ∃ w', (Instr.storeAt t (a.eval ap) (a.eval xv)).run P w = .ok () w' ∧ Inv Γ G w0 F0 O0 a w' e' := by
  unfold evStoreT at h
  split at h
  · rename_i hcond
    obtain ⟨hs, hfit, hone, hag⟩ := hcond
    split at h
    · rename_i x hxi
      split at h
      · rename_i y hy
        simp only [Option.some.injEq] at h
        subst h
        have hq : (xs.map ty.enc)[i]? = some (ty.enc x) := by simp [hxi]
        have hne : ((ty.enc x).noAgg = true → d.cells.length = 1 ∧ ty.size = 1) := by
          intro hh
          refine hag ?_
          cases ty <;> first | rfl | (simp [Ty.enc, V.noAgg] at hh)
        obtain ⟨u1, u2, u3⟩ := un_cells d
        rw [← u2] at hs hfit hne
        rw [← u3] at hone
        have hrc := reElem_cells (q := ty.enc x) (d := d.un) (off := off) (k := ty.size) (enc_len ty x) hone hfit hne
        have hev : evStoreO P (e.mapT T.un) t id ty.size (xs.map ty.enc) i off d.un = some ((e.mapT T.un).mapT (updT id ty.size i (reElem (ty.enc x) (spliceV (ty.enc x).cells off d.un.cells)))) := by
          simp only [evStoreO, hq]
          rw [if_pos]
          exact ⟨hs, hfit, hone, enc_len ty x, by rw [hrc, spliceV_len, enc_len], hne⟩
        obtain ⟨w', h1, h2⟩ := storeO_sim (P := P) hi.un (ap := ap) (xv := xv) (by rw [evx_un, hp]; rfl) (by rw [evx_un, hx, un_p]) hev
        refine ⟨w', h1, ?_⟩
        have hcy : WkVs (reElem (ty.enc x) (spliceV (ty.enc x).cells off d.un.cells)).cells (ty.enc y).cells := by
          rw [hrc, enc_cells, enc_cells]
          unfold newEl at hy
          split at hy
          · rename_i y' hy'
            simp only [Option.some.injEq] at hy
            subst hy
            obtain ⟨c1, e1, e2⟩ := uncells_sound ty _ y' [] hy'
            simp only [List.append_nil] at e1
            exact (WkVs.splice u1 (.refl _) off).trans (by rw [e1]; exact e2)
          · cases hy
        have hset : ∀ (ys : List ty.El) (F : Nat → Prop) (b cap : Nat) (w : World), RowRel w F b ty.size cap ((ys.map ty.enc).set i (reElem (ty.enc x) (spliceV (ty.enc x).cells off d.un.cells))) → RowRel w F b ty.size cap ((ys.set i y).map ty.enc) := by
          intro ys F b cap w hr
          refine hr.weak (by simp) ?_ ?_
          · intro q hq
            simp only [List.mem_map] at hq
            obtain ⟨z, _, rfl⟩ := hq
            exact enc_len ty z
          · intro m p q hp hq
            rw [List.map_set] at hq
            by_cases hm : i = m
            · subst hm
              have hlt : i < ys.length := by have := (List.getElem?_eq_some_iff.1 hq).1; simpa using this
              rw [List.getElem?_set_self (by simpa using hlt)] at hp hq
              simp only [Option.some.injEq] at hp hq
              subst hp hq
              exact hcy
            · rw [List.getElem?_set_ne hm] at hp hq
              rw [hp] at hq
              simp only [Option.some.injEq] at hq
              subst hq
              exact .refl _
        have hT : ∀ z : T, WkT (updT id ty.size i (reElem (ty.enc x) (spliceV (ty.enc x).cells off d.un.cells)) z.un) (updTT id ty i y z) := by
          intro z
          cases z with
          | p q =>
            cases q with
            | tl t xs => exact WkT.ofUn (.p (.tl t xs))
            | _ => exact .refl _
          | ow i0 k0 es0 =>
            simp only [T.un, updT, updTT]
            split
            · exact .dead _
            · exact .refl _
          | oe i0 k0 es0 j0 off0 =>
            simp only [T.un, updT, updTT]
            split
            · exact .dead _
            · exact .refl _
          | ot i0 t0 ys =>
            simp only [updTT]
            split
            · rename_i hid
              split
              · rename_i htt
                subst htt
                cases ys with
                | nil => exact fun w F β al v hh => .inl ⟨rfl, hh⟩
                | cons z zs =>
                  intro w F β al v hh
                  simp only [T.un, List.map_cons, updT, hid, if_true] at hh
                  obtain ⟨ha, cap, hv, hr⟩ := hh
                  have hr' := hset (z :: zs) F _ cap w hr
                  refine .inr ⟨by simp, by rw [hid]; exact ha, cap, by rw [hid]; simpa using hv, by rw [hid]; exact hr'⟩
              · exact .dead _
            · rename_i hid
              cases ys with
              | nil => exact WkT.ofUn (.ot i0 t0 [])
              | cons z zs =>
                simp only [T.un, List.map_cons, updT, if_neg hid]
                exact WkT.ofUn (.ot i0 t0 (z :: zs))
          | oet i0 t0 ys j0 off0 =>
            simp only [updTT]
            split
            · rename_i hid
              split
              · rename_i htt
                subst htt
                intro w F β al v hh
                simp only [T.un, updT, hid, if_true] at hh
                obtain ⟨ha, hj, cap, hv, hr⟩ := hh
                refine ⟨by rw [hid]; exact ha, by simpa using hj, cap, by rw [hid]; exact hv, by rw [hid]; exact hset ys F _ cap w hr⟩
              · exact .dead _
            · rename_i hid
              simp only [T.un, updT, if_neg hid]
              exact WkT.ofUn (.oet i0 t0 ys j0 off0)
          | _ => exact .refl _
        refine h2.weak (by simp [Env.mapT]) rfl (fun t => by rw [get_mapT rfl, get_mapT rfl, get_mapT rfl]; exact hT _) ?_
        intro s
        rw [var_mapT, var_mapT, var_mapT]
        cases e.var s with
        | none => trivial
        | some cs =>
          simp only [Option.map_some, List.map_map]
          exact WkTs.map (fun z => hT z) cs
      · cases h
    · cases h
  · cases h

def updM (id : Nat) (es' : List MapEntry) (ck' : Nat) : T → T
  | .mp i es ck => if i = id then .mp i es' ck' else .mp i es ck
  | x => x

/-- An update of a map of the frame's own. -/
def evUpd (P : Look) (e : Env Γ.St) (t : TypeId) (id : Nat) (es : List MapEntry) (ck : Nat) (k v : Value) : Option (Env Γ.St) :=
  match pureIn P.P (updIn t es ck k v) with
  | some (es', ck') => some (e.mapT (updM id es' ck'))
  | none => none

theorem run_mapUpdate {t : TypeId} {b : Nat} {es es' : List MapEntry} {ck ck' : Nat} {k v : Value} (hm : w.heap[b]? = some (.map es.toArray ck))
    (h : pureIn P (updIn t es ck k v) = some (es', ck')) : (Instr.mapUpdate t (.map (some b)) k v).run P w = .ok () (setBlk w b (.map es'.toArray ck')) := by
  have hlt := lt_of_block hm
  have hg : (getObj b).run P w = .ok (.map es.toArray ck) w := by simp [getObj, Sem.run, hm]
  have hset : ∀ ob, (setObj b ob).run P w = .ok () (setBlk w b ob) := by intro ob; simp [setObj, Sem.run, hm, setBlk]
  obtain ⟨d, h1, h⟩ := pureIn_bind h
  have h1 := pureIn_run h1 w
  split at h
  · rename_i keyType elem
    obtain ⟨u, h2, h⟩ := pureIn_bind h
    obtain ⟨r, h3, h⟩ := pureIn_bind h
    have h2 := pureIn_run h2 w
    have h3 := pureIn_run h3 w
    split at h
    · rename_i i v0
      obtain ⟨key, h4, h⟩ := pureIn_bind h
      have h4 := pureIn_run h4 w
      simp only [pureIn, pure, Option.some.injEq, Prod.mk.injEq] at h
      obtain ⟨rfl, rfl⟩ := h
      simp only [Instr.mapUpdate, Sem.run_bind, h1, Result.andThen_ok, hg, h2, h3]
      simp only [List.getElem?_toArray, h4, Result.andThen_ok, hset]
      congr 2
      simp
    · simp only [pureIn, pure, Option.some.injEq, Prod.mk.injEq] at h
      obtain ⟨rfl, rfl⟩ := h
      simp only [Instr.mapUpdate, Sem.run_bind, h1, Result.andThen_ok, hg, h2, h3, hset]
      congr 2
      simp
  · cases h

theorem upd_sim (hi : Inv Γ G w0 F0 O0 a w e) {t : TypeId} {id : Nat} {es : List MapEntry} {ck : Nat} {m kx vx : Operand} {k v : Value} (hm : evx G e m = .mp id es ck)
    (hk : flatT (evx G e kx) = some k) (hx : flatT (evx G e vx) = some v)
    (h : evUpd P e t id es ck k v = some e') : ∃ w', (Instr.mapUpdate t (a.eval m) (a.eval kx) (a.eval vx)).run P w = .ok () w' ∧ Inv Γ G w0 F0 O0 a w' e' := by
  obtain ⟨F, O, β, hc, hG, hsz, hdf, ht, hv⟩ := hi
  have hmt := evx_sim hG ht m
  rw [hm] at hmt
  have hkt := flatT_eq (evx_sim hG ht kx) hk
  have hxt := flatT_eq (evx_sim hG ht vx) hx
  obtain ⟨ha, hmv, hblk⟩ := hmt
  unfold evUpd at h
  split at h
  · rename_i es' ck' hp
    simp only [Option.some.injEq] at h
    subst h
    refine ⟨_, by rw [hmv, hkt, hxt]; exact run_mapUpdate hblk hp, ?_⟩
    obtain ⟨p1, p2, p3, p4⟩ := hc.place (.o id) ha
    have hFne : ∀ b', F b' → b' ≠ β.ob id := fun b' hb hh => p3 (by rw [hh] at hb; exact hb)
    have hvne : ∀ s, alive e (.v s) → β.vb s ≠ β.ob id := fun s hs hh => by
      have := hc.dist (.v s) (.o id) hs ha hh
      cases this
    have hone' : ∀ id', id' ≠ id → alive e (.o id') → β.ob id' ≠ β.ob id := fun id' hne hs hh => by
      have := hc.dist (.o id') (.o id) hs ha hh
      simp at this; exact hne this
    have hf : ∀ v x, TRel w F β (alive e) v x → TRel (setBlk w (β.ob id) (.map es'.toArray ck')) F β (alive e) v (updM id es' ck' x) := by
      intro v x hx
      cases x with
      | p y => exact Rd.setBlk hFne hx
      | ow id' k' es0 =>
        obtain ⟨ha', cap', hv', hr'⟩ := hx
        by_cases hid : id' = id
        · subst hid; obtain ⟨c, et, q1, _⟩ := hr'; rw [hblk] at q1; cases q1
        · exact ⟨ha', cap', hv', hr'.setBlk hFne (hone' id' hid ha')⟩
      | oe id' k' es0 j off' =>
        obtain ⟨ha', hj', cap', hv', hr'⟩ := hx
        by_cases hid : id' = id
        · subst hid; obtain ⟨c, et, q1, _⟩ := hr'; rw [hblk] at q1; cases q1
        · exact ⟨ha', hj', cap', hv', hr'.setBlk hFne (hone' id' hid ha')⟩
      | lp s off' => exact hx
      | mp id' es0 ck0 =>
        obtain ⟨ha', hv', hr'⟩ := hx
        simp only [updM]
        split
        · rename_i hid
          subst hid
          exact ⟨ha', hv', setBlk_eq p2⟩
        · rename_i hid
          exact ⟨ha', hv', (setBlk_ne (hone' id' hid ha')).trans hr'⟩
      | ot id' t' xs' =>
        rcases hx with hx | ⟨hne, ha', cap', hv', hr'⟩
        · exact .inl hx
        · by_cases hid : id' = id
          · subst hid; obtain ⟨c, et, q1, _⟩ := hr'; rw [hblk] at q1; cases q1
          · exact .inr ⟨hne, ha', cap', hv', hr'.setBlk hFne (hone' id' hid ha')⟩
      | oet id' t' xs' j off' =>
        obtain ⟨ha', hj', cap', hv', hr'⟩ := hx
        by_cases hid : id' = id
        · subst hid; obtain ⟨c, et, q1, _⟩ := hr'; rw [hblk] at q1; cases q1
        · exact ⟨ha', hj', cap', hv', hr'.setBlk hFne (hone' id' hid ha')⟩
      | emp => exact hx
      | dead => trivial
    refine Inv.of (al := alive e) (hc.setBlk ha _) (fun g cs hg => (hG g cs hg).setBlk hFne) (by simpa [Env.mapT] using hsz) hdf (fun t => by rw [get_mapT rfl]; exact hf _ _ (ht t)) ?_ ?_
    · intro s cs hcs
      rw [var_mapT] at hcs
      simp only [Option.map_eq_some_iff] at hcs
      obtain ⟨cs0, hcs0, rfl⟩ := hcs
      have ha' : alive e (.v s) := ⟨cs0, hcs0⟩
      exact ⟨ha', (hv s cs0 hcs0).mapT (setBlk_ne (hvne s ha')) hf⟩
    · rintro s ⟨cs, hcs⟩
      exact ⟨_, by rw [var_mapT, hcs]; rfl⟩
  · cases h

/-- A slice of the frame's own stays as it is from now on. -/
def frzOT (id : Nat) : T → T
  | .ow i k es => if i = id then .p (.sl es) else .ow i k es
  | .oe i k es j off => if i = id then (match es[j]? with | some q => .p (.pp (q.cells.drop off)) | none => .dead) else .oe i k es j off
  | .mp i es ck => if i = id then .dead else .mp i es ck
  | .ot i t xs => if i = id then .p (.tl t xs) else .ot i t xs
  | .oet i t xs j off => if i = id then .dead else .oet i t xs j off
  | x => x

theorem Inv.frzO (hi : Inv Γ G w0 F0 O0 a w e) (id : Nat) : Inv Γ G w0 F0 O0 a w (e.mapT (frzOT id)) := by
  obtain ⟨F, O, β, hc, hG, hsz, hdf, ht, hv⟩ := hi
  by_cases ha : alive e (.o id)
  · obtain ⟨p1, p2, p3, p4⟩ := hc.place (.o id) ha
    let F' : Nat → Prop := fun b => F b ∨ b = β.ob id
    let al' : Site → Prop := fun x => alive e x ∧ x ≠ .o id
    have hcore : Core Γ w0 F0 O0 w F' O β al' e.st := by
      refine ⟨hc.keep, hc.sig, hc.oin, ?_, fun b hb => .inl (hc.f0 b hb), ?_, fun x y hx hy => hc.dist x y hx.1 hy.1⟩
      · rintro b (hb | rfl)
        · exact hc.fin b hb
        · exact ⟨.inr p1, p2, p4⟩
      · intro x hx
        obtain ⟨q1, q2, q3, q4⟩ := hc.place x hx.1
        refine ⟨q1, q2, fun hh => hh.elim q3 (fun hh => hx.2 (hc.dist x (.o id) hx.1 ha hh)), q4⟩
    have hext : Ext w F β al' w F' β al' := ⟨fun _ h => .inl h, fun _ _ => rfl, fun _ h => h, fun _ _ => rfl, fun _ _ => rfl⟩
    have hf : ∀ v x, TRel w F β (alive e) v x → TRel w F' β al' v (frzOT id x) := by
      intro v x hx
      cases x with
      | p y => exact Rd.ext hext hx
      | ow i k es =>
        simp only [frzOT]
        obtain ⟨ha', cap, hv', hr⟩ := hx
        split
        · rename_i hid
          subst hid
          rw [hv']
          exact Row_rd hr (fun b hb => .inl hb) (.inr rfl)
        · rename_i hid
          exact TRel.ext hext (show TRel w F β al' v (.ow i k es) from ⟨⟨ha', by simpa using hid⟩, cap, hv', hr⟩)
      | oe i k es j off =>
        simp only [frzOT]
        obtain ⟨ha', hj, cap, hv', hr⟩ := hx
        split
        · rename_i hid
          subst hid
          split
          · rename_i q hq
            obtain ⟨c, et, g1, g2, g3, g4, g5⟩ := hr
            have hqk := g4 q (List.mem_of_getElem? hq)
            have hjk : (j + 1) * k ≤ cap * k := Nat.mul_le_mul_right k (by omega)
            rw [Nat.succ_mul] at hjk
            rw [hv']
            refine Rd.pp (β.ob i) (j * k + off) _ (fun m => (c[j * k + (off + m)]?).getD undef) (.inr rfl) ?_ ?_
            · intro m hm
              simp only [List.length_drop, hqk] at hm
              have hlt : j * k + (off + m) < c.size := by omega
              have he : j * k + off + m = j * k + (off + m) := by omega
              simp [World.cell?, g1, he, hlt]
            · intro m d hd
              rw [List.getElem?_drop] at hd
              have hlt2 := (List.getElem?_eq_some_iff.1 hd).1
              have hlt : j * k + (off + m) < c.size := by omega
              exact Rd.ext hext (g5 j (off + m) q d _ hq hd (by simp [hlt]))
          · trivial
        · rename_i hid
          exact TRel.ext hext (show TRel w F β al' v (.oe i k es j off) from ⟨⟨ha', by simpa using hid⟩, hj, cap, hv', hr⟩)
      | lp s off => exact ⟨⟨hx.1, by simp⟩, hx.2⟩
      | mp i es' ck =>
        simp only [frzOT]
        split
        · trivial
        · rename_i hid
          exact TRel.ext hext (show TRel w F β al' v (.mp i es' ck) from ⟨⟨hx.1, by simpa using hid⟩, hx.2⟩)
      | ot i t xs =>
        simp only [frzOT]
        split
        · rename_i hid
          subst hid
          refine .tl t xs v ?_
          rcases hx with ⟨h0, a0, rfl⟩ | ⟨hne, ha', cap, rfl, hr⟩
          · rw [h0]; exact .slemp a0 0
          · exact Row_rd (hr.mono hext.f hext.hf rfl) (fun _ h => h) (.inr rfl)
        · rename_i hid
          rcases hx with hx | ⟨hne, ha', cap, hv', hr⟩
          · exact .inl hx
          · exact TRel.ext hext (show TRel w F β al' v (.ot i t xs) from .inr ⟨hne, ⟨ha', by simpa using hid⟩, cap, hv', hr⟩)
      | oet i t xs j off =>
        simp only [frzOT]
        split
        · trivial
        · rename_i hid
          obtain ⟨ha', hj, cap, hv', hr⟩ := hx
          exact TRel.ext hext (show TRel w F β al' v (.oet i t xs j off) from ⟨⟨ha', by simpa using hid⟩, hj, cap, hv', hr⟩)
      | emp => exact hx
      | dead => trivial
    refine Inv.of (al := al') hcore (hG.ext hext) (by simpa [Env.mapT] using hsz) hdf (fun t => by rw [get_mapT rfl]; exact hf _ _ (ht t)) ?_ ?_
    · intro s cs hcs
      rw [var_mapT] at hcs
      simp only [Option.map_eq_some_iff] at hcs
      obtain ⟨cs0, hcs0, rfl⟩ := hcs
      exact ⟨⟨⟨cs0, hcs0⟩, by simp⟩, (hv s cs0 hcs0).mapT rfl hf⟩
    · rintro s ⟨⟨cs, hcs⟩, _⟩
      exact ⟨_, by rw [var_mapT, hcs]; rfl⟩
  · have hf : ∀ v x, TRel w F β (alive e) v x → TRel w F β (alive e) v (frzOT id x) := by
      intro v x hx
      cases x with
      | ow i k es =>
        simp only [frzOT]
        split
        · rename_i hid; subst hid; exact absurd hx.1 ha
        · exact hx
      | oe i k es j off =>
        simp only [frzOT]
        split
        · rename_i hid; subst hid; exact absurd hx.1 ha
        · exact hx
      | mp i es ck =>
        simp only [frzOT]
        split
        · trivial
        · exact hx
      | ot i t xs =>
        simp only [frzOT]
        split
        · rename_i hid
          subst hid
          rcases hx with ⟨h0, a0, rfl⟩ | ⟨hne, ha', _⟩
          · exact .tl t xs _ (by rw [h0]; exact .slemp a0 0)
          · exact absurd ha' ha
        · exact hx
      | oet i t xs j off =>
        simp only [frzOT]
        split
        · trivial
        · exact hx
      | _ => exact hx
    refine Inv.of (al := alive e) hc hG (by simpa [Env.mapT] using hsz) hdf (fun t => by rw [get_mapT rfl]; exact hf _ _ (ht t)) ?_ ?_
    · intro s cs hcs
      rw [var_mapT] at hcs
      simp only [Option.map_eq_some_iff] at hcs
      obtain ⟨cs0, hcs0, rfl⟩ := hcs
      exact ⟨⟨cs0, hcs0⟩, (hv s cs0 hcs0).mapT rfl hf⟩
    · rintro s ⟨cs, hcs⟩
      exact ⟨_, by rw [var_mapT, hcs]; rfl⟩

/-- A variable of the frame's own stays as it is from now on. -/
def frzVT (s : Nat) (ds : List V) : T → T
  | .lp s' off => if s' = s then .p (.pp (ds.drop off)) else .lp s' off
  | x => x

def Env.frzV (s : Nat) (ds : List V) (e : Env Γ.St) : Env Γ.St := ({ e with vars := e.vars.set s none } : Env Γ.St).mapT (frzVT s ds)

theorem drop_pure {cs : List T} {ds : List V} (h : pureCells cs = some ds) (off : Nat) : pureCells (cs.drop off) = some (ds.drop off) := by
  have := pureCells_get h
  subst this
  have hall : ∀ ds : List V, pureCells (ds.map .p) = some ds := by
    intro ds
    induction ds with
    | nil => rfl
    | cons d ds ih => simp [pureCells, ih]
  rw [← List.map_drop]; exact hall _

theorem Inv.frzV (hi : Inv Γ G w0 F0 O0 a w e) {s : Nat} {cs : List T} {ds : List V} (hs : e.var s = some cs) (hp : pureCells cs = some ds) : Inv Γ G w0 F0 O0 a w (e.frzV s ds) := by
  obtain ⟨F, O, β, hc, hG, hsz, hdf, ht, hv⟩ := hi
  have ha : alive e (.v s) := ⟨cs, hs⟩
  obtain ⟨p1, p2, p3, p4⟩ := hc.place (.v s) ha
  let F' : Nat → Prop := fun b => F b ∨ b = β.vb s
  let al' : Site → Prop := fun x => alive e x ∧ x ≠ .v s
  have hcore : Core Γ w0 F0 O0 w F' O β al' e.st := by
    refine ⟨hc.keep, hc.sig, hc.oin, ?_, fun b hb => .inl (hc.f0 b hb), ?_, fun x y hx hy => hc.dist x y hx.1 hy.1⟩
    · rintro b (hb | rfl)
      · exact hc.fin b hb
      · exact ⟨.inr p1, p2, p4⟩
    · intro x hx
      obtain ⟨q1, q2, q3, q4⟩ := hc.place x hx.1
      refine ⟨q1, q2, fun hh => hh.elim q3 (fun hh => hx.2 (hc.dist x (.v s) hx.1 ha hh)), q4⟩
  have hext : Ext w F β al' w F' β al' := ⟨fun _ h => .inl h, fun _ _ => rfl, fun _ h => h, fun _ _ => rfl, fun _ _ => rfl⟩
  have hf : ∀ v x, TRel w F β (alive e) v x → TRel w F' β al' v (frzVT s ds x) := by
    intro v x hx
    cases x with
    | p y => exact Rd.ext hext hx
    | ow i k es => exact TRel.ext hext (show TRel w F β al' v (.ow i k es) from ⟨⟨hx.1, by simp⟩, hx.2⟩)
    | oe i k es j off => exact TRel.ext hext (show TRel w F β al' v (.oe i k es j off) from ⟨⟨hx.1, by simp⟩, hx.2⟩)
    | lp s' off =>
      simp only [frzVT]
      obtain ⟨ha', hv'⟩ := hx
      split
      · rename_i hss
        subst hss
        rw [hv']
        exact Var_rd (hv s' cs hs) (fun b hb => .inl hb) (.inr rfl) (drop_pure hp off)
      · rename_i hss
        exact ⟨⟨ha', by simpa using hss⟩, hv'⟩
    | mp i es ck => exact TRel.ext hext (show TRel w F β al' v (.mp i es ck) from ⟨⟨hx.1, by simp⟩, hx.2⟩)
    | ot i t xs =>
      rcases hx with hx | ⟨hne, ha', h2⟩
      · exact .inl hx
      · exact TRel.ext hext (show TRel w F β al' v (.ot i t xs) from .inr ⟨hne, ⟨ha', by simp⟩, h2⟩)
    | oet i t xs j off => exact TRel.ext hext (show TRel w F β al' v (.oet i t xs j off) from ⟨⟨hx.1, by simp⟩, hx.2⟩)
    | emp => exact hx
    | dead => trivial
  have hvar : ∀ s', (e.frzV s ds).var s' = if s' = s then none else (e.var s').map (List.map (frzVT s ds)) := by
    intro s'
    simp only [Env.frzV, var_mapT]
    simp only [Env.var]
    by_cases hh : s' = s
    · subst hh
      rw [if_pos rfl]
      by_cases hl : s' < e.vars.length
      · simp [hl]
      · rw [List.getElem?_eq_none (by simp; omega)]; rfl
    · rw [if_neg hh, List.getElem?_set_ne (Ne.symm hh)]
  have hget : ∀ t, (e.frzV s ds).get t = frzVT s ds (e.get t) := fun t => get_mapT (f := frzVT s ds) rfl _ t
  refine Inv.of (al := al') hcore (hG.ext hext) (by simpa [Env.frzV, Env.mapT] using hsz) hdf (fun t => by rw [hget]; exact hf _ _ (ht t)) ?_ ?_
  · intro s' cs' hcs'
    rw [hvar] at hcs'
    split at hcs'
    · cases hcs'
    · rename_i hne
      simp only [Option.map_eq_some_iff] at hcs'
      obtain ⟨cs0, hcs0, rfl⟩ := hcs'
      exact ⟨⟨⟨cs0, hcs0⟩, by simpa using hne⟩, (hv s' cs0 hcs0).mapT rfl hf⟩
  · rintro s' ⟨⟨cs', hcs'⟩, hne⟩
    have hne' : s' ≠ s := by simpa using hne
    exact ⟨_, by rw [hvar, if_neg hne', hcs']; rfl⟩

/-- What a value needs to be pure. -/
def frzCells (e : Env Γ.St) : List T → Env Γ.St
  | [] => e
  | .ow id _ _ :: r => frzCells (e.mapT (frzOT id)) r
  | .ot id _ _ :: r => frzCells (e.mapT (frzOT id)) r
  | _ :: r => frzCells e r

def frzT1 (x : T) (e : Env Γ.St) : Env Γ.St :=
  match x with
  | .ow id _ _ => e.mapT (frzOT id)
  | .oe id _ _ _ _ => e.mapT (frzOT id)
  | .ot id _ _ => e.mapT (frzOT id)
  | .lp s _ => match e.var s with
    | some cs => match (frzCells e cs).var s with
      | some cs' => match pureCells cs' with
        | some ds => (frzCells e cs).frzV s ds
        | none => frzCells e cs
      | none => frzCells e cs
    | none => e
  | _ => e

theorem Inv.frzCells : ∀ (cs : List T) (e : Env Γ.St), Inv Γ G w0 F0 O0 a w e → Inv Γ G w0 F0 O0 a w (Ve.frzCells e cs) := by
  intro cs
  induction cs with
  | nil => intro e h; exact h
  | cons c cs ih =>
    intro e h
    cases c with
    | ow id k es => exact ih _ (h.frzO id)
    | ot id t xs => exact ih _ (h.frzO id)
    | _ => exact ih _ h

theorem Inv.frzT1 (h : Inv Γ G w0 F0 O0 a w e) (x : T) : Inv Γ G w0 F0 O0 a w (Ve.frzT1 x e) := by
  unfold Ve.frzT1
  split
  · exact h.frzO _
  · exact h.frzO _
  · exact h.frzO _
  · split
    · rename_i cs hcs
      have h1 := Inv.frzCells cs e h
      split
      · rename_i cs' hcs'
        split
        · rename_i ds hds; exact h1.frzV hcs' hds
        · exact h1
      · exact h1
    · exact h
  · exact h

def frzOps (G : Nat → Option (List V)) : List Operand → Env Γ.St → Env Γ.St
  | [], e => e
  | x :: r, e => frzOps G r (frzT1 (evx G e x) e)

theorem Inv.frzOps : ∀ (xs : List Operand) (e : Env Γ.St), Inv Γ G w0 F0 O0 a w e → Inv Γ G w0 F0 O0 a w (Ve.frzOps G xs e) := by
  intro xs
  induction xs with
  | nil => intro e h; exact h
  | cons x xs ih => intro e h; exact ih _ (h.frzT1 _)

end

section
variable {Γ : Sig} (P : Look) (G : Nat → Option (List V)) (S : Specs Γ)

def evW (e : Env Γ.St) (o : Oper) : Option (Env Γ.St) :=
  match o.op with
  | .store t ap x => match o.dst with
    | some _ => none
    | none => match evx G e ap with
      | .lp s off => evStoreV e P t s off (evx G e x)
      | .oe id k es i off => match evx G e x with
        | .p d => evStoreO P e t id k es i off d
        | _ => none
      | .oet id ty xs i off => match evx G e x with
        | .p d => evStoreT P e t id ty xs i off d
        | _ => none
      | _ => none
  | .call c => match evAppendT P G e o.dst c with
    | some e1 => some e1
    | none => evAppend P G e o.dst c
  | .mapUpdate t m k v => match o.dst with
    | some _ => none
    | none => match evx G e m, flatT (evx G e k), flatT (evx G e v) with
      | .mp id es ck, some k, some v => evUpd P e t id es ck k v
      | _, _, _ => none
  | _ => none

def evQA (e : Env Γ.St) (o : Oper) : Option (Env Γ.St) :=
  match evQ P G S e o with
  | some r => applyR e o.dst r
  | none => none

/-- What is frozen where an operation does not go otherwise: of a store what is stored, else every operand. -/
def frzSel (o : Oper) : List Operand :=
  match o.op with
  | .store _ _ x => [x]
  | .mapUpdate _ _ _ v => [v]
  | _ => o.op.operands.toList

/-- One operation, whatever it is. -/
def evAny (e : Env Γ.St) (o : Oper) : Option (Env Γ.St) :=
  match evQA P G S e o with
  | some e1 => some e1
  | none => match evW P G e o with
    | some e1 => some e1
    | none => match evQA P G S (frzOps G (frzSel o) e) o with
      | some e1 => some e1
      | none => evW P G (frzOps G (frzSel o) e) o

end

section
variable {Γ : Sig} {P : Program} {G : Nat → Option (List V)} {S : Specs Γ} {o : Oper} {a : Act} {w0 : World} {F0 O0 : Nat → Prop} {w : World} {e e' : Env Γ.St}

theorem evW_sim (hi : Inv Γ G w0 F0 O0 a w e) (h : evW P G e o = some e') {Q : Exit → Act → World → Prop} : o.wp P a w (fun a' w' => Inv Γ G w0 F0 O0 a' w' e') Q := by
  obtain ⟨dst, op, type, pos, after, guard⟩ := o
  unfold evW at h
  split at h
  · rename_i t ap x hop
    simp only at hop
    subst hop
    split at h
    · cases h
    · rename_i hd
      simp only at hd
      subst hd
      have hfin : ∀ w', (Instr.storeAt t (a.eval ap) (a.eval x)).run P w = .ok () w' → Inv Γ G w0 F0 O0 a w' e' → (⟨none, .store t ap x, type, pos, after, guard⟩ : Oper).wp P a w (fun a' w' => Inv Γ G w0 F0 O0 a' w' e') Q := by
        intro w' hr hinv
        unfold Oper.wp
        have : (execOp a.eval ⟨none, .store t ap x, type, pos, after, guard⟩).run P w = .ok .skip w' := by simp [execOp, hr]
        rw [this]
        exact hinv
      split at h
      · rename_i s off hp
        obtain ⟨w', h1, h2⟩ := storeV_sim (P := P) hi hp rfl h
        exact hfin w' h1 h2
      · rename_i id k es i off hp
        split at h
        · rename_i d hx
          obtain ⟨w', h1, h2⟩ := storeO_sim (P := P) hi hp hx h
          exact hfin w' h1 h2
        · cases h
      · rename_i id ty xs i off hp
        split at h
        · rename_i d hx
          obtain ⟨w', h1, h2⟩ := storeT_sim (P := P) hi hp hx h
          exact hfin w' h1 h2
        · cases h
      · cases h
  · rename_i c hop
    simp only at hop
    subst hop
    split at h
    · rename_i e1 h1
      simp only [Option.some.injEq] at h
      subst h
      exact appendT_sim hi h1
    · exact append_sim hi h
  · rename_i t m k v hop
    simp only at hop
    subst hop
    split at h
    · cases h
    · rename_i hd
      simp only at hd
      subst hd
      split at h
      · rename_i id es ck kv vv hm hk hv
        obtain ⟨w', h1, h2⟩ := upd_sim (P := P) hi hm hk hv h
        unfold Oper.wp
        have : (execOp a.eval ⟨none, .mapUpdate t m k v, type, pos, after, guard⟩).run P w = .ok .skip w' := by simp [execOp, h1]
        rw [this]
        exact h2
      · cases h
  · cases h

theorem evQA_sim (hS : Table Γ P G S) (hi : Inv Γ G w0 F0 O0 a w e) (h : evQA P G S e o = some e') {Q : Exit → Act → World → Prop} : o.wp P a w (fun a' w' => Inv Γ G w0 F0 O0 a' w' e') Q := by
  unfold evQA at h
  split at h
  · rename_i r hr; exact seq_Q hS hi hr h
  · cases h

theorem evAny_sim (hS : Table Γ P G S) (hi : Inv Γ G w0 F0 O0 a w e) (h : evAny P G S e o = some e') {Q : Exit → Act → World → Prop} : o.wp P a w (fun a' w' => Inv Γ G w0 F0 O0 a' w' e') Q := by
  unfold evAny at h
  split at h
  · rename_i e1 h1; simp only [Option.some.injEq] at h; subst h; exact evQA_sim hS hi h1
  · split at h
    · rename_i e1 h1; simp only [Option.some.injEq] at h; subst h; exact evW_sim hi h1
    · split at h
      · rename_i e1 h1; simp only [Option.some.injEq] at h; subst h; exact evQA_sim hS (Inv.frzOps _ _ hi) h1
      · exact evW_sim (Inv.frzOps _ _ hi) h
end
end Go.Ve
