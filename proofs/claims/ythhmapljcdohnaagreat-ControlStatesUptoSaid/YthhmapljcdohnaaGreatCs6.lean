/-
  The evaluator over pure values, part 20: stores into a slice of the frame's own; what stays from now on; one operation, whatever it is.
  The evaluator over pure values, part 21: regions: in the order of the text; in an order that is drawn, with a tail that comes last in every order.
  The evaluator over pure values, part 14: statements and functions.
-/
import Derived.Test.YthhmapljcdohnaaGreatCs5
set_option linter.unusedVariables false
namespace Go.Ve
open Go

def spliceV (cs : List V) (o : Nat) : List V → List V
  | [] => cs
  | x :: r => spliceV (cs.set o x) (o + 1) r

theorem spliceV_len : ∀ (xs cs : List V) (o : Nat), (spliceV cs o xs).length = cs.length := by
  intro xs
  induction xs with
  | nil => intro cs o; rfl
  | cons x xs ih => grind [spliceV]

theorem spliceV_get : ∀ (xs cs : List V) (o i : Nat), o + xs.length ≤ cs.length → (spliceV cs o xs)[i]? = if o ≤ i ∧ i < o + xs.length then xs[i - o]? else cs[i]? := by
  intro xs
  induction xs with
  | nil => grind [spliceV]
  | cons x xs ih =>
    intro cs o i h
    simp at h
    simp only [spliceV]
    grind

def reElem (q : V) (cs : List V) : V :=
  match q with
  | .agg _ => .agg cs
  | _ => match cs with
    | [y] => y
    | _ => q

def updT (id k n : Nat) (q : V) : T → T
  | .ow i k' es => if i = id then (if k' = k then .ow i k (es.set n q) else .dead) else .ow i k' es
  | .oe i k' es j off => if i = id then (if k' = k then .oe i k (es.set n q) j off else .dead) else .oe i k' es j off
  | .ot i t xs => if i = id then .dead else .ot i t xs
  | .oet i t xs j off => if i = id then .dead else .oet i t xs j off
  | .ov i t xs j off => if i = id then .dead else .ov i t xs j off
  | .on n => if n.id = id ∨ n.id2 = id then .dead else .on n
  | x => x


section
variable {Γ : Sig} {P : Program} {G : Nat → Option (List V)} {S : Specs Γ} {o : Oper} {a : Act} {w0 : World} {F0 : Blk → Prop} {O0 : Lent} {w : World} {F : Blk → Prop} {β : Lay} {al : Site → Prop} {e e' : Env Γ.St}

theorem VarRel.mapT {w' : World} {F' : Blk → Prop} {β' : Lay} {al' : Site → Prop} {f : T → T} {b : Nat} {cs : List T} (hb : w'.heap[b]? = w.heap[b]?)
    (hf : ∀ v x, TRel w F β al v x → TRel w' F' β' al' v (f x)) (h : VarRel w F β al b cs) : VarRel w' F' β' al' b (cs.map f) := by
  obtain ⟨c, et, h1, h2, h3⟩ := h
  refine ⟨c, et, hb.trans h1, by simpa using h2, ?_⟩
  grind

/-- A store into a slice of the frame's own. -/
def evStoreO (P : Look) (e : Env Γ.St) (t : TypeId) (id k : Nat) (es : List V) (i off : Nat) (d : V) : Option (Env Γ.St) :=
  match es[i]? with
  | some q =>
    if size? P t = some d.cells.length ∧ off + d.cells.length ≤ k ∧ d.cells.all V.one = true ∧ q.cells.length = k ∧ (reElem q (spliceV q.cells off d.cells)).cells.length = k ∧
        (q.noAgg = true → d.cells.length = 1 ∧ k = 1) then
      some (e.mapT (updT id k i (reElem q (spliceV q.cells off d.cells))))
    else none
  | none => none

theorem reElem_cells {q d : V} {off k : Nat} (hq : q.cells.length = k) (hone : d.cells.all V.one = true) (hfit : off + d.cells.length ≤ k)
    (hc : q.noAgg = true → d.cells.length = 1 ∧ k = 1) : (reElem q (spliceV q.cells off d.cells)).cells = spliceV q.cells off d.cells := by
  have hl := spliceV_len d.cells q.cells off
  have main : (∀ cs, q ≠ .agg cs) → d.cells.length = 1 ∧ k = 1 → (match spliceV q.cells off d.cells with | [y] => y | _ => q).cells = spliceV q.cells off d.cells := by
    intro hna ⟨h1, hk⟩
    subst hk
    obtain rfl : off = 0 := by omega
    match hd : d.cells, h1 with
    | [y], _ =>
      have hy : y.one = true := by grind
      match hqc : q.cells, hq with
      | [z], _ =>
        simp [spliceV]
        cases y <;> first | rfl | (simp [V.one] at hy)
  cases q with
  | agg cs => rfl
  | val v => exact main (fun cs h => by cases h) (hc rfl)
  | sl es => exact main (fun cs h => by cases h) (hc rfl)
  | tup vs => exact main (fun cs h => by cases h) (hc rfl)
  | clo f cs => exact main (fun cs h => by cases h) (hc rfl)
  | pp cs => exact main (fun cs h => by cases h) (hc rfl)
  | tl t xs => exact main (fun cs h => by cases h) (hc rfl)
  | rf o => exact main (fun cs h => by cases h) (hc rfl)
  | hd o => exact main (fun cs h => by cases h) (hc rfl)
  | pt t o => exact main (fun cs h => by cases h) (hc rfl)
  | hp cs => exact main (fun cs h => by cases h) (hc rfl)
  | bot => exact main (fun cs h => by cases h) (hc rfl)

/-- A row behind a store into one of its elements. -/
theorem row_store {b k i off cap : Nat} {es0 : List V} {c : Array Value} {et : TypeId} {q d : V} {vs : List Value} (hFne : ∀ b' : Nat, F b' → b' ≠ b) (g1 : w.heap[b]? = some (.cells c et (0, 0)))
    (p2 : b < w.heap.size) (g5 : ∀ (j : Nat) (d' : V) (x : Value), q.cells[j]? = some d' → c[i * k + j]? = some x → Rd w F x d') (hqk : q.cells.length = k) (hfit : off + d.cells.length ≤ k)
    (hre : (reElem q (spliceV q.cells off d.cells)).cells.length = k) (hrc : (reElem q (spliceV q.cells off d.cells)).cells = spliceV q.cells off d.cells) (h1 : vs.length = d.cells.length)
    (hsz : i * k + off + vs.length ≤ c.size)
    (h3 : ∀ (m : Nat) (x : Value) (y : V), vs[m]? = some x → d.cells[m]? = some y → Rd w F x y) (hr0 : RowRel w F b k cap es0) :
    RowRel (setBlk w b (.cells (spliceA c (i * k + off) vs) et (0, 0))) F b k cap (es0.set i (reElem q (spliceV q.cells off d.cells))) := by
  obtain ⟨c', et', q1, q2, q3, q4, q5⟩ := hr0
  rw [g1] at q1
  simp only [Option.some.injEq, Obj.cells.injEq] at q1
  obtain ⟨rfl, _, _⟩ := q1
  refine ⟨_, et, setBlk_eq p2, by rw [spliceA_size]; exact q2, by simpa using q3, ?_, ?_⟩
  · grind
  · intro i' j y d' x hi' hj hx
    have hj' := (List.getElem?_eq_some_iff.1 hj).1
    rw [spliceA_get _ _ _ _ hsz] at hx
    simp only [h1] at hx
    by_cases hii : i = i'
    · subst hii
      have hil0 : i < es0.length := by grind
      rw [List.getElem?_set_self hil0, Option.some.injEq] at hi'
      subst hi'
      rw [hrc] at hj hj'
      rw [spliceV_get _ _ _ _ (by omega)] at hj
      rw [spliceV_len] at hj'
      by_cases hin : off ≤ j ∧ j < off + d.cells.length
      · rw [if_pos hin] at hj
        rw [if_pos (by omega)] at hx
        grind [Rd.setBlk]
      · rw [if_neg hin] at hj
        rw [if_neg (by omega)] at hx
        grind [Rd.setBlk]
    · rw [List.getElem?_set_ne hii] at hi'
      have hyk := q4 y (List.mem_of_getElem? hi')
      have hout : ¬ (i * k + off ≤ i' * k + j ∧ i' * k + j < i * k + off + d.cells.length) := by
        intro hh
        rcases Nat.lt_or_ge i i' with h | h
        · have := Nat.mul_le_mul_right k (show i + 1 ≤ i' by omega)
          grind
        · have := Nat.mul_le_mul_right k (show i' + 1 ≤ i by omega)
          grind
      rw [if_neg hout] at hx
      grind [Rd.setBlk]

theorem storeO_sim (hi : Inv Γ G w0 F0 O0 a w e) {t : TypeId} {id k i off : Nat} {es : List V} {d : V} {ap xv : Operand} (hp : evx G e ap = .oe id k es i off) (hx : evx G e xv = .p d)
    (h : evStoreO P e t id k es i off d = some e') : ∃ w', (Instr.storeAt t (a.eval ap) (a.eval xv)).run P w = .ok () w' ∧ Inv Γ G w0 F0 O0 a w' e' := by
  obtain ⟨F, O, β, hc, hG, hsz, hdf, ht, hv⟩ := hi
  have hpt := evx_sim hG ht ap
  have hxt := evx_sim hG ht xv
  rw [hp] at hpt
  rw [hx] at hxt
  obtain ⟨ha, hil, cap, hpv, c, et, g1, g2, g3, g4, g5⟩ := hpt
  unfold evStoreO at h
  split at h
  · rename_i q hq
    split at h
    · rename_i hcond
      obtain ⟨hsize, hfit, hone, hqk, hre, hag⟩ := hcond
      cases h
      have hrc := reElem_cells hqk hone hfit hag
      obtain ⟨h1, h2, h3⟩ := cellsT_sim (xs := d.cells.map .p) hxt (by simp [T.cellsT, hone])
      simp at h1
      have hik : (i + 1) * k ≤ cap * k := Nat.mul_le_mul_right k (by omega)
      rw [Nat.succ_mul] at hik
      have hrun : (Instr.storeAt t (a.eval ap) (a.eval xv)).run P w = .ok () (setBlk w (β.ob id) (.cells (spliceA c (i * k + off) (a.eval xv).cells.toList) et (0, 0))) := by
        have hst := run_storeCells (P := P) (b := β.ob id) (off := i * k + off) (et := et) (a.eval xv).cells.toList 0 w c g1 (by simp [h1]; omega) (fun u hu => h2 u (by simpa using hu))
        have hw : (if (a.eval xv).cells.toList = [] then w else setBlk w (β.ob id) (.cells (spliceA c (i * k + off + 0) (a.eval xv).cells.toList) et (0, 0))) = setBlk w (β.ob id) (.cells (spliceA c (i * k + off) (a.eval xv).cells.toList) et (0, 0)) := by
          split
          · rename_i hnil; rw [hnil]; exact (setBlk_self g1).symm
          · simp
        rw [hw] at hst
        simp [Instr.storeAt, hpv, Instr.sureAddr, storeVar, run_sizeOf hsize, h1]
        exact hst
      refine ⟨_, hrun, ?_⟩
      obtain ⟨p1, p2, p3, p4⟩ := hc.place (.o id) ha
      have hFne : ∀ b' : Nat, F b' → b' ≠ β.ob id := fun b' hb hh => p3 (by rw [hh] at hb; exact hb)
      have hvne : ∀ s, alive e (.v s) → β.vb s ≠ β.ob id := fun s hs hh => by
        have := hc.dist (.v s) (.o id) hs ha hh
        cases this
      have hone' : ∀ id', id' ≠ id → alive e (.o id') → β.ob id' ≠ β.ob id := fun id' hne hs hh => by
        have := hc.dist (.o id') (.o id) hs ha hh
        grind
      have hrow : ∀ es0 cap', RowRel w F (β.ob id) k cap' es0 → RowRel (setBlk w (β.ob id) (.cells (spliceA c (i * k + off) (a.eval xv).cells.toList) et (0, 0))) F (β.ob id) k cap' (es0.set i (reElem q (spliceV q.cells off d.cells))) :=
        fun es0 cap' hr0 => row_store hFne g1 p2 (fun j d' x hj hx => g5 i j q d' x hq hj hx) hqk hfit hre hrc (by simp [h1]) (by grind)
          (fun m x y hx hy => h3 m x (.p y) (by simpa using hx) (by simp [hy])) hr0
      have hf : ∀ v x, TRel w F β (alive e) v x → TRel (setBlk w (β.ob id) (.cells (spliceA c (i * k + off) (a.eval xv).cells.toList) et (0, 0))) F β (alive e) v (updT id k i (reElem q (spliceV q.cells off d.cells)) x) := by
        intro v x hx
        cases x with
        | p y => exact Rd.setBlk hFne hx
        | ow id' k' es0 =>
          simp only [updT]
          obtain ⟨ha', cap', hv', hr'⟩ := hx
          split
          · rename_i hid
            subst hid
            split
            · rename_i hke
              subst hke
              exact ⟨ha', cap', by simpa using hv', hrow es0 cap' hr'⟩
            · trivial
          · rename_i hid
            exact ⟨ha', cap', hv', hr'.setBlk hFne (hone' id' hid ha')⟩
        | oe id' k' es0 j off' =>
          simp only [updT]
          obtain ⟨ha', hj', cap', hv', hr'⟩ := hx
          split
          · rename_i hid
            subst hid
            split
            · rename_i hke
              subst hke
              exact ⟨ha', by simpa using hj', cap', hv', hrow es0 cap' hr'⟩
            · trivial
          · rename_i hid
            exact ⟨ha', hj', cap', hv', hr'.setBlk hFne (hone' id' hid ha')⟩
        | lp s off' => exact hx
        | mp id' es' ck =>
          obtain ⟨ha', hv', hr'⟩ := hx
          by_cases hid : id' = id
          · grind
          · exact ⟨ha', hv', (setBlk_ne (hone' id' hid ha')).trans hr'⟩
        | ot id' t' xs' =>
          simp only [updT]
          split
          · trivial
          · rename_i hid
            rcases hx with hx | ⟨hne, ha', cap', hv', hr'⟩
            · exact .inl hx
            · exact .inr ⟨hne, ha', cap', hv', hr'.setBlk hFne (hone' id' hid ha')⟩
        | oet id' t' xs' j off' =>
          simp only [updT]
          split
          · trivial
          · rename_i hid
            obtain ⟨ha', hj', cap', hv', hr'⟩ := hx
            exact ⟨ha', hj', cap', hv', hr'.setBlk hFne (hone' id' hid ha')⟩
        | ov id' t' xs' lo' hi' =>
          simp only [updT]
          split
          · trivial
          · rename_i hid
            rcases hx with hx | ⟨hne, ha', q1, q2, cap', hv', hr'⟩
            · exact .inl hx
            · exact .inr ⟨hne, ha', q1, q2, cap', hv', hr'.setBlk hFne (hone' id' hid ha')⟩
        | on n =>
          simp only [updT]
          split
          · trivial
          · rename_i hid
            have hid := not_or.1 hid
            exact NRel.mono hx (fun _ h => h) (fun b' hb => setBlk_ne (hFne b' hb)) hx.1 hx.2.1 rfl rfl (setBlk_ne (hone' _ hid.1 hx.1)) (setBlk_ne (hone' _ hid.2 hx.2.1))
        | emp => exact hx
        | dead => trivial
      refine Inv.of (al := alive e) (hc.setBlk ha _ (fun c' et' fl' hh => by rw [show w.heap[β.blk (.o id)]? = _ from g1] at hh; simp at hh; exact ⟨_, _, _, rfl, by rw [spliceA_size, hh.1]⟩)) (fun g cs hg => (hG g cs hg).setBlk hFne) (by grind [Env.mapT]) hdf (fun t => by rw [get_mapT rfl]; grind) ?_ ?_
      · intro s cs hcs
        rw [var_mapT] at hcs
        simp at hcs
        obtain ⟨cs0, hcs0, rfl⟩ := hcs
        have ha' : alive e (.v s) := ⟨cs0, hcs0⟩
        exact ⟨ha', (hv s cs0 hcs0).mapT (setBlk_ne (hvne s ha')) hf⟩
      · rintro s ⟨cs, hcs⟩
        grind [var_mapT]
    · cases h
  · cases h

/-- A typed element behind a store into it. -/
def newEl (ty : Ty) (x : ty.El) (off : Nat) (d : V) : Option ty.El :=
  match ty.uncells (spliceV (ty.cells x) off d.cells) with
  | some (y, []) => some y
  | _ => none

def Ty.aggT : Ty → Bool
  | .pair _ _ | .unit => true
  | _ => false

def updTT (id : Nat) (ty : Ty) (n : Nat) (x : ty.El) : T → T
  | .ow i k es => if i = id then .dead else .ow i k es
  | .oe i k es j off => if i = id then .dead else .oe i k es j off
  | .ot i t ys => if i = id then (if h : t = ty then .ot i ty ((h ▸ ys).set n x) else .dead) else .ot i t ys
  | .oet i t ys j off => if i = id then (if h : t = ty then .oet i ty ((h ▸ ys).set n x) j off else .dead) else .oet i t ys j off
  | .ov i t xs j off => if i = id then .dead else .ov i t xs j off
  | .on n => if n.id = id ∨ n.id2 = id then .dead else .on n
  | y => y

/-- A store into a typed slice of the frame's own. -/
def evStoreT (P : Look) (e : Env Γ.St) (t : TypeId) (id : Nat) (ty : Ty) (xs : List ty.El) (i off : Nat) (d : V) : Option (Env Γ.St) :=
  if size? P t = some d.cells.length ∧ off + d.cells.length ≤ ty.size ∧ d.cells.all V.one = true ∧ (ty.aggT = false → d.cells.length = 1 ∧ ty.size = 1) then
    match xs[i]? with
    | some x => match newEl ty x off d with
      | some y => some (e.mapT (updTT id ty i y))
      | none => none
    | none => none
  else none

theorem WkVs.set : ∀ {xs ys : List V} (_ : WkVs xs ys) {a b : V} (_ : WkV a b) (n : Nat), WkVs (xs.set n a) (ys.set n b)
  | [], [], _, _, _, _, _ => trivial
  | x :: xs, y :: ys, h, a, b, hab, n => by
    cases n with
    | zero => exact ⟨hab, h.2⟩
    | succ n => exact ⟨h.1, WkVs.set h.2 hab n⟩

theorem WkVs.splice : ∀ {ds ds' : List V} (_ : WkVs ds ds') {cs cs' : List V} (_ : WkVs cs cs') (o : Nat), WkVs (spliceV cs o ds) (spliceV cs' o ds')
  | [], [], _, _, _, h, _ => h
  | x :: ds, y :: ds', hd, cs, cs', h, o => WkVs.splice hd.2 (h.set hd.1 o) (o + 1)

theorem WkV.trans {x y z : V} (h : WkV x y) (k : WkV y z) : WkV x z := fun w F v hh => k w F v (h w F v hh)

theorem WkVs.trans : ∀ {xs ys zs : List V} (_ : WkVs xs ys) (_ : WkVs ys zs), WkVs xs zs
  | [], [], [], _, _ => trivial
  | _ :: _, _ :: _, _ :: _, h, k => ⟨h.1.trans k.1, WkVs.trans h.2 k.2⟩

def V.un : V → V
  | .tl t xs => .sl (xs.map t.enc)
  | d => d

theorem un_cells (d : V) : WkVs d.un.cells d.cells ∧ d.un.cells.length = d.cells.length ∧ d.un.cells.all V.one = d.cells.all V.one := by
  cases d with
  | tl t xs => exact ⟨⟨fun w F v h => .tl t xs v h, trivial⟩, rfl, rfl⟩
  | _ => exact ⟨.refl _, rfl, rfl⟩

theorem un_p (d : V) : (T.p d).un = .p d.un := by cases d <;> rfl

theorem reEl_wk {ty : Ty} {x y : ty.El} {off : Nat} {d e : V} (u1 : WkVs e.cells d.cells) (hrc : (reElem (ty.enc x) (spliceV (ty.enc x).cells off e.cells)).cells = spliceV (ty.enc x).cells off e.cells)
    (hy : newEl ty x off d = some y) : WkVs (reElem (ty.enc x) (spliceV (ty.enc x).cells off e.cells)).cells (ty.enc y).cells := by
  rw [hrc, enc_cells, enc_cells]
  unfold newEl at hy
  split at hy
  · rename_i y' hy'
    simp at hy
    subst hy
    obtain ⟨c1, e1, e2⟩ := uncells_sound ty _ y' [] hy'
    simp at e1
    exact (WkVs.splice u1 (.refl _) off).trans (by rw [e1]; exact e2)
  · cases hy

theorem set_enc {ty : Ty} {y : ty.El} {i : Nat} {q0 : V} (hcy : WkVs q0.cells (ty.enc y).cells) {ys : List ty.El} {F : Blk → Prop} {b cap : Nat} {w : World} (hr : RowRel w F b ty.size cap ((ys.map ty.enc).set i q0)) :
    RowRel w F b ty.size cap ((ys.set i y).map ty.enc) := by
  refine hr.weak (by simp) ?_ ?_
  · intro q hq
    simp only [List.mem_map] at hq
    obtain ⟨z, _, rfl⟩ := hq
    exact enc_len ty z
  · intro m p q hp hq
    rw [List.map_set] at hq
    by_cases hm : i = m
    · grind
    · rw [List.getElem?_set_ne hm] at hp hq
      rw [hp] at hq
      cases hq
      exact .refl _

theorem storeT_sim (hi : Inv Γ G w0 F0 O0 a w e) {t : TypeId} {id : Nat} {ty : Ty} {xs : List ty.El} {i off : Nat} {d : V} {ap xv : Operand} (hp : evx G e ap = .oet id ty xs i off) (hx : evx G e xv = .p d)
    (h : evStoreT P e t id ty xs i off d = some e') : ∃ w', (Instr.storeAt t (a.eval ap) (a.eval xv)).run P w = .ok () w' ∧ Inv Γ G w0 F0 O0 a w' e' := by
  unfold evStoreT at h
  split at h
  · rename_i hcond
    obtain ⟨hs, hfit, hone, hag⟩ := hcond
    split at h
    · rename_i x hxi
      split at h
      · rename_i y hy
        cases h
        have hq : (xs.map ty.enc)[i]? = some (ty.enc x) := by simp [hxi]
        have hne : ((ty.enc x).noAgg = true → d.cells.length = 1 ∧ ty.size = 1) := by
          intro hh
          refine hag ?_
          cases ty <;> first | rfl | (simp [Ty.enc, V.noAgg] at hh)
        obtain ⟨u1, u2, u3⟩ := un_cells d
        rw [← u2] at hs hfit hne
        rw [← u3] at hone
        have hrc := reElem_cells (q := ty.enc x) (d := d.un) (off := off) (k := ty.size) (enc_len ty x) hone hfit hne
        have hev : evStoreO P (e.mapT T.un) t id ty.size (xs.map ty.enc) i off d.un = some ((e.mapT T.un).mapT (updT id ty.size i (reElem (ty.enc x) (spliceV (ty.enc x).cells off d.un.cells)))) := by
          simp_all [enc_len, spliceV_len, evStoreO]
        obtain ⟨w', h1, h2⟩ := storeO_sim (P := P) hi.un (ap := ap) (xv := xv) (by rw [evx_un, hp]; rfl) (by rw [evx_un, hx, un_p]) hev
        refine ⟨w', h1, ?_⟩
        have hcy := reEl_wk u1 hrc hy
        have hset : ∀ (ys : List ty.El) (F : Blk → Prop) (b cap : Nat) (w : World), RowRel w F b ty.size cap ((ys.map ty.enc).set i (reElem (ty.enc x) (spliceV (ty.enc x).cells off d.un.cells))) → RowRel w F b ty.size cap ((ys.set i y).map ty.enc) :=
          fun ys F b cap w hr => set_enc hcy hr
        have hT : ∀ z : T, WkT (updT id ty.size i (reElem (ty.enc x) (spliceV (ty.enc x).cells off d.un.cells)) z.un) (updTT id ty i y z) := by
          intro z
          cases z with
          | p q =>
            cases q with
            | tl t xs => exact WkT.ofUn (.p (.tl t xs))
            | _ => exact .refl _
          | ow i0 k0 es0 =>
            simp [T.un, updT, updTT]
            split
            · exact .dead _
            · exact .refl _
          | oe i0 k0 es0 j0 off0 =>
            simp [T.un, updT, updTT]
            split
            · exact .dead _
            · exact .refl _
          | ot i0 t0 ys =>
            simp only [updTT]
            split
            · rename_i hid
              split
              · rename_i htt
                subst htt
                cases ys with
                | nil => exact fun w F β al v hh => .inl ⟨rfl, hh⟩
                | cons z zs =>
                  intro w F β al v hh
                  simp [T.un, updT, hid] at hh
                  obtain ⟨ha, cap, hv, hr⟩ := hh
                  have hr' := hset (z :: zs) F _ cap w hr
                  refine .inr ⟨by simp, by grind, cap, by grind, by grind⟩
              · exact .dead _
            · rename_i hid
              cases ys with
              | nil => exact WkT.ofUn (.ot i0 t0 [])
              | cons z zs =>
                simp [T.un, updT, if_neg hid]
                exact WkT.ofUn (.ot i0 t0 (z :: zs))
          | oet i0 t0 ys j0 off0 =>
            simp only [updTT]
            split
            · rename_i hid
              split
              · rename_i htt
                subst htt
                intro w F β al v hh
                simp [T.un, updT, hid] at hh
                obtain ⟨ha, hj, cap, hv, hr⟩ := hh
                refine ⟨by grind, by simpa using hj, cap, by grind, by grind⟩
              · exact .dead _
            · rename_i hid
              simp [T.un, updT, if_neg hid]
              exact WkT.ofUn (.oet i0 t0 ys j0 off0)
          | ov i0 t0 ys j0 off0 =>
            simp [T.un, updT, updTT]
            exact .refl _
          | on n0 =>
            simp [T.un, updT, updTT]
            exact .refl _
          | _ => exact .refl _
        refine h2.weak (by simp [Env.mapT]) rfl (fun t => by rw [get_mapT rfl, get_mapT rfl, get_mapT rfl]; exact hT _) ?_
        intro s
        rw [var_mapT, var_mapT, var_mapT]
        cases e.var s with
        | none => trivial
        | some cs =>
          grind [List.map_map, WkTs.map]
      · cases h
    · cases h
  · cases h

def updM (id : Nat) (es' : List MapEntry) (ck' : Nat) : T → T
  | .mp i es ck => if i = id then .mp i es' ck' else .mp i es ck
  | x => x

/-- An update of a map of the frame's own. -/
def evUpd (P : Look) (e : Env Γ.St) (t : TypeId) (id : Nat) (es : List MapEntry) (ck : Nat) (k v : Value) : Option (Env Γ.St) :=
  match pureIn P.P (updIn t es ck k v) with
  | some (es', ck') => some (e.mapT (updM id es' ck'))
  | none => none

theorem run_mapUpdate {t : TypeId} {b : Nat} {es es' : List MapEntry} {ck ck' : Nat} {k v : Value} (hm : w.heap[b]? = some (.map es.toArray ck))
    (h : pureIn P (updIn t es ck k v) = some (es', ck')) : (Instr.mapUpdate t (.map (some b)) k v).run P w = .ok () (setBlk w b (.map es'.toArray ck')) := by
  have hlt := lt_of_block hm
  have hg : (getObj b).run P w = .ok (.map es.toArray ck) w := by simp [getObj, Sem.run, hm]
  have hset : ∀ ob, (setObj b ob).run P w = .ok () (setBlk w b ob) := by grind [setObj, Sem.run, setBlk]
  obtain ⟨d, h1, h⟩ := pureIn_bind h
  have h1 := pureIn_run h1 w
  split at h
  · rename_i keyType elem
    obtain ⟨u, h2, h⟩ := pureIn_bind h
    obtain ⟨r, h3, h⟩ := pureIn_bind h
    have h2 := pureIn_run h2 w
    have h3 := pureIn_run h3 w
    split at h
    · rename_i i v0
      obtain ⟨key, h4, h⟩ := pureIn_bind h
      have h4 := pureIn_run h4 w
      simp [pureIn, pure] at h
      obtain ⟨rfl, rfl⟩ := h
      simp_all [Sem.run_bind, Result.andThen_ok, Instr.mapUpdate]
    · simp [pureIn, pure] at h
      obtain ⟨rfl, rfl⟩ := h
      simp_all [Sem.run_bind, Result.andThen_ok, Instr.mapUpdate]
  · cases h

theorem upd_sim (hi : Inv Γ G w0 F0 O0 a w e) {t : TypeId} {id : Nat} {es : List MapEntry} {ck : Nat} {m kx vx : Operand} {k v : Value} (hm : evx G e m = .mp id es ck)
    (hk : flatT (evx G e kx) = some k) (hx : flatT (evx G e vx) = some v)
    (h : evUpd P e t id es ck k v = some e') : ∃ w', (Instr.mapUpdate t (a.eval m) (a.eval kx) (a.eval vx)).run P w = .ok () w' ∧ Inv Γ G w0 F0 O0 a w' e' := by
  obtain ⟨F, O, β, hc, hG, hsz, hdf, ht, hv⟩ := hi
  have hmt := evx_sim hG ht m
  rw [hm] at hmt
  have hkt := flatT_eq (evx_sim hG ht kx) hk
  have hxt := flatT_eq (evx_sim hG ht vx) hx
  obtain ⟨ha, hmv, hblk⟩ := hmt
  unfold evUpd at h
  split at h
  · rename_i es' ck' hp
    cases h
    refine ⟨_, by rw [hmv, hkt, hxt]; exact run_mapUpdate hblk hp, ?_⟩
    obtain ⟨p1, p2, p3, p4⟩ := hc.place (.o id) ha
    have hFne : ∀ b' : Nat, F b' → b' ≠ β.ob id := fun b' hb hh => p3 (by rw [hh] at hb; exact hb)
    have hvne : ∀ s, alive e (.v s) → β.vb s ≠ β.ob id := fun s hs hh => by
      have := hc.dist (.v s) (.o id) hs ha hh
      cases this
    have hone' : ∀ id', id' ≠ id → alive e (.o id') → β.ob id' ≠ β.ob id := fun id' hne hs hh => by
      have := hc.dist (.o id') (.o id) hs ha hh
      grind
    have hf : ∀ v x, TRel w F β (alive e) v x → TRel (setBlk w (β.ob id) (.map es'.toArray ck')) F β (alive e) v (updM id es' ck' x) := by
      intro v x hx
      cases x with
      | p y => exact Rd.setBlk hFne hx
      | ow id' k' es0 =>
        obtain ⟨ha', cap', hv', hr'⟩ := hx
        by_cases hid : id' = id
        · subst hid; obtain ⟨c, et, q1, _⟩ := hr'; grind
        · exact ⟨ha', cap', hv', hr'.setBlk hFne (hone' id' hid ha')⟩
      | oe id' k' es0 j off' =>
        obtain ⟨ha', hj', cap', hv', hr'⟩ := hx
        by_cases hid : id' = id
        · subst hid; obtain ⟨c, et, q1, _⟩ := hr'; grind
        · exact ⟨ha', hj', cap', hv', hr'.setBlk hFne (hone' id' hid ha')⟩
      | lp s off' => exact hx
      | mp id' es0 ck0 =>
        obtain ⟨ha', hv', hr'⟩ := hx
        simp only [updM]
        split
        · rename_i hid
          subst hid
          exact ⟨ha', hv', setBlk_eq p2⟩
        · rename_i hid
          exact ⟨ha', hv', (setBlk_ne (hone' id' hid ha')).trans hr'⟩
      | ot id' t' xs' =>
        rcases hx with hx | ⟨hne, ha', cap', hv', hr'⟩
        · exact .inl hx
        · by_cases hid : id' = id
          · subst hid; obtain ⟨c, et, q1, _⟩ := hr'; grind
          · exact .inr ⟨hne, ha', cap', hv', hr'.setBlk hFne (hone' id' hid ha')⟩
      | oet id' t' xs' j off' =>
        obtain ⟨ha', hj', cap', hv', hr'⟩ := hx
        by_cases hid : id' = id
        · subst hid; obtain ⟨c, et, q1, _⟩ := hr'; grind
        · exact ⟨ha', hj', cap', hv', hr'.setBlk hFne (hone' id' hid ha')⟩
      | ov id' t' xs' lo' hi' =>
        rcases hx with hx | ⟨hne, ha', k1, k2, cap', hv', hr'⟩
        · exact .inl hx
        · by_cases hid : id' = id
          · subst hid; obtain ⟨c, et, q1, _⟩ := hr'; grind
          · exact .inr ⟨hne, ha', k1, k2, cap', hv', hr'.setBlk hFne (hone' id' hid ha')⟩
      | on n =>
        have h1 : n.id ≠ id := by
          rintro rfl; obtain ⟨_, _, c, et, cap2, q1, _⟩ := hx; grind
        have h2 : n.id2 ≠ id := by
          rintro rfl; obtain ⟨_, _, c, et, cap2, _, _, _, _, ⟨c', et', q1, _⟩, _⟩ := hx; grind
        exact NRel.mono hx (fun _ h => h) (fun b' hb => setBlk_ne (hFne b' hb)) hx.1 hx.2.1 rfl rfl (setBlk_ne (hone' _ h1 hx.1)) (setBlk_ne (hone' _ h2 hx.2.1))
      | emp => exact hx
      | dead => trivial
    refine Inv.of (al := alive e) (hc.setBlk ha _ (fun c' et' fl' hh => by rw [show w.heap[β.blk (.o id)]? = _ from hblk] at hh; cases hh)) (fun g cs hg => (hG g cs hg).setBlk hFne) (by grind [Env.mapT]) hdf (fun t => by rw [get_mapT rfl]; grind) ?_ ?_
    · intro s cs hcs
      rw [var_mapT] at hcs
      simp at hcs
      obtain ⟨cs0, hcs0, rfl⟩ := hcs
      have ha' : alive e (.v s) := ⟨cs0, hcs0⟩
      exact ⟨ha', (hv s cs0 hcs0).mapT (setBlk_ne (hvne s ha')) hf⟩
    · rintro s ⟨cs, hcs⟩
      grind [var_mapT]
  · cases h

/-- A slice of the frame's own stays as it is from now on. -/
def frzOT (id : Nat) : T → T
  | .ow i k es => if i = id then .p (.sl es) else .ow i k es
  | .oe i k es j off => if i = id then (match es[j]? with | some q => .p (.pp (q.cells.drop off)) | none => .dead) else .oe i k es j off
  | .mp i es ck => if i = id then .dead else .mp i es ck
  | .ot i t xs => if i = id then .p (.tl t xs) else .ot i t xs
  | .oet i t xs j off => if i = id then .dead else .oet i t xs j off
  | .ov i t xs j off => if i = id then .dead else .ov i t xs j off
  | .on n => if n.id = id ∨ n.id2 = id then .dead else .on n
  | x => x

theorem Inv.frzO (hi : Inv Γ G w0 F0 O0 a w e) {id : Nat} (hidl : id ≠ lentId) : Inv Γ G w0 F0 O0 a w (e.mapT (frzOT id)) := by
  obtain ⟨F, O, β, hc, hG, hsz, hdf, ht, hv⟩ := hi
  by_cases ha : alive e (.o id)
  · obtain ⟨p1, p2, p3, p4⟩ := hc.place (.o id) ha
    let F' : Blk → Prop := fun b => F b ∨ b = β.ob id
    let al' : Site → Prop := fun x => alive e x ∧ x ≠ .o id
    have hcore : Core Γ w0 F0 O0 w F' O β al' e.st := by
      refine ⟨hc.keep, Γ.mono hc.sig addB_h (fun _ _ => rfl) (fun _ _ h => ⟨.inl h, rfl⟩), hc.oin, ?_, hc.f0.trans (Grow.addB _ _ _) (Nat.le_refl _), ?_, fun x y hx hy => hc.dist x y hx.1 hy.1, hc.lent.step (fun b n _ hb ho hf => ⟨rfl, ho, fun h => h.elim hf (fun h => by have h1 := blk_eq h; have h2 : w0.heap.size ≤ β.ob id := p1.o hidl; omega)⟩)⟩
      · rintro b (hb | hb)
        · exact hc.fin b hb
        · have hb := blk_eq hb; subst hb; exact ⟨.inr (p1.o hidl), p2, p4⟩
      · intro x hx
        obtain ⟨q1, q2, q3, q4⟩ := hc.place x hx.1
        refine ⟨q1, q2, fun hh => hh.elim q3 (fun hh => hx.2 (hc.dist x (.o id) hx.1 ha (blk_eq hh))), q4⟩
    have hext : Ext w F β al' w F' β al' := ⟨fun _ h => .inl h, fun _ _ => rfl, fun _ h => h, fun _ _ => rfl, fun _ _ => rfl⟩
    have hf : ∀ v x, TRel w F β (alive e) v x → TRel w F' β al' v (frzOT id x) := by
      intro v x hx
      cases x with
      | p y => exact Rd.ext hext hx
      | ow i k es =>
        simp only [frzOT]
        obtain ⟨ha', cap, hv', hr⟩ := hx
        split
        · rename_i hid
          subst hid
          rw [hv']
          exact Row_rd hr (fun b hb => .inl hb) (.inr rfl)
        grind [TRel.ext, TRel]
      | oe i k es j off =>
        simp only [frzOT]
        obtain ⟨ha', hj, cap, hv', hr⟩ := hx
        split
        · rename_i hid
          subst hid
          split
          · rename_i q hq
            obtain ⟨c, et, g1, g2, g3, g4, g5⟩ := hr
            have hqk := g4 q (List.mem_of_getElem? hq)
            have hjk : (j + 1) * k ≤ cap * k := Nat.mul_le_mul_right k (by omega)
            rw [Nat.succ_mul] at hjk
            rw [hv']
            refine Rd.pp (β.ob i) (j * k + off) _ (fun m => (c[j * k + (off + m)]?).getD undef) (.inr rfl) ?_ ?_
            all_goals grind [List.length_drop, List.getElem?_eq_some_iff, Rd.ext, World.cell?]
          · trivial
        grind [TRel.ext, TRel]
      | lp s off => exact ⟨⟨hx.1, by simp⟩, hx.2⟩
      | mp i es' ck =>
        grind [TRel.ext, frzOT, TRel]
      | ot i t xs =>
        simp only [frzOT]
        split
        · rename_i hid
          subst hid
          refine .tl t xs v ?_
          rcases hx with ⟨h0, a0, rfl⟩ | ⟨hne, ha', cap, rfl, hr⟩
          · rw [h0]; exact .slemp a0 0
          · exact Row_rd (hr.mono hext.f hext.hf rfl) (fun _ h => h) (.inr rfl)
        · rename_i hid
          rcases hx with hx | ⟨hne, ha', cap, hv', hr⟩
          · exact .inl hx
          · exact TRel.ext hext (show TRel w F β al' v (.ot i t xs) from .inr ⟨hne, ⟨ha', by simpa using hid⟩, cap, hv', hr⟩)
      | oet i t xs j off =>
        grind [TRel.ext, frzOT, TRel]
      | ov i t xs lo hi =>
        grind [TRel.ext, frzOT, TRel]
      | on n =>
        simp only [frzOT]
        split
        · trivial
        · rename_i hid
          have hid := not_or.1 hid
          exact TRel.ext hext (show TRel w F β al' v (.on n) from ⟨⟨hx.1, by simpa using hid.1⟩, ⟨hx.2.1, by simpa using hid.2⟩, hx.2.2⟩)
      | emp => exact hx
      | dead => trivial
    refine Inv.of (al := al') hcore (hG.ext hext) (by grind [Env.mapT]) hdf (fun t => by rw [get_mapT rfl]; grind) ?_ ?_
    · intro s cs hcs
      rw [var_mapT] at hcs
      simp at hcs
      obtain ⟨cs0, hcs0, rfl⟩ := hcs
      exact ⟨⟨⟨cs0, hcs0⟩, by simp⟩, (hv s cs0 hcs0).mapT rfl hf⟩
    · rintro s ⟨⟨cs, hcs⟩, _⟩
      grind [var_mapT]
  · have hf : ∀ v x, TRel w F β (alive e) v x → TRel w F β (alive e) v (frzOT id x) := by
      intro v x hx
      cases x with
      | ow i k es =>
        simp only [frzOT]
        split
        · rename_i hid; subst hid; exact absurd hx.1 ha
        · exact hx
      | oe i k es j off =>
        simp only [frzOT]
        split
        · rename_i hid; subst hid; exact absurd hx.1 ha
        · exact hx
      | mp i es ck =>
        simp only [frzOT]
        split
        · trivial
        · exact hx
      | ot i t xs =>
        simp only [frzOT]
        split
        · rename_i hid
          subst hid
          rcases hx with ⟨h0, a0, rfl⟩ | ⟨hne, ha', _⟩
          · exact .tl t xs _ (by rw [h0]; exact .slemp a0 0)
          grind
        · exact hx
      | oet i t xs j off =>
        simp only [frzOT]
        split
        · trivial
        · exact hx
      | ov i t xs lo hi =>
        simp only [frzOT]
        split
        · trivial
        · exact hx
      | on n =>
        simp only [frzOT]
        split
        · trivial
        · exact hx
      | _ => exact hx
    refine Inv.of (al := alive e) hc hG (by grind [Env.mapT]) hdf (fun t => by rw [get_mapT rfl]; grind) ?_ ?_
    · intro s cs hcs
      rw [var_mapT] at hcs
      simp at hcs
      obtain ⟨cs0, hcs0, rfl⟩ := hcs
      exact ⟨⟨cs0, hcs0⟩, (hv s cs0 hcs0).mapT rfl hf⟩
    · rintro s ⟨cs, hcs⟩
      grind [var_mapT]

/-- A variable of the frame's own stays as it is from now on. -/
def frzVT (s : Nat) (ds : List V) : T → T
  | .lp s' off => if s' = s then .p (.pp (ds.drop off)) else .lp s' off
  | x => x

def Env.frzV (s : Nat) (ds : List V) (e : Env Γ.St) : Env Γ.St := ({ e with vars := e.vars.set s none } : Env Γ.St).mapT (frzVT s ds)

theorem drop_pure {cs : List T} {ds : List V} (h : pureCells cs = some ds) (off : Nat) : pureCells (cs.drop off) = some (ds.drop off) := by
  have := pureCells_get h
  subst this
  have hall : ∀ ds : List V, pureCells (ds.map .p) = some ds := by
    intro ds
    induction ds with
    | nil => rfl
    | cons d ds ih => simp [pureCells, ih]
  grind [List.map_drop]

theorem Inv.frzV (hi : Inv Γ G w0 F0 O0 a w e) {s : Nat} {cs : List T} {ds : List V} (hs : e.var s = some cs) (hp : pureCells cs = some ds) : Inv Γ G w0 F0 O0 a w (e.frzV s ds) := by
  obtain ⟨F, O, β, hc, hG, hsz, hdf, ht, hv⟩ := hi
  have ha : alive e (.v s) := ⟨cs, hs⟩
  obtain ⟨p1, p2, p3, p4⟩ := hc.place (.v s) ha
  let F' : Blk → Prop := fun b => F b ∨ b = β.vb s
  let al' : Site → Prop := fun x => alive e x ∧ x ≠ .v s
  have hcore : Core Γ w0 F0 O0 w F' O β al' e.st := by
    refine ⟨hc.keep, Γ.mono hc.sig addB_h (fun _ _ => rfl) (fun _ _ h => ⟨.inl h, rfl⟩), hc.oin, ?_, hc.f0.trans (Grow.addB _ _ _) (Nat.le_refl _), ?_, fun x y hx hy => hc.dist x y hx.1 hy.1, hc.lent.step (fun b n _ hb ho hf => ⟨rfl, ho, fun h => h.elim hf (fun h => by have h1 := blk_eq h; have h2 : w0.heap.size ≤ β.vb s := p1.v; omega)⟩)⟩
    · rintro b (hb | hb)
      · exact hc.fin b hb
      · have hb := blk_eq hb; subst hb; exact ⟨.inr p1.v, p2, p4⟩
    · intro x hx
      obtain ⟨q1, q2, q3, q4⟩ := hc.place x hx.1
      refine ⟨q1, q2, fun hh => hh.elim q3 (fun hh => hx.2 (hc.dist x (.v s) hx.1 ha (blk_eq hh))), q4⟩
  have hext : Ext w F β al' w F' β al' := ⟨fun _ h => .inl h, fun _ _ => rfl, fun _ h => h, fun _ _ => rfl, fun _ _ => rfl⟩
  have hf : ∀ v x, TRel w F β (alive e) v x → TRel w F' β al' v (frzVT s ds x) := by
    intro v x hx
    cases x with
    | p y => exact Rd.ext hext hx
    | ow i k es => exact TRel.ext hext (show TRel w F β al' v (.ow i k es) from ⟨⟨hx.1, by simp⟩, hx.2⟩)
    | oe i k es j off => exact TRel.ext hext (show TRel w F β al' v (.oe i k es j off) from ⟨⟨hx.1, by simp⟩, hx.2⟩)
    | lp s' off =>
      simp only [frzVT]
      obtain ⟨ha', hv'⟩ := hx
      split
      · rename_i hss
        subst hss
        rw [hv']
        exact Var_rd (hv s' cs hs) (fun b hb => .inl hb) (.inr rfl) (drop_pure hp off)
      · rename_i hss
        exact ⟨⟨ha', by simpa using hss⟩, hv'⟩
    | mp i es ck => exact TRel.ext hext (show TRel w F β al' v (.mp i es ck) from ⟨⟨hx.1, by simp⟩, hx.2⟩)
    | ot i t xs =>
      rcases hx with hx | ⟨hne, ha', h2⟩
      · exact .inl hx
      · exact TRel.ext hext (show TRel w F β al' v (.ot i t xs) from .inr ⟨hne, ⟨ha', by simp⟩, h2⟩)
    | oet i t xs j off => exact TRel.ext hext (show TRel w F β al' v (.oet i t xs j off) from ⟨⟨hx.1, by simp⟩, hx.2⟩)
    | ov i t xs lo hi =>
      rcases hx with hx | ⟨hne, ha', hx⟩
      · exact .inl hx
      · exact TRel.ext hext (show TRel w F β al' v (.ov i t xs lo hi) from .inr ⟨hne, ⟨ha', by simp⟩, hx⟩)
    | on n => exact TRel.ext hext (show TRel w F β al' v (.on n) from ⟨⟨hx.1, by simp⟩, ⟨hx.2.1, by simp⟩, hx.2.2⟩)
    | emp => exact hx
    | dead => trivial
  have hvar : ∀ s', (e.frzV s ds).var s' = if s' = s then none else (e.var s').map (List.map (frzVT s ds)) := by
    intro s'
    simp [Env.frzV, var_mapT]
    simp only [Env.var]
    grind
  have hget : ∀ t, (e.frzV s ds).get t = frzVT s ds (e.get t) := fun t => get_mapT (f := frzVT s ds) rfl _ t
  refine Inv.of (al := al') hcore (hG.ext hext) (by grind [Env.frzV, Env.mapT]) hdf (fun t => by grind) ?_ ?_
  · intro s' cs' hcs'
    rw [hvar] at hcs'
    split at hcs'
    · cases hcs'
    · rename_i hne
      simp at hcs'
      obtain ⟨cs0, hcs0, rfl⟩ := hcs'
      exact ⟨⟨⟨cs0, hcs0⟩, by simpa using hne⟩, (hv s' cs0 hcs0).mapT rfl hf⟩
  · rintro s' ⟨⟨cs', hcs'⟩, hne⟩
    grind

/-- The number of the list of lists whose elements may be the frame's own. -/
def nestId : Nat := 999

def T.ids : T → List Nat
  | .ow i _ _ => [i]
  | .oe i _ _ _ _ => [i]
  | .mp i _ _ => [i]
  | .ot i _ _ => [i]
  | .oet i _ _ _ _ => [i]
  | .ov i _ _ _ _ => [i]
  | .on n => [n.id, n.id2]
  | _ => []

def T.offs (a b : Nat) (x : T) : T := if x.ids.contains a || x.ids.contains b then .dead else x

theorem T.sites_sub {al al' : Site → Prop} {x : T} (h : x.sites al) (hi : ∀ i, i ∈ x.ids → al (.o i) → al' (.o i)) (hv : ∀ s, al (.v s) → al' (.v s)) : x.sites al' := by
  cases x with
  | ot i t xs => exact fun h0 => hi _ (by simp [T.ids]) (h h0)
  | ov i t xs lo hi' => exact fun h0 => hi _ (by simp [T.ids]) (h h0)
  | on n => exact ⟨hi _ (by simp [T.ids]) h.1, hi _ (by simp [T.ids]) h.2⟩
  | lp s off => exact hv _ h
  | p d => trivial
  | emp => trivial
  | dead => trivial
  | _ => exact hi _ (by simp [T.ids]) h

theorem TRel.setAway {v : Value} {x : T} {b : Nat} {ob : Obj} (h : TRel w F β al v x) (hF : ∀ b' : Nat, F b' → b' ≠ b) (ho : ∀ i, i ∈ x.ids → al (.o i) → β.ob i ≠ b) :
    TRel (setBlk w b ob) F β al v x := by
  have h1 : TRel w F β (fun s => al s ∧ ∀ i, s = .o i → i ∈ x.ids) v x :=
    h.on (T.sites_sub h.sites (fun i hi ha => ⟨ha, fun j hj => by grind⟩) (fun s hs => ⟨hs, fun j hj => by cases hj⟩))
  have h2 := TRel.setVar (ob := ob) hF (fun i hi => ho i (hi.2 i rfl) hi.1) h1
  exact h2.on (T.sites_sub h2.sites (fun i _ ha => ha.1) (fun s hs => hs.1))

theorem TRel.offs {v : Value} {x : T} {id id2 b : Nat} {ob : Obj} (h : TRel w F β al v x) (hF : ∀ b' : Nat, F b' → b' ≠ b) (ho : ∀ i, i ≠ id → i ≠ id2 → al (.o i) → β.ob i ≠ b) :
    TRel (setBlk w b ob) F β al v (T.offs id id2 x) := by
  unfold T.offs
  split
  · trivial
  · rename_i hn
    simp at hn
    exact h.setAway hF (fun i hi ha => ho i (fun hh => hn.1 (hh ▸ hi)) (fun hh => hn.2 (hh ▸ hi)) ha)

/-- An own list goes into an element of an own list. -/
def updJ (id id2 : Nat) (t : Ty) (j : Nat) (ys : List t.El) (x : T) : T :=
  match x with
  | .ot i t' zs => if i = id then (if h : t' = .sl t then .on ⟨id, id2, t, (h ▸ zs : List (Ty.sl t).El), j, ys, .s⟩ else .dead) else T.offs id id2 (.ot i t' zs)
  | x => T.offs id id2 x

def evStoreIn (P : Look) (e : Env Γ.St) (t : TypeId) (id : Nat) (ty : Ty) (j off id2 : Nat) (t2 : Ty) (ys : List t2.El) : Option (Env Γ.St) :=
  match ty with
  | .sl t3 => if t3 = t2 ∧ off = 0 ∧ size? P t = some 1 ∧ id = nestId ∧ id ≠ id2 ∧ ys.isEmpty = false then some (e.mapT (updJ id id2 t2 j ys)) else none
  | _ => none

theorem storeIn_sim (hi : Inv Γ G w0 F0 O0 a w e) {t : TypeId} {id : Nat} {ty : Ty} {xs : List ty.El} {j off id2 : Nat} {t2 : Ty} {ys : List t2.El} {ap xv : Operand} (hp : evx G e ap = .oet id ty xs j off)
    (hx : evx G e xv = .ot id2 t2 ys) (h : evStoreIn P e t id ty j off id2 t2 ys = some e') : ∃ w', (Instr.storeAt t (a.eval ap) (a.eval xv)).run P w = .ok () w' ∧ Inv Γ G w0 F0 O0 a w' e' := by
  unfold evStoreIn at h
  split at h
  · rename_i t3
    split at h
    · rename_i hcond
      obtain ⟨rfl, rfl, hsize, hnest, hne2, hys⟩ := hcond
      cases h
      obtain ⟨F, O, β, hc, hG, hsz, hdf, ht, hv⟩ := hi
      have hpt := evx_sim hG ht ap
      have hxt := evx_sim hG ht xv
      rw [hp] at hpt
      rw [hx] at hxt
      obtain ⟨ha, hil, cap, hpv, c, et, g1, g2, g3, g4, g5⟩ := hpt
      have hyne : ys ≠ [] := by grind
      rcases hxt with ⟨h0, _⟩ | ⟨_, ha2, cap2, hv2, hrow2⟩
      · simp_all
      have hz : (Ty.sl t3).size = 1 := rfl
      rw [hz] at hpv g2
      simp at hpv g2
      simp at g3 hv2
      have hjc : j < c.size := by omega
      have hrun : (Instr.storeAt t (a.eval ap) (a.eval xv)).run P w = .ok () (setBlk w (β.ob id) (.cells (c.setIfInBounds j (a.eval xv)) et (0, 0))) := by
        have hst := run_storeCells (P := P) (b := β.ob id) (off := j) (et := et) [a.eval xv] 0 w c g1 (by simp; omega) (fun u hu => by simp at hu; rw [hu, hv2]; rfl)
        have hcl : (a.eval xv).cells = #[a.eval xv] := by rw [hv2]; rfl
        simp only [Instr.storeAt, hpv, Instr.sureAddr, Sem.run_bind, Sem.run_pure, Result.andThen_ok, storeVar, run_sizeOf hsize, hcl, ne_eq]
        grind [spliceA]
      refine ⟨_, hrun, ?_⟩
      obtain ⟨p1, p2, p3, p4⟩ := hc.place (.o id) ha
      have hFne : ∀ b' : Nat, F b' → b' ≠ β.ob id := fun b' hb hh => p3 (by rw [hh] at hb; exact hb)
      have hvne : ∀ s, alive e (.v s) → β.vb s ≠ β.ob id := fun s hs hh => by
        have := hc.dist (.v s) (.o id) hs ha hh
        cases this
      have hone' : ∀ id', id' ≠ id → alive e (.o id') → β.ob id' ≠ β.ob id := fun id' hne hs hh => by
        have := hc.dist (.o id') (.o id) hs ha hh
        grind
      have hf : ∀ v x, TRel w F β (alive e) v x → TRel (setBlk w (β.ob id) (.cells (c.setIfInBounds j (a.eval xv)) et (0, 0))) F β (alive e) v (updJ id id2 t3 j ys x) := by
        intro v x hx
        have hoff : TRel (setBlk w (β.ob id) (.cells (c.setIfInBounds j (a.eval xv)) et (0, 0))) F β (alive e) v (T.offs id id2 x) := hx.offs hFne (fun i h1 _ ha => hone' i h1 ha)
        cases x with
        | ot i t' zs =>
          simp only [updJ]
          split
          · rename_i hid
            subst hid
            split
            · rename_i htt
              subst htt
              have hk : ∀ (hz0 : zs.length ≤ c.size) (hrd : ∀ (i' : Nat) (x : List t3.El) (u : Value), zs[i']? = some x → c[i']? = some u → Rd w F u (.tl t3 x)), (NM.Rel (β.ob i) (β.ob id2) c.size cap2 zs.length ys.length t3.size v .s) →
                  NRel (setBlk w (β.ob i) (.cells (c.setIfInBounds j (a.eval xv)) et (0, 0))) F β (alive e) v ⟨i, id2, t3, zs, j, ys, .s⟩ := by
                intro hz0 hrd hm
                refine ⟨ha, ha2, c.setIfInBounds j (a.eval xv), et, cap2, setBlk_eq p2, by simpa using hz0, ?_, ?_, hrow2.setBlk hFne (hone' id2 (Ne.symm hne2) ha2), ?_⟩
                · intro i' x u h1 h2 h3
                  rw [Array.getElem?_setIfInBounds_ne (Ne.symm h1)] at h3
                  grind [Rd.setBlk]
                all_goals grind
              rcases hx with ⟨h0, a0, hv0⟩ | ⟨hne, _, cap', hv', c', et', q1, q2, q3, q4, q5⟩
              · have h0 : zs = [] := by simpa using h0
                subst h0
                exact hk (by simp) (fun i' x u h1 => by simp at h1) (.inl ⟨rfl, a0, hv0⟩)
              · rw [g1] at q1
                simp only [Option.some.injEq, Obj.cells.injEq] at q1
                obtain ⟨rfl, _, _⟩ := q1
                rw [hz, Nat.mul_one] at q2
                simp at q3 hv'
                refine hk (by omega) ?_ (.inr (by rw [hv', q2]))
                intro i' x u h1 h2
                exact q5 i' 0 (.tl t3 x) (.tl t3 x) u (by simp only [List.getElem?_map, h1]; rfl) rfl (by grind)
            · trivial
          · exact hoff
        | _ => exact hoff
      refine Inv.of (al := alive e) (hc.setBlk ha _ (fun c' et' fl' hh => by rw [show w.heap[β.blk (.o id)]? = _ from g1] at hh; grind)) (fun g cs hg => (hG g cs hg).setBlk hFne) (by grind [Env.mapT]) hdf (fun t => by rw [get_mapT rfl]; grind) ?_ ?_
      · intro s cs hcs
        rw [var_mapT] at hcs
        simp at hcs
        obtain ⟨cs0, hcs0, rfl⟩ := hcs
        have ha' : alive e (.v s) := ⟨cs0, hcs0⟩
        exact ⟨ha', (hv s cs0 hcs0).mapT (setBlk_ne (hvne s ha')) hf⟩
      · rintro s ⟨cs, hcs⟩
        grind [var_mapT]
    · cases h
  · cases h

/-- A store into an element of an own list that lies in an own list. -/
def updN (id id2 : Nat) (t : Ty) (k : Nat) (y : t.El) (x : T) : T :=
  match x with
  | .on ⟨i, i2, t', xs, j, ys, m⟩ => if i = id ∧ i2 = id2 then (if h : t' = t then .on ⟨i, i2, t', xs, j, ys.set k (h ▸ y), m⟩ else .dead) else T.offs id id2 (.on ⟨i, i2, t', xs, j, ys, m⟩)
  | x => T.offs id id2 x

/-- Both stay as they are from now on. -/
def frzN (id id2 : Nat) (x : T) : T :=
  match x with
  | .on ⟨i, i2, t, xs, j, ys, m⟩ => if i = id ∧ i2 = id2 then (match m with
    | .s => .p (.tl (.sl t) (List.set xs j ys))
    | _ => .dead) else T.offs id id2 (.on ⟨i, i2, t, xs, j, ys, m⟩)
  | x => T.offs id id2 x

def updF (id id2 : Nat) (t : Ty) (k : Nat) (y : t.El) (x : T) : T := frzN id id2 (updN id id2 t k y x)

def evStoreN (P : Look) (e : Env Γ.St) (t : TypeId) (n : Nst) (d : V) : Option (Env Γ.St) :=
  match n with
  | ⟨id, id2, ty, _, _, ys, .q k off⟩ =>
    if size? P t = some d.cells.length ∧ off + d.cells.length ≤ ty.size ∧ d.cells.all V.one = true ∧ (ty.aggT = false → d.cells.length = 1 ∧ ty.size = 1) ∧ id ≠ id2 ∧ id ≠ lentId ∧ id2 ≠ lentId then
      match ys[k]? with
      | some x => match newEl ty x off d with
        | some y => some (e.mapT (updF id id2 ty k y))
        | none => none
      | none => none
    else none
  | _ => none

theorem Inv.frzN (hi : Inv Γ G w0 F0 O0 a w e) {id id2 : Nat} (h1 : id ≠ lentId) (h2 : id2 ≠ lentId) (ha : alive e (.o id)) (ha2 : alive e (.o id2)) : Inv Γ G w0 F0 O0 a w (e.mapT (Ve.frzN id id2)) := by
  obtain ⟨F, O, β, hc, hG, hsz, hdf, ht, hv⟩ := hi
  obtain ⟨p1, p2, p3, p4⟩ := hc.place (.o id) ha
  obtain ⟨r1, r2, r3, r4⟩ := hc.place (.o id2) ha2
  let F' : Blk → Prop := fun b => F b ∨ b = β.ob id ∨ b = β.ob id2
  let al' : Site → Prop := fun x => alive e x ∧ x ≠ .o id ∧ x ≠ .o id2
  have hcore : Core Γ w0 F0 O0 w F' O β al' e.st := by
    refine ⟨hc.keep, Γ.mono hc.sig (fun x hx => ⟨fun h => h.elim (fun h => h) (fun h => by rcases h with h | h <;> (subst h; cases hx)), .inl⟩) (fun _ _ => rfl) (fun _ _ h => ⟨.inl h, rfl⟩), hc.oin, ?_, hc.f0.trans ⟨fun _ h => .inl h, fun _ h => h.elim .inl (fun h => by grind)⟩ (Nat.le_refl _), ?_, fun x y hx hy => hc.dist x y hx.1 hy.1,
      hc.lent.step (fun b n _ hb ho hf => ⟨rfl, ho, fun h => h.elim hf (fun h => by
        have k1 : w0.heap.size ≤ β.ob id := p1.o h1
        have k2 : w0.heap.size ≤ β.ob id2 := r1.o h2
        grind)⟩)⟩
    · rintro b (hb | hb | hb)
      · exact hc.fin b hb
      · have hb := blk_eq hb; subst hb; exact ⟨.inr (p1.o h1), p2, p4⟩
      · have hb := blk_eq hb; subst hb; exact ⟨.inr (r1.o h2), r2, r4⟩
    · intro x hx
      obtain ⟨q1, q2, q3, q4⟩ := hc.place x hx.1
      refine ⟨q1, q2, fun hh => hh.elim q3 (fun hh => ?_), q4⟩
      rcases hh with hh | hh
      · exact hx.2.1 (hc.dist x (.o id) hx.1 ha (blk_eq hh))
      · exact hx.2.2 (hc.dist x (.o id2) hx.1 ha2 (blk_eq hh))
  have hext : Ext w F β al' w F' β al' := ⟨fun _ h => .inl h, fun _ _ => rfl, fun _ h => h, fun _ _ => rfl, fun _ _ => rfl⟩
  have hf : ∀ v x, TRel w F β (alive e) v x → TRel w F' β al' v (Ve.frzN id id2 x) := by
    intro v x hx
    have hoff : TRel w F' β al' v (T.offs id id2 x) := by
      unfold T.offs
      split
      · trivial
      · rename_i hn
        simp at hn
        exact TRel.ext hext (hx.on (T.sites_sub hx.sites (fun i hi h => ⟨h, fun hh => by grind, fun hh => by grind⟩) (fun s hs => ⟨hs, by simp, by simp⟩)))
    cases x with
    | on m =>
      obtain ⟨i, i2, ty, xs, j, ys, mm⟩ := m
      simp only [Ve.frzN]
      split
      · rename_i hid
        obtain ⟨rfl, rfl⟩ := hid
        cases mm with
        | s =>
          obtain ⟨_, _, c, et, cap2, k1, k2, k5, k6, k7, k8⟩ := hx
          simp only at k1 k2 k5 k6 k7
          refine .tl (.sl ty) _ v ?_
          rcases k8 with ⟨h0, a0, rfl⟩ | rfl
          · have h0 : xs = [] := List.length_eq_zero_iff.1 h0
            subst h0
            exact .slemp a0 0
          · have hrow : RowRel w F' (β.ob i) 1 c.size ((List.set xs j ys).map (Ty.sl ty).enc) := by
              refine ⟨c, et, k1, by simp, by simpa using k2, ?_, ?_⟩
              · intro q hq
                simp only [List.mem_map] at hq
                obtain ⟨z, _, rfl⟩ := hq
                rfl
              · intro i' jj q d u h3 h4 h5
                simp only [List.getElem?_map, Option.map_eq_some_iff] at h3
                obtain ⟨z, hz, rfl⟩ := h3
                have hjj : jj < 1 := (List.getElem?_eq_some_iff.1 h4).1
                obtain rfl : jj = 0 := by omega
                simp at h5
                have hd : d = .tl ty z := by
                  have : some (V.tl ty z) = some d := h4
                  grind
                subst hd
                by_cases hij : j = i'
                · subst hij
                  rw [k6] at h5
                  cases h5
                  have hlt : j < xs.length := by grind
                  rw [List.getElem?_set_self hlt] at hz
                  cases hz
                  refine .tl ty ys _ ?_
                  have := Row_rd k7 (F' := F') (fun b hb => .inl hb) (.inr (.inr rfl))
                  simpa using this
                · rw [List.getElem?_set_ne hij] at hz
                  exact (k5 i' z u (Ne.symm hij) hz h5).mono (fun b hb => .inl hb) (fun _ _ => rfl)
            have := Row_rd hrow (F' := F') (fun b hb => hb) (.inr (.inl rfl))
            simpa using this
        | _ => trivial
      · exact hoff
    | _ => exact hoff
  refine Inv.of (al := al') hcore (hG.ext hext) (by grind [Env.mapT]) hdf (fun t => by rw [get_mapT rfl]; grind) ?_ ?_
  · intro s cs hcs
    rw [var_mapT] at hcs
    simp at hcs
    obtain ⟨cs0, hcs0, rfl⟩ := hcs
    exact ⟨⟨⟨cs0, hcs0⟩, by simp, by simp⟩, (hv s cs0 hcs0).mapT rfl hf⟩
  · rintro s ⟨⟨cs, hcs⟩, _⟩
    grind [var_mapT]

theorem storeN_sim (hi : Inv Γ G w0 F0 O0 a w e) {t : TypeId} {n : Nst} {d : V} {ap xv : Operand} (hp : evx G e ap = .on n) (hx : evx G e xv = .p d)
    (h : evStoreN P e t n d = some e') : ∃ w', (Instr.storeAt t (a.eval ap) (a.eval xv)).run P w = .ok () w' ∧ Inv Γ G w0 F0 O0 a w' e' := by
  obtain ⟨id, id2, ty, xs, j, ys, mm⟩ := n
  cases mm with
  | q k off =>
    simp only [evStoreN] at h
    split at h
    · rename_i hcond
      obtain ⟨hs, hfit, hone, hag, hne2, hl1, hl2⟩ := hcond
      split at h
      · rename_i x hxk
        split at h
        · rename_i y hy
          cases h
          obtain ⟨F, O, β, hc, hG, hsz, hdf, ht, hv⟩ := hi
          have hpt := evx_sim hG ht ap
          have hxt := evx_sim hG ht xv
          rw [hp] at hpt
          rw [hx] at hxt
          obtain ⟨ha, ha2, c0, et0, cap2, k1, k2, k5, k6, k7, k8⟩ := hpt
          simp only at ha ha2 k1 k2 k5 k6 k7
          obtain ⟨hkl, hpv⟩ := k8
          simp only at hkl hpv
          have k7' := k7
          obtain ⟨c, et, g1, g2, g3, g4, g5⟩ := k7'
          have hq : (ys.map ty.enc)[k]? = some (ty.enc x) := by simp [hxk]
          have hag' : (ty.enc x).noAgg = true → d.cells.length = 1 ∧ ty.size = 1 := by
            intro hh
            refine hag ?_
            cases ty <;> first | rfl | (simp [Ty.enc, V.noAgg] at hh)
          have hrc := reElem_cells (q := ty.enc x) (d := d) (off := off) (k := ty.size) (enc_len ty x) hone hfit hag'
          have hre : (reElem (ty.enc x) (spliceV (ty.enc x).cells off d.cells)).cells.length = ty.size := by rw [hrc, spliceV_len, enc_len]
          obtain ⟨h1, h2, h3⟩ := cellsT_sim (xs := d.cells.map .p) hxt (by simp [T.cellsT, hone])
          simp at h1
          have hik : (k + 1) * ty.size ≤ cap2 * ty.size := Nat.mul_le_mul_right ty.size (by simp at g3; omega)
          rw [Nat.succ_mul] at hik
          have hrun : (Instr.storeAt t (a.eval ap) (a.eval xv)).run P w = .ok () (setBlk w (β.ob id2) (.cells (spliceA c (k * ty.size + off) (a.eval xv).cells.toList) et (0, 0))) := by
            have hst := run_storeCells (P := P) (b := β.ob id2) (off := k * ty.size + off) (et := et) (a.eval xv).cells.toList 0 w c g1 (by simp [h1]; omega) (fun u hu => h2 u (by simpa using hu))
            have hw : (if (a.eval xv).cells.toList = [] then w else setBlk w (β.ob id2) (.cells (spliceA c (k * ty.size + off + 0) (a.eval xv).cells.toList) et (0, 0))) = setBlk w (β.ob id2) (.cells (spliceA c (k * ty.size + off) (a.eval xv).cells.toList) et (0, 0)) := by
              split
              · rename_i hnil; rw [hnil]; exact (setBlk_self g1).symm
              · simp
            rw [hw] at hst
            simp [Instr.storeAt, hpv, Instr.sureAddr, storeVar, run_sizeOf hs, h1]
            exact hst
          refine ⟨_, hrun, ?_⟩
          obtain ⟨p1, p2, p3, p4⟩ := hc.place (.o id2) ha2
          have hFne : ∀ b' : Nat, F b' → b' ≠ β.ob id2 := fun b' hb hh => p3 (by rw [hh] at hb; exact hb)
          have hvne : ∀ s, alive e (.v s) → β.vb s ≠ β.ob id2 := fun s hs hh => by
            have := hc.dist (.v s) (.o id2) hs ha2 hh
            cases this
          have hone' : ∀ id', id' ≠ id2 → alive e (.o id') → β.ob id' ≠ β.ob id2 := fun id' hne hs hh => by
            have := hc.dist (.o id') (.o id2) hs ha2 hh
            grind
          have hrow : ∀ (zs : List ty.El) cap', RowRel w F (β.ob id2) ty.size cap' (zs.map ty.enc) → RowRel (setBlk w (β.ob id2) (.cells (spliceA c (k * ty.size + off) (a.eval xv).cells.toList) et (0, 0))) F (β.ob id2) ty.size cap' ((zs.set k y).map ty.enc) := by
            intro zs cap' hr0
            have hr := row_store (es0 := zs.map ty.enc) (i := k) (off := off) (d := d) (vs := (a.eval xv).cells.toList) hFne g1 p2 (fun jj d' u hj hu => g5 k jj (ty.enc x) d' u hq hj hu) (enc_len ty x) hfit hre hrc (by simp [h1]) (by grind)
              (fun m u z hu hz => h3 m u (.p z) (by simpa using hu) (by simp [hz])) hr0
            exact set_enc (reEl_wk (.refl _) hrc hy) hr
          have hf : ∀ v x, TRel w F β (alive e) v x → TRel (setBlk w (β.ob id2) (.cells (spliceA c (k * ty.size + off) (a.eval xv).cells.toList) et (0, 0))) F β (alive e) v (updN id id2 ty k y x) := by
            intro v x hx
            have hoff : TRel (setBlk w (β.ob id2) (.cells (spliceA c (k * ty.size + off) (a.eval xv).cells.toList) et (0, 0))) F β (alive e) v (T.offs id id2 x) := hx.offs hFne (fun i _ h2 ha => hone' i h2 ha)
            cases x with
            | on m =>
              obtain ⟨i, i2, t', xs', j', ys', mm'⟩ := m
              simp only [updN]
              split
              · rename_i hid
                obtain ⟨rfl, rfl⟩ := hid
                split
                · rename_i htt
                  subst htt
                  obtain ⟨_, _, c1, et1, cap1, q1, q2, q5, q6, q7, q8⟩ := hx
                  simp only at q1 q2 q5 q6 q7
                  refine ⟨ha, ha2, c1, et1, cap1, (setBlk_ne (hone' i hne2 ha)).trans q1, q2, fun i' x u a1 a2 a3 => Rd.setBlk hFne (q5 i' x u a1 a2 a3), ?_, hrow ys' cap1 q7, ?_⟩
                  all_goals grind
                · trivial
              · exact hoff
            | _ => exact hoff
          have hinv : Inv Γ G w0 F0 O0 a (setBlk w (β.ob id2) (.cells (spliceA c (k * ty.size + off) (a.eval xv).cells.toList) et (0, 0))) (e.mapT (updN id id2 ty k y)) := by
            refine Inv.of (al := alive e) (hc.setBlk ha2 _ (fun c' et' fl' hh => by rw [show w.heap[β.blk (.o id2)]? = _ from g1] at hh; simp at hh; exact ⟨_, _, _, rfl, by rw [spliceA_size, hh.1]⟩)) (fun g cs hg => (hG g cs hg).setBlk hFne) (by grind [Env.mapT]) hdf (fun t => by rw [get_mapT rfl]; grind) ?_ ?_
            · intro s cs hcs
              rw [var_mapT] at hcs
              simp at hcs
              obtain ⟨cs0, hcs0, rfl⟩ := hcs
              have ha' : alive e (.v s) := ⟨cs0, hcs0⟩
              exact ⟨ha', (hv s cs0 hcs0).mapT (setBlk_ne (hvne s ha')) hf⟩
            · rintro s ⟨cs, hcs⟩
              grind [var_mapT]
          have hal : ∀ i, i = id ∨ i = id2 → alive (e.mapT (updN id id2 ty k y)) (.o i) := by
            intro i hi
            have hop : evx G (e.mapT (updN id id2 ty k y)) ap = .on ⟨id, id2, ty, xs, j, ys.set k y, .q k off⟩ := by
              cases ap with
              | tmp p =>
                simp only [evx] at hp ⊢
                rw [get_mapT rfl, hp]
                simp [updN]
              | const v => grind [evx]
              | global g => grind [evx]
              | func f => cases hp
            cases ap with
            | tmp p =>
              rcases get_mem (e := e.mapT (updN id id2 ty k y)) (t := p) hop with hm | hm
              · exact ⟨_, .inl hm, by rcases hi with rfl | rfl <;> simp [T.hasO]⟩
              · cases hm
            | const v => grind [evx]
            | global g => grind [evx]
            | func f => cases hp
          have hfin := hinv.frzN hl1 hl2 (hal id (.inl rfl)) (hal id2 (.inr rfl))
          have hcomp : (e.mapT (updN id id2 ty k y)).mapT (Ve.frzN id id2) = e.mapT (updF id id2 ty k y) := by
            simp only [Env.mapT, List.map_map]
            congr 1
            refine List.map_congr_left (fun c _ => ?_)
            cases c with
            | none => rfl
            | some cs => simp [updF]
          grind
        · cases h
      · cases h
    · cases h
  | _ => simp [evStoreN] at h

/-- The row that is lent stays the frame's own. -/
def frzOE (id : Nat) (e : Env Γ.St) : Env Γ.St :=
  match Nat.beq id lentId with
  | true => e
  | false => e.mapT (frzOT id)

theorem Inv.frzOE (hi : Inv Γ G w0 F0 O0 a w e) (id : Nat) : Inv Γ G w0 F0 O0 a w (Ve.frzOE id e) := by
  unfold Ve.frzOE
  split
  · exact hi
  · rename_i hb
    exact hi.frzO (fun h => by simp_all)

/-- What a value needs to be pure. -/
def frzCells (e : Env Γ.St) : List T → Env Γ.St
  | [] => e
  | .ow id _ _ :: r => frzCells (frzOE id e) r
  | .ot id _ _ :: r => frzCells (frzOE id e) r
  | _ :: r => frzCells e r

def frzT1 (x : T) (e : Env Γ.St) : Env Γ.St :=
  match x with
  | .ow id _ _ => frzOE id e
  | .oe id _ _ _ _ => frzOE id e
  | .ot id _ _ => frzOE id e
  | .lp s _ => match e.var s with
    | some cs => match (frzCells e cs).var s with
      | some cs' => match pureCells cs' with
        | some ds => (frzCells e cs).frzV s ds
        | none => frzCells e cs
      | none => frzCells e cs
    | none => e
  | _ => e

theorem Inv.frzCells : ∀ (cs : List T) (e : Env Γ.St), Inv Γ G w0 F0 O0 a w e → Inv Γ G w0 F0 O0 a w (Ve.frzCells e cs) := by
  intro cs
  induction cs with
  | nil => intro e h; exact h
  | cons c cs ih =>
    intro e h
    cases c with
    | ow id k es => exact ih _ (h.frzOE id)
    | ot id t xs => exact ih _ (h.frzOE id)
    | _ => exact ih _ h

theorem Inv.frzT1 (h : Inv Γ G w0 F0 O0 a w e) (x : T) : Inv Γ G w0 F0 O0 a w (Ve.frzT1 x e) := by
  unfold Ve.frzT1
  split
  · exact h.frzOE _
  · exact h.frzOE _
  · exact h.frzOE _
  · split
    · rename_i cs hcs
      have h1 := Inv.frzCells cs e h
      split
      · rename_i cs' hcs'
        split
        · rename_i ds hds; exact h1.frzV hcs' hds
        · exact h1
      · exact h1
    · exact h
  · exact h

def frzOps (G : Nat → Option (List V)) : List Operand → Env Γ.St → Env Γ.St
  | [], e => e
  | x :: r, e => frzOps G r (frzT1 (evx G e x) e)

theorem Inv.frzOps : ∀ (xs : List Operand) (e : Env Γ.St), Inv Γ G w0 F0 O0 a w e → Inv Γ G w0 F0 O0 a w (Ve.frzOps G xs e) := by
  intro xs
  induction xs with
  | nil => intro e h; exact h
  | cons x xs ih => intro e h; exact ih _ (h.frzT1 _)

end

section
variable {Γ : Sig} (P : Look) (G : Nat → Option (List V)) (S : Specs Γ)

def evW (e : Env Γ.St) (o : Oper) : Option (Env Γ.St) :=
  match o.op with
  | .store t ap x => match o.dst with
    | some _ => none
    | none => match evx G e ap with
      | .lp s off => evStoreV e P t s off (evx G e x)
      | .oe id k es i off => match evx G e x with
        | .p d => evStoreO P e t id k es i off d
        | _ => none
      | .oet id ty xs i off => match evx G e x with
        | .p d => evStoreT P e t id ty xs i off d
        | .ot id2 t2 ys => evStoreIn P e t id ty i off id2 t2 ys
        | _ => none
      | .on n => match evx G e x with
        | .p d => evStoreN P e t n d
        | _ => none
      | _ => none
  | .call c => match evAppendT P G e o.dst c with
    | some e1 => some e1
    | none => match evAppendV P G e o.dst c with
      | some e1 => some e1
      | none => evAppend P G e o.dst c
  | .mapUpdate t m k v => match o.dst with
    | some _ => none
    | none => match evx G e m, flatT (evx G e k), flatT (evx G e v) with
      | .mp id es ck, some k, some v => evUpd P e t id es ck k v
      | _, _, _ => none
  | _ => none

def evQA (e : Env Γ.St) (o : Oper) : Option (Env Γ.St) :=
  match evQ P G S e o with
  | some r => applyR e o.dst r
  | none => none

/-- What is frozen where an operation does not go otherwise: of a store what is stored, else every operand. -/
def frzSel (o : Oper) : List Operand :=
  match o.op with
  | .store _ _ x => [x]
  | .mapUpdate _ _ _ v => [v]
  | _ => o.op.operands.toList

/-- One operation, whatever it is. -/
def evAny (e : Env Γ.St) (o : Oper) : Option (Env Γ.St) :=
  match evQA P G S e o with
  | some e1 => some e1
  | none => match evW P G e o with
    | some e1 => some e1
    | none => match evQA P G S (frzOps G (frzSel o) e) o with
      | some e1 => some e1
      | none => evW P G (frzOps G (frzSel o) e) o

end

section
variable {Γ : Sig} {P : Program} {G : Nat → Option (List V)} {S : Specs Γ} {o : Oper} {a : Act} {w0 : World} {F0 : Blk → Prop} {O0 : Lent} {w : World} {e e' : Env Γ.St}

theorem evW_sim (hi : Inv Γ G w0 F0 O0 a w e) (h : evW P G e o = some e') {Q : Exit → Act → World → Prop} : o.wp P a w (fun a' w' => Inv Γ G w0 F0 O0 a' w' e') Q := by
  obtain ⟨dst, op, type, pos, after, guard⟩ := o
  unfold evW at h
  split at h
  · rename_i t ap x hop
    cases hop
    split at h
    · cases h
    · rename_i hd
      cases hd
      have hfin : ∀ w', (Instr.storeAt t (a.eval ap) (a.eval x)).run P w = .ok () w' → Inv Γ G w0 F0 O0 a w' e' → (⟨none, .store t ap x, type, pos, after, guard⟩ : Oper).wp P a w (fun a' w' => Inv Γ G w0 F0 O0 a' w' e') Q := by
        intro w' hr hinv
        unfold Oper.wp
        have : (execOp a.eval ⟨none, .store t ap x, type, pos, after, guard⟩).run P w = .ok .skip w' := by simp [execOp, hr]
        rw [this]
        exact hinv
      split at h
      · rename_i s off hp
        obtain ⟨w', h1, h2⟩ := storeV_sim (P := P) hi hp rfl h
        grind
      all_goals grind [storeO_sim, storeT_sim, storeIn_sim, storeN_sim, id]
  · grind [Option.some.injEq, appendT_sim, appendV_sim, append_sim]
  · rename_i t m k v hop
    cases hop
    split at h
    · cases h
    · rename_i hd
      cases hd
      split at h
      · rename_i id es ck kv vv hm hk hv
        obtain ⟨w', h1, h2⟩ := upd_sim (P := P) hi hm hk hv h
        unfold Oper.wp
        have : (execOp a.eval ⟨none, .mapUpdate t m k v, type, pos, after, guard⟩).run P w = .ok .skip w' := by simp [execOp, h1]
        rw [this]
        exact h2
      · cases h
  · cases h

theorem evQA_sim (hS : Table Γ P G S) (hi : Inv Γ G w0 F0 O0 a w e) (h : evQA P G S e o = some e') {Q : Exit → Act → World → Prop} : o.wp P a w (fun a' w' => Inv Γ G w0 F0 O0 a' w' e') Q := by
  grind [seq_Q, evQA]

theorem evAny_sim (hS : Table Γ P G S) (hi : Inv Γ G w0 F0 O0 a w e) (h : evAny P G S e o = some e') {Q : Exit → Act → World → Prop} : o.wp P a w (fun a' w' => Inv Γ G w0 F0 O0 a' w' e') Q := by
  unfold evAny at h
  split at h
  · grind [Option.some.injEq, evQA_sim]
  · split at h
    · grind [Option.some.injEq, evW_sim]
    · split at h
      · rename_i e1 h1; simp at h; subst h; exact evQA_sim hS (Inv.frzOps _ _ hi) h1
      · exact evW_sim (Inv.frzOps _ _ hi) h
end
end Go.Ve

namespace Go.Ve
open Go

section
variable {Γ : Sig} (P : Look) (G : Nat → Option (List V)) (S : Specs Γ)

/-- One operation behind the other. -/
def evStep (ops : Array Oper) (e : Env Γ.St) (o : Oper) : Option (Env Γ.St) :=
  match wantedV ops e o with
  | some true => evAny P G S e o
  | some false => some (e.put o.dst (.p (.val undef)))
  | none => none

def evSeq (ops : Array Oper) : List Oper → Env Γ.St → Option (Env Γ.St)
  | [], e => some e
  | o :: rest, e => match evStep P G S ops e o with
    | some e1 => evSeq ops rest e1
    | none => none

def isW (o : Oper) : Bool :=
  match o.op with
  | .store _ _ _ => true
  | .mapUpdate _ _ _ _ => true
  | .call c => match c.callee with
    | .builtin .append => true
    | _ => false
  | _ => false

/-- Where the tail begins: at the first operation that writes. -/
def tailAt : List Oper → Nat
  | [] => 0
  | o :: r => if isW o then 0 else tailAt r + 1

def tailOk (ops : Array Oper) (k : Nat) : Bool :=
  if k = ops.size then true else
  let anc := Region.before ops
  ancOk ops anc && (List.range ops.size).all fun j => match ops[j]? with
    | some o => o.after.all (fun e => !Region.binds .any e || decide (e.on < j)) && (decide (j < k) || (List.range j).all fun i => (anc.getD j 0).testBit i)
    | none => true

def guardOk (ops : Array Oper) (k : Nat) : Bool :=
  (List.range k).all fun i => match ops[i]? with
    | some o => match o.guard with
      | some (j, _) => decide (j < k)
      | none => true
    | none => true

/-- Everything that the region's calls are handed is pure from the region's beginning on. -/
def callOperands : List Oper → List Operand
  | [] => []
  | o :: r => if isCall o && !isW o then o.op.operands.toList ++ callOperands r else callOperands r

def evDrawK (ops : Array Oper) (k : Nat) (e : Env Γ.St) : Option (Env Γ.St) :=
  match evDraw P G S (ops.extract 0 k) e with
  | some e1 => evSeq P G S ops (ops.toList.drop k) e1
  | none => none

def evDrawT (ops : Array Oper) (e : Env Γ.St) : Option (Env Γ.St) :=
  if tailAt ops.toList ≤ ops.size && tailOk ops (tailAt ops.toList) && guardOk ops (tailAt ops.toList) then
    match evDrawK P G S ops (tailAt ops.toList) e with
    | some e1 => some e1
    | none => evDrawK P G S ops (tailAt ops.toList) (frzOps G (callOperands ops.toList) e)
  else none
end

section
variable {Γ : Sig} {P : Program} {G : Nat → Option (List V)} {S : Specs Γ} {w0 : World} {F0 : Blk → Prop} {O0 : Lent} {a : Act} {w : World} {e e' : Env Γ.St} {ops : Array Oper} {k : Nat}

/-- By the machine: an operation takes every world of state e to one of state e1. -/
def OpOk (P : Program) (G : Nat → Option (List V)) (e : Env Γ.St) (o : Oper) (e1 : Env Γ.St) : Prop :=
  ∀ (w0 : World) (F0 : Blk → Prop) (O0 : Lent) (a : Act) (w : World) (Q : Exit → Act → World → Prop), Inv Γ G w0 F0 O0 a w e → o.wp P a w (fun a' w' => Inv Γ G w0 F0 O0 a' w' e1) Q

def StepR (P : Program) (G : Nat → Option (List V)) (ops : Array Oper) (e : Env Γ.St) (o : Oper) (e1 : Env Γ.St) : Prop :=
  (wantedV ops e o = some true ∧ OpOk P G e o e1) ∨ (wantedV ops e o = some false ∧ e1 = e.put o.dst (.p (.val undef)))

inductive SeqR (P : Program) (G : Nat → Option (List V)) (ops : Array Oper) : List Oper → Env Γ.St → Env Γ.St → Prop
  | nil (e : Env Γ.St) : SeqR P G ops [] e e
  | cons {o : Oper} {rest : List Oper} {e e1 e' : Env Γ.St} : StepR P G ops e o e1 → SeqR P G ops rest e1 e' → SeqR P G ops (o :: rest) e e'

theorem stepR_of (hS : Table Γ P G S) {o : Oper} (h : evStep P G S ops e o = some e') : StepR P G ops e o e' := by
  unfold evStep at h
  split at h
  · rename_i hw; exact .inl ⟨hw, fun w0 F0 O0 a w Q hi => evAny_sim hS hi h⟩
  · rename_i hw; simp at h; exact .inr ⟨hw, h.symm⟩
  · cases h

theorem seqR_of (hS : Table Γ P G S) : ∀ {l : List Oper} {e e' : Env Γ.St}, evSeq P G S ops l e = some e' → SeqR P G ops l e e' := by
  intro l
  induction l with
  | nil => intro e e' h; cases h; exact .nil e
  | cons o l ih =>
    intro e e' h
    simp only [evSeq] at h
    split at h
    · rename_i e1 he1; exact .cons (stepR_of hS he1) (ih h)
    · cases h

theorem stepR_op {o : Oper} {Q : Exit → Act → World → Prop} {K : Act → World → Prop} {i : Nat} (hi : ops[i]? = some o) (h : StepR P G ops e o e') (hinv : Inv Γ G w0 F0 O0 a w e)
    (hK : ∀ a w, Inv Γ G w0 F0 O0 a w e' → K a w) : wpOp P ops Q i K a w := by
  unfold wpOp
  simp only [hi]
  obtain ⟨F, O, β, hc, hG, hsz, hdf, ht, hv⟩ := hinv
  rcases h with ⟨hw, h⟩ | ⟨hw, h⟩
  · rw [wanted_eq (fun t _ => ht t) hsz hw, if_pos rfl]
    exact .inl (Oper.wp_mono hK (h w0 F0 O0 a w Q ⟨F, O, β, hc, hG, hsz, hdf, ht, hv⟩))
  · rw [wanted_eq (fun t _ => ht t) hsz hw]
    simp
    subst h
    refine hK _ _ ?_
    refine Inv.of (al := alive e) (by cases o.dst <;> exact hc) hG ?_ ?_ ?_ ?_ ?_
    · cases hd : o.dst <;> simp [Act.put, Env.put, hsz]
    · cases hd : o.dst <;> exact hdf
    · intro t
      cases hd : o.dst with
      | none => exact ht t
      | some d =>
        rw [tmps_put]
        simp only [Env.put]
        rw [get_set, hsz]
        split
        · exact Rd.val _
        · exact ht t
    · intro s cs hcs
      have : (e.put o.dst (.p (.val undef))).var s = e.var s := by cases o.dst <;> rfl
      rw [this] at hcs
      exact ⟨⟨cs, hcs⟩, hv s cs hcs⟩
    · intro s hs
      have : (e.put o.dst (.p (.val undef))).var s = e.var s := by cases o.dst <;> rfl
      rw [this]; exact hs

theorem seq_ops (ops : Array Oper) {Q : Exit → Act → World → Prop} : ∀ (n : Nat) (l : List Oper) (e e' : Env Γ.St) (a : Act) (w : World),
    ops.toList.drop n = l → SeqR P G ops l e e' → Inv Γ G w0 F0 O0 a w e → (∀ a w, Inv Γ G w0 F0 O0 a w e' → Q .normal a w) →
    wpOps P ops Q (List.range' n l.length) a w := by
  intro n l
  induction l generalizing n with
  | nil =>
    intro e e' a w _ h hi hQ
    cases h
    exact hQ a w hi
  | cons o rest ih =>
    intro e e' a w hl h hi hQ
    cases h with
    | cons he1 h =>
      rename_i e1
      have hat : ops[n]? = some o := by
        have : (ops.toList.drop n)[0]? = some o := by rw [hl]; rfl
        grind
      grind [List.tail_drop, List.length_cons, List.range'_succ, wpOps_cons, stepR_op]

structure Tail (ops : Array Oper) (k : Nat) : Prop where
  edge : ∀ (i : Nat) (o : Oper) (e : Edge), ops[i]? = some o → e ∈ o.after → Region.binds .any e = true → e.on < i
  last : ∀ (listed : Nat → Prop), (∀ (i : Nat) (o : Oper) (e : Edge), ops[i]? = some o → listed i → e ∈ o.after → Region.binds .any e = true → listed e.on) →
    ∀ (j i : Nat) (o : Oper), ops[j]? = some o → k ≤ j → i < j → (∀ e, e ∈ o.after → Region.binds .any e = true → listed e.on) → listed i

theorem tail_of (h : tailOk ops k = true) (hne : k ≠ ops.size) : Tail ops k := by
  unfold tailOk at h
  rw [if_neg hne] at h
  simp only [Bool.and_eq_true] at h
  obtain ⟨hanc, hall⟩ := h
  generalize Region.before ops = anc at hanc hall
  have hone : ∀ j o, ops[j]? = some o → (o.after.all (fun e => !Region.binds .any e || decide (e.on < j)) && (decide (j < k) || (List.range j).all fun i => (anc.getD j 0).testBit i)) = true := by
    grind
  have hedge : ∀ (i : Nat) (o : Oper) (e : Edge), ops[i]? = some o → e ∈ o.after → Region.binds .any e = true → e.on < i := by
    intro i o e ho he hb
    have h1 := hone i o ho
    rw [Bool.and_eq_true] at h1
    grind [Array.all_eq_true_iff_forall_mem]
  have hcl : ∀ (listed : Nat → Prop), (∀ (i : Nat) (o : Oper) (e : Edge), ops[i]? = some o → listed i → e ∈ o.after → Region.binds .any e = true → listed e.on) →
      ∀ (i : Nat) (o : Oper) (j : Nat), ops[i]? = some o → j < i → (anc.getD i 0).testBit j = true → (∀ e, e ∈ o.after → Region.binds .any e = true → listed e.on) → listed j := by
    intro listed hdown i
    induction i using Nat.strongRecOn with
    | _ i ih =>
      intro o j ho hji hbit hi
      have hlt : i < ops.size := (Array.getElem?_eq_some_iff.1 ho).1
      have h1 := List.all_eq_true.1 hanc i (List.mem_range.2 hlt)
      simp only [ho] at h1
      have h2 := List.all_eq_true.1 h1 j (List.mem_range.2 hji)
      simp only [hbit, Bool.not_true, Bool.false_or, Array.any_eq_true', Bool.and_eq_true, Bool.or_eq_true, decide_eq_true_eq, beq_iff_eq] at h2
      obtain ⟨e, he, ⟨hb, hon⟩, hj⟩ := h2
      have hle := hi e he hb
      rcases hj with rfl | ⟨hjlt, hbit'⟩
      · exact hle
      · have hlt' : e.on < ops.size := by omega
        have ho' : ops[e.on]? = some ops[e.on] := by simp [hlt']
        exact ih e.on hon ops[e.on] j ho' hjlt hbit' (fun e2 he2 hb2 => hdown e.on _ e2 ho' hle he2 hb2)
  refine ⟨hedge, ?_⟩
  intro listed hdown j i o ho hkj hij hdeps
  have h1 := hone j o ho
  rw [Bool.and_eq_true] at h1
  have h2 := h1.2
  simp only [Bool.or_eq_true, decide_eq_true_eq] at h2
  have h3 := h2.resolve_left (by omega)
  exact hcl listed hdown j o i ho hij (List.all_eq_true.1 h3 i (List.mem_range.2 hij)) hdeps

theorem wpAny_tail (ht : Tail ops k) {Q : Exit → Act → World → Prop} : ∀ (l : List Oper) (j : Nat) (e e' : Env Γ.St) (fuel : Nat) (listed : Array Bool) (a : Act) (w : World),
    k ≤ j → ops.toList.drop j = l → SeqR P G ops l e e' → listed.size = ops.size → (∀ i, i < ops.size → listed.getD i true = decide (i < j)) → Inv Γ G w0 F0 O0 a w e → l.length ≤ fuel →
    (∀ a w, Inv Γ G w0 F0 O0 a w e' → Q .normal a w) → wpAny P .any ops Q fuel listed a w := by
  intro l
  induction l with
  | nil =>
    intro j e e' fuel listed a w hkj hl hev hls hlist hinv hfuel hQ
    cases hev
    have hge : ops.size ≤ j := by simpa using hl
    have hr : Region.ready .any ops listed = [] := by
      apply List.eq_nil_iff_forall_not_mem.2
      grind [mem_ready, Array.getElem?_eq_some_iff]
    grind [wpAny_done]
  | cons o rest ih =>
    intro j e e' fuel listed a w hkj hl hev hls hlist hinv hfuel hQ
    cases hev with
    | cons he1 hev =>
      rename_i e1
      have hat : ops[j]? = some o := by
        have : (ops.toList.drop j)[0]? = some o := by rw [hl]; rfl
        grind
      have hjlt : j < ops.size := (Array.getElem?_eq_some_iff.1 hat).1
      have hrest : ops.toList.drop (j + 1) = rest := by grind [List.tail_drop]
      cases fuel with
      | zero => simp at hfuel
      | succ fuel =>
        have hdown : ∀ (i : Nat) (o : Oper) (e : Edge), ops[i]? = some o → listed.getD i true = true → e ∈ o.after → Region.binds .any e = true → listed.getD e.on true = true := by
          intro i oi ed hi hli hed hb
          have hlt : i < ops.size := (Array.getElem?_eq_some_iff.1 hi).1
          have hon := ht.edge i oi ed hi hed hb
          grind
        refine ⟨fun hr => ?_, ?_⟩
        · exfalso
          have : j ∈ Region.ready .any ops listed := by
            rw [mem_ready]
            refine ⟨by grind, o, hat, ?_⟩
            intro ed hed hb
            have hon := ht.edge j o ed hat hed hb
            grind
          grind
        · intro i hi
          obtain ⟨hun, oi, ho, hdeps⟩ := mem_ready.1 hi
          have hlt : i < ops.size := (Array.getElem?_eq_some_iff.1 ho).1
          have hij : j ≤ i := by grind
          have hdeps' : ∀ ed, ed ∈ oi.after → Region.binds .any ed = true → listed.getD ed.on true = true := by
            grind
          have hii : i = j := by
            rcases Nat.lt_or_ge j i with h | h
            · exfalso
              have := ht.last (fun k => listed.getD k true = true) hdown i j oi ho (by omega) h hdeps'
              grind
            · omega
          subst hii
          refine stepR_op hat he1 hinv ?_
          intro a' w' hinv'
          refine ih (i + 1) e1 e' fuel _ a' w' (by omega) hrest hev (by simpa using hls) ?_ hinv' (by simpa using hfuel) hQ
          grind [getD_set]

theorem extract_get {i : Nat} (hi : i < k) : (ops.extract 0 k)[i]? = ops[i]? := by
  grind

theorem wpOp_extract {Q : Exit → Act → World → Prop} {K : Act → World → Prop} {i : Nat} (hi : i < k) (hg : guardOk ops k = true) (h : wpOp P (ops.extract 0 k) Q i K a w) : wpOp P ops Q i K a w := by
  unfold wpOp at *
  rw [extract_get hi] at h
  cases ho : ops[i]? with
  | none => grind
  | some o =>
    rw [ho] at h
    simp only at h ⊢
    have hw : Region.wanted o (yielded (ops.extract 0 k) a.tmps) = Region.wanted o (yielded ops a.tmps) := by
      unfold Region.wanted
      cases hgd : o.guard with
      | none => rfl
      | some gw =>
        obtain ⟨j, want⟩ := gw
        have h1 := List.all_eq_true.1 hg i (List.mem_range.2 hi)
        simp_all [extract_get, yielded]
    grind

theorem wpAny_drawK (hm : k ≤ ops.size) (hst : Static (ops.extract 0 k)) (htl : tailOk ops k = true) (hgd : guardOk ops k = true) (hS : Table Γ P G S) {sts : Nat → Γ.St} {e1 e' : Env Γ.St}
    (hsteps : ∀ (i : Nat) (o : Oper), (ops.extract 0 k)[i]? = some o → StepAt P G S (ops.extract 0 k) e1 (sts i) o (sts (i + 1))) (hlast : sts k = e1.st)
    (htail : SeqR P G ops (ops.toList.drop k) e1 e')
    {Q : Exit → Act → World → Prop} (hQ : ∀ a w, Inv Γ G w0 F0 O0 a w e' → Q .normal a w) : ∀ (fuel : Nat) (listed : Array Bool) (a : Act) (w : World), listed.size = ops.size →
    listed.count false ≤ fuel → (∀ i, k ≤ i → i < ops.size → listed.getD i true = false) →
    (∀ (i : Nat) (o : Oper) (e : Edge), ops[i]? = some o → listed.getD i true = true → e ∈ o.after → Region.binds .any e = true → listed.getD e.on true = true) →
    (∃ F O β al m, PInv Γ G w0 F0 O0 (ops.extract 0 k) e1 sts (listed.extract 0 k) a w F O β al m) → wpAny P .any ops Q fuel listed a w := by
  have hks : (ops.extract 0 k).size = k := by simp; omega
  have hlk : ∀ (listed : Array Bool) (i : Nat), i < k → (listed.extract 0 k).getD i true = listed.getD i true := by
    intro listed i hi
    simp
    grind
  have hinvOf : ∀ (listed : Array Bool) (a : Act) (w : World), (∀ i, i < k → listed.getD i true = true) → (∃ F O β al m, PInv Γ G w0 F0 O0 (ops.extract 0 k) e1 sts (listed.extract 0 k) a w F O β al m) → Inv Γ G w0 F0 O0 a w e1 := by
    rintro listed a w hall ⟨F, O, β, al, m, hp⟩
    have hkn : ∀ t, Known (ops.extract 0 k) (listed.extract 0 k) t := fun t i o ho hl => by
      grind
    have heq : ∀ q, m + q ≤ k → sts (m + q) = sts m := by
      intro q
      induction q with
      | zero => intro _; rfl
      | succ q ih =>
        intro hq
        have hlt : m + q < (ops.extract 0 k).size := by omega
        have hj : (ops.extract 0 k)[m + q]? = some (ops.extract 0 k)[m + q] := by grind
        have hnc : isCall (ops.extract 0 k)[m + q] = false := by
          cases hc : isCall (ops.extract 0 k)[m + q] with
          | false => rfl
          | true => have := (hp.calls _ _ hj hc).1 (by grind); omega
        rw [← ih (by omega)]
        rcases hsteps (m + q) _ hj with ⟨_, r', hev', hst'', _, _⟩ | ⟨_, hst'', _⟩
        all_goals grind [Nat.add_assoc, st_of_nocall, evQ_nc]
    have hmle := hp.mle
    have hlst : sts m = e1.st := by
      grind [Nat.add_sub_cancel']
    refine Inv.of (al := al) (by rw [← hlst]; exact hp.core) hp.g hp.size hp.defers (fun t => hp.tm t (hkn t)) ?_ hp.lp
    intro s cs hcs
    have ha := hp.vk s cs hcs (hkn s)
    exact ⟨ha, hp.var s cs hcs ha⟩
  have hdone : ∀ (fuel : Nat) (listed : Array Bool) (a : Act) (w : World), listed.size = ops.size → listed.count false ≤ fuel → (∀ i, k ≤ i → i < ops.size → listed.getD i true = false) →
      (∀ i, i < k → listed.getD i true = true) → Inv Γ G w0 F0 O0 a w e1 → wpAny P .any ops Q fuel listed a w := by
    intro fuel listed a w hls hcnt htf hall hinv
    by_cases hke : k = ops.size
    · have hnil : ops.toList.drop k = [] := by rw [hke]; simp
      rw [hnil] at htail
      cases htail
      have hr : Region.ready .any ops listed = [] := by
        apply List.eq_nil_iff_forall_not_mem.2
        grind [mem_ready, Array.getElem?_eq_some_iff]
      grind [wpAny_done]
    · have htail' := tail_of htl hke
      refine wpAny_tail htail' _ k e1 e' fuel listed a w (Nat.le_refl _) rfl htail hls ?_ hinv ?_ hQ
      · grind
      · have hle : (ops.toList.drop k).length ≤ listed.count false := by
          have h1 : listed = listed.extract 0 k ++ listed.extract k listed.size := by
            apply arr_ext
            intro i
            rw [Array.getElem?_append]
            simp only [Array.size_extract, Array.getElem?_extract]
            grind
          have h2 : listed.extract k listed.size = Array.replicate (listed.size - k) false := by
            apply arr_ext
            intro i
            rw [Array.getElem?_extract, Array.getElem?_replicate]
            by_cases hi : i < listed.size - k
            · rw [if_pos (by omega), if_pos hi]
              have := htf (k + i) (by omega) (by omega)
              rw [Array.getD_eq_getD_getElem?, Array.getElem?_eq_getElem (by omega), Option.getD_some] at this
              rw [Array.getElem?_eq_getElem (by omega), this]
            grind
          rw [h1, Array.count_append, h2]
          simp
          omega
        omega
  intro fuel
  induction fuel with
  | zero =>
    intro listed a w hls hcnt htf hdown hp
    have hall : ∀ i, i < k → listed.getD i true = true := by
      intro i hi
      cases hl : listed.getD i true with
      | true => rfl
      | false =>
        exfalso
        have h0 : listed.count false = 0 := by omega
        rw [Array.count_eq_zero] at h0
        apply h0
        have h : i < listed.size := by omega
        simp [h] at hl
        grind
    exact hdone 0 listed a w hls hcnt htf hall (hinvOf listed a w hall hp)
  | succ fuel ih =>
    intro listed a w hls hcnt htf hdown hp
    by_cases hall : ∀ i, i < k → listed.getD i true = true
    · exact hdone (fuel + 1) listed a w hls hcnt htf hall (hinvOf listed a w hall hp)
    · have hmin : ∃ i, i < k ∧ listed.getD i true = false ∧ ∀ j, j < i → listed.getD j true = true := by
        have : ∀ n, n ≤ k → (∀ i, i < n → listed.getD i true = true) ∨ ∃ i, i < n ∧ listed.getD i true = false ∧ ∀ j, j < i → listed.getD j true = true := by
          intro n
          induction n with
          | zero => grind
          | succ n ihn =>
            intro hn
            rcases ihn (by omega) with h | ⟨i, h1, h2, h3⟩
            · cases hl : listed.getD n true with
              | true => grind
              | false => grind
            grind
        rcases this k (Nat.le_refl _) with h | ⟨i, h1, h2, h3⟩
        all_goals grind
      obtain ⟨i0, hi0, hun0, hbel⟩ := hmin
      refine ⟨fun hr => ?_, ?_⟩
      · exfalso
        have hlt : i0 < ops.size := by omega
        have : i0 ∈ Region.ready .any ops listed := by
          rw [mem_ready]
          refine ⟨hun0, ops[i0], by simp [hlt], ?_⟩
          intro ed hed hb
          have hon := hst.edge i0 ops[i0] ed (by grind) hed hb
          grind
        grind
      · intro i hi
        obtain ⟨hun, o, ho, hdeps⟩ := mem_ready.1 hi
        have hlt : i < ops.size := (Array.getElem?_eq_some_iff.1 ho).1
        have hin : i < listed.size := by omega
        have hdeps' : ∀ ed, ed ∈ o.after → Region.binds .any ed = true → listed.getD ed.on true = true := by
          grind [Nat.lt_or_ge, getD_tf, Array.getD_eq_getD_getElem?, Array.getElem?_eq_none]
        have hik : i < k := by
          rcases Nat.lt_or_ge i k with h | h
          · exact h
          · exfalso
            have hke : k ≠ ops.size := by omega
            have htail' := tail_of htl hke
            have := htail'.last (fun q => listed.getD q true = true) hdown i i0 o ho h (by omega) hdeps'
            grind
        obtain ⟨F, O, β, al, m, hp⟩ := hp
        refine wpOp_extract hik hgd ?_
        refine pinv_step hst hS hsteps hp (by simp; omega) ?_ (by rw [extract_get hik]; exact ho) (by grind) ?_ ?_
        · intro j oj ed hj hl hed hb
          have hjk : j < k := by grind
          have hon := hst.edge j oj ed hj hed hb
          rw [hlk listed j hjk] at hl
          rw [hlk listed ed.on (by omega)]
          grind [extract_get]
        · grind
        · intro a' w' F' O' β' al' m' hp'
          have hset : (listed.extract 0 k).setIfInBounds i true = (listed.setIfInBounds i true).extract 0 k := by
            apply arr_ext
            intro q
            rw [Array.getElem?_extract]
            by_cases hq : q = i
            · subst hq
              rw [Array.getElem?_setIfInBounds_self_of_lt (by simp; omega), if_pos (by simp; omega)]
              grind
            · rw [Array.getElem?_setIfInBounds_ne (Ne.symm hq), Array.getElem?_extract]
              simp only [Array.size_setIfInBounds, Nat.zero_add]
              rw [Array.getElem?_setIfInBounds_ne (Ne.symm hq)]
          rw [hset] at hp'
          refine ih (listed.setIfInBounds i true) a' w' (by simpa using hls) ?_ ?_ ?_ ⟨F', O', β', al', m', hp'⟩
          · have hli : listed[i] = false := by simpa [hin] using hun
            rw [Array.setIfInBounds_def, dif_pos hin, Array.count_set hin, hli]
            simp
            omega
          · intro q hq1 hq2
            rw [getD_set _ _ _ hin, if_neg (by omega)]; grind
          · intro j oj ed hj hl hed hb
            rw [getD_set _ _ _ hin] at hl ⊢
            split
            · rfl
            · by_cases hji : j = i
              all_goals grind

theorem drawR_sim (hmix : P.follows .mixedOrders = true) (hS : Table Γ P G S) (hi : Inv Γ G w0 F0 O0 a w e) (hk : k ≤ ops.size) (htl : tailOk ops k = true) (hgd : guardOk ops k = true)
    {e1 : Env Γ.St} (he1 : evDraw P G S (ops.extract 0 k) e = some e1) (hev : SeqR P G ops (ops.toList.drop k) e1 e') {id : Nat} {Q : Exit → Act → World → Prop} (hQ : ∀ a w, Inv Γ G w0 F0 O0 a w e' → Q .normal a w) : (Code.region id ops true).wp P Q a w := by
  · unfold evDraw at he1
    split at he1
    · rename_i hok
      have hst := static_of hok
      have hah := ahead_of hst 0 (ops.extract 0 k).toList (by simp)
      have hno : ∀ d, d ∈ dstsOf (ops.extract 0 k).toList → (killAll (dstsOf (ops.extract 0 k).toList) e).var d = none := by
        intro d hd
        cases hv : (killAll (dstsOf (ops.extract 0 k).toList) e).var d with
        | none => rfl
        | some cs => exact absurd ⟨cs, hv⟩ (killAll_alive _ e d hd).1
      obtain ⟨sts, h0, hn, hsteps, hg, hv, hl⟩ := drawGo_trace _ _ _ he1 hah hno
      have hks : (ops.extract 0 k).size = k := by simp; omega
      have hsteps' : ∀ (i : Nat) (o : Oper), (ops.extract 0 k)[i]? = some o → StepAt P G S (ops.extract 0 k) e1 (sts i) o (sts (i + 1)) := fun i o ho => hsteps i o (by grind)
      refine wp_region_any hmix ?_
      obtain ⟨F, O, β, hc, hG, hsz, hdf, ht, hvv⟩ := (hi.killAll (dstsOf (ops.extract 0 k).toList)).drew (w.drawn + 1) (Nat.le_succ _)
      have hrep : (Array.replicate ops.size false).extract 0 k = Array.replicate k false := by
        grind
      have hnotin : ∀ t, Known (ops.extract 0 k) (Array.replicate k false) t → t ∉ dstsOf (ops.extract 0 k).toList := by
        intro t hkn hin
        simp only [dstsOf, List.mem_filterMap] at hin
        obtain ⟨o, hm', hd⟩ := hin
        obtain ⟨i, hi', rfl⟩ := List.getElem_of_mem hm'
        have hi'' : i < (ops.extract 0 k).size := by simpa using hi'
        refine hkn i (ops.extract 0 k)[i] (Array.getElem?_eq_getElem hi'') (by simp_all) (by grind)
      refine wpAny_drawK hk hst htl hgd hS hsteps' (by grind) hev hQ ops.size _ a _ (by simp) (by simp) ?_ ?_ ⟨F, O, β, alive (killAll (dstsOf (ops.extract 0 k).toList) e), 0, ?_⟩
      · simp_all
      · intro i o ed ho hlst
        have hi'' : i < ops.size := (Array.getElem?_eq_some_iff.1 ho).1
        simp [hi''] at hlst
      · rw [hrep]
        refine ⟨by rw [h0]; exact hc, hG, by omega, hdf, ?_, ?_, ?_, ?_, ?_, Nat.zero_le _, ?_⟩
        · grind
        · intro s cs hcs hs
          obtain ⟨cs0, hcs0⟩ := hs
          grind
        · intro s hs
          obtain ⟨cs0, hcs0⟩ := hs
          grind
        · intro s cs hcs hkn
          rw [hv s (hnotin s hkn)] at hcs
          exact ⟨cs, hcs⟩
        · grind [killAll_alive, Array.mem_of_getElem?, dstsOf]
        · intro i o ho _
          have hi'' : i < (ops.extract 0 k).size := (Array.getElem?_eq_some_iff.1 ho).1
          have : i < k := by omega
          simp [this]
    · cases he1

theorem drawK_sim (hmix : P.follows .mixedOrders = true) (hS : Table Γ P G S) (hi : Inv Γ G w0 F0 O0 a w e) (hk : k ≤ ops.size) (htl : tailOk ops k = true) (hgd : guardOk ops k = true)
    (hev : evDrawK P G S ops k e = some e') {id : Nat} {Q : Exit → Act → World → Prop} (hQ : ∀ a w, Inv Γ G w0 F0 O0 a w e' → Q .normal a w) : (Code.region id ops true).wp P Q a w := by
  unfold evDrawK at hev
  split at hev
  · rename_i e1 he1
    exact drawR_sim hmix hS hi hk htl hgd he1 (seqR_of hS hev) hQ
  · cases hev

theorem drawT_sim (hmix : P.follows .mixedOrders = true) (hS : Table Γ P G S) (hi : Inv Γ G w0 F0 O0 a w e) (hev : evDrawT P G S ops e = some e') {id : Nat}
    {Q : Exit → Act → World → Prop} (hQ : ∀ a w, Inv Γ G w0 F0 O0 a w e' → Q .normal a w) : (Code.region id ops true).wp P Q a w := by
  unfold evDrawT at hev
  split at hev
  · rename_i hcond
    simp at hcond
    obtain ⟨⟨h1, h2⟩, h3⟩ := hcond
    split at hev
    · grind [Option.some.injEq, drawK_sim]
    · exact drawK_sim hmix hS (Inv.frzOps _ _ hi) h1 h2 h3 hev hQ
  · cases hev
end
end Go.Ve

namespace Go.Ve
open Go

inductive X where
  | normal
  | exit (id : Nat)
  | ret

def X.toExit : X → Exit
  | .normal => .normal
  | .exit id => .exit id
  | .ret => .ret

def X.out (id : Nat) : X → X
  | .exit id' => if id' = id then .normal else .exit id'
  | x => x

section
variable {Γ : Sig} (P : Look) (G : Nat → Option (List V)) (S : Specs Γ)

inductive Ev : Code → Env Γ.St → X → Env Γ.St → Prop
  | skip (e) : Ev .skip e .normal e
  | seqN {x y : Code} {e e1 e2 : Env Γ.St} {k : X} : Ev x e .normal e1 → Ev y e1 k e2 → Ev (.seq x y) e k e2
  | seqX {x y : Code} {e e1 : Env Γ.St} {k : X} : Ev x e k e1 → k ≠ .normal → Ev (.seq x y) e k e1
  | condT {c : Operand} {x y : Code} {e e1 : Env Γ.St} {k : X} : evx G e c = .p (.val (.bool true)) → Ev x e k e1 → Ev (.cond c x y) e k e1
  | condF {c : Operand} {x y : Code} {e e1 : Env Γ.St} {k : X} : evx G e c = .p (.val (.bool false)) → Ev y e k e1 → Ev (.cond c x y) e k e1
  | block {id : Nat} {c : Code} {e e1 : Env Γ.St} {k : X} : Ev c e k e1 → Ev (.block id c) e (k.out id) e1
  | loop {c : Code} {e e1 : Env Γ.St} {k : X} (n : Nat) (es : Nat → Env Γ.St) : es 0 = e → (∀ i, i < n → Ev c (es i) .normal (es (i + 1))) → Ev c (es n) k e1 → k ≠ .normal → Ev (.loop c) e k e1
  | exit (id : Nat) (e) : Ev (.exit id) e (.exit id) e
  | ret (e) : Ev .ret e .ret e
  | seqR {id : Nat} {ops : Array Oper} {e e1 : Env Γ.St} : evSeq P G S ops ops.toList e = some e1 → Ev (.region id ops false) e .normal e1
  | drawR {id : Nat} {ops : Array Oper} {e e1 : Env Γ.St} : evDrawT P G S ops e = some e1 → Ev (.region id ops true) e .normal e1
end

section
variable {Γ : Sig} {P : Program} {G : Nat → Option (List V)} {S : Specs Γ} {w0 : World} {F0 : Blk → Prop} {O0 : Lent}

theorem wp_loop_n {c : Code} {Q : Exit → Act → World → Prop} (J : Nat → Act → World → Prop)
    (round : ∀ n a w, J n a w → c.wp P (Exit.then (fun a' w' => ∃ m, m < n ∧ J m a' w') Q) a w) {n : Nat} {a : Act} {w : World} (h0 : J n a w) : (Code.loop c).wp P Q a w := by
  intro b k cs
  have key : ∀ n a w, J n a w → ∃ e a' w', Q e a' w' ∧ Arrives P (lone (b.at a (.code c :: .inLoop c :: k)) cs w) b k cs e a' w' := by
    intro n
    induction n using Nat.strongRecOn with
    | _ n ih =>
      intro a w hJ
      obtain ⟨e, a₁, w₁, hq, harr⟩ := round n a w hJ b (.inLoop c :: k) cs
      cases e with
      | normal =>
        obtain ⟨m, hlt, hJ₁⟩ := hq
        obtain ⟨e₂, a₂, w₂, hq₂, harr₂⟩ := ih m hlt a₁ w₁ hJ₁
        exact ⟨e₂, a₂, w₂, hq₂, .of_steps (Steps.trans harr (.one step_inLoop)) harr₂⟩
      | exit id => exact ⟨_, a₁, w₁, hq, .pass (x := .inLoop c) rfl (fun _ _ => .inl (by simp)) harr⟩
      | goto l => exact ⟨_, a₁, w₁, hq, .pass (x := .inLoop c) rfl (fun _ _ => .inl (by simp)) harr⟩
      | ret => exact ⟨_, a₁, w₁, hq, .pass (x := .inLoop c) rfl (fun _ _ => .inl (by simp)) harr⟩
      | panic ch => exact ⟨_, a₁, w₁, hq, .pass (x := .inLoop c) rfl (fun _ _ => .inl (by simp)) harr⟩
      | outgrown => exact ⟨_, a₁, w₁, hq, .pass (x := .inLoop c) rfl (fun _ _ => .inl (by simp)) harr⟩
  obtain ⟨e, a', w', hq, harr⟩ := key n a w h0
  exact ⟨e, a', w', hq, .of_steps (.one step_loop) harr⟩

theorem ev_sim (hm : P.follows .mixedOrders = true) (hS : Table Γ P G S) {c : Code} {e e' : Env Γ.St} {k : X} (h : Ev P G S c e k e') : ∀ {a : Act} {w : World}, Inv Γ G w0 F0 O0 a w e →
    c.wp P (fun ex a' w' => ex = k.toExit ∧ Inv Γ G w0 F0 O0 a' w' e') a w := by
  induction h with
  | skip e => intro a w hi; exact wp_skip ⟨rfl, hi⟩
  | seqN h1 h2 ih1 ih2 =>
    intro a w hi
    refine wp_seq (wp_mono (ih1 hi) ?_)
    rintro ex a' w' ⟨rfl, hi'⟩
    exact ih2 hi'
  | seqX h1 hne ih1 =>
    rename_i x y e0 e1 k
    intro a w hi
    refine wp_seq (wp_mono (ih1 hi) ?_)
    rintro ex a' w' ⟨rfl, hi'⟩
    cases k with
    | normal => grind
    | exit id => exact ⟨rfl, hi'⟩
    | ret => exact ⟨rfl, hi'⟩
  | condT hc h1 ih1 =>
    rename_i c0 x0 y0 e0 e1 k0
    intro a w hi
    obtain ⟨F, O, β, hcr, hG, hsz, hdf, ht, hv⟩ := hi
    have h2 := evx_sim (e := e0) hG ht c0
    rw [hc] at h2
    exact wp_cond_true (Rd.eq_val h2) (ih1 ⟨F, O, β, hcr, hG, hsz, hdf, ht, hv⟩)
  | condF hc h1 ih1 =>
    rename_i c0 x0 y0 e0 e1 k0
    intro a w hi
    obtain ⟨F, O, β, hcr, hG, hsz, hdf, ht, hv⟩ := hi
    have h2 := evx_sim (e := e0) hG ht c0
    rw [hc] at h2
    exact wp_cond_false (Rd.eq_val h2) (ih1 ⟨F, O, β, hcr, hG, hsz, hdf, ht, hv⟩)
  | block h1 ih1 =>
    rename_i id c e0 e1 k
    intro a w hi
    refine wp_block (wp_mono (ih1 hi) ?_)
    rintro ex a' w' ⟨rfl, hi'⟩
    cases k with
    | normal => exact ⟨rfl, hi'⟩
    | exit id' =>
      simp [X.toExit, Exit.inBlock, X.out]
      grind
    | ret => exact ⟨rfl, hi'⟩
  | loop n es h0 h1 h2 hne ih1 ih2 =>
    rename_i c e0 e1 k
    intro a w hi
    refine wp_loop_n (fun j a w => ∃ i, i + j = n ∧ Inv Γ G w0 F0 O0 a w (es i)) ?_ (n := n) ⟨0, by omega, by rw [h0]; exact hi⟩
    rintro j a w ⟨i, hij, hi'⟩
    by_cases hlt : i < n
    · refine wp_mono (ih1 i hlt hi') ?_
      rintro ex a' w' ⟨rfl, hi''⟩
      exact ⟨j - 1, by omega, i + 1, by omega, hi''⟩
    · obtain rfl : i = n := by omega
      refine wp_mono (ih2 hi') ?_
      rintro ex a' w' ⟨rfl, hi''⟩
      cases k with
      | normal => grind
      | exit id => exact ⟨rfl, hi''⟩
      | ret => exact ⟨rfl, hi''⟩
  | exit id e => intro a w hi; exact wp_exit ⟨rfl, hi⟩
  | ret e => intro a w hi; exact wp_ret ⟨rfl, hi⟩
  | seqR hev =>
    rename_i id ops e0 e1
    intro a w hi
    refine wp_region ?_
    have := seq_ops (Q := fun ex a' w' => ex = X.toExit .normal ∧ Inv Γ G w0 F0 O0 a' w' e1) ops 0 ops.toList e0 e1 a w (by simp) (seqR_of hS hev) hi (fun a w h => ⟨rfl, h⟩)
    grind [List.range_eq_range']
  | drawR hev =>
    intro a w hi
    exact drawT_sim hm hS hi hev (fun a w h => ⟨rfl, h⟩)
end
end Go.Ve
