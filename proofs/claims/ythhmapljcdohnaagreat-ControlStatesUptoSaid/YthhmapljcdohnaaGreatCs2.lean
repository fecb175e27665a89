/-
  The evaluator over pure values, part 5: the other operations that write nothing of old, and all of them together.
  The shapes of the program's data.
-/
import Derived.Test.YthhmapljcdohnaaGreatCs1
set_option linter.unusedVariables false
namespace Go.Ve
open Go

section
variable {Γ : Sig} {P : Program} {G : Nat → Option (List V)} {S : Specs Γ} {e : Env Γ.St} {o : Oper} {a : Act} {w : World} {F : Blk → Prop} {β : Lay} {al : Site → Prop} {st : Γ.St}

theorem fieldOf_some {t : TypeId} {i : Nat} {f : Field} (h : fieldOf P t i = some f) : ∃ fs, P.underlying t = some (.struct fs) ∧ fs[i]? = some f := by
  grind [fieldOf]

theorem partV_sim {t : TypeId} {cs : List V} {off : Nat} {d : V} {c : Array Value} (hl : c.size = cs.length)
    (hr : ∀ (i : Nat) (x : Value) (d : V), c[i]? = some x → cs[i]? = some d → Rd w F x d)
    (h : partV P t cs off = some d) : ∃ v, (part t c off).run P w = .ok v w ∧ Rd w F v d := by
  unfold partV at h
  split at h
  · rename_i ha
    split at h
    · rename_i n hn
      cases h
      refine ⟨_, by simp [part, run_isAgg ha, run_sizeOf hn]; rfl, ?_⟩
      refine .agg _ _ (by simp; omega) ?_
      grind
    · cases h
  · rename_i ha
    have hlt : off < c.size := by grind
    refine ⟨c[off], by simp [part, run_isAgg ha, hlt], hr off _ d (by simp [hlt]) h⟩
  · cases h

theorem evFieldAddr0_sim {t : TypeId} {i : Nat} {x : T} {v : Value} {r : R Γ.St} (hx : TRel w F β al v x) (h : evFieldAddr0 P t i x = some r) :
    ∃ u y, r = .ret y ∧ (Instr.fieldAt t v i).run P w = .ok u w ∧ TRel w F β al u y := by
  unfold evFieldAddr0 at h
  split at h
  · rename_i f hf
    obtain ⟨fs, hu, hfi⟩ := fieldOf_some hf
    split at h
    · rename_i n hn
      have hrun : ∀ b off, (Instr.fieldAt t (.pointer (some ⟨b, off, none⟩)) i).run P w = .ok (.pointer (some ⟨b, off + f.offset, none⟩)) w := by
        simp_all [run_underlying?, run_sizeOf, add_eq, Instr.fieldAt, Instr.sureAddr, fieldPlace]
      split at h
      · rename_i cs
        cases h
        cases hx with
        | pp b off cs g hF hg hr =>
          refine ⟨_, _, rfl, hrun b off, ?_⟩
          refine Rd.pp b (off + f.offset) _ (fun m => g (f.offset + m)) hF ?_ ?_
          all_goals grind
      · rename_i cs
        cases h
        cases hx with
        | hp id b off cs cs' hF hc =>
          refine ⟨_, _, rfl, hrun b off, Rd.hp id b (off + f.offset) _ cs' hF fun m d hd => ?_⟩
          grind
      · rename_i ty y
        cases h
        cases hx with
        | pt _ id b x hF =>
          refine ⟨_, _, rfl, hrun b 0, Rd.hp id b (0 + f.offset) _ _ hF fun m d hd => ?_⟩
          grind
      · rename_i s off
        cases h
        obtain ⟨ha, rfl⟩ := hx
        exact ⟨_, _, rfl, hrun _ _, ha, rfl⟩
      · rename_i id k es j off
        cases h
        obtain ⟨ha, hi, cap, rfl, hrow⟩ := hx
        exact ⟨_, _, rfl, hrun _ _, ha, hi, cap, by grind, hrow⟩
      · cases h
    · cases h
  · cases h

theorem evFieldAddr_sim {t : TypeId} {i : Nat} {x : T} {v : Value} {r : R Γ.St} (hx : TRel w F β al v x) (h : evFieldAddr P t i x = some r) :
    ∃ u y, r = .ret y ∧ (Instr.fieldAt t v i).run P w = .ok u w ∧ TRel w F β al u y := by
  cases x with
  | oet id ty xs j off =>
    simp only [evFieldAddr] at h
    split at h
    · rename_i f hf
      split at h
      · rename_i n hn
        cases h
        obtain ⟨u, y, h1, h2, h3⟩ := evFieldAddr0_sim (P := P) (t := t) (i := i) (r := .ret (.oe id ty.size (xs.map ty.enc) j (off + f.offset))) (Γ := Γ) (TRel_un.1 hx) (by simp [T.un, evFieldAddr0, hf, hn])
        cases h1
        exact ⟨u, _, rfl, h2, TRel_un.2 h3⟩
      · cases h
    · cases h
  | on n =>
    obtain ⟨id, id2, ty, xs, j, ys, m⟩ := n
    simp [evFieldAddr, evFieldAddrN] at h
    split at h
    · rename_i k off
      split at h
      · rename_i f hf
        obtain ⟨fs, hu, hfi⟩ := fieldOf_some hf
        split at h
        · rename_i n hn
          cases h
          obtain ⟨a1, a2, c, et, cap2, k1, k2, k5, k6, k7, k8⟩ := hx
          simp only [NM.Rel] at k8
          obtain ⟨k8, rfl⟩ := k8
          refine ⟨_, _, rfl, ?_, a1, a2, c, et, cap2, k1, k2, k5, k6, k7, k8, rfl⟩
          simp [Instr.fieldAt, run_underlying? hu, hfi, Instr.sureAddr, fieldPlace, run_sizeOf hn, add_eq, Nat.add_assoc]
        · cases h
      · cases h
    · cases h
  | _ => exact evFieldAddr0_sim hx h

theorem run_indexAt_slice {t el : TypeId} {z : Nat} {k : IntKind} {i : Int} {b off len cap : Nat} (hu : P.underlying t = some (.slice el)) (hz : size? P el = some z)
    (h0 : 0 ≤ i) (h1 : i < len) : (Instr.indexAt t (.slice (some ⟨b, off, none⟩) len cap) (.int k i)).run P w = .ok (.pointer (some ⟨b, off + i.toNat * z, none⟩)) w := by
  simp [Instr.indexAt, asIntOf, run_underlying? hu, h0, h1, run_sizeOf hz, add_eq]

theorem run_indexAt_array {t el : TypeId} {z n : Nat} {k : IntKind} {i : Int} {b off : Nat} (hu : P.underlying t = some (.array n el)) (hz : size? P el = some z)
    (h0 : 0 ≤ i) (h1 : i < n) : (Instr.indexAt t (.pointer (some ⟨b, off, none⟩)) (.int k i)).run P w = .ok (.pointer (some ⟨b, off + i.toNat * z, none⟩)) w := by
  simp [Instr.indexAt, Instr.sureAddr, asIntOf, run_underlying? hu, h0, h1, run_sizeOf hz, add_eq]

theorem evIndexAddr0_sim {t : TypeId} {k : IntKind} {i : Int} {x : T} {v : Value} {r : R Γ.St} (hx : TRel w F β al v x) (h : evIndexAddr0 P t x i = some r) :
    ∃ u y, r = .ret y ∧ (Instr.indexAt t v (.int k i)).run P w = .ok u w ∧ TRel w F β al u y := by
  unfold evIndexAddr0 at h
  split at h
  · rename_i h0
    split at h
    · rename_i el es hu
      split at h
      · rename_i d hd
        split at h
        · rename_i hz
          cases h
          have hlt := (List.getElem?_eq_some_iff.1 hd).1
          cases hx with
          | slemp a0 cap0 => simp at hlt
          | sl b off cap k' es g hF hcap hk hg hr =>
            have hk' := hk d (List.mem_of_getElem? hd)
            refine ⟨_, _, rfl, run_indexAt_slice hu hz h0 (by omega), ?_⟩
            rw [hk']
            refine Rd.pp b _ _ (fun m => g (i.toNat * k' + m)) hF ?_ ?_
            · intro m hm
              rw [hk'] at hm
              rw [Nat.add_assoc]
              refine hg _ ?_
              have : (i.toNat + 1) * k' ≤ es.length * k' := Nat.mul_le_mul_right k' (by omega)
              grind
            grind
        · cases h
      · cases h
    · rename_i el id k' es hu
      split at h
      · rename_i hc
        cases h
        obtain ⟨ha, cap, rfl, hrow⟩ := hx
        refine ⟨_, _, rfl, run_indexAt_slice hu hc.2 h0 (by omega), ha, hc.1, cap, by simp, hrow⟩
      · cases h
    · rename_i n el cs hu
      split at h
      · rename_i z hz
        split at h
        · rename_i h1
          cases h
          cases hx with
          | pp b off cs g hF hg hr =>
            refine ⟨_, _, rfl, run_indexAt_array hu hz h0 h1, ?_⟩
            refine Rd.pp b _ _ (fun m => g (i.toNat * z + m)) hF ?_ ?_
            all_goals grind
        · cases h
      · cases h
    · rename_i n el cs hu
      split at h
      · rename_i ty hty
        split at h
        · rename_i hz
          split at h
          · rename_i xs hxs
            split at h
            · rename_i x hxi
              cases h
              obtain ⟨hl, hel⟩ := unxs_sound hxs
              have hlt := (List.getElem?_eq_some_iff.1 hxi).1
              cases hx with
              | hp id b off cs cs' hF hc =>
                refine ⟨_, _, rfl, run_indexAt_array hu hz h0 (by omega), Rd.hp id b _ _ cs' hF fun m d hd => ?_⟩
                grind
            · cases h
          · cases h
        · cases h
      · cases h
    · rename_i n el s off hu
      split at h
      · rename_i z hz
        split at h
        · rename_i h1
          cases h
          obtain ⟨ha, rfl⟩ := hx
          exact ⟨_, _, rfl, run_indexAt_array hu hz h0 h1, ha, rfl⟩
        · cases h
      · cases h
    · rename_i n el id k' es j off hu
      split at h
      · rename_i z hz
        split at h
        · rename_i h1
          cases h
          obtain ⟨ha, hi, cap, rfl, hrow⟩ := hx
          exact ⟨_, _, rfl, run_indexAt_array hu hz h0 h1, ha, hi, cap, by grind, hrow⟩
        · cases h
      · cases h
    · cases h
  · cases h

theorem evIndexAddr_sim {t : TypeId} {k : IntKind} {i : Int} {x : T} {v : Value} {r : R Γ.St} (hx : TRel w F β al v x) (h : evIndexAddr P t x i = some r) :
    ∃ u y, r = .ret y ∧ (Instr.indexAt t v (.int k i)).run P w = .ok u w ∧ TRel w F β al u y := by
  unfold evIndexAddr at h
  split at h
  · rename_i n
    obtain ⟨id, id2, ty, xs, j, ys, m⟩ := n
    simp only [evIndexAddrN] at h
    split at h
    · rename_i h0
      split at h
      · rename_i el hu
        have hu' : P.underlying t = some (.slice el) := hu
        obtain ⟨a1, a2, c, et, cap2, k1, k2, k5, k6, k7, k8⟩ := hx
        split at h
        · split at h
          · rename_i hc
            obtain ⟨hz, hlt⟩ := hc
            cases h
            simp only [NM.Rel] at k8
            rcases k8 with ⟨k8, _⟩ | k8
            · omega
            subst k8
            refine ⟨_, _, rfl, run_indexAt_slice hu' hz h0 (by omega), a1, a2, c, et, cap2, k1, k2, k5, k6, k7, hlt, ?_⟩
            simp
          · cases h
        · split at h
          · rename_i hc
            obtain ⟨hz, hlt⟩ := hc
            cases h
            simp only [NM.Rel] at k8
            subst k8
            refine ⟨_, _, rfl, run_indexAt_slice hu' hz h0 (by omega), a1, a2, c, et, cap2, k1, k2, k5, k6, k7, hlt, ?_⟩
            simp
          · cases h
        · cases h
      · cases h
    · cases h
  · rename_i ty xs
    split at h
    · rename_i h0
      split at h
      · rename_i el hu
        have hu' : P.underlying t = some (.slice el) := hu
        split at h
        · rename_i hz
          split at h
          · rename_i x hx'
            refine evIndexAddr0_sim (TRel_un.1 hx) ?_
            simp_all [enc_cells, cells_len, T.un, evIndexAddr0]
          · cases h
        · cases h
      · cases h
    · cases h
  · rename_i id ty xs
    split at h
    · rename_i h0
      split at h
      · rename_i el hu
        have hu' : P.underlying t = some (.slice el) := hu
        split at h
        · rename_i hz
          split at h
          · rename_i hlt
            cases h
            have hne : xs ≠ [] := by grind
            have hun : (T.ot id ty xs).un = .ow id ty.size (xs.map ty.enc) := by
              cases xs with
              | nil => grind
              | cons x xs => rfl
            have hx' := TRel_un.1 hx
            rw [hun] at hx'
            obtain ⟨u, y, h1, h2, h3⟩ := evIndexAddr0_sim (P := P) (t := t) (i := i) (k := k) (Γ := Γ) (r := .ret (.oe id ty.size (xs.map ty.enc) i.toNat 0)) hx' (by simp [evIndexAddr0, h0, hu', hlt, hz])
            cases h1
            exact ⟨u, _, rfl, h2, TRel_un.2 h3⟩
          · cases h
        · cases h
      · cases h
    · cases h
  · rename_i id ty xs j off
    split at h
    · rename_i h0
      split at h
      · rename_i n el hu
        have hu' : P.underlying t = some (.array n el) := hu
        split at h
        · rename_i z hz
          split at h
          · rename_i hlt
            cases h
            obtain ⟨u, y, h1, h2, h3⟩ := evIndexAddr0_sim (P := P) (t := t) (i := i) (k := k) (Γ := Γ) (r := .ret (.oe id ty.size (xs.map ty.enc) j (off + i.toNat * z))) (TRel_un.1 hx) (by simp_all [T.un, evIndexAddr0])
            cases h1
            exact ⟨u, _, rfl, h2, TRel_un.2 h3⟩
          · cases h
        · cases h
      · cases h
    · cases h
  · exact evIndexAddr0_sim hx h

theorem rd_sl_len {v : Value} {es : List V} (h : Rd w F v (.sl es)) : ∃ a cap, v = .slice a es.length cap ∧ es.length ≤ cap := by
  cases h with
  | slemp a cap => simp_all
  | sl b off cap k es g hF hcap hk hg hr => grind

theorem evLen_sim {t el : TypeId} {x : T} {v : Value} {r : R Γ.St} {c : Call} (hx : TRel w F β al v x) (h : evLen x = some r) (hu : P.underlying t = some (.slice el))
    (ht : c.argTypes[0]? = some t) (ty : TypeId) : ∃ u y, r = .ret y ∧ (Builtin.len_ c.argTypes ty #[v]).run P w = .ok u w ∧ TRel w F β al u y := by
  unfold evLen at h
  split at h
  · rename_i ty xs
    cases h
    obtain ⟨a0, cap, rfl, _⟩ := rd_sl_len (Rd.untl hx)
    exact ⟨_, _, rfl, by simp [Builtin.len_, ht, run_underlying? hu, goInt], .val _⟩
  · rename_i id ty xs
    cases h
    rcases hx with ⟨h0, a0, rfl⟩ | ⟨hne, ha, cap, rfl, hrow⟩
    · have : xs = [] := by simpa using h0
      subst this
      exact ⟨_, _, rfl, by simp [Builtin.len_, ht, run_underlying? hu, goInt], .val _⟩
    · exact ⟨_, _, rfl, by simp [Builtin.len_, ht, run_underlying? hu, goInt], .val _⟩
  · rename_i es
    cases h
    obtain ⟨a0, cap, rfl, _⟩ := rd_sl_len hx
    exact ⟨_, _, rfl, by simp [Builtin.len_, ht, run_underlying? hu, goInt], .val _⟩
  · rename_i id k es
    cases h
    obtain ⟨ha, cap, rfl, hrow⟩ := hx
    exact ⟨_, _, rfl, by simp [Builtin.len_, ht, run_underlying? hu, goInt], .val _⟩
  · cases h
    obtain ⟨a0, rfl⟩ := hx
    exact ⟨_, _, rfl, by simp [Builtin.len_, ht, run_underlying? hu, goInt], .val _⟩
  · cases h
    cases hx with
    | rfn => exact ⟨_, _, rfl, by simp [Builtin.len_, ht, run_underlying? hu, goInt, rfLen], .val _⟩
    | rf id a n c h0 => exact ⟨_, _, rfl, by simp [Builtin.len_, ht, run_underlying? hu, goInt, rfLen], .val _⟩
  · cases h

theorem rd_sl_some {v : Value} {x : V} {es : List V} (h : Rd w F v (.sl (x :: es))) : ∃ (a : Addr) (n cap : Nat), v = .slice (some a) n cap := by
  cases h with
  | sl b off cap k es g hF hcap hk hg hr => grind

/-- The cells of a value that is no struct. -/
theorem rd_cells {v : Value} {d : V} (h : Rd w F v d) (hd : d.leafy = true) : v.cells.size = d.cells.length ∧
    ∀ (i : Nat) (x : Value) (y : V), v.cells[i]? = some x → d.cells[i]? = some y → Rd w F x y := by
  cases h with
  | agg cs ds hl h => exact ⟨hl, h⟩
  | val =>
    cases v with
    | agg cs => simp [V.leafy] at hd
    | _ =>
      refine ⟨rfl, ?_⟩
      intro i x y h1 h2
      cases i with
      | zero => simp [Value.cells, V.cells] at h1 h2; subst h1 h2; exact .val _
      | succ i => simp [V.cells] at h2
  | tup cs ds hl h =>
    refine ⟨rfl, ?_⟩
    intro i x y h1 h2
    cases i with
    | zero => simp [Value.cells, V.cells] at h1 h2; subst h1 h2; exact .tup cs ds hl h
    | succ i => simp [V.cells] at h2
  | slemp a0 cap0 =>
    refine ⟨rfl, ?_⟩
    intro i x y h1 h2
    cases i with
    | zero => simp [Value.cells, V.cells] at h1 h2; subst h1 h2; exact .slemp a0 cap0
    | succ i => simp [V.cells] at h2
  | sl b off cap k es g hF hcap hk hg hr =>
    refine ⟨rfl, ?_⟩
    intro i x y h1 h2
    cases i with
    | zero => simp [Value.cells, V.cells] at h1 h2; subst h1 h2; exact .sl b off cap k es g hF hcap hk hg hr
    | succ i => simp [V.cells] at h2
  | clo f cs ds hl h =>
    refine ⟨rfl, ?_⟩
    intro i x y h1 h2
    cases i with
    | zero => simp [Value.cells, V.cells] at h1 h2; subst h1 h2; exact .clo f cs ds hl h
    | succ i => simp [V.cells] at h2
  | pp b off cs g hF hg hr =>
    refine ⟨rfl, ?_⟩
    intro i x y h1 h2
    cases i with
    | zero => simp [Value.cells, V.cells] at h1 h2; subst h1 h2; exact .pp b off cs g hF hg hr
    | succ i => simp [V.cells] at h2
  | tl t xs v h0 =>
    obtain ⟨a0, cap0, rfl, _⟩ := rd_sl_len h0
    refine ⟨rfl, ?_⟩
    intro i x y h1 h2
    cases i with
    | zero => simp [Value.cells, V.cells] at h1 h2; subst h1 h2; exact .tl t xs _ (by simpa using h0)
    | succ i => simp [V.cells] at h2
  | rfn =>
    refine ⟨rfl, ?_⟩
    intro i x y h1 h2
    cases i with
    | zero => simp [Value.cells, V.cells] at h1 h2; subst h1 h2; exact .rfn
    | succ i => simp [V.cells] at h2
  | rf id a0 n0 c0 h0 =>
    refine ⟨rfl, ?_⟩
    intro i x y h1 h2
    cases i with
    | zero => simp [Value.cells, V.cells] at h1 h2; subst h1 h2; exact .rf id a0 n0 c0 h0
    | succ i => simp [V.cells] at h2
  | hd id a0 h0 =>
    refine ⟨rfl, ?_⟩
    intro i x y h1 h2
    cases i with
    | zero => simp [Value.cells, V.cells] at h1 h2; subst h1 h2; exact .hd id a0 h0
    | succ i => simp [V.cells] at h2
  | ptn t =>
    refine ⟨rfl, ?_⟩
    intro i x y h1 h2
    cases i with
    | zero => simp [Value.cells, V.cells] at h1 h2; subst h1 h2; exact .ptn t
    | succ i => simp [V.cells] at h2
  | pt t id b x0 h0 =>
    refine ⟨rfl, ?_⟩
    intro i x y h1 h2
    cases i with
    | zero => simp [Value.cells, V.cells] at h1 h2; subst h1 h2; exact .pt t id b x0 h0
    | succ i => simp [V.cells] at h2
  | hp id b off cs cs' h0 hc =>
    refine ⟨rfl, ?_⟩
    intro i x y h1 h2
    cases i with
    | zero => simp [Value.cells, V.cells] at h1 h2; subst h1 h2; exact .hp id b off cs cs' h0 hc
    | succ i => simp [V.cells] at h2

/-- Cells side by side. -/
def Cells (w : World) (F : Blk → Prop) (c : Array Value) (ds : List V) : Prop :=
  c.size = ds.length ∧ ∀ (i : Nat) (x : Value) (y : V), c[i]? = some x → ds[i]? = some y → Rd w F x y

theorem Cells.set {c : Array Value} {ds : List V} (h : Cells w F c ds) (m : Nat) {x : Value} {y : V} (hx : Rd w F x y) : Cells w F (c.setIfInBounds m x) (ds.set m y) := by
  refine ⟨by simp [h.1], ?_⟩
  intro i x' y' h1 h2
  by_cases hi : m = i
  · grind
  · rw [Array.getElem?_setIfInBounds_ne hi] at h1
    rw [List.getElem?_set_ne hi] at h2
    exact h.2 i x' y' h1 h2

theorem fold_cells (off : Nat) : ∀ (vs : List Value) (ds : List V) (n : Nat) (c : Array Value) (cs : List V),
    vs.length = ds.length → (∀ (i : Nat) (x : Value) (y : V), vs[i]? = some x → ds[i]? = some y → Rd w F x y) → Cells w F c cs →
    Cells w F ((vs.zipIdx n).foldl (fun cs (c, j) => cs.setIfInBounds (off + j) c) c) ((ds.zipIdx n).foldl (fun cs (c, j) => cs.set (off + j) c) cs) := by
  intro vs
  induction vs with
  | nil => intro ds n c cs hl _ hc; cases ds with
    | nil => exact hc
    | cons d ds => simp at hl
  | cons v vs ih =>
    intro ds n c cs hl hr hc
    cases ds with
    | nil => simp at hl
    | cons d ds =>
      simp
      exact ih ds (n + 1) _ _ (by simpa using hl) (fun i x y h1 h2 => hr (i + 1) x y (by simpa using h1) (by simpa using h2)) (hc.set _ (hr 0 v d rfl rfl))

theorem fillV_sim (place : Nat → Option (Nat × Nat)) : ∀ (ps : List (Nat × Value)) (qs : List (Nat × V)) (c : Array Value) (cs ds : List V),
    ps.length = qs.length → (∀ (i : Nat) (x : Nat × Value) (y : Nat × V), ps[i]? = some x → qs[i]? = some y → x.1 = y.1 ∧ Rd w F x.2 y.2) → Cells w F c cs →
    fillV place cs qs = some ds → ∃ c', Instr.fill place c ps = some c' ∧ Cells w F c' ds := by
  intro ps
  induction ps with
  | nil =>
    intro qs c cs ds hl _ hc h
    cases qs with
    | nil => cases h; exact ⟨c, rfl, hc⟩
    | cons q qs => simp at hl
  | cons p ps ih =>
    intro qs c cs ds hl hr hc h
    cases qs with
    | nil => simp at hl
    | cons q qs =>
      obtain ⟨i, v⟩ := p
      obtain ⟨j, d⟩ := q
      obtain ⟨h1, h2⟩ := hr 0 _ _ rfl rfl
      simp only at h1 h2
      subst h1
      simp only [fillV] at h
      simp only [Instr.fill]
      split at h
      · cases h
      · rename_i off size hp
        split at h
        · cases h
        · rename_i hcond
          simp only [not_or] at hcond
          obtain ⟨hleaf, hsz, hfit⟩ := hcond
          obtain ⟨h3, h4⟩ := rd_cells h2 (by simpa using hleaf)
          have hcs := hc.1
          simp only [hp]
          rw [if_neg (by simp; omega)]
          refine ih qs _ _ ds (by simpa using hl) (fun i x y h1 h2 => hr (i + 1) x y (by simpa using h1) (by simpa using h2)) ?_ h
          have := fold_cells (w := w) (F := F) off v.cells.toList d.cells 0 c cs (by simpa using h3) (fun i x y h1 h2 => h4 i x y (by simpa using h1) h2) hc
          rw [← Array.foldl_toList]
          simpa using this

theorem purePairs_sim {a : Act} : ∀ (ps : List (Nat × Operand)) (qs : List (Nat × V)), (∀ p, p ∈ ps → TRel w F β al (a.eval p.2) (evx G e p.2)) →
    purePairs G e ps = some qs → (ps.map fun (i, x) => (i, a.eval x)).length = qs.length ∧
    ∀ (i : Nat) (x : Nat × Value) (y : Nat × V), (ps.map fun (i, x) => (i, a.eval x))[i]? = some x → qs[i]? = some y → x.1 = y.1 ∧ Rd w F x.2 y.2 := by
  intro ps
  induction ps with
  | nil => intro qs _ h; simp [purePairs] at h; grind
  | cons p ps ih =>
    intro qs hr h
    obtain ⟨i, x⟩ := p
    simp only [purePairs] at h
    split at h
    · rename_i d ds hd hds
      cases h
      obtain ⟨h1, h2⟩ := ih ds (fun p hp => hr p (List.mem_cons_of_mem _ hp)) hds
      refine ⟨by simpa using h1, ?_⟩
      intro n u y hu hy
      cases n with
      | zero =>
        simp at hu hy; subst hu hy
        refine ⟨rfl, ?_⟩
        have h3 := hr (i, x) (by simp)
        simp only [hd] at h3
        exact h3
      | succ n => grind
    · cases h

theorem pureArgs_sim {a : Act} : ∀ (xs : List Operand) (ds : List V), (∀ x, x ∈ xs → TRel w F β al (a.eval x) (evx G e x)) →
    pureArgs G e xs = some ds → xs.length = ds.length ∧ ∀ (i : Nat) (x : Value) (y : V), (xs.map a.eval)[i]? = some x → ds[i]? = some y → Rd w F x y := by
  intro xs
  induction xs with
  | nil => intro qs _ h; simp [pureArgs] at h; grind
  | cons x xs ih =>
    intro qs hr h
    simp only [pureArgs] at h
    split at h
    · rename_i d ds hd hds
      cases h
      obtain ⟨h1, h2⟩ := ih ds (fun p hp => hr p (List.mem_cons_of_mem _ hp)) hds
      refine ⟨by simpa using h1, ?_⟩
      intro n u y hu hy
      cases n with
      | zero =>
        simp at hu hy; subst hu hy
        have h3 := hr x (by simp)
        rw [hd] at h3
        exact h3
      | succ n => grind
    · cases h

end
end Go.Ve

namespace Go.Ve
open Go

@[reducible] def Ty.st : List Ty → Ty
  | [] => .unit
  | t :: ts => .pair t (Ty.st ts)

abbrev tI : Ty := .int .i64
abbrev tU : Ty := .int .u32
abbrev tPrefix : Ty := .st [tU, tI]
abbrev tHop : Ty := .st [tI, tU]
abbrev tRoute : Ty := .st [tPrefix, tI, tI, tI, tI, tI, tI, tI, .sl tI, tU, tU, .sl tHop, .bool]
abbrev tIface : Ty := .st [.str, tU, tI, tI, .bool, .bool, tI, tI, .bool, .str, .str, tI]
abbrev tPRule : Ty := .st [.bool, tPrefix, tI, tI]
abbrev tPList : Ty := .st [.str, .sl tPRule]
abbrev tClause : Ty := .st [.bool, .str, tI, tI, tI, tI, tI]
abbrev tRMap : Ty := .st [.str, .sl tClause]
abbrev tWild : Ty := .st [tU, tU]
abbrev tPorts : Ty := .st [tI, tI]
abbrev tRule : Ty := .st [.bool, tI, tWild, tWild, tPorts, tPorts]
abbrev tACL : Ty := .st [.str, .sl tRule]
abbrev tNat : Ty := .st [tI, tU, tU, tI, tI, tI, .str, tU, tU]
abbrev tStatic : Ty := .st [tPrefix, tU, .str, .bool, tI, tI]
abbrev tRedist : Ty := .st [tI, tI, tI, .str, tI]
abbrev tARange : Ty := .st [tI, tPrefix]
abbrev tLS : Ty := .st [.bool, tI, .sl tARange, .sl tRedist]
abbrev tDV : Ty := .st [.bool, tI, .str, .str, .sl tRedist]
abbrev tNeighbor : Ty := .st [tU, tI, .str, .str]
abbrev tAggregate : Ty := .st [tPrefix, .bool]
abbrev tCondition : Ty := .st [tPrefix, tPrefix, .bool]
abbrev tPV : Ty := .st [.bool, tI, tI, .sl tNeighbor, .sl tPrefix, .sl tAggregate, .sl tCondition, .sl tRedist]
abbrev tRouter : Ty := .st [.str, tI, .sl tIface, .sl tPList, .sl tRMap, .sl tACL, .sl tNat, .sl tStatic, tLS, tDV, tPV]
abbrev tNetwork : Ty := .st [.sl tRouter]
abbrev tDomain : Ty := .st [tPrefix, tI, .sl tPorts]
abbrev tDomainR : Ty := .st [tPrefix, tI, .rf]
abbrev tTopoR : Ty := .st [.sl tDomainR, .sl tI]
abbrev tTopo : Ty := .st [.sl tDomain, .sl tI]
abbrev tView : Ty := .st [tNetwork, tTopo, .sl tI]
abbrev tEdge : Ty := .st [tI, tI, tI, tHop]
abbrev tTables : Ty := .st [.sl tRoute, .sl tRoute, .sl tRoute, .sl tRoute]
abbrev tResult : Ty := .st [tI, tI, tI, .sl tTables]
end Go.Ve
