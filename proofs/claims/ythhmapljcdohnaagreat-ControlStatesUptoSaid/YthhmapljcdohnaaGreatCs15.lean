/-
  The bridge: how a row's readings of the arguments read as typed data.
-/
import Derived.Carry
import Derived.Test.YthhmapljcdohnaaGreatCs8
set_option linter.unusedVariables false
set_option linter.unusedSimpArgs false
namespace Go.Ve
open Go

/-- All lists and strings in it are at most N long; all integers are of their kinds. -/
def Ty.fits (N : Nat) : (t : Ty) → t.El → Prop
  | .int k, n => (Lit.int k n).wf = true
  | .bool, _ => True
  | .str, s => s.size ≤ N
  | .unit, _ => True
  | .pair a b, x => a.fits N x.1 ∧ b.fits N x.2
  | .sl t, xs => xs.length ≤ N ∧ ∀ x ∈ xs, t.fits N x
  | .rf, _ => False
  | .hd, _ => False
  | .pt _, _ => False

def chkFs (P : Program) (n : Nat) (chk : TypeId → Bool) : Nat → Nat → List Field → Bool
  | off, tot, [] => off == tot
  | off, tot, f :: r => f.offset == off && (match tyOf P n f.type with
    | some a => a.size == P.cellsOf f.type
    | none => false) && chk f.type && chkFs P n chk (off + P.cellsOf f.type) tot r

def tyChk (P : Program) : Nat → TypeId → Bool
  | 0, _ => false
  | n + 1, t => match P.underlying t with
    | some .bool => true
    | some (.int _) => true
    | some .string => true
    | some (.slice el) => decide (0 < P.cellsOf el) && tyChk P n el && (match tyOf P n el with
      | some a => a.size == P.cellsOf el
      | none => false)
    | some (.struct fs) => chkFs P n (tyChk P n) 0 (P.cellsOf t) fs.toList
    | _ => false

/-- Cells that read as a typed datum. -/
def CR (w : World) (F : Blk → Prop) (cs : List Value) (t : Ty) (x : t.El) : Prop :=
  cs.length = t.size ∧ ∀ (i : Nat) (v : Value) (d : V), cs[i]? = some v → (t.cells x)[i]? = some d → Rd w F v d

/-- A measure of readings. -/
structure Bulk {H : Type} (bk : DataW H → Nat) : Prop where
  slice : ∀ es sp, es.length ≤ bk (.slice es sp) ∧ ∀ e ∈ es, bk e ≤ bk (.slice es sp)
  agg : ∀ ps, ∀ p ∈ ps, bk p ≤ bk (.agg ps)
  str : ∀ bs, bs.length ≤ bk (.lit (.string bs))

theorem mapM_some {α β : Type} {f : α → Option β} : ∀ {l : List α} {r : List β}, l.mapM f = some r → r.length = l.length ∧ ∀ (i : Nat) (a : α), l[i]? = some a → ∃ b, r[i]? = some b ∧ f a = some b := by
  intro l
  induction l with
  | nil => grind
  | cons x l ih =>
    intro r h
    rw [List.mapM_cons] at h
    simp [Option.bind_eq_some_iff] at h
    grind

theorem fits_mono {N M : Nat} (h : N ≤ M) : ∀ (t : Ty) (x : t.El), t.fits N x → t.fits M x := by
  intro t
  induction t with
  | pair a b iha ihb => intro x hx; exact ⟨iha _ hx.1, ihb _ hx.2⟩
  | sl t ih => intro x hx; exact ⟨Nat.le_trans hx.1 h, fun y hy => ih y (hx.2 y hy)⟩
  | str => intro x hx; exact Nat.le_trans hx h
  | rf => intro x hx; exact hx.elim
  | hd => intro x hx; exact hx.elim
  | pt t _ => intro x hx; exact hx.elim
  | _ => intro x hx; exact hx

section
variable {H : Type} {enc : TypeId × Value → H} {P : Program} {w : World} {sp : Nat → Bool} {held : Bool} {bk : DataW H → Nat}

/-- A list of data out of one reading after the other. -/
theorem choose_list {α : Type} {Q : Nat → α → Prop} : ∀ (n : Nat), (∀ i, i < n → ∃ x, Q i x) → ∃ xs : List α, xs.length = n ∧ ∀ (i : Nat) (x : α), xs[i]? = some x → Q i x := by
  intro n
  induction n with
  | zero => simp_all
  | succ n ih =>
    intro h
    obtain ⟨xs, h1, h2⟩ := ih (fun i hi => h i (by omega))
    obtain ⟨x, hx⟩ := h n (by omega)
    refine ⟨xs ++ [x], by simp [h1], ?_⟩
    grind

theorem cells?_spec {a : Addr} {n : Nat} {l : List Value} (h : w.cells? 0 a n = some l) (hn : 0 < n) : a.spot = none ∧ l.length = n ∧ ∀ (i : Nat) (v : Value), l[i]? = some v → w.cell? ⟨a.block, a.off + i, none⟩ = some v := by
  unfold World.cells? at h
  rw [if_pos (Nat.zero_le _)] at h
  obtain ⟨h1, h2⟩ := mapM_some h
  have hs : a.spot = none := by
    obtain ⟨b, hb, hf⟩ := h2 0 0 (by simp [hn])
    simp [Addr.add, World.cell?] at hf
    split at hf
    all_goals simp_all
  refine ⟨hs, by simpa using h1, ?_⟩
  intro i v hv
  have hi : i < n := by grind
  obtain ⟨b, hb, hf⟩ := h2 i i (by simp [hi])
  rw [hv] at hb
  cases hb
  rw [← hf]
  congr 1
  obtain ⟨ab, ao, as⟩ := a
  grind [add_eq]

theorem cr_one {F : Blk → Prop} {v : Value} {ty : Ty} {x : ty.El} (hs : ty.size = 1) (hc : ty.cells x = [ty.enc x]) (h : Rd w F v (ty.enc x)) : CR w F [v] ty x := by
  refine ⟨by simp [hs], ?_⟩
  grind

theorem CR.cell {F : Blk → Prop} {cs : List Value} {ty : Ty} {x : ty.El} (h : CR w F cs ty x) : ∀ (j : Nat) (d : V), (ty.enc x).cells[j]? = some d → ∃ v, cs[j]? = some v ∧ Rd w F v d := by
  intro j d hd
  rw [enc_cells] at hd
  have hlt : j < cs.length := by
    rw [h.1, ← cells_len ty x]; grind
  exact ⟨cs[j], by simp [hlt], h.2 j _ d (by simp [hlt]) hd⟩

/-- A struct's fields, one after the other. -/
theorem fields_typed (hbk : Bulk bk) {n fuel : Nat} {F : Blk → Prop}
    (ih : ∀ (t : TypeId) (ty : Ty) (cs : List Value) (d : DataW H) (ps : List MemPlace), tyChk P n t = true → tyOf P n t = some ty →
      DataW.trod enc P w 0 sp held fuel t cs = some (d, ps) → ∃ x : ty.El, CR w F cs ty x ∧ ty.fits (bk d) x) {cs : List Value} {N : Nat} :
    ∀ (fs : List Field) (off : Nat) (ty : Ty) (xs : List (DataW H × List MemPlace)), chkFs P n (tyChk P n) off cs.length fs = true →
      fs.foldr (fun f acc => match tyOf P n f.type, acc with
        | some a, some b => some (.pair a b)
        | _, _ => none) (some .unit) = some ty →
      (fs.mapM fun f => DataW.trod enc P w 0 sp held fuel f.type ((cs.drop f.offset).take (P.cellsOf f.type))) = some xs → (∀ y ∈ xs, bk y.1 ≤ N) →
      ∃ x : ty.El, CR w F (cs.drop off) ty x ∧ ty.fits N x := by
  intro fs
  induction fs with
  | nil =>
    intro off ty xs hc hty hx _
    cases hty
    simp [chkFs] at hc
    refine ⟨(), ⟨by simp [hc, Ty.size], ?_⟩, trivial⟩
    grind
  | cons f fs ihf =>
    intro off ty xs hc hty hx hN
    simp [chkFs] at hc
    obtain ⟨⟨⟨hoff, hsz⟩, hchk⟩, hrest⟩ := hc
    simp at hty
    split at hty
    · rename_i a b ha hb
      cases hty
      rw [ha] at hsz
      simp at hsz
      rw [List.mapM_cons] at hx
      simp only [Option.bind_eq_bind, Option.bind_eq_some_iff, Option.pure_def, Option.some.injEq] at hx
      obtain ⟨y, hy, ys, hys, rfl⟩ := hx
      obtain ⟨x1, hx1, hf1⟩ := ih f.type a _ y.1 y.2 hchk ha hy
      obtain ⟨x2, hx2, hf2⟩ := ihf (off + P.cellsOf f.type) b ys hrest hb hys (fun z hz => hN z (List.mem_cons_of_mem _ hz))
      refine ⟨(x1, x2), ⟨?_, ?_⟩, fits_mono (hN y (by simp)) _ _ hf1, hf2⟩
      · have h1 := hx1.1
        have h2 := hx2.1
        grind [List.length_take, List.length_drop, Ty.size]
      · intro i v d hv hd
        simp only [Ty.cells] at hd
        have hl := cells_len a x1
        rcases Nat.lt_or_ge i a.size with hi | hi
        · rw [List.getElem?_append_left (by omega)] at hd
          refine hx1.2 i v d ?_ hd
          grind
        · rw [List.getElem?_append_right (by omega), hl] at hd
          refine hx2.2 (i - a.size) v d ?_ hd
          grind
    · cases hty

theorem trod_typed (hbk : Bulk bk) : ∀ (n : Nat),
    (∀ (t : TypeId) (ty : Ty) (fuel : Nat) (cs : List Value) (d : DataW H) (ps : List MemPlace), tyChk P n t = true → tyOf P n t = some ty →
      DataW.trod enc P w 0 sp held fuel t cs = some (d, ps) → ∃ x : ty.El, CR w (oldB w.heap.size) cs ty x ∧ ty.fits (bk d) x) := by
  intro n
  induction n with
  | zero => grind [tyChk]
  | succ n ih =>
    intro t ty fuel cs d ps hc hty h
    cases fuel with
    | zero => simp [DataW.trod] at h
    | succ fuel =>
      simp only [tyOf] at hty
      simp only [tyChk] at hc
      unfold DataW.trod at h
      cases hu : P.underlying t with
      | none => grind
      | some td =>
        rw [hu] at hty hc h
        cases td with
        | bool =>
          cases hty
          simp only at h
          split at h
          all_goals (try (cases h; done))
          all_goals (try (exfalso; simp_all; done))
          rename_i b _
          exact ⟨b, cr_one rfl rfl (.val _), trivial⟩
        | int k =>
          cases hty
          simp only at h
          split at h
          all_goals (try (cases h; done))
          all_goals (try (exfalso; simp_all; done))
          rename_i k1 k2 m heq
          cases heq
          split at h
          · rename_i hk
            obtain ⟨rfl, hwf⟩ := hk
            exact ⟨m, cr_one rfl rfl (.val _), hwf⟩
          · cases h
        | string =>
          cases hty
          simp only at h
          split at h
          all_goals (try (cases h; done))
          all_goals (try (exfalso; simp_all; done))
          rename_i s _
          split at h
          · simp only [Option.some.injEq, Prod.mk.injEq] at h
            obtain ⟨rfl, rfl⟩ := h
            refine ⟨s, cr_one rfl rfl (.val _), ?_⟩
            have := hbk.str s.data.toList
            show s.size ≤ _
            simpa using this
          · cases h
        | slice el =>
          simp only at hty
          split at hty
          · rename_i a ha
            cases hty
            simp [ha] at hc
            obtain ⟨⟨h0, hck⟩, hsz⟩ := hc
            simp only at h
            split at h
            all_goals (try (cases h; done))
            all_goals (try (exfalso; simp_all; done))
            · exact ⟨[], cr_one rfl rfl (.tl a [] _ (.slemp none 0)), Nat.zero_le _, fun x hx => by simp at hx⟩
            · rename_i e0 ad len cap heq
              cases heq
              split at h
              · rename_i hcond
                obtain ⟨_, hlc, _⟩ := hcond
                simp only [Option.bind_eq_some_iff, Option.map_eq_some_iff, Prod.mk.injEq] at h
                obtain ⟨elems, hel, rest, _, rfl, rfl⟩ := h
                obtain ⟨m1, m2⟩ := mapM_some hel
                simp at m1
                have hslice := hbk.slice (elems.map (·.1)) (rest.map (·.1))
                have hex : ∀ i, i < len → ∃ x : a.El, a.fits (bk (.slice (elems.map (·.1)) (rest.map (·.1)))) x ∧ ad.spot = none ∧
                    ∀ (j : Nat) (dd : V), (a.enc x).cells[j]? = some dd → ∃ v, w.cell? ⟨ad.block, ad.off + (i * a.size + j), none⟩ = some v ∧ Rd w (oldB w.heap.size) v dd := by
                  intro i hi
                  obtain ⟨y, hy, hf⟩ := m2 i i (by simp [hi])
                  simp only [Option.bind_eq_some_iff] at hf
                  obtain ⟨l, hl, ht⟩ := hf
                  obtain ⟨x, hx, hfit⟩ := ih el a fuel l y.1 y.2 hck ha ht
                  obtain ⟨c1, c2, c3⟩ := cells?_spec hl h0
                  have hsp : ad.spot = none := by
                    by_cases hz : i * P.cellsOf el = 0
                    · simp_all [Addr.add]
                    · have hi0 : 0 < i := Nat.pos_of_ne_zero (fun hh => hz (by rw [hh]; simp))
                      obtain ⟨y0, _, hf0⟩ := m2 0 0 (List.getElem?_range (by omega))
                      simp only [Option.bind_eq_some_iff] at hf0
                      obtain ⟨l0, hl0, _⟩ := hf0
                      have := (cells?_spec hl0 h0).1
                      grind [Addr.add]
                  refine ⟨x, fits_mono (hslice.2 y.1 (List.mem_map.2 ⟨y, List.mem_of_getElem? hy, rfl⟩)) _ _ hfit, hsp, ?_⟩
                  intro j dd hdd
                  obtain ⟨v, hv, hr⟩ := CR.cell hx j dd hdd
                  refine ⟨v, ?_, hr⟩
                  have := c3 j v hv
                  rw [← this]
                  obtain ⟨ab, ao, as⟩ := ad
                  grind [add_eq, Nat.add_assoc]
                obtain ⟨xs, hxl, hxs⟩ := choose_list len hex
                have hlen : (xs.map a.enc).length = len := by simp [hxl]
                refine ⟨xs, cr_one rfl rfl (.tl a xs _ ?_), ?_⟩
                · cases hlz : len with
                  | zero =>
                    have : xs = [] := List.eq_nil_of_length_eq_zero (by omega)
                    subst this
                    exact .slemp _ _
                  | succ len' =>
                    obtain ⟨x0, hx0⟩ : ∃ x0, xs[0]? = some x0 := ⟨xs[0]'(by omega), by grind⟩
                    have hsp : ad.spot = none := (hxs 0 x0 hx0).2.1
                    obtain ⟨ab, ao, as⟩ := ad
                    cases hsp
                    rw [← hlz, ← hlen]
                    have hab : ab < w.heap.size := by
                      cases hblk : w.heap[ab]? with
                      | some ob => grind
                      | none =>
                        have hs1 : 0 < a.size := by omega
                        have hlt : 0 < (a.enc x0).cells.length := by grind [enc_len]
                        obtain ⟨v, hv, _⟩ := (hxs 0 x0 hx0).2.2 0 _ (List.getElem?_eq_getElem hlt)
                        grind [World.cell?]
                    let g : Nat → Value := fun m => (w.cell? ⟨ab, ao + m, none⟩).getD undef
                    refine Rd.sl ab ao cap a.size _ g hab (by omega) ?_ ?_ ?_
                    · intro q hq
                      simp at hq
                      obtain ⟨z, _, rfl⟩ := hq
                      exact enc_len a z
                    · intro m hm
                      rw [hlen] at hm
                      have hs1 : 0 < a.size := by omega
                      have hi : m / a.size < len := Nat.div_lt_of_lt_mul (by grind)
                      have hj : m % a.size < a.size := Nat.mod_lt _ hs1
                      have hxi : xs[m / a.size]? = some (xs[m / a.size]'(by omega)) := by grind
                      have hcl : m % a.size < (a.enc (xs[m / a.size]'(by omega))).cells.length := by rw [enc_len]; exact hj
                      obtain ⟨v, hv, _⟩ := (hxs _ _ hxi).2.2 (m % a.size) _ (List.getElem?_eq_getElem hcl)
                      grind [Nat.mul_comm, Nat.div_add_mod]
                    grind
                · refine ⟨?_, ?_⟩
                  · grind
                  · intro x hx
                    obtain ⟨i, hi, rfl⟩ := List.getElem_of_mem hx
                    exact (hxs i _ (by simp [hi])).1
              · cases h
          · cases hty
        | struct fs =>
          simp only at hc h hty
          split at h
          · rename_i hlen
            simp at h
            obtain ⟨xs, hxs, rfl, rfl⟩ := h
            rw [← hlen] at hc
            obtain ⟨x, h1, h2⟩ := fields_typed (F := oldB w.heap.size) hbk (fun t ty cs d ps => ih t ty fuel cs d ps) (N := bk (.agg (xs.map (·.1)))) _ 0 ty xs hc hty hxs (fun y hy => hbk.agg _ y.1 (List.mem_map.2 ⟨y, hy, rfl⟩))
            grind
          · cases h
        | array m el => cases hc
        | _ => cases hty
end
end Go.Ve
