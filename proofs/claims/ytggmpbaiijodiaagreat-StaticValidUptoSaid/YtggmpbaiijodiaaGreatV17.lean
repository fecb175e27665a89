/-
  StaticValid: the law answers true.
-/
import Derived.Test.YtggmpbaiijodiaaGreatV13
import Derived.Test.YtggmpbaiijodiaaGreatV14
import Derived.Test.YtggmpbaiijodiaaGreatV16
set_option linter.unusedVariables false
namespace Go.Ve
open Go
set_option maxRecDepth 1000000
set_option maxHeartbeats 4000000

theorem wp_anyI {α : Type} {xs : List α} {B : Int × Bool → α → Option Bool} {Q : Bool → Prop} {p : α → Prop} (hl : xs.length < 4611686018427387904)
    (step : ∀ (i : Nat) x, xs[i]? = some x → B ((i : Int), true) x = some true ∧ Wp (B ((i : Int), false) x) (fun b => b = true ↔ p x)) (fin : ∀ b : Bool, (b = true ↔ ∃ x, x ∈ xs ∧ p x) → Q b) :
    Wp (loopX (fun s : Int × Bool => bif decide (s.fst < (xs.length : Int)) then Option.bind (idx xs s.fst) (fun y => Option.bind (B s y) (fun g => some (Sum.inl (IntKind.wrap IntKind.i64 (s.fst + (1 : Int)), g)))) else some (Sum.inr s.snd)) ((0 : Int), false)) Q := by
  have h := wp_any (xs := xs) (body := fun s => Option.bind (idx xs s.fst) (B s)) (p := p) (Q := Q) hl (fun i x hx => by
    simp only [idx_nat hx, Option.bind_some]
    exact step i x hx) fin
  simp only [Option.bind_assoc] at h
  exact h

theorem law_StaticValid (n : Ty.El tNetwork) (d : List Int) (rib : List (Ty.El tRoute)) (hrib : ∀ y, y ∈ rib → RtS y) (hlen : rib.length ≤ 1048576) :
    Wp (law18_StaticValid (n, d, rib, ())) (fun b => b = true) := by
  unfold law18_StaticValid
  dsimp only
  refine wp_bind ((tot_law13_View n d).mono (fun y0 hy0 => ?_))
  refine wp_bind ((show Wp _ (fun s : Bool => s = false → ViewOk n d y0.1) from ?_).mono (fun s hs => ?_))
  · refine wp_bif (fun h => wp_some (fun h => by cases h)) (fun h1 => wp_bifd (fun _ => wp_some (fun h => by cases h)) (fun h2 => ?_))
    exact wp_bind ((tot_ref15_Table rib 0 hlen hrib).mono (fun y2 _ => wp_some (fun _ => hy0 (by simpa using h1))))
  refine wp_bif (fun h => wp_some rfl) (fun h => ?_)
  have hv := hs h
  have hvs := hv.s
  have hnet := net_ok hv
  have hrs := hv.rs
  have hn : y0.1.1 = n := hv.net
  refine wp_all (P := fun _ => True) (by omega) ?_ (fun _ => wp_bind (wp_eq rfl (wp_some rfl)))
  intro r rt hr
  have hr' : y0.1.1.1[r]? = some rt := by rw [hn]; exact hr
  have hrm := List.mem_of_getElem? hr
  have hrt := hnet.rt rt hrm
  have hsm := hv.sm rt hrm
  have hifl : rt.2.2.1.length ≤ 8 := hrt.ifl
  refine wp_cut2 (wp_bind ((spec_static_Connected _ r rt hvs hr' hifl).mono (fun c hc => ?_)))
  have hcl := hc.1.length_eq
  have hcl2 : (connL y0.1 r rt).length ≤ 8 := Nat.le_trans (List.length_filterMap_le _ _) (by rw [List.length_range]; exact hifl)
  have hmem : ∀ y, y ∈ c → ∃ (k : Nat) (x : Ty.El tIface), rt.2.2.1[k]? = some x ∧ upB y0.1 r k = true ∧ y = mkc x k := fun y hy => conn_mem (hc.1.mem_iff.1 hy)
  refine wp_bind ((table_true (l := c) (proto := 1) (by omega) ?_ ?_ (perm_strict hc.1 hc.2 (conn_apart hv hr))).mono (fun b hb => ?_))
  · intro y hy
    obtain ⟨k, x, _, _, rfl⟩ := hmem y hy
    exact valid_mkc x k
  · intro y hy
    obtain ⟨k, x, _, _, rfl⟩ := hmem y hy
    rfl
  subst hb
  refine ff rfl (wp_bind ((spec_static_Active _ rib r rt hvs hr' hlen).mono (fun a ha => ?_)))
  have hst := hsm.i6
  have hal : a.length ≤ rt.2.2.2.2.2.2.2.1.length := by rw [ha]; exact List.length_filterMap_le _ _
  simp only [idx_nat hr, Option.bind_some]
  refine wp_bifd (fun h => absurd hal (by omega)) (fun _ => ?_)
  refine wp_allL (P := fun _ => True) (by omega) ?_ (fun _ => e2l (wp_some (e2l ⟨rfl, trivial⟩)))
  intro i y hy
  have hym := List.mem_of_getElem? hy
  rw [ha] at hym
  obtain ⟨x, hx, hax⟩ := List.mem_filterMap.1 hym
  obtain ⟨g0, g1, g2, g3, g4, g5⟩ := act_valid (hrt.sts x hx) hax
  simp only [idx_nat hy, Option.bind_some]
  refine wp_cut2 (wp_bind (wp_anyI (xs := rt.2.2.2.2.2.2.2.1) (p := fun z : Ty.El tStatic => z.1 = y.1 ∧ z.2.2.2.2.1 = y.2.2.2.1 ∧ z.2.1 = y.2.2.2.2.2.2.2.2.2.2.1 ∧ z.2.2.2.1 = y.2.2.2.2.2.2.2.2.2.2.2.2.1 ∧ z.2.2.2.2.2.1 = y.2.2.2.2.2.2.1) (by omega) ?_ ?_))
  · intro j z hz
    refine ⟨rfl, ?_⟩
    simp only [cond_false]
    refine wp_bif (fun h1 => ?_) (fun h1 => wp_some ?_)
    · have h1 := pre_eq h1
      refine wp_bif (fun h2 => ?_) (fun h2 => wp_some ?_)
      · have h2 : z.2.2.2.2.1 = y.2.2.2.1 := by simpa using h2
        refine wp_bif (fun h3 => ?_) (fun h3 => wp_some ?_)
        · have h3 : z.2.1 = y.2.2.2.2.2.2.2.2.2.2.1 := by simpa using h3
          refine wp_bif (fun h4 => wp_some ?_) (fun h4 => wp_some ?_)
          · have h4 : z.2.2.2.1 = y.2.2.2.2.2.2.2.2.2.2.2.2.1 := by simpa using h4
            constructor
            · intro h5; exact ⟨h1, h2, h3, h4, by simpa using h5⟩
            · intro h5; simpa using h5.2.2.2.2
          · exact ⟨(fun h => by cases h), fun h => by rw [h.2.2.2.1] at h4; simp at h4⟩
        · exact ⟨(fun h => by cases h), fun h => by rw [h.2.2.1] at h3; simp at h3⟩
      · exact ⟨(fun h => by cases h), fun h => by rw [h.2.1] at h2; simp at h2⟩
    · refine ⟨(fun h => by cases h), fun h => ?_⟩
      rw [h.1] at h1
      simp at h1
  · intro b hb
    have hbt : b = true := hb.2 ⟨x, hx, g1, g2, g3, g4, g5⟩
    subst hbt
    refine wp_bind (wp_bind (wp_eq g0 (wp_some ?_)))
    exact wp_some (e2l (wp_some (e2l ⟨rfl, trivial⟩)))

theorem rts_fits' {y : Ty.El tRoute} (h : Ty.fits 1048576 tRoute y) : RtS y :=
  ⟨h.2.2.2.2.2.2.2.2.1.1, h.2.2.2.2.2.2.2.2.2.2.2.1.1⟩

theorem ans_law18_StaticValid : ∀ x : ElS [tNetwork, .sl tI, .sl tRoute], fitsS 1048576 [tNetwork, .sl tI, .sl tRoute] x → law18_StaticValid x = some true := by
  rintro ⟨n, d, rib, ⟨⟩⟩ ⟨_, _, ⟨h1, h2⟩, _⟩
  exact wp_val (law_StaticValid n d rib (fun y hy => rts_fits' (h2 y hy)) h1)
end Go.Ve
