/-
  StaticAlone: the law answers true.
-/
import Derived.Test.YtggmpbaiijodiaaGreatQ13
import Derived.Test.YtggmpbaiijodiaaGreatQ14
import Derived.Test.YtggmpbaiijodiaaGreatQ16
namespace Go.Ve
open Go
set_option maxRecDepth 1000000
set_option maxHeartbeats 4000000

theorem law_StaticAlone (n : Ty.El tNetwork) (d : List Int) (rib : List (Ty.El tRoute)) (k : Int) (hrib : ∀ y, y ∈ rib → RtS y) (hlen : rib.length ≤ 1048576) :
    Wp (law18_StaticAlone (n, d, rib, k, ())) (fun b => b = true) := by
  unfold law18_StaticAlone
  dsimp only
  refine wp_bind ((tot_law13_View n d).mono (fun y0 hy0 => ?_))
  refine wp_bind ((show Wp _ (fun s : Bool => s = false → ViewOk n d y0.1 ∧ rib.length ≤ 30 ∧ 0 ≤ k ∧ k < (rib.length : Int)) from ?_).mono (fun s hs => ?_))
  · refine wp_bif (fun h => wp_some (fun h => by cases h)) (fun h1 => wp_bifd (fun _ => wp_some (fun h => by cases h)) (fun h2 => ?_))
    refine wp_bind ((tot_ref15_Table rib 0 hlen hrib).mono (fun y2 _ => wp_bif (fun h => wp_some (fun h => by cases h)) (fun _ => wp_bifd (fun _ => wp_some (fun h => by cases h)) (fun h3 => wp_some (fun h4 => ⟨?_, by omega, Int.not_lt.1 h3, ?_⟩)))))
    · exact hy0 (by simpa using h1)
    · have : ¬ (k ≥ (rib.length : Int)) := of_decide_eq_false h4
      omega
  refine wp_bif (fun h => wp_some rfl) (fun h => ?_)
  obtain ⟨hv, hl, hk0, hk1⟩ := hs h
  obtain ⟨k, rfl⟩ := Int.eq_ofNat_of_zero_le hk0
  have hk : k < rib.length := by omega
  have hz : rib[k]? = some rib[k] := by simp [hk]
  have hvs := hv.s
  refine wp_bind (wp_eq (show sub rib 0 (k : Int) = some (rib.take k) from ?_) ?_)
  · unfold sub
    rw [if_pos (by omega), Int.toNat_natCast]
    rfl
  refine wp_bind (wp_eq (show sub rib _ _ = some (rib.drop (k + 1)) from ?_) ?_)
  · unfold sub
    rw [wrap_i64 (by omega) (by omega), if_pos (by omega), Int.toNat_natCast, List.take_length, show ((k : Int) + 1).toNat = k + 1 by omega]
  refine wp_bind (wp_app (by simp only [List.length_nil, List.length_take]; omega) ?_)
  refine wp_bind (wp_app (by simp only [List.length_append, List.length_nil, List.length_take, List.length_drop]; omega) ?_)
  rw [List.nil_append]
  have hrs := hv.rs
  have hn : y0.1.1 = n := hv.net
  refine wp_all (P := fun _ => True) (by omega) ?_ (fun _ => wp_bind (wp_eq rfl (wp_some rfl)))
  intro r rt hr
  have hr' : y0.1.1.1[r]? = some rt := by rw [hn]; exact hr
  refine wp_cut2 (wp_bind ((spec_static_Active _ rib r rt hvs hr' (by omega)).mono (fun a ha => ?_)))
  refine wp_bind ((spec_static_Active _ (rib.take k ++ rib.drop (k + 1)) r rt hvs hr' (by simp only [List.length_append, List.length_take, List.length_drop]; omega)).mono (fun b hb => ?_))
  have hst := (hvs.sm rt (List.mem_of_getElem? hr')).i6
  have hal : a.length ≤ 20 := by rw [ha]; exact Nat.le_trans (List.length_filterMap_le _ _) hst
  have hbl : b.length ≤ 20 := by rw [hb]; exact Nat.le_trans (List.length_filterMap_le _ _) hst
  refine wp_allL (P := fun _ => True) (by omega) ?_ (fun _ => e2l (wp_some (e2l ⟨rfl, trivial⟩)))
  intro i y hy
  simp only [idx_nat hy, idx_nat hz, Option.bind_some]
  refine wp_cut2 (wp_bif (fun _ => wp_some (e2l (wp_some (e2l ⟨rfl, trivial⟩)))) (fun he => ?_))
  have hpre : y.1 = rib[k].1 := pre_eq (by simpa using he)
  have hym : y ∈ a := List.mem_of_getElem? hy
  rw [ha] at hym
  obtain ⟨x, hx, hax⟩ := List.mem_filterMap.1 hym
  have hap := act_pre hax
  refine wp_bind (wp_any (xs := b) (p := fun z => y = z) (by omega) ?_ ?_)
  · intro j z hz'
    refine ⟨rfl, ?_⟩
    simp only [cond_false, idx_nat hz', Option.bind_some]
    exact wp_bind ((same_iff y z hap.2).mono (fun r hr => wp_some hr))
  · intro c hc
    have hct : c = true := by
      refine hc.2 ⟨y, ?_, rfl⟩
      rw [hb]
      refine List.mem_filterMap.2 ⟨x, hx, ?_⟩
      rw [act_drop hz (by rw [← hap.1, hpre])]
      exact hax
    subst hct
    exact wp_some (e2l (wp_some (e2l ⟨rfl, trivial⟩)))
theorem rts_fits {y : Ty.El tRoute} (h : Ty.fits 1048576 tRoute y) : RtS y :=
  ⟨h.2.2.2.2.2.2.2.2.1.1, h.2.2.2.2.2.2.2.2.2.2.2.1.1⟩

theorem ans_law18_StaticAlone : ∀ x : ElS [tNetwork, .sl tI, .sl tRoute, tI], fitsS 1048576 [tNetwork, .sl tI, .sl tRoute, tI] x → law18_StaticAlone x = some true := by
  rintro ⟨n, d, rib, k, ⟨⟩⟩ ⟨_, _, ⟨h1, h2⟩, _⟩
  exact wp_val (law_StaticAlone n d rib k (fun y hy => rts_fits (h2 y hy)) h1)
end Go.Ve
