/-
  StaticRoutes: the law answers true.
-/
import Derived.Test.YtggmpbaiijodiaaGreatR14
import Derived.Test.YtggmpbaiijodiaaGreatR15
import Derived.Test.YtggmpbaiijodiaaGreatR17
set_option linter.unusedVariables false
namespace Go.Ve
open Go
set_option maxRecDepth 1000000
set_option maxHeartbeats 4000000

theorem law_StaticRoutes (n : Ty.El tNetwork) (d : List Int) (rib : List (Ty.El tRoute)) (hrib : ∀ y, y ∈ rib → RtS y) (hlen : rib.length ≤ 1048576) :
    Wp (law18_StaticRoutes (n, d, rib, ())) (fun b => b = true) := by
  unfold law18_StaticRoutes
  dsimp only
  refine wp_bind ((tot_law13_View n d).mono (fun y0 hy0 => ?_))
  refine wp_bind ((show Wp _ (fun s : Bool => s = false → ViewOk n d y0.1) from ?_).mono (fun s hs => ?_))
  · refine wp_bif (fun h => wp_some (fun h => by cases h)) (fun h1 => wp_bifd (fun _ => wp_some (fun h => by cases h)) (fun h2 => ?_))
    exact wp_bind ((tot_ref15_Table rib 0 hlen hrib).mono (fun y2 _ => wp_some (fun _ => hy0 (by simpa using h1))))
  refine wp_bif (fun h => wp_some rfl) (fun h => ?_)
  have hv := hs h
  have hvs := hv.s
  have hnet := net_ok hv
  have hrs := hv.rs
  have hn : y0.1.1 = n := hv.net
  refine wp_cut2 (wp_allL (P := fun _ => True) (xs := n.1) (by omega) ?_ (fun _ => e2l (wp_bind (wp_eq rfl (wp_some rfl)))))
  intro r rt hr
  have hr' : y0.1.1.1[r]? = some rt := by rw [hn]; exact hr
  have hrm := List.mem_of_getElem? hr
  have hrt := hnet.rt rt hrm
  have hsm := hv.sm rt hrm
  have hifl : rt.2.2.1.length ≤ 8 := hrt.ifl
  have hst := hsm.i6
  have hcl2 : (connL y0.1 r rt).length ≤ 8 := Nat.le_trans (List.length_filterMap_le _ _) (by rw [List.length_range]; exact hifl)
  refine wp_bind (wp_bind ((spec_static_Connected _ r rt hvs hr' hifl).mono (fun c hc => ?_)))
  have hcl := hc.1.length_eq
  refine wp_bind ((spec_ref20_Connected _ r rt hvs hr' hifl).mono (fun c' hc' => ?_))
  have hap := conn_apart hv hr
  have hmem : ∀ y, y ∈ c → ∃ (k : Nat) (x : Ty.El tIface), rt.2.2.1[k]? = some x ∧ upB y0.1 r k = true ∧ y = mkc x k := fun y hy => conn_mem (hc.1.mem_iff.1 hy)
  have he : c = c' := by
    rw [hc']
    refine sorted_eq rlt_ord (perm_strict hc.1 hc.2 hap) (mergeL_sorted _) (fun z => ?_)
    rw [hc.1.mem_iff, merge_apart hap]
    intro x hx
    obtain ⟨k, x', _, _, rfl⟩ := conn_mem hx
    rfl
  subst he
  refine wp_bind (wp_eq (sameAll_refl c (by omega) ?_) ?_)
  · intro y hy
    obtain ⟨k, x, _, _, rfl⟩ := hmem y hy
    exact ⟨Nat.zero_le _, (show 1 ≤ 1048576 by omega)⟩
  refine ff rfl (wp_bind ((spec_static_Active _ rib r rt hvs hr' hlen).mono (fun a ha => ?_)))
  refine wp_bind ((spec_ref20_Active _ rib r rt hvs hr' hlen hrt.sts).mono (fun a' ha' => ?_))
  have he : a = a' := by rw [ha, ha']
  subst he
  have hal : a.length ≤ 20 := by rw [ha]; exact Nat.le_trans (List.length_filterMap_le _ _) hst
  refine wp_bind (wp_eq (sameAll_refl a (by omega) ?_) (wp_some ?_))
  · intro y hy
    rw [ha] at hy
    obtain ⟨x, _, hax⟩ := List.mem_filterMap.1 hy
    exact (act_pre hax).2
  · exact wp_some (e2l ⟨rfl, trivial⟩)

theorem rts_fits'' {y : Ty.El tRoute} (h : Ty.fits 1048576 tRoute y) : RtS y :=
  ⟨h.2.2.2.2.2.2.2.2.1.1, h.2.2.2.2.2.2.2.2.2.2.2.1.1⟩

theorem ans_law18_StaticRoutes : ∀ x : ElS [tNetwork, .sl tI, .sl tRoute], fitsS 1048576 [tNetwork, .sl tI, .sl tRoute] x → law18_StaticRoutes x = some true := by
  rintro ⟨n, d, rib, ⟨⟩⟩ ⟨_, _, ⟨h1, h2⟩, _⟩
  exact wp_val (law_StaticRoutes n d rib (fun y hy => rts_fits'' (h2 y hy)) h1)
end Go.Ve
