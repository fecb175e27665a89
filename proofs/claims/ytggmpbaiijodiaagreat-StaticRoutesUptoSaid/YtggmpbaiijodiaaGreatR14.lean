/-
  Plain laws: merging where prefixes differ; the reference's connected and active routes.
  Plain laws: valid routes.
  Plain laws: the reference's active routes; tables compared.
  Functions out of code, part 10: typed data out of data without types, lists too.
-/
import Derived.Test.YtggmpbaiijodiaaGreatR13
import Derived.Test.YtggmpbaiijodiaaGreatR9
import Derived.Test.YtggmpbaiijodiaaGreatR11
set_option linter.unusedVariables false
namespace Go.Ve
open Go
set_option maxRecDepth 1000000
set_option maxHeartbeats 4000000

theorem best_aux {p : Ty.El tPrefix} {b : Ty.El tRoute} : ∀ (l : List (Ty.El tRoute)) (c : Option (Ty.El tRoute)), l.foldl (bstep p) c = some b → c = some b ∨ (b ∈ l ∧ b.1 = p)
  | [], c, h => .inl h
  | x :: l, c, h => by
    rw [List.foldl_cons] at h
    rcases best_aux l _ h with h | ⟨h1, h2⟩
    · unfold bstep at h
      cases hc : preB x.1 p && bbet x c with
      | true =>
        rw [hc, cond_true] at h
        cases h
        simp only [Bool.and_eq_true] at hc
        exact .inr ⟨by simp, preB_iff.1 hc.1⟩
      | false => rw [hc, cond_false] at h; exact .inl h
    · exact .inr ⟨List.mem_cons_of_mem _ h1, h2⟩

/-- The best route is one of them, with that prefix. -/
theorem best_mem {l : List (Ty.El tRoute)} {p : Ty.El tPrefix} {b : Ty.El tRoute} (h : bestOf l p = some b) : b ∈ l ∧ b.1 = p := by
  rcases best_aux l none h with h | h
  · cases h
  · exact h

theorem setHops_pre {b : Ty.El tRoute} {hs : List (Ty.El tHop)} : (setHops b hs).1 = b.1 := rfl

theorem mrg_pre {l : List (Ty.El tRoute)} {p : Ty.El tPrefix} {z : Ty.El tRoute} (h : mrg l p = some z) : z.1 = p := by
  unfold mrg at h
  cases hb : bestOf l p with
  | none => rw [hb] at h; cases h
  | some b => rw [hb] at h; cases h; exact (best_mem hb).2

theorem mergeL_sorted (l : List (Ty.El tRoute)) : (mergeL l).Pairwise rlt := by
  unfold mergeL
  refine List.Pairwise.filterMap _ ?_ (preL_sorted l)
  intro p q hpq y hy z hz
  unfold rlt
  rw [mrg_pre hy, mrg_pre hz]
  exact hpq

theorem bstep_skip {p : Ty.El tPrefix} {c : Option (Ty.El tRoute)} : ∀ (l : List (Ty.El tRoute)), (∀ x, x ∈ l → x.1 ≠ p) → l.foldl (bstep p) c = c
  | [], _ => rfl
  | x :: l, h => by
    have hx : preB x.1 p = false := by
      rw [Bool.eq_false_iff]
      exact fun hh => h x (by simp) (preB_iff.1 hh)
    rw [List.foldl_cons]
    unfold bstep
    rw [hx]
    exact bstep_skip l (fun y hy => h y (List.mem_cons_of_mem _ hy))

theorem hstep_skip {p : Ty.El tPrefix} {b : Ty.El tRoute} {hs : List (Ty.El tHop)} : ∀ (l : List (Ty.El tRoute)), (∀ x, x ∈ l → x.1 ≠ p) → l.foldl (hstep p b) hs = hs
  | [], _ => rfl
  | x :: l, h => by
    have hx : preB x.1 p = false := by
      rw [Bool.eq_false_iff]
      exact fun hh => h x (by simp) (preB_iff.1 hh)
    rw [List.foldl_cons]
    unfold hstep
    rw [hx]
    exact hstep_skip l (fun y hy => h y (List.mem_cons_of_mem _ hy))

theorem best_apart : ∀ (l : List (Ty.El tRoute)) (x : Ty.El tRoute), l.Pairwise (fun x y => x.1 ≠ y.1) → x ∈ l → bestOf l x.1 = some x ∧ hopsOf l x.1 x = x.2.2.2.2.2.2.2.2.2.2.2.1.foldl addHopL []
  | [], x, _, h => by cases h
  | y :: l, x, hp, h => by
    rw [List.pairwise_cons] at hp
    unfold bestOf hopsOf
    rw [List.foldl_cons, List.foldl_cons]
    rcases List.mem_cons.1 h with rfl | h
    · have h1 : bstep x.1 none x = some x := by unfold bstep; rw [preB_iff.2 rfl]; rfl
      have h2 : hstep x.1 x [] x = x.2.2.2.2.2.2.2.2.2.2.2.1.foldl addHopL [] := by unfold hstep; rw [preB_iff.2 rfl, prefI_self]; rfl
      rw [h1, h2, bstep_skip l (fun z hz => (hp.1 z hz).symm), hstep_skip l (fun z hz => (hp.1 z hz).symm)]
      exact ⟨rfl, rfl⟩
    · have hne : preB y.1 x.1 = false := by
        rw [Bool.eq_false_iff]
        exact fun hh => hp.1 x h (preB_iff.1 hh)
      have h1 : bstep x.1 none y = none := by unfold bstep; rw [hne]; rfl
      have h2 : hstep x.1 x [] y = [] := by unfold hstep; rw [hne]; rfl
      rw [h1, h2]
      exact best_apart l x hp.2 h

theorem setHops_self (b : Ty.El tRoute) : setHops b b.2.2.2.2.2.2.2.2.2.2.2.1 = b := rfl

/-- Where prefixes differ and hops are in order, merging only sorts. -/
theorem merge_apart {l : List (Ty.El tRoute)} (hp : l.Pairwise (fun x y => x.1 ≠ y.1)) (hh : ∀ x, x ∈ l → x.2.2.2.2.2.2.2.2.2.2.2.1.foldl addHopL [] = x.2.2.2.2.2.2.2.2.2.2.2.1) (z : Ty.El tRoute) : z ∈ mergeL l ↔ z ∈ l := by
  have hm : ∀ x, x ∈ l → mrg l x.1 = some x := by
    intro x hx
    obtain ⟨h1, h2⟩ := best_apart l x hp hx
    unfold mrg
    rw [h1, Option.map_some, h2, hh x hx, setHops_self]
  unfold mergeL
  rw [List.mem_filterMap]
  constructor
  · rintro ⟨p, hpm, hz⟩
    obtain ⟨x, hx, rfl⟩ := (preL_mem l p).1 hpm
    rw [hm x hx] at hz
    cases hz
    exact hx
  · intro hz
    exact ⟨z.1, (preL_mem l z.1).2 ⟨z, hz, rfl⟩, hm z hz⟩

theorem addHopL_nil (h : Ty.El tHop) : addHopL [] h = [h] := rfl

theorem spec_ref20_router (v : Ty.El tView) (r : Nat) (h : r < v.1.1.length) : ref20_router (v, (r : Int), ()) = some true := by
  refine wp_val ?_
  unfold ref20_router
  dsimp only
  refine wp_bind (wp_bifd (fun _ => wp_some (wp_some ?_)) (fun h' => absurd (Int.natCast_nonneg r) h'))
  exact decide_eq_true (Int.ofNat_lt.2 h)

theorem spec_ref20_network (v : Ty.El tView) (r k : Nat) (rt : Ty.El tRouter) (x : Ty.El tIface) (hr : v.1.1[r]? = some rt) (hx : rt.2.2.1[k]? = some x) : ref20_network (v, (r : Int), (k : Int), ()) = some (netw x.2.1 x.2.2.1) := by
  refine wp_val ?_
  unfold ref20_network
  dsimp only
  refine wp_bind (wp_eq (idx_nat hr) (wp_bind (wp_eq (idx_nat hx) (wp_bind (wp_eq (spec_ref4_Network _ _) (wp_some rfl))))))

theorem spec_ref20_Connected (v : Ty.El tView) (r : Nat) (rt : Ty.El tRouter) (hv : ViewS v) (hr : v.1.1[r]? = some rt) (hlen : rt.2.2.1.length ≤ 8) :
    Wp (ref20_Connected (v, (r : Int), ())) (fun out => out = mergeL (connL v r rt)) := by
  unfold ref20_Connected
  dsimp only
  have hrl := (List.getElem?_eq_some_iff.1 hr).1
  have hfl : ∀ i, i ≤ 8 → ((List.range i).filterMap (connF v r rt)).length ≤ 8 := fun i hi => Nat.le_trans (List.length_filterMap_le _ _) (by rw [List.length_range]; exact hi)
  refine wp_bind ((show Wp _ (fun g : List (Ty.El tRoute) => g = connL v r rt) from ?_).mono (fun g hg => ?_))
  · refine wp_loop (fun s : Int × List (Ty.El tRoute) => ∃ i : Nat, s.1 = (i : Int) ∧ i ≤ rt.2.2.1.length ∧ s.2 = (List.range i).filterMap (connF v r rt)) (fun s => ((rt.2.2.1.length : Int) - s.1).toNat) ⟨0, rfl, Nat.zero_le _, rfl⟩ ?_
    rintro ⟨s, g⟩ ⟨i, hi, hil, hg⟩
    simp only at hi hg
    subst hi
    refine wp_bind (wp_bind (wp_eq (spec_ref20_router v r hrl) (wp_bif (fun _ => ?_) (fun h => by cases h))))
    simp only [idx_nat hr, Option.bind_some]
    refine wp_some (wp_bifd (fun h => ?_) (fun h => wp_some (e2r ?_)))
    · have h : (i : Int) < (rt.2.2.1.length : Int) := h
      have hx : rt.2.2.1[i]? = some (rt.2.2.1[i]'(by omega)) := by simp
      have hgl : g.length ≤ 8 := by rw [hg]; exact hfl i (by omega)
      have hf : connF v r rt i = bif upB v r i then some (mkc (rt.2.2.1[i]'(by omega)) i) else none := by unfold connF; rw [hx]
      refine wp_bind (Wp.mono (Q := fun g' => g' = (List.range (i + 1)).filterMap (connF v r rt)) ?_ (fun g' hg' => wp_some (e2l ⟨⟨i + 1, ?_, by omega, hg'⟩, ?_⟩)))
      · rw [filterMap_range, ← hg, hf]
        refine wp_bind ((spec_ref15_Up v r i hv).mono (fun b hb => ?_))
        subst hb
        refine wp_bif (fun h => wp_bind (wp_eq (spec_ref20_network v r i rt _ hr hx) (wp_bind (wp_app (by simp only [List.length_singleton]; omega) (wp_some ?_))))) (fun h => wp_some ?_)
        · have h : upB v r i = true := h
          rw [h]; rfl
        · have h : upB v r i = false := h
          rw [h]; simp
      · simp only; rw [wrap_i64 (by omega) (by omega)]; omega
      · simp only; rw [wrap_i64 (by omega) (by omega)]; omega
    · have h : ¬ (i : Int) < (rt.2.2.1.length : Int) := h
      have : i = rt.2.2.1.length := by omega
      rw [hg, this]; rfl
  · subst hg
    have hcl := hfl rt.2.2.1.length hlen
    refine wp_bind ((spec_ref15_Merge (connL v r rt) (by unfold connL; omega) ?_).mono (fun r hr => wp_some hr))
    intro y hy
    obtain ⟨k, x, _, _, rfl⟩ := conn_mem hy
    exact ⟨Nat.zero_le _, (show 1 ≤ 1048576 by omega)⟩

theorem spec_ref20_Resolves (t : List (Ty.El tRoute)) (own : Ty.El tPrefix) (a : Int) (hl : t.length < 4611686018427387904) :
    Wp (ref20_Resolves (t, own, a, ())) (fun k => (k < 0 ∧ resolveR t own a = none) ∨ ∃ (i : Nat) (y : Ty.El tRoute), k = (i : Int) ∧ t[i]? = some y ∧ resolveR t own a = some y) := by
  unfold ref20_Resolves
  dsimp only
  refine wp_bind ((wp_fold (xs := t) hl (fun i (k : Int) => (k < 0 ∧ (t.take i).foldl (rstep own a) none = none) ∨ ∃ (m : Nat) (y : Ty.El tRoute), k = (m : Int) ∧ t[m]? = some y ∧ (t.take i).foldl (rstep own a) none = some y)
    (.inl ⟨by omega, rfl⟩) ?_ (fun g hg => ?_) (Q := fun k => (k < 0 ∧ resolveR t own a = none) ∨ ∃ (i : Nat) (y : Ty.El tRoute), k = (i : Int) ∧ t[i]? = some y ∧ resolveR t own a = some y)).mono (fun k hk => wp_some hk))
  · intro i x k hx hj
    rw [foldl_take hx]
    generalize (t.take i).foldl (rstep own a) none = b at hj
    simp only [idx_nat hx, Option.bind_some]
    have skip : (preB x.1 own || !cont x.1 a) = true → Wp (some false) (fun s : Bool => Wp (bif s then some (i : Int) else some k) (fun k => (k < 0 ∧ rstep own a b x = none) ∨ ∃ (m : Nat) (y : Ty.El tRoute), k = (m : Int) ∧ t[m]? = some y ∧ rstep own a b x = some y)) := by
      intro h
      refine wp_some (wp_some ?_)
      rw [rstep_skip h]
      exact hj
    refine wp_bind (wp_bif (fun h => ?_) (fun h => skip ?_))
    · have h : preB x.1 own = false := by
        have h' : (!preB x.1 own) = true := h
        simpa using h'
      refine wp_bind (wp_eq (spec_ref4_Contains _ _) (wp_bif (fun h' => ?_) (fun h' => skip ?_)))
      · have h' : contB x.1 a = true := h'
        have hsk : (preB x.1 own || !cont x.1 a) = false := by rw [h, cont_contB, h']; rfl
        rcases hj with ⟨h1, rfl⟩ | ⟨m, y, rfl, h2, rfl⟩
        · refine wp_bifd (fun _ => wp_some (wp_some ?_)) (fun h3 => absurd h1 h3)
          exact .inr ⟨i, x, rfl, hx, rstep_none hsk⟩
        · refine wp_bifd (fun h3 => absurd h3 (by omega)) (fun _ => ?_)
          simp only [idx_nat h2, Option.bind_some]
          refine wp_some (wp_bifd (fun h4 => wp_some ?_) (fun h4 => wp_some ?_))
          · exact .inr ⟨i, x, rfl, hx, by rw [rstep_some hsk, if_pos h4]⟩
          · exact .inr ⟨m, y, rfl, h2, by rw [rstep_some hsk, if_neg h4]⟩
      · have h' : contB x.1 a = false := h'
        rw [cont_contB, h']; simp
    · have h' : (!preB x.1 own) = false := h
      have h' : preB x.1 own = true := by simpa using h'
      rw [h']; rfl
  · rw [List.take_length] at hg
    exact hg
end Go.Ve

namespace Go.Ve
open Go
set_option maxRecDepth 1000000
set_option maxHeartbeats 4000000

theorem tt {α : Type} {c : Bool} {x y : Option α} {Q : α → Prop} (hc : c = true) (h : Wp x Q) : Wp (bif c then x else y) Q := by rw [hc]; exact h
theorem ff {α : Type} {c : Bool} {x y : Option α} {Q : α → Prop} (hc : c = false) (h : Wp y Q) : Wp (bif c then x else y) Q := by rw [hc]; exact h

theorem hops_one {k : Int} (hk : 0 ≤ k) : ref15_hops ([(k, 0, ())], true, ()) = some true := by
  refine wp_val ?_
  unfold ref15_hops
  dsimp only
  refine wp_all (xs := [((k, 0, ()) : Ty.El tHop)]) (P := fun _ => True) (by simp) ?_ (fun _ => wp_some rfl)
  intro i x hx
  have hi := (List.getElem?_eq_some_iff.1 hx).1
  have hi : i = 0 := by simpa using hi
  subst hi
  have hx' : x = (k, 0, ()) := by simpa using hx.symm
  subst hx'
  simp only [idx_nat hx, Option.bind_some]
  refine wp_bind (wp_bifd (fun h => absurd hk (Int.not_le.2 h)) (fun _ => wp_bifd (fun h => absurd h (by decide)) (fun _ => wp_some ?_)))
  exact wp_some (e2l ⟨rfl, trivial⟩)

theorem plain_of {x : Ty.El tRoute} (h1 : x.2.2.2.2.2.1 = 0) (h2 : x.2.2.2.2.2.2.2.1 = 0) (h3 : x.2.2.2.2.2.2.2.2.1 = []) (h4 : x.2.2.2.2.2.2.2.2.2.1 = 0) (c : Bool) (h5 : c = false → x.2.2.2.2.2.2.2.2.2.2.1 = 0) :
    ref15_plain (x, false, false, c, ()) = some true := by
  refine wp_val ?_
  unfold ref15_plain
  dsimp only
  refine wp_bind (ff rfl (tt (by rw [h1]; rfl) (ff rfl (tt (by rw [h2]; rfl) (tt (by rw [h3]; rfl) (tt (by rw [h4]; rfl) (wp_bif (fun _ => wp_some (wp_some rfl)) (fun hc => wp_some (wp_some ?_)))))))))
  rw [h5 hc]; rfl

theorem valid_head {x : Ty.El tRoute} {Q : Bool → Prop} (hp : validB x.1 = true) (ht : 0 ≤ x.2.2.2.2.2.2.1 ∧ x.2.2.2.2.2.2.1 ≤ 65535) (hpath : x.2.2.2.2.2.2.2.2.1 = [])
    (h : (x.2.1 = 1 ∧ x.2.2.1 = 0 ∧ x.2.2.2.1 = 0 ∧ x.2.2.2.2.1 = 0 ∧ x.2.2.2.2.2.2.1 = 0 ∧ ref15_plain (x, false, false, false, ()) = some true ∧ x.2.2.2.2.2.2.2.2.2.2.2.2.1 = false ∧ x.2.2.2.2.2.2.2.2.2.2.2.1.length = 1 ∧ ref15_hops (x.2.2.2.2.2.2.2.2.2.2.2.1, true, ()) = some true) ∨
      (x.2.1 = 2 ∧ ref15_validStatic (x, ()) = some true)) (hQ : Q true) : Wp (ref15_Valid (x, ())) Q := by
  unfold ref15_Valid
  dsimp only
  refine wp_bind (wp_bind (wp_eq (spec_ref4_Valid _) (ff (by rw [hp]; rfl) (wp_bind (wp_eq (spec_ref15_within _ _ _) (ff (by rw [decide_eq_true ht.1, decide_eq_true ht.2]; rfl) (wp_some ?_)))))))
  refine ff (by rw [hpath]; rfl) ?_
  refine wp_all (P := fun _ => True) (by rw [hpath]; decide) ?_ (fun _ => ?_)
  · intro i y hy
    rw [hpath] at hy
    simp at hy
  · rcases h with ⟨g1, g2, g3, g4, g5, g6, g7, g8, g9⟩ | ⟨g1, g2⟩
    · refine tt (by rw [g1]; rfl) (wp_bind (tt (by rw [g2]; rfl) (tt (by rw [g3]; rfl) (tt (by rw [g4]; rfl) (tt (by rw [g5]; rfl) (wp_bind (wp_eq g6 (tt rfl (tt (by rw [g7]; rfl) (tt (by rw [g8]; rfl) (wp_bind (wp_eq g9 (wp_some (wp_some hQ)))))))))))))) 
    · exact ff (by rw [g1]; rfl) (tt (by rw [g1]; rfl) (wp_bind (wp_eq g2 (wp_some hQ))))

theorem valid_mkc (x : Ty.El tIface) (k : Nat) : ref15_Valid (mkc x k, ()) = some true := by
  refine wp_val (valid_head (netw_valid _ _) (show (0 : Int) ≤ 0 ∧ (0 : Int) ≤ 65535 by decide) rfl (.inl ⟨rfl, rfl, rfl, rfl, rfl, plain_of rfl rfl rfl rfl _ (fun _ => rfl), rfl, rfl, hops_one (Int.natCast_nonneg k)⟩) rfl)

theorem act_valid {v : Ty.El tView} {t : List (Ty.El tRoute)} {r : Int} {rt : Ty.El tRouter} {x : Ty.El tStatic} {y : Ty.El tRoute} (hx : StOne rt x) (h : act v t r rt x = some y) :
    ref15_Valid (y, ()) = some true ∧ x.1 = y.1 ∧ x.2.2.2.2.1 = y.2.2.2.1 ∧ x.2.1 = y.2.2.2.2.2.2.2.2.2.2.1 ∧ x.2.2.2.1 = y.2.2.2.2.2.2.2.2.2.2.2.2.1 ∧ x.2.2.2.2.2.1 = y.2.2.2.2.2.2.1 := by
  have had : (decide ((1 : Int) ≤ x.2.2.2.2.1) && decide (x.2.2.2.2.1 ≤ 255)) = true := by rw [decide_eq_true hx.admin.1, decide_eq_true hx.admin.2]; rfl
  have vs : ∀ z : Ty.El tRoute, z.2.2.1 = 0 → z.2.2.2.2.1 = 0 → z.2.2.2.1 = x.2.2.2.2.1 → ref15_plain (z, false, false, true, ()) = some true →
      ((z.2.2.2.2.2.2.2.2.2.2.1 ≠ 0 ∧ z.2.2.2.2.2.2.2.2.2.2.2.1 = [] ∧ z.2.2.2.2.2.2.2.2.2.2.2.2.1 = false) ∨ (z.2.2.2.2.2.2.2.2.2.2.1 = 0 ∧ z.2.2.2.2.2.2.2.2.2.2.2.2.1 = true ∧ z.2.2.2.2.2.2.2.2.2.2.2.1 = []) ∨
        (z.2.2.2.2.2.2.2.2.2.2.1 = 0 ∧ z.2.2.2.2.2.2.2.2.2.2.2.2.1 = false ∧ z.2.2.2.2.2.2.2.2.2.2.2.1.length = 1 ∧ ref15_hops (z.2.2.2.2.2.2.2.2.2.2.2.1, true, ()) = some true)) → ref15_validStatic (z, ()) = some true := by
    intro z h1 h2 h3 h4 h5
    refine wp_val ?_
    unfold ref15_validStatic
    dsimp only
    refine wp_bind (ff (by rw [h1]; rfl) (ff (by rw [h2]; rfl) (wp_bind (wp_eq (spec_ref15_within _ _ _) (ff (by rw [h3, had]; rfl) (wp_bind (wp_eq h4 (wp_some ?_))))))))
    refine ff rfl ?_
    rcases h5 with ⟨g1, g2, g3⟩ | ⟨g1, g2, g3⟩ | ⟨g1, g2, g3, g4⟩
    · refine tt (by simpa using g1) (wp_bind (tt (by rw [g2]; rfl) (wp_some (wp_some ?_))))
      rw [g3]; rfl
    · refine ff (by rw [g1]; rfl) (tt (by rw [g2]) (wp_some ?_))
      rw [g3]; rfl
    · exact ff (by rw [g1]; rfl) (ff (by rw [g2]) (wp_bind (tt (by rw [g3]; rfl) (wp_bind (wp_eq g4 (wp_some (wp_some rfl)))))))
  unfold act at h
  rcases hx.one with ⟨c1, c2, c3⟩ | ⟨c1, c2, c3⟩ | ⟨c1, c2, c3⟩
  · have h1 : (x.2.1 != (0 : Int)) = true := by simpa using c1
    rw [h1, cond_true] at h
    split at h
    · cases h
    · rename_i z _
      cases h2 : z.2.2.2.2.2.2.2.2.2.2.2.2.1 with
      | true => rw [h2, cond_true] at h; cases h
      | false =>
        rw [h2, cond_false] at h
        cases h
        refine ⟨wp_val (valid_head hx.pre hx.tag rfl (.inr ⟨rfl, vs _ rfl rfl rfl (plain_of rfl rfl rfl rfl _ (fun h => by cases h)) (.inl ⟨c1, rfl, rfl⟩)⟩) rfl), rfl, rfl, rfl, c3, rfl⟩
  · have h1 : (x.2.1 != (0 : Int)) = false := by rw [c1]; rfl
    rw [h1, cond_false] at h
    have h2 : (x.2.2.1 != { data := #[] }) = true := by simpa using c2
    rw [h2, cond_true] at h
    cases h3 : upB v r (ifIdx rt x.2.2.1) with
    | false => rw [h3, cond_false] at h; cases h
    | true =>
      rw [h3, cond_true] at h
      cases h
      exact ⟨wp_val (valid_head hx.pre hx.tag rfl (.inr ⟨rfl, vs _ rfl rfl rfl (plain_of rfl rfl rfl rfl _ (fun h => by cases h)) (.inr (.inr ⟨rfl, rfl, rfl, hops_one (hx.iface c2)⟩))⟩) rfl), rfl, rfl, c1, c3, rfl⟩
  · have h1 : (x.2.1 != (0 : Int)) = false := by rw [c1]; rfl
    rw [h1, cond_false] at h
    have h2 : (x.2.2.1 != { data := #[] }) = false := by rw [c2]; simp
    rw [h2, cond_false] at h
    rw [c3, cond_true] at h
    cases h
    exact ⟨wp_val (valid_head hx.pre hx.tag rfl (.inr ⟨rfl, vs _ rfl rfl rfl (plain_of rfl rfl rfl rfl _ (fun h => by cases h)) (.inr (.inl ⟨rfl, rfl, rfl⟩))⟩) rfl), rfl, rfl, c1, c3, rfl⟩
end Go.Ve

namespace Go.Ve
open Go
set_option maxRecDepth 1000000
set_option maxHeartbeats 4000000

theorem spec_ref20_Active (v : Ty.El tView) (t : List (Ty.El tRoute)) (r : Nat) (rt : Ty.El tRouter) (hv : ViewS v) (hr : v.1.1[r]? = some rt) (ht : t.length ≤ 1048576) (hok : StsOk rt) :
    Wp (ref20_Active (v, t, (r : Int), ())) (fun out => out = rt.2.2.2.2.2.2.2.1.filterMap (act v t r rt)) := by
  unfold ref20_Active
  dsimp only
  have hrl := (List.getElem?_eq_some_iff.1 hr).1
  have hsm := hv.sm rt (List.mem_of_getElem? hr)
  have hst := hsm.i6
  refine wp_bind (wp_eq (spec_ref20_router v r hrl) (wp_bif (fun h => by cases h) (fun _ => ?_)))
  simp only [idx_nat hr, Option.bind_some]
  refine wp_bind ((wp_fold (xs := rt.2.2.2.2.2.2.2.1) (by omega) (fun i (g : List (Ty.El tRoute)) => g = (rt.2.2.2.2.2.2.2.1.take i).filterMap (act v t r rt)) rfl ?_ (Q := fun g => g = rt.2.2.2.2.2.2.2.1.filterMap (act v t r rt)) (fun g hg => by rw [hg, List.take_length])).mono (fun g hg => wp_some hg))
  intro i x g hx hg
  have hi := (List.getElem?_eq_some_iff.1 hx).1
  have hx1 := hok x (List.mem_of_getElem? hx)
  have hgl : g.length ≤ i := by
    rw [hg]
    refine Nat.le_trans (List.length_filterMap_le _ _) ?_
    rw [List.length_take]
    omega
  simp only [idx_nat hx, Option.bind_some]
  rw [filterMap_take hx, ← hg]
  have take : ∀ y, act v t r rt x = some y → Wp (Option.bind (app (136 : Nat) g [y]) fun y68 => some y68) (fun g' => g' = g ++ (act v t r rt x).toList) := by
    intro y h
    rw [h]
    exact wp_bind (wp_app (by simp only [List.length_singleton]; omega) (wp_some rfl))
  rcases hx1.one with ⟨c1, c2, c3⟩ | ⟨c1, c2, c3⟩ | ⟨c1, c2, c3⟩
  · have h1 : (x.2.1 != (0 : Int)) = true := by simpa using c1
    have h2 : (x.2.2.1 != { data := #[] }) = false := by rw [c2]; simp
    refine wp_cutP (fun o : List (Ty.El tRoute) => o = g ∧ act v t r rt x = some (x.1, (2 : Int), (0 : Int), x.2.2.2.2.1, (0 : Int), (0 : Int), x.2.2.2.2.2.1, (0 : Int), [], (0 : Int), x.2.1, [], false, ())) ?_ ?_
    · refine tt h1 (wp_bind ((spec_ref20_Resolves t x.1 x.2.1 (by omega)).mono (fun k hk => ?_)))
      have skip : act v t r rt x = none → g = g ++ (act v t r rt x).toList := by
        intro h; rw [h]; exact (List.append_nil g).symm
      rcases hk with ⟨hk, hn⟩ | ⟨m, y, rfl, hm, hy⟩
      · refine wp_bind (wp_bifd (fun _ => wp_some (wp_some (e2r (skip ?_)))) (fun h => absurd hk h))
        unfold act
        rw [h1, cond_true, hn]
      · refine wp_bind (wp_bifd (fun h => absurd h (by omega)) (fun _ => ?_))
        simp only [idx_nat hm, Option.bind_some]
        refine wp_some (wp_bif (fun h => wp_some (e2r (skip ?_))) (fun h => wp_some (e2l ⟨rfl, ?_⟩)))
        · unfold act
          rw [h1, cond_true, hy]
          simp only
          have h : y.2.2.2.2.2.2.2.2.2.2.2.2.1 = true := h
          rw [h]; rfl
        · unfold act
          rw [h1, cond_true, hy]
          simp only
          have h : y.2.2.2.2.2.2.2.2.2.2.2.2.1 = false := h
          rw [h]; rfl
    · rintro o ⟨rfl, ha⟩
      refine wp_cut2 (ff h2 (wp_some (e2l ?_)))
      refine take _ ?_
      rw [ha, c3]
  · have h1 : (x.2.1 != (0 : Int)) = false := by rw [c1]; rfl
    have h2 : (x.2.2.1 != { data := #[] }) = true := by simpa using c2
    refine wp_cut2 (ff h1 (wp_some (e2l (wp_cut2 (tt h2 (wp_bind ((spec_ref8_Interface rt x.2.2.1 hsm).mono (fun k hk => ?_))))))))
    subst hk
    refine wp_bind ((spec_ref15_Up v r _ hv).mono (fun b hb => ?_))
    subst hb
    refine wp_bif (fun h => wp_some (e2r ?_)) (fun h => wp_some (e2l (take _ ?_)))
    · have h : (!upB v r (ifIdx rt x.2.2.1)) = true := h
      have h : upB v r (ifIdx rt x.2.2.1) = false := by simpa using h
      have ha : act v t r rt x = none := by
        unfold act
        rw [h1, cond_false, h2, cond_true, h]; rfl
      rw [ha]; exact (List.append_nil g).symm
    · have h : (!upB v r (ifIdx rt x.2.2.1)) = false := h
      have h : upB v r (ifIdx rt x.2.2.1) = true := by simpa using h
      unfold act
      rw [h1, cond_false, h2, cond_true, h, c1, c3]; rfl
  · have h1 : (x.2.1 != (0 : Int)) = false := by rw [c1]; rfl
    have h2 : (x.2.2.1 != { data := #[] }) = false := by rw [c2]; simp
    refine wp_cut2 (ff h1 (wp_some (e2l (wp_cut2 (ff h2 (wp_some (e2l (take _ ?_))))))))
    unfold act
    rw [h1, cond_false, h2, cond_false, c1, c3]; rfl

theorem sameAll_refl (l : List (Ty.El tRoute)) (hl : l.length ≤ 1048576) (hs : ∀ y, y ∈ l → RtS y) : ref15_SameAll (l, l, ()) = some true := by
  refine wp_val ?_
  unfold ref15_SameAll
  dsimp only
  refine ff (by simp) ?_
  refine wp_all (P := fun _ => True) (by omega) ?_ (fun _ => wp_some rfl)
  intro i x hx
  simp only [idx_nat hx, Option.bind_some]
  refine wp_bind ((same_iff x x (hs x (List.mem_of_getElem? hx))).mono (fun b hb => ?_))
  rw [hb.2 rfl]
  exact wp_some (e2l ⟨rfl, trivial⟩)
end Go.Ve

namespace Go.Ve
open Go

def decL {α : Type} (f : List V → Option (α × List V)) : List V → Option (List α)
  | [] => some []
  | e :: r => match f e.cells with
    | some (x, []) => match decL f r with
      | some xs => some (x :: xs)
      | none => none
    | _ => none

/-- A typed datum, taken off the head of these cells; lists without types are looked into. -/
def Ty.unc : (t : Ty) → List V → Option (t.El × List V)
  | .pair a b, cs => match a.unc cs with
    | some (x, r) => match b.unc r with
      | some (y, r) => some ((x, y), r)
      | none => none
    | none => none
  | .sl t, cs => match cs with
    | .sl es :: r => match decL t.unc es with
      | some xs => some (xs, r)
      | none => none
    | cs => takeSl t cs
  | .int k, cs => takeInt k cs
  | .bool, cs => takeBool cs
  | .str, cs => takeStr cs
  | .unit, cs => some ((), cs)
  | .rf, cs => takeRf cs

theorem decL_get {α : Type} {f : List V → Option (α × List V)} : ∀ {es : List V} {xs : List α}, decL f es = some xs → es.length = xs.length ∧ ∀ (i : Nat) (x : α), xs[i]? = some x → ∃ e, es[i]? = some e ∧ f e.cells = some (x, [])
  | [], xs, h => by simp only [decL, Option.some.injEq] at h; subst h; exact ⟨rfl, fun i x h => by simp at h⟩
  | e :: r, xs, h => by
    simp only [decL] at h
    split at h
    · rename_i x hx
      split at h
      · rename_i xs' hxs
        simp only [Option.some.injEq] at h
        subst h
        obtain ⟨h1, h2⟩ := decL_get hxs
        refine ⟨by simp [h1], fun i y hy => ?_⟩
        cases i with
        | zero => simp only [List.getElem?_cons_zero, Option.some.injEq] at hy; subst hy; exact ⟨e, rfl, hx⟩
        | succ i => exact h2 i y (by simpa using hy)
      · cases h
    · cases h

theorem wk_list {t : Ty} {es : List V} {xs : List t.El} (hl : es.length = xs.length) (h : ∀ (i : Nat) (e : V) (x : t.El), es[i]? = some e → xs[i]? = some x → WkVs e.cells (t.cells x)) : WkV (.sl es) (.tl t xs) := by
  intro w F v hr
  refine .tl t xs v ?_
  cases hr with
  | slemp a cap =>
    have : xs = [] := List.eq_nil_of_length_eq_zero hl.symm
    subst this
    exact .slemp a cap
  | sl b off cap k _ g hFb hcap hk hg hr =>
    have hel : es.length = (xs.map t.enc).length := by simpa using hl
    rw [hel] at hg hcap ⊢
    refine .sl b off cap k _ g hFb hcap ?_ hg ?_
    · intro e he
      simp only [List.mem_map] at he
      obtain ⟨x, hx, rfl⟩ := he
      obtain ⟨j, hj⟩ := List.getElem?_of_mem hx
      have hjl : j < es.length := by rw [hl]; exact (List.getElem?_eq_some_iff.1 hj).1
      have h1 := (h j es[j] x (by simp [hjl]) hj).len
      rw [enc_cells, ← h1]
      exact hk _ (List.getElem_mem hjl)
    · intro i j e d hi hj
      simp only [List.getElem?_map, Option.map_eq_some_iff] at hi
      obtain ⟨x, hx, rfl⟩ := hi
      rw [enc_cells] at hj
      have hil : i < es.length := by rw [hl]; exact (List.getElem?_eq_some_iff.1 hx).1
      have h1 := h i es[i] x (by simp [hil]) hx
      have hjl : j < (es[i]).cells.length := by rw [h1.len]; exact (List.getElem?_eq_some_iff.1 hj).1
      exact h1.get j _ d (List.getElem?_eq_getElem hjl) hj w F _ (hr i j es[i] _ (by simp [hil]) (List.getElem?_eq_getElem hjl))

theorem unc_sound : ∀ (t : Ty) (cs : List V) (x : t.El) (r : List V), t.unc cs = some (x, r) → ∃ cs1, cs = cs1 ++ r ∧ WkVs cs1 (t.cells x) := by
  intro t
  induction t with
  | int k => exact fun cs x r h => uncells_sound (.int k) cs x r h
  | bool => exact fun cs x r h => uncells_sound .bool cs x r h
  | str => exact fun cs x r h => uncells_sound .str cs x r h
  | unit => exact fun cs x r h => uncells_sound .unit cs x r h
  | rf => exact fun cs x r h => uncells_sound .rf cs x r h
  | pair a b iha ihb =>
    intro cs x r h
    simp only [Ty.unc] at h
    split at h
    · rename_i xa r1 h1
      split at h
      · rename_i xb r2 h2
        simp only [Option.some.injEq, Prod.mk.injEq] at h
        obtain ⟨rfl, rfl⟩ := h
        obtain ⟨c1, rfl, k1⟩ := iha cs xa r1 h1
        obtain ⟨c2, rfl, k2⟩ := ihb r1 xb r2 h2
        exact ⟨c1 ++ c2, by rw [List.append_assoc], k1.append k2⟩
      · cases h
    · cases h
  | sl t ih =>
    intro cs x r h
    simp only [Ty.unc] at h
    split at h
    · rename_i es r'
      split at h
      · rename_i xs hxs
        simp only [Option.some.injEq, Prod.mk.injEq] at h
        obtain ⟨rfl, rfl⟩ := h
        obtain ⟨h1, h2⟩ := decL_get hxs
        refine ⟨[.sl es], rfl, wk_list h1 ?_, trivial⟩
        intro i e y he hy
        obtain ⟨e', he', hf⟩ := h2 i y hy
        rw [he] at he'
        simp only [Option.some.injEq] at he'
        subst he'
        obtain ⟨c1, hc, hw⟩ := ih e.cells y [] hf
        rw [List.append_nil] at hc
        rw [hc]; exact hw
      · cases h
    · exact uncells_sound (.sl t) _ x r h

def Ty.decW (t : Ty) (d : V) : Option t.El :=
  match t with
  | .pair a b => match d with
    | .agg cs => match (Ty.pair a b).unc cs with
      | some (x, []) => some x
      | _ => none
    | _ => none
  | .unit => none
  | .sl t => match (Ty.sl t).unc [d] with
    | some (x, []) => some x
    | _ => none
  | .int k => (Ty.int k).dec d
  | .bool => Ty.bool.dec d
  | .str => Ty.str.dec d
  | .rf => Ty.rf.dec d

theorem decW_sound {t : Ty} {d : V} {x : t.El} (h : t.decW d = some x) : WkV d (t.enc x) := by
  cases t with
  | pair a b =>
    simp only [Ty.decW] at h
    split at h
    · rename_i cs
      split at h
      · rename_i x' hx
        simp only [Option.some.injEq] at h
        subst h
        obtain ⟨c1, h1, h2⟩ := unc_sound (.pair a b) cs x' [] hx
        simp only [List.append_nil] at h1
        subst h1
        exact WkV.agg h2
      · cases h
    · cases h
  | unit => simp [Ty.decW] at h
  | sl t =>
    simp only [Ty.decW] at h
    split at h
    · rename_i x' hx
      simp only [Option.some.injEq] at h
      subst h
      obtain ⟨c1, h1, h2⟩ := unc_sound (.sl t) [d] x' [] hx
      rw [List.append_nil] at h1
      subst h1
      exact h2.1
    · cases h
  | int k => exact dec_sound h
  | bool => exact dec_sound h
  | str => exact dec_sound h
  | rf => exact dec_sound h

def decSW : (ts : List Ty) → List V → Option (ElS ts)
  | [], [] => some ()
  | t :: ts, d :: ds => match t.decW d with
    | some x => match decSW ts ds with
      | some xs => some (x, xs)
      | none => none
    | none => none
  | _, _ => none

theorem decSW_sound : ∀ (ts : List Ty) (ds : List V) (x : ElS ts), decSW ts ds = some x → WkVs ds (encS ts x)
  | [], [], _, _ => trivial
  | [], _ :: _, _, h => by simp [decSW] at h
  | _ :: _, [], _, h => by simp [decSW] at h
  | t :: ts, d :: ds, x, h => by
    simp only [decSW] at h
    split at h
    · rename_i y hy
      split at h
      · rename_i ys hys
        simp only [Option.some.injEq] at h
        subst h
        exact ⟨decW_sound hy, decSW_sound ts ds ys hys⟩
      · cases h
    · cases h

/-- A contract over typed data, taken of data without types. -/
theorem fnOk_wide {Γ : Sig} {P : Program} {G : Nat → Option (List V)} {f : FuncId} {ts : List Ty} {R : RTy} {g : ElS ts → Option R.El} (h : FnOk Γ P G f (callS (specX ts R g))) : FnOk Γ P G f (callS (specG (decSW ts) R g)) := by
  intro w F O s args ds s' r hsig hG hF hlen hrd hspec
  simp only [callS, specG] at hspec
  cases hx : decSW ts ds with
  | none => rw [hx] at hspec; cases hspec
  | some x =>
    rw [hx] at hspec
    have hwk := decSW_sound ts ds x hx
    refine h w F O s args (encS ts x) s' r hsig hG hF (hlen.trans hwk.len) ?_ ?_
    · intro i u d hu hd
      have hlt : i < ds.length := by rw [hwk.len]; exact (List.getElem?_eq_some_iff.1 hd).1
      exact hwk.get i ds[i] d (by simp [hlt]) hd w F u (hrd i u ds[i] hu (by simp [hlt]))
    · simp only [callS, specX, specG, decS_enc]; exact hspec
end Go.Ve
