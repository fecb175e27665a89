/-
  Plain laws: the routes of one prefix are merged.
  Plain laws: the program's merging is the document's.
  Plain laws: the tables of distance-vector routing.
  Plain laws: the document's distance-vector tables.
  Plain laws: the fixed network of distance-vector routing; DistTables.
-/
import Derived.KernelRfl
import Derived.Test.YtcnlcmbchljpgaaGreatQf19
import Derived.Test.YtcnlcmbchljpgaaGreatQf14
import Derived.Test.YtcnlcmbchljpgaaGreatQf18
set_option linter.unusedVariables false
namespace Go.Ve
open Go
set_option maxRecDepth 1000000
set_option maxHeartbeats 4000000
theorem zNM {l l' : List (Ty.El zA)} {p : Ty.El zG} (h : vB p l = vB p l') : mrg l p = mrg l' p := by
 have hm : ∀ x, (x ∈ l ∧ x.1 = p) ↔ (x ∈ l' ∧ x.1 = p) := fun x => by rw [← zAq, ← zAq, h]
 unfold mrg
 have hb : zCB l p = zCB l' p := by
  rw [zCA, zCA, h]
 rw [hb]
 cases zCB l' p with
 | none => rfl
 | some b =>
  have hh : zDe l p b = zDe l' p b := zBb zIA (x6 _ _ _) (x6 _ _ _) (fun h' => by
   rw [zCs, zCs]
   exact ⟨fun ⟨x, hx, e, k⟩ => ⟨x, ((hm x).1 ⟨hx, e⟩).1, e, k⟩, fun ⟨x, hx, e, k⟩ => ⟨x, ((hm x).2 ⟨hx, e⟩).1, e, k⟩⟩)
  rw [Option.map_some, Option.map_some, hh]
theorem zBT (p : Ty.El zG) (a b : List (Ty.El zA)) : vB p (a ++ b) = vB p a ++ vB p b := by
 unfold vB zIE
 exact List.filter_append _ _
theorem zLY {p : Ty.El zG} {l : List (Ty.El zA)} (h : ∀ x, x ∈ l → x.1 ≠ p) : vB p l = [] := by
 unfold vB zIE
 rw [List.filter_eq_nil_iff]
 intro x hx
 simpa using h x hx
theorem zTo {p : Ty.El zG} {l : List (Ty.El zA)} (h : ∀ x, x ∈ l → x.1 = p) : vB p l = l := by
 unfold vB zIE
 rw [List.filter_eq_self]
 intro x hx
 simpa using h x hx
theorem zSe {l : List (Ty.El zA)} {c : Option (Ty.El zA)} {i : Nat} {x : Ty.El zA} (h : l[i]? = some x) : zIY c (l.take (i + 1)) = (bif zSf x (zIY c (l.take i)) then some x else zIY c (l.take i)) := by
 unfold zIY
 rw [List.take_add_one, h, Option.toList_some, List.foldl_append]
 rfl
def zIz (b : Ty.El zA) (l : List (Ty.El zA)) : List (Ty.El qY) := l.flatMap (fun x => bif zA1 x b == 0 then x.2.2.2.2.2.2.2.2.2.2.2.1 else [])
theorem zRh (xs : List (Ty.El qY)) : ((if xs = [] then [] else srt zJx xs) : List (Ty.El qY)).Pairwise (fun x y => ¬ hlt y x) ∧ (∀ h, h ∈ (if xs = [] then [] else srt zJx xs) ↔ h ∈ xs) ∧ (if xs = [] then [] else srt zJx xs).length = xs.length := by
 by_cases hx : xs = []
 ·rw [if_pos hx, hx]
  exact ⟨List.Pairwise.nil, fun h => Iff.rfl, rfl⟩
 ·rw [if_neg hx]
  obtain ⟨h1, h2, h3⟩ := zPB zSL xs
  refine ⟨?_, fun h => h1.mem_iff, h2⟩
  rw [List.pairwise_iff_getElem]
  intro i j hi hj hij hlt'
  have := h3 i j _ _ hij (List.getElem?_eq_getElem hi) (List.getElem?_eq_getElem hj)
  rw [(zC3 _ _).2 hlt'] at this
  cases this
theorem zGd (g : List (Ty.El zA)) (p : Ty.El zG) (hne : g ≠ []) (hp : ∀ x, x ∈ g → x.1 = p) (hs : ∀ x, x ∈ g → RtS x) (hl : g.length ≤ 524288) (hP : ∀ x y, x ∈ g → y ∈ g → uJ (x, y, ()) = some (zA1 x y)) :
  Wp (zAH (g, ())) (fun z => mrg g p = some z) := by
 obtain ⟨y0, r, rfl⟩ : ∃ y0 r, g = y0 :: r := by
  cases g with
  | nil => exact absurd rfl hne
  | cons y r => exact ⟨y, r, rfl⟩
 unfold zAH
 dsimp only
 have h0 : idx (y0 :: r) (0 : Int) = some y0 := rfl
 have hsub : sub (y0 :: r) (1 : Int) ((List.length (y0 :: r) : Nat) : Int) = some r := by
  have := zUj (xs := y0 :: r) (k := 1) (by simp)
  simpa using this
 have hrl : r.length ≤ 524288 := by simp only [List.length_cons] at hl; omega
 refine zC (qV h0 ?_)
 refine zC (Wp.mono (Q := fun b => zIY (some y0) r = some b ∧ b ∈ y0 :: r) ?_ ?_)
 ·refine zC (qV hsub ?_)
  refine zAy (xs := r) (by omega) (fun i (b : Ty.El zA) => zIY (some y0) (r.take i) = some b ∧ b ∈ y0 :: r) ⟨rfl, by simp⟩ ?_ (fun b hb => by rw [List.take_length] at hb; exact hb)
  rintro i x b hx ⟨hb, hbm⟩
  have hxm : x ∈ y0 :: r := List.mem_cons_of_mem _ (List.mem_of_getElem? hx)
  simp only [zM hx, Option.bind_some]
  refine zC (qV (hP x b hxm hbm) ?_)
  rw [zSe hx, hb]
  refine zI (fun h => zB ⟨?_, hxm⟩) (fun h => zB ⟨?_, hbm⟩)
  ·have : zSf x (some b) = true := decide_eq_true h
   rw [this]; rfl
  ·have : zSf x (some b) = false := decide_eq_false h
   rw [this]; rfl
 ·rintro b ⟨hb, hbm⟩
  have hbest : zCB (y0 :: r) p = some b := by
   rw [zCA, zTo hp]
   exact hb
  have hbs := hs b hbm
  have hbound : ∀ i, i ≤ (y0 :: r).length → (zIz b ((y0 :: r).take i)).length ≤ i * 1048576 := by
   intro i hi
   have := zAr (xs := (y0 :: r).take i) (f := fun x : Ty.El zA => bif zA1 x b == 0 then x.2.2.2.2.2.2.2.2.2.2.2.1 else []) (k := 1048576) (fun x hx => by
    have := (hs x (List.mem_of_mem_take hx)).hops
    cases zA1 x b == 0
    ·exact Nat.zero_le _
    ·exact this)
   rw [List.length_take, Nat.min_eq_left hi] at this
   exact this
  refine zC ((show Wp _ (fun hs0 : List (Ty.El qY) => hs0 = zIz b (y0 :: r)) from ?_).mono (fun hs0 hh => ?_))
  ·refine zAy (xs := y0 :: r) (by omega) (fun i (h : List (Ty.El qY)) => h = zIz b ((y0 :: r).take i)) rfl ?_ (fun h hh => by rw [hh, List.take_length])
   intro i x h hx hh
   have hi := (List.getElem?_eq_some_iff.1 hx).1
   have hxm : x ∈ y0 :: r := List.mem_of_getElem? hx
   have hxh := (hs x hxm).hops
   have hlh : h.length ≤ i * 1048576 := by rw [hh]; exact hbound i (by omega)
   simp only [zM hx, Option.bind_some]
   refine zC (qV (hP x b hxm hbm) ?_)
   have hst : zIz b ((y0 :: r).take (i + 1)) = h ++ (bif zA1 x b == 0 then x.2.2.2.2.2.2.2.2.2.2.2.1 else []) := by
    rw [hh]
    exact zID hx
   rw [hst]
   refine zF (fun hz => ?_) (fun hz => zB ?_)
   ·rw [hz]
    exact zC (zAz (by omega) (zB rfl))
   ·rw [hz]; exact (List.append_nil h).symm
  ·have hlen : hs0.length ≤ 549755813888 := by
    have := hbound (y0 :: r).length (Nat.le_refl _)
    rw [List.take_length, ← hh] at this
    have h2 : (y0 :: r).length * 1048576 ≤ 524288 * 1048576 := Nat.mul_le_mul_right _ hl
    omega
   obtain ⟨s1, s2, s3⟩ := zRh hs0
   refine tt (Nat.beq_refl _) ?_
   have e1 : kD hs0 ((), ()) = some (if hs0 = [] then [] else srt zJx hs0, ()) := by
    unfold kD
    rw [if_pos (by omega)]
   refine zC (qV e1 ?_)
   generalize (if hs0 = [] then [] else srt zJx hs0) = hs1 at s1 s2 s3
   have e2 : uH hs1 () = some (wP zNg hs1) := by
    unfold uH
    rw [if_pos (by omega)]
   refine zC (qV e2 ?_)
   have hcm : wP zNg hs1 = zDe (y0 :: r) p b := by
    refine zOR s1 (fun h => ?_)
    rw [s2, hh]
    unfold zIz
    rw [List.mem_flatMap]
    constructor
    ·rintro ⟨x, hx, hxx⟩
     cases hz : zA1 x b == 0 with
     | false => rw [hz] at hxx; cases hxx
     | true =>
      rw [hz] at hxx
      exact ⟨x, hx, hp x hx, by simpa using hz, hxx⟩
    ·rintro ⟨x, hx, _, hz, hxx⟩
     refine ⟨x, hx, ?_⟩
     have : (zA1 x b == 0) = true := by simpa using hz
     rw [this]
     exact hxx
   have hpath := hbs.path
   have e3 : xA (b.2.2.2.2.2.2.2.2.1, ()) = some b.2.2.2.2.2.2.2.2.1 := by
    refine vH ?_
    unfold xA
    exact zC (zAz (by simp only [List.length_nil]; omega) (zB rfl))
   refine zC (qV e3 (zB ?_))
   unfold mrg
   rw [hbest, hcm]
   obtain ⟨⟨a1, a2, ⟨⟩⟩, b⟩ := b
   rfl
end Go.Ve

namespace Go.Ve
open Go
set_option maxRecDepth 1000000
set_option maxHeartbeats 4000000
theorem zHg {l : List (Ty.El zA)} {z : Ty.El zA} : z ∈ zAi l ↔ ∃ q, (∃ x, x ∈ l ∧ x.1 = q) ∧ mrg l q = some z := by
 unfold zAi
 rw [List.mem_filterMap]
 exact ⟨fun ⟨q, h1, h2⟩ => ⟨q, (zIb l q).1 h1, h2⟩, fun ⟨q, h1, h2⟩ => ⟨q, (zIb l q).2 h1, h2⟩⟩
theorem zOL {a g : List (Ty.El zA)} {p : Ty.El zG} {z : Ty.El zA} (ha : ∀ x, x ∈ a → plt x.1 p) (hg : ∀ x, x ∈ g → x.1 = p) (hne : g ≠ []) (hz : mrg g p = some z) : zAi (a ++ g) = zAi a ++ [z] := by
 have hirr : ∀ q : Ty.El zG, ¬ plt q q := fun q h => zFX.asym _ _ h h
 have hane : ∀ x, x ∈ a → x.1 ≠ p := fun x hx e => by have := ha x hx; rw [e] at this; exact hirr p this
 have hzp : z.1 = p := zLc hz
 have e1 : ∀ q, q ≠ p → mrg (a ++ g) q = mrg a q := fun q hq => zNM (by
  rw [zBT, zLY (l := g) (fun x hx e => hq (e.symm.trans (hg x hx))), List.append_nil])
 have e2 : mrg (a ++ g) p = mrg g p := zNM (by rw [zBT, zLY hane, List.nil_append])
 refine zBb zOA (zGC _) ?_ ?_
 ·rw [List.pairwise_append]
  refine ⟨zGC a, List.pairwise_singleton _ _, ?_⟩
  intro x hx y hy
  rw [List.mem_singleton] at hy
  subst hy
  obtain ⟨q, ⟨x0, hx0, hq⟩, hm⟩ := zHg.1 hx
  unfold rlt
  rw [hzp, zLc hm, ← hq]
  exact ha x0 hx0
 ·intro y
  rw [List.mem_append, List.mem_singleton, zHg, zHg]
  constructor
  ·rintro ⟨q, ⟨x, hx, hq⟩, hm⟩
   by_cases hqp : q = p
   ·subst hqp
    rw [e2, hz] at hm
    exact .inr (Option.some.inj hm).symm
   ·refine .inl ⟨q, ⟨x, ?_, hq⟩, by rw [← e1 q hqp]; exact hm⟩
    rcases List.mem_append.1 hx with h | h
    ·exact h
    ·exact absurd ((hg x h).symm.trans hq).symm hqp
  ·rintro (⟨q, ⟨x, hx, hq⟩, hm⟩ | rfl)
   ·have hqp : q ≠ p := fun e => hane x hx (hq.trans e)
    exact ⟨q, ⟨x, List.mem_append_left _ hx, hq⟩, by rw [e1 q hqp]; exact hm⟩
   ·obtain ⟨x, hx⟩ := List.exists_mem_of_ne_nil g hne
    exact ⟨p, ⟨x, List.mem_append_right _ hx, hg x hx⟩, by rw [e2]; exact hz⟩
theorem zRA (l : List (Ty.El zA)) : (zAi l).length ≤ l.length := Nat.le_trans (List.length_filterMap_le _ _) (zUM l)
theorem zJe (l : List (Ty.El zA)) (hl : l.length ≤ 524288) (hs : ∀ x, x ∈ l → RtS x) (hP : ∀ x y, x ∈ l → y ∈ l → uJ (x, y, ()) = some (zA1 x y)) :
  Wp (zCU (l, ())) (fun r => r = zAi l) := by
 unfold zCU
 dsimp only
 have e0 : uI (l, ()) = some l := by
  refine vH ?_
  unfold uI
  exact zC (zAz (by simp only [List.length_nil]; omega) (zB rfl))
 refine zC (qV e0 ?_)
 refine tt (by simp) ?_
 refine zC ((show Wp (kQ l ((), ())) _ from zEv l (by omega)).mono ?_)
 rintro ⟨s, ⟨⟩⟩ ⟨hsl, hsame, hso⟩
 simp only at hsl hsame hso
 rw [zKa hsame]
 have hm : ∀ x, x ∈ s → x ∈ l := by
  intro x hx
  have h1 := @zAq x.1 x l
  have h2 := @zAq x.1 x s
  have h3 : vB x.1 l = vB x.1 s := hsame x.1
  rw [h3] at h1
  exact (h1.1 (h2.2 ⟨hx, rfl⟩)).1
 have hn : s.length ≤ 524288 := by omega
 have hso' := List.pairwise_iff_getElem.1 hso
 refine zC ((show Wp _ (fun r => r = zAi s) from ?_).mono (fun r hr => zB hr))
 refine wF (fun q : Int × List (Ty.El zA) => ∃ i : Nat, q.1 = (i : Int) ∧ i ≤ s.length ∧ q.2 = zAi (s.take i) ∧ (0 < i → ∀ x y, s[i - 1]? = some x → s[i]? = some y → x.1 ≠ y.1)) (fun q => ((s.length : Int) - q.1).toNat)
  ⟨(0 : Nat), rfl, Nat.zero_le _, rfl, fun h => absurd h (Nat.lt_irrefl 0)⟩ ?_
 rintro ⟨st, mg⟩ ⟨i, hi, hil, hmg, hbd⟩
 simp only at hi hmg
 subst hi
 refine zI (fun hc => ?_) (fun hc => ?_)
 ·have hc : (i : Int) < (s.length : Int) := hc
  have hlt : i < s.length := by omega
  have hx : s[i]? = some s[i] := by simp [hlt]
  generalize hxi : s[i] = xi at hx
  refine zC ((show Wp _ (fun q : List (Ty.El zA) × Int => q.1 = mg ∧ ∃ e : Nat, q.2 = (e : Int) ∧ i < e ∧ e ≤ s.length ∧ (∀ k y, i ≤ k → k < e → s[k]? = some y → y.1 = xi.1) ∧ (∀ y, s[e]? = some y → y.1 ≠ xi.1)) from ?_).mono ?_)
  ·refine wF (fun q : Int × List (Ty.El zA) => q.2 = mg ∧ ∃ e : Nat, q.1 = (e : Int) ∧ i < e ∧ e ≤ s.length ∧ (∀ k y, i ≤ k → k < e → s[k]? = some y → y.1 = xi.1)) (fun q => ((s.length : Int) - q.1).toNat) ⟨rfl, i + 1, ?_, Nat.lt_succ_self i, hlt, ?_⟩ ?_
   ·rw [zD (by omega) (by omega)]; omega
   ·intro k y h1 h2 hy
    have : k = i := by omega
    subst this
    rw [hx] at hy
    cases hy
    rfl
   ·rintro ⟨q1, q2⟩ ⟨rfl, e, he, hie, hel, hall⟩
    simp only at he
    subst he
    refine zC ((show Wp _ (fun b : Bool × List (Ty.El zA) => b.2 = q2 ∧ (b.1 = true → ∃ y, s[e]? = some y ∧ y.1 = xi.1) ∧ (b.1 = false → ∀ y, s[e]? = some y → y.1 ≠ xi.1)) from ?_).mono ?_)
    ·refine zI (fun h => ?_) (fun h => zB ⟨rfl, (fun h' => by cases h'), fun _ y hy => ?_⟩)
     ·have h : (e : Int) < (s.length : Int) := h
      have hye : s[e]? = some (s[e]'(by omega)) := by simp
      generalize (s[e]'(by omega)) = ye at hye
      simp only [zM hye, zM hx, Option.bind_some]
      refine zB ⟨rfl, fun hb => ⟨ye, hye, zD4 hb⟩, fun hb y hy => ?_⟩
      have hyy : y = ye := by rw [hye] at hy; exact (Option.some.inj hy).symm
      subst hyy
      intro e0
      have hb : (y.1.fst == xi.1.fst && (y.1.snd.fst == xi.1.snd.fst && true)) = false := hb
      rw [e0] at hb
      simp at hb
     ·have h : ¬ (e : Int) < (s.length : Int) := h
      have := (List.getElem?_eq_some_iff.1 hy).1
      omega
    ·rintro ⟨b, q3⟩ ⟨hq, hbt, hbf⟩
     simp only at hq hbt hbf
     subst hq
     refine zF (fun hb => ?_) (fun hb => zB (e2r ⟨rfl, e, rfl, hie, hel, hall, hbf hb⟩))
     obtain ⟨y, hy, hyp⟩ := hbt hb
     have hel' := (List.getElem?_eq_some_iff.1 hy).1
     have hw : IntKind.wrap IntKind.i64 ((e : Int) + 1) = ((e + 1 : Nat) : Int) := by rw [zD (by omega) (by omega)]; omega
     refine zB (e2l ⟨⟨rfl, e + 1, hw, by omega, hel', ?_⟩, ?_⟩)
     ·intro k y' h1 h2 hy'
      rcases Nat.lt_or_ge k e with h3 | h3
      ·exact hall k y' h1 h3 hy'
      ·have : k = e := by omega
       subst this
       rw [hy] at hy'
       cases hy'
       exact hyp
     ·simp only [hw]; omega
  ·rintro ⟨q1, q2⟩ ⟨hq, e, he, hie, hel, hall, hend⟩
   simp only at hq he
   subst hq
   subst he
   have hsub : sub s (i : Int) (e : Int) = some ((s.take e).drop i) := by
    unfold sub
    rw [if_pos ⟨by omega, by omega, by omega⟩]
    simp
   have hgm : ∀ x, x ∈ (s.take e).drop i → x ∈ s ∧ x.1 = xi.1 := by
    intro x hx'
    obtain ⟨k, hk, rfl⟩ := List.getElem_of_mem hx'
    rw [List.length_drop, List.length_take] at hk
    have hke : ((s.take e).drop i)[k] = s[i + k]'(by omega) := by rw [List.getElem_drop, List.getElem_take]
    rw [hke]
    exact ⟨List.getElem_mem _, hall (i + k) _ (by omega) (by omega) (by simp)⟩
   have hgl : ((s.take e).drop i).length = e - i := by rw [List.length_drop, List.length_take]; omega
   have hgn : (s.take e).drop i ≠ [] := fun h => by rw [h] at hgl; simp only [List.length_nil] at hgl; omega
   refine zC (qV hsub ?_)
   refine zC ((zGd _ xi.1 hgn (fun x hx' => (hgm x hx').2) (fun x hx' => hs x (hm x (hgm x hx').1)) (by omega) (fun x y hx' hy' => hP x y (hm x (hgm x hx').1) (hm y (hgm y hy').1))).mono (fun z hz => ?_))
   have hml := zRA (s.take i)
   rw [List.length_take] at hml
   have hql : q1.length ≤ 524288 := by rw [hmg]; omega
   refine zC (zAz (by simp only [List.length_singleton]; omega) (zB (e2l ⟨⟨e, rfl, hel, ?_, ?_⟩, ?_⟩)))
   ·have hta : s.take e = s.take i ++ (s.take e).drop i := by
     have h1 := List.take_append_drop i (s.take e)
     rw [List.take_take, Nat.min_eq_left (by omega)] at h1
     exact h1.symm
    rw [hta, hmg]
    refine (zOL (p := xi.1) ?_ (fun x hx' => (hgm x hx').2) hgn hz).symm
    intro x hx'
    obtain ⟨a, ha, rfl⟩ := List.getElem_of_mem hx'
    rw [List.length_take] at ha
    rw [List.getElem_take]
    have hi0 : 0 < i := by omega
    have hx1 : s[i - 1]? = some (s[i - 1]'(by omega)) := by simp
    have hne := hbd hi0 _ _ hx1 hx
    have h1 := hso' (i - 1) i (by omega) hlt (by omega)
    rw [hxi] at h1
    have h2 : plt (s[i - 1]'(by omega)).1 xi.1 := zOE h1 hne
    by_cases hai : a = i - 1
    ·subst hai; exact h2
    ·have h3 := hso' a (i - 1) (by omega) (by omega) (by omega)
     unfold rlt plt zCn at *
     omega
   ·intro _ x y hx' hy' hxy
    have h1 : x.1 = xi.1 := hall (e - 1) x (by omega) (by omega) hx'
    exact hend y hy' (hxy.symm.trans h1)
   ·simp only; omega
 ·have hc : ¬ (i : Int) < (s.length : Int) := hc
  have : i = s.length := by omega
  subst this
  refine zB (e2r ?_)
  simp only [hmg, List.take_length]
end Go.Ve

namespace Go.Ve
open Go
set_option maxRecDepth 1000000
set_option maxHeartbeats 4000000
def zUP (rt : Ty.El zH) (x : Ty.El qA) (k : Nat) : Ty.El zA :=
 (zBU x.2.1 x.2.2.1, (4 : Int), (1 : Int), rt.2.2.2.2.2.2.2.2.2.1.2.1, (1 : Int), (0 : Int), (0 : Int), (0 : Int), [], (0 : Int), (0 : Int), [((k : Int), (0 : Int), ())], false, ())
def zTn (v : Ty.El zW) (r : Int) (rt : Ty.El zH) (k : Nat) : Option (Ty.El zA) :=
 match rt.2.2.1[k]? with
 | some x => bif kZ v rt x r k then some (zUP rt x k) else none
 | none => none
def zP0 (v : Ty.El zW) (r : Int) (rt : Ty.El zH) : List (Ty.El zA) := (List.range rt.2.2.1.length).filterMap (zTn v r rt)
theorem zPZ (v : Ty.El zW) (r : Int) (rt : Ty.El zH) : (zP0 v r rt).length ≤ rt.2.2.1.length :=
 Nat.le_trans (List.length_filterMap_le _ _) (by rw [List.length_range]; exact Nat.le_refl _)
theorem zWd {v : Ty.El zW} {r : Int} {rt : Ty.El zH} {y : Ty.El zA} (h : y ∈ zP0 v r rt) : ∃ (k : Nat) (x : Ty.El qA), rt.2.2.1[k]? = some x ∧ kZ v rt x r k = true ∧ y = zUP rt x k := by
 obtain ⟨k, _, hk⟩ := List.mem_filterMap.1 h
 unfold zTn at hk
 cases hx : rt.2.2.1[k]? with
 | none => rw [hx] at hk; cases hk
 | some x =>
  rw [hx] at hk
  simp only at hk
  cases hp : kZ v rt x r k with
  | false => rw [hp] at hk; cases hk
  | true =>
   rw [hp] at hk
   exact ⟨k, x, hx, hp, (Option.some.inj hk).symm⟩
theorem zBL (v : Ty.El zW) (r : Nat) (rt : Ty.El zH) (hv : zA4 v) (hr : v.1.1[r]? = some rt) :
  Wp (yU (v, (r : Int), ())) (fun out => out.length = (zP0 v r rt).length ∧ zA5 (fun x : Ty.El zA => x.1) (zP0 v r rt) out ∧ out.Pairwise (fun x y => ¬ rlt y x)) := by
 unfold yU
 dsimp only
 have hrl := (List.getElem?_eq_some_iff.1 hr).1
 have hsm := hv.sm rt (List.mem_of_getElem? hr)
 have hil : rt.2.2.1.length ≤ 20 := hsm.i1
 have hr0 : ¬ ((r : Int) < 0) := by omega
 have hr1 : ¬ ((r : Int) ≥ (List.length v.1.1 : Int)) := by omega
 refine zC (zI (fun h => absurd h hr0) (fun h => zB ?_))
 refine zI (fun h => absurd h hr1) (fun h => ?_)
 simp only [zM hr, Option.bind_some]
 have hfl : ∀ i, i ≤ 20 → ((List.range i).filterMap (zTn v r rt)).length ≤ 20 := fun i hi => Nat.le_trans (List.length_filterMap_le _ _) (by rw [List.length_range]; exact hi)
 refine zC ((zAy (xs := rt.2.2.1) (by omega) (fun i (g : List (Ty.El zA)) => g = (List.range i).filterMap (zTn v r rt)) rfl ?_ (Q := fun g => g = zP0 v r rt) (fun g hg => hg)).mono (fun g hg => ?_))
 ·intro i x g hx hg
  have hi := (List.getElem?_eq_some_iff.1 hx).1
  have hgl : g.length ≤ 20 := by rw [hg]; exact hfl i (by omega)
  simp only [zM hx, Option.bind_some]
  rw [zKR, ← hg]
  have hf : zTn v r rt i = bif kZ v rt x r i then some (zUP rt x i) else none := by unfold zTn; rw [hx]
  rw [hf]
  refine zC ((vI v r i rt x hv hr hx).mono (fun b hb => ?_))
  subst hb
  refine zF (fun h => zB ?_) (fun h => zC (qV (zHY _ _) (zC (zAz (by simp only [List.length_singleton]; omega) (zB ?_)))))
  ·have h : kZ v rt x r i = false := by simpa using h
   rw [h]; simp
  ·have h : kZ v rt x r i = true := by simpa using h
   rw [h]; rfl
 ·subst hg
  refine zF (fun _ => ?_) (fun h => absurd h (by rw [Nat.beq_refl]; decide))
  have := zPZ v r rt
  refine zC ((zEv (zP0 v r rt) (by omega)).mono (fun q hq => zB ?_))
  exact hq
theorem zOu {a a' : List (Ty.El zA)} (h : zA5 (fun x : Ty.El zA => x.1) a a') (b : List (Ty.El zA)) : zA5 (fun x : Ty.El zA => x.1) (a ++ b) (a' ++ b) := by
 intro p
 have h1 := zBT p a b
 have h2 := zBT p a' b
 have h3 : vB p a = vB p a' := h p
 show vB p (a ++ b) = vB p (a' ++ b)
 rw [h1, h2, h3]
theorem zTd {a a' : List (Ty.El zA)} (h : zA5 (fun x : Ty.El zA => x.1) a a') (x : Ty.El zA) : x ∈ a ↔ x ∈ a' := by
 have h1 := @zAq x.1 x a
 have h2 := @zAq x.1 x a'
 have h3 : vB x.1 a = vB x.1 a' := h x.1
 rw [h3] at h1
 constructor
 ·intro hx; exact (h2.1 (h1.2 ⟨hx, rfl⟩)).1
 ·intro hx; exact (h1.1 (h2.2 ⟨hx, rfl⟩)).1
theorem zWe (rt : Ty.El zH) (x : Ty.El qA) (k : Nat) : (zUP rt x k).2.1 = 4 ∧ RtS (zUP rt x k) := ⟨rfl, ⟨Nat.zero_le _, by show 1 ≤ 1048576; omega⟩⟩
def zX3 (v : Ty.El zW) (dv : List (List (Ty.El zA))) (l : List (Ty.El zA)) (r : Int) (rt : Ty.El zH) : List (Ty.El zA) := zP0 v r rt ++ (l ++ zCI v dv r rt)
theorem zXb {v : Ty.El zW} {dv : List (List (Ty.El zA))} {r : Int} {rt : Ty.El zH} {x : Ty.El zA} (h : x ∈ zCI v dv r rt) : x.2.1 = 4 ∧ RtS x := by
 obtain ⟨i, z, e, _, _, _, hx⟩ := zP9 h
 obtain ⟨q, y, t, x0, _, _, _, _, _, hf⟩ := zQa hx
 obtain ⟨_, _, _, hxe⟩ := zNI hf
 rw [hxe]
 exact ⟨rfl, ⟨Nat.zero_le _, by show 1 ≤ 1048576; omega⟩⟩
theorem zEQ (v : Ty.El zW) (hs : zA4 v) (hE : ∀ (r i : Int) (e : Ty.El zJ), upB v r i = true → e ∈ uM v r i → (0 : Int) ≤ e.1 ∧ (0 : Int) ≤ e.2.1 ∧ ∃ q y, v.1.1[Int.toNat e.1]? = some q ∧ q.2.2.1[Int.toNat e.2.1]? = some y)
  (dv : List (List (Ty.El zA))) (hdv : dv.length = v.1.1.length) (h12 : ∀ t, t ∈ dv → t.length ≤ 12) (l : List (Ty.El zA)) (hl : l.length ≤ 12) (h4 : ∀ x, x ∈ l → x.2.1 = 4 ∧ RtS x) (r : Nat) (rt : Ty.El zH) (hr : v.1.1[r]? = some rt)
  (hlen : (zCI v dv r rt).length ≤ 500000) :
  Wp (xI (v, dv, l, (r : Int), ())) (fun t => t = bif rt.2.2.2.2.2.2.2.2.2.1.1 then zAi (zX3 v dv l r rt) else []) := by
 unfold xI
 dsimp only
 have hrl := (List.getElem?_eq_some_iff.1 hr).1
 have hsm := hs.sm rt (List.mem_of_getElem? hr)
 have hil : rt.2.2.1.length ≤ 20 := hsm.i1
 have hr0 : ¬ ((r : Int) < 0) := by omega
 have hr1 : ¬ ((r : Int) ≥ (List.length v.1.1 : Int)) := by omega
 refine zC ((show Wp _ (fun b : Bool => b = !rt.2.2.2.2.2.2.2.2.2.1.1) from ?_).mono (fun b hb => ?_))
 ·refine zI (fun h => absurd h hr0) (fun _ => zI (fun h => absurd h hr1) (fun _ => ?_))
  simp only [zM hr, Option.bind_some]
  exact zB rfl
 subst hb
 refine zF (fun h => zB ?_) (fun h => ?_)
 ·have h : rt.2.2.2.2.2.2.2.2.2.1.1 = false := by simpa using h
  rw [h]; rfl
 have h : rt.2.2.2.2.2.2.2.2.2.1.1 = true := by simpa using h
 rw [h]
 refine zC ((zBL v r rt hs hr).mono (fun o ho => ?_))
 obtain ⟨ho1, ho2, _⟩ := ho
 have hol := zPZ v r rt
 refine zC ((xU v hs hE dv hdv h12 r rt hr).mono (fun q hq => ?_))
 subst hq
 have hfl : ([o, l, zCI v dv r rt] : List (List (Ty.El zA))).flatten = o ++ (l ++ zCI v dv r rt) := by simp
 have hal : (o ++ (l ++ zCI v dv r rt)).length ≤ 524288 := by simp only [List.length_append]; omega
 have hc : kG ([o, l, zCI v dv r rt], ()) = some (o ++ (l ++ zCI v dv r rt)) := by
  unfold kG
  simp only [hfl]
  rw [if_pos ⟨by omega, by simp⟩]
 refine zC (qV hc ?_)
 have hsame := zOu ho2 (l ++ zCI v dv r rt)
 have hall : ∀ x, x ∈ o ++ (l ++ zCI v dv r rt) → x.2.1 = 4 ∧ RtS x := by
  intro x hx
  rcases List.mem_append.1 hx with hx | hx
  ·obtain ⟨k, y, _, _, rfl⟩ := zWd ((zTd ho2 x).2 hx)
   exact zWe rt y k
  ·rcases List.mem_append.1 hx with hx | hx
   ·exact h4 x hx
   ·exact zXb hx
 refine zC ((zJe _ hal (fun x hx => (hall x hx).2) (fun x y hx hy => zGZ x y (hall x hx).1 (hall y hy).1)).mono (fun t ht => zB ?_))
 rw [ht]
 exact (zKa hsame).symm
end Go.Ve

namespace Go.Ve
open Go
set_option maxRecDepth 1000000
set_option maxHeartbeats 4000000
theorem zRn {a b : List (Ty.El zA)} (h : zA5 (fun x : Ty.El zA => x.1) a b) : a.Perm b := by
 classical
 rw [List.perm_iff_count]
 intro x
 have h1 : vB x.1 a = vB x.1 b := h x.1
 unfold vB zIE at h1
 have e := congrArg (List.count x) h1
 rwa [List.count_filter (by simp), List.count_filter (by simp)] at e
end Go.Ve

namespace Go.Ve
open Go
set_option maxRecDepth 1000000
set_option maxHeartbeats 4000000
def ifS (nm : ByteArray) (a : Int) (dv : Bool) : Ty.El qA := (nm, a, 24, 0, false, false, 0, 0, dv, ⟨#[]⟩, ⟨#[]⟩, 0, ())
def rtS (nm : ByteArray) (sy : Int) (ifs : List (Ty.El qA)) (dv : Ty.El tDV) (pv : Ty.El tPV) : Ty.El zH := (nm, sy, ifs, [], [], [], [], [], (false, 0, [], [], ()), dv, pv, ())
def zXZ : Ty.El tDV := (true, 120, ⟨#[]⟩, ⟨#[]⟩, [], ())
def zXQ : Ty.El tPV := (false, 0, 0, [], [], [], [], [], ())
def zUH : Ty.El zH := rtS ⟨#[97]⟩ 0 [ifS ⟨#[101, 48]⟩ 167772161 true] zXZ zXQ
def zXc : Ty.El zH := rtS ⟨#[98]⟩ 0 [ifS ⟨#[101, 48]⟩ 167772162 true, ifS ⟨#[101, 49]⟩ 167772418 true] zXZ zXQ
def zXe : Ty.El zQ := ([zUH, zXc], ())
def zW3 : Ty.El zHQ := ([((167772160, 24, ()), 0, [(0, 0, ()), (1, 0, ())], ()), ((167772416, 24, ()), 0, [(1, 1, ())], ())], [0], ())
def zAA : Ty.El zW := (zXe, zW3, [], ())
def zV6 (p : Int) (cl me : Int) (h : Ty.El qY) : Ty.El zA := ((p, 24, ()), 4, cl, 120, me, 0, 0, 0, [], 0, 0, [h], false, ())
def o17 : List (Ty.El zA) := [zV6 167772160 1 1 (0, 0, ()), zV6 167772416 1 1 (1, 0, ())]
def t17 : List (Ty.El zA) := [zV6 167772160 1 1 (0, 0, ()), zV6 167772416 3 2 (0, 167772162, ())]
theorem zUq {nm : ByteArray} {sy : Int} {ifs : List (Ty.El qA)} {dv : Ty.El tDV} {pv : Ty.El tPV} (h1 : ifs.length ≤ 20) (h2 : dv.2.2.2.2.1.length ≤ 20) (h3 : pv.2.2.2.1.length ≤ 20) (h4 : pv.2.2.2.2.1.length ≤ 20) (h5 : pv.2.2.2.2.2.1.length ≤ 20) (h6 : pv.2.2.2.2.2.2.1.length ≤ 20) (h7 : pv.2.2.2.2.2.2.2.1.length ≤ 20) : SmR (rtS nm sy ifs dv pv) where
 i1 := h1
 i2 := Nat.zero_le _
 i3 := Nat.zero_le _
 i4 := Nat.zero_le _
 i5 := Nat.zero_le _
 i6 := Nat.zero_le _
 i7 := Nat.zero_le _
 i8 := Nat.zero_le _
 i9 := h2
 i10 := h3
 i11 := h4
 i12 := h5
 i13 := h6
 i14 := h7
 n1 := fun y hy => by cases hy
 n2 := fun y hy => by cases hy
 n3 := fun y hy => by cases hy
theorem zSw : zA4 zAA where
 rs := by decide
 sm := fun y hy => by
  rcases List.mem_cons.1 hy with rfl | hy
  ·exact zUq (by decide) (by decide) (by decide) (by decide) (by decide) (by decide) (by decide)
  ·rcases List.mem_cons.1 hy with rfl | hy
   ·exact zUq (by decide) (by decide) (by decide) (by decide) (by decide) (by decide) (by decide)
   ·cases hy
 doms := by decide
 ends := fun d hd => by
  rcases List.mem_cons.1 hd with rfl | hd
  ·decide
  ·rcases List.mem_cons.1 hd with rfl | hd
   ·decide
   ·cases hd
 links := by decide
 link0 := fun l hl => by
  rcases List.mem_cons.1 hl with rfl | hl
  ·decide
  ·cases hl
 down := by decide
 down0 := fun l hl => by cases hl
theorem zXv (r i : Int) (e : Ty.El zJ) (_ : upB zAA r i = true) (he : e ∈ uM zAA r i) : (0 : Int) ≤ e.1 ∧ (0 : Int) ≤ e.2.1 ∧ ∃ q y, zAA.1.1[Int.toNat e.1]? = some q ∧ q.2.2.1[Int.toNat e.2.1]? = some y := by
 unfold uM at he
 split at he
 ·rename_i d hd
  have hd := List.mem_of_getElem? hd
  rcases List.mem_cons.1 hd with rfl | hd
  ·rcases List.mem_cons.1 he with rfl | he
   ·exact ⟨by decide, by decide, _, _, rfl, rfl⟩
   ·rcases List.mem_cons.1 he with rfl | he
    ·exact ⟨by decide, by decide, _, _, rfl, rfl⟩
    ·cases he
  ·rcases List.mem_cons.1 hd with rfl | hd
   ·rcases List.mem_cons.1 he with rfl | he
    ·exact ⟨by decide, by decide, _, _, rfl, rfl⟩
    ·cases he
   ·cases hd
 ·cases he
theorem zXg : zP0 zAA 1 zXc = o17 := by kernel_rfl
theorem zXS : yU (zAA, 1, ()) = some o17 := by
 refine vH ((zBL zAA 1 zXc zSw rfl).mono (fun o ho => ?_))
 obtain ⟨_, h2, h3⟩ := ho
 have h4 : zA5 (fun x : Ty.El zA => x.1) o17 o := by rw [← zXg]; exact h2
 have hp := zRn h4
 have ha : o17.Pairwise (fun x y => x.1 ≠ y.1) := by
  refine List.pairwise_cons.2 ⟨fun y hy => ?_, List.pairwise_cons.2 ⟨(fun y hy => by cases hy), List.Pairwise.nil⟩⟩
  rcases List.mem_cons.1 hy with rfl | hy
  ·intro h
   exact absurd (congrArg Prod.fst h) (by decide)
  ·cases hy
 have hs : o17.Pairwise rlt := by
  refine List.pairwise_cons.2 ⟨fun y hy => ?_, List.pairwise_cons.2 ⟨(fun y hy => by cases hy), List.Pairwise.nil⟩⟩
  rcases List.mem_cons.1 hy with rfl | hy
  ·exact .inl (by decide)
  ·cases hy
 exact zBb zOA (zPX hp.symm h3 ha) hs (fun z => hp.symm.mem_iff)
theorem zWi : zAi (zX3 zAA [[], o17] [] 0 zUH) = t17 := by kernel_rfl
theorem zXP : (zCI zAA [[], o17] 0 zUH).length = 2 := by kernel_rfl
theorem zVY : xI (zAA, [[], o17], [], 0, ()) = some t17 := by
 refine vH ((zEQ zAA zSw zXv [[], o17] rfl ?_ [] (by decide) (fun x hx => by cases hx) 0 zUH rfl ?_).mono (fun t ht => ?_))
 ·intro t ht
  rcases List.mem_cons.1 ht with rfl | ht
  ·decide
  ·rcases List.mem_cons.1 ht with rfl | ht
   ·decide
   ·cases ht
 ·have := zXP
  show (zCI zAA [[], o17] 0 zUH).length ≤ _
  omega
 ·rw [ht]; exact zWi
end Go.Ve
