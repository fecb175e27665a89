/-
  Plain laws: the routes of one prefix are merged.
  Plain laws: the program's merging is the document's.
  Plain laws: the tables of distance-vector routing.
  Plain laws: the document's distance-vector tables.
  DistTables: the law answers true.
  Plain laws: the fixed network of distance-vector routing; DistTables.
-/
import Derived.KernelRfl
import Derived.Test.YtcnlcmbchljpgaaGreatQt19
import Derived.Test.YtcnlcmbchljpgaaGreatQt15
import Derived.Test.YtcnlcmbchljpgaaGreatQt20
set_option linter.unusedVariables false
namespace Go.Ve
open Go
set_option maxRecDepth 1000000
set_option maxHeartbeats 4000000
theorem zO4 {l l' : List (Ty.El zA)} {p : Ty.El zF} (h : vH p l = vH p l') : mrg l p = mrg l' p := by
 have hm : ∀ x, (x ∈ l ∧ x.1 = p) ↔ (x ∈ l' ∧ x.1 = p) := fun x => by rw [← zAI, ← zAI, h]
 unfold mrg
 have hb : zAz l p = zAz l' p := by
  rw [zC1, zC1, h]
 rw [hb]
 cases zAz l' p with
 | none => rfl
 | some b =>
  have hh : yX l p b = yX l' p b := zAD zJB (zAl _ _ _) (zAl _ _ _) (fun h' => by
   rw [zCR, zCR]
   exact ⟨fun ⟨x, hx, e, k⟩ => ⟨x, ((hm x).1 ⟨hx, e⟩).1, e, k⟩, fun ⟨x, hx, e, k⟩ => ⟨x, ((hm x).2 ⟨hx, e⟩).1, e, k⟩⟩)
  rw [Option.map_some, Option.map_some, hh]
theorem zCj (p : Ty.El zF) (a b : List (Ty.El zA)) : vH p (a ++ b) = vH p a ++ vH p b := by
 unfold vH zJE
 exact List.filter_append _ _
theorem zNd {p : Ty.El zF} {l : List (Ty.El zA)} (h : ∀ x, x ∈ l → x.1 ≠ p) : vH p l = [] := by
 unfold vH zJE
 rw [List.filter_eq_nil_iff]
 intro x hx
 simpa using h x hx
theorem zUO {p : Ty.El zF} {l : List (Ty.El zA)} (h : ∀ x, x ∈ l → x.1 = p) : vH p l = l := by
 unfold vH zJE
 rw [List.filter_eq_self]
 intro x hx
 simpa using h x hx
theorem zTF {l : List (Ty.El zA)} {c : Option (Ty.El zA)} {i : Nat} {x : Ty.El zA} (h : l[i]? = some x) : zJX c (l.take (i + 1)) = (bif zQB x (zJX c (l.take i)) then some x else zJX c (l.take i)) := by
 unfold zJX
 rw [List.take_add_one, h, Option.toList_some, List.foldl_append]
 rfl
def zJA (b : Ty.El zA) (l : List (Ty.El zA)) : List (Ty.El z1) := l.flatMap (fun x => bif uS x b == 0 then x.2.2.2.2.2.2.2.2.2.2.2.1 else [])
theorem zSG (xs : List (Ty.El z1)) : ((if xs = [] then [] else srt zKB xs) : List (Ty.El z1)).Pairwise (fun x y => ¬ hlt y x) ∧ (∀ h, h ∈ (if xs = [] then [] else srt zKB xs) ↔ h ∈ xs) ∧ (if xs = [] then [] else srt zKB xs).length = xs.length := by
 by_cases hx : xs = []
 ·rw [if_pos hx, hx]
  exact ⟨List.Pairwise.nil, fun h => Iff.rfl, rfl⟩
 ·rw [if_neg hx]
  obtain ⟨h1, h2, h3⟩ := zQ3 zUb xs
  refine ⟨?_, fun h => h1.mem_iff, h2⟩
  rw [List.pairwise_iff_getElem]
  intro i j hi hj hij hlt'
  have := h3 i j _ _ hij (List.getElem?_eq_getElem hi) (List.getElem?_eq_getElem hj)
  rw [(zDr _ _).2 hlt'] at this
  cases this
theorem zGY (g : List (Ty.El zA)) (p : Ty.El zF) (hne : g ≠ []) (hp : ∀ x, x ∈ g → x.1 = p) (hs : ∀ x, x ∈ g → RtS x) (hl : g.length ≤ 524288) (hP : ∀ x y, x ∈ g → y ∈ g → uY (x, y, ()) = some (uS x y)) :
  Wp (zA0 (g, ())) (fun z => mrg g p = some z) := by
 obtain ⟨y0, r, rfl⟩ : ∃ y0 r, g = y0 :: r := by
  cases g with
  | nil => exact absurd rfl hne
  | cons y r => exact ⟨y, r, rfl⟩
 unfold zA0
 dsimp only
 have h0 : idx (y0 :: r) (0 : Int) = some y0 := rfl
 have hsub : sub (y0 :: r) (1 : Int) ((List.length (y0 :: r) : Nat) : Int) = some r := by
  have := zMA (xs := y0 :: r) (k := 1) (by simp)
  simpa using this
 have hrl : r.length ≤ 524288 := by simp only [List.length_cons] at hl; omega
 refine zC (qD h0 ?_)
 refine zC (Wp.mono (Q := fun b => zJX (some y0) r = some b ∧ b ∈ y0 :: r) ?_ ?_)
 ·refine zC (qD hsub ?_)
  refine vM (xs := r) (by omega) (fun i (b : Ty.El zA) => zJX (some y0) (r.take i) = some b ∧ b ∈ y0 :: r) ⟨rfl, by simp⟩ ?_ (fun b hb => by rw [List.take_length] at hb; exact hb)
  rintro i x b hx ⟨hb, hbm⟩
  have hxm : x ∈ y0 :: r := List.mem_cons_of_mem _ (List.mem_of_getElem? hx)
  simp only [zJ hx, Option.bind_some]
  refine zC (qD (hP x b hxm hbm) ?_)
  rw [zTF hx, hb]
  refine zI (fun h => zB ⟨?_, hxm⟩) (fun h => zB ⟨?_, hbm⟩)
  ·have : zQB x (some b) = true := decide_eq_true h
   rw [this]; rfl
  ·have : zQB x (some b) = false := decide_eq_false h
   rw [this]; rfl
 ·rintro b ⟨hb, hbm⟩
  have hbest : zAz (y0 :: r) p = some b := by
   rw [zC1, zUO hp]
   exact hb
  have hbs := hs b hbm
  have hbound : ∀ i, i ≤ (y0 :: r).length → (zJA b ((y0 :: r).take i)).length ≤ i * 1048576 := by
   intro i hi
   have := uT (xs := (y0 :: r).take i) (f := fun x : Ty.El zA => bif uS x b == 0 then x.2.2.2.2.2.2.2.2.2.2.2.1 else []) (k := 1048576) (fun x hx => by
    have := (hs x (List.mem_of_mem_take hx)).hops
    cases uS x b == 0
    ·exact Nat.zero_le _
    ·exact this)
   rw [List.length_take, Nat.min_eq_left hi] at this
   exact this
  refine zC ((show Wp _ (fun hs0 : List (Ty.El z1) => hs0 = zJA b (y0 :: r)) from ?_).mono (fun hs0 hh => ?_))
  ·refine vM (xs := y0 :: r) (by omega) (fun i (h : List (Ty.El z1)) => h = zJA b ((y0 :: r).take i)) rfl ?_ (fun h hh => by rw [hh, List.take_length])
   intro i x h hx hh
   have hi := (List.getElem?_eq_some_iff.1 hx).1
   have hxm : x ∈ y0 :: r := List.mem_of_getElem? hx
   have hxh := (hs x hxm).hops
   have hlh : h.length ≤ i * 1048576 := by rw [hh]; exact hbound i (by omega)
   simp only [zJ hx, Option.bind_some]
   refine zC (qD (hP x b hxm hbm) ?_)
   have hst : zJA b ((y0 :: r).take (i + 1)) = h ++ (bif uS x b == 0 then x.2.2.2.2.2.2.2.2.2.2.2.1 else []) := by
    rw [hh]
    exact zEL hx
   rw [hst]
   refine zG (fun hz => ?_) (fun hz => zB ?_)
   ·rw [hz]
    exact zC (wL (by omega) (zB rfl))
   ·rw [hz]; exact (List.append_nil h).symm
  ·have hlen : hs0.length ≤ 549755813888 := by
    have := hbound (y0 :: r).length (Nat.le_refl _)
    rw [List.take_length, ← hh] at this
    have h2 : (y0 :: r).length * 1048576 ≤ 524288 * 1048576 := Nat.mul_le_mul_right _ hl
    omega
   obtain ⟨s1, s2, s3⟩ := zSG hs0
   refine tt (Nat.beq_refl _) ?_
   have e1 : kP hs0 ((), ()) = some (if hs0 = [] then [] else srt zKB hs0, ()) := by
    unfold kP
    rw [if_pos (by omega)]
   refine zC (qD e1 ?_)
   generalize (if hs0 = [] then [] else srt zKB hs0) = hs1 at s1 s2 s3
   have e2 : uW hs1 () = some (wT zLY hs1) := by
    unfold uW
    rw [if_pos (by omega)]
   refine zC (qD e2 ?_)
   have hcm : wT zLY hs1 = yX (y0 :: r) p b := by
    refine zQd s1 (fun h => ?_)
    rw [s2, hh]
    unfold zJA
    rw [List.mem_flatMap]
    constructor
    ·rintro ⟨x, hx, hxx⟩
     cases hz : uS x b == 0 with
     | false => rw [hz] at hxx; cases hxx
     | true =>
      rw [hz] at hxx
      exact ⟨x, hx, hp x hx, by simpa using hz, hxx⟩
    ·rintro ⟨x, hx, _, hz, hxx⟩
     refine ⟨x, hx, ?_⟩
     have : (uS x b == 0) = true := by simpa using hz
     rw [this]
     exact hxx
   have hpath := hbs.path
   have e3 : xL (b.2.2.2.2.2.2.2.2.1, ()) = some b.2.2.2.2.2.2.2.2.1 := by
    refine wD ?_
    unfold xL
    exact zC (wL (by simp only [List.length_nil]; omega) (zB rfl))
   refine zC (qD e3 (zB ?_))
   unfold mrg
   rw [hbest, hcm]
   obtain ⟨⟨a1, a2, ⟨⟩⟩, b⟩ := b
   rfl
end Go.Ve

namespace Go.Ve
open Go
set_option maxRecDepth 1000000
set_option maxHeartbeats 4000000
theorem zED {l : List (Ty.El zA)} {z : Ty.El zA} : z ∈ wY l ↔ ∃ q, (∃ x, x ∈ l ∧ x.1 = q) ∧ mrg l q = some z := by
 unfold wY
 rw [List.mem_filterMap]
 exact ⟨fun ⟨q, h1, h2⟩ => ⟨q, (zCM l q).1 h1, h2⟩, fun ⟨q, h1, h2⟩ => ⟨q, (zCM l q).2 h1, h2⟩⟩
theorem zP6 {a g : List (Ty.El zA)} {p : Ty.El zF} {z : Ty.El zA} (ha : ∀ x, x ∈ a → plt x.1 p) (hg : ∀ x, x ∈ g → x.1 = p) (hne : g ≠ []) (hz : mrg g p = some z) : wY (a ++ g) = wY a ++ [z] := by
 have hirr : ∀ q : Ty.El zF, ¬ plt q q := fun q h => zGG.asym _ _ h h
 have hane : ∀ x, x ∈ a → x.1 ≠ p := fun x hx e => by have := ha x hx; rw [e] at this; exact hirr p this
 have hzp : z.1 = p := zMk hz
 have e1 : ∀ q, q ≠ p → mrg (a ++ g) q = mrg a q := fun q hq => zO4 (by
  rw [zCj, zNd (l := g) (fun x hx e => hq (e.symm.trans (hg x hx))), List.append_nil])
 have e2 : mrg (a ++ g) p = mrg g p := zO4 (by rw [zCj, zNd hane, List.nil_append])
 refine zAD zMg (zDE _) ?_ ?_
 ·rw [List.pairwise_append]
  refine ⟨zDE a, List.pairwise_singleton _ _, ?_⟩
  intro x hx y hy
  rw [List.mem_singleton] at hy
  subst hy
  obtain ⟨q, ⟨x0, hx0, hq⟩, hm⟩ := zED.1 hx
  unfold rlt
  rw [hzp, zMk hm, ← hq]
  exact ha x0 hx0
 ·intro y
  rw [List.mem_append, List.mem_singleton, zED, zED]
  constructor
  ·rintro ⟨q, ⟨x, hx, hq⟩, hm⟩
   by_cases hqp : q = p
   ·subst hqp
    rw [e2, hz] at hm
    exact .inr (Option.some.inj hm).symm
   ·refine .inl ⟨q, ⟨x, ?_, hq⟩, by rw [← e1 q hqp]; exact hm⟩
    rcases List.mem_append.1 hx with h | h
    ·exact h
    ·exact absurd ((hg x h).symm.trans hq).symm hqp
  ·rintro (⟨q, ⟨x, hx, hq⟩, hm⟩ | rfl)
   ·have hqp : q ≠ p := fun e => hane x hx (hq.trans e)
    exact ⟨q, ⟨x, List.mem_append_left _ hx, hq⟩, by rw [e1 q hqp]; exact hm⟩
   ·obtain ⟨x, hx⟩ := List.exists_mem_of_ne_nil g hne
    exact ⟨p, ⟨x, List.mem_append_right _ hx, hg x hx⟩, by rw [e2]; exact hz⟩
theorem zIb (l : List (Ty.El zA)) : (wY l).length ≤ l.length := Nat.le_trans (List.length_filterMap_le _ _) (zRn l)
theorem zKd (l : List (Ty.El zA)) (hl : l.length ≤ 524288) (hs : ∀ x, x ∈ l → RtS x) (hP : ∀ x y, x ∈ l → y ∈ l → uY (x, y, ()) = some (uS x y)) :
  Wp (zDi (l, ())) (fun r => r = wY l) := by
 unfold zDi
 dsimp only
 have e0 : uX (l, ()) = some l := by
  refine wD ?_
  unfold uX
  exact zC (wL (by simp only [List.length_nil]; omega) (zB rfl))
 refine zC (qD e0 ?_)
 refine tt (by simp) ?_
 refine zC ((show Wp (k8 l ((), ())) _ from zEZ l (by omega)).mono ?_)
 rintro ⟨s, ⟨⟩⟩ ⟨hsl, hsame, hso⟩
 simp only at hsl hsame hso
 rw [zF6 hsame]
 have hm : ∀ x, x ∈ s → x ∈ l := by
  intro x hx
  have h1 := @zAI x.1 x l
  have h2 := @zAI x.1 x s
  have h3 : vH x.1 l = vH x.1 s := hsame x.1
  rw [h3] at h1
  exact (h1.1 (h2.2 ⟨hx, rfl⟩)).1
 have hn : s.length ≤ 524288 := by omega
 have hso' := List.pairwise_iff_getElem.1 hso
 refine zC ((show Wp _ (fun r => r = wY s) from ?_).mono (fun r hr => zB hr))
 refine j2 (fun q : Int × List (Ty.El zA) => ∃ i : Nat, q.1 = (i : Int) ∧ i ≤ s.length ∧ q.2 = wY (s.take i) ∧ (0 < i → ∀ x y, s[i - 1]? = some x → s[i]? = some y → x.1 ≠ y.1)) (fun q => ((s.length : Int) - q.1).toNat)
  ⟨(0 : Nat), rfl, Nat.zero_le _, rfl, fun h => absurd h (Nat.lt_irrefl 0)⟩ ?_
 rintro ⟨st, mg⟩ ⟨i, hi, hil, hmg, hbd⟩
 simp only at hi hmg
 subst hi
 refine zI (fun hc => ?_) (fun hc => ?_)
 ·have hc : (i : Int) < (s.length : Int) := hc
  have hlt : i < s.length := by omega
  have hx : s[i]? = some s[i] := by simp [hlt]
  generalize hxi : s[i] = xi at hx
  refine zC ((show Wp _ (fun q : List (Ty.El zA) × Int => q.1 = mg ∧ ∃ e : Nat, q.2 = (e : Int) ∧ i < e ∧ e ≤ s.length ∧ (∀ k y, i ≤ k → k < e → s[k]? = some y → y.1 = xi.1) ∧ (∀ y, s[e]? = some y → y.1 ≠ xi.1)) from ?_).mono ?_)
  ·refine j2 (fun q : Int × List (Ty.El zA) => q.2 = mg ∧ ∃ e : Nat, q.1 = (e : Int) ∧ i < e ∧ e ≤ s.length ∧ (∀ k y, i ≤ k → k < e → s[k]? = some y → y.1 = xi.1)) (fun q => ((s.length : Int) - q.1).toNat) ⟨rfl, i + 1, ?_, Nat.lt_succ_self i, hlt, ?_⟩ ?_
   ·rw [zD (by omega) (by omega)]; omega
   ·intro k y h1 h2 hy
    have : k = i := by omega
    subst this
    rw [hx] at hy
    cases hy
    rfl
   ·rintro ⟨q1, q2⟩ ⟨rfl, e, he, hie, hel, hall⟩
    simp only at he
    subst he
    refine zC ((show Wp _ (fun b : Bool × List (Ty.El zA) => b.2 = q2 ∧ (b.1 = true → ∃ y, s[e]? = some y ∧ y.1 = xi.1) ∧ (b.1 = false → ∀ y, s[e]? = some y → y.1 ≠ xi.1)) from ?_).mono ?_)
    ·refine zI (fun h => ?_) (fun h => zB ⟨rfl, (fun h' => by cases h'), fun _ y hy => ?_⟩)
     ·have h : (e : Int) < (s.length : Int) := h
      have hye : s[e]? = some (s[e]'(by omega)) := by simp
      generalize (s[e]'(by omega)) = ye at hye
      simp only [zJ hye, zJ hx, Option.bind_some]
      refine zB ⟨rfl, fun hb => ⟨ye, hye, zEw hb⟩, fun hb y hy => ?_⟩
      have hyy : y = ye := by rw [hye] at hy; exact (Option.some.inj hy).symm
      subst hyy
      intro e0
      have hb : (y.1.fst == xi.1.fst && (y.1.snd.fst == xi.1.snd.fst && true)) = false := hb
      rw [e0] at hb
      simp at hb
     ·have h : ¬ (e : Int) < (s.length : Int) := h
      have := (List.getElem?_eq_some_iff.1 hy).1
      omega
    ·rintro ⟨b, q3⟩ ⟨hq, hbt, hbf⟩
     simp only at hq hbt hbf
     subst hq
     refine zG (fun hb => ?_) (fun hb => zB (e2r ⟨rfl, e, rfl, hie, hel, hall, hbf hb⟩))
     obtain ⟨y, hy, hyp⟩ := hbt hb
     have hel' := (List.getElem?_eq_some_iff.1 hy).1
     have hw : IntKind.wrap IntKind.i64 ((e : Int) + 1) = ((e + 1 : Nat) : Int) := by rw [zD (by omega) (by omega)]; omega
     refine zB (e2l ⟨⟨rfl, e + 1, hw, by omega, hel', ?_⟩, ?_⟩)
     ·intro k y' h1 h2 hy'
      rcases Nat.lt_or_ge k e with h3 | h3
      ·exact hall k y' h1 h3 hy'
      ·have : k = e := by omega
       subst this
       rw [hy] at hy'
       cases hy'
       exact hyp
     ·simp only [hw]; omega
  ·rintro ⟨q1, q2⟩ ⟨hq, e, he, hie, hel, hall, hend⟩
   simp only at hq he
   subst hq
   subst he
   have hsub : sub s (i : Int) (e : Int) = some ((s.take e).drop i) := by
    unfold sub
    rw [if_pos ⟨by omega, by omega, by omega⟩]
    simp
   have hgm : ∀ x, x ∈ (s.take e).drop i → x ∈ s ∧ x.1 = xi.1 := by
    intro x hx'
    obtain ⟨k, hk, rfl⟩ := List.getElem_of_mem hx'
    rw [List.length_drop, List.length_take] at hk
    have hke : ((s.take e).drop i)[k] = s[i + k]'(by omega) := by rw [List.getElem_drop, List.getElem_take]
    rw [hke]
    exact ⟨List.getElem_mem _, hall (i + k) _ (by omega) (by omega) (by simp)⟩
   have hgl : ((s.take e).drop i).length = e - i := by rw [List.length_drop, List.length_take]; omega
   have hgn : (s.take e).drop i ≠ [] := fun h => by rw [h] at hgl; simp only [List.length_nil] at hgl; omega
   refine zC (qD hsub ?_)
   refine zC ((zGY _ xi.1 hgn (fun x hx' => (hgm x hx').2) (fun x hx' => hs x (hm x (hgm x hx').1)) (by omega) (fun x y hx' hy' => hP x y (hm x (hgm x hx').1) (hm y (hgm y hy').1))).mono (fun z hz => ?_))
   have hml := zIb (s.take i)
   rw [List.length_take] at hml
   have hql : q1.length ≤ 524288 := by rw [hmg]; omega
   refine zC (wL (by simp only [List.length_singleton]; omega) (zB (e2l ⟨⟨e, rfl, hel, ?_, ?_⟩, ?_⟩)))
   ·have hta : s.take e = s.take i ++ (s.take e).drop i := by
     have h1 := List.take_append_drop i (s.take e)
     rw [List.take_take, Nat.min_eq_left (by omega)] at h1
     exact h1.symm
    rw [hta, hmg]
    refine (zP6 (p := xi.1) ?_ (fun x hx' => (hgm x hx').2) hgn hz).symm
    intro x hx'
    obtain ⟨a, ha, rfl⟩ := List.getElem_of_mem hx'
    rw [List.length_take] at ha
    rw [List.getElem_take]
    have hi0 : 0 < i := by omega
    have hx1 : s[i - 1]? = some (s[i - 1]'(by omega)) := by simp
    have hne := hbd hi0 _ _ hx1 hx
    have h1 := hso' (i - 1) i (by omega) hlt (by omega)
    rw [hxi] at h1
    have h2 : plt (s[i - 1]'(by omega)).1 xi.1 := zPY h1 hne
    by_cases hai : a = i - 1
    ·subst hai; exact h2
    ·have h3 := hso' a (i - 1) (by omega) (by omega) (by omega)
     unfold rlt plt zDV at *
     omega
   ·intro _ x y hx' hy' hxy
    have h1 : x.1 = xi.1 := hall (e - 1) x (by omega) (by omega) hx'
    exact hend y hy' (hxy.symm.trans h1)
   ·simp only; omega
 ·have hc : ¬ (i : Int) < (s.length : Int) := hc
  have : i = s.length := by omega
  subst this
  refine zB (e2r ?_)
  simp only [hmg, List.take_length]
end Go.Ve

namespace Go.Ve
open Go
set_option maxRecDepth 1000000
set_option maxHeartbeats 4000000
def zSS (rt : Ty.El zH) (x : Ty.El qA) (k : Nat) : Ty.El zA :=
 (zCN x.2.1 x.2.2.1, (4 : Int), (1 : Int), rt.2.2.2.2.2.2.2.2.2.1.2.1, (1 : Int), (0 : Int), (0 : Int), (0 : Int), [], (0 : Int), (0 : Int), [((k : Int), (0 : Int), ())], false, ())
def zKm (v : Ty.El zS) (r : Int) (rt : Ty.El zH) (k : Nat) : Option (Ty.El zA) :=
 match rt.2.2.1[k]? with
 | some x => bif wQ v rt x r k then some (zSS rt x k) else none
 | none => none
def zG3 (v : Ty.El zS) (r : Int) (rt : Ty.El zH) : List (Ty.El zA) := (List.range rt.2.2.1.length).filterMap (zKm v r rt)
theorem zF1 (v : Ty.El zS) (r : Int) (rt : Ty.El zH) : (zG3 v r rt).length ≤ rt.2.2.1.length :=
 Nat.le_trans (List.length_filterMap_le _ _) (by rw [List.length_range]; exact Nat.le_refl _)
theorem zGH {v : Ty.El zS} {r : Int} {rt : Ty.El zH} {y : Ty.El zA} (h : y ∈ zG3 v r rt) : ∃ (k : Nat) (x : Ty.El qA), rt.2.2.1[k]? = some x ∧ wQ v rt x r k = true ∧ y = zSS rt x k := by
 obtain ⟨k, _, hk⟩ := List.mem_filterMap.1 h
 unfold zKm at hk
 cases hx : rt.2.2.1[k]? with
 | none => rw [hx] at hk; cases hk
 | some x =>
  rw [hx] at hk
  simp only at hk
  cases hp : wQ v rt x r k with
  | false => rw [hp] at hk; cases hk
  | true =>
   rw [hp] at hk
   exact ⟨k, x, hx, hp, (Option.some.inj hk).symm⟩
theorem kN (v : Ty.El zS) (r : Nat) (rt : Ty.El zH) (hv : zAM v) (hr : v.1.1[r]? = some rt) :
  Wp (uM (v, (r : Int), ())) (fun out => out.length = (zG3 v r rt).length ∧ zBn (fun x : Ty.El zA => x.1) (zG3 v r rt) out ∧ out.Pairwise (fun x y => ¬ rlt y x)) := by
 unfold uM
 dsimp only
 have hrl := (List.getElem?_eq_some_iff.1 hr).1
 have hsm := hv.sm rt (List.mem_of_getElem? hr)
 have hil : rt.2.2.1.length ≤ 20 := hsm.i1
 have hr0 : ¬ ((r : Int) < 0) := by omega
 have hr1 : ¬ ((r : Int) ≥ (List.length v.1.1 : Int)) := by omega
 refine zC (zI (fun h => absurd h hr0) (fun h => zB ?_))
 refine zI (fun h => absurd h hr1) (fun h => ?_)
 simp only [zJ hr, Option.bind_some]
 have hfl : ∀ i, i ≤ 20 → ((List.range i).filterMap (zKm v r rt)).length ≤ 20 := fun i hi => Nat.le_trans (List.length_filterMap_le _ _) (by rw [List.length_range]; exact hi)
 refine zC ((vM (xs := rt.2.2.1) (by omega) (fun i (g : List (Ty.El zA)) => g = (List.range i).filterMap (zKm v r rt)) rfl ?_ (Q := fun g => g = zG3 v r rt) (fun g hg => hg)).mono (fun g hg => ?_))
 ·intro i x g hx hg
  have hi := (List.getElem?_eq_some_iff.1 hx).1
  have hgl : g.length ≤ 20 := by rw [hg]; exact hfl i (by omega)
  simp only [zJ hx, Option.bind_some]
  rw [zE9, ← hg]
  have hf : zKm v r rt i = bif wQ v rt x r i then some (zSS rt x i) else none := by unfold zKm; rw [hx]
  rw [hf]
  refine zC ((vP v r i rt x hv hr hx).mono (fun b hb => ?_))
  subst hb
  refine zG (fun h => zB ?_) (fun h => zC (qD (zIT _ _) (zC (wL (by simp only [List.length_singleton]; omega) (zB ?_)))))
  ·have h : wQ v rt x r i = false := by simpa using h
   rw [h]; simp
  ·have h : wQ v rt x r i = true := by simpa using h
   rw [h]; rfl
 ·subst hg
  refine zG (fun _ => ?_) (fun h => absurd h (by rw [Nat.beq_refl]; decide))
  have := zF1 v r rt
  refine zC ((zEZ (zG3 v r rt) (by omega)).mono (fun q hq => zB ?_))
  exact hq
theorem zIW {a a' : List (Ty.El zA)} (h : zBn (fun x : Ty.El zA => x.1) a a') (b : List (Ty.El zA)) : zBn (fun x : Ty.El zA => x.1) (a ++ b) (a' ++ b) := by
 intro p
 have h1 := zCj p a b
 have h2 := zCj p a' b
 have h3 : vH p a = vH p a' := h p
 show vH p (a ++ b) = vH p (a' ++ b)
 rw [h1, h2, h3]
theorem zKg {a a' : List (Ty.El zA)} (h : zBn (fun x : Ty.El zA => x.1) a a') (x : Ty.El zA) : x ∈ a ↔ x ∈ a' := by
 have h1 := @zAI x.1 x a
 have h2 := @zAI x.1 x a'
 have h3 : vH x.1 a = vH x.1 a' := h x.1
 rw [h3] at h1
 constructor
 ·intro hx; exact (h2.1 (h1.2 ⟨hx, rfl⟩)).1
 ·intro hx; exact (h1.1 (h2.2 ⟨hx, rfl⟩)).1
theorem zJa (rt : Ty.El zH) (x : Ty.El qA) (k : Nat) : (zSS rt x k).2.1 = 4 ∧ RtS (zSS rt x k) := ⟨rfl, ⟨Nat.zero_le _, by show 1 ≤ 1048576; omega⟩⟩
def zQD (v : Ty.El zS) (dv : List (List (Ty.El zA))) (l : List (Ty.El zA)) (r : Int) (rt : Ty.El zH) : List (Ty.El zA) := zG3 v r rt ++ (l ++ zDC v dv r rt)
theorem zPX {v : Ty.El zS} {dv : List (List (Ty.El zA))} {r : Int} {rt : Ty.El zH} {x : Ty.El zA} (h : x ∈ zDC v dv r rt) : x.2.1 = 4 ∧ RtS x := by
 obtain ⟨i, z, e, _, _, _, hx⟩ := zWj h
 obtain ⟨q, y, t, x0, _, _, _, _, _, hf⟩ := zWk hx
 obtain ⟨_, _, _, hxe⟩ := zUI hf
 rw [hxe]
 exact ⟨rfl, ⟨Nat.zero_le _, by show 1 ≤ 1048576; omega⟩⟩
theorem zBr (v : Ty.El zS) (hs : zAM v) (hE : ∀ (r i : Int) (e : Ty.El zK), upB v r i = true → e ∈ xD v r i → (0 : Int) ≤ e.1 ∧ (0 : Int) ≤ e.2.1 ∧ ∃ q y, v.1.1[Int.toNat e.1]? = some q ∧ q.2.2.1[Int.toNat e.2.1]? = some y)
  (dv : List (List (Ty.El zA))) (hdv : dv.length = v.1.1.length) (h12 : ∀ t, t ∈ dv → t.length ≤ 12) (l : List (Ty.El zA)) (hl : l.length ≤ 12) (h4 : ∀ x, x ∈ l → x.2.1 = 4 ∧ RtS x) (r : Nat) (rt : Ty.El zH) (hr : v.1.1[r]? = some rt)
  (hlen : (zDC v dv r rt).length ≤ 500000) :
  Wp (uL (v, dv, l, (r : Int), ())) (fun t => t = bif rt.2.2.2.2.2.2.2.2.2.1.1 then wY (zQD v dv l r rt) else []) := by
 unfold uL
 dsimp only
 have hrl := (List.getElem?_eq_some_iff.1 hr).1
 have hsm := hs.sm rt (List.mem_of_getElem? hr)
 have hil : rt.2.2.1.length ≤ 20 := hsm.i1
 have hr0 : ¬ ((r : Int) < 0) := by omega
 have hr1 : ¬ ((r : Int) ≥ (List.length v.1.1 : Int)) := by omega
 refine zC ((show Wp _ (fun b : Bool => b = !rt.2.2.2.2.2.2.2.2.2.1.1) from ?_).mono (fun b hb => ?_))
 ·refine zI (fun h => absurd h hr0) (fun _ => zI (fun h => absurd h hr1) (fun _ => ?_))
  simp only [zJ hr, Option.bind_some]
  exact zB rfl
 subst hb
 refine zG (fun h => zB ?_) (fun h => ?_)
 ·have h : rt.2.2.2.2.2.2.2.2.2.1.1 = false := by simpa using h
  rw [h]; rfl
 have h : rt.2.2.2.2.2.2.2.2.2.1.1 = true := by simpa using h
 rw [h]
 refine zC ((kN v r rt hs hr).mono (fun o ho => ?_))
 obtain ⟨ho1, ho2, _⟩ := ho
 have hol := zF1 v r rt
 refine zC ((zAa v hs hE dv hdv h12 r rt hr).mono (fun q hq => ?_))
 subst hq
 have hfl : ([o, l, zDC v dv r rt] : List (List (Ty.El zA))).flatten = o ++ (l ++ zDC v dv r rt) := by simp
 have hal : (o ++ (l ++ zDC v dv r rt)).length ≤ 524288 := by simp only [List.length_append]; omega
 have hc : kS ([o, l, zDC v dv r rt], ()) = some (o ++ (l ++ zDC v dv r rt)) := by
  unfold kS
  simp only [hfl]
  rw [if_pos ⟨by omega, by simp⟩]
 refine zC (qD hc ?_)
 have hsame := zIW ho2 (l ++ zDC v dv r rt)
 have hall : ∀ x, x ∈ o ++ (l ++ zDC v dv r rt) → x.2.1 = 4 ∧ RtS x := by
  intro x hx
  rcases List.mem_append.1 hx with hx | hx
  ·obtain ⟨k, y, _, _, rfl⟩ := zGH ((zKg ho2 x).2 hx)
   exact zJa rt y k
  ·rcases List.mem_append.1 hx with hx | hx
   ·exact h4 x hx
   ·exact zPX hx
 refine zC ((zKd _ hal (fun x hx => (hall x hx).2) (fun x y hx hy => zHS x y (hall x hx).1 (hall y hy).1)).mono (fun t ht => zB ?_))
 rw [ht]
 exact (zF6 hsame).symm
end Go.Ve

namespace Go.Ve
open Go
set_option maxRecDepth 1000000
set_option maxHeartbeats 4000000
theorem zBz (v : Ty.El zS) (r k : Nat) (rt : Ty.El zH) (x : Ty.El qA) (hv : zAM v) (hr : v.1.1[r]? = some rt) (hx : rt.2.2.1[k]? = some x) :
  Wp (zAG (v, (r : Int), (k : Int), ())) (fun b => b = wQ v rt x r k) := by
 unfold zAG wQ
 dsimp only
 simp only [zJ hr, Option.bind_some]
 refine zC ?_
 refine zG (fun h => ?_) (fun h => zB (zB ?_))
 ·rw [h]
  simp only [zJ hx, Option.bind_some]
  refine zG (fun h => ?_) (fun h => zB (zB ?_))
  ·rw [h]
   exact zC ((zHl v r k hv).mono (fun b hb => zB (zB (by rw [hb]; rfl))))
  ·rw [h]; rfl
 ·rw [h]; rfl
theorem zFP (v : Ty.El zS) (r : Nat) (rt : Ty.El zH) (hv : zAM v) (hr : v.1.1[r]? = some rt) :
  Wp (zDT (v, (r : Int), ())) (fun out => out = wY (zG3 v r rt)) := by
 unfold zDT
 dsimp only
 have hrl := (List.getElem?_eq_some_iff.1 hr).1
 have hsm := hv.sm rt (List.mem_of_getElem? hr)
 have hil : rt.2.2.1.length ≤ 20 := hsm.i1
 have hfl : ∀ i, i ≤ 20 → ((List.range i).filterMap (zKm v r rt)).length ≤ 20 := fun i hi => Nat.le_trans (List.length_filterMap_le _ _) (by rw [List.length_range]; exact hi)
 refine zC ((show Wp _ (fun g : List (Ty.El zA) => g = zG3 v r rt) from ?_).mono (fun g hg => ?_))
 ·refine j2 (fun s : Int × List (Ty.El zA) => ∃ i : Nat, s.1 = (i : Int) ∧ i ≤ rt.2.2.1.length ∧ s.2 = (List.range i).filterMap (zKm v r rt)) (fun s => ((rt.2.2.1.length : Int) - s.1).toNat) ⟨0, rfl, Nat.zero_le _, rfl⟩ ?_
  rintro ⟨s, g⟩ ⟨i, hi, hil2, hg⟩
  simp only at hi hg
  subst hi
  refine zC (zC (qD (zAW v r hrl) (zG (fun _ => ?_) (fun h => by cases h))))
  simp only [zJ hr, Option.bind_some]
  refine zB (zI (fun h => ?_) (fun h => zB (e2r ?_)))
  ·have h : (i : Int) < (rt.2.2.1.length : Int) := h
   have hx : rt.2.2.1[i]? = some (rt.2.2.1[i]'(by omega)) := by simp
   have hgl : g.length ≤ 20 := by rw [hg]; exact hfl i (by omega)
   have hf : zKm v r rt i = bif wQ v rt (rt.2.2.1[i]'(by omega)) r i then some (zSS rt (rt.2.2.1[i]'(by omega)) i) else none := by unfold zKm; rw [hx]
   refine zC (Wp.mono (Q := fun g' => g' = (List.range (i + 1)).filterMap (zKm v r rt)) ?_ (fun g' hg' => zB (e2l ⟨⟨i + 1, ?_, by omega, hg'⟩, ?_⟩)))
   ·rw [zE9, ← hg, hf]
    refine zC ((zBz v r i rt _ hv hr hx).mono (fun b hb => ?_))
    subst hb
    refine zG (fun h => zC (qD (zHV v r i rt _ hr hx) (zC (wL (by simp only [List.length_singleton]; omega) (zB ?_))))) (fun h => zB ?_)
    ·rw [h]; rfl
    ·rw [h]; simp
   ·simp only; rw [zD (by omega) (by omega)]; omega
   ·simp only; rw [zD (by omega) (by omega)]; omega
  ·have h : ¬ (i : Int) < (rt.2.2.1.length : Int) := h
   have : i = rt.2.2.1.length := by omega
   rw [hg, this]; rfl
 ·subst hg
  have hol := zF1 v r rt
  refine zC ((zDP (zG3 v r rt) (by omega) ?_).mono (fun r hr => zB hr))
  intro y hy
  obtain ⟨k, x, _, _, rfl⟩ := zGH hy
  exact (zJa rt x k).2
theorem zUN {n : Ty.El zT} {d : List Int} {v : Ty.El zS} (hv : x8 n d v) {r : Nat} {rt : Ty.El zH} (hr : n.1[r]? = some rt) : (zG3 v r rt).Pairwise (fun x y => x.1 ≠ y.1) := by
 have hok := (zWf hv).rt rt (List.mem_of_getElem? hr)
 unfold zG3
 refine List.Pairwise.filterMap _ ?_ List.pairwise_lt_range
 intro i j hij y hy z hz
 have g : ∀ k w, zKm v r rt k = some w → ∃ x, rt.2.2.1[k]? = some x ∧ x.2.2.1 ≠ 0 ∧ w = zSS rt x k := by
  intro k w hk
  unfold zKm at hk
  cases hx : rt.2.2.1[k]? with
  | none => rw [hx] at hk; cases hk
  | some x =>
   rw [hx] at hk
   simp only at hk
   cases hp : wQ v rt x r k with
   | false => rw [hp] at hk; cases hk
   | true =>
    rw [hp] at hk
    have hu : upB v r k = true := by
     unfold wQ at hp
     simp only [Bool.and_eq_true] at hp
     exact hp.2.2
    obtain ⟨rt', x', g1, g2, g3, _⟩ := zXf hv hu
    rw [hr] at g1
    cases g1
    rw [hx] at g2
    cases g2
    exact ⟨x, rfl, g3, (Option.some.inj hk).symm⟩
 obtain ⟨x1, a1, a2, rfl⟩ := g i y hy
 obtain ⟨x2, b1, b2, rfl⟩ := g j z hz
 intro he
 have := (hok.ifs j x2 b1).apart i x1 hij a1 b2 a2
 have he : zCN x1.2.1 x1.2.2.1 = zCN x2.2.1 x2.2.2.1 := he
 rw [he, zMV] at this
 cases this
theorem zMJ {a b : List (Ty.El zA)} (h : zBn (fun x : Ty.El zA => x.1) a b) : a.Perm b := by
 classical
 rw [List.perm_iff_count]
 intro x
 have h1 : vH x.1 a = vH x.1 b := h x.1
 unfold vH zJE at h1
 have e := congrArg (List.count x) h1
 rwa [List.count_filter (by simp), List.count_filter (by simp)] at e
theorem zV8 {n : Ty.El zT} {d : List Int} {v : Ty.El zS} (hv : x8 n d v) {r : Nat} {rt : Ty.El zH} (hr : n.1[r]? = some rt) {o : List (Ty.El zA)}
  (h2 : zBn (fun x : Ty.El zA => x.1) (zG3 v r rt) o) (h3 : o.Pairwise (fun x y => ¬ rlt y x)) : o = wY (zG3 v r rt) := by
 have hap := zUN hv hr
 have hp := zMJ h2
 refine zAD zMg (zLg hp.symm h3 hap) (zDE _) (fun z => ?_)
 rw [hp.symm.mem_iff, zRx hap]
 intro x hx
 obtain ⟨k, x', _, _, rfl⟩ := zGH hx
 rfl
theorem zCB (n : Ty.El zT) (d : List Int) (v : Ty.El zS) (hv : x8 n d v) (dv : List (List (Ty.El zA))) (hdv : dv.length = n.1.length) (h12 : ∀ t, t ∈ dv → t.length ≤ 12) (r : Nat) (rt : Ty.El zH) (hr : v.1.1[r]? = some rt) :
  Wp (zAd (v, dv, (r : Int), ())) (fun l => l = zDC v dv r rt) := by
 unfold zAd
 dsimp only
 have hs := hv.s
 have hrl := (List.getElem?_eq_some_iff.1 hr).1
 have hsm := hs.sm rt (List.mem_of_getElem? hr)
 have hil : rt.2.2.1.length ≤ 20 := hsm.i1
 refine zC (qD (zAW v r hrl) (zG (fun h => by cases h) (fun _ => ?_)))
 simp only [zJ hr, Option.bind_some]
 refine zC ((vM (xs := rt.2.2.1) (by omega) (fun i (g : List (Ty.El zA)) => g = (List.range i).flatMap (zFo v dv r rt)) rfl ?_ (Q := fun g => g = zDC v dv r rt) (fun g hg => hg)).mono (fun g hg => zB hg))
 intro i x g hx hg
 have hi := (List.getElem?_eq_some_iff.1 hx).1
 have hgl : g.length ≤ i * 4320 := by
  have h2 := uT (xs := List.range i) (f := zFo v dv r rt) (k := 4320) (fun j _ => zMQ hs h12)
  rw [List.length_range] at h2
  rw [hg]; exact h2
 have jD : (List.range (i + 1)).flatMap (zFo v dv r rt) = g ++ zFo v dv r rt i := by
  rw [List.range_succ, List.flatMap_append, ← hg]; simp
 rw [jD]
 have hI : zFo v dv r rt i = bif wQ v rt x r i then (zF5 v r i (fun e => e.1 != r || e.2.1 != (i : Int))).flatMap (zFX v dv rt i) else [] := by
  unfold zFo; rw [hx]
 rw [hI]
 refine zC ((zBz v r i rt x hs hr hx).mono (fun b hb => ?_))
 subst hb
 refine zG (fun hp => zB ?_) (fun hp => ?_)
 ·have hp : wQ v rt x r i = false := by simpa using hp
  rw [hp]; exact (List.append_nil g).symm
 have hp : wQ v rt x r i = true := by simpa using hp
 rw [hp]
 refine zC ((zFQ v r i hs).mono (fun ns hns => ?_))
 have hnl : ns.length ≤ 360 := by rw [hns]; exact zNe hs _ _ _
 have hup : upB v r i = true := by
  unfold wQ at hp
  simp only [Bool.and_eq_true] at hp
  exact hp.2.2
 rw [zWh hv]
 refine (vM (xs := ns) (by omega) (fun j (g' : List (Ty.El zA)) => g' = g ++ (ns.take j).flatMap (zFX v dv rt i)) (by simp) ?_ (fun g' hg' => by rw [hg', List.take_length, hns]; rfl))
 intro j e g' he hg'
 have hj := (List.getElem?_eq_some_iff.1 he).1
 have hg'l : g'.length ≤ i * 4320 + 4320 := by
  have h2 := uT (xs := ns.take j) (f := zFX v dv rt i) (k := 12) (fun e _ => zMR h12)
  have h3 := List.length_take_le' j ns
  rw [hg', List.length_append]
  omega
 simp only [zJ he, Option.bind_some]
 rw [zEL he, ← List.append_assoc, ← hg']
 have hem := List.mem_of_getElem? he
 rw [hns] at hem
 obtain ⟨_, u2, _⟩ := zXw hem
 obtain ⟨b0, b1, q, y, b2, b3, _⟩ := zWM hv hup u2
 have hat := zOi v e q y b0 b1 b2 b3
 obtain ⟨e1, e2, ⟨⟩⟩ := e
 obtain ⟨qn, rfl⟩ := Int.eq_ofNat_of_zero_le (show (0 : Int) ≤ e1 from b0)
 obtain ⟨kn, rfl⟩ := Int.eq_ofNat_of_zero_le (show (0 : Int) ≤ e2 from b1)
 have c2 : v.1.1[qn]? = some q := b2
 have c3 : q.2.2.1[kn]? = some y := b3
 have hql := (List.getElem?_eq_some_iff.1 c2).1
 have hnn := hv.net
 have hqd : qn < dv.length := by rw [hdv, ← hnn]; exact hql
 have ht : dv[qn]? = some dv[qn] := by simp [hqd]
 generalize dv[qn] = t at ht
 have htm := h12 t (List.mem_of_getElem? ht)
 have hE : zFX v dv rt i ((qn : Int), (kn : Int), ()) = bif wQ v q y qn kn then t.filterMap (zKi rt q y i) else [] := by
  unfold zFX
  simp only [Int.toNat_natCast, c2, c3, ht]
 rw [hE]
 refine zC ((zBz v qn kn q y hs c2 c3).mono (fun b hb => ?_))
 subst hb
 refine zG (fun hb => zB ?_) (fun hb => ?_)
 ·have hb : wQ v q y qn kn = false := by simpa using hb
  rw [hb]; exact (List.append_nil g').symm
 have hb : wQ v q y qn kn = true := by simpa using hb
 rw [hb]
 have hqs := hs.sm q (List.mem_of_getElem? c2)
 simp only [zJ c2, zJ ht, Option.bind_some]
 refine (vM (xs := t) (by omega) (fun m (w : List (Ty.El zA)) => w = g' ++ (t.take m).filterMap (zKi rt q y i)) (by simp) ?_ (fun w hw => by rw [hw, List.take_length]; rfl))
 intro m z w hz hw
 have hm := (List.getElem?_eq_some_iff.1 hz).1
 have hwl : w.length ≤ i * 4320 + 4320 + 12 := by
  have h2 := List.length_filterMap_le (zKi rt q y i) (t.take m)
  have h3 := List.length_take_le' m t
  rw [hw, List.length_append]
  omega
 simp only [zJ hz, Option.bind_some]
 rw [zCS hz, ← List.append_assoc, ← hw]
 refine zC ((show Wp _ (fun s : Bool × List (Ty.El zA) => s.1 = !(decide (z.2.2.2.2.1 < 15) && (zDm q q.2.2.2.2.2.2.2.2.2.1.2.2.2.1 z.1 && zDm rt rt.2.2.2.2.2.2.2.2.2.1.2.2.1 z.1)) ∧ s.2 = w) from ?_).mono (fun s hs => ?_))
 ·refine zI (fun h => zB ⟨?_, rfl⟩) (fun h => ?_)
  ·have h : ¬ z.2.2.2.2.1 < 15 := Int.not_lt.2 h
   rw [decide_eq_false h]; rfl
  ·have h : z.2.2.2.2.1 < 15 := Int.not_le.1 h
   rw [decide_eq_true h]
   refine zC ((zAC q _ _ hqs).mono (fun b hb => ?_))
   refine zG (fun hb' => zB ⟨?_, rfl⟩) (fun hb' => ?_)
   ·have hb' : b = false := by simpa using hb'
    rw [← hb, hb']; rfl
   ·have hb' : b = true := by simpa using hb'
    rw [← hb, hb']
    refine zC ((zAC rt _ _ hsm).mono (fun c hc => zB ⟨?_, rfl⟩))
    rw [hc]; rfl
 ·obtain ⟨s1, s2⟩ := s
  obtain ⟨g1, g2⟩ := hs
  simp only at g1 g2
  subst g2
  unfold zKi
  refine zG (fun h => zB ?_) (fun h => ?_)
  ·have h : s1 = true := h
   rw [h] at g1
   have g1 := (Bool.not_eq_eq_eq_not).1 g1.symm
   rw [g1]; simp
  ·have h : s1 = false := h
   rw [h] at g1
   have g1 := (Bool.not_eq_eq_eq_not).1 g1.symm
   rw [g1]
   refine zC (hat.mono (fun y' hy' => ?_))
   rw [hy']
   exact zC (wL (by simp only [List.length_singleton]; omega) (zB rfl))
end Go.Ve

namespace Go.Ve
open Go
set_option maxRecDepth 1000000
set_option maxHeartbeats 4000000
theorem zS5 {l : List (Ty.El zA)} (hs : ∀ x, x ∈ l → RtS x) (p : Ty.El zF) (b : Ty.El zA) : (yX l p b).length ≤ l.length * 1048576 := by
 have aux : ∀ (l : List (Ty.El zA)) (h : List (Ty.El z1)), (∀ x, x ∈ l → RtS x) → (l.foldl (jD p b) h).length ≤ h.length + l.length * 1048576 := by
  intro l
  induction l with
  | nil => intro h _; simp
  | cons x l ih =>
   intro h hs
   have h1 := ih (jD p b h x) (fun y hy => hs y (List.mem_cons_of_mem _ hy))
   have h2 := zPe (p := p) (b := b) (hs := h) (x := x)
   have h3 := (hs x (by simp)).hops
   simp only [List.foldl_cons, List.length_cons]
   omega
 have := aux l [] hs
 unfold yX
 simpa using this
theorem zSZ {l : List (Ty.El zA)} (hl : l.length ≤ 524288) (hs : ∀ x, x ∈ l → RtS x) : ∀ z, z ∈ wY l → RtB z := by
 intro z hz
 obtain ⟨q, _, hm⟩ := zED.1 hz
 unfold mrg at hm
 cases hb : zAz l q with
 | none => rw [hb] at hm; cases hm
 | some b =>
  rw [hb] at hm
  have hm := (Option.some.inj hm).symm
  subst hm
  have h1 := (hs b (zSh hb).1).path
  have h2 := zS5 hs q b
  refine ⟨?_, ?_⟩
  ·show b.2.2.2.2.2.2.2.2.1.length ≤ _
   have h1 : b.2.2.2.2.2.2.2.2.1.length ≤ 1048576 := h1
   omega
  ·show (yX l q b).length ≤ _
   omega
theorem zQy (l : List (Ty.El zA)) (hs : ∀ y, y ∈ l → RtS y) (hl : l.length ≤ 1048576) : Wp (zBc (l, ())) (fun b => b = true → l.length ≤ 12 ∧ zEX l 4) := by
 unfold zBc
 dsimp only
 refine zC ((show Wp _ (fun s : Bool => s = false → l.length ≤ 12 ∧ zEX l 4) from ?_).mono (fun s h => ?_))
 ·refine zI (fun _ => zB (fun h => by cases h)) (fun h => ?_)
  have h : ¬ ((l.length : Int) > 12) := h
  refine zC ((zPv l 4 hl hs).mono (fun b hb => zB (fun h' => ⟨by omega, hb (by simpa using h')⟩)))
 refine zG (fun _ => zB (fun h => by cases h)) (fun hs' => ?_)
 have hk := h hs'
 refine zCu (P := fun _ => True) (by omega) ?_ (fun _ => zB (fun _ => hk))
 intro i x hx
 simp only [zJ hx, Option.bind_some]
 exact zG (fun _ => zB (e2r (e2r (fun h => by cases h)))) (fun _ => zB (e2l ⟨rfl, trivial⟩))
theorem zXY {v : Ty.El zS} {dv : List (List (Ty.El zA))} {l : List (Ty.El zA)} {r : Int} {rt : Ty.El zH} (h4 : ∀ x, x ∈ l → x.2.1 = 4 ∧ RtS x) : ∀ x, x ∈ zQD v dv l r rt → x.2.1 = 4 ∧ RtS x := by
 intro x hx
 unfold zQD at hx
 rcases List.mem_append.1 hx with hx | hx
 ·obtain ⟨k, y, _, _, rfl⟩ := zGH hx
  exact zJa rt y k
 ·rcases List.mem_append.1 hx with hx | hx
  ·exact h4 x hx
  ·exact zPX hx
theorem zG0 (n : Ty.El zT) (d : List Int) (v : Ty.El zS) (hv : x8 n d v) (dv : List (List (Ty.El zA))) (hdv : dv.length = n.1.length) (h12 : ∀ t, t ∈ dv → t.length ≤ 12) (l : List (Ty.El zA)) (hl : l.length ≤ 12) (h4 : ∀ x, x ∈ l → x.2.1 = 4 ∧ RtS x) (r : Nat) (rt : Ty.El zH) (hr : v.1.1[r]? = some rt) :
  Wp (zA4 (v, dv, l, (r : Int), ())) (fun t => t = bif rt.2.2.2.2.2.2.2.2.2.1.1 then wY (zQD v dv l r rt) else []) := by
 unfold zA4
 dsimp only
 have hs := hv.s
 have hrl := (List.getElem?_eq_some_iff.1 hr).1
 have hsm := hs.sm rt (List.mem_of_getElem? hr)
 have hil : rt.2.2.1.length ≤ 20 := hsm.i1
 have hrn : n.1[r]? = some rt := by rw [← hv.net]; exact hr
 refine zC ((show Wp _ (fun b : Bool => b = !rt.2.2.2.2.2.2.2.2.2.1.1) from ?_).mono (fun b hb => ?_))
 ·refine zC (qD (zAW v r hrl) (zG (fun h => by cases h) (fun _ => ?_)))
  simp only [zJ hr, Option.bind_some]
  exact zB rfl
 subst hb
 refine zG (fun h => zB ?_) (fun h => ?_)
 ·have h : rt.2.2.2.2.2.2.2.2.2.1.1 = false := by simpa using h
  rw [h]; rfl
 have h : rt.2.2.2.2.2.2.2.2.2.1.1 = true := by simpa using h
 rw [h]
 have hol := zF1 v r rt
 refine zC ((zFP v r rt hs hr).mono (fun o ho => ?_))
 have hml := zIb (zG3 v r rt)
 rw [← ho] at hml
 refine zC (wL (by omega) ?_)
 refine zC ((zCB n d v hv dv hdv h12 r rt hr).mono (fun q hq => ?_))
 have hql := zRm hs (dv := dv) (r := r) (rt := rt) h12 hil
 rw [← hq] at hql
 refine zC (wL (by simp only [List.length_append]; omega) ?_)
 obtain ⟨o', _, h2, h3⟩ := (kN v r rt hs hr).mono (fun _ h => h.2)
 have ho' := zV8 hv hrn h2 h3
 have hoo : o = o' := by rw [ho, ho']
 subst hoo
 have hal : ∀ x, x ∈ (o ++ l) ++ q → RtS x := by
  intro x hx
  rw [List.append_assoc] at hx
  rcases List.mem_append.1 hx with hx | hx
  ·obtain ⟨k, y, _, _, rfl⟩ := zGH ((zKg h2 x).2 hx)
   exact (zJa rt y k).2
  ·rcases List.mem_append.1 hx with hx | hx
   ·exact (h4 x hx).2
   ·rw [hq] at hx; exact (zPX hx).2
 refine zC ((zDP _ (by simp only [List.length_append]; omega) hal).mono (fun t ht => zB ?_))
 rw [ht, List.append_assoc, hq]
 exact (zF6 (zIW h2 (l ++ zDC v dv r rt))).symm
theorem zNh (n : Ty.El zT) (d : List Int) (dv : List (List (Ty.El zA))) (l : List (Ty.El zA)) (hdv : ∀ t, t ∈ dv → ∀ y, y ∈ t → RtS y) (hl : ∀ y, y ∈ l → RtS y) (hll : l.length ≤ 1048576) :
  Wp (xR (n, d, dv, l, ())) (fun b => b = true) := by
 unfold xR
 dsimp only
 refine zC ((zMz n d).mono (fun y0 hy0 => ?_))
 refine zC ((show Wp _ (fun s : Bool => s = false → x8 n d y0.1 ∧ zUq n.1.length dv ∧ l.length ≤ 12 ∧ zEX l 4) from ?_).mono (fun s hs => ?_))
 ·refine zG (fun h => zB (fun h => by cases h)) (fun h1 => ?_)
  have hv := hy0 (by simpa using h1)
  refine zC ((zVj y0.1 dv hdv hv.s.rs).mono (fun b hb => zG (fun _ => zB (fun h => by cases h)) (fun h => ?_)))
  have hR := hb (by simpa using h)
  rw [hv.net] at hR
  refine zC ((zQy l hl hll).mono (fun b hb => zB (fun h => ⟨hv, hR, hb (by simpa using h)⟩)))
 refine zG (fun h => zB rfl) (fun h => ?_)
 obtain ⟨hv, hR, hl12, hT⟩ := hs h
 have hlen := hR.len
 have hrs := hv.rs
 have hS := hv.s
 have h12 : ∀ t, t ∈ dv → t.length ≤ 12 := fun t ht => (hR.one t ht).1
 have h4 : ∀ x, x ∈ l → x.2.1 = 4 ∧ RtS x := fun x hx => ⟨hT.pr (by decide) x hx, hl x hx⟩
 refine zCu (P := fun _ => True) (by omega) ?_ (fun _ => zC (qD rfl (zB rfl)))
 intro r t0 hr0
 have hrl := (List.getElem?_eq_some_iff.1 hr0).1
 have hrn : n.1[r]? = some (n.1[r]'(by omega)) := by simp
 generalize (n.1[r]'(by omega)) = rt at hrn
 have hr : y0.1.1.1[r]? = some rt := by rw [hv.net]; exact hrn
 have hsm := hS.sm rt (List.mem_of_getElem? hr)
 have hil : rt.2.2.1.length ≤ 20 := hsm.i1
 have hol := zF1 y0.1 r rt
 have hql := zRm hS (dv := dv) (r := r) (rt := rt) h12 hil
 have hdv2 : dv.length = y0.1.1.1.length := by rw [hv.net]; exact hlen
 have hE : ∀ (r i : Int) (e : Ty.El zK), upB y0.1 r i = true → e ∈ xD y0.1 r i → (0 : Int) ≤ e.1 ∧ (0 : Int) ≤ e.2.1 ∧ ∃ q y, y0.1.1.1[Int.toNat e.1]? = some q ∧ q.2.2.1[Int.toNat e.2.1]? = some y := by
  intro r i e hu he
  obtain ⟨e0, e1, q, y, e2, e3, _⟩ := zWM hv hu he
  exact ⟨e0, e1, q, y, e2, e3⟩
 refine zC (Wp.mono (Q := fun b => b = false) ?_ (fun b hb => by rw [hb]; exact zB (e2l ⟨rfl, trivial⟩)))
 refine zC ((kN y0.1 r rt hS hr).mono (fun o ho => ?_))
 obtain ⟨o1, o2, o3⟩ := ho
 have hoe := zV8 hv hrn o2 o3
 refine zC ((zFP y0.1 r rt hS hr).mono (fun o' ho' => ?_))
 rw [← hoe] at ho'
 subst ho'
 have hoS : ∀ x, x ∈ o' → RtS x := by
  intro x hx
  obtain ⟨k, y, _, _, rfl⟩ := zGH ((zKg o2 x).2 hx)
  exact (zJa rt y k).2
 refine zC (qD (zIX o' (by omega) hoS) (ff rfl ?_))
 refine zC ((zDR n d y0.1 hv dv hlen h12 r rt hr).mono (fun q hq => ?_))
 refine zC ((zCB n d y0.1 hv dv hlen h12 r rt hr).mono (fun q' hq' => ?_))
 rw [← hq] at hq'
 subst hq'
 refine zC (qD (zIX q' (by rw [hq]; omega) (fun x hx => by rw [hq] at hx; exact (zPX hx).2)) (ff rfl ?_))
 refine zC ((zBr y0.1 hS hE dv hdv2 h12 l hl12 h4 r rt hr (by omega)).mono (fun t ht => ?_))
 refine zC ((zG0 n d y0.1 hv dv hlen h12 l hl12 h4 r rt hr).mono (fun t' ht' => ?_))
 rw [← ht] at ht'
 subst ht'
 have hal : (zQD y0.1 dv l r rt).length ≤ 524288 := by unfold zQD; simp only [List.length_append]; omega
 have hmt := zIb (zQD y0.1 dv l r rt)
 refine zC (qD (zHn t' ?_ ?_) (zB rfl))
 ·rw [ht]
  cases rt.2.2.2.2.2.2.2.2.2.1.1
  ·exact Nat.zero_le _
  ·show (wY (zQD y0.1 dv l r rt)).length ≤ _
   omega
 ·intro x hx
  rw [ht] at hx
  cases hon : rt.2.2.2.2.2.2.2.2.2.1.1 with
  | false => rw [hon] at hx; cases hx
  | true =>
   rw [hon] at hx
   exact zSZ hal (fun x hx => (zXY h4 x hx).2) x hx
theorem zGt : ∀ x : ElS [zT, .sl tI, .sl (.sl zA), .sl zA], zUe 1048576 [zT, .sl tI, .sl (.sl zA), .sl zA] x → xR x = some true := by
 rintro ⟨n, d, dv, l, ⟨⟩⟩ ⟨_, _, ⟨h1, h2⟩, ⟨h3, h4⟩, _⟩
 exact wD (zNh n d dv l (fun t ht y hy => zOV ((h2 t ht).2 y hy)) (fun y hy => zOV (h4 y hy)) h3)
end Go.Ve

namespace Go.Ve
open Go
set_option maxRecDepth 1000000
set_option maxHeartbeats 4000000
def ifS (nm : ByteArray) (a : Int) (dv : Bool) : Ty.El qA := (nm, a, 24, 0, false, false, 0, 0, dv, ⟨#[]⟩, ⟨#[]⟩, 0, ())
def rtS (nm : ByteArray) (sy : Int) (ifs : List (Ty.El qA)) (dv : Ty.El tDV) (pv : Ty.El tPV) : Ty.El zH := (nm, sy, ifs, [], [], [], [], [], (false, 0, [], [], ()), dv, pv, ())
def zZa : Ty.El tDV := (true, 120, ⟨#[]⟩, ⟨#[]⟩, [], ())
def zY1 : Ty.El tPV := (false, 0, 0, [], [], [], [], [], ())
def zV1 : Ty.El zH := rtS ⟨#[97]⟩ 0 [ifS ⟨#[101, 48]⟩ 167772161 true] zZa zY1
def zYq : Ty.El zH := rtS ⟨#[98]⟩ 0 [ifS ⟨#[101, 48]⟩ 167772162 true, ifS ⟨#[101, 49]⟩ 167772418 true] zZa zY1
def zYs : Ty.El zT := ([zV1, zYq], ())
def zYj : Ty.El zIK := ([((167772160, 24, ()), 0, [(0, 0, ()), (1, 0, ())], ()), ((167772416, 24, ()), 0, [(1, 1, ())], ())], [0], ())
def zAR : Ty.El zS := (zYs, zYj, [], ())
def zXp (p : Int) (cl me : Int) (h : Ty.El z1) : Ty.El zA := ((p, 24, ()), 4, cl, 120, me, 0, 0, 0, [], 0, 0, [h], false, ())
def o17 : List (Ty.El zA) := [zXp 167772160 1 1 (0, 0, ()), zXp 167772416 1 1 (1, 0, ())]
def t17 : List (Ty.El zA) := [zXp 167772160 1 1 (0, 0, ()), zXp 167772416 3 2 (0, 167772162, ())]
theorem zVM {nm : ByteArray} {sy : Int} {ifs : List (Ty.El qA)} {dv : Ty.El tDV} {pv : Ty.El tPV} (h1 : ifs.length ≤ 20) (h2 : dv.2.2.2.2.1.length ≤ 20) (h3 : pv.2.2.2.1.length ≤ 20) (h4 : pv.2.2.2.2.1.length ≤ 20) (h5 : pv.2.2.2.2.2.1.length ≤ 20) (h6 : pv.2.2.2.2.2.2.1.length ≤ 20) (h7 : pv.2.2.2.2.2.2.2.1.length ≤ 20) : SmR (rtS nm sy ifs dv pv) where
 i1 := h1
 i2 := Nat.zero_le _
 i3 := Nat.zero_le _
 i4 := Nat.zero_le _
 i5 := Nat.zero_le _
 i6 := Nat.zero_le _
 i7 := Nat.zero_le _
 i8 := Nat.zero_le _
 i9 := h2
 i10 := h3
 i11 := h4
 i12 := h5
 i13 := h6
 i14 := h7
 n1 := fun y hy => by cases hy
 n2 := fun y hy => by cases hy
 n3 := fun y hy => by cases hy
theorem zTW : zAM zAR where
 rs := by decide
 sm := fun y hy => by
  rcases List.mem_cons.1 hy with rfl | hy
  ·exact zVM (by decide) (by decide) (by decide) (by decide) (by decide) (by decide) (by decide)
  ·rcases List.mem_cons.1 hy with rfl | hy
   ·exact zVM (by decide) (by decide) (by decide) (by decide) (by decide) (by decide) (by decide)
   ·cases hy
 doms := by decide
 ends := fun d hd => by
  rcases List.mem_cons.1 hd with rfl | hd
  ·decide
  ·rcases List.mem_cons.1 hd with rfl | hd
   ·decide
   ·cases hd
 links := by decide
 link0 := fun l hl => by
  rcases List.mem_cons.1 hl with rfl | hl
  ·decide
  ·cases hl
 down := by decide
 down0 := fun l hl => by cases hl
theorem zYI (r i : Int) (e : Ty.El zK) (_ : upB zAR r i = true) (he : e ∈ xD zAR r i) : (0 : Int) ≤ e.1 ∧ (0 : Int) ≤ e.2.1 ∧ ∃ q y, zAR.1.1[Int.toNat e.1]? = some q ∧ q.2.2.1[Int.toNat e.2.1]? = some y := by
 unfold xD at he
 split at he
 ·rename_i d hd
  have hd := List.mem_of_getElem? hd
  rcases List.mem_cons.1 hd with rfl | hd
  ·rcases List.mem_cons.1 he with rfl | he
   ·exact ⟨by decide, by decide, _, _, rfl, rfl⟩
   ·rcases List.mem_cons.1 he with rfl | he
    ·exact ⟨by decide, by decide, _, _, rfl, rfl⟩
    ·cases he
  ·rcases List.mem_cons.1 hd with rfl | hd
   ·rcases List.mem_cons.1 he with rfl | he
    ·exact ⟨by decide, by decide, _, _, rfl, rfl⟩
    ·cases he
   ·cases hd
 ·cases he
theorem zYu : zG3 zAR 1 zYq = o17 := by kernel_rfl
theorem zY3 : uM (zAR, 1, ()) = some o17 := by
 refine wD ((kN zAR 1 zYq zTW rfl).mono (fun o ho => ?_))
 obtain ⟨_, h2, h3⟩ := ho
 have h4 : zBn (fun x : Ty.El zA => x.1) o17 o := by rw [← zYu]; exact h2
 have hp := zMJ h4
 have ha : o17.Pairwise (fun x y => x.1 ≠ y.1) := by
  refine List.pairwise_cons.2 ⟨fun y hy => ?_, List.pairwise_cons.2 ⟨(fun y hy => by cases hy), List.Pairwise.nil⟩⟩
  rcases List.mem_cons.1 hy with rfl | hy
  ·intro h
   exact absurd (congrArg Prod.fst h) (by decide)
  ·cases hy
 have hs : o17.Pairwise rlt := by
  refine List.pairwise_cons.2 ⟨fun y hy => ?_, List.pairwise_cons.2 ⟨(fun y hy => by cases hy), List.Pairwise.nil⟩⟩
  rcases List.mem_cons.1 hy with rfl | hy
  ·exact .inl (by decide)
  ·cases hy
 exact zAD zMg (zLg hp.symm h3 ha) hs (fun z => hp.symm.mem_iff)
theorem zXy : wY (zQD zAR [[], o17] [] 0 zV1) = t17 := by kernel_rfl
theorem zY0 : (zDC zAR [[], o17] 0 zV1).length = 2 := by kernel_rfl
theorem zXi : uL (zAR, [[], o17], [], 0, ()) = some t17 := by
 refine wD ((zBr zAR zTW zYI [[], o17] rfl ?_ [] (by decide) (fun x hx => by cases hx) 0 zV1 rfl ?_).mono (fun t ht => ?_))
 ·intro t ht
  rcases List.mem_cons.1 ht with rfl | ht
  ·decide
  ·rcases List.mem_cons.1 ht with rfl | ht
   ·decide
   ·cases ht
 ·have := zY0
  show (zDC zAR [[], o17] 0 zV1).length ≤ _
  omega
 ·rw [ht]; exact zXy
end Go.Ve
