/-
  The bridge, part 2: from a contract over typed data to what a law's row asks of a call.
-/
import Derived.ChangeSame
import Derived.Below
import Derived.Carry
import Derived.Test.YthhmapljcdohnaaGreatCs15
import Derived.Test.YthhmapljcdohnaaGreatCs12
set_option linter.unusedVariables false
set_option linter.unusedSimpArgs false
namespace Go.Ve
open Go Go.RowKit

def fitsS (N : Nat) : (ts : List Ty) → ElS ts → Prop
  | [], _ => True
  | t :: ts, x => t.fits N x.1 ∧ fitsS N ts x.2

section
variable {H : Type} {enc : TypeId × Value → H} {P : Program} {w : World} {sp : Nat → Bool} {held : Bool} {bk : DataW H → Nat}

/-- A value by its cells. -/
theorem value_typed {n : Nat} {t : TypeId} {ty : Ty} {v : Value} {x : ty.El} {F : Blk → Prop} {base : Nat} (hc : tyChk P n t = true) (hty : tyOf P n t = some ty) (hok : Value.okWide P w .any base t v)
    (h : CR w F v.cells.toList ty x) : Rd w F v (ty.enc x) := by
  cases n with
  | zero => simp [tyChk] at hc
  | succ n =>
    simp only [tyOf] at hty
    simp only [tyChk] at hc
    unfold Value.okWide at hok
    have hone : ty.cells x = [ty.enc x] → (∀ cs, v ≠ .agg cs) → Rd w F v (ty.enc x) := by
      intro h1 h2
      have hvc : v.cells = #[v] := by cases v <;> first | rfl | exact absurd rfl (h2 _)
      have h3 := h.2
      rw [hvc] at h3
      exact h3 0 v (ty.enc x) rfl (by rw [h1]; rfl)
    cases hu : P.underlying t with
    | none => grind
    | some td =>
      rw [hu] at hty hc hok
      have hnoagg : ∀ (hs : ty.cells x = [ty.enc x]), ∀ cs, v = .agg cs → ∃ u, cs.toList = [u] := by
        intro hs cs hv
        subst hv
        have := h.1
        rw [← cells_len ty x, hs] at this
        simp only [Value.cells, List.length_singleton] at this
        match hcs : cs.toList, this with
        | [u], _ => grind
      cases td with
      | struct fs =>
        obtain ⟨cs, rfl, _, _⟩ := hok
        simp only [Value.cells] at h
        have hagg : ∀ (fs : List Field) (ty : Ty), fs.foldr (fun f acc => match tyOf P n f.type, acc with
            | some a, some b => some (Ty.pair a b)
            | _, _ => none) (some .unit) = some ty → ∀ x : ty.El, ty.enc x = .agg (ty.cells x) := by
          intro fs ty hh x
          cases fs with
          | nil => cases hh; rfl
          | cons f fs =>
            simp at hh
            split at hh
            · cases hh; rfl
            · cases hh
        rw [hagg fs.toList ty hty x]
        refine .agg cs _ ?_ ?_
        · have := h.1; grind [cells_len]
        · intro i v d hv hd
          exact h.2 i v d (by simpa using hv) hd
      | bool =>
        cases hty
        refine hone rfl ?_
        rintro cs rfl
        simp [Cell.okWide, Cell.ok] at hok
      | int k =>
        cases hty
        refine hone rfl ?_
        rintro cs rfl
        simp [Cell.okWide, Cell.ok] at hok
      | string =>
        cases hty
        refine hone rfl ?_
        rintro cs rfl
        simp [Cell.okWide, Cell.ok] at hok
      | slice el =>
        simp only at hty
        split at hty
        · cases hty
          refine hone rfl ?_
          rintro cs rfl
          simp [Cell.okWide, Cell.ok] at hok
        · cases hty
      | array m el => cases hc
      | _ => cases hty

theorem trodAll_typed (hbk : Bulk bk) {N base : Nat} : ∀ (pts : List TypeId) (tys : List Ty) (vs : List Value) (ds : List (DataW H)) (ps : List MemPlace), (∀ t ∈ pts, tyChk P 12 t = true) → pts.mapM (tyOf P 12) = some tys →
    DataW.TrodAll enc P w 0 sp held pts vs ds ps → (∀ (j : Nat) t v, pts[j]? = some t → vs[j]? = some v → Value.okWide P w .any base t v) → (∀ d ∈ ds, bk d ≤ N) →
    ∃ x : ElS tys, vs.length = (encS tys x).length ∧ (∀ (i : Nat) (v : Value) (d : V), vs[i]? = some v → (encS tys x)[i]? = some d → Rd w (oldB w.heap.size) v d) ∧ fitsS N tys x := by
  intro pts
  induction pts with
  | nil =>
    intro tys vs ds ps _ hty h _ _
    simp at hty
    subst hty
    match vs, ds, h with
    | [], [], _ => exact ⟨(), rfl, fun i v d h => by simp at h, trivial⟩
  | cons t pts ih =>
    intro tys vs ds ps hc hty h hok hN
    rw [List.mapM_cons] at hty
    simp [Option.bind_eq_some_iff] at hty
    obtain ⟨ty, h1, tys', h2, rfl⟩ := hty
    match vs, ds, h with
    | v :: vs, d :: ds, h =>
      obtain ⟨p, q, ⟨fuel, ht⟩, hr, rfl⟩ := h
      obtain ⟨x, hx, hf⟩ := trod_typed hbk 12 t ty fuel _ d p (hc t (by simp)) h1 ht
      obtain ⟨xs, g1, g2, g3⟩ := ih tys' vs ds q (fun t ht => hc t (List.mem_cons_of_mem _ ht)) h2 hr (fun j t v ht hv => hok (j + 1) t v (by simpa using ht) (by simpa using hv)) (fun d hd => hN d (List.mem_cons_of_mem _ hd))
      refine ⟨(x, xs), by simp [encS, g1], ?_, fits_mono (hN d (by simp)) _ _ hf, g3⟩
      intro i u dd hu hd
      cases i with
      | zero =>
        simp [encS] at hu hd
        subst hu hd
        exact value_typed (hc t (by simp)) h1 (hok 0 t v rfl rfl) hx
      | succ i => grind [encS]

theorem trodAll_stays (hl : laidOutB P = true) {W W' : World} (hb : Below W.heap.size W W') {sp' : Nat → Bool} : ∀ (pts : List TypeId) (vs : List Value) (ds : List (DataW H)) (ps : List MemPlace),
    (∀ t ∈ pts, P.readableRec t = true ∧ t < P.types.size) → DataW.TrodAll enc P W 0 (fun _ => true) true pts vs ds ps → (∀ p ∈ ps, p.block < W.heap.size ∧ sp' p.block = true) →
    DataW.TrodAll enc P W' 0 sp' true pts vs ds ps := by
  intro pts
  induction pts with
  | nil => intro vs ds ps _ h _; match vs, ds, h with | [], [], h => exact h
  | cons t pts ih =>
    intro vs ds ps hr h hp
    match vs, ds, h with
    | v :: vs, d :: ds, h =>
      obtain ⟨p, q, ht, hq, rfl⟩ := h
      refine ⟨p, q, ?_, ih vs ds q (fun t ht => hr t (List.mem_cons_of_mem _ ht)) hq (fun x hx => hp x (by simp [hx])), rfl⟩
      exact WideElems.Trod_stays hl (hr t (by simp)).1 (hr t (by simp)).2 ht (fun x hx => hb.same (hp x (by simp [hx])).1) (fun x hx => (hp x (by simp [hx])).2)

/-- A law over typed data: it answers true and leaves its arguments as they were. -/
theorem law_contract {f : FuncId} {fn : Func} {s : ChangeSpec} {tys : List Ty} {g : ElS tys → Option (RTy.El (.p .bool))} (hl : laidOutB P = true) (hbk : Bulk bk) {N : Nat}
    (hc : ∀ t ∈ fn.params.toList, tyChk P 12 t = true ∧ P.readableRec t = true ∧ t < P.types.size) (hty : fn.params.toList.mapM (tyOf P 12) = some tys) (hvars : s.vars = [])
    (hspec : ∀ ds : List (DataW H), ds.length = fn.params.size → s.fn H ds = { results := [.lit (.bool true)], args := ds })
    {tb : TypeId} (hres : fn.resultTypes = #[tb]) (htb : P.underlying tb = some .bool)
    (hg : ∀ x : ElS tys, fitsS N tys x → g x = some true)
    (hfn : FnOk unitSig P (fun _ => none) f (callS (specX tys (.p .bool) g)))
    {W : World} {base : Nat} {args : Array Value} {ds gs : List (DataW H)} {before : List MemPlace}
    (hval : ∀ (j : Nat) t v, fn.params[j]? = some t → args[j]? = some v → Value.okWide P W .any base t v)
    (hW : DataW.Whole enc P fn.params.toList s.vars false W args.toList ds gs before) (hN : ∀ d ∈ ds, bk d ≤ N) :
    Calls P f args W fun e W' => ∃ v, e = .returned v ∧ s.post enc P fn false true false false W args v W' := by
  have hW0 := hW
  obtain ⟨p, q, hA, hV, rfl, hfz, hnd⟩ := hW
  have hVn : gs = [] ∧ q = [] := by
    rw [hvars] at hV
    match gs, hV with
    | [], hV => exact ⟨rfl, hV⟩
  obtain ⟨rfl, rfl⟩ := hVn
  simp at hW0
  obtain ⟨x, hx1, hx2, hx3⟩ := trodAll_typed (w := W) hbk fn.params.toList tys args.toList ds p (fun t ht => (hc t ht).1) hty hA (fun j t v ht hv => hval j t v (by simpa using ht) (by simpa using hv)) hN
  have hds : ds.length = fn.params.size := by
    have hlen : ∀ (ts : List TypeId) (vs : List Value) (ds : List (DataW H)) (ps : List MemPlace), DataW.TrodAll enc P W 0 (fun _ => true) true ts vs ds ps → ds.length = ts.length := by
      intro ts
      induction ts with
      | nil => intro vs ds ps h; match vs, ds, h with | [], [], _ => rfl
      | cons t ts ih =>
        intro vs ds ps h
        match vs, ds, h with
        | v :: vs, d :: ds, h => obtain ⟨_, q, _, hq, _⟩ := h; grind
    grind
  have hsp : callS (Γ := unitSig) (specX tys (.p .bool) g) () (encS tys x) = some ((), .p (.val (.bool true))) := by
    simp [callS, specX, specG, decS_enc]
    rw [hg x hx3]
    rfl
  have hcall := hfn W (oldB W.heap.size) (fun _ => False) () args (encS tys x) () (.p (.val (.bool true))) ⟨fun b hb => hb, fun _ _ _ h => h, fun _ h => h⟩ (fun g cs hg => by cases hg) (fun b hb => ⟨hb, fun h => h⟩)
    (by omega) (fun i v d hv hd => hx2 i v d (by simpa using hv) hd) hsp
  refine hcall.mono ?_
  rintro e W' ⟨v, F', O', rfl, _, hk, _, _, _, hret⟩
  have hv : v = .bool true := Rd.eq_val hret
  subst hv
  refine ⟨_, rfl, ?_⟩
  have hb : Below W.heap.size W W' := ⟨hk.os, hk.tape, hk.output, hk.size, fun b hb => hk.block b hb (fun h => h)⟩
  have hlt : ∀ x ∈ p, x.block < W.heap.size := fun x hx => by
    have := hW0.lt x hx; exact this
  have hargs : ∀ sp' : Nat → Bool, (∀ x ∈ p, sp' x.block = true) → DataW.TrodAll enc P W' 0 sp' true fn.params.toList args.toList ds p := fun sp' hs =>
    trodAll_stays hl hb fn.params.toList args.toList ds p (fun t ht => (hc t ht).2) hA (fun x hx => ⟨hlt x hx, hs x hx⟩)
  have hfnn := hspec (ds ++ []) (by simpa using hds)
  refine ⟨ds, [], p, [], p, [], hW0, ?_, ?_, ?_, World.keptBut_mono (fun x hx => ⟨hx, .inr (.inl hx)⟩) (hb.frame (· ∈ p)), fun h => by cases h⟩
  · rw [hfnn, hres]
    refine ⟨[], [], ⟨1, ?_⟩, rfl, rfl⟩
    simp [DataW.trod, htb, Value.cells]
  · grind
  · rw [hvars, hfnn]; rfl
end
end Go.Ve
