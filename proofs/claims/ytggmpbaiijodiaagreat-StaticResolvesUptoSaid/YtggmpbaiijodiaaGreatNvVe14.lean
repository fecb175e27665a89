/-
  The evaluator over pure values, part 14: statements and functions.
-/
import Derived.Test.YtggmpbaiijodiaaGreatNvVe21
namespace Go.Ve
open Go

inductive X where
  | normal
  | exit (id : Nat)
  | ret

def X.toExit : X → Exit
  | .normal => .normal
  | .exit id => .exit id
  | .ret => .ret

def X.out (id : Nat) : X → X
  | .exit id' => if id' = id then .normal else .exit id'
  | x => x

section
variable {Γ : Sig} (P : Look) (G : Nat → Option (List V)) (S : Specs Γ)

inductive Ev : Code → Env Γ.St → X → Env Γ.St → Prop
  | skip (e) : Ev .skip e .normal e
  | seqN {x y : Code} {e e1 e2 : Env Γ.St} {k : X} : Ev x e .normal e1 → Ev y e1 k e2 → Ev (.seq x y) e k e2
  | seqX {x y : Code} {e e1 : Env Γ.St} {k : X} : Ev x e k e1 → k ≠ .normal → Ev (.seq x y) e k e1
  | condT {c : Operand} {x y : Code} {e e1 : Env Γ.St} {k : X} : evx G e c = .p (.val (.bool true)) → Ev x e k e1 → Ev (.cond c x y) e k e1
  | condF {c : Operand} {x y : Code} {e e1 : Env Γ.St} {k : X} : evx G e c = .p (.val (.bool false)) → Ev y e k e1 → Ev (.cond c x y) e k e1
  | block {id : Nat} {c : Code} {e e1 : Env Γ.St} {k : X} : Ev c e k e1 → Ev (.block id c) e (k.out id) e1
  | loop {c : Code} {e e1 : Env Γ.St} {k : X} (n : Nat) (es : Nat → Env Γ.St) : es 0 = e → (∀ i, i < n → Ev c (es i) .normal (es (i + 1))) → Ev c (es n) k e1 → k ≠ .normal → Ev (.loop c) e k e1
  | exit (id : Nat) (e) : Ev (.exit id) e (.exit id) e
  | ret (e) : Ev .ret e .ret e
  | seqR {id : Nat} {ops : Array Oper} {e e1 : Env Γ.St} : evSeq P G S ops ops.toList e = some e1 → Ev (.region id ops false) e .normal e1
  | drawR {id : Nat} {ops : Array Oper} {e e1 : Env Γ.St} : evDrawT P G S ops e = some e1 → Ev (.region id ops true) e .normal e1
end

section
variable {Γ : Sig} {P : Program} {G : Nat → Option (List V)} {S : Specs Γ} {w0 : World} {F0 O0 : Nat → Prop}

theorem wp_loop_n {c : Code} {Q : Exit → Act → World → Prop} (J : Nat → Act → World → Prop)
    (round : ∀ n a w, J n a w → c.wp P (Exit.then (fun a' w' => ∃ m, m < n ∧ J m a' w') Q) a w) {n : Nat} {a : Act} {w : World} (h0 : J n a w) : (Code.loop c).wp P Q a w := by
  intro b k cs
  have key : ∀ n a w, J n a w → ∃ e a' w', Q e a' w' ∧ Arrives P (lone (b.at a (.code c :: .inLoop c :: k)) cs w) b k cs e a' w' := by
    intro n
    induction n using Nat.strongRecOn with
    | _ n ih =>
      intro a w hJ
      obtain ⟨e, a₁, w₁, hq, harr⟩ := round n a w hJ b (.inLoop c :: k) cs
      cases e with
      | normal =>
        obtain ⟨m, hlt, hJ₁⟩ := hq
        obtain ⟨e₂, a₂, w₂, hq₂, harr₂⟩ := ih m hlt a₁ w₁ hJ₁
        exact ⟨e₂, a₂, w₂, hq₂, .of_steps (Steps.trans harr (.one step_inLoop)) harr₂⟩
      | exit id => exact ⟨_, a₁, w₁, hq, .pass (x := .inLoop c) rfl (fun _ _ => .inl (by simp)) harr⟩
      | goto l => exact ⟨_, a₁, w₁, hq, .pass (x := .inLoop c) rfl (fun _ _ => .inl (by simp)) harr⟩
      | ret => exact ⟨_, a₁, w₁, hq, .pass (x := .inLoop c) rfl (fun _ _ => .inl (by simp)) harr⟩
      | panic ch => exact ⟨_, a₁, w₁, hq, .pass (x := .inLoop c) rfl (fun _ _ => .inl (by simp)) harr⟩
      | outgrown => exact ⟨_, a₁, w₁, hq, .pass (x := .inLoop c) rfl (fun _ _ => .inl (by simp)) harr⟩
  obtain ⟨e, a', w', hq, harr⟩ := key n a w h0
  exact ⟨e, a', w', hq, .of_steps (.one step_loop) harr⟩

theorem ev_sim (hm : P.follows .mixedOrders = true) (hS : Table Γ P G S) {c : Code} {e e' : Env Γ.St} {k : X} (h : Ev P G S c e k e') : ∀ {a : Act} {w : World}, Inv Γ G w0 F0 O0 a w e →
    c.wp P (fun ex a' w' => ex = k.toExit ∧ Inv Γ G w0 F0 O0 a' w' e') a w := by
  induction h with
  | skip e => intro a w hi; exact wp_skip ⟨rfl, hi⟩
  | seqN h1 h2 ih1 ih2 =>
    intro a w hi
    refine wp_seq (wp_mono (ih1 hi) ?_)
    rintro ex a' w' ⟨rfl, hi'⟩
    exact ih2 hi'
  | seqX h1 hne ih1 =>
    rename_i x y e0 e1 k
    intro a w hi
    refine wp_seq (wp_mono (ih1 hi) ?_)
    rintro ex a' w' ⟨rfl, hi'⟩
    cases k with
    | normal => exact absurd rfl hne
    | exit id => exact ⟨rfl, hi'⟩
    | ret => exact ⟨rfl, hi'⟩
  | condT hc h1 ih1 =>
    rename_i c0 x0 y0 e0 e1 k0
    intro a w hi
    obtain ⟨F, O, β, hcr, hG, hsz, hdf, ht, hv⟩ := hi
    have h2 := evx_sim (e := e0) hG ht c0
    rw [hc] at h2
    exact wp_cond_true (Rd.eq_val h2) (ih1 ⟨F, O, β, hcr, hG, hsz, hdf, ht, hv⟩)
  | condF hc h1 ih1 =>
    rename_i c0 x0 y0 e0 e1 k0
    intro a w hi
    obtain ⟨F, O, β, hcr, hG, hsz, hdf, ht, hv⟩ := hi
    have h2 := evx_sim (e := e0) hG ht c0
    rw [hc] at h2
    exact wp_cond_false (Rd.eq_val h2) (ih1 ⟨F, O, β, hcr, hG, hsz, hdf, ht, hv⟩)
  | block h1 ih1 =>
    rename_i id c e0 e1 k
    intro a w hi
    refine wp_block (wp_mono (ih1 hi) ?_)
    rintro ex a' w' ⟨rfl, hi'⟩
    cases k with
    | normal => exact ⟨rfl, hi'⟩
    | exit id' =>
      simp only [X.toExit, Exit.inBlock, X.out]
      split
      · exact ⟨rfl, hi'⟩
      · exact ⟨rfl, hi'⟩
    | ret => exact ⟨rfl, hi'⟩
  | loop n es h0 h1 h2 hne ih1 ih2 =>
    rename_i c e0 e1 k
    intro a w hi
    refine wp_loop_n (fun j a w => ∃ i, i + j = n ∧ Inv Γ G w0 F0 O0 a w (es i)) ?_ (n := n) ⟨0, by omega, by rw [h0]; exact hi⟩
    rintro j a w ⟨i, hij, hi'⟩
    by_cases hlt : i < n
    · refine wp_mono (ih1 i hlt hi') ?_
      rintro ex a' w' ⟨rfl, hi''⟩
      exact ⟨j - 1, by omega, i + 1, by omega, hi''⟩
    · obtain rfl : i = n := by omega
      refine wp_mono (ih2 hi') ?_
      rintro ex a' w' ⟨rfl, hi''⟩
      cases k with
      | normal => exact absurd rfl hne
      | exit id => exact ⟨rfl, hi''⟩
      | ret => exact ⟨rfl, hi''⟩
  | exit id e => intro a w hi; exact wp_exit ⟨rfl, hi⟩
  | ret e => intro a w hi; exact wp_ret ⟨rfl, hi⟩
  | seqR hev =>
    rename_i id ops e0 e1
    intro a w hi
    refine wp_region ?_
    have := seq_ops (Q := fun ex a' w' => ex = X.toExit .normal ∧ Inv Γ G w0 F0 O0 a' w' e1) ops 0 ops.toList e0 e1 a w (by simp) (seqR_of hS hev) hi (fun a w h => ⟨rfl, h⟩)
    simpa [List.range_eq_range'] using this
  | drawR hev =>
    intro a w hi
    exact drawT_sim hm hS hi hev (fun a w h => ⟨rfl, h⟩)
end
end Go.Ve
