/-
  Functions out of code: sorting, for any elements and any comparison.
  Plain laws: ranges swapped and rotated: the walks.
  Plain laws: stable merging in place: what the steps keep.
  Plain laws: stable merging in place: the walk.
  Plain laws: stable sorting, for any elements and any comparison that goes by a key.
  Plain laws: merging by prefix, as the program does it: what merging depends on.
  Plain laws: a sorted list without its repetitions.
  The sorting of routes is the one that is proved for any elements.
-/
import Derived.Test.YtcnlcmbchljpgaaGreatQf10
import Derived.Test.YtcnlcmbchljpgaaGreatQf13
import Derived.Test.YtcnlcmbchljpgaaGreatQf12
import Derived.Test.YtcnlcmbchljpgaaGreatQf11
set_option linter.unusedVariables false
namespace Go.Ve
open Go
set_option maxRecDepth 1000000
set_option linter.unusedVariables false
noncomputable def yL {α : Type} (cmp : α × α × Unit → Option Int) : List α → (Int × Int × Unit × Unit) → Option (List α × Unit) := fun a0 x => match x with
 | (a1, a2, (), ()) =>
  zO
   (fun (s157 : Int × List (α)) =>
    bif decide (s157.1 < a2) then
     Option.bind
      (zO
       (fun (s158 : Int × List (α)) =>
        Option.bind
         (bif decide (s158.1 > a1) then
          Option.bind (idx s158.2 s158.1) fun (y159 : α) =>
           Option.bind (atN s158.2 (Int.toNat s158.1)) fun (y160 : α) =>
            Option.bind (idx s158.2 (IntKind.wrap IntKind.i64 (s158.1 - (1 : Int)))) fun (y161 : α) =>
             Option.bind (atN s158.2 (Int.toNat (IntKind.wrap IntKind.i64 (s158.1 - (1 : Int))))) fun (y162 : α) =>
              Option.bind (cmp (y160, y162, ())) fun (y163 : Int) => some (decide (y163 < (0 : Int)), s158.2)
         else some (false, s158.2))
         fun (s164 : Bool × List (α)) =>
         bif s164.1 then
          Option.bind (idx s164.2 (IntKind.wrap IntKind.i64 (s158.1 - (1 : Int)))) fun (y165 : α) =>
           Option.bind (atN s164.2 (Int.toNat (IntKind.wrap IntKind.i64 (s158.1 - (1 : Int))))) fun (y166 : α) =>
            Option.bind (idx s164.2 s158.1) fun (y167 : α) =>
             Option.bind (atN s164.2 (Int.toNat s158.1)) fun (y168 : α) =>
              Option.bind (idx s164.2 s158.1) fun (y169 : α) =>
               Option.bind (atN s164.2 (Int.toNat s158.1)) fun (y170 : α) =>
                Option.bind (idx (List.set s164.2 (Int.toNat s158.1) y166) (IntKind.wrap IntKind.i64 (s158.1 - (1 : Int)))) fun (y171 : α) =>
                 Option.bind (atN (List.set s164.2 (Int.toNat s158.1) y166) (Int.toNat (IntKind.wrap IntKind.i64 (s158.1 - (1 : Int)))))
                  fun (y172 : α) =>
                  some
                   (Sum.inl
                    (IntKind.wrap IntKind.i64 (s158.1 - (1 : Int)),
                     List.set (List.set s164.2 (Int.toNat s158.1) y166) (Int.toNat (IntKind.wrap IntKind.i64 (s158.1 - (1 : Int)))) y168))
         else some (Sum.inr s164.2))
       s157)
      fun (s173 : List (α)) => some (Sum.inl (IntKind.wrap IntKind.i64 (s157.1 + (1 : Int)), s173))
    else Option.map (fun (r : List (α) × Unit) => Sum.inr r) (bif Nat.beq (List.length s157.2) (List.length a0) then some (s157.2, ()) else none))
   (IntKind.wrap IntKind.i64 (a1 + (1 : Int)), a0)
noncomputable def zCa {α : Type} (cmp : α × α × Unit → Option Int) : List α → (Int × Int × Int × Unit × Unit) → Option (List α × Unit) := fun a0 x => match x with
 | (a1, a2, a3, (), ()) =>
  zO
   (fun (s17 : Int × List (α)) =>
    bif decide (s17.1 < a3) then
     Option.bind (idx s17.2 (IntKind.wrap IntKind.i64 (a2 + s17.1))) fun (y18 : α) =>
      Option.bind (atN s17.2 (Int.toNat (IntKind.wrap IntKind.i64 (a2 + s17.1)))) fun (y19 : α) =>
       Option.bind (idx s17.2 (IntKind.wrap IntKind.i64 (a1 + s17.1))) fun (y20 : α) =>
        Option.bind (atN s17.2 (Int.toNat (IntKind.wrap IntKind.i64 (a1 + s17.1)))) fun (y21 : α) =>
         Option.bind (idx s17.2 (IntKind.wrap IntKind.i64 (a1 + s17.1))) fun (y22 : α) =>
          Option.bind (atN s17.2 (Int.toNat (IntKind.wrap IntKind.i64 (a1 + s17.1)))) fun (y23 : α) =>
           Option.bind (idx (List.set s17.2 (Int.toNat (IntKind.wrap IntKind.i64 (a1 + s17.1))) y19) (IntKind.wrap IntKind.i64 (a2 + s17.1)))
            fun (y24 : α) =>
            Option.bind (atN (List.set s17.2 (Int.toNat (IntKind.wrap IntKind.i64 (a1 + s17.1))) y19) (Int.toNat (IntKind.wrap IntKind.i64 (a2 + s17.1))))
             fun (y25 : α) =>
             some
              (Sum.inl
               (IntKind.wrap IntKind.i64 (s17.1 + (1 : Int)),
                List.set (List.set s17.2 (Int.toNat (IntKind.wrap IntKind.i64 (a1 + s17.1))) y19) (Int.toNat (IntKind.wrap IntKind.i64 (a2 + s17.1))) y21))
    else Option.map (fun (r : List (α) × Unit) => Sum.inr r) (bif Nat.beq (List.length s17.2) (List.length a0) then some (s17.2, ()) else none))
   ((0 : Int), a0)
noncomputable def zOz {α : Type} (cmp : α × α × Unit → Option Int) : List α → (Int × Int × Int × Unit × Unit) → Option (List α × Unit) := fun a0 x => match x with
 | (a1, a2, a3, (), ()) =>
  Option.bind
   (zO
    (fun (s6 : Int × Int × List (α)) =>
     bif s6.1 != s6.2.1 then
      bif decide (s6.1 > s6.2.1) then
       bif Nat.beq (List.length s6.2.2) (List.length s6.2.2) then
        Option.bind (zCa cmp s6.2.2 (IntKind.wrap IntKind.i64 (a2 - s6.1), a2, s6.2.1, (), ())) fun (y7 : List (α) × Unit) =>
         some (Sum.inl (IntKind.wrap IntKind.i64 (s6.1 - s6.2.1), s6.2.1, y7.1))
       else none
      else
       bif Nat.beq (List.length s6.2.2) (List.length s6.2.2) then
        Option.bind
         (zCa cmp s6.2.2
          (IntKind.wrap IntKind.i64 (a2 - s6.1), IntKind.wrap IntKind.i64 (IntKind.wrap IntKind.i64 (a2 + s6.2.1) - s6.1), s6.1, (), ()))
         fun (y8 : List (α) × Unit) => some (Sum.inl (s6.1, IntKind.wrap IntKind.i64 (s6.2.1 - s6.1), y8.1))
       else none
     else some (Sum.inr (s6.2.2, s6.1)))
    (IntKind.wrap IntKind.i64 (a2 - a1), IntKind.wrap IntKind.i64 (a3 - a2), a0))
   fun (s9 : List (α) × Int) =>
   bif Nat.beq (List.length s9.1) (List.length s9.1) then
    Option.bind (zCa cmp s9.1 (IntKind.wrap IntKind.i64 (a2 - s9.2), a2, s9.2, (), ())) fun (y10 : List (α) × Unit) =>
     bif Nat.beq (List.length y10.1) (List.length a0) then some (y10.1, ()) else none
   else none
noncomputable def zFd {α : Type} (cmp : α × α × Unit → Option Int) (self : List α → (Int × Int × Int × Unit × Unit) → Option (List α × Unit)) : List α → (Int × Int × Int × Unit × Unit) → Option (List α × Unit) := fun a0 x => match x with
 | (a1, a2, a3, (), ()) =>
  qQ
   (bif IntKind.wrap IntKind.i64 (a2 - a1) == (1 : Int) then
    Option.bind
     (zO
      (fun (s50 : Int × Int × List (α)) =>
       bif decide (s50.1 < s50.2.1) then
        Option.bind
         (idx s50.2.2
          (IntKind.wrap IntKind.i64
           (Int.fdiv (IntKind.wrap IntKind.u64 (IntKind.wrap IntKind.i64 (s50.1 + s50.2.1))) ((2 : Int) ^ min (Int.toNat (1 : Int)) (IntKind.bits IntKind.u64)))))
         fun (y51 : α) =>
         Option.bind
          (atN s50.2.2
           (Int.toNat
            (IntKind.wrap IntKind.i64
             (Int.fdiv (IntKind.wrap IntKind.u64 (IntKind.wrap IntKind.i64 (s50.1 + s50.2.1))) ((2 : Int) ^ min (Int.toNat (1 : Int)) (IntKind.bits IntKind.u64))))))
          fun (y52 : α) =>
          Option.bind (idx s50.2.2 a1) fun (y53 : α) =>
           Option.bind (atN s50.2.2 (Int.toNat a1)) fun (y54 : α) =>
            Option.bind (cmp (y52, y54, ())) fun (y55 : Int) =>
             bif decide (y55 < (0 : Int)) then
              some
               (Sum.inl
                (IntKind.wrap IntKind.i64
                  (IntKind.wrap IntKind.i64
                    (Int.fdiv (IntKind.wrap IntKind.u64 (IntKind.wrap IntKind.i64 (s50.1 + s50.2.1)))
                     ((2 : Int) ^ min (Int.toNat (1 : Int)) (IntKind.bits IntKind.u64))) +
                   (1 : Int)),
                 s50.2))
             else
              some
               (Sum.inl
                (s50.1,
                 IntKind.wrap IntKind.i64
                  (Int.fdiv (IntKind.wrap IntKind.u64 (IntKind.wrap IntKind.i64 (s50.1 + s50.2.1)))
                   ((2 : Int) ^ min (Int.toNat (1 : Int)) (IntKind.bits IntKind.u64))),
                 s50.2.2))
       else some (Sum.inr (s50.1, s50.2.2)))
      (a2, a3, a0))
     fun (s56 : Int × List (α)) =>
     zO
      (fun (s57 : Int × List (α)) =>
       bif decide (s57.1 < IntKind.wrap IntKind.i64 (s56.1 - (1 : Int))) then
        Option.bind (idx s57.2 (IntKind.wrap IntKind.i64 (s57.1 + (1 : Int)))) fun (y58 : α) =>
         Option.bind (atN s57.2 (Int.toNat (IntKind.wrap IntKind.i64 (s57.1 + (1 : Int))))) fun (y59 : α) =>
          Option.bind (idx s57.2 s57.1) fun (y60 : α) =>
           Option.bind (atN s57.2 (Int.toNat s57.1)) fun (y61 : α) =>
            Option.bind (idx s57.2 s57.1) fun (y62 : α) =>
             Option.bind (atN s57.2 (Int.toNat s57.1)) fun (y63 : α) =>
              Option.bind (idx (List.set s57.2 (Int.toNat s57.1) y59) (IntKind.wrap IntKind.i64 (s57.1 + (1 : Int)))) fun (y64 : α) =>
               Option.bind (atN (List.set s57.2 (Int.toNat s57.1) y59) (Int.toNat (IntKind.wrap IntKind.i64 (s57.1 + (1 : Int))))) fun (y65 : α) =>
                some
                 (Sum.inl
                  (IntKind.wrap IntKind.i64 (s57.1 + (1 : Int)),
                   List.set (List.set s57.2 (Int.toNat s57.1) y59) (Int.toNat (IntKind.wrap IntKind.i64 (s57.1 + (1 : Int)))) y61))
       else
        Option.map (fun (r : List (α) ⊕ List (α) × Unit) => Sum.inr r)
         (Option.map (fun (r : List (α) × Unit) => Sum.inr r) (bif Nat.beq (List.length s57.2) (List.length a0) then some (s57.2, ()) else none)))
      (a1, s56.2)
   else some (Sum.inl a0))
   fun (s66 : List (α)) =>
   qQ
    (bif IntKind.wrap IntKind.i64 (a3 - a2) == (1 : Int) then
     Option.bind
      (zO
       (fun (s117 : Int × Int × List (α)) =>
        bif decide (s117.1 < s117.2.1) then
         Option.bind (idx s117.2.2 a2) fun (y118 : α) =>
          Option.bind (atN s117.2.2 (Int.toNat a2)) fun (y119 : α) =>
           Option.bind
            (idx s117.2.2
             (IntKind.wrap IntKind.i64
              (Int.fdiv (IntKind.wrap IntKind.u64 (IntKind.wrap IntKind.i64 (s117.1 + s117.2.1)))
               ((2 : Int) ^ min (Int.toNat (1 : Int)) (IntKind.bits IntKind.u64)))))
            fun (y120 : α) =>
            Option.bind
             (atN s117.2.2
              (Int.toNat
               (IntKind.wrap IntKind.i64
                (Int.fdiv (IntKind.wrap IntKind.u64 (IntKind.wrap IntKind.i64 (s117.1 + s117.2.1)))
                 ((2 : Int) ^ min (Int.toNat (1 : Int)) (IntKind.bits IntKind.u64))))))
             fun (y121 : α) =>
             Option.bind (cmp (y119, y121, ())) fun (y122 : Int) =>
              bif !decide (y122 < (0 : Int)) then
               some
                (Sum.inl
                 (IntKind.wrap IntKind.i64
                   (IntKind.wrap IntKind.i64
                     (Int.fdiv (IntKind.wrap IntKind.u64 (IntKind.wrap IntKind.i64 (s117.1 + s117.2.1)))
                      ((2 : Int) ^ min (Int.toNat (1 : Int)) (IntKind.bits IntKind.u64))) +
                    (1 : Int)),
                  s117.2))
              else
               some
                (Sum.inl
                 (s117.1,
                  IntKind.wrap IntKind.i64
                   (Int.fdiv (IntKind.wrap IntKind.u64 (IntKind.wrap IntKind.i64 (s117.1 + s117.2.1)))
                    ((2 : Int) ^ min (Int.toNat (1 : Int)) (IntKind.bits IntKind.u64))),
                  s117.2.2))
        else some (Sum.inr (s117.1, s117.2.2)))
       (a1, a2, s66))
      fun (s123 : Int × List (α)) =>
      zO
       (fun (s124 : Int × List (α)) =>
        bif decide (s124.1 > s123.1) then
         Option.bind (idx s124.2 (IntKind.wrap IntKind.i64 (s124.1 - (1 : Int)))) fun (y125 : α) =>
          Option.bind (atN s124.2 (Int.toNat (IntKind.wrap IntKind.i64 (s124.1 - (1 : Int))))) fun (y126 : α) =>
           Option.bind (idx s124.2 s124.1) fun (y127 : α) =>
            Option.bind (atN s124.2 (Int.toNat s124.1)) fun (y128 : α) =>
             Option.bind (idx s124.2 s124.1) fun (y129 : α) =>
              Option.bind (atN s124.2 (Int.toNat s124.1)) fun (y130 : α) =>
               Option.bind (idx (List.set s124.2 (Int.toNat s124.1) y126) (IntKind.wrap IntKind.i64 (s124.1 - (1 : Int)))) fun (y131 : α) =>
                Option.bind (atN (List.set s124.2 (Int.toNat s124.1) y126) (Int.toNat (IntKind.wrap IntKind.i64 (s124.1 - (1 : Int)))))
                 fun (y132 : α) =>
                 some
                  (Sum.inl
                   (IntKind.wrap IntKind.i64 (s124.1 - (1 : Int)),
                    List.set (List.set s124.2 (Int.toNat s124.1) y126) (Int.toNat (IntKind.wrap IntKind.i64 (s124.1 - (1 : Int)))) y128))
        else
         Option.map (fun (r : List (α) ⊕ List (α) × Unit) => Sum.inr r)
          (Option.map (fun (r : List (α) × Unit) => Sum.inr r) (bif Nat.beq (List.length s124.2) (List.length a0) then some (s124.2, ()) else none)))
       (a2, s123.2)
    else some (Sum.inl s66))
    fun (s133 : List (α)) =>
    Option.bind
     (bif
       decide
        (a2 >
         IntKind.wrap IntKind.i64
          (Int.fdiv (IntKind.wrap IntKind.u64 (IntKind.wrap IntKind.i64 (a1 + a3))) ((2 : Int) ^ min (Int.toNat (1 : Int)) (IntKind.bits IntKind.u64)))) then
      some
       (IntKind.wrap IntKind.i64
         (IntKind.wrap IntKind.i64
           (IntKind.wrap IntKind.i64
             (Int.fdiv (IntKind.wrap IntKind.u64 (IntKind.wrap IntKind.i64 (a1 + a3))) ((2 : Int) ^ min (Int.toNat (1 : Int)) (IntKind.bits IntKind.u64))) +
            a2) -
          a3),
        IntKind.wrap IntKind.i64 (Int.fdiv (IntKind.wrap IntKind.u64 (IntKind.wrap IntKind.i64 (a1 + a3))) ((2 : Int) ^ min (Int.toNat (1 : Int)) (IntKind.bits IntKind.u64))),
        s133)
     else some (a1, a2, s133))
     fun (s134 : Int × Int × List (α)) =>
     Option.bind
      (zO
       (fun (s152 : Int × Int × List (α)) =>
        bif decide (s152.1 < s152.2.1) then
         Option.bind
          (idx s152.2.2
           (IntKind.wrap IntKind.i64
            (IntKind.wrap IntKind.i64
              (IntKind.wrap IntKind.i64
                (IntKind.wrap IntKind.i64
                  (Int.fdiv (IntKind.wrap IntKind.u64 (IntKind.wrap IntKind.i64 (a1 + a3))) ((2 : Int) ^ min (Int.toNat (1 : Int)) (IntKind.bits IntKind.u64))) +
                 a2) -
               (1 : Int)) -
             IntKind.wrap IntKind.i64
              (Int.fdiv (IntKind.wrap IntKind.u64 (IntKind.wrap IntKind.i64 (s152.1 + s152.2.1)))
               ((2 : Int) ^ min (Int.toNat (1 : Int)) (IntKind.bits IntKind.u64))))))
          fun (y153 : α) =>
          Option.bind
           (atN s152.2.2
            (Int.toNat
             (IntKind.wrap IntKind.i64
              (IntKind.wrap IntKind.i64
                (IntKind.wrap IntKind.i64
                  (IntKind.wrap IntKind.i64
                    (Int.fdiv (IntKind.wrap IntKind.u64 (IntKind.wrap IntKind.i64 (a1 + a3))) ((2 : Int) ^ min (Int.toNat (1 : Int)) (IntKind.bits IntKind.u64))) +
                   a2) -
                 (1 : Int)) -
               IntKind.wrap IntKind.i64
                (Int.fdiv (IntKind.wrap IntKind.u64 (IntKind.wrap IntKind.i64 (s152.1 + s152.2.1)))
                 ((2 : Int) ^ min (Int.toNat (1 : Int)) (IntKind.bits IntKind.u64)))))))
           fun (y154 : α) =>
           Option.bind
            (idx s152.2.2
             (IntKind.wrap IntKind.i64
              (Int.fdiv (IntKind.wrap IntKind.u64 (IntKind.wrap IntKind.i64 (s152.1 + s152.2.1)))
               ((2 : Int) ^ min (Int.toNat (1 : Int)) (IntKind.bits IntKind.u64)))))
            fun (y155 : α) =>
            Option.bind
             (atN s152.2.2
              (Int.toNat
               (IntKind.wrap IntKind.i64
                (Int.fdiv (IntKind.wrap IntKind.u64 (IntKind.wrap IntKind.i64 (s152.1 + s152.2.1)))
                 ((2 : Int) ^ min (Int.toNat (1 : Int)) (IntKind.bits IntKind.u64))))))
             fun (y156 : α) =>
             Option.bind (cmp (y154, y156, ())) fun (y157 : Int) =>
              bif !decide (y157 < (0 : Int)) then
               some
                (Sum.inl
                 (IntKind.wrap IntKind.i64
                   (IntKind.wrap IntKind.i64
                     (Int.fdiv (IntKind.wrap IntKind.u64 (IntKind.wrap IntKind.i64 (s152.1 + s152.2.1)))
                      ((2 : Int) ^ min (Int.toNat (1 : Int)) (IntKind.bits IntKind.u64))) +
                    (1 : Int)),
                  s152.2))
              else
               some
                (Sum.inl
                 (s152.1,
                  IntKind.wrap IntKind.i64
                   (Int.fdiv (IntKind.wrap IntKind.u64 (IntKind.wrap IntKind.i64 (s152.1 + s152.2.1)))
                    ((2 : Int) ^ min (Int.toNat (1 : Int)) (IntKind.bits IntKind.u64))),
                  s152.2.2))
        else some (Sum.inr (s152.1, s152.2.2)))
       s134)
      fun (s158 : Int × List (α)) =>
      Option.bind
       (Option.bind
        (bif decide (s158.1 < a2) then
         some
          (decide
            (a2 <
             IntKind.wrap IntKind.i64
              (IntKind.wrap IntKind.i64
                (IntKind.wrap IntKind.i64
                  (Int.fdiv (IntKind.wrap IntKind.u64 (IntKind.wrap IntKind.i64 (a1 + a3))) ((2 : Int) ^ min (Int.toNat (1 : Int)) (IntKind.bits IntKind.u64))) +
                 a2) -
               s158.1)),
           s158.2)
        else some (false, s158.2))
        fun (s161 : Bool × List (α)) =>
        bif s161.1 then
         bif Nat.beq (List.length s161.2) (List.length s161.2) then
          Option.bind
           (zOz cmp s161.2
            (s158.1, a2,
             IntKind.wrap IntKind.i64
              (IntKind.wrap IntKind.i64
                (IntKind.wrap IntKind.i64
                  (Int.fdiv (IntKind.wrap IntKind.u64 (IntKind.wrap IntKind.i64 (a1 + a3))) ((2 : Int) ^ min (Int.toNat (1 : Int)) (IntKind.bits IntKind.u64))) +
                 a2) -
               s158.1),
             (), ()))
           fun (y162 : List (α) × Unit) => some y162.1
         else none
        else some s161.2)
       fun (s163 : List (α)) =>
       Option.bind
        (Option.bind
         (bif decide (a1 < s158.1) then
          some
           (decide
             (s158.1 <
              IntKind.wrap IntKind.i64
               (Int.fdiv (IntKind.wrap IntKind.u64 (IntKind.wrap IntKind.i64 (a1 + a3))) ((2 : Int) ^ min (Int.toNat (1 : Int)) (IntKind.bits IntKind.u64)))),
            s163)
         else some (false, s163))
         fun (s166 : Bool × List (α)) =>
         bif s166.1 then
          bif Nat.beq (List.length s166.2) (List.length s166.2) then
           Option.bind
            (self s166.2
             (a1, s158.1,
              IntKind.wrap IntKind.i64
               (Int.fdiv (IntKind.wrap IntKind.u64 (IntKind.wrap IntKind.i64 (a1 + a3))) ((2 : Int) ^ min (Int.toNat (1 : Int)) (IntKind.bits IntKind.u64))),
              (), ()))
            fun (y167 : List (α) × Unit) => some y167.1
          else none
         else some s166.2)
        fun (s168 : List (α)) =>
        Option.bind
         (bif
           decide
            (IntKind.wrap IntKind.i64
              (Int.fdiv (IntKind.wrap IntKind.u64 (IntKind.wrap IntKind.i64 (a1 + a3))) ((2 : Int) ^ min (Int.toNat (1 : Int)) (IntKind.bits IntKind.u64))) <
             IntKind.wrap IntKind.i64
              (IntKind.wrap IntKind.i64
                (IntKind.wrap IntKind.i64
                  (Int.fdiv (IntKind.wrap IntKind.u64 (IntKind.wrap IntKind.i64 (a1 + a3))) ((2 : Int) ^ min (Int.toNat (1 : Int)) (IntKind.bits IntKind.u64))) +
                 a2) -
               s158.1)) then
          some
           (decide
             (IntKind.wrap IntKind.i64
               (IntKind.wrap IntKind.i64
                 (IntKind.wrap IntKind.i64
                   (Int.fdiv (IntKind.wrap IntKind.u64 (IntKind.wrap IntKind.i64 (a1 + a3))) ((2 : Int) ^ min (Int.toNat (1 : Int)) (IntKind.bits IntKind.u64))) +
                  a2) -
                s158.1) <
              a3),
            s168)
         else some (false, s168))
         fun (s169 : Bool × List (α)) =>
         bif s169.1 then
          bif Nat.beq (List.length s169.2) (List.length s169.2) then
           Option.bind
            (self s169.2
             (IntKind.wrap IntKind.i64
               (Int.fdiv (IntKind.wrap IntKind.u64 (IntKind.wrap IntKind.i64 (a1 + a3))) ((2 : Int) ^ min (Int.toNat (1 : Int)) (IntKind.bits IntKind.u64))),
              IntKind.wrap IntKind.i64
               (IntKind.wrap IntKind.i64
                 (IntKind.wrap IntKind.i64
                   (Int.fdiv (IntKind.wrap IntKind.u64 (IntKind.wrap IntKind.i64 (a1 + a3))) ((2 : Int) ^ min (Int.toNat (1 : Int)) (IntKind.bits IntKind.u64))) +
                  a2) -
                s158.1),
              a3, (), ()))
            fun (y170 : List (α) × Unit) => bif Nat.beq (List.length y170.1) (List.length a0) then some (y170.1, ()) else none
          else none
         else bif Nat.beq (List.length s169.2) (List.length a0) then some (s169.2, ()) else none
noncomputable def zAm {α : Type} (cmp : α × α × Unit → Option Int) : Nat → (List α → (Int × Int × Int × Unit × Unit) → Option (List α × Unit))
 | 0 => fun _ _ => none
 | n + 1 => zFd cmp (zAm cmp n)
noncomputable def zDm {α : Type} (cmp : α × α × Unit → Option Int) : List α → (Int × Int × Int × Unit × Unit) → Option (List α × Unit) := zAm cmp 1048576
noncomputable def zHS {α : Type} (cmp : α × α × Unit → Option Int) : List α → (Int × Unit × Unit) → Option (List α × Unit) := fun a0 x => match x with
 | (a1, (), ()) =>
  Option.bind
   (zO
    (fun (s4 : Int × List (α) × Int) =>
     bif decide (s4.1 ≤ a1) then
      bif Nat.beq (List.length s4.2.1) (List.length s4.2.1) then
       Option.bind (yL cmp s4.2.1 (s4.2.2, s4.1, (), ())) fun (y5 : List (α) × Unit) =>
        some (Sum.inl (IntKind.wrap IntKind.i64 (s4.1 + (20 : Int)), y5.1, s4.1))
      else none
     else some (Sum.inr s4.2))
    ((20 : Int), a0, (0 : Int)))
   fun (s6 : List (α) × Int) =>
   bif Nat.beq (List.length s6.1) (List.length s6.1) then
    Option.bind (yL cmp s6.1 (s6.2, a1, (), ())) fun (y7 : List (α) × Unit) =>
     zO
      (fun (s30 : Int × List (α)) =>
       bif decide (s30.1 < a1) then
        Option.bind
         (zO
          (fun (s31 : Int × List (α) × Int) =>
           bif decide (s31.1 ≤ a1) then
            bif Nat.beq (List.length s31.2.1) (List.length s31.2.1) then
             Option.bind (zDm cmp s31.2.1 (s31.2.2, IntKind.wrap IntKind.i64 (s31.2.2 + s30.1), s31.1, (), ()))
              fun (y32 : List (α) × Unit) =>
              some (Sum.inl (IntKind.wrap IntKind.i64 (s31.1 + IntKind.wrap IntKind.i64 ((2 : Int) * s30.1)), y32.1, s31.1))
            else none
           else some (Sum.inr (s31.2.2, s31.2.1)))
          (IntKind.wrap IntKind.i64 ((2 : Int) * s30.1), s30.2, (0 : Int)))
         fun (s33 : Int × List (α)) =>
         Option.bind
          (bif decide (IntKind.wrap IntKind.i64 (s33.1 + s30.1) < a1) then
           bif Nat.beq (List.length s33.2) (List.length s33.2) then
            Option.bind (zDm cmp s33.2 (s33.1, IntKind.wrap IntKind.i64 (s33.1 + s30.1), a1, (), ())) fun (y34 : List (α) × Unit) =>
             some y34.1
           else none
          else some s33.2)
          fun (s35 : List (α)) => some (Sum.inl (IntKind.wrap IntKind.i64 (s30.1 * (2 : Int)), s35))
       else Option.map (fun (r : List (α) × Unit) => Sum.inr r) (bif Nat.beq (List.length s30.2) (List.length a0) then some (s30.2, ()) else none))
      ((20 : Int), y7.1)
   else none
noncomputable def zCS {α : Type} (cmp : α × α × Unit → Option Int) : List α → (Unit × Unit) → Option (List α × Unit) := fun a0 x => match x with
 | ((), ()) =>
  bif Nat.beq (List.length a0) (List.length a0) && Nat.beq (List.length a0) (List.length a0) then
   Option.bind (zHS cmp a0 ((↑(List.length a0) : Int), (), ())) fun (y0 : List (α) × Unit) =>
    bif Nat.beq (List.length y0.1) (List.length a0) then some (y0.1, ()) else none
  else none
end Go.Ve

namespace Go.Ve
open Go
set_option maxRecDepth 1000000
set_option maxHeartbeats 4000000
section
variable {α : Type} {cmp : α × α × Unit → Option Int}
theorem zBE (xs : List α) (a b n : Nat) (hab : a + n ≤ b) (hb : b + n ≤ xs.length) (hl : xs.length < 4611686018427387904) :
  Wp (zCa cmp xs ((a : Int), (b : Int), (n : Int), (), ())) (fun r => r.1.length = xs.length ∧ ∀ k, r.1[k]? = swF a b n xs k) := by
 unfold zCa
 dsimp only
 refine wF (fun s : Int × List α => ∃ i : Nat, s.1 = (i : Int) ∧ i ≤ n ∧ s.2.length = xs.length ∧ ∀ k, s.2[k]? = swF a b i xs k) (fun s => ((n : Int) - s.1).toNat) ⟨0, rfl, Nat.zero_le _, rfl, fun k => zUh.symm⟩ ?_
 rintro ⟨s, zs⟩ ⟨i, hi, hin, hzl, hz⟩
 simp only at hi hzl hz
 subst hi
 refine zI (fun h => ?_) (fun h => ?_)
 ·have h : (i : Int) < (n : Int) := h
  have hx : zs[a + i]? = some (zs[a + i]'(by omega)) := by simp
  have hy : zs[b + i]? = some (zs[b + i]'(by omega)) := by simp
  have hy2 : (zs.set (a + i) (zs[b + i]'(by omega)))[b + i]? = some (zs[b + i]'(by omega)) := by rw [List.getElem?_set_ne (by omega)]; exact hy
  dsimp only
  rw [zD (x := (b : Int) + (i : Int)) (by omega) (by omega), zD (x := (a : Int) + (i : Int)) (by omega) (by omega), show ((b : Int) + (i : Int)) = ((b + i : Nat) : Int) by omega, show ((a : Int) + (i : Int)) = ((a + i : Nat) : Int) by omega]
  simp only [zM hx, zM hy, Int.toNat_natCast, wT hx, wT hy, Option.bind_some, zM hy2, wT hy2]
  refine zB (e2l ⟨⟨i + 1, ?_, by omega, by simp only [List.length_set]; exact hzl, zUi (by omega) (by omega) hzl hz hx hy⟩, ?_⟩)
  ·simp only; rw [zD (by omega) (by omega)]; omega
  ·simp only; rw [zD (by omega) (by omega)]; omega
 ·have h : ¬ (i : Int) < (n : Int) := h
  have : i = n := by omega
  subst this
  exact xO (zF (fun _ => zB (e2r ⟨hzl, hz⟩)) (fun h => absurd h (by simp only; rw [hzl, Nat.beq_refl]; decide)))
theorem zEp {xs ys : List α} (h : xs.length = ys.length) : Nat.beq xs.length ys.length = true := by rw [h]; exact Nat.beq_refl _
theorem zOr (xs : List α) (a m b : Nat) (ham : a < m) (hmb : m < b) (hb : b ≤ xs.length) (hl : xs.length < 4611686018427387904) :
  Wp (zOz cmp xs ((a : Int), (m : Int), (b : Int), (), ())) (fun r => r.1.length = xs.length ∧ ∀ k, r.1[k]? = uD a m b xs k) := by
 unfold zOz
 dsimp only
 rw [zD (x := (m : Int) - (a : Int)) (by omega) (by omega), zD (x := (b : Int) - (m : Int)) (by omega) (by omega)]
 refine zC ((show Wp _ (fun s : List α × Int => s.1.length = xs.length ∧ ∃ i : Nat, s.2 = (i : Int) ∧ 0 < i ∧ i ≤ m ∧ m + i ≤ b ∧ ∀ k, uD (m - i) m (m + i) s.1 k = uD a m b xs k) from ?_).mono ?_)
 ·refine wF (fun s : Int × Int × List α => s.2.2.length = xs.length ∧ ∃ i j : Nat, s.1 = (i : Int) ∧ s.2.1 = (j : Int) ∧ 0 < i ∧ 0 < j ∧ i ≤ m - a ∧ m + j ≤ b ∧ ∀ k, uD (m - i) m (m + j) s.2.2 k = uD a m b xs k) (fun s => (s.1 + s.2.1).toNat)
   ⟨rfl, m - a, b - m, by simp only; omega, by simp only; omega, by omega, by omega, by omega, by omega, fun k => by rw [show m - (m - a) = a by omega, show m + (b - m) = b by omega]⟩ ?_
  rintro ⟨si, sj, zs⟩ ⟨hzl, i, j, hi, hj, hi0, hj0, hia, hjb, hz⟩
  simp only at hi hj hzl hz
  subst hi hj
  refine zF (fun hne => ?_) (fun he => zB (e2r ⟨hzl, i, rfl, hi0, by omega, ?_, ?_⟩))
  ·have hne : ¬ (i : Int) = (j : Int) := by simpa using hne
   refine zI (fun hgt => ?_) (fun hgt => ?_)
   ·have hgt : (i : Int) > (j : Int) := hgt
    refine zF (fun _ => ?_) (fun h => absurd h (by rw [Nat.beq_refl]; decide))
    dsimp only
    rw [zD (x := (m : Int) - (i : Int)) (by omega) (by omega), zD (x := (i : Int) - (j : Int)) (by omega) (by omega), show ((m : Int) - (i : Int)) = ((m - i : Nat) : Int) by omega]
    refine zC ((zBE zs (m - i) m j (by omega) (by omega) (by omega)).mono (fun y hy => zB (e2l ⟨⟨hy.1.trans hzl, i - j, j, ?_, rfl, by omega, hj0, by omega, hjb, fun k => ?_⟩, ?_⟩)))
    ·simp only; omega
    ·rw [← hz k, ← zUx (lo := m - i) (m := m) (hi := m + j) (xs := zs) (zs := y.1) (by omega) (by omega) (by omega) (fun k => by rw [hy.2, show m + j - m = j by omega]) k, show m - (i - j) = m - i + (m + j - m) by omega]
    ·simp only; omega
   ·have hgt : ¬ (i : Int) > (j : Int) := hgt
    refine zF (fun _ => ?_) (fun h => absurd h (by rw [Nat.beq_refl]; decide))
    dsimp only
    rw [zD (x := (m : Int) - (i : Int)) (by omega) (by omega), zD (x := (m : Int) + (j : Int)) (by omega) (by omega), zD (x := (m : Int) + (j : Int) - (i : Int)) (by omega) (by omega), zD (x := (j : Int) - (i : Int)) (by omega) (by omega), show ((m : Int) - (i : Int)) = ((m - i : Nat) : Int) by omega, show ((m : Int) + (j : Int) - (i : Int)) = ((m + j - i : Nat) : Int) by omega]
    refine zC ((zBE zs (m - i) (m + j - i) i (by omega) (by omega) (by omega)).mono (fun y hy => zB (e2l ⟨⟨hy.1.trans hzl, i, j - i, rfl, ?_, hi0, by omega, hia, by omega, fun k => ?_⟩, ?_⟩)))
    ·simp only; omega
    ·rw [← hz k, ← zTg (lo := m - i) (m := m) (hi := m + j) (xs := zs) (zs := y.1) (by omega) (by omega) (by omega) (fun k => by rw [hy.2, show m - (m - i) = i by omega]) k, show m + (j - i) = m + j - (m - (m - i)) by omega]
    ·simp only; omega
  ·have he : (i : Int) = (j : Int) := by simpa using he
   omega
  ·have he : (i : Int) = (j : Int) := by simpa using he
   have : i = j := by omega
   subst this
   exact hz
 ·rintro ⟨zs, s⟩ ⟨hzl, i, hi, hi0, him, hmi, hz⟩
  simp only at hi hzl hz
  subst hi
  refine zF (fun _ => ?_) (fun h => absurd h (by rw [Nat.beq_refl]; decide))
  dsimp only
  rw [zD (x := (m : Int) - (i : Int)) (by omega) (by omega), show ((m : Int) - (i : Int)) = ((m - i : Nat) : Int) by omega]
  refine zC ((zBE zs (m - i) m i (by omega) (by omega) (by omega)).mono (fun y hy => ?_))
  refine zF (fun _ => zB ⟨hy.1.trans hzl, fun k => ?_⟩) (fun h => absurd h (by rw [zEp (hy.1.trans hzl)]; decide))
  rw [← hz k]
  exact zUy (lo := m - i) (m := m) (hi := m + i) (by omega) (by omega) (by omega) (fun k => by rw [hy.2, show m - (m - i) = i by omega]) k
end
end Go.Ve

namespace Go.Ve
open Go
set_option maxHeartbeats 4000000
section
variable {α κ : Type} {lt : α → α → Prop} {key : α → κ}
structure zKs (lt : α → α → Prop) (key : α → κ) : Prop where
 ord : Ord lt
 ne : ∀ x y, lt x y → key x ≠ key y
open Classical in
noncomputable def zIE (key : α → κ) (p : κ) (xs : List α) : List α := xs.filter (fun x => decide (key x = p))
def zA5 (key : α → κ) (xs ys : List α) : Prop := ∀ p, zIE key p xs = zIE key p ys
theorem zA5.refl (xs : List α) : zA5 key xs xs := fun _ => rfl
theorem zA5.trans {xs ys zs : List α} (h1 : zA5 key xs ys) (h2 : zA5 key ys zs) : zA5 key xs zs := fun p => (h1 p).trans (h2 p)
theorem zQt (p : κ) (xs ys : List α) : zIE key p (xs ++ ys) = zIE key p xs ++ zIE key p ys := List.filter_append ..
theorem zQs {p : κ} {xs : List α} (h : ∀ x, x ∈ xs → key x ≠ p) : zIE key p xs = [] := by
 unfold zIE
 rw [List.filter_eq_nil_iff]
 intro x hx
 simpa using h x hx
theorem zTb (hk : zKs lt key) {P U V S : List α} (h : ∀ x y, x ∈ U → y ∈ V → lt y x) : zA5 key (P ++ U ++ V ++ S) (P ++ V ++ U ++ S) := by
 intro p
 simp only [zQt]
 congr 1
 rw [List.append_assoc, List.append_assoc]
 congr 1
 by_cases hu : ∃ x, x ∈ U ∧ key x = p
 ·obtain ⟨x, hx, rfl⟩ := hu
  rw [zQs (xs := V) (fun y hy => hk.ne _ _ (h x y hx hy))]
  simp
 ·rw [zQs (xs := U) (fun x hx e => hu ⟨x, hx, e⟩)]
  simp
structure uP (key : α → κ) (a b : Nat) (xs ys : List α) : Prop where
 len : ys.length = xs.length
 out : ∀ k, k < a ∨ b ≤ k → ys[k]? = xs[k]?
 ins : ∀ q y, a ≤ q → q < b → ys[q]? = some y → ∃ q', a ≤ q' ∧ q' < b ∧ xs[q']? = some y
 same : zA5 key xs ys
theorem uP.refl (a b : Nat) (xs : List α) : uP key a b xs xs := ⟨rfl, fun _ _ => rfl, fun q y h1 h2 h3 => ⟨q, h1, h2, h3⟩, zA5.refl xs⟩
theorem uP.trans {a b : Nat} {xs ys zs : List α} (h1 : uP key a b xs ys) (h2 : uP key a b ys zs) : uP key a b xs zs := by
 refine ⟨h2.len.trans h1.len, fun k hk => (h2.out k hk).trans (h1.out k hk), ?_, h1.same.trans h2.same⟩
 intro q y hq1 hq2 hy
 obtain ⟨q', g1, g2, g3⟩ := h2.ins q y hq1 hq2 hy
 exact h1.ins q' y g1 g2 g3
theorem uP.mono {a b a' b' : Nat} {xs ys : List α} (h : uP key a b xs ys) (ha : a' ≤ a) (hb : b ≤ b') : uP key a' b' xs ys := by
 refine ⟨h.len, fun k hk => h.out k (by omega), ?_, h.same⟩
 intro q y hq1 hq2 hy
 by_cases hq : a ≤ q ∧ q < b
 ·obtain ⟨q', g1, g2, g3⟩ := h.ins q y hq.1 hq.2 hy
  exact ⟨q', by omega, by omega, g3⟩
 ·exact ⟨q, hq1, hq2, by rw [← h.out q (by omega)]; exact hy⟩
def wE (lt : α → α → Prop) (lo hi : Nat) (xs : List α) : Prop := ∀ p q x y, lo ≤ p → p < q → q < hi → xs[p]? = some x → xs[q]? = some y → ¬ lt y x
theorem wE.out {lo hi a b : Nat} {xs ys : List α} (h : wE lt lo hi xs) (hs : uP key a b xs ys) (hd : hi ≤ a ∨ b ≤ lo) : wE lt lo hi ys := by
 intro p q x y h1 h2 h3 hx hy
 rw [hs.out p (by omega)] at hx
 rw [hs.out q (by omega)] at hy
 exact h p q x y h1 h2 h3 hx hy
theorem zG3 {a c b : Nat} {xs : List α} (h1 : wE lt a c xs) (h2 : wE lt c b xs) (h3 : ∀ q r x y, a ≤ q → q < c → c ≤ r → r < b → xs[q]? = some x → xs[r]? = some y → ¬ lt y x) : wE lt a b xs := by
 intro p q x y hp hpq hq hx hy
 by_cases g1 : q < c
 ·exact h1 p q x y hp hpq g1 hx hy
 ·by_cases g2 : p < c
  ·exact h3 p q x y hp g2 (by omega) hq hx hy
  ·exact h2 p q x y (by omega) hpq hq hx hy
theorem zTa {a : Nat} {xs : List α} : wE lt a (a + 1) xs := fun p q x y h1 h2 h3 _ _ => by omega
theorem wE.sub {a b a' b' : Nat} {xs : List α} (h : wE lt a b xs) (ha : a ≤ a') (hb : b' ≤ b) : wE lt a' b' xs := fun p q x y h1 h2 h3 hx hy => h p q x y (by omega) h2 (by omega) hx hy
theorem zH4 (hk : zKs lt key) {lo m hi : Nat} {xs zs : List α} (h1 : lo ≤ m) (h2 : m ≤ hi) (h3 : hi ≤ xs.length) (hl : zs.length = xs.length) (h : ∀ k, zs[k]? = uD lo m hi xs k)
  (hlt : ∀ q r x y, lo ≤ q → q < m → m ≤ r → r < hi → xs[q]? = some x → xs[r]? = some y → lt y x) : uP key lo hi xs zs := by
 have hsplit : xs = xs.take lo ++ (xs.drop lo).take (m - lo) ++ (xs.drop m).take (hi - m) ++ xs.drop hi := by
  refine List.ext_getElem? (fun k => ?_)
  simp only [List.getElem?_append, List.length_append, List.length_take, List.length_drop, List.getElem?_take, List.getElem?_drop]
  repeat' split
  all_goals first
   | rfl
   | exact xR (by omega)
   | (exfalso; omega)
 have hz : zs = xs.take lo ++ (xs.drop m).take (hi - m) ++ (xs.drop lo).take (m - lo) ++ xs.drop hi := by
  refine List.ext_getElem? (fun k => ?_)
  rw [h]
  unfold uD
  simp only [List.getElem?_append, List.length_append, List.length_take, List.length_drop, List.getElem?_take, List.getElem?_drop]
  repeat' split
  all_goals first
   | rfl
   | exact xR (by omega)
   | (exfalso; omega)
 refine ⟨hl, ?_, ?_, ?_⟩
 ·intro k hk'
  rw [h]
  unfold uD
  rw [if_neg (by omega), if_neg (by omega)]
 ·intro q y hq1 hq2 hy
  rw [h] at hy
  unfold uD at hy
  split at hy
  ·exact ⟨q + (m - lo), by omega, by omega, hy⟩
  ·split at hy
   ·exact ⟨q - (hi - m), by omega, by omega, hy⟩
   ·exact ⟨q, hq1, hq2, hy⟩
 ·have hs := zTb hk (P := xs.take lo) (U := (xs.drop lo).take (m - lo)) (V := (xs.drop m).take (hi - m)) (S := xs.drop hi) ?_
  ·rw [← hsplit, ← hz] at hs
   exact hs
  ·intro x y hx hy
   obtain ⟨i, hi', hx'⟩ := List.getElem_of_mem hx
   obtain ⟨j, hj', hy'⟩ := List.getElem_of_mem hy
   have e1 : xs[lo + i]? = some x := by
    have : ((xs.drop lo).take (m - lo))[i]? = some x := by rw [List.getElem?_eq_getElem hi', hx']
    rw [List.getElem?_take, List.getElem?_drop] at this
    split at this
    ·exact this
    ·cases this
   have e2 : xs[m + j]? = some y := by
    have : ((xs.drop m).take (hi - m))[j]? = some y := by rw [List.getElem?_eq_getElem hj', hy']
    rw [List.getElem?_take, List.getElem?_drop] at this
    split at this
    ·exact this
    ·cases this
   simp only [List.length_take, List.length_drop] at hi' hj'
   exact hlt (lo + i) (m + j) x y (by omega) (by omega) (by omega) (by omega) e1 e2
theorem zV7 {a k : Nat} {xs zs : List α} (hak : a ≤ k) (hk : k + 1 < xs.length) (hl : zs.length = xs.length) (h : ∀ j, zs[j]? = uD a (a + 1) (k + 1) xs j) {x y : α} (hx : zs[k]? = some x) (hy : zs[k + 1]? = some y) :
  ∀ j, ((zs.set k y).set (k + 1) x)[j]? = uD a (a + 1) (k + 2) xs j := by
 intro j
 have h1 := h k
 have h2 := h (k + 1)
 unfold uD at h1 h2
 rw [hx, if_neg (by omega), if_pos (by omega)] at h1
 rw [hy, if_neg (by omega), if_neg (by omega)] at h2
 unfold uD
 by_cases e1 : j = k + 1
 ·subst e1
  rw [List.getElem?_set_self (by rw [List.length_set]; omega), if_neg (by omega), if_pos (by omega), h1]
  exact xR (by omega)
 ·rw [List.getElem?_set_ne (by omega)]
  by_cases e2 : j = k
  ·subst e2
   rw [List.getElem?_set_self (by omega), if_pos (by omega), h2]
   exact xR (by omega)
  ·rw [List.getElem?_set_ne (by omega), h j]
   unfold uD
   repeat' split
   all_goals first
    | rfl
    | exact xR (by omega)
    | (exfalso; omega)
theorem zNE {m k : Nat} {xs zs : List α} (hk0 : 0 < k) (hkm : k ≤ m) (hm : m < xs.length) (hl : zs.length = xs.length) (h : ∀ j, zs[j]? = uD k m (m + 1) xs j) {x y : α} (hx : zs[k]? = some x) (hy : zs[k - 1]? = some y) :
  ∀ j, ((zs.set k y).set (k - 1) x)[j]? = uD (k - 1) m (m + 1) xs j := by
 intro j
 have h1 := h k
 have h2 := h (k - 1)
 unfold uD at h1 h2
 rw [hx, if_pos (by omega)] at h1
 rw [hy, if_neg (by omega), if_neg (by omega)] at h2
 unfold uD
 by_cases e1 : j = k - 1
 ·subst e1
  rw [List.getElem?_set_self (by rw [List.length_set]; omega), if_pos (by omega), h1]
  exact xR (by omega)
 ·rw [List.getElem?_set_ne (by omega)]
  by_cases e2 : j = k
  ·subst e2
   rw [List.getElem?_set_self (by omega), if_neg (by omega), if_pos (by omega), h2]
   exact xR (by omega)
  ·rw [List.getElem?_set_ne (by omega), h j]
   unfold uD
   repeat' split
   all_goals first
    | rfl
    | exact xR (by omega)
    | (exfalso; omega)
theorem zUz {a : Nat} {xs : List α} (j : Nat) : uD a (a + 1) (a + 1) xs j = xs[j]? := by
 unfold uD
 repeat' split
 all_goals first
  | rfl
  | exact xR (by omega)
  | (exfalso; omega)
theorem zPO {m : Nat} {xs : List α} (j : Nat) : uD m m (m + 1) xs j = xs[j]? := by
 unfold uD
 repeat' split
 all_goals first
  | rfl
  | exact xR (by omega)
  | (exfalso; omega)
end
theorem zOK (i j : Nat) (h : i + j < 4611686018427387904) : IntKind.wrap .i64 (Int.fdiv (IntKind.wrap .u64 (IntKind.wrap .i64 ((i : Int) + (j : Int)))) ((2 : Int) ^ min (Int.toNat (1 : Int)) (IntKind.bits .u64))) = (((i + j) / 2 : Nat) : Int) := by
 have e : ((2 : Int) ^ min (Int.toNat (1 : Int)) (IntKind.bits .u64)) = 2 := by decide
 rw [e, zD (x := (i : Int) + (j : Int)) (by omega) (by omega), zHF (x := (i : Int) + (j : Int)) (by omega) (by omega), Int.fdiv_eq_ediv_of_nonneg _ (by omega)]
 rw [zD (by omega) (by omega)]
 omega
end Go.Ve

namespace Go.Ve
open Go
set_option maxRecDepth 1000000
set_option maxHeartbeats 4000000
theorem zSv {σ ρ : Type} {m : Option (σ ⊕ ρ)} {K : σ → Option ρ} {Q : ρ → Prop} (P : σ → Prop) (h : Wp m (wU P Q)) (hK : ∀ s, P s → Wp (K s) Q) : Wp (qQ m K) Q := by
 refine z8 (h.mono ?_)
 intro o ho
 cases o with
 | inl s => exact hK s ho
 | inr r => exact ho
theorem zGK {β : Type} {z : β} {i0 j0 : Nat} {P : Nat → Prop} {T : Int × Int × β → Option ((Int × Int × β) ⊕ (Int × β))} (hij : i0 ≤ j0)
  (step : ∀ i j : Nat, i0 ≤ i → i < j → j ≤ j0 → Wp (T ((i : Int), (j : Int), z)) (fun o => (o = Sum.inl ((((i + j) / 2 + 1 : Nat) : Int), (j : Int), z) ∧ P ((i + j) / 2)) ∨ (o = Sum.inl ((i : Int), (((i + j) / 2 : Nat) : Int), z) ∧ ¬ P ((i + j) / 2)))) :
  Wp (zO (fun s : Int × Int × β => bif decide (s.1 < s.2.1) then T s else some (Sum.inr (s.1, s.2.2))) ((i0 : Int), (j0 : Int), z)) (fun s => s.2 = z ∧ ∃ i : Nat, s.1 = (i : Int) ∧ i0 ≤ i ∧ i ≤ j0 ∧ (i0 < i → P (i - 1)) ∧ (i < j0 → ¬ P i)) := by
 refine wF (fun s : Int × Int × β => s.2.2 = z ∧ ∃ i j : Nat, s.1 = (i : Int) ∧ s.2.1 = (j : Int) ∧ i0 ≤ i ∧ i ≤ j ∧ j ≤ j0 ∧ (i0 < i → P (i - 1)) ∧ (j < j0 → ¬ P j)) (fun s => (s.2.1 - s.1).toNat)
  ⟨rfl, i0, j0, rfl, rfl, Nat.le_refl _, hij, Nat.le_refl _, fun h => by omega, fun h => by omega⟩ ?_
 rintro ⟨si, sj, y⟩ ⟨hy, i, j, hi, hj, h1, h2, h3, h4, h5⟩
 simp only at hi hj hy
 subst hi hj hy
 refine zI (fun h => ?_) (fun h => zB (e2r ⟨rfl, i, rfl, h1, by omega, h4, ?_⟩))
 ·have h : (i : Int) < (j : Int) := h
  refine (step i j h1 (by omega) h3).mono ?_
  rintro o (⟨rfl, hp⟩ | ⟨rfl, hp⟩)
  ·refine ⟨⟨rfl, (i + j) / 2 + 1, j, rfl, rfl, by omega, by omega, h3, fun _ => by rw [Nat.add_sub_cancel]; exact hp, h5⟩, ?_⟩
   simp only; omega
  ·refine ⟨⟨rfl, i, (i + j) / 2, rfl, rfl, h1, by omega, by omega, h4, fun _ => hp⟩, ?_⟩
   simp only; omega
 ·have h : ¬ (i : Int) < (j : Int) := h
  have : i = j := by omega
  subst this
  exact h5
section
variable {α κ : Type} {cmp : α × α × Unit → Option Int} {lt : α → α → Prop} {key : α → κ}
theorem wS {xs : List α} {i : Nat} (h : i < xs.length) : xs[i]? = some xs[i] := by simp [h]
theorem zDn (hk : zKs lt key) (hcmp : ∀ x y, Wp (cmp (x, y, ())) (fun c => c < 0 ↔ lt x y)) : ∀ (n : Nat) (xs : List α) (a m b : Nat), a < m → m < b → b ≤ xs.length → xs.length < 1099511627776 → b - a ≤ n → wE lt a m xs → wE lt m b xs →
  Wp (zAm cmp n xs ((a : Int), (m : Int), (b : Int), (), ())) (fun r => uP key a b xs r.1 ∧ wE lt a b r.1) := by
 have ho := hk.ord
 have tr1 : ∀ x y z, ¬ lt y x → lt y z → lt x z := fun x y z h1 h2 => Classical.byContradiction (fun h3 => ho.tr z x y h3 h1 h2)
 have tr2 : ∀ x y z, lt x y → ¬ lt z y → lt x z := fun x y z h1 h2 => Classical.byContradiction (fun h3 => ho.tr y z x h2 h3 h1)
 intro n
 induction n with
 | zero => intro xs a m b h1 h2 _ _ h3; omega
 | succ n ih =>
  intro xs a m b ham hmb hb hl hn hs1 hs2
  have ha? := wS (xs := xs) (i := a) (by omega)
  have hm? := wS (xs := xs) (i := m) (by omega)
  simp only [zAm]
  unfold zFd
  dsimp only
  rw [zD (x := (m : Int) - (a : Int)) (by omega) (by omega), zD (x := (b : Int) - (m : Int)) (by omega) (by omega)]
  refine zSv (fun s : List α => s = xs ∧ m ≠ a + 1) ?_ ?_
  ·refine zF (fun h => ?_) (fun h => zB (e2l ⟨rfl, ?_⟩))
   ·have h : (m : Int) - (a : Int) = 1 := by simpa using h
    have hma : m = a + 1 := by omega
    subst hma
    refine zC ((zGK (z := xs) (i0 := a + 1) (j0 := b) (P := fun q => ∀ y, xs[q]? = some y → lt y xs[a]) (by omega) ?_).mono ?_)
    ·intro i j hi hij hj
     have hh := wS (xs := xs) (i := (i + j) / 2) (by omega)
     dsimp only
     rw [zOK i j (by omega)]
     simp only [zM hh, Int.toNat_natCast, wT hh, zM ha?, wT ha?, Option.bind_some]
     refine zC ((hcmp _ _).mono (fun c hc => zI (fun h1 => zB (.inl ⟨?_, fun y hy => ?_⟩)) (fun h1 => zB (.inr ⟨rfl, fun h2 => h1 (hc.2 (h2 _ hh))⟩))))
     ·rw [zD (by omega) (by omega)]; congr 1
     ·rw [hh] at hy; cases hy; exact hc.1 h1
    ·rintro ⟨s, zs⟩ ⟨hz, i, hi, hi1, hi2, hP, hN⟩
     simp only at hz hi
     subst hz hi
     have hall1 : ∀ q y, a + 1 ≤ q → q < i → zs[q]? = some y → lt y zs[a] := by
      intro q y hq1 hq2 hy
      have hp := hP (by omega) _ (wS (by omega))
      by_cases e : q = i - 1
      ·subst e; rw [wS (by omega)] at hy; cases hy; exact hp
      ·exact tr1 _ _ _ (hs2 q (i - 1) y _ hq1 (by omega) (by omega) hy (wS (by omega))) hp
     have hall2 : ∀ q y, i ≤ q → q < b → zs[q]? = some y → ¬ lt y zs[a] := by
      intro q y hq1 hq2 hy hlt
      have hnp := hN (by omega)
      apply hnp
      intro w hw
      by_cases e : q = i
      ·subst e; rw [hw] at hy; cases hy; exact hlt
      ·exact tr1 _ _ _ (hs2 i q w y hi1 (by omega) hq2 hw hy) hlt
     dsimp only
     rw [zD (x := (i : Int) - 1) (by omega) (by omega)]
     refine wF (fun s : Int × List α => ∃ k : Nat, s.1 = (k : Int) ∧ a ≤ k ∧ k + 1 ≤ i ∧ s.2.length = zs.length ∧ ∀ j, s.2[j]? = uD a (a + 1) (k + 1) zs j) (fun s => ((i : Int) - s.1).toNat) ⟨a, rfl, Nat.le_refl _, hi1, rfl, fun j => (zUz j).symm⟩ ?_
     rintro ⟨s, ws⟩ ⟨k, hk', hka, hki, hwl, hw⟩
     simp only at hk' hwl hw
     subst hk'
     refine zI (fun hlt => ?_) (fun hge => ?_)
     ·have hlt : (k : Int) < (i : Int) - 1 := hlt
      have hx := wS (xs := ws) (i := k) (by omega)
      have hy := wS (xs := ws) (i := k + 1) (by omega)
      have hy2 : (ws.set k (ws[k + 1]'(by omega)))[k + 1]? = some (ws[k + 1]'(by omega)) := by rw [List.getElem?_set_ne (by omega)]; exact hy
      dsimp only
      rw [zD (x := (k : Int) + 1) (by omega) (by omega), show ((k : Int) + 1) = ((k + 1 : Nat) : Int) by omega]
      simp only [zM hx, zM hy, Int.toNat_natCast, wT hx, wT hy, Option.bind_some, zM hy2, wT hy2]
      refine zB (e2l ⟨⟨k + 1, rfl, by omega, by omega, by simp only [List.length_set]; exact hwl, zV7 hka (by omega) hwl hw hx hy⟩, ?_⟩)
      simp only; omega
     ·have hge : ¬ (k : Int) < (i : Int) - 1 := hge
      have hki' : k + 1 = i := by omega
      subst hki'
      refine xO (xO (zF (fun _ => zB (e2r (e2r ?_))) (fun h => absurd h (by rw [zEp hwl]; decide))))
      have hst : uP key a (k + 1) zs ws := zH4 hk (m := a + 1) (by omega) (by omega) (by omega) hwl hw (fun q r x y h1 h2 h3 h4 hx hy => by
       have : q = a := by omega
       subst this
       rw [ha?] at hx; cases hx
       exact hall1 r y h3 h4 hy)
      refine ⟨hst.mono (Nat.le_refl _) (by omega), ?_⟩
      have qP : ∀ q y, a ≤ q → q < b → ws[q]? = some y → (q < k ∧ zs[q + 1]? = some y) ∨ (q = k ∧ y = zs[a]) ∨ (k < q ∧ zs[q]? = some y) := by
       intro q y h1 h2 hy
       rw [hw] at hy
       unfold uD at hy
       split at hy
       ·exact .inl ⟨by omega, by rw [← hy]; exact xR (by omega)⟩
       ·split at hy
        ·refine .inr (.inl ⟨by omega, ?_⟩)
         rw [show q - (k + 1 - (a + 1)) = a by omega, ha?] at hy
         cases hy; rfl
        ·exact .inr (.inr ⟨by omega, hy⟩)
      intro p q x y h1 h2 h3 hx hy
      rcases qP p x h1 (by omega) hx with ⟨g1, hx'⟩ | ⟨g1, rfl⟩ | ⟨g1, hx'⟩
      ·rcases qP q y (by omega) h3 hy with ⟨g2, hy'⟩ | ⟨g2, rfl⟩ | ⟨g2, hy'⟩
       ·exact hs2 (p + 1) (q + 1) x y (by omega) (by omega) (by omega) hx' hy'
       ·exact ho.asym _ _ (hall1 (p + 1) x (by omega) (by omega) hx')
       ·exact hs2 (p + 1) q x y (by omega) (by omega) h3 hx' hy'
      ·rcases qP q y (by omega) h3 hy with ⟨g2, hy'⟩ | ⟨g2, rfl⟩ | ⟨g2, hy'⟩
       ·omega
       ·omega
       ·exact hall2 q y (by omega) h3 hy'
      ·rcases qP q y (by omega) h3 hy with ⟨g2, hy'⟩ | ⟨g2, rfl⟩ | ⟨g2, hy'⟩
       ·omega
       ·omega
       ·exact hs2 p q x y (by omega) h2 h3 hx' hy'
   ·have h : ¬ (m : Int) - (a : Int) = 1 := by simpa using h
    omega
  rintro s ⟨rfl, hma⟩
  refine zSv (fun s' : List α => s' = s ∧ b ≠ m + 1) ?_ ?_
  ·refine zF (fun h => ?_) (fun h => zB (e2l ⟨rfl, ?_⟩))
   ·have h : (b : Int) - (m : Int) = 1 := by simpa using h
    have hbm : b = m + 1 := by omega
    subst hbm
    refine zC ((zGK (z := s) (i0 := a) (j0 := m) (P := fun q => ∀ y, s[q]? = some y → ¬ lt s[m] y) (by omega) ?_).mono ?_)
    ·intro i j hi hij hj
     have hh := wS (xs := s) (i := (i + j) / 2) (by omega)
     dsimp only
     rw [zOK i j (by omega)]
     simp only [zM hh, Int.toNat_natCast, wT hh, zM hm?, wT hm?, Option.bind_some]
     refine zC ((hcmp _ _).mono (fun c hc => jM (fun h1 => zB (.inl ⟨?_, fun y hy => ?_⟩)) (fun h1 => zB (.inr ⟨rfl, fun h2 => h2 _ hh (hc.1 h1)⟩))))
     ·rw [zD (by omega) (by omega)]; congr 1
     ·rw [hh] at hy; cases hy; exact fun h2 => h1 (hc.2 h2)
    ·rintro ⟨s0, zs⟩ ⟨hz, i, hi, hi1, hi2, hP, hN⟩
     simp only at hz hi
     subst hz hi
     have hall1 : ∀ q y, a ≤ q → q < i → zs[q]? = some y → ¬ lt zs[m] y := by
      intro q y hq1 hq2 hy
      have hp := hP (by omega) _ (wS (by omega))
      by_cases e : q = i - 1
      ·subst e; rw [wS (by omega)] at hy; cases hy; exact hp
      ·exact ho.tr _ _ _ (hs1 q (i - 1) y _ hq1 (by omega) (by omega) hy (wS (by omega))) hp
     have hall2 : ∀ q y, i ≤ q → q < m → zs[q]? = some y → lt zs[m] y := by
      intro q y hq1 hq2 hy
      refine Classical.byContradiction (fun hnlt => ?_)
      have hnp := hN (by omega)
      apply hnp
      intro w hw
      by_cases e : q = i
      ·subst e; rw [hw] at hy; cases hy; exact hnlt
      ·exact ho.tr _ _ _ (hs1 i q w y hi1 (by omega) hq2 hw hy) hnlt
     dsimp only
     refine wF (fun s : Int × List α => ∃ k : Nat, s.1 = (k : Int) ∧ i ≤ k ∧ k ≤ m ∧ s.2.length = zs.length ∧ ∀ j, s.2[j]? = uD k m (m + 1) zs j) (fun s => s.1.toNat) ⟨m, rfl, hi2, Nat.le_refl _, rfl, fun j => (zPO j).symm⟩ ?_
     rintro ⟨s0, ws⟩ ⟨k, hk', hki, hkm, hwl, hw⟩
     simp only at hk' hwl hw
     subst hk'
     refine zI (fun hgt => ?_) (fun hge => ?_)
     ·have hgt : (k : Int) > (i : Int) := hgt
      have hx := wS (xs := ws) (i := k) (by omega)
      have hy := wS (xs := ws) (i := k - 1) (by omega)
      have hy2 : (ws.set k (ws[k - 1]'(by omega)))[k - 1]? = some (ws[k - 1]'(by omega)) := by rw [List.getElem?_set_ne (by omega)]; exact hy
      dsimp only
      rw [zD (x := (k : Int) - 1) (by omega) (by omega), show ((k : Int) - 1) = ((k - 1 : Nat) : Int) by omega]
      simp only [zM hx, zM hy, Int.toNat_natCast, wT hx, wT hy, Option.bind_some, zM hy2, wT hy2]
      refine zB (e2l ⟨⟨k - 1, rfl, by omega, by omega, by simp only [List.length_set]; exact hwl, zNE (by omega) hkm (by omega) hwl hw hx hy⟩, ?_⟩)
      simp only; omega
     ·have hge : ¬ (k : Int) > (i : Int) := hge
      have hki' : k = i := by omega
      subst hki'
      refine xO (xO (zF (fun _ => zB (e2r (e2r ?_))) (fun h => absurd h (by rw [zEp hwl]; decide))))
      have hst : uP key k (m + 1) zs ws := zH4 hk (m := m) (by omega) (by omega) (by omega) hwl hw (fun q r x y h1 h2 h3 h4 hx hy => by
       have : r = m := by omega
       subst this
       rw [hm?] at hy; cases hy
       exact hall2 q x h1 h2 hx)
      refine ⟨hst.mono hi1 (Nat.le_refl _), ?_⟩
      have qP : ∀ q y, a ≤ q → q < m + 1 → ws[q]? = some y → (q < k ∧ zs[q]? = some y) ∨ (q = k ∧ y = zs[m]) ∨ (k < q ∧ zs[q - 1]? = some y) := by
       intro q y h1 h2 hy
       rw [hw] at hy
       unfold uD at hy
       split at hy
       ·refine .inr (.inl ⟨by omega, ?_⟩)
        rw [show q + (m - k) = m by omega, hm?] at hy
        cases hy; rfl
       ·split at hy
        ·exact .inr (.inr ⟨by omega, by rw [← hy]; exact xR (by omega)⟩)
        ·exact .inl ⟨by omega, hy⟩
      intro p q x y h1 h2 h3 hx hy
      rcases qP p x h1 (by omega) hx with ⟨g1, hx'⟩ | ⟨g1, rfl⟩ | ⟨g1, hx'⟩
      ·rcases qP q y (by omega) h3 hy with ⟨g2, hy'⟩ | ⟨g2, rfl⟩ | ⟨g2, hy'⟩
       ·exact hs1 p q x y h1 h2 (by omega) hx' hy'
       ·exact hall1 p x h1 g1 hx'
       ·exact hs1 p (q - 1) x y h1 (by omega) (by omega) hx' hy'
      ·rcases qP q y (by omega) h3 hy with ⟨g2, hy'⟩ | ⟨g2, rfl⟩ | ⟨g2, hy'⟩
       ·omega
       ·omega
       ·exact ho.asym _ _ (hall2 (q - 1) y (by omega) (by omega) hy')
      ·rcases qP q y (by omega) h3 hy with ⟨g2, hy'⟩ | ⟨g2, rfl⟩ | ⟨g2, hy'⟩
       ·omega
       ·omega
       ·exact hs1 (p - 1) (q - 1) x y (by omega) (by omega) (by omega) hx' hy'
   ·have h : ¬ (b : Int) - (m : Int) = 1 := by simpa using h
    omega
  rintro s' ⟨rfl, hbm⟩
  clear ha? hm?
  rw [zOK a b (by omega)]
  have hM1 : 2 * ((a + b) / 2) ≤ a + b := by omega
  have hM2 : a + b < 2 * ((a + b) / 2) + 2 := by omega
  generalize (a + b) / 2 = M at hM1 hM2
  rw [zD (x := (M : Int) + (m : Int)) (by omega) (by omega), zD (x := (M : Int) + (m : Int) - 1) (by omega) (by omega)]
  refine zC ((show Wp _ (fun s : Int × Int × List α => ∃ st r : Nat, s = ((st : Int), (r : Int), s') ∧ ((M < m ∧ st + b = M + m ∧ r = M) ∨ (m ≤ M ∧ st = a ∧ r = m))) from ?_).mono ?_)
  ·refine zI (fun h => zB ⟨M + m - b, M, ?_, .inl ⟨?_, ?_, rfl⟩⟩) (fun h => zB ⟨a, m, rfl, .inr ⟨?_, rfl, rfl⟩⟩)
   ·have h : (m : Int) > (M : Int) := h
    rw [zD (by omega) (by omega), show ((M : Int) + (m : Int) - (b : Int)) = ((M + m - b : Nat) : Int) by omega]
   ·have h : (m : Int) > (M : Int) := h
    omega
   ·have h : (m : Int) > (M : Int) := h
    omega
   ·have h : ¬ (m : Int) > (M : Int) := h
    omega
  rintro _ ⟨st, r, rfl, hst⟩
  refine zC ((zGK (z := s') (i0 := st) (j0 := r) (P := fun c => ∀ x y, s'[M + m - 1 - c]? = some x → s'[c]? = some y → ¬ lt x y) (by omega) ?_).mono ?_)
  ·intro i j hi hij hj
   have hh := wS (xs := s') (i := (i + j) / 2) (by omega)
   have hh2 := wS (xs := s') (i := M + m - 1 - (i + j) / 2) (by omega)
   dsimp only
   rw [zOK i j (by omega), zD (x := (M : Int) + (m : Int) - 1 - (((i + j) / 2 : Nat) : Int)) (by omega) (by omega), show ((M : Int) + (m : Int) - 1 - (((i + j) / 2 : Nat) : Int)) = ((M + m - 1 - (i + j) / 2 : Nat) : Int) by omega]
   simp only [zM hh, zM hh2, Int.toNat_natCast, wT hh, wT hh2, Option.bind_some]
   refine zC ((hcmp _ _).mono (fun c hc => jM (fun h1 => zB (.inl ⟨?_, fun x y hx hy => ?_⟩)) (fun h1 => zB (.inr ⟨rfl, fun h2 => h2 _ _ hh2 hh (hc.1 h1)⟩))))
   ·rw [zD (by omega) (by omega)]; congr 1
   ·rw [hh2] at hx; rw [hh] at hy; cases hx; cases hy; exact fun h2 => h1 (hc.2 h2)
  rintro ⟨s0, zs0⟩ ⟨hz0, start, hs0, hst1, hst2, hP, hN⟩
  simp only at hz0 hs0
  subst hz0 hs0
  dsimp only
  rw [zD (x := (M : Int) + (m : Int) - (start : Int)) (by omega) (by omega), show ((M : Int) + (m : Int) - (start : Int)) = ((M + m - start : Nat) : Int) by omega]
  have he1 : m ≤ M + m - start := by omega
  have he2 : M + m - start ≤ b := by omega
  have he3 : start + (M + m - start - m) = M := by omega
  have hst3 : a ≤ start := by omega
  have hst4 : start ≤ m := by omega
  have hl2 : ∀ q r' x y, start ≤ q → q < m → m ≤ r' → r' < M + m - start → zs0[q]? = some x → zs0[r']? = some y → lt y x := by
   intro q r' x y h1 h2 h3 h4 hx hy
   have hlt : start < r := by omega
   refine Classical.byContradiction (fun hnl => hN hlt ?_)
   intro u w hu hw hlt2
   apply hnl
   have k1 : lt y w := by
    by_cases e : r' = M + m - 1 - start
    ·subst e; rw [hu] at hy; cases hy; exact hlt2
    ·exact tr1 _ _ _ (hs2 r' (M + m - 1 - start) y u h3 (by omega) (by omega) hy hu) hlt2
   by_cases e : q = start
   ·subst e; rw [hw] at hx; cases hx; exact k1
   ·exact tr2 _ _ _ k1 (hs1 start q w x hst3 (by omega) (by omega) hw hx)
  have hl1 : ∀ q r' x y, a ≤ q → q < start → M + m - start ≤ r' → r' < b → zs0[q]? = some x → zs0[r']? = some y → ¬ lt y x := by
   intro q r' x y h1 h2 h3 h4 hx hy
   have hlt : st < start := by omega
   have g1 := wS (xs := zs0) (i := start - 1) (by omega)
   have g2 := wS (xs := zs0) (i := M + m - 1 - (start - 1)) (by omega)
   have hp := hP hlt _ _ g2 g1
   have k1 : ¬ lt (zs0[M + m - 1 - (start - 1)]'(by omega)) x := by
    by_cases e : q = start - 1
    ·subst e; rw [g1] at hx; cases hx; exact hp
    ·exact ho.tr _ _ _ (hs1 q (start - 1) x _ h1 (by omega) (by omega) hx g1) hp
   by_cases e : r' = M + m - 1 - (start - 1)
   ·subst e; rw [g2] at hy; cases hy; exact k1
   ·exact ho.tr _ _ _ k1 (hs2 (M + m - 1 - (start - 1)) r' _ y (by omega) (by omega) h4 g2 hy)
  generalize he : M + m - start = e at he1 he2 he3 hl1 hl2
  refine zC ((show Wp _ (fun zs : List α => zs.length = zs0.length ∧ ∀ k, zs[k]? = uD start m e zs0 k) from ?_).mono ?_)
  ·refine zC ((show Wp _ (fun c : Bool × List α => c.2 = zs0 ∧ (c.1 = true → start < m ∧ m < e) ∧ (c.1 = false → start = m ∨ m = e)) from ?_).mono ?_)
   ·refine zI (fun h => zB ⟨rfl, (fun h2 => ?_), fun h2 => ?_⟩) (fun h => zB ⟨rfl, (fun h2 => by cases h2), fun _ => ?_⟩)
    ·have h : (start : Int) < (m : Int) := h
     have h2 : (m : Int) < (e : Int) := of_decide_eq_true h2
     omega
    ·have h2 : ¬ (m : Int) < (e : Int) := of_decide_eq_false h2
     omega
    ·have h : ¬ (start : Int) < (m : Int) := h
     omega
   ·rintro ⟨c, zs⟩ ⟨hz, ht, hf⟩
    simp only at hz ht hf
    subst hz
    refine zF (fun h => ?_) (fun h => zB ⟨rfl, fun k => ?_⟩)
    ·obtain ⟨g1, g2⟩ := ht h
     refine zF (fun _ => zC ((zOr zs start m e g1 g2 (by omega) (by omega)).mono (fun y hy => zB hy))) (fun h => absurd h (by rw [Nat.beq_refl]; decide))
    ·have := hf h
     unfold uD
     repeat' split
     all_goals first
      | rfl
      | exact xR (by omega)
      | (exfalso; omega)
  intro zs hzz
  obtain ⟨hzl, hz⟩ := hzz
  have yM := zH4 hk hst4 he1 (by omega) hzl hz hl2
  have qP : ∀ q y, a ≤ q → q < b → zs[q]? = some y → (q < start ∧ zs0[q]? = some y) ∨ (start ≤ q ∧ q < M ∧ zs0[q + (m - start)]? = some y) ∨ (M ≤ q ∧ q < e ∧ zs0[q - (e - m)]? = some y) ∨ (e ≤ q ∧ zs0[q]? = some y) := by
   intro q y h1 h2 hy
   rw [hz] at hy
   unfold uD at hy
   split at hy
   ·exact .inr (.inl ⟨by omega, by omega, hy⟩)
   ·split at hy
    ·exact .inr (.inr (.inl ⟨by omega, by omega, hy⟩))
    ·by_cases c : q < start
     ·exact .inl ⟨c, hy⟩
     ·exact .inr (.inr (.inr ⟨by omega, hy⟩))
  have r1 : wE lt a start zs := by
   intro p q x y h1 h2 h3 hx hy
   rw [yM.out p (by omega)] at hx
   rw [yM.out q (by omega)] at hy
   exact hs1 p q x y h1 h2 (by omega) hx hy
  have r2 : wE lt start M zs := by
   intro p q x y h1 h2 h3 hx hy
   rw [hz] at hx hy
   unfold uD at hx hy
   rw [if_pos (by omega)] at hx hy
   exact hs2 _ _ x y (by omega) (by omega) (by omega) hx hy
  have r3 : wE lt M e zs := by
   intro p q x y h1 h2 h3 hx hy
   rw [hz] at hx hy
   unfold uD at hx hy
   rw [if_neg (by omega), if_pos (by omega)] at hx hy
   exact hs1 _ _ x y (by omega) (by omega) (by omega) hx hy
  have r4 : wE lt e b zs := by
   intro p q x y h1 h2 h3 hx hy
   rw [yM.out p (by omega)] at hx
   rw [yM.out q (by omega)] at hy
   exact hs2 p q x y (by omega) h2 h3 hx hy
  have rc : ∀ q r' x y, a ≤ q → q < M → M ≤ r' → r' < b → zs[q]? = some x → zs[r']? = some y → ¬ lt y x := by
   intro q r' x y h1 h2 h3 h4 hx hy
   rcases qP q x h1 (by omega) hx with ⟨g1, hx'⟩ | ⟨g1, g2, hx'⟩ | ⟨g1, g2, hx'⟩ | ⟨g1, hx'⟩
   ·rcases qP r' y (by omega) h4 hy with ⟨g3, hy'⟩ | ⟨g3, g4, hy'⟩ | ⟨g3, g4, hy'⟩ | ⟨g3, hy'⟩
    ·omega
    ·omega
    ·exact hs1 q _ x y h1 (by omega) (by omega) hx' hy'
    ·exact hl1 q r' x y h1 g1 g3 h4 hx' hy'
   ·rcases qP r' y (by omega) h4 hy with ⟨g3, hy'⟩ | ⟨g3, g4, hy'⟩ | ⟨g3, g4, hy'⟩ | ⟨g3, hy'⟩
    ·omega
    ·omega
    ·exact ho.asym _ _ (hl2 _ _ y x (by omega) (by omega) (by omega) (by omega) hy' hx')
    ·exact hs2 _ r' x y (by omega) (by omega) h4 hx' hy'
   ·omega
   ·omega
  refine zC ((show Wp _ (fun ws : List α => uP key a M zs ws ∧ wE lt a M ws) from ?_).mono ?_)
  ·refine zC ((show Wp _ (fun c : Bool × List α => c.2 = zs ∧ (c.1 = true → a < start ∧ start < M) ∧ (c.1 = false → a = start ∨ start = M)) from ?_).mono ?_)
   ·refine zI (fun h => zB ⟨rfl, (fun h2 => ?_), fun h2 => ?_⟩) (fun h => zB ⟨rfl, (fun h2 => by cases h2), fun _ => ?_⟩)
    ·have h : (a : Int) < (start : Int) := h
     have h2 : (start : Int) < (M : Int) := of_decide_eq_true h2
     omega
    ·have h2 : ¬ (start : Int) < (M : Int) := of_decide_eq_false h2
     omega
    ·have h : ¬ (a : Int) < (start : Int) := h
     omega
   ·rintro ⟨c, vs⟩ ⟨hv, ht, hf⟩
    simp only at hv ht hf
    subst hv
    refine zF (fun h => ?_) (fun h => zB ⟨uP.refl _ _ _, ?_⟩)
    ·obtain ⟨g1, g2⟩ := ht h
     exact zF (fun _ => zC ((ih vs a start M g1 g2 (by omega) (by omega) (by omega) r1 r2).mono (fun y hy => zB hy))) (fun h => absurd h (by rw [Nat.beq_refl]; decide))
    ·exact zG3 r1 r2 (fun q r' x y h1 h2 h3 h4 hx hy => by have := hf h; omega)
  intro ws hws
  obtain ⟨hw1, hw2⟩ := hws
  have hwl : ws.length = zs0.length := hw1.len.trans hzl
  have fin : ∀ us, uP key M b ws us → wE lt M b us → uP key a b zs0 us ∧ wE lt a b us := by
   intro us hu1 hu2
   refine ⟨((yM.mono hst3 he2).trans (hw1.mono (Nat.le_refl _) (by omega))).trans (hu1.mono (by omega) (Nat.le_refl _)), zG3 (hw2.out hu1 (.inl (Nat.le_refl _))) hu2 ?_⟩
   intro q r' x y h1 h2 h3 h4 hx hy
   rw [hu1.out q (by omega)] at hx
   obtain ⟨q', k1, k2, hx'⟩ := hw1.ins q x h1 h2 hx
   obtain ⟨r2, k3, k4, hy'⟩ := hu1.ins r' y h3 h4 hy
   rw [hw1.out r2 (by omega)] at hy'
   exact rc q' r2 x y k1 k2 k3 k4 hx' hy'
  have q3 : wE lt M e ws := r3.out hw1 (.inr (Nat.le_refl _))
  have q4 : wE lt e b ws := r4.out hw1 (.inr (by omega))
  refine zC ((show Wp _ (fun c : Bool × List α => c.2 = ws ∧ (c.1 = true → M < e ∧ e < b) ∧ (c.1 = false → M = e ∨ e = b)) from ?_).mono ?_)
  ·refine zI (fun h => zB ⟨rfl, (fun h2 => ?_), fun h2 => ?_⟩) (fun h => zB ⟨rfl, (fun h2 => by cases h2), fun _ => ?_⟩)
   ·have h : (M : Int) < (e : Int) := h
    have h2 : (e : Int) < (b : Int) := of_decide_eq_true h2
    omega
   ·have h2 : ¬ (e : Int) < (b : Int) := of_decide_eq_false h2
    omega
   ·have h : ¬ (M : Int) < (e : Int) := h
    omega
  ·rintro ⟨c, vs⟩ ⟨hv, ht, hf⟩
   simp only at hv ht hf
   subst hv
   refine zF (fun h => ?_) (fun h => ?_)
   ·obtain ⟨g1, g2⟩ := ht h
    refine zF (fun _ => zC ((ih vs M e b g1 g2 (by omega) (by omega) (by omega) q3 q4).mono (fun y hy => ?_))) (fun h => absurd h (by rw [Nat.beq_refl]; decide))
    exact zF (fun _ => zB (fin _ hy.1 hy.2)) (fun h => absurd h (by rw [zEp (hy.1.len.trans hwl)]; decide))
   ·refine zF (fun _ => zB (fin _ (uP.refl _ _ _) ?_)) (fun h => absurd h (by rw [zEp hwl]; decide))
    exact zG3 q3 q4 (fun q r' x y h1 h2 h3 h4 hx hy => by have := hf h; omega)
end
end Go.Ve

namespace Go.Ve
open Go
set_option maxRecDepth 1000000
set_option maxHeartbeats 4000000
section
variable {α κ : Type} {cmp : α × α × Unit → Option Int} {lt : α → α → Prop} {key : α → κ}
def zI5 (lt : α → α → Prop) (lo i j : Nat) (xs : List α) : Prop := ∀ p q x y, lo ≤ p → p < q → q ≤ i → q ≠ j → xs[p]? = some x → xs[q]? = some y → ¬ lt y x
theorem zPG {lo i : Nat} {xs : List α} (h : wE lt lo i xs) : zI5 lt lo i i xs := fun p q x y h0 h1 h2 h3 hx hy => h p q x y h0 h1 (by omega) hx hy
theorem zRl (ho : Ord lt) {lo i j : Nat} {xs : List α} (h : zI5 lt lo i j xs) (hj : j ≤ i) (hlo : lo ≤ j) (he : j = lo ∨ ∀ x y, xs[j]? = some x → xs[j - 1]? = some y → ¬ lt x y) : wE lt lo (i + 1) xs := by
 intro p q x y hp0 hpq hq hx hy
 by_cases hqj : q = j
 ·subst hqj
  rcases he with he | he
  ·omega
  ·by_cases hp : p = q - 1
   ·subst hp
    exact he y x hy hx
   ·have hl := (List.getElem?_eq_some_iff.1 hy).1
    have hz : xs[q - 1]? = some (xs[q - 1]'(by omega)) := by simp
    exact ho.tr _ _ _ (h p (q - 1) x _ hp0 (by omega) (by omega) (by omega) hx hz) (he y _ hy hz)
 ·exact h p q x y hp0 hpq (by omega) hqj hx hy
theorem zRk (ho : Ord lt) {lo i j : Nat} {xs : List α} (h : zI5 lt lo i j xs) (hj : lo < j) (hji : j ≤ i) (hi : i < xs.length) (hlt : lt (xs[j]'(by omega)) (xs[j - 1]'(by omega))) :
  zI5 lt lo i (j - 1) ((xs.set j (xs[j - 1]'(by omega))).set (j - 1) (xs[j]'(by omega))) := by
 have hjl : j < xs.length := by omega
 have a1 : xs[j]? = some xs[j] := by simp
 have a2 : xs[j - 1]? = some (xs[j - 1]'(by omega)) := by simp
 have at' : ∀ m z, ((xs.set j (xs[j - 1]'(by omega))).set (j - 1) (xs[j]'(by omega)))[m]? = some z → (m = j - 1 ∧ z = xs[j]) ∨ (m = j ∧ z = xs[j - 1]'(by omega)) ∨ (m ≠ j ∧ m ≠ j - 1 ∧ xs[m]? = some z) := by
  intro m z hm
  by_cases e1 : m = j - 1
  ·subst e1
   rw [List.getElem?_set_self (by rw [List.length_set]; omega)] at hm
   cases hm
   exact .inl ⟨rfl, rfl⟩
  ·rw [List.getElem?_set_ne (by omega)] at hm
   by_cases e2 : m = j
   ·subst e2
    rw [List.getElem?_set_self (by omega)] at hm
    cases hm
    exact .inr (.inl ⟨rfl, rfl⟩)
   ·rw [List.getElem?_set_ne (by omega)] at hm
    exact .inr (.inr ⟨e2, e1, hm⟩)
 intro p q x y hp0 hpq hq hqj hx hy
 rcases at' q y hy with ⟨g, _⟩ | ⟨rfl, rfl⟩ | ⟨g1, g2, hy2⟩
 ·omega
 ·rcases at' p x hx with ⟨rfl, rfl⟩ | ⟨g, _⟩ | ⟨g3, g4, hx⟩
  ·exact ho.asym _ _ hlt
  ·omega
  ·exact h p (q - 1) x _ hp0 (by omega) (by omega) (by omega) hx a2
 ·rcases at' p x hx with ⟨rfl, rfl⟩ | ⟨rfl, rfl⟩ | ⟨g3, g4, hx⟩
  ·exact h j q _ y (by omega) (by omega) hq g1 a1 hy2
  ·exact h (p - 1) q _ y (by omega) (by omega) hq g1 a2 hy2
  ·exact h p q x y hp0 hpq hq g1 hx hy2
theorem zS7 (hk : zKs lt key) {j : Nat} {xs : List α} (hj : 0 < j) (hjl : j < xs.length) (hlt : lt xs[j] (xs[j - 1]'(by omega))) :
  uP key (j - 1) (j + 1) xs ((xs.set j (xs[j - 1]'(by omega))).set (j - 1) xs[j]) := by
 have h1 := wS hjl
 have h2 := wS (xs := xs) (i := j - 1) (by omega)
 refine zH4 hk (m := j) (by omega) (by omega) (by omega) (by simp) (zNE (m := j) (k := j) hj (Nat.le_refl _) hjl rfl (fun k => (zPO k).symm) h1 h2) ?_
 intro q r x y g1 g2 g3 g4 hx hy
 have e1 : q = j - 1 := by omega
 have e2 : r = j := by omega
 subst e1 e2
 rw [h2] at hx; rw [h1] at hy
 cases hx; cases hy
 exact hlt
theorem zBK (hk : zKs lt key) (hcmp : ∀ x y, Wp (cmp (x, y, ())) (fun c => c < 0 ↔ lt x y)) (xs : List α) (a b : Nat) (hab : a ≤ b) (hb : b ≤ xs.length) (hl : xs.length < 1099511627776) :
  Wp (yL cmp xs ((a : Int), (b : Int), (), ())) (fun r => uP key a b xs r.1 ∧ wE lt a b r.1) := by
 have ho := hk.ord
 unfold yL
 dsimp only
 rw [zD (by omega) (by omega)]
 refine wF (fun s : Int × List α => uP key a b xs s.2 ∧ ∃ i : Nat, s.1 = (i : Int) ∧ a + 1 ≤ i ∧ (i ≤ b ∨ i = a + 1) ∧ wE lt a i s.2) (fun s => ((b : Int) - s.1).toNat)
  ⟨uP.refl _ _ _, a + 1, by simp only; omega, Nat.le_refl _, .inr rfl, zTa⟩ ?_
 rintro ⟨s, zs⟩ ⟨hst, i, hi, hi1, hi2, hso⟩
 simp only at hi hst hso
 subst hi
 have hlen : zs.length = xs.length := hst.len
 refine zI (fun hlt => ?_) (fun hge => ?_)
 ·have hlt : (i : Int) < (b : Int) := hlt
  refine zC ((show Wp _ (fun ys : List α => uP key a b zs ys ∧ wE lt a (i + 1) ys) from ?_).mono (fun ys hys => zB (e2l ⟨⟨hst.trans hys.1, i + 1, ?_, by omega, .inl (by omega), hys.2⟩, ?_⟩)))
  ·refine wF (fun s : Int × List α => uP key a b zs s.2 ∧ ∃ j : Nat, s.1 = (j : Int) ∧ a ≤ j ∧ j ≤ i ∧ zI5 lt a i j s.2) (fun s => s.1.toNat) ⟨uP.refl _ _ _, i, rfl, by omega, Nat.le_refl _, zPG hso⟩ ?_
   rintro ⟨s, ys⟩ ⟨hyst, j, hj, hja, hji, hex⟩
   simp only at hj hyst hex
   subst hj
   have hyl : ys.length = xs.length := hyst.len.trans hlen
   refine zC ((show Wp _ (fun c : Bool × List α => c.2 = ys ∧ (c.1 = true → a < j ∧ ∀ x y, ys[j]? = some x → ys[j - 1]? = some y → lt x y) ∧ (c.1 = false → j = a ∨ ∀ x y, ys[j]? = some x → ys[j - 1]? = some y → ¬ lt x y)) from ?_).mono ?_)
   ·refine zI (fun hj0 => ?_) (fun hj0 => zB ⟨rfl, (fun h => by cases h), fun _ => .inl ?_⟩)
    ·have hj0 : (j : Int) > (a : Int) := hj0
     have hy1 := wS (xs := ys) (i := j) (by omega)
     have hy2 := wS (xs := ys) (i := j - 1) (by omega)
     dsimp only
     rw [zD (by omega) (by omega), show ((j : Int) - 1) = ((j - 1 : Nat) : Int) by omega]
     simp only [zM hy1, zM hy2, Int.toNat_natCast, wT hy1, wT hy2, Option.bind_some]
     refine zC ((hcmp _ _).mono (fun c hc => zB ⟨rfl, (fun h => ⟨by omega, ?_⟩), fun h => .inr ?_⟩))
     ·intro x y hx hy
      rw [hy1] at hx; rw [hy2] at hy
      cases hx; cases hy
      exact hc.1 (of_decide_eq_true h)
     ·intro x y hx hy
      rw [hy1] at hx; rw [hy2] at hy
      cases hx; cases hy
      exact fun hh => (of_decide_eq_false h) (hc.2 hh)
    ·have hj0 : ¬ (j : Int) > (a : Int) := hj0
     omega
   ·rintro ⟨c, ws⟩ ⟨hw, ht, hf⟩
    simp only at hw ht hf
    subst hw
    refine zF (fun hb' => ?_) (fun hb' => zB (e2r ⟨hyst, zRl ho hex hji hja (hf hb')⟩))
    obtain ⟨hj0, hlt2⟩ := ht hb'
    have hy1 := wS (xs := ws) (i := j) (by omega)
    have hy2 := wS (xs := ws) (i := j - 1) (by omega)
    have hy3 : (ws.set j (ws[j - 1]'(by omega)))[j - 1]? = some (ws[j - 1]'(by omega)) := by
     rw [List.getElem?_set_ne (by omega)]; exact hy2
    dsimp only
    rw [zD (by omega) (by omega), show ((j : Int) - 1) = ((j - 1 : Nat) : Int) by omega]
    simp only [zM hy1, zM hy2, Int.toNat_natCast, wT hy1, wT hy2, Option.bind_some, zM hy3, wT hy3]
    refine zB (e2l ⟨⟨hyst.trans ((zS7 hk (by omega) (by omega) (hlt2 _ _ hy1 hy2)).mono (by omega) (by omega)), j - 1, rfl, by omega, by omega, zRk ho hex hj0 hji (by omega) (hlt2 _ _ hy1 hy2)⟩, ?_⟩)
    simp only; omega
  ·simp only; rw [zD (by omega) (by omega)]; omega
  ·simp only; rw [zD (by omega) (by omega)]; omega
 ·have hge : ¬ (i : Int) < (b : Int) := hge
  exact xO (zF (fun _ => zB (e2r ⟨hst, hso.sub (Nat.le_refl _) (by omega)⟩)) (fun h => absurd h (by rw [zEp hlen]; decide)))
def zPh (lt : α → α → Prop) (bs n : Nat) (xs : List α) : Prop := ∀ j, wE lt (j * bs) (min ((j + 1) * bs) n) xs
theorem zOq (hk : zKs lt key) (hcmp : ∀ x y, Wp (cmp (x, y, ())) (fun c => c < 0 ↔ lt x y)) (xs : List α) (hl : xs.length ≤ 1048576) :
  Wp (zHS cmp xs ((xs.length : Int), (), ())) (fun r => uP key 0 xs.length xs r.1 ∧ wE lt 0 xs.length r.1) := by
 unfold zHS
 dsimp only
 generalize hn : xs.length = n at hl
 refine zC ((show Wp _ (fun s : List α × Int => uP key 0 n xs s.1 ∧ ∃ t : Nat, s.2 = ((20 * t : Nat) : Int) ∧ 20 * t ≤ n ∧ n < 20 * t + 20 ∧ ∀ j, j < t → wE lt (j * 20) ((j + 1) * 20) s.1) from ?_).mono ?_)
 ·refine wF (fun s : Int × List α × Int => uP key 0 n xs s.2.1 ∧ ∃ t : Nat, s.1 = ((20 * t + 20 : Nat) : Int) ∧ s.2.2 = ((20 * t : Nat) : Int) ∧ 20 * t ≤ n ∧ ∀ j, j < t → wE lt (j * 20) ((j + 1) * 20) s.2.1) (fun s => ((n : Int) + 20 - s.1).toNat)
   ⟨uP.refl _ _ _, 0, rfl, rfl, Nat.zero_le _, fun j hj => by omega⟩ ?_
  rintro ⟨sb, zs, sa⟩ ⟨hst, t, hsb, hsa, htn, hbl⟩
  simp only at hsb hsa hst hbl
  subst hsb hsa
  have hzl := hst.len
  refine zI (fun h => ?_) (fun h => zB (e2r ⟨hst, t, rfl, htn, ?_, hbl⟩))
  ·have h : ((20 * t + 20 : Nat) : Int) ≤ (n : Int) := h
   refine zF (fun _ => ?_) (fun h => absurd h (by rw [Nat.beq_refl]; decide))
   refine zC ((zBK hk hcmp zs (20 * t) (20 * t + 20) (by omega) (by omega) (by omega)).mono (fun y hy => zB (e2l ⟨⟨hst.trans (hy.1.mono (by omega) (by omega)), t + 1, ?_, ?_, by omega, ?_⟩, ?_⟩)))
   ·simp only; rw [zD (by omega) (by omega)]; omega
   ·simp only; omega
   ·intro j hj
    by_cases e : j = t
    ·subst e
     rw [show j * 20 = 20 * j by omega, show (j + 1) * 20 = 20 * j + 20 by omega]
     exact hy.2
    ·exact (hbl j (by omega)).out hy.1 (.inl (by omega))
   ·simp only; rw [zD (by omega) (by omega)]; omega
  ·have h : ¬ ((20 * t + 20 : Nat) : Int) ≤ (n : Int) := h
   omega
 rintro ⟨zs, sa⟩ ⟨hst, t, hsa, htn, htn2, hbl⟩
 simp only at hsa hst hbl
 subst hsa
 have hzl := hst.len
 refine zF (fun _ => ?_) (fun h => absurd h (by rw [Nat.beq_refl]; decide))
 refine zC ((zBK hk hcmp zs (20 * t) n htn (by omega) (by omega)).mono (fun y hy => ?_))
 have hB : zPh lt 20 n y.1 := by
  intro j
  by_cases e : j < t
  ·rw [Nat.min_eq_left (by omega)]
   exact (hbl j e).out hy.1 (.inl (by omega))
  ·by_cases e2 : j = t
   ·subst e2
    refine hy.2.sub (by omega) (Nat.min_le_right _ _)
   ·intro p q x y' h1 h2 h3
    omega
 have hst2 : uP key 0 n xs y.1 := hst.trans (hy.1.mono (by omega) (Nat.le_refl _))
 refine wF (fun s : Int × List α => uP key 0 n xs s.2 ∧ ∃ bs : Nat, s.1 = (bs : Int) ∧ 20 ≤ bs ∧ bs ≤ 2097152 ∧ zPh lt bs n s.2) (fun s => ((n : Int) - s.1).toNat) ⟨hst2, 20, rfl, Nat.le_refl _, by omega, hB⟩ ?_
 rintro ⟨sbs, ws⟩ ⟨hw, bs, hbs, hbs1, hbs2, hbl2⟩
 simp only at hbs hw hbl2
 subst hbs
 have hwl := hw.len
 refine zI (fun h => ?_) (fun h => ?_)
 ·have h : (bs : Int) < (n : Int) := h
  dsimp only
  rw [zD (x := (2 : Int) * (bs : Int)) (by omega) (by omega)]
  refine zC ((show Wp _ (fun s : Int × List α => uP key 0 n ws s.2 ∧ ∃ t : Nat, s.1 = ((t * (2 * bs) : Nat) : Int) ∧ t * (2 * bs) ≤ n ∧ n < (t + 1) * (2 * bs) ∧ (∀ j, j < t → wE lt (j * (2 * bs)) ((j + 1) * (2 * bs)) s.2) ∧ ∀ j, 2 * t ≤ j → wE lt (j * bs) (min ((j + 1) * bs) n) s.2) from ?_).mono ?_)
  ·refine wF (fun s : Int × List α × Int => uP key 0 n ws s.2.1 ∧ ∃ t : Nat, s.1 = (((t + 1) * (2 * bs) : Nat) : Int) ∧ s.2.2 = ((t * (2 * bs) : Nat) : Int) ∧ t * (2 * bs) ≤ n ∧ (∀ j, j < t → wE lt (j * (2 * bs)) ((j + 1) * (2 * bs)) s.2.1) ∧ ∀ j, 2 * t ≤ j → wE lt (j * bs) (min ((j + 1) * bs) n) s.2.1) (fun s => ((n : Int) + 2 * (bs : Int) - s.1).toNat)
    ⟨uP.refl _ _ _, 0, by simp only; omega, by simp, by omega, fun j hj => by omega, fun j _ => hbl2 j⟩ ?_
   rintro ⟨sb, vs, sa⟩ ⟨hv, t, hsb, hsa, htn', hb1, hb2⟩
   simp only at hsb hsa hv hb1 hb2
   subst hsb hsa
   have hvl : vs.length = n := by rw [hv.len, hwl, hn]
   have eT : (t + 1) * (2 * bs) = t * (2 * bs) + 2 * bs := Nat.succ_mul _ _
   have eA : 2 * t * bs = t * (2 * bs) := by rw [Nat.mul_comm 2 t, Nat.mul_assoc]
   have eB : (2 * t + 1) * bs = t * (2 * bs) + bs := by rw [Nat.succ_mul, eA]
   have eC : (2 * t + 2) * bs = t * (2 * bs) + 2 * bs := by rw [show 2 * t + 2 = (2 * t + 1) + 1 from rfl, Nat.succ_mul, eB]; omega
   generalize hA : t * (2 * bs) = A at *
   refine zI (fun h2 => ?_) (fun h2 => zB (e2r ⟨hv, t, by rw [hA], by rw [hA]; exact htn', ?_, hb1, hb2⟩))
   ·have h2 : (((t + 1) * (2 * bs) : Nat) : Int) ≤ (n : Int) := h2
    rw [eT] at h2 ⊢
    refine zF (fun _ => ?_) (fun h => absurd h (by rw [Nat.beq_refl]; decide))
    dsimp only
    rw [zD (x := (A : Int) + (bs : Int)) (by omega) (by omega), show ((A : Int) + (bs : Int)) = ((A + bs : Nat) : Int) by omega]
    have s1 := hb2 (2 * t) (Nat.le_refl _)
    have s2 := hb2 (2 * t + 1) (by omega)
    rw [show 2 * t + 1 + 1 = 2 * t + 2 from rfl, eC, eB, Nat.min_eq_left (by omega)] at s2
    rw [eB, eA, Nat.min_eq_left (by omega)] at s1
    unfold zDm
    refine zC ((zDn hk hcmp 1048576 vs A (A + bs) (A + 2 * bs) (by omega) (by omega) (by omega) (by omega) (by omega) s1 s2).mono (fun y hy => zB (e2l ⟨⟨hv.trans (hy.1.mono (by omega) (by omega)), t + 1, ?_, ?_, ?_, ?_, ?_⟩, ?_⟩)))
    ·simp only
     rw [zD (by omega) (by omega), show (t + 1 + 1) * (2 * bs) = A + 2 * bs + 2 * bs by rw [Nat.succ_mul, eT]]
     omega
    ·simp only; rw [eT]
    ·rw [eT]; omega
    ·intro j hj
     by_cases e : j = t
     ·subst e
      rw [hA, eT]
      exact hy.2
     ·refine (hb1 j (by omega)).out hy.1 (.inl ?_)
      have : (j + 1) * (2 * bs) ≤ t * (2 * bs) := Nat.mul_le_mul_right _ (by omega)
      omega
    ·intro j hj
     refine (hb2 j (by omega)).out hy.1 (.inr ?_)
     have : (2 * t + 2) * bs ≤ j * bs := Nat.mul_le_mul_right _ (by omega)
     omega
    ·simp only
     rw [zD (by omega) (by omega)]
     omega
   ·have h2 : ¬ (((t + 1) * (2 * bs) : Nat) : Int) ≤ (n : Int) := h2
    omega
  rintro ⟨sa, vs⟩ ⟨hv, t, hsa, ht1, ht2, hb1, hb2⟩
  simp only at hsa hv hb1 hb2
  subst hsa
  have hvl : vs.length = n := by rw [hv.len, hwl, hn]
  have eT : (t + 1) * (2 * bs) = t * (2 * bs) + 2 * bs := Nat.succ_mul _ _
  have eA : 2 * t * bs = t * (2 * bs) := by rw [Nat.mul_comm 2 t, Nat.mul_assoc]
  have eB : (2 * t + 1) * bs = t * (2 * bs) + bs := by rw [Nat.succ_mul, eA]
  have eC : (2 * t + 2) * bs = t * (2 * bs) + 2 * bs := by rw [show 2 * t + 2 = (2 * t + 1) + 1 from rfl, Nat.succ_mul, eB]; omega
  have s1 := hb2 (2 * t) (Nat.le_refl _)
  have s2 := hb2 (2 * t + 1) (by omega)
  rw [show 2 * t + 1 + 1 = 2 * t + 2 from rfl, eC, eB, Nat.min_eq_right (by omega)] at s2
  rw [eB, eA] at s1
  have hbelow : ∀ j, j < t → (j + 1) * (2 * bs) ≤ t * (2 * bs) := fun j hj => Nat.mul_le_mul_right _ (by omega)
  have habove : ∀ j, t < j → t * (2 * bs) + 2 * bs ≤ j * (2 * bs) := fun j hj => by rw [← eT]; exact Nat.mul_le_mul_right _ (by omega)
  generalize hA : t * (2 * bs) = A at *
  have fin : ∀ us, uP key A n vs us → wE lt A n us → uP key 0 n xs us ∧ zPh lt (bs * 2) n us := by
   intro us hu1 hu2
   refine ⟨(hw.trans hv).trans (hu1.mono (by omega) (Nat.le_refl _)), ?_⟩
   intro j
   rw [show bs * 2 = 2 * bs by omega]
   by_cases e : j < t
   ·have := hbelow j e
    rw [Nat.min_eq_left (by omega)]
    exact (hb1 j e).out hu1 (.inl this)
   ·by_cases e2 : j = t
    ·subst e2
     rw [hA, eT, Nat.min_eq_right (by omega)]
     exact hu2
    ·have := habove j (by omega)
     intro p q x y' h1 h2 h3
     omega
  dsimp only
  rw [zD (x := (A : Int) + (bs : Int)) (by omega) (by omega), show ((A : Int) + (bs : Int)) = ((A + bs : Nat) : Int) by omega]
  refine zC ((show Wp _ (fun us : List α => uP key 0 n xs us ∧ zPh lt (bs * 2) n us) from ?_).mono (fun us hus => zB (e2l ⟨⟨hus.1, bs * 2, ?_, by omega, by omega, hus.2⟩, ?_⟩)))
  ·refine zI (fun h2 => ?_) (fun h2 => zB (fin vs (uP.refl _ _ _) ?_))
   ·have h2 : ((A + bs : Nat) : Int) < (n : Int) := h2
    rw [Nat.min_eq_left (by omega)] at s1
    refine zF (fun _ => ?_) (fun h => absurd h (by rw [Nat.beq_refl]; decide))
    unfold zDm
    exact zC ((zDn hk hcmp 1048576 vs A (A + bs) n (by omega) (by omega) (by omega) (by omega) (by omega) s1 s2).mono (fun y hy => zB (fin _ hy.1 hy.2)))
   ·have h2 : ¬ ((A + bs : Nat) : Int) < (n : Int) := h2
    rw [Nat.min_eq_right (by omega)] at s1
    exact s1
  ·simp only; rw [zD (by omega) (by omega)]; omega
  ·simp only; rw [zD (by omega) (by omega)]; omega
 ·have h : ¬ (bs : Int) < (n : Int) := h
  refine xO (zF (fun _ => zB (e2r ⟨hw, ?_⟩)) (fun h => absurd h (by simp only; rw [hwl, hn, Nat.beq_refl]; decide)))
  have := hbl2 0
  rw [Nat.zero_mul, Nat.zero_add, Nat.one_mul, Nat.min_eq_right (by omega)] at this
  exact this
theorem zJd (hk : zKs lt key) (hcmp : ∀ x y, Wp (cmp (x, y, ())) (fun c => c < 0 ↔ lt x y)) (xs : List α) (hl : xs.length ≤ 1048576) :
  Wp (zCS cmp xs ((), ())) (fun r => r.1.length = xs.length ∧ zA5 key xs r.1 ∧ r.1.Pairwise (fun x y => ¬ lt y x)) := by
 unfold zCS
 dsimp only
 refine zF (fun _ => ?_) (fun h => absurd h (by rw [Nat.beq_refl]; decide))
 refine zC ((zOq hk hcmp xs hl).mono (fun y hy => ?_))
 refine zF (fun _ => zB ⟨hy.1.len, hy.1.same, ?_⟩) (fun h => absurd h (by rw [zEp hy.1.len]; decide))
 rw [List.pairwise_iff_getElem]
 intro p q hp hq hpq
 have := hy.1.len
 have hq : q < y.1.length := hq
 exact hy.2 p q _ _ (Nat.zero_le _) hpq (by omega) (by simp) (by simp)
end
end Go.Ve

namespace Go.Ve
open Go
set_option maxRecDepth 1000000
set_option maxHeartbeats 4000000
theorem zFN : ∀ (more acc : List (Ty.El qY)), acc.Pairwise hlt → (more.foldl zEt acc).Pairwise hlt ∧ ∀ h, h ∈ more.foldl zEt acc ↔ h ∈ acc ∨ h ∈ more
 | [], acc, hp => ⟨hp, fun h => by simp⟩
 | x :: more, acc, hp => by
  have heq : ∀ a b : Ty.El qY, zNg a b = true ↔ a = b := fun a b => ⟨fun h => zD4 h, fun h => by subst h; simp [zNg]⟩
  have h1 : (zEt acc x).Pairwise hlt := zFy zIA (fun _ _ => zU3) heq (fun a b h1 h2 => zU2 h1 (fun e => h2 e.symm)) hp
  obtain ⟨h2, h3⟩ := zFN more (zEt acc x) h1
  refine ⟨h2, fun h => ?_⟩
  rw [List.foldl_cons, h3 h, show (h ∈ zEt acc x ↔ h ∈ acc ∨ h = x) from zIx heq, List.mem_cons, or_assoc]
theorem zIy {p : Ty.El zG} {b : Ty.El zA} : ∀ (l : List (Ty.El zA)) (acc : List (Ty.El qY)), acc.Pairwise hlt →
  (l.foldl (yM p b) acc).Pairwise hlt ∧ ∀ h, h ∈ l.foldl (yM p b) acc ↔ h ∈ acc ∨ ∃ x, x ∈ l ∧ x.1 = p ∧ zA1 x b = 0 ∧ h ∈ x.2.2.2.2.2.2.2.2.2.2.2.1
 | [], acc, hp => ⟨hp, fun h => by simp⟩
 | x :: l, acc, hp => by
  cases hc : zG7 x.1 p && (zA1 x b == 0) with
  | true =>
   have hs : yM p b acc x = x.2.2.2.2.2.2.2.2.2.2.2.1.foldl zEt acc := by unfold yM; rw [hc]; rfl
   have hc2 : x.1 = p ∧ zA1 x b = 0 := by
    rw [Bool.and_eq_true] at hc
    exact ⟨zCm.1 hc.1, by simpa using hc.2⟩
   obtain ⟨h1, h2⟩ := zFN x.2.2.2.2.2.2.2.2.2.2.2.1 acc hp
   rw [← hs] at h1 h2
   obtain ⟨h3, h4⟩ := zIy l (yM p b acc x) h1
   refine ⟨h3, fun h => ?_⟩
   rw [List.foldl_cons, h4 h, h2 h]
   constructor
   ·rintro ((h | h) | ⟨y, hy, g⟩)
    ·exact .inl h
    ·exact .inr ⟨x, by simp, hc2.1, hc2.2, h⟩
    ·exact .inr ⟨y, List.mem_cons_of_mem _ hy, g⟩
   ·rintro (h | ⟨y, hy, g⟩)
    ·exact .inl (.inl h)
    ·rcases List.mem_cons.1 hy with rfl | hy
     ·exact .inl (.inr g.2.2)
     ·exact .inr ⟨y, hy, g⟩
  | false =>
   have hs : yM p b acc x = acc := by unfold yM; rw [hc]; rfl
   have hc2 : ¬ (x.1 = p ∧ zA1 x b = 0) := by
    rintro ⟨h1, h2⟩
    rw [zCm.2 h1, h2] at hc
    cases hc
   obtain ⟨h3, h4⟩ := zIy l acc hp
   rw [List.foldl_cons, hs]
   refine ⟨h3, fun h => ?_⟩
   rw [h4 h]
   constructor
   ·rintro (h | ⟨y, hy, g⟩)
    ·exact .inl h
    ·exact .inr ⟨y, List.mem_cons_of_mem _ hy, g⟩
   ·rintro (h | ⟨y, hy, g⟩)
    ·exact .inl h
    ·rcases List.mem_cons.1 hy with rfl | hy
     ·exact absurd ⟨g.1, g.2.1⟩ hc2
     ·exact .inr ⟨y, hy, g⟩
theorem x6 (l : List (Ty.El zA)) (p : Ty.El zG) (b : Ty.El zA) : (zDe l p b).Pairwise hlt := (zIy l [] List.Pairwise.nil).1
theorem zCs (l : List (Ty.El zA)) (p : Ty.El zG) (b : Ty.El zA) (h : Ty.El qY) : h ∈ zDe l p b ↔ ∃ x, x ∈ l ∧ x.1 = p ∧ zA1 x b = 0 ∧ h ∈ x.2.2.2.2.2.2.2.2.2.2.2.1 := by
 have := (zIy (p := p) (b := b) l [] List.Pairwise.nil).2 h
 rw [show zDe l p b = l.foldl (yM p b) [] from rfl, this]
 simp
noncomputable def vB (p : Ty.El zG) (l : List (Ty.El zA)) : List (Ty.El zA) := zIE (fun x : Ty.El zA => x.1) p l
theorem zRx (p : Ty.El zG) (x : Ty.El zA) (l : List (Ty.El zA)) : vB p (x :: l) = if x.1 = p then x :: vB p l else vB p l := by
 unfold vB zIE
 rw [List.filter_cons]
 by_cases h : x.1 = p
 ·simp [h]
 ·simp [h]
theorem zAq {p : Ty.El zG} {x : Ty.El zA} {l : List (Ty.El zA)} : x ∈ vB p l ↔ x ∈ l ∧ x.1 = p := by
 unfold vB zIE
 rw [List.mem_filter]
 simp
def zIY (c : Option (Ty.El zA)) (l : List (Ty.El zA)) : Option (Ty.El zA) := l.foldl (fun c x => bif zSf x c then some x else c) c
theorem zCz {p : Ty.El zG} : ∀ (l : List (Ty.El zA)) (c : Option (Ty.El zA)), l.foldl (zKp p) c = zIY c (vB p l)
 | [], c => rfl
 | x :: l, c => by
  rw [List.foldl_cons, zRx]
  by_cases h : x.1 = p
  ·rw [if_pos h]
   have hb : zKp p c x = bif zSf x c then some x else c := by unfold zKp; rw [zCm.2 h]; rfl
   rw [hb, zCz l]
   rfl
  ·rw [if_neg h]
   have hp : zG7 x.1 p = false := by
    rw [Bool.eq_false_iff]
    exact fun hh => h (zCm.1 hh)
   have hb : zKp p c x = c := by unfold zKp; rw [hp]; rfl
   rw [hb, zCz l]
theorem zCA (l : List (Ty.El zA)) (p : Ty.El zG) : zCB l p = zIY none (vB p l) := zCz l none
theorem zKa {l l' : List (Ty.El zA)} (h : zA5 (fun x : Ty.El zA => x.1) l l') : zAi l = zAi l' := by
 have hm : ∀ x, x ∈ l ↔ x ∈ l' := by
  intro x
  have h1 := @zAq x.1 x l
  have h2 := @zAq x.1 x l'
  have h3 : vB x.1 l = vB x.1 l' := h x.1
  rw [h3] at h1
  constructor
  ·intro hx; exact (h2.1 (h1.2 ⟨hx, rfl⟩)).1
  ·intro hx; exact (h1.1 (h2.2 ⟨hx, rfl⟩)).1
 have hP : zPW l = zPW l' := zBb zFX (zFp l) (zFp l') (fun p => by
  rw [zIb, zIb]
  exact ⟨fun ⟨x, hx, e⟩ => ⟨x, (hm x).1 hx, e⟩, fun ⟨x, hx, e⟩ => ⟨x, (hm x).2 hx, e⟩⟩)
 unfold zAi
 rw [hP]
 congr 1
 funext p
 unfold mrg
 have hb : zCB l p = zCB l' p := by
  rw [zCA, zCA]
  exact congrArg (zIY none) (h p)
 rw [hb]
 cases zCB l' p with
 | none => rfl
 | some b =>
  have hh : zDe l p b = zDe l' p b := zBb zIA (x6 _ _ _) (x6 _ _ _) (fun h' => by
   rw [zCs, zCs]
   exact ⟨fun ⟨x, hx, e⟩ => ⟨x, (hm x).1 hx, e⟩, fun ⟨x, hx, e⟩ => ⟨x, (hm x).2 hx, e⟩⟩)
  rw [Option.map_some, Option.map_some, hh]
end Go.Ve

namespace Go.Ve
open Go
def wP {α : Type} (eq : α → α → Bool) : List α → List α
 | [] => []
 | [x] => [x]
 | x :: y :: r => bif eq x y then wP eq (y :: r) else x :: wP eq (y :: r)
theorem zBY {α : Type} {eq : α → α → Bool} (he : ∀ x y, eq x y = true ↔ x = y) (z : α) : ∀ (l : List α), z ∈ wP eq l ↔ z ∈ l
 | [] => Iff.rfl
 | [x] => Iff.rfl
 | x :: y :: r => by
  simp only [wP]
  cases h : eq x y with
  | true =>
   rw [cond_true, zBY he z (y :: r), (he x y).1 h]
   simp
  | false =>
   rw [cond_false, List.mem_cons, zBY he z (y :: r), List.mem_cons (a := z) (b := x)]
theorem zEJ {α : Type} {eq : α → α → Bool} {R : α → α → Prop} (he : ∀ x y, eq x y = true ↔ x = y) (ho : Ord R) (htot : ∀ x y, ¬ R y x → x ≠ y → R x y) : ∀ (l : List α), l.Pairwise (fun x y => ¬ R y x) → (wP eq l).Pairwise R
 | [], _ => List.Pairwise.nil
 | [x], _ => List.pairwise_singleton _ _
 | x :: y :: r, hp => by
  have hp2 := hp
  rw [List.pairwise_cons] at hp
  have ih := zEJ he ho htot (y :: r) hp.2
  simp only [wP]
  cases h : eq x y with
  | true => exact ih
  | false =>
   rw [cond_false, List.pairwise_cons]
   refine ⟨fun z hz => ?_, ih⟩
   have hne : x ≠ y := fun e => by rw [(he x y).2 e] at h; cases h
   have hxy : R x y := htot x y (hp.1 y (by simp)) hne
   have hz2 := (zBY he z (y :: r)).1 hz
   rcases List.mem_cons.1 hz2 with rfl | hz3
   ·exact hxy
   ·have hyz : ¬ R z y := by
     have := hp.2
     rw [List.pairwise_cons] at this
     exact this.1 z hz3
    exact Classical.byContradiction (fun hn => ho.tr y z x hyz hn hxy)
theorem zMa (a b : Ty.El qY) : zNg a b = true ↔ a = b := ⟨fun h => zD4 h, fun h => by subst h; simp [zNg]⟩
theorem zOR {l : List (Ty.El zA)} {p : Ty.El zG} {b : Ty.El zA} {hs : List (Ty.El qY)} (hp : hs.Pairwise (fun x y => ¬ hlt y x)) (hm : ∀ h, h ∈ hs ↔ ∃ x, x ∈ l ∧ x.1 = p ∧ zA1 x b = 0 ∧ h ∈ x.2.2.2.2.2.2.2.2.2.2.2.1) :
  wP zNg hs = zDe l p b :=
 zBb zIA (zEJ zMa zIA (fun _ _ h1 h2 => zU2 h1 h2) hs hp) (x6 l p b) (fun h => by rw [zBY zMa, hm, zCs])
end Go.Ve

namespace Go.Ve
open Go
set_option maxRecDepth 100000
theorem zOQ : zY = yL zK := rfl
theorem zOn : ∀ n, zX n = zAm zK n := by
 intro n
 induction n with
 | zero => rfl
 | succ n ih =>
  show kP (zX n) = zFd zK (zAm zK n)
  rw [ih]
  rfl
theorem zPw : qB = zDm zK := zOn 1048576
theorem zS9 : qJ = zHS zK := by
 unfold qJ zHS
 rw [zPw, zOQ]
theorem zMZ : qF = zCS zK := by
 unfold qF zCS
 rw [zS9]
theorem zTu : zKs rlt (fun x : Ty.El zA => x.1) where
 ord := zOA
 ne := fun x y h e => by
  unfold rlt at h
  rw [e] at h
  exact zFX.asym _ _ h h
theorem zXx (x y : Ty.El zA) : Wp (zK (x, y, ())) (fun c => c < 0 ↔ rlt x y) := by
 unfold zK
 dsimp only
 exact zC (qV (zHZ _ _) (zB zIW))
theorem zEv (l : List (Ty.El zA)) (hl : l.length ≤ 1048576) :
  Wp (qF l ((), ())) (fun r => r.1.length = l.length ∧ zA5 (fun x : Ty.El zA => x.1) l r.1 ∧ r.1.Pairwise (fun x y => ¬ rlt y x)) := by
 rw [zMZ]
 exact zJd zTu zXx l hl
end Go.Ve
