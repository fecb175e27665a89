/-
  law21, law23: one step at the fixed network; the sanity checks.
  The law's contract: law21_ControlStates.
-/
import Derived.Test.YthhmapljcdohnaaGreatCs23
import Derived.Test.YthhmapljcdohnaaGreatCs22
import Derived.Test.YthhmapljcdohnaaGreatCs19
import Derived.Test.YthhmapljcdohnaaGreatCs13
set_option linter.unusedVariables false
set_option linter.unusedSimpArgs false
namespace Go.Ve
open Go Go.Proofs
set_option maxRecDepth 1000000
set_option maxHeartbeats 0
set_option synthInstance.maxSize 1000000
set_option synthInstance.maxHeartbeats 4000000
noncomputable def control_tablesOf : ElS [(.sl tTables), tI] → Option (RTy.El (.p tTables)) := fun x => match x with
  | (a1, a2, ()) =>
    Option.bind (bif decide (a2 < (0 : Int)) then some true else some (decide (a2 ≥ (↑(List.length a1) : Int)))) fun (s0 : Bool) =>
      bif s0 then some ([], [], [], [], ()) else Option.bind (idx a1 a2) fun (y1 : Ty.El tTables) => some y1
noncomputable def control_Step : ElS [tView, (.sl tTables), tI] → Option (RTy.El (.p tTables)) := fun x => match x with
  | (a1, a2, a3, ()) =>
    Option.bind (bif decide (a3 < (0 : Int)) then some true else some (decide (a3 ≥ (↑(List.length a1.fst.fst) : Int)))) fun (s0 : Bool) =>
      bif s0 then some ([], [], [], [], ())
      else
        Option.bind (control_tablesOf (a2, a3, ())) fun (y1 : List (Ty.El tRoute) × List (Ty.El tRoute) × List (Ty.El tRoute) × List (Ty.El tRoute) × Unit) =>
          Option.bind (news (24 : Nat) (↑(List.length a1.fst.fst) : Int) []) fun (y2 : List (List (Ty.El tRoute))) =>
            Option.bind (news (24 : Nat) (↑(List.length a1.fst.fst) : Int) []) fun (y3 : List (List (Ty.El tRoute))) =>
              Option.bind
                (loopX
                  (fun (s20 : Int × List (List (Ty.El tRoute)) × List (List (Ty.El tRoute))) =>
                    bif decide (s20.fst < (↑(List.length a1.fst.fst) : Int)) then
                      Option.bind (idx a1.fst.fst s20.fst) fun (y21 : Ty.El tRouter) =>
                        Option.bind (control_tablesOf (a2, s20.fst, ())) fun (y22 : List (Ty.El tRoute) × List (Ty.El tRoute) × List (Ty.El tRoute) × List (Ty.El tRoute) × Unit) =>
                          Option.bind (rib_Redistribute_C (y21, y21.snd.snd.snd.snd.snd.snd.snd.snd.fst.snd.snd.snd.fst, y22.snd.snd.snd.fst, (3 : Int), ()))
                            fun (y23 : List (Ty.El tRoute)) =>
                            Option.bind (idx s20.snd.fst s20.fst) fun (y24 : List (Ty.El tRoute)) =>
                              Option.bind (atN s20.snd.fst (Int.toNat s20.fst)) fun (y25 : List (Ty.El tRoute)) =>
                                Option.bind (idx s20.snd.snd s20.fst) fun (y26 : List (Ty.El tRoute)) =>
                                  Option.bind (atN s20.snd.snd (Int.toNat s20.fst)) fun (y27 : List (Ty.El tRoute)) =>
                                    some
                                      (Sum.inl
                                        (IntKind.wrap IntKind.i64 (s20.fst + (1 : Int)), List.set s20.snd.fst (Int.toNat s20.fst) y23,
                                          List.set s20.snd.snd (Int.toNat s20.fst) y22.snd.fst))
                    else some (Sum.inr s20.snd))
                  ((0 : Int), y2, y3))
                fun (s28 : List (List (Ty.El tRoute)) × List (List (Ty.El tRoute))) =>
                Option.bind (idx a1.fst.fst a3) fun (y29 : Ty.El tRouter) =>
                  Option.bind (rib_Redistribute_C (y29, y29.snd.snd.snd.snd.snd.snd.snd.snd.snd.fst.snd.snd.snd.snd.fst, y1.snd.snd.snd.fst, (4 : Int), ()))
                    fun (y30 : List (Ty.El tRoute)) =>
                    Option.bind (linkstate_Routes_C (a1, s28.fst, a3, ())) fun (y34 : List (Ty.El tRoute)) =>
                      Option.bind (distvector_Table_C (a1, s28.snd, y30, a3, ())) fun (y35 : List (Ty.El tRoute)) =>
                        Option.bind (pathvector_Table_C (a1, a2, a3, ())) fun (y36 : List (Ty.El tRoute)) =>
                          Option.bind (static_Connected_C (a1, a3, ())) fun (y42 : List (Ty.El tRoute)) =>
                            Option.bind (static_Active_C (a1, y1.snd.snd.snd.fst, a3, ())) fun (y43 : List (Ty.El tRoute)) =>
                              Option.bind (rib_Candidates_C ((y34, y35, y36, [], ()), ())) fun (y44 : List (Ty.El tRoute)) =>
                                Option.bind (slices_Concat_Route ([y42, y43, y44], ())) fun (y45 : List (Ty.El tRoute)) =>
                                  Option.bind (rib_Select_C (y45, ())) fun (y46 : List (Ty.El tRoute)) => some (y34, y35, y36, y46, ())

noncomputable def control_mix : ElS [(.int .u64), tI] → Option (RTy.El (.p (.int .u64))) := fun x => match x with
  | (a1, a2, ()) =>
    some
      (IntKind.wrap IntKind.u64
        (↑(BitVec.toNat
              (BitVec.ofInt (IntKind.bits IntKind.u64)
                  (IntKind.wrap IntKind.u64
                    (IntKind.wrap IntKind.u64
                        (↑(BitVec.toNat (BitVec.ofInt (IntKind.bits IntKind.u64) a1 ^^^ BitVec.ofInt (IntKind.bits IntKind.u64) (IntKind.wrap IntKind.u64 a2))) : Int) *
                      (1099511628211 : Int))) ^^^
                BitVec.ofInt (IntKind.bits IntKind.u64)
                  (Int.fdiv
                    (IntKind.wrap IntKind.u64
                      (IntKind.wrap IntKind.u64
                          (↑(BitVec.toNat (BitVec.ofInt (IntKind.bits IntKind.u64) a1 ^^^ BitVec.ofInt (IntKind.bits IntKind.u64) (IntKind.wrap IntKind.u64 a2))) : Int) *
                        (1099511628211 : Int)))
                    ((2 : Int) ^ min (Int.toNat (29 : Int)) (IntKind.bits IntKind.u64))))) :
          Int))
noncomputable def control_mixRoute : ElS [(.int .u64), tRoute] → Option (RTy.El (.p (.int .u64))) := fun x => match x with
  | (a1, a2, ()) =>
    Option.bind (control_mix (a1, IntKind.wrap IntKind.i64 a2.fst.fst, ())) fun (y0 : Int) =>
      Option.bind
        (loopX
          (fun (s7 : Int × Int) =>
            bif
                decide
                  (s7.fst <
                    (↑(List.length
                          [a2.fst.snd.fst, a2.snd.fst, a2.snd.snd.fst, a2.snd.snd.snd.fst, a2.snd.snd.snd.snd.fst, a2.snd.snd.snd.snd.snd.fst, a2.snd.snd.snd.snd.snd.snd.fst,
                            a2.snd.snd.snd.snd.snd.snd.snd.fst, (↑(List.length a2.snd.snd.snd.snd.snd.snd.snd.snd.fst) : Int),
                            (↑(List.length a2.snd.snd.snd.snd.snd.snd.snd.snd.snd.snd.snd.fst) : Int)]) :
                      Int)) then
              Option.bind
                (idx
                  [a2.fst.snd.fst, a2.snd.fst, a2.snd.snd.fst, a2.snd.snd.snd.fst, a2.snd.snd.snd.snd.fst, a2.snd.snd.snd.snd.snd.fst, a2.snd.snd.snd.snd.snd.snd.fst,
                    a2.snd.snd.snd.snd.snd.snd.snd.fst, (↑(List.length a2.snd.snd.snd.snd.snd.snd.snd.snd.fst) : Int),
                    (↑(List.length a2.snd.snd.snd.snd.snd.snd.snd.snd.snd.snd.snd.fst) : Int)]
                  s7.fst)
                fun (y8 : Int) => Option.bind (control_mix (s7.snd, y8, ())) fun (y9 : Int) => some (Sum.inl (IntKind.wrap IntKind.i64 (s7.fst + (1 : Int)), y9))
            else some (Sum.inr s7.snd))
          ((0 : Int), y0))
        fun (s10 : Int) =>
        Option.bind (control_mix (s10, IntKind.wrap IntKind.i64 a2.snd.snd.snd.snd.snd.snd.snd.snd.snd.fst, ())) fun (y13 : Int) =>
          Option.bind (control_mix (y13, IntKind.wrap IntKind.i64 a2.snd.snd.snd.snd.snd.snd.snd.snd.snd.snd.fst, ())) fun (y14 : Int) =>
            Option.bind
              (loopX
                (fun (s21 : Int × Int) =>
                  bif decide (s21.fst < (↑(List.length a2.snd.snd.snd.snd.snd.snd.snd.snd.fst) : Int)) then
                    Option.bind (idx a2.snd.snd.snd.snd.snd.snd.snd.snd.fst s21.fst) fun (y22 : Int) =>
                      Option.bind (control_mix (s21.snd, y22, ())) fun (y23 : Int) => some (Sum.inl (IntKind.wrap IntKind.i64 (s21.fst + (1 : Int)), y23))
                  else some (Sum.inr s21.snd))
                ((0 : Int), y14))
              fun (s24 : Int) =>
              Option.bind
                (loopX
                  (fun (s35 : Int × Int) =>
                    bif decide (s35.fst < (↑(List.length a2.snd.snd.snd.snd.snd.snd.snd.snd.snd.snd.snd.fst) : Int)) then
                      Option.bind (idx a2.snd.snd.snd.snd.snd.snd.snd.snd.snd.snd.snd.fst s35.fst) fun (y36 : Ty.El tHop) =>
                        Option.bind (control_mix (s35.snd, y36.fst, ())) fun (y37 : Int) =>
                          Option.bind (control_mix (y37, IntKind.wrap IntKind.i64 y36.snd.fst, ())) fun (y38 : Int) =>
                            some (Sum.inl (IntKind.wrap IntKind.i64 (s35.fst + (1 : Int)), y38))
                    else some (Sum.inr s35.snd))
                  ((0 : Int), s24))
                fun (s39 : Int) => some s39
noncomputable def control_checksum : ElS [(.sl tTables)] → Option (RTy.El (.p (.int .u64))) := fun x => match x with
  | (a1, ()) =>
    Option.bind
      (loopX
        (fun (s43 : Int × Int) =>
          bif decide (s43.fst < (↑(List.length a1) : Int)) then
            Option.bind
              (Option.bind (idx a1 s43.fst) fun (y44 : Ty.El tTables) =>
                loopX
                  (fun (s45 : Int × Int) =>
                    bif decide (s45.fst < (↑(List.length [y44.fst, y44.snd.fst, y44.snd.snd.fst, y44.snd.snd.snd.fst]) : Int)) then
                      Option.bind
                        (Option.bind (idx [y44.fst, y44.snd.fst, y44.snd.snd.fst, y44.snd.snd.snd.fst] s45.fst) fun (y46 : List (Ty.El tRoute)) =>
                          Option.bind (control_mix (s45.snd, (↑(List.length y46) : Int), ())) fun (y47 : Int) =>
                            loopX
                              (fun (s48 : Int × Int) =>
                                bif decide (s48.fst < (↑(List.length y46) : Int)) then
                                  Option.bind (idx y46 s48.fst) fun (y49 : Ty.El tRoute) =>
                                    Option.bind (control_mixRoute (s48.snd, y49, ())) fun (y50 : Int) => some (Sum.inl (IntKind.wrap IntKind.i64 (s48.fst + (1 : Int)), y50))
                                else some (Sum.inr s48.snd))
                              ((0 : Int), y47))
                        fun (s51 : Int) => some (Sum.inl (IntKind.wrap IntKind.i64 (s45.fst + (1 : Int)), s51))
                    else some (Sum.inr s45.snd))
                  ((0 : Int), s43.snd))
              fun (s52 : Int) => some (Sum.inl (IntKind.wrap IntKind.i64 (s43.fst + (1 : Int)), s52))
          else some (Sum.inr s43.snd))
        ((0 : Int), IntKind.wrap IntKind.u64 (↑(List.length a1) : Int)))
      fun (s53 : Int) => some s53

noncomputable def control_Round : ElS [tView, (.sl tTables)] → Option (RTy.El (.p (.sl tTables))) := fun x => match x with
  | (a1, a2, ()) =>
    Option.bind (news (96 : Nat) (↑(List.length a1.fst.fst) : Int) ([], [], [], [], ())) fun (y0 : List (Ty.El tTables)) =>
      Option.bind
        (loopX
          (fun (s9 : Int × List (Ty.El tTables)) =>
            bif decide (s9.fst < (↑(List.length y0) : Int)) then
              Option.bind (control_Step (a1, a2, s9.fst, ())) fun (y10 : List (Ty.El tRoute) × List (Ty.El tRoute) × List (Ty.El tRoute) × List (Ty.El tRoute) × Unit) =>
                Option.bind (idx s9.snd s9.fst) fun (y11 : Ty.El tTables) =>
                  Option.bind (atN s9.snd (Int.toNat s9.fst)) fun (y12 : Ty.El tTables) =>
                    some (Sum.inl (IntKind.wrap IntKind.i64 (s9.fst + (1 : Int)), List.set s9.snd (Int.toNat s9.fst) y10))
            else some (Sum.inr s9.snd))
          ((0 : Int), y0))
        fun (s13 : List (Ty.El tTables)) => some s13
noncomputable def control_Run : ElS [tView] → Option (RTy.El (.p tResult)) := fun x => match x with
  | (a1, ()) =>
    Option.bind (control_Empty (a1, ())) fun (y0 : List (Ty.El tTables)) =>
      Option.bind (idx [y0] (0 : Int)) fun (y1 : List (Ty.El tTables)) =>
        Option.bind (atN [y0] (Int.toNat (0 : Int))) fun (y2 : List (Ty.El tTables)) =>
          Option.bind (control_checksum (y2, ())) fun (y3 : Int) =>
            cut2
              (loopX
                (fun (s26 : List (List (Ty.El tTables)) × List Int × Int × Ty.El tResult) =>
                  bif decide (s26.snd.snd.fst ≤ (4000 : Int)) then
                    cut2
                      (Option.bind (idx s26.fst (IntKind.wrap IntKind.i64 (s26.snd.snd.fst - (1 : Int)))) fun (y27 : List (Ty.El tTables)) =>
                        Option.bind (atN s26.fst (Int.toNat (IntKind.wrap IntKind.i64 (s26.snd.snd.fst - (1 : Int))))) fun (y28 : List (Ty.El tTables)) =>
                          Option.bind (control_Round (a1, y28, ())) fun (y29 : List (Ty.El tTables)) =>
                            Option.bind (idx s26.fst (IntKind.wrap IntKind.i64 (s26.snd.snd.fst - (1 : Int)))) fun (y30 : List (Ty.El tTables)) =>
                              Option.bind (atN s26.fst (Int.toNat (IntKind.wrap IntKind.i64 (s26.snd.snd.fst - (1 : Int))))) fun (y31 : List (Ty.El tTables)) =>
                                Option.bind (control_Same (y29, y31, ())) fun (y32 : Bool) =>
                                  bif y32 then some (Sum.inr (Sum.inr (Sum.inr ((1 : Int), IntKind.wrap IntKind.i64 (s26.snd.snd.fst - (1 : Int)), (0 : Int), y29, ()))))
                                  else
                                    Option.bind (control_checksum (y29, ())) fun (y33 : Int) =>
                                      cut2
                                        (loopX
                                          (fun (s34 : Int × List (List (Ty.El tTables)) × List Int × List (List (Ty.El tTables)) × Ty.El tResult) =>
                                            bif decide (s34.fst < (↑(List.length s26.fst) : Int)) then
                                              Option.bind (idx s34.snd.fst s34.fst) fun (y35 : List (Ty.El tTables)) =>
                                                Option.bind (atN s34.snd.fst (Int.toNat s34.fst)) fun (y36 : List (Ty.El tTables)) =>
                                                  Option.bind
                                                    (Option.bind (idx s34.snd.snd.fst s34.fst) fun (y37 : Int) =>
                                                      Option.bind (atN s34.snd.snd.fst (Int.toNat s34.fst)) fun (y38 : Int) =>
                                                        bif y38 == y33 then
                                                          Option.bind (control_Same (y36, y29, ())) fun (y39 : Bool) => some (y39, s34.snd.fst, s34.snd.snd.fst, s34.snd.snd.snd.fst)
                                                        else some (false, s34.snd.fst, s34.snd.snd.fst, s34.snd.snd.snd.fst))
                                                    fun (s40 : Bool × List (List (Ty.El tTables)) × List Int × List (List (Ty.El tTables))) =>
                                                    bif s40.fst then
                                                      some
                                                        (Sum.inr
                                                          (Sum.inr (Sum.inr (Sum.inr (Sum.inr ((2 : Int), s34.fst, IntKind.wrap IntKind.i64 (s26.snd.snd.fst - s34.fst), y29, ()))))))
                                                    else
                                                      some
                                                        (Sum.inl (IntKind.wrap IntKind.i64 (s34.fst + (1 : Int)), s40.snd.fst, s40.snd.snd.fst, s40.snd.snd.snd, s34.snd.snd.snd.snd))
                                            else some (Sum.inr (Sum.inl (s34.snd.snd.snd.fst, s34.snd.snd.fst, s34.snd.snd.snd.snd))))
                                          ((0 : Int), s26.fst, s26.snd.fst, s26.fst, s26.snd.snd.snd))
                                        fun (s41 : List (List (Ty.El tTables)) × List Int × Ty.El tResult) =>
                                        Option.bind (app (24 : Nat) s41.fst [y29]) fun (y42 : List (List (Ty.El tTables))) =>
                                          Option.bind (app (8 : Nat) s41.snd.fst [y33]) fun (y43 : List Int) => some (Sum.inl (y42, y43, s41.snd.snd)))
                      fun (s44 : List (List (Ty.El tTables)) × List Int × Ty.El tResult) =>
                      some (Sum.inl (s44.fst, s44.snd.fst, IntKind.wrap IntKind.i64 (s26.snd.snd.fst + (1 : Int)), s44.snd.snd))
                  else some (Sum.inr (Sum.inl (s26.fst, s26.snd.snd.snd))))
                ([y0], [y3], (1 : Int), (0 : Int), (0 : Int), (0 : Int), [], ()))
              fun (s45 : List (List (Ty.El tTables)) × Ty.El tResult) =>
              Option.bind (idx s45.fst (4000 : Int)) fun (y46 : List (Ty.El tTables)) =>
                Option.bind (atN s45.fst (Int.toNat (4000 : Int))) fun (y47 : List (Ty.El tTables)) => some ((3 : Int), (4000 : Int), (0 : Int), y47, ())

theorem ok_rib_Redistribute_C : OkX 139 [tRouter, (.sl tRedist), (.sl tRoute), tI] (.p (.sl tRoute)) rib_Redistribute_C := ok_runU _ _ _
theorem ok_distvector_Table_C : OkX 141 [tView, (.sl (.sl tRoute)), (.sl tRoute), tI] (.p (.sl tRoute)) distvector_Table_C := ok_runU _ _ _
theorem ok_pathvector_Table_C : OkX 142 [tView, (.sl tTables), tI] (.p (.sl tRoute)) pathvector_Table_C := ok_runU _ _ _
theorem ok_static_Connected_C : OkX 145 [tView, tI] (.p (.sl tRoute)) static_Connected_C := ok_runU _ _ _
theorem ok_static_Active_C : OkX 146 [tView, (.sl tRoute), tI] (.p (.sl tRoute)) static_Active_C := ok_runU _ _ _
theorem ok_rib_Candidates_C : OkX 147 [tTables] (.p (.sl tRoute)) rib_Candidates_C := ok_runU _ _ _
theorem ok_rib_Select_C : OkX 143 [(.sl tRoute)] (.p (.sl tRoute)) rib_Select_C := ok_runU _ _ _
theorem ok_control_tablesOf : OkX 138 [(.sl tTables), tI] (.p tTables) control_tablesOf := fX [] (A := (jl [jj 6 22369280 [] [.t 12 .bool]])) (fn := Tryz.f138) (by kernel_rfl) (by kernel_rfl) (by rintro ⟨⟩ ⟨a1, a2, ⟨⟩⟩; kernel_rfl)
noncomputable def e_control_tablesOf : Ent := entA (by kernel_rfl) ok_control_tablesOf
noncomputable def e_rib_Redistribute_C : Ent := entA (by kernel_rfl) ok_rib_Redistribute_C
noncomputable def e_linkstate_Routes_C : Ent := entA (by kernel_rfl) ok_linkstate_Routes_C
noncomputable def e_distvector_Table_C : Ent := entA (by kernel_rfl) ok_distvector_Table_C
noncomputable def e_pathvector_Table_C : Ent := entA (by kernel_rfl) ok_pathvector_Table_C
noncomputable def e_static_Connected_C : Ent := entA (by kernel_rfl) ok_static_Connected_C
noncomputable def e_static_Active_C : Ent := entA (by kernel_rfl) ok_static_Active_C
noncomputable def e_rib_Candidates_C : Ent := entA (by kernel_rfl) ok_rib_Candidates_C
noncomputable def e_slices_Concat_Route : Ent := entA (by kernel_rfl) ok_slices_Concat_Route
noncomputable def e_rib_Select_C : Ent := entA (by kernel_rfl) ok_rib_Select_C
theorem ok_control_Step : OkX 89 [tView, (.sl tTables), tI] (.p tTables) control_Step := fX [e_rib_Select_C, e_slices_Concat_Route, e_rib_Candidates_C, e_static_Active_C, e_static_Connected_C, e_pathvector_Table_C, e_distvector_Table_C, e_linkstate_Routes_C, e_rib_Redistribute_C, e_control_tablesOf] (A := (jl [jj 6 1501198444134400 [] [.t 25 .bool], jj 29 29037428643919979053871359385821376413696 [] [.t 44 tI, .o 8 34 (.sl tRoute), .o 9 39 (.sl tRoute)], jj 52 29037428643920081812566026629301226766336 [] [.o 8 34 (.sl tRoute), .o 9 39 (.sl tRoute)], jj 63 0 [(32768, 0, 0), (8, 0, 0), (9, 0, 0)] []])) (fn := Tryz.f89) (by kernel_rfl) (by kernel_rfl) (by rintro ⟨⟩ ⟨a1, a2, a3, ⟨⟩⟩; kernel_rfl)
noncomputable def e_control_Step : Ent := entA (by kernel_rfl) ok_control_Step


theorem ok_control_mix : OkX 108 [(.int .u64), tI] (.p (.int .u64)) control_mix := fX [] (A := fun _ => none) (fn := Tryz.f108) (by kernel_rfl) (by kernel_rfl) (by rintro ⟨⟩ ⟨a1, a2, ⟨⟩⟩; kernel_rfl)
noncomputable def e_control_mix : Ent := entA (by kernel_rfl) ok_control_mix
theorem ok_control_mixRoute : OkX 109 [(.int .u64), tRoute] (.p (.int .u64)) control_mixRoute := fX [e_control_mix] (A := (jl [jj 13 422543752471705189143302639617 [] [.t 42 tI, .t 0 (.int .u64)], jj 28 422550200076076467159841116161 [] [.t 0 (.int .u64)], jj 37 464591769086743795897338643709186036269057 [] [.t 62 tI, .t 0 (.int .u64)], jj 52 464598747533721666705671388696252508078081 [] [.t 0 (.int .u64)], jj 57 1995436872434799186279933502887674052639084560515073 [] [.t 73 tI, .t 0 (.int .u64)], jj 72 1995436901704527259351376376153304285490059037114369 [] [.t 0 (.int .u64)], jj 67 0 [(8, 0, 8)] [], jj 31 0 [(9, 0, 8)] []])) (fn := Tryz.f109) (by kernel_rfl) (by kernel_rfl) (by rintro ⟨⟩ ⟨a1, a2, ⟨⟩⟩; kernel_rfl)
noncomputable def e_control_mixRoute : Ent := entA (by kernel_rfl) ok_control_mixRoute
theorem ok_control_checksum : OkX 64 [(.sl tTables)] (.p (.int .u64)) control_checksum := fX [e_control_mixRoute, e_control_mix] (A := (jl [jj 41 6602246132370393580364890176 [] [.t 39 tI, .t 3 (.int .u64)], jj 56 6602346874651466126653669440 [] [.t 3 (.int .u64)], jj 25 26409387504658702405798215744 [] [.t 29 tI, .t 3 (.int .u64)], jj 60 26409387504754779192122166336 [] [.t 3 (.int .u64)], jj 13 105637550019019116791034825792 [] [.t 15 tI, .t 3 (.int .u64)], jj 64 105637550019019116791370370112 [] [.t 3 (.int .u64)]])) (fn := Tryz.f64) (by kernel_rfl) (by kernel_rfl) (by rintro ⟨⟩ ⟨a1, ⟨⟩⟩; kernel_rfl)
noncomputable def e_control_checksum : Ent := entA (by kernel_rfl) ok_control_checksum

@[reducible, instance] noncomputable def c_control_mix : ∀ x, Cmp (control_mix x) := by
  rintro ⟨a1, a2, ⟨⟩⟩
  delta control_mix
  dsimp only
  infer_instance
@[reducible, instance] noncomputable def c_control_mixRoute : ∀ x, Cmp (control_mixRoute x) := by
  rintro ⟨a1, a2, ⟨⟩⟩
  delta control_mixRoute
  dsimp only
  infer_instance
@[reducible, instance] noncomputable def c_control_checksum : ∀ x, Cmp (control_checksum x) := by
  rintro ⟨a1, ⟨⟩⟩
  delta control_checksum
  dsimp only
  infer_instance
@[reducible, instance] noncomputable def c_control_tablesOf : ∀ x, Cmp (control_tablesOf x) := by
  rintro ⟨a1, a2, ⟨⟩⟩
  delta control_tablesOf
  dsimp only
  infer_instance
@[reducible, instance] noncomputable def c_control_Step : ∀ x, Cmp (control_Step x) := by
  rintro ⟨a1, a2, a3, ⟨⟩⟩
  delta control_Step
  dsimp only
  infer_instance
theorem step0_21 : control_Step (view21, [z21], 0, ()) = some s21 := (c_control_Step _).le _ (by kernel_rfl)
theorem step1_21 : control_Step (view21, [s21], 0, ()) = some s21 := (c_control_Step _).le _ (by kernel_rfl)

theorem ok_control_Round : OkX 65 [tView, (.sl tTables)] (.p (.sl tTables)) control_Round := fX [e_control_Step] (A := (jl [jj 13 375299879473152 [] [.t 14 tI, .o 5 11 tTables], jj 28 375299963360256 [] [.o 5 11 tTables]])) (fn := Tryz.f65) (by kernel_rfl) (by kernel_rfl) (by rintro ⟨⟩ ⟨a1, a2, ⟨⟩⟩; kernel_rfl)
noncomputable def e_control_Round : Ent := entA (by kernel_rfl) ok_control_Round
theorem ok_control_Run : OkX 33 [tView] (.p tResult) control_Run := fX [e_control_Same, e_control_Round, e_control_checksum, e_control_Empty] (A := (jl [jj 17 475749230901986627019428656483165039751419232 [] [.o 3 12 (.sl tTables), .o 4 17 (.int .u64), .t 5 tI, .v 2 [.p tResult]], jj 54 443075892957421938615485562034847744 [] [.t 59 .bool, .o 42 12 (.sl tTables), .o 4 17 (.int .u64), .o 3 12 (.sl tTables)], jj 45 7259357160979936735028498344254942544224 [] [.t 44 tI, .o 42 12 (.sl tTables), .o 4 17 (.int .u64), .o 3 12 (.sl tTables), .v 2 [.p tResult]], jj 64 7259357160980014106280953680522123739488 [] [.o 3 12 (.sl tTables), .o 4 17 (.int .u64), .v 2 [.p tResult]], jj 20 475749230901986627019027255332115278752731488 [] [.o 3 12 (.sl tTables), .o 4 17 (.int .u64), .v 2 [.p tResult]], jj 72 475749230901986627019428656483165039751419232 [] [.o 3 12 (.sl tTables), .v 2 [.p tResult]], jj 11 0 [(4, 0, 7)] [], jj 7 0 [(2, 0, 7)] []])) (fn := Tryz.f33) (by kernel_rfl) (by kernel_rfl) (by rintro ⟨⟩ ⟨a1, ⟨⟩⟩; kernel_rfl)
@[reducible, instance] noncomputable def c_slices_Equal_int : ∀ x, Cmp (slices_Equal_int x) := by
  rintro ⟨a1, a2, ⟨⟩⟩
  delta slices_Equal_int
  try dsimp only
  infer_instance
@[reducible, instance] noncomputable def c_slices_Equal_Hop : ∀ x, Cmp (slices_Equal_Hop x) := by
  rintro ⟨a1, a2, ⟨⟩⟩
  delta slices_Equal_Hop
  try dsimp only
  infer_instance
@[reducible, instance] noncomputable def c_route_Same : ∀ x, Cmp (route_Same x) := by
  rintro ⟨a1, a2, ⟨⟩⟩
  delta route_Same
  try dsimp only
  infer_instance
@[reducible, instance] noncomputable def c_slices_EqualFunc_Route : ∀ x, Cmp (slices_EqualFunc_Route x) := by
  rintro ⟨a1, a2, ⟨⟩, ⟨⟩⟩
  delta slices_EqualFunc_Route
  try dsimp only
  infer_instance
@[reducible, instance] noncomputable def c_route_SameAll : ∀ x, Cmp (route_SameAll x) := by
  rintro ⟨a1, a2, ⟨⟩⟩
  delta route_SameAll
  try dsimp only
  infer_instance
@[reducible, instance] noncomputable def c_control_Same_c1 : ∀ x, Cmp (control_Same_c1 x) := by
  rintro ⟨a1, a2, ⟨⟩⟩
  delta control_Same_c1
  try dsimp only
  infer_instance
@[reducible, instance] noncomputable def c_slices_EqualFunc_Tables : ∀ x, Cmp (slices_EqualFunc_Tables x) := by
  rintro ⟨a1, a2, ⟨⟩, ⟨⟩⟩
  delta slices_EqualFunc_Tables
  try dsimp only
  infer_instance
@[reducible, instance] noncomputable def c_control_Same : ∀ x, Cmp (control_Same x) := by
  rintro ⟨a1, a2, ⟨⟩⟩
  delta control_Same
  try dsimp only
  infer_instance
@[reducible, instance] noncomputable def c_control_Empty : ∀ x, Cmp (control_Empty x) := by
  rintro ⟨a1, ⟨⟩⟩
  delta control_Empty
  try dsimp only
  infer_instance
@[reducible, instance] noncomputable def c_control_Round : ∀ x, Cmp (control_Round x) := by
  rintro ⟨a1, a2, ⟨⟩⟩
  delta control_Round
  try dsimp only
  infer_instance
@[reducible, instance] noncomputable def c_control_Run : ∀ x, Cmp (control_Run x) := by
  rintro ⟨a1, ⟨⟩⟩
  delta control_Run
  try dsimp only
  infer_instance
def x21 : Ty.El tResult := (1, 1, 0, [s21], ())
theorem run_21 : control_Run (view21, ()) = some x21 := (c_control_Run _).le _ (by kernel_rfl)
noncomputable def build_at : ElS [tNetwork] → Option (RTy.El (.tu [tTopo, tI])) := atP [tNetwork] (net21, ()) (topo21, 0, ()) noF
noncomputable def step_at : ElS [tView, (.sl tTables), tI] → Option (Ty.El tTables) := atP [tView, (.sl tTables), tI] (view21, [z21], 0, ()) s21 (atP [tView, (.sl tTables), tI] (view21, [s21], 0, ()) s21 noF)

noncomputable def run_at : ElS [tView] → Option (Ty.El tResult) := atP [tView] (view21, ()) x21 noF

noncomputable abbrev specsR : SpecsX U := ((specsC.add 51 (specG (decSW [tNetwork]) (.tu [tTopo, tI]) build_at)).add 89 (specG (decSW [tView, (.sl tTables), tI]) (.p tTables) step_at)).add 33 (specG (decSW [tView]) (.p tResult) run_at)
noncomputable abbrev runR (n : Nat) : Specs U := runF (Γ := U) LF G0 specsR.toS 300 n
theorem table_runR (n : Nat) : Table U Tryz.prog G0 (runR n) :=
  table_fast mixed noCnt (tableX_add (tableX_add (tableX_add (tableX_add (tableX_add (tableX_add tableX_none (by kernel_rfl) (fnOk_wide ok_slices_Clone_int)) (by kernel_rfl) (fnOk_wide ok_slices_Clone_Hop)) (by kernel_rfl) (fnOk_wide ok_slices_Clone_Route)) (by kernel_rfl) (fnOk_at ok_topo_BuildC (at_point build21 at_none))) (by kernel_rfl) (fnOk_at ok_control_Step (at_point step0_21 (at_point step1_21 at_none)))) (by kernel_rfl) (fnOk_at ok_control_Run (at_point run_21 at_none))) 404 364 300 n
theorem sane18 : runR 16 18 () [] = some ((), .p (.val (.bool true))) := by kernel_rfl

theorem ok_law21_sane : OkX 18 [] (.p .bool) law21_sane := by
  refine fnOk_wkS ((table_runR 16).ok 18) ?_
  intro s ds r h
  cases ds with
  | nil =>
    have h : some ((), RV.p (.val (.bool true))) = some r := h
    rw [← h]; exact sane18
  | cons d ds => cases h
end Go.Ve

namespace Go.Ve
open Go Go.Proofs
set_option maxRecDepth 1000000
set_option maxHeartbeats 0
noncomputable def e_law21_sane : Ent := entA (by kernel_rfl) ok_law21_sane
theorem ok_law21_ControlStates : OkX 4 [tNetwork, (.sl tI), (.sl tTables), (.sl tTables)] (.p .bool) law21_ControlStates := fX [e_law21_sane, e_ref24_Same, e_control_Same, e_control_Empty, e_ref24_Valid, e_control_Valid, e_law13_View] (A := (jl [jj 10 384307145295790080 [] [.t 29 .bool], jj 30 464598858302721315447086675185884316303360 [] [.t 69 .bool], jj 21 464598858302721315448660413039672666685440 [] [.t 11 tI], jj 36 464598858302721315448660413039672666685440 [] [], jj 38 140416388891409582263890238979368940370544678539934801498216660992 [] [.t 8 .bool]])) (fn := Tryz.f4) (by kernel_rfl) (by kernel_rfl) (by rintro ⟨⟩ ⟨a1, a2, a3, a4, ⟨⟩⟩; kernel_rfl)

end Go.Ve
