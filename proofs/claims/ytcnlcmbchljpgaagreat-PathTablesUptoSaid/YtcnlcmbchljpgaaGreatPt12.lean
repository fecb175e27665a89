/-
  Plain laws: the checks of a network always answer.
  Plain laws: the topology of a network is built, and what it is made of.
  Plain laws: the topology of a network is built: the walk.
  Plain laws: views.
  Plain laws: the checks of routes and tables always answer.
  Plain laws: equal routes; static routes that are active.
  Plain laws: interfaces that are up.
  Plain laws: masks, networks, and what prefixes contain.
  Plain laws: what the checks of a network say of its interfaces and static routes.
  Plain laws: what the checks of a network say.
  Plain laws: prefixes in order; the sorting of routes; connected routes.
  Plain laws: preference of routes; insertion into ordered lists; the prefixes of routes; hops added.
  Plain laws: static routes that are active.
-/
import Derived.Test.YtcnlcmbchljpgaaGreatPt11
import Derived.Test.YtcnlcmbchljpgaaGreatPt9
set_option linter.unusedVariables false
namespace Go.Ve
open Go
set_option maxRecDepth 1000000
set_option maxHeartbeats 4000000
theorem jW {α:Type} {xs:List α} {i:Int} {y:α} (h:xs[i.toNat]? =some y) (h0:0≤i:=by omega):idx xs i=some y:=by
 rw [idx,if_pos h0];exact h
theorem qJ {α:Type} {xs:List α} {i:Int} {Q:α→Prop} {B:α→Prop} (hB: ∀y,y∈xs→B y) (h0:0≤i) (h1:i<xs.length) (h: ∀y,xs[i.toNat]? =some y→B y→Q y):Wp (idx xs i) Q:=
 wS h0 h1 (fun y hm hy=>h y hy (hB y hm))
structure SmR (r:Ty.El zF):Prop where
 i1:List.length r.2.2.1≤20
 i2:List.length r.2.2.2.1≤20
 i3:List.length r.2.2.2.2.1≤20
 i4:List.length r.2.2.2.2.2.1≤20
 i5:List.length r.2.2.2.2.2.2.1≤20
 i6:List.length r.2.2.2.2.2.2.2.1≤20
 i7:List.length r.2.2.2.2.2.2.2.2.1.2.2.1≤20
 i8:List.length r.2.2.2.2.2.2.2.2.1.2.2.2.1≤20
 i9:List.length r.2.2.2.2.2.2.2.2.2.1.2.2.2.2.1≤20
 i10:List.length r.2.2.2.2.2.2.2.2.2.2.1.2.2.2.1≤20
 i11:List.length r.2.2.2.2.2.2.2.2.2.2.1.2.2.2.2.1≤20
 i12:List.length r.2.2.2.2.2.2.2.2.2.2.1.2.2.2.2.2.1≤20
 i13:List.length r.2.2.2.2.2.2.2.2.2.2.1.2.2.2.2.2.2.1≤20
 i14:List.length r.2.2.2.2.2.2.2.2.2.2.1.2.2.2.2.2.2.2.1≤20
 n1: ∀y,y∈r.2.2.2.1→List.length y.2.1≤20
 n2: ∀y,y∈r.2.2.2.2.1→List.length y.2.1≤20
 n3: ∀y,y∈r.2.2.2.2.2.1→List.length y.2.1≤20
structure qDL (r:Ty.El tPV):Prop where
 i10:List.length r.2.2.2.1≤20
 i11:List.length r.2.2.2.2.1≤20
 i12:List.length r.2.2.2.2.2.1≤20
 i13:List.length r.2.2.2.2.2.2.1≤20
 i14:List.length r.2.2.2.2.2.2.2.1≤20
theorem zFf (a1:Int):Wp (zBA (a1,())) (fun _=>True):=by
 unfold zBA
 refine zC ?_
 refine qA4 (fun _ _=>True) trivial (fun s g h1 h2 _=> ?_) (fun s g _ _ _=>zA (e2r (zA trivial)))
 refine zC ?_
 refine zJ (fun _=> ?_) (fun _=> ?_)
 ·refine zJ (fun _=> ?_) (fun hn=> ?_)
  ·exact zA (zA (e2l ⟨zH (by simp only;omega) (by simp only;omega),trivial⟩))
  ·exfalso
   apply hn
   simp only
   rw [zH (by omega) (by omega),zK2 (by omega) (by omega)]
   omega
 ·exact zA (zA (e2l ⟨zH (by simp only;omega) (by simp only;omega),trivial⟩))
theorem zOc (a1:Ty.El (.int .u8))  :Wp (zDa (a1,())) (fun _=>True):=by
 unfold zDa
 try dsimp only
 repeat' (first
  |with_reducible exact trivial
  |assumption
  |contradiction
  |with_reducible first|refine zA ?_|refine zJ (fun _=> ?_) (fun _=> ?_)|refine zD (fun _=> ?_) (fun _=> ?_)|refine zC ?_
  |omega)
theorem vY (a1:Ty.El (.str))  :Wp (zBz (a1,())) (fun _=>True):=by
 unfold zBz
 try dsimp only
 repeat' (first
  |with_reducible exact trivial
  |assumption
  |contradiction
  |with_reducible first|refine zA ?_|refine (zOc _).mono (fun r _=> ?_)|refine x4 ?_ ?_ (fun y _ _=> ?_)|refine wD (fun _=> ?_) (fun _=> ?_)|refine zJ (fun _=> ?_) (fun _=> ?_)|refine zD (fun _=> ?_) (fun _=> ?_)|refine z8 ?_|refine wZ (fun s _ _=> ?_) (fun s _ _=> ?_)|refine zC ?_|refine e2l ?_|refine e2r ?_
  |exact zH (by omega) (by omega)
  |omega
  |(simp only [aA,av] at*;exact zH (by omega) (by omega)))
theorem jK (a1:Ty.El (tI)) (a2:Ty.El (tI)) (a3:Ty.El (tI))  :Wp (z2 (a1,a2,a3,())) (fun _=>True):=by
 unfold z2
 try dsimp only
 repeat' (first
  |with_reducible exact trivial
  |assumption
  |contradiction
  |with_reducible first|refine zA ?_|refine zJ (fun _=> ?_) (fun _=> ?_)|refine zD (fun _=> ?_) (fun _=> ?_)|refine zC ?_
  |omega)
theorem zFx (a1:Ty.El (tU)) (a2:Ty.El (tI))  :Wp (wU (a1,a2,())) (fun _=>True):=by
 unfold wU
 try dsimp only
 repeat' (first
  |with_reducible exact trivial
  |assumption
  |contradiction
  |with_reducible first|refine zA ?_|refine (zFf _).mono (fun r _=> ?_)|refine zC ?_
  |exact zH (by omega) (by omega)
  |omega
  |(simp only [aA,av] at*;exact zH (by omega) (by omega)))
theorem zK6 (a1:Ty.El (zG)) (a2:Ty.El (tU))  :Wp (uN (a1,a2,())) (fun _=>True):=by
 unfold uN
 try dsimp only
 repeat' (first
  |with_reducible exact trivial
  |assumption
  |contradiction
  |with_reducible first|refine zA ?_|refine (zFf _).mono (fun r _=> ?_)|refine zC ?_
  |exact zH (by omega) (by omega)
  |omega
  |(simp only [aA,av] at*;exact zH (by omega) (by omega)))
theorem zOd (a1:Ty.El (zG)) (a2:Ty.El (zG))  :Wp (wY (a1,a2,())) (fun _=>True):=by
 unfold wY
 try dsimp only
 repeat' (first
  |with_reducible exact trivial
  |assumption
  |contradiction
  |with_reducible first|refine zA ?_|refine (zK6 _ _).mono (fun r _=> ?_)|refine zJ (fun _=> ?_) (fun _=> ?_)|refine zD (fun _=> ?_) (fun _=> ?_)|refine zC ?_
  |omega)
theorem zER (a1:Ty.El (zG)) (a2:Ty.El (zG))  :Wp (uM (a1,a2,())) (fun _=>True):=by
 unfold uM
 try dsimp only
 repeat' (first
  |with_reducible exact trivial
  |assumption
  |contradiction
  |with_reducible first|refine zA ?_|refine (zOd _ _).mono (fun r _=> ?_)|refine zD (fun _=> ?_) (fun _=> ?_)|refine zC ?_
  |omega)
theorem zI4 (a1:Ty.El (.sl qA)) (h0:List.length a1≤20):Wp (kU (a1,())) (fun _=>True):=by
 unfold kU
 try dsimp only
 repeat' (first
  |with_reducible exact trivial
  |assumption
  |contradiction
  |with_reducible first|refine zA ?_|refine (vY _).mono (fun r _=> ?_)|refine (jK _ _ _).mono (fun r _=> ?_)|refine (zFx _ _).mono (fun r _=> ?_)|refine (zER _ _).mono (fun r _=> ?_)|refine wS ?_ ?_ (fun y _ _=> ?_)|refine wD (fun _=> ?_) (fun _=> ?_)|refine zJ (fun _=> ?_) (fun _=> ?_)|refine zD (fun _=> ?_) (fun _=> ?_)|refine z8 ?_|refine wZ (fun s _ _=> ?_) (fun s _ _=> ?_)
  |simp only [jW ‹_[_]? =some _›,ae]
  |with_reducible first|refine zC ?_|refine e2l ?_|refine e2r ?_
  |exact zH (by omega) (by omega)
  |omega
  |(simp only [aA,av] at*;exact zH (by omega) (by omega)))
theorem zAh (a1:Ty.El (zG))  :Wp (w8 (a1,())) (fun _=>True):=by
 unfold w8
 try dsimp only
 repeat' (first
  |with_reducible exact trivial
  |assumption
  |contradiction
  |with_reducible first|refine zA ?_|refine (zFf _).mono (fun r _=> ?_)|refine zJ (fun _=> ?_) (fun _=> ?_)|refine zD (fun _=> ?_) (fun _=> ?_)|refine zC ?_
  |exact zH (by omega) (by omega)
  |omega
  |(simp only [aA,av] at*;exact zH (by omega) (by omega)))
theorem zFe (a1:Ty.El (x6))  :Wp (k9 (a1,())) (fun _=>True):=by
 unfold k9
 try dsimp only
 repeat' (first
  |with_reducible exact trivial
  |assumption
  |contradiction
  |with_reducible first|refine zA ?_|refine (zAh _).mono (fun r _=> ?_)|refine zJ (fun _=> ?_) (fun _=> ?_)|refine zD (fun _=> ?_) (fun _=> ?_)|refine zC ?_
  |omega)
theorem zC7 (a1:Ty.El (.sl j1)) (h0:List.length a1≤20) (h1: ∀y,y∈a1→List.length y.2.1≤20):Wp (yL (a1,())) (fun _=>True):=by
 unfold yL
 try dsimp only
 repeat' (first
  |with_reducible exact trivial
  |assumption
  |contradiction
  |with_reducible first|refine zA ?_|refine (vY _).mono (fun r _=> ?_)|refine (zFe _).mono (fun r _=> ?_)|refine qJ h1 ?_ ?_ (fun y _ _=> ?_)|refine wS ?_ ?_ (fun y _ _=> ?_)|refine wD (fun _=> ?_) (fun _=> ?_)|refine zJ (fun _=> ?_) (fun _=> ?_)|refine zD (fun _=> ?_) (fun _=> ?_)|refine z8 ?_|refine wZ (fun s _ _=> ?_) (fun s _ _=> ?_)
  |simp only [jW ‹_[_]? =some _›,ae]
  |with_reducible first|refine zC ?_|refine e2l ?_|refine e2r ?_
  |exact zH (by omega) (by omega)
  |omega
  |(simp only [aA,av] at*;exact zH (by omega) (by omega)))
theorem zAX (a1:Ty.El (zF)) (a2:Ty.El (.str)) (h0:SmR a1):Wp (jX (a1,a2,())) (fun (r:Int)=> -1≤r∧r< (List.length a1.2.2.2.1:Int)):=by
 have hh0:=h0
 obtain ⟨i1,i2,i3,i4,i5,i6,i7,i8,i9,i10,i11,i12,i13,i14,n1,n2,n3⟩:=hh0
 unfold jX
 try dsimp only
 repeat' (first
  |with_reducible exact trivial
  |exact ⟨i10,i11,i12,i13,i14⟩
  |assumption
  |contradiction
  |with_reducible first|refine zA ?_|refine qJ n1 ?_ ?_ (fun y _ _=> ?_)|refine qJ n2 ?_ ?_ (fun y _ _=> ?_)|refine qJ n3 ?_ ?_ (fun y _ _=> ?_)|refine wS ?_ ?_ (fun y _ _=> ?_)|refine zJ (fun _=> ?_) (fun _=> ?_)|refine zD (fun _=> ?_) (fun _=> ?_)|refine z8 ?_|refine wZ (fun s _ _=> ?_) (fun s _ _=> ?_)
  |simp only [jW ‹_[_]? =some _›,ae]
  |with_reducible first|refine zC ?_|refine e2l ?_|refine e2r ?_
  |exact zH (by omega) (by omega)
  |omega
  |(simp only [aA,av] at*;exact zH (by omega) (by omega))
  |exact ⟨by omega,by omega⟩)
theorem zD9 (a1:Ty.El (zF)) (h0:SmR a1):Wp (kG (a1,())) (fun _=>True):=by
 have hh0:=h0
 obtain ⟨i1,i2,i3,i4,i5,i6,i7,i8,i9,i10,i11,i12,i13,i14,n1,n2,n3⟩:=hh0
 unfold kG
 try dsimp only
 repeat' (first
  |with_reducible exact trivial
  |exact ⟨i10,i11,i12,i13,i14⟩
  |assumption
  |contradiction
  |with_reducible first|refine zA ?_|refine (vY _).mono (fun r _=> ?_)|refine (zAX _ _ ?_).mono (fun r _=> ?_)|refine (jK _ _ _).mono (fun r _=> ?_)|refine qJ n1 ?_ ?_ (fun y _ _=> ?_)|refine qJ n2 ?_ ?_ (fun y _ _=> ?_)|refine qJ n3 ?_ ?_ (fun y _ _=> ?_)|refine wS ?_ ?_ (fun y _ _=> ?_)|refine wD (fun _=> ?_) (fun _=> ?_)|refine zJ (fun _=> ?_) (fun _=> ?_)|refine zD (fun _=> ?_) (fun _=> ?_)|refine z8 ?_|refine wZ (fun s _ _=> ?_) (fun s _ _=> ?_)
  |simp only [jW ‹_[_]? =some _›,ae]
  |with_reducible first|refine zC ?_|refine e2l ?_|refine e2r ?_
  |exact zH (by omega) (by omega)
  |omega
  |(simp only [aA,av] at*;exact zH (by omega) (by omega)))
theorem zPk (a1:Ty.El (zO))  :Wp (zEl (a1,())) (fun _=>True):=by
 unfold zEl
 try dsimp only
 repeat' (first
  |with_reducible exact trivial
  |assumption
  |contradiction
  |with_reducible first|refine zA ?_|refine zJ (fun _=> ?_) (fun _=> ?_)|refine zD (fun _=> ?_) (fun _=> ?_)|refine zC ?_
  |omega)
theorem zSN (a1:Ty.El (zO))  :Wp (zHW (a1,())) (fun _=>True):=by
 unfold zHW
 try dsimp only
 repeat' (first
  |with_reducible exact trivial
  |assumption
  |contradiction
  |with_reducible refine zA ?_
  |omega)
theorem zJZ (a1:Ty.El (zUe))  :Wp (zB1 (a1,())) (fun _=>True):=by
 unfold zB1
 try dsimp only
 repeat' (first
  |with_reducible exact trivial
  |assumption
  |contradiction
  |with_reducible first|refine zA ?_|refine (jK _ _ _).mono (fun r _=> ?_)|refine (zPk _).mono (fun r _=> ?_)|refine (zSN _).mono (fun r _=> ?_)|refine wD (fun _=> ?_) (fun _=> ?_)|refine zD (fun _=> ?_) (fun _=> ?_)|refine zC ?_
  |exact zH (by omega) (by omega)
  |omega
  |(simp only [aA,av] at*;exact zH (by omega) (by omega)))
theorem zC8 (a1:Ty.El (.sl zMK)) (h0:List.length a1≤20) (h1: ∀y,y∈a1→List.length y.2.1≤20):Wp (yN (a1,())) (fun _=>True):=by
 unfold yN
 try dsimp only
 repeat' (first
  |with_reducible exact trivial
  |assumption
  |contradiction
  |with_reducible first|refine zA ?_|refine (vY _).mono (fun r _=> ?_)|refine (zJZ _).mono (fun r _=> ?_)|refine qJ h1 ?_ ?_ (fun y _ _=> ?_)|refine wS ?_ ?_ (fun y _ _=> ?_)|refine wD (fun _=> ?_) (fun _=> ?_)|refine zJ (fun _=> ?_) (fun _=> ?_)|refine zD (fun _=> ?_) (fun _=> ?_)|refine z8 ?_|refine wZ (fun s _ _=> ?_) (fun s _ _=> ?_)
  |simp only [jW ‹_[_]? =some _›,ae]
  |with_reducible first|refine zC ?_|refine e2l ?_|refine e2r ?_
  |exact zH (by omega) (by omega)
  |omega
  |(simp only [aA,av] at*;exact zH (by omega) (by omega)))
theorem zK5 (a1:Ty.El (zF)) (a2:Ty.El (.str)) (h0:SmR a1):Wp (zEn (a1,a2,())) (fun (r:Int)=> -1≤r∧r< (List.length a1.2.2.2.2.2.1:Int)):=by
 have hh0:=h0
 obtain ⟨i1,i2,i3,i4,i5,i6,i7,i8,i9,i10,i11,i12,i13,i14,n1,n2,n3⟩:=hh0
 unfold zEn
 try dsimp only
 repeat' (first
  |with_reducible exact trivial
  |exact ⟨i10,i11,i12,i13,i14⟩
  |assumption
  |contradiction
  |with_reducible first|refine zA ?_|refine qJ n1 ?_ ?_ (fun y _ _=> ?_)|refine qJ n2 ?_ ?_ (fun y _ _=> ?_)|refine qJ n3 ?_ ?_ (fun y _ _=> ?_)|refine wS ?_ ?_ (fun y _ _=> ?_)|refine zJ (fun _=> ?_) (fun _=> ?_)|refine zD (fun _=> ?_) (fun _=> ?_)|refine z8 ?_|refine wZ (fun s _ _=> ?_) (fun s _ _=> ?_)
  |simp only [jW ‹_[_]? =some _›,ae]
  |with_reducible first|refine zC ?_|refine e2l ?_|refine e2r ?_
  |exact zH (by omega) (by omega)
  |omega
  |(simp only [aA,av] at*;exact zH (by omega) (by omega))
  |exact ⟨by omega,by omega⟩)
theorem zCv (a1:Ty.El (zF)) (h0:SmR a1):Wp (k8 (a1,())) (fun _=>True):=by
 have hh0:=h0
 obtain ⟨i1,i2,i3,i4,i5,i6,i7,i8,i9,i10,i11,i12,i13,i14,n1,n2,n3⟩:=hh0
 unfold k8
 try dsimp only
 repeat' (first
  |with_reducible exact trivial
  |exact ⟨i10,i11,i12,i13,i14⟩
  |assumption
  |contradiction
  |with_reducible first|refine zA ?_|refine (jK _ _ _).mono (fun r _=> ?_)|refine (zK5 _ _ ?_).mono (fun r _=> ?_)|refine qJ n1 ?_ ?_ (fun y _ _=> ?_)|refine qJ n2 ?_ ?_ (fun y _ _=> ?_)|refine qJ n3 ?_ ?_ (fun y _ _=> ?_)|refine wS ?_ ?_ (fun y _ _=> ?_)|refine wD (fun _=> ?_) (fun _=> ?_)|refine zJ (fun _=> ?_) (fun _=> ?_)|refine zD (fun _=> ?_) (fun _=> ?_)|refine z8 ?_|refine wZ (fun s _ _=> ?_) (fun s _ _=> ?_)
  |simp only [jW ‹_[_]? =some _›,ae]
  |with_reducible first|refine zC ?_|refine e2l ?_|refine e2r ?_
  |exact zH (by omega) (by omega)
  |omega
  |(simp only [aA,av] at*;exact zH (by omega) (by omega)))
theorem zFw (a1:Ty.El (zF)) (h0:SmR a1):Wp (zB0 (a1,())) (fun _=>True):=by
 have hh0:=h0
 obtain ⟨i1,i2,i3,i4,i5,i6,i7,i8,i9,i10,i11,i12,i13,i14,n1,n2,n3⟩:=hh0
 unfold zB0
 try dsimp only
 repeat' (first
  |with_reducible exact trivial
  |exact ⟨i10,i11,i12,i13,i14⟩
  |assumption
  |contradiction
  |with_reducible first|refine zA ?_|refine (zK5 _ _ ?_).mono (fun r _=> ?_)|refine qJ n1 ?_ ?_ (fun y _ _=> ?_)|refine qJ n2 ?_ ?_ (fun y _ _=> ?_)|refine qJ n3 ?_ ?_ (fun y _ _=> ?_)|refine wS ?_ ?_ (fun y _ _=> ?_)|refine zJ (fun _=> ?_) (fun _=> ?_)|refine zD (fun _=> ?_) (fun _=> ?_)|refine z8 ?_|refine wZ (fun s _ _=> ?_) (fun s _ _=> ?_)
  |simp only [jW ‹_[_]? =some _›,ae]
  |with_reducible first|refine zC ?_|refine e2l ?_|refine e2r ?_
  |exact zH (by omega) (by omega)
  |omega
  |(simp only [aA,av] at*;exact zH (by omega) (by omega)))
theorem zCH (a1:Ty.El (zF)) (a2:Ty.El (tU)) (h0:SmR a1):Wp (xK (a1,a2,())) (fun (r:Int)=> -1≤r∧r< (List.length a1.2.2.1:Int)):=by
 have hh0:=h0
 obtain ⟨i1,i2,i3,i4,i5,i6,i7,i8,i9,i10,i11,i12,i13,i14,n1,n2,n3⟩:=hh0
 unfold xK
 try dsimp only
 repeat' (first
  |with_reducible exact trivial
  |exact ⟨i10,i11,i12,i13,i14⟩
  |assumption
  |contradiction
  |with_reducible first|refine zA ?_|refine qJ n1 ?_ ?_ (fun y _ _=> ?_)|refine qJ n2 ?_ ?_ (fun y _ _=> ?_)|refine qJ n3 ?_ ?_ (fun y _ _=> ?_)|refine wS ?_ ?_ (fun y _ _=> ?_)|refine zJ (fun _=> ?_) (fun _=> ?_)|refine zD (fun _=> ?_) (fun _=> ?_)|refine z8 ?_|refine wZ (fun s _ _=> ?_) (fun s _ _=> ?_)
  |simp only [jW ‹_[_]? =some _›,ae]
  |with_reducible first|refine zC ?_|refine e2l ?_|refine e2r ?_
  |exact zH (by omega) (by omega)
  |omega
  |(simp only [aA,av] at*;exact zH (by omega) (by omega))
  |exact ⟨by omega,by omega⟩)
theorem zJ0 (a1:Ty.El (zF)) (a2:Ty.El (.str)) (h0:SmR a1):Wp (kI (a1,a2,())) (fun (r:Int)=> -1≤r∧r< (List.length a1.2.2.1:Int)):=by
 have hh0:=h0
 obtain ⟨i1,i2,i3,i4,i5,i6,i7,i8,i9,i10,i11,i12,i13,i14,n1,n2,n3⟩:=hh0
 unfold kI
 try dsimp only
 repeat' (first
  |with_reducible exact trivial
  |exact ⟨i10,i11,i12,i13,i14⟩
  |assumption
  |contradiction
  |with_reducible first|refine zA ?_|refine qJ n1 ?_ ?_ (fun y _ _=> ?_)|refine qJ n2 ?_ ?_ (fun y _ _=> ?_)|refine qJ n3 ?_ ?_ (fun y _ _=> ?_)|refine wS ?_ ?_ (fun y _ _=> ?_)|refine zJ (fun _=> ?_) (fun _=> ?_)|refine zD (fun _=> ?_) (fun _=> ?_)|refine z8 ?_|refine wZ (fun s _ _=> ?_) (fun s _ _=> ?_)
  |simp only [jW ‹_[_]? =some _›,ae]
  |with_reducible first|refine zC ?_|refine e2l ?_|refine e2r ?_
  |exact zH (by omega) (by omega)
  |omega
  |(simp only [aA,av] at*;exact zH (by omega) (by omega))
  |exact ⟨by omega,by omega⟩)
theorem zMJ (a1:Ty.El (zF)) (h0:SmR a1):Wp (zAD (a1,())) (fun _=>True):=by
 have hh0:=h0
 obtain ⟨i1,i2,i3,i4,i5,i6,i7,i8,i9,i10,i11,i12,i13,i14,n1,n2,n3⟩:=hh0
 unfold zAD
 try dsimp only
 repeat' (first
  |with_reducible exact trivial
  |exact ⟨i10,i11,i12,i13,i14⟩
  |assumption
  |contradiction
  |with_reducible first|refine zA ?_|refine (zAh _).mono (fun r _=> ?_)|refine (zCH _ _ ?_).mono (fun r _=> ?_)|refine (jK _ _ _).mono (fun r _=> ?_)|refine (zJ0 _ _ ?_).mono (fun r _=> ?_)|refine qJ n1 ?_ ?_ (fun y _ _=> ?_)|refine qJ n2 ?_ ?_ (fun y _ _=> ?_)|refine qJ n3 ?_ ?_ (fun y _ _=> ?_)|refine wS ?_ ?_ (fun y _ _=> ?_)|refine wD (fun _=> ?_) (fun _=> ?_)|refine zJ (fun _=> ?_) (fun _=> ?_)|refine zD (fun _=> ?_) (fun _=> ?_)|refine z8 ?_|refine wZ (fun s _ _=> ?_) (fun s _ _=> ?_)
  |simp only [jW ‹_[_]? =some _›,ae]
  |with_reducible first|refine zC ?_|refine e2l ?_|refine e2r ?_
  |exact zH (by omega) (by omega)
  |omega
  |(simp only [aA,av] at*;exact zH (by omega) (by omega)))
theorem zAa (a1:Ty.El (zF)) (a2:Ty.El (.str)) (h0:SmR a1):Wp (jC (a1,a2,())) (fun (r:Int)=> -1≤r∧r< (List.length a1.2.2.2.2.1:Int)):=by
 have hh0:=h0
 obtain ⟨i1,i2,i3,i4,i5,i6,i7,i8,i9,i10,i11,i12,i13,i14,n1,n2,n3⟩:=hh0
 unfold jC
 try dsimp only
 repeat' (first
  |with_reducible exact trivial
  |exact ⟨i10,i11,i12,i13,i14⟩
  |assumption
  |contradiction
  |with_reducible first|refine zA ?_|refine qJ n1 ?_ ?_ (fun y _ _=> ?_)|refine qJ n2 ?_ ?_ (fun y _ _=> ?_)|refine qJ n3 ?_ ?_ (fun y _ _=> ?_)|refine wS ?_ ?_ (fun y _ _=> ?_)|refine zJ (fun _=> ?_) (fun _=> ?_)|refine zD (fun _=> ?_) (fun _=> ?_)|refine z8 ?_|refine wZ (fun s _ _=> ?_) (fun s _ _=> ?_)
  |simp only [jW ‹_[_]? =some _›,ae]
  |with_reducible first|refine zC ?_|refine e2l ?_|refine e2r ?_
  |exact zH (by omega) (by omega)
  |omega
  |(simp only [aA,av] at*;exact zH (by omega) (by omega))
  |exact ⟨by omega,by omega⟩)
theorem vC (a1:Ty.El (zF)) (a2:Ty.El (.sl qO)) (a3:Ty.El (tI)) (a4:Ty.El (tI)) (a5:Ty.El (tI)) (h0:SmR a1) (h1:List.length a2≤20):Wp (jD (a1,a2,a3,a4,a5,())) (fun _=>True):=by
 have hh0:=h0
 obtain ⟨i1,i2,i3,i4,i5,i6,i7,i8,i9,i10,i11,i12,i13,i14,n1,n2,n3⟩:=hh0
 unfold jD
 try dsimp only
 repeat' (first
  |with_reducible exact trivial
  |exact ⟨i10,i11,i12,i13,i14⟩
  |assumption
  |contradiction
  |with_reducible first|refine zA ?_|refine (jK _ _ _).mono (fun r _=> ?_)|refine (zAa _ _ ?_).mono (fun r _=> ?_)|refine qJ n1 ?_ ?_ (fun y _ _=> ?_)|refine qJ n2 ?_ ?_ (fun y _ _=> ?_)|refine qJ n3 ?_ ?_ (fun y _ _=> ?_)|refine wS ?_ ?_ (fun y _ _=> ?_)|refine wD (fun _=> ?_) (fun _=> ?_)|refine zJ (fun _=> ?_) (fun _=> ?_)|refine zD (fun _=> ?_) (fun _=> ?_)|refine z8 ?_|refine wZ (fun s _ _=> ?_) (fun s _ _=> ?_)
  |simp only [jW ‹_[_]? =some _›,ae]
  |with_reducible first|refine zC ?_|refine e2l ?_|refine e2r ?_
  |exact zH (by omega) (by omega)
  |omega
  |(simp only [aA,av] at*;exact zH (by omega) (by omega)))
theorem zEa (a1:Ty.El (zF)) (h0:SmR a1):Wp (zAj (a1,())) (fun _=>True):=by
 have hh0:=h0
 obtain ⟨i1,i2,i3,i4,i5,i6,i7,i8,i9,i10,i11,i12,i13,i14,n1,n2,n3⟩:=hh0
 unfold zAj
 try dsimp only
 repeat' (first
  |with_reducible exact trivial
  |exact ⟨i10,i11,i12,i13,i14⟩
  |assumption
  |contradiction
  |with_reducible first|refine zA ?_|refine (jK _ _ _).mono (fun r _=> ?_)|refine (zAh _).mono (fun r _=> ?_)|refine (zER _ _).mono (fun r _=> ?_)|refine (vC _ _ _ _ _ ?_ ?_).mono (fun r _=> ?_)|refine qJ n1 ?_ ?_ (fun y _ _=> ?_)|refine qJ n2 ?_ ?_ (fun y _ _=> ?_)|refine qJ n3 ?_ ?_ (fun y _ _=> ?_)|refine wS ?_ ?_ (fun y _ _=> ?_)|refine wD (fun _=> ?_) (fun _=> ?_)|refine zJ (fun _=> ?_) (fun _=> ?_)|refine zD (fun _=> ?_) (fun _=> ?_)|refine z8 ?_|refine wZ (fun s _ _=> ?_) (fun s _ _=> ?_)
  |simp only [jW ‹_[_]? =some _›,ae]
  |with_reducible first|refine zC ?_|refine e2l ?_|refine e2r ?_
  |exact zH (by omega) (by omega)
  |omega
  |(simp only [aA,av] at*;exact zH (by omega) (by omega)))
theorem zEQ (a1:Ty.El (zF)) (h0:SmR a1):Wp (zA7 (a1,())) (fun _=>True):=by
 have hh0:=h0
 obtain ⟨i1,i2,i3,i4,i5,i6,i7,i8,i9,i10,i11,i12,i13,i14,n1,n2,n3⟩:=hh0
 unfold zA7
 try dsimp only
 repeat' (first
  |with_reducible exact trivial
  |exact ⟨i10,i11,i12,i13,i14⟩
  |assumption
  |contradiction
  |with_reducible first|refine zA ?_|refine (jK _ _ _).mono (fun r _=> ?_)|refine (zAX _ _ ?_).mono (fun r _=> ?_)|refine (vC _ _ _ _ _ ?_ ?_).mono (fun r _=> ?_)|refine wD (fun _=> ?_) (fun _=> ?_)|refine zJ (fun _=> ?_) (fun _=> ?_)|refine zD (fun _=> ?_) (fun _=> ?_)|refine zC ?_
  |omega)
theorem zJY (a1:Ty.El (zF)) (h0:SmR a1):Wp (yM (a1,())) (fun _=>True):=by
 have hh0:=h0
 obtain ⟨i1,i2,i3,i4,i5,i6,i7,i8,i9,i10,i11,i12,i13,i14,n1,n2,n3⟩:=hh0
 unfold yM
 try dsimp only
 repeat' (first
  |with_reducible exact trivial
  |exact ⟨i10,i11,i12,i13,i14⟩
  |assumption
  |contradiction
  |with_reducible first|refine zA ?_|refine (jK _ _ _).mono (fun r _=> ?_)|refine (zAa _ _ ?_).mono (fun r _=> ?_)|refine qJ n1 ?_ ?_ (fun y _ _=> ?_)|refine qJ n2 ?_ ?_ (fun y _ _=> ?_)|refine qJ n3 ?_ ?_ (fun y _ _=> ?_)|refine wS ?_ ?_ (fun y _ _=> ?_)|refine zJ (fun _=> ?_) (fun _=> ?_)|refine zD (fun _=> ?_) (fun _=> ?_)|refine z8 ?_|refine wZ (fun s _ _=> ?_) (fun s _ _=> ?_)
  |simp only [jW ‹_[_]? =some _›,ae]
  |with_reducible first|refine zC ?_|refine e2l ?_|refine e2r ?_
  |exact zH (by omega) (by omega)
  |omega
  |(simp only [aA,av] at*;exact zH (by omega) (by omega)))
theorem zCw (a1:Ty.El (tPV)) (h0:qDL a1):Wp (vJ (a1,())) (fun _=>True):=by
 have hh0:=h0
 obtain ⟨i10,i11,i12,i13,i14⟩:=hh0
 unfold vJ
 try dsimp only
 repeat' (first
  |with_reducible exact trivial
  |assumption
  |contradiction
  |with_reducible first|refine zA ?_|refine (zAh _).mono (fun r _=> ?_)|refine wS ?_ ?_ (fun y _ _=> ?_)|refine wD (fun _=> ?_) (fun _=> ?_)|refine zJ (fun _=> ?_) (fun _=> ?_)|refine zD (fun _=> ?_) (fun _=> ?_)|refine z8 ?_|refine wZ (fun s _ _=> ?_) (fun s _ _=> ?_)
  |simp only [jW ‹_[_]? =some _›,ae]
  |with_reducible first|refine zC ?_|refine e2l ?_|refine e2r ?_
  |exact zH (by omega) (by omega)
  |omega
  |(simp only [aA,av] at*;exact zH (by omega) (by omega)))
theorem zDA (a1:Ty.El (zF)) (h0:SmR a1):Wp (wE (a1,())) (fun _=>True):=by
 have hh0:=h0
 obtain ⟨i1,i2,i3,i4,i5,i6,i7,i8,i9,i10,i11,i12,i13,i14,n1,n2,n3⟩:=hh0
 unfold wE
 try dsimp only
 repeat' (first
  |with_reducible exact trivial
  |exact ⟨i10,i11,i12,i13,i14⟩
  |assumption
  |contradiction
  |with_reducible first|refine zA ?_|refine (jK _ _ _).mono (fun r _=> ?_)|refine (zJY _ ?_).mono (fun r _=> ?_)|refine (zCw _ ?_).mono (fun r _=> ?_)|refine (vC _ _ _ _ _ ?_ ?_).mono (fun r _=> ?_)|refine wD (fun _=> ?_) (fun _=> ?_)|refine zD (fun _=> ?_) (fun _=> ?_)|refine zC ?_
  |exact zH (by omega) (by omega)
  |omega
  |(simp only [aA,av] at*;exact zH (by omega) (by omega)))
theorem zHH (a1:Ty.El (zF)) (h0:SmR a1):Wp (v8 (a1,())) (fun _=>True):=by
 have hh0:=h0
 obtain ⟨i1,i2,i3,i4,i5,i6,i7,i8,i9,i10,i11,i12,i13,i14,n1,n2,n3⟩:=hh0
 unfold v8
 try dsimp only
 repeat' (first
  |with_reducible exact trivial
  |exact ⟨i10,i11,i12,i13,i14⟩
  |assumption
  |contradiction
  |with_reducible first|refine zA ?_|refine (vY _).mono (fun r _=> ?_)|refine (jK _ _ _).mono (fun r _=> ?_)|refine (zI4 _ ?_).mono (fun r _=> ?_)|refine (zC7 _ ?_ ?_).mono (fun r _=> ?_)|refine (zD9 _ ?_).mono (fun r _=> ?_)|refine (zC8 _ ?_ ?_).mono (fun r _=> ?_)|refine (zCv _ ?_).mono (fun r _=> ?_)|refine (zFw _ ?_).mono (fun r _=> ?_)|refine (zMJ _ ?_).mono (fun r _=> ?_)|refine (zEa _ ?_).mono (fun r _=> ?_)|refine (zEQ _ ?_).mono (fun r _=> ?_)|refine (zDA _ ?_).mono (fun r _=> ?_)|refine qJ n1 ?_ ?_ (fun y _ _=> ?_)|refine qJ n2 ?_ ?_ (fun y _ _=> ?_)|refine qJ n3 ?_ ?_ (fun y _ _=> ?_)|refine wS ?_ ?_ (fun y _ _=> ?_)|refine wD (fun _=> ?_) (fun _=> ?_)|refine zJ (fun _=> ?_) (fun _=> ?_)|refine zD (fun _=> ?_) (fun _=> ?_)|refine z8 ?_|refine wZ (fun s _ _=> ?_) (fun s _ _=> ?_)
  |simp only [jW ‹_[_]? =some _›,ae]
  |with_reducible first|refine zC ?_|refine e2l ?_|refine e2r ?_
  |exact zH (by omega) (by omega)
  |omega
  |(simp only [aA,av] at*;exact zH (by omega) (by omega)))
theorem zPl (a1:Ty.El (zX)) (h0: ∀y,y∈a1.1→SmR y):Wp (uL (a1,())) (fun _=>True):=by
 unfold uL
 try dsimp only
 repeat' (first
  |with_reducible exact trivial
  |assumption
  |contradiction
  |with_reducible first|refine zA ?_|refine (zHH _ ?_).mono (fun r _=> ?_)|refine (zCH _ _ ?_).mono (fun r _=> ?_)|refine qJ h0 ?_ ?_ (fun y _ _=> ?_)|refine wS ?_ ?_ (fun y _ _=> ?_)|refine zJ (fun _=> ?_) (fun _=> ?_)|refine zD (fun _=> ?_) (fun _=> ?_)|refine z8 ?_|refine wZ (fun s _ _=> ?_) (fun s _ _=> ?_)
  |simp only [jW ‹_[_]? =some _›,ae]
  |with_reducible first|refine zC ?_|refine e2l ?_|refine e2r ?_
  |exact zH (by omega) (by omega)
  |omega
  |(simp only [aA,av] at*;exact zH (by omega) (by omega))
  |exact zH (by omega) (by have:=SmR.i1 ‹SmR _›;omega))
end Go.Ve

namespace Go.Ve
open Go
set_option maxRecDepth 1000000
set_option maxHeartbeats 4000000
def zMF (n:Ty.El zX) (p:Ty.El zG) (vl:Int) (e:Ty.El zO):Prop:=
 0≤e.1∧0≤e.2.1∧ ∃r x,n.1[e.1.toNat]? =some r∧r.2.2.1[e.2.1.toNat]? =some x∧x.2.2.1≠0∧x.2.2.2.2.1=false∧wU (x.2.1,x.2.2.1,())=some p∧x.2.2.2.1=vl
def qDx (st:HSt zO) (B:Nat) (E:Ty.El zO→Prop) (q:Option (Nat×Nat)):Prop:=
 ∀id m,q=some (id,m)→ ∃xs,st[id]? =some (some xs)∧xs.length=m∧xs.length≤B∧ ∀e,e∈xs→E e
def zRa (d d':Ty.El zR):Prop:= ∀id m m',d.2.2.1=some (id,m)→d'.2.2.1=some (id,m')→False
theorem zRa.symm {d d':Ty.El zR} (h:zRa d d'):zRa d' d:=fun id m m' h1 h2=>h id m' m h2 h1
structure Bld (n:Ty.El zX) (B:Nat) (D:List (Ty.El zR)) (st:HSt zO):Prop where
 len:D.length≤B
 ok: ∀d,d∈D→qDx st B (zMF n d.1 d.2.1) d.2.2.1
 ap:D.Pairwise zRa
 so:D.Pairwise (fun d d'=>zDH d.1 d.2.1 d'.1 d'.2.1)
theorem zF1 {n:Ty.El zX} {B B':Nat} {D:List (Ty.El zR)} {st:HSt zO} (h:Bld n B D st) (hb:B≤B'):Bld n B' D st:=by
 refine ⟨ay h.len hb,?_,h.ap,h.so⟩
 intro d hd id m hq
 obtain ⟨xs,h1,h2,h3,h4⟩:=h.ok d hd id m hq
 exact ⟨xs,h1,h2,ay h3 hb,h4⟩
theorem qBW {n:Ty.El zX} {B:Nat} {st:HSt zO} :Bld n B [] st:=⟨aI _,(fun d hd=>by cases hd),List.Pairwise.nil,List.Pairwise.nil⟩
theorem qBX {n:Ty.El zX} {B:Nat} {D:List (Ty.El zR)} {st:HSt zO} (h:Bld n B D st) (k:Nat) (p:Ty.El zG) (v:Int)
  (hlo: ∀j d,j<k→D[j]? =some d→zDH d.1 d.2.1 p v) (hhi: ∀d,D[k]? =some d→zDH p v d.1 d.2.1):
  Bld n (B+1) (D.take k++[((p,v,none,()):Ty.El zR)]++D.drop k) st:=by
 have h':=zF1 h (c9 B)
 have hnew: ∀d:Ty.El zR,zRa d ((p,v,none,()):Ty.El zR):=fun d id m m' _ h2=>by cases h2
 refine ⟨?_,?_,?_,?_⟩
 ·have:=h.len;simp only [aH,aZ,bo,aC];omega
 ·intro d hd
  simp only [aX,aO] at hd
  rcases hd with (hd|rfl)|hd
  ·exact h'.ok d (cZ hd)
  ·intro id m hq;cases hq
  ·exact h'.ok d (dB hd)
 ·have hp:=h.ap
  rw [←cU k D,b8] at hp
  obtain ⟨h1,h2,h3⟩:=hp
  rw [b8,b8]
  refine ⟨⟨h1,cP _ _,?_⟩,h2,?_⟩
  ·intro a _ b hb
   simp only [aO] at hb
   subst hb
   exact hnew a
  ·intro a ha b hb
   simp only [aX,aO] at ha
   rcases ha with ha|rfl
   ·exact h3 a ha b hb
   ·exact (hnew b).symm
 ·have hso:=h.so
  have hso':=br.1 hso
  rw [←cU k D,b8] at hso
  obtain ⟨h1,h2,h3⟩:=hso
  rw [b8,b8]
  refine ⟨⟨h1,cP _ _,?_⟩,h2,?_⟩
  ·intro a ha b hb
   simp only [aO] at hb
   subst hb
   obtain ⟨j,hj,hje⟩:=aD ha
   rw [aZ] at hj
   refine hlo j a (by omega) ?_
   rw [←hje,List.getElem_take,ai (by omega)]
  ·intro a ha b hb
   simp only [aX,aO] at ha
   rcases ha with ha|rfl
   ·exact h3 a ha b hb
   ·obtain ⟨j,hj,hje⟩:=aD hb
    rw [bo] at hj
    rw [List.getElem_drop] at hje
    have hk:D[k]? =some (D[k]'(by omega)):=by simp
    have hlt:=hhi _ hk
    rcases bZ j with h0|h0
    ·subst h0
     simp only [Nat.add_zero] at hje
     rw [←hje];exact hlt
    ·rw [←hje]
     exact zU0 hlt (hso' k (k+j) (by omega) (by omega) (by omega))
theorem zXQ {n:Ty.El zX} {B:Nat} {D:List (Ty.El zR)} {st st':HSt zO} (h:Bld n B D st) {k:Nat} {d:Ty.El zR} (hd:D[k]? =some d) {id m:Nat} {xs:List (Ty.El zO)}
  (hnew:st'[id]? =some (some xs)) (hm:xs.length=m) (hB:xs.length≤B+1) (hE: ∀e,e∈xs→zMF n d.1 d.2.1 e) (hid:st.length≤id)
  (hkeep: ∀j ys,st[j]? =some (some ys)→(∀m',d.2.2.1≠some (j,m'))→st'[j]? =some (some ys)):
  Bld n (B+1) (D.set k ((d.1,d.2.1,some (id,m),()):Ty.El zR)) st':=by
 have hlt:k<D.length:=(ac.1 hd).1
 have hdk:D[k]=d:=(ac.1 hd).2
 have hap:=br.1 h.ap
 have hother: ∀j (hj:j<D.length),j≠k→zRa d D[j]:=by
  intro j hj hne
  rcases aL j k with hh|hh
  ·have:=hap j k hj hlt hh;rw [hdk] at this;exact this.symm
  ·have:=hap k j hlt hj (by omega);rw [hdk] at this;exact this
 have hold: ∀j (hj:j<D.length),zRa D[j] ((d.1,d.2.1,some (id,m),()):Ty.El zR):=by
  intro j hj i m1 m2 h1 h2
  obtain ⟨ys,g1,_⟩:=h.ok D[j] (bD hj) i m1 h1
  simp only [aa,ak] at h2
  obtain ⟨rfl,_⟩:=h2
  have:=(ac.1 g1).1
  omega
 refine ⟨by rw [bE];have:=h.len;omega,?_,?_,?_⟩
 ·intro x hx
  obtain ⟨j,hj,rfl⟩:=aD hx
  rw [bE] at hj
  rw [c5]
  split
  ·intro i m1 h1
   simp only [aa,ak] at h1
   obtain ⟨rfl,rfl⟩:=h1
   exact ⟨xs,hnew,hm,hB,hE⟩
  ·rename_i hne
   intro i m1 h1
   obtain ⟨ys,g1,g2,g3,g4⟩:=h.ok D[j] (bD hj) i m1 h1
   exact ⟨ys,hkeep i ys g1 (fun m' hq=>hother j hj (fun hh=>hne hh.symm) i m' m1 hq h1),g2,by omega,g4⟩
 ·rw [br]
  intro i j hi hj hij
  rw [bE] at hi hj
  rw [c5,c5]
  split
  ·split
   ·omega
   ·exact (hold j hj).symm
  ·split
   ·exact hold i hi
   ·exact hap i j hi hj hij
 ·have hso:=br.1 h.so
  rw [br]
  intro i j hi hj hij
  rw [bE] at hi hj
  have:=hso i j hi hj hij
  rw [c5,c5]
  split
  ·split
   ·omega
   ·rename_i hki _
    subst hki
    rw [hdk] at this
    exact this
  ·split
   ·rename_i hkj
    subst hkj
    rw [hdk] at this
    exact this
   ·exact this
theorem qBY {n:Ty.El zX} {B:Nat} {D:List (Ty.El zR)} {st:HSt zO} (h:Bld n B D st) (hb:B≤1000) {k:Nat} {d:Ty.El zR} (hd:D[k]? =some d) {e:Ty.El zO} (he:zMF n d.1 d.2.1 e):
  Wp (zRH 16 st d.2.2.1 [e]) (fun r=>Bld n (B+1) (D.set k ((d.1,d.2.1,r.2,()):Ty.El zR)) r.1):=by
 have hmem:d∈D:=af hd
 cases hq:d.2.2.1 with
 |none=>
  refine ⟨(st++[some [e]],some (st.length,1)),?_,?_⟩
  ·simp only [zRH,aC]
   rw [if_pos (by omega)]
  ·refine zXQ h hd (xs:=[e]) ?_ rfl (by simp) (fun e' h'=>by simp only [aO] at h';subst h';exact he) (aK _) ?_
   ·simp
   ·intro j ys hj _
    rw [aS (ac.1 hj).1]
    exact hj
 |some q=>
  obtain ⟨id,m⟩:=q
  obtain ⟨xs,h1,h2,h3,h4⟩:=h.ok d hmem id m hq
  have hlt:=(ac.1 h1).1
  refine ⟨(st.set id none++[some (xs++[e])],some (st.length,(xs++[e]).length)),?_,?_⟩
  ·simp only [zRH,h1,aC]
   rw [if_pos (by omega)]
  ·refine zXQ h hd (xs:=xs++[e]) ?_ rfl (by simp;omega) ?_ (aK _) ?_
   ·rw [aT (by simp)]
    simp
   ·intro e' h'
    simp only [aX,aO] at h'
    rcases h' with h'|rfl
    ·exact h4 e' h'
    ·exact he
   ·intro j ys hj hne
    have hjl:=(ac.1 hj).1
    rw [aS (by rw [bE];exact hjl),aG]
    ·exact hj
    ·intro hh
     subst hh
     exact hne m hq
structure qAV (n:Ty.El zX) (t:Ty.El zLc):Prop where
 doms:t.1.length≤360
 ends : ∀ d, d ∈ t.1 → d.2.2.1.length ≤ 360 ∧ ∀ e, e ∈ d.2.2.1 → zMF n d.1 d.2.1 e
 links:t.2.1.length≤12
 link: ∀l,l∈t.2.1→0≤l∧l< (t.1.length:Int)
 so:t.1.Pairwise (fun d d'=>zDH d.1 d.2.1 d'.1 d'.2.1)
theorem zUU {α β:Type} {f:α→Option β} {R:α→β→Prop} : ∀ {xs:List α},(∀x,x∈xs→Wp (f x) (R x))→Wp (zLY f xs) (fun ys:List β=>ys.length=xs.length∧ ∀ (i:Nat) x y,xs[i]? =some x→ys[i]? =some y→R x y)
 |[],_=>⟨[],rfl,rfl,fun i x y h=>by simp at h⟩
 |x::r,h=>by
  obtain ⟨y,h1,h2⟩:=h x (by simp)
  obtain ⟨ys,h3,h4,h5⟩:=zUU (xs:=r) (fun z hz=>h z (aw _ hz))
  refine ⟨y::ys,by simp only [zLY,h1,h3],by simp [h4],?_⟩
  intro i a b ha hb
  cases i with
  |zero=>simp only [aY,aa] at ha hb;subst ha hb;exact h2
  |succ i=>exact h5 i a b (by simpa using ha) (by simpa using hb)
theorem qAL {n:Ty.El zX} {B:Nat} {D:List (Ty.El zR)} {st:HSt zO} (h:Bld n B D st):
  Wp (zLY (zAR st zR) D) (fun ys=>ys.length=D.length∧(∀d:Ty.El uZ,d∈ys→d.2.2.1.length≤B∧ ∀e,e∈d.2.2.1→zMF n d.1 d.2.1 e)∧ys.Pairwise (fun d d':Ty.El uZ=>zDH d.1 d.2.1 d'.1 d'.2.1)):=by
 refine (zUU (R:=fun (d:Ty.El zR) (y:Ty.El uZ)=>(y.2.2.1.length≤B∧ ∀e,e∈y.2.2.1→zMF n y.1 y.2.1 e)∧y.1=d.1∧y.2.1=d.2.1) ?_).mono ?_
 ·intro d hd
  obtain ⟨⟨p1,p2,⟨⟩⟩,v,q,⟨⟩⟩:=d
  cases q with
  |none=>exact ⟨((p1,p2,()),v,[],()),rfl,⟨aI _,fun e he=>by cases he⟩,rfl,rfl⟩
  |some q=>
   obtain ⟨id,m⟩:=q
   obtain ⟨xs,h1,h2,h3,h4⟩:=h.ok _ hd id m rfl
   refine ⟨((p1,p2,()),v,xs,()),?_,⟨h3,h4⟩,rfl,rfl⟩
   simp only [zAR,h1]
 ·rintro ys ⟨h1,h2⟩
  have hat: ∀i (hi:i<ys.length), ∃d,D[i]? =some d∧((ys[i].2.2.1.length≤B∧ ∀e,e∈ys[i].2.2.1→zMF n ys[i].1 ys[i].2.1 e)∧ys[i].1=d.1∧ys[i].2.1=d.2.1):=by
   intro i hi
   refine ⟨D[i]'(by omega),by simp,h2 i _ _ (by simp) (by simp [hi])⟩
  refine ⟨h1,?_,?_⟩
  ·intro d hd
   obtain ⟨i,hi,rfl⟩:=aD hd
   obtain ⟨_,_,h3,_⟩:=hat i hi
   exact h3
  ·rw [br]
   intro i j hi hj hij
   have hso:=br.1 h.so i j (by omega) (by omega) hij
   obtain ⟨d,hd,_,e1,e2⟩:=hat i hi
   obtain ⟨d',hd',_,e3,e4⟩:=hat j hj
   obtain ⟨_,rfl⟩:=ac.1 hd
   obtain ⟨_,rfl⟩:=ac.1 hd'
   rw [e1,e2,e3,e4]
   exact hso
end Go.Ve

namespace Go.Ve
open Go
set_option maxRecDepth 1000000
set_option maxHeartbeats 4000000
theorem vH {α:Type} {xs:List α} {i:Nat} {x:α} (h:xs[i]? =some x):atN xs i=some x:=h
abbrev BSt:=(List (Ty.El zR)×List Int)×HSt zO
theorem zK8 (a1:Ty.El zX) (hn:a1.1.length≤9) (hs: ∀y,y∈a1.1→SmR y):
  Wp (zC3 [] (a1,())) (fun r=>(r.2.2.1=0→Bld a1 360 r.2.1.1 r.1∧r.2.1.2.1.length≤12∧(∀l,l∈r.2.1.2.1→0≤l∧l< (r.2.1.1.length:Int))∧uL (a1,())=some 0)∧(r.2.2.1≠0→r.2.1=([],[],()))):=by
 unfold zC3
 dsimp only
 refine zAg ((zPl a1 hs).mono (fun _ _=>trivial)) (fun y0 hy0=> ?_)
 refine zD (fun hc=> ?_) (fun hc=> ?_)
 ·refine zA ⟨fun h=> ?_,fun _=>rfl⟩
  simp only at h
  subst h
  cases hc
 have hy:y0=0:=by simpa using hc
 subst hy
 refine zC ((qZ (xs:=a1.1) (by omega) (fun i (g:BSt)=>g.1.2=[]∧Bld a1 (40*i) g.1.1 g.2) ⟨rfl,qBW⟩ ?_ (Q:=fun g=>g.1.2=[]∧Bld a1 360 g.1.1 g.2) (fun g hg=>⟨hg.1,zF1 hg.2 (by omega)⟩)).mono ?_)
 ·intro i x g hx hj
  have hi:i<9:=by have:=(ac.1 hx).1;omega
  have hsx:=(hs x (af hx)).i1
  simp only [zI hx,ae]
  refine (qZ (xs:=x.2.2.1) (by omega) (fun j (g:BSt)=>g.1.2=[]∧Bld a1 (40*i+2*j) g.1.1 g.2) hj ?_ (fun g hg=>⟨hg.1,zF1 hg.2 (by omega)⟩))
  intro j f g hf hj
  have hjl:j<20:=by have:=(ac.1 hf).1;omega
  obtain ⟨⟨D,L⟩,st⟩:=g
  obtain ⟨rfl,hD⟩:=hj
  simp only [zI hf,ae]
  refine zC ((show Wp _ (fun s:Bool×BSt=>s.2=((D,[]),st)∧(s.1=false→f.2.2.1≠0∧f.2.2.2.2.1=false)) from ?_).mono ?_)
  ·refine zD (fun h=>zA ⟨rfl,fun h=>by cases h⟩) (fun h=>zA ⟨rfl,fun h'=>⟨by simpa using h,h'⟩⟩)
  rintro ⟨b,g⟩ ⟨hg,hb⟩
  simp only at hg hb
  subst hg
  refine zD (fun _=>zA ⟨rfl,zF1 hD (by omega)⟩) (fun hb'=> ?_)
  obtain ⟨hlen,hdown⟩:=hb hb'
  refine zAg (zFx _ _) (fun p hp=> ?_)
  refine zC ((show Wp _ (fun s:Int×BSt=> ∃k:Nat,s.1=(k:Int)∧k≤D.length∧s.2=((D,[]),st)∧(∀m d,m<k→D[m]? =some d→zDH d.1 d.2.1 p f.2.2.2.1)∧(∀d,D[k]? =some d→ ¬zDH d.1 d.2.1 p f.2.2.2.1)) from ?_).mono ?_)
  ·refine jF (fun s:Int×BSt=> ∃k:Nat,s.1=(k:Int)∧k≤D.length∧s.2=((D,[]),st)∧(∀m d,m<k→D[m]? =some d→zDH d.1 d.2.1 p f.2.2.2.1)) (fun s=>((D.length:Int) -s.1).toNat) ⟨(0:Nat),rfl,aI _,rfl,fun m d hm=>by omega⟩ ?_
   rintro ⟨s,g⟩ ⟨k,hk,hkl,hg,hlo⟩
   simp only at hk hg
   subst hk hg
   have hDl:D.length≤_:=hD.len
   refine zC ((show Wp _ (fun s:Bool×BSt=>s.2=((D,[]),st)∧(s.1=true→ ∃d,D[k]? =some d∧zDH d.1 d.2.1 p f.2.2.2.1)∧(s.1=false→ ∀d,D[k]? =some d→ ¬zDH d.1 d.2.1 p f.2.2.2.1)) from ?_).mono ?_)
   ·refine zJ (fun hlt=> ?_) (fun hge=>zA ⟨rfl,(fun h=>by cases h),fun _ d hd=> ?_⟩)
    ·have hlt:k<D.length:=by simp only at hlt;omega
     have hk:D[k]? =some D[k]:=by simp [hlt]
     generalize D[k]=dk at hk
     have hone: ∀d,D[k]? =some d→d=dk:=fun d hd=>by rw [hk] at hd;exact (aJ hd).symm
     simp only [zI hk,aR,vH hk,ae]
     refine zC (zY (zBR _ _) ?_)
     refine zJ (fun hc=>zA ⟨rfl,fun _=>⟨dk,hk, .inl (zMv.1 hc)⟩,fun h=>by cases h⟩) (fun hc=> ?_)
     have hc: ¬plt dk.1 p:=fun h=>hc (zMv.2 h)
     refine zD (fun he=>zA ⟨rfl,fun h=>⟨dk,hk, .inr ⟨zGq he,of_decide_eq_true h⟩⟩,fun h d hd=> ?_⟩) (fun he=>zA ⟨rfl,(fun h=>by cases h),fun _ d hd=> ?_⟩)
     ·have hd:d=dk:=hone d hd
      subst hd
      rintro (h1|⟨_,h1⟩)
      ·exact hc h1
      ·exact of_decide_eq_false h h1
     ·have hd:d=dk:=hone d hd
      subst hd
      rintro (h1|⟨h1,_⟩)
      ·exact hc h1
      ·have he:(d.1.fst==p.1&&(d.1.snd.fst==p.2.1&&true))=false:=he
       rw [h1] at he
       simp at he
    ·have hge: ¬(k:Int)< (D.length:Int):=hge
     have:=(ac.1 hd).1
     omega
   ·rintro ⟨b,g⟩ ⟨hg,hb,hb2⟩
    simp only at hg hb hb2
    subst hg
    refine zD (fun h=> ?_) (fun h=> ?_)
    ·obtain ⟨d,hd,hlt2⟩:=hb h
     have hlt:=(ac.1 hd).1
     refine zA (e2l ⟨⟨k+1,?_,hlt,rfl,?_⟩,?_⟩)
     ·simp only;rw [zH (by omega) (by omega)];omega
     ·intro m d' hm hd'
      rcases aL m k with h'|h'
      ·exact hlo m d' h' hd'
      ·have:m=k:=by omega
       subst this
       rw [hd] at hd'
       cases hd'
       exact hlt2
     ·simp only;rw [zH (by omega) (by omega)];omega
    ·exact zA (e2r ⟨k,rfl,hkl,rfl,hlo,hb2 h⟩)
  rintro ⟨s,g⟩ ⟨k,hk,hkl,hg,hlo,hhi⟩
  simp only at hk hg
  subst hk hg
  have hDl:D.length≤_:=hD.len
  refine zC ((show Wp _ (fun g:BSt=>g.1.2=[]∧Bld a1 (40*i+2*j+1) g.1.1 g.2∧ ∃d,g.1.1[k]? =some d∧d.1=p∧d.2.1=f.2.2.2.1) from ?_).mono ?_)
  ·refine zC ((show Wp _ (fun s:Bool×BSt=>s.2=((D,[]),st)∧(s.1=false→ ∃d,D[k]? =some d∧d.1=p∧d.2.1=f.2.2.2.1)∧(s.1=true→ ∀d,D[k]? =some d→ ¬(d.1=p∧d.2.1=f.2.2.2.1))) from ?_).mono ?_)
   ·refine zD (fun heq=>zA ⟨rfl,(fun h=>by cases h),fun _ d hd=> ?_⟩) (fun hne=> ?_)
    ·have heq:(k:Int)=(D.length:Int):=by simpa using heq
     have:=(ac.1 hd).1
     omega
    have hlt:k<D.length:=by
     have: ¬((k:Int)=(D.length:Int)):=by simpa using hne
     omega
    have hk:D[k]? =some D[k]:=by simp [hlt]
    generalize D[k]=dk at hk
    have hone: ∀d,D[k]? =some d→d=dk:=fun d hd=>by rw [hk] at hd;exact (aJ hd).symm
    simp only [zI hk,aR,vH hk,ae]
    refine zD (fun he=>zA ⟨rfl,(fun h=>by cases h),fun _ d hd h2=> ?_⟩) (fun he=> ?_)
    ·have hd:d=dk:=hone d hd
     subst hd
     have he:(!(d.1.fst==p.1&&(d.1.snd.fst==p.2.1&&true)))=true:=he
     rw [h2.1] at he
     simp at he
    have hpe:=zGq (by simpa using he)
    refine zA ⟨rfl,fun hv=>⟨dk,hk,hpe,by simpa using hv⟩,fun hv d hd h2=> ?_⟩
    have hd:d=dk:=hone d hd
    subst hd
    have hv:(d.2.1 !=f.2.2.2.1)=true:=hv
    rw [h2.2] at hv
    simp at hv
   ·rintro ⟨b,g⟩ ⟨hg,hb,hb2⟩
    simp only at hg hb hb2
    subst hg
    refine zD (fun hbt=> ?_) (fun hf'=>zA ⟨rfl,zF1 hD (by omega),hb hf'⟩)
    have hins: ∀d,D[k]? =some d→zDH p f.2.2.2.1 d.1 d.2.1:=fun d hd=>zZ7 (hhi d hd) (hb2 hbt d hd)
    refine zD (fun _=> ?_) (fun h=> ?_)
    ·simp only [aR,aN]
     refine zC (qU (by simp only [av,bo];omega) ?_)
     refine zD (fun _=> ?_) (fun h=> ?_)
     ·refine zC (qU (by simp only [aZ,aC];omega) ?_)
      refine zC (qU (by simp only [aH,av,aZ,bo,aC];omega) ?_)
      rw [bM]
      refine zA ⟨rfl,qBX hD k p _ hlo hins,⟨(p,f.2.2.2.1,none,()),?_,rfl,rfl⟩⟩
      simp only
      rw [bp,aT (by simp only [aZ];omega)]
      simp only [aZ]
      rw [show k-min k D.length=0 by omega]
      rfl
     ·exfalso
      simp only [Bool.and_eq_false_iff,decide_eq_false_iff_not] at h
      omega
    ·exfalso
     simp only [Bool.and_eq_false_iff,decide_eq_false_iff_not] at h
     omega
  rintro ⟨⟨D',L'⟩,st'⟩ ⟨hL,hD',d,hk,hd1,hd2⟩
  simp only at hL hD' hk
  subst hL
  have hD'l:D'.length≤_:=hD'.len
  simp only [zI hk,aR,vH hk,ae]
  refine zC ((qBY hD' (by omega) hk (e:=(↑i, ↑j,())) ⟨(show (0:Int)≤(i:Int) by omega),(show (0:Int)≤(j:Int) by omega),x,f,by simpa using hx,by simpa using hf,hlen,hdown,?_,?_⟩).mono ?_)
  ·rw [hp,hd1]
  ·exact hd2.symm
  ·rintro ⟨st2,q2⟩ hB
   exact zA ⟨rfl,zF1 hB (by omega)⟩
 ·rintro ⟨⟨D,L⟩,st⟩ ⟨hL,hD⟩
  simp only at hL hD
  subst hL
  have hDl:D.length≤_:=hD.len
  refine zC ((zTW (n:=D.length) (by omega) (fun i (g:BSt)=>g.1.1=D∧g.2=st∧g.1.2.length≤i∧ ∀l,l∈g.1.2→0≤l∧l< (D.length:Int)) ⟨rfl,rfl,aK _,(fun l hl=>by cases hl)⟩ (fun i g hg=>by simp only [hg.1]) ?_
   (Q:=fun g:BSt=>g.1.1=D∧g.2=st∧ ∀l,l∈g.1.2→0≤l∧l< (D.length:Int)) (fun g hg=>⟨hg.1,hg.2.1,hg.2.2.2⟩)).mono ?_)
  ·rintro i ⟨⟨D',L⟩,st'⟩ hi ⟨rfl,rfl,hL,hl⟩
   simp only at hi hL hl
   have hDl2:D'.length≤360:=hD.len
   have hk:D'[i]? =some D'[i]:=by simp [hi]
   simp only [zI hk,aR,vH hk,ae]
   refine zJ (fun _=> ?_) (fun _=>zA ⟨rfl,rfl,by simp only;omega,hl⟩)
   refine zC (qU (by simp only [aC];omega) (zA ⟨rfl,rfl,by simp only [aH,aC];omega,?_⟩))
   intro l hl'
   simp only [aX,aO] at hl'
   rcases hl' with hl'|rfl
   ·exact hl l hl'
   ·omega
  ·rintro ⟨⟨D',L⟩,st'⟩ ⟨rfl,rfl,hl⟩
   simp only at hl
   refine zJ (fun _=>zA ⟨(fun h=>by cases h),fun _=>rfl⟩) (fun h=>zA ⟨fun _=>⟨hD,?_,hl,hy0⟩,fun h=>absurd rfl h⟩)
   simp only at h ⊢
   omega
end Go.Ve

namespace Go.Ve
open Go
set_option maxRecDepth 1000000
set_option maxHeartbeats 4000000
theorem zR0 {tE a b:Ty} {st:HSt tE} {x:a.El} {y:b.El} {x':(vX tE a).El} {y':(vX tE b).El} (h1:zAR st a x=some x') (h2:zAR st b y=some y'):zAR st (.pair a b) (x,y)=some (x',y'):=by
 simp only [zAR,h1,h2]
theorem zVY {tE a:Ty} {r:List Ty} {st:HSt tE} {x:a.El} {y:ElS r} {x':(vX tE a).El} {y':ElS (zHG tE r)} (h1:zAR st a x=some x') (h2:zPh st r y=some y'):zPh st (a::r) (x,y)=some (x',y'):=by
 simp only [zPh,h1,h2]
theorem zSf {α:Type} {f:α→Option α} (hf: ∀x,f x=some x): ∀l:List α,zLY f l=some l
 |[]=>rfl
 |x::l=>by simp only [zLY,hf x,zSf hf l]
theorem zOf (a1:Ty.El zX) (hn:a1.1.length≤9) (hs: ∀y,y∈a1.1→SmR y):
  Wp (zE1 (a1,())) (fun r=>r.2.1=0→qAV a1 r.1∧uL (a1,())=some 0):=by
 obtain ⟨⟨st,⟨D,L,⟨⟩⟩,e,⟨⟩⟩,h1,h2,h3⟩:=zK8 a1 hn hs
 unfold zE1 zPi
 rw [h1]
 simp only at h2 h3
 by_cases he:e=0
 ·subst he
  obtain ⟨hB,hL,hl,hc⟩:=h2 rfl
  obtain ⟨ys,g1,g2,g3,g4⟩:=qAL hB
  refine ⟨((ys,L,()),0,()),?_,fun _=>⟨⟨?_,g3,hL,?_,g4⟩,hc⟩⟩
  ·have e1:zAR st (.sl zR) D=some ys:=g1
   have e2:zAR st (.sl tI) L=some L:=zSf (fun _=>rfl) L
   exact zVY (r:=[tI]) (zR0 e1 (zR0 e2 rfl)) rfl
  ·simp only;have:D.length≤360:=hB.len;omega
  ·intro l hh;simp only;rw [g2];exact hl l hh
 ·have:=h3 he
  simp only [ak] at this
  obtain ⟨rfl,rfl,_⟩:=this
  exact ⟨(([],[],()),e,()),rfl,fun h=>absurd h he⟩
structure qAZ (d:List Int) (m:Int):Prop where
 len:d.length≤2
 lo: ∀x,x∈d→0≤x∧x<m
theorem zI6 (d:List Int) (m:Int):Wp (zBk (d,m,())) (fun b=>b=true→qAZ d m):=by
 unfold zBk
 dsimp only
 refine zJ (fun _=>zA (fun h=>by cases h)) (fun h=> ?_)
 refine uY (by omega) (fun i=> ∀ (j:Nat) (y:Int),j<i→d[j]? =some y→0≤y∧y<m) (fun j y hj=>by omega) ?_ ?_
 ·intro i (x:Int) hx hj
  have hi:=(ac.1 hx).1
  simp only [zI hx,ae]
  refine zC ((show Wp _ (fun b:Bool=>b=false→0≤x∧x<m) from ?_).mono ?_)
  ·refine zJ (fun _=>zA (fun h=>by cases h)) (fun h1=> ?_)
   refine zJ (fun _=>zA (fun h=>by cases h)) (fun h2=> ?_)
   refine zJ (fun h3=> ?_) (fun _=>zA (fun _=>⟨by omega,by omega⟩))
   refine zC (wS (by rw [zH (by omega) (by omega)];omega) (by rw [zH (by omega) (by omega)];omega) (fun y _ _=>zA (fun _=>⟨by omega,by omega⟩)))
  ·intro b hb
   refine zD (fun _=>zA (e2r (e2r (fun h=>by cases h)))) (fun h=>zA (e2l ⟨rfl,?_⟩))
   intro j y hj' hy
   rcases aL j i with h'|h'
   ·exact hj j y h' hy
   ·have:j=i:=by omega
    subst this
    rw [hx] at hy
    cases hy
    exact hb h
 ·intro hj
  refine zA (fun _=>⟨by omega,?_⟩)
  intro x hx
  obtain ⟨j,hjl,rfl⟩:=aD hx
  exact hj j _ hjl (by simp [hjl])
theorem qCV {α:Type} {xs:List α} {P:α→Prop} (h: ∀j y,j<xs.length→xs[j]? =some y→P y): ∀y,y∈xs→P y:=by
 intro x hx
 obtain ⟨j,hjl,rfl⟩:=aD hx
 exact h j _ hjl (by simp [hjl])
theorem zAW {α ρ:Type} {xs:List α} {P:α→Prop} {body:Int→Option (Int ⊕ (Unit ⊕ ρ))} {K:Unit→Option ρ} {Q:ρ→Prop} (hl:xs.length<4611686018427387904)
  (step: ∀ (i:Nat) x,xs[i]? =some x→Wp (body (i:Int)) (wG (fun s'=>s'=IntKind.wrap .i64 ((i:Int)+1)∧P x) (wG (fun _=>False) Q))) (fin:(∀x,x∈xs→P x)→Wp (K ()) Q):
  Wp (qM (zL (fun s:Int=>bif decide (s< (xs.length:Int)) then body s else some (Sum.inr (Sum.inl ()))) (0:Int)) K) Q:=by
 refine uY hl (fun i=> ∀j y,j<i→xs[j]? =some y→P y) (fun j y hj=>by omega) ?_ (fun h=>fin (qCV h))
 intro i x hx hj
 refine (step i x hx).mono ?_
 intro o ho
 cases o with
 |inl s'=>
  refine ⟨ho.1,?_⟩
  intro j y hj' hy
  rcases aL j i with h'|h'
  ·exact hj j y h' hy
  ·have:j=i:=by omega
   subst this
   rw [hx] at hy
   cases hy
   exact ho.2
 |inr o=>exact ho
theorem zPn (a1:Ty.El zF):Wp (zGD (a1,())) (fun b=>b=true→SmR a1):=by
 unfold zGD
 dsimp only
 refine zC ((show Wp _ (fun b:Bool=>b=false→List.length a1.2.2.1≤12∧List.length a1.2.2.2.1≤12∧List.length a1.2.2.2.2.1≤12∧List.length a1.2.2.2.2.2.1≤12∧List.length a1.2.2.2.2.2.2.1≤12∧
  List.length a1.2.2.2.2.2.2.2.1≤20∧List.length a1.2.2.2.2.2.2.2.2.1.2.2.1≤8∧List.length a1.2.2.2.2.2.2.2.2.1.2.2.2.1≤8∧List.length a1.2.2.2.2.2.2.2.2.2.1.2.2.2.2.1≤8∧
  List.length a1.2.2.2.2.2.2.2.2.2.2.1.2.2.2.2.2.2.2.1≤8∧List.length a1.2.2.2.2.2.2.2.2.2.2.1.2.2.2.1≤12∧List.length a1.2.2.2.2.2.2.2.2.2.2.1.2.2.2.2.1≤12∧
  List.length a1.2.2.2.2.2.2.2.2.2.2.1.2.2.2.2.2.1≤12∧List.length a1.2.2.2.2.2.2.2.2.2.2.1.2.2.2.2.2.2.1≤12) from ?_).mono ?_)
 ·iterate 13 (refine zJ (fun _=>zA (fun h=>by cases h)) (fun _=> ?_))
  refine zA (fun h=> ?_)
  have h:=of_decide_eq_false h
  refine ⟨?_,?_,?_,?_,?_,?_,?_,?_,?_,?_,?_,?_,?_,?_⟩<;>omega
 intro b hb
 refine zD (fun _=>zA (fun h=>by cases h)) (fun h=> ?_)
 obtain ⟨i1,i2,i3,i4,i5,i6,i7,i8,i9,i10,i11,i12,i13,i14⟩:=hb h
 refine zAW (P:=fun y=>List.length y.2.1≤20) (by omega) ?_ (fun n1=> ?_)
 ·intro i x hx
  simp only [zI hx,ae]
  exact zJ (fun _=>zA (e2r (e2r (fun h=>by cases h)))) (fun _=>zA (e2l ⟨rfl,by omega⟩))
 refine zAW (P:=fun y=>List.length y.2.1≤20) (by omega) ?_ (fun n2=> ?_)
 ·intro i x hx
  simp only [zI hx,ae]
  exact zJ (fun _=>zA (e2r (e2r (fun h=>by cases h)))) (fun _=>zA (e2l ⟨rfl,by omega⟩))
 refine zAW (P:=fun y=>List.length y.2.1≤20) (by omega) ?_ (fun n3=> ?_)
 ·intro i x hx
  simp only [zI hx,ae]
  exact zJ (fun _=>zA (e2r (e2r (fun h=>by cases h)))) (fun _=>zA (e2l ⟨rfl,by omega⟩))
 refine zA (fun _=> ?_)
 constructor<;>first|assumption|omega
theorem zOg (a1:Ty.El zX):Wp (zE6 (a1,())) (fun b=>b=true→a1.1.length≤9∧ ∀y,y∈a1.1→SmR y):=by
 unfold zE6
 dsimp only
 refine zJ (fun _=>zA (fun h=>by cases h)) (fun hn=> ?_)
 refine zAW (P:=SmR) (by omega) ?_ (fun h=>zA (fun _=>⟨by omega,h⟩))
 intro i x hx
 simp only [zI hx,ae]
 refine zC ((zPn x).mono (fun b hb=> ?_))
 refine zD (fun _=>zA (e2r (e2r (fun h=>by cases h)))) (fun h=>zA (e2l ⟨rfl,hb (by simpa using h)⟩))
structure zDz (n:Ty.El zX) (d:List Int) (v:Ty.El zN):Prop where
 net:v.1=n
 rs:n.1.length≤9
 sm: ∀y,y∈n.1→SmR y
 chk:uL (n,())=some 0
 topo:qAV n v.2.1
 dn:v.2.2.1=d
 down:qAZ d v.2.1.2.1.length
theorem zPm (n:Ty.El zX) (d:List Int) (hn:n.1.length≤9) (hs: ∀y,y∈n.1→SmR y):
  Wp (zGn (n,d,())) (fun r=>r.2.1=0→zDz n d r.1):=by
 unfold zGn
 dsimp only
 refine zC ((zOf n hn hs).mono (fun y0 hy=> ?_))
 refine zD (fun h=>zA (fun h'=> ?_)) (fun h=> ?_)
 ·simp only at h'
  rw [h'] at h
  cases h
 have he:y0.2.1=0:=by simpa using h
 obtain ⟨ht,hc⟩:=hy he
 refine zC ((zI6 _ _).mono (fun b hb=> ?_))
 refine zD (fun _=>zA (fun h'=>by cases h')) (fun hb'=> ?_)
 have hd:=hb (by simpa using hb')
 refine zC (qU (by have:=hd.len;simp only [av];omega) ?_)
 refine zA (fun _=>⟨rfl,hn,hs,hc,ht,rfl,?_⟩)
 exact hd
theorem zPo (n:Ty.El zX) (d:List Int):Wp (zGE (n,d,())) (fun r=>r.2.1=true→zDz n d r.1):=by
 unfold zGE
 dsimp only
 refine zC (zC ((zOg n).mono (fun b hb=> ?_)))
 refine zD (fun _=>zA ?_) (fun h=>zA ?_)
 ·exact zA (fun h=>by cases h)
 ·obtain ⟨hn,hs⟩:=hb (by simpa using h)
  refine zD (fun _=>zA (fun h=>by cases h)) (fun _=> ?_)
  refine zC ((zPm n d hn hs).mono (fun r hr=>zA (fun h=>hr ?_)))
  simpa using h
end Go.Ve

namespace Go.Ve
open Go
set_option maxRecDepth 1000000
set_option maxHeartbeats 4000000
structure RtS (x:Ty.El zB):Prop where
 path:List.length x.2.2.2.2.2.2.2.2.1≤1048576
 hops:List.length x.2.2.2.2.2.2.2.2.2.2.2.1≤1048576
theorem yF (a1:Ty.El (tI)) (a2:Ty.El (tI)) (a3:Ty.El (tI))  :Wp (qV (a1,a2,a3,())) (fun _=>True):=by
 unfold qV
 try dsimp only
 repeat' (first
  |with_reducible exact trivial
  |assumption
  |contradiction
  |with_reducible refine zA ?_
  |with_reducible refine x4 ?_ ?_ (fun y _ _=> ?_)
  |with_reducible refine wS ?_ ?_ (fun y _ _=> ?_)
  |with_reducible refine wD (fun _=> ?_) (fun _=> ?_)
  |with_reducible refine zJ (fun _=> ?_) (fun _=> ?_)
  |with_reducible refine zD (fun _=> ?_) (fun _=> ?_)
  |with_reducible refine z8 ?_
  |with_reducible refine wZ (fun s _ _=> ?_) (fun s _ _=> ?_)
  |simp only [jW ‹_[_]? =some _›,ae]
  |with_reducible refine zAV ?_
  |with_reducible refine zC ?_
  |with_reducible refine e2l ?_
  |with_reducible refine e2r ?_
  |exact zH (by omega) (by omega)
  |omega
  |(rw [zH (by omega) (by omega)];omega)
  |(simp only [beq_iff_eq] at*;omega)
  |(simp only [aA,av] at*;exact zH (by omega) (by omega)))
theorem xP (a1:Ty.El (zB)) (a2:Ty.El (.bool)) (a3:Ty.El (.bool)) (a4:Ty.El (.bool)) (h0:RtS a1):Wp (vZ (a1,a2,a3,a4,())) (fun _=>True):=by
 have hh0:=h0
 obtain ⟨p01,p02⟩:=hh0
 unfold vZ
 try dsimp only
 repeat' (first
  |with_reducible exact trivial
  |assumption
  |contradiction
  |with_reducible refine zA ?_
  |with_reducible refine x4 ?_ ?_ (fun y _ _=> ?_)
  |with_reducible refine wS ?_ ?_ (fun y _ _=> ?_)
  |with_reducible refine wD (fun _=> ?_) (fun _=> ?_)
  |with_reducible refine zJ (fun _=> ?_) (fun _=> ?_)
  |with_reducible refine zD (fun _=> ?_) (fun _=> ?_)
  |with_reducible refine z8 ?_
  |with_reducible refine wZ (fun s _ _=> ?_) (fun s _ _=> ?_)
  |simp only [jW ‹_[_]? =some _›,ae]
  |with_reducible refine zAV ?_
  |with_reducible refine zC ?_
  |with_reducible refine e2l ?_
  |with_reducible refine e2r ?_
  |exact zH (by omega) (by omega)
  |omega
  |(rw [zH (by omega) (by omega)];omega)
  |(simp only [beq_iff_eq] at*;omega)
  |(simp only [aA,av] at*;exact zH (by omega) (by omega)))
theorem zK7 (a1:Ty.El (qB)) (a2:Ty.El (qB))  :Wp (uO (a1,a2,())) (fun _=>True):=by
 unfold uO
 try dsimp only
 repeat' (first
  |with_reducible exact trivial
  |assumption
  |contradiction
  |with_reducible refine zA ?_
  |with_reducible refine x4 ?_ ?_ (fun y _ _=> ?_)
  |with_reducible refine wS ?_ ?_ (fun y _ _=> ?_)
  |with_reducible refine wD (fun _=> ?_) (fun _=> ?_)
  |with_reducible refine zJ (fun _=> ?_) (fun _=> ?_)
  |with_reducible refine zD (fun _=> ?_) (fun _=> ?_)
  |with_reducible refine z8 ?_
  |with_reducible refine wZ (fun s _ _=> ?_) (fun s _ _=> ?_)
  |simp only [jW ‹_[_]? =some _›,ae]
  |with_reducible refine zAV ?_
  |with_reducible refine zC ?_
  |with_reducible refine e2l ?_
  |with_reducible refine e2r ?_
  |exact zH (by omega) (by omega)
  |omega
  |(rw [zH (by omega) (by omega)];omega)
  |(simp only [beq_iff_eq] at*;omega)
  |(simp only [aA,av] at*;exact zH (by omega) (by omega)))
theorem yG (a1:Ty.El (.sl qB)) (a2:Ty.El (.bool)) (h0:List.length a1≤1048576):Wp (vL (a1,a2,())) (fun _=>True):=by
 unfold vL
 try dsimp only
 repeat' (first
  |with_reducible exact trivial
  |assumption
  |contradiction
  |with_reducible refine zA ?_
  |with_reducible refine (zK7 _ _).mono (fun r _=> ?_)
  |with_reducible refine x4 ?_ ?_ (fun y _ _=> ?_)
  |with_reducible refine wS ?_ ?_ (fun y _ _=> ?_)
  |with_reducible refine wD (fun _=> ?_) (fun _=> ?_)
  |with_reducible refine zJ (fun _=> ?_) (fun _=> ?_)
  |with_reducible refine zD (fun _=> ?_) (fun _=> ?_)
  |with_reducible refine z8 ?_
  |with_reducible refine wZ (fun s _ _=> ?_) (fun s _ _=> ?_)
  |simp only [jW ‹_[_]? =some _›,ae]
  |with_reducible refine zAV ?_
  |with_reducible refine zC ?_
  |with_reducible refine e2l ?_
  |with_reducible refine e2r ?_
  |exact zH (by omega) (by omega)
  |omega
  |(rw [zH (by omega) (by omega)];omega)
  |(simp only [beq_iff_eq] at*;omega)
  |(simp only [aA,av] at*;exact zH (by omega) (by omega)))
theorem zHj (a1:Ty.El (zB)) (h0:RtS a1):Wp (zAc (a1,())) (fun _=>True):=by
 have hh0:=h0
 obtain ⟨p01,p02⟩:=hh0
 unfold zAc
 try dsimp only
 repeat' (first
  |with_reducible exact trivial
  |assumption
  |contradiction
  |with_reducible refine zA ?_
  |with_reducible refine (yF _ _ _).mono (fun r _=> ?_)
  |with_reducible refine (xP _ _ _ _ ?_).mono (fun r _=> ?_)
  |with_reducible refine (yG _ _ ?_).mono (fun r _=> ?_)
  |with_reducible refine x4 ?_ ?_ (fun y _ _=> ?_)
  |with_reducible refine wS ?_ ?_ (fun y _ _=> ?_)
  |with_reducible refine wD (fun _=> ?_) (fun _=> ?_)
  |with_reducible refine zJ (fun _=> ?_) (fun _=> ?_)
  |with_reducible refine zD (fun _=> ?_) (fun _=> ?_)
  |with_reducible refine z8 ?_
  |with_reducible refine wZ (fun s _ _=> ?_) (fun s _ _=> ?_)
  |simp only [jW ‹_[_]? =some _›,ae]
  |with_reducible refine zAV ?_
  |with_reducible refine zC ?_
  |with_reducible refine e2l ?_
  |with_reducible refine e2r ?_
  |exact zH (by omega) (by omega)
  |omega
  |(rw [zH (by omega) (by omega)];omega)
  |(simp only [beq_iff_eq] at*;omega)
  |(simp only [aA,av] at*;exact zH (by omega) (by omega)))
theorem zFg (a1:Ty.El (zB)) (h0:RtS a1):Wp (uA (a1,())) (fun _=>True):=by
 have hh0:=h0
 obtain ⟨p01,p02⟩:=hh0
 unfold uA
 try dsimp only
 repeat' (first
  |with_reducible exact trivial
  |assumption
  |contradiction
  |with_reducible refine zA ?_
  |with_reducible refine (yF _ _ _).mono (fun r _=> ?_)
  |with_reducible refine (xP _ _ _ _ ?_).mono (fun r _=> ?_)
  |with_reducible refine (yG _ _ ?_).mono (fun r _=> ?_)
  |with_reducible refine x4 ?_ ?_ (fun y _ _=> ?_)
  |with_reducible refine wS ?_ ?_ (fun y _ _=> ?_)
  |with_reducible refine wD (fun _=> ?_) (fun _=> ?_)
  |with_reducible refine zJ (fun _=> ?_) (fun _=> ?_)
  |with_reducible refine zD (fun _=> ?_) (fun _=> ?_)
  |with_reducible refine z8 ?_
  |with_reducible refine wZ (fun s _ _=> ?_) (fun s _ _=> ?_)
  |simp only [jW ‹_[_]? =some _›,ae]
  |with_reducible refine zAV ?_
  |with_reducible refine zC ?_
  |with_reducible refine e2l ?_
  |with_reducible refine e2r ?_
  |exact zH (by omega) (by omega)
  |omega
  |(rw [zH (by omega) (by omega)];omega)
  |(simp only [beq_iff_eq] at*;omega)
  |(simp only [aA,av] at*;exact zH (by omega) (by omega)))
theorem zFy (a1:Ty.El (zB)) (h0:RtS a1):Wp (u6 (a1,())) (fun _=>True):=by
 have hh0:=h0
 obtain ⟨p01,p02⟩:=hh0
 unfold u6
 try dsimp only
 repeat' (first
  |with_reducible exact trivial
  |assumption
  |contradiction
  |with_reducible refine zA ?_
  |with_reducible refine (yF _ _ _).mono (fun r _=> ?_)
  |with_reducible refine (xP _ _ _ _ ?_).mono (fun r _=> ?_)
  |with_reducible refine (yG _ _ ?_).mono (fun r _=> ?_)
  |with_reducible refine x4 ?_ ?_ (fun y _ _=> ?_)
  |with_reducible refine wS ?_ ?_ (fun y _ _=> ?_)
  |with_reducible refine wD (fun _=> ?_) (fun _=> ?_)
  |with_reducible refine zJ (fun _=> ?_) (fun _=> ?_)
  |with_reducible refine zD (fun _=> ?_) (fun _=> ?_)
  |with_reducible refine z8 ?_
  |with_reducible refine wZ (fun s _ _=> ?_) (fun s _ _=> ?_)
  |simp only [jW ‹_[_]? =some _›,ae]
  |with_reducible refine zAV ?_
  |with_reducible refine zC ?_
  |with_reducible refine e2l ?_
  |with_reducible refine e2r ?_
  |exact zH (by omega) (by omega)
  |omega
  |(rw [zH (by omega) (by omega)];omega)
  |(simp only [beq_iff_eq] at*;omega)
  |(simp only [aA,av] at*;exact zH (by omega) (by omega)))
theorem zI5 (a1:Ty.El (zB)) (h0:RtS a1):Wp (xT (a1,())) (fun _=>True):=by
 have hh0:=h0
 obtain ⟨p01,p02⟩:=hh0
 unfold xT
 try dsimp only
 repeat' (first
  |with_reducible exact trivial
  |assumption
  |contradiction
  |with_reducible refine zA ?_
  |with_reducible refine (yF _ _ _).mono (fun r _=> ?_)
  |with_reducible refine (xP _ _ _ _ ?_).mono (fun r _=> ?_)
  |with_reducible refine (yG _ _ ?_).mono (fun r _=> ?_)
  |with_reducible refine x4 ?_ ?_ (fun y _ _=> ?_)
  |with_reducible refine wS ?_ ?_ (fun y _ _=> ?_)
  |with_reducible refine wD (fun _=> ?_) (fun _=> ?_)
  |with_reducible refine zJ (fun _=> ?_) (fun _=> ?_)
  |with_reducible refine zD (fun _=> ?_) (fun _=> ?_)
  |with_reducible refine z8 ?_
  |with_reducible refine wZ (fun s _ _=> ?_) (fun s _ _=> ?_)
  |simp only [jW ‹_[_]? =some _›,ae]
  |with_reducible refine zAV ?_
  |with_reducible refine zC ?_
  |with_reducible refine e2l ?_
  |with_reducible refine e2r ?_
  |exact zH (by omega) (by omega)
  |omega
  |(rw [zH (by omega) (by omega)];omega)
  |(simp only [beq_iff_eq] at*;omega)
  |(simp only [aA,av] at*;exact zH (by omega) (by omega)))
theorem zOe (a1:Ty.El (zB)) (h0:RtS a1):Wp (v2 (a1,())) (fun _=>True):=by
 have hh0:=h0
 obtain ⟨p01,p02⟩:=hh0
 unfold v2
 try dsimp only
 repeat' (first
  |with_reducible exact trivial
  |assumption
  |contradiction
  |with_reducible refine zA ?_
  |with_reducible refine (zAh _).mono (fun r _=> ?_)
  |with_reducible refine (yF _ _ _).mono (fun r _=> ?_)
  |with_reducible refine (xP _ _ _ _ ?_).mono (fun r _=> ?_)
  |with_reducible refine (yG _ _ ?_).mono (fun r _=> ?_)
  |with_reducible refine (zHj _ ?_).mono (fun r _=> ?_)
  |with_reducible refine (zFg _ ?_).mono (fun r _=> ?_)
  |with_reducible refine (zFy _ ?_).mono (fun r _=> ?_)
  |with_reducible refine (zI5 _ ?_).mono (fun r _=> ?_)
  |with_reducible refine x4 ?_ ?_ (fun y _ _=> ?_)
  |with_reducible refine wS ?_ ?_ (fun y _ _=> ?_)
  |with_reducible refine wD (fun _=> ?_) (fun _=> ?_)
  |with_reducible refine zJ (fun _=> ?_) (fun _=> ?_)
  |with_reducible refine zD (fun _=> ?_) (fun _=> ?_)
  |with_reducible refine z8 ?_
  |with_reducible refine wZ (fun s _ _=> ?_) (fun s _ _=> ?_)
  |simp only [jW ‹_[_]? =some _›,ae]
  |with_reducible refine zAV ?_
  |with_reducible refine zC ?_
  |with_reducible refine e2l ?_
  |with_reducible refine e2r ?_
  |exact zH (by omega) (by omega)
  |omega
  |(rw [zH (by omega) (by omega)];omega)
  |(simp only [beq_iff_eq] at*;omega)
  |(simp only [aA,av] at*;exact zH (by omega) (by omega)))
end Go.Ve

namespace Go.Ve
open Go
set_option maxRecDepth 1000000
set_option maxHeartbeats 4000000
theorem zY7 {α ρ:Type} {xs ys:List α} {body:Int→Option (Int ⊕ (Unit ⊕ ρ))} {K:Unit→Option ρ} {Q:ρ→Prop} (hl:xs.length<4611686018427387904) (he:xs.length=ys.length)
  (step: ∀ (i:Nat) x y,xs[i]? =some x→ys[i]? =some y→Wp (body (i:Int)) (wG (fun s'=>s'=IntKind.wrap .i64 ((i:Int)+1)∧x=y) (wG (fun _=>False) Q))) (fin:xs=ys→Wp (K ()) Q):
  Wp (qM (zL (fun s:Int=>bif decide (s< (xs.length:Int)) then body s else some (Sum.inr (Sum.inl ()))) (0:Int)) K) Q:=by
 refine uY hl (fun i=> ∀j,j<i→xs[j]? =ys[j]?) (fun j hj=>by omega) ?_ (fun h=>fin ?_)
 ·intro i x hx hj
  have hi:=(ac.1 hx).1
  have hy:ys[i]? =some (ys[i]'(by omega)):=by simp
  refine (step i x _ hx hy).mono ?_
  intro o ho
  cases o with
  |inl s'=>
   refine ⟨ho.1,?_⟩
   intro j hj'
   rcases aL j i with h'|h'
   ·exact hj j h'
   ·have:j=i:=by omega
    subst this
    rw [hx,hy,ho.2]
  |inr o=>exact ho
 ·refine ct (fun j=> ?_)
  rcases aL j xs.length with h'|h'
  ·exact h j h'
  ·rw [bg h',bg (by omega)]
structure RtB (x:Ty.El zB):Prop where
 path:x.2.2.2.2.2.2.2.2.1.length≤1152921504606846976
 hops:x.2.2.2.2.2.2.2.2.2.2.2.1.length≤1152921504606846976
theorem zX7 (a b:Ty.El zB) (ha:RtB a):Wp (zGm (a,b,())) (fun r=>r=true↔a=b):=by
 obtain ⟨hp,hh⟩:=ha
 obtain ⟨⟨pa,pl,⟨⟩⟩,pr,cl,ad,me,inn,tg,pf,path,fr,nx,hops,dc,⟨⟩⟩:=a
 obtain ⟨⟨pa',pl',⟨⟩⟩,pr',cl',ad',me',inn',tg',pf',path',fr',nx',hops',dc',⟨⟩⟩:=b
 simp only at hp hh
 unfold zGm
 dsimp only
 refine zC ((show Wp _ (fun s:Bool=>(s=true→ ¬(pa=pa'∧pl=pl'∧pr=pr'∧cl=cl'∧ad=ad'∧me=me'∧inn=inn'∧tg=tg'∧pf=pf'∧fr=fr'∧nx=nx'∧dc=dc'∧path.length=path'.length∧hops.length=hops'.length))∧
  (s=false→pa=pa'∧pl=pl'∧pr=pr'∧cl=cl'∧ad=ad'∧me=me'∧inn=inn'∧tg=tg'∧pf=pf'∧fr=fr'∧nx=nx'∧dc=dc'∧path.length=path'.length∧hops.length=hops'.length)) from ?_).mono ?_)
 ·iterate 12 (refine zD (fun h=>zA ⟨fun _ e=> ?_,fun h=>by cases h⟩) (fun _=> ?_); · simp_all)
  refine zA ⟨fun h e=> ?_,fun h=> ?_⟩
  ·simp_all
  ·simp_all<;>omega
 intro s hs
 refine zD (fun h=>zA ?_) (fun h=> ?_)
 ·have h1:=hs.1 h
  constructor
  ·intro h';cases h'
  ·intro e
   exfalso
   apply h1
   simp only [ak] at e
   obtain ⟨⟨e1,e2,_⟩,e3,e4,e5,e6,e7,e8,e9,e10,e11,e12,e13,e14,_⟩:=e
   exact ⟨e1,e2,e3,e4,e5,e6,e7,e8,e9,e11,e12,e14,by rw [e10],by rw [e13]⟩
 obtain ⟨rfl,rfl,rfl,rfl,rfl,rfl,rfl,rfl,rfl,rfl,rfl,rfl,l1,l2⟩:=hs.2 h
 refine zY7 (xs:=path) (ys:=path') (by omega) l1 ?_ (fun e1=> ?_)
 ·intro i x y hx hy
  simp only [zI hx,zI hy,ae]
  refine zD (fun h=>zA (e2r (e2r ?_))) (fun h=>zA (e2l ⟨rfl,?_⟩))
  ·constructor
   ·intro h';cases h'
   ·intro e
    exfalso
    simp only [ak] at e
    obtain ⟨_,_,_,_,_,_,_,_,e10,_⟩:=e
    rw [e10,hy] at hx
    cases hx
    simp at h
  ·simpa using h
 subst e1
 refine zY7 (xs:=hops) (ys:=hops') (by omega) l2 ?_ (fun e1=> ?_)
 ·intro i x y hx hy
  simp only [zI hx,zI hy,ae]
  refine zD (fun h=>zA (e2r (e2r ?_))) (fun h=>zA (e2l ⟨rfl,?_⟩))
  ·constructor
   ·intro h';cases h'
   ·intro e
    exfalso
    simp only [ak] at e
    obtain ⟨_,_,_,_,_,_,_,_,_,_,_,e10,_⟩:=e
    rw [e10,hy] at hx
    cases hx
    simp at h
  ·exact zGq (by simpa using h)
 subst e1
 exact zA ⟨fun _=>rfl,fun _=>rfl⟩
theorem zK9 (p:Ty.El zG) (a:Int):Wp (wR (p,a,())) (fun _=>True):=by
 unfold wR zD8 zCX
 simp only [ae]
 refine zC (zD (fun _=>zA (zA trivial)) (fun h=> ?_))
 exfalso
 simp only [decide_eq_false_iff_not] at h
 apply h
 split<;>split<;>(rw [zH (by omega) (by omega)];omega)
theorem zX2 {α:Type} {m:Option α} {x:α} (h:Wp m (fun _=>True)):m=some (m.getD x):=by
 obtain ⟨r,h,_⟩:=h
 rw [h];rfl
noncomputable def zRT (p:Ty.El zG) (a:Int):Bool:=(wR (p,a,())).getD false
theorem zXN (p:Ty.El zG) (a:Int):wR (p,a,())=some (zRT p a):=zX2 (zK9 p a)
def jI (p q:Ty.El zG):Bool:=p.1==q.1&&(p.2.1==q.2.1&&true)
theorem zDc {p q:Ty.El zG} :jI p q=true↔p=q:=⟨fun h=>zGq h,fun h=>by subst h;simp [jI]⟩
noncomputable def zEk (own:Ty.El zG) (a:Int) (best:Option (Ty.El zB)) (x:Ty.El zB):Option (Ty.El zB):=
 if jI x.1 own|| !zRT x.1 a then best else match best with
  |none=>some x
  |some b=>if x.1.2.1>b.1.2.1 then some x else best
theorem zPz {own:Ty.El zG} {a:Int} {b:Option (Ty.El zB)} {x:Ty.El zB} (h:(jI x.1 own|| !zRT x.1 a)=true):zEk own a b x=b:=by
 unfold zEk;rw [if_pos h]
theorem zPA {own:Ty.El zG} {a:Int} {x:Ty.El zB} (h:(jI x.1 own|| !zRT x.1 a)=false):zEk own a none x=some x:=by
 unfold zEk;rw [if_neg (by rw [h];simp)]
theorem zGk {own:Ty.El zG} {a:Int} {b x:Ty.El zB} (h:(jI x.1 own|| !zRT x.1 a)=false):zEk own a (some b) x=if x.1.2.1>b.1.2.1 then some x else some b:=by
 unfold zEk;rw [if_neg (by rw [h];simp)]
noncomputable def zBZ (t:List (Ty.El zB)) (own:Ty.El zG) (a:Int):Option (Ty.El zB):=t.foldl (zEk own a) none
theorem zCT {α β:Type} {f:β→α→β} {b:β} {xs:List α} {i:Nat} {x:α} (h:xs[i]? =some x):(xs.take (i+1)).foldl f b=f ((xs.take i).foldl f b) x:=by
 rw [b9,h]
 simp
theorem zHO (t:List (Ty.El zB)) (own:Ty.El zG) (a:Int) (hl:t.length<4611686018427387904):
  Wp (zBh (t,own,a,())) (fun k=>(k<0∧zBZ t own a=none)∨ ∃ (i:Nat) (y:Ty.El zB),k=(i:Int)∧t[i]? =some y∧zBZ t own a=some y):=by
 unfold zBh
 dsimp only
 refine zC ((qZ (xs:=t) hl (fun i (k:Int)=>(k<0∧(t.take i).foldl (zEk own a) none=none)∨ ∃ (m:Nat) (y:Ty.El zB),k=(m:Int)∧t[m]? =some y∧(t.take i).foldl (zEk own a) none=some y)
  (.inl ⟨by omega,rfl⟩) ?_ (fun g hg=> ?_) (Q:=fun k=>(k<0∧zBZ t own a=none)∨ ∃ (i:Nat) (y:Ty.El zB),k=(i:Int)∧t[i]? =some y∧zBZ t own a=some y)).mono (fun k hk=>zA hk))
 ·intro i x k hx hj
  rw [zCT hx]
  generalize (t.take i).foldl (zEk own a) none=b at hj
  simp only [zI hx,ae]
  refine zC ((show Wp _ (fun s:Bool=>s=(jI x.1 own|| !zRT x.1 a)) from ?_).mono ?_)
  ·refine zD (fun h=>zA ?_) (fun h=>zC (zY (zXN _ _) (zA ?_)))
   ·have h':jI x.1 own=true:=h
    simp [h']
   ·have h':jI x.1 own=false:=h
    simp [h']
  intro s hs
  refine zD (fun h=>zA ?_) (fun h=> ?_)
  ·rw [zPz (by rw [←hs,h])]
   exact hj
  ·have hsk:(jI x.1 own|| !zRT x.1 a)=false:=by rw [←hs,h]
   rcases hj with ⟨h1,rfl⟩|⟨m,y,rfl,h2,rfl⟩
   ·refine zC (zD (fun _=>zA ?_) (fun h'=> ?_))
    ·exact zA (.inr ⟨i,x,rfl,hx,zPA hsk⟩)
    ·exfalso;simp only [decide_eq_false_iff_not] at h';exact h' h1
   ·refine zC (zD (fun h'=> ?_) (fun _=> ?_))
    ·exfalso;simp only [decide_eq_true_eq] at h';omega
    ·simp only [zI h2,ae]
     refine zA (zJ (fun h'=> ?_) (fun h'=> ?_))
     ·exact zA (.inr ⟨i,x,rfl,hx,by rw [zGk hsk,if_pos h']⟩)
     ·exact zA (.inr ⟨m,y,rfl,h2,by rw [zGk hsk,if_neg h']⟩)
 ·rw [aN] at hg
  exact hg
end Go.Ve

namespace Go.Ve
open Go
set_option maxRecDepth 1000000
set_option maxHeartbeats 4000000
def zHy (e y:Ty.El zO):Bool:=y.1==e.1&&(y.2.1==e.2.1&&true)
theorem zVk {e y:Ty.El zO} :zHy e y=true↔y=e:=⟨fun h=>zGq h,fun h=>by subst h;simp [zHy]⟩
def uT (v:Ty.El zN) (r i:Int):Int:=kQ (fun d:Ty.El uZ=>d.2.2.1.any (zHy (r,i,()))) v.2.1.1
def zIR (v:Ty.El zN) (r i:Int):Int:=kQ (fun l:Int=>decide (uT v r i≥0)&&l==uT v r i) v.2.1.2.1
def upB (v:Ty.El zN) (r i:Int):Bool:=decide (0≤uT v r i)&&v.2.2.1.all (fun x:Int=> !(x==zIR v r i))
structure xY (v:Ty.El zN):Prop where
 rs:v.1.1.length≤9
 sm: ∀y,y∈v.1.1→SmR y
 doms:v.2.1.1.length≤360
 ends : ∀ d, d ∈ v.2.1.1 → d.2.2.1.length ≤ 360
 links:v.2.1.2.1.length≤12
 link0: ∀l,l∈v.2.1.2.1→(0:Int)≤l
 down:v.2.2.1.length≤2
 down0: ∀l,l∈v.2.2.1→(0:Int)≤l
theorem zDz.s {n:Ty.El zX} {d:List Int} {v:Ty.El zN} (h:zDz n d v):xY v where
 rs:=by rw [h.net];exact h.rs
 sm:=by rw [h.net];exact h.sm
 doms:=h.topo.doms
 ends := fun d hd => (h.topo.ends d hd).1
 links:=h.topo.links
 link0:=fun l hl=>(h.topo.link l hl).1
 down:=by rw [h.dn];exact h.down.len
 down0:=by rw [h.dn];exact fun l hl=>(h.down.lo l hl).1
theorem zE9 {α:Type} {p:α→Bool} {xs:List α} :kQ p xs≥0↔xs.any p=true:=by
 rcases zEw p xs with ⟨h,h2⟩|⟨i,x,h,h2,h3,_⟩
 ·rw [h]
  constructor
  ·intro h';omega
  ·intro h'
   obtain ⟨x,hx,hp⟩:=bt.1 h'
   rw [h2 x hx] at hp
   cases hp
 ·rw [h]
  exact ⟨fun _=>bt.2 ⟨x,af h2,h3⟩,fun _=>by omega⟩
theorem zFa {α:Type} {p:α→Bool} {xs:List α} (h:0≤kQ p xs): ∃x,xs[(kQ p xs).toNat]? =some x∧p x=true:=by
 rcases zEw p xs with ⟨h1,h2⟩|⟨i,x,h1,h2,h3,_⟩
 ·omega
 ·rw [h1];exact ⟨x,by simpa using h2,h3⟩
theorem zHk (l:List (Ty.El zO)) (e:Ty.El zO) (hl:l.length≤1048576):Wp (zAz (l,e,())) (fun k=>k=kQ (zHy e) l):=by
 unfold zAz
 dsimp only
 refine kM (p:=zHy e) (by omega) ?_ rfl
 intro i x hx
 simp only [zI hx,ae]
 have:(e.1==x.1&&(e.2.1==x.2.1&&true))=zHy e x:=by
  unfold zHy
  rw [bJ]
  simp only [c8,aj,beq_iff_eq]
  exact ⟨fun h=>⟨h.1.symm,h.2.symm⟩,fun h=>⟨h.1.symm,h.2.symm⟩⟩
 rw [this]
 cases zHy e x<;>rfl
theorem zFh (l:List (Ty.El zO)) (e:Ty.El zO) (hl:l.length≤1048576):Wp (u5 (l,e,())) (fun b=>b=l.any (zHy e)):=by
 unfold u5
 dsimp only
 refine zC ((zHk l e hl).mono (fun k hk=>zA ?_))
 subst hk
 rw [bJ,decide_eq_true_eq]
 exact zE9
theorem zCJ (v:Ty.El zN) (r i:Int) (hv:xY v):Wp (zBw (v,r,i,())) (fun k=>k=uT v r i):=by
 unfold zBw
 dsimp only
 have:=hv.doms
 refine kM (p:=fun d:Ty.El uZ=>d.2.2.1.any (zHy (r,i,()))) (by omega) ?_ rfl
 intro k x hx
 simp only [zI hx,ae]
 have:=hv.ends x (af hx)
 have h1:=j9 (zFh x.2.2.1 (r,i,()) (by omega))
 refine (congrArg (fun m=>Option.bind m _) h1).trans ?_
 simp only [ae]
 cases List.any x.2.2.1 (zHy (r,i,()))<;>rfl
theorem zBT (v:Ty.El zN) (r i:Int) (hv:xY v):Wp (zAH (v,r,i,())) (fun k=>k=uT v r i):=by
 unfold zAH
 dsimp only
 have:=hv.doms
 refine uY (by omega) (fun k=> ∀j y,j<k→v.2.1.1[j]? =some y→y.2.2.1.any (zHy (r,i,()))=false) (fun j y hj=>by omega) ?_ ?_
 ·intro k x hx hj
  have hends:=hv.ends x (af hx)
  simp only [zI hx,ae]
  refine uY (xs:=x.2.2.1) (by omega) (fun m=> ∀y,y∈x.2.2.1.take m→zHy (r,i,()) y=false) (fun y hy=>by simp at hy) ?_ ?_
  ·intro m y hy hm
   simp only [zI hy,ae]
   refine zD (fun h=>zA (e2r (e2r (e2r (e2r ?_))))) (fun h=>zA (e2l ⟨rfl,?_⟩))
   ·have h1:x.2.2.1.any (zHy (r,i,()))=true:=bt.2 ⟨y,af hy,h⟩
    exact (zXI (p:=fun d:Ty.El uZ=>d.2.2.1.any (zHy (r,i,()))) hx h1 hj).symm
   ·intro z hz
    rw [b9,hy] at hz
    simp only [cQ,aX,aO] at hz
    rcases hz with hz|rfl
    ·exact hm z hz
    ·exact h
  ·intro hm
   rw [aN] at hm
   refine zA (e2l ⟨rfl,?_⟩)
   intro j y hj' hy
   rcases aL j k with h'|h'
   ·exact hj j y h' hy
   ·have:j=k:=by omega
    subst this
    rw [hx] at hy
    cases hy
    rw [Bool.eq_false_iff]
    intro h
    obtain ⟨z,hz,hz2⟩:=bt.1 h
    rw [hm z hz] at hz2
    cases hz2
 ·intro hj
  refine zA (zIW ?_).symm
  intro x hx
  obtain ⟨j,hjl,rfl⟩:=aD hx
  exact hj j _ hjl (by simp [hjl])
theorem zCx (l:List Int) (e:Int) (hl:l.length≤1048576):Wp (yK (l,e,())) (fun k=>k=kQ (fun x=>x==e) l):=by
 unfold yK
 dsimp only
 refine kM (p:=fun x:Int=>x==e) (by omega) ?_ rfl
 intro i (x:Int) hx
 simp only [zI hx,ae]
 have:(e==x)=(x==e):=by rw [bJ,beq_iff_eq,beq_iff_eq];exact eq_comm
 rw [this]
 cases x==e<;>rfl
theorem zA6 (l:List Int) (e:Int) (hl:l.length≤1048576):Wp (vP (l,e,())) (fun b=>b=l.any (fun x=>x==e)):=by
 unfold vP
 dsimp only
 refine zC ((zCx l e hl).mono (fun k hk=>zA ?_))
 subst hk
 rw [bJ,decide_eq_true_eq]
 exact zE9
theorem zPu (v:Ty.El zN) (r i:Int) (hv:xY v):Wp (zIG (v,r,i,())) (fun k=>k=zIR v r i):=by
 unfold zIG
 dsimp only
 refine zC ((zCJ v r i hv).mono (fun k hk=> ?_))
 subst hk
 refine zJ (fun h=>zA ?_) (fun h=> ?_)
 ·unfold zIR
  rw [zIW]
  intro x _
  have: ¬(uT v r i≥0):=by omega
  simp [this]
 ·have:=hv.links
  refine zC ((zCx _ _ (by omega)).mono (fun k hk=>zA ?_))
  rw [hk]
  unfold zIR
  have h2:uT v r i≥0:=by omega
  congr 1
  funext l
  simp [h2]
theorem zOk (v:Ty.El zN) (r i:Int) (hv:xY v):Wp (zGo (v,r,i,())) (fun k=>k=zIR v r i):=by
 unfold zGo
 dsimp only
 refine zC ((zBT v r i hv).mono (fun k hk=> ?_))
 subst hk
 have:=hv.links
 refine kM (p:=fun l:Int=>decide (uT v r i≥0)&&l==uT v r i) (by omega) ?_ rfl
 intro i' (x:Int) hx
 simp only [zI hx,ae]
 cases decide (uT v r i≥0)<;>cases x==uT v r i<;>rfl
theorem zVP {α:Type} {p:α→Bool} (l:List α):(!l.any p)=l.all (fun x=> !p x):=by
 induction l with
 |nil=>rfl
 |cons x l ih=>simp [←ih]
theorem zGf (v:Ty.El zN) (r i:Int) (hv:xY v):Wp (zIF (v,r,i,())) (fun b=>b=upB v r i):=by
 unfold zIF
 dsimp only
 refine zC ((zCJ v r i hv).mono (fun k hk=> ?_))
 subst hk
 refine zJ (fun h=>zA ?_) (fun h=> ?_)
 ·unfold upB
  have: ¬(0≤uT v r i):=by omega
  simp [this]
 ·refine zC ((zPu v r i hv).mono (fun k hk=> ?_))
  subst hk
  have h0:0≤uT v r i:=by omega
  have hd:=hv.down
  refine zC (zJ (fun h=>zA (zA ?_)) (fun h=> ?_))
  ·unfold upB
   simp only [h0,decide_true,cF]
   symm
   rw [aq]
   intro x hx
   have:=hv.down0 x hx
   simp only [bj,beq_eq_false_iff_ne]
   omega
  ·refine zC ((zA6 _ _ (by omega)).mono (fun b hb=>zA (zA ?_)))
   subst hb
   unfold upB
   simp only [h0,decide_true,cF]
   exact zVP _
theorem zFi (v:Ty.El zN) (r i:Int) (hv:xY v):Wp (zFH (v,r,i,())) (fun b=>b=upB v r i):=by
 unfold zFH
 dsimp only
 refine zC ((zBT v r i hv).mono (fun k hk=> ?_))
 subst hk
 refine zJ (fun h=>zA ?_) (fun h=> ?_)
 ·unfold upB
  have: ¬(0≤uT v r i):=by omega
  simp [this]
 ·refine zC ((zOk v r i hv).mono (fun k hk=> ?_))
  subst hk
  have h0:0≤uT v r i:=by omega
  have hd:=hv.down
  refine zAW (P:=fun x:Int=>(x==zIR v r i)=false) (by omega) ?_ (fun hall=>zA ?_)
  ·intro i' (x:Int) hx
   simp only [zI hx,ae]
   refine zD (fun h=>zA (e2r (e2r ?_))) (fun h=>zA (e2l ⟨rfl,h⟩))
   unfold upB
   simp only [h0,decide_true,cF]
   symm
   rw [Bool.eq_false_iff]
   intro hh
   have:=aq.1 hh x (af hx)
   simp [h] at this
  ·unfold upB
   simp only [h0,decide_true,cF]
   symm
   rw [aq]
   intro x hx
   simp [hall x hx]
def zIf (r:Ty.El zF) (nm:Ty.El .str):Int:=kQ (fun x:Ty.El qA=>x.1==nm) r.2.2.1
theorem zHR (r:Ty.El zF) (nm:Ty.El .str) (hr:SmR r):Wp (zBl (r,nm,())) (fun k=>k=zIf r nm):=by
 unfold zBl w4 zBs
 dsimp only
 have:=hr.i1
 refine zC (kM (p:=fun x:Ty.El qA=>x.1==nm) (by omega) ?_ (zA rfl))
 intro i x hx
 simp only [zI hx,ae]
 cases x.1==nm<;>rfl
theorem zDB (r:Ty.El zF) (nm:Ty.El .str) (hr:SmR r):Wp (kI (r,nm,())) (fun k=>k=zIf r nm):=by
 unfold kI
 dsimp only
 have:=hr.i1
 refine kM (p:=fun x:Ty.El qA=>x.1==nm) (by omega) ?_ rfl
 intro i x hx
 simp only [zI hx,ae]
 cases x.1==nm<;>rfl
end Go.Ve

namespace Go.Ve
open Go
set_option maxRecDepth 1000000
set_option maxHeartbeats 4000000
def vA (n:Int):Nat:=min n.toNat 32
def zDF (k:Nat):BitVec 32:=BitVec.allOnes 32<<< (32-k)
theorem zSD (n:Int):vA n≤32:=Nat.min_le_right _ _
theorem zY6 {x:Int} (h0:0≤x) (h1:x<4294967296):IntKind.wrap .u32 x=x:=by
 have e1:((2:Int)^IntKind.bits .u32)=4294967296:=by decide
 simp only [IntKind.wrap,IntKind.signed,Bool.false_and,bz,if_false,e1]
 omega
theorem zSJ (x:BitVec 32):IntKind.wrap .u32 (x.toNat:Int)=(x.toNat:Int):=zY6 (by omega) (by have:=x.isLt;omega)
theorem zLV (x:BitVec 32):BitVec.ofInt 32 (x.toNat:Int)=x:=by
 rw [BitVec.ofInt_natCast,BitVec.ofNat_toNat,BitVec.setWidth_eq]
theorem zXZ: ∀i,i<32→zDF i|||BitVec.ofInt 32 (IntKind.wrap .u32 (1*2^min (31-i) 32))=zDF (i+1):=by decide+kernel
theorem zYn:zDF 0=0#32:=by decide+kernel
theorem zTT: ∀k,k<33→IntKind.wrap .u32 (4294967295*2^min (32-k) 32)=((zDF k).toNat:Int):=by decide+kernel
theorem zEe (n:Int):Wp (zBA (n,())) (fun m=>m=((zDF (vA n)).toNat:Int)):=by
 unfold zBA
 dsimp only
 refine zC ((zTW (n:=32) (by omega) (fun i (m:Int)=>m=((zDF (min i (vA n))).toNat:Int)) (by simp [zYn]) (fun i g _=>by simp) ?_ (Q:=fun m=>m=((zDF (vA n)).toNat:Int)) (fun g hg=>by
  rw [hg,cA (zSD n)])).mono (fun m hm=>zA hm))
 intro i g hi hg
 subst hg
 refine zJ (fun h=> ?_) (fun h=>zA ?_)
 ·have h:(i:Int)<n:=h
  have hk:i<vA n:=by unfold vA;omega
  refine zJ (fun _=>zA ?_) (fun h'=>absurd ?_ h')
  ·have e1:min i (vA n)=i:=by omega
   have e2:min (i+1) (vA n)=i+1:=by omega
   rw [e1,e2]
   dsimp only
   rw [zH (by omega) (by omega),zK2 (by omega) (by omega),show ((31:Int) - (i:Int)).toNat=31-i by omega]
   change IntKind.wrap .u32 (((BitVec.ofInt 32 ((zDF i).toNat:Int)|||BitVec.ofInt 32 (IntKind.wrap .u32 (1*2^min (31-i) 32))).toNat:Nat):Int)=_
   rw [zLV,zXZ i hi,zSJ]
  ·simp only
   rw [zH (by omega) (by omega),zK2 (by omega) (by omega)]
   omega
 ·have h: ¬((i:Int)<n):=h
  have hk:vA n≤i:=by unfold vA;omega
  rw [cA hk,cA (by omega)]
theorem zVv (n:Int):(if (if (32:Int)<n then (32:Int) else n)>(0:Int) then if (32:Int)<n then (32:Int) else n else (0:Int))=(vA n:Int):=by
 unfold vA
 split<;>split<;>omega
theorem zYO (n:Int):(if (0:Int)>if (32:Int)<n then (32:Int) else n then (0:Int) else if (32:Int)<n then (32:Int) else n)=(vA n:Int):=by
 unfold vA
 split<;>split<;>omega
theorem zQY (n:Int):vA ((vA n:Nat):Int)=vA n:=by
 unfold vA
 omega
theorem zHS (n:Int):zD8 (n,())=some ((zDF (vA n)).toNat:Int):=by
 have hle:=zSD n
 unfold zD8 zCX
 simp only [zVv,ae]
 rw [zH (by omega) (by omega)]
 have h0:(0:Int)≤32- ((vA n:Nat):Int):=by omega
 simp only [h0,decide_true,cond_true]
 rw [show ((32:Int) - ((vA n:Nat):Int)).toNat=32-vA n by omega]
 exact congrArg some (zTT _ (by omega))
def zCS (a n:Int):Ty.El zG:=(((BitVec.ofInt 32 a&&&zDF (vA n)).toNat:Int),(vA n:Int),())
def zBE (p:Ty.El zG) (a:Int):Bool:=(((BitVec.ofInt 32 a&&&zDF (vA p.2.1)).toNat:Nat):Int)==p.1
theorem zTR (a:Int) (k:Nat):IntKind.wrap .u32 (((BitVec.ofInt (IntKind.bits .u32) a&&&BitVec.ofInt (IntKind.bits .u32) ((zDF k).toNat:Int)).toNat:Nat):Int)=((BitVec.ofInt 32 a&&&zDF k).toNat:Int):=by
 change IntKind.wrap .u32 (((BitVec.ofInt 32 a&&&BitVec.ofInt 32 ((zDF k).toNat:Int)).toNat:Nat):Int)=_
 rw [zLV,zSJ]
theorem zLm (a n:Int):zDY (a,n,())=some (zCS a n):=by
 refine j9 ?_
 unfold zDY
 dsimp only
 refine zC (zY (zHS _) ?_)
 unfold zCX
 simp only [zVv,ae]
 refine zA ?_
 unfold zCS
 rw [zTR]
theorem kY (a n:Int):wU (a,n,())=some (zCS a n):=by
 refine j9 ?_
 unfold wU
 simp only [zYO]
 refine zC ((zEe _).mono (fun m hm=>zA ?_))
 subst hm
 unfold zCS
 rw [zQY,zTR]
theorem zEf (p:Ty.El zG) (a:Int):uN (p,a,())=some (zBE p a):=by
 refine j9 ?_
 unfold uN
 dsimp only
 refine zC ((zEe _).mono (fun m hm=>zA ?_))
 subst hm
 rw [zTR]
 rfl
theorem zEh (p:Ty.El zG) (a:Int):wR (p,a,())=some (zBE p a):=by
 refine j9 ?_
 unfold wR
 dsimp only
 refine zC (zY (zHS _) (zA ?_))
 rw [zTR]
 rfl
theorem zQW (p:Ty.El zG) (a:Int):zRT p a=zBE p a:=by
 have:=zXN p a
 rw [zEh] at this
 exact (aJ this).symm
theorem zYk (a n:Int):zBE (zCS a n) (zCS a n).1=true:=by
 unfold zBE zCS
 simp only [zQY,zLV]
 rw [BitVec.and_assoc,BitVec.and_self]
 simp
theorem yH (p q:Ty.El zG):wY (p,q,())=some (decide (p.2.1≤q.2.1)&&zBE p q.1):=by
 refine j9 ?_
 unfold wY
 dsimp only
 refine zC (zD (fun h=>zC (zY (zEf _ _) (zA (zA ?_)))) (fun h=>zA (zA ?_)))<;>(rw [h];rfl)
theorem zJ9 (p q:Ty.El zG):uM (p,q,())=some ((decide (p.2.1≤q.2.1)&&zBE p q.1)||(decide (q.2.1≤p.2.1)&&zBE q p.1)):=by
 refine j9 ?_
 unfold uM
 dsimp only
 refine zC (zC (zY (yH _ _) (zD (fun h=>zA (zA ?_)) (fun h=>zC (zY (yH _ _) (zA (zA ?_)))))))<;>(rw [h];rfl)
def x5 (p:Ty.El zG):Bool:=decide (p.2.1≥0)&&(decide (p.2.1≤32)&&(BitVec.ofInt 32 p.1&&& ~~~ zDF (vA p.2.1))==0#32)
theorem kS (p:Ty.El zG):w8 (p,())=some (x5 p):=by
 refine j9 ?_
 unfold w8 x5
 dsimp only
 refine zC (zD (fun h=>zD (fun h'=>zC ((zEe _).mono (fun m hm=>zA (zA ?_)))) (fun h'=>zA (zA ?_))) (fun h=>zA (zA ?_)))
 ·subst hm
  rw [h,h']
  simp only [cF]
  change (IntKind.wrap .u32 (((BitVec.ofInt 32 p.1&&& ~~~ BitVec.ofInt 32 ((zDF (vA p.2.1)).toNat:Int)).toNat:Nat):Int)==(0:Int))=_
  rw [zLV,zSJ,bJ,beq_iff_eq,beq_iff_eq]
  constructor
  ·intro h
   apply BitVec.eq_of_toNat_eq
   simp only [BitVec.toNat_ofNat]
   omega
  ·intro h
   rw [h];rfl
 ·rw [h,h'];rfl
 ·rw [h];rfl
end Go.Ve

namespace Go.Ve
open Go
set_option maxRecDepth 1000000
set_option maxHeartbeats 4000000
section
variable {ρ:Type}
theorem qA5 {n:Nat} {body:Int→Option (Int ⊕ (Unit ⊕ ρ))} {Q:Unit ⊕ ρ→Prop} (hl:n<4611686018427387904) (J:Nat→Prop) (h0:J 0)
  (step: ∀i,i<n→J i→Wp (body (i:Int)) (wG (fun s'=>s'=IntKind.wrap .i64 ((i:Int)+1)∧J (i+1)) Q)) (fin:J n→Q (Sum.inl ())):
  Wp (zL (fun s:Int=>bif decide (s< (n:Int)) then body s else some (Sum.inr (Sum.inl ()))) (0:Int)) Q:=by
 refine jF (fun (s:Int)=> ∃i:Nat,s=(i:Int)∧i≤n∧J i) (fun (s:Int)=>((n:Int) -s).toNat) ⟨(0:Nat),rfl,aI _,h0⟩ ?_
 rintro s ⟨i,hi,hle,hj⟩
 subst hi
 refine zJ ?_ ?_
 ·intro hc
  have hlt:i<n:=by omega
  refine (step i hlt hj).mono ?_
  intro o ho
  cases o with
  |inl s'=>
   obtain ⟨rfl,h2⟩:=ho
   rw [zH (by omega) (by omega)]
   exact ⟨⟨i+1,by omega,hlt,h2⟩,by omega⟩
  |inr o=>exact ho
 ·intro hc
  have:i=n:=by omega
  subst this
  exact zA (e2r (fin hj))
theorem zBN {n:Nat} {P:Nat→Prop} {body:Int→Option (Int ⊕ (Unit ⊕ ρ))} {Q:Unit ⊕ ρ→Prop} (hl:n<4611686018427387904)
  (step: ∀i,i<n→Wp (body (i:Int)) (wG (fun s'=>s'=IntKind.wrap .i64 ((i:Int)+1)∧P i) Q)) (fin:(∀i,i<n→P i)→Q (Sum.inl ())):
  Wp (zL (fun s:Int=>bif decide (s< (n:Int)) then body s else some (Sum.inr (Sum.inl ()))) (0:Int)) Q:=by
 refine qA5 hl (fun i=> ∀j,j<i→P j) (fun j hj=>by omega) ?_ fin
 intro i hi hj
 refine (step i hi).mono ?_
 intro o ho
 cases o with
 |inl s'=>
  refine ⟨ho.1,?_⟩
  intro j hj'
  rcases aL j i with h'|h'
  ·exact hj j h'
  ·have:j=i:=by omega
   subst this
   exact ho.2
 |inr o=>exact ho
end
theorem zXl {σ ρ:Type} {m:Option (σ ⊕ ρ)} {K:σ→Option ρ} {Q:ρ→Prop} (P:σ→Prop) (h:Wp m (wG P Q)) (hK: ∀s,P s→Wp (K s) Q):Wp (qM m K) Q:=by
 refine z8 (h.mono ?_)
 intro o ho
 cases o with
 |inl s=>exact hK s ho
 |inr r=>exact ho
theorem z7 (a lo hi:Int):z2 (a,lo,hi,())=some (decide (lo≤a)&&decide (a≤hi)):=by
 refine j9 ?_
 unfold z2
 dsimp only
 refine zC (zD (fun h=>zA (zA ?_)) (fun h=>zA (zA ?_)))<;>(rw [h];rfl)
theorem kZ (a lo hi:Int):qV (a,lo,hi,())=some (decide (lo≤a)&&decide (a≤hi)):=by
 refine j9 ?_
 unfold qV
 dsimp only
 refine zC (zD (fun h=>zA (zA ?_)) (fun h=>zA (zA ?_)))<;>(rw [h];rfl)
def ovB (p q:Ty.El zG):Bool:=(decide (p.2.1≤q.2.1)&&zBE p q.1)||(decide (q.2.1≤p.2.1)&&zBE q p.1)
theorem zUG (a n:Int):ovB (zCS a n) (zCS a n)=true:=by
 unfold ovB
 rw [zYk]
 simp
structure qCg (l:List (Ty.El qA)) (i:Nat) (x:Ty.El qA):Prop where
 name: ∀j y,j<i→l[j]? =some y→y.1≠x.1
 len:0≤x.2.2.1∧x.2.2.1≤32
 addr:x.2.2.1≠0→x.2.1≠0
 ls:x.2.2.2.2.2.1=true→(0≤x.2.2.2.2.2.2.1∧x.2.2.2.2.2.2.1≤255)∧1≤x.2.2.2.2.2.2.2.1∧x.2.2.2.2.2.2.2.1≤65535
 apart: ∀j y,j<i→l[j]? =some y→x.2.2.1≠0→y.2.2.1≠0→ovB (zCS x.2.1 x.2.2.1) (zCS y.2.1 y.2.2.1)=false
def qCf (l:List (Ty.El qA)):Prop:= ∀i x,l[i]? =some x→qCg l i x
theorem zQ0 (l:List (Ty.El qA)) (h0:l.length≤20):Wp (kU (l,())) (fun e=>e=0→qCf l∧l.length≤8):=by
 unfold kU
 dsimp only
 refine zJ (fun _=>zA (fun h=>by cases h)) (fun h=> ?_)
 refine uY (by omega) (fun i=> ∀m x,m<i→l[m]? =some x→qCg l m x) (fun m x hm=>by omega) ?_ (fun hj=>zA (fun _=>⟨fun i x hx=>hj i x (ac.1 hx).1 hx,by omega⟩))
 intro i x hx hj
 have hi:=(ac.1 hx).1
 simp only [zI hx,ae]
 refine z8 (zC ((vY _).mono (fun b _=> ?_)))
 refine zD (fun _=>zA (fun h=>by cases h)) (fun _=> ?_)
 refine z8 (zBN (n:=i) (P:=fun j=> ∀y,l[j]? =some y→y.1≠x.1) (by omega) ?_ (fun hname=> ?_))
 ·intro j hjl
  have hy:l[j]? =some l[j]:=by simp
  simp only [zI hy,ae]
  refine zD (fun _=>zA (fun h=>by cases h)) (fun hn=>zA (e2l ⟨rfl,?_⟩))
  intro y hy'
  rw [hy] at hy'
  cases hy'
  simpa using hn
 ·refine e2l (zC ((show Wp _ (fun s:Bool=>s=false→0≤x.2.2.1∧x.2.2.1≤32) from ?_).mono (fun s hs=> ?_)))
  ·refine zC (zY (z7 _ _ _) (zD (fun _=>zA (fun h=>by cases h)) (fun h1=>zC (zY (z7 _ _ _) (zD (fun _=>zA (fun h=>by cases h)) (fun _=>zC (zY (z7 _ _ _) (zA (fun _=> ?_)))))))))
   simpa using h1
  refine zD (fun _=>zA (fun h=>by cases h)) (fun h1=> ?_)
  have hlen:=hs h1
  refine zC ((show Wp _ (fun s:Bool=>s=false→x.2.2.1≠0→x.2.1≠0) from ?_).mono (fun s hs=> ?_))
  ·refine zD (fun hz=> ?_) (fun hz=> ?_)
   ·have hz:x.2.2.1=0:=by simpa using hz
    repeat' (first
     |exact zA (fun _ hne=>absurd hz hne)
     |refine zD (fun _=> ?_) (fun _=> ?_))
   ·refine zD (fun _=>zA (fun h' _=>by simpa using h')) (fun h'=>zA (fun _ hne=> ?_))
    rw [hz] at*
    exact absurd (show x.2.2.1=0 by simpa using h') hne
  refine zD (fun _=>zA (fun h=>by cases h)) (fun h2=> ?_)
  have haddr:=hs h2
  refine zC ((show Wp _ (fun s:Bool=>s=false→x.2.2.2.2.2.1=true→(0≤x.2.2.2.2.2.2.1∧x.2.2.2.2.2.2.1≤255)∧1≤x.2.2.2.2.2.2.2.1∧x.2.2.2.2.2.2.2.1≤65535) from ?_).mono (fun s hs=> ?_))
  ·refine zD (fun hz=> ?_) (fun hz=> ?_)
   ·refine zC (zY (z7 _ _ _) (zD (fun _=>zA (fun h=>by cases h)) (fun h3=>zC (zY (z7 _ _ _) (zD (fun _=>zA (fun h=>by cases h)) (fun h4=> ?_))))))
    have h3:0≤x.2.2.2.2.2.2.1∧x.2.2.2.2.2.2.1≤255:=by simpa using h3
    have h4:1≤x.2.2.2.2.2.2.2.1∧x.2.2.2.2.2.2.2.1≤65535:=by simpa using h4
    repeat' (first
     |exact zA (fun _ _=>⟨h3,h4⟩)
     |refine zD (fun _=> ?_) (fun _=> ?_))
   ·repeat' (first
     |exact zA (fun _ ht=>by rw [hz] at ht;cases ht)
     |refine zD (fun _=> ?_) (fun _=> ?_))
  refine zD (fun _=>zA (fun h=>by cases h)) (fun h3=> ?_)
  have hls:=hs h3
  refine zBN (n:=i) (P:=fun j=> ∀y,l[j]? =some y→x.2.2.1≠0→y.2.2.1≠0→ovB (zCS x.2.1 x.2.2.1) (zCS y.2.1 y.2.2.1)=false) (by omega) ?_ (fun hap=> ?_)
  ·intro j hjl
   have hy:l[j]? =some l[j]:=by simp
   simp only [zI hy,ae]
   refine zC ((show Wp _ (fun s:Bool=>s=false→x.2.2.1≠0→l[j].2.2.1≠0→ovB (zCS x.2.1 x.2.2.1) (zCS l[j].2.1 l[j].2.2.1)=false) from ?_).mono (fun s hs=> ?_))
   ·refine zD (fun _=>zD (fun _=> ?_) (fun hz=>zA (fun _ _ hne=> ?_))) (fun hz=>zA (fun _ hne=> ?_))
    ·exact zC (zY (kY _ _) (zC (zY (kY _ _) (zC (zY (zJ9 _ _) (zA (fun h _ _=>h)))))))
    ·exact absurd (show l[j].2.2.1=0 by simpa using hz) hne
    ·exact absurd (show x.2.2.1=0 by simpa using hz) hne
   ·refine zD (fun _=>zA (fun h=>by cases h)) (fun hn=>zA (e2l ⟨rfl,?_⟩))
    intro y hy'
    rw [hy] at hy'
    cases hy'
    exact hs hn
  ·refine e2l (zA (e2l ⟨rfl,?_⟩))
   intro m z hm hz
   rcases aL m i with h'|h'
   ·exact hj m z h' hz
   ·have:m=i:=by omega
    subst this
    rw [hx] at hz
    cases hz
    exact ⟨fun j y hjl hy=>hname j hjl y hy,hlen,haddr,hls,fun j y hjl hy=>hap j hjl y hy⟩
structure qCd (r:Ty.El zF) (x:Ty.El zES):Prop where
 pre:x5 x.1=true
 admin:1≤x.2.2.2.2.1∧x.2.2.2.2.1≤255
 tag:0≤x.2.2.2.2.2.1∧x.2.2.2.2.2.1≤65535
 one:(x.2.1≠0∧x.2.2.1= { data:= #[] } ∧x.2.2.2.1=false)∨(x.2.1=0∧x.2.2.1≠ { data:= #[] } ∧x.2.2.2.1=false)∨(x.2.1=0∧x.2.2.1= { data:= #[] } ∧x.2.2.2.1=true)
 iface:x.2.2.1≠ { data:= #[] } →0≤zIf r x.2.2.1
def zSH (r:Ty.El zF):Prop:= ∀x,x∈r.2.2.2.2.2.2.2.1→qCd r x
theorem zVx (r:Ty.El zF) (hr:SmR r):Wp (zAD (r,())) (fun e=>e=0→zSH r):=by
 have hs6:=hr.i6
 unfold zAD
 dsimp only
 refine zJ (fun _=>zA (fun h=>by cases h)) (fun h=> ?_)
 refine zAW (P:=qCd r) (by omega) ?_ (fun hj=>zA (fun _=>hj))
 intro i x hx
 have hi:=(ac.1 hx).1
 simp only [zI hx,ae]
 refine z8 ?_
 have w1:IntKind.wrap .i64 ((0:Int)+1)=1:=by decide
 have w2:IntKind.wrap .i64 ((1:Int)+1)=2:=by decide
 have w3:IntKind.wrap .i64 ((2:Int)+1)=3:=by decide
 refine zC ((show Wp _ (fun k:Int=>k=if x.2.1≠0 then 1 else 0) from ?_).mono (fun k1 hk1=> ?_))
 ·refine zD (fun h=>zA ?_) (fun h=>zA ?_)
  ·rw [w1,if_pos (by simpa using h)]
  ·rw [if_neg (by simpa using h)]
 refine zC ((show Wp _ (fun k:Int=>k=k1+if x.2.2.1≠ { data:= #[] } then 1 else 0) from ?_).mono (fun k2 hk2=> ?_))
 ·refine zD (fun h=>zA ?_) (fun h=>zA ?_)
  ·rw [if_pos (by simpa using h)]
   split at hk1<;>(subst hk1;first|exact w1|exact w2)
  ·rw [if_neg (by simpa using h)];omega
 refine zC ((show Wp _ (fun k:Int=>k=k2+if x.2.2.2.1=true then 1 else 0) from ?_).mono (fun k3 hk3=> ?_))
 ·refine zD (fun h=>zA ?_) (fun h=>zA ?_)
  ·have h:x.2.2.2.1=true:=h
   rw [if_pos h]
   split at hk1<;>split at hk2<;>(subst hk1;subst hk2;first|exact w1|exact w2|exact w3)
  ·have h:x.2.2.2.1=false:=h
   rw [if_neg (by rw [h];simp)];omega
 refine zC ((show Wp _ (fun s:Bool=>s=false→x5 x.1=true∧k3=1∧(1≤x.2.2.2.2.1∧x.2.2.2.2.1≤255)∧0≤x.2.2.2.2.2.1∧x.2.2.2.2.2.1≤65535) from ?_).mono (fun s hs=> ?_))
 ·refine zC (zY (kS _) (zD (fun _=>zA (fun h=>by cases h)) (fun h1=>zD (fun _=>zA (fun h=>by cases h)) (fun h2=> ?_))))
  have h1:x5 x.1=true:=by simpa using h1
  have h2:k3=1:=by simpa using h2
  refine zD (fun _=>zC ((zCH r x.2.1 hr).mono (fun k _=>zJ (fun _=>zA (fun h=>by cases h)) (fun _=> ?_)))) (fun _=> ?_)
  all_goals
   refine zC (zY (z7 _ _ _) (zD (fun _=>zA (fun h=>by cases h)) (fun h3=>zC (zY (z7 _ _ _) (zA (fun h4=>⟨h1,h2,?_,?_⟩))))))
   ·simpa using h3
   ·simpa using h4
 refine zD (fun _=>zA (fun h=>by cases h)) (fun h1=> ?_)
 obtain ⟨g1,g2,g3,g4⟩:=hs h1
 refine zXl (fun _:Unit=>x.2.2.1≠ { data:= #[] } →0≤zIf r x.2.2.1) ?_ (fun _ hif=> ?_)
 ·refine zD (fun hne=> ?_) (fun hne=>zA (e2l (fun h=>absurd h (by simpa using hne))))
  refine zC ((zDB r _ hr).mono (fun k hk=> ?_))
  subst hk
  refine zJ (fun _=>zA (fun h=>by cases h)) (fun hk=> ?_)
  have hk0:0≤zIf r x.2.2.1:=Int.not_lt.1 hk
  obtain ⟨y,hy,_⟩:=zFa (p:=fun x':Ty.El qA=>x'.1==x.2.2.1) (xs:=r.2.2.1) hk0
  refine zC (zY (qBF hk0 hy) (zD (fun _=>zA (fun h=>by cases h)) (fun _=>zA (e2l (fun _=>hk0)))))
 ·refine zBN (n:=i) (P:=fun _=>True) (by omega) ?_ (fun _=>e2l (zA (e2l ⟨rfl,g1,g3,g4,?_,hif⟩)))
  ·intro j hjl
   have hy:r.2.2.2.2.2.2.2.1[j]? =some r.2.2.2.2.2.2.2.1[j]:=by simp
   simp only [zI hy,ae]
   refine zC ((show Wp _ (fun _:Bool=>True) from ?_).mono (fun s _=>zD (fun _=>zA (fun h=>by cases h)) (fun _=>zA (e2l ⟨rfl,trivial⟩))))
   exact zD (fun _=>zA trivial) (fun _=>zA trivial)
  ·rw [hk3,hk2,hk1] at g2
   by_cases c1:x.2.1=0<;>by_cases c2:x.2.2.1= { data:= #[] } <;>cases c3:x.2.2.2.1<;>simp [c1,c2,c3] at g2 ⊢
end Go.Ve

namespace Go.Ve
open Go
set_option maxRecDepth 1000000
set_option maxHeartbeats 4000000
def qAT (r:Ty.El zF) (a:Int):Int:=kQ (fun x:Ty.El qA=>x.2.2.1 !=0&&x.2.1==a) r.2.2.1
theorem zLg (r:Ty.El zF) (a:Int) (hr:SmR r):Wp (xK (r,a,())) (fun k=>k=qAT r a):=by
 unfold xK
 dsimp only
 have:=hr.i1
 refine kM (p:=fun x:Ty.El qA=>x.2.2.1 !=0&&x.2.1==a) (by omega) ?_ rfl
 intro i x hx
 simp only [zI hx,ae]
 cases x.2.2.1 !=0<;>cases x.2.1==a<;>rfl
structure zY3 (r:Ty.El zF):Prop where
 asn:0≤r.2.1∧r.2.1≤65535
 ifs:qCf r.2.2.1
 sts:zSH r
 lists:yL (r.2.2.2.1,())=some 0
 maps:kG (r,())=some 0
 acls:yN (r.2.2.2.2.2.1,())=some 0
 nat:k8 (r,())=some 0
 filters:zB0 (r,())=some 0
 ls:zAj (r,())=some 0
 dv:zA7 (r,())=some 0
 pv:wE (r,())=some 0
 ifl:r.2.2.1.length≤8
theorem zO0 (r:Ty.El zF) (hr:SmR r):Wp (v8 (r,())) (fun e=>e=0→zY3 r):=by
 have hr0:=hr
 obtain ⟨i1,i2,i3,i4,i5,i6,i7,i8,i9,i10,i11,i12,i13,i14,n1,n2,n3⟩:=hr0
 unfold v8
 dsimp only
 refine zC ((vY _).mono (fun b _=> ?_))
 refine zD (fun _=>zA (fun h=>by cases h)) (fun _=> ?_)
 refine zC (zY (z7 _ _ _) (zD (fun _=>zA (fun h=>by cases h)) (fun has=> ?_)))
 have has:0≤r.2.1∧r.2.1≤65535:=by simpa using has
 refine zC ((zQ0 _ i1).mono (fun y12 h12=> ?_))
 refine zAg ((zC7 _ i2 n1).mono (fun _ _=>trivial)) (fun y13 h13=> ?_)
 refine zAg ((zD9 _ hr).mono (fun _ _=>trivial)) (fun y14 h14=> ?_)
 refine zAg ((zC8 _ i4 n3).mono (fun _ _=>trivial)) (fun y15 h15=> ?_)
 refine zAg ((zCv _ hr).mono (fun _ _=>trivial)) (fun y16 h16=> ?_)
 refine zAg ((zFw _ hr).mono (fun _ _=>trivial)) (fun y17 h17=> ?_)
 refine zC ((zVx _ hr).mono (fun y18 h18=> ?_))
 refine zAg ((zEa _ hr).mono (fun _ _=>trivial)) (fun y19 h19=> ?_)
 refine zAg ((zEQ _ hr).mono (fun _ _=>trivial)) (fun y20 h20=> ?_)
 refine zAg ((zDA _ hr).mono (fun _ _=>trivial)) (fun y21 h21=> ?_)
 refine zAW (P:=fun x:Int=>x=0) (xs:=[y12,y13,y14,y15,y16,y17,y18,y19,y20,y21]) (by simp) ?_ (fun hall=>zA (fun _=> ?_))
 ·intro i x hx
  simp only [zI hx,ae]
  refine zD (fun hne=>zA (fun h=> ?_)) (fun h=>zA (e2l ⟨rfl,by simpa using h⟩))
  have h:x=0:=h
  rw [h] at hne
  cases hne
 ·have e12:=hall y12 (by simp)
  have e13:=hall y13 (by simp)
  have e14:=hall y14 (by simp)
  have e15:=hall y15 (by simp)
  have e16:=hall y16 (by simp)
  have e17:=hall y17 (by simp)
  have e18:=hall y18 (by simp)
  have e19:=hall y19 (by simp)
  have e20:=hall y20 (by simp)
  have e21:=hall y21 (by simp)
  exact ⟨has,(h12 e12).1,h18 e18,e13▸h13,e14▸h14,e15▸h15,e16▸h16,e17▸h17,e19▸h19,e20▸h20,e21▸h21,(h12 e12).2⟩
structure qCe (n:Ty.El zX):Prop where
 len:n.1.length≤8
 rt: ∀r,r∈n.1→zY3 r
 name: ∀ (i j:Nat) r q,j<i→n.1[i]? =some r→n.1[j]? =some q→q.1≠r.1
 addr: ∀ (i j:Nat) r q,i≠j→n.1[i]? =some r→n.1[j]? =some q→ ∀x y,x∈r.2.2.1→y∈q.2.2.1→x.2.2.1≠0→y.2.2.1≠0→x.2.1≠y.2.1
theorem zYQ (n:Ty.El zX) (hs: ∀y,y∈n.1→SmR y):Wp (uL (n,())) (fun e=>e=0→qCe n):=by
 unfold uL
 dsimp only
 refine zJ (fun _=>zA (fun h=>by cases h)) (fun hl=> ?_)
 refine uY (by omega) (fun i=> ∀m r,m<i→n.1[m]? =some r→zY3 r∧(∀j q,j<m→n.1[j]? =some q→q.1≠r.1∧ ∀x y,x∈r.2.2.1→y∈q.2.2.1→x.2.2.1≠0→y.2.2.1≠0→x.2.1≠y.2.1)) (fun m x hm=>by omega) ?_ (fun hj=>zA (fun _=> ?_))
 ·intro i r hr hj
  have hi:=(ac.1 hr).1
  have hsm:=hs r (af hr)
  have hs1:=hsm.i1
  simp only [zI hr,ae]
  refine z8 (zC ((zO0 r hsm).mono (fun e he=> ?_)))
  refine zD (fun hne=>zA (fun h=> ?_)) (fun h=> ?_)
  ·have h:e=0:=h
   rw [h] at hne
   cases hne
  have hrt:=he (by simpa using h)
  refine z8 (zBN (n:=i) (P:=fun j=> ∀q,n.1[j]? =some q→q.1≠r.1) (by omega) ?_ (fun hname=> ?_))
  ·intro j hjl
   have hq:n.1[j]? =some n.1[j]:=by simp
   simp only [zI hq,ae]
   refine zD (fun _=>zA (fun h=>by cases h)) (fun hn=>zA (e2l ⟨rfl,?_⟩))
   intro q hq'
   rw [hq] at hq'
   cases hq'
   simpa using hn
  refine e2l (zXm (P:=fun x:Ty.El qA=> ∀j q,j<i→n.1[j]? =some q→ ∀y,y∈q.2.2.1→x.2.2.1≠0→y.2.2.1≠0→x.2.1≠y.2.1) (by omega) ?_ (fun hall=> ?_))
  ·intro k x hx
   simp only [zI hx,ae]
   refine z8 (zBN (n:=i) (P:=fun j=> ∀q,n.1[j]? =some q→ ∀y,y∈q.2.2.1→x.2.2.1≠0→y.2.2.1≠0→x.2.1≠y.2.1) (by omega) ?_ (fun hall=>e2l (zA (e2l ⟨rfl,fun j q hjl hq=>hall j hjl q hq⟩))))
   intro j hjl
   have hq:n.1[j]? =some n.1[j]:=by simp
   simp only [zI hq,ae]
   refine zC ((show Wp _ (fun s:Bool=>s=false→ ∀y,y∈n.1[j].2.2.1→x.2.2.1≠0→y.2.2.1≠0→x.2.1≠y.2.1) from ?_).mono (fun s hs'=> ?_))
   ·refine zD (fun _=>zC ((zLg _ _ (hs _ (bD _))).mono (fun k hk=>zA ?_))) (fun hz=>zA (fun _ y _ hne=>absurd (show x.2.2.1=0 by simpa using hz) hne))
    subst hk
    intro hlt y hy _ hyz hxy
    have hlt: ¬(qAT n.1[j] x.2.1≥0):=of_decide_eq_false hlt
    apply hlt
    unfold qAT
    rw [zE9]
    refine bt.2 ⟨y,hy,?_⟩
    have h1:(y.2.2.1 !=0)=true:=by simpa using hyz
    have h2:(y.2.1==x.2.1)=true:=beq_iff_eq.2 hxy.symm
    rw [h1,h2];rfl
   ·refine zD (fun _=>zA ⟨(fun u h=>by cases h),(fun h=>by cases h)⟩) (fun hn=>zA (e2l ⟨rfl,?_⟩))
    intro q hq'
    rw [hq] at hq'
    cases hq'
    exact hs' hn
  ·refine e2l (zA (e2l ⟨rfl,?_⟩))
   intro m z hm hz
   rcases aL m i with h'|h'
   ·exact hj m z h' hz
   ·have:m=i:=by omega
    subst this
    rw [hr] at hz
    cases hz
    exact ⟨hrt,fun j q hjl hq=>⟨hname j hjl q hq,fun x y hx hy=>hall x hx j q hjl hq y hy⟩⟩
 ·have hall: ∀m r,n.1[m]? =some r→_:=fun m r hr=>hj m r (ac.1 hr).1 hr
  refine ⟨by omega,?_,?_,?_⟩
  ·intro r hr
   obtain ⟨m,hm,rfl⟩:=aD hr
   exact (hall m _ (by simp [hm])).1
  ·intro i j r q hji hr hq
   exact ((hall i r hr).2 j q hji hq).1
  ·intro i j r q hne hr hq x y hx hy hx0 hy0
   rcases aL j i with h'|h'
   ·exact ((hall i r hr).2 j q h' hq).2 x y hx hy hx0 hy0
   ·exact fun h=>((hall j q hq).2 i r (by omega) hr).2 y x hy hx hy0 hx0 h.symm
theorem zTd {n:Ty.El zX} {d:List Int} {v:Ty.El zN} (h:zDz n d v):qCe n:=by
 obtain ⟨e,h1,h2⟩:=zYQ n h.sm
 have h3:=h.chk
 rw [h1] at h3
 exact h2 (aJ h3)
end Go.Ve

namespace Go.Ve
open Go
set_option maxRecDepth 1000000
set_option maxHeartbeats 4000000
def rlt (x y:Ty.El zB):Prop:=plt x.1 y.1
theorem zXy:Ord rlt where
 asym:=fun x y h=>zIP.asym _ _ h
 tr:=fun x y z h1 h2=>zIP.tr _ _ _ h1 h2
end Go.Ve

namespace Go.Ve
open Go
set_option maxRecDepth 1000000
set_option maxHeartbeats 4000000
def zAl (x:Ty.El zB):Int×Int×Int×Int×Int×Int×Int:=
 bif x.2.1==(3:Int) then (x.2.2.1,x.2.2.2.2.1,x.2.2.2.2.2.1,x.2.2.2.2.2.2.1,(0:Int),(0:Int),(0:Int))
 else bif x.2.1==(4:Int) then (x.2.2.2.2.1,x.2.2.1,x.2.2.2.2.2.2.1,(0:Int),(0:Int),(0:Int),(0:Int))
 else bif x.2.1==(5:Int) then (if (3:Int)<x.2.2.1 then (3:Int) else x.2.2.1,IntKind.wrap .i64 ((1000000:Int) -x.2.2.2.2.2.2.2.1),(x.2.2.2.2.2.2.2.2.1.length:Int),x.2.2.2.2.1,x.2.2.1,IntKind.wrap .i64 x.2.2.2.2.2.2.2.2.2.1,(0:Int))
 else (x.2.2.2.1,(0:Int),(0:Int),(0:Int),(0:Int),(0:Int),(0:Int))
def zEE:List (Int×Int)→Int
 |[]=>0
 |(a,b)::r=>if a<b then-1 else if b<a then 1 else zEE r
def xU (x y:Ty.El zB):Int:=
 zEE [((zAl x).1,(zAl y).1),((zAl x).2.1,(zAl y).2.1),((zAl x).2.2.1,(zAl y).2.2.1),((zAl x).2.2.2.1,(zAl y).2.2.2.1),((zAl x).2.2.2.2.1,(zAl y).2.2.2.2.1),((zAl x).2.2.2.2.2.1,(zAl y).2.2.2.2.2.1),((zAl x).2.2.2.2.2.2,(zAl y).2.2.2.2.2.2)]
theorem zG1 (x:Ty.El zB):zEo (x,())=some ((zAl x).1,(zAl x).2.1,(zAl x).2.2.1,(zAl x).2.2.2.1,(zAl x).2.2.2.2.1,(zAl x).2.2.2.2.2.1,(zAl x).2.2.2.2.2.2,()):=by
 unfold zEo zAl
 dsimp only
 cases x.2.1==(3:Int)<;>cases x.2.1==(4:Int)<;>cases x.2.1==(5:Int)<;>rfl
theorem zF4 {a b:Int} {r:List (Int×Int)} {m:Option (Unit ⊕ Int)} (h:Wp m (wG (fun _=>zEE r=0) (fun k=>k=zEE r∧k≠0))):
  Wp (bif decide (a<b) then some (Sum.inr (-1:Int)) else bif decide (a>b) then some (Sum.inr (1:Int)) else m) (wG (fun _=>zEE ((a,b)::r)=0) (fun k=>k=zEE ((a,b)::r)∧k≠0)):=by
 refine zJ (fun h1=>zA (e2r ⟨?_,by omega⟩)) (fun h1=>zJ (fun h2=>zA (e2r ⟨?_,by omega⟩)) (fun h2=> ?_))
 ·simp only [zEE,if_pos h1]
 ·simp only [zEE,if_neg h1,if_pos h2]
 ·have:zEE ((a,b)::r)=zEE r:=by
   simp only [zEE]
   rw [if_neg h1,if_neg h2]
  rw [this]
  exact h
theorem zET (x y:Ty.El zB):zB7 (x,y,())=some (xU x y):=by
 refine j9 ?_
 unfold zB7
 dsimp only
 refine zC (zY (zG1 x) (zC (zY (zG1 y) ?_)))
 refine z8 (Wp.mono (Q:=wG (fun _=>xU x y=0) (fun k=>k=xU x y∧k≠0)) ?_ ?_)
 ·unfold xU
  exact zF4 (zF4 (zF4 (zF4 (zF4 (zF4 (zF4 (zA rfl)))))))
 ·intro o ho
  cases o with
  |inl u=>exact zA ho.symm
  |inr k=>exact ho.1
section
variable {α:Type} {lt eq:α→α→Bool}
def zDW (lt eq:α→α→Bool) (h:α):List α→List α
 |[]=>[h]
 |x::r=>bif lt x h then x::zDW lt eq h r else bif eq x h then x::r else h::x::r
theorem zTn {h:α} : ∀ {l:List α} {k:Nat},k≤l.length→(∀j x,j<k→l[j]? =some x→lt x h=true)→(∀x,l[k]? =some x→lt x h=false)→
  zDW lt eq h l=if (∃x,l[k]? =some x∧eq x h=true) then l else l.take k++[h]++l.drop k
 |[],k,hk,_,_=>by
  have:k=0:=by simpa using hk
  subst this
  simp [zDW]
 |x::r,0,_,_,h2=>by
  have hx:=h2 x rfl
  simp only [zDW,hx,cond_false]
  cases he:eq x h with
  |true=>simp [he]
  |false=>simp [he]
 |x::r,k+1,hk,h1,h2=>by
  have hx:=h1 0 x (by omega) rfl
  have ih:=zTn (l:=r) (k:=k) (by simpa using hk) (fun j y hj hy=>h1 (j+1) y (by omega) (by simpa using hy)) (fun y hy=>h2 y (by simpa using hy))
  simp only [zDW,hx,cond_true,ih,bx,List.take_succ_cons,List.drop_succ_cons,cB]
  split<;>rfl
theorem zL2 (heq: ∀x y,eq x y=true↔x=y) {h z:α} : ∀ {l:List α},z∈zDW lt eq h l↔z∈l∨z=h
 |[]=>by simp [zDW]
 |x::r=>by
  simp only [zDW]
  cases lt x h with
  |true=>simp only [cond_true,aB,zL2 heq (l:=r)];exact or_assoc.symm
  |false=>
   simp only [cond_false]
   cases he:eq x h with
   |true=>
    have:=(heq x h).1 he
    subst this
    simp only [cond_true,aB]
    exact ⟨fun h=> .inl h,fun h=>h.elim id .inl⟩
   |false=>simp only [cond_false,aB];exact ⟨fun h=>h.elim .inr .inl,fun h=>h.elim .inr .inl⟩
theorem zIe {R:α→α→Prop} (ho:Ord R) (hlt: ∀x y,lt x y=true↔R x y) (heq: ∀x y,eq x y=true↔x=y) (htot: ∀x y, ¬R x y→x≠y→R y x) {h:α} : ∀ {l:List α},l.Pairwise R→(zDW lt eq h l).Pairwise R
 |[],_=>by simp [zDW]
 |x::r,hp=>by
  rw [bB] at hp
  simp only [zDW]
  cases hx:lt x h with
  |true=>
   simp only [cond_true]
   rw [bB]
   refine ⟨fun z hz=> ?_,zIe ho hlt heq htot hp.2⟩
   rcases (zL2 heq).1 hz with hz|rfl
   ·exact hp.1 z hz
   ·exact (hlt _ _).1 hx
  |false=>
   simp only [cond_false]
   have hn: ¬R x h:=fun hh=>by rw [(hlt _ _).2 hh] at hx;cases hx
   cases he:eq x h with
   |true=>simp only [cond_true];rw [bB];exact hp
   |false=>
    simp only [cond_false]
    have hne:x≠h:=fun e=>by rw [(heq _ _).2 e] at he;cases he
    have hr:=htot _ _ hn hne
    have tr: ∀z,R x z→R h z:=by
     intro z hz
     exact bP (fun hnz=>ho.tr x z h (ho.asym _ _ hz) hnz hr)
    rw [bB,bB]
    refine ⟨fun z hz=> ?_,hp⟩
    rcases aB.1 hz with rfl|hz
    ·exact hr
    ·exact tr z (hp.1 z hz)
end
end Go.Ve

namespace Go.Ve
open Go
set_option maxRecDepth 1000000
set_option maxHeartbeats 4000000
noncomputable def act (v:Ty.El zN) (t:List (Ty.El zB)) (r:Int) (rt:Ty.El zF) (x:Ty.El zES):Option (Ty.El zB):=
 bif x.2.1 !=(0:Int) then match zBZ t x.1 x.2.1 with
  |none=>none
  |some y=>bif y.2.2.2.2.2.2.2.2.2.2.2.2.1 then none else some (x.1,(2:Int),(0:Int),x.2.2.2.2.1,(0:Int),(0:Int),x.2.2.2.2.2.1,(0:Int),[],(0:Int),x.2.1,[],false,())
 else bif x.2.2.1 != { data:= #[] } then
  bif upB v r (zIf rt x.2.2.1) then some (x.1,(2:Int),(0:Int),x.2.2.2.2.1,(0:Int),(0:Int),x.2.2.2.2.2.1,(0:Int),[],(0:Int),(0:Int),[(zIf rt x.2.2.1,(0:Int),())],false,()) else none
 else bif x.2.2.2.1 then some (x.1,(2:Int),(0:Int),x.2.2.2.2.1,(0:Int),(0:Int),x.2.2.2.2.2.1,(0:Int),[],(0:Int),(0:Int),[],true,()) else none
theorem qT {α β:Type} {f:α→Option β} {xs:List α} {i:Nat} {x:α} (h:xs[i]? =some x):(xs.take (i+1)).filterMap f=(xs.take i).filterMap f++(f x).toList:=by
 rw [b9,h,cQ,List.filterMap_append,cw,List.filterMap_nil]
 cases f x<;>rfl
theorem zJ7 (v:Ty.El zN) (t:List (Ty.El zB)) (r:Nat) (rt:Ty.El zF) (hv:xY v) (hr:v.1.1[r]? =some rt) (ht:t.length≤1048576):
  Wp (zC0 (v,t,(r:Int),())) (fun out=>out=rt.2.2.2.2.2.2.2.1.filterMap (act v t r rt)):=by
 unfold zC0
 dsimp only
 have hrl:=(ac.1 hr).1
 have hsm:=hv.sm rt (af hr)
 have hst:=hsm.i6
 have hr0: ¬((r:Int)<0):=by omega
 have hr1: ¬((r:Int)≥(List.length v.1.1:Int)):=by omega
 refine zC (zJ (fun h=>absurd h hr0) (fun h=>zA ?_))
 refine zJ (fun h=>absurd h hr1) (fun h=> ?_)
 simp only [zI hr,ae]
 refine zC ((qZ (xs:=rt.2.2.2.2.2.2.2.1) (by omega) (fun i (g:List (Ty.El zB))=>g=(rt.2.2.2.2.2.2.2.1.take i).filterMap (act v t r rt)) rfl ?_ (Q:=fun g=>g=rt.2.2.2.2.2.2.2.1.filterMap (act v t r rt)) (fun g hg=>by rw [hg,aN])).mono (fun g hg=>zA hg))
 intro i x g hx hg
 have hi:=(ac.1 hx).1
 have hgl:g.length≤i:=by
  rw [hg]
  refine ay (aF _ _) ?_
  rw [aZ]
  omega
 simp only [zI hx,ae]
 rw [qT hx, ←hg]
 have skip:act v t r rt x=none→(wG (fun s:List (Ty.El zB)×Ty.El zB=>Wp (Option.bind (app (136:Nat) s.1 [s.2]) fun y68=>some y68) (fun g'=>g'=g++(act v t r rt x).toList)) (fun g'=>g'=g++(act v t r rt x).toList)) (Sum.inr g):=by
  intro h
  rw [h]
  exact e2r (ba g).symm
 have take: ∀y,act v t r rt x=some y→(wG (fun s:List (Ty.El zB)×Ty.El zB=>Wp (Option.bind (app (136:Nat) s.1 [s.2]) fun y68=>some y68) (fun g'=>g'=g++(act v t r rt x).toList)) (fun g'=>g'=g++(act v t r rt x).toList)) (Sum.inl (g,y)):=by
  intro y h
  rw [h]
  refine e2l (zC (qU (by simp only [aC];omega) (zA rfl)))
 refine z8 (zD (fun h1=> ?_) (fun h1=>zD (fun h2=> ?_) (fun h2=>zD (fun h3=> ?_) (fun h3=> ?_))))
 ·refine zC ((zHO t x.1 x.2.1 (by omega)).mono (fun k hk=> ?_))
  rcases hk with ⟨hk,hn⟩|⟨m,y,rfl,hm,hy⟩
  ·refine zC (zJ (fun _=>zA (zA (skip ?_))) (fun h=>absurd hk h))
   unfold act
   rw [h1,cond_true,hn]
  ·refine zC (zJ (fun h=>absurd h (by omega)) (fun _=> ?_))
   simp only [zI hm,ae]
   refine zA (zD (fun h=>zA (skip ?_)) (fun h=>zA (take _ ?_)))
   ·unfold act
    rw [h1,cond_true,hy]
    simp only
    have h:y.2.2.2.2.2.2.2.2.2.2.2.2.1=true:=h
    rw [h];rfl
   ·unfold act
    rw [h1,cond_true,hy]
    simp only
    have h:y.2.2.2.2.2.2.2.2.2.2.2.2.1=false:=h
    rw [h];rfl
 ·refine zC ((zHR rt x.2.2.1 hsm).mono (fun k hk=> ?_))
  subst hk
  refine zC ((zGf v r _ hv).mono (fun b hb=> ?_))
  subst hb
  refine zD (fun h=>zA (skip ?_)) (fun h=>zA (take _ ?_))
  ·unfold act
   rw [h1,cond_false,h2,cond_true]
   simp only [bj] at h
   rw [h];rfl
  ·unfold act
   rw [h1,cond_false,h2,cond_true]
   simp only [dQ] at h
   rw [h];rfl
 ·refine zA (take _ ?_)
  unfold act
  rw [h1,cond_false,h2,cond_false,h3];rfl
 ·refine zA (skip ?_)
  unfold act
  rw [h1,cond_false,h2,cond_false,h3];rfl
end Go.Ve
