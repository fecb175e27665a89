/-
  Plain laws: the checks of a network always answer.
  Plain laws: the topology of a network is built, and what it is made of.
  Plain laws: the topology of a network is built: the walk.
  Plain laws: views.
  Plain laws: the checks of routes and tables always answer.
  Plain laws: equal routes; static routes that are active.
  Plain laws: interfaces that are up.
  Plain laws: masks, networks, and what prefixes contain.
  Plain laws: what the checks of a network say of its interfaces and static routes.
  Plain laws: what the checks of a network say.
  Plain laws: prefixes in order; the sorting of routes; connected routes.
  Plain laws: preference of routes; insertion into ordered lists; the prefixes of routes; hops added.
  Plain laws: static routes that are active.
  Plain laws: the prefixes of routes; hops added; routes merged.
  Plain laws: routes merged.
  Plain laws: connected routes: sorted, and valid; static routes are valid.
  Plain laws: merging where prefixes differ; the reference's connected and active routes.
  Plain laws: ranges swapped and rotated, stated place by place.
  Functions out of code: sorting, for any elements and any comparison.
-/
import Derived.Test.YtcnlcmbchljpgaaGreatQb11
import Derived.Test.YtcnlcmbchljpgaaGreatQb10
set_option linter.unusedVariables false
namespace Go.Ve
open Go
set_option maxRecDepth 1000000
set_option maxHeartbeats 4000000
theorem jN {α:Type} {xs:List α} {i:Int} {y:α} (h:xs[i.toNat]? =some y) (h0:0≤i:=by omega):idx xs i=some y:=by
 rw [idx,if_pos h0];exact h
theorem qA {α:Type} {xs:List α} {i:Int} {Q:α→Prop} {B:α→Prop} (hB: ∀y,y∈xs→B y) (h0:0≤i) (h1:i<xs.length) (h: ∀y,xs[i.toNat]? =some y→B y→Q y):Wp (idx xs i) Q:=
 j2 h0 h1 (fun y hm hy=>h y hy (hB y hm))
structure SmR (r:Ty.El zG):Prop where
 i1:List.length r.2.2.1≤20
 i2:List.length r.2.2.2.1≤20
 i3:List.length r.2.2.2.2.1≤20
 i4:List.length r.2.2.2.2.2.1≤20
 i5:List.length r.2.2.2.2.2.2.1≤20
 i6:List.length r.2.2.2.2.2.2.2.1≤20
 i7:List.length r.2.2.2.2.2.2.2.2.1.2.2.1≤20
 i8:List.length r.2.2.2.2.2.2.2.2.1.2.2.2.1≤20
 i9:List.length r.2.2.2.2.2.2.2.2.2.1.2.2.2.2.1≤20
 i10:List.length r.2.2.2.2.2.2.2.2.2.2.1.2.2.2.1≤20
 i11:List.length r.2.2.2.2.2.2.2.2.2.2.1.2.2.2.2.1≤20
 i12:List.length r.2.2.2.2.2.2.2.2.2.2.1.2.2.2.2.2.1≤20
 i13:List.length r.2.2.2.2.2.2.2.2.2.2.1.2.2.2.2.2.2.1≤20
 i14:List.length r.2.2.2.2.2.2.2.2.2.2.1.2.2.2.2.2.2.2.1≤20
 n1: ∀y,y∈r.2.2.2.1→List.length y.2.1≤20
 n2: ∀y,y∈r.2.2.2.2.1→List.length y.2.1≤20
 n3: ∀y,y∈r.2.2.2.2.2.1→List.length y.2.1≤20
structure zXU (r:Ty.El tPV):Prop where
 i10:List.length r.2.2.2.1≤20
 i11:List.length r.2.2.2.2.1≤20
 i12:List.length r.2.2.2.2.2.1≤20
 i13:List.length r.2.2.2.2.2.2.1≤20
 i14:List.length r.2.2.2.2.2.2.2.1≤20
theorem zCU (a1:Int):Wp (zAh (a1,())) (fun _=>True):=by
 unfold zAh
 refine zC ?_
 refine zVw (fun _ _=>True) trivial (fun s g h1 h2 _=> ?_) (fun s g _ _ _=>zB (e2r (zB trivial)))
 refine zC ?_
 refine zI (fun _=> ?_) (fun _=> ?_)
 ·refine zI (fun _=> ?_) (fun hn=> ?_)
  ·exact zB (zB (e2l ⟨zD (by simp only;omega) (by simp only;omega),trivial⟩))
  ·exfalso
   apply hn
   simp only
   rw [zD (by omega) (by omega),zHp (by omega) (by omega)]
   omega
 ·exact zB (zB (e2l ⟨zD (by simp only;omega) (by simp only;omega),trivial⟩))
theorem zJ4 (a1:Ty.El (.int .u8))  :Wp (zBm (a1,())) (fun _=>True):=by
 unfold zBm
 try dsimp only
 repeat' (first
  |with_reducible exact trivial
  |assumption
  |contradiction
  |with_reducible first|refine zB ?_|refine zI (fun _=> ?_) (fun _=> ?_)|refine zH (fun _=> ?_) (fun _=> ?_)|refine zC ?_
  |omega)
theorem xH (a1:Ty.El (.str))  :Wp (zAg (a1,())) (fun _=>True):=by
 unfold zAg
 try dsimp only
 repeat' (first
  |with_reducible exact trivial
  |assumption
  |contradiction
  |with_reducible first|refine zB ?_|refine (zJ4 _).mono (fun r _=> ?_)|refine uL ?_ ?_ (fun y _ _=> ?_)|refine jT (fun _=> ?_) (fun _=> ?_)|refine zI (fun _=> ?_) (fun _=> ?_)|refine zH (fun _=> ?_) (fun _=> ?_)|refine qT ?_|refine j6 (fun s _ _=> ?_) (fun s _ _=> ?_)|refine zC ?_|refine e2l ?_|refine e2r ?_
  |exact zD (by omega) (by omega)
  |omega
  |(simp only [List.length_cons,List.length_nil] at*;exact zD (by omega) (by omega)))
theorem q9 (a1:Ty.El (tI)) (a2:Ty.El (tI)) (a3:Ty.El (tI))  :Wp (zU (a1,a2,a3,())) (fun _=>True):=by
 unfold zU
 try dsimp only
 repeat' (first
  |with_reducible exact trivial
  |assumption
  |contradiction
  |with_reducible first|refine zB ?_|refine zI (fun _=> ?_) (fun _=> ?_)|refine zH (fun _=> ?_) (fun _=> ?_)|refine zC ?_
  |omega)
theorem zC6 (a1:Ty.El (tU)) (a2:Ty.El (tI))  :Wp (vI (a1,a2,())) (fun _=>True):=by
 unfold vI
 try dsimp only
 repeat' (first
  |with_reducible exact trivial
  |assumption
  |contradiction
  |with_reducible first|refine zB ?_|refine (zCU _).mono (fun r _=> ?_)|refine zC ?_
  |exact zD (by omega) (by omega)
  |omega
  |(simp only [List.length_cons,List.length_nil] at*;exact zD (by omega) (by omega)))
theorem zHu (a1:Ty.El (zF)) (a2:Ty.El (tU))  :Wp (zBh (a1,a2,())) (fun _=>True):=by
 unfold zBh
 try dsimp only
 repeat' (first
  |with_reducible exact trivial
  |assumption
  |contradiction
  |with_reducible first|refine zB ?_|refine (zCU _).mono (fun r _=> ?_)|refine zC ?_
  |exact zD (by omega) (by omega)
  |omega
  |(simp only [List.length_cons,List.length_nil] at*;exact zD (by omega) (by omega)))
theorem zJ5 (a1:Ty.El (zF)) (a2:Ty.El (zF))  :Wp (zBn (a1,a2,())) (fun _=>True):=by
 unfold zBn
 try dsimp only
 repeat' (first
  |with_reducible exact trivial
  |assumption
  |contradiction
  |with_reducible first|refine zB ?_|refine (zHu _ _).mono (fun r _=> ?_)|refine zI (fun _=> ?_) (fun _=> ?_)|refine zH (fun _=> ?_) (fun _=> ?_)|refine zC ?_
  |omega)
theorem zCw (a1:Ty.El (zF)) (a2:Ty.El (zF))  :Wp (xK (a1,a2,())) (fun _=>True):=by
 unfold xK
 try dsimp only
 repeat' (first
  |with_reducible exact trivial
  |assumption
  |contradiction
  |with_reducible first|refine zB ?_|refine (zJ5 _ _).mono (fun r _=> ?_)|refine zH (fun _=> ?_) (fun _=> ?_)|refine zC ?_
  |omega)
theorem zFV (a1:Ty.El (.sl qQ)) (h0:List.length a1≤20):Wp (x3 (a1,())) (fun _=>True):=by
 unfold x3
 try dsimp only
 repeat' (first
  |with_reducible exact trivial
  |assumption
  |contradiction
  |with_reducible first|refine zB ?_|refine (xH _).mono (fun r _=> ?_)|refine (q9 _ _ _).mono (fun r _=> ?_)|refine (zC6 _ _).mono (fun r _=> ?_)|refine (zCw _ _).mono (fun r _=> ?_)|refine j2 ?_ ?_ (fun y _ _=> ?_)|refine jT (fun _=> ?_) (fun _=> ?_)|refine zI (fun _=> ?_) (fun _=> ?_)|refine zH (fun _=> ?_) (fun _=> ?_)|refine qT ?_|refine j6 (fun s _ _=> ?_) (fun s _ _=> ?_)
  |simp only [jN ‹_[_]? =some _›,Option.bind_some]
  |with_reducible first|refine zC ?_|refine e2l ?_|refine e2r ?_
  |exact zD (by omega) (by omega)
  |omega
  |(simp only [List.length_cons,List.length_nil] at*;exact zD (by omega) (by omega)))
theorem u5 (a1:Ty.El (zF))  :Wp (j9 (a1,())) (fun _=>True):=by
 unfold j9
 try dsimp only
 repeat' (first
  |with_reducible exact trivial
  |assumption
  |contradiction
  |with_reducible first|refine zB ?_|refine (zCU _).mono (fun r _=> ?_)|refine zI (fun _=> ?_) (fun _=> ?_)|refine zH (fun _=> ?_) (fun _=> ?_)|refine zC ?_
  |exact zD (by omega) (by omega)
  |omega
  |(simp only [List.length_cons,List.length_nil] at*;exact zD (by omega) (by omega)))
theorem zCT (a1:Ty.El (zBy))  :Wp (vH (a1,())) (fun _=>True):=by
 unfold vH
 try dsimp only
 repeat' (first
  |with_reducible exact trivial
  |assumption
  |contradiction
  |with_reducible first|refine zB ?_|refine (u5 _).mono (fun r _=> ?_)|refine zI (fun _=> ?_) (fun _=> ?_)|refine zH (fun _=> ?_) (fun _=> ?_)|refine zC ?_
  |omega)
theorem zEP (a1:Ty.El (.sl wE)) (h0:List.length a1≤20) (h1: ∀y,y∈a1→List.length y.2.1≤20):Wp (yP (a1,())) (fun _=>True):=by
 unfold yP
 try dsimp only
 repeat' (first
  |with_reducible exact trivial
  |assumption
  |contradiction
  |with_reducible first|refine zB ?_|refine (xH _).mono (fun r _=> ?_)|refine (zCT _).mono (fun r _=> ?_)|refine qA h1 ?_ ?_ (fun y _ _=> ?_)|refine j2 ?_ ?_ (fun y _ _=> ?_)|refine jT (fun _=> ?_) (fun _=> ?_)|refine zI (fun _=> ?_) (fun _=> ?_)|refine zH (fun _=> ?_) (fun _=> ?_)|refine qT ?_|refine j6 (fun s _ _=> ?_) (fun s _ _=> ?_)
  |simp only [jN ‹_[_]? =some _›,Option.bind_some]
  |with_reducible first|refine zC ?_|refine e2l ?_|refine e2r ?_
  |exact zD (by omega) (by omega)
  |omega
  |(simp only [List.length_cons,List.length_nil] at*;exact zD (by omega) (by omega)))
theorem zBC (a1:Ty.El (zG)) (a2:Ty.El (.str)) (h0:SmR a1):Wp (wJ (a1,a2,())) (fun (r:Int)=> -1≤r∧r< (List.length a1.2.2.2.1:Int)):=by
 have hh0:=h0
 obtain ⟨i1,i2,i3,i4,i5,i6,i7,i8,i9,i10,i11,i12,i13,i14,n1,n2,n3⟩:=hh0
 unfold wJ
 try dsimp only
 repeat' (first
  |with_reducible exact trivial
  |exact ⟨i10,i11,i12,i13,i14⟩
  |assumption
  |contradiction
  |with_reducible first|refine zB ?_|refine qA n1 ?_ ?_ (fun y _ _=> ?_)|refine qA n2 ?_ ?_ (fun y _ _=> ?_)|refine qA n3 ?_ ?_ (fun y _ _=> ?_)|refine j2 ?_ ?_ (fun y _ _=> ?_)|refine zI (fun _=> ?_) (fun _=> ?_)|refine zH (fun _=> ?_) (fun _=> ?_)|refine qT ?_|refine j6 (fun s _ _=> ?_) (fun s _ _=> ?_)
  |simp only [jN ‹_[_]? =some _›,Option.bind_some]
  |with_reducible first|refine zC ?_|refine e2l ?_|refine e2r ?_
  |exact zD (by omega) (by omega)
  |omega
  |(simp only [List.length_cons,List.length_nil] at*;exact zD (by omega) (by omega))
  |exact ⟨by omega,by omega⟩)
theorem zGA (a1:Ty.El (zG)) (h0:SmR a1):Wp (zAA (a1,())) (fun _=>True):=by
 have hh0:=h0
 obtain ⟨i1,i2,i3,i4,i5,i6,i7,i8,i9,i10,i11,i12,i13,i14,n1,n2,n3⟩:=hh0
 unfold zAA
 try dsimp only
 repeat' (first
  |with_reducible exact trivial
  |exact ⟨i10,i11,i12,i13,i14⟩
  |assumption
  |contradiction
  |with_reducible first|refine zB ?_|refine (xH _).mono (fun r _=> ?_)|refine (zBC _ _ ?_).mono (fun r _=> ?_)|refine (q9 _ _ _).mono (fun r _=> ?_)|refine qA n1 ?_ ?_ (fun y _ _=> ?_)|refine qA n2 ?_ ?_ (fun y _ _=> ?_)|refine qA n3 ?_ ?_ (fun y _ _=> ?_)|refine j2 ?_ ?_ (fun y _ _=> ?_)|refine jT (fun _=> ?_) (fun _=> ?_)|refine zI (fun _=> ?_) (fun _=> ?_)|refine zH (fun _=> ?_) (fun _=> ?_)|refine qT ?_|refine j6 (fun s _ _=> ?_) (fun s _ _=> ?_)
  |simp only [jN ‹_[_]? =some _›,Option.bind_some]
  |with_reducible first|refine zC ?_|refine e2l ?_|refine e2r ?_
  |exact zD (by omega) (by omega)
  |omega
  |(simp only [List.length_cons,List.length_nil] at*;exact zD (by omega) (by omega)))
theorem zKZ (a1:Ty.El (zO))  :Wp (zB9 (a1,())) (fun _=>True):=by
 unfold zB9
 try dsimp only
 repeat' (first
  |with_reducible exact trivial
  |assumption
  |contradiction
  |with_reducible first|refine zB ?_|refine zI (fun _=> ?_) (fun _=> ?_)|refine zH (fun _=> ?_) (fun _=> ?_)|refine zC ?_
  |omega)
theorem zN3 (a1:Ty.El (zO))  :Wp (zE0 (a1,())) (fun _=>True):=by
 unfold zE0
 try dsimp only
 repeat' (first
  |with_reducible exact trivial
  |assumption
  |contradiction
  |with_reducible refine zB ?_
  |omega)
theorem zGD (a1:Ty.El (zPf))  :Wp (zAD (a1,())) (fun _=>True):=by
 unfold zAD
 try dsimp only
 repeat' (first
  |with_reducible exact trivial
  |assumption
  |contradiction
  |with_reducible first|refine zB ?_|refine (q9 _ _ _).mono (fun r _=> ?_)|refine (zKZ _).mono (fun r _=> ?_)|refine (zN3 _).mono (fun r _=> ?_)|refine jT (fun _=> ?_) (fun _=> ?_)|refine zH (fun _=> ?_) (fun _=> ?_)|refine zC ?_
  |exact zD (by omega) (by omega)
  |omega
  |(simp only [List.length_cons,List.length_nil] at*;exact zD (by omega) (by omega)))
theorem zEQ (a1:Ty.El (.sl zIN)) (h0:List.length a1≤20) (h1: ∀y,y∈a1→List.length y.2.1≤20):Wp (yQ (a1,())) (fun _=>True):=by
 unfold yQ
 try dsimp only
 repeat' (first
  |with_reducible exact trivial
  |assumption
  |contradiction
  |with_reducible first|refine zB ?_|refine (xH _).mono (fun r _=> ?_)|refine (zGD _).mono (fun r _=> ?_)|refine qA h1 ?_ ?_ (fun y _ _=> ?_)|refine j2 ?_ ?_ (fun y _ _=> ?_)|refine jT (fun _=> ?_) (fun _=> ?_)|refine zI (fun _=> ?_) (fun _=> ?_)|refine zH (fun _=> ?_) (fun _=> ?_)|refine qT ?_|refine j6 (fun s _ _=> ?_) (fun s _ _=> ?_)
  |simp only [jN ‹_[_]? =some _›,Option.bind_some]
  |with_reducible first|refine zC ?_|refine e2l ?_|refine e2r ?_
  |exact zD (by omega) (by omega)
  |omega
  |(simp only [List.length_cons,List.length_nil] at*;exact zD (by omega) (by omega)))
theorem zHt (a1:Ty.El (zG)) (a2:Ty.El (.str)) (h0:SmR a1):Wp (zCa (a1,a2,())) (fun (r:Int)=> -1≤r∧r< (List.length a1.2.2.2.2.2.1:Int)):=by
 have hh0:=h0
 obtain ⟨i1,i2,i3,i4,i5,i6,i7,i8,i9,i10,i11,i12,i13,i14,n1,n2,n3⟩:=hh0
 unfold zCa
 try dsimp only
 repeat' (first
  |with_reducible exact trivial
  |exact ⟨i10,i11,i12,i13,i14⟩
  |assumption
  |contradiction
  |with_reducible first|refine zB ?_|refine qA n1 ?_ ?_ (fun y _ _=> ?_)|refine qA n2 ?_ ?_ (fun y _ _=> ?_)|refine qA n3 ?_ ?_ (fun y _ _=> ?_)|refine j2 ?_ ?_ (fun y _ _=> ?_)|refine zI (fun _=> ?_) (fun _=> ?_)|refine zH (fun _=> ?_) (fun _=> ?_)|refine qT ?_|refine j6 (fun s _ _=> ?_) (fun s _ _=> ?_)
  |simp only [jN ‹_[_]? =some _›,Option.bind_some]
  |with_reducible first|refine zC ?_|refine e2l ?_|refine e2r ?_
  |exact zD (by omega) (by omega)
  |omega
  |(simp only [List.length_cons,List.length_nil] at*;exact zD (by omega) (by omega))
  |exact ⟨by omega,by omega⟩)
theorem zEw (a1:Ty.El (zG)) (h0:SmR a1):Wp (uT (a1,())) (fun _=>True):=by
 have hh0:=h0
 obtain ⟨i1,i2,i3,i4,i5,i6,i7,i8,i9,i10,i11,i12,i13,i14,n1,n2,n3⟩:=hh0
 unfold uT
 try dsimp only
 repeat' (first
  |with_reducible exact trivial
  |exact ⟨i10,i11,i12,i13,i14⟩
  |assumption
  |contradiction
  |with_reducible first|refine zB ?_|refine (q9 _ _ _).mono (fun r _=> ?_)|refine (zHt _ _ ?_).mono (fun r _=> ?_)|refine qA n1 ?_ ?_ (fun y _ _=> ?_)|refine qA n2 ?_ ?_ (fun y _ _=> ?_)|refine qA n3 ?_ ?_ (fun y _ _=> ?_)|refine j2 ?_ ?_ (fun y _ _=> ?_)|refine jT (fun _=> ?_) (fun _=> ?_)|refine zI (fun _=> ?_) (fun _=> ?_)|refine zH (fun _=> ?_) (fun _=> ?_)|refine qT ?_|refine j6 (fun s _ _=> ?_) (fun s _ _=> ?_)
  |simp only [jN ‹_[_]? =some _›,Option.bind_some]
  |with_reducible first|refine zC ?_|refine e2l ?_|refine e2r ?_
  |exact zD (by omega) (by omega)
  |omega
  |(simp only [List.length_cons,List.length_nil] at*;exact zD (by omega) (by omega)))
theorem zIM (a1:Ty.El (zG)) (h0:SmR a1):Wp (zBN (a1,())) (fun _=>True):=by
 have hh0:=h0
 obtain ⟨i1,i2,i3,i4,i5,i6,i7,i8,i9,i10,i11,i12,i13,i14,n1,n2,n3⟩:=hh0
 unfold zBN
 try dsimp only
 repeat' (first
  |with_reducible exact trivial
  |exact ⟨i10,i11,i12,i13,i14⟩
  |assumption
  |contradiction
  |with_reducible first|refine zB ?_|refine (zHt _ _ ?_).mono (fun r _=> ?_)|refine qA n1 ?_ ?_ (fun y _ _=> ?_)|refine qA n2 ?_ ?_ (fun y _ _=> ?_)|refine qA n3 ?_ ?_ (fun y _ _=> ?_)|refine j2 ?_ ?_ (fun y _ _=> ?_)|refine zI (fun _=> ?_) (fun _=> ?_)|refine zH (fun _=> ?_) (fun _=> ?_)|refine qT ?_|refine j6 (fun s _ _=> ?_) (fun s _ _=> ?_)
  |simp only [jN ‹_[_]? =some _›,Option.bind_some]
  |with_reducible first|refine zC ?_|refine e2l ?_|refine e2r ?_
  |exact zD (by omega) (by omega)
  |omega
  |(simp only [List.length_cons,List.length_nil] at*;exact zD (by omega) (by omega)))
theorem zC5 (a1:Ty.El (zG)) (a2:Ty.El (tU)) (h0:SmR a1):Wp (zAF (a1,a2,())) (fun (r:Int)=> -1≤r∧r< (List.length a1.2.2.1:Int)):=by
 have hh0:=h0
 obtain ⟨i1,i2,i3,i4,i5,i6,i7,i8,i9,i10,i11,i12,i13,i14,n1,n2,n3⟩:=hh0
 unfold zAF
 try dsimp only
 repeat' (first
  |with_reducible exact trivial
  |exact ⟨i10,i11,i12,i13,i14⟩
  |assumption
  |contradiction
  |with_reducible first|refine zB ?_|refine qA n1 ?_ ?_ (fun y _ _=> ?_)|refine qA n2 ?_ ?_ (fun y _ _=> ?_)|refine qA n3 ?_ ?_ (fun y _ _=> ?_)|refine j2 ?_ ?_ (fun y _ _=> ?_)|refine zI (fun _=> ?_) (fun _=> ?_)|refine zH (fun _=> ?_) (fun _=> ?_)|refine qT ?_|refine j6 (fun s _ _=> ?_) (fun s _ _=> ?_)
  |simp only [jN ‹_[_]? =some _›,Option.bind_some]
  |with_reducible first|refine zC ?_|refine e2l ?_|refine e2r ?_
  |exact zD (by omega) (by omega)
  |omega
  |(simp only [List.length_cons,List.length_nil] at*;exact zD (by omega) (by omega))
  |exact ⟨by omega,by omega⟩)
theorem zGE (a1:Ty.El (zG)) (a2:Ty.El (.str)) (h0:SmR a1):Wp (zAE (a1,a2,())) (fun (r:Int)=> -1≤r∧r< (List.length a1.2.2.1:Int)):=by
 have hh0:=h0
 obtain ⟨i1,i2,i3,i4,i5,i6,i7,i8,i9,i10,i11,i12,i13,i14,n1,n2,n3⟩:=hh0
 unfold zAE
 try dsimp only
 repeat' (first
  |with_reducible exact trivial
  |exact ⟨i10,i11,i12,i13,i14⟩
  |assumption
  |contradiction
  |with_reducible first|refine zB ?_|refine qA n1 ?_ ?_ (fun y _ _=> ?_)|refine qA n2 ?_ ?_ (fun y _ _=> ?_)|refine qA n3 ?_ ?_ (fun y _ _=> ?_)|refine j2 ?_ ?_ (fun y _ _=> ?_)|refine zI (fun _=> ?_) (fun _=> ?_)|refine zH (fun _=> ?_) (fun _=> ?_)|refine qT ?_|refine j6 (fun s _ _=> ?_) (fun s _ _=> ?_)
  |simp only [jN ‹_[_]? =some _›,Option.bind_some]
  |with_reducible first|refine zC ?_|refine e2l ?_|refine e2r ?_
  |exact zD (by omega) (by omega)
  |omega
  |(simp only [List.length_cons,List.length_nil] at*;exact zD (by omega) (by omega))
  |exact ⟨by omega,by omega⟩)
theorem zIL (a1:Ty.El (zG)) (h0:SmR a1):Wp (zBM (a1,())) (fun _=>True):=by
 have hh0:=h0
 obtain ⟨i1,i2,i3,i4,i5,i6,i7,i8,i9,i10,i11,i12,i13,i14,n1,n2,n3⟩:=hh0
 unfold zBM
 try dsimp only
 repeat' (first
  |with_reducible exact trivial
  |exact ⟨i10,i11,i12,i13,i14⟩
  |assumption
  |contradiction
  |with_reducible first|refine zB ?_|refine (u5 _).mono (fun r _=> ?_)|refine (zC5 _ _ ?_).mono (fun r _=> ?_)|refine (q9 _ _ _).mono (fun r _=> ?_)|refine (zGE _ _ ?_).mono (fun r _=> ?_)|refine qA n1 ?_ ?_ (fun y _ _=> ?_)|refine qA n2 ?_ ?_ (fun y _ _=> ?_)|refine qA n3 ?_ ?_ (fun y _ _=> ?_)|refine j2 ?_ ?_ (fun y _ _=> ?_)|refine jT (fun _=> ?_) (fun _=> ?_)|refine zI (fun _=> ?_) (fun _=> ?_)|refine zH (fun _=> ?_) (fun _=> ?_)|refine qT ?_|refine j6 (fun s _ _=> ?_) (fun s _ _=> ?_)
  |simp only [jN ‹_[_]? =some _›,Option.bind_some]
  |with_reducible first|refine zC ?_|refine e2l ?_|refine e2r ?_
  |exact zD (by omega) (by omega)
  |omega
  |(simp only [List.length_cons,List.length_nil] at*;exact zD (by omega) (by omega)))
theorem zCv (a1:Ty.El (zG)) (a2:Ty.El (.str)) (h0:SmR a1):Wp (vQ (a1,a2,())) (fun (r:Int)=> -1≤r∧r< (List.length a1.2.2.2.2.1:Int)):=by
 have hh0:=h0
 obtain ⟨i1,i2,i3,i4,i5,i6,i7,i8,i9,i10,i11,i12,i13,i14,n1,n2,n3⟩:=hh0
 unfold vQ
 try dsimp only
 repeat' (first
  |with_reducible exact trivial
  |exact ⟨i10,i11,i12,i13,i14⟩
  |assumption
  |contradiction
  |with_reducible first|refine zB ?_|refine qA n1 ?_ ?_ (fun y _ _=> ?_)|refine qA n2 ?_ ?_ (fun y _ _=> ?_)|refine qA n3 ?_ ?_ (fun y _ _=> ?_)|refine j2 ?_ ?_ (fun y _ _=> ?_)|refine zI (fun _=> ?_) (fun _=> ?_)|refine zH (fun _=> ?_) (fun _=> ?_)|refine qT ?_|refine j6 (fun s _ _=> ?_) (fun s _ _=> ?_)
  |simp only [jN ‹_[_]? =some _›,Option.bind_some]
  |with_reducible first|refine zC ?_|refine e2l ?_|refine e2r ?_
  |exact zD (by omega) (by omega)
  |omega
  |(simp only [List.length_cons,List.length_nil] at*;exact zD (by omega) (by omega))
  |exact ⟨by omega,by omega⟩)
theorem vP (a1:Ty.El (zG)) (a2:Ty.El (.sl zCx)) (a3:Ty.El (tI)) (a4:Ty.El (tI)) (a5:Ty.El (tI)) (h0:SmR a1) (h1:List.length a2≤20):Wp (jX (a1,a2,a3,a4,a5,())) (fun _=>True):=by
 have hh0:=h0
 obtain ⟨i1,i2,i3,i4,i5,i6,i7,i8,i9,i10,i11,i12,i13,i14,n1,n2,n3⟩:=hh0
 unfold jX
 try dsimp only
 repeat' (first
  |with_reducible exact trivial
  |exact ⟨i10,i11,i12,i13,i14⟩
  |assumption
  |contradiction
  |with_reducible first|refine zB ?_|refine (q9 _ _ _).mono (fun r _=> ?_)|refine (zCv _ _ ?_).mono (fun r _=> ?_)|refine qA n1 ?_ ?_ (fun y _ _=> ?_)|refine qA n2 ?_ ?_ (fun y _ _=> ?_)|refine qA n3 ?_ ?_ (fun y _ _=> ?_)|refine j2 ?_ ?_ (fun y _ _=> ?_)|refine jT (fun _=> ?_) (fun _=> ?_)|refine zI (fun _=> ?_) (fun _=> ?_)|refine zH (fun _=> ?_) (fun _=> ?_)|refine qT ?_|refine j6 (fun s _ _=> ?_) (fun s _ _=> ?_)
  |simp only [jN ‹_[_]? =some _›,Option.bind_some]
  |with_reducible first|refine zC ?_|refine e2l ?_|refine e2r ?_
  |exact zD (by omega) (by omega)
  |omega
  |(simp only [List.length_cons,List.length_nil] at*;exact zD (by omega) (by omega)))
theorem zGC (a1:Ty.El (zG)) (h0:SmR a1):Wp (zAC (a1,())) (fun _=>True):=by
 have hh0:=h0
 obtain ⟨i1,i2,i3,i4,i5,i6,i7,i8,i9,i10,i11,i12,i13,i14,n1,n2,n3⟩:=hh0
 unfold zAC
 try dsimp only
 repeat' (first
  |with_reducible exact trivial
  |exact ⟨i10,i11,i12,i13,i14⟩
  |assumption
  |contradiction
  |with_reducible first|refine zB ?_|refine (q9 _ _ _).mono (fun r _=> ?_)|refine (u5 _).mono (fun r _=> ?_)|refine (zCw _ _).mono (fun r _=> ?_)|refine (vP _ _ _ _ _ ?_ ?_).mono (fun r _=> ?_)|refine qA n1 ?_ ?_ (fun y _ _=> ?_)|refine qA n2 ?_ ?_ (fun y _ _=> ?_)|refine qA n3 ?_ ?_ (fun y _ _=> ?_)|refine j2 ?_ ?_ (fun y _ _=> ?_)|refine jT (fun _=> ?_) (fun _=> ?_)|refine zI (fun _=> ?_) (fun _=> ?_)|refine zH (fun _=> ?_) (fun _=> ?_)|refine qT ?_|refine j6 (fun s _ _=> ?_) (fun s _ _=> ?_)
  |simp only [jN ‹_[_]? =some _›,Option.bind_some]
  |with_reducible first|refine zC ?_|refine e2l ?_|refine e2r ?_
  |exact zD (by omega) (by omega)
  |omega
  |(simp only [List.length_cons,List.length_nil] at*;exact zD (by omega) (by omega)))
theorem zHs (a1:Ty.El (zG)) (h0:SmR a1):Wp (zBg (a1,())) (fun _=>True):=by
 have hh0:=h0
 obtain ⟨i1,i2,i3,i4,i5,i6,i7,i8,i9,i10,i11,i12,i13,i14,n1,n2,n3⟩:=hh0
 unfold zBg
 try dsimp only
 repeat' (first
  |with_reducible exact trivial
  |exact ⟨i10,i11,i12,i13,i14⟩
  |assumption
  |contradiction
  |with_reducible first|refine zB ?_|refine (q9 _ _ _).mono (fun r _=> ?_)|refine (zBC _ _ ?_).mono (fun r _=> ?_)|refine (vP _ _ _ _ _ ?_ ?_).mono (fun r _=> ?_)|refine jT (fun _=> ?_) (fun _=> ?_)|refine zI (fun _=> ?_) (fun _=> ?_)|refine zH (fun _=> ?_) (fun _=> ?_)|refine zC ?_
  |omega)
theorem zGB (a1:Ty.El (zG)) (h0:SmR a1):Wp (zAB (a1,())) (fun _=>True):=by
 have hh0:=h0
 obtain ⟨i1,i2,i3,i4,i5,i6,i7,i8,i9,i10,i11,i12,i13,i14,n1,n2,n3⟩:=hh0
 unfold zAB
 try dsimp only
 repeat' (first
  |with_reducible exact trivial
  |exact ⟨i10,i11,i12,i13,i14⟩
  |assumption
  |contradiction
  |with_reducible first|refine zB ?_|refine (q9 _ _ _).mono (fun r _=> ?_)|refine (zCv _ _ ?_).mono (fun r _=> ?_)|refine qA n1 ?_ ?_ (fun y _ _=> ?_)|refine qA n2 ?_ ?_ (fun y _ _=> ?_)|refine qA n3 ?_ ?_ (fun y _ _=> ?_)|refine j2 ?_ ?_ (fun y _ _=> ?_)|refine zI (fun _=> ?_) (fun _=> ?_)|refine zH (fun _=> ?_) (fun _=> ?_)|refine qT ?_|refine j6 (fun s _ _=> ?_) (fun s _ _=> ?_)
  |simp only [jN ‹_[_]? =some _›,Option.bind_some]
  |with_reducible first|refine zC ?_|refine e2l ?_|refine e2r ?_
  |exact zD (by omega) (by omega)
  |omega
  |(simp only [List.length_cons,List.length_nil] at*;exact zD (by omega) (by omega)))
theorem zEx (a1:Ty.El (tPV)) (h0:zXU a1):Wp (uU (a1,())) (fun _=>True):=by
 have hh0:=h0
 obtain ⟨i10,i11,i12,i13,i14⟩:=hh0
 unfold uU
 try dsimp only
 repeat' (first
  |with_reducible exact trivial
  |assumption
  |contradiction
  |with_reducible first|refine zB ?_|refine (u5 _).mono (fun r _=> ?_)|refine j2 ?_ ?_ (fun y _ _=> ?_)|refine jT (fun _=> ?_) (fun _=> ?_)|refine zI (fun _=> ?_) (fun _=> ?_)|refine zH (fun _=> ?_) (fun _=> ?_)|refine qT ?_|refine j6 (fun s _ _=> ?_) (fun s _ _=> ?_)
  |simp only [jN ‹_[_]? =some _›,Option.bind_some]
  |with_reducible first|refine zC ?_|refine e2l ?_|refine e2r ?_
  |exact zD (by omega) (by omega)
  |omega
  |(simp only [List.length_cons,List.length_nil] at*;exact zD (by omega) (by omega)))
theorem zFU (a1:Ty.El (zG)) (h0:SmR a1):Wp (xZ (a1,())) (fun _=>True):=by
 have hh0:=h0
 obtain ⟨i1,i2,i3,i4,i5,i6,i7,i8,i9,i10,i11,i12,i13,i14,n1,n2,n3⟩:=hh0
 unfold xZ
 try dsimp only
 repeat' (first
  |with_reducible exact trivial
  |exact ⟨i10,i11,i12,i13,i14⟩
  |assumption
  |contradiction
  |with_reducible first|refine zB ?_|refine (q9 _ _ _).mono (fun r _=> ?_)|refine (zGB _ ?_).mono (fun r _=> ?_)|refine (zEx _ ?_).mono (fun r _=> ?_)|refine (vP _ _ _ _ _ ?_ ?_).mono (fun r _=> ?_)|refine jT (fun _=> ?_) (fun _=> ?_)|refine zH (fun _=> ?_) (fun _=> ?_)|refine zC ?_
  |exact zD (by omega) (by omega)
  |omega
  |(simp only [List.length_cons,List.length_nil] at*;exact zD (by omega) (by omega)))
theorem zER (a1:Ty.El (zG)) (h0:SmR a1):Wp (yR (a1,())) (fun _=>True):=by
 have hh0:=h0
 obtain ⟨i1,i2,i3,i4,i5,i6,i7,i8,i9,i10,i11,i12,i13,i14,n1,n2,n3⟩:=hh0
 unfold yR
 try dsimp only
 repeat' (first
  |with_reducible exact trivial
  |exact ⟨i10,i11,i12,i13,i14⟩
  |assumption
  |contradiction
  |with_reducible first|refine zB ?_|refine (xH _).mono (fun r _=> ?_)|refine (q9 _ _ _).mono (fun r _=> ?_)|refine (zFV _ ?_).mono (fun r _=> ?_)|refine (zEP _ ?_ ?_).mono (fun r _=> ?_)|refine (zGA _ ?_).mono (fun r _=> ?_)|refine (zEQ _ ?_ ?_).mono (fun r _=> ?_)|refine (zEw _ ?_).mono (fun r _=> ?_)|refine (zIM _ ?_).mono (fun r _=> ?_)|refine (zIL _ ?_).mono (fun r _=> ?_)|refine (zGC _ ?_).mono (fun r _=> ?_)|refine (zHs _ ?_).mono (fun r _=> ?_)|refine (zFU _ ?_).mono (fun r _=> ?_)|refine qA n1 ?_ ?_ (fun y _ _=> ?_)|refine qA n2 ?_ ?_ (fun y _ _=> ?_)|refine qA n3 ?_ ?_ (fun y _ _=> ?_)|refine j2 ?_ ?_ (fun y _ _=> ?_)|refine jT (fun _=> ?_) (fun _=> ?_)|refine zI (fun _=> ?_) (fun _=> ?_)|refine zH (fun _=> ?_) (fun _=> ?_)|refine qT ?_|refine j6 (fun s _ _=> ?_) (fun s _ _=> ?_)
  |simp only [jN ‹_[_]? =some _›,Option.bind_some]
  |with_reducible first|refine zC ?_|refine e2l ?_|refine e2r ?_
  |exact zD (by omega) (by omega)
  |omega
  |(simp only [List.length_cons,List.length_nil] at*;exact zD (by omega) (by omega)))
theorem zK0 (a1:Ty.El (zV)) (h0: ∀y,y∈a1.1→SmR y):Wp (u7 (a1,())) (fun _=>True):=by
 unfold u7
 try dsimp only
 repeat' (first
  |with_reducible exact trivial
  |assumption
  |contradiction
  |with_reducible first|refine zB ?_|refine (zER _ ?_).mono (fun r _=> ?_)|refine (zC5 _ _ ?_).mono (fun r _=> ?_)|refine qA h0 ?_ ?_ (fun y _ _=> ?_)|refine j2 ?_ ?_ (fun y _ _=> ?_)|refine zI (fun _=> ?_) (fun _=> ?_)|refine zH (fun _=> ?_) (fun _=> ?_)|refine qT ?_|refine j6 (fun s _ _=> ?_) (fun s _ _=> ?_)
  |simp only [jN ‹_[_]? =some _›,Option.bind_some]
  |with_reducible first|refine zC ?_|refine e2l ?_|refine e2r ?_
  |exact zD (by omega) (by omega)
  |omega
  |(simp only [List.length_cons,List.length_nil] at*;exact zD (by omega) (by omega))
  |exact zD (by omega) (by have:=SmR.i1 ‹SmR _›;omega))
end Go.Ve

namespace Go.Ve
open Go
set_option maxRecDepth 1000000
set_option maxHeartbeats 4000000
def zIG (n:Ty.El zV) (p:Ty.El zF) (vl:Int) (e:Ty.El zO):Prop:=
 0≤e.1∧0≤e.2.1∧ ∃r x,n.1[e.1.toNat]? =some r∧r.2.2.1[e.2.1.toNat]? =some x∧x.2.2.1≠0∧x.2.2.2.2.1=false∧vI (x.2.1,x.2.2.1,())=some p∧x.2.2.2.1=vl
def zXL (st:HSt zO) (B:Nat) (E:Ty.El zO→Prop) (q:Option (Nat×Nat)):Prop:=
 ∀id m,q=some (id,m)→ ∃xs,st[id]? =some (some xs)∧xs.length=m∧xs.length≤B∧ ∀e,e∈xs→E e
def zMx (d d':Ty.El zM):Prop:= ∀id m m',d.2.2.1=some (id,m)→d'.2.2.1=some (id,m')→False
theorem zMx.symm {d d':Ty.El zM} (h:zMx d d'):zMx d' d:=fun id m m' h1 h2=>h id m' m h2 h1
structure Bld (n:Ty.El zV) (B:Nat) (D:List (Ty.El zM)) (st:HSt zO):Prop where
 len:D.length≤B
 ok: ∀d,d∈D→zXL st B (zIG n d.1 d.2.1) d.2.2.1
 ap:D.Pairwise zMx
 so:D.Pairwise (fun d d'=>zBJ d.1 d.2.1 d'.1 d'.2.1)
theorem zDt {n:Ty.El zV} {B B':Nat} {D:List (Ty.El zM)} {st:HSt zO} (h:Bld n B D st) (hb:B≤B'):Bld n B' D st:=by
 refine ⟨Nat.le_trans h.len hb,?_,h.ap,h.so⟩
 intro d hd id m hq
 obtain ⟨xs,h1,h2,h3,h4⟩:=h.ok d hd id m hq
 exact ⟨xs,h1,h2,Nat.le_trans h3 hb,h4⟩
theorem zWk {n:Ty.El zV} {B:Nat} {st:HSt zO} :Bld n B [] st:=⟨Nat.zero_le _,(fun d hd=>by cases hd),List.Pairwise.nil,List.Pairwise.nil⟩
theorem zWl {n:Ty.El zV} {B:Nat} {D:List (Ty.El zM)} {st:HSt zO} (h:Bld n B D st) (k:Nat) (p:Ty.El zF) (v:Int)
  (hlo: ∀j d,j<k→D[j]? =some d→zBJ d.1 d.2.1 p v) (hhi: ∀d,D[k]? =some d→zBJ p v d.1 d.2.1):
  Bld n (B+1) (D.take k++[((p,v,none,()):Ty.El zM)]++D.drop k) st:=by
 have h':=zDt h (Nat.le_succ B)
 have hnew: ∀d:Ty.El zM,zMx d ((p,v,none,()):Ty.El zM):=fun d id m m' _ h2=>by cases h2
 refine ⟨?_,?_,?_,?_⟩
 ·have:=h.len;simp only [List.length_append,List.length_take,List.length_drop,List.length_singleton];omega
 ·intro d hd
  simp only [List.mem_append,List.mem_singleton] at hd
  rcases hd with (hd|rfl)|hd
  ·exact h'.ok d (List.mem_of_mem_take hd)
  ·intro id m hq;cases hq
  ·exact h'.ok d (List.mem_of_mem_drop hd)
 ·have hp:=h.ap
  rw [←List.take_append_drop k D,List.pairwise_append] at hp
  obtain ⟨h1,h2,h3⟩:=hp
  rw [List.pairwise_append,List.pairwise_append]
  refine ⟨⟨h1,List.pairwise_singleton _ _,?_⟩,h2,?_⟩
  ·intro a _ b hb
   simp only [List.mem_singleton] at hb
   subst hb
   exact hnew a
  ·intro a ha b hb
   simp only [List.mem_append,List.mem_singleton] at ha
   rcases ha with ha|rfl
   ·exact h3 a ha b hb
   ·exact (hnew b).symm
 ·have hso:=h.so
  have hso':=List.pairwise_iff_getElem.1 hso
  rw [←List.take_append_drop k D,List.pairwise_append] at hso
  obtain ⟨h1,h2,h3⟩:=hso
  rw [List.pairwise_append,List.pairwise_append]
  refine ⟨⟨h1,List.pairwise_singleton _ _,?_⟩,h2,?_⟩
  ·intro a ha b hb
   simp only [List.mem_singleton] at hb
   subst hb
   obtain ⟨j,hj,hje⟩:=List.getElem_of_mem ha
   rw [List.length_take] at hj
   refine hlo j a (by omega) ?_
   rw [←hje,List.getElem_take,List.getElem?_eq_getElem (by omega)]
  ·intro a ha b hb
   simp only [List.mem_append,List.mem_singleton] at ha
   rcases ha with ha|rfl
   ·exact h3 a ha b hb
   ·obtain ⟨j,hj,hje⟩:=List.getElem_of_mem hb
    rw [List.length_drop] at hj
    rw [List.getElem_drop] at hje
    have hk:D[k]? =some (D[k]'(by omega)):=by simp
    have hlt:=hhi _ hk
    rcases Nat.eq_zero_or_pos j with h0|h0
    ·subst h0
     simp only [Nat.add_zero] at hje
     rw [←hje];exact hlt
    ·rw [←hje]
     exact zPZ hlt (hso' k (k+j) (by omega) (by omega) (by omega))
theorem zSL {n:Ty.El zV} {B:Nat} {D:List (Ty.El zM)} {st st':HSt zO} (h:Bld n B D st) {k:Nat} {d:Ty.El zM} (hd:D[k]? =some d) {id m:Nat} {xs:List (Ty.El zO)}
  (hnew:st'[id]? =some (some xs)) (hm:xs.length=m) (hB:xs.length≤B+1) (hE: ∀e,e∈xs→zIG n d.1 d.2.1 e) (hid:st.length≤id)
  (hkeep: ∀j ys,st[j]? =some (some ys)→(∀m',d.2.2.1≠some (j,m'))→st'[j]? =some (some ys)):
  Bld n (B+1) (D.set k ((d.1,d.2.1,some (id,m),()):Ty.El zM)) st':=by
 have hlt:k<D.length:=(List.getElem?_eq_some_iff.1 hd).1
 have hdk:D[k]=d:=(List.getElem?_eq_some_iff.1 hd).2
 have hap:=List.pairwise_iff_getElem.1 h.ap
 have hother: ∀j (hj:j<D.length),j≠k→zMx d D[j]:=by
  intro j hj hne
  rcases Nat.lt_or_ge j k with hh|hh
  ·have:=hap j k hj hlt hh;rw [hdk] at this;exact this.symm
  ·have:=hap k j hlt hj (by omega);rw [hdk] at this;exact this
 have hold: ∀j (hj:j<D.length),zMx D[j] ((d.1,d.2.1,some (id,m),()):Ty.El zM):=by
  intro j hj i m1 m2 h1 h2
  obtain ⟨ys,g1,_⟩:=h.ok D[j] (List.getElem_mem hj) i m1 h1
  simp only [Option.some.injEq,Prod.mk.injEq] at h2
  obtain ⟨rfl,_⟩:=h2
  have:=(List.getElem?_eq_some_iff.1 g1).1
  omega
 refine ⟨by rw [List.length_set];have:=h.len;omega,?_,?_,?_⟩
 ·intro x hx
  obtain ⟨j,hj,rfl⟩:=List.getElem_of_mem hx
  rw [List.length_set] at hj
  rw [List.getElem_set]
  split
  ·intro i m1 h1
   simp only [Option.some.injEq,Prod.mk.injEq] at h1
   obtain ⟨rfl,rfl⟩:=h1
   exact ⟨xs,hnew,hm,hB,hE⟩
  ·rename_i hne
   intro i m1 h1
   obtain ⟨ys,g1,g2,g3,g4⟩:=h.ok D[j] (List.getElem_mem hj) i m1 h1
   exact ⟨ys,hkeep i ys g1 (fun m' hq=>hother j hj (fun hh=>hne hh.symm) i m' m1 hq h1),g2,by omega,g4⟩
 ·rw [List.pairwise_iff_getElem]
  intro i j hi hj hij
  rw [List.length_set] at hi hj
  rw [List.getElem_set,List.getElem_set]
  split
  ·split
   ·omega
   ·exact (hold j hj).symm
  ·split
   ·exact hold i hi
   ·exact hap i j hi hj hij
 ·have hso:=List.pairwise_iff_getElem.1 h.so
  rw [List.pairwise_iff_getElem]
  intro i j hi hj hij
  rw [List.length_set] at hi hj
  have:=hso i j hi hj hij
  rw [List.getElem_set,List.getElem_set]
  split
  ·split
   ·omega
   ·rename_i hki _
    subst hki
    rw [hdk] at this
    exact this
  ·split
   ·rename_i hkj
    subst hkj
    rw [hdk] at this
    exact this
   ·exact this
theorem zWm {n:Ty.El zV} {B:Nat} {D:List (Ty.El zM)} {st:HSt zO} (h:Bld n B D st) (hb:B≤1000) {k:Nat} {d:Ty.El zM} (hd:D[k]? =some d) {e:Ty.El zO} (he:zIG n d.1 d.2.1 e):
  Wp (zMU 16 st d.2.2.1 [e]) (fun r=>Bld n (B+1) (D.set k ((d.1,d.2.1,r.2,()):Ty.El zM)) r.1):=by
 have hmem:d∈D:=List.mem_of_getElem? hd
 cases hq:d.2.2.1 with
 |none=>
  refine ⟨(st++[some [e]],some (st.length,1)),?_,?_⟩
  ·simp only [zMU,List.length_singleton]
   rw [if_pos (by omega)]
  ·refine zSL h hd (xs:=[e]) ?_ rfl (by simp) (fun e' h'=>by simp only [List.mem_singleton] at h';subst h';exact he) (Nat.le_refl _) ?_
   ·simp
   ·intro j ys hj _
    rw [List.getElem?_append_left (List.getElem?_eq_some_iff.1 hj).1]
    exact hj
 |some q=>
  obtain ⟨id,m⟩:=q
  obtain ⟨xs,h1,h2,h3,h4⟩:=h.ok d hmem id m hq
  have hlt:=(List.getElem?_eq_some_iff.1 h1).1
  refine ⟨(st.set id none++[some (xs++[e])],some (st.length,(xs++[e]).length)),?_,?_⟩
  ·simp only [zMU,h1,List.length_singleton]
   rw [if_pos (by omega)]
  ·refine zSL h hd (xs:=xs++[e]) ?_ rfl (by simp;omega) ?_ (Nat.le_refl _) ?_
   ·rw [List.getElem?_append_right (by simp)]
    simp
   ·intro e' h'
    simp only [List.mem_append,List.mem_singleton] at h'
    rcases h' with h'|rfl
    ·exact h4 e' h'
    ·exact he
   ·intro j ys hj hne
    have hjl:=(List.getElem?_eq_some_iff.1 hj).1
    rw [List.getElem?_append_left (by rw [List.length_set];exact hjl),List.getElem?_set_ne]
    ·exact hj
    ·intro hh
     subst hh
     exact hne m hq
structure zVp (n:Ty.El zV) (t:Ty.El zHA):Prop where
 doms:t.1.length≤360
 ends : ∀ d, d ∈ t.1 → d.2.2.1.length ≤ 360 ∧ ∀ e, e ∈ d.2.2.1 → zIG n d.1 d.2.1 e
 links:t.2.1.length≤12
 link: ∀l,l∈t.2.1→0≤l∧l< (t.1.length:Int)
 so:t.1.Pairwise (fun d d'=>zBJ d.1 d.2.1 d'.1 d'.2.1)
theorem zPT {α β:Type} {f:α→Option β} {R:α→β→Prop} : ∀ {xs:List α},(∀x,x∈xs→Wp (f x) (R x))→Wp (zH7 f xs) (fun ys:List β=>ys.length=xs.length∧ ∀ (i:Nat) x y,xs[i]? =some x→ys[i]? =some y→R x y)
 |[],_=>⟨[],rfl,rfl,fun i x y h=>by simp at h⟩
 |x::r,h=>by
  obtain ⟨y,h1,h2⟩:=h x (by simp)
  obtain ⟨ys,h3,h4,h5⟩:=zPT (xs:=r) (fun z hz=>h z (List.mem_cons_of_mem _ hz))
  refine ⟨y::ys,by simp only [zH7,h1,h3],by simp [h4],?_⟩
  intro i a b ha hb
  cases i with
  |zero=>simp only [List.getElem?_cons_zero,Option.some.injEq] at ha hb;subst ha hb;exact h2
  |succ i=>exact h5 i a b (by simpa using ha) (by simpa using hb)
theorem zVg {n:Ty.El zV} {B:Nat} {D:List (Ty.El zM)} {st:HSt zO} (h:Bld n B D st):
  Wp (zH7 (xB st zM) D) (fun ys=>ys.length=D.length∧(∀d:Ty.El zAu,d∈ys→d.2.2.1.length≤B∧ ∀e,e∈d.2.2.1→zIG n d.1 d.2.1 e)∧ys.Pairwise (fun d d':Ty.El zAu=>zBJ d.1 d.2.1 d'.1 d'.2.1)):=by
 refine (zPT (R:=fun (d:Ty.El zM) (y:Ty.El zAu)=>(y.2.2.1.length≤B∧ ∀e,e∈y.2.2.1→zIG n y.1 y.2.1 e)∧y.1=d.1∧y.2.1=d.2.1) ?_).mono ?_
 ·intro d hd
  obtain ⟨⟨p1,p2,⟨⟩⟩,v,q,⟨⟩⟩:=d
  cases q with
  |none=>exact ⟨((p1,p2,()),v,[],()),rfl,⟨Nat.zero_le _,fun e he=>by cases he⟩,rfl,rfl⟩
  |some q=>
   obtain ⟨id,m⟩:=q
   obtain ⟨xs,h1,h2,h3,h4⟩:=h.ok _ hd id m rfl
   refine ⟨((p1,p2,()),v,xs,()),?_,⟨h3,h4⟩,rfl,rfl⟩
   simp only [xB,h1]
 ·rintro ys ⟨h1,h2⟩
  have hat: ∀i (hi:i<ys.length), ∃d,D[i]? =some d∧((ys[i].2.2.1.length≤B∧ ∀e,e∈ys[i].2.2.1→zIG n ys[i].1 ys[i].2.1 e)∧ys[i].1=d.1∧ys[i].2.1=d.2.1):=by
   intro i hi
   refine ⟨D[i]'(by omega),by simp,h2 i _ _ (by simp) (by simp [hi])⟩
  refine ⟨h1,?_,?_⟩
  ·intro d hd
   obtain ⟨i,hi,rfl⟩:=List.getElem_of_mem hd
   obtain ⟨_,_,h3,_⟩:=hat i hi
   exact h3
  ·rw [List.pairwise_iff_getElem]
   intro i j hi hj hij
   have hso:=List.pairwise_iff_getElem.1 h.so i j (by omega) (by omega) hij
   obtain ⟨d,hd,_,e1,e2⟩:=hat i hi
   obtain ⟨d',hd',_,e3,e4⟩:=hat j hj
   obtain ⟨_,rfl⟩:=List.getElem?_eq_some_iff.1 hd
   obtain ⟨_,rfl⟩:=List.getElem?_eq_some_iff.1 hd'
   rw [e1,e2,e3,e4]
   exact hso
end Go.Ve

namespace Go.Ve
open Go
set_option maxRecDepth 1000000
set_option maxHeartbeats 4000000
theorem wR {α:Type} {xs:List α} {i:Nat} {x:α} (h:xs[i]? =some x):atN xs i=some x:=h
abbrev BSt:=(List (Ty.El zM)×List Int)×HSt zO
theorem zHw (a1:Ty.El zV) (hn:a1.1.length≤9) (hs: ∀y,y∈a1.1→SmR y):
  Wp (zBj [] (a1,())) (fun r=>(r.2.2.1=0→Bld a1 360 r.2.1.1 r.1∧r.2.1.2.1.length≤12∧(∀l,l∈r.2.1.2.1→0≤l∧l< (r.2.1.1.length:Int))∧u7 (a1,())=some 0)∧(r.2.2.1≠0→r.2.1=([],[],()))):=by
 unfold zBj
 dsimp only
 refine zKU ((zK0 a1 hs).mono (fun _ _=>trivial)) (fun y0 hy0=> ?_)
 refine zH (fun hc=> ?_) (fun hc=> ?_)
 ·refine zB ⟨fun h=> ?_,fun _=>rfl⟩
  simp only at h
  subst h
  cases hc
 have hy:y0=0:=by simpa using hc
 subst hy
 refine zC ((zBL (xs:=a1.1) (by omega) (fun i (g:BSt)=>g.1.2=[]∧Bld a1 (40*i) g.1.1 g.2) ⟨rfl,zWk⟩ ?_ (Q:=fun g=>g.1.2=[]∧Bld a1 360 g.1.1 g.2) (fun g hg=>⟨hg.1,zDt hg.2 (by omega)⟩)).mono ?_)
 ·intro i x g hx hj
  have hi:i<9:=by have:=(List.getElem?_eq_some_iff.1 hx).1;omega
  have hsx:=(hs x (List.mem_of_getElem? hx)).i1
  simp only [zT hx,Option.bind_some]
  refine (zBL (xs:=x.2.2.1) (by omega) (fun j (g:BSt)=>g.1.2=[]∧Bld a1 (40*i+2*j) g.1.1 g.2) hj ?_ (fun g hg=>⟨hg.1,zDt hg.2 (by omega)⟩))
  intro j f g hf hj
  have hjl:j<20:=by have:=(List.getElem?_eq_some_iff.1 hf).1;omega
  obtain ⟨⟨D,L⟩,st⟩:=g
  obtain ⟨rfl,hD⟩:=hj
  simp only [zT hf,Option.bind_some]
  refine zC ((show Wp _ (fun s:Bool×BSt=>s.2=((D,[]),st)∧(s.1=false→f.2.2.1≠0∧f.2.2.2.2.1=false)) from ?_).mono ?_)
  ·refine zH (fun h=>zB ⟨rfl,fun h=>by cases h⟩) (fun h=>zB ⟨rfl,fun h'=>⟨by simpa using h,h'⟩⟩)
  rintro ⟨b,g⟩ ⟨hg,hb⟩
  simp only at hg hb
  subst hg
  refine zH (fun _=>zB ⟨rfl,zDt hD (by omega)⟩) (fun hb'=> ?_)
  obtain ⟨hlen,hdown⟩:=hb hb'
  refine zKU (zC6 _ _) (fun p hp=> ?_)
  refine zC ((show Wp _ (fun s:Int×BSt=> ∃k:Nat,s.1=(k:Int)∧k≤D.length∧s.2=((D,[]),st)∧(∀m d,m<k→D[m]? =some d→zBJ d.1 d.2.1 p f.2.2.2.1)∧(∀d,D[k]? =some d→ ¬zBJ d.1 d.2.1 p f.2.2.2.1)) from ?_).mono ?_)
  ·refine wO (fun s:Int×BSt=> ∃k:Nat,s.1=(k:Int)∧k≤D.length∧s.2=((D,[]),st)∧(∀m d,m<k→D[m]? =some d→zBJ d.1 d.2.1 p f.2.2.2.1)) (fun s=>((D.length:Int) -s.1).toNat) ⟨(0:Nat),rfl,Nat.zero_le _,rfl,fun m d hm=>by omega⟩ ?_
   rintro ⟨s,g⟩ ⟨k,hk,hkl,hg,hlo⟩
   simp only at hk hg
   subst hk hg
   have hDl:D.length≤_:=hD.len
   refine zC ((show Wp _ (fun s:Bool×BSt=>s.2=((D,[]),st)∧(s.1=true→ ∃d,D[k]? =some d∧zBJ d.1 d.2.1 p f.2.2.2.1)∧(s.1=false→ ∀d,D[k]? =some d→ ¬zBJ d.1 d.2.1 p f.2.2.2.1)) from ?_).mono ?_)
   ·refine zI (fun hlt=> ?_) (fun hge=>zB ⟨rfl,(fun h=>by cases h),fun _ d hd=> ?_⟩)
    ·have hlt:k<D.length:=by simp only at hlt;omega
     have hk:D[k]? =some D[k]:=by simp [hlt]
     generalize D[k]=dk at hk
     have hone: ∀d,D[k]? =some d→d=dk:=fun d hd=>by rw [hk] at hd;exact (Option.some.inj hd).symm
     simp only [zT hk,Int.toNat_natCast,wR hk,Option.bind_some]
     refine zC (wD (zCz _ _) ?_)
     refine zI (fun hc=>zB ⟨rfl,fun _=>⟨dk,hk, .inl (zIz.1 hc)⟩,fun h=>by cases h⟩) (fun hc=> ?_)
     have hc: ¬plt dk.1 p:=fun h=>hc (zIz.2 h)
     refine zH (fun he=>zB ⟨rfl,fun h=>⟨dk,hk, .inr ⟨zE3 he,of_decide_eq_true h⟩⟩,fun h d hd=> ?_⟩) (fun he=>zB ⟨rfl,(fun h=>by cases h),fun _ d hd=> ?_⟩)
     ·have hd:d=dk:=hone d hd
      subst hd
      rintro (h1|⟨_,h1⟩)
      ·exact hc h1
      ·exact of_decide_eq_false h h1
     ·have hd:d=dk:=hone d hd
      subst hd
      rintro (h1|⟨h1,_⟩)
      ·exact hc h1
      ·have he:(d.1.fst==p.1&&(d.1.snd.fst==p.2.1&&true))=false:=he
       rw [h1] at he
       simp at he
    ·have hge: ¬(k:Int)< (D.length:Int):=hge
     have:=(List.getElem?_eq_some_iff.1 hd).1
     omega
   ·rintro ⟨b,g⟩ ⟨hg,hb,hb2⟩
    simp only at hg hb hb2
    subst hg
    refine zH (fun h=> ?_) (fun h=> ?_)
    ·obtain ⟨d,hd,hlt2⟩:=hb h
     have hlt:=(List.getElem?_eq_some_iff.1 hd).1
     refine zB (e2l ⟨⟨k+1,?_,hlt,rfl,?_⟩,?_⟩)
     ·simp only;rw [zD (by omega) (by omega)];omega
     ·intro m d' hm hd'
      rcases Nat.lt_or_ge m k with h'|h'
      ·exact hlo m d' h' hd'
      ·have:m=k:=by omega
       subst this
       rw [hd] at hd'
       cases hd'
       exact hlt2
     ·simp only;rw [zD (by omega) (by omega)];omega
    ·exact zB (e2r ⟨k,rfl,hkl,rfl,hlo,hb2 h⟩)
  rintro ⟨s,g⟩ ⟨k,hk,hkl,hg,hlo,hhi⟩
  simp only at hk hg
  subst hk hg
  have hDl:D.length≤_:=hD.len
  refine zC ((show Wp _ (fun g:BSt=>g.1.2=[]∧Bld a1 (40*i+2*j+1) g.1.1 g.2∧ ∃d,g.1.1[k]? =some d∧d.1=p∧d.2.1=f.2.2.2.1) from ?_).mono ?_)
  ·refine zC ((show Wp _ (fun s:Bool×BSt=>s.2=((D,[]),st)∧(s.1=false→ ∃d,D[k]? =some d∧d.1=p∧d.2.1=f.2.2.2.1)∧(s.1=true→ ∀d,D[k]? =some d→ ¬(d.1=p∧d.2.1=f.2.2.2.1))) from ?_).mono ?_)
   ·refine zH (fun heq=>zB ⟨rfl,(fun h=>by cases h),fun _ d hd=> ?_⟩) (fun hne=> ?_)
    ·have heq:(k:Int)=(D.length:Int):=by simpa using heq
     have:=(List.getElem?_eq_some_iff.1 hd).1
     omega
    have hlt:k<D.length:=by
     have: ¬((k:Int)=(D.length:Int)):=by simpa using hne
     omega
    have hk:D[k]? =some D[k]:=by simp [hlt]
    generalize D[k]=dk at hk
    have hone: ∀d,D[k]? =some d→d=dk:=fun d hd=>by rw [hk] at hd;exact (Option.some.inj hd).symm
    simp only [zT hk,Int.toNat_natCast,wR hk,Option.bind_some]
    refine zH (fun he=>zB ⟨rfl,(fun h=>by cases h),fun _ d hd h2=> ?_⟩) (fun he=> ?_)
    ·have hd:d=dk:=hone d hd
     subst hd
     have he:(!(d.1.fst==p.1&&(d.1.snd.fst==p.2.1&&true)))=true:=he
     rw [h2.1] at he
     simp at he
    have hpe:=zE3 (by simpa using he)
    refine zB ⟨rfl,fun hv=>⟨dk,hk,hpe,by simpa using hv⟩,fun hv d hd h2=> ?_⟩
    have hd:d=dk:=hone d hd
    subst hd
    have hv:(d.2.1 !=f.2.2.2.1)=true:=hv
    rw [h2.2] at hv
    simp at hv
   ·rintro ⟨b,g⟩ ⟨hg,hb,hb2⟩
    simp only at hg hb hb2
    subst hg
    refine zH (fun hbt=> ?_) (fun hf'=>zB ⟨rfl,zDt hD (by omega),hb hf'⟩)
    have hins: ∀d,D[k]? =some d→zBJ p f.2.2.2.1 d.1 d.2.1:=fun d hd=>zUI (hhi d hd) (hb2 hbt d hd)
    refine zH (fun _=> ?_) (fun h=> ?_)
    ·simp only [Int.toNat_natCast,List.take_length]
     refine zC (zA0 (by simp only [List.length_nil,List.length_drop];omega) ?_)
     refine zH (fun _=> ?_) (fun h=> ?_)
     ·refine zC (zA0 (by simp only [List.length_take,List.length_singleton];omega) ?_)
      refine zC (zA0 (by simp only [List.length_append,List.length_nil,List.length_take,List.length_drop,List.length_singleton];omega) ?_)
      rw [List.nil_append]
      refine zB ⟨rfl,zWl hD k p _ hlo hins,⟨(p,f.2.2.2.1,none,()),?_,rfl,rfl⟩⟩
      simp only
      rw [List.append_assoc,List.getElem?_append_right (by simp only [List.length_take];omega)]
      simp only [List.length_take]
      rw [show k-min k D.length=0 by omega]
      rfl
     ·exfalso
      simp only [Bool.and_eq_false_iff,decide_eq_false_iff_not] at h
      omega
    ·exfalso
     simp only [Bool.and_eq_false_iff,decide_eq_false_iff_not] at h
     omega
  rintro ⟨⟨D',L'⟩,st'⟩ ⟨hL,hD',d,hk,hd1,hd2⟩
  simp only at hL hD' hk
  subst hL
  have hD'l:D'.length≤_:=hD'.len
  simp only [zT hk,Int.toNat_natCast,wR hk,Option.bind_some]
  refine zC ((zWm hD' (by omega) hk (e:=(↑i, ↑j,())) ⟨(show (0:Int)≤(i:Int) by omega),(show (0:Int)≤(j:Int) by omega),x,f,by simpa using hx,by simpa using hf,hlen,hdown,?_,?_⟩).mono ?_)
  ·rw [hp,hd1]
  ·exact hd2.symm
  ·rintro ⟨st2,q2⟩ hB
   exact zB ⟨rfl,zDt hB (by omega)⟩
 ·rintro ⟨⟨D,L⟩,st⟩ ⟨hL,hD⟩
  simp only at hL hD
  subst hL
  have hDl:D.length≤_:=hD.len
  refine zC ((zO2 (n:=D.length) (by omega) (fun i (g:BSt)=>g.1.1=D∧g.2=st∧g.1.2.length≤i∧ ∀l,l∈g.1.2→0≤l∧l< (D.length:Int)) ⟨rfl,rfl,Nat.le_refl _,(fun l hl=>by cases hl)⟩ (fun i g hg=>by simp only [hg.1]) ?_
   (Q:=fun g:BSt=>g.1.1=D∧g.2=st∧ ∀l,l∈g.1.2→0≤l∧l< (D.length:Int)) (fun g hg=>⟨hg.1,hg.2.1,hg.2.2.2⟩)).mono ?_)
  ·rintro i ⟨⟨D',L⟩,st'⟩ hi ⟨rfl,rfl,hL,hl⟩
   simp only at hi hL hl
   have hDl2:D'.length≤360:=hD.len
   have hk:D'[i]? =some D'[i]:=by simp [hi]
   simp only [zT hk,Int.toNat_natCast,wR hk,Option.bind_some]
   refine zI (fun _=> ?_) (fun _=>zB ⟨rfl,rfl,by simp only;omega,hl⟩)
   refine zC (zA0 (by simp only [List.length_singleton];omega) (zB ⟨rfl,rfl,by simp only [List.length_append,List.length_singleton];omega,?_⟩))
   intro l hl'
   simp only [List.mem_append,List.mem_singleton] at hl'
   rcases hl' with hl'|rfl
   ·exact hl l hl'
   ·omega
  ·rintro ⟨⟨D',L⟩,st'⟩ ⟨rfl,rfl,hl⟩
   simp only at hl
   refine zI (fun _=>zB ⟨(fun h=>by cases h),fun _=>rfl⟩) (fun h=>zB ⟨fun _=>⟨hD,?_,hl,hy0⟩,fun h=>absurd rfl h⟩)
   simp only at h ⊢
   omega
end Go.Ve

namespace Go.Ve
open Go
set_option maxRecDepth 1000000
set_option maxHeartbeats 4000000
theorem zNb {tE a b:Ty} {st:HSt tE} {x:a.El} {y:b.El} {x':(wS tE a).El} {y':(wS tE b).El} (h1:xB st a x=some x') (h2:xB st b y=some y'):xB st (.pair a b) (x,y)=some (x',y'):=by
 simp only [xB,h1,h2]
theorem zQW {tE a:Ty} {r:List Ty} {st:HSt tE} {x:a.El} {y:ElS r} {x':(wS tE a).El} {y':ElS (zEO tE r)} (h1:xB st a x=some x') (h2:zKW st r y=some y'):zKW st (a::r) (x,y)=some (x',y'):=by
 simp only [zKW,h1,h2]
theorem zNs {α:Type} {f:α→Option α} (hf: ∀x,f x=some x): ∀l:List α,zH7 f l=some l
 |[]=>rfl
 |x::l=>by simp only [zH7,hf x,zNs hf l]
theorem zJ7 (a1:Ty.El zV) (hn:a1.1.length≤9) (hs: ∀y,y∈a1.1→SmR y):
  Wp (zCF (a1,())) (fun r=>r.2.1=0→zVp a1 r.1∧u7 (a1,())=some 0):=by
 obtain ⟨⟨st,⟨D,L,⟨⟩⟩,e,⟨⟩⟩,h1,h2,h3⟩:=zHw a1 hn hs
 unfold zCF zKX
 rw [h1]
 simp only at h2 h3
 by_cases he:e=0
 ·subst he
  obtain ⟨hB,hL,hl,hc⟩:=h2 rfl
  obtain ⟨ys,g1,g2,g3,g4⟩:=zVg hB
  refine ⟨((ys,L,()),0,()),?_,fun _=>⟨⟨?_,g3,hL,?_,g4⟩,hc⟩⟩
  ·have e1:xB st (.sl zM) D=some ys:=g1
   have e2:xB st (.sl tI) L=some L:=zNs (fun _=>rfl) L
   exact zQW (r:=[tI]) (zNb e1 (zNb e2 rfl)) rfl
  ·simp only;have:D.length≤360:=hB.len;omega
  ·intro l hh;simp only;rw [g2];exact hl l hh
 ·have:=h3 he
  simp only [Prod.mk.injEq] at this
  obtain ⟨rfl,rfl,_⟩:=this
  exact ⟨(([],[],()),e,()),rfl,fun h=>absurd h he⟩
structure zVs (d:List Int) (m:Int):Prop where
 len:d.length≤2
 lo: ∀x,x∈d→0≤x∧x<m
theorem zFX (d:List Int) (m:Int):Wp (x5 (d,m,())) (fun b=>b=true→zVs d m):=by
 unfold x5
 dsimp only
 refine zI (fun _=>zB (fun h=>by cases h)) (fun h=> ?_)
 refine zFx (by omega) (fun i=> ∀ (j:Nat) (y:Int),j<i→d[j]? =some y→0≤y∧y<m) (fun j y hj=>by omega) ?_ ?_
 ·intro i (x:Int) hx hj
  have hi:=(List.getElem?_eq_some_iff.1 hx).1
  simp only [zT hx,Option.bind_some]
  refine zC ((show Wp _ (fun b:Bool=>b=false→0≤x∧x<m) from ?_).mono ?_)
  ·refine zI (fun _=>zB (fun h=>by cases h)) (fun h1=> ?_)
   refine zI (fun _=>zB (fun h=>by cases h)) (fun h2=> ?_)
   refine zI (fun h3=> ?_) (fun _=>zB (fun _=>⟨by omega,by omega⟩))
   refine zC (j2 (by rw [zD (by omega) (by omega)];omega) (by rw [zD (by omega) (by omega)];omega) (fun y _ _=>zB (fun _=>⟨by omega,by omega⟩)))
  ·intro b hb
   refine zH (fun _=>zB (e2r (e2r (fun h=>by cases h)))) (fun h=>zB (e2l ⟨rfl,?_⟩))
   intro j y hj' hy
   rcases Nat.lt_or_ge j i with h'|h'
   ·exact hj j y h' hy
   ·have:j=i:=by omega
    subst this
    rw [hx] at hy
    cases hy
    exact hb h
 ·intro hj
  refine zB (fun _=>⟨by omega,?_⟩)
  intro x hx
  obtain ⟨j,hjl,rfl⟩:=List.getElem_of_mem hx
  exact hj j _ hjl (by simp [hjl])
theorem zXg {α:Type} {xs:List α} {P:α→Prop} (h: ∀j y,j<xs.length→xs[j]? =some y→P y): ∀y,y∈xs→P y:=by
 intro x hx
 obtain ⟨j,hjl,rfl⟩:=List.getElem_of_mem hx
 exact h j _ hjl (by simp [hjl])
theorem zIJ {α ρ:Type} {xs:List α} {P:α→Prop} {body:Int→Option (Int ⊕ (Unit ⊕ ρ))} {K:Unit→Option ρ} {Q:ρ→Prop} (hl:xs.length<4611686018427387904)
  (step: ∀ (i:Nat) x,xs[i]? =some x→Wp (body (i:Int)) (uG (fun s'=>s'=IntKind.wrap IntKind.i64 ((i:Int)+1)∧P x) (uG (fun _=>False) Q))) (fin:(∀x,x∈xs→P x)→Wp (K ()) Q):
  Wp (jP (zR (fun s:Int=>bif decide (s< (xs.length:Int)) then body s else some (Sum.inr (Sum.inl ()))) (0:Int)) K) Q:=by
 refine zFx hl (fun i=> ∀j y,j<i→xs[j]? =some y→P y) (fun j y hj=>by omega) ?_ (fun h=>fin (zXg h))
 intro i x hx hj
 refine (step i x hx).mono ?_
 intro o ho
 cases o with
 |inl s'=>
  refine ⟨ho.1,?_⟩
  intro j y hj' hy
  rcases Nat.lt_or_ge j i with h'|h'
  ·exact hj j y h' hy
  ·have:j=i:=by omega
   subst this
   rw [hx] at hy
   cases hy
   exact ho.2
 |inr o=>exact ho
theorem zK2 (a1:Ty.El zG):Wp (zDV (a1,())) (fun b=>b=true→SmR a1):=by
 unfold zDV
 dsimp only
 refine zC ((show Wp _ (fun b:Bool=>b=false→List.length a1.2.2.1≤12∧List.length a1.2.2.2.1≤12∧List.length a1.2.2.2.2.1≤12∧List.length a1.2.2.2.2.2.1≤12∧List.length a1.2.2.2.2.2.2.1≤12∧
  List.length a1.2.2.2.2.2.2.2.1≤20∧List.length a1.2.2.2.2.2.2.2.2.1.2.2.1≤8∧List.length a1.2.2.2.2.2.2.2.2.1.2.2.2.1≤8∧List.length a1.2.2.2.2.2.2.2.2.2.1.2.2.2.2.1≤8∧
  List.length a1.2.2.2.2.2.2.2.2.2.2.1.2.2.2.2.2.2.2.1≤8∧List.length a1.2.2.2.2.2.2.2.2.2.2.1.2.2.2.1≤12∧List.length a1.2.2.2.2.2.2.2.2.2.2.1.2.2.2.2.1≤12∧
  List.length a1.2.2.2.2.2.2.2.2.2.2.1.2.2.2.2.2.1≤12∧List.length a1.2.2.2.2.2.2.2.2.2.2.1.2.2.2.2.2.2.1≤12) from ?_).mono ?_)
 ·iterate 13 (refine zI (fun _=>zB (fun h=>by cases h)) (fun _=> ?_))
  refine zB (fun h=> ?_)
  have h:=of_decide_eq_false h
  refine ⟨?_,?_,?_,?_,?_,?_,?_,?_,?_,?_,?_,?_,?_,?_⟩<;>omega
 intro b hb
 refine zH (fun _=>zB (fun h=>by cases h)) (fun h=> ?_)
 obtain ⟨i1,i2,i3,i4,i5,i6,i7,i8,i9,i10,i11,i12,i13,i14⟩:=hb h
 refine zIJ (P:=fun y=>List.length y.2.1≤20) (by omega) ?_ (fun n1=> ?_)
 ·intro i x hx
  simp only [zT hx,Option.bind_some]
  exact zI (fun _=>zB (e2r (e2r (fun h=>by cases h)))) (fun _=>zB (e2l ⟨rfl,by omega⟩))
 refine zIJ (P:=fun y=>List.length y.2.1≤20) (by omega) ?_ (fun n2=> ?_)
 ·intro i x hx
  simp only [zT hx,Option.bind_some]
  exact zI (fun _=>zB (e2r (e2r (fun h=>by cases h)))) (fun _=>zB (e2l ⟨rfl,by omega⟩))
 refine zIJ (P:=fun y=>List.length y.2.1≤20) (by omega) ?_ (fun n3=> ?_)
 ·intro i x hx
  simp only [zT hx,Option.bind_some]
  exact zI (fun _=>zB (e2r (e2r (fun h=>by cases h)))) (fun _=>zB (e2l ⟨rfl,by omega⟩))
 refine zB (fun _=> ?_)
 constructor<;>first|assumption|omega
theorem zJ8 (a1:Ty.El zV):Wp (zCK (a1,())) (fun b=>b=true→a1.1.length≤9∧ ∀y,y∈a1.1→SmR y):=by
 unfold zCK
 dsimp only
 refine zI (fun _=>zB (fun h=>by cases h)) (fun hn=> ?_)
 refine zIJ (P:=SmR) (by omega) ?_ (fun h=>zB (fun _=>⟨by omega,h⟩))
 intro i x hx
 simp only [zT hx,Option.bind_some]
 refine zC ((zK2 x).mono (fun b hb=> ?_))
 refine zH (fun _=>zB (e2r (e2r (fun h=>by cases h)))) (fun h=>zB (e2l ⟨rfl,hb (by simpa using h)⟩))
structure zHm (n:Ty.El zV) (d:List Int) (v:Ty.El z6):Prop where
 net:v.1=n
 rs:n.1.length≤9
 sm: ∀y,y∈n.1→SmR y
 chk:u7 (n,())=some 0
 topo:zVp n v.2.1
 dn:v.2.2.1=d
 down:zVs d v.2.1.2.1.length
theorem zK1 (n:Ty.El zV) (d:List Int) (hn:n.1.length≤9) (hs: ∀y,y∈n.1→SmR y):
  Wp (zDK (n,d,())) (fun r=>r.2.1=0→zHm n d r.1):=by
 unfold zDK
 dsimp only
 refine zC ((zJ7 n hn hs).mono (fun y0 hy=> ?_))
 refine zH (fun h=>zB (fun h'=> ?_)) (fun h=> ?_)
 ·simp only at h'
  rw [h'] at h
  cases h
 have he:y0.2.1=0:=by simpa using h
 obtain ⟨ht,hc⟩:=hy he
 refine zC ((zFX _ _).mono (fun b hb=> ?_))
 refine zH (fun _=>zB (fun h'=>by cases h')) (fun hb'=> ?_)
 have hd:=hb (by simpa using hb')
 refine zC (zA0 (by have:=hd.len;simp only [List.length_nil];omega) ?_)
 refine zB (fun _=>⟨rfl,hn,hs,hc,ht,rfl,?_⟩)
 exact hd
theorem zK3 (n:Ty.El zV) (d:List Int):Wp (zDW (n,d,())) (fun r=>r.2.1=true→zHm n d r.1):=by
 unfold zDW
 dsimp only
 refine zC (zC ((zJ8 n).mono (fun b hb=> ?_)))
 refine zH (fun _=>zB ?_) (fun h=>zB ?_)
 ·exact zB (fun h=>by cases h)
 ·obtain ⟨hn,hs⟩:=hb (by simpa using h)
  refine zH (fun _=>zB (fun h=>by cases h)) (fun _=> ?_)
  refine zC ((zK1 n d hn hs).mono (fun r hr=>zB (fun h=>hr ?_)))
  simpa using h
end Go.Ve

namespace Go.Ve
open Go
set_option maxRecDepth 1000000
set_option maxHeartbeats 4000000
structure RtS (x:Ty.El zA):Prop where
 path:List.length x.2.2.2.2.2.2.2.2.1≤1048576
 hops:List.length x.2.2.2.2.2.2.2.2.2.2.2.1≤1048576
theorem kB (a1:Ty.El (tI)) (a2:Ty.El (tI)) (a3:Ty.El (tI))  :Wp (qM (a1,a2,a3,())) (fun _=>True):=by
 unfold qM
 try dsimp only
 repeat' (first
  |with_reducible exact trivial
  |assumption
  |contradiction
  |with_reducible refine zB ?_
  |with_reducible refine uL ?_ ?_ (fun y _ _=> ?_)
  |with_reducible refine j2 ?_ ?_ (fun y _ _=> ?_)
  |with_reducible refine jT (fun _=> ?_) (fun _=> ?_)
  |with_reducible refine zI (fun _=> ?_) (fun _=> ?_)
  |with_reducible refine zH (fun _=> ?_) (fun _=> ?_)
  |with_reducible refine qT ?_
  |with_reducible refine j6 (fun s _ _=> ?_) (fun s _ _=> ?_)
  |simp only [jN ‹_[_]? =some _›,Option.bind_some]
  |with_reducible refine xC ?_
  |with_reducible refine zC ?_
  |with_reducible refine e2l ?_
  |with_reducible refine e2r ?_
  |exact zD (by omega) (by omega)
  |omega
  |(rw [zD (by omega) (by omega)];omega)
  |(simp only [beq_iff_eq] at*;omega)
  |(simp only [List.length_cons,List.length_nil] at*;exact zD (by omega) (by omega)))
theorem uH (a1:Ty.El (zA)) (a2:Ty.El (.bool)) (a3:Ty.El (.bool)) (a4:Ty.El (.bool)) (h0:RtS a1):Wp (wT (a1,a2,a3,a4,())) (fun _=>True):=by
 have hh0:=h0
 obtain ⟨p01,p02⟩:=hh0
 unfold wT
 try dsimp only
 repeat' (first
  |with_reducible exact trivial
  |assumption
  |contradiction
  |with_reducible refine zB ?_
  |with_reducible refine uL ?_ ?_ (fun y _ _=> ?_)
  |with_reducible refine j2 ?_ ?_ (fun y _ _=> ?_)
  |with_reducible refine jT (fun _=> ?_) (fun _=> ?_)
  |with_reducible refine zI (fun _=> ?_) (fun _=> ?_)
  |with_reducible refine zH (fun _=> ?_) (fun _=> ?_)
  |with_reducible refine qT ?_
  |with_reducible refine j6 (fun s _ _=> ?_) (fun s _ _=> ?_)
  |simp only [jN ‹_[_]? =some _›,Option.bind_some]
  |with_reducible refine xC ?_
  |with_reducible refine zC ?_
  |with_reducible refine e2l ?_
  |with_reducible refine e2r ?_
  |exact zD (by omega) (by omega)
  |omega
  |(rw [zD (by omega) (by omega)];omega)
  |(simp only [beq_iff_eq] at*;omega)
  |(simp only [List.length_cons,List.length_nil] at*;exact zD (by omega) (by omega)))
theorem zHv (a1:Ty.El (jJ)) (a2:Ty.El (jJ))  :Wp (zBi (a1,a2,())) (fun _=>True):=by
 unfold zBi
 try dsimp only
 repeat' (first
  |with_reducible exact trivial
  |assumption
  |contradiction
  |with_reducible refine zB ?_
  |with_reducible refine uL ?_ ?_ (fun y _ _=> ?_)
  |with_reducible refine j2 ?_ ?_ (fun y _ _=> ?_)
  |with_reducible refine jT (fun _=> ?_) (fun _=> ?_)
  |with_reducible refine zI (fun _=> ?_) (fun _=> ?_)
  |with_reducible refine zH (fun _=> ?_) (fun _=> ?_)
  |with_reducible refine qT ?_
  |with_reducible refine j6 (fun s _ _=> ?_) (fun s _ _=> ?_)
  |simp only [jN ‹_[_]? =some _›,Option.bind_some]
  |with_reducible refine xC ?_
  |with_reducible refine zC ?_
  |with_reducible refine e2l ?_
  |with_reducible refine e2r ?_
  |exact zD (by omega) (by omega)
  |omega
  |(rw [zD (by omega) (by omega)];omega)
  |(simp only [beq_iff_eq] at*;omega)
  |(simp only [List.length_cons,List.length_nil] at*;exact zD (by omega) (by omega)))
theorem kC (a1:Ty.El (.sl jJ)) (a2:Ty.El (.bool)) (h0:List.length a1≤1048576):Wp (w4 (a1,a2,())) (fun _=>True):=by
 unfold w4
 try dsimp only
 repeat' (first
  |with_reducible exact trivial
  |assumption
  |contradiction
  |with_reducible refine zB ?_
  |with_reducible refine (zHv _ _).mono (fun r _=> ?_)
  |with_reducible refine uL ?_ ?_ (fun y _ _=> ?_)
  |with_reducible refine j2 ?_ ?_ (fun y _ _=> ?_)
  |with_reducible refine jT (fun _=> ?_) (fun _=> ?_)
  |with_reducible refine zI (fun _=> ?_) (fun _=> ?_)
  |with_reducible refine zH (fun _=> ?_) (fun _=> ?_)
  |with_reducible refine qT ?_
  |with_reducible refine j6 (fun s _ _=> ?_) (fun s _ _=> ?_)
  |simp only [jN ‹_[_]? =some _›,Option.bind_some]
  |with_reducible refine xC ?_
  |with_reducible refine zC ?_
  |with_reducible refine e2l ?_
  |with_reducible refine e2r ?_
  |exact zD (by omega) (by omega)
  |omega
  |(rw [zD (by omega) (by omega)];omega)
  |(simp only [beq_iff_eq] at*;omega)
  |(simp only [List.length_cons,List.length_nil] at*;exact zD (by omega) (by omega)))
theorem zEy (a1:Ty.El (zA)) (h0:RtS a1):Wp (uV (a1,())) (fun _=>True):=by
 have hh0:=h0
 obtain ⟨p01,p02⟩:=hh0
 unfold uV
 try dsimp only
 repeat' (first
  |with_reducible exact trivial
  |assumption
  |contradiction
  |with_reducible refine zB ?_
  |with_reducible refine (kB _ _ _).mono (fun r _=> ?_)
  |with_reducible refine (uH _ _ _ _ ?_).mono (fun r _=> ?_)
  |with_reducible refine (kC _ _ ?_).mono (fun r _=> ?_)
  |with_reducible refine uL ?_ ?_ (fun y _ _=> ?_)
  |with_reducible refine j2 ?_ ?_ (fun y _ _=> ?_)
  |with_reducible refine jT (fun _=> ?_) (fun _=> ?_)
  |with_reducible refine zI (fun _=> ?_) (fun _=> ?_)
  |with_reducible refine zH (fun _=> ?_) (fun _=> ?_)
  |with_reducible refine qT ?_
  |with_reducible refine j6 (fun s _ _=> ?_) (fun s _ _=> ?_)
  |simp only [jN ‹_[_]? =some _›,Option.bind_some]
  |with_reducible refine xC ?_
  |with_reducible refine zC ?_
  |with_reducible refine e2l ?_
  |with_reducible refine e2r ?_
  |exact zD (by omega) (by omega)
  |omega
  |(rw [zD (by omega) (by omega)];omega)
  |(simp only [beq_iff_eq] at*;omega)
  |(simp only [List.length_cons,List.length_nil] at*;exact zD (by omega) (by omega)))
theorem zCV (a1:Ty.El (zA)) (h0:RtS a1):Wp (vK (a1,())) (fun _=>True):=by
 have hh0:=h0
 obtain ⟨p01,p02⟩:=hh0
 unfold vK
 try dsimp only
 repeat' (first
  |with_reducible exact trivial
  |assumption
  |contradiction
  |with_reducible refine zB ?_
  |with_reducible refine (kB _ _ _).mono (fun r _=> ?_)
  |with_reducible refine (uH _ _ _ _ ?_).mono (fun r _=> ?_)
  |with_reducible refine (kC _ _ ?_).mono (fun r _=> ?_)
  |with_reducible refine uL ?_ ?_ (fun y _ _=> ?_)
  |with_reducible refine j2 ?_ ?_ (fun y _ _=> ?_)
  |with_reducible refine jT (fun _=> ?_) (fun _=> ?_)
  |with_reducible refine zI (fun _=> ?_) (fun _=> ?_)
  |with_reducible refine zH (fun _=> ?_) (fun _=> ?_)
  |with_reducible refine qT ?_
  |with_reducible refine j6 (fun s _ _=> ?_) (fun s _ _=> ?_)
  |simp only [jN ‹_[_]? =some _›,Option.bind_some]
  |with_reducible refine xC ?_
  |with_reducible refine zC ?_
  |with_reducible refine e2l ?_
  |with_reducible refine e2r ?_
  |exact zD (by omega) (by omega)
  |omega
  |(rw [zD (by omega) (by omega)];omega)
  |(simp only [beq_iff_eq] at*;omega)
  |(simp only [List.length_cons,List.length_nil] at*;exact zD (by omega) (by omega)))
theorem zC7 (a1:Ty.El (zA)) (h0:RtS a1):Wp (wL (a1,())) (fun _=>True):=by
 have hh0:=h0
 obtain ⟨p01,p02⟩:=hh0
 unfold wL
 try dsimp only
 repeat' (first
  |with_reducible exact trivial
  |assumption
  |contradiction
  |with_reducible refine zB ?_
  |with_reducible refine (kB _ _ _).mono (fun r _=> ?_)
  |with_reducible refine (uH _ _ _ _ ?_).mono (fun r _=> ?_)
  |with_reducible refine (kC _ _ ?_).mono (fun r _=> ?_)
  |with_reducible refine uL ?_ ?_ (fun y _ _=> ?_)
  |with_reducible refine j2 ?_ ?_ (fun y _ _=> ?_)
  |with_reducible refine jT (fun _=> ?_) (fun _=> ?_)
  |with_reducible refine zI (fun _=> ?_) (fun _=> ?_)
  |with_reducible refine zH (fun _=> ?_) (fun _=> ?_)
  |with_reducible refine qT ?_
  |with_reducible refine j6 (fun s _ _=> ?_) (fun s _ _=> ?_)
  |simp only [jN ‹_[_]? =some _›,Option.bind_some]
  |with_reducible refine xC ?_
  |with_reducible refine zC ?_
  |with_reducible refine e2l ?_
  |with_reducible refine e2r ?_
  |exact zD (by omega) (by omega)
  |omega
  |(rw [zD (by omega) (by omega)];omega)
  |(simp only [beq_iff_eq] at*;omega)
  |(simp only [List.length_cons,List.length_nil] at*;exact zD (by omega) (by omega)))
theorem zFW (a1:Ty.El (zA)) (h0:RtS a1):Wp (x4 (a1,())) (fun _=>True):=by
 have hh0:=h0
 obtain ⟨p01,p02⟩:=hh0
 unfold x4
 try dsimp only
 repeat' (first
  |with_reducible exact trivial
  |assumption
  |contradiction
  |with_reducible refine zB ?_
  |with_reducible refine (kB _ _ _).mono (fun r _=> ?_)
  |with_reducible refine (uH _ _ _ _ ?_).mono (fun r _=> ?_)
  |with_reducible refine (kC _ _ ?_).mono (fun r _=> ?_)
  |with_reducible refine uL ?_ ?_ (fun y _ _=> ?_)
  |with_reducible refine j2 ?_ ?_ (fun y _ _=> ?_)
  |with_reducible refine jT (fun _=> ?_) (fun _=> ?_)
  |with_reducible refine zI (fun _=> ?_) (fun _=> ?_)
  |with_reducible refine zH (fun _=> ?_) (fun _=> ?_)
  |with_reducible refine qT ?_
  |with_reducible refine j6 (fun s _ _=> ?_) (fun s _ _=> ?_)
  |simp only [jN ‹_[_]? =some _›,Option.bind_some]
  |with_reducible refine xC ?_
  |with_reducible refine zC ?_
  |with_reducible refine e2l ?_
  |with_reducible refine e2r ?_
  |exact zD (by omega) (by omega)
  |omega
  |(rw [zD (by omega) (by omega)];omega)
  |(simp only [beq_iff_eq] at*;omega)
  |(simp only [List.length_cons,List.length_nil] at*;exact zD (by omega) (by omega)))
theorem zJ6 (a1:Ty.El (zA)) (h0:RtS a1):Wp (wU (a1,())) (fun _=>True):=by
 have hh0:=h0
 obtain ⟨p01,p02⟩:=hh0
 unfold wU
 try dsimp only
 repeat' (first
  |with_reducible exact trivial
  |assumption
  |contradiction
  |with_reducible refine zB ?_
  |with_reducible refine (u5 _).mono (fun r _=> ?_)
  |with_reducible refine (kB _ _ _).mono (fun r _=> ?_)
  |with_reducible refine (uH _ _ _ _ ?_).mono (fun r _=> ?_)
  |with_reducible refine (kC _ _ ?_).mono (fun r _=> ?_)
  |with_reducible refine (zEy _ ?_).mono (fun r _=> ?_)
  |with_reducible refine (zCV _ ?_).mono (fun r _=> ?_)
  |with_reducible refine (zC7 _ ?_).mono (fun r _=> ?_)
  |with_reducible refine (zFW _ ?_).mono (fun r _=> ?_)
  |with_reducible refine uL ?_ ?_ (fun y _ _=> ?_)
  |with_reducible refine j2 ?_ ?_ (fun y _ _=> ?_)
  |with_reducible refine jT (fun _=> ?_) (fun _=> ?_)
  |with_reducible refine zI (fun _=> ?_) (fun _=> ?_)
  |with_reducible refine zH (fun _=> ?_) (fun _=> ?_)
  |with_reducible refine qT ?_
  |with_reducible refine j6 (fun s _ _=> ?_) (fun s _ _=> ?_)
  |simp only [jN ‹_[_]? =some _›,Option.bind_some]
  |with_reducible refine xC ?_
  |with_reducible refine zC ?_
  |with_reducible refine e2l ?_
  |with_reducible refine e2r ?_
  |exact zD (by omega) (by omega)
  |omega
  |(rw [zD (by omega) (by omega)];omega)
  |(simp only [beq_iff_eq] at*;omega)
  |(simp only [List.length_cons,List.length_nil] at*;exact zD (by omega) (by omega)))
end Go.Ve

namespace Go.Ve
open Go
set_option maxRecDepth 1000000
set_option maxHeartbeats 4000000
structure RtB (x:Ty.El zA):Prop where
 path:x.2.2.2.2.2.2.2.2.1.length≤1152921504606846976
 hops:x.2.2.2.2.2.2.2.2.2.2.2.1.length≤1152921504606846976
def zCd (p q:Ty.El zF):Bool:=p.1==q.1&&(p.2.1==q.2.1&&true)
theorem xN {p q:Ty.El zF} :zCd p q=true↔p=q:=⟨fun h=>zE3 h,fun h=>by subst h;simp [zCd]⟩
end Go.Ve

namespace Go.Ve
open Go
set_option maxRecDepth 1000000
set_option maxHeartbeats 4000000
def zJj (e y:Ty.El zO):Bool:=y.1==e.1&&(y.2.1==e.2.1&&true)
theorem zU9 {e y:Ty.El zO} :zJj e y=true↔y=e:=⟨fun h=>zE3 h,fun h=>by subst h;simp [zJj]⟩
def zBa (v:Ty.El z6) (r i:Int):Int:=zBs (fun d:Ty.El zAu=>d.2.2.1.any (zJj (r,i,()))) v.2.1.1
def zKK (v:Ty.El z6) (r i:Int):Int:=zBs (fun l:Int=>decide (zBa v r i≥0)&&l==zBa v r i) v.2.1.2.1
def upB (v:Ty.El z6) (r i:Int):Bool:=decide (0≤zBa v r i)&&v.2.2.1.all (fun x:Int=> !(x==zKK v r i))
structure zCQ (v:Ty.El z6):Prop where
 rs:v.1.1.length≤9
 sm: ∀y,y∈v.1.1→SmR y
 doms:v.2.1.1.length≤360
 ends : ∀ d, d ∈ v.2.1.1 → d.2.2.1.length ≤ 360
 links:v.2.1.2.1.length≤12
 link0: ∀l,l∈v.2.1.2.1→(0:Int)≤l
 down:v.2.2.1.length≤2
 down0: ∀l,l∈v.2.2.1→(0:Int)≤l
theorem zHm.s {n:Ty.El zV} {d:List Int} {v:Ty.El z6} (h:zHm n d v):zCQ v where
 rs:=by rw [h.net];exact h.rs
 sm:=by rw [h.net];exact h.sm
 doms:=h.topo.doms
 ends := fun d hd => (h.topo.ends d hd).1
 links:=h.topo.links
 link0:=fun l hl=>(h.topo.link l hl).1
 down:=by rw [h.dn];exact h.down.len
 down0:=by rw [h.dn];exact fun l hl=>(h.down.lo l hl).1
theorem zFd {α:Type} {p:α→Bool} {xs:List α} :zBs p xs≥0↔xs.any p=true:=by
 rcases zLY p xs with ⟨h,h2⟩|⟨i,x,h,h2,h3,_⟩
 ·rw [h]
  constructor
  ·intro h';omega
  ·intro h'
   obtain ⟨x,hx,hp⟩:=List.any_eq_true.1 h'
   rw [h2 x hx] at hp
   cases hp
 ·rw [h]
  exact ⟨fun _=>List.any_eq_true.2 ⟨x,List.mem_of_getElem? h2,h3⟩,fun _=>by omega⟩
theorem zIl {α:Type} {p:α→Bool} {xs:List α} (h:0≤zBs p xs): ∃x,xs[(zBs p xs).toNat]? =some x∧p x=true:=by
 rcases zLY p xs with ⟨h1,h2⟩|⟨i,x,h1,h2,h3,_⟩
 ·omega
 ·rw [h1];exact ⟨x,by simpa using h2,h3⟩
theorem zEz (l:List (Ty.El zO)) (e:Ty.El zO) (hl:l.length≤1048576):Wp (yN (l,e,())) (fun k=>k=zBs (zJj e) l):=by
 unfold yN
 dsimp only
 refine zFy (p:=zJj e) (by omega) ?_ rfl
 intro i x hx
 simp only [zT hx,Option.bind_some]
 have:(e.1==x.1&&(e.2.1==x.2.1&&true))=zJj e x:=by
  unfold zJj
  rw [Bool.eq_iff_iff]
  simp only [Bool.and_true,Bool.and_eq_true,beq_iff_eq]
  exact ⟨fun h=>⟨h.1.symm,h.2.symm⟩,fun h=>⟨h.1.symm,h.2.symm⟩⟩
 rw [this]
 cases zJj e x<;>rfl
theorem zCX (l:List (Ty.El zO)) (e:Ty.El zO) (hl:l.length≤1048576):Wp (v2 (l,e,())) (fun b=>b=l.any (zJj e)):=by
 unfold v2
 dsimp only
 refine zC ((zEz l e hl).mono (fun k hk=>zB ?_))
 subst hk
 rw [Bool.eq_iff_iff,decide_eq_true_eq]
 exact zFd
theorem zA2 (v:Ty.El z6) (r i:Int) (hv:zCQ v):Wp (zAd (v,r,i,())) (fun k=>k=zBa v r i):=by
 unfold zAd
 dsimp only
 have:=hv.doms
 refine zFy (p:=fun d:Ty.El zAu=>d.2.2.1.any (zJj (r,i,()))) (by omega) ?_ rfl
 intro k x hx
 simp only [zT hx,Option.bind_some]
 have:=hv.ends x (List.mem_of_getElem? hx)
 have h1:=u4 (zCX x.2.2.1 (r,i,()) (by omega))
 refine (congrArg (fun m=>Option.bind m _) h1).trans ?_
 simp only [Option.bind_some]
 cases List.any x.2.2.1 (zJj (r,i,()))<;>rfl
theorem zAW (l:List Int) (e:Int) (hl:l.length≤1048576):Wp (kG (l,e,())) (fun k=>k=zBs (fun x=>x==e) l):=by
 unfold kG
 dsimp only
 refine zFy (p:=fun x:Int=>x==e) (by omega) ?_ rfl
 intro i (x:Int) hx
 simp only [zT hx,Option.bind_some]
 have:(e==x)=(x==e):=by rw [Bool.eq_iff_iff,beq_iff_eq,beq_iff_eq];exact eq_comm
 rw [this]
 cases x==e<;>rfl
theorem zCW (l:List Int) (e:Int) (hl:l.length≤1048576):Wp (vZ (l,e,())) (fun b=>b=l.any (fun x=>x==e)):=by
 unfold vZ
 dsimp only
 refine zC ((zAW l e hl).mono (fun k hk=>zB ?_))
 subst hk
 rw [Bool.eq_iff_iff,decide_eq_true_eq]
 exact zFd
theorem zK7 (v:Ty.El z6) (r i:Int) (hv:zCQ v):Wp (zFA (v,r,i,())) (fun k=>k=zKK v r i):=by
 unfold zFA
 dsimp only
 refine zC ((zA2 v r i hv).mono (fun k hk=> ?_))
 subst hk
 refine zI (fun h=>zB ?_) (fun h=> ?_)
 ·unfold zKK
  rw [zNH]
  intro x _
  have: ¬(zBa v r i≥0):=by omega
  simp [this]
 ·have:=hv.links
  refine zC ((zAW _ _ (by omega)).mono (fun k hk=>zB ?_))
  rw [hk]
  unfold zKK
  have h2:zBa v r i≥0:=by omega
  congr 1
  funext l
  simp [h2]
theorem zQN {α:Type} {p:α→Bool} (l:List α):(!l.any p)=l.all (fun x=> !p x):=by
 induction l with
 |nil=>rfl
 |cons x l ih=>simp [←ih]
theorem zHF (v:Ty.El z6) (r i:Int) (hv:zCQ v):Wp (zHx (v,r,i,())) (fun b=>b=upB v r i):=by
 unfold zHx
 dsimp only
 refine zC ((zA2 v r i hv).mono (fun k hk=> ?_))
 subst hk
 refine zI (fun h=>zB ?_) (fun h=> ?_)
 ·unfold upB
  have: ¬(0≤zBa v r i):=by omega
  simp [this]
 ·refine zC ((zK7 v r i hv).mono (fun k hk=> ?_))
  subst hk
  have h0:0≤zBa v r i:=by omega
  have hd:=hv.down
  refine zC (zI (fun h=>zB (zB ?_)) (fun h=> ?_))
  ·unfold upB
   simp only [h0,decide_true,Bool.true_and]
   symm
   rw [List.all_eq_true]
   intro x hx
   have:=hv.down0 x hx
   simp only [Bool.not_eq_true',beq_eq_false_iff_ne]
   omega
  ·refine zC ((zCW _ _ (by omega)).mono (fun b hb=>zB (zB ?_)))
   subst hb
   unfold upB
   simp only [h0,decide_true,Bool.true_and]
   exact zQN _
end Go.Ve

namespace Go.Ve
open Go
set_option maxRecDepth 1000000
set_option maxHeartbeats 4000000
def vU (n:Int):Nat:=min n.toNat 32
def zBH (k:Nat):BitVec 32:=BitVec.allOnes 32<<< (32-k)
theorem zNS (n:Int):vU n≤32:=Nat.min_le_right _ _
theorem zTP {x:Int} (h0:0≤x) (h1:x<4294967296):IntKind.wrap .u32 x=x:=by
 have e1:((2:Int)^IntKind.bits .u32)=4294967296:=by decide
 simp only [IntKind.wrap,IntKind.signed,Bool.false_and,Bool.false_eq_true,if_false,e1]
 omega
theorem zNZ (x:BitVec 32):IntKind.wrap .u32 (x.toNat:Int)=(x.toNat:Int):=zTP (by omega) (by have:=x.isLt;omega)
theorem zLC (x:BitVec 32):BitVec.ofInt 32 (x.toNat:Int)=x:=by
 rw [BitVec.ofInt_natCast,BitVec.ofNat_toNat,BitVec.setWidth_eq]
theorem zSX: ∀i,i<32→zBH i|||BitVec.ofInt 32 (IntKind.wrap .u32 (1*2^min (31-i) 32))=zBH (i+1):=by decide+kernel
theorem zTe:zBH 0=0#32:=by decide+kernel
theorem zOZ: ∀k,k<33→IntKind.wrap .u32 (4294967295*2^min (32-k) 32)=((zBH k).toNat:Int):=by decide+kernel
theorem zK8 (n:Int):Wp (zAh (n,())) (fun m=>m=((zBH (vU n)).toNat:Int)):=by
 unfold zAh
 dsimp only
 refine zC ((zO2 (n:=32) (by omega) (fun i (m:Int)=>m=((zBH (min i (vU n))).toNat:Int)) (by simp [zTe]) (fun i g _=>by simp) ?_ (Q:=fun m=>m=((zBH (vU n)).toNat:Int)) (fun g hg=>by
  rw [hg,Nat.min_eq_right (zNS n)])).mono (fun m hm=>zB hm))
 intro i g hi hg
 subst hg
 refine zI (fun h=> ?_) (fun h=>zB ?_)
 ·have h:(i:Int)<n:=h
  have hk:i<vU n:=by unfold vU;omega
  refine zI (fun _=>zB ?_) (fun h'=>absurd ?_ h')
  ·have e1:min i (vU n)=i:=by omega
   have e2:min (i+1) (vU n)=i+1:=by omega
   rw [e1,e2]
   dsimp only
   rw [zD (by omega) (by omega),zHp (by omega) (by omega),show ((31:Int) - (i:Int)).toNat=31-i by omega]
   change IntKind.wrap .u32 (((BitVec.ofInt 32 ((zBH i).toNat:Int)|||BitVec.ofInt 32 (IntKind.wrap .u32 (1*2^min (31-i) 32))).toNat:Nat):Int)=_
   rw [zLC,zSX i hi,zNZ]
  ·simp only
   rw [zD (by omega) (by omega),zHp (by omega) (by omega)]
   omega
 ·have h: ¬((i:Int)<n):=h
  have hk:vU n≤i:=by unfold vU;omega
  rw [Nat.min_eq_right hk,Nat.min_eq_right (by omega)]
theorem zQu (n:Int):(if (if (32:Int)<n then (32:Int) else n)>(0:Int) then if (32:Int)<n then (32:Int) else n else (0:Int))=(vU n:Int):=by
 unfold vU
 split<;>split<;>omega
theorem zEX (n:Int):zDw (n,())=some ((zBH (vU n)).toNat:Int):=by
 have hle:=zNS n
 unfold zDw zCr
 simp only [zQu,Option.bind_some]
 rw [zD (by omega) (by omega)]
 have h0:(0:Int)≤32- ((vU n:Nat):Int):=by omega
 simp only [h0,decide_true,cond_true]
 rw [show ((32:Int) - ((vU n:Nat):Int)).toNat=32-vU n by omega]
 exact congrArg some (zOZ _ (by omega))
def zUD (a n:Int):Ty.El zF:=(((BitVec.ofInt 32 a&&&zBH (vU n)).toNat:Int),(vU n:Int),())
def zNR (p:Ty.El zF) (a:Int):Bool:=(((BitVec.ofInt 32 a&&&zBH (vU p.2.1)).toNat:Nat):Int)==p.1
theorem zVl (a:Int) (k:Nat):IntKind.wrap .u32 (((BitVec.ofInt (IntKind.bits .u32) a&&&BitVec.ofInt (IntKind.bits .u32) ((zBH k).toNat:Int)).toNat:Nat):Int)=((BitVec.ofInt 32 a&&&zBH k).toNat:Int):=by
 change IntKind.wrap .u32 (((BitVec.ofInt 32 a&&&BitVec.ofInt 32 ((zBH k).toNat:Int)).toNat:Nat):Int)=_
 rw [zLC,zNZ]
theorem zHH (a n:Int):zBW (a,n,())=some (zUD a n):=by
 refine u4 ?_
 unfold zBW
 dsimp only
 refine zC (wD (zEX _) ?_)
 unfold zCr
 simp only [zQu,Option.bind_some]
 refine zB ?_
 unfold zUD
 rw [zVl]
theorem zGM (p:Ty.El zF) (a:Int):xV (p,a,())=some (zNR p a):=by
 refine u4 ?_
 unfold xV
 dsimp only
 refine zC (wD (zEX _) (zB ?_))
 rw [zVl]
 rfl
def zKV (p:Ty.El zF):Bool:=decide (p.2.1≥0)&&(decide (p.2.1≤32)&&(BitVec.ofInt 32 p.1&&& ~~~ zBH (vU p.2.1))==0#32)
theorem zJ9 (p:Ty.El zF):j9 (p,())=some (zKV p):=by
 refine u4 ?_
 unfold j9 zKV
 dsimp only
 refine zC (zH (fun h=>zH (fun h'=>zC ((zK8 _).mono (fun m hm=>zB (zB ?_)))) (fun h'=>zB (zB ?_))) (fun h=>zB (zB ?_)))
 ·subst hm
  rw [h,h']
  simp only [Bool.true_and]
  change (IntKind.wrap .u32 (((BitVec.ofInt 32 p.1&&& ~~~ BitVec.ofInt 32 ((zBH (vU p.2.1)).toNat:Int)).toNat:Nat):Int)==(0:Int))=_
  rw [zLC,zNZ,Bool.eq_iff_iff,beq_iff_eq,beq_iff_eq]
  constructor
  ·intro h
   apply BitVec.eq_of_toNat_eq
   simp only [BitVec.toNat_ofNat]
   omega
  ·intro h
   rw [h];rfl
 ·rw [h,h'];rfl
 ·rw [h];rfl
end Go.Ve

namespace Go.Ve
open Go
set_option maxRecDepth 1000000
set_option maxHeartbeats 4000000
section
variable {ρ:Type}
end
theorem uP (a lo hi:Int):qM (a,lo,hi,())=some (decide (lo≤a)&&decide (a≤hi)):=by
 refine u4 ?_
 unfold qM
 dsimp only
 refine zC (zH (fun h=>zB (zB ?_)) (fun h=>zB (zB ?_)))<;>(rw [h];rfl)
end Go.Ve



namespace Go.Ve
open Go
set_option maxRecDepth 1000000
set_option maxHeartbeats 4000000
def rlt (x y:Ty.El zA):Prop:=plt x.1 y.1
theorem zOh:Ord rlt where
 asym:=fun x y h=>zFF.asym _ _ h
 tr:=fun x y z h1 h2=>zFF.tr _ _ _ h1 h2
end Go.Ve

namespace Go.Ve
open Go
set_option maxRecDepth 1000000
set_option maxHeartbeats 4000000
def zBo (x:Ty.El zA):Int×Int×Int×Int×Int×Int×Int:=
 bif x.2.1==(3:Int) then (x.2.2.1,x.2.2.2.2.1,x.2.2.2.2.2.1,x.2.2.2.2.2.2.1,(0:Int),(0:Int),(0:Int))
 else bif x.2.1==(4:Int) then (x.2.2.2.2.1,x.2.2.1,x.2.2.2.2.2.2.1,(0:Int),(0:Int),(0:Int),(0:Int))
 else bif x.2.1==(5:Int) then (if (3:Int)<x.2.2.1 then (3:Int) else x.2.2.1,IntKind.wrap IntKind.i64 ((1000000:Int) -x.2.2.2.2.2.2.2.1),(x.2.2.2.2.2.2.2.2.1.length:Int),x.2.2.2.2.1,x.2.2.1,IntKind.wrap IntKind.i64 x.2.2.2.2.2.2.2.2.2.1,(0:Int))
 else (x.2.2.2.1,(0:Int),(0:Int),(0:Int),(0:Int),(0:Int),(0:Int))
def zQt:List (Int×Int)→Int
 |[]=>0
 |(a,b)::r=>if a<b then-1 else if b<a then 1 else zQt r
def uW (x y:Ty.El zA):Int:=
 zQt [((zBo x).1,(zBo y).1),((zBo x).2.1,(zBo y).2.1),((zBo x).2.2.1,(zBo y).2.2.1),((zBo x).2.2.2.1,(zBo y).2.2.2.1),((zBo x).2.2.2.2.1,(zBo y).2.2.2.2.1),((zBo x).2.2.2.2.2.1,(zBo y).2.2.2.2.2.1),((zBo x).2.2.2.2.2.2,(zBo y).2.2.2.2.2.2)]
section
variable {α:Type} {lt eq:α→α→Bool}
def zEG (lt eq:α→α→Bool) (h:α):List α→List α
 |[]=>[h]
 |x::r=>bif lt x h then x::zEG lt eq h r else bif eq x h then x::r else h::x::r
theorem zIc (heq: ∀x y,eq x y=true↔x=y) {h z:α} : ∀ {l:List α},z∈zEG lt eq h l↔z∈l∨z=h
 |[]=>by simp [zEG]
 |x::r=>by
  simp only [zEG]
  cases lt x h with
  |true=>simp only [cond_true,List.mem_cons,zIc heq (l:=r)];exact or_assoc.symm
  |false=>
   simp only [cond_false]
   cases he:eq x h with
   |true=>
    have:=(heq x h).1 he
    subst this
    simp only [cond_true,List.mem_cons]
    exact ⟨fun h=> .inl h,fun h=>h.elim id .inl⟩
   |false=>simp only [cond_false,List.mem_cons];exact ⟨fun h=>h.elim .inr .inl,fun h=>h.elim .inr .inl⟩
theorem zFc {R:α→α→Prop} (ho:Ord R) (hlt: ∀x y,lt x y=true↔R x y) (heq: ∀x y,eq x y=true↔x=y) (htot: ∀x y, ¬R x y→x≠y→R y x) {h:α} : ∀ {l:List α},l.Pairwise R→(zEG lt eq h l).Pairwise R
 |[],_=>by simp [zEG]
 |x::r,hp=>by
  rw [List.pairwise_cons] at hp
  simp only [zEG]
  cases hx:lt x h with
  |true=>
   simp only [cond_true]
   rw [List.pairwise_cons]
   refine ⟨fun z hz=> ?_,zFc ho hlt heq htot hp.2⟩
   rcases (zIc heq).1 hz with hz|rfl
   ·exact hp.1 z hz
   ·exact (hlt _ _).1 hx
  |false=>
   simp only [cond_false]
   have hn: ¬R x h:=fun hh=>by rw [(hlt _ _).2 hh] at hx;cases hx
   cases he:eq x h with
   |true=>simp only [cond_true];rw [List.pairwise_cons];exact hp
   |false=>
    simp only [cond_false]
    have hne:x≠h:=fun e=>by rw [(heq _ _).2 e] at he;cases he
    have hr:=htot _ _ hn hne
    have tr: ∀z,R x z→R h z:=by
     intro z hz
     exact Classical.byContradiction (fun hnz=>ho.tr x z h (ho.asym _ _ hz) hnz hr)
    rw [List.pairwise_cons,List.pairwise_cons]
    refine ⟨fun z hz=> ?_,hp⟩
    rcases List.mem_cons.1 hz with rfl|hz
    ·exact hr
    ·exact tr z (hp.1 z hz)
end
end Go.Ve

namespace Go.Ve
open Go
set_option maxRecDepth 1000000
set_option maxHeartbeats 4000000
theorem zLW {α β:Type} {f:α→Option β} {xs:List α} {i:Nat} {x:α} (h:xs[i]? =some x):(xs.take (i+1)).filterMap f=(xs.take i).filterMap f++(f x).toList:=by
 rw [List.take_add_one,h,Option.toList_some,List.filterMap_append,List.filterMap_cons,List.filterMap_nil]
 cases f x<;>rfl
end Go.Ve

namespace Go.Ve
open Go
set_option maxRecDepth 1000000
set_option maxHeartbeats 4000000
theorem zT1 {α:Type} {xs:List α} {k:Nat} (h:k≤xs.length):sub xs (k:Int) (xs.length:Int)=some (xs.drop k):=by
 unfold sub
 rw [if_pos (by omega),Int.toNat_natCast,Int.toNat_natCast,List.take_length]
def zMG (p q:Ty.El zF):Bool:=decide (zWf p q<0)
theorem zUv {p q:Ty.El zF} :zMG p q=true↔plt p q:=by
 unfold zMG;rw [decide_eq_true_eq];exact zIz
theorem zP0 {α:Type} {lt eq:α→α→Bool} {h:α} : ∀ {l:List α},(zEG lt eq h l).length≤l.length+1
 |[]=>by simp [zEG]
 |x::r=>by
  have:=zP0 (lt:=lt) (eq:=eq) (h:=h) (l:=r)
  simp only [zEG]
  cases lt x h<;>cases eq x h<;>simp<;>omega
def zOk (l:List (Ty.El zA)):List (Ty.El zF):=l.foldl (fun acc x=>zEG zMG zCd x.1 acc) []
theorem zHT: ∀ (l:List (Ty.El zA)) (acc:List (Ty.El zF)),(l.foldl (fun acc x=>zEG zMG zCd x.1 acc) acc).length≤acc.length+l.length
 |[],acc=>by simp
 |x::l,acc=>by
  have h1:=zHT l (zEG zMG zCd x.1 acc)
  have h2:=zP0 (lt:=zMG) (eq:=zCd) (h:=x.1) (l:=acc)
  simp only [List.foldl_cons,List.length_cons]
  omega
theorem zUu (l:List (Ty.El zA)):(zOk l).length≤l.length:=by
 have:=zHT l []
 simpa [zOk] using this
theorem zLk: ∀ (l:List (Ty.El zA)) (acc:List (Ty.El zF)),acc.Pairwise plt→
  (l.foldl (fun acc x=>zEG zMG zCd x.1 acc) acc).Pairwise plt∧ ∀p,p∈l.foldl (fun acc x=>zEG zMG zCd x.1 acc) acc↔p∈acc∨ ∃x,x∈l∧x.1=p
 |[],acc,h=>⟨h,fun p=>by simp⟩
 |x::l,acc,h=>by
  have h2:=zLk l (zEG zMG zCd x.1 acc) (zFc zFF (fun _ _=>zUv) (fun _ _=>xN) (fun p q h1 h2=>zOl h1 (fun e=>h2 e.symm)) h)
  refine ⟨h2.1,fun p=> ?_⟩
  rw [List.foldl_cons,h2.2 p,zIc (fun _ _=>xN)]
  constructor
  ·rintro ((h|rfl)|⟨y,hy,rfl⟩)
   ·exact .inl h
   ·exact .inr ⟨x,by simp,rfl⟩
   ·exact .inr ⟨y,by simp [hy],rfl⟩
  ·rintro (h|⟨y,hy,rfl⟩)
   ·exact .inl (.inl h)
   ·rcases List.mem_cons.1 hy with rfl|hy
    ·exact .inl (.inr rfl)
    ·exact .inr ⟨y,hy,rfl⟩
theorem zE4 (l:List (Ty.El zA)):(zOk l).Pairwise plt:=(zLk l [] List.Pairwise.nil).1
theorem zDd (l:List (Ty.El zA)) (p:Ty.El zF):p∈zOk l↔ ∃x,x∈l∧x.1=p:=by
 have:=(zLk l [] List.Pairwise.nil).2 p
 rw [show zOk l=l.foldl (fun acc x=>zEG zMG zCd x.1 acc) [] from rfl,this]
 simp
def hlt (a b:Ty.El jJ):Prop:=zDe a.1 a.2.1 b.1 b.2.1
theorem zIg:Ord hlt where
 asym:=fun x y h=>by unfold hlt zDe at*;omega
 tr:=fun x y z h1 h2=>by unfold hlt zDe at*;omega
theorem zUL {p q:Ty.El jJ} (h: ¬hlt q p) (hne:p≠q):hlt p q:=by
 refine zSw h (fun e=>hne ?_)
 obtain ⟨a,b,⟨⟩⟩:=p
 obtain ⟨c,d,⟨⟩⟩:=q
 obtain ⟨rfl,rfl⟩:=e
 rfl
def zWY (a b:Ty.El jJ):Bool:=decide (zIA a.1 a.2.1 b.1 b.2.1<0)
theorem zUM {a b:Ty.El jJ} :zWY a b=true↔hlt a b:=by
 unfold zWY;rw [decide_eq_true_eq];exact zOT
def zMT (a b:Ty.El jJ):Bool:=a.1==b.1&&(a.2.1==b.2.1&&true)
def zEe (l:List (Ty.El jJ)) (h:Ty.El jJ):List (Ty.El jJ):=zEG zWY zMT h l
end Go.Ve

namespace Go.Ve
open Go
set_option maxRecDepth 1000000
set_option maxHeartbeats 4000000
def zM5 (x:Ty.El zA) (b:Option (Ty.El zA)):Bool:=
 match b with
 |none=>true
 |some y=>decide (uW x y<0)
def zFp (p:Ty.El zF) (b:Option (Ty.El zA)) (x:Ty.El zA):Option (Ty.El zA):=
 bif zCd x.1 p&&zM5 x b then some x else b
def zBc (l:List (Ty.El zA)) (p:Ty.El zF):Option (Ty.El zA):=l.foldl (zFp p) none
def yD (p:Ty.El zF) (b:Ty.El zA) (hs:List (Ty.El jJ)) (x:Ty.El zA):List (Ty.El jJ):=
 bif zCd x.1 p&&(uW x b==0) then x.2.2.2.2.2.2.2.2.2.2.2.1.foldl zEe hs else hs
def zCj (l:List (Ty.El zA)) (p:Ty.El zF) (b:Ty.El zA):List (Ty.El jJ):=l.foldl (yD p b) []
def zSp (b:Ty.El zA) (hs:List (Ty.El jJ)):Ty.El zA:=
 ((b.1.1,b.1.2.1,()),b.2.1,b.2.2.1,b.2.2.2.1,b.2.2.2.2.1,b.2.2.2.2.2.1,b.2.2.2.2.2.2.1,b.2.2.2.2.2.2.2.1,b.2.2.2.2.2.2.2.2.1,b.2.2.2.2.2.2.2.2.2.1,b.2.2.2.2.2.2.2.2.2.2.1,hs,b.2.2.2.2.2.2.2.2.2.2.2.2.1,())
def mrg (l:List (Ty.El zA)) (p:Ty.El zF):Option (Ty.El zA):=(zBc l p).map (fun b=>zSp b (zCj l p b))
def vC (l:List (Ty.El zA)):List (Ty.El zA):=(zOk l).filterMap (mrg l)
theorem zMp {p:Ty.El zF} {b:Option (Ty.El zA)} {x:Ty.El zA} (h:b.isSome=true∨x.1=p):(zFp p b x).isSome=true:=by
 unfold zFp
 cases b with
 |none=>
  rcases h with h|h
  ·cases h
  ·rw [xN.2 h];rfl
 |some y=>cases zCd x.1 p&&zM5 x (some y)<;>rfl
theorem zGs {p:Ty.El zF} : ∀ (l:List (Ty.El zA)) (b:Option (Ty.El zA)),(b.isSome=true∨ ∃x,x∈l∧x.1=p)→(l.foldl (zFp p) b).isSome=true
 |[],b,h=>by
  rcases h with h|⟨x,hx,_⟩
  ·exact h
  ·cases hx
 |x::l,b,h=>by
  rw [List.foldl_cons]
  refine zGs l _ ?_
  rcases h with h|⟨y,hy,hp⟩
  ·exact .inl (zMp (.inl h))
  ·rcases List.mem_cons.1 hy with rfl|hy
   ·exact .inl (zMp (.inr hp))
   ·exact .inr ⟨y,hy,hp⟩
theorem zTK {l:List (Ty.El zA)} {p:Ty.El zF} (h:p∈zOk l): ∃b,zBc l p=some b:=
 Option.isSome_iff_exists.1 (zGs l none (.inr ((zDd l p).1 h)))
end Go.Ve

namespace Go.Ve
open Go
set_option maxRecDepth 1000000
set_option maxHeartbeats 4000000
theorem zKs {β:Type} {f:Nat→Option β} (i:Nat):(List.range (i+1)).filterMap f=(List.range i).filterMap f++(f i).toList:=by
 rw [List.range_succ,List.filterMap_append,List.filterMap_cons,List.filterMap_nil]
 cases f i<;>rfl
theorem zPK {xs ys:List (Ty.El zA)} (hp:xs.Perm ys) (hs:xs.Pairwise (fun x y=> ¬rlt y x)) (ha:ys.Pairwise (fun x y=>x.1≠y.1)):xs.Pairwise rlt:=by
 have h2:xs.Pairwise (fun x y=>x.1≠y.1):=hp.symm.pairwise ha (fun h=>h.symm)
 exact (hs.and h2).imp (fun h=>zOl h.1 h.2)
end Go.Ve

namespace Go.Ve
open Go
set_option maxRecDepth 1000000
set_option maxHeartbeats 4000000
theorem zQE {p:Ty.El zF} {b:Ty.El zA} : ∀ (l:List (Ty.El zA)) (c:Option (Ty.El zA)),l.foldl (zFp p) c=some b→c=some b∨(b∈l∧b.1=p)
 |[],c,h=> .inl h
 |x::l,c,h=>by
  rw [List.foldl_cons] at h
  rcases zQE l _ h with h|⟨h1,h2⟩
  ·unfold zFp at h
   cases hc:zCd x.1 p&&zM5 x c with
   |true=>
    rw [hc,cond_true] at h
    cases h
    simp only [Bool.and_eq_true] at hc
    exact .inr ⟨by simp,xN.1 hc.1⟩
   |false=>rw [hc,cond_false] at h;exact .inl h
  ·exact .inr ⟨List.mem_cons_of_mem _ h1,h2⟩
theorem zQD {l:List (Ty.El zA)} {p:Ty.El zF} {b:Ty.El zA} (h:zBc l p=some b):b∈l∧b.1=p:=by
 rcases zQE l none h with h|h
 ·cases h
 ·exact h
theorem zDU {l:List (Ty.El zA)} {p:Ty.El zF} {z:Ty.El zA} (h:mrg l p=some z):z.1=p:=by
 unfold mrg at h
 cases hb:zBc l p with
 |none=>rw [hb] at h;cases h
 |some b=>rw [hb] at h;cases h;exact (zQD hb).2
theorem zGn (l:List (Ty.El zA)):(vC l).Pairwise rlt:=by
 unfold vC
 refine List.Pairwise.filterMap _ ?_ (zE4 l)
 intro p q hpq y hy z hz
 unfold rlt
 rw [zDU hy,zDU hz]
 exact hpq
end Go.Ve

namespace Go.Ve
open Go
set_option maxHeartbeats 4000000
section
variable {α:Type}
def swF (a b n:Nat) (xs:List α) (k:Nat):Option α:=
 if a≤k∧k<a+n then xs[b+(k-a)]? else if b≤k∧k<b+n then xs[a+(k-b)]? else xs[k]?
def kS (lo m hi:Nat) (xs:List α) (k:Nat):Option α:=
 if lo≤k∧k<lo+(hi-m) then xs[k+(m-lo)]? else if lo+(hi-m)≤k∧k<hi then xs[k- (hi-m)]? else xs[k]?
theorem zTZ {a b:Nat} {xs:List α} {k:Nat} :swF a b 0 xs k=xs[k]? :=by
 unfold swF
 rw [if_neg (by omega),if_neg (by omega)]
theorem zT0 {a b n:Nat} {xs zs:List α} (hab:a+n<b) (hb:b+n<xs.length) (hl:zs.length=xs.length) (h: ∀k,zs[k]? =swF a b n xs k) {x y:α} (hx:zs[a+n]? =some x) (hy:zs[b+n]? =some y):
  ∀k,((zs.set (a+n) y).set (b+n) x)[k]? =swF a b (n+1) xs k:=by
 intro k
 have h1:=h (a+n)
 have h2:=h (b+n)
 unfold swF at h1 h2
 rw [if_neg (by omega),if_neg (by omega),hx] at h1
 rw [if_neg (by omega),if_neg (by omega),hy] at h2
 unfold swF
 by_cases e1:k=b+n
 ·subst e1
  rw [List.getElem?_set_self (by rw [List.length_set];omega),if_neg (by omega),if_pos (by omega),h1]
  congr 1;omega
 ·rw [List.getElem?_set_ne (by omega)]
  by_cases e2:k=a+n
  ·subst e2
   rw [List.getElem?_set_self (by omega),if_pos (by omega),h2]
   congr 1;omega
  ·rw [List.getElem?_set_ne (by omega),h k]
   unfold swF
   by_cases c1:a≤k∧k<a+n
   ·rw [if_pos c1,if_pos (by omega)]
   ·rw [if_neg c1]
    by_cases c2:b≤k∧k<b+n
    ·rw [if_pos c2,if_neg (by omega),if_pos (by omega)]
    ·rw [if_neg c2,if_neg (by omega),if_neg (by omega)]
theorem xG {xs:List α} {i j:Nat} (h:i=j):xs[i]? =xs[j]? :=by rw [h]
theorem zUg {lo m hi:Nat} {xs zs:List α} (h1:lo<m) (h2:m<hi) (hij:hi-m<m-lo) (h: ∀k,zs[k]? =swF lo m (hi-m) xs k) (k:Nat):kS (lo+(hi-m)) m hi zs k=kS lo m hi xs k:=by
 unfold kS
 rw [h,h,h]
 unfold swF
 repeat' split
 all_goals first
  |rfl
  |exact xG (by omega)
  |(exfalso;omega)
theorem zS5 {lo m hi:Nat} {xs zs:List α} (h1:lo<m) (h2:m<hi) (hij:m-lo<hi-m) (h: ∀k,zs[k]? =swF lo (hi- (m-lo)) (m-lo) xs k) (k:Nat):kS lo m (hi- (m-lo)) zs k=kS lo m hi xs k:=by
 unfold kS
 rw [h,h,h]
 unfold swF
 repeat' split
 all_goals first
  |rfl
  |exact xG (by omega)
  |(exfalso;omega)
theorem zUh {lo m hi:Nat} {xs zs:List α} (h1:lo≤m) (h2:m≤hi) (hij:m-lo=hi-m) (h: ∀k,zs[k]? =swF lo m (m-lo) xs k) (k:Nat):zs[k]? =kS lo m hi xs k:=by
 rw [h]
 unfold kS swF
 repeat' split
 all_goals first
  |rfl
  |exact xG (by omega)
  |(exfalso;omega)
end
end Go.Ve

namespace Go.Ve
open Go
set_option maxRecDepth 1000000
set_option linter.unusedVariables false
noncomputable def yC {α:Type} (cmp:α×α×Unit→Option Int):List α→(Int×Int×Unit×Unit)→Option (List α×Unit):=fun a0 x=>match x with
 |(a1,a2,(),())=>
  zR
   (fun (s157:Int×List (α))=>
    bif decide (s157.1<a2) then
     Option.bind
      (zR
       (fun (s158:Int×List (α))=>
        Option.bind
         (bif decide (s158.1>a1) then
          Option.bind (idx s158.2 s158.1) fun (y159:α)=>
           Option.bind (atN s158.2 (Int.toNat s158.1)) fun (y160:α)=>
            Option.bind (idx s158.2 (IntKind.wrap IntKind.i64 (s158.1- (1:Int)))) fun (y161:α)=>
             Option.bind (atN s158.2 (Int.toNat (IntKind.wrap IntKind.i64 (s158.1- (1:Int))))) fun (y162:α)=>
              Option.bind (cmp (y160,y162,())) fun (y163:Int)=>some (decide (y163< (0:Int)),s158.2)
         else some (false,s158.2))
         fun (s164:Bool×List (α))=>
         bif s164.1 then
          Option.bind (idx s164.2 (IntKind.wrap IntKind.i64 (s158.1- (1:Int)))) fun (y165:α)=>
           Option.bind (atN s164.2 (Int.toNat (IntKind.wrap IntKind.i64 (s158.1- (1:Int))))) fun (y166:α)=>
            Option.bind (idx s164.2 s158.1) fun (y167:α)=>
             Option.bind (atN s164.2 (Int.toNat s158.1)) fun (y168:α)=>
              Option.bind (idx s164.2 s158.1) fun (y169:α)=>
               Option.bind (atN s164.2 (Int.toNat s158.1)) fun (y170:α)=>
                Option.bind (idx (List.set s164.2 (Int.toNat s158.1) y166) (IntKind.wrap IntKind.i64 (s158.1- (1:Int)))) fun (y171:α)=>
                 Option.bind (atN (List.set s164.2 (Int.toNat s158.1) y166) (Int.toNat (IntKind.wrap IntKind.i64 (s158.1- (1:Int)))))
                  fun (y172:α)=>
                  some
                   (Sum.inl
                    (IntKind.wrap IntKind.i64 (s158.1- (1:Int)),
                     List.set (List.set s164.2 (Int.toNat s158.1) y166) (Int.toNat (IntKind.wrap IntKind.i64 (s158.1- (1:Int)))) y168))
         else some (Sum.inr s164.2))
       s157)
      fun (s173:List (α))=>some (Sum.inl (IntKind.wrap IntKind.i64 (s157.1+(1:Int)),s173))
    else Option.map (fun (r:List (α)×Unit)=>Sum.inr r) (bif Nat.beq (List.length s157.2) (List.length a0) then some (s157.2,()) else none))
   (IntKind.wrap IntKind.i64 (a1+(1:Int)),a0)
noncomputable def zB5 {α:Type} (cmp:α×α×Unit→Option Int):List α→(Int×Int×Int×Unit×Unit)→Option (List α×Unit):=fun a0 x=>match x with
 |(a1,a2,a3,(),())=>
  zR
   (fun (s17:Int×List (α))=>
    bif decide (s17.1<a3) then
     Option.bind (idx s17.2 (IntKind.wrap IntKind.i64 (a2+s17.1))) fun (y18:α)=>
      Option.bind (atN s17.2 (Int.toNat (IntKind.wrap IntKind.i64 (a2+s17.1)))) fun (y19:α)=>
       Option.bind (idx s17.2 (IntKind.wrap IntKind.i64 (a1+s17.1))) fun (y20:α)=>
        Option.bind (atN s17.2 (Int.toNat (IntKind.wrap IntKind.i64 (a1+s17.1)))) fun (y21:α)=>
         Option.bind (idx s17.2 (IntKind.wrap IntKind.i64 (a1+s17.1))) fun (y22:α)=>
          Option.bind (atN s17.2 (Int.toNat (IntKind.wrap IntKind.i64 (a1+s17.1)))) fun (y23:α)=>
           Option.bind (idx (List.set s17.2 (Int.toNat (IntKind.wrap IntKind.i64 (a1+s17.1))) y19) (IntKind.wrap IntKind.i64 (a2+s17.1)))
            fun (y24:α)=>
            Option.bind (atN (List.set s17.2 (Int.toNat (IntKind.wrap IntKind.i64 (a1+s17.1))) y19) (Int.toNat (IntKind.wrap IntKind.i64 (a2+s17.1))))
             fun (y25:α)=>
             some
              (Sum.inl
               (IntKind.wrap IntKind.i64 (s17.1+(1:Int)),
                List.set (List.set s17.2 (Int.toNat (IntKind.wrap IntKind.i64 (a1+s17.1))) y19) (Int.toNat (IntKind.wrap IntKind.i64 (a2+s17.1))) y21))
    else Option.map (fun (r:List (α)×Unit)=>Sum.inr r) (bif Nat.beq (List.length s17.2) (List.length a0) then some (s17.2,()) else none))
   ((0:Int),a0)
noncomputable def zOg {α:Type} (cmp:α×α×Unit→Option Int):List α→(Int×Int×Int×Unit×Unit)→Option (List α×Unit):=fun a0 x=>match x with
 |(a1,a2,a3,(),())=>
  Option.bind
   (zR
    (fun (s6:Int×Int×List (α))=>
     bif s6.1 !=s6.2.1 then
      bif decide (s6.1>s6.2.1) then
       bif Nat.beq (List.length s6.2.2) (List.length s6.2.2) then
        Option.bind (zB5 cmp s6.2.2 (IntKind.wrap IntKind.i64 (a2-s6.1),a2,s6.2.1,(),())) fun (y7:List (α)×Unit)=>
         some (Sum.inl (IntKind.wrap IntKind.i64 (s6.1-s6.2.1),s6.2.1,y7.1))
       else none
      else
       bif Nat.beq (List.length s6.2.2) (List.length s6.2.2) then
        Option.bind
         (zB5 cmp s6.2.2
          (IntKind.wrap IntKind.i64 (a2-s6.1),IntKind.wrap IntKind.i64 (IntKind.wrap IntKind.i64 (a2+s6.2.1) -s6.1),s6.1,(),()))
         fun (y8:List (α)×Unit)=>some (Sum.inl (s6.1,IntKind.wrap IntKind.i64 (s6.2.1-s6.1),y8.1))
       else none
     else some (Sum.inr (s6.2.2,s6.1)))
    (IntKind.wrap IntKind.i64 (a2-a1),IntKind.wrap IntKind.i64 (a3-a2),a0))
   fun (s9:List (α)×Int)=>
   bif Nat.beq (List.length s9.1) (List.length s9.1) then
    Option.bind (zB5 cmp s9.1 (IntKind.wrap IntKind.i64 (a2-s9.2),a2,s9.2,(),())) fun (y10:List (α)×Unit)=>
     bif Nat.beq (List.length y10.1) (List.length a0) then some (y10.1,()) else none
   else none
noncomputable def zEV {α:Type} (cmp:α×α×Unit→Option Int) (self:List α→(Int×Int×Int×Unit×Unit)→Option (List α×Unit)):List α→(Int×Int×Int×Unit×Unit)→Option (List α×Unit):=fun a0 x=>match x with
 |(a1,a2,a3,(),())=>
  jP
   (bif IntKind.wrap IntKind.i64 (a2-a1)==(1:Int) then
    Option.bind
     (zR
      (fun (s50:Int×Int×List (α))=>
       bif decide (s50.1<s50.2.1) then
        Option.bind
         (idx s50.2.2
          (IntKind.wrap IntKind.i64
           (Int.fdiv (IntKind.wrap IntKind.u64 (IntKind.wrap IntKind.i64 (s50.1+s50.2.1))) ((2:Int)^min (Int.toNat (1:Int)) (IntKind.bits IntKind.u64)))))
         fun (y51:α)=>
         Option.bind
          (atN s50.2.2
           (Int.toNat
            (IntKind.wrap IntKind.i64
             (Int.fdiv (IntKind.wrap IntKind.u64 (IntKind.wrap IntKind.i64 (s50.1+s50.2.1))) ((2:Int)^min (Int.toNat (1:Int)) (IntKind.bits IntKind.u64))))))
          fun (y52:α)=>
          Option.bind (idx s50.2.2 a1) fun (y53:α)=>
           Option.bind (atN s50.2.2 (Int.toNat a1)) fun (y54:α)=>
            Option.bind (cmp (y52,y54,())) fun (y55:Int)=>
             bif decide (y55< (0:Int)) then
              some
               (Sum.inl
                (IntKind.wrap IntKind.i64
                  (IntKind.wrap IntKind.i64
                    (Int.fdiv (IntKind.wrap IntKind.u64 (IntKind.wrap IntKind.i64 (s50.1+s50.2.1)))
                     ((2:Int)^min (Int.toNat (1:Int)) (IntKind.bits IntKind.u64)))+
                   (1:Int)),
                 s50.2))
             else
              some
               (Sum.inl
                (s50.1,
                 IntKind.wrap IntKind.i64
                  (Int.fdiv (IntKind.wrap IntKind.u64 (IntKind.wrap IntKind.i64 (s50.1+s50.2.1)))
                   ((2:Int)^min (Int.toNat (1:Int)) (IntKind.bits IntKind.u64))),
                 s50.2.2))
       else some (Sum.inr (s50.1,s50.2.2)))
      (a2,a3,a0))
     fun (s56:Int×List (α))=>
     zR
      (fun (s57:Int×List (α))=>
       bif decide (s57.1<IntKind.wrap IntKind.i64 (s56.1- (1:Int))) then
        Option.bind (idx s57.2 (IntKind.wrap IntKind.i64 (s57.1+(1:Int)))) fun (y58:α)=>
         Option.bind (atN s57.2 (Int.toNat (IntKind.wrap IntKind.i64 (s57.1+(1:Int))))) fun (y59:α)=>
          Option.bind (idx s57.2 s57.1) fun (y60:α)=>
           Option.bind (atN s57.2 (Int.toNat s57.1)) fun (y61:α)=>
            Option.bind (idx s57.2 s57.1) fun (y62:α)=>
             Option.bind (atN s57.2 (Int.toNat s57.1)) fun (y63:α)=>
              Option.bind (idx (List.set s57.2 (Int.toNat s57.1) y59) (IntKind.wrap IntKind.i64 (s57.1+(1:Int)))) fun (y64:α)=>
               Option.bind (atN (List.set s57.2 (Int.toNat s57.1) y59) (Int.toNat (IntKind.wrap IntKind.i64 (s57.1+(1:Int))))) fun (y65:α)=>
                some
                 (Sum.inl
                  (IntKind.wrap IntKind.i64 (s57.1+(1:Int)),
                   List.set (List.set s57.2 (Int.toNat s57.1) y59) (Int.toNat (IntKind.wrap IntKind.i64 (s57.1+(1:Int)))) y61))
       else
        Option.map (fun (r:List (α) ⊕ List (α)×Unit)=>Sum.inr r)
         (Option.map (fun (r:List (α)×Unit)=>Sum.inr r) (bif Nat.beq (List.length s57.2) (List.length a0) then some (s57.2,()) else none)))
      (a1,s56.2)
   else some (Sum.inl a0))
   fun (s66:List (α))=>
   jP
    (bif IntKind.wrap IntKind.i64 (a3-a2)==(1:Int) then
     Option.bind
      (zR
       (fun (s117:Int×Int×List (α))=>
        bif decide (s117.1<s117.2.1) then
         Option.bind (idx s117.2.2 a2) fun (y118:α)=>
          Option.bind (atN s117.2.2 (Int.toNat a2)) fun (y119:α)=>
           Option.bind
            (idx s117.2.2
             (IntKind.wrap IntKind.i64
              (Int.fdiv (IntKind.wrap IntKind.u64 (IntKind.wrap IntKind.i64 (s117.1+s117.2.1)))
               ((2:Int)^min (Int.toNat (1:Int)) (IntKind.bits IntKind.u64)))))
            fun (y120:α)=>
            Option.bind
             (atN s117.2.2
              (Int.toNat
               (IntKind.wrap IntKind.i64
                (Int.fdiv (IntKind.wrap IntKind.u64 (IntKind.wrap IntKind.i64 (s117.1+s117.2.1)))
                 ((2:Int)^min (Int.toNat (1:Int)) (IntKind.bits IntKind.u64))))))
             fun (y121:α)=>
             Option.bind (cmp (y119,y121,())) fun (y122:Int)=>
              bif !decide (y122< (0:Int)) then
               some
                (Sum.inl
                 (IntKind.wrap IntKind.i64
                   (IntKind.wrap IntKind.i64
                     (Int.fdiv (IntKind.wrap IntKind.u64 (IntKind.wrap IntKind.i64 (s117.1+s117.2.1)))
                      ((2:Int)^min (Int.toNat (1:Int)) (IntKind.bits IntKind.u64)))+
                    (1:Int)),
                  s117.2))
              else
               some
                (Sum.inl
                 (s117.1,
                  IntKind.wrap IntKind.i64
                   (Int.fdiv (IntKind.wrap IntKind.u64 (IntKind.wrap IntKind.i64 (s117.1+s117.2.1)))
                    ((2:Int)^min (Int.toNat (1:Int)) (IntKind.bits IntKind.u64))),
                  s117.2.2))
        else some (Sum.inr (s117.1,s117.2.2)))
       (a1,a2,s66))
      fun (s123:Int×List (α))=>
      zR
       (fun (s124:Int×List (α))=>
        bif decide (s124.1>s123.1) then
         Option.bind (idx s124.2 (IntKind.wrap IntKind.i64 (s124.1- (1:Int)))) fun (y125:α)=>
          Option.bind (atN s124.2 (Int.toNat (IntKind.wrap IntKind.i64 (s124.1- (1:Int))))) fun (y126:α)=>
           Option.bind (idx s124.2 s124.1) fun (y127:α)=>
            Option.bind (atN s124.2 (Int.toNat s124.1)) fun (y128:α)=>
             Option.bind (idx s124.2 s124.1) fun (y129:α)=>
              Option.bind (atN s124.2 (Int.toNat s124.1)) fun (y130:α)=>
               Option.bind (idx (List.set s124.2 (Int.toNat s124.1) y126) (IntKind.wrap IntKind.i64 (s124.1- (1:Int)))) fun (y131:α)=>
                Option.bind (atN (List.set s124.2 (Int.toNat s124.1) y126) (Int.toNat (IntKind.wrap IntKind.i64 (s124.1- (1:Int)))))
                 fun (y132:α)=>
                 some
                  (Sum.inl
                   (IntKind.wrap IntKind.i64 (s124.1- (1:Int)),
                    List.set (List.set s124.2 (Int.toNat s124.1) y126) (Int.toNat (IntKind.wrap IntKind.i64 (s124.1- (1:Int)))) y128))
        else
         Option.map (fun (r:List (α) ⊕ List (α)×Unit)=>Sum.inr r)
          (Option.map (fun (r:List (α)×Unit)=>Sum.inr r) (bif Nat.beq (List.length s124.2) (List.length a0) then some (s124.2,()) else none)))
       (a2,s123.2)
    else some (Sum.inl s66))
    fun (s133:List (α))=>
    Option.bind
     (bif
       decide
        (a2>
         IntKind.wrap IntKind.i64
          (Int.fdiv (IntKind.wrap IntKind.u64 (IntKind.wrap IntKind.i64 (a1+a3))) ((2:Int)^min (Int.toNat (1:Int)) (IntKind.bits IntKind.u64)))) then
      some
       (IntKind.wrap IntKind.i64
         (IntKind.wrap IntKind.i64
           (IntKind.wrap IntKind.i64
             (Int.fdiv (IntKind.wrap IntKind.u64 (IntKind.wrap IntKind.i64 (a1+a3))) ((2:Int)^min (Int.toNat (1:Int)) (IntKind.bits IntKind.u64)))+
            a2) -
          a3),
        IntKind.wrap IntKind.i64 (Int.fdiv (IntKind.wrap IntKind.u64 (IntKind.wrap IntKind.i64 (a1+a3))) ((2:Int)^min (Int.toNat (1:Int)) (IntKind.bits IntKind.u64))),
        s133)
     else some (a1,a2,s133))
     fun (s134:Int×Int×List (α))=>
     Option.bind
      (zR
       (fun (s152:Int×Int×List (α))=>
        bif decide (s152.1<s152.2.1) then
         Option.bind
          (idx s152.2.2
           (IntKind.wrap IntKind.i64
            (IntKind.wrap IntKind.i64
              (IntKind.wrap IntKind.i64
                (IntKind.wrap IntKind.i64
                  (Int.fdiv (IntKind.wrap IntKind.u64 (IntKind.wrap IntKind.i64 (a1+a3))) ((2:Int)^min (Int.toNat (1:Int)) (IntKind.bits IntKind.u64)))+
                 a2) -
               (1:Int)) -
             IntKind.wrap IntKind.i64
              (Int.fdiv (IntKind.wrap IntKind.u64 (IntKind.wrap IntKind.i64 (s152.1+s152.2.1)))
               ((2:Int)^min (Int.toNat (1:Int)) (IntKind.bits IntKind.u64))))))
          fun (y153:α)=>
          Option.bind
           (atN s152.2.2
            (Int.toNat
             (IntKind.wrap IntKind.i64
              (IntKind.wrap IntKind.i64
                (IntKind.wrap IntKind.i64
                  (IntKind.wrap IntKind.i64
                    (Int.fdiv (IntKind.wrap IntKind.u64 (IntKind.wrap IntKind.i64 (a1+a3))) ((2:Int)^min (Int.toNat (1:Int)) (IntKind.bits IntKind.u64)))+
                   a2) -
                 (1:Int)) -
               IntKind.wrap IntKind.i64
                (Int.fdiv (IntKind.wrap IntKind.u64 (IntKind.wrap IntKind.i64 (s152.1+s152.2.1)))
                 ((2:Int)^min (Int.toNat (1:Int)) (IntKind.bits IntKind.u64)))))))
           fun (y154:α)=>
           Option.bind
            (idx s152.2.2
             (IntKind.wrap IntKind.i64
              (Int.fdiv (IntKind.wrap IntKind.u64 (IntKind.wrap IntKind.i64 (s152.1+s152.2.1)))
               ((2:Int)^min (Int.toNat (1:Int)) (IntKind.bits IntKind.u64)))))
            fun (y155:α)=>
            Option.bind
             (atN s152.2.2
              (Int.toNat
               (IntKind.wrap IntKind.i64
                (Int.fdiv (IntKind.wrap IntKind.u64 (IntKind.wrap IntKind.i64 (s152.1+s152.2.1)))
                 ((2:Int)^min (Int.toNat (1:Int)) (IntKind.bits IntKind.u64))))))
             fun (y156:α)=>
             Option.bind (cmp (y154,y156,())) fun (y157:Int)=>
              bif !decide (y157< (0:Int)) then
               some
                (Sum.inl
                 (IntKind.wrap IntKind.i64
                   (IntKind.wrap IntKind.i64
                     (Int.fdiv (IntKind.wrap IntKind.u64 (IntKind.wrap IntKind.i64 (s152.1+s152.2.1)))
                      ((2:Int)^min (Int.toNat (1:Int)) (IntKind.bits IntKind.u64)))+
                    (1:Int)),
                  s152.2))
              else
               some
                (Sum.inl
                 (s152.1,
                  IntKind.wrap IntKind.i64
                   (Int.fdiv (IntKind.wrap IntKind.u64 (IntKind.wrap IntKind.i64 (s152.1+s152.2.1)))
                    ((2:Int)^min (Int.toNat (1:Int)) (IntKind.bits IntKind.u64))),
                  s152.2.2))
        else some (Sum.inr (s152.1,s152.2.2)))
       s134)
      fun (s158:Int×List (α))=>
      Option.bind
       (Option.bind
        (bif decide (s158.1<a2) then
         some
          (decide
            (a2<
             IntKind.wrap IntKind.i64
              (IntKind.wrap IntKind.i64
                (IntKind.wrap IntKind.i64
                  (Int.fdiv (IntKind.wrap IntKind.u64 (IntKind.wrap IntKind.i64 (a1+a3))) ((2:Int)^min (Int.toNat (1:Int)) (IntKind.bits IntKind.u64)))+
                 a2) -
               s158.1)),
           s158.2)
        else some (false,s158.2))
        fun (s161:Bool×List (α))=>
        bif s161.1 then
         bif Nat.beq (List.length s161.2) (List.length s161.2) then
          Option.bind
           (zOg cmp s161.2
            (s158.1,a2,
             IntKind.wrap IntKind.i64
              (IntKind.wrap IntKind.i64
                (IntKind.wrap IntKind.i64
                  (Int.fdiv (IntKind.wrap IntKind.u64 (IntKind.wrap IntKind.i64 (a1+a3))) ((2:Int)^min (Int.toNat (1:Int)) (IntKind.bits IntKind.u64)))+
                 a2) -
               s158.1),
             (),()))
           fun (y162:List (α)×Unit)=>some y162.1
         else none
        else some s161.2)
       fun (s163:List (α))=>
       Option.bind
        (Option.bind
         (bif decide (a1<s158.1) then
          some
           (decide
             (s158.1<
              IntKind.wrap IntKind.i64
               (Int.fdiv (IntKind.wrap IntKind.u64 (IntKind.wrap IntKind.i64 (a1+a3))) ((2:Int)^min (Int.toNat (1:Int)) (IntKind.bits IntKind.u64)))),
            s163)
         else some (false,s163))
         fun (s166:Bool×List (α))=>
         bif s166.1 then
          bif Nat.beq (List.length s166.2) (List.length s166.2) then
           Option.bind
            (self s166.2
             (a1,s158.1,
              IntKind.wrap IntKind.i64
               (Int.fdiv (IntKind.wrap IntKind.u64 (IntKind.wrap IntKind.i64 (a1+a3))) ((2:Int)^min (Int.toNat (1:Int)) (IntKind.bits IntKind.u64))),
              (),()))
            fun (y167:List (α)×Unit)=>some y167.1
          else none
         else some s166.2)
        fun (s168:List (α))=>
        Option.bind
         (bif
           decide
            (IntKind.wrap IntKind.i64
              (Int.fdiv (IntKind.wrap IntKind.u64 (IntKind.wrap IntKind.i64 (a1+a3))) ((2:Int)^min (Int.toNat (1:Int)) (IntKind.bits IntKind.u64)))<
             IntKind.wrap IntKind.i64
              (IntKind.wrap IntKind.i64
                (IntKind.wrap IntKind.i64
                  (Int.fdiv (IntKind.wrap IntKind.u64 (IntKind.wrap IntKind.i64 (a1+a3))) ((2:Int)^min (Int.toNat (1:Int)) (IntKind.bits IntKind.u64)))+
                 a2) -
               s158.1)) then
          some
           (decide
             (IntKind.wrap IntKind.i64
               (IntKind.wrap IntKind.i64
                 (IntKind.wrap IntKind.i64
                   (Int.fdiv (IntKind.wrap IntKind.u64 (IntKind.wrap IntKind.i64 (a1+a3))) ((2:Int)^min (Int.toNat (1:Int)) (IntKind.bits IntKind.u64)))+
                  a2) -
                s158.1)<
              a3),
            s168)
         else some (false,s168))
         fun (s169:Bool×List (α))=>
         bif s169.1 then
          bif Nat.beq (List.length s169.2) (List.length s169.2) then
           Option.bind
            (self s169.2
             (IntKind.wrap IntKind.i64
               (Int.fdiv (IntKind.wrap IntKind.u64 (IntKind.wrap IntKind.i64 (a1+a3))) ((2:Int)^min (Int.toNat (1:Int)) (IntKind.bits IntKind.u64))),
              IntKind.wrap IntKind.i64
               (IntKind.wrap IntKind.i64
                 (IntKind.wrap IntKind.i64
                   (Int.fdiv (IntKind.wrap IntKind.u64 (IntKind.wrap IntKind.i64 (a1+a3))) ((2:Int)^min (Int.toNat (1:Int)) (IntKind.bits IntKind.u64)))+
                  a2) -
                s158.1),
              a3,(),()))
            fun (y170:List (α)×Unit)=>bif Nat.beq (List.length y170.1) (List.length a0) then some (y170.1,()) else none
          else none
         else bif Nat.beq (List.length s169.2) (List.length a0) then some (s169.2,()) else none
noncomputable def zAe {α:Type} (cmp:α×α×Unit→Option Int):Nat→(List α→(Int×Int×Int×Unit×Unit)→Option (List α×Unit))
 |0=>fun _ _=>none
 |n+1=>zEV cmp (zAe cmp n)
noncomputable def zC8 {α:Type} (cmp:α×α×Unit→Option Int):List α→(Int×Int×Int×Unit×Unit)→Option (List α×Unit):=zAe cmp 1048576
noncomputable def zHC {α:Type} (cmp:α×α×Unit→Option Int):List α→(Int×Unit×Unit)→Option (List α×Unit):=fun a0 x=>match x with
 |(a1,(),())=>
  Option.bind
   (zR
    (fun (s4:Int×List (α)×Int)=>
     bif decide (s4.1≤a1) then
      bif Nat.beq (List.length s4.2.1) (List.length s4.2.1) then
       Option.bind (yC cmp s4.2.1 (s4.2.2,s4.1,(),())) fun (y5:List (α)×Unit)=>
        some (Sum.inl (IntKind.wrap IntKind.i64 (s4.1+(20:Int)),y5.1,s4.1))
      else none
     else some (Sum.inr s4.2))
    ((20:Int),a0,(0:Int)))
   fun (s6:List (α)×Int)=>
   bif Nat.beq (List.length s6.1) (List.length s6.1) then
    Option.bind (yC cmp s6.1 (s6.2,a1,(),())) fun (y7:List (α)×Unit)=>
     zR
      (fun (s30:Int×List (α))=>
       bif decide (s30.1<a1) then
        Option.bind
         (zR
          (fun (s31:Int×List (α)×Int)=>
           bif decide (s31.1≤a1) then
            bif Nat.beq (List.length s31.2.1) (List.length s31.2.1) then
             Option.bind (zC8 cmp s31.2.1 (s31.2.2,IntKind.wrap IntKind.i64 (s31.2.2+s30.1),s31.1,(),()))
              fun (y32:List (α)×Unit)=>
              some (Sum.inl (IntKind.wrap IntKind.i64 (s31.1+IntKind.wrap IntKind.i64 ((2:Int)*s30.1)),y32.1,s31.1))
            else none
           else some (Sum.inr (s31.2.2,s31.2.1)))
          (IntKind.wrap IntKind.i64 ((2:Int)*s30.1),s30.2,(0:Int)))
         fun (s33:Int×List (α))=>
         Option.bind
          (bif decide (IntKind.wrap IntKind.i64 (s33.1+s30.1)<a1) then
           bif Nat.beq (List.length s33.2) (List.length s33.2) then
            Option.bind (zC8 cmp s33.2 (s33.1,IntKind.wrap IntKind.i64 (s33.1+s30.1),a1,(),())) fun (y34:List (α)×Unit)=>
             some y34.1
           else none
          else some s33.2)
          fun (s35:List (α))=>some (Sum.inl (IntKind.wrap IntKind.i64 (s30.1*(2:Int)),s35))
       else Option.map (fun (r:List (α)×Unit)=>Sum.inr r) (bif Nat.beq (List.length s30.2) (List.length a0) then some (s30.2,()) else none))
      ((20:Int),y7.1)
   else none
noncomputable def zCB {α:Type} (cmp:α×α×Unit→Option Int):List α→(Unit×Unit)→Option (List α×Unit):=fun a0 x=>match x with
 |((),())=>
  bif Nat.beq (List.length a0) (List.length a0)&&Nat.beq (List.length a0) (List.length a0) then
   Option.bind (zHC cmp a0 ((↑(List.length a0):Int),(),())) fun (y0:List (α)×Unit)=>
    bif Nat.beq (List.length y0.1) (List.length a0) then some (y0.1,()) else none
  else none
end Go.Ve
