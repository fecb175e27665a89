/-
  Sorting by the kit's contract: the contract over typed data.
  Functions out of code: merging of routes, tables of distance-vector routing.
  Plain laws: comparisons put together; the order of hops; preference of routes of one protocol.
  The law as a function: law17_DistBetter.
-/
import Derived.Shelf.SlSortCmp.WholeK
import Derived.Test.YtcnlcmbchljpgaaGreatQb14
import Derived.Test.YtcnlcmbchljpgaaGreatQb11
import Derived.Test.YtcnlcmbchljpgaaGreatQb13
set_option linter.unusedVariables false
namespace Go.Ve
open Go Go.Proofs Go.Sort Go.Shelf
def srt {α:Type} [Inhabited α] (cf:α→α→Int) (xs:List α):List α:=(pdq (ltOf cf) xs.toArray 0 xs.length (Lib.bitLen xs.length) true true).toList
theorem zPm {α:Type} [Inhabited α] {cf:α→α→Int} (hO:SWO (ltOf cf)) (xs:List α):(srt cf xs).Perm xs∧(srt cf xs).length=xs.length∧ ∀ (i j:Nat) x y,i<j→(srt cf xs)[i]? =some x→(srt cf xs)[j]? =some y→ltOf cf y x=false:=by
 have h:=pdq_sorts (ltOf cf) hO xs.toArray 0 xs.toArray.size (Lib.bitLen xs.toArray.size) true true (Nat.zero_le _) (Nat.le_refl _) (Or.inl rfl)
 obtain ⟨⟨h1,_,h3⟩,h4⟩:=h
 have hs:(srt cf xs).length=xs.length:=by unfold srt;simpa using h1
 refine ⟨?_,hs,?_⟩
 ·have e1:((pdq (ltOf cf) xs.toArray 0 xs.toArray.size (Lib.bitLen xs.toArray.size) true true).extract 0 xs.toArray.size).toList=srt cf xs:=by
   have hx: ∀ (A:Array α) (n:Nat),A.size=n→A.extract 0 n=A:=by rintro A n rfl;exact Array.extract_size
   unfold srt
   rw [hx _ _ h1]
   simp
  have e2:(xs.toArray.extract 0 xs.toArray.size).toList=xs:=by simp
  rw [e1,e2] at h3
  exact h3
 ·intro i j x y hij hx hy
  have hj:j<xs.toArray.size:=by
   have:=(List.getElem?_eq_some_iff.1 hy).1
   rw [hs] at this
   simpa using this
  have h5:=h4 i j (Nat.zero_le _) hij hj
  have gx: ∀ (k:Nat) (z:α),(srt cf xs)[k]? =some z→(pdq (ltOf cf) xs.toArray 0 xs.toArray.size (Lib.bitLen xs.toArray.size) true true)[k]! =z:=by
   intro k z hz
   have hz':(pdq (ltOf cf) xs.toArray 0 xs.toArray.size (Lib.bitLen xs.toArray.size) true true).toList[k]? =some z:=hz
   generalize pdq (ltOf cf) xs.toArray 0 xs.toArray.size (Lib.bitLen xs.toArray.size) true true=A at hz'
   rw [Array.getElem?_toList] at hz'
   obtain ⟨hk,he⟩:=Array.getElem?_eq_some_iff.1 hz'
   rw [getElem!_pos A k hk]
   exact he
  rw [gx i x hx,gx j y hy] at h5
  exact h5
theorem zWe {g:FuncId} {r:List V} {x:ElA [.clo g []]} (h:vX [.clo g []] r=some x):r=[.clo g []]:=by
 match r,h with
 |[],h=>cases h
 |d::ds,h=>
  simp only [vX] at h
  split at h
  ·rename_i y hy
   split at h
   ·rename_i ys hys
    have e2:ds=[]:=by
     match ds,hys with
     |[],_=>rfl
     |_::_,h=>cases h
    subst e2
    cases d with
    |clo g' cs=>
     simp only [ATy.dec] at hy
     split at hy
     ·rename_i hb
      have hg:g'=g:=Nat.eq_of_beq_eq_true hb
      subst hg
      match cs,hy with
      |[],_=>rfl
      |_::_,hy=>cases hy
     ·cases hy
    |_=>cases hy
   ·cases h
  ·cases h
theorem zLU {P:Program} {ρ:Ren} {f g:FuncId} {a b:Ty} [Inhabited (Ty.pair a b).El] (hfl:(Ty.pair a b).flat=true) (L:SlLaysF0.n6 P ρ) (hf:f=ρ.f 6) (aE: ∀w,(isAgg (ρ.t 24)).run P w= .ok true w) (zE: ∀w,(Go.sizeOf (ρ.t 24)).run P w= .ok (Ty.pair a b).size w)
  {c:ElS [.pair a b, .pair a b]→Option Int} {cf:(Ty.pair a b).El→(Ty.pair a b).El→Int} (hO:SWO (ltOf cf)) (eg: ∀args w,(callFunc g args).run P w= .ok (.enter g args) w)
  (hg:j7 jI P (fun _=>none) g (qG (jV [.pair a b, .pair a b] (.p (.int .i64)) c))) (hc: ∀x y,c (x,y,())=some (cf x y))
  (hnil:zAZ jI P (fun _=>none) f () (.pair a b) [] [.clo g []] () [] (.tup [])):
  zAp jI P (fun _=>none) f (.pair a b) (vX [.clo g []]) (.tu []) (fun xs _=>if xs.length<1099511627776 then some (if xs=[] then [] else srt cf xs,()) else none):=by
 intro s xs r x ys y hdec hg2
 have hr:=zWe hdec
 subst hr
 simp only at hg2
 split at hg2
 ·rename_i hl
  simp only [Option.some.injEq,Prod.mk.injEq] at hg2
  obtain ⟨rfl,_⟩:=hg2
  by_cases hx:xs=[]
  ·subst hx
   rw [if_pos rfl]
   exact hnil
  ·rw [if_neg hx]
   refine zAZ.of rfl ?_
   intro w F O blk v0 args hR hG hF hown hb hsz ha0 hrest
   have hxm:xs.map (Ty.pair a b).enc≠[]:=by simpa using hx
   rcases hown with ⟨h,_⟩|⟨_,_,cap,hv0,hrow⟩
   ·exact absurd h hxm
   simp only at hv0 hrow
   obtain ⟨hb1,hb2,hb3⟩:=hb hx
   match args,hsz with
   |⟨[u0,u1]⟩,_=>
    simp at ha0
    subst ha0
    have h1:=hrest 0 u1 (.clo g []) rfl rfl
    have hu1:u1= .func (.func g) #[] #[]:=by
     cases h1 with
     |clo f cs ds hl h=>
      have:cs= #[]:=Array.eq_empty_of_size_eq_zero (by simpa using hl)
      rw [this]
    subst hu1
    rw [hv0,List.length_map,hf]
    have hcall:=AnyQ.slices_SortFunc_eq L (Ty.pair a b).size aE zE (Ty.pair a b).vals (fun x=>zEN _ x hfl) (fun x v hv=>zO7 _ x v hv) cf hO g #[] blk 0 cap xs.toArray w eg (zRU hfl hg hc blk 0 xs.toArray.size w) (zNB hfl hrow) hb1 (by simp;omega)
    simp only [List.size_toArray] at hcall
    refine hcall.mono ?_
    rintro e w' ⟨rfl,n,os,rfl⟩
    have hsl:(srt cf xs).length=xs.length:=(zPm hO xs).2.1
    have hds:(pdq (ltOf cf) xs.toArray 0 xs.length (Lib.bitLen xs.length) true true).size=xs.length:=by
     have:=hsl
     unfold srt at this
     simpa using this
    refine ⟨.tuple #[],F,O,rfl,hR,⟨rfl,rfl,rfl,?_,?_,?_⟩,fun _ h=> .inl h,fun _ h=>h,fun c hc'=>⟨.inl hc',?_,(hF c hc').2⟩,zEf.of (.inr ⟨?_,trivial,cap,?_,?_⟩) (Rd.tup #[] [] rfl (fun i x d h=>by simp at h))⟩
    ·simp [sortWorldK,grow,putRowK,putRow,mapBlock,Sort.ahead]
    ·intro i hi hno
     exact zMq hi (fun h=>hno (.inr ⟨hx,h⟩)) _ _ _ _ _ _
    ·simp [sortWorldK,grow,putRowK,putRow,mapBlock,Sort.ahead]
    ·have:=(hF c hc').1
     simp [sortWorldK,grow,putRowK,putRow,mapBlock,Sort.ahead]
     omega
    ·intro h
     have:(srt cf xs).length=0:=by
      have:=congrArg List.length h
      simpa using this
     rw [hsl] at this
     exact hx (List.length_eq_zero_iff.1 this)
    ·rw [List.length_map,hsl]
    ·exact zLc hfl hrow hds
 ·cases hg2
end Go.Ve

namespace Go.Ve
open Go
set_option maxRecDepth 1000000
instance:Inhabited (Ty.El jJ):=⟨((0:Int),(0:Int),())⟩
def zI7 (a b:Ty.El jJ):Int:=zIA a.1 a.2.1 b.1 b.2.1
noncomputable def kF:List (Ty.El zA)→ElA [.clo 120 []]→Option (List (Ty.El zA)×RTy.El (.tu [])):=qE
noncomputable def vY:List (Ty.El jJ)→ElA [.clo 157 []]→Option (List (Ty.El jJ)×RTy.El (.tu [])):=fun xs _=>if xs.length<1099511627776 then some (if xs=[] then [] else srt zI7 xs,()) else none
noncomputable def kZ:List (Ty.El jJ)→ElA []→Option (List (Ty.El jJ)):=fun xs _=>if xs.length<1099511627776 then some (wM zMT xs) else none
noncomputable def v6:ElS [(.sl (.sl zA))]→Option (RTy.El (.p (.sl zA))):=fun x=>if (2*x.1.flatten.length+1024)*136≤140737488355328∧x.1.length≤1048576 then some x.1.flatten else none
noncomputable def uA:ElS [(.sl zA)]→Option (RTy.El (.o zA)):=fun x=>match x with|(a1,())=>Option.bind (app (136:Nat) [] a1) fun (z:List (Ty.El zA))=>some z
noncomputable def zLe:ElS [zA,zA]→Option (RTy.El (.p tI)):=fun x=>match x with|(a1,a2,())=>Option.bind (zAU (a1.1,a2.1,())) fun (y0:Int)=>some y0
noncomputable def zAb:ElS [(.sl tI)]→Option (RTy.El (.p tI)):=fun x=>match x with|(a1,())=>jP (zR (fun (s4:Int)=>bif decide (s4< (↑(List.length a1):Int)) then Option.bind (idx a1 s4) fun (y5:Int)=>bif y5 !=(0:Int) then some (Sum.inr (Sum.inr y5)) else some (Sum.inl (IntKind.wrap IntKind.i64 (s4+(1:Int)))) else some (Sum.inr (Sum.inl ()))) (0:Int)) fun (s6:Unit)=>some (0:Int)
noncomputable def zDJ:ElS [zA]→Option (RTy.El (.p tI)):=fun x=>match x with|(a1,())=>some (if (3:Int)<a1.2.2.1 then (3:Int) else a1.2.2.1)
noncomputable def uB:ElS [zA,zA]→Option (RTy.El (.p tI)):=fun x=>match x with|(a1,a2,())=>Option.bind (bif a1.2.1==(1:Int) then some (a1.2.1==(1:Int)) else some (a1.2.1==(2:Int))) fun (s0:Bool)=>bif s0 then Option.bind (zY (a1.2.2.2.1,a2.2.2.2.1,())) fun (y1:Int)=>some y1 else bif a1.2.1==(3:Int) then Option.bind (zY (a1.2.2.1,a2.2.2.1,())) fun (y7:Int)=>Option.bind (zY (a1.2.2.2.2.1,a2.2.2.2.2.1,())) fun (y8:Int)=>Option.bind (zY (a1.2.2.2.2.2.1,a2.2.2.2.2.2.1,())) fun (y9:Int)=>Option.bind (zY (a1.2.2.2.2.2.2.1,a2.2.2.2.2.2.2.1,())) fun (y10:Int)=>Option.bind (zAb ([y7,y8,y9,y10],())) fun (y11:Int)=>some y11 else bif a1.2.1==(4:Int) then Option.bind (zY (a1.2.2.2.2.1,a2.2.2.2.2.1,())) fun (y16:Int)=>Option.bind (zY (a1.2.2.1,a2.2.2.1,())) fun (y17:Int)=>Option.bind (zY (a1.2.2.2.2.2.2.1,a2.2.2.2.2.2.2.1,())) fun (y18:Int)=>Option.bind (zAb ([y16,y17,y18],())) fun (y19:Int)=>some y19 else bif a1.2.1==(5:Int) then Option.bind (zDJ (a1,())) fun (y29:Int)=>Option.bind (zDJ (a2,())) fun (y30:Int)=>Option.bind (zY (y29,y30,())) fun (y31:Int)=>Option.bind (zY (a2.2.2.2.2.2.2.2.1,a1.2.2.2.2.2.2.2.1,())) fun (y32:Int)=>Option.bind (zY ((↑(List.length a1.2.2.2.2.2.2.2.2.1):Int),(↑(List.length a2.2.2.2.2.2.2.2.2.1):Int),())) fun (y33:Int)=>Option.bind (zY (a1.2.2.2.2.1,a2.2.2.2.2.1,())) fun (y34:Int)=>Option.bind (zY (a1.2.2.1,a2.2.2.1,())) fun (y35:Int)=>Option.bind (wA (a1.2.2.2.2.2.2.2.2.2.1,a2.2.2.2.2.2.2.2.2.2.1,())) fun (y36:Int)=>Option.bind (zAb ([y31,y32,y33,y34,y35,y36],())) fun (y37:Int)=>some y37 else some (0:Int)
noncomputable def uS:ElS [jJ,jJ]→Option (RTy.El (.p tI)):=fun x=>match x with|(a1,a2,())=>Option.bind (zY (a1.1,a2.1,())) fun (y3:Int)=>Option.bind (wA (a1.2.1,a2.2.1,())) fun (y4:Int)=>Option.bind (zAb ([y3,y4],())) fun (y5:Int)=>some y5
noncomputable def zAz:ElS [(.sl zA)]→Option (RTy.El (.p zA)):=fun x=>match x with|(a1,())=>Option.bind (idx a1 (0:Int)) fun (y0:Ty.El zA)=>Option.bind (Option.bind (sub a1 (1:Int) (↑(List.length a1):Int)) fun (y12:List (Ty.El zA))=>zR (fun (s13:Int×Ty.El zA)=>bif decide (s13.1< (↑(List.length y12):Int)) then Option.bind (Option.bind (idx y12 s13.1) fun (y14:Ty.El zA)=>Option.bind (uB (y14,s13.2,())) fun (y15:Int)=>bif decide (y15< (0:Int)) then some y14 else some s13.2) fun (s16:Ty.El zA)=>some (Sum.inl (IntKind.wrap IntKind.i64 (s13.1+(1:Int)),s16)) else some (Sum.inr s13.2)) ((0:Int),y0)) fun (s17:Ty.El zA)=>Option.bind (zR (fun (s31:Int×List (Ty.El jJ))=>bif decide (s31.1< (↑(List.length a1):Int)) then Option.bind (Option.bind (idx a1 s31.1) fun (y32:Ty.El zA)=>Option.bind (uB (y32,s17,())) fun (y33:Int)=>bif y33==(0:Int) then Option.bind (app (16:Nat) s31.2 y32.2.2.2.2.2.2.2.2.2.2.2.1) fun (y34:List (Ty.El jJ))=>some y34 else some s31.2) fun (s35:List (Ty.El jJ))=>some (Sum.inl (IntKind.wrap IntKind.i64 (s31.1+(1:Int)),s35)) else some (Sum.inr s31.2)) ((0:Int),[])) fun (s36:List (Ty.El jJ))=>bif Nat.beq (List.length s36) (List.length s36) then Option.bind (vY s36 ((),())) fun (y37:List (Ty.El jJ)×Unit)=>Option.bind (kZ y37.1 ()) fun (y38:List (Ty.El jJ))=>Option.bind (yO (s17.2.2.2.2.2.2.2.2.1,())) fun (y39:List Int)=>some (s17.1,s17.2.1,s17.2.2.1,s17.2.2.2.1,s17.2.2.2.2.1,s17.2.2.2.2.2.1,s17.2.2.2.2.2.2.1,s17.2.2.2.2.2.2.2.1,y39,s17.2.2.2.2.2.2.2.2.2.1,s17.2.2.2.2.2.2.2.2.2.2.1,y38,s17.2.2.2.2.2.2.2.2.2.2.2.2) else none
noncomputable def zCD:ElS [(.sl zA)]→Option (RTy.El (.p (.sl zA))):=fun x=>match x with|(a1,())=>Option.bind (uA (a1,())) fun (y0:List (Ty.El zA))=>bif Nat.beq (List.length y0) (List.length y0)&&Nat.beq (List.length y0) (List.length y0) then Option.bind (kF y0 ((),())) fun (y1:List (Ty.El zA)×Unit)=>Option.bind (zR (fun (s38:Int×List (Ty.El zA))=>bif decide (s38.1< (↑(List.length y1.1):Int)) then Option.bind (zR (fun (s39:Int×List (Ty.El zA))=>Option.bind (bif decide (s39.1< (↑(List.length y1.1):Int)) then Option.bind (idx y1.1 s39.1) fun (y40:Ty.El zA)=>Option.bind (idx y1.1 s38.1) fun (y41:Ty.El zA)=>some (y40.1.1==y41.1.1&&(y40.1.2.1==y41.1.2.1&&true),s39.2) else some (false,s39.2)) fun (s42:Bool×List (Ty.El zA))=>bif s42.1 then some (Sum.inl (IntKind.wrap IntKind.i64 (s39.1+(1:Int)),s42.2)) else some (Sum.inr (s42.2,s39.1))) (IntKind.wrap IntKind.i64 (s38.1+(1:Int)),s38.2)) fun (s43:List (Ty.El zA)×Int)=>Option.bind (sub y1.1 s38.1 s43.2) fun (y44:List (Ty.El zA))=>Option.bind (zAz (y44,())) fun (y45:Ty.El zF×Int×Int×Int×Int×Int×Int×Int×List Int×Int×Int×List (Ty.El jJ)×Bool×Unit)=>Option.bind (app (136:Nat) s43.1 [y45]) fun (y46:List (Ty.El zA))=>some (Sum.inl (s43.2,y46)) else some (Sum.inr s38.2)) ((0:Int),[])) fun (s47:List (Ty.El zA))=>some s47 else none
noncomputable def yK:ElS [z6,tI]→Option (RTy.El (.p (.sl zA))):=fun x=>match x with|(a1,a2,())=>Option.bind (bif decide (a2< (0:Int)) then some true else some (decide (a2≥(↑(List.length a1.1.1):Int)))) fun (s0:Bool)=>bif s0 then some [] else Option.bind (Option.bind (idx a1.1.1 a2) fun (y24:Ty.El zG)=>zR (fun (s25:Int×List (Ty.El zA))=>bif decide (s25.1< (↑(List.length y24.2.2.1):Int)) then Option.bind (Option.bind (idx y24.2.2.1 s25.1) fun (y26:Ty.El qQ)=>Option.bind (jZ (a1,a2,s25.1,())) fun (y27:Bool)=>bif !y27 then some s25.2 else Option.bind (zBW (y26.2.1,y26.2.2.1,())) fun (y28:Int×Int×Unit)=>Option.bind (idx a1.1.1 a2) fun (y29:Ty.El zG)=>Option.bind (app (136:Nat) s25.2 [(y28,(4:Int),(1:Int),y29.2.2.2.2.2.2.2.2.2.1.2.1,(1:Int),(0:Int),(0:Int),(0:Int),[],(0:Int),(0:Int),[(s25.1,(0:Int),())],false,())]) fun (y30:List (Ty.El zA))=>some y30) fun (s31:List (Ty.El zA))=>some (Sum.inl (IntKind.wrap IntKind.i64 (s25.1+(1:Int)),s31)) else some (Sum.inr s25.2)) ((0:Int),[])) fun (s32:List (Ty.El zA))=>bif Nat.beq (List.length s32) (List.length s32) then Option.bind (qE s32 ((),())) fun (y33:List (Ty.El zA)×Unit)=>some y33.1 else none
noncomputable def w3:ElS [z6,(.sl (.sl zA)),(.sl zA),tI]→Option (RTy.El (.p (.sl zA))):=fun x=>match x with|(a1,a2,a3,a4,())=>Option.bind (bif decide (a4< (0:Int)) then some true else bif decide (a4≥(↑(List.length a1.1.1):Int)) then some true else Option.bind (idx a1.1.1 a4) fun (y1:Ty.El zG)=>some !y1.2.2.2.2.2.2.2.2.2.1.1) fun (s2:Bool)=>bif s2 then some [] else Option.bind (yK (a1,a4,())) fun (y7:List (Ty.El zA))=>Option.bind (uE (a1,a2,a4,())) fun (y8:List (Ty.El zA))=>Option.bind (v6 ([y7,a3,y8],())) fun (y9:List (Ty.El zA))=>Option.bind (zCD (y9,())) fun (y10:List (Ty.El zA))=>some y10
end Go.Ve

namespace Go.Ve
open Go
set_option maxRecDepth 1000000
set_option maxHeartbeats 4000000
def orL:List Int→Int
 |[]=>0
 |a::r=>if a=0 then orL r else a
theorem zJI (l:List Int) (hl:l.length<1000):zAb (l,())=some (orL l):=by
 refine u4 ?_
 unfold zAb
 dsimp only
 refine zFx (xs:=l) (by omega) (fun i=>orL l=orL (l.drop i)) rfl ?_ (fun h=>zB ?_)
 ·intro i x hx hj
  have hi:=(List.getElem?_eq_some_iff.1 hx).1
  have hd:l.drop i=x::l.drop (i+1):=by
   rw [List.drop_eq_getElem_cons hi]
   congr 1
   exact (List.getElem?_eq_some_iff.1 hx).2
  rw [hd] at hj
  simp only [zT hx,Option.bind_some]
  refine zH (fun h=>zB (e2r (e2r ?_))) (fun h=>zB (e2l ⟨rfl,?_⟩))
  ·have h: ¬x=0:=by simpa using h
   rw [hj]
   simp only [orL,if_neg h]
  ·have h:x=0:=by simpa using h
   rw [hj]
   simp only [orL,if_pos h]
 ·rw [h,List.drop_length]
  rfl
def zXA (a b:Int):Int:=if a<b then-1 else if b<a then 1 else 0
theorem zOo: ∀ (l:List (Int×Int)),orL (l.map (fun p=>zXA p.1 p.2))=zQt l
 |[]=>rfl
 |(a,b)::r=>by
  have ih:=zOo r
  simp only [List.map_cons,orL,zQt,ih]
  unfold zXA
  by_cases h1:a<b
  ·simp [h1]
  ·by_cases h2:b<a
   ·simp [h1,h2]
   ·simp [h1,h2]
theorem zDI (a b:Ty.El jJ):uS (a,b,())=some (zI7 a b):=by
 refine u4 ?_
 unfold uS
 dsimp only
 refine zC (wD (zB6 _ _) (zC (wD (zK9 _ _) (zC (wD (zJI _ (by simp)) (zB ?_))))))
 have:=zOo [(a.1,b.1),(a.2.1,b.2.1)]
 refine this.trans ?_
 simp only [zQt,zI7,zIA]
theorem zCL (a b:Ty.El jJ):Go.Proofs.ltOf zI7 a b=true↔hlt a b:=by
 unfold Go.Proofs.ltOf zI7 hlt
 rw [decide_eq_true_eq]
 exact zOT
theorem zSB:Go.Sort.SWO (Go.Proofs.ltOf zI7) where
 irrefl:=fun x=>by
  cases h:Go.Proofs.ltOf zI7 x x with
  |false=>rfl
  |true=>have:=(zCL x x).1 h;unfold hlt zDe at this;omega
 trans:=fun x y z h1 h2=>by
  have h1:=(zCL x y).1 h1
  have h2:=(zCL y z).1 h2
  refine (zCL x z).2 ?_
  unfold hlt zDe at*;omega
 ntrans:=fun x y z h1 h2=>by
  have h1: ¬hlt x y:=fun h=>by rw [(zCL x y).2 h] at h1;cases h1
  have h2: ¬hlt y z:=fun h=>by rw [(zCL y z).2 h] at h2;cases h2
  cases h:Go.Proofs.ltOf zI7 x z with
  |false=>rfl
  |true=>have:=(zCL x z).1 h;exfalso;unfold hlt zDe at*;omega
theorem zGL (x y:Ty.El zA) (hx:x.2.1=4) (hy:y.2.1=4):uB (x,y,())=some (uW x y):=by
 refine u4 ?_
 have k1:(x.2.1==(1:Int))=false:=by rw [hx];rfl
 have k2:(x.2.1==(2:Int))=false:=by rw [hx];rfl
 have k3:(x.2.1==(3:Int))=false:=by rw [hx];rfl
 have k4:(x.2.1==(4:Int))=true:=by rw [hx];rfl
 have l3:(y.2.1==(3:Int))=false:=by rw [hy];rfl
 have l4:(y.2.1==(4:Int))=true:=by rw [hy];rfl
 unfold uB
 dsimp only
 rw [k1,k2,k3,k4]
 simp only [cond_false,cond_true,Option.bind_some]
 refine zC (wD (zB6 _ _) (zC (wD (zB6 _ _) (zC (wD (zB6 _ _) (zC (wD (zJI _ (by simp)) (zB ?_))))))))
 have:=zOo [(x.2.2.2.2.1,y.2.2.2.2.1),(x.2.2.1,y.2.2.1),(x.2.2.2.2.2.2.1,y.2.2.2.2.2.2.1)]
 refine this.trans ?_
 unfold uW zBo
 rw [k3,k4,l3,l4]
 simp only [cond_false,cond_true,zQt]
 simp
end Go.Ve

namespace Go.Ve
open Go
set_option maxRecDepth 1000000
noncomputable def yT:ElS [zV,(.sl tI),(.sl (.sl zA)),tI,tI]→Option (RTy.El (.p .bool)):=fun x=>match x with|(a1,a2,a3,a4,a5,())=>Option.bind (zDW (a1,a2,())) fun (y0:Ty.El z6×Bool×Unit)=>Option.bind (bif !y0.2.1 then some true else Option.bind (zCJ (y0.1,a3,())) fun (y7:Bool)=>bif !y7 then some true else bif decide (a4< (0:Int)) then some true else bif decide (a4≥(↑(List.length a3):Int)) then some true else bif decide (a5< (0:Int)) then some true else Option.bind (idx a3 a4) fun (y8:List (Ty.El zA))=>bif decide (a5≥(↑(List.length y8):Int)) then some true else Option.bind (idx a3 a4) fun (y9:List (Ty.El zA))=>Option.bind (idx y9 a5) fun (y10:Ty.El zA)=>bif y10.2.2.1==(1:Int) then some true else Option.bind (idx a3 a4) fun (y11:List (Ty.El zA))=>Option.bind (idx y11 a5) fun (y12:Ty.El zA)=>some (decide (y12.2.2.2.2.1< (2:Int)))) fun (s13:Bool)=>bif s13 then some true else Option.bind (app (24:Nat) [] a3) fun (y14:List (List (Ty.El zA)))=>Option.bind (idx a3 a4) fun (y15:List (Ty.El zA))=>Option.bind (app (136:Nat) [] y15) fun (y16:List (Ty.El zA))=>Option.bind (idx y14 a4) fun (y17:List (Ty.El zA))=>bif !List.isEmpty y16 then Option.bind (idx y14 a4) fun (y23:List (Ty.El zA))=>bif decide (Int.toNat a4=Int.toNat a4) then Option.bind (idx a3 a4) fun (y24:List (Ty.El zA))=>Option.bind (idx y24 a5) fun (y25:Ty.El zA)=>Option.bind (idx y16 a5) fun (y26:Ty.El zA)=>Option.bind (atN y16 (Int.toNat a5)) fun (y27:Ty.El zA)=>jP (zR (fun (s80:Int)=>bif decide (s80< (↑(List.length a3):Int)) then jP (Option.bind (w3 (y0.1,a3,[],s80,())) fun (y81:List (Ty.El zA))=>Option.bind (w3 (y0.1,List.set y14 (Int.toNat a4) (List.set y16 (Int.toNat a5) (y27.1,y27.2.1,y27.2.2.1,y27.2.2.2.1,IntKind.wrap IntKind.i64 (y25.2.2.2.2.1- (1:Int)),y27.2.2.2.2.2)),[],s80,())) fun (y82:List (Ty.El zA))=>zR (fun (s83:Int)=>bif decide (s83< (↑(List.length y81):Int)) then Option.bind (idx y81 s83) fun (y84:Ty.El zA)=>Option.bind (zDL (y82,y84.1,())) fun (y85:Int)=>Option.bind (bif decide (y85< (0:Int)) then some true else Option.bind (idx y82 y85) fun (y86:Ty.El zA)=>Option.bind (idx y81 s83) fun (y87:Ty.El zA)=>bif decide (y86.2.2.2.2.1>y87.2.2.2.2.1) then some true else Option.bind (idx y82 y85) fun (y88:Ty.El zA)=>Option.bind (idx y81 s83) fun (y89:Ty.El zA)=>some (decide (y88.2.2.2.2.1<IntKind.wrap IntKind.i64 (y89.2.2.2.2.1- (1:Int))))) fun (s90:Bool)=>bif s90 then some (Sum.inr (Sum.inr (Sum.inr (Sum.inr false)))) else some (Sum.inl (IntKind.wrap IntKind.i64 (s83+(1:Int)))) else some (Sum.inr (Sum.inl ()))) (0:Int)) fun (s91:Unit)=>some (Sum.inl (IntKind.wrap IntKind.i64 (s80+(1:Int)))) else some (Sum.inr (Sum.inl ()))) (0:Int)) fun (s92:Unit)=>Option.bind (zLJ ()) fun (y93:Bool)=>some y93 else none else none
end Go.Ve
