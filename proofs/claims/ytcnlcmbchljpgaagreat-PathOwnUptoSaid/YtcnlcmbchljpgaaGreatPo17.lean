/-
  Sorting by the kit's contract: the contract over typed data.
  Functions out of code: merging of routes, tables of distance-vector routing.
  Functions out of code: redistribution, the routes that a router originates, tables of path-vector routing.
  Plain laws: comparisons put together; the order of hops; preference of routes of one protocol.
  Plain laws: path-vector routes: what holds of a valid one, and which one is preferred.
-/
import Derived.Shelf.SlSortCmp.WholeK
import Derived.Test.YtcnlcmbchljpgaaGreatPo14
import Derived.Test.YtcnlcmbchljpgaaGreatPo10
import Derived.Test.YtcnlcmbchljpgaaGreatPo11
import Derived.Test.YtcnlcmbchljpgaaGreatPo12
import Derived.Test.YtcnlcmbchljpgaaGreatPo13
set_option linter.unusedVariables false
namespace Go.Ve
open Go Go.Proofs Go.Sort Go.Shelf
def srt {α:Type} [Inhabited α] (cf:α→α→Int) (xs:List α):List α:=(pdq (ltOf cf) xs.toArray 0 xs.length (Lib.bitLen xs.length) true true).toList
theorem zRT {α:Type} [Inhabited α] {cf:α→α→Int} (hO:SWO (ltOf cf)) (xs:List α):(srt cf xs).Perm xs∧(srt cf xs).length=xs.length∧ ∀ (i j:Nat) x y,i<j→(srt cf xs)[i]? =some x→(srt cf xs)[j]? =some y→ltOf cf y x=false:=by
 have h:=pdq_sorts (ltOf cf) hO xs.toArray 0 xs.toArray.size (Lib.bitLen xs.toArray.size) true true (Nat.zero_le _) (Nat.le_refl _) (Or.inl rfl)
 obtain ⟨⟨h1,_,h3⟩,h4⟩:=h
 have hs:(srt cf xs).length=xs.length:=by unfold srt;simpa using h1
 refine ⟨?_,hs,?_⟩
 ·have e1:((pdq (ltOf cf) xs.toArray 0 xs.toArray.size (Lib.bitLen xs.toArray.size) true true).extract 0 xs.toArray.size).toList=srt cf xs:=by
   have hx: ∀ (A:Array α) (n:Nat),A.size=n→A.extract 0 n=A:=by rintro A n rfl;exact Array.extract_size
   unfold srt
   rw [hx _ _ h1]
   simp
  have e2:(xs.toArray.extract 0 xs.toArray.size).toList=xs:=by simp
  rw [e1,e2] at h3
  exact h3
 ·intro i j x y hij hx hy
  have hj:j<xs.toArray.size:=by
   have:=(List.getElem?_eq_some_iff.1 hy).1
   rw [hs] at this
   simpa using this
  have h5:=h4 i j (Nat.zero_le _) hij hj
  have gx: ∀ (k:Nat) (z:α),(srt cf xs)[k]? =some z→(pdq (ltOf cf) xs.toArray 0 xs.toArray.size (Lib.bitLen xs.toArray.size) true true)[k]! =z:=by
   intro k z hz
   have hz':(pdq (ltOf cf) xs.toArray 0 xs.toArray.size (Lib.bitLen xs.toArray.size) true true).toList[k]? =some z:=hz
   generalize pdq (ltOf cf) xs.toArray 0 xs.toArray.size (Lib.bitLen xs.toArray.size) true true=A at hz'
   rw [Array.getElem?_toList] at hz'
   obtain ⟨hk,he⟩:=Array.getElem?_eq_some_iff.1 hz'
   rw [getElem!_pos A k hk]
   exact he
  rw [gx i x hx,gx j y hy] at h5
  exact h5
theorem zZF {g:FuncId} {r:List V} {x:ElA [.clo g []]} (h:uF [.clo g []] r=some x):r=[.clo g []]:=by
 match r,h with
 |[],h=>cases h
 |d::ds,h=>
  simp only [uF] at h
  split at h
  ·rename_i y hy
   split at h
   ·rename_i ys hys
    have e2:ds=[]:=by
     match ds,hys with
     |[],_=>rfl
     |_::_,h=>cases h
    subst e2
    cases d with
    |clo g' cs=>
     simp only [ATy.dec] at hy
     split at hy
     ·rename_i hb
      have hg:g'=g:=Nat.eq_of_beq_eq_true hb
      subst hg
      match cs,hy with
      |[],_=>rfl
      |_::_,hy=>cases hy
     ·cases hy
    |_=>cases hy
   ·cases h
  ·cases h
theorem zOi {P:Program} {ρ:Ren} {f g:FuncId} {a b:Ty} [Inhabited (Ty.pair a b).El] (hfl:(Ty.pair a b).flat=true) (L:SlLaysF0.n6 P ρ) (hf:f=ρ.f 6) (aE: ∀w,(isAgg (ρ.t 24)).run P w= .ok true w) (zE: ∀w,(Go.sizeOf (ρ.t 24)).run P w= .ok (Ty.pair a b).size w)
  {c:ElS [.pair a b, .pair a b]→Option Int} {cf:(Ty.pair a b).El→(Ty.pair a b).El→Int} (hO:SWO (ltOf cf)) (eg: ∀args w,(callFunc g args).run P w= .ok (.enter g args) w)
  (hg:wY jP P (fun _=>none) g (qO (wE [.pair a b, .pair a b] (.p (.int .i64)) c))) (hc: ∀x y,c (x,y,())=some (cf x y))
  (hnil:zBu jP P (fun _=>none) f () (.pair a b) [] [.clo g []] () [] (.tup [])):
  zBt jP P (fun _=>none) f (.pair a b) (uF [.clo g []]) (.tu []) (fun xs _=>if xs.length<1099511627776 then some (if xs=[] then [] else srt cf xs,()) else none):=by
 intro s xs r x ys y hdec hg2
 have hr:=zZF hdec
 subst hr
 simp only at hg2
 split at hg2
 ·rename_i hl
  simp only [Option.some.injEq,Prod.mk.injEq] at hg2
  obtain ⟨rfl,_⟩:=hg2
  by_cases hx:xs=[]
  ·subst hx
   rw [if_pos rfl]
   exact hnil
  ·rw [if_neg hx]
   refine zBu.of rfl ?_
   intro w F O blk v0 args hR hG hF hown hb hsz ha0 hrest
   have hxm:xs.map (Ty.pair a b).enc≠[]:=by simpa using hx
   rcases hown with ⟨h,_⟩|⟨_,_,cap,hv0,hrow⟩
   ·exact absurd h hxm
   simp only at hv0 hrow
   obtain ⟨hb1,hb2,hb3⟩:=hb hx
   match args,hsz with
   |⟨[u0,u1]⟩,_=>
    simp at ha0
    subst ha0
    have h1:=hrest 0 u1 (.clo g []) rfl rfl
    have hu1:u1= .func (.func g) #[] #[]:=by
     cases h1 with
     |clo f cs ds hl h=>
      have:cs= #[]:=Array.eq_empty_of_size_eq_zero (by simpa using hl)
      rw [this]
    subst hu1
    rw [hv0,List.length_map,hf]
    have hcall:=AnyQ.slices_SortFunc_eq L (Ty.pair a b).size aE zE (Ty.pair a b).vals (fun x=>zGu _ x hfl) (fun x v hv=>zRD _ x v hv) cf hO g #[] blk 0 cap xs.toArray w eg (zUH hfl hg hc blk 0 xs.toArray.size w) (zP5 hfl hrow) hb1 (by simp;omega)
    simp only [List.size_toArray] at hcall
    refine hcall.mono ?_
    rintro e w' ⟨rfl,n,os,rfl⟩
    have hsl:(srt cf xs).length=xs.length:=(zRT hO xs).2.1
    have hds:(pdq (ltOf cf) xs.toArray 0 xs.length (Lib.bitLen xs.length) true true).size=xs.length:=by
     have:=hsl
     unfold srt at this
     simpa using this
    refine ⟨.tuple #[],F,O,rfl,hR,⟨rfl,rfl,rfl,?_,?_,?_⟩,fun _ h=> .inl h,fun _ h=>h,fun c hc'=>⟨.inl hc',?_,(hF c hc').2⟩,zFY.of (.inr ⟨?_,trivial,cap,?_,?_⟩) (Rd.tup #[] [] rfl (fun i x d h=>by simp at h))⟩
    ·simp [sortWorldK,grow,putRowK,putRow,mapBlock,Sort.ahead]
    ·intro i hi hno
     exact zOS hi (fun h=>hno (.inr ⟨hx,h⟩)) _ _ _ _ _ _
    ·simp [sortWorldK,grow,putRowK,putRow,mapBlock,Sort.ahead]
    ·have:=(hF c hc').1
     simp [sortWorldK,grow,putRowK,putRow,mapBlock,Sort.ahead]
     omega
    ·intro h
     have:(srt cf xs).length=0:=by
      have:=congrArg List.length h
      simpa using this
     rw [hsl] at this
     exact hx (List.length_eq_zero_iff.1 this)
    ·rw [List.length_map,hsl]
    ·exact zNA hfl hrow hds
 ·cases hg2
end Go.Ve

namespace Go.Ve
open Go
set_option maxRecDepth 1000000
instance:Inhabited (Ty.El qP):=⟨((0:Int),(0:Int),())⟩
def zLp (a b:Ty.El qP):Int:=zKO a.1 a.2.1 b.1 b.2.1
noncomputable def yB:List (Ty.El zB)→ElA [.clo 120 []]→Option (List (Ty.El zB)×RTy.El (.tu [])):=qU
noncomputable def uU:List (Ty.El qP)→ElA [.clo 157 []]→Option (List (Ty.El qP)×RTy.El (.tu [])):=fun xs _=>if xs.length<1099511627776 then some (if xs=[] then [] else srt zLp xs,()) else none
noncomputable def xA:List (Ty.El qP)→ElA []→Option (List (Ty.El qP)):=fun xs _=>if xs.length<1099511627776 then some (vU zPr xs) else none
noncomputable def xB:ElS [(.sl zB)]→Option (RTy.El (.o zB)):=fun x=>match x with|(a1,())=>Option.bind (app (136:Nat) [] a1) fun (z:List (Ty.El zB))=>some z
noncomputable def zNC:ElS [zB,zB]→Option (RTy.El (.p tI)):=fun x=>match x with|(a1,a2,())=>Option.bind (zB3 (a1.1,a2.1,())) fun (y0:Int)=>some y0
noncomputable def zBi:ElS [(.sl tI)]→Option (RTy.El (.p tI)):=fun x=>match x with|(a1,())=>q8 (zN (fun (s4:Int)=>bif decide (s4< (↑(List.length a1):Int)) then Option.bind (idx a1 s4) fun (y5:Int)=>bif y5 !=(0:Int) then some (Sum.inr (Sum.inr y5)) else some (Sum.inl (IntKind.wrap IntKind.i64 (s4+(1:Int)))) else some (Sum.inr (Sum.inl ()))) (0:Int)) fun (s6:Unit)=>some (0:Int)
noncomputable def zDc:ElS [zB]→Option (RTy.El (.p tI)):=fun x=>match x with|(a1,())=>some (if (3:Int)<a1.2.2.1 then (3:Int) else a1.2.2.1)
noncomputable def xC:ElS [zB,zB]→Option (RTy.El (.p tI)):=fun x=>match x with|(a1,a2,())=>Option.bind (bif a1.2.1==(1:Int) then some (a1.2.1==(1:Int)) else some (a1.2.1==(2:Int))) fun (s0:Bool)=>bif s0 then Option.bind (qC (a1.2.2.2.1,a2.2.2.2.1,())) fun (y1:Int)=>some y1 else bif a1.2.1==(3:Int) then Option.bind (qC (a1.2.2.1,a2.2.2.1,())) fun (y7:Int)=>Option.bind (qC (a1.2.2.2.2.1,a2.2.2.2.2.1,())) fun (y8:Int)=>Option.bind (qC (a1.2.2.2.2.2.1,a2.2.2.2.2.2.1,())) fun (y9:Int)=>Option.bind (qC (a1.2.2.2.2.2.2.1,a2.2.2.2.2.2.2.1,())) fun (y10:Int)=>Option.bind (zBi ([y7,y8,y9,y10],())) fun (y11:Int)=>some y11 else bif a1.2.1==(4:Int) then Option.bind (qC (a1.2.2.2.2.1,a2.2.2.2.2.1,())) fun (y16:Int)=>Option.bind (qC (a1.2.2.1,a2.2.2.1,())) fun (y17:Int)=>Option.bind (qC (a1.2.2.2.2.2.2.1,a2.2.2.2.2.2.2.1,())) fun (y18:Int)=>Option.bind (zBi ([y16,y17,y18],())) fun (y19:Int)=>some y19 else bif a1.2.1==(5:Int) then Option.bind (zDc (a1,())) fun (y29:Int)=>Option.bind (zDc (a2,())) fun (y30:Int)=>Option.bind (qC (y29,y30,())) fun (y31:Int)=>Option.bind (qC (a2.2.2.2.2.2.2.2.1,a1.2.2.2.2.2.2.2.1,())) fun (y32:Int)=>Option.bind (qC ((↑(List.length a1.2.2.2.2.2.2.2.2.1):Int),(↑(List.length a2.2.2.2.2.2.2.2.2.1):Int),())) fun (y33:Int)=>Option.bind (qC (a1.2.2.2.2.1,a2.2.2.2.2.1,())) fun (y34:Int)=>Option.bind (qC (a1.2.2.1,a2.2.2.1,())) fun (y35:Int)=>Option.bind (w6 (a1.2.2.2.2.2.2.2.2.2.1,a2.2.2.2.2.2.2.2.2.2.1,())) fun (y36:Int)=>Option.bind (zBi ([y31,y32,y33,y34,y35,y36],())) fun (y37:Int)=>some y37 else some (0:Int)
noncomputable def x5:ElS [qP,qP]→Option (RTy.El (.p tI)):=fun x=>match x with|(a1,a2,())=>Option.bind (qC (a1.1,a2.1,())) fun (y3:Int)=>Option.bind (w6 (a1.2.1,a2.2.1,())) fun (y4:Int)=>Option.bind (zBi ([y3,y4],())) fun (y5:Int)=>some y5
noncomputable def zBH:ElS [(.sl zB)]→Option (RTy.El (.p zB)):=fun x=>match x with|(a1,())=>Option.bind (idx a1 (0:Int)) fun (y0:Ty.El zB)=>Option.bind (Option.bind (sub a1 (1:Int) (↑(List.length a1):Int)) fun (y12:List (Ty.El zB))=>zN (fun (s13:Int×Ty.El zB)=>bif decide (s13.1< (↑(List.length y12):Int)) then Option.bind (Option.bind (idx y12 s13.1) fun (y14:Ty.El zB)=>Option.bind (xC (y14,s13.2,())) fun (y15:Int)=>bif decide (y15< (0:Int)) then some y14 else some s13.2) fun (s16:Ty.El zB)=>some (Sum.inl (IntKind.wrap IntKind.i64 (s13.1+(1:Int)),s16)) else some (Sum.inr s13.2)) ((0:Int),y0)) fun (s17:Ty.El zB)=>Option.bind (zN (fun (s31:Int×List (Ty.El qP))=>bif decide (s31.1< (↑(List.length a1):Int)) then Option.bind (Option.bind (idx a1 s31.1) fun (y32:Ty.El zB)=>Option.bind (xC (y32,s17,())) fun (y33:Int)=>bif y33==(0:Int) then Option.bind (app (16:Nat) s31.2 y32.2.2.2.2.2.2.2.2.2.2.2.1) fun (y34:List (Ty.El qP))=>some y34 else some s31.2) fun (s35:List (Ty.El qP))=>some (Sum.inl (IntKind.wrap IntKind.i64 (s31.1+(1:Int)),s35)) else some (Sum.inr s31.2)) ((0:Int),[])) fun (s36:List (Ty.El qP))=>bif Nat.beq (List.length s36) (List.length s36) then Option.bind (uU s36 ((),())) fun (y37:List (Ty.El qP)×Unit)=>Option.bind (xA y37.1 ()) fun (y38:List (Ty.El qP))=>Option.bind (jT (s17.2.2.2.2.2.2.2.2.1,())) fun (y39:List Int)=>some (s17.1,s17.2.1,s17.2.2.1,s17.2.2.2.1,s17.2.2.2.2.1,s17.2.2.2.2.2.1,s17.2.2.2.2.2.2.1,s17.2.2.2.2.2.2.2.1,y39,s17.2.2.2.2.2.2.2.2.2.1,s17.2.2.2.2.2.2.2.2.2.2.1,y38,s17.2.2.2.2.2.2.2.2.2.2.2.2) else none
noncomputable def zD8:ElS [(.sl zB)]→Option (RTy.El (.p (.sl zB))):=fun x=>match x with|(a1,())=>Option.bind (xB (a1,())) fun (y0:List (Ty.El zB))=>bif Nat.beq (List.length y0) (List.length y0)&&Nat.beq (List.length y0) (List.length y0) then Option.bind (yB y0 ((),())) fun (y1:List (Ty.El zB)×Unit)=>Option.bind (zN (fun (s38:Int×List (Ty.El zB))=>bif decide (s38.1< (↑(List.length y1.1):Int)) then Option.bind (zN (fun (s39:Int×List (Ty.El zB))=>Option.bind (bif decide (s39.1< (↑(List.length y1.1):Int)) then Option.bind (idx y1.1 s39.1) fun (y40:Ty.El zB)=>Option.bind (idx y1.1 s38.1) fun (y41:Ty.El zB)=>some (y40.1.1==y41.1.1&&(y40.1.2.1==y41.1.2.1&&true),s39.2) else some (false,s39.2)) fun (s42:Bool×List (Ty.El zB))=>bif s42.1 then some (Sum.inl (IntKind.wrap IntKind.i64 (s39.1+(1:Int)),s42.2)) else some (Sum.inr (s42.2,s39.1))) (IntKind.wrap IntKind.i64 (s38.1+(1:Int)),s38.2)) fun (s43:List (Ty.El zB)×Int)=>Option.bind (sub y1.1 s38.1 s43.2) fun (y44:List (Ty.El zB))=>Option.bind (zBH (y44,())) fun (y45:Ty.El zH×Int×Int×Int×Int×Int×Int×Int×List Int×Int×Int×List (Ty.El qP)×Bool×Unit)=>Option.bind (app (136:Nat) s43.1 [y45]) fun (y46:List (Ty.El zB))=>some (Sum.inl (s43.2,y46)) else some (Sum.inr s38.2)) ((0:Int),[])) fun (s47:List (Ty.El zB))=>some s47 else none
end Go.Ve

namespace Go.Ve
open Go
set_option maxRecDepth 1000000
noncomputable def zD9:ElS [zR,(.sl zT)]→Option (RTy.El (.p .bool)):=fun x=>match x with|(a1,a2,())=>bif (↑(List.length a2):Int) !=(↑(List.length a1.1.1):Int) then some false else q8 (zN (fun (s28:Int)=>bif decide (s28< (↑(List.length a2):Int)) then Option.bind (Option.bind (idx a2 s28) fun (y29:Ty.El zT)=>Option.bind (v8 (y29.1,(3:Int),())) fun (y30:Bool)=>bif !y30 then some true else Option.bind (idx a2 s28) fun (y31:Ty.El zT)=>Option.bind (v8 (y31.2.1,(4:Int),())) fun (y32:Bool)=>bif !y32 then some true else Option.bind (idx a2 s28) fun (y33:Ty.El zT)=>Option.bind (v8 (y33.2.2.1,(5:Int),())) fun (y34:Bool)=>bif !y34 then some true else Option.bind (idx a2 s28) fun (y35:Ty.El zT)=>Option.bind (v8 (y35.2.2.2.1,(0:Int),())) fun (y36:Bool)=>some !y36) fun (s37:Bool)=>bif s37 then some (Sum.inr (Sum.inr false)) else some (Sum.inl (IntKind.wrap IntKind.i64 (s28+(1:Int)))) else some (Sum.inr (Sum.inl ()))) (0:Int)) fun (s38:Unit)=>some true
noncomputable def zEd:ElS [zR,(.sl zT)]→Option (RTy.El (.p .bool)):=fun x=>match x with|(a1,a2,())=>bif (↑(List.length a2):Int) !=(↑(List.length a1.1.1):Int) then some false else q8 (zN (fun (s16:Int)=>bif decide (s16< (↑(List.length a2):Int)) then Option.bind (Option.bind (idx a2 s16) fun (y17:Ty.El zT)=>bif decide ((↑(List.length y17.1):Int)>(12:Int)) then some true else Option.bind (idx a2 s16) fun (y18:Ty.El zT)=>bif decide ((↑(List.length y18.2.1):Int)>(12:Int)) then some true else Option.bind (idx a2 s16) fun (y19:Ty.El zT)=>bif decide ((↑(List.length y19.2.2.1):Int)>(12:Int)) then some true else Option.bind (idx a2 s16) fun (y20:Ty.El zT)=>some (decide ((↑(List.length y20.2.2.2.1):Int)>(16:Int)))) fun (s21:Bool)=>bif s21 then some (Sum.inr (Sum.inr false)) else some (Sum.inl (IntKind.wrap IntKind.i64 (s16+(1:Int)))) else some (Sum.inr (Sum.inl ()))) (0:Int)) fun (s22:Unit)=>Option.bind (zD9 (a1,a2,())) fun (y23:Bool)=>some y23
noncomputable def zC4:ElA [.d zB, .pp zH]→Option (RTy.El (.p .bool)):=fun x=>match x with|(a1,a2,())=>some (a1.1.1==a2.1&&(a1.1.2.1==a2.2.1&&true))
noncomputable def uY:ElS [zR,tI,zH]→Option (RTy.El (.p .bool)):=fun x=>match x with|(a1,a2,a3,())=>q8 (Option.bind (idx a1.1.1 a2) fun (y15:Ty.El zF)=>zN (fun (s16:Int)=>bif decide (s16< (↑(List.length y15.2.2.1):Int)) then Option.bind (idx y15.2.2.1 s16) fun (y17:Ty.El qG)=>Option.bind (Option.bind (zHr (a1,a2,s16,())) fun (y18:Bool)=>bif y18 then Option.bind (zDk (y17.2.1,y17.2.2.1,())) fun (y19:Int×Int×Unit)=>some (y19.1==a3.1&&(y19.2.1==a3.2.1&&true)) else some false) fun (s20:Bool)=>bif s20 then some (Sum.inr (Sum.inr true)) else some (Sum.inl (IntKind.wrap IntKind.i64 (s16+(1:Int)))) else some (Sum.inr (Sum.inl ()))) (0:Int)) fun (s21:Unit)=>some false
noncomputable def kH:ElA [.d (.sl zB), .clo 90 [(true,zH)]]→Option (RTy.El (.p tI)):=fun x=>match x with|(a1,(a2,()),())=>q8 (zN (fun (s6:Int)=>bif decide (s6< (↑(List.length a1):Int)) then Option.bind (idx a1 s6) fun (y7:Ty.El zB)=>Option.bind (zC4 (y7,a2,())) fun (y8:Bool)=>bif y8 then some (Sum.inr (Sum.inr s6)) else some (Sum.inl (IntKind.wrap IntKind.i64 (s6+(1:Int)))) else some (Sum.inr (Sum.inl ()))) (0:Int)) fun (s9:Unit)=>some (-1:Int)
noncomputable def vT:ElA [.d zB, .pp jQ]→Option (RTy.El (.p .bool)):=fun x=>match x with|(a1,a2,())=>Option.bind (jN (a1.1,a2.1,())) fun (y0:Bool)=>some y0
noncomputable def kG:ElA [.d (.sl zB), .clo 96 [(true,jQ)]]→Option (RTy.El (.p tI)):=fun x=>match x with|(a1,(a2,()),())=>q8 (zN (fun (s6:Int)=>bif decide (s6< (↑(List.length a1):Int)) then Option.bind (idx a1 s6) fun (y7:Ty.El zB)=>Option.bind (vT (y7,a2,())) fun (y8:Bool)=>bif y8 then some (Sum.inr (Sum.inr s6)) else some (Sum.inl (IntKind.wrap IntKind.i64 (s6+(1:Int)))) else some (Sum.inr (Sum.inl ()))) (0:Int)) fun (s9:Unit)=>some (-1:Int)
noncomputable def jY:ElA [.d (.sl zB), .clo 90 [(true,zH)]]→Option (RTy.El (.p .bool)):=fun x=>match x with|(a1,(a2,()),())=>Option.bind (kH (a1,(a2,()),())) fun (y0:Int)=>some (decide (y0≥(0:Int)))
noncomputable def jX:ElA [.d (.sl zB), .clo 96 [(true,jQ)]]→Option (RTy.El (.p .bool)):=fun x=>match x with|(a1,(a2,()),())=>Option.bind (kG (a1,(a2,()),())) fun (y0:Int)=>some (decide (y0≥(0:Int)))
noncomputable def zCl:ElS [(.sl zB),zH]→Option (RTy.El (.p tI)):=fun x=>match x with|(a1,a2,())=>q8 (zN (fun (s4:Int)=>bif decide (s4< (↑(List.length a1):Int)) then Option.bind (idx a1 s4) fun (y5:Ty.El zB)=>bif y5.1.1==a2.1&&(y5.1.2.1==a2.2.1&&true) then some (Sum.inr (Sum.inr s4)) else some (Sum.inl (IntKind.wrap IntKind.i64 (s4+(1:Int)))) else some (Sum.inr (Sum.inl ()))) (0:Int)) fun (s6:Unit)=>some (-1:Int)
noncomputable def uA:ElS [zT,zH]→Option (RTy.El (.p .bool)):=fun x=>match x with|(a1,a2,())=>Option.bind (zCl (a1.1,a2,())) fun (y0:Int)=>bif decide (y0≥(0:Int)) then some true else Option.bind (zCl (a1.2.1,a2,())) fun (y1:Int)=>Option.bind (bif decide (y1≥(0:Int)) then Option.bind (idx a1.2.1 y1) fun (y3:Ty.El zB)=>some (y3.2.2.1==(3:Int)) else some false) fun (s4:Bool)=>some s4
noncomputable def zFl:ElS [zF,qT,zB]→Option (RTy.El (.tu [tI,tI, .bool])):=fun x=>match x with|(a1,a2,a3,())=>bif a2.2.2.2.1== { data:= #[] } then some (a2.2.1,a2.2.2.1,true,()) else Option.bind (yN (a1,a2.2.2.2.1,())) fun (y2:Int)=>Option.bind (zAY (a1,a2.2.2.2.1,a3,())) fun (y3:Int)=>Option.bind (bif decide (y2< (0:Int)) then some true else bif decide (y2≥(↑(List.length a1.2.2.2.2.1):Int)) then some true else bif decide (y3< (0:Int)) then some true else Option.bind (idx a1.2.2.2.2.1 y2) fun (y5:Ty.El yW)=>some (decide (y3≥(↑(List.length y5.2.1):Int)))) fun (s6:Bool)=>bif s6 then some ((0:Int),(0:Int),false,()) else Option.bind (idx a1.2.2.2.2.1 y2) fun (y7:Ty.El yW)=>Option.bind (idx y7.2.1 y3) fun (y8:Ty.El kN)=>Option.bind (bif y8.2.2.2.1 !=(-1:Int) then some y8.2.2.2.1 else some a2.2.1) fun (s9:Int)=>Option.bind (bif y8.2.2.2.2.1 !=(-1:Int) then some y8.2.2.2.2.1 else some a2.2.2.1) fun (s10:Int)=>some (s9,s10,y8.1,())
noncomputable def zIW:Ty.El zB→ElA [.d zF, .d qT]→Option (Ty.El zB×RTy.El (.p .bool)):=fun a0 x=>match x with|(a1,a2,())=>Option.bind (atN [a0] (0:Nat)) fun (y0:Ty.El zB)=>bif y0.2.1==(3:Int) then Option.bind (atN [a0] (0:Nat)) fun (y1:Ty.El zB)=>bif a2.2.2.2.2.1==(1:Int) then Option.bind (atN [(y1.1,y1.2.1,(4:Int),y1.2.2.2)] (0:Nat)) fun (y2:Ty.El zB)=>some ((y2.1,y2.2.1,(3:Int),y2.2.2.2),true) else some ((y1.1,y1.2.1,(4:Int),y1.2.2.2),true) else bif y0.2.1==(4:Int) then Option.bind (atN [a0] (0:Nat)) fun (y3:Ty.El zB)=>Option.bind (atN [(y3.1,y3.2.1,(2:Int),y3.2.2.2)] (0:Nat)) fun (y4:Ty.El zB)=>Option.bind (atN [(y4.1,y4.2.1,y4.2.2.1,a1.2.2.2.2.2.2.2.2.2.1.2.1,y4.2.2.2.2)] (0:Nat)) fun (y5:Ty.El zB)=>bif decide (y5.2.2.2.2.1≥(1:Int)) then Option.bind (atN [(y4.1,y4.2.1,y4.2.2.1,a1.2.2.2.2.2.2.2.2.2.1.2.1,y4.2.2.2.2)] (0:Nat)) fun (y6:Ty.El zB)=>some ((y4.1,y4.2.1,y4.2.2.1,a1.2.2.2.2.2.2.2.2.2.1.2.1,y4.2.2.2.2),decide (y6.2.2.2.2.1≤(15:Int))) else some ((y4.1,y4.2.1,y4.2.2.1,a1.2.2.2.2.2.2.2.2.2.1.2.1,y4.2.2.2.2),false) else bif y0.2.1==(5:Int) then Option.bind (atN [a0] (0:Nat)) fun (y7:Ty.El zB)=>Option.bind (atN [(y7.1,y7.2.1,(1:Int),y7.2.2.2)] (0:Nat)) fun (y8:Ty.El zB)=>Option.bind (atN [(y8.1,y8.2.1,y8.2.2.1,a1.2.2.2.2.2.2.2.2.2.2.1.2.2.1,y8.2.2.2.2)] (0:Nat)) fun (y9:Ty.El zB)=>some ((y9.1,y9.2.1,y9.2.2.1,y9.2.2.2.1,y9.2.2.2.2.1,y9.2.2.2.2.2.1,y9.2.2.2.2.2.2.1,(100:Int),y9.2.2.2.2.2.2.2.2),true) else some (a0,false)
noncomputable def zAy:ElS [zF,(.sl qT),(.sl zB),tI]→Option (RTy.El (.p (.sl zB))):=fun x=>match x with|(a1,a2,a3,a4,())=>Option.bind (zN (fun (s40:Int×List (Ty.El zB))=>bif decide (s40.1< (↑(List.length a3):Int)) then Option.bind (Option.bind (idx a3 s40.1) fun (y41:Ty.El zB)=>Option.bind (zN (fun (s42:Int×List (Ty.El zB)×Int)=>bif decide (s42.1< (↑(List.length a2):Int)) then Option.bind (idx a2 s42.1) fun (y43:Ty.El qT)=>bif y43.1==y41.2.1 then some (Sum.inr (s42.1,s42.2.1)) else some (Sum.inl (IntKind.wrap IntKind.i64 (s42.1+(1:Int)),s42.2)) else some (Sum.inr (s42.2.2,s42.2.1))) ((0:Int),s40.2,(-1:Int))) fun (s44:Int×List (Ty.El zB))=>Option.bind (bif decide (s44.1< (0:Int)) then some (true,s44.2) else bif y41.2.2.2.2.2.2.2.2.2.2.2.2.1 then some (y41.2.1 !=(2:Int),s44.2) else some (false,s44.2)) fun (s45:Bool×List (Ty.El zB))=>bif s45.1 then some s45.2 else Option.bind (idx a2 s44.1) fun (y46:Ty.El qT)=>Option.bind (zFl (a1,y46,y41,())) fun (y47:Int×Int×Bool×Unit)=>bif !y47.2.2.1 then some s45.2 else Option.bind (idx a2 s44.1) fun (y48:Ty.El qT)=>Option.bind (zIW (y41.1,a4,(0:Int),(0:Int),y47.1,(0:Int),y47.2.1,(0:Int),[],(0:Int),(0:Int),[],false,()) (a1,y48,())) fun (y49:Ty.El zB×Bool)=>bif y49.2 then Option.bind (app (136:Nat) s45.2 [y49.1]) fun (y50:List (Ty.El zB))=>some y50 else some s45.2) fun (s51:List (Ty.El zB))=>some (Sum.inl (IntKind.wrap IntKind.i64 (s40.1+(1:Int)),s51)) else some (Sum.inr s40.2)) ((0:Int),[])) fun (s52:List (Ty.El zB))=>some s52
noncomputable def w5:ElS [zR,zT,tI]→Option (RTy.El (.o zB)):=fun x=>match x with|(a1,a2,a3,())=>Option.bind (bif decide (a3< (0:Int)) then some true else bif decide (a3≥(↑(List.length a1.1.1):Int)) then some true else Option.bind (idx a1.1.1 a3) fun (y1:Ty.El zF)=>some !y1.2.2.2.2.2.2.2.2.2.2.1.1) fun (s2:Bool)=>bif s2 then some [] else Option.bind (idx a1.1.1 a3) fun (y3:Ty.El zF)=>Option.bind (zCy (a1,a2.2.2.2.1,a3,())) fun (y4:List (Ty.El zB))=>Option.bind (zN (fun (s30:Int×List (Ty.El zB))=>bif decide (s30.1< (↑(List.length y3.2.2.2.2.2.2.2.2.2.2.1.2.2.2.2.1):Int)) then Option.bind (Option.bind (idx y3.2.2.2.2.2.2.2.2.2.2.1.2.2.2.2.1 s30.1) fun (y31:Ty.El zH)=>Option.bind (Option.bind (uY (a1,a3,y31,())) fun (y32:Bool)=>bif y32 then some (true,s30.2) else Option.bind (jY (y4,(y31,()),())) fun (y33:Bool)=>bif y33 then some (true,s30.2) else Option.bind (uA (a2,y31,())) fun (y34:Bool)=>some (y34,s30.2)) fun (s35:Bool×List (Ty.El zB))=>bif s35.1 then Option.bind (app (136:Nat) s35.2 [(y31,(5:Int),(1:Int),y3.2.2.2.2.2.2.2.2.2.2.1.2.2.1,(0:Int),(0:Int),(0:Int),(100:Int),[],(0:Int),(0:Int),[],false,())]) fun (y36:List (Ty.El zB))=>some y36 else some s35.2) fun (s37:List (Ty.El zB))=>some (Sum.inl (IntKind.wrap IntKind.i64 (s30.1+(1:Int)),s37)) else some (Sum.inr s30.2)) ((0:Int),[])) fun (s38:List (Ty.El zB))=>Option.bind (zN (fun (s53:Int×List (Ty.El zB))=>bif decide (s53.1< (↑(List.length y3.2.2.2.2.2.2.2.2.2.2.1.2.2.2.2.2.2.1):Int)) then Option.bind (Option.bind (idx y3.2.2.2.2.2.2.2.2.2.2.1.2.2.2.2.2.2.1 s53.1) fun (y54:Ty.El zBb)=>Option.bind (zCl (a2.2.2.2.1,y54.2.1,())) fun (y55:Int)=>bif decide (y55< (0:Int))==y54.2.2.1 then Option.bind (app (136:Nat) s53.2 [(y54.1,(5:Int),(1:Int),y3.2.2.2.2.2.2.2.2.2.2.1.2.2.1,(0:Int),(0:Int),(0:Int),(100:Int),[],(0:Int),(0:Int),[],false,())]) fun (y56:List (Ty.El zB))=>some y56 else some s53.2) fun (s57:List (Ty.El zB))=>some (Sum.inl (IntKind.wrap IntKind.i64 (s53.1+(1:Int)),s57)) else some (Sum.inr s53.2)) ((0:Int),s38)) fun (s58:List (Ty.El zB))=>Option.bind (zAy (y3,y3.2.2.2.2.2.2.2.2.2.2.1.2.2.2.2.2.2.2.1,a2.2.2.2.1,(5:Int),())) fun (y59:List (Ty.El zB))=>Option.bind (app (136:Nat) s58 y59) fun (y60:List (Ty.El zB))=>Option.bind (zN (fun (s74:Int×List (Ty.El zB))=>bif decide (s74.1< (↑(List.length y3.2.2.2.2.2.2.2.2.2.2.1.2.2.2.2.2.1):Int)) then Option.bind (Option.bind (idx y3.2.2.2.2.2.2.2.2.2.2.1.2.2.2.2.2.1 s74.1) fun (y75:Ty.El jQ)=>Option.bind (jX (a2.2.2.1,(y75,()),())) fun (y76:Bool)=>bif y76 then Option.bind (app (136:Nat) s74.2 [(y75.1,(5:Int),(2:Int),y3.2.2.2.2.2.2.2.2.2.2.1.2.2.1,(0:Int),(0:Int),(0:Int),(100:Int),[],(0:Int),(0:Int),[],true,())]) fun (y77:List (Ty.El zB))=>some y77 else some s74.2) fun (s78:List (Ty.El zB))=>some (Sum.inl (IntKind.wrap IntKind.i64 (s74.1+(1:Int)),s78)) else some (Sum.inr s74.2)) ((0:Int),y60)) fun (s79:List (Ty.El zB))=>some s79
noncomputable def uX:ElS [zR,zW,(.sl zB)]→Option (RTy.El (.p (.sl zB))):=fun x=>match x with|(a1,a2,a3,())=>Option.bind (zN (fun (s16:Int×List (Ty.El zB))=>bif decide (s16.1< (↑(List.length a3):Int)) then Option.bind (Option.bind (idx a3 s16.1) fun (y17:Ty.El zB)=>Option.bind (x8 (a1,a2,y17,())) fun (y18:Ty.El zB×Bool×Unit)=>bif !y18.2.1 then some s16.2 else Option.bind (x7 (a1,a2,y18.1,())) fun (y19:Ty.El zB×Bool×Unit)=>bif y19.2.1 then Option.bind (app (136:Nat) s16.2 [y19.1]) fun (y20:List (Ty.El zB))=>some y20 else some s16.2) fun (s21:List (Ty.El zB))=>some (Sum.inl (IntKind.wrap IntKind.i64 (s16.1+(1:Int)),s21)) else some (Sum.inr s16.2)) ((0:Int),[])) fun (s22:List (Ty.El zB))=>some s22
noncomputable def yK:ElS [zR,(.sl zT),tI]→Option (RTy.El (.p (.sl zB))):=fun x=>match x with|(a1,a2,a3,())=>Option.bind (bif decide (a3< (0:Int)) then some true else bif decide (a3≥(↑(List.length a1.1.1):Int)) then some true else bif decide (a3≥(↑(List.length a2):Int)) then some true else Option.bind (idx a1.1.1 a3) fun (y1:Ty.El zF)=>some !y1.2.2.2.2.2.2.2.2.2.2.1.1) fun (s2:Bool)=>bif s2 then some [] else Option.bind (idx a2 a3) fun (y5:Ty.El zT)=>Option.bind (w5 (a1,y5,a3,())) fun (y6:List (Ty.El zB))=>Option.bind (Option.bind (idx a1.1.1 a3) fun (y92:Ty.El zF)=>zN (fun (s93:Int×List (Ty.El zB))=>bif decide (s93.1< (↑(List.length y92.2.2.1):Int)) then Option.bind (Option.bind (wF (a1,a3,s93.1,())) fun (y94:List (Ty.El zW))=>zN (fun (s95:Int×List (Ty.El zB))=>bif decide (s95.1< (↑(List.length y94):Int)) then Option.bind (Option.bind (idx y94 s95.1) fun (y96:Ty.El zW)=>bif decide (y96.1< (↑(List.length a2):Int)) then Option.bind (idx a2 y96.1) fun (y97:Ty.El zT)=>Option.bind (uX (a1,y96,y97.2.2.1,())) fun (y98:List (Ty.El zB))=>Option.bind (app (136:Nat) s95.2 y98) fun (y99:List (Ty.El zB))=>some y99 else some s95.2) fun (s100:List (Ty.El zB))=>some (Sum.inl (IntKind.wrap IntKind.i64 (s95.1+(1:Int)),s100)) else some (Sum.inr s95.2)) ((0:Int),s93.2)) fun (s101:List (Ty.El zB))=>some (Sum.inl (IntKind.wrap IntKind.i64 (s93.1+(1:Int)),s101)) else some (Sum.inr s93.2)) ((0:Int),y6)) fun (s102:List (Ty.El zB))=>Option.bind (zD8 (s102,())) fun (y103:List (Ty.El zB))=>some y103
noncomputable def zCB:ElS [zQ,(.sl tI),(.sl zT)]→Option (RTy.El (.p .bool)):=fun x=>match x with|(a1,a2,a3,())=>Option.bind (zFE (a1,a2,())) fun (y0:Ty.El zR×Bool×Unit)=>Option.bind (bif !y0.2.1 then some true else Option.bind (zEd (y0.1,a3,())) fun (y2:Bool)=>some !y2) fun (s3:Bool)=>bif s3 then some true else q8 (zN (fun (s72:Int)=>bif decide (s72< (↑(List.length a3):Int)) then q8 (Option.bind (idx a3 s72) fun (y73:Ty.El zT)=>Option.bind (w5 (y0.1,y73,s72,())) fun (y74:List (Ty.El zB))=>Option.bind (yK (y0.1,a3,s72,())) fun (y75:List (Ty.El zB))=>Option.bind (v8 (y75,(5:Int),())) fun (y76:Bool)=>bif !y76 then some (Sum.inr (Sum.inr (Sum.inr false))) else zN (fun (s77:Int×List (Ty.El zB))=>bif decide (s77.1< (↑(List.length s77.2):Int)) then Option.bind (idx s77.2 s77.1) fun (y78:Ty.El zB)=>Option.bind (atN s77.2 (Int.toNat s77.1)) fun (y79:Ty.El zB)=>Option.bind (zFn (y75,y79.1,())) fun (y80:Int)=>Option.bind (bif decide (y80< (0:Int)) then some (true,s77.2) else Option.bind (idx y75 y80) fun (y81:Ty.El zB)=>Option.bind (idx s77.2 s77.1) fun (y82:Ty.El zB)=>Option.bind (atN s77.2 (Int.toNat s77.1)) fun (y83:Ty.El zB)=>some (decide (y81.2.2.1>y83.2.2.1),s77.2)) fun (s84:Bool×List (Ty.El zB))=>bif s84.1 then some (Sum.inr (Sum.inr (Sum.inr (Sum.inr false)))) else some (Sum.inl (IntKind.wrap IntKind.i64 (s77.1+(1:Int)),s84.2)) else some (Sum.inr (Sum.inl ()))) ((0:Int),y74)) fun (s85:Unit)=>some (Sum.inl (IntKind.wrap IntKind.i64 (s72+(1:Int)))) else some (Sum.inr (Sum.inl ()))) (0:Int)) fun (s86:Unit)=>Option.bind (zN5 ()) fun (y87:Bool)=>some y87
end Go.Ve

namespace Go.Ve
open Go
set_option maxRecDepth 1000000
set_option maxHeartbeats 4000000
def orL:List Int→Int
 |[]=>0
 |a::r=>if a=0 then orL r else a
theorem zL3 (l:List Int) (hl:l.length<1000):zBi (l,())=some (orL l):=by
 refine j2 ?_
 unfold zBi
 dsimp only
 refine zA5 (xs:=l) (by omega) (fun i=>orL l=orL (l.drop i)) rfl ?_ (fun h=>zA ?_)
 ·intro i x hx hj
  have hi:=(List.getElem?_eq_some_iff.1 hx).1
  have hd:l.drop i=x::l.drop (i+1):=by
   rw [List.drop_eq_getElem_cons hi]
   congr 1
   exact (List.getElem?_eq_some_iff.1 hx).2
  rw [hd] at hj
  simp only [zJ hx,Option.bind_some]
  refine zD (fun h=>zA (e2r (e2r ?_))) (fun h=>zA (e2l ⟨rfl,?_⟩))
  ·have h: ¬x=0:=by simpa using h
   rw [hj]
   simp only [orL,if_neg h]
  ·have h:x=0:=by simpa using h
   rw [hj]
   simp only [orL,if_pos h]
 ·rw [h,List.drop_length]
  rfl
def qBg (a b:Int):Int:=if a<b then-1 else if b<a then 1 else 0
theorem zQN: ∀ (l:List (Int×Int)),orL (l.map (fun p=>qBg p.1 p.2))=zFR l
 |[]=>rfl
 |(a,b)::r=>by
  have ih:=zQN r
  simp only [List.map_cons,orL,zFR,ih]
  unfold qBg
  by_cases h1:a<b
  ·simp [h1]
  ·by_cases h2:b<a
   ·simp [h1,h2]
   ·simp [h1,h2]
theorem zFi (a b:Ty.El qP):x5 (a,b,())=some (zLp a b):=by
 refine j2 ?_
 unfold x5
 dsimp only
 refine zC (z7 (zBc _ _) (zC (z7 (zIQ _ _) (zC (z7 (zL3 _ (by simp)) (zA ?_))))))
 have:=zQN [(a.1,b.1),(a.2.1,b.2.1)]
 refine this.trans ?_
 simp only [zFR,zLp,zKO]
theorem zEf (a b:Ty.El qP):Go.Proofs.ltOf zLp a b=true↔hlt a b:=by
 unfold Go.Proofs.ltOf zLp hlt
 rw [decide_eq_true_eq]
 exact zRl
theorem zVr:Go.Sort.SWO (Go.Proofs.ltOf zLp) where
 irrefl:=fun x=>by
  cases h:Go.Proofs.ltOf zLp x x with
  |false=>rfl
  |true=>have:=(zEf x x).1 h;unfold hlt zD1 at this;omega
 trans:=fun x y z h1 h2=>by
  have h1:=(zEf x y).1 h1
  have h2:=(zEf y z).1 h2
  refine (zEf x z).2 ?_
  unfold hlt zD1 at*;omega
 ntrans:=fun x y z h1 h2=>by
  have h1: ¬hlt x y:=fun h=>by rw [(zEf x y).2 h] at h1;cases h1
  have h2: ¬hlt y z:=fun h=>by rw [(zEf y z).2 h] at h2;cases h2
  cases h:Go.Proofs.ltOf zLp x z with
  |false=>rfl
  |true=>have:=(zEf x z).1 h;exfalso;unfold hlt zD1 at*;omega
end Go.Ve

namespace Go.Ve
open Go
set_option maxRecDepth 1000000
set_option maxHeartbeats 4000000
structure PvS (x:Ty.El zB):Prop where
 proto:x.2.1=5
 pref:0≤x.2.2.2.2.2.2.2.1∧x.2.2.2.2.2.2.2.1≤1000000
 frm:0≤x.2.2.2.2.2.2.2.2.2.1∧x.2.2.2.2.2.2.2.2.2.1<4294967296
theorem zWA {a b c:Int} {r:List (Int×Int)} :zFR ((c-a,c-b)::r)=zFR ((b,a)::r):=by
 simp only [zFR]
 by_cases h1:b<a
 ·rw [if_pos (show c-a<c-b by omega),if_pos h1]
 ·rw [if_neg (show ¬c-a<c-b by omega),if_neg h1]
  by_cases h2:a<b
  ·rw [if_pos (show c-b<c-a by omega),if_pos h2]
  ·rw [if_neg (show ¬c-b<c-a by omega),if_neg h2]
theorem zDr {a b:Int} {r r':List (Int×Int)} (h:zFR r=zFR r'):zFR ((a,b)::r)=zFR ((a,b)::r'):=by
 simp only [zFR,h]
theorem zIN (x y:Ty.El zB) (hx:PvS x) (hy:PvS y):xC (x,y,())=some (xL x y):=by
 refine j2 ?_
 have k1:(x.2.1==(1:Int))=false:=by rw [hx.proto];rfl
 have k2:(x.2.1==(2:Int))=false:=by rw [hx.proto];rfl
 have k3:(x.2.1==(3:Int))=false:=by rw [hx.proto];rfl
 have k4:(x.2.1==(4:Int))=false:=by rw [hx.proto];rfl
 have k5:(x.2.1==(5:Int))=true:=by rw [hx.proto];rfl
 have l3:(y.2.1==(3:Int))=false:=by rw [hy.proto];rfl
 have l4:(y.2.1==(4:Int))=false:=by rw [hy.proto];rfl
 have l5:(y.2.1==(5:Int))=true:=by rw [hy.proto];rfl
 unfold xC
 dsimp only
 rw [k1,k2,k3,k4,k5]
 simp only [cond_false,cond_true,Option.bind_some]
 have ho: ∀z:Ty.El zB,zDc (z,())=some (if (3:Int)<z.2.2.1 then (3:Int) else z.2.2.1):=fun z=>rfl
 refine zC (z7 (ho x) (zC (z7 (ho y) ?_)))
 refine zC (z7 (zBc _ _) (zC (z7 (zBc _ _) (zC (z7 (zBc _ _) (zC (z7 (zBc _ _) (zC (z7 (zBc _ _) (zC (z7 (zIQ _ _) (zC (z7 (zL3 _ (by simp)) (zA ?_))))))))))))))
 have:=zQN [((if (3:Int)<x.2.2.1 then (3:Int) else x.2.2.1),(if (3:Int)<y.2.2.1 then (3:Int) else y.2.2.1)),(y.2.2.2.2.2.2.2.1,x.2.2.2.2.2.2.2.1),((x.2.2.2.2.2.2.2.2.1.length:Int),(y.2.2.2.2.2.2.2.2.1.length:Int)),(x.2.2.2.2.1,y.2.2.2.2.1),(x.2.2.1,y.2.2.1),(x.2.2.2.2.2.2.2.2.2.1,y.2.2.2.2.2.2.2.2.2.1)]
 refine this.trans ?_
 have u1: ∀a:Int,0≤a→a≤1000000→IntKind.wrap IntKind.i64 ((1000000:Int) -a)=(1000000:Int) -a:=fun a h0 h1=>zG (by omega) (by omega)
 have u2: ∀a:Int,0≤a→a<4294967296→IntKind.wrap IntKind.i64 a=a:=fun a h0 h1=>zG (by omega) (by omega)
 have w: ∀z:Ty.El zB,PvS z→IntKind.wrap IntKind.i64 ((1000000:Int) -z.2.2.2.2.2.2.2.1)=(1000000:Int) -z.2.2.2.2.2.2.2.1:=fun z hz=>u1 _ hz.pref.1 hz.pref.2
 have w2: ∀z:Ty.El zB,PvS z→IntKind.wrap IntKind.i64 z.2.2.2.2.2.2.2.2.2.1=z.2.2.2.2.2.2.2.2.2.1:=fun z hz=>u2 _ hz.frm.1 hz.frm.2
 unfold xL wC
 rw [k3,k4,k5,l3,l4,l5]
 simp only [cond_false,cond_true]
 rw [w x hx,w y hy,w2 x hx,w2 y hy]
 refine zDr (Eq.trans ?_ zWA.symm)
 refine zDr (zDr (zDr (zDr (zDr ?_))))
 simp [zFR]
structure PvR (x:Ty.El zB):Prop where
 pre:vB x.1=true
 tag:0≤x.2.2.2.2.2.2.1∧x.2.2.2.2.2.2.1≤65535
 adm:1≤x.2.2.2.1∧x.2.2.2.1≤255
 met:0≤x.2.2.2.2.1∧x.2.2.2.2.1≤16777215
 pref:0≤x.2.2.2.2.2.2.2.1∧x.2.2.2.2.2.2.2.1≤1000000
 path:x.2.2.2.2.2.2.2.2.1.length≤64
 sys: ∀a,a∈x.2.2.2.2.2.2.2.2.1→1≤a∧a≤65535
 hop:x.2.2.2.2.2.2.2.2.2.2.2.1.length≤1
theorem zT3 (x:Ty.El zB):Wp (wT (x,false,true,false,())) (fun _=>True):=by
 unfold wT
 dsimp only
 repeat' (first
  |exact zA trivial
  |refine zC (Wp.mono (Q:=fun _=>True) ?_ (fun _ _=> ?_))
  |refine zD (fun _=> ?_) (fun _=> ?_))
theorem zUJ (x:Ty.El zB) (hs:RtS x) (h5:x.2.1=5):Wp (jJ (x,())) (fun b=>b=true→PvR x):=by
 unfold jJ
 dsimp only
 refine zC ((show Wp _ (fun s:Bool=>s=false→vB x.1=true∧(0≤x.2.2.2.2.2.2.1∧x.2.2.2.2.2.2.1≤65535)∧x.2.2.2.2.2.2.2.2.1.length≤64) from ?_).mono (fun s hs'=> ?_))
 ·refine zC (z7 (wS _) (zD (fun _=>zA (fun h=>by cases h)) (fun h1=>zC (z7 (q9 _ _ _) (zD (fun _=>zA (fun h=>by cases h)) (fun h2=>zA (fun h3=>⟨by simpa using h1,by simpa using h2,?_⟩)))))))
  have:=of_decide_eq_false h3
  omega
 refine zD (fun _=>zA (fun h=>by cases h)) (fun h=> ?_)
 obtain ⟨g1,g2,g3⟩:=hs' h
 refine zAb (P:=fun a:Int=>1≤a∧a≤65535) (by omega) ?_ (fun hsy=> ?_)
 ·intro i y hy
  simp only [zJ hy,Option.bind_some]
  exact zC (z7 (q9 _ _ _) (zD (fun _=>zA (fun h=>by cases h)) (fun h=>zA (e2l ⟨rfl,by simpa using h⟩))))
 ·have k1:(x.2.1==(1:Int))=false:=by rw [h5];rfl
  have k2:(x.2.1==(2:Int))=false:=by rw [h5];rfl
  have k3:(x.2.1==(3:Int))=false:=by rw [h5];rfl
  have k4:(x.2.1==(4:Int))=false:=by rw [h5];rfl
  have k5:(x.2.1==(5:Int))=true:=by rw [h5];rfl
  rw [k1,k2,k3,k4,k5]
  simp only [cond_false,cond_true]
  refine zC (Wp.mono (Q:=fun b=>b=true→PvR x) ?_ (fun b hb=>zA hb))
  unfold vN
  dsimp only
  refine zC ((show Wp _ (fun s:Bool=>s=false→(1≤x.2.2.2.1∧x.2.2.2.1≤255)∧(0≤x.2.2.2.2.1∧x.2.2.2.2.1≤16777215)∧(0≤x.2.2.2.2.2.2.2.1∧x.2.2.2.2.2.2.2.1≤1000000)) from ?_).mono (fun s hs2=> ?_))
  ·refine zC (z7 (q9 _ _ _) (zD (fun _=>zA (fun h=>by cases h)) (fun q1=> ?_)))
   refine zC (z7 (q9 _ _ _) (zD (fun _=>zA (fun h=>by cases h)) (fun q2=> ?_)))
   refine zC (z7 (q9 _ _ _) (zD (fun _=>zA (fun h=>by cases h)) (fun q3=> ?_)))
   exact zC ((zT3 x).mono (fun b _=>zA (fun _=>⟨by simpa using q1,by simpa using q2,by simpa using q3⟩)))
  refine zD (fun _=>zA (fun h=>by cases h)) (fun h6=> ?_)
  obtain ⟨g4,g5,g6⟩:=hs2 h6
  have hh:=hs.hops
  have hho: ∀d,Wp (jV (x.2.2.2.2.2.2.2.2.2.2.2.1,d,())) (fun _=>True):=fun d=>u9 _ _ hh
  have fin:x.2.2.2.2.2.2.2.2.2.2.2.1.length≤1→PvR x:=fun h1=>⟨g1,g2,g4,g5,g6,g3,hsy,h1⟩
  have f0:((x.2.2.2.2.2.2.2.2.2.2.2.1.length:Int)==(0:Int))=true→PvR x:=fun h=>fin (by
   have:(x.2.2.2.2.2.2.2.2.2.2.2.1.length:Int)=0:=by simpa using h
   omega)
  have f1:((x.2.2.2.2.2.2.2.2.2.2.2.1.length:Int)==(1:Int))=true→PvR x:=fun h=>fin (by
   have:(x.2.2.2.2.2.2.2.2.2.2.2.1.length:Int)=1:=by simpa using h
   omega)
  have hi:((x.2.2.2.2.2.2.2.2.2.2.2.1.length:Int)==(1:Int))=true→ ∃y,x.2.2.2.2.2.2.2.2.2.2.2.1[0]? =some y:=fun h=>by
   have:(x.2.2.2.2.2.2.2.2.2.2.2.1.length:Int)=1:=by simpa using h
   exact ⟨_,List.getElem?_eq_getElem (by omega)⟩
  have hrest : Wp (bif x.2.2.2.2.2.2.2.2.2.1 != (0 : Int) then
           bif (↑(List.length x.2.2.2.2.2.2.2.2.2.2.2.1):Int)==(1:Int) then
            Option.bind (jV (x.2.2.2.2.2.2.2.2.2.2.2.1,false,())) fun (y20:Bool)=>
             bif y20 then
              Option.bind (idx x.2.2.2.2.2.2.2.2.2.2.2.1 (0:Int)) fun (y21:Ty.El qP)=>
               bif y21.2.1==x.2.2.2.2.2.2.2.2.2.1 then some !x.2.2.2.2.2.2.2.2.2.2.2.2.1 else some false
             else some false
           else some false
                  else some false) (fun b=>b=true→PvR x):=by
   refine zD (fun _=> ?_) (fun _=>zA (fun h=>by cases h))
   refine zD (fun h1=> ?_) (fun _=>zA (fun h=>by cases h))
   refine zC ((hho _).mono (fun _ _=> ?_))
   refine zD (fun _=> ?_) (fun _=>zA (fun h=>by cases h))
   obtain ⟨y,hy⟩:=hi h1
   have hy0:idx x.2.2.2.2.2.2.2.2.2.2.2.1 (0:Int)=some y:=zJ (i:=0) hy
   refine zC (z7 hy0 ?_)
   exact zD (fun _=>zA (fun _=>f1 h1)) (fun _=>zA (fun h=>by cases h))
  refine zC (Wp.mono (Q:=fun _=>True) (zD (fun _=>zA trivial) (fun _=>zA trivial)) (fun s9 _=> ?_))
  refine zD (fun _=> ?_) (fun _=> ?_)
  ·refine zC (Wp.mono (Q:=fun b=>b=true→PvR x) ?_ (fun b hb=>zA hb))
   refine zD (fun _=>zD (fun _=>zD (fun h=>zA (fun _=>f0 h)) (fun _=> ?_)) (fun _=> ?_)) (fun _=> ?_)
   all_goals exact zA (fun h=>by cases h)
  ·refine zC (Wp.mono (Q:=fun _=>True) (zD (fun _=>zA trivial) (fun _=>zA trivial)) (fun s11 _=> ?_))
   refine zD (fun _=> ?_) (fun _=>zA (fun h=>by cases h))
   refine zC (Wp.mono (Q:=fun b=>b=true→PvR x) ?_ (fun b hb=>zA hb))
   refine zD (fun _=>hrest) (fun _=>zD (fun _=>hrest) (fun _=>zA (fun h=>by cases h)))
end Go.Ve
