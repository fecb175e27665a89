/-
  slices.Compact as a function that a list is handed to for good.
  The kit's word for what slices.Compact leaves, as a function on lists.
-/
import Derived.Test.YtcnlcmbchljpgaaGreatQb1
import Derived.Test.YtcnlcmbchljpgaaGreatQb13
import Derived.Test.YtcnlcmbchljpgaaGreatQb14
set_option linter.unusedVariables false
namespace Go.Ve
open Go Go.Proofs Go.Shelf Go.RowKit Go.Lib Go.Sort
theorem zUd {w:World} {F:Blk→Prop} {b k cap:Nat} {es es':List V} (h:z2 w F b k cap (es++es')):z2 w F b k cap es:=by
 obtain ⟨c,et,h1,h2,h3,h4,h5⟩:=h
 refine ⟨c,et,h1,h2,?_,fun e he=>h4 e (List.mem_append_left _ he),?_⟩
 ·simp only [List.length_append] at h3;omega
 ·intro i j e d x he hd hx
  refine h5 i j e d x ?_ hd hx
  rw [List.getElem?_append_left (List.getElem?_eq_some_iff.1 he).1]
  exact he
section
variable {α:Type} [Inhabited α] [DecidableEq α]
theorem zQr (d:Array α) (m:Nat):(compactUpTo d m).length≤m:=by
 unfold compactUpTo
 rw [List.length_map]
 exact Nat.le_trans (List.length_filter_le _ _) (by simp)
theorem zRT (d:Array α) {m:Nat} (h:0<m):compactUpTo d m≠[]:=by
 unfold compactUpTo
 rw [Ne,List.map_eq_nil_iff]
 exact List.ne_nil_of_mem (List.mem_filter.2 ⟨List.mem_range.2 h,keeps_lt_one d 0 (by omega)⟩)
end
theorem zU7 {P:Program} {T:TypeId} {t:Ty} (hfl:t.flat=true) {eq:t.El→t.El→Bool} (hq:P.eqGuardType P.depth T=false)
  (h: ∀x y,eqV (jG.of P) 10000 T (.agg (t.cells x)) (.agg (t.cells y))=some (eq x y)):EqlAt P T (fun x=> .agg (t.vals x).toArray) eq∧NeqAt P T (fun x=> .agg (t.vals x).toArray) eq:=by
 have he: ∀x y w,(Op.equal T (.agg (t.vals x).toArray) (.agg (t.vals y).toArray)).run P w= .ok (eq x y) w:=fun x y w=>
  zJh (P:=P) (w:=w) (F:=fun _=>False) 10000 T _ _ _ _ _ (zKH hfl x) (zKH hfl y) (h x y)
 have hg:GuardAt P T (fun x=> .agg (t.vals x).toArray):=GuardAt.agg (fun x=>(t.vals x).toArray) hq
 refine ⟨⟨fun x y w=> ?_,hg⟩,⟨fun x y w=> ?_,hg⟩⟩
 ·have hform:binOp .eql T (.agg (t.vals x).toArray) (.agg (t.vals y).toArray)=(do pure (.bool (←Op.equal T (.agg (t.vals x).toArray) (.agg (t.vals y).toArray)))):=rfl
  rw [hform]
  simp only [Sem.run_bind,he,Result.andThen_ok,Sem.run_pure]
 ·have hform:binOp .neq T (.agg (t.vals x).toArray) (.agg (t.vals y).toArray)=(do pure (.bool (!(←Op.equal T (.agg (t.vals x).toArray) (.agg (t.vals y).toArray))))):=rfl
  rw [hform]
  simp only [Sem.run_bind,he,Result.andThen_ok,Sem.run_pure]
theorem zMV {P:Program} {ρ:Ren} {f:FuncId} {a b:Ty} [Inhabited (Ty.pair a b).El] [DecidableEq (Ty.pair a b).El] (hfl:(Ty.pair a b).flat=true) (L:zSe P ρ) (hf:f=ρ.f 43)
  (aE: ∀w,(isAgg (ρ.t 23)).run P w= .ok true w) (zE: ∀w,(Go.sizeOf (ρ.t 23)).run P w= .ok (Ty.pair a b).size w) (zr:(Ty.pair a b).El) (v23: ∀w,(zeroValue (ρ.t 23)).run P w= .ok (.agg ((Ty.pair a b).vals zr).toArray) w)
  (hq:P.eqGuardType P.depth (ρ.t 23)=false) (he: ∀x y,eqV (jG.of P) 10000 (ρ.t 23) (.agg ((Ty.pair a b).cells x)) (.agg ((Ty.pair a b).cells y))=some (decide (x=y)))
  (hnil:zAZ jI P (fun _=>none) f () (.pair a b) [] [] () [] .bot):
  zSR jI P (fun _=>none) f (.pair a b) (vX []) (fun xs _=>if xs.length<1099511627776 then some (compact xs) else none):=by
 intro s xs r x ys hdec hg2
 have hr:r=[]:=by
  cases r with
  |nil=>rfl
  |cons d r=>cases hdec
 subst hr
 simp only at hg2
 split at hg2
 ·rename_i hl
  simp only [Option.some.injEq] at hg2
  subst hg2
  by_cases hx:xs=[]
  ·subst hx
   exact hnil
  ·refine zAZ.of rfl ?_
   intro w F O blk v0 args hR hG hF hown hb hsz ha0 hrest
   have hxm:xs.map (Ty.pair a b).enc≠[]:=by simpa using hx
   rcases hown with ⟨h,_⟩|⟨_,_,cap,hv0,hrow⟩
   ·exact absurd h hxm
   simp only at hv0 hrow
   obtain ⟨hb1,hb2,hb3⟩:=hb hx
   match args,hsz with
   |⟨[u0]⟩,_=>
    simp at ha0
    subst ha0
    have hcap:xs.length≤cap:=by
     obtain ⟨_,_,_,_,h3,_⟩:=hrow
     simpa using h3
    obtain ⟨k1,k2⟩:=zU7 (t:= .pair a b) hfl hq he
    rw [hv0,List.length_map,hf]
    have hcall:=zKb L (Ty.pair a b).size aE zE (Ty.pair a b).vals (fun x=>zEN _ x hfl) (fun x v hv=>zO7 _ x v hv) k1 k2 zr v23 blk 0 cap xs.toArray w (zNB hfl hrow) (by simp;omega) (by simpa using hcap)
    simp only [List.size_toArray] at hcall
    refine hcall.mono ?_
    rintro e w' ⟨rfl,q,rfl⟩
    have hcl:=zQr xs.toArray xs.length
    have hxl:0<xs.length:=List.length_pos_iff.2 hx
    have hne:=zRT xs.toArray hxl
    have hw:putRowK (Ty.pair a b).vals (Ty.pair a b).size (Sort.ahead w q) blk 0 (compactUpTo xs.toArray xs.length++List.replicate (xs.length- (compactUpTo xs.toArray xs.length).length) zr).toArray=
      sortWorldK (Ty.pair a b).vals (Ty.pair a b).size w blk 0 q (compactUpTo xs.toArray xs.length++List.replicate (xs.length- (compactUpTo xs.toArray xs.length).length) zr).toArray #[]:=by
     unfold sortWorldK
     rw [grow_empty]
    rw [hw]
    have hrs:=zLc (F':=F) (n:=q) (os:= #[]) hfl hrow (d:=(compactUpTo xs.toArray xs.length++List.replicate (xs.length- (compactUpTo xs.toArray xs.length).length) zr).toArray) (by simp;omega)
    simp only [List.map_append] at hrs
    refine ⟨_,F,O,rfl,hR,⟨rfl,rfl,rfl,?_,?_,?_⟩,fun _ h=> .inl h,fun _ h=>h,fun c hc'=>⟨.inl hc',?_,(hF c hc').2⟩, .inr ⟨?_,trivial,cap,?_,zUd hrs⟩,fun h=>absurd h hx⟩
    ·simp [sortWorldK,grow,putRowK,putRow,mapBlock,Sort.ahead]
    ·intro i hi hno
     exact zMq hi (fun h=>hno (.inr ⟨hx,h⟩)) _ _ _ _ _ _
    ·simp [sortWorldK,grow,putRowK,putRow,mapBlock,Sort.ahead]
    ·have:=(hF c hc').1
     simp [sortWorldK,grow,putRowK,putRow,mapBlock,Sort.ahead]
     omega
    ·simpa [compact] using hne
    ·rw [List.length_map];rfl
 ·cases hg2
theorem zVU {P:Program} {G:Nat→Option (List V)} {f:FuncId} {t:Ty} {ds:List V} (hnb:zCc ds=none) (h: ∀a:Option Addr, ∃S,j7 jI P G f S∧S () (.val (.slice a 0 0)::ds)=some ((), .p (.val (.slice a 0 0)))):
  zAZ jI P G f () t [] ds () [] .bot:=by
 refine zAZ.of hnb ?_
 intro w F O b v0 args hR hG hF hown _ hsz ha0 hrest
 have hv: ∃a,v0= .slice a 0 0:=by
  rcases hown with ⟨_,h⟩|⟨h,_⟩
  ·exact h
  ·exact absurd rfl h
 obtain ⟨a,rfl⟩:=hv
 obtain ⟨S,hS,hs⟩:=h a
 have hcall:=hS w F O () args (.val (.slice a 0 0)::ds) () (.p (.val (.slice a 0 0))) hR hG hF (by simpa using hsz) (by
  intro i v d hi hd
  match i with
  |0=>
   simp at hd
   subst hd
   rw [ha0] at hi
   cases hi
   exact .val _
  |i+1=>exact hrest i v d hi (by simpa using hd)) hs
 refine hcall.mono ?_
 rintro e w' ⟨v,F',O',rfl,h1,h2,h3,h4,h5,h6⟩
 have hv:v= .slice a 0 0:=Rd.eq_val h6
 subst hv
 exact ⟨_,F',O',rfl,h1,⟨h2.os,h2.tape,h2.output,h2.size,fun c hc ho=>h2.block c hc (fun hh=>ho (.inl hh)),h2.drawn⟩,h3,h4,h5, .inl ⟨rfl,a,rfl⟩,fun _=>rfl⟩
end Go.Ve

namespace Go.Ve
open Go Go.Lib
theorem zGr {α:Type} {eq:α→α→Bool} (he: ∀x y,eq x y=true↔x=y) (x:α): ∀l:List α,wM eq (l++[x])=wM eq l++(match l.getLast? with|some y=>bif eq y x then [] else [x]|none=>[x])
 |[]=>rfl
 |[y]=>by
  simp only [List.cons_append,List.nil_append,wM,List.getLast?_singleton]
  cases h:eq y x with
  |true=>rw [(he y x).1 h];rfl
  |false=>rfl
 |a::b::r=>by
  have ih:=zGr he x (b::r)
  simp only [List.cons_append] at ih ⊢
  simp only [wM,List.getLast?_cons_cons] at ih ⊢
  cases eq a b with
  |true=>exact ih
  |false=>simp only [cond_false,List.cons_append];rw [ih]
theorem zES {α:Type} [Inhabited α] (l:List α) (j:Nat):l.toArray[j]! =l[j]! :=by
 rw [List.getElem!_eq_getElem?_getD,Array.getElem!_eq_getD,Array.getD_eq_getD_getElem?,List.getElem?_toArray]
section
variable {α:Type} [Inhabited α] [DecidableEq α]
theorem zIy {d d':Array α} {m:Nat} (h: ∀j,j<m→d[j]! =d'[j]!):compactUpTo d m=compactUpTo d' m:=by
 unfold compactUpTo
 have h1:(List.range m).filter (keeps d)=(List.range m).filter (keeps d'):=by
  refine List.filter_congr (fun j hj=> ?_)
  have hj:=List.mem_range.1 hj
  unfold keeps
  rw [h j hj,h (j-1) (by omega)]
 rw [h1]
 refine List.map_congr_left (fun j hj=> ?_)
 exact h j (List.mem_range.1 (List.mem_filter.1 hj).1)
theorem zOS (l:List α) (x:α):compact (l++[x])=compact l++(if keeps (l++[x]).toArray l.length then [x] else []):=by
 unfold compact
 have h1:(l++[x]).length=l.length+1:=by simp
 rw [h1,compactUpTo_succ]
 have h2:compactUpTo (l++[x]).toArray l.length=compactUpTo l.toArray l.length:=by
  refine zIy (fun j hj=> ?_)
  rw [zES,zES,List.getElem!_eq_getElem?_getD,List.getElem!_eq_getElem?_getD,List.getElem?_append_left hj]
 have h3:(l++[x]).toArray[l.length]! =x:=by
  rw [zES,List.getElem!_eq_getElem?_getD]
  simp
 rw [h2,h3]
theorem zMn {eq:α→α→Bool} (he: ∀x y,eq x y=true↔x=y): ∀ (n:Nat) (l:List α),l.length=n→compact l=wM eq l
 |0,l,h=>by
  have:l=[]:=List.eq_nil_of_length_eq_zero h
  subst this
  rfl
 |n+1,l,h=>by
  have hne:l≠[]:=fun hh=>by rw [hh] at h;cases h
  obtain ⟨r,x,rfl⟩: ∃r x,l=r++[x]:=⟨l.dropLast,l.getLast hne,(List.dropLast_concat_getLast hne).symm⟩
  have hr:r.length=n:=by simpa using h
  rw [zOS,zGr he,zMn he n r hr]
  congr 1
  have h3:(r++[x]).toArray[r.length]! =x:=by
   rw [zES,List.getElem!_eq_getElem?_getD]
   simp
  cases hg:r.getLast? with
  |none=>
   have h0:r=[]:=List.getLast?_eq_none_iff.1 hg
   subst h0
   rfl
  |some y=>
   obtain ⟨r',rfl⟩:=List.getLast?_eq_some_iff.1 hg
   have h4:(r'++[y]++[x]).toArray[(r'++[y]).length-1]! =y:=by
    rw [zES,List.getElem!_eq_getElem?_getD]
    simp
   have h5:keeps (r'++[y]++[x]).toArray (r'++[y]).length= !(eq y x):=by
    unfold keeps
    rw [h3,h4,Bool.eq_iff_iff]
    simp only [decide_eq_true_eq,Bool.not_eq_true',List.length_append,List.length_singleton]
    constructor
    ·rintro (h|h)
     ·omega
     ·cases hq:eq y x with
      |true=>exact absurd ((he y x).1 hq).symm h
      |false=>rfl
    ·intro hq
     refine .inr (fun hh=> ?_)
     rw [(he y x).2 hh.symm] at hq
     cases hq
   rw [h5]
   show _=(bif eq y x then [] else [x])
   cases eq y x<;>rfl
end
end Go.Ve
