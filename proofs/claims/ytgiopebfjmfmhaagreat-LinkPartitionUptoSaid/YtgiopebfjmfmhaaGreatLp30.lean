/- law16 -/
import Derived.Shelf.SlSortCmp.NoneTotal
import Derived.Test.YtgiopebfjmfmhaaGreatLp29
import Derived.Test.YtgiopebfjmfmhaaGreatLp15
import Derived.Test.YtgiopebfjmfmhaaGreatLp27
import Derived.Test.YtgiopebfjmfmhaaGreatLp24
set_option linter.unusedVariables false
open Option renaming some->Sa,none->Sb
open Go.Proofs.Tryz renaming prog->Aa
set_option maxRecDepth 1000000
set_option maxHeartbeats 4000000
namespace Go.Ve
open Go Go.Proofs Go.Shelf Go.RowKit Go.Sort
def zIo:Ren:=⟨fun f=>match f with
 |6=>92
 |14=>153
 |15=>85
 |20=>207
 |21=>208
 |22=>209
 |23=>210
 |24=>211
 |25=>212
 |26=>213
 |27=>214
 |28=>142
 |29=>143
 |46=>267
 |47=>185
 |48=>186
 |49=>268
 |50=>269
 |57=>313
 |n=>n,fun t=>match t with
 |0=>0
 |3=>3
 |4=>4
 |5=>5
 |9=>9
 |22=>169
 |24=>128
 |25=>180
 |39=>165
 |45=>219
 |46=>220
 |50=>83
 |53=>38
 |55=>227
 |66=>256
 |70=>260
 |76=>323
 |77=>324
 |n=>n,fun n=>n⟩
theorem zNG:SlLaysF.n6 Aa zIo where
 mixed:=mixed
 f6:=⟨Tryz.f92.name,by kernel_rfl,by kernel_rfl⟩
 f14:=⟨Tryz.f153.name,by kernel_rfl,by kernel_rfl⟩
 f15:=by kernel_rfl
 f20:=⟨Tryz.f207.name,by kernel_rfl,by kernel_rfl⟩
 f21:=⟨Tryz.f208.name,by kernel_rfl,by kernel_rfl⟩
 f22:=⟨Tryz.f209.name,by kernel_rfl,by kernel_rfl⟩
 f23:=⟨Tryz.f210.name,by kernel_rfl,by kernel_rfl⟩
 f24:=⟨Tryz.f211.name,by kernel_rfl,by kernel_rfl⟩
 f25:=⟨Tryz.f212.name,by kernel_rfl,by kernel_rfl⟩
 f26:=⟨Tryz.f213.name,by kernel_rfl,by kernel_rfl⟩
 f27:=⟨Tryz.f214.name,by kernel_rfl,by kernel_rfl⟩
 f28:=by kernel_rfl
 f29:=by kernel_rfl
 f46:=⟨Tryz.f267.name,by kernel_rfl,by kernel_rfl⟩
 f47:=by kernel_rfl
 f48:=by kernel_rfl
 f49:=⟨Tryz.f268.name,by kernel_rfl,by kernel_rfl⟩
 f50:=⟨Tryz.f269.name,by kernel_rfl,by kernel_rfl⟩
 f57:=⟨Tryz.f313.name,by kernel_rfl,by kernel_rfl⟩
 t0:=by kernel_rfl
 a0:=zZ (by kernel_rfl)
 z0:=zK (by kernel_rfl)
 v0:=fun w=>by kernel_rfl
 t3:=by kernel_rfl
 a3:=zZ (by kernel_rfl)
 z3:=zK (by kernel_rfl)
 v3:=fun w=>by kernel_rfl
 t4:=by kernel_rfl
 a4:=zZ (by kernel_rfl)
 z4:=zK (by kernel_rfl)
 v4:=fun w=>by kernel_rfl
 t5:=by kernel_rfl
 a5:=zZ (by kernel_rfl)
 z5:=zK (by kernel_rfl)
 v5:=fun w=>by kernel_rfl
 t9:=by kernel_rfl
 a9:=zZ (by kernel_rfl)
 z9:=zK (by kernel_rfl)
 v9:=fun w=>by kernel_rfl
 t22:=by kernel_rfl
 a22:=zZ (by kernel_rfl)
 z22:=zK (by kernel_rfl)
 v22:=fun w=>by kernel_rfl
 a24:=zZ (by kernel_rfl)
 z24:=zK (by kernel_rfl)
 t25:=by kernel_rfl
 a25:=zZ (by kernel_rfl)
 z25:=zK (by kernel_rfl)
 v25:=fun w=>by kernel_rfl
 t39:=by kernel_rfl
 a39:=zZ (by kernel_rfl)
 z39:=zK (by kernel_rfl)
 v39:=fun w=>by kernel_rfl
 t45:=by kernel_rfl
 a45:=zZ (by kernel_rfl)
 z45:=zK (by kernel_rfl)
 v45:=fun w=>by kernel_rfl
 t46:=by kernel_rfl
 a46:=zZ (by kernel_rfl)
 z46:=zK (by kernel_rfl)
 v46:=fun w=>by kernel_rfl
 t50:=by kernel_rfl
 a50:=zZ (by kernel_rfl)
 z50:=zK (by kernel_rfl)
 v50:=fun w=>by kernel_rfl
 t53:=by kernel_rfl
 a53:=zZ (by kernel_rfl)
 z53:=zK (by kernel_rfl)
 v53:=fun w=>by kernel_rfl
 t55:=by kernel_rfl
 a55:=zZ (by kernel_rfl)
 z55:=zK (by kernel_rfl)
 v55:=fun w=>by kernel_rfl
 t66:=by kernel_rfl
 a66:=zZ (by kernel_rfl)
 z66:=zK (by kernel_rfl)
 v66:=fun w=>by kernel_rfl
 t70:=by kernel_rfl
 a70:=zZ (by kernel_rfl)
 z70:=zK (by kernel_rfl)
 v70:=fun w=>by kernel_rfl
 t76:=by kernel_rfl
 a76:=zZ (by kernel_rfl)
 z76:=zK (by kernel_rfl)
 v76:=fun w=>by kernel_rfl
 t77:=by kernel_rfl
 a77:=zZ (by kernel_rfl)
 z77:=zK (by kernel_rfl)
 v77:=fun w=>by kernel_rfl
def zLf(a b:Int):Int:=if a<b then-1 else if b<a then 1 else 0
theorem qCf(a b:Int)(w:World):Calls Aa 94 #[.int .i64 a,.int .i64 b] w fun e w'=>e=.returned (.int .i64 (zLf a b))/\xC (fun _=>False) w w':=by
 have h:=zGc w (fun _=>False) (fun _=>False) () #[.int .i64 a,.int .i64 b] [.val (.int .i64 a),.val (.int .i64 b)] () (.p (.val (.int .i64 (zLf a b)))) ⟨fun b k=>k,fun _ _ _ h=>h,fun _ h=>h⟩ (fun g n l=>by cases l) (fun b k=>k.elim) rfl (fun i u d j c=>by
  match i with
  |0=>simp at j c;subst j c;exact .val _
  |1=>simp at j c;subst j c;exact .val _
  |i+2=>simp at c) (by
  have:qH (a,b,())=Sa (zLf a b):=zCj a b;have c:zBv [tI,tI] [.val (.int .i64 a),.val (.int .i64 b)]=Sa (a,b,()):=zBu [tI,tI] (a,b,());simp only[z7,qQ,vR,c,this]
  rfl)
 refine h.mono ?_;rintro e w' ⟨v,q,r,rfl,_,m,_,_,_,f⟩;exact⟨by rw[show v=_ from Rd.eq_val f],m⟩
theorem qCg(b1 b2:Nat)(n1 n2:Int)(w:World)(h1:w.cell? ⟨b1,0,Sb⟩=Sa (.int .i64 n1))(h2:w.cell? ⟨b2,0,Sb⟩=Sa (.int .i64 n2)):
  Calls Aa 93 #[.pointer (Sa ⟨b1,0,Sb⟩),.pointer (Sa ⟨b2,0,Sb⟩)] w fun e w'=>e=.returned (.int .i64 (zLf n1 n2))/\xC (fun _=>False) w w':=by
 have HC:Hid (∀q,Calls Aa 94 #[.int .i64 n1,.int .i64 n2] (w.drewN q) fun e w'=>e=.returned (.int .i64 (zLf n1 n2))/\xC (fun _=>False) w w'):=Lib.hid (fun q=>(qCf n1 n2 (w.drewN q)).mono (fun e w' h=>⟨h.1,h.2.os,h.2.tape,h.2.output,h.2.size,h.2.block,aj (by show w.drawn<=w.drawn+q;omega) h.2.drawn⟩))
 go_enter Tryz.func93,Tryz.ntmps93
 go_wp2_with fail
 go_region_law (go_simp;go_at_call 94;refine(HC.out _).mono ?_;rintro e w' ⟨rfl,hk⟩;have HK:=Lib.hid hk;clear hk)
 all_goals
  go_wp2_with fail
  go_ret
  exact⟨rfl,HK.out⟩
variable {g:Type}
theorem qEr(f:g->Int):SWO (ltOf fun x y=>zLf (f x) (f y)):=by
 have a:∀x y,(ltOf fun x y=>zLf (f x) (f y)) x y=decide (f x<f y):=by
  intro x y;unfold ltOf zLf
  grind
 refine⟨fun x=>?_,fun x y z c d=>?_,fun x y z c d=>?_⟩;all_goals grind
theorem zNE(f:g->Int)(x y:g):(ltOf fun x y=>zLf (f x) (f y)) x y=decide (f x<f y):=by
 unfold ltOf zLf
 grind
variable {i:Nat}{j:World}
theorem qAm[Inhabited g]{α:Nat}(hi:α<j.heap.size)(a:α≠i)(enc:g->Value)(n off:Nat)(d:Array g)(os:Array Obj):
  (sortWorld enc j i off n d os).heap[α]?=j.heap[α]? :=by
 unfold sortWorld grow putRow mapBlock;simp
 grind
theorem qG7[Inhabited g]{c:Array Value}{et:TypeId}{fr:Nat×Nat}(h:j.heap[i]?=Sa (.cells c et fr))(enc:g->Value)(n off:Nat)(d:Array g)(os:Array Obj):
  (sortWorld enc j i off n d os).heap[i]?=Sa (.cells (putCells enc off d c) et fr):=by
 have a:i<j.heap.size:=(ar.1 h).1;unfold sortWorld grow putRow mapBlock;simp;rw[bh (by simpa using a),bK];simp[h,onCells]
theorem qEZ[Inhabited g](enc:g->Value)(n off:Nat)(d:Array g)(os:Array Obj):j.heap.size<=(sortWorld enc j i off n d os).heap.size:=by unfold sortWorld grow putRow mapBlock;simp[Sort.ahead]
theorem qBd{wr:World}{Bv n:Nat}{v0 v1 v2 v3 av:Value}{S:List AR}{K:Nat->Nat}{pv:Nat->Value}(R:zA0 j wr i Bv v0 v1 v2 v3 n S av K pv)(a2:S.length<=1048576)(hd:∀(B w:Nat) (a b:AR),S[B]?=Sa a->S[w]?=Sa b->a.num=b.num->B=w):
  Calls Aa 92 #[av,.func (.func 93) #[] #[]] wr fun e w'=>e=.returned (.tuple #[])/\∃(l:List Nat),l.Perm (List.range S.length)/\(l.Pairwise fun B w=>(S.getD B ⟨0,[],fun _=>false⟩).num< (S.getD w ⟨0,[],fun _=>false⟩).num)/\
   zA0 j w' i Bv v0 v1 v2 v3 n (l.map fun B=>S.getD B ⟨0,[],fun _=>false⟩) av (fun k=>K (l.getD k 0)) (fun k=>pv (l.getD k 0)):=by
 rcases cF S.length with hm|hm
 .have hS:S=[]:=cS.1 hm;subst hS
  obtain⟨ad,c,rfl⟩:∃ad c,av=.slice ad 0 c:=by
   rcases R.ha.2 with⟨h,_⟩|⟨g,c,t,M,_⟩
   all_goals grind
  have h:=AnyF.slices_SortFunc_none (P:=Aa) (ρ:=zIo) { zNG with } ad c (.func (.func 93) #[] #[]) wr;refine h.mono ?_;rintro e w' ⟨rfl,rfl⟩;refine⟨rfl,[],List.Perm.refl _,List.Pairwise.nil,?_⟩;exact⟨R.hB,R.hV,R.ha,fun w a u=>by simp at u,fun w a u=>by simp at u,fun B w f=>by simp at f,fun B w g f=>by simp at f,R.nB,R.nV,R.heap,R.size,R.os,R.tape,R.output,R.drawn⟩
 .obtain⟨g,c,rfl,ao,ap,a3⟩:=zNd R.ha hm
  haveI:Inhabited (Fin S.length):=⟨⟨0,hm⟩⟩
  let num:Fin S.length->Int:=fun B=>S[B].num;let enc:Fin S.length->Value:=fun B=>.pointer (Sa ⟨K B.val,0,Sb⟩);let d:Array (Fin S.length):=(List.finRange S.length).toArray;have Q:d.size=S.length:=by simp[d]
  have vA:∀w (u:w<S.length),d[w]! =⟨w,u⟩:=fun w u=>by
   grind
  obtain⟨_,a4⟩:=R.ha
  obtain⟨t,D,ab,ax,ay,a5⟩:∃t,wr.heap[g]?=Sa (.cells t 128 (0,0))/\S.length<=c/\c<=maxLen/\t.size=c*1/\t.toList.take (S.length*1)=(List.range S.length).map fun w=>Value.pointer (Sa ⟨K w,0,Sb⟩):=by
   grind
  have I:Holds enc wr g 0 d:=by
   intro w u;rw[Q]at u;refine⟨?_,by grind[World.frozen?]⟩
   grind
  have ag:CmpLays1 Aa 93 #[] enc (fun x y=>zLf (num x) (num y)) g 0 d.size wr:=by
   intro m N dk a6 x y
   have hc:∀z:Fin S.length,(sortWorld enc wr g 0 m dk N).cell? ⟨K z.val,0,Sb⟩=Sa (.int .i64 (num z)):=fun z=>by
    have hz:S[z.val]?=Sa S[z]:=by simp
    have hb:=(R.hj z.val _ hz).2;rw[World.cell?_of_block (a:=⟨K z.val,0,Sb⟩) (qAm (qR hb) (fun hh=>zAd hb D (by decide) hh) enc m 0 dk N)]
    grind[wI,World.cell?]
   rw[Array.append_empty];refine(qCg (K x.val) (K y.val) (num x) (num y) _ (hc x) (hc y)).mono ?_;rintro e w' ⟨rfl,E⟩;exact⟨rfl,zQ5 E⟩
  have hT:∀x y:Fin S.length,(ltOf fun x y=>zLf (num x) (num y)) x y=false->(ltOf fun x y=>zLf (num x) (num y)) y x=false->x=y:=by
   intro x y M W;rw[zNE]at M W;have h3:num x=num y:=by grind
   exact Fin.ext (hd x.val y.val S[x] S[y] (by simp) (by simp) h3)
  have F:=Any.slices_SortFunc_total (P:=Aa) (ρ:=zIo) zNG enc (fun x=>rfl) (fun x y=>zLf (num x) (num y)) (qEr num) 93 #[] g 0 c d wr (enters_of Tryz.func93 (by kernel_rfl) rfl) ag I ap (by rw[Q];omega) hT;rw[Q]at F;refine F.mono ?_;rintro e w' ⟨rfl,n0,N,rfl⟩;generalize hL:(d.toList.mergeSort fun x y=> !(ltOf fun x y=>zLf (num x) (num y)) y x)=L;have p:L.Perm (List.finRange S.length):=by grind[List.mergeSort_perm]
  have Y:L.length=S.length:=by rw[p.length_eq];simp
  have G:L.Pairwise fun x y=>num x<num y:=by
   have M:L.Pairwise fun x y=>(!(ltOf fun x y=>zLf (num x) (num y)) y x)=true:=by
    rw[<-hL];refine dp (fun x y z a9 bb=>?_) (fun x y=>?_) _
    .rw[zNE]at*;simp at*;omega
    .rw[zNE,zNE];simp;omega
   have W:L.Nodup:=p.nodup_iff.2 (List.nodup_finRange _);refine(M.and W).imp ?_;rintro x y ⟨h3,h4⟩;rw[zNE]at h3;simp at h3;rcases Int.lt_or_eq_of_le h3 with h5|h5
   .exact h5
   .exact absurd (Fin.ext (hd x.val y.val S[x] S[y] (by simp) (by simp) h5)) h4
  have a0:∀k,(E:k<S.length)->S.getD k ⟨0,[],fun _=>false⟩=S[k]:=fun k E=>by simp[E]
  have A:∀k,(E:k<L.length)->(L.map Fin.val).getD k 0=(L[k]).val:=fun k E=>by grind
  have O:∀B,B<wr.heap.size->B≠g->(sortWorld enc wr g 0 n0 L.toArray N).heap[B]?=wr.heap[B]? :=fun B f J=>qAm f J enc n0 0 L.toArray N;have Z:=qG7 D enc n0 0 L.toArray N;have J:∀{B:Nat} {C:Array Value} {T:TypeId},wr.heap[B]?=Sa (.cells C T (0,0))->T≠128->(sortWorld enc wr g 0 n0 L.toArray N).heap[B]?=Sa (.cells C T (0,0)):=fun f ht=>(O _ (qR f) (fun hh=>zAd f D ht hh)).trans f
  have al:∀k a,(((L.map Fin.val).map fun B=>S.getD B ⟨0,[],fun _=>false⟩)[k]?=Sa a)->∃E:k<L.length,S[(L[k]).val]?=Sa a:=by
   grind
  have r:((L.map Fin.val).map fun B=>S.getD B ⟨0,[],fun _=>false⟩).length=S.length:=by simp[Y]
  have H:∀B w (f:B<L.length) (u:w<L.length),(L[B]).val=(L[w]).val->B=w:=by
   grind[List.nodup_finRange,List.getElem_inj,Fin.ext]
  refine⟨rfl,L.map Fin.val,?_,?_,?_⟩
  .have:=p.map Fin.val
   rwa [show(List.finRange S.length).map Fin.val=List.range S.length from by
    apply List.ext_getElem
    .simp
    .intro B M W;simp]at this
  .rw[List.pairwise_map];refine G.imp ?_
   grind
  .refine⟨J R.hB (by decide),J R.hV (by decide),?_,fun k a E=>?_,fun k a E=>?_,fun B w f u h=>?_,fun B w q f u M W=>?_,R.nB,R.nV,
    fun B f=>(O B (az f R.size) (by omega)).trans (R.heap B f),aj R.size (qEZ enc n0 0 L.toArray N),R.os,R.tape,R.output,aj R.drawn (by show wr.drawn<=wr.drawn+n0;omega)⟩
   .rw[r];refine⟨by simp,.inr ⟨g,c,_,rfl,ao,Z,ab,ax,by grind[putCells],?_⟩⟩;apply bT;intro B;by_cases f:B<S.length
    .rw[List.getElem?_take_of_lt (by omega),bN];have a1:B<t.size:=by rw[ay];omega
     simp only[putCells,Array.getElem?_mapIdx,aD a1,bv,aA,bj f];rw[if_pos ⟨aW _,by grind⟩,Nat.sub_zero,getElem!_pos _ _ (by grind),A B (by omega)];simp[enc]
    grind
   .obtain⟨an,hs⟩:=al k a E;have:=R.hj _ a hs
    grind
   .obtain⟨an,hs⟩:=al k a E;have:=R.hp _ a hs;simp only[A k an];refine yB this (fun q hq=>?_);obtain⟨_,_,c0,bd⟩:=q9 this hq
    grind
   .rw[r]at f u;rw[A B (by omega),A w (by omega)]at h;exact H B w (by omega) (by omega) (R.inj _ _ (Fin.isLt _) (Fin.isLt _) h)
   .rw[r]at f u;rw[A B (by omega)]at M;rw[A w (by omega)]at W;exact H B w (by omega) (by omega) (R.pinj _ _ q (Fin.isLt _) (Fin.isLt _) M W)
end Go.Ve
namespace Go.Ve
open Go Go.Proofs Go.Shelf Go.RowKit
def fb(f:Nat->Prop):Blk->Prop
 |.b n=>f n
 |_=>False
theorem qGL(f:Nat->Prop):NoK (fb f):=⟨fun _ _ _ h=>h,fun _ h=>h⟩
theorem zRB{w w':World}{f a:Nat->Prop}{v:Value}{d:V}(h:Rd w (fb f) v d)(e:∀n,f n->a n)(g:∀n,f n->w'.heap[n]?=w.heap[n]?):Rd w' (fb a) v d:=
 h.mono (fun b c=>by cases b<;>first|exact e _ c|exact c) (fun n i=>g n i)
def qHe:Nat->Value:=fun _=>.slice Sb 0 0
structure zLh(w wr:World)(B Bv:Nat)(v0 v1 v2 v3:Value)(n:Nat)(S:List AR)(av:Value)(bs:Nat->Nat)(pv:Nat->Value)(k:Nat)(es:Int->List (Ty.El qD))(ds:Int->Nat->List Int)(E:Nat->Value)(fr0 fr:Nat->Prop):Prop where
 hB:wr.heap[B]?=Sa (.cells #[v0,v1,v2,v3,.int .i64 n,av] 171 (0,0))
 hV:wr.heap[Bv]?=Sa (.cells #[v0,v1,v2,v3] 30 (0,0))
 ha:wr.ownsRow w.heap.size 128 1 av S.length ((List.range S.length).map fun j=>.pointer (Sa ⟨bs j,0,Sb⟩))
 hj:∀j a,S[j]?=Sa a->w.heap.size<=bs j/\wr.heap[bs j]?=Sa (.cells (uF a.num (pv j) (if j<k then E j else .slice Sb 0 0) a.mem
  (if j<k then(fun q=>.int .i64 (if q / 8<n/\a.mem (q / 8)=true/\q%8<n then(ds a.num (q / 8)).getD (q%8) 0 else-1))else zGF)) 175 (0,0))
 hp:∀j a,S[j]?=Sa a->wr.ownsRow w.heap.size 177 4 (pv j) a.parts.length (uU a.parts)
 hE:∀j a,S[j]?=Sa a->j<k->Rd wr (fb fr) (E j) (.tl qD (es a.num))
 inj:∀i j,i<S.length->j<S.length->bs i=bs j->i=j
 fsub:∀b,fr0 b->fr b
 frb:∀b,fr b->b<wr.heap.size/\b≠B/\b≠Bv/\(∀j,j<S.length->b≠bs j)/\av.ownBlock≠Sa b/\(∀j,j<S.length->(pv j).ownBlock≠Sa b)
 frn:∀b,fr b->fr0 b\/w.heap.size<=b
 pinj:∀i j g,i<S.length->j<S.length->(pv i).ownBlock=Sa g->(pv j).ownBlock=Sa g->i=j
 nB:w.heap.size<=B
 nV:w.heap.size<=Bv
 heap:∀i,i<w.heap.size->wr.heap[i]?=w.heap[i]?
 size:w.heap.size<=wr.heap.size
 os:wr.os=w.os
 tape:wr.tape=w.tape
 output:wr.output=w.output
 drawn:w.drawn<=wr.drawn
section
variable {w wr:World}{B Bv n k:Nat}{v0 v1 v2 v3 av:Value}{S:List AR}{bs:Nat->Nat}{pv:Nat->Value}{es:Int->List (Ty.El qD)}{ds:Int->Nat->List Int}{E:Nat->Value}{fr0 fr:Nat->Prop}
theorem zA0.graphs(R:zA0 w wr B Bv v0 v1 v2 v3 n S av bs pv)(hf:∀b,fr0 b->b<w.heap.size):zLh w wr B Bv v0 v1 v2 v3 n S av bs pv 0 es ds E fr0 fr0:=
 ⟨R.hB,R.hV,R.ha,fun j a h=>by
  obtain⟨d,e⟩:=R.hj j a h
  grind,R.hp,fun j a h c=>absurd c (cd _),R.inj,fun _ h=>h,fun b hb=>by
  have hb:=hf b hb;refine⟨az hb R.size,fun h=>by have:=R.nB;omega,fun h=>by have:=R.nV;omega,fun j hj h=>?_,fun h=>?_,fun j hj h=>?_⟩
  .have:=(R.hj j S[j] (by simp)).1;omega
  .have:=(q9 R.ha h).1;omega
  .have:=(q9 (R.hp j S[j] (by simp)) h).1;omega,fun b hb=>.inl hb,R.pinj,R.nB,R.nV,R.heap,R.size,R.os,R.tape,R.output,R.drawn⟩
theorem zLh.keep{W:World}{d:Nat->Prop}(R:zLh w wr B Bv v0 v1 v2 v3 n S av bs pv k es ds E fr0 fr)(h:jW wr W)(m:∀b,fr b->d b)(p:∀b,d b->(fr b\/wr.heap.size<=b)/\b<W.heap.size):
  zLh w W B Bv v0 v1 v2 v3 n S av bs pv k es ds E fr0 d:=by
 have hb:∀{i:Nat} {o:Obj},wr.heap[i]?=Sa o->W.heap[i]?=Sa o:=fun f=>(h.heap _ (qR f)).trans f
 refine⟨hb R.hB,hb R.hV,yB R.ha (fun g l=>h.heap g (q9 R.ha l).2.1),fun j a hj=>⟨(R.hj j a hj).1,hb (R.hj j a hj).2⟩,fun j a hj=>yB (R.hp j a hj) (fun g l=>h.heap g (q9 (R.hp j a hj) l).2.1),
  fun j a hj q=>zRB (R.hE j a hj q) m (fun b hb=>h.heap b (R.frb b hb).1),R.inj,fun b hb=>m b (R.fsub b hb),fun b hb=>?_,fun b hb=>?_,R.pinj,R.nB,R.nV,fun i f=>(h.heap i (az f R.size)).trans (R.heap i f),aj R.size h.size,h.os.trans R.os,h.tape.trans R.tape,h.output.trans R.output,aj R.drawn h.drawn⟩
 .obtain⟨c,r⟩:=p b hb;rcases c with c|c
  .obtain⟨_,t,u,x,y,z⟩:=R.frb b c
   grind
  .refine⟨r,fun e=>by have:=qR R.hB;omega,fun e=>by have:=qR R.hV;omega,fun j hj e=>?_,fun e=>?_,fun j hj e=>?_⟩
   .have:=qR (R.hj j S[j] (by simp)).2;omega
   .have:=(q9 R.ha e).2.1;omega
   .have:=(q9 (R.hp j S[j] (by simp)) e).2.1;omega
 .rcases(p b hb).1 with c|c
  .exact R.frn b c
  .exact .inr (aj R.size c)
theorem zLh.next{W:World}{a:AR}{t:Value}(R:zLh w wr B Bv v0 v1 v2 v3 n S av bs pv k es ds E fr0 fr)(l:S[k]?=Sa a)(h:But (bs k) wr W)(u:Rd wr (fb fr) t (.tl qD (es a.num)))
  (hb:W.heap[bs k]?=Sa (.cells (uF a.num (pv k) t a.mem (fun q=>.int .i64 (if q / 8<n/\a.mem (q / 8)=true/\q%8<n then(ds a.num (q / 8)).getD (q%8) 0 else-1))) 175 (0,0))):
  zLh w W B Bv v0 v1 v2 v3 n S av bs pv (k+1) es ds (fun j=>if j=k then t else E j) fr0 fr:=by
 have p:k<S.length:=(aa.1 l).1;have e:=(R.hj k a l).2;have f:∀{i:Nat} {o:Obj},wr.heap[i]?=Sa o->i≠bs k->W.heap[i]?=Sa o:=fun r A=>(h.heap _ (qR r) A).trans r;have ff:∀b,fr b->W.heap[b]?=wr.heap[b]? :=fun b hb=>h.heap b (R.frb b hb).1 ((R.frb b hb).2.2.2.1 k p)
 refine⟨f R.hB (fun m=>zAd R.hB e (by decide) m),f R.hV (fun m=>zAd R.hV e (by decide) m),yB R.ha (fun g x=>?_),fun j c hj=>?_,fun j c hj=>yB (R.hp j c hj) (fun g x=>?_),fun j c hj hlt=>?_,R.inj,R.fsub,
  fun b hb=>⟨az (R.frb b hb).1 h.size,(R.frb b hb).2⟩,R.frn,R.pinj,R.nB,R.nV,fun i r=>(h.heap i (az r R.size) (fun m=>by have:=(R.hj k a l).1;omega)).trans (R.heap i r),aj R.size h.size,h.os.trans R.os,h.tape.trans R.tape,h.output.trans R.output,aj R.drawn h.drawn⟩
 .obtain⟨_,hlt,y,C⟩:=q9 R.ha x
  grind
 .by_cases d:j=k
  .subst d;rw[l]at hj;obtain rfl:=aX hj;simp only[if_true,c7];exact⟨(R.hj j _ l).1,hb⟩
  .obtain⟨D,F⟩:=R.hj j c hj;have z:j<S.length:=(aa.1 hj).1;refine⟨D,?_⟩;have:=f F (fun m=>d (R.inj j k z p m))
   grind
 .obtain⟨_,hlt,y,C⟩:=q9 (R.hp j c hj) x
  grind
 .by_cases d:j=k
  .subst d;rw[l]at hj;obtain rfl:=aX hj;simp;exact zRB u (fun _ h=>h) ff
  .simp only[if_neg d];exact zRB (R.hE j c hj (by omega)) (fun _ h=>h) ff
end
theorem jW.of{w w':World}(h:xC (fun _=>False) w w'):jW w w':=⟨fun i a=>h.block i a (fun h=>h),h.size,h.os,h.tape,h.output,h.drawn⟩
theorem zIM{f:FuncId}{ts:List Ty}{ty:Ty}{g:ElS ts->Option ty.El}(t:ty.norf=true)(h:OkX f ts (.p ty) g){x:ElS ts}{y:ty.El}(m:g x=Sa y){wr:World}{fr:Nat->Prop}{args:Array Value}(n:∀b,fr b->b<wr.heap.size)
  (k:args.size=(yF ts x).length) (q:∀(i:Nat) (u:Value) (d:V),args[i]?=Sa u->(yF ts x)[i]?=Sa d->Rd wr (fb fr) u d):
  Calls Aa f args wr fun e w'=>∃(v:Value) (c:Nat->Prop),e=.returned v/\jW wr w'/\(∀b,fr b->c b)/\(∀b,c b->(fr b\/wr.heap.size<=b)/\b<w'.heap.size)/\Rd w' (fb c) v (ty.enc y):=by
 have z:=h wr (fb fr) (fun _=>False) () args (yF ts x) () ((RTy.p ty).res y) ⟨fun _ h=>h,qGL fr⟩ (fun g C m=>by cases m) (fun b a=>⟨n b a,fun h=>h⟩) k q (by simp[z7,qQ,vR,zBu,m]);refine z.mono ?_;rintro e w' ⟨v,l,D,rfl,E,j,G,A,r,B⟩;refine⟨v,fun b=>l (.b b),rfl,.of ⟨j.os,j.tape,j.output,j.size,fun b a _=>j.block b a (fun h=>h),j.drawn⟩,fun b a=>A.1 (.b b) a,fun b a=>⟨(r b a).1,(r b a).2.1⟩,?_⟩;exact zA6 (F:=l) (F':=fb fun b=>l (.b b)) (fun b a=>a) t B
def kG(l:List (Ty.El zQ)):List Value:=l.flatMap fun p=>[.int .i64 p.1,.int .u32 p.2.1]
theorem zUa:∀{l:List (Ty.El zQ)} {i:Nat} {p:Ty.El zQ},l[i]?=Sa p->∀j,j<2->(kG l)[i*2+j]?=[Value.int .i64 p.1,.int .u32 p.2.1][j]?
 |[],i,p,h,j,a=>by simp at h
 |x::l,0,p,h,j,a=>by
  cases h;have:kG (x::l)=[.int .i64 x.1,.int .u32 x.2.1]++kG l:=rfl
  grind
 |x::l,i+1,p,h,j,a=>by
  have:kG (x::l)=[.int .i64 x.1,.int .u32 x.2.1]++kG l:=rfl;rw[this,aF (by simp;omega)];have h:l[i]?=Sa p:=by simpa using h
  rw[<-zUa h j a];congr 1;simp;omega
structure zGv(w wr:World)(ob nd:Nat)(hv:Nat->Value)(ls:Nat->List (Ty.El zQ)):Prop where
 hO:∃C:Array Value,wr.heap[ob]?=Sa (.cells C 49 (0,0))/\C.size=nd/\∀i,i<nd->C[i]?=Sa (hv i)
 hr:∀i,i<nd->wr.ownsRow w.heap.size 40 2 (hv i) (ls i).length (kG (ls i))
 hz:∀i,i<nd->ls i=[]->hv i=.slice Sb 0 0
 inj:∀i j g,i<nd->j<nd->(hv i).ownBlock=Sa g->(hv j).ownBlock=Sa g->i=j
 nO:w.heap.size<=ob
 heap:∀i,i<w.heap.size->wr.heap[i]?=w.heap[i]?
 size:w.heap.size<=wr.heap.size
 os:wr.os=w.os
 tape:wr.tape=w.tape
 output:wr.output=w.output
 drawn:w.drawn<=wr.drawn
def zOm(wr:World)(ob nd:Nat)(hv:Nat->Value)(b:Nat):Prop:=b<wr.heap.size/\b≠ob/\∀i,i<nd->(hv i).ownBlock≠Sa b
section
variable {w wr W:World}{ob nd:Nat}{hv:Nat->Value}{ls:Nat->List (Ty.El zQ)}
theorem zGv.still(R:zGv w wr ob nd hv ls)(h:jW wr W):zGv w W ob nd hv ls:=by
 obtain⟨C,c,d,e⟩:=R.hO
 exact⟨⟨C,(h.heap _ (qR c)).trans c,d,e⟩,fun i a=>yB (R.hr i a) (fun g f=>h.heap g (q9 (R.hr i a) f).2.1),R.hz,R.inj,R.nO,fun i a=>(h.heap i (az a R.size)).trans (R.heap i a),aj R.size h.size,
  h.os.trans R.os,h.tape.trans R.tape,h.output.trans R.output,aj R.drawn h.drawn⟩
variable {g:Nat}
theorem zOm.still(A:zOm wr ob nd hv g)(h:jW wr W):zOm W ob nd hv g:=⟨az A.1 h.size,A.2⟩
theorem zGv.cell(R:zGv w wr ob nd hv ls){i:Nat}(hi:i<nd):wr.cell? ⟨ob,i,Sb⟩=Sa (hv i)/\wr.frozen? ⟨ob,i,Sb⟩=false:=by
 obtain⟨C,a,c,d⟩:=R.hO
 grind[cell_of_row,trans,World.frozen?]
structure zQ1(wr W:World)(ob:Nat)(o:Option Nat):Prop where
 heap:∀q,q<wr.heap.size->q≠ob->o≠Sa q->W.heap[q]?=wr.heap[q]?
 size:wr.heap.size<=W.heap.size
 os:W.os=wr.os
 tape:W.tape=wr.tape
 output:W.output=wr.output
 drawn:wr.drawn<=W.drawn
theorem zGv.next(R:zGv w wr ob nd hv ls)(hi:g<nd){u:Value}{l:List (Ty.El zQ)}(e:zQ1 wr W ob (hv g).ownBlock)(r:∃C:Array Value,W.heap[ob]?=Sa (.cells C 49 (0,0))/\C.size=nd/\C[g]?=Sa u/\∀j,j<nd->j≠g->C[j]?=Sa (hv j))(t:W.ownsRow w.heap.size 40 2 u l.length (kG l))(B:l≠[])(d:∀i,u.ownBlock=Sa i->(hv g).ownBlock=Sa i\/wr.heap.size<=i):
  zGv w W ob nd (fun j=>if j=g then u else hv j) (fun j=>if j=g then l else ls j):=by
 obtain⟨D,E,F,z3⟩:=R.hO;obtain⟨C,y,z,G,H⟩:=r
 have p:∀{j i},j<nd->(hv j).ownBlock=Sa i->i<wr.heap.size/\i≠ob:=fun {j i} hj d=>by
  obtain⟨_,I,A,J⟩:=q9 (R.hr j hj) d
  grind
 refine⟨⟨C,y,z,fun j hj=>?_⟩,fun j hj=>?_,fun j hj f=>?_,fun j k i hj x m n=>?_,R.nO,fun q hq=>?_,aj R.size e.size,e.os.trans R.os,e.tape.trans R.tape,e.output.trans R.output,aj R.drawn e.drawn⟩
 .grind
 .by_cases a:j=g
  .grind
  .simp only[if_neg a];refine yB (R.hr j hj) (fun i d=>e.heap i (p hj d).1 (p hj d).2 (fun f=>a (R.inj j g i hj hi d f)))
 .by_cases a:j=g
  .grind
  .simp only[if_neg a]at f ⊢;exact R.hz j hj f
 .by_cases a:j=g
  .by_cases c:k=g
   .rw[a,c]
   .simp only[if_pos a]at m;simp only[if_neg c]at n;rcases d i m with h|h
    .exact absurd (R.inj k g i x hi n h) c
    grind
  .by_cases c:k=g
   .simp only[if_neg a]at m;simp only[if_pos c]at n;rcases d i n with h|h
    .exact absurd (R.inj j g i hj hi m h) a
    grind
   .simp only[if_neg a]at m;simp only[if_neg c]at n;exact R.inj j k i hj x m n
 .refine(e.heap q (az hq R.size) (fun f=>?_) (fun f=>?_)).trans (R.heap q hq)
  .have:=R.nO;omega
  .have:=(q9 (R.hr g hi) f).1;omega
theorem zOm.next(A:zOm wr ob nd hv g){i:Nat}{u:Value}(hi:i<nd)(c:zQ1 wr W ob (hv i).ownBlock)(d:∀b,u.ownBlock=Sa b->(hv i).ownBlock=Sa b\/wr.heap.size<=b):
  zOm W ob nd (fun j=>if j=i then u else hv j) g/\W.heap[g]?=wr.heap[g]? :=by
 refine⟨⟨az A.1 c.size,A.2.1,fun j hj=>?_⟩,c.heap g A.1 A.2.1 (A.2.2 i hi)⟩;by_cases a:j=i
 .simp only[if_pos a];intro e;rcases d g e with h|h
  .exact A.2.2 i hi h
  .have:=A.1;omega
 .simp only[if_neg a];exact A.2.2 j hj
theorem zGv.app(R:zGv w wr ob nd hv ls)(hi:g<nd){x:Ty.El zQ}{a:World}{d f:Nat}(h:a.ownsRow w.heap.size 40 2 (.slice (Sa ⟨d,0,Sb⟩) ((ls g).length+1) f) ((ls g).length+1) (kG (ls g)++kG [x]))(c:(wr.alloc (.cells (kG [x]).toArray 40)).grownBy a (hv g).ownBlock)(m:(wr.alloc (.cells (kG [x]).toArray 40)).drawn<=a.drawn)(B:(hv g).ownBlock=Sa d\/d=wr.heap.size+1):
  zQ1 wr (a.setCell ⟨ob,g,Sb⟩ (.slice (Sa ⟨d,0,Sb⟩) ((ls g).length+1) f)) ob (hv g).ownBlock/\
  zGv w (a.setCell ⟨ob,g,Sb⟩ (.slice (Sa ⟨d,0,Sb⟩) ((ls g).length+1) f)) ob nd (fun j=>if j=g then .slice (Sa ⟨d,0,Sb⟩) ((ls g).length+1) f else hv j) (fun j=>if j=g then ls g++[x]else ls j):=by
 have n:jW wr (wr.alloc (.cells (kG [x]).toArray 40)):=⟨fun g hi=>by show(wr.heap.push _)[g]?=_;grind,by simp_all,rfl,rfl,rfl,ai _⟩
 have C:(wr.alloc (.cells (kG [x]).toArray 40)).heap.size=wr.heap.size+1:=by simp_all
 obtain⟨u,y,D,z3⟩:=R.hO
 have p:(hv g).ownBlock≠Sa ob:=fun l=>by
  obtain⟨_,I,r,J⟩:=q9 (R.hr g hi) l
  grind
 have z:∀q,q<wr.heap.size->(hv g).ownBlock≠Sa q->a.heap[q]?=wr.heap[q]? :=fun q hq E=>(c.block q (by omega) (fun l=>E l.symm)).trans (n.heap q hq)
 have e:∀q,q≠ob->(a.setCell ⟨ob,g,Sb⟩ (.slice (Sa ⟨d,0,Sb⟩) ((ls g).length+1) f)).heap[q]?=a.heap[q]? :=fun q hq=>by
  show(a.heap.modify _ _)[q]?=_
  grind
 have k:a.heap[ob]?=Sa (.cells u 49 (0,0)):=(z ob (qR y) p).trans y
 have A:zQ1 wr (a.setCell ⟨ob,g,Sb⟩ (.slice (Sa ⟨d,0,Sb⟩) ((ls g).length+1) f)) ob (hv g).ownBlock:=
  ⟨fun q hq F G=>(e q F).trans (z q hq G),by have:=c.size;show _<=(a.heap.modify _ _).size;grind,c.os,c.tape,c.output,aj (ai _) m⟩
 refine⟨A,R.next hi A ⟨u.setIfInBounds g (.slice (Sa ⟨d,0,Sb⟩) ((ls g).length+1) f),xU k,by simp[D],by grind,fun j hj H=>by grind⟩ ?_ (by simp) (fun i t=>?_)⟩
 .have:kG (ls g++[x])=kG (ls g)++kG [x]:=by simp[kG]
  rw[this,aN,bL];refine yB h (fun i t=>e i (fun l=>?_));obtain⟨_,_,r,K⟩:=q9 h t
  grind
 .cases t
  grind
end
variable {C J:Blk->Prop}{j:List (Ty.El zQ)}{g:Nat}{l:Value}{i I:World}
theorem qDO{w:Nat}{e d:V}(c:(j.map zQ.enc)[g]?=Sa e)(a:e.cells[w]?=Sa d)(h:Rd i C l d):Rd I J l d:=by
 simp only[aA,ak]at c;obtain⟨p,_,rfl⟩:=c
 match w,a with
 |0,a=>cases a;rw[Rd.eq_val h];exact .val _
 |1,a=>cases a;rw[Rd.eq_val h];exact .val _
theorem zJN(h:zB8 i C ⟨fun _=>g,fun _=>g⟩ (fun _=>True) l 0 2 (j.map zQ.enc))(F:j≠[]->I.heap[g]?=i.heap[g]?):
  zB8 I J ⟨fun _=>g,fun _=>g⟩ (fun _=>True) l 0 2 (j.map zQ.enc):=by
 rcases h with h|⟨f,m,a,n,c,p,q,r,t,u,y⟩
 .exact .inl h
 .exact .inr ⟨f,m,a,n,c,p,(F (fun z=>f (by rw[z];rfl))).trans q,r,t,u,fun w F' e d x w' k A=>qDO w' k (y w F' e d x w' k A)⟩
theorem qFr(h:i.ownsRow g 40 2 l j.length (kG j))(t:j=[]->l=.slice Sb 0 0):zB8 i C ⟨fun _=>l.ownBlock.getD 0,fun _=>l.ownBlock.getD 0⟩ (fun _=>True) l 0 2 (j.map zQ.enc):=by
 by_cases v:j=[]
 .rw[t v,v];exact .inl ⟨rfl,_,rfl⟩
 .obtain⟨_,u⟩:=h;rcases u with⟨_,E⟩|⟨f,m,n,rfl,G,y,z,_,A,B⟩
  .grind
  .refine .inr ⟨by simpa using v,trivial,m,by simp[Value.ownBlock],n,40,y,A,by simpa using z,fun e k=>?_,fun w ls e d x k a F=>?_⟩
   .simp only[aO]at k;obtain⟨p,_,rfl⟩:=k;rfl
   .simp only[aA,ak]at k;obtain⟨p,r,rfl⟩:=k;have D:=(aa.1 r).1;have q:ls<2:=(aa.1 a).1;have c:=zUa r ls q;rw[<-B,cG,if_pos (by omega),bN,F]at c
    match ls,a,c with
    |0,a,c=>cases a;cases c;exact .val _
    |1,a,c=>cases a;cases c;exact .val _
theorem qFq(h:zB8 i C ⟨fun _=>g,fun _=>g⟩ (fun _=>True) l 0 2 (j.map zQ.enc))(p:j≠[]->J (.b g)):Rd i J l (.tl zQ j):=by
 refine .tl _ _ _ ?_;rcases h with⟨F',a,rfl⟩|⟨F',A,k,rfl,c,B,q,F,r,t,u⟩
 .rw[F'];exact .slemp _ _
 .refine .sl g 0 k 2 _ (fun m=>c.getD m (.int .i64 0)) (p (fun x=>F' (by rw[x];rfl))) r t (fun m D=>?_) (fun w v e d b n=>?_)
  .have f:m<c.size:=by omega
   refine(cell_of_row i g (0+m) _ _ _ q).trans ?_;rw[bz,aD f];simp[f]
  .have y:=(aa.1 b).1
   have z:v<2:=by
    grind
   have f:w*2+v<c.size:=by omega
   have:c.getD (w*2+v) (.int .i64 0)=c[w*2+v]:=by simp[f]
   show Rd i J (c.getD (w*2+v) (.int .i64 0)) d;rw[this];exact qDO b n (u w v e d _ b n (aD f))
variable {P:List (Ty.El zQ)}
theorem qBf{y:(RTy.tu []).El}(n:uA j ((),())=Sa (P,y))(p:zB8 i (fun _=>False) ⟨fun _=>g,fun _=>g⟩ (fun _=>True) l 0 2 (j.map zQ.enc))(v:j≠[]->g<i.heap.size):
  Calls Aa 176 #[l,.func (.func 224) #[] #[]] i fun e w'=>(∃u,e=.returned u)/\xC (fun c=>j≠[]/\c=g) i w'/\zB8 w' (fun _=>False) ⟨fun _=>g,fun _=>g⟩ (fun _=>True) l 0 2 (P.map zQ.enc):=by
 have h:=zAy.row rfl (zGB () j [.clo 224 []] ((),()) P y rfl n)
 have m:=h i (fun _=>False) (fun _=>False) g l #[l,.func (.func 224) #[] #[]] ⟨fun _ h=>h,⟨fun _ _ _ h=>h,fun _ h=>h⟩⟩ (fun bk A q=>by cases q) (fun c m=>m.elim) p (fun a=>⟨v a,fun h=>h,fun h=>h⟩) rfl rfl (fun wr x d a xs=>by
  match wr,a,xs with
  |0,a,xs=>cases a;cases xs;exact .clo 224 #[] [] rfl (fun wr x d a xs=>by simp at xs))
 refine m.mono ?_;rintro e w' ⟨u,B,C,rfl,_,f,_,_,_,r⟩;refine⟨⟨u,rfl⟩,⟨f.os,f.tape,f.output,f.size,fun b v t=>f.block b v (fun z=>t (z.elim (fun h=>h.elim) id)),f.drawn⟩,?_⟩;exact zJN (zCt.out (fun h=>by cases h) r).1 (fun _=>rfl)
theorem zVN(n:jB j ()=Sa P)(p:zB8 i (fun _=>False) ⟨fun _=>g,fun _=>g⟩ (fun _=>True) l 0 2 (j.map zQ.enc))(k:j≠[]->g<i.heap.size):
  Calls Aa 178 #[l] i fun e w'=>∃u a,e=.returned u/\xC (fun c=>j≠[]/\c=g) i w'/\((a=g/\(j=[]->P=[]))\/(i.heap.size<=a/\a<w'.heap.size))/\zB8 w' (fun _=>False) ⟨fun _=>a,fun _=>a⟩ (fun _=>True) u 0 2 (P.map zQ.enc):=by
 have h:=zAy.row rfl (zDN () j [] () P rfl n);have v:=h i (fun _=>False) (fun _=>False) g l #[l] ⟨fun _ h=>h,⟨fun _ _ _ h=>h,fun _ h=>h⟩⟩ (fun bk B q=>by cases q) (fun c v=>v.elim) p (fun m=>⟨k m,fun h=>h,fun h=>h⟩) rfl rfl (fun wr x d m r=>by simp at r);refine v.mono ?_;rintro e w' ⟨u,C,D,rfl,_,f,_,_,_,a,t,y⟩;exact⟨u,a,rfl,⟨f.os,f.tape,f.output,f.size,fun b k z=>f.block b k (fun A=>z (A.elim (fun h=>h.elim) id)),f.drawn⟩,t.imp id (fun h=>⟨h.1,h.2.1⟩),zJN y (fun _=>rfl)⟩
structure zCJ(w wr:World)(ob nd:Nat)(hv:Nat->Value)(bk:Nat->Nat)(ls:Nat->List (Ty.El zQ)):Prop where
 hO:∃C:Array Value,wr.heap[ob]?=Sa (.cells C 49 (0,0))/\C.size=nd/\∀i,i<nd->C[i]?=Sa (hv i)
 hr:∀i,i<nd->zB8 wr (fun _=>False) ⟨fun _=>bk i,fun _=>bk i⟩ (fun _=>True) (hv i) 0 2 ((ls i).map zQ.enc)
 hb:∀i,i<nd->ls i≠[]->w.heap.size<=bk i/\bk i<wr.heap.size/\bk i≠ob
 inj:∀i j,i<nd->j<nd->ls i≠[]->ls j≠[]->bk i=bk j->i=j
 nO:w.heap.size<=ob
 heap:∀i,i<w.heap.size->wr.heap[i]?=w.heap[i]?
 size:w.heap.size<=wr.heap.size
 os:wr.os=w.os
 tape:wr.tape=w.tape
 output:wr.output=w.output
 drawn:w.drawn<=wr.drawn
theorem zCJ.of{nd:Nat}{hv:Nat->Value}{ls:Nat->List (Ty.El zQ)}(R:zGv i I g nd hv ls):zCJ i I g nd hv (fun w=>(hv w).ownBlock.getD 0) ls:=by
 have a:∀w,w<nd->ls w≠[]->∃wr,(hv w).ownBlock=Sa wr:=fun w c e=>by
  rcases(R.hr w c).2 with⟨_,p⟩|⟨wr,m,k,h,_⟩
  .grind
  .exact⟨wr,by rw[h];rfl⟩
 obtain⟨C,q,_,_⟩:=R.hO;refine⟨R.hO,fun w c=>qFr (R.hr w c) (R.hz w c),fun w c e=>?_,fun w j c hj e n l=>?_,R.nO,R.heap,R.size,R.os,R.tape,R.output,R.drawn⟩
 .obtain⟨wr,f⟩:=a w c e;obtain⟨r,t,k,u⟩:=q9 (R.hr w c) f
  grind
 .obtain⟨wr,f⟩:=a w c e;obtain⟨x,d⟩:=a j hj n;simp[f,d]at l;subst l;exact R.inj w j wr c hj f d
section
variable {w wr W:World}{ob nd:Nat}{hv:Nat->Value}{bk:Nat->Nat}{ls:Nat->List (Ty.El zQ)}
theorem zCJ.cell(R:zCJ w wr ob nd hv bk ls){i:Nat}(hi:i<nd):wr.cell? ⟨ob,i,Sb⟩=Sa (hv i)/\wr.frozen? ⟨ob,i,Sb⟩=false:=by
 obtain⟨C,a,c,d⟩:=R.hO
 grind[cell_of_row,trans,World.frozen?]
variable {g:List (Ty.El zQ)}
theorem qDu{F:Blk->Prop}{b c:Nat}{v:Value}{d:List (Ty.El zQ)}(h:zB8 wr F ⟨fun _=>b,fun _=>b⟩ (fun _=>True) v 0 2 (g.map zQ.enc))(e:zB8 W F ⟨fun _=>c,fun _=>c⟩ (fun _=>True) v 0 2 (d.map zQ.enc))(f:g=[]):d=[]:=by
 subst f;rcases h with⟨_,a,rfl⟩|⟨j,_⟩
 .rcases e with⟨xs,_⟩|⟨_,_,i,k,_⟩
  .simpa using xs
  grind
 grind
theorem zCJ.sort(R:zCJ w wr ob nd hv bk ls){i:Nat}(hi:i<nd)(a:xC (fun c=>ls i≠[]/\c=bk i) wr W)(n:zB8 W (fun _=>False) ⟨fun _=>bk i,fun _=>bk i⟩ (fun _=>True) (hv i) 0 2 (g.map zQ.enc)):
  zCJ w W ob nd hv bk (fun j=>if j=i then g else ls j):=by
 obtain⟨C,l,p,z3⟩:=R.hO;have r:g≠[]->ls i≠[]:=fun t u=>t (qDu (R.hr i hi) n u)
 have d:∀j,j<nd->(if j=i then g else ls j)≠[]->ls j≠[]:=fun j hj e=>by
  grind
 refine⟨⟨C,(a.block ob (qR l) (fun f=>(R.hb i hi f.1).2.2 f.2.symm)).trans l,p,z3⟩,fun j hj=>?_,fun j hj e=>?_,fun j k hj m e h x=>R.inj j k hj m (d j hj e) (d k m h) x,R.nO,fun q hq=>?_,aj R.size a.size,
  a.os.trans R.os,a.tape.trans R.tape,a.output.trans R.output,aj R.drawn a.drawn⟩
 .by_cases ys:j=i
  .grind
  .simp only[if_neg ys];exact zJN (R.hr j hj) (fun e=>a.block (bk j) (R.hb j hj e).2.1 (fun f=>ys (R.inj j i hj hi e f.1 f.2)))
 .have:=R.hb j hj (d j hj e);exact⟨this.1,az this.2.1 a.size,this.2.2⟩
 .exact(a.block q (az hq R.size) (fun f=>by have:=(R.hb i hi f.1).1;omega)).trans (R.heap q hq)
theorem zCJ.put(R:zCJ w wr ob nd hv bk ls){i:Nat}(hi:i<nd){u:Value}{f:Nat}{zs:List (Ty.El zQ)}(l:xC (fun c=>ls i≠[]/\c=bk i) wr W)(n:(f=bk i/\(ls i=[]->zs=[]))\/(wr.heap.size<=f/\f<W.heap.size))
  (E:zB8 W (fun _=>False) ⟨fun _=>f,fun _=>f⟩ (fun _=>True) u 0 2 (zs.map zQ.enc)):
  (W.cell? ⟨ob,i,Sb⟩=Sa (hv i)/\W.frozen? ⟨ob,i,Sb⟩=false)/\zCJ w (W.setCell ⟨ob,i,Sb⟩ u) ob nd (fun j=>if j=i then u else hv j) (fun j=>if j=i then f else bk j) (fun j=>if j=i then zs else ls j):=by
 obtain⟨C,y,F,z3⟩:=R.hO;have m:W.heap[ob]?=Sa (.cells C 49 (0,0)):=(l.block ob (qR y) (fun d=>(R.hb i hi d.1).2.2 d.2.symm)).trans y;have G:=qR y
 have g:∀q,q≠ob->(W.setCell ⟨ob,i,Sb⟩ u).heap[q]?=W.heap[q]? :=fun q hq=>by
  show(W.heap.modify _ _)[q]?=_
  grind
 have p:(W.setCell ⟨ob,i,Sb⟩ u).heap.size=W.heap.size:=by simp_all
 have z:zs≠[]->w.heap.size<=f/\f<W.heap.size/\f≠ob:=fun hz=>by
  rcases n with⟨rfl,h⟩|⟨B,D⟩
  .have:=R.hb i hi (fun d=>hz (h d));exact⟨this.1,az this.2.1 l.size,this.2.2⟩
  .exact⟨aj R.size B,D,by omega⟩
 have x:∀j,j<nd->j≠i->ls j≠[]->zs≠[]->bk j≠f:=fun j hj a e hz r=>by
  rcases n with⟨rfl,h⟩|⟨B,D⟩
  .exact a (R.inj j i hj hi e (fun d=>hz (h d)) r)
  .have:=(R.hb j hj e).2.1;omega
 refine⟨⟨(cell_of_row W ob i _ _ _ m).trans (z3 i hi),by grind[World.frozen?]⟩,⟨C.setIfInBounds i u,xU m,by simp[F],fun j hj=>?_⟩,fun j hj=>?_,fun j hj e=>?_,fun j k hj H e t r=>?_,R.nO,fun q hq=>?_,by rw[p];exact aj R.size l.size,
  l.os.trans R.os,l.tape.trans R.tape,l.output.trans R.output,aj R.drawn l.drawn⟩
 .grind
 .by_cases a:j=i
  .subst a;simp;exact zJN E (fun hz=>g f (z hz).2.2)
  .simp only[if_neg a];exact zJN (R.hr j hj) (fun e=>(g (bk j) (R.hb j hj e).2.2).trans (l.block (bk j) (R.hb j hj e).2.1 (fun d=>a (R.inj j i hj hi e d.1 d.2))))
 .by_cases a:j=i
  .grind
  .simp only[if_neg a]at e ⊢;have:=R.hb j hj e;rw[p];exact⟨this.1,az this.2.1 l.size,this.2.2⟩
 .by_cases a:j=i
  .grind
  .by_cases A:k=i
   .grind
   .simp only[if_neg a]at e r;simp only[if_neg A]at t r;exact R.inj j k hj H e t r
 .refine(g q (fun d=>by have:=R.nO;omega)).trans ((l.block q (az hq R.size) (fun d=>by have:=(R.hb i hi d.1).1;omega)).trans (R.heap q hq))
theorem zCJ.congr{c:Nat->List (Ty.El zQ)}(h:zCJ w wr ob nd hv bk ls)(d:∀i,i<nd->ls i=c i):zCJ w wr ob nd hv bk c:=
 ⟨h.hO,fun i a=>by rw[<-d i a];exact h.hr i a,fun i a f=>h.hb i a (by grind),fun i j a hj g k e=>h.inj i j a hj (by grind) (by grind) e,h.nO,h.heap,h.size,h.os,h.tape,h.output,h.drawn⟩
theorem zCJ.rd(R:zCJ w wr ob nd hv bk ls){a:List (List (Ty.El zQ))}(p:a.length=nd)(g:∀i,i<nd->ls i=a.getD i []):
  ∃fr:Nat->Prop,(∀b,fr b->w.heap.size<=b/\b<wr.heap.size)/\Rd wr (fb fr) (.slice (Sa ⟨ob,0,Sb⟩) nd nd) (.tl (.sl zQ) a):=by
 obtain⟨C,q,r,z3⟩:=R.hO;refine⟨fun b=>b=ob\/∃i,i<nd/\ls i≠[]/\b=bk i,?_,.tl _ _ _ ?_⟩
 .rintro b (rfl|⟨i,c,g,rfl⟩)
  .exact⟨R.nO,qR q⟩
  .exact⟨(R.hb i c g).1,(R.hb i c g).2.1⟩
 .have h:(a.map (Ty.sl zQ).enc).length=nd:=by grind
  have:=Rd.sl (w:=wr) (F:=fb fun b=>b=ob\/∃i,i<nd/\ls i≠[]/\b=bk i) ob 0 nd 1 (a.map (Ty.sl zQ).enc) hv (.inl rfl) (by omega) (fun e f=>by
   simp at f;obtain⟨x,_,rfl⟩:=f
   rfl) (fun m n=>by rw[h,dJ]at n;rw[bz];exact(R.cell n).1) (fun i j e d f hd=>by
    simp at f;obtain⟨x,hx,rfl⟩:=f;have c:i<nd:=by grind
    have k:ls i=x:=by grind
    match j,hd with
    |0,hd=>
     cases hd;rw[dJ,Nat.add_zero,<-k]
     exact qFq (R.hr i c) (fun l=>.inr ⟨i,c,l,rfl⟩))
  grind
end
end Go.Ve
