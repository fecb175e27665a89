/- law16 -/
import Derived.Test.YtgiopebfjmfmhaaGreatLp19
import Derived.Test.YtgiopebfjmfmhaaGreatLp14
import Derived.Test.YtgiopebfjmfmhaaGreatLp17
import Derived.Test.YtgiopebfjmfmhaaGreatLp11
import Derived.Test.YtgiopebfjmfmhaaGreatLp1
import Derived.Test.YtgiopebfjmfmhaaGreatLp12
set_option linter.unusedVariables false
open Option renaming some->Sa,none->Sd
open Bool renaming false->Sb,true->Sc
open Option renaming bind->Aa,isNone->Am
open Go.IntKind renaming wrap->Ab,bits->Aj,signed->Al
open List renaming length->Ac,set->Ah,replicate->Ai,range->Ak
open Sum renaming inr->Ad,inl->Ae
open Int renaming toNat->Af
open Go.Proofs.Tryz renaming prog->Ag
set_option maxRecDepth 1000000
set_option maxHeartbeats 0
namespace Go.Ve
open Go Go.Proofs Go.Shelf Go.RowKit
def zNi:Ren:=⟨fun f=>match f with
 |4=>270
 |n=>n,fun t=>match t with
 |0=>0
 |3=>3
 |4=>4
 |9=>9
 |20=>20
 |22=>49
 |25=>40
 |n=>n,fun n=>n⟩
theorem zNH:Lays8.n4 Ag zNi where
 mixed:=mixed
 f4:=⟨Tryz.f270.name,by kernel_rfl,by kernel_rfl⟩
 t0:=by kernel_rfl
 a0:=zZ (by kernel_rfl)
 z0:=zK (by kernel_rfl)
 v0:=fun w=>by kernel_rfl
 t3:=by kernel_rfl
 a3:=zZ (by kernel_rfl)
 z3:=zK (by kernel_rfl)
 v3:=fun w=>by kernel_rfl
 t4:=by kernel_rfl
 a4:=zZ (by kernel_rfl)
 z4:=zK (by kernel_rfl)
 v4:=fun w=>by kernel_rfl
 t9:=by kernel_rfl
 a9:=zZ (by kernel_rfl)
 z9:=zK (by kernel_rfl)
 v9:=fun w=>by kernel_rfl
 t20:=by kernel_rfl
 a20:=zZ (by kernel_rfl)
 z20:=zK (by kernel_rfl)
 v20:=fun w=>by kernel_rfl
 t22:=by kernel_rfl
 a22:=zZ (by kernel_rfl)
 z22:=zK (by kernel_rfl)
 v22:=fun w=>by kernel_rfl
theorem qDL:(Tryz.prog.info? 40).map (fun i=>(i.zero.map (fun z=>z.cells.size),i.size,i.bytes))=Sa (Sa zQ.size,zQ.size,16):=by kernel_rfl
theorem zPK:∃(i0:TypeInfo) (z:Value),Tryz.prog.info? 40=Sa i0/\i0.zero=Sa z/\i0.size=zQ.size/\i0.bytes=16/\z.cells.size=zQ.size:=by
 have h:=qDL
 cases a:Tryz.prog.info? 40 with
 |none=>grind
 |some i0=>simp_all
theorem qDQ(n:Nat)(w:World)(q:0<n)(r:n*16<=0x800000000000):
  Calls Ag 270 #[.slice Sd 0 0,.int .i64 n] w fun e w'=>∃(G:Nat) (Z:Array Value),e=.returned (.slice (Sa ⟨w.heap.size,0,Sd⟩) 0 G)/\n<=G/\Z.size=G*zQ.size/\w'=(w.alloc (.cells Z 40)).drew:=by
 obtain⟨f,z,g,i,j,k,c⟩:=zPK;have h:=Any8.slices_Grow_grow zNH f z g i (by rw[j];exact Nat.zero_lt_succ _) Sd 0 0 n [] w (ai _) (by omega) (by rw[k];omega) (by omega) (by simp) (fun _=>rfl) (fun a l=>by cases l);refine h.mono ?_;rintro e w' ⟨rfl,rfl⟩;have u:=grownCap_ge w (0+n) 0 (zNi.t 25);refine⟨_,_,rfl,by omega,?_,rfl⟩;have d:∀m,(Builtin.zeroCells z.cells m).size=m*zQ.size:=fun m=>by simp[Builtin.zeroCells,c]
 simp only[Array.size_append,d];have p:(#[]:Array Value).size=0:=rfl;rw[p,bz,<-bF];congr 1;omega
theorem qBO(w:World):Calls Ag 270 #[.slice Sd 0 0,.int .i64 0] w fun e w'=>e=.returned (.slice Sd 0 0)/\w=w':=
 (Any8.slices_Grow_room zNH Sd 0 0 0 w (ai _) (by omega) (by omega) (ai _)).mono fun _ _ h=>⟨h.1,h.2.symm⟩
theorem zWo{a b:Nat}(h:a+b<=0x800000000000):Ab .i64 ((a:Int)+(b:Int))=((a+b:Nat):Int):=by
 have c:((2:Int)^Aj .i64)=0x10000000000000000:=by decide
 have d:((2:Int)^(Aj .i64-1))=0x8000000000000000:=by decide
 simp only[Ab,Al,bR,decide_eq_true_eq,c,d];split<;>omega
theorem zRI{j n:Nat}(h:j<n)(c:n<=1048576):Ab .i64 ((j:Int)+1)=((j+1:Nat):Int):=by have:=zWo (a:=j) (b:=1) (by omega);simpa using this
set_option maxHeartbeats 4000000 in
set_option maxRecDepth 1000000 in
theorem zQG(oa:Option Addr)(b0 off0 N cap0:Nat)(hd:Nat->Option Addr)(ln cp:Nat->Nat)(rows:Nat->List Value)(w:World)
  (hoa:0<N->oa=Sa ⟨b0,off0,Sd⟩) (hb0:Hid (0<N->b0<w.heap.size)) (hN:Hid (N<=1048576)) (hc:Hid (∀j,j<N->w.cell? ⟨b0,off0+j,Sd⟩=Sa (.slice (hd j) (ln j) (cp j))))
  (hs:Hid (∀j,j<N->∀W:World,(∀i,i<w.heap.size->W.heap[i]?=w.heap[i]?)->Src Ag zQ.size 49 (.slice (hd j) (ln j) (cp j)) (ln j) (rows j) W)) (hB:Hid (zBa ln N*16<=0x800000000000)):
  Calls Ag 215 #[.slice oa N cap0] w fun e w'=>∃v,e=.returned v/\((zBa ln N=0/\v=.slice Sd 0 0/\w'=w)\/
   (0<zBa ln N/\∃(G:Nat) (Z:Array Value),v=.slice (Sa ⟨w.heap.size,0,Sd⟩) (zBa ln N) G/\zBa ln N<=G/\Z.size=G*zQ.size/\w'=(w.alloc (.cells Z 40)).drew.setCells w.heap.size 0 (zC2 rows N))):=by
 obtain⟨i0,z,hi,hz,hsz,hby,_⟩:=zPK;have HI:Hid (Tryz.prog.info? 40=Sa i0/\i0.size=zQ.size):=⟨hi,hsz⟩
 clear hi hz hsz hby;have hbound:Hid (∀j,j<=N->zBa ln j<=0x800000000000):=fun j hj=>by have h1:=qAn ln hj;have h2:=hB.out;omega
 have hgrow:Hid (0<zBa ln N->_):=fun h0=>qDQ (zBa ln N) w h0 hB.out
 go_enter Tryz.func215,Tryz.ntmps215
 go_wp2
 go_loopg [3,11] N (fun g s3 s11 wr=>∃j,g=N-j/\j<=N/\s3=.int .i64 (zBa ln j)/\s11=.int .i64 j/\w=wr)
 case atStart=>exact⟨0,rfl,aW _,rfl,rfl,rfl⟩
 case round=>
  obtain⟨j,hg,hj,rfl,rfl,rfl⟩:=hrel;by_cases hlt:j<N
  .obtain rfl:=hoa (by omega);have hx:=hc.out j hlt;have hw1:=zWo (a:=zBa ln j) (b:=ln j) (hbound.out (j+1) hlt);have hw2:=zRI hlt hN.out;generalize hq:zBa ln j+ln j=q at hw1;have hneg:¬((q:Int)<0):=by omega
   go_wp2
   go_roundg (N- (j+1))
   case measure=>omega
   case rel=>exact⟨j+1,rfl,hlt,by rw[<-hq];rfl,by go_num,rfl⟩
  .have hjN:j=N:=by omega
   have hln:Hid (∀i,i<N->zBa ln i+ln i<=zBa ln N):=fun i hi=>qAn ln (i:=i+1) (j:=N) hi;rw[hjN];clear hjN hlt hj hg;rcases cF (zBa ln N)with hzero|hpos
   .have hz0:((zBa ln N:Nat):Int)=0:=by omega
    rw[hz0]
    go_wp2_with (go_at_call 270;refine(qBO w).mono ?_;rintro e w' ⟨rfl,rfl⟩)
    go_wp2
    go_loopg [6,27] N (fun g s6 s27 wr=>∃m,g=N-m/\m<=N/\s6=.slice Sd 0 0/\s27=.int .i64 m/\w=wr)
    case atStart=>exact⟨0,rfl,aW _,rfl,rfl,rfl⟩
    case round=>
     obtain⟨m,hg,hm,rfl,rfl,rfl⟩:=hrel;by_cases hlt:m<N
     .obtain rfl:=hoa (by omega);have hx:=hc.out m hlt;have hw2:=zRI hlt hN.out
      have hrz:∀ty,(Builtin.append_ #[49,49] ty #[.slice Sd 0 0,.slice (hd m) (ln m) (cp m)]).run Ag w=.ok (.slice Sd 0 0) w:=fun ty=>by
       have h1:=hs.out m hlt w (fun _ _=>rfl);have h2:=hln.out m hlt;have h3:ln m=0:=by omega
       have h4:rows m=[]:=aJ (by rw[h1.newsLen,h3,Nat.zero_mul]);rw[h3,h4]at h1;rw[h3];exact run_append_nothing w 49 49 ty 40 i0 (by kernel_rfl) HI.out.1 Sd 0 0 (ai _) _ (by rw[HI.out.2];exact h1)
      go_wp2_with (at_builtin;refine Lib.wpList_append_run _ rfl _ _ _ _ rfl _ _ rfl rfl _ _ (hrz _) ?_)
      go_wp2
      go_roundg (N- (m+1))
      case measure=>omega
      case rel=>exact⟨m+1,rfl,hlt,rfl,by go_num,rfl⟩
     .go_wp2
      go_ret
      exact⟨_,rfl,.inl ⟨hzero,rfl,rfl⟩⟩
   .go_wp2_with (go_at_call 270;refine(hgrow.out hpos).mono ?_;rintro e w' ⟨G,Z,rfl,hG,hZ,rfl⟩)
    go_wp2
    have hold:Hid (∀i,i<w.heap.size->(w.alloc (.cells Z 40)).drew.heap[i]?=w.heap[i]?):=fun i hi=>zUC hi;have hblk:Hid (∀i,i<G*zQ.size->((w.alloc (.cells Z 40)).drew.cell? ⟨w.heap.size,i,Sd⟩).isSome=Sc/\(w.alloc (.cells Z 40)).drew.frozen? ⟨w.heap.size,i,Sd⟩=Sb):=fun i hi=>zZV zUD (by omega);generalize hW1:(w.alloc (.cells Z 40)).drew=W1 at hold hblk ⊢;have HW:Hid ((w.alloc (.cells Z 40)).drew=W1):=hW1;have HZ:Hid (Z.size=G*zQ.size):=hZ;clear hW1 hZ;generalize hbk:w.heap.size=bk at hold hblk ⊢;have HBK:Hid (w.heap.size=bk):=hbk;clear hbk
    go_loopg [6,27] N (fun g s6 s27 wr=>∃m,g=N-m/\m<=N/\s6=.slice (Sa ⟨bk,0,Sd⟩) (zBa ln m) G/\s27=.int .i64 m/\wr=W1.setCells bk 0 (zC2 rows m))
    case atStart=>exact⟨0,rfl,aW _,rfl,rfl,rfl⟩
    case round=>
     obtain⟨m,hg,hm,rfl,rfl,hwr⟩:=hrel;have HWR:Hid (wr=W1.setCells bk 0 (zC2 rows m)):=hwr;clear hwr;by_cases hlt:m<N
     .obtain rfl:=hoa (by omega);have hb:=hb0.out (by omega);have hagree:Hid (∀i,i<bk->wr.heap[i]?=w.heap[i]?):=fun i hi=>by rw[HWR.out,zFY bk _ _ _ (Nat.ne_of_lt hi)];exact hold.out i hi
      have hx:wr.cell? ⟨b0,off0+m,Sd⟩=Sa (.slice (hd m) (ln m) (cp m)):=by rw[World.cell?_of_block (w:=w) (hagree.out b0 (by rw[<-HBK.out];exact hb))];exact hc.out m hlt
      have hw2:=zRI hlt hN.out;have hroom:=hln.out m hlt;have hrl:Hid ((zC2 rows m).length=zBa ln m*zQ.size):=zTN (fun i hi=>(hs.out i (by omega) w (fun _ _=>rfl)).newsLen)
      have hrz:∀ty,(Builtin.append_ #[49,49] ty #[.slice (Sa ⟨bk,0,Sd⟩) (zBa ln m) G,.slice (hd m) (ln m) (cp m)]).run Ag wr=.ok (.slice (Sa ⟨bk,0,Sd⟩) (zBa ln m+ln m) G) (wr.setCells bk (zC2 rows m).length (rows m)):=fun ty=>by
       have h1:=hs.out m hlt wr (fun i hi=>hagree.out i (by rw[<-HBK.out];exact hi));have hle:zBa ln m*zQ.size+ln m*zQ.size<=G*zQ.size:=by rw[<-bF];exact aq _ (by omega)
       have h2:=run_append_room_src (P:=Ag) wr 49 49 ty 40 i0 (by kernel_rfl) HI.out.1 bk 0 (zBa ln m) G _ (ln m) (rows m) (by rw[HI.out.2];exact h1) (by omega)
        (fun jj hjj=>by
         rw[h1.newsLen]at hjj;rw[HI.out.2,HWR.out]
         exact Lib.isSome_setCells bk _ _ _ _ (hblk.out _ (by omega)).1)
        (fun jj hjj=>by
         rw[h1.newsLen]at hjj;rw[HI.out.2,HWR.out,World.frozen?_setCells]
         exact(hblk.out _ (by omega)).2)
       rw[bz,HI.out.2,<-hrl.out]at h2;exact h2
      go_wp2_with (at_builtin;refine Lib.wpList_append_run _ rfl _ _ _ _ rfl _ _ rfl rfl _ _ (hrz _) ?_)
      go_wp2
      go_roundg (N- (m+1))
      case measure=>omega
      case rel=>
       refine⟨m+1,rfl,hlt,rfl,by go_num,?_⟩;rw[HWR.out];have h3:=zIW bk (zC2 rows m) 0 W1 (rows m);rw[bz]at h3;exact h3.symm
     .have hmN:m=N:=by omega
      rw[hmN]at HWR ⊢
      go_wp2
      go_ret
      exact⟨_,rfl,.inr ⟨hpos,G,Z,by rw[HBK.out];rfl,hG,HZ.out,by rw[HBK.out,HW.out];exact HWR.out⟩⟩
noncomputable def zC1:ElS [(.sl (.sl zQ))]->Option (RTy.El (.o zQ)):=fun x=>if(2*x.1.flatten.length+1024)*16<=0x800000000000/\x.1.length<=1048576 then Sa x.1.flatten else Sd
theorem zJP:jJ U Ag G0 215 (z7 (qQ [(.sl (.sl zQ))] (.o zQ) zC1)):=
 zVt (t:=zQ) (TS:=49) (TE:=40) (bytes:=16) (by kernel_rfl) (fun e f a N c g h i d w j k l m n p=>zQG e f a N c g h i d w j k l m n p)
end Go.Ve
namespace Go.Ve
noncomputable section
open Go Go.Proofs
def zC0:List (Ty.El zQ)->ElA [.clo 216 []]->Option (List (Ty.El zQ)×RTy.El (.tu [])):=jG
def uA:List (Ty.El zQ)->ElA [.clo 224 []]->Option (List (Ty.El zQ)×RTy.El (.tu [])):=jG
def vI:ElS [zF,tI,tI]->Option (RTy.El (.tu [z6,.bool])):=fun x=>match x with|(d,c,e,())=>Aa (bif decide (c< (0:Int))then Sa Sc else bif decide (c>=(↑(Ac d.1.1):Int))then Sa Sc else bif decide (e< (0:Int))then Sa Sc else Aa (idx d.1.1 c) fun(f:Ty.El zG)=>Sa (decide (e>=(↑(Ac f.2.2.1):Int)))) fun(g:Bool)=>bif g then Sa (({ data:= #[] },(0:Int),(0:Int),(0:Int),Sb,Sb,(0:Int),(0:Int),Sb, { data:= #[] }, { data:= #[] },(0:Int),()),Sb,())else Aa (idx d.1.1 c) fun(h:Ty.El zG)=>Aa (idx h.2.2.1 e) fun(i:Ty.El z6)=>Sa (i,Sc,())
def wC:ElS [zF,tI,tI,tI]->Option (RTy.El (.p .bool)):=fun x=>match x with|(a,c,e,f,())=>Aa (vI (a,c,e,())) fun(d:Ty.El z6×Bool×Unit)=>Aa (bif d.2.1 then Aa (idx a.1.1 c) fun(g:Ty.El zG)=>bif g.2.2.2.2.2.2.2.2.1.1 then bif d.1.2.2.2.2.2.1 then bif d.1.2.2.2.2.2.2.1==f then Aa (zGK (a,c,e,())) fun(h:Bool)=>Sa h else Sa Sb else Sa Sb else Sa Sb else Sa Sb) fun(i:Bool)=>Sa i
def zDY:ElS [tI]->Option (RTy.El (.p tI)):=fun x=>match x with|(a,())=>Sa (if(64:Int)<if(0:Int)>a then(0:Int)else a then(64:Int)else if(0:Int)>a then(0:Int)else a)
def qW:ElA [.d zL,.pp vK]->Option (RTy.El (.p .bool)):=fun x=>match x with|(a,c,())=>Aa (zCI (c.2.1,a.1,())) fun(e:Bool)=>Sa e
def wD:ElA [.d (.sl zL),.clo 158 [(Sc,vK)]]->Option (RTy.El (.p tI)):=fun x=>match x with|(c,(e,()),())=>wL (zR (fun(a:Int)=>bif decide (a< (↑(Ac c):Int))then Aa (idx c a) fun(f:Ty.El zL)=>Aa (qW (f,e,())) fun(g:Bool)=>bif g then Sa (Ad (Ad a))else Sa (Ae (Ab .i64 (a+(1:Int))))else Sa (Ad (Ae ()))) (0:Int)) fun(h:Unit)=>Sa (-1:Int)
def jP:ElA [.d zC,.pp vK]->Option (RTy.El (.p .bool)):=fun x=>match x with|(a,c,())=>Sa (a.1.1==c.2.1.1&&(a.1.2.1==c.2.1.2.1&&Sc))
def uB:ElA [.d (.sl zC),.clo 160 [(Sc,vK)]]->Option (RTy.El (.p tI)):=fun x=>match x with|(c,(e,()),())=>wL (zR (fun(a:Int)=>bif decide (a< (↑(Ac c):Int))then Aa (idx c a) fun(f:Ty.El zC)=>Aa (jP (f,e,())) fun(g:Bool)=>bif g then Sa (Ad (Ad a))else Sa (Ae (Ab .i64 (a+(1:Int))))else Sa (Ad (Ae ()))) (0:Int)) fun(h:Unit)=>Sa (-1:Int)
def wN:ElA [.d (.sl zC),.clo 160 [(Sc,vK)]]->Option (RTy.El (.p .bool)):=fun x=>match x with|(a,(c,()),())=>Aa (uB (a,(c,()),())) fun(e:Int)=>Sa (decide (e>=(0:Int)))
def u4:ElA [.d zL,.pp zD]->Option (RTy.El (.p .bool)):=fun x=>match x with|(a,c,())=>Sa (a.1.1==c.1&&(a.1.2.1==c.2.1&&Sc))
def xE:ElS [(.sl zQ),(.sl zQ)]->Option (RTy.El (.p (.sl zQ))):=fun x=>match x with|(c,d,())=>Aa (zC1 ([c,d],())) fun(a:List (Ty.El zQ))=>bif Nat.beq (Ac a) (Ac a)&&Nat.beq (Ac a) (Ac a)then Aa (zC0 a ((),())) fun(e:List (Ty.El zQ)×Unit)=>Aa (jB e.1 ()) fun(f:List (Ty.El zQ))=>Sa f else Sd
def kF:Ty.El wA->ElA [.d tI,.d (.sl zQ)]->Option (Ty.El wA×RTy.El (.tu [])):=fun a x=>match x with|(c,e,())=>Aa (atN [a] (0:Nat)) fun(h:Ty.El wA)=>bif decide (h.1< (0:Int))then Aa (uP (e,())) fun(i:List (Ty.El zQ))=>Aa (atN [a] (0:Nat)) fun(j:Ty.El wA)=>Aa (atN [(c,j.2)] (0:Nat)) fun(k:Ty.El wA)=>Sa ((k.1,i,()),())else Aa (atN [a] (0:Nat)) fun(l:Ty.El wA)=>bif decide (c<l.1)then Aa (uP (e,())) fun(m:List (Ty.El zQ))=>Aa (atN [a] (0:Nat)) fun(n:Ty.El wA)=>Aa (atN [(c,n.2)] (0:Nat)) fun(p:Ty.El wA)=>Sa ((p.1,m,()),())else Aa (atN [a] (0:Nat)) fun(q:Ty.El wA)=>bif c==q.1 then Aa (atN [a] (0:Nat)) fun(r:Ty.El wA)=>Aa (xE (r.2.1,e,())) fun(f:List (Ty.El zQ))=>Aa (atN [a] (0:Nat)) fun(g:Ty.El wA)=>Sa ((g.1,f,()),())else Sa (a,())
def zBF:ElS [zF]->Option (RTy.El (.p (.sl tI))):=fun x=>match x with|(k,())=>Aa (zBk (8:Nat) (↑(Ac k.1.1):Int) (0:Int)) fun(B:List Int)=>Aa (zR (fun(f:Int×List Int)=>bif decide (f.1< (↑(Ac k.1.1):Int))then Aa (idx f.2 f.1) fun(C:Int)=>Aa (atN f.2 (Af f.1)) fun(D:Int)=>Sa (Ae (Ab .i64 (f.1+(1:Int)),Ah f.2 (Af f.1) f.1))else Sa (Ad f.2)) ((0:Int),B)) fun(t:List Int)=>Aa (zR (fun(e:Int×List Int)=>bif decide (e.1< (↑(Ac k.1.1):Int))then Aa (zR (fun(a:Int×List Int)=>bif decide (a.1< (↑(Ac k.1.1):Int))then Aa (zR (fun(d:Int×List Int)=>Aa (idx k.1.1 a.1) fun(l:Ty.El zG)=>bif decide (d.1< (↑(Ac l.2.2.1):Int))then Aa (Aa (zCc (k,a.1,d.1,())) fun(g:List (Ty.El zS))=>zR (fun(c:Int×List Int)=>bif decide (c.1< (↑(Ac g):Int))then Aa (idx c.2 a.1) fun(u:Int)=>Aa (atN c.2 (Af a.1)) fun(h:Int)=>Aa (idx g c.1) fun(i:Ty.El zS)=>Aa (idx c.2 i.1) fun(y:Int)=>Aa (atN c.2 (Af i.1)) fun(j:Int)=>Aa (idx c.2 a.1) fun(z:Int)=>Aa (atN c.2 (Af a.1)) fun(A:Int)=>Sa (Ae (Ab .i64 (c.1+(1:Int)),Ah c.2 (Af a.1) (if j<h then j else h)))else Sa (Ad c.2)) ((0:Int),d.2)) fun(m:List Int)=>Sa (Ae (Ab .i64 (d.1+(1:Int)),m))else Sa (Ad d.2)) ((0:Int),a.2)) fun(n:List Int)=>Sa (Ae (Ab .i64 (a.1+(1:Int)),n))else Sa (Ad a.2)) ((0:Int),e.2)) fun(q:List Int)=>Sa (Ae (Ab .i64 (e.1+(1:Int)),q))else Sa (Ad e.2)) ((0:Int),t)) fun(r:List Int)=>Sa r
def jL:ElA [.d (.sl zL),.clo 158 [(Sc,vK)]]->Option (RTy.El (.p .bool)):=fun x=>match x with|(a,(c,()),())=>Aa (wD (a,(c,()),())) fun(e:Int)=>Sa (decide (e>=(0:Int)))
def yQ:ElS [tI,qD]->Option (RTy.El (.p .bool)):=fun x=>match x with|(c,a,())=>Aa (bif decide (a.1>=(0:Int))then bif decide (a.1<c)then bif decide (a.2.1>=(0:Int))then bif decide (a.2.1<c)then bif decide (a.2.2.1>=(1:Int))then Sa (decide (a.2.2.1<=(16777215:Int)))else Sa Sb else Sa Sb else Sa Sb else Sa Sb else Sa Sb) fun(d:Bool)=>Sa d
def jH:ElS [tI,(.sl qD),tI]->Option (RTy.El (.p (.sl tI))):=fun x=>match x with|(Q,E,n,())=>Aa (zDY (Q,())) fun(C:Int)=>Aa (zBk (8:Nat) C (0:Int)) fun(F:List Int)=>Aa (zR (fun(k:Int×List Int)=>bif decide (k.1< (↑(Ac F):Int))then Aa (idx k.2 k.1) fun(Z:Int)=>Aa (atN k.2 (Af k.1)) fun(S:Int)=>Sa (Ae (Ab .i64 (k.1+(1:Int)),Ah k.2 (Af k.1) (-1:Int)))else Sa (Ad k.2)) ((0:Int),F)) fun(q:List Int)=>Aa (bif decide (n< (0:Int))then Sa (Sc,q)else Sa (decide (n>=C),q)) fun(j:Bool×List Int)=>bif j.1 then Sa j.2 else Aa (idx j.2 n) fun(W:Int)=>Aa (atN j.2 (Af n)) fun(Y:Int)=>Aa (zBk (1:Nat) C Sb) fun(D:List Bool)=>zR (fun(i:List Int×List Bool)=>Aa (zR (fun(a:Int×List Int×List Bool×Int×List Int)=>bif decide (a.1< (↑(Ac i.1):Int))then Aa (Aa (idx a.2.1 a.1) fun(G:Int)=>Aa (atN a.2.1 (Af a.1)) fun(l:Int)=>Aa (Aa (idx a.2.2.1 a.1) fun(H:Bool)=>Aa (atN a.2.2.1 (Af a.1)) fun(r:Bool)=>bif !r then bif decide (l>=(0:Int))then bif decide (a.2.2.2.1< (0:Int))then Sa (Sc,a.2.1,a.2.2.1,a.2.2.2.2)else Aa (idx a.2.2.2.2 a.2.2.2.1) fun(I:Int)=>Aa (atN a.2.2.2.2 (Af a.2.2.2.1)) fun(t:Int)=>Sa (decide (l<t),a.2.1,a.2.2.1,a.2.2.2.2)else Sa (Sb,a.2.1,a.2.2.1,a.2.2.2.2)else Sa (Sb,a.2.1,a.2.2.1,a.2.2.2.2)) fun(f:Bool×List Int×List Bool×List Int)=>bif f.1 then Sa (f.2.1,f.2.2.1,a.1,f.2.2.2)else Sa (f.2.1,f.2.2.1,a.2.2.2.1,f.2.2.2)) fun(u:List Int×List Bool×Int×List Int)=>Sa (Ae (Ab .i64 (a.1+(1:Int)),u))else Sa (Ad (a.2.2.2.1,a.2.2.2.2,a.2.2.1))) ((0:Int),i.1,i.2,(-1:Int),i.1)) fun(c:Int×List Int×List Bool)=>bif decide (c.1< (0:Int))then Sa (Ad c.2.1)else Aa (idx c.2.2 c.1) fun(J:Bool)=>Aa (atN c.2.2 (Af c.1)) fun(K:Bool)=>zR (fun(g:Int×List Int×List Bool)=>bif decide (g.1< (↑(Ac E):Int))then Aa (Aa (idx E g.1) fun(d:Ty.El qD)=>Aa (Aa (yQ (C,d,())) fun(y:Bool)=>bif !y then Sa (Sc,g.2)else Sa (d.1 !=c.1,g.2)) fun(e:Bool×List Int×List Bool)=>bif e.1 then Sa e.2 else Aa (idx e.2.1 c.1) fun(L:Int)=>Aa (atN e.2.1 (Af c.1)) fun(m:Int)=>Aa (Aa (idx e.2.1 d.2.1) fun(M:Int)=>Aa (atN e.2.1 (Af d.2.1)) fun(z:Int)=>bif decide (z< (0:Int))then Sa (Sc,e.2)else Aa (idx e.2.1 d.2.1) fun(N:Int)=>Aa (atN e.2.1 (Af d.2.1)) fun(A:Int)=>Sa (decide (Ab .i64 (m+d.2.2.1)<A),e.2)) fun(h:Bool×List Int×List Bool)=>bif h.1 then Aa (idx h.2.1 d.2.1) fun(O:Int)=>Aa (atN h.2.1 (Af d.2.1)) fun(P:Int)=>Sa (Ah h.2.1 (Af d.2.1) (Ab .i64 (m+d.2.2.1)),h.2.2)else Sa h.2) fun(B:List Int×List Bool)=>Sa (Ae (Ab .i64 (g.1+(1:Int)),B))else Sa (Ad (Ae g.2))) ((0:Int),c.2.1,Ah c.2.2 (Af c.1) Sc)) (Ah j.2 (Af n) (0:Int),D)
def zDh(r:Int)(d:List Int)(es:List (Ty.El qD×Option (List Int)))(i:Nat):List (Ty.El zQ):=es.filterMap fun e=>match e.2 with|none=>Sd|some l=>bif decide ((i:Int)≠r)&&(decide (l.getD i 0>=(0:Int))&&(Ab .i64 (e.1.2.2.1+l.getD i 0)==d.getD i 0))then Sa e.1.2.2.2.1 else Sd
def zHq(n:Int)(es:List (Ty.El qD))(r:Int):Option (List Int):=Aa (jH (n,es,r,())) fun d:List Int=>if d.length=n.toNat then Sa d else Sd
def zCY:ElS [tI,(.sl qD),tI]->Option (RTy.El (.p (.sl (.sl zQ)))):=fun x=>match x with|(f,a,c,())=>Aa (zDY (f,())) fun n=>if n<=0\/1048576<a.length then Sd else Aa (zHq n a c) fun d=>Aa (zCn (fun e:Ty.El qD=>Aa (yQ (n,e,())) fun u=>bif u&&(e.1==c)then(zHq n a e.2.1).map (fun l=>(e,Sa l))else Sa (e,Sd)) a) fun g=>zCn (fun i=>Aa (uA (zDh c d g i) ((),())) fun y=>jB y.1 ()) (Ak n.toNat)
def zMk:ElS [zQ,zQ]->Option (RTy.El (.p tI)):=fun x=>match x with|(a,c,())=>Aa (qH (a.1,c.1,())) fun(d:Int)=>Aa (kI (a.2.1,c.2.1,())) fun(e:Int)=>Aa (zBw ([d,e],())) fun(f:Int)=>Sa f
def jD:ElS [zF,tI]->Option (RTy.El (.p (.sl qD))):=fun x=>match x with|(f,u,())=>Aa (zR (fun(c:Int×List (Ty.El qD))=>bif decide (c.1< (↑(Ac f.1.1):Int))then Aa (Aa (idx f.1.1 c.1) fun(g:Ty.El zG)=>zR (fun(a:Int×List (Ty.El qD))=>bif decide (a.1< (↑(Ac g.2.2.1):Int))then Aa (Aa (idx g.2.2.1 a.1) fun(i:Ty.El z6)=>Aa (wC (f,c.1,a.1,u,())) fun(j:Bool)=>bif !j then Sa a.2 else Aa (zAe (f,c.1,a.1,())) fun(h:List (Ty.El zS))=>zR (fun(d:Int×List (Ty.El qD))=>bif decide (d.1< (↑(Ac h):Int))then Aa (Aa (idx h d.1) fun(e:Ty.El zS)=>Aa (wC (f,e.1,e.2.1,u,())) fun(k:Bool)=>bif !k then Sa d.2 else Aa (vI (f,e.1,e.2.1,())) fun(l:Ty.El z6×Bool×Unit)=>Aa (app (40:Nat) d.2 [(c.1,e.1,i.2.2.2.2.2.2.2.1,(a.1,l.1.2.1,()),())]) fun(m:List (Ty.El qD))=>Sa m) fun(n:List (Ty.El qD))=>Sa (Ae (Ab .i64 (d.1+(1:Int)),n))else Sa (Ad d.2)) ((0:Int),a.2)) fun(q:List (Ty.El qD))=>Sa (Ae (Ab .i64 (a.1+(1:Int)),q))else Sa (Ad a.2)) ((0:Int),c.2)) fun(r:List (Ty.El qD))=>Sa (Ae (Ab .i64 (c.1+(1:Int)),r))else Sa (Ad c.2)) ((0:Int),[])) fun(t:List (Ty.El qD))=>Sa t
def vM:ElA [.d (.sl zL),.clo 225 [(Sc,zD)]]->Option (RTy.El (.p tI)):=fun x=>match x with|(c,(e,()),())=>wL (zR (fun(a:Int)=>bif decide (a< (↑(Ac c):Int))then Aa (idx c a) fun(f:Ty.El zL)=>Aa (u4 (f,e,())) fun(g:Bool)=>bif g then Sa (Ad (Ad a))else Sa (Ae (Ab .i64 (a+(1:Int))))else Sa (Ad (Ae ()))) (0:Int)) fun(h:Unit)=>Sa (-1:Int)
def vE:ElS [(.sl zL),zD]->Option (RTy.El (.p tI)):=fun x=>match x with|(a,c,())=>Aa (vM (a,(c,()),())) fun(d:Int)=>Sa d
def jC:List (Ty.El zL)->ElA [.d zL]->Option (List (Ty.El zL)):=fun l x=>match x with|(a,())=>Aa (vE (l,a.1,())) fun k=>bif decide (k< (0:Int))then app (24:Nat) l [a]else Aa (idx l k) fun y=>Sa (l.set k.toNat (y.1,(bif decide (a.2.1<y.2.1)then a.2.1 else y.2.1),()))
def HH:zSQ:=fun n a r=>zCY (n,a,r,())
def qC:ElS [(.pt qL),(.pt qN),tI,tI]->Option (RTy.El (.p (.sl zQ))):=fun x=>match x with|(e,f,c,d,())=>Aa e fun s=>Aa f fun a=>bif decide (s.2.2.1=((a.1%16:Nat):Int))&&(decide ((0:Int)<=c)&&decide (c< (8:Int)))then Aa (HH s.2.2.1 a.2.2.2.1 c) fun h=>bif decide (d>=(↑(Ac h):Int))then Sa []else idx h d else Sd
def zW:ElS [(.pt qN),tI,tI]->Option (RTy.El (.p tI)):=fun x=>match x with|(f,d,e,())=>Aa (bif decide (d>=(8:Int))then Sa Sc else Sa (decide (e>=(8:Int)))) fun(g:Bool)=>bif g then Sa (-1:Int)else Aa f fun(a:Nat×Ty.El qN)=>Aa (idx [a.2.2.2.2.2.1.1,a.2.2.2.2.2.1.2.1,a.2.2.2.2.2.1.2.2.1,a.2.2.2.2.2.1.2.2.2.1,a.2.2.2.2.2.1.2.2.2.2.1,a.2.2.2.2.2.1.2.2.2.2.2.1,a.2.2.2.2.2.1.2.2.2.2.2.2.1,a.2.2.2.2.2.1.2.2.2.2.2.2.2.1] d) fun(c:Ty.El tI8)=>Aa (idx [c.1,c.2.1,c.2.2.1,c.2.2.2.1,c.2.2.2.2.1,c.2.2.2.2.2.1,c.2.2.2.2.2.2.1,c.2.2.2.2.2.2.2.1] e) fun(h:Int)=>Sa h
def jA:ElS [(.pt qL),(.pt qN),tI]->Option (RTy.El (.p (.sl zL))):=fun x=>match x with|(k,i,j,())=>Aa (Aa i fun(d:Nat×Ty.El qN)=>zR (fun(a:Int×List (Ty.El zL))=>bif decide (a.1< (↑(Ac d.2.2.1):Int))then Aa (Aa (idx d.2.2.1 a.1) fun(c:Ty.El zJv)=>Aa (zW (i,j,c.1,())) fun(e:Int)=>bif decide (e>=(0:Int))then Aa (jC a.2 ((c.2.1,Ab .i64 (e+c.2.2.1),()),())) fun(f:List (Ty.El zL))=>Sa f else Sa a.2) fun(g:List (Ty.El zL))=>Sa (Ae (Ab .i64 (a.1+(1:Int)),g))else Sa (Ad a.2)) ((0:Int),[])) fun(h:List (Ty.El zL))=>Sa h
def qO:ElS [(.pt qL),tI,zD]->Option (RTy.El (.p .bool)):=fun x=>match x with|(j,k,l,())=>wL (Aa j fun(f:Nat×Ty.El qL)=>Aa (idx f.2.1.1.1 k) fun(d:Ty.El zG)=>zR (fun(a:Int)=>bif decide (a< (↑(Ac d.2.2.1):Int))then Aa (idx d.2.2.1 a) fun(c:Ty.El z6)=>Aa (bif c.2.2.1 !=(0:Int)then Aa (zBM (c.2.1,c.2.2.1,())) fun(e:Int×Int×Unit)=>bif e.1==l.1&&(e.2.1==l.2.1&&Sc)then Aa j fun(g:Nat×Ty.El qL)=>Aa (zGK (g.2.1,k,a,())) fun(h:Bool)=>Sa h else Sa Sb else Sa Sb) fun(i:Bool)=>bif i then Sa (Ad (Ad Sc))else Sa (Ae (Ab .i64 (a+(1:Int))))else Sa (Ad (Ae ()))) (0:Int)) fun(m:Unit)=>Sa Sb
def qE:ElS [(.pt qL),tI,tI,zL]->Option (RTy.El (.p zC)):=fun x=>match x with|(c,d,e,a,())=>Aa c fun(f:Nat×Ty.El qL)=>Aa (idx f.2.1.1.1 d) fun(g:Ty.El zG)=>Sa (a.1,(3:Int),e,g.2.2.2.2.2.2.2.2.1.2.1,a.2.1,(0:Int),(0:Int),(0:Int),[],(0:Int),(0:Int),[],Sb,())
def vO:ElS [(.pt qL),tI]->Option (RTy.El (.o zC)):=fun x=>match x with|(p,n,())=>Aa (Aa p fun(i:Nat×Ty.El qL)=>zR (fun(e:Int×List (Ty.El zC))=>bif decide (e.1< (↑(Ac i.2.2.2.1):Int))then Aa (Aa (idx i.2.2.2.1 e.1) fun(g:Ty.El (Ty.pt qN))=>Aa (jA (p,g,n,())) fun(j:List (Ty.El zL))=>zR (fun(c:Int×List (Ty.El zC))=>bif decide (c.1< (↑(Ac j):Int))then Aa (Aa (idx j c.1) fun(f:Ty.El zL)=>Aa (qO (p,n,f.1,())) fun(q:Bool)=>bif q then Sa c.2 else Aa (qE (p,n,(1:Int),f,())) fun(r:Ty.El zD×Int×Int×Int×Int×Int×Int×Int×List Int×Int×Int×List (Ty.El zQ)×Bool×Unit)=>Aa (Aa g fun(k:Nat×Ty.El qN)=>zR (fun(a:Int×List (Ty.El zC)×Ty.El zC)=>bif decide (a.1< (↑(Ac k.2.2.1):Int))then Aa (Aa (idx k.2.2.1 a.1) fun(d:Ty.El zJv)=>Aa (zW (g,n,d.1,())) fun(l:Int)=>Aa (bif d.2.1.1==f.1.1&&(d.2.1.2.1==f.1.2.1&&Sc)then bif d.1 !=n then bif decide (l>=(0:Int))then Sa (Ab .i64 (l+d.2.2.1)==f.2.1,a.2.1)else Sa (Sb,a.2.1)else Sa (Sb,a.2.1)else Sa (Sb,a.2.1)) fun(h:Bool×List (Ty.El zC))=>bif h.1 then Aa (qC (p,g,n,d.1,())) fun(t:List (Ty.El zQ))=>Aa (xE (a.2.2.2.2.2.2.2.2.2.2.2.2.2.1,t,())) fun(u:List (Ty.El zQ))=>Sa (h.2,a.2.2.1,a.2.2.2.1,a.2.2.2.2.1,a.2.2.2.2.2.1,a.2.2.2.2.2.2.1,a.2.2.2.2.2.2.2.1,a.2.2.2.2.2.2.2.2.1,a.2.2.2.2.2.2.2.2.2.1,a.2.2.2.2.2.2.2.2.2.2.1,a.2.2.2.2.2.2.2.2.2.2.2.1,a.2.2.2.2.2.2.2.2.2.2.2.2.1,u,a.2.2.2.2.2.2.2.2.2.2.2.2.2.2)else Sa (h.2,a.2.2)) fun(y:List (Ty.El zC)×Ty.El zC)=>Sa (Ae (Ab .i64 (a.1+(1:Int)),y))else Sa (Ad a.2)) ((0:Int),c.2,r)) fun(m:List (Ty.El zC)×Ty.El zC)=>Aa (app (136:Nat) m.1 [m.2]) fun(z:List (Ty.El zC))=>Sa z) fun(A:List (Ty.El zC))=>Sa (Ae (Ab .i64 (c.1+(1:Int)),A))else Sa (Ad c.2)) ((0:Int),e.2)) fun(B:List (Ty.El zC))=>Sa (Ae (Ab .i64 (e.1+(1:Int)),B))else Sa (Ad e.2)) ((0:Int),[])) fun(C:List (Ty.El zC))=>Sa C
def wY:ElS [(.pt qL),tI]->Option (RTy.El (.p (.pt qN))):=fun x=>match x with|(f,g,())=>wL (Aa f fun(d:Nat×Ty.El qL)=>zR (fun(a:Int)=>bif decide (a< (↑(Ac d.2.2.2.1):Int))then Aa (idx d.2.2.2.1 a) fun(e:Ty.El (Ty.pt qN))=>Aa e fun(c:Nat×Ty.El qN)=>bif c.2.1==g then Sa (Ad (Ad e))else Sa (Ae (Ab .i64 (a+(1:Int))))else Sa (Ad (Ae ()))) (0:Int)) fun(h:Unit)=>Sa Sd
def vU:ElS [(.pt qL),tI,tI]->Option (RTy.El (.p .bool)):=fun x=>match x with|(c,d,f,())=>Aa (wY (c,f,())) fun(e:Option (Nat×Ty.El qN))=>Aa (bif !Am e then Aa c fun(g:Nat×Ty.El qL)=>bif decide (d<g.2.2.1)then Aa e fun(a:Nat×Ty.El qN)=>Aa (idx [a.2.2.2.2.1.1,a.2.2.2.2.1.2.1,a.2.2.2.2.1.2.2.1,a.2.2.2.2.1.2.2.2.1,a.2.2.2.2.1.2.2.2.2.1,a.2.2.2.2.1.2.2.2.2.2.1,a.2.2.2.2.1.2.2.2.2.2.2.1,a.2.2.2.2.1.2.2.2.2.2.2.2.1] d) fun(h:Bool)=>Sa h else Sa Sb else Sa Sb) fun(i:Bool)=>Sa i
def jI:ElS [(.pt qL),tI]->Option (RTy.El (.p .bool)):=fun x=>match x with|(i,j,())=>Aa (vU (i,j,(0:Int),())) fun(k:Bool)=>bif !k then Sa Sb else wL (Aa i fun(d:Nat×Ty.El qL)=>zR (fun(c:Int)=>bif decide (c< (↑(Ac d.2.2.2.1):Int))then Aa (idx d.2.2.2.1 c) fun(e:Ty.El (Ty.pt qN))=>Aa (Aa e fun(f:Nat×Ty.El qN)=>bif f.2.1 !=(0:Int)then Aa e fun(a:Nat×Ty.El qN)=>Aa (idx [a.2.2.2.2.1.1,a.2.2.2.2.1.2.1,a.2.2.2.2.1.2.2.1,a.2.2.2.2.1.2.2.2.1,a.2.2.2.2.1.2.2.2.2.1,a.2.2.2.2.1.2.2.2.2.2.1,a.2.2.2.2.1.2.2.2.2.2.2.1,a.2.2.2.2.1.2.2.2.2.2.2.2.1] j) fun(g:Bool)=>Sa g else Sa Sb) fun(h:Bool)=>bif h then Sa (Ad (Ad Sc))else Sa (Ae (Ab .i64 (c+(1:Int))))else Sa (Ad (Ae ()))) (0:Int)) fun(l:Unit)=>Sa Sb
def wF:ElS [(.pt qL),tI,(.sl zC)]->Option (RTy.El (.o zC)):=fun x=>match x with|(g,h,u,())=>Aa (jI (g,h,())) fun(y:Bool)=>bif !y then Sa []else Aa (Aa g fun(k:Nat×Ty.El qL)=>Aa (idx k.2.1.1.1 h) fun(i:Ty.El zG)=>zR (fun(c:Int×List (Ty.El zC))=>bif decide (c.1< (↑(Ac i.2.2.2.2.2.2.2.2.1.2.2.1):Int))then Aa (Aa (idx i.2.2.2.2.2.2.2.2.1.2.2.1 c.1) fun(d:Ty.El vK)=>Aa (wY (g,d.1,())) fun(j:Option (Nat×Ty.El qN))=>Aa (bif Am j then Sa (Sc,c.2)else Aa (qO (g,h,d.2.1,())) fun(l:Bool)=>Sa (l,c.2)) fun(e:Bool×List (Ty.El zC))=>bif e.1 then Sa e.2 else Aa (Aa (jA (g,j,h,())) fun(m:List (Ty.El zL))=>Aa (jL (m,(d,()),())) fun(n:Bool)=>bif n then Aa (wN (u,(d,()),())) fun(p:Bool)=>Sa (!p,e.2)else Sa (Sb,e.2)) fun(f:Bool×List (Ty.El zC))=>bif f.1 then Aa (qE (g,h,(1:Int),(d.2.1,(0:Int),()),())) fun(a:Ty.El zD×Int×Int×Int×Int×Int×Int×Int×List Int×Int×Int×List (Ty.El zQ)×Bool×Unit)=>Aa (app (136:Nat) f.2 [(a.1,a.2.1,a.2.2.1,a.2.2.2.1,a.2.2.2.2.1,a.2.2.2.2.2.1,a.2.2.2.2.2.2.1,a.2.2.2.2.2.2.2.1,a.2.2.2.2.2.2.2.2.1,a.2.2.2.2.2.2.2.2.2.1,a.2.2.2.2.2.2.2.2.2.2.1,a.2.2.2.2.2.2.2.2.2.2.2.1,Sc,())]) fun(q:List (Ty.El zC))=>Sa q else Sa f.2) fun(r:List (Ty.El zC))=>Sa (Ae (Ab .i64 (c.1+(1:Int)),r))else Sa (Ad c.2)) ((0:Int),[])) fun(t:List (Ty.El zC))=>Sa t
def jU:ElS [(.pt qL),tI,tI,(.pt qN)]->Option (RTy.El (.p .bool)):=fun x=>match x with|(l,e,k,d,())=>Aa (Aa d fun(a:Nat×Ty.El qN)=>Aa (idx [a.2.2.2.2.1.1,a.2.2.2.2.1.2.1,a.2.2.2.2.1.2.2.1,a.2.2.2.2.1.2.2.2.1,a.2.2.2.2.1.2.2.2.2.1,a.2.2.2.2.1.2.2.2.2.2.1,a.2.2.2.2.1.2.2.2.2.2.2.1,a.2.2.2.2.1.2.2.2.2.2.2.2.1] e) fun(m:Bool)=>bif m then Aa d fun(c:Nat×Ty.El qN)=>Aa (idx [c.2.2.2.2.1.1,c.2.2.2.2.1.2.1,c.2.2.2.2.1.2.2.1,c.2.2.2.2.1.2.2.2.1,c.2.2.2.2.1.2.2.2.2.1,c.2.2.2.2.1.2.2.2.2.2.1,c.2.2.2.2.1.2.2.2.2.2.2.1,c.2.2.2.2.1.2.2.2.2.2.2.2.1] k) fun(f:Bool)=>bif f then Aa (zW (d,e,k,())) fun(g:Int)=>bif decide (g>=(0:Int))then Aa d fun(h:Nat×Ty.El qN)=>bif h.2.1==(0:Int)then Sa Sc else Aa (vU (l,e,(0:Int),())) fun(i:Bool)=>Sa !i else Sa Sb else Sa Sb else Sa Sb) fun(j:Bool)=>Sa j
def wG:ElS [(.pt qL),(.pt qN),tI,zD]->Option (RTy.El (.tu [zD,.bool])):=fun x=>match x with|(i,j,k,l,())=>wL (Aa i fun(e:Nat×Ty.El qL)=>Aa (idx e.2.1.1.1 k) fun(d:Ty.El zG)=>zR (fun(a:Int×Ty.El zD)=>bif decide (a.1< (↑(Ac d.2.2.2.2.2.2.2.2.1.2.2.1):Int))then Aa (idx d.2.2.2.2.2.2.2.2.1.2.2.1 a.1) fun(c:Ty.El vK)=>Aa (Aa j fun(f:Nat×Ty.El qN)=>bif c.1==f.2.1 then Aa (zCI (c.2.1,l,())) fun(g:Bool)=>Sa g else Sa Sb) fun(h:Bool)=>bif h then Sa (Ad (Ad (c.2.1,Sc,())))else Sa (Ae (Ab .i64 (a.1+(1:Int)),a.2))else Sa (Ad (Ae a.2))) ((0:Int),(0:Int),(0:Int),())) fun(m:Ty.El zD)=>Sa (((0:Int),(0:Int),()),Sb,())
def wO:ElS [(.pt qL),(.pt qN),tI]->Option (RTy.El (.p (.sl zL))):=fun x=>match x with|(m,n,q,())=>Aa (Aa (jA (m,n,q,())) fun(f:List (Ty.El zL))=>zR (fun(a:Int×List (Ty.El zL))=>bif decide (a.1< (↑(Ac f):Int))then Aa (Aa (idx f a.1) fun(d:Ty.El zL)=>Aa (wG (m,n,q,d.1,())) fun(e:Ty.El zD×Bool×Unit)=>bif !e.2.1 then Aa (jC a.2 (d,())) fun(h:List (Ty.El zL))=>Sa h else Aa (vE (a.2,e.1,())) fun(c:Int)=>bif decide (c>=(0:Int))then Aa (idx a.2 c) fun(r:Ty.El zL)=>Aa (atN a.2 (Af c)) fun(g:Ty.El zL)=>Aa (idx a.2 c) fun(t:Ty.El zL)=>Aa (atN a.2 (Af c)) fun(i:Ty.El zL)=>Sa (Ah a.2 (Af c) (i.1,if d.2.1>g.2.1 then d.2.1 else g.2.1,()))else Aa (app (24:Nat) a.2 [(e.1,d.2)]) fun(j:List (Ty.El zL))=>Sa j) fun(k:List (Ty.El zL))=>Sa (Ae (Ab .i64 (a.1+(1:Int)),k))else Sa (Ad a.2)) ((0:Int),[])) fun(l:List (Ty.El zL))=>Sa l
def wT:ElS [(.pt qL),tI,zD]->Option (RTy.El (.p .bool)):=fun x=>match x with|(g,h,i,())=>wL (Aa g fun(c:Nat×Ty.El qL)=>zR (fun(a:Int)=>bif decide (a< (↑(Ac c.2.2.2.1):Int))then Aa (idx c.2.2.2.1 a) fun(d:Ty.El (Ty.pt qN))=>Aa (jA (g,d,h,())) fun(e:List (Ty.El zL))=>Aa (vE (e,i,())) fun(f:Int)=>bif decide (f>=(0:Int))then Sa (Ad (Ad Sc))else Sa (Ae (Ab .i64 (a+(1:Int))))else Sa (Ad (Ae ()))) (0:Int)) fun(j:Unit)=>Sa Sb
def zBm:ElS [(.pt qL),tI,zC,tI,(.sl zQ)]->Option (RTy.El (.tu [zC,.bool])):=fun x=>match x with|(c,d,a,e,h,())=>Aa (qO (c,d,a.1,())) fun(i:Bool)=>bif i then Sa ((((0:Int),(0:Int),()),(0:Int),(0:Int),(0:Int),(0:Int),(0:Int),(0:Int),(0:Int),[],(0:Int),(0:Int),[],Sb,()),Sb,())else Aa c fun(j:Nat×Ty.El qL)=>Aa (idx j.2.1.1.1 d) fun(f:Ty.El zG)=>Aa (uP (h,())) fun(g:List (Ty.El zQ))=>wL (bif a.2.2.1==(3:Int)then Sa (Ae (a.1,(3:Int),a.2.2.1,f.2.2.2.2.2.2.2.2.1.2.1,Ab .i64 (a.2.2.2.2.1+e),(0:Int),a.2.2.2.2.2.2.1,(0:Int),[],(0:Int),(0:Int),g,Sb,()))else bif a.2.2.1==(4:Int)then Sa (Ae (a.1,(3:Int),a.2.2.1,f.2.2.2.2.2.2.2.2.1.2.1,a.2.2.2.2.1,e,a.2.2.2.2.2.2.1,(0:Int),[],(0:Int),(0:Int),g,Sb,()))else Sa (Ad ((((0:Int),(0:Int),()),(0:Int),(0:Int),(0:Int),(0:Int),(0:Int),(0:Int),(0:Int),[],(0:Int),(0:Int),[],Sb,()),Sb,()))) fun(k:Ty.El zC)=>Sa (k,Sc,())
def jQ(qF:ElS [(.pt qL),tI]->Option (RTy.El (.o zC))):ElS [(.pt qL),tI,(.pt qN)]->Option (RTy.El (.p (.sl zL))):=fun x=>match x with|(n,q,E,())=>Aa (Aa n fun(j:Nat×Ty.El qL)=>zR (fun(d:Int×List (Ty.El zL))=>bif decide (d.1< (↑(Ac j.2.2.2.1):Int))then Aa (Aa (idx j.2.2.2.1 d.1) fun(h:Ty.El (Ty.pt qN))=>Aa (bif zRv h E then Sa (Sc,d.2)else Aa h fun(c:Nat×Ty.El qN)=>Aa (idx [c.2.2.2.2.1.1,c.2.2.2.2.1.2.1,c.2.2.2.2.1.2.2.1,c.2.2.2.2.1.2.2.2.1,c.2.2.2.2.1.2.2.2.2.1,c.2.2.2.2.1.2.2.2.2.2.1,c.2.2.2.2.1.2.2.2.2.2.2.1,c.2.2.2.2.1.2.2.2.2.2.2.2.1] q) fun(r:Bool)=>Sa (!r,d.2)) fun(i:Bool×List (Ty.El zL))=>bif i.1 then Sa i.2 else Aa (wO (n,h,q,())) fun(k:List (Ty.El zL))=>zR (fun(e:Int×List (Ty.El zL))=>bif decide (e.1< (↑(Ac k):Int))then Aa (idx k e.1) fun(t:Ty.El zL)=>Aa (jC e.2 (t,())) fun(u:List (Ty.El zL))=>Sa (Ae (Ab .i64 (e.1+(1:Int)),u))else Sa (Ad e.2)) ((0:Int),i.2)) fun(y:List (Ty.El zL))=>Sa (Ae (Ab .i64 (d.1+(1:Int)),y))else Sa (Ad d.2)) ((0:Int),[])) fun(l:List (Ty.El zL))=>Aa E fun(z:Nat×Ty.El qN)=>bif z.2.1==(0:Int)then Sa l else Aa (Aa (qF (n,q,())) fun(m:List (Ty.El zC))=>zR (fun(a:Int×List (Ty.El zC)×List (Ty.El zL))=>bif decide (a.1< (↑(Ac m):Int))then Aa (Aa (idx a.2.1 a.1) fun(F:Ty.El zC)=>Aa (atN a.2.1 (Af a.1)) fun(g:Ty.El zC)=>Aa (bif g.2.2.1==(2:Int)then Aa (wT (n,q,g.1,())) fun(A:Bool)=>Sa (!A,a.2.2,a.2.1)else Sa (Sb,a.2.2,a.2.1)) fun(f:Bool×List (Ty.El zL)×List (Ty.El zC))=>bif f.1 then Aa (jC f.2.1 ((g.1,g.2.2.2.2.1,()),())) fun(B:List (Ty.El zL))=>Sa (f.2.2,B)else Sa (f.2.2,f.2.1)) fun(C:List (Ty.El zC)×List (Ty.El zL))=>Sa (Ae (Ab .i64 (a.1+(1:Int)),C))else Sa (Ad a.2.2)) ((0:Int),m,l)) fun(D:List (Ty.El zL))=>Sa D
def wS(linkstate_areaSet_announced:ElS [(.pt qL),tI,(.pt qN)]->Option (RTy.El (.p (.sl zL)))):ElS [(.pt qL),tI]->Option (RTy.El (.p (.sl zC))):=fun x=>match x with|(i,l,())=>Aa (Aa i fun(m:Nat×Ty.El qL)=>zR (fun(a:Int×List (Ty.El zC))=>bif decide (a.1<m.2.2.1)then Aa (Aa (bif a.1==l then Sa (Sc,a.2)else Aa i fun(n:Nat×Ty.El qL)=>bif decide (l>=n.2.2.1)then Sa (Sc,a.2)else Aa (jI (i,a.1,())) fun(q:Bool)=>Sa (!q,a.2)) fun(g:Bool×List (Ty.El zC))=>bif g.1 then Sa g.2 else Aa i fun(j:Nat×Ty.El qL)=>zR (fun(d:Int×List (Ty.El zC))=>bif decide (d.1< (↑(Ac j.2.2.2.1):Int))then Aa (Aa (idx j.2.2.2.1 d.1) fun(f:Ty.El (Ty.pt qN))=>Aa (jU (i,l,a.1,f,())) fun(r:Bool)=>bif !r then Sa d.2 else Aa (linkstate_areaSet_announced (i,a.1,f,())) fun(k:List (Ty.El zL))=>zR (fun(e:Int×List (Ty.El zC))=>bif decide (e.1< (↑(Ac k):Int))then Aa (Aa (idx k e.1) fun(h:Ty.El zL)=>Aa (qO (i,l,h.1,())) fun(t:Bool)=>bif t then Sa e.2 else Aa (zW (f,l,a.1,())) fun(u:Int)=>Aa (qE (i,l,(2:Int),(h.1,Ab .i64 (h.2.1+u),()),())) fun(c:Ty.El zD×Int×Int×Int×Int×Int×Int×Int×List Int×Int×Int×List (Ty.El zQ)×Bool×Unit)=>Aa (qC (i,f,l,a.1,())) fun(y:List (Ty.El zQ))=>Aa (uP (y,())) fun(z:List (Ty.El zQ))=>Aa (app (136:Nat) e.2 [(c.1,c.2.1,c.2.2.1,c.2.2.2.1,c.2.2.2.2.1,c.2.2.2.2.2.1,c.2.2.2.2.2.2.1,c.2.2.2.2.2.2.2.1,c.2.2.2.2.2.2.2.2.1,c.2.2.2.2.2.2.2.2.2.1,c.2.2.2.2.2.2.2.2.2.2.1,z,c.2.2.2.2.2.2.2.2.2.2.2.2)]) fun(A:List (Ty.El zC))=>Sa A) fun(B:List (Ty.El zC))=>Sa (Ae (Ab .i64 (e.1+(1:Int)),B))else Sa (Ad e.2)) ((0:Int),d.2)) fun(C:List (Ty.El zC))=>Sa (Ae (Ab .i64 (d.1+(1:Int)),C))else Sa (Ad d.2)) ((0:Int),g.2)) fun(D:List (Ty.El zC))=>Sa (Ae (Ab .i64 (a.1+(1:Int)),D))else Sa (Ad a.2)) ((0:Int),[])) fun(E:List (Ty.El zC))=>Sa E
def jZ(linkstate_areaSet_inter:ElS [(.pt qL),tI]->Option (RTy.El (.p (.sl zC)))):ElS [(.pt qL),tI]->Option (RTy.El (.o zC)):=fun x=>match x with|(a,c,())=>Aa (vO (a,c,())) fun(d:List (Ty.El zC))=>Aa (wF (a,c,d,())) fun(e:List (Ty.El zC))=>bif RV.plain (RTy.res (RTy.o zC) e)then Aa (app (136:Nat) d e) fun(f:List (Ty.El zC))=>Aa (linkstate_areaSet_inter (a,c,())) fun(g:List (Ty.El zC))=>Aa (app (136:Nat) f g) fun(h:List (Ty.El zC))=>Aa (zCx (h,())) fun(i:List (Ty.El zC))=>Sa i else Sd
def jX:Nat->(ElS [(.pt qL),tI]->Option (RTy.El (.o zC)))|0=>fun _=>Sd|n+1=>jZ (wS (jQ (jX n)))
def qF:ElS [(.pt qL),tI]->Option (RTy.El (.o zC)):=jX 4
def wE(qM:ElS [(.pt qL),tI,tI]->Option (RTy.El (.tu [tI,(.sl zQ),.bool]))):ElS [(.pt qL),tI,(.pt qN),tI]->Option (RTy.El (.p tI)):=fun x=>match x with|(r,h,i,j,())=>Aa (Aa r fun(d:Nat×Ty.El qL)=>zR (fun(a:Int×Int)=>bif decide (a.1< (↑(Ac d.2.2.2.1):Int))then Aa (Aa (idx d.2.2.2.1 a.1) fun(e:Ty.El (Ty.pt qN))=>Aa (zW (e,h,j,())) fun(c:Int)=>Aa (bif !zRv e i then bif decide (c>=(0:Int))then bif decide (a.2< (0:Int))then Sa Sc else Sa (decide (c<a.2))else Sa Sb else Sa Sb) fun(k:Bool)=>bif k then Sa c else Sa a.2) fun(l:Int)=>Sa (Ae (Ab .i64 (a.1+(1:Int)),l))else Sa (Ad a.2)) ((0:Int),(-1:Int))) fun(f:Int)=>Aa (bif decide (f>=(0:Int))then Sa Sc else Aa i fun(m:Nat×Ty.El qN)=>bif m.2.1==(0:Int)then Sa Sc else Aa (zW (i,h,j,())) fun(n:Int)=>Sa (decide (n>=(0:Int)))) fun(q:Bool)=>bif q then Sa f else Aa (qM (r,h,j,())) fun(g:Int×List (Ty.El zQ)×Bool×Unit)=>bif g.2.2.1 then Sa g.1 else Sa (-1:Int)
def jO(linkstate_areaSet_onward:ElS [(.pt qL),tI,(.pt qN),tI]->Option (RTy.El (.p tI))):Ty.El wA->ElA [.d (.pt qL),.d tI,.d tI]->Option (Ty.El wA×RTy.El (.tu [])):=fun u x=>match x with|(i,t,y,())=>Aa i fun(z:Nat×Ty.El qL)=>zR (fun(a:Int×Ty.El wA)=>bif decide (a.1<z.2.2.1)then Aa (Aa (bif a.1==t then Sa (Sc,a.2)else Aa (jI (i,a.1,())) fun(j:Bool)=>Sa (!j,a.2)) fun(f:Bool×Ty.El wA)=>bif f.1 then Sa f.2 else Aa i fun(g:Nat×Ty.El qL)=>zR (fun(c:Int×Ty.El wA)=>bif decide (c.1< (↑(Ac g.2.2.2.1):Int))then Aa (Aa (idx g.2.2.2.1 c.1) fun(e:Ty.El (Ty.pt qN))=>Aa (jU (i,t,a.1,e,())) fun(k:Bool)=>bif !k then Sa c.2 else Aa (linkstate_areaSet_onward (i,a.1,e,y,())) fun(h:Int)=>bif decide (h>=(0:Int))then Aa (zW (e,t,a.1,())) fun(l:Int)=>Aa (qC (i,e,t,a.1,())) fun(m:List (Ty.El zQ))=>Aa (kF c.2 (Ab .i64 (l+h),m,())) fun(n:Ty.El wA×Unit)=>Sa n.1 else Sa c.2) fun(q:Ty.El wA)=>Sa (Ae (Ab .i64 (c.1+(1:Int)),q))else Sa (Ad c.2)) ((0:Int),f.2)) fun(r:Ty.El wA)=>Sa (Ae (Ab .i64 (a.1+(1:Int)),r))else Sa (Ad (a.2,()))) ((0:Int),u)
def wR(linkstate_areaSet_reachOver:Ty.El wA->ElA [.d (.pt qL),.d tI,.d tI]->Option (Ty.El wA×RTy.El (.tu []))):ElS [(.pt qL),tI,tI]->Option (RTy.El (.tu [tI,(.sl zQ),.bool])):=fun x=>match x with|(f,g,h,())=>Aa (bif g==h then Sa Sc else Aa f fun(q:Nat×Ty.El qL)=>bif decide (g>=q.2.2.1)then Sa Sc else Aa f fun(r:Nat×Ty.El qL)=>Sa (decide (h>=r.2.2.1))) fun(t:Bool)=>bif t then Sa ((0:Int),[],Sb,())else Aa (Aa f fun(i:Nat×Ty.El qL)=>zR (fun(a:Int×Ty.El wA)=>bif decide (a.1< (↑(Ac i.2.2.2.1):Int))then Aa (Aa (idx i.2.2.2.1 a.1) fun(j:Ty.El (Ty.pt qN))=>Aa (zW (j,g,h,())) fun(k:Int)=>bif decide (k>=(0:Int))then Aa (qC (f,j,g,h,())) fun(l:List (Ty.El zQ))=>Aa (kF a.2 (k,l,())) fun(m:Ty.El wA×Unit)=>Sa m.1 else Sa a.2) fun(n:Ty.El wA)=>Sa (Ae (Ab .i64 (a.1+(1:Int)),n))else Sa (Ad a.2)) ((0:Int),(-1:Int),[],())) fun(c:Ty.El wA)=>Aa (bif decide (c.1< (0:Int))then Aa (linkstate_areaSet_reachOver c (f,g,h,())) fun(p:Ty.El wA×Unit)=>Sa p.1 else Sa c) fun(e:Ty.El wA)=>bif decide (e.1< (0:Int))then Sa ((0:Int),[],Sb,())else Sa (e.1,e.2.1,Sc,())
def wP:Nat->(ElS [(.pt qL),tI,tI]->Option (RTy.El (.tu [tI,(.sl zQ),.bool])))|0=>fun _=>Sd|n+1=>wR (jO (wE (wP n)))
def qM:ElS [(.pt qL),tI,tI]->Option (RTy.El (.tu [tI,(.sl zQ),.bool])):=wP 4
def b8(f:Nat->Bool):Ty.El tB8:=(f 0,f 1,f 2,f 3,f 4,f 5,f 6,f 7,())
def i8(f:Nat->Int):Ty.El tI8:=(f 0,f 1,f 2,f 3,f 4,f 5,f 6,f 7,())
def i88(f:Nat->Nat->Int):Ty.El qG6:=(i8 (f 0),i8 (f 1),i8 (f 2),i8 (f 3),i8 (f 4),i8 (f 5),i8 (f 6),i8 (f 7),())
abbrev zV(v:Ty.El zF):List (Ty.El zG):=v.1.1
abbrev wH(x:Ty.El zG):List (Ty.El z6):=x.2.2.1
structure AR where
 num:Int
 parts:List (Int×Int×Int×Int)
 mem:Nat->Bool
def zPo(S:List AR)(num:Int):Option Nat:=S.findIdx? (fun a=>a.num==num)
abbrev w7(x:Ty.El z6):Int:=x.2.2.2.2.2.2.1
abbrev qJ(x:Ty.El z6):Int:=x.2.1
abbrev jR(x:Ty.El z6):Int:=x.2.2.1
abbrev vP(x:Ty.El z6):Int:=x.2.2.2.2.2.2.2.1
def xA(S:List AR)(r:Nat)(num:Int)(c:Int×Int×Int×Int):List AR:=
 match zPo S num with
 |some j=>match S[j]? with
  |some a=>S.set j ⟨a.num,a.parts++[c],fun k=>if k=r then Sc else a.mem k⟩
  |none=>S
 |none=>S++[⟨num,[c],fun k=>if k=r then Sc else Sb⟩]
def wJ(c:Nat->Bool)(a:Int->Int->Int×Int)(r:Nat)(S:List AR)(xs:List (Ty.El z6)):Nat->List AR
 |0=>S
 |i+1=>match xs[i]? with
  |some x=>if c i then xA (wJ c a r S xs i) r (w7 x) ((r:Int),(a (qJ x) (jR x)).1,(a (qJ x) (jR x)).2,vP x)else wJ c a r S xs i
  |none=>wJ c a r S xs i
def qV(c:Nat->Nat->Bool)(d:Int->Int->Int×Int)(a:List (List (Ty.El z6))):Nat->List AR
 |0=>[]
 |r+1=>wJ (c r) d r (qV c d a r) (a.getD r []) (a.getD r []).length
def zCr(S:List AR):List AR:=S.mergeSort fun a b=>decide (a.num<=b.num)
def zPw(v:Ty.El zF)(n:Nat):Option (List (List Bool)):=
 zCn (fun r=>zCn (fun i=>match(wH ((zV v).getD r default))[i]? with
  |some x=>wC (v,((r:Nat):Int),((i:Nat):Int),w7 x,())
  |none=>Sd) (Ak (wH ((zV v).getD r default)).length)) (Ak n)
def zNB(a l:Int):Int×Int:=match zBM (a,l,())with
 |some p=>(p.1,p.2.1)
 |none=>(0,0)
def zSK(v:Ty.El zF)(n:Nat)(a:List (List Bool)):List AR:=zCr (qV (fun r i=>(a.getD r []).getD i Sb) zNB ((zV v).map wH) n)
def zDv(v:Ty.El zF)(n:Nat)(a:AR):Option (Ty.El qN):=
 Aa (jD (v,a.num,())) fun c=>
 Aa (zCn (fun r=>if a.mem r=Sc then Aa (jH (((n:Nat):Int),c,((r:Nat):Int),())) (fun d:List Int=>if d.length=n then Sa d else Sd)else Sa []) (Ak n)) fun e=>
 Sa (a.num,a.parts.map (fun p=>((p.1,(p.2.1,p.2.2.1,()),p.2.2.2,()):Ty.El zJv)),c,b8 a.mem,i88 (fun r q=>if r<n/\a.mem r=Sc/\q<n then(e.getD r []).getD q 0 else-1),())
def zD8(v:Ty.El zF):Option (Nat×Ty.El qL):=
 let n:=(zV v).length
 if n=0\/8<n then Sd else
 if(zV v).any (fun r=>decide (8< (wH r).length))then Sd else
 Aa (zPw v n) fun c=>
 Aa (zCn (zDv v n) (zSK v n c)) fun d=>
 Sa (n,v,((n:Nat):Int),d.zipIdx.map (fun a=>Sa (16*(a.2+1)+n,a.1)),())
def vX:Bool->ElS [zF]->Option (Bool×RTy.El (.p (.pt qL))):=fun a x=>match a with
 |false=>(zD8 x.1).map fun s=>(Sc,Sa s)
 |true=>Sd
def zE3:Bool->ElS [(.pt qL),tI,zC,tI,(.sl zQ)]->Option (Bool×RTy.El (.tu [zC,.bool])):=onX zBm
def jY:Bool->ElS [(.pt qL),tI]->Option (Bool×RTy.El (.o zC)):=onX qF
def wQ:Bool->ElS [(.pt qL),tI,tI]->Option (Bool×RTy.El (.tu [tI,(.sl zQ),.bool])):=onX qM
def zEA:Bool->ElS [zF,tI]->Option (Bool×RTy.El (.p (.sl zC))):=fun a x=>match x with|(e,c,())=>Aa (bif decide (c< (0:Int))then Sa (Sc,a)else Sa (decide (c>=(↑(Ac e.1.1):Int)),a)) fun(d:Bool×Bool)=>bif d.1 then Sa (d.2,[])else Aa (vX d.2 (e,())) fun(f:Bool×Option (Nat×Ty.El qL))=>Aa (jY f.1 (f.2,c,())) fun(g:Bool×List (Ty.El zC))=>Sa (g.1,g.2)
def zCp:ElS [zF,tI]->Option (RTy.El (.p (.sl zC))):=zRa zEA
def zDf:Bool->ElS [zF,tI,tI]->Option (Bool×RTy.El (.tu [tI,(.sl zQ),.bool])):=fun a x=>match x with|(d,e,f,())=>Aa (bif decide (e< (0:Int))then Sa (Sc,a)else bif decide (e>=(↑(Ac d.1.1):Int))then Sa (Sc,a)else bif decide (f< (0:Int))then Sa (Sc,a)else Sa (decide (f>=(↑(Ac d.1.1):Int)),a)) fun(g:Bool×Bool)=>bif g.1 then Sa (g.2,(0:Int),[],Sb,())else Aa (vX g.2 (d,())) fun(h:Bool×Option (Nat×Ty.El qL))=>Aa (wQ h.1 (h.2,e,f,())) fun(c:Bool×Int×List (Ty.El zQ)×Bool×Unit)=>Sa (c.1,c.2.1,c.2.2.1,c.2.2.2.1,())
def xF:ElS [zF,tI,tI]->Option (RTy.El (.tu [tI,(.sl zQ),.bool])):=zRa zDf
def zCo:Bool->ElS [zF,(.sl (.sl zC)),tI]->Option (Bool×RTy.El (.p (.sl zC))):=fun f x=>match x with|(j,k,g,())=>Aa (bif decide (g< (0:Int))then Sa (Sc,f)else Sa (decide (g>=(↑(Ac j.1.1):Int)),f)) fun(m:Bool×Bool)=>bif m.1 then Sa (m.2,[])else Aa (vX m.2 (j,())) fun(l:Bool×Option (Nat×Ty.El qL))=>Aa (jY l.1 (l.2,g,())) fun(z:Bool×List (Ty.El zC))=>Aa (zR (fun(a:Int×List (Ty.El zC)×Bool)=>bif decide (a.1<if(↑(Ac j.1.1):Int)< (↑(Ac k):Int)then(↑(Ac j.1.1):Int)else(↑(Ac k):Int))then Aa (Aa (idx k a.1) fun(n:List (Ty.El zC))=>bif (↑(Ac n):Int)==(0:Int)then Sa a.2 else Aa (wQ a.2.2 (l.2,g,a.1,())) fun(d:Bool×Int×List (Ty.El zQ)×Bool×Unit)=>bif !d.2.2.2.1 then Sa (a.2.1,d.1)else Aa (idx k a.1) fun(h:List (Ty.El zC))=>zR (fun(c:Int×List (Ty.El zC)×Bool)=>bif decide (c.1< (↑(Ac h):Int))then Aa (Aa (idx h c.1) fun(q:Ty.El zC)=>Aa (zE3 c.2.2 (l.2,g,q,d.2.1,d.2.2.1,())) fun(e:Bool×Ty.El zC×Bool×Unit)=>bif e.2.2.1 then Aa (app (136:Nat) c.2.1 [e.2.1]) fun(r:List (Ty.El zC))=>Sa (r,e.1)else Sa (c.2.1,e.1)) fun(t:List (Ty.El zC)×Bool)=>Sa (Ae (Ab .i64 (c.1+(1:Int)),t))else Sa (Ad c.2)) ((0:Int),a.2.1,d.1)) fun(u:List (Ty.El zC)×Bool)=>Sa (Ae (Ab .i64 (a.1+(1:Int)),u))else Sa (Ad a.2)) ((0:Int),z.2,z.1)) fun(i:List (Ty.El zC)×Bool)=>Aa (zCx (i.1,())) fun(y:List (Ty.El zC))=>Sa (i.2,y)
def zBH:ElS [zF,(.sl (.sl zC)),tI]->Option (RTy.El (.p (.sl zC))):=zRa zCo
end
end Go.Ve
namespace Go.Ve
open Go Go.Proofs
def eA(e:Ty.El qD):Int:=e.1
def eB(e:Ty.El qD):Int:=e.2.1
def eC(e:Ty.El qD):Int:=e.2.2.1
def zHU(n:Int)(e:Ty.El qD):Bool:=(decide (0<=eA e)&&decide (eA e<n))&&((decide (0<=eB e)&&decide (eB e<n))&&(decide (1<=eC e)&&decide (eC e<=16777215)))
def zGq(e:Ty.El qD):Arc:=⟨(eA e).toNat,(eB e).toNat,(eC e).toNat⟩
def zIP(n:Nat)(es:List (Ty.El qD)):List Arc:=(es.filter (zHU n)).map zGq
variable {g:Nat}
theorem zEE{e:Ty.El qD}(h:zHU g e=Sc):0<=eA e/\eA e< (g:Int)/\0<=eB e/\eB e< (g:Int)/\1<=eC e/\eC e<=16777215:=by simp_all[zHU]
theorem qAY{n:Nat}{es:List (Ty.El qD)}:∀e,e∈zIP n es->e.a<n/\e.b<n:=by
 intro e c;obtain⟨x,d,rfl⟩:=aO.1 c;have:=zEE (aU.1 d).2
 grind[zGq]
theorem qEB{n:Nat}{es:List (Ty.El qD)}:∀e,e∈zIP n es->e.c<=16777215:=by
 intro e a;obtain⟨x,d,rfl⟩:=aO.1 a;have:=zEE (aU.1 d).2
 grind[zGq]
theorem zLt:∀(l a:List Arc) (d:List Int),roundL (l++a) d=roundL a (roundL l d)
 |[],_,_=>rfl
 |e::r,a,d=>zLt r a (relax e d)
variable {C:Nat}
theorem qCt{es:List (Ty.El qD)}{x:Ty.El qD}(a:es[C]?=Sa x):zIP g (es.take (C+1))=zIP g (es.take C)++(if zHU g x=Sc then[zGq x]else[]):=by
 rw[bS,a];simp only[zIP,cm,dM,bw]
 grind
def Bnd(m:Nat)(d:List Int):Prop:= ∀t,t<d.length-> -1<=d.getD t 0/\d.getD t 0<=(m:Int)*16777215
theorem Bnd.relax{m:Nat}{d:List Int}{e:Arc}(g:e.c<=16777215)(ha:e.a<d.length)(h:Bnd m d):Bnd (m+1) (relax e d):=by
 intro t f;rw[zBC]at f;have i:=h t f;have j:=h e.a ha
 grind[zKK,Go.Ve.relax]
variable {i:List Int}
theorem Bnd.up(e:g<=C)(h:Bnd g i):Bnd C i:=fun t c=>by have:=h t c;omega
theorem zD9(h:g<i.length):idx i (g:Int)=Sa (i.getD g 0):=by
 grind[zO]
theorem zFa(h:g<i.length):atN i g=Sa (i.getD g 0):=by
 grind[atN]
variable {j:Type}
theorem zQO{x:j}(h:C*g<=0x800000000000):zBk g (C:Int) x=Sa (Ai C x):=by
 unfold zBk
 grind
theorem zWD{v:Int}(d:Nat)(hi:d<i.length):(i.set g v).getD d 0=if g=d then v else i.getD d 0:=zKK i g d v hi
theorem zRy(l:List Arc)(d:List Int):(roundL l d).length=d.length:=(zF0 l d).1
theorem zCS{ρ:Type}{n:Nat}{c:Int×j->Int}{γ:j}{a d:Int×j->Option ((Int×j) ⊕ ρ)}{Q:ρ->Prop}(y:n<0x4000000000000000)(J:Nat->j->Prop)(p:J 0 γ)(q:∀i g,J i g->c ((i:Int),g)=n)(step:∀i g,i<n->J i g->Wp (a ((i:Int),g)) (vH (fun o=>o.1=Ab .i64 ((i:Int)+(1:Int))/\J (i+1) o.2) Q))(t:∀g,J n g->Wp (d ((n:Int),g)) (vH (fun _=>False) Q)):
  Wp (zR (fun s:Int×j=>bif decide (s.1<c s)then a s else d s) ((0:Int),γ)) Q:=by
 refine kY (fun(s:Int×j)=>∃i:Nat,s.1=(i:Int)/\i<=n/\J i s.2) (fun(s:Int×j)=>((n:Int) -s.1).toNat) ⟨(0:Nat),rfl,aW _,p⟩ ?_;rintro⟨s,g⟩ ⟨i,k,u,l⟩;simp only at k;subst k;have e:=q i g l;refine zP ?_ ?_
 .intro f;simp only[e]at f;have hlt:i<n:=by omega
  refine(step i g hlt l).mono ?_;intro o m
  cases o with
  |inr r=>exact m
  |inl o=>obtain⟨z,A⟩:=o;obtain⟨h,x⟩:=m;simp only at h;rw[zJ (by omega) (by omega)]at h;subst h;exact⟨⟨i+1,by simp,hlt,x⟩,by simp only;omega⟩
 grind
theorem zJy(n:Nat)(a:n<=64):zDY ((n:Int),())=Sa (n:Int):=by
 unfold zDY
 grind
theorem zIU(e:Ty.El qD)(n:Nat):yQ ((n:Int),e,())=Sa (zHU n e):=by
 grind[ge_iff_le,yQ,zHU,eA,eB,eC,decide]
theorem zPF{d:List Int}(l:List Arc)(f:∀e,e∈l->e.a=g)(x:g<d.length)(n:0<=d.getD g 0):
  (roundL l d).getD g 0=d.getD g 0/\(∀t,t<d.length->(roundL l d).getD t 0=d.getD t 0\/d.getD g 0<=(roundL l d).getD t 0)/\
  (∀t,t<d.length->0<=d.getD t 0->d.getD t 0<=d.getD g 0->(roundL l d).getD t 0=d.getD t 0):=by
 induction l generalizing d with
 |nil=>exact⟨rfl,fun _ _=>.inl rfl,fun _ _ _ _=>rfl⟩
 |cons e r h=>
  have p:=f e (by simp)
  have i:∀t,t<d.length->(relax e d).getD t 0=d.getD t 0\/(d.getD g 0<=(relax e d).getD t 0/\(0<=d.getD t 0->d.getD g 0<d.getD t 0)):=by
   intro t j;unfold relax;split
   .rename_i q;rw[zKK d _ _ _ j]
    grind
   .exact .inl rfl
  have k:(relax e d).getD g 0=d.getD g 0:=by
   grind
  obtain⟨u,y,z⟩:=h (d:=relax e d) (fun m c=>f m (aw _ c)) (by rw[zBC];exact x) (by omega)
  grind[zBC,roundL,relax]
theorem Bnd.roundL{n:Nat}:∀(l:List Arc) {m:Nat} {d:List Int},(∀e,e∈l->e.c<=16777215/\e.a<n)->d.length=n->Bnd m d->Bnd (m+l.length) (roundL l d)
 |[],_,_,_,_,h=>h
 |e::r,m,d,f,g,h=>by obtain⟨i,j⟩:=f e (by simp);have:=Bnd.roundL r (m:=m+1) (d:=Go.Ve.relax e d) (fun x hx=>f x (aw _ hx)) ((zBC e d).trans g) (h.relax i (g▸j));rw[show m+(e::r).length=m+1+r.length by simp;omega];exact this
theorem qBP(b:List Bool)(i j:Nat)(v:Bool)(a:j<b.length):(b.set i v).getD j Sb=if i=j then v else b.getD j false:=by
 grind
structure Dij(E:List Arc)(n s L:Nat)(d:List Int)(b:List Bool):Prop where
 ld:d.length=n
 lb:b.length=n
 so:zP6 E s d
 d0:d.getD s 0=0
 bd:Bnd (b.countP id*L) d
 pos:∀y,y<n->b.getD y Sb=Sc->0<=d.getD y 0
 cl:∀e,e∈E->b.getD e.a Sb=Sc->0<=d.getD e.b 0/\d.getD e.b 0<=d.getD e.a 0+e.c
 lo:∀y x,y<n->x<n->b.getD y Sb=Sc->b.getD x Sb=Sb->0<=d.getD x 0->d.getD y 0<=d.getD x 0
variable {l:List Bool}
theorem count_set(a:g<l.length)(h:l.getD g Sb=Sb):(l.set g Sc).countP id=l.countP id+1:=by
 grind
theorem Dij.step{E:List Arc}{n s:Nat}(hE:∀e,e∈E->e.a<n/\e.b<n)(K:∀e,e∈E->e.c<=16777215)(M:s<n)(N:E.length<=g)(h:Dij E n s g i l)(hx:C<n)(hb:l.getD C Sb=Sb)(A:0<=i.getD C 0)(Z:∀t,t<n->l.getD t Sb=Sb->0<=i.getD t 0->i.getD C 0<=i.getD t 0):
  Dij E n s g (roundL (E.filter fun e=>e.a==C) i) (l.set C Sc):=by
 have j:∀e,e∈E.filter (fun e=>e.a==C)->e∈E/\e.a=C:=fun e L=>by
  grind
 obtain⟨O,H,B⟩:=zPF (E.filter fun e=>e.a==C) (fun e L=>(j e L).2) (h.ld▸hx) A;have k:(roundL (E.filter fun e=>e.a==C) i).length=n:=(zRy _ _).trans h.ld;have b:=zF0 (E.filter fun e=>e.a==C) i;have x:=zOE (n:=n) (E.filter fun e=>e.a==C) i (fun e L=>hE e (j e L).1) h.ld;have q:=zNg (n:=n) (E:=E) (s:=s) (E.filter fun e=>e.a==C) i (fun e L=>⟨(j e L).1,(hE e (j e L).1).1⟩) h.ld h.so;have r:=Bnd.roundL (n:=n) (E.filter fun e=>e.a==C) (fun e L=>⟨K e (j e L).1,(hE e (j e L).1).1⟩) h.ld h.bd;have P:(E.filter fun e=>e.a==C).length<=g:=aj (cL _ _) N;have I:∀e,e∈E->e.a=C->e∈E.filter (fun e=>e.a==C):=fun e L ha=>aU.2 ⟨L,by simpa using ha⟩;generalize roundL (E.filter fun e=>e.a==C) i=J at O H B k b x q r ⊢;have d:∀y,y<n->(l.set C Sc).getD y Sb=if C=y then Sc else l.getD y false:=fun y hy=>qBP l C y Sc (h.lb▸hy)
 have D:∀y,y<n->l.getD y Sb=Sc->J.getD y 0=i.getD y 0/\i.getD y 0<=i.getD C 0:=fun y hy f=>
  ⟨B y (h.ld▸hy) (h.pos y hy f) (h.lo y C hy hx f hb A),h.lo y C hy hx f hb A⟩
 refine⟨k,by rw[cb];exact h.lb,q,?_,?_,?_,?_,?_⟩
 .exact(B s (h.ld▸M) (by rw[h.d0];omega) (by rw[h.d0];exact A)).trans h.d0
 .rw[count_set (h.lb▸hx) hb];exact r.up (by grind)
 .intro y hy f;rw[d y hy]at f;by_cases m:C=y
  .grind
  .rw[if_neg m]at f;rw[(D y hy f).1];exact h.pos y hy f
 .intro e L p;obtain⟨ha,F⟩:=hE e L;rw[d _ ha]at p;by_cases m:C=e.a
  .grind
  .rw[if_neg m]at p;obtain⟨Q,c2⟩:=h.cl e L p;obtain⟨e1,e2⟩:=b.2 e.b (h.ld▸F) Q
   grind
 .intro y z hy hz f u S;rw[d y hy]at f;rw[d z hz]at u;have G:C≠z:=fun hh=>by grind
  rw[if_neg G]at u
  have W:i.getD C 0<=J.getD z 0:=by
   rcases H z (h.ld▸hz)with Y|Y;all_goals grind
  grind
def Sel(d:List Int)(b:List Bool)(i:Nat)(x:Int):Prop:=
 (x= -1/\∀t,t<i->b.getD t Sb=Sb->d.getD t 0<0)\/
 ∃X:Nat,x=(X:Int)/\X<i/\b.getD X Sb=Sb/\0<=d.getD X 0/\∀t,t<i->b.getD t Sb=Sb->0<=d.getD t 0->d.getD X 0<=d.getD t 0
theorem Sel.keep{x:Int}(h:Sel i l g x)(j:l.getD g Sb=Sb->0<=i.getD g 0->∃X:Nat,x=(X:Int)/\i.getD X 0<=i.getD g 0):Sel i l (g+1) x:=by
 rcases h with⟨a,c⟩|⟨X,a,c,e,f,k⟩
 .refine .inl ⟨a,fun t b hb=>?_⟩
  grind
 .refine .inr ⟨X,a,by omega,e,f,fun t b hb d=>?_⟩
  grind
theorem Sel.take{x:Int}(h:Sel i l g x)(hb:l.getD g Sb=Sb)(a:0<=i.getD g 0)(k:∀X:Nat,x=(X:Int)->i.getD g 0<=i.getD X 0):Sel i l (g+1) (g:Int):=by
 refine .inr ⟨g,rfl,by omega,hb,a,fun t d c e=>?_⟩;by_cases f:t=g
 .grind
 .rcases h with⟨b,j⟩|⟨X,b,j,m,n,p⟩
  all_goals grind
theorem qHi{xs:List j}(z:j)(h:g<xs.length):idx xs (g:Int)=Sa (xs.getD g z):=by
 grind[zO]
theorem qHp{xs:List j}(z:j)(h:g<xs.length):atN xs g=Sa (xs.getD g z):=by
 grind[atN]
theorem zLY(n:Nat)(es:List (Ty.El qD))(s:Nat)(hn:n<=64)(hl:es.length<=1048576)(hs:s<n):Wp (jH ((n:Int),es,(s:Int),())) (fun d=>Dst (zIP n es) n s d):=by
 unfold jH;refine zB (zM (zJy n hn) ?_);refine zB (zM (zQO (by omega)) ?_);refine zB ?_;refine zCS (n:=n) (c:=fun _=>((Ai n (0:Int)).length:Int)) (by omega) (fun i (g:List Int)=>g.length=n/\∀t,t<i->g.getD t 0= -1) ⟨cK,fun t u=>absurd u (cd _)⟩ (fun _ _ _=>by simp) ?_ ?_
 .rintro i g hi ⟨K,r⟩;have L:i<g.length:=by rw[K];exact hi
  refine zB (zM (zD9 L) ?_);refine zB (zM (show atN g (Af (i:Int))=_ from by rw[aB];exact zFa L) ?_);refine zA (e2l ⟨rfl,?_⟩);simp only[aB];refine⟨by simp[K],fun t u=>?_⟩;rw[zWD t (by omega)]
  grind
 rintro g0 ⟨M,a0⟩;refine zA (e2r ?_);simp only;have ag:decide ((s:Int)< (0:Int))=false:=decide_eq_false (by omega);have al:decide ((s:Int)>=(n:Int))=false:=decide_eq_false (by omega);rw[ag];simp only[cond_false];rw[al,af];simp only[cond_false];refine zB (zM (zD9 (by omega)) ?_);refine zB (zM (show atN g0 (Af (s:Int))=_ from by rw[aB];exact zFa (by omega)) ?_);refine zB (zM (zQO (by omega)) ?_);rw[aB];have hE:= @qAY n es;have hC:= @qEB n es
 have an:(zIP n es).length<=es.length:=by
  grind[List.length_map,List.length_filter_le,zIP]
 have p:Dij (zIP n es) n s es.length (g0.set s 0) (Ai n Sb):=by
  have vA:∀t,t<n->(g0.set s 0).getD t 0=if s=t then 0 else-1:=fun t u=>by
   grind
  have hb:∀y,(Ai n Sb).getD y Sb=false:=fun y=>by
   grind
  refine⟨by simp[M],by simp,fun t u=>?_,by grind,fun t u=>?_,fun y hy h=>?_,fun e he h=>?_,fun y x hy G h=>?_⟩
  .have u:t<n:=by grind
   rw[vA t u];by_cases h:s=t
   .subst h;rw[if_pos rfl];exact .inr ⟨0,[],rfl,.nil⟩
   omega
  all_goals grind
 generalize g0.set s 0=D0 at p;generalize Ai n Sb=B0 at p;refine kY (fun(g:List Int×List Bool)=>Dij (zIP n es) n s es.length g.1 g.2) (fun g=>n-g.2.countP id) p ?_;rintro⟨d,b⟩ r;have r:Dij (zIP n es) n s es.length d b:=r;have H:=r.ld;have a9:=r.lb;refine zB ?_;refine zCS (n:=n) (c:=fun _=>(d.length:Int)) (by omega) (fun i (g:List Int×List Bool×Int×List Int)=>g.1=d/\g.2.1=b/\g.2.2.2=d/\Sel d b i g.2.2.1) ⟨rfl,rfl,rfl,.inl ⟨rfl,fun t u=>absurd u (cd _)⟩⟩ (fun _ _ _=>by rw[H]) ?_ ?_
 .rintro i ⟨d1,j,x,k⟩ hi ⟨N,O,P,f⟩;simp only at N O P f;subst N O P;have hid:i<k.length:=by omega
  have S:i<j.length:=by omega
  have l:∀{Q:Int×List Int×List Bool->Prop} (x':Int),Sel k j (i+1) x'->Wp (Sa (Ae (Ab .i64 ((i:Int)+(1:Int)),k,j,x',k)):Option ((Int×List Int×List Bool×Int×List Int) ⊕ (Int×List Int×List Bool)))
    (vH (fun o=>o.1=Ab .i64 ((i:Int)+(1:Int))/\(o.2.1=k/\o.2.2.1=j/\o.2.2.2.2=k/\Sel k j (i+1) o.2.2.2.1)) Q):=fun x' h=>zA (e2l ⟨rfl,rfl,rfl,rfl,h⟩)
  refine zB (zB (zM (zD9 hid) ?_));refine zB (zM (show atN k (Af (i:Int))=_ from by rw[aB];exact zFa hid) ?_);refine zB (zB (zM (qHi Sb S) ?_));refine zB (zM (show atN j (Af (i:Int))=_ from by rw[aB];exact qHp Sb S) ?_)
  cases W:j.getD i Sb with
  |true=>
   simp only[bI,cond_false];exact zA (zA (l x (f.keep (fun h=>by grind))))
  |false=>
   simp only[Bool.not_false,cond_true];refine zP (fun Y=>?_) (fun Y=>?_)
   .refine zP (fun G=>?_) (fun G=>?_)
    .refine zA ?_;simp only[cond_true];exact zA (l _ (f.take W Y (fun X hX=>by omega)))
    .obtain⟨X,hX,bb,I,Z,_⟩:∃X:Nat,x=(X:Int)/\X<i/\j.getD X Sb=Sb/\0<=k.getD X 0/\True:=by
      rcases f with⟨h1,_⟩|⟨X,h1,h2,h3,h4,_⟩
      all_goals grind
     subst hX;refine zB (zM (zD9 (show X<k.length by omega)) ?_);refine zB (zM (show atN k (Af (X:Int))=_ from by rw[aB];exact zFa (by omega)) ?_);refine zA ?_;simp only;refine zP (fun hlt=>?_) (fun hlt=>?_)
     .refine zA (l _ (f.take W Y (fun X' be=>?_)))
      grind
     .refine zA (l _ (f.keep (fun _ _=>⟨X,rfl,by omega⟩)))
   .refine zA ?_;simp only[cond_false];exact zA (l x (f.keep (fun _ h=>absurd h Y)))
 .rintro⟨d1,j,x,k⟩ ⟨N,O,P,f⟩;simp only at N O P f;subst N O P;refine zA (e2r ?_);simp only;refine zP (fun G=>?_) (fun G=>?_)
  .refine zA (e2r ?_)
   have bk:∀t,t<n->j.getD t Sb=Sb->k.getD t 0<0:=by
    rcases f with⟨_,h⟩|⟨X,h,_⟩
    all_goals omega
   refine zZQ (fun e he=>(hE e he).2) hs H r.so r.d0 (fun e he Y=>r.cl e he ?_)
   grind
  .obtain⟨X,hX,ao,I,Z,ap⟩:∃X:Nat,x=(X:Int)/\X<n/\j.getD X Sb=Sb/\0<=k.getD X 0/\∀t,t<n->j.getD t Sb=Sb->0<=k.getD t 0->k.getD X 0<=k.getD t 0:=by
    rcases f with⟨h1,_⟩|h;all_goals omega
   subst hX;refine zB (zM (qHi Sb (show X<j.length by omega)) ?_);refine zB (zM (show atN j (Af (X:Int))=_ from by rw[aB];exact qHp Sb (by omega)) ?_);rw[aB];have ax:=count_set (show X<j.length by omega) I
   have bn:(j.set X Sc).countP id<=n:=by
    grind[List.countP_le_length,List.length_set,id]
   have zBS:=r.step hE hC hs an ao I Z ap;refine zCS (n:=es.length) (c:=fun _=>(es.length:Int)) (by omega) (fun i (g:List Int×List Bool)=>g.1=roundL ((zIP n (es.take i)).filter fun e=>e.a==X) k/\g.2=j.set X Sc/\Bnd (j.countP id*es.length+i) g.1) ⟨by simp[zIP,roundL],rfl,by simpa using r.bd⟩ (fun _ _ _=>rfl) ?_ ?_
   .rintro i ⟨g,b2⟩ hi ⟨K,ab,z⟩;simp only at K ab z;subst ab;have G:es[i]?=Sa es[i]:=by simp
    generalize es[i]=x at G;have bo:g.length=n:=by rw[K,zRy,H]
    refine zB (zB (zM (zO G) ?_))
    have q:∀g',g'=(if zHU n x=Sc/\(zGq x).a=X then relax (zGq x) g else g)->Wp (Sa (Ae (Ab .i64 ((i:Int)+(1:Int)),g',j.set X Sc)):Option ((Int×List Int×List Bool) ⊕ ((List Int×List Bool) ⊕ List Int)))
      (vH (fun o=>o.1=Ab .i64 ((i:Int)+(1:Int))/\(o.2.1=roundL ((zIP n (es.take (i+1))).filter fun e=>e.a==X) k/\o.2.2=j.set X Sc/\Bnd (j.countP id*es.length+(i+1)) o.2.1))
       (vH (fun s'=>Dij (zIP n es) n s es.length s'.1 s'.2/\n-s'.2.countP id<n-j.countP id) (fun d=>Dst (zIP n es) n s d))):=by
     rintro g' rfl;refine zA (e2l ⟨rfl,?_,rfl,?_⟩)
     .rw[qCt G,dM,zLt,<-K];by_cases m:zHU n x=Sc
      .rw[if_pos m];by_cases ha:(zGq x).a=X;all_goals simp_all[roundL]
      simp_all[roundL]
     .by_cases m:zHU n x=Sc/\(zGq x).a=X
      .rw[if_pos m];have:=zEE m.1;exact z.relax (by grind[zGq]) (by omega)
      .rw[if_neg m];exact z.up (by omega)
    refine zB (zB (zM (zIU x n) ?_))
    cases m:zHU n x with
    |false=>
     simp_all[zA]
    |true=>
     obtain⟨a1,a2,a3,a4,a5,a6⟩:=zEE m;obtain⟨A,hA⟩:∃A:Nat,eA x=(A:Int):=⟨(eA x).toNat,(bl a1).symm⟩
     obtain⟨B,hB⟩:∃B:Nat,eB x=(B:Int):=⟨(eB x).toNat,(bl a3).symm⟩
     obtain⟨C,D⟩:∃C:Nat,eC x=(C:Int):=⟨(eC x).toNat,(bl (by omega)).symm⟩
     have ad:zGq x=⟨A,B,C⟩:=by simp[zGq,hA,hB,D]
     have E:B<g.length:=by omega
     have J:X<g.length:=by omega
     have bs:C<=16777215:=by omega
     have hA:x.1=(A:Int):=hA;have hB:x.2.1=(B:Int):=hB;have D:x.2.2.1=(C:Int):=D;rw[m,ad]at q;simp[hA,hB,D];refine zA ?_;simp only
     have av:((A:Int) !=(X:Int))=decide (A≠X):=by
      grind
     rw[av];refine zP (fun F=>?_) (fun F=>?_)
     .simp_all[zA]
     .have F:A=X:=Classical.not_not.1 F;subst F
      have b0:g.getD A 0=k.getD A 0:=by
       grind[zPF]
      have hw:Ab .i64 (g.getD A 0+(C:Int))=g.getD A 0+(C:Int):=by
       have h1:=z A J;have h2:j.countP id*es.length+i<=64*1048576+1048576:=by have:j.countP id*es.length<=64*1048576:=Nat.mul_le_mul (by omega) hl;omega
       grind[Int.mul_le_mul_of_nonneg_right,zJ,id]
      have M:0<=g.getD A 0:=by omega
      refine zB (zM (zD9 J) ?_);refine zB (zM (zFa J) ?_);refine zB (zB (zM (zD9 E) ?_));refine zB (zM (zFa E) ?_)
      have ay:∀(hc:g.getD B 0<0\/g.getD A 0+C<g.getD B 0),Wp (Sa (Ae (Ab .i64 ((i:Int)+(1:Int)),g.set B (g.getD A 0+(C:Int)),j.set A Sc)):Option ((Int×List Int×List Bool) ⊕ ((List Int×List Bool) ⊕ List Int))) _:=fun hc=>q _ (by
       rw[if_pos ⟨rfl,rfl⟩]
       simp_all[relax])
      refine zP (fun h1=>?_) (fun h1=>?_)
      .refine zA ?_;simp_all[zM,zD9,zFa]
      .refine zB (zM (zD9 E) ?_);refine zB (zM (zFa E) ?_);rw[hw];refine zA ?_;simp only;refine zP (fun h2=>?_) (fun h2=>?_)
       .simp_all[zM,zD9,zFa]
       .refine zA (q _ ?_);rw[if_pos ⟨rfl,rfl⟩];unfold relax
        grind
   grind[List.take_length,zA,e2r,e2l,zBS]
noncomputable def zRX:ElS []->Option (RTy.El (.p .bool)):=fun _=>Sa Sc
noncomputable def x8:ElS [zI,(.sl tI)]->Option (RTy.El (.p .bool)):=fun x=>match x with|(i,a2,())=>Aa (zIz (i,a2,())) fun(r:Ty.El zF×Bool×Unit)=>bif !r.2.1 then Sa Sc else Aa (zBF (r.1,())) fun(q:List Int)=>wL (zR (fun(c:Int)=>bif decide (c< (↑(Ac i.1):Int))then wL (wL (zR (fun(f:Int)=>bif decide (f< (↑(Ac i.1):Int))then Aa (xF (r.1,c,f,())) fun(t:Int×List (Ty.El zQ)×Bool×Unit)=>Aa (bif t.2.2.1 then Aa (idx q c) fun(u:Int)=>Aa (idx q f) fun(y:Int)=>Sa (u !=y)else Sa Sb) fun(z:Bool)=>bif z then Sa (Ad (Ad (Ad (Ad (Ad Sb)))))else Sa (Ae (Ab .i64 (f+(1:Int))))else Sa (Ad (Ae ()))) (0:Int)) fun(W:Unit)=>Aa (zBk (24:Nat) (↑(Ac i.1):Int) []) fun(A:List (List (Ty.El zC)))=>Aa (zBH (r.1,A,c,())) fun(h:List (Ty.El zC))=>zR (fun(g:Int)=>bif decide (g< (↑(Ac h):Int))then wL (Aa (zR (fun(a:Int×Bool)=>bif decide (a.1< (↑(Ac i.1):Int))then Aa (Aa (zR (fun(d:Int×Bool)=>Aa (Aa (idx q a.1) fun(B:Int)=>Aa (idx q c) fun(C:Int)=>bif B==C then Aa (idx i.1 a.1) fun(D:Ty.El zG)=>Sa (decide (d.1< (↑(Ac D.2.2.1):Int)))else Sa Sb) fun(E:Bool)=>bif E then Aa (idx i.1 a.1) fun(F:Ty.El zG)=>Aa (idx F.2.2.1 d.1) fun(j:Ty.El z6)=>Aa (bif d.2 then Sa Sc else Aa (zJI (r.1,a.1,d.1,())) fun(G:Bool)=>bif G then Aa (uC (j.2.1,j.2.2.1,())) fun(k:Int×Int×Unit)=>Aa (idx h g) fun(l:Ty.El zC)=>Sa (k.1==l.1.1&&(k.2.1==l.1.2.1&&Sc))else Sa Sb) fun(H:Bool)=>Sa (Ae (Ab .i64 (d.1+(1:Int)),H))else Sa (Ad d.2)) ((0:Int),a.2)) fun(I:Bool)=>zR (fun(e:Int×Bool)=>Aa (Aa (idx q a.1) fun(J:Int)=>Aa (idx q c) fun(K:Int)=>bif J==K then Aa (idx i.1 a.1) fun(L:Ty.El zG)=>Sa (decide (e.1< (↑(Ac L.2.2.2.2.2.2.2.2.1.2.2.1):Int)))else Sa Sb) fun(M:Bool)=>bif M then Aa (bif e.2 then Sa Sc else Aa (idx i.1 a.1) fun(N:Ty.El zG)=>Aa (idx N.2.2.2.2.2.2.2.2.1.2.2.1 e.1) fun(m:Ty.El vK)=>Aa (idx h g) fun(n:Ty.El zC)=>Sa (m.2.1.1==n.1.1&&(m.2.1.2.1==n.1.2.1&&Sc))) fun(O:Bool)=>Sa (Ae (Ab .i64 (e.1+(1:Int)),O))else Sa (Ad e.2)) ((0:Int),I)) fun(P:Bool)=>Sa (Ae (Ab .i64 (a.1+(1:Int)),P))else Sa (Ad a.2)) ((0:Int),Sb)) fun(Q:Bool)=>bif !Q then Sa (Ad (Ad (Ad (Ad (Ad Sb)))))else Sa (Ae ())) fun(Y:Unit)=>Sa (Ae (Ab .i64 (g+(1:Int))))else Sa (Ad (Ae ()))) (0:Int)) fun(Z:Unit)=>Sa (Ae (Ab .i64 (c+(1:Int))))else Sa (Ad (Ae ()))) (0:Int)) fun(ab:Unit)=>Aa (zRX ()) fun(S:Bool)=>Sa S
noncomputable abbrev PS:Sig:=zRE HH
theorem qAP{Γ:Sig}{f:FuncId}{dec:List V->Option j}{R:RTy}:jJ Γ Ag G0 f (z7 (vR dec R (fun _:j=>(Sd:Option R.El)))):=by
 intro w F O s c h X r d k l e i a;simp only[z7,vR]at a
 cases g:dec h with
 |none=>rw[g]at a;cases a
 |some x=>rw[g]at a;cases a
end Go.Ve
namespace Go.Ve
noncomputable section
open Go Go.Proofs Go.Shelf Go.RowKit
theorem qDr(v0:Value)(n lim:Int)(w:World)(C:World->Prop)(h0:0<=n)(hn:n<=12)(hw:Ab .i64 n=n)
  (hcall:Calls Ag 133 #[v0,.int .i64 0,.int .i64 n] w fun e w'=>e=.returned (.tuple #[])/\C w'):
  Calls Ag 84 #[v0,.int .i64 0,.int .i64 n,.int .i64 lim] w fun e w'=>e=.returned (.tuple #[])/\C w':=by
 have hw0:Ab .i64 (n-0)=n:=by grind
 go_enter Tryz.func84,Tryz.ntmps84
 go_wp2
 refine wp_loop_rounds 1 ?_;rw[rounds_succ]
 go_wp2_with (go_at_call 133;refine hcall.mono ?_;rintro e w' ⟨rfl,hC⟩)
 (try simp only[Exit.inBlock,Exit.then])
 refine bodyPost_ret (results_none rfl _ _ _) rfl ?_;simp_all
def zIL:ElS [tI,tI]->Option (RTy.El (.p .bool)):=fun x=>match x with
 |(a,c,())=>
  Aa
   (Aa (zAW (a,())) fun(d:Bool)=>
    bif d then Aa (zAW (c,())) fun(e:Bool)=>bif !e then Sa Sc else Sa (decide (a<c))else Sa (decide (a<c)))
   fun(f:Bool)=>Sa f
def j8:List (Ty.El tI)->ElA [.d tI,.d tI]->Option (List (Ty.El tI)×RTy.El (.tu [])):=fun l x=>match x with
 |(m,B,())=>
  zR
   (fun(e:Int×List Int)=>
    bif decide (e.1<B)then
     Aa
      (zR
       (fun(a:Int×List Int)=>
        Aa
         (bif decide (a.1>m)then
          Aa (idx a.2 a.1) fun(n:Int)=>
           Aa (atN a.2 (Af a.1)) fun(g:Int)=>
            Aa (idx a.2 (Ab .i64 (a.1- (1:Int)))) fun(p:Int)=>
             Aa (atN a.2 (Af (Ab .i64 (a.1- (1:Int))))) fun(h:Int)=>
              Aa (zIL (g,h,())) fun(i:Bool)=>Sa (i,a.2)
         else Sa (Sb,a.2))
         fun(c:Bool×List Int)=>
         bif c.1 then
          Aa (idx c.2 (Ab .i64 (a.1- (1:Int)))) fun(q:Int)=>
           Aa (atN c.2 (Af (Ab .i64 (a.1- (1:Int))))) fun(f:Int)=>
            Aa (idx c.2 a.1) fun(t:Int)=>
             Aa (atN c.2 (Af a.1)) fun(j:Int)=>
              Aa (idx c.2 a.1) fun(u:Int)=>
               Aa (atN c.2 (Af a.1)) fun(y:Int)=>
                Aa (idx (Ah c.2 (Af a.1) f) (Ab .i64 (a.1- (1:Int)))) fun(z:Int)=>
                 Aa (atN (Ah c.2 (Af a.1) f) (Af (Ab .i64 (a.1- (1:Int))))) fun(A:Int)=>
                  Sa
                   (Ae
                    (Ab .i64 (a.1- (1:Int)),
                     Ah (Ah c.2 (Af a.1) f) (Af (Ab .i64 (a.1- (1:Int)))) j))
         else Sa (Ad c.2))
       e)
      fun(k:List Int)=>Sa (Ae (Ab .i64 (e.1+(1:Int)),k))
    else Option.map (fun(r:List Int×Unit)=>Ad r) (bif Nat.beq (Ac e.2) (Ac l)then Sa (e.2,())else Sd))
   (Ab .i64 (m+(1:Int)),l)
theorem zQq:OkX 139 [tI,tI] (.p .bool) zIL:=fX [zI5] [jj 6 5726622976 [] [.t 4 .bool]]
def zCR:Nat->Option JA:=fun k=>match k with
 |18=>Sa ⟨0x1555555500000000,[],[.t 30 .bool,.o 0 1000000 tI]⟩
 |17=>Sa ⟨0x1555555555555555500004001,[],[.t 7 tI,.o 0 1000000 tI]⟩
 |8=>Sa ⟨0x1555555555555555540004001,[],[.o 0 1000000 tI]⟩
 |5=>Sa ⟨0x1555555555555555555505001,[],[.t 6 tI,.o 0 1000000 tI]⟩
 |27=>Sa ⟨0,[(229376,28,0)],[]⟩
 |_=>Sd
theorem zCl:zCK U Ag G0 133 tI (uI [.d tI,.d tI]) (.tu []) j8:=
 zBp (fn:=Tryz.f133) (c:=kU Tryz.f133) (S:=((zU.none U).add 139 (qQ [tI,tI] (.p .bool) zIL))) (A:=zCR) (vQ jE (by kernel_rfl) zQq) (by kernel_rfl) (by kernel_rfl) (by kernel_rfl) (by grind) (by rintro⟨⟩ e ⟨f,g,⟨⟩⟩;kernel_rfl)
def pdq:List (Ty.El tI)->ElA [.d tI,.d tI,.d tI]->Option (List (Ty.El tI)×RTy.El (.tu [])):=fun c x=>match x with
 |(a,n,_,())=>if a=(0:Int)/\(0:Int)<=n/\n<=(12:Int)then j8 c ((0:Int),n,())else Sd
theorem qGn{n:Int}(d:0<=n)(e:n<=12):Ab .i64 n=n:=by
 have a:((2:Int)^Aj .i64)=0x10000000000000000:=by decide
 have c:((2:Int)^(Aj .i64-1))=0x8000000000000000:=by decide
 simp only[Ab,Al,bR,decide_eq_true_eq,a,c];split<;>omega
theorem qGz:zCK U Ag G0 84 tI (uI [.d tI,.d tI,.d tI]) (.tu []) pdq:=by
 intro s C r x G y Y hg;obtain⟨a,n,j,⟨⟩⟩:=x;have k:(if a=(0:Int)/\(0:Int)<=n/\n<=(12:Int)then j8 C ((0:Int),n,())else Sd)=Sa (G,y):=hg;split at k
 .rename_i H;obtain⟨rfl,Z,hn⟩:=H;refine .of (zKh _ r _ Y) ?_;have q:=zAy.row (by rfl) (zCl s C [.val (.int .i64 0),.val (.int .i64 n)] ((0:Int),n,()) G y (by rfl) k);intro w F O b v0 t u hG hF z hb I J m;have f:=zAJ [.d tI,.d tI,.d tI] r _ Y;have ab:r.length=3:=f.len;obtain⟨l⟩:=t;have hl:l.length=4:=by grind
  match l,hl with
  |[A,K,L,M],_=>
   have g0:A=v0:=by simpa using J
   have g1:K=.int .i64 0:=Rd.eq_val (f.get 0 (r[0]'(by omega)) (.val (.int .i64 0)) (by simp) rfl w F K (m 0 K _ rfl (by simp)));have g2:L=.int .i64 n:=Rd.eq_val (f.get 1 (r[1]'(by omega)) (.val (.int .i64 n)) (by simp) rfl w F L (m 1 L _ rfl (by simp)));have g3:M=.int .i64 j:=Rd.eq_val (f.get 2 (r[2]'(by omega)) (.val (.int .i64 j)) (by simp) rfl w F M (m 2 M _ rfl (by simp)));subst g0 g1 g2 g3
   have H:=q w F O b A #[A,.int .i64 0,.int .i64 n] u hG hF z hb rfl rfl (fun i x d B D=>by
    match i with
    |0=>simp at B D;subst B D;exact .val _
    |1=>simp at B D;subst B D;exact .val _
    |i+2=>simp at B)
   have hw:=qDr A n j w (fun p=>∃(g:Blk->Prop) (h:Nat->Prop),U.R s g h p/\xC (fun c=>O c\/(C≠[]/\c=b)) w p/\(∀c,h c->O c\/w.heap.size<=c)/\zFM w.heap.size F g/\
    (∀c:Nat,g c->(F c\/w.heap.size<=c)/\c<p.heap.size/\¬h c)/\zCt w.heap.size p g h b A tI C G (.tuple #[]) (.tup [])) Z hn (qGn Z hn) (by
     refine H.mono ?_;rintro e p ⟨v,g,h,rfl,N,P,Q,S,W,E⟩
     have hv:v=.tuple #[]:=by
      have h7:Rd p g v (.tup []):=(zCt.out (by intro hh;cases hh) E).2
      cases h7 with
      |tup cs _ hl _=>
       grind
     subst hv
     exact⟨rfl,g,h,N,P,Q,S,W,E⟩)
   refine hw.mono ?_;rintro e p ⟨rfl,g,h,N,P,Q,S,W,E⟩;exact⟨_,g,h,rfl,N,P,Q,S,W,E⟩
 .cases k
end
end Go.Ve
namespace Go.Ve
noncomputable section
open Go Go.Proofs
theorem qDX{P:Program}{G:Nat->Option (List V)}{f:FuncId}{ts:List Ty}{R:RTy}{g:U.St->ElS ts->Option (U.St×R.El)}(h:jJ U P G f (z7 (zBQ (zBv ts) R g))):
  jJ U P G f (z7 (qQ ts R (fun x=>(g () x).map Prod.snd))):=by
 intro w F O s c j l r d m n e i a;refine h w F O s c j l r d m n e i ?_;simp[z7,qQ,vR,zBQ]at a ⊢
 cases p:zBv ts j with
 |none=>grind
 |some x=>
  rw[p]at a
  cases k:g () x with
  |none=>grind
  |some y=>simp only[k,bv]at a;have q:g s x=Sa y:=k;simp only[q,bv];exact a
def zEm:ElS [(.int .u64)]->Option (RTy.El (.p tI)):=fun x=>(qC2 (St:=U.St) (zOD (Γ:=U) LF G0 (zGU U) 300 14 85) [(.int .u64)] (.p tI) () x).map Prod.snd
theorem zOO:OkX 85 [(.int .u64)] (.p tI) zEm:=qDX (zUc ((zBc mixed (by kernel_rfl) zCg 388 349 300 14).ok 85) _ _)
def uJ:List (Ty.El tI)->ElA [.d tI,.d tI,.d tI]->Option (List (Ty.El tI)×RTy.El (.tu [])):=pdq
theorem zEX:zCK U Ag G0 84 tI (uI [.d tI,.d tI,.d tI]) (.tu []) uJ:=qGz
def zAN:List (Ty.El tI)->ElA []->Option (List (Ty.El tI)×RTy.El (.tu [])):=fun a x=>match x with
 |()=>
  Aa (zEm (Ab .u64 (↑(Ac a):Int),())) fun(d:Int)=>
   bif Nat.beq (Ac a) (Ac a)&&Nat.beq (Ac a) (Ac a)then
    Aa (uJ a ((0:Int),(↑(Ac a):Int),d,())) fun(c:List Int×Unit)=>
     bif Nat.beq (Ac c.1) (Ac a)then Sa (c.1,())else Sd
   else Sd
def zOn:Nat->Option JA:=fun _=>Sd
theorem zL9:zCK U Ag G0 45 tI (uI []) (.tu []) zAN:=
 zBp (fn:=Tryz.f45) (c:=kU Tryz.f45) (S:=(((zU.none U).add 85 (qQ [(.int .u64)] (.p tI) zEm)).addB 84 (zAB tI (uI [.d tI,.d tI,.d tI]) (.tu []) uJ))) (A:=zOn) (zAx (vQ jE (by kernel_rfl) zOO) (by kernel_rfl) zEX) (by kernel_rfl) (by kernel_rfl) (by kernel_rfl) (by grind) (by rintro⟨⟩ e ⟨⟩;kernel_rfl)
def zNX:Ent:=qEj zL9
end
end Go.Ve
