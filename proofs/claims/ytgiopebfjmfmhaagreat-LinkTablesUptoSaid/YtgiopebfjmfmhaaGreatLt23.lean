/- law16 -/
import Derived.Test.YtgiopebfjmfmhaaGreatLt19
import Derived.Test.YtgiopebfjmfmhaaGreatLt14
import Derived.Test.YtgiopebfjmfmhaaGreatLt17
import Derived.Test.YtgiopebfjmfmhaaGreatLt11
import Derived.Test.YtgiopebfjmfmhaaGreatLt1
import Derived.Test.YtgiopebfjmfmhaaGreatLt13
set_option linter.unusedVariables false
open Option renaming some->Sa,none->Sd
open Bool renaming false->Sb,true->Sc
open Option renaming bind->Aa,isNone->Am
open Go.IntKind renaming wrap->Ab,bits->Aj,signed->Al
open List renaming length->Ac,replicate->Ah,set->Ai,range->Ak
open Sum renaming inr->Ad,inl->Ae
open Int renaming toNat->Af
open Go.Proofs.Tryz renaming prog->Ag
set_option maxRecDepth 1000000
set_option maxHeartbeats 0
namespace Go.Ve
open Go Go.Proofs Go.Shelf Go.RowKit
def zNL:Ren:=⟨fun f=>match f with
 |4=>270
 |n=>n,fun t=>match t with
 |0=>0
 |3=>3
 |4=>4
 |9=>9
 |20=>20
 |22=>49
 |25=>40
 |n=>n,fun n=>n⟩
theorem zOc:Lays8.n4 Ag zNL where
 mixed:=mixed
 f4:=⟨Tryz.f270.name,by kernel_rfl,by kernel_rfl⟩
 t0:=by kernel_rfl
 a0:=zY (by kernel_rfl)
 z0:=zL (by kernel_rfl)
 v0:=fun w=>by kernel_rfl
 t3:=by kernel_rfl
 a3:=zY (by kernel_rfl)
 z3:=zL (by kernel_rfl)
 v3:=fun w=>by kernel_rfl
 t4:=by kernel_rfl
 a4:=zY (by kernel_rfl)
 z4:=zL (by kernel_rfl)
 v4:=fun w=>by kernel_rfl
 t9:=by kernel_rfl
 a9:=zY (by kernel_rfl)
 z9:=zL (by kernel_rfl)
 v9:=fun w=>by kernel_rfl
 t20:=by kernel_rfl
 a20:=zY (by kernel_rfl)
 z20:=zL (by kernel_rfl)
 v20:=fun w=>by kernel_rfl
 t22:=by kernel_rfl
 a22:=zY (by kernel_rfl)
 z22:=zL (by kernel_rfl)
 v22:=fun w=>by kernel_rfl
theorem qEq:(Tryz.prog.info? 40).map (fun i=>(i.zero.map (fun z=>z.cells.size),i.size,i.bytes))=Sa (Sa zP.size,zP.size,16):=by kernel_rfl
theorem zQj:∃(i0:TypeInfo) (z:Value),Tryz.prog.info? 40=Sa i0/\i0.zero=Sa z/\i0.size=zP.size/\i0.bytes=16/\z.cells.size=zP.size:=by
 have h:=qEq
 cases a:Tryz.prog.info? 40 with
 |none=>grind
 |some i0=>simp_all
theorem qEv(n:Nat)(w:World)(q:0<n)(r:n*16<=0x800000000000):
  Calls Ag 270 #[.slice Sd 0 0,.int .i64 n] w fun e w'=>∃(G:Nat) (Z:Array Value),e=.returned (.slice (Sa ⟨w.heap.size,0,Sd⟩) 0 G)/\n<=G/\Z.size=G*zP.size/\w'=(w.alloc (.cells Z 40)).drew:=by
 obtain⟨f,z,g,i,j,k,c⟩:=zQj;have h:=Any8.slices_Grow_grow zOc f z g i (by rw[j];exact Nat.zero_lt_succ _) Sd 0 0 n [] w (aj _) (by omega) (by rw[k];omega) (by omega) (by simp) (fun _=>rfl) (fun a l=>by cases l);refine h.mono ?_;rintro e w' ⟨rfl,rfl⟩;have u:=grownCap_ge w (0+n) 0 (zNL.t 25);refine⟨_,_,rfl,by omega,?_,rfl⟩;have d:∀m,(Builtin.zeroCells z.cells m).size=m*zP.size:=fun m=>by simp[Builtin.zeroCells,c]
 simp only[Array.size_append,d];have p:(#[]:Array Value).size=0:=rfl;rw[p,bw,<-bE];congr 1;omega
theorem qCx(w:World):Calls Ag 270 #[.slice Sd 0 0,.int .i64 0] w fun e w'=>e=.returned (.slice Sd 0 0)/\w=w':=
 (Any8.slices_Grow_room zOc Sd 0 0 0 w (aj _) (by omega) (by omega) (aj _)).mono fun _ _ h=>⟨h.1,h.2.symm⟩
theorem zW2{a b:Nat}(h:a+b<=0x800000000000):Ab .i64 ((a:Int)+(b:Int))=((a+b:Nat):Int):=by
 have c:((2:Int)^Aj .i64)=0x10000000000000000:=by decide
 have d:((2:Int)^(Aj .i64-1))=0x8000000000000000:=by decide
 simp only[Ab,Al,bV,decide_eq_true_eq,c,d];split<;>omega
theorem zSc{j n:Nat}(h:j<n)(c:n<=1048576):Ab .i64 ((j:Int)+1)=((j+1:Nat):Int):=by have:=zW2 (a:=j) (b:=1) (by omega);simpa using this
set_option maxHeartbeats 4000000 in
set_option maxRecDepth 1000000 in
theorem zRf(oa:Option Addr)(b0 off0 N cap0:Nat)(hd:Nat->Option Addr)(ln cp:Nat->Nat)(rows:Nat->List Value)(w:World)
  (hoa:0<N->oa=Sa ⟨b0,off0,Sd⟩) (hb0:Hid (0<N->b0<w.heap.size)) (hN:Hid (N<=1048576)) (hc:Hid (∀j,j<N->w.cell? ⟨b0,off0+j,Sd⟩=Sa (.slice (hd j) (ln j) (cp j))))
  (hs:Hid (∀j,j<N->∀W:World,(∀i,i<w.heap.size->W.heap[i]?=w.heap[i]?)->Src Ag zP.size 49 (.slice (hd j) (ln j) (cp j)) (ln j) (rows j) W)) (hB:Hid (zBj ln N*16<=0x800000000000)):
  Calls Ag 215 #[.slice oa N cap0] w fun e w'=>∃v,e=.returned v/\((zBj ln N=0/\v=.slice Sd 0 0/\w'=w)\/
   (0<zBj ln N/\∃(G:Nat) (Z:Array Value),v=.slice (Sa ⟨w.heap.size,0,Sd⟩) (zBj ln N) G/\zBj ln N<=G/\Z.size=G*zP.size/\w'=(w.alloc (.cells Z 40)).drew.setCells w.heap.size 0 (zDc rows N))):=by
 obtain⟨i0,z,hi,hz,hsz,hby,_⟩:=zQj;have HI:Hid (Tryz.prog.info? 40=Sa i0/\i0.size=zP.size):=⟨hi,hsz⟩
 clear hi hz hsz hby;have hbound:Hid (∀j,j<=N->zBj ln j<=0x800000000000):=fun j hj=>by have h1:=qA2 ln hj;have h2:=hB.out;omega
 have hgrow:Hid (0<zBj ln N->_):=fun h0=>qEv (zBj ln N) w h0 hB.out
 go_enter Tryz.func215,Tryz.ntmps215
 go_wp2
 go_loopg [3,11] N (fun g s3 s11 wr=>∃j,g=N-j/\j<=N/\s3=.int .i64 (zBj ln j)/\s11=.int .i64 j/\w=wr)
 case atStart=>exact⟨0,rfl,aY _,rfl,rfl,rfl⟩
 case round=>
  obtain⟨j,hg,hj,rfl,rfl,rfl⟩:=hrel;by_cases hlt:j<N
  .obtain rfl:=hoa (by omega);have hx:=hc.out j hlt;have hw1:=zW2 (a:=zBj ln j) (b:=ln j) (hbound.out (j+1) hlt);have hw2:=zSc hlt hN.out;generalize hq:zBj ln j+ln j=q at hw1;have hneg:¬((q:Int)<0):=by omega
   go_wp2
   go_roundg (N- (j+1))
   case measure=>omega
   case rel=>exact⟨j+1,rfl,hlt,by rw[<-hq];rfl,by go_num,rfl⟩
  .have hjN:j=N:=by omega
   have hln:Hid (∀i,i<N->zBj ln i+ln i<=zBj ln N):=fun i hi=>qA2 ln (i:=i+1) (j:=N) hi;rw[hjN];clear hjN hlt hj hg;rcases cA (zBj ln N)with hzero|hpos
   .have hz0:((zBj ln N:Nat):Int)=0:=by omega
    rw[hz0]
    go_wp2_with (go_at_call 270;refine(qCx w).mono ?_;rintro e w' ⟨rfl,rfl⟩)
    go_wp2
    go_loopg [6,27] N (fun g s6 s27 wr=>∃m,g=N-m/\m<=N/\s6=.slice Sd 0 0/\s27=.int .i64 m/\w=wr)
    case atStart=>exact⟨0,rfl,aY _,rfl,rfl,rfl⟩
    case round=>
     obtain⟨m,hg,hm,rfl,rfl,rfl⟩:=hrel;by_cases hlt:m<N
     .obtain rfl:=hoa (by omega);have hx:=hc.out m hlt;have hw2:=zSc hlt hN.out
      have hrz:∀ty,(Builtin.append_ #[49,49] ty #[.slice Sd 0 0,.slice (hd m) (ln m) (cp m)]).run Ag w=.ok (.slice Sd 0 0) w:=fun ty=>by
       have h1:=hs.out m hlt w (fun _ _=>rfl);have h2:=hln.out m hlt;have h3:ln m=0:=by omega
       have h4:rows m=[]:=aJ (by rw[h1.newsLen,h3,Nat.zero_mul]);rw[h3,h4]at h1;rw[h3];exact run_append_nothing w 49 49 ty 40 i0 (by kernel_rfl) HI.out.1 Sd 0 0 (aj _) _ (by rw[HI.out.2];exact h1)
      go_wp2_with (at_builtin;refine Lib.wpList_append_run _ rfl _ _ _ _ rfl _ _ rfl rfl _ _ (hrz _) ?_)
      go_wp2
      go_roundg (N- (m+1))
      case measure=>omega
      case rel=>exact⟨m+1,rfl,hlt,rfl,by go_num,rfl⟩
     .go_wp2
      go_ret
      exact⟨_,rfl,.inl ⟨hzero,rfl,rfl⟩⟩
   .go_wp2_with (go_at_call 270;refine(hgrow.out hpos).mono ?_;rintro e w' ⟨G,Z,rfl,hG,hZ,rfl⟩)
    go_wp2
    have hold:Hid (∀i,i<w.heap.size->(w.alloc (.cells Z 40)).drew.heap[i]?=w.heap[i]?):=fun i hi=>zVi hi;have hblk:Hid (∀i,i<G*zP.size->((w.alloc (.cells Z 40)).drew.cell? ⟨w.heap.size,i,Sd⟩).isSome=Sc/\(w.alloc (.cells Z 40)).drew.frozen? ⟨w.heap.size,i,Sd⟩=Sb):=fun i hi=>qAz zVj (by omega);generalize hW1:(w.alloc (.cells Z 40)).drew=W1 at hold hblk ⊢;have HW:Hid ((w.alloc (.cells Z 40)).drew=W1):=hW1;have HZ:Hid (Z.size=G*zP.size):=hZ;clear hW1 hZ;generalize hbk:w.heap.size=bk at hold hblk ⊢;have HBK:Hid (w.heap.size=bk):=hbk;clear hbk
    go_loopg [6,27] N (fun g s6 s27 wr=>∃m,g=N-m/\m<=N/\s6=.slice (Sa ⟨bk,0,Sd⟩) (zBj ln m) G/\s27=.int .i64 m/\wr=W1.setCells bk 0 (zDc rows m))
    case atStart=>exact⟨0,rfl,aY _,rfl,rfl,rfl⟩
    case round=>
     obtain⟨m,hg,hm,rfl,rfl,hwr⟩:=hrel;have HWR:Hid (wr=W1.setCells bk 0 (zDc rows m)):=hwr;clear hwr;by_cases hlt:m<N
     .obtain rfl:=hoa (by omega);have hb:=hb0.out (by omega);have hagree:Hid (∀i,i<bk->wr.heap[i]?=w.heap[i]?):=fun i hi=>by rw[HWR.out,zGc bk _ _ _ (Nat.ne_of_lt hi)];exact hold.out i hi
      have hx:wr.cell? ⟨b0,off0+m,Sd⟩=Sa (.slice (hd m) (ln m) (cp m)):=by rw[World.cell?_of_block (w:=w) (hagree.out b0 (by rw[<-HBK.out];exact hb))];exact hc.out m hlt
      have hw2:=zSc hlt hN.out;have hroom:=hln.out m hlt;have hrl:Hid ((zDc rows m).length=zBj ln m*zP.size):=zUs (fun i hi=>(hs.out i (by omega) w (fun _ _=>rfl)).newsLen)
      have hrz:∀ty,(Builtin.append_ #[49,49] ty #[.slice (Sa ⟨bk,0,Sd⟩) (zBj ln m) G,.slice (hd m) (ln m) (cp m)]).run Ag wr=.ok (.slice (Sa ⟨bk,0,Sd⟩) (zBj ln m+ln m) G) (wr.setCells bk (zDc rows m).length (rows m)):=fun ty=>by
       have h1:=hs.out m hlt wr (fun i hi=>hagree.out i (by rw[<-HBK.out];exact hi));have hle:zBj ln m*zP.size+ln m*zP.size<=G*zP.size:=by rw[<-bE];exact aq _ (by omega)
       have h2:=run_append_room_src (P:=Ag) wr 49 49 ty 40 i0 (by kernel_rfl) HI.out.1 bk 0 (zBj ln m) G _ (ln m) (rows m) (by rw[HI.out.2];exact h1) (by omega)
        (fun jj hjj=>by
         rw[h1.newsLen]at hjj;rw[HI.out.2,HWR.out]
         exact Lib.isSome_setCells bk _ _ _ _ (hblk.out _ (by omega)).1)
        (fun jj hjj=>by
         rw[h1.newsLen]at hjj;rw[HI.out.2,HWR.out,World.frozen?_setCells]
         exact(hblk.out _ (by omega)).2)
       rw[bw,HI.out.2,<-hrl.out]at h2;exact h2
      go_wp2_with (at_builtin;refine Lib.wpList_append_run _ rfl _ _ _ _ rfl _ _ rfl rfl _ _ (hrz _) ?_)
      go_wp2
      go_roundg (N- (m+1))
      case measure=>omega
      case rel=>
       refine⟨m+1,rfl,hlt,rfl,by go_num,?_⟩;rw[HWR.out];have h3:=zJf bk (zDc rows m) 0 W1 (rows m);rw[bw]at h3;exact h3.symm
     .have hmN:m=N:=by omega
      rw[hmN]at HWR ⊢
      go_wp2
      go_ret
      exact⟨_,rfl,.inr ⟨hpos,G,Z,by rw[HBK.out];rfl,hG,HZ.out,by rw[HBK.out,HW.out];exact HWR.out⟩⟩
noncomputable def zDb:ElS [(.sl (.sl zP))]->Option (RTy.El (.o zP)):=fun x=>if(2*x.1.flatten.length+1024)*16<=0x800000000000/\x.1.length<=1048576 then Sa x.1.flatten else Sd
theorem zKc:jK U Ag G0 215 (z6 (qQ [(.sl (.sl zP))] (.o zP) zDb)):=
 zV7 (t:=zP) (TS:=49) (TE:=40) (bytes:=16) (by kernel_rfl) (fun e f a N c g h i d w j k l m n p=>zRf e f a N c g h i d w j k l m n p)
end Go.Ve
namespace Go.Ve
noncomputable section
open Go Go.Proofs
def zDa:List (Ty.El zP)->ElA [.clo 216 []]->Option (List (Ty.El zP)×RTy.El (.tu [])):=jG
def uC:List (Ty.El zP)->ElA [.clo 224 []]->Option (List (Ty.El zP)×RTy.El (.tu [])):=jG
def vJ:ElS [zH,tI,tI]->Option (RTy.El (.tu [zZ,.bool])):=fun x=>match x with|(d,c,e,())=>Aa (bif decide (c< (0:Int))then Sa Sc else bif decide (c>=(↑(Ac d.1.1):Int))then Sa Sc else bif decide (e< (0:Int))then Sa Sc else Aa (idx d.1.1 c) fun(f:Ty.El zG)=>Sa (decide (e>=(↑(Ac f.2.2.1):Int)))) fun(g:Bool)=>bif g then Sa (({ data:= #[] },(0:Int),(0:Int),(0:Int),Sb,Sb,(0:Int),(0:Int),Sb, { data:= #[] }, { data:= #[] },(0:Int),()),Sb,())else Aa (idx d.1.1 c) fun(h:Ty.El zG)=>Aa (idx h.2.2.1 e) fun(i:Ty.El zZ)=>Sa (i,Sc,())
def wF:ElS [zH,tI,tI,tI]->Option (RTy.El (.p .bool)):=fun x=>match x with|(a,c,e,f,())=>Aa (vJ (a,c,e,())) fun(d:Ty.El zZ×Bool×Unit)=>Aa (bif d.2.1 then Aa (idx a.1.1 c) fun(g:Ty.El zG)=>bif g.2.2.2.2.2.2.2.2.1.1 then bif d.1.2.2.2.2.2.1 then bif d.1.2.2.2.2.2.2.1==f then Aa (zGU (a,c,e,())) fun(h:Bool)=>Sa h else Sa Sb else Sa Sb else Sa Sb else Sa Sb) fun(i:Bool)=>Sa i
def zEc:ElS [tI]->Option (RTy.El (.p tI)):=fun x=>match x with|(a,())=>Sa (if(64:Int)<if(0:Int)>a then(0:Int)else a then(64:Int)else if(0:Int)>a then(0:Int)else a)
def qW:ElA [.d zN,.pp vP]->Option (RTy.El (.p .bool)):=fun x=>match x with|(a,c,())=>Aa (zCS (c.2.1,a.1,())) fun(e:Bool)=>Sa e
def wG:ElA [.d (.sl zN),.clo 158 [(Sc,vP)]]->Option (RTy.El (.p tI)):=fun x=>match x with|(c,(e,()),())=>wB (zS (fun(a:Int)=>bif decide (a< (↑(Ac c):Int))then Aa (idx c a) fun(f:Ty.El zN)=>Aa (qW (f,e,())) fun(g:Bool)=>bif g then Sa (Ad (Ad a))else Sa (Ae (Ab .i64 (a+(1:Int))))else Sa (Ad (Ae ()))) (0:Int)) fun(h:Unit)=>Sa (-1:Int)
def jQ:ElA [.d zC,.pp vP]->Option (RTy.El (.p .bool)):=fun x=>match x with|(a,c,())=>Sa (a.1.1==c.2.1.1&&(a.1.2.1==c.2.1.2.1&&Sc))
def uD:ElA [.d (.sl zC),.clo 160 [(Sc,vP)]]->Option (RTy.El (.p tI)):=fun x=>match x with|(c,(e,()),())=>wB (zS (fun(a:Int)=>bif decide (a< (↑(Ac c):Int))then Aa (idx c a) fun(f:Ty.El zC)=>Aa (jQ (f,e,())) fun(g:Bool)=>bif g then Sa (Ad (Ad a))else Sa (Ae (Ab .i64 (a+(1:Int))))else Sa (Ad (Ae ()))) (0:Int)) fun(h:Unit)=>Sa (-1:Int)
def wP:ElA [.d (.sl zC),.clo 160 [(Sc,vP)]]->Option (RTy.El (.p .bool)):=fun x=>match x with|(a,(c,()),())=>Aa (uD (a,(c,()),())) fun(e:Int)=>Sa (decide (e>=(0:Int)))
def u6:ElA [.d zN,.pp zD]->Option (RTy.El (.p .bool)):=fun x=>match x with|(a,c,())=>Sa (a.1.1==c.1&&(a.1.2.1==c.2.1&&Sc))
def xK:ElS [(.sl zP),(.sl zP)]->Option (RTy.El (.p (.sl zP))):=fun x=>match x with|(c,d,())=>Aa (zDb ([c,d],())) fun(a:List (Ty.El zP))=>bif Nat.beq (Ac a) (Ac a)&&Nat.beq (Ac a) (Ac a)then Aa (zDa a ((),())) fun(e:List (Ty.El zP)×Unit)=>Aa (jB e.1 ()) fun(f:List (Ty.El zP))=>Sa f else Sd
def kI:Ty.El wD->ElA [.d tI,.d (.sl zP)]->Option (Ty.El wD×RTy.El (.tu [])):=fun a x=>match x with|(c,e,())=>Aa (atN [a] (0:Nat)) fun(h:Ty.El wD)=>bif decide (h.1< (0:Int))then Aa (uU (e,())) fun(i:List (Ty.El zP))=>Aa (atN [a] (0:Nat)) fun(j:Ty.El wD)=>Aa (atN [(c,j.2)] (0:Nat)) fun(k:Ty.El wD)=>Sa ((k.1,i,()),())else Aa (atN [a] (0:Nat)) fun(l:Ty.El wD)=>bif decide (c<l.1)then Aa (uU (e,())) fun(m:List (Ty.El zP))=>Aa (atN [a] (0:Nat)) fun(n:Ty.El wD)=>Aa (atN [(c,n.2)] (0:Nat)) fun(p:Ty.El wD)=>Sa ((p.1,m,()),())else Aa (atN [a] (0:Nat)) fun(q:Ty.El wD)=>bif c==q.1 then Aa (atN [a] (0:Nat)) fun(r:Ty.El wD)=>Aa (xK (r.2.1,e,())) fun(f:List (Ty.El zP))=>Aa (atN [a] (0:Nat)) fun(g:Ty.El wD)=>Sa ((g.1,f,()),())else Sa (a,())
def jM:ElA [.d (.sl zN),.clo 158 [(Sc,vP)]]->Option (RTy.El (.p .bool)):=fun x=>match x with|(a,(c,()),())=>Aa (wG (a,(c,()),())) fun(e:Int)=>Sa (decide (e>=(0:Int)))
def yR:ElS [tI,qD]->Option (RTy.El (.p .bool)):=fun x=>match x with|(c,a,())=>Aa (bif decide (a.1>=(0:Int))then bif decide (a.1<c)then bif decide (a.2.1>=(0:Int))then bif decide (a.2.1<c)then bif decide (a.2.2.1>=(1:Int))then Sa (decide (a.2.2.1<=(16777215:Int)))else Sa Sb else Sa Sb else Sa Sb else Sa Sb else Sa Sb) fun(d:Bool)=>Sa d
def jH:ElS [tI,(.sl qD),tI]->Option (RTy.El (.p (.sl tI))):=fun x=>match x with|(Q,E,n,())=>Aa (zEc (Q,())) fun(C:Int)=>Aa (zB5 (8:Nat) C (0:Int)) fun(F:List Int)=>Aa (zS (fun(k:Int×List Int)=>bif decide (k.1< (↑(Ac F):Int))then Aa (idx k.2 k.1) fun(Z:Int)=>Aa (atN k.2 (Af k.1)) fun(S:Int)=>Sa (Ae (Ab .i64 (k.1+(1:Int)),Ai k.2 (Af k.1) (-1:Int)))else Sa (Ad k.2)) ((0:Int),F)) fun(q:List Int)=>Aa (bif decide (n< (0:Int))then Sa (Sc,q)else Sa (decide (n>=C),q)) fun(j:Bool×List Int)=>bif j.1 then Sa j.2 else Aa (idx j.2 n) fun(W:Int)=>Aa (atN j.2 (Af n)) fun(Y:Int)=>Aa (zB5 (1:Nat) C Sb) fun(D:List Bool)=>zS (fun(i:List Int×List Bool)=>Aa (zS (fun(a:Int×List Int×List Bool×Int×List Int)=>bif decide (a.1< (↑(Ac i.1):Int))then Aa (Aa (idx a.2.1 a.1) fun(G:Int)=>Aa (atN a.2.1 (Af a.1)) fun(l:Int)=>Aa (Aa (idx a.2.2.1 a.1) fun(H:Bool)=>Aa (atN a.2.2.1 (Af a.1)) fun(r:Bool)=>bif !r then bif decide (l>=(0:Int))then bif decide (a.2.2.2.1< (0:Int))then Sa (Sc,a.2.1,a.2.2.1,a.2.2.2.2)else Aa (idx a.2.2.2.2 a.2.2.2.1) fun(I:Int)=>Aa (atN a.2.2.2.2 (Af a.2.2.2.1)) fun(t:Int)=>Sa (decide (l<t),a.2.1,a.2.2.1,a.2.2.2.2)else Sa (Sb,a.2.1,a.2.2.1,a.2.2.2.2)else Sa (Sb,a.2.1,a.2.2.1,a.2.2.2.2)) fun(f:Bool×List Int×List Bool×List Int)=>bif f.1 then Sa (f.2.1,f.2.2.1,a.1,f.2.2.2)else Sa (f.2.1,f.2.2.1,a.2.2.2.1,f.2.2.2)) fun(u:List Int×List Bool×Int×List Int)=>Sa (Ae (Ab .i64 (a.1+(1:Int)),u))else Sa (Ad (a.2.2.2.1,a.2.2.2.2,a.2.2.1))) ((0:Int),i.1,i.2,(-1:Int),i.1)) fun(c:Int×List Int×List Bool)=>bif decide (c.1< (0:Int))then Sa (Ad c.2.1)else Aa (idx c.2.2 c.1) fun(J:Bool)=>Aa (atN c.2.2 (Af c.1)) fun(K:Bool)=>zS (fun(g:Int×List Int×List Bool)=>bif decide (g.1< (↑(Ac E):Int))then Aa (Aa (idx E g.1) fun(d:Ty.El qD)=>Aa (Aa (yR (C,d,())) fun(y:Bool)=>bif !y then Sa (Sc,g.2)else Sa (d.1 !=c.1,g.2)) fun(e:Bool×List Int×List Bool)=>bif e.1 then Sa e.2 else Aa (idx e.2.1 c.1) fun(L:Int)=>Aa (atN e.2.1 (Af c.1)) fun(m:Int)=>Aa (Aa (idx e.2.1 d.2.1) fun(M:Int)=>Aa (atN e.2.1 (Af d.2.1)) fun(z:Int)=>bif decide (z< (0:Int))then Sa (Sc,e.2)else Aa (idx e.2.1 d.2.1) fun(N:Int)=>Aa (atN e.2.1 (Af d.2.1)) fun(A:Int)=>Sa (decide (Ab .i64 (m+d.2.2.1)<A),e.2)) fun(h:Bool×List Int×List Bool)=>bif h.1 then Aa (idx h.2.1 d.2.1) fun(O:Int)=>Aa (atN h.2.1 (Af d.2.1)) fun(P:Int)=>Sa (Ai h.2.1 (Af d.2.1) (Ab .i64 (m+d.2.2.1)),h.2.2)else Sa h.2) fun(B:List Int×List Bool)=>Sa (Ae (Ab .i64 (g.1+(1:Int)),B))else Sa (Ad (Ae g.2))) ((0:Int),c.2.1,Ai c.2.2 (Af c.1) Sc)) (Ai j.2 (Af n) (0:Int),D)
def zDq(r:Int)(d:List Int)(es:List (Ty.El qD×Option (List Int)))(i:Nat):List (Ty.El zP):=es.filterMap fun e=>match e.2 with|none=>Sd|some l=>bif decide ((i:Int)≠r)&&(decide (l.getD i 0>=(0:Int))&&(Ab .i64 (e.1.2.2.1+l.getD i 0)==d.getD i 0))then Sa e.1.2.2.2.1 else Sd
def zHG(n:Int)(es:List (Ty.El qD))(r:Int):Option (List Int):=Aa (jH (n,es,r,())) fun d:List Int=>if d.length=n.toNat then Sa d else Sd
def zC8:ElS [tI,(.sl qD),tI]->Option (RTy.El (.p (.sl (.sl zP)))):=fun x=>match x with|(f,a,c,())=>Aa (zEc (f,())) fun n=>if n<=0\/1048576<a.length then Sd else Aa (zHG n a c) fun d=>Aa (zCw (fun e:Ty.El qD=>Aa (yR (n,e,())) fun u=>bif u&&(e.1==c)then(zHG n a e.2.1).map (fun l=>(e,Sa l))else Sa (e,Sd)) a) fun g=>zCw (fun i=>Aa (uC (zDq c d g i) ((),())) fun y=>jB y.1 ()) (Ak n.toNat)
def zML:ElS [zP,zP]->Option (RTy.El (.p tI)):=fun x=>match x with|(a,c,())=>Aa (qH (a.1,c.1,())) fun(d:Int)=>Aa (kM (a.2.1,c.2.1,())) fun(e:Int)=>Aa (zBC ([d,e],())) fun(f:Int)=>Sa f
def jD:ElS [zH,tI]->Option (RTy.El (.p (.sl qD))):=fun x=>match x with|(f,u,())=>Aa (zS (fun(c:Int×List (Ty.El qD))=>bif decide (c.1< (↑(Ac f.1.1):Int))then Aa (Aa (idx f.1.1 c.1) fun(g:Ty.El zG)=>zS (fun(a:Int×List (Ty.El qD))=>bif decide (a.1< (↑(Ac g.2.2.1):Int))then Aa (Aa (idx g.2.2.1 a.1) fun(i:Ty.El zZ)=>Aa (wF (f,c.1,a.1,u,())) fun(j:Bool)=>bif !j then Sa a.2 else Aa (zAo (f,c.1,a.1,())) fun(h:List (Ty.El zR))=>zS (fun(d:Int×List (Ty.El qD))=>bif decide (d.1< (↑(Ac h):Int))then Aa (Aa (idx h d.1) fun(e:Ty.El zR)=>Aa (wF (f,e.1,e.2.1,u,())) fun(k:Bool)=>bif !k then Sa d.2 else Aa (vJ (f,e.1,e.2.1,())) fun(l:Ty.El zZ×Bool×Unit)=>Aa (app (40:Nat) d.2 [(c.1,e.1,i.2.2.2.2.2.2.2.1,(a.1,l.1.2.1,()),())]) fun(m:List (Ty.El qD))=>Sa m) fun(n:List (Ty.El qD))=>Sa (Ae (Ab .i64 (d.1+(1:Int)),n))else Sa (Ad d.2)) ((0:Int),a.2)) fun(q:List (Ty.El qD))=>Sa (Ae (Ab .i64 (a.1+(1:Int)),q))else Sa (Ad a.2)) ((0:Int),c.2)) fun(r:List (Ty.El qD))=>Sa (Ae (Ab .i64 (c.1+(1:Int)),r))else Sa (Ad c.2)) ((0:Int),[])) fun(t:List (Ty.El qD))=>Sa t
def vM:ElA [.d (.sl zN),.clo 225 [(Sc,zD)]]->Option (RTy.El (.p tI)):=fun x=>match x with|(c,(e,()),())=>wB (zS (fun(a:Int)=>bif decide (a< (↑(Ac c):Int))then Aa (idx c a) fun(f:Ty.El zN)=>Aa (u6 (f,e,())) fun(g:Bool)=>bif g then Sa (Ad (Ad a))else Sa (Ae (Ab .i64 (a+(1:Int))))else Sa (Ad (Ae ()))) (0:Int)) fun(h:Unit)=>Sa (-1:Int)
def vF:ElS [(.sl zN),zD]->Option (RTy.El (.p tI)):=fun x=>match x with|(a,c,())=>Aa (vM (a,(c,()),())) fun(d:Int)=>Sa d
def jC:List (Ty.El zN)->ElA [.d zN]->Option (List (Ty.El zN)):=fun l x=>match x with|(a,())=>Aa (vF (l,a.1,())) fun k=>bif decide (k< (0:Int))then app (24:Nat) l [a]else Aa (idx l k) fun y=>Sa (l.set k.toNat (y.1,(bif decide (a.2.1<y.2.1)then a.2.1 else y.2.1),()))
def zDo:ElS [zH,(.sl (.sl zC))]->Option (RTy.El (.p .bool)):=fun x=>match x with|(k,e,())=>bif (↑(Ac e):Int) !=(↑(Ac k.1.1):Int)then Sa Sb else wB (zS (fun(c:Int)=>bif decide (c< (↑(Ac e):Int))then wB (Aa (idx e c) fun(f:List (Ty.El zC))=>bif decide ((↑(Ac f):Int)>(12:Int))then Sa (Ad (Ad (Ad Sb)))else zS (fun(d:Int)=>Aa (idx e c) fun(g:List (Ty.El zC))=>bif decide (d< (↑(Ac g):Int))then Aa (idx e c) fun(h:List (Ty.El zC))=>Aa (idx h d) fun(a:Ty.El zC)=>Aa (Aa (uE (a.1,())) fun(i:Bool)=>bif !i then Sa Sc else bif a.2.2.1 !=(3:Int)then bif a.2.2.1 !=(4:Int)then Sa Sc else bif decide (a.2.2.2.2.1< (0:Int))then Sa Sc else bif decide (a.2.2.2.2.1>(16777215:Int))then Sa Sc else bif decide (a.2.2.2.2.2.2.1< (0:Int))then Sa Sc else Sa (decide (a.2.2.2.2.2.2.1>(65535:Int)))else bif decide (a.2.2.2.2.1< (0:Int))then Sa Sc else bif decide (a.2.2.2.2.1>(16777215:Int))then Sa Sc else bif decide (a.2.2.2.2.2.2.1< (0:Int))then Sa Sc else Sa (decide (a.2.2.2.2.2.2.1>(65535:Int)))) fun(j:Bool)=>bif j then Sa (Ad (Ad (Ad (Ad Sb))))else Sa (Ae (Ab .i64 (d+(1:Int))))else Sa (Ad (Ae ()))) (0:Int)) fun(l:Unit)=>Sa (Ae (Ab .i64 (c+(1:Int))))else Sa (Ad (Ae ()))) (0:Int)) fun(m:Unit)=>Sa Sc
def HH:zTr:=fun n a r=>zC8 (n,a,r,())
def qC:ElS [(.pt qL),(.pt qN),tI,tI]->Option (RTy.El (.p (.sl zP))):=fun x=>match x with|(e,f,c,d,())=>Aa e fun s=>Aa f fun a=>bif decide (s.2.2.1=((a.1%16:Nat):Int))&&(decide ((0:Int)<=c)&&decide (c< (8:Int)))then Aa (HH s.2.2.1 a.2.2.2.1 c) fun h=>bif decide (d>=(↑(Ac h):Int))then Sa []else idx h d else Sd
def zV:ElS [(.pt qN),tI,tI]->Option (RTy.El (.p tI)):=fun x=>match x with|(f,d,e,())=>Aa (bif decide (d>=(8:Int))then Sa Sc else Sa (decide (e>=(8:Int)))) fun(g:Bool)=>bif g then Sa (-1:Int)else Aa f fun(a:Nat×Ty.El qN)=>Aa (idx [a.2.2.2.2.2.1.1,a.2.2.2.2.2.1.2.1,a.2.2.2.2.2.1.2.2.1,a.2.2.2.2.2.1.2.2.2.1,a.2.2.2.2.2.1.2.2.2.2.1,a.2.2.2.2.2.1.2.2.2.2.2.1,a.2.2.2.2.2.1.2.2.2.2.2.2.1,a.2.2.2.2.2.1.2.2.2.2.2.2.2.1] d) fun(c:Ty.El tI8)=>Aa (idx [c.1,c.2.1,c.2.2.1,c.2.2.2.1,c.2.2.2.2.1,c.2.2.2.2.2.1,c.2.2.2.2.2.2.1,c.2.2.2.2.2.2.2.1] e) fun(h:Int)=>Sa h
def jA:ElS [(.pt qL),(.pt qN),tI]->Option (RTy.El (.p (.sl zN))):=fun x=>match x with|(k,i,j,())=>Aa (Aa i fun(d:Nat×Ty.El qN)=>zS (fun(a:Int×List (Ty.El zN))=>bif decide (a.1< (↑(Ac d.2.2.1):Int))then Aa (Aa (idx d.2.2.1 a.1) fun(c:Ty.El zJS)=>Aa (zV (i,j,c.1,())) fun(e:Int)=>bif decide (e>=(0:Int))then Aa (jC a.2 ((c.2.1,Ab .i64 (e+c.2.2.1),()),())) fun(f:List (Ty.El zN))=>Sa f else Sa a.2) fun(g:List (Ty.El zN))=>Sa (Ae (Ab .i64 (a.1+(1:Int)),g))else Sa (Ad a.2)) ((0:Int),[])) fun(h:List (Ty.El zN))=>Sa h
def qO:ElS [(.pt qL),tI,zD]->Option (RTy.El (.p .bool)):=fun x=>match x with|(j,k,l,())=>wB (Aa j fun(f:Nat×Ty.El qL)=>Aa (idx f.2.1.1.1 k) fun(d:Ty.El zG)=>zS (fun(a:Int)=>bif decide (a< (↑(Ac d.2.2.1):Int))then Aa (idx d.2.2.1 a) fun(c:Ty.El zZ)=>Aa (bif c.2.2.1 !=(0:Int)then Aa (zBT (c.2.1,c.2.2.1,())) fun(e:Int×Int×Unit)=>bif e.1==l.1&&(e.2.1==l.2.1&&Sc)then Aa j fun(g:Nat×Ty.El qL)=>Aa (zGU (g.2.1,k,a,())) fun(h:Bool)=>Sa h else Sa Sb else Sa Sb) fun(i:Bool)=>bif i then Sa (Ad (Ad Sc))else Sa (Ae (Ab .i64 (a+(1:Int))))else Sa (Ad (Ae ()))) (0:Int)) fun(m:Unit)=>Sa Sb
def qF:ElS [(.pt qL),tI,tI,zN]->Option (RTy.El (.p zC)):=fun x=>match x with|(c,d,e,a,())=>Aa c fun(f:Nat×Ty.El qL)=>Aa (idx f.2.1.1.1 d) fun(g:Ty.El zG)=>Sa (a.1,(3:Int),e,g.2.2.2.2.2.2.2.2.1.2.1,a.2.1,(0:Int),(0:Int),(0:Int),[],(0:Int),(0:Int),[],Sb,())
def vO:ElS [(.pt qL),tI]->Option (RTy.El (.o zC)):=fun x=>match x with|(p,n,())=>Aa (Aa p fun(i:Nat×Ty.El qL)=>zS (fun(e:Int×List (Ty.El zC))=>bif decide (e.1< (↑(Ac i.2.2.2.1):Int))then Aa (Aa (idx i.2.2.2.1 e.1) fun(g:Ty.El (Ty.pt qN))=>Aa (jA (p,g,n,())) fun(j:List (Ty.El zN))=>zS (fun(c:Int×List (Ty.El zC))=>bif decide (c.1< (↑(Ac j):Int))then Aa (Aa (idx j c.1) fun(f:Ty.El zN)=>Aa (qO (p,n,f.1,())) fun(q:Bool)=>bif q then Sa c.2 else Aa (qF (p,n,(1:Int),f,())) fun(r:Ty.El zD×Int×Int×Int×Int×Int×Int×Int×List Int×Int×Int×List (Ty.El zP)×Bool×Unit)=>Aa (Aa g fun(k:Nat×Ty.El qN)=>zS (fun(a:Int×List (Ty.El zC)×Ty.El zC)=>bif decide (a.1< (↑(Ac k.2.2.1):Int))then Aa (Aa (idx k.2.2.1 a.1) fun(d:Ty.El zJS)=>Aa (zV (g,n,d.1,())) fun(l:Int)=>Aa (bif d.2.1.1==f.1.1&&(d.2.1.2.1==f.1.2.1&&Sc)then bif d.1 !=n then bif decide (l>=(0:Int))then Sa (Ab .i64 (l+d.2.2.1)==f.2.1,a.2.1)else Sa (Sb,a.2.1)else Sa (Sb,a.2.1)else Sa (Sb,a.2.1)) fun(h:Bool×List (Ty.El zC))=>bif h.1 then Aa (qC (p,g,n,d.1,())) fun(t:List (Ty.El zP))=>Aa (xK (a.2.2.2.2.2.2.2.2.2.2.2.2.2.1,t,())) fun(u:List (Ty.El zP))=>Sa (h.2,a.2.2.1,a.2.2.2.1,a.2.2.2.2.1,a.2.2.2.2.2.1,a.2.2.2.2.2.2.1,a.2.2.2.2.2.2.2.1,a.2.2.2.2.2.2.2.2.1,a.2.2.2.2.2.2.2.2.2.1,a.2.2.2.2.2.2.2.2.2.2.1,a.2.2.2.2.2.2.2.2.2.2.2.1,a.2.2.2.2.2.2.2.2.2.2.2.2.1,u,a.2.2.2.2.2.2.2.2.2.2.2.2.2.2)else Sa (h.2,a.2.2)) fun(y:List (Ty.El zC)×Ty.El zC)=>Sa (Ae (Ab .i64 (a.1+(1:Int)),y))else Sa (Ad a.2)) ((0:Int),c.2,r)) fun(m:List (Ty.El zC)×Ty.El zC)=>Aa (app (136:Nat) m.1 [m.2]) fun(z:List (Ty.El zC))=>Sa z) fun(A:List (Ty.El zC))=>Sa (Ae (Ab .i64 (c.1+(1:Int)),A))else Sa (Ad c.2)) ((0:Int),e.2)) fun(B:List (Ty.El zC))=>Sa (Ae (Ab .i64 (e.1+(1:Int)),B))else Sa (Ad e.2)) ((0:Int),[])) fun(C:List (Ty.El zC))=>Sa C
def w6:ElS [(.pt qL),tI]->Option (RTy.El (.p (.pt qN))):=fun x=>match x with|(f,g,())=>wB (Aa f fun(d:Nat×Ty.El qL)=>zS (fun(a:Int)=>bif decide (a< (↑(Ac d.2.2.2.1):Int))then Aa (idx d.2.2.2.1 a) fun(e:Ty.El (Ty.pt qN))=>Aa e fun(c:Nat×Ty.El qN)=>bif c.2.1==g then Sa (Ad (Ad e))else Sa (Ae (Ab .i64 (a+(1:Int))))else Sa (Ad (Ae ()))) (0:Int)) fun(h:Unit)=>Sa Sd
def vV:ElS [(.pt qL),tI,tI]->Option (RTy.El (.p .bool)):=fun x=>match x with|(c,d,f,())=>Aa (w6 (c,f,())) fun(e:Option (Nat×Ty.El qN))=>Aa (bif !Am e then Aa c fun(g:Nat×Ty.El qL)=>bif decide (d<g.2.2.1)then Aa e fun(a:Nat×Ty.El qN)=>Aa (idx [a.2.2.2.2.1.1,a.2.2.2.2.1.2.1,a.2.2.2.2.1.2.2.1,a.2.2.2.2.1.2.2.2.1,a.2.2.2.2.1.2.2.2.2.1,a.2.2.2.2.1.2.2.2.2.2.1,a.2.2.2.2.1.2.2.2.2.2.2.1,a.2.2.2.2.1.2.2.2.2.2.2.2.1] d) fun(h:Bool)=>Sa h else Sa Sb else Sa Sb) fun(i:Bool)=>Sa i
def jI:ElS [(.pt qL),tI]->Option (RTy.El (.p .bool)):=fun x=>match x with|(i,j,())=>Aa (vV (i,j,(0:Int),())) fun(k:Bool)=>bif !k then Sa Sb else wB (Aa i fun(d:Nat×Ty.El qL)=>zS (fun(c:Int)=>bif decide (c< (↑(Ac d.2.2.2.1):Int))then Aa (idx d.2.2.2.1 c) fun(e:Ty.El (Ty.pt qN))=>Aa (Aa e fun(f:Nat×Ty.El qN)=>bif f.2.1 !=(0:Int)then Aa e fun(a:Nat×Ty.El qN)=>Aa (idx [a.2.2.2.2.1.1,a.2.2.2.2.1.2.1,a.2.2.2.2.1.2.2.1,a.2.2.2.2.1.2.2.2.1,a.2.2.2.2.1.2.2.2.2.1,a.2.2.2.2.1.2.2.2.2.2.1,a.2.2.2.2.1.2.2.2.2.2.2.1,a.2.2.2.2.1.2.2.2.2.2.2.2.1] j) fun(g:Bool)=>Sa g else Sa Sb) fun(h:Bool)=>bif h then Sa (Ad (Ad Sc))else Sa (Ae (Ab .i64 (c+(1:Int))))else Sa (Ad (Ae ()))) (0:Int)) fun(l:Unit)=>Sa Sb
def wI:ElS [(.pt qL),tI,(.sl zC)]->Option (RTy.El (.o zC)):=fun x=>match x with|(g,h,u,())=>Aa (jI (g,h,())) fun(y:Bool)=>bif !y then Sa []else Aa (Aa g fun(k:Nat×Ty.El qL)=>Aa (idx k.2.1.1.1 h) fun(i:Ty.El zG)=>zS (fun(c:Int×List (Ty.El zC))=>bif decide (c.1< (↑(Ac i.2.2.2.2.2.2.2.2.1.2.2.1):Int))then Aa (Aa (idx i.2.2.2.2.2.2.2.2.1.2.2.1 c.1) fun(d:Ty.El vP)=>Aa (w6 (g,d.1,())) fun(j:Option (Nat×Ty.El qN))=>Aa (bif Am j then Sa (Sc,c.2)else Aa (qO (g,h,d.2.1,())) fun(l:Bool)=>Sa (l,c.2)) fun(e:Bool×List (Ty.El zC))=>bif e.1 then Sa e.2 else Aa (Aa (jA (g,j,h,())) fun(m:List (Ty.El zN))=>Aa (jM (m,(d,()),())) fun(n:Bool)=>bif n then Aa (wP (u,(d,()),())) fun(p:Bool)=>Sa (!p,e.2)else Sa (Sb,e.2)) fun(f:Bool×List (Ty.El zC))=>bif f.1 then Aa (qF (g,h,(1:Int),(d.2.1,(0:Int),()),())) fun(a:Ty.El zD×Int×Int×Int×Int×Int×Int×Int×List Int×Int×Int×List (Ty.El zP)×Bool×Unit)=>Aa (app (136:Nat) f.2 [(a.1,a.2.1,a.2.2.1,a.2.2.2.1,a.2.2.2.2.1,a.2.2.2.2.2.1,a.2.2.2.2.2.2.1,a.2.2.2.2.2.2.2.1,a.2.2.2.2.2.2.2.2.1,a.2.2.2.2.2.2.2.2.2.1,a.2.2.2.2.2.2.2.2.2.2.1,a.2.2.2.2.2.2.2.2.2.2.2.1,Sc,())]) fun(q:List (Ty.El zC))=>Sa q else Sa f.2) fun(r:List (Ty.El zC))=>Sa (Ae (Ab .i64 (c.1+(1:Int)),r))else Sa (Ad c.2)) ((0:Int),[])) fun(t:List (Ty.El zC))=>Sa t
def jX:ElS [(.pt qL),tI,tI,(.pt qN)]->Option (RTy.El (.p .bool)):=fun x=>match x with|(l,e,k,d,())=>Aa (Aa d fun(a:Nat×Ty.El qN)=>Aa (idx [a.2.2.2.2.1.1,a.2.2.2.2.1.2.1,a.2.2.2.2.1.2.2.1,a.2.2.2.2.1.2.2.2.1,a.2.2.2.2.1.2.2.2.2.1,a.2.2.2.2.1.2.2.2.2.2.1,a.2.2.2.2.1.2.2.2.2.2.2.1,a.2.2.2.2.1.2.2.2.2.2.2.2.1] e) fun(m:Bool)=>bif m then Aa d fun(c:Nat×Ty.El qN)=>Aa (idx [c.2.2.2.2.1.1,c.2.2.2.2.1.2.1,c.2.2.2.2.1.2.2.1,c.2.2.2.2.1.2.2.2.1,c.2.2.2.2.1.2.2.2.2.1,c.2.2.2.2.1.2.2.2.2.2.1,c.2.2.2.2.1.2.2.2.2.2.2.1,c.2.2.2.2.1.2.2.2.2.2.2.2.1] k) fun(f:Bool)=>bif f then Aa (zV (d,e,k,())) fun(g:Int)=>bif decide (g>=(0:Int))then Aa d fun(h:Nat×Ty.El qN)=>bif h.2.1==(0:Int)then Sa Sc else Aa (vV (l,e,(0:Int),())) fun(i:Bool)=>Sa !i else Sa Sb else Sa Sb else Sa Sb) fun(j:Bool)=>Sa j
def wJ:ElS [(.pt qL),(.pt qN),tI,zD]->Option (RTy.El (.tu [zD,.bool])):=fun x=>match x with|(i,j,k,l,())=>wB (Aa i fun(e:Nat×Ty.El qL)=>Aa (idx e.2.1.1.1 k) fun(d:Ty.El zG)=>zS (fun(a:Int×Ty.El zD)=>bif decide (a.1< (↑(Ac d.2.2.2.2.2.2.2.2.1.2.2.1):Int))then Aa (idx d.2.2.2.2.2.2.2.2.1.2.2.1 a.1) fun(c:Ty.El vP)=>Aa (Aa j fun(f:Nat×Ty.El qN)=>bif c.1==f.2.1 then Aa (zCS (c.2.1,l,())) fun(g:Bool)=>Sa g else Sa Sb) fun(h:Bool)=>bif h then Sa (Ad (Ad (c.2.1,Sc,())))else Sa (Ae (Ab .i64 (a.1+(1:Int)),a.2))else Sa (Ad (Ae a.2))) ((0:Int),(0:Int),(0:Int),())) fun(m:Ty.El zD)=>Sa (((0:Int),(0:Int),()),Sb,())
def wQ:ElS [(.pt qL),(.pt qN),tI]->Option (RTy.El (.p (.sl zN))):=fun x=>match x with|(m,n,q,())=>Aa (Aa (jA (m,n,q,())) fun(f:List (Ty.El zN))=>zS (fun(a:Int×List (Ty.El zN))=>bif decide (a.1< (↑(Ac f):Int))then Aa (Aa (idx f a.1) fun(d:Ty.El zN)=>Aa (wJ (m,n,q,d.1,())) fun(e:Ty.El zD×Bool×Unit)=>bif !e.2.1 then Aa (jC a.2 (d,())) fun(h:List (Ty.El zN))=>Sa h else Aa (vF (a.2,e.1,())) fun(c:Int)=>bif decide (c>=(0:Int))then Aa (idx a.2 c) fun(r:Ty.El zN)=>Aa (atN a.2 (Af c)) fun(g:Ty.El zN)=>Aa (idx a.2 c) fun(t:Ty.El zN)=>Aa (atN a.2 (Af c)) fun(i:Ty.El zN)=>Sa (Ai a.2 (Af c) (i.1,if d.2.1>g.2.1 then d.2.1 else g.2.1,()))else Aa (app (24:Nat) a.2 [(e.1,d.2)]) fun(j:List (Ty.El zN))=>Sa j) fun(k:List (Ty.El zN))=>Sa (Ae (Ab .i64 (a.1+(1:Int)),k))else Sa (Ad a.2)) ((0:Int),[])) fun(l:List (Ty.El zN))=>Sa l
def wV:ElS [(.pt qL),tI,zD]->Option (RTy.El (.p .bool)):=fun x=>match x with|(g,h,i,())=>wB (Aa g fun(c:Nat×Ty.El qL)=>zS (fun(a:Int)=>bif decide (a< (↑(Ac c.2.2.2.1):Int))then Aa (idx c.2.2.2.1 a) fun(d:Ty.El (Ty.pt qN))=>Aa (jA (g,d,h,())) fun(e:List (Ty.El zN))=>Aa (vF (e,i,())) fun(f:Int)=>bif decide (f>=(0:Int))then Sa (Ad (Ad Sc))else Sa (Ae (Ab .i64 (a+(1:Int))))else Sa (Ad (Ae ()))) (0:Int)) fun(j:Unit)=>Sa Sb
def vW:ElS [(.pt qL),tI,zC,tI,(.sl zP)]->Option (RTy.El (.tu [zC,.bool])):=fun x=>match x with|(c,d,a,e,h,())=>Aa (qO (c,d,a.1,())) fun(i:Bool)=>bif i then Sa ((((0:Int),(0:Int),()),(0:Int),(0:Int),(0:Int),(0:Int),(0:Int),(0:Int),(0:Int),[],(0:Int),(0:Int),[],Sb,()),Sb,())else Aa c fun(j:Nat×Ty.El qL)=>Aa (idx j.2.1.1.1 d) fun(f:Ty.El zG)=>Aa (uU (h,())) fun(g:List (Ty.El zP))=>wB (bif a.2.2.1==(3:Int)then Sa (Ae (a.1,(3:Int),a.2.2.1,f.2.2.2.2.2.2.2.2.1.2.1,Ab .i64 (a.2.2.2.2.1+e),(0:Int),a.2.2.2.2.2.2.1,(0:Int),[],(0:Int),(0:Int),g,Sb,()))else bif a.2.2.1==(4:Int)then Sa (Ae (a.1,(3:Int),a.2.2.1,f.2.2.2.2.2.2.2.2.1.2.1,a.2.2.2.2.1,e,a.2.2.2.2.2.2.1,(0:Int),[],(0:Int),(0:Int),g,Sb,()))else Sa (Ad ((((0:Int),(0:Int),()),(0:Int),(0:Int),(0:Int),(0:Int),(0:Int),(0:Int),(0:Int),[],(0:Int),(0:Int),[],Sb,()),Sb,()))) fun(k:Ty.El zC)=>Sa (k,Sc,())
def jR(qG:ElS [(.pt qL),tI]->Option (RTy.El (.o zC))):ElS [(.pt qL),tI,(.pt qN)]->Option (RTy.El (.p (.sl zN))):=fun x=>match x with|(n,q,E,())=>Aa (Aa n fun(j:Nat×Ty.El qL)=>zS (fun(d:Int×List (Ty.El zN))=>bif decide (d.1< (↑(Ac j.2.2.2.1):Int))then Aa (Aa (idx j.2.2.2.1 d.1) fun(h:Ty.El (Ty.pt qN))=>Aa (bif zRZ h E then Sa (Sc,d.2)else Aa h fun(c:Nat×Ty.El qN)=>Aa (idx [c.2.2.2.2.1.1,c.2.2.2.2.1.2.1,c.2.2.2.2.1.2.2.1,c.2.2.2.2.1.2.2.2.1,c.2.2.2.2.1.2.2.2.2.1,c.2.2.2.2.1.2.2.2.2.2.1,c.2.2.2.2.1.2.2.2.2.2.2.1,c.2.2.2.2.1.2.2.2.2.2.2.2.1] q) fun(r:Bool)=>Sa (!r,d.2)) fun(i:Bool×List (Ty.El zN))=>bif i.1 then Sa i.2 else Aa (wQ (n,h,q,())) fun(k:List (Ty.El zN))=>zS (fun(e:Int×List (Ty.El zN))=>bif decide (e.1< (↑(Ac k):Int))then Aa (idx k e.1) fun(t:Ty.El zN)=>Aa (jC e.2 (t,())) fun(u:List (Ty.El zN))=>Sa (Ae (Ab .i64 (e.1+(1:Int)),u))else Sa (Ad e.2)) ((0:Int),i.2)) fun(y:List (Ty.El zN))=>Sa (Ae (Ab .i64 (d.1+(1:Int)),y))else Sa (Ad d.2)) ((0:Int),[])) fun(l:List (Ty.El zN))=>Aa E fun(z:Nat×Ty.El qN)=>bif z.2.1==(0:Int)then Sa l else Aa (Aa (qG (n,q,())) fun(m:List (Ty.El zC))=>zS (fun(a:Int×List (Ty.El zC)×List (Ty.El zN))=>bif decide (a.1< (↑(Ac m):Int))then Aa (Aa (idx a.2.1 a.1) fun(F:Ty.El zC)=>Aa (atN a.2.1 (Af a.1)) fun(g:Ty.El zC)=>Aa (bif g.2.2.1==(2:Int)then Aa (wV (n,q,g.1,())) fun(A:Bool)=>Sa (!A,a.2.2,a.2.1)else Sa (Sb,a.2.2,a.2.1)) fun(f:Bool×List (Ty.El zN)×List (Ty.El zC))=>bif f.1 then Aa (jC f.2.1 ((g.1,g.2.2.2.2.1,()),())) fun(B:List (Ty.El zN))=>Sa (f.2.2,B)else Sa (f.2.2,f.2.1)) fun(C:List (Ty.El zC)×List (Ty.El zN))=>Sa (Ae (Ab .i64 (a.1+(1:Int)),C))else Sa (Ad a.2.2)) ((0:Int),m,l)) fun(D:List (Ty.El zN))=>Sa D
def wU(linkstate_areaSet_announced:ElS [(.pt qL),tI,(.pt qN)]->Option (RTy.El (.p (.sl zN)))):ElS [(.pt qL),tI]->Option (RTy.El (.p (.sl zC))):=fun x=>match x with|(i,l,())=>Aa (Aa i fun(m:Nat×Ty.El qL)=>zS (fun(a:Int×List (Ty.El zC))=>bif decide (a.1<m.2.2.1)then Aa (Aa (bif a.1==l then Sa (Sc,a.2)else Aa i fun(n:Nat×Ty.El qL)=>bif decide (l>=n.2.2.1)then Sa (Sc,a.2)else Aa (jI (i,a.1,())) fun(q:Bool)=>Sa (!q,a.2)) fun(g:Bool×List (Ty.El zC))=>bif g.1 then Sa g.2 else Aa i fun(j:Nat×Ty.El qL)=>zS (fun(d:Int×List (Ty.El zC))=>bif decide (d.1< (↑(Ac j.2.2.2.1):Int))then Aa (Aa (idx j.2.2.2.1 d.1) fun(f:Ty.El (Ty.pt qN))=>Aa (jX (i,l,a.1,f,())) fun(r:Bool)=>bif !r then Sa d.2 else Aa (linkstate_areaSet_announced (i,a.1,f,())) fun(k:List (Ty.El zN))=>zS (fun(e:Int×List (Ty.El zC))=>bif decide (e.1< (↑(Ac k):Int))then Aa (Aa (idx k e.1) fun(h:Ty.El zN)=>Aa (qO (i,l,h.1,())) fun(t:Bool)=>bif t then Sa e.2 else Aa (zV (f,l,a.1,())) fun(u:Int)=>Aa (qF (i,l,(2:Int),(h.1,Ab .i64 (h.2.1+u),()),())) fun(c:Ty.El zD×Int×Int×Int×Int×Int×Int×Int×List Int×Int×Int×List (Ty.El zP)×Bool×Unit)=>Aa (qC (i,f,l,a.1,())) fun(y:List (Ty.El zP))=>Aa (uU (y,())) fun(z:List (Ty.El zP))=>Aa (app (136:Nat) e.2 [(c.1,c.2.1,c.2.2.1,c.2.2.2.1,c.2.2.2.2.1,c.2.2.2.2.2.1,c.2.2.2.2.2.2.1,c.2.2.2.2.2.2.2.1,c.2.2.2.2.2.2.2.2.1,c.2.2.2.2.2.2.2.2.2.1,c.2.2.2.2.2.2.2.2.2.2.1,z,c.2.2.2.2.2.2.2.2.2.2.2.2)]) fun(A:List (Ty.El zC))=>Sa A) fun(B:List (Ty.El zC))=>Sa (Ae (Ab .i64 (e.1+(1:Int)),B))else Sa (Ad e.2)) ((0:Int),d.2)) fun(C:List (Ty.El zC))=>Sa (Ae (Ab .i64 (d.1+(1:Int)),C))else Sa (Ad d.2)) ((0:Int),g.2)) fun(D:List (Ty.El zC))=>Sa (Ae (Ab .i64 (a.1+(1:Int)),D))else Sa (Ad a.2)) ((0:Int),[])) fun(E:List (Ty.El zC))=>Sa E
def j7(linkstate_areaSet_inter:ElS [(.pt qL),tI]->Option (RTy.El (.p (.sl zC)))):ElS [(.pt qL),tI]->Option (RTy.El (.o zC)):=fun x=>match x with|(a,c,())=>Aa (vO (a,c,())) fun(d:List (Ty.El zC))=>Aa (wI (a,c,d,())) fun(e:List (Ty.El zC))=>bif RV.plain (RTy.res (RTy.o zC) e)then Aa (app (136:Nat) d e) fun(f:List (Ty.El zC))=>Aa (linkstate_areaSet_inter (a,c,())) fun(g:List (Ty.El zC))=>Aa (app (136:Nat) f g) fun(h:List (Ty.El zC))=>Aa (zCH (h,())) fun(i:List (Ty.El zC))=>Sa i else Sd
def j5:Nat->(ElS [(.pt qL),tI]->Option (RTy.El (.o zC)))|0=>fun _=>Sd|n+1=>j7 (wU (jR (j5 n)))
def qG:ElS [(.pt qL),tI]->Option (RTy.El (.o zC)):=j5 4
def wH(qM:ElS [(.pt qL),tI,tI]->Option (RTy.El (.tu [tI,(.sl zP),.bool]))):ElS [(.pt qL),tI,(.pt qN),tI]->Option (RTy.El (.p tI)):=fun x=>match x with|(r,h,i,j,())=>Aa (Aa r fun(d:Nat×Ty.El qL)=>zS (fun(a:Int×Int)=>bif decide (a.1< (↑(Ac d.2.2.2.1):Int))then Aa (Aa (idx d.2.2.2.1 a.1) fun(e:Ty.El (Ty.pt qN))=>Aa (zV (e,h,j,())) fun(c:Int)=>Aa (bif !zRZ e i then bif decide (c>=(0:Int))then bif decide (a.2< (0:Int))then Sa Sc else Sa (decide (c<a.2))else Sa Sb else Sa Sb) fun(k:Bool)=>bif k then Sa c else Sa a.2) fun(l:Int)=>Sa (Ae (Ab .i64 (a.1+(1:Int)),l))else Sa (Ad a.2)) ((0:Int),(-1:Int))) fun(f:Int)=>Aa (bif decide (f>=(0:Int))then Sa Sc else Aa i fun(m:Nat×Ty.El qN)=>bif m.2.1==(0:Int)then Sa Sc else Aa (zV (i,h,j,())) fun(n:Int)=>Sa (decide (n>=(0:Int)))) fun(q:Bool)=>bif q then Sa f else Aa (qM (r,h,j,())) fun(g:Int×List (Ty.El zP)×Bool×Unit)=>bif g.2.2.1 then Sa g.1 else Sa (-1:Int)
def jP(linkstate_areaSet_onward:ElS [(.pt qL),tI,(.pt qN),tI]->Option (RTy.El (.p tI))):Ty.El wD->ElA [.d (.pt qL),.d tI,.d tI]->Option (Ty.El wD×RTy.El (.tu [])):=fun u x=>match x with|(i,t,y,())=>Aa i fun(z:Nat×Ty.El qL)=>zS (fun(a:Int×Ty.El wD)=>bif decide (a.1<z.2.2.1)then Aa (Aa (bif a.1==t then Sa (Sc,a.2)else Aa (jI (i,a.1,())) fun(j:Bool)=>Sa (!j,a.2)) fun(f:Bool×Ty.El wD)=>bif f.1 then Sa f.2 else Aa i fun(g:Nat×Ty.El qL)=>zS (fun(c:Int×Ty.El wD)=>bif decide (c.1< (↑(Ac g.2.2.2.1):Int))then Aa (Aa (idx g.2.2.2.1 c.1) fun(e:Ty.El (Ty.pt qN))=>Aa (jX (i,t,a.1,e,())) fun(k:Bool)=>bif !k then Sa c.2 else Aa (linkstate_areaSet_onward (i,a.1,e,y,())) fun(h:Int)=>bif decide (h>=(0:Int))then Aa (zV (e,t,a.1,())) fun(l:Int)=>Aa (qC (i,e,t,a.1,())) fun(m:List (Ty.El zP))=>Aa (kI c.2 (Ab .i64 (l+h),m,())) fun(n:Ty.El wD×Unit)=>Sa n.1 else Sa c.2) fun(q:Ty.El wD)=>Sa (Ae (Ab .i64 (c.1+(1:Int)),q))else Sa (Ad c.2)) ((0:Int),f.2)) fun(r:Ty.El wD)=>Sa (Ae (Ab .i64 (a.1+(1:Int)),r))else Sa (Ad (a.2,()))) ((0:Int),u)
def wT(linkstate_areaSet_reachOver:Ty.El wD->ElA [.d (.pt qL),.d tI,.d tI]->Option (Ty.El wD×RTy.El (.tu []))):ElS [(.pt qL),tI,tI]->Option (RTy.El (.tu [tI,(.sl zP),.bool])):=fun x=>match x with|(f,g,h,())=>Aa (bif g==h then Sa Sc else Aa f fun(q:Nat×Ty.El qL)=>bif decide (g>=q.2.2.1)then Sa Sc else Aa f fun(r:Nat×Ty.El qL)=>Sa (decide (h>=r.2.2.1))) fun(t:Bool)=>bif t then Sa ((0:Int),[],Sb,())else Aa (Aa f fun(i:Nat×Ty.El qL)=>zS (fun(a:Int×Ty.El wD)=>bif decide (a.1< (↑(Ac i.2.2.2.1):Int))then Aa (Aa (idx i.2.2.2.1 a.1) fun(j:Ty.El (Ty.pt qN))=>Aa (zV (j,g,h,())) fun(k:Int)=>bif decide (k>=(0:Int))then Aa (qC (f,j,g,h,())) fun(l:List (Ty.El zP))=>Aa (kI a.2 (k,l,())) fun(m:Ty.El wD×Unit)=>Sa m.1 else Sa a.2) fun(n:Ty.El wD)=>Sa (Ae (Ab .i64 (a.1+(1:Int)),n))else Sa (Ad a.2)) ((0:Int),(-1:Int),[],())) fun(c:Ty.El wD)=>Aa (bif decide (c.1< (0:Int))then Aa (linkstate_areaSet_reachOver c (f,g,h,())) fun(p:Ty.El wD×Unit)=>Sa p.1 else Sa c) fun(e:Ty.El wD)=>bif decide (e.1< (0:Int))then Sa ((0:Int),[],Sb,())else Sa (e.1,e.2.1,Sc,())
def wR:Nat->(ElS [(.pt qL),tI,tI]->Option (RTy.El (.tu [tI,(.sl zP),.bool])))|0=>fun _=>Sd|n+1=>wT (jP (wH (wR n)))
def qM:ElS [(.pt qL),tI,tI]->Option (RTy.El (.tu [tI,(.sl zP),.bool])):=wR 4
def b8(f:Nat->Bool):Ty.El tB8:=(f 0,f 1,f 2,f 3,f 4,f 5,f 6,f 7,())
def i8(f:Nat->Int):Ty.El tI8:=(f 0,f 1,f 2,f 3,f 4,f 5,f 6,f 7,())
def i88(f:Nat->Nat->Int):Ty.El qHL:=(i8 (f 0),i8 (f 1),i8 (f 2),i8 (f 3),i8 (f 4),i8 (f 5),i8 (f 6),i8 (f 7),())
abbrev z8(v:Ty.El zH):List (Ty.El zG):=v.1.1
abbrev vZ(x:Ty.El zG):List (Ty.El zZ):=x.2.2.1
structure AR where
 num:Int
 parts:List (Int×Int×Int×Int)
 mem:Nat->Bool
def zPY(S:List AR)(num:Int):Option Nat:=S.findIdx? (fun a=>a.num==num)
abbrev wL(x:Ty.El zZ):Int:=x.2.2.2.2.2.2.1
abbrev qJ(x:Ty.El zZ):Int:=x.2.1
abbrev jW(x:Ty.El zZ):Int:=x.2.2.1
abbrev vQ(x:Ty.El zZ):Int:=x.2.2.2.2.2.2.2.1
def xF(S:List AR)(r:Nat)(num:Int)(c:Int×Int×Int×Int):List AR:=
 match zPY S num with
 |some j=>match S[j]? with
  |some a=>S.set j ⟨a.num,a.parts++[c],fun k=>if k=r then Sc else a.mem k⟩
  |none=>S
 |none=>S++[⟨num,[c],fun k=>if k=r then Sc else Sb⟩]
def wM(c:Nat->Bool)(a:Int->Int->Int×Int)(r:Nat)(S:List AR)(xs:List (Ty.El zZ)):Nat->List AR
 |0=>S
 |i+1=>match xs[i]? with
  |some x=>if c i then xF (wM c a r S xs i) r (wL x) ((r:Int),(a (qJ x) (jW x)).1,(a (qJ x) (jW x)).2,vQ x)else wM c a r S xs i
  |none=>wM c a r S xs i
def qV(c:Nat->Nat->Bool)(d:Int->Int->Int×Int)(a:List (List (Ty.El zZ))):Nat->List AR
 |0=>[]
 |r+1=>wM (c r) d r (qV c d a r) (a.getD r []) (a.getD r []).length
def zCB(S:List AR):List AR:=S.mergeSort fun a b=>decide (a.num<=b.num)
def zP6(v:Ty.El zH)(n:Nat):Option (List (List Bool)):=
 zCw (fun r=>zCw (fun i=>match(vZ ((z8 v).getD r default))[i]? with
  |some x=>wF (v,((r:Nat):Int),((i:Nat):Int),wL x,())
  |none=>Sd) (Ak (vZ ((z8 v).getD r default)).length)) (Ak n)
def zN5(a l:Int):Int×Int:=match zBT (a,l,())with
 |some p=>(p.1,p.2.1)
 |none=>(0,0)
def zTl(v:Ty.El zH)(n:Nat)(a:List (List Bool)):List AR:=zCB (qV (fun r i=>(a.getD r []).getD i Sb) zN5 ((z8 v).map vZ) n)
def zDF(v:Ty.El zH)(n:Nat)(a:AR):Option (Ty.El qN):=
 Aa (jD (v,a.num,())) fun c=>
 Aa (zCw (fun r=>if a.mem r=Sc then Aa (jH (((n:Nat):Int),c,((r:Nat):Int),())) (fun d:List Int=>if d.length=n then Sa d else Sd)else Sa []) (Ak n)) fun e=>
 Sa (a.num,a.parts.map (fun p=>((p.1,(p.2.1,p.2.2.1,()),p.2.2.2,()):Ty.El zJS)),c,b8 a.mem,i88 (fun r q=>if r<n/\a.mem r=Sc/\q<n then(e.getD r []).getD q 0 else-1),())
def zFf(v:Ty.El zH):Option (Nat×Ty.El qL):=
 let n:=(z8 v).length
 if n=0\/8<n then Sd else
 if(z8 v).any (fun r=>decide (8< (vZ r).length))then Sd else
 Aa (zP6 v n) fun c=>
 Aa (zCw (zDF v n) (zTl v n c)) fun d=>
 Sa (n,v,((n:Nat):Int),d.zipIdx.map (fun a=>Sa (16*(a.2+1)+n,a.1)),())
def uH:Bool->ElS [zH]->Option (Bool×RTy.El (.p (.pt qL))):=fun a x=>match a with
 |false=>(zFf x.1).map fun s=>(Sc,Sa s)
 |true=>Sd
def zA0:Bool->ElS [(.pt qL),tI,zC,tI,(.sl zP)]->Option (Bool×RTy.El (.tu [zC,.bool])):=onX vW
def j6:Bool->ElS [(.pt qL),tI]->Option (Bool×RTy.El (.o zC)):=onX qG
def wS:Bool->ElS [(.pt qL),tI,tI]->Option (Bool×RTy.El (.tu [tI,(.sl zP),.bool])):=onX qM
def zEO:Bool->ElS [zH,tI]->Option (Bool×RTy.El (.p (.sl zC))):=fun a x=>match x with|(e,c,())=>Aa (bif decide (c< (0:Int))then Sa (Sc,a)else Sa (decide (c>=(↑(Ac e.1.1):Int)),a)) fun(d:Bool×Bool)=>bif d.1 then Sa (d.2,[])else Aa (uH d.2 (e,())) fun(f:Bool×Option (Nat×Ty.El qL))=>Aa (j6 f.1 (f.2,c,())) fun(g:Bool×List (Ty.El zC))=>Sa (g.1,g.2)
def zCy:ElS [zH,tI]->Option (RTy.El (.p (.sl zC))):=zUl zEO
def zG9:Bool->ElS [zH,tI,tI]->Option (Bool×RTy.El (.tu [tI,(.sl zP),.bool])):=fun a x=>match x with|(d,e,f,())=>Aa (bif decide (e< (0:Int))then Sa (Sc,a)else bif decide (e>=(↑(Ac d.1.1):Int))then Sa (Sc,a)else bif decide (f< (0:Int))then Sa (Sc,a)else Sa (decide (f>=(↑(Ac d.1.1):Int)),a)) fun(g:Bool×Bool)=>bif g.1 then Sa (g.2,(0:Int),[],Sb,())else Aa (uH g.2 (d,())) fun(h:Bool×Option (Nat×Ty.El qL))=>Aa (wS h.1 (h.2,e,f,())) fun(c:Bool×Int×List (Ty.El zP)×Bool×Unit)=>Sa (c.1,c.2.1,c.2.2.1,c.2.2.2.1,())
def zFg:ElS [zH,tI,tI]->Option (RTy.El (.tu [tI,(.sl zP),.bool])):=zUl zG9
def zCx:Bool->ElS [zH,(.sl (.sl zC)),tI]->Option (Bool×RTy.El (.p (.sl zC))):=fun f x=>match x with|(j,k,g,())=>Aa (bif decide (g< (0:Int))then Sa (Sc,f)else Sa (decide (g>=(↑(Ac j.1.1):Int)),f)) fun(m:Bool×Bool)=>bif m.1 then Sa (m.2,[])else Aa (uH m.2 (j,())) fun(l:Bool×Option (Nat×Ty.El qL))=>Aa (j6 l.1 (l.2,g,())) fun(z:Bool×List (Ty.El zC))=>Aa (zS (fun(a:Int×List (Ty.El zC)×Bool)=>bif decide (a.1<if(↑(Ac j.1.1):Int)< (↑(Ac k):Int)then(↑(Ac j.1.1):Int)else(↑(Ac k):Int))then Aa (Aa (idx k a.1) fun(n:List (Ty.El zC))=>bif (↑(Ac n):Int)==(0:Int)then Sa a.2 else Aa (wS a.2.2 (l.2,g,a.1,())) fun(d:Bool×Int×List (Ty.El zP)×Bool×Unit)=>bif !d.2.2.2.1 then Sa (a.2.1,d.1)else Aa (idx k a.1) fun(h:List (Ty.El zC))=>zS (fun(c:Int×List (Ty.El zC)×Bool)=>bif decide (c.1< (↑(Ac h):Int))then Aa (Aa (idx h c.1) fun(q:Ty.El zC)=>Aa (zA0 c.2.2 (l.2,g,q,d.2.1,d.2.2.1,())) fun(e:Bool×Ty.El zC×Bool×Unit)=>bif e.2.2.1 then Aa (app (136:Nat) c.2.1 [e.2.1]) fun(r:List (Ty.El zC))=>Sa (r,e.1)else Sa (c.2.1,e.1)) fun(t:List (Ty.El zC)×Bool)=>Sa (Ae (Ab .i64 (c.1+(1:Int)),t))else Sa (Ad c.2)) ((0:Int),a.2.1,d.1)) fun(u:List (Ty.El zC)×Bool)=>Sa (Ae (Ab .i64 (a.1+(1:Int)),u))else Sa (Ad a.2)) ((0:Int),z.2,z.1)) fun(i:List (Ty.El zC)×Bool)=>Aa (zCH (i.1,())) fun(y:List (Ty.El zC))=>Sa (i.2,y)
def zBM:ElS [zH,(.sl (.sl zC)),tI]->Option (RTy.El (.p (.sl zC))):=zUl zCx
end
end Go.Ve
namespace Go.Ve
open Go Go.Proofs
def eA(e:Ty.El qD):Int:=e.1
def eB(e:Ty.El qD):Int:=e.2.1
def eC(e:Ty.El qD):Int:=e.2.2.1
def zIa(n:Int)(e:Ty.El qD):Bool:=(decide (0<=eA e)&&decide (eA e<n))&&((decide (0<=eB e)&&decide (eB e<n))&&(decide (1<=eC e)&&decide (eC e<=16777215)))
def zGC(e:Ty.El qD):Arc:=⟨(eA e).toNat,(eB e).toNat,(eC e).toNat⟩
def zI8(n:Nat)(es:List (Ty.El qD)):List Arc:=(es.filter (zIa n)).map zGC
variable {g:Nat}
theorem zER{e:Ty.El qD}(h:zIa g e=Sc):0<=eA e/\eA e< (g:Int)/\0<=eB e/\eB e< (g:Int)/\1<=eC e/\eC e<=16777215:=by simp_all[zIa]
theorem qBG{n:Nat}{es:List (Ty.El qD)}:∀e,e∈zI8 n es->e.a<n/\e.b<n:=by
 intro e c;obtain⟨x,d,rfl⟩:=aO.1 c;have:=zER (aV.1 d).2
 grind[zGC]
theorem qFg{n:Nat}{es:List (Ty.El qD)}:∀e,e∈zI8 n es->e.c<=16777215:=by
 intro e a;obtain⟨x,d,rfl⟩:=aO.1 a;have:=zER (aV.1 d).2
 grind[zGC]
theorem zLU:∀(l a:List Arc) (d:List Int),roundL (l++a) d=roundL a (roundL l d)
 |[],_,_=>rfl
 |e::r,a,d=>zLU r a (relax e d)
variable {C:Nat}
theorem qC8{es:List (Ty.El qD)}{x:Ty.El qD}(a:es[C]?=Sa x):zI8 g (es.take (C+1))=zI8 g (es.take C)++(if zIa g x=Sc then[zGC x]else[]):=by
 rw[bP,a];simp only[zI8,cd,dK,bu]
 grind
def Bnd(m:Nat)(d:List Int):Prop:= ∀t,t<d.length-> -1<=d.getD t 0/\d.getD t 0<=(m:Int)*16777215
theorem Bnd.relax{m:Nat}{d:List Int}{e:Arc}(g:e.c<=16777215)(ha:e.a<d.length)(h:Bnd m d):Bnd (m+1) (relax e d):=by
 intro t f;rw[zBI]at f;have i:=h t f;have j:=h e.a ha
 grind[zK9,Go.Ve.relax]
variable {i:List Int}
theorem Bnd.up(e:g<=C)(h:Bnd g i):Bnd C i:=fun t c=>by have:=h t c;omega
theorem zIQ(h:g<i.length):idx i (g:Int)=Sa (i.getD g 0):=by
 grind[zM]
theorem zI7(h:g<i.length):atN i g=Sa (i.getD g 0):=by
 grind[atN]
variable {j:Type}
theorem qBm{x:j}(h:C*g<=0x800000000000):zB5 g (C:Int) x=Sa (Ah C x):=by
 unfold zB5
 grind
theorem qDy{v:Int}(d:Nat)(hi:d<i.length):(i.set g v).getD d 0=if g=d then v else i.getD d 0:=zK9 i g d v hi
theorem zR2(l:List Arc)(d:List Int):(roundL l d).length=d.length:=(zGe l d).1
theorem zF5{ρ:Type}{n:Nat}{c:Int×j->Int}{γ:j}{a d:Int×j->Option ((Int×j) ⊕ ρ)}{Q:ρ->Prop}(y:n<0x4000000000000000)(J:Nat->j->Prop)(p:J 0 γ)(q:∀i g,J i g->c ((i:Int),g)=n)(step:∀i g,i<n->J i g->Wp (a ((i:Int),g)) (vB (fun o=>o.1=Ab .i64 ((i:Int)+(1:Int))/\J (i+1) o.2) Q))(t:∀g,J n g->Wp (d ((n:Int),g)) (vB (fun _=>False) Q)):
  Wp (zS (fun s:Int×j=>bif decide (s.1<c s)then a s else d s) ((0:Int),γ)) Q:=by
 refine uA (fun(s:Int×j)=>∃i:Nat,s.1=(i:Int)/\i<=n/\J i s.2) (fun(s:Int×j)=>((n:Int) -s.1).toNat) ⟨(0:Nat),rfl,aY _,p⟩ ?_;rintro⟨s,g⟩ ⟨i,k,u,l⟩;simp only at k;subst k;have e:=q i g l;refine zO ?_ ?_
 .intro f;simp only[e]at f;have hlt:i<n:=by omega
  refine(step i g hlt l).mono ?_;intro o m
  cases o with
  |inr r=>exact m
  |inl o=>obtain⟨z,A⟩:=o;obtain⟨h,x⟩:=m;simp only at h;rw[zI (by omega) (by omega)]at h;subst h;exact⟨⟨i+1,by simp,hlt,x⟩,by simp only;omega⟩
 grind
theorem zJV(n:Nat)(a:n<=64):zEc ((n:Int),())=Sa (n:Int):=by
 unfold zEc
 grind
theorem zJd(e:Ty.El qD)(n:Nat):yR ((n:Int),e,())=Sa (zIa n e):=by
 grind[ge_iff_le,yR,zIa,eA,eB,eC,decide]
theorem zQe{d:List Int}(l:List Arc)(f:∀e,e∈l->e.a=g)(x:g<d.length)(n:0<=d.getD g 0):
  (roundL l d).getD g 0=d.getD g 0/\(∀t,t<d.length->(roundL l d).getD t 0=d.getD t 0\/d.getD g 0<=(roundL l d).getD t 0)/\
  (∀t,t<d.length->0<=d.getD t 0->d.getD t 0<=d.getD g 0->(roundL l d).getD t 0=d.getD t 0):=by
 induction l generalizing d with
 |nil=>exact⟨rfl,fun _ _=>.inl rfl,fun _ _ _ _=>rfl⟩
 |cons e r h=>
  have p:=f e (by simp)
  have i:∀t,t<d.length->(relax e d).getD t 0=d.getD t 0\/(d.getD g 0<=(relax e d).getD t 0/\(0<=d.getD t 0->d.getD g 0<d.getD t 0)):=by
   intro t j;unfold relax;split
   .rename_i q;rw[zK9 d _ _ _ j]
    grind
   .exact .inl rfl
  have k:(relax e d).getD g 0=d.getD g 0:=by
   grind
  obtain⟨u,y,z⟩:=h (d:=relax e d) (fun m c=>f m (aw _ c)) (by rw[zBI];exact x) (by omega)
  grind[zBI,roundL,relax]
theorem Bnd.roundL{n:Nat}:∀(l:List Arc) {m:Nat} {d:List Int},(∀e,e∈l->e.c<=16777215/\e.a<n)->d.length=n->Bnd m d->Bnd (m+l.length) (roundL l d)
 |[],_,_,_,_,h=>h
 |e::r,m,d,f,g,h=>by obtain⟨i,j⟩:=f e (by simp);have:=Bnd.roundL r (m:=m+1) (d:=Go.Ve.relax e d) (fun x hx=>f x (aw _ hx)) ((zBI e d).trans g) (h.relax i (g▸j));rw[show m+(e::r).length=m+1+r.length by simp;omega];exact this
theorem qCy(b:List Bool)(i j:Nat)(v:Bool)(a:j<b.length):(b.set i v).getD j Sb=if i=j then v else b.getD j false:=by
 grind
structure Dij(E:List Arc)(n s L:Nat)(d:List Int)(b:List Bool):Prop where
 ld:d.length=n
 lb:b.length=n
 so:zQF E s d
 d0:d.getD s 0=0
 bd:Bnd (b.countP id*L) d
 pos:∀y,y<n->b.getD y Sb=Sc->0<=d.getD y 0
 cl:∀e,e∈E->b.getD e.a Sb=Sc->0<=d.getD e.b 0/\d.getD e.b 0<=d.getD e.a 0+e.c
 lo:∀y x,y<n->x<n->b.getD y Sb=Sc->b.getD x Sb=Sb->0<=d.getD x 0->d.getD y 0<=d.getD x 0
variable {l:List Bool}
theorem count_set(a:g<l.length)(h:l.getD g Sb=Sb):(l.set g Sc).countP id=l.countP id+1:=by
 grind
theorem Dij.step{E:List Arc}{n s:Nat}(hE:∀e,e∈E->e.a<n/\e.b<n)(K:∀e,e∈E->e.c<=16777215)(M:s<n)(N:E.length<=g)(h:Dij E n s g i l)(hx:C<n)(hb:l.getD C Sb=Sb)(A:0<=i.getD C 0)(Z:∀t,t<n->l.getD t Sb=Sb->0<=i.getD t 0->i.getD C 0<=i.getD t 0):
  Dij E n s g (roundL (E.filter fun e=>e.a==C) i) (l.set C Sc):=by
 have j:∀e,e∈E.filter (fun e=>e.a==C)->e∈E/\e.a=C:=fun e L=>by
  grind
 obtain⟨O,H,B⟩:=zQe (E.filter fun e=>e.a==C) (fun e L=>(j e L).2) (h.ld▸hx) A;have k:(roundL (E.filter fun e=>e.a==C) i).length=n:=(zR2 _ _).trans h.ld;have b:=zGe (E.filter fun e=>e.a==C) i;have x:=zPa (n:=n) (E.filter fun e=>e.a==C) i (fun e L=>hE e (j e L).1) h.ld;have q:=zNJ (n:=n) (E:=E) (s:=s) (E.filter fun e=>e.a==C) i (fun e L=>⟨(j e L).1,(hE e (j e L).1).1⟩) h.ld h.so;have r:=Bnd.roundL (n:=n) (E.filter fun e=>e.a==C) (fun e L=>⟨K e (j e L).1,(hE e (j e L).1).1⟩) h.ld h.bd;have P:(E.filter fun e=>e.a==C).length<=g:=ai (cF _ _) N;have I:∀e,e∈E->e.a=C->e∈E.filter (fun e=>e.a==C):=fun e L ha=>aV.2 ⟨L,by simpa using ha⟩;generalize roundL (E.filter fun e=>e.a==C) i=J at O H B k b x q r ⊢;have d:∀y,y<n->(l.set C Sc).getD y Sb=if C=y then Sc else l.getD y false:=fun y hy=>qCy l C y Sc (h.lb▸hy)
 have D:∀y,y<n->l.getD y Sb=Sc->J.getD y 0=i.getD y 0/\i.getD y 0<=i.getD C 0:=fun y hy f=>
  ⟨B y (h.ld▸hy) (h.pos y hy f) (h.lo y C hy hx f hb A),h.lo y C hy hx f hb A⟩
 refine⟨k,by rw[b6];exact h.lb,q,?_,?_,?_,?_,?_⟩
 .exact(B s (h.ld▸M) (by rw[h.d0];omega) (by rw[h.d0];exact A)).trans h.d0
 .rw[count_set (h.lb▸hx) hb];exact r.up (by grind)
 .intro y hy f;rw[d y hy]at f;by_cases m:C=y
  .grind
  .rw[if_neg m]at f;rw[(D y hy f).1];exact h.pos y hy f
 .intro e L p;obtain⟨ha,F⟩:=hE e L;rw[d _ ha]at p;by_cases m:C=e.a
  .grind
  .rw[if_neg m]at p;obtain⟨Q,c2⟩:=h.cl e L p;obtain⟨e1,e2⟩:=b.2 e.b (h.ld▸F) Q
   grind
 .intro y z hy hz f u S;rw[d y hy]at f;rw[d z hz]at u;have G:C≠z:=fun hh=>by grind
  rw[if_neg G]at u
  have W:i.getD C 0<=J.getD z 0:=by
   rcases H z (h.ld▸hz)with Y|Y;all_goals grind
  grind
def Sel(d:List Int)(b:List Bool)(i:Nat)(x:Int):Prop:=
 (x= -1/\∀t,t<i->b.getD t Sb=Sb->d.getD t 0<0)\/
 ∃X:Nat,x=(X:Int)/\X<i/\b.getD X Sb=Sb/\0<=d.getD X 0/\∀t,t<i->b.getD t Sb=Sb->0<=d.getD t 0->d.getD X 0<=d.getD t 0
theorem Sel.keep{x:Int}(h:Sel i l g x)(j:l.getD g Sb=Sb->0<=i.getD g 0->∃X:Nat,x=(X:Int)/\i.getD X 0<=i.getD g 0):Sel i l (g+1) x:=by
 rcases h with⟨a,c⟩|⟨X,a,c,e,f,k⟩
 .refine .inl ⟨a,fun t b hb=>?_⟩
  grind
 .refine .inr ⟨X,a,by omega,e,f,fun t b hb d=>?_⟩
  grind
theorem Sel.take{x:Int}(h:Sel i l g x)(hb:l.getD g Sb=Sb)(a:0<=i.getD g 0)(k:∀X:Nat,x=(X:Int)->i.getD g 0<=i.getD X 0):Sel i l (g+1) (g:Int):=by
 refine .inr ⟨g,rfl,by omega,hb,a,fun t d c e=>?_⟩;by_cases f:t=g
 .grind
 .rcases h with⟨b,j⟩|⟨X,b,j,m,n,p⟩
  all_goals grind
theorem qHX{xs:List j}(z:j)(h:g<xs.length):idx xs (g:Int)=Sa (xs.getD g z):=by
 grind[zM]
theorem qH4{xs:List j}(z:j)(h:g<xs.length):atN xs g=Sa (xs.getD g z):=by
 grind[atN]
theorem zMn(n:Nat)(es:List (Ty.El qD))(s:Nat)(hn:n<=64)(hl:es.length<=1048576)(hs:s<n):Wp (jH ((n:Int),es,(s:Int),())) (fun d=>Dst (zI8 n es) n s d):=by
 unfold jH;refine zB (zK (zJV n hn) ?_);refine zB (zK (qBm (by omega)) ?_);refine zB ?_;refine zF5 (n:=n) (c:=fun _=>((Ah n (0:Int)).length:Int)) (by omega) (fun i (g:List Int)=>g.length=n/\∀t,t<i->g.getD t 0= -1) ⟨dw,fun t u=>absurd u (dC _)⟩ (fun _ _ _=>by simp) ?_ ?_
 .rintro i g hi ⟨K,r⟩;have L:i<g.length:=by rw[K];exact hi
  refine zB (zK (zIQ L) ?_);refine zB (zK (show atN g (Af (i:Int))=_ from by rw[aF];exact zI7 L) ?_);refine zA (e2l ⟨rfl,?_⟩);simp only[aF];refine⟨by simp[K],fun t u=>?_⟩;rw[qDy t (by omega)]
  grind
 rintro g0 ⟨M,a0⟩;refine zA (e2r ?_);simp only;have ag:decide ((s:Int)< (0:Int))=false:=decide_eq_false (by omega);have al:decide ((s:Int)>=(n:Int))=false:=decide_eq_false (by omega);rw[ag];simp only[cond_false];rw[al,af];simp only[cond_false];refine zB (zK (zIQ (by omega)) ?_);refine zB (zK (show atN g0 (Af (s:Int))=_ from by rw[aF];exact zI7 (by omega)) ?_);refine zB (zK (qBm (by omega)) ?_);rw[aF];have hE:= @qBG n es;have hC:= @qFg n es
 have an:(zI8 n es).length<=es.length:=by
  grind[List.length_map,List.length_filter_le,zI8]
 have p:Dij (zI8 n es) n s es.length (g0.set s 0) (Ah n Sb):=by
  have vC:∀t,t<n->(g0.set s 0).getD t 0=if s=t then 0 else-1:=fun t u=>by
   grind
  have hb:∀y,(Ah n Sb).getD y Sb=false:=fun y=>by
   grind
  refine⟨by simp[M],by simp,fun t u=>?_,by grind,fun t u=>?_,fun y hy h=>?_,fun e he h=>?_,fun y x hy G h=>?_⟩
  .have u:t<n:=by grind
   rw[vC t u];by_cases h:s=t
   .subst h;rw[if_pos rfl];exact .inr ⟨0,[],rfl,.nil⟩
   omega
  all_goals grind
 generalize g0.set s 0=D0 at p;generalize Ah n Sb=B0 at p;refine uA (fun(g:List Int×List Bool)=>Dij (zI8 n es) n s es.length g.1 g.2) (fun g=>n-g.2.countP id) p ?_;rintro⟨d,b⟩ r;have r:Dij (zI8 n es) n s es.length d b:=r;have H:=r.ld;have a9:=r.lb;refine zB ?_;refine zF5 (n:=n) (c:=fun _=>(d.length:Int)) (by omega) (fun i (g:List Int×List Bool×Int×List Int)=>g.1=d/\g.2.1=b/\g.2.2.2=d/\Sel d b i g.2.2.1) ⟨rfl,rfl,rfl,.inl ⟨rfl,fun t u=>absurd u (dC _)⟩⟩ (fun _ _ _=>by rw[H]) ?_ ?_
 .rintro i ⟨d1,j,x,k⟩ hi ⟨N,O,P,f⟩;simp only at N O P f;subst N O P;have hid:i<k.length:=by omega
  have S:i<j.length:=by omega
  have l:∀{Q:Int×List Int×List Bool->Prop} (x':Int),Sel k j (i+1) x'->Wp (Sa (Ae (Ab .i64 ((i:Int)+(1:Int)),k,j,x',k)):Option ((Int×List Int×List Bool×Int×List Int) ⊕ (Int×List Int×List Bool)))
    (vB (fun o=>o.1=Ab .i64 ((i:Int)+(1:Int))/\(o.2.1=k/\o.2.2.1=j/\o.2.2.2.2=k/\Sel k j (i+1) o.2.2.2.1)) Q):=fun x' h=>zA (e2l ⟨rfl,rfl,rfl,rfl,h⟩)
  refine zB (zB (zK (zIQ hid) ?_));refine zB (zK (show atN k (Af (i:Int))=_ from by rw[aF];exact zI7 hid) ?_);refine zB (zB (zK (qHX Sb S) ?_));refine zB (zK (show atN j (Af (i:Int))=_ from by rw[aF];exact qH4 Sb S) ?_)
  cases W:j.getD i Sb with
  |true=>
   simp only[bH,cond_false];exact zA (zA (l x (f.keep (fun h=>by grind))))
  |false=>
   simp only[Bool.not_false,cond_true];refine zO (fun Y=>?_) (fun Y=>?_)
   .refine zO (fun G=>?_) (fun G=>?_)
    .refine zA ?_;simp only[cond_true];exact zA (l _ (f.take W Y (fun X hX=>by omega)))
    .obtain⟨X,hX,bb,I,Z,_⟩:∃X:Nat,x=(X:Int)/\X<i/\j.getD X Sb=Sb/\0<=k.getD X 0/\True:=by
      rcases f with⟨h1,_⟩|⟨X,h1,h2,h3,h4,_⟩
      all_goals grind
     subst hX;refine zB (zK (zIQ (show X<k.length by omega)) ?_);refine zB (zK (show atN k (Af (X:Int))=_ from by rw[aF];exact zI7 (by omega)) ?_);refine zA ?_;simp only;refine zO (fun hlt=>?_) (fun hlt=>?_)
     .refine zA (l _ (f.take W Y (fun X' be=>?_)))
      grind
     .refine zA (l _ (f.keep (fun _ _=>⟨X,rfl,by omega⟩)))
   .refine zA ?_;simp only[cond_false];exact zA (l x (f.keep (fun _ h=>absurd h Y)))
 .rintro⟨d1,j,x,k⟩ ⟨N,O,P,f⟩;simp only at N O P f;subst N O P;refine zA (e2r ?_);simp only;refine zO (fun G=>?_) (fun G=>?_)
  .refine zA (e2r ?_)
   have bk:∀t,t<n->j.getD t Sb=Sb->k.getD t 0<0:=by
    rcases f with⟨_,h⟩|⟨X,h,_⟩
    all_goals omega
   refine qAu (fun e he=>(hE e he).2) hs H r.so r.d0 (fun e he Y=>r.cl e he ?_)
   grind
  .obtain⟨X,hX,ao,I,Z,ap⟩:∃X:Nat,x=(X:Int)/\X<n/\j.getD X Sb=Sb/\0<=k.getD X 0/\∀t,t<n->j.getD t Sb=Sb->0<=k.getD t 0->k.getD X 0<=k.getD t 0:=by
    rcases f with⟨h1,_⟩|h;all_goals omega
   subst hX;refine zB (zK (qHX Sb (show X<j.length by omega)) ?_);refine zB (zK (show atN j (Af (X:Int))=_ from by rw[aF];exact qH4 Sb (by omega)) ?_);rw[aF];have ax:=count_set (show X<j.length by omega) I
   have bn:(j.set X Sc).countP id<=n:=by
    grind[List.countP_le_length,List.length_set,id]
   have zBZ:=r.step hE hC hs an ao I Z ap;refine zF5 (n:=es.length) (c:=fun _=>(es.length:Int)) (by omega) (fun i (g:List Int×List Bool)=>g.1=roundL ((zI8 n (es.take i)).filter fun e=>e.a==X) k/\g.2=j.set X Sc/\Bnd (j.countP id*es.length+i) g.1) ⟨by simp[zI8,roundL],rfl,by simpa using r.bd⟩ (fun _ _ _=>rfl) ?_ ?_
   .rintro i ⟨g,b2⟩ hi ⟨K,ab,z⟩;simp only at K ab z;subst ab;have G:es[i]?=Sa es[i]:=by simp
    generalize es[i]=x at G;have bo:g.length=n:=by rw[K,zR2,H]
    refine zB (zB (zK (zM G) ?_))
    have q:∀g',g'=(if zIa n x=Sc/\(zGC x).a=X then relax (zGC x) g else g)->Wp (Sa (Ae (Ab .i64 ((i:Int)+(1:Int)),g',j.set X Sc)):Option ((Int×List Int×List Bool) ⊕ ((List Int×List Bool) ⊕ List Int)))
      (vB (fun o=>o.1=Ab .i64 ((i:Int)+(1:Int))/\(o.2.1=roundL ((zI8 n (es.take (i+1))).filter fun e=>e.a==X) k/\o.2.2=j.set X Sc/\Bnd (j.countP id*es.length+(i+1)) o.2.1))
       (vB (fun s'=>Dij (zI8 n es) n s es.length s'.1 s'.2/\n-s'.2.countP id<n-j.countP id) (fun d=>Dst (zI8 n es) n s d))):=by
     rintro g' rfl;refine zA (e2l ⟨rfl,?_,rfl,?_⟩)
     .rw[qC8 G,dK,zLU,<-K];by_cases m:zIa n x=Sc
      .rw[if_pos m];by_cases ha:(zGC x).a=X;all_goals simp_all[roundL]
      simp_all[roundL]
     .by_cases m:zIa n x=Sc/\(zGC x).a=X
      .rw[if_pos m];have:=zER m.1;exact z.relax (by grind[zGC]) (by omega)
      .rw[if_neg m];exact z.up (by omega)
    refine zB (zB (zK (zJd x n) ?_))
    cases m:zIa n x with
    |false=>
     simp_all[zA]
    |true=>
     obtain⟨a1,a2,a3,a4,a5,a6⟩:=zER m;obtain⟨A,hA⟩:∃A:Nat,eA x=(A:Int):=⟨(eA x).toNat,(bi a1).symm⟩
     obtain⟨B,hB⟩:∃B:Nat,eB x=(B:Int):=⟨(eB x).toNat,(bi a3).symm⟩
     obtain⟨C,D⟩:∃C:Nat,eC x=(C:Int):=⟨(eC x).toNat,(bi (by omega)).symm⟩
     have ad:zGC x=⟨A,B,C⟩:=by simp[zGC,hA,hB,D]
     have E:B<g.length:=by omega
     have J:X<g.length:=by omega
     have bs:C<=16777215:=by omega
     have hA:x.1=(A:Int):=hA;have hB:x.2.1=(B:Int):=hB;have D:x.2.2.1=(C:Int):=D;rw[m,ad]at q;simp[hA,hB,D];refine zA ?_;simp only
     have av:((A:Int) !=(X:Int))=decide (A≠X):=by
      grind
     rw[av];refine zO (fun F=>?_) (fun F=>?_)
     .simp_all[zA]
     .have F:A=X:=Classical.not_not.1 F;subst F
      have b0:g.getD A 0=k.getD A 0:=by
       grind[zQe]
      have hw:Ab .i64 (g.getD A 0+(C:Int))=g.getD A 0+(C:Int):=by
       have h1:=z A J;have h2:j.countP id*es.length+i<=64*1048576+1048576:=by have:j.countP id*es.length<=64*1048576:=Nat.mul_le_mul (by omega) hl;omega
       grind[Int.mul_le_mul_of_nonneg_right,zI,id]
      have M:0<=g.getD A 0:=by omega
      refine zB (zK (zIQ J) ?_);refine zB (zK (zI7 J) ?_);refine zB (zB (zK (zIQ E) ?_));refine zB (zK (zI7 E) ?_)
      have ay:∀(hc:g.getD B 0<0\/g.getD A 0+C<g.getD B 0),Wp (Sa (Ae (Ab .i64 ((i:Int)+(1:Int)),g.set B (g.getD A 0+(C:Int)),j.set A Sc)):Option ((Int×List Int×List Bool) ⊕ ((List Int×List Bool) ⊕ List Int))) _:=fun hc=>q _ (by
       rw[if_pos ⟨rfl,rfl⟩]
       simp_all[relax])
      refine zO (fun h1=>?_) (fun h1=>?_)
      .refine zA ?_;simp_all[zK,zIQ,zI7]
      .refine zB (zK (zIQ E) ?_);refine zB (zK (zI7 E) ?_);rw[hw];refine zA ?_;simp only;refine zO (fun h2=>?_) (fun h2=>?_)
       .simp_all[zK,zIQ,zI7]
       .refine zA (q _ ?_);rw[if_pos ⟨rfl,rfl⟩];unfold relax
        grind
   grind[List.take_length,zA,e2r,e2l,zBZ]
noncomputable def zSv:ElS []->Option (RTy.El (.p .bool)):=fun _=>Sa Sc
noncomputable def zBN:ElS [zJ,(.sl tI),(.sl (.sl zC))]->Option (RTy.El (.p .bool)):=fun x=>match x with|(m,N,I,())=>Aa (zIO (m,N,())) fun(l:Ty.El zH×Bool×Unit)=>Aa (bif !l.2.1 then Sa Sc else Aa (zDo (l.1,I,())) fun(O:Bool)=>Sa !O) fun(P:Bool)=>bif P then Sa Sc else wB (zS (fun(a:Int)=>bif decide (a< (↑(Ac m.1):Int))then wB (Aa (zBM (l.1,I,a,())) fun(c:List (Ty.El zC))=>Aa (zG4 (c,(3:Int),())) fun(n:Bool)=>bif !n then Sa (Ad (Ad (Ad Sb)))else zS (fun(d:Int)=>bif decide (d< (↑(Ac c):Int))then wB (Aa (idx c d) fun(q:Ty.El zC)=>Aa (idx m.1 a) fun(r:Ty.El zG)=>bif q.2.2.2.1 !=r.2.2.2.2.2.2.2.2.1.2.1 then Sa (Ad (Ad (Ad (Ad (Ad Sb)))))else wB (zS (fun(f:Int)=>Aa (idx c d) fun(t:Ty.El zC)=>bif decide (f< (↑(Ac t.2.2.2.2.2.2.2.2.2.2.2.1):Int))then Aa (idx c d) fun(u:Ty.El zC)=>Aa (idx u.2.2.2.2.2.2.2.2.2.2.2.1 f) fun(g:Ty.El zP)=>Aa (zED (l.1,a,g.1,g.2.1,())) fun(h:Ty.El zR×Bool×Unit)=>Aa (bif !h.2.1 then Sa Sc else Aa (zGh (l.1,h.1,())) fun(y:ByteArray×Int×Int×Int×Bool×Bool×Int×Int×Bool×ByteArray×ByteArray×Int×Unit)=>bif !y.2.2.2.2.2.1 then Sa Sc else Aa (idx m.1 a) fun(z:Ty.El zG)=>Aa (idx z.2.2.1 g.1) fun(A:Ty.El zZ)=>Aa (zGh (l.1,h.1,())) fun(B:ByteArray×Int×Int×Int×Bool×Bool×Int×Int×Bool×ByteArray×ByteArray×Int×Unit)=>Sa (A.2.2.2.2.2.2.1 !=B.2.2.2.2.2.2.1)) fun(C:Bool)=>bif C then Sa (Ad (Ad (Ad (Ad (Ad (Ad (Ad Sb)))))))else Sa (Ae (Ab .i64 (f+(1:Int))))else Sa (Ad (Ae ()))) (0:Int)) fun(J:Unit)=>zS (fun(e:Int)=>Aa (idx m.1 a) fun(D:Ty.El zG)=>bif decide (e< (↑(Ac D.2.2.1):Int))then Aa (idx m.1 a) fun(E:Ty.El zG)=>Aa (idx E.2.2.1 e) fun(i:Ty.El zZ)=>Aa (Aa (zJ5 (l.1,a,e,())) fun(F:Bool)=>bif F then Aa (uF (i.2.1,i.2.2.1,())) fun(j:Int×Int×Unit)=>Aa (idx c d) fun(k:Ty.El zC)=>Sa (j.1==k.1.1&&(j.2.1==k.1.2.1&&Sc))else Sa Sb) fun(G:Bool)=>bif G then Sa (Ad (Ad (Ad (Ad (Ad (Ad Sb))))))else Sa (Ae (Ab .i64 (e+(1:Int))))else Sa (Ad (Ae ()))) (0:Int)) fun(K:Unit)=>Sa (Ae (Ab .i64 (d+(1:Int))))else Sa (Ad (Ae ()))) (0:Int)) fun(L:Unit)=>Sa (Ae (Ab .i64 (a+(1:Int))))else Sa (Ad (Ae ()))) (0:Int)) fun(M:Unit)=>Aa (zSv ()) fun(H:Bool)=>Sa H
noncomputable abbrev PS:Sig:=zR8 HH
theorem qBw{Γ:Sig}{f:FuncId}{dec:List V->Option j}{R:RTy}:jK Γ Ag G0 f (z6 (vT dec R (fun _:j=>(Sd:Option R.El)))):=by
 intro w F O s c h X r d k l e i a;simp only[z6,vT]at a
 cases g:dec h with
 |none=>rw[g]at a;cases a
 |some x=>rw[g]at a;cases a
end Go.Ve
namespace Go.Ve
noncomputable section
open Go Go.Proofs Go.Shelf Go.RowKit
theorem qD5(v0:Value)(n lim:Int)(w:World)(C:World->Prop)(h0:0<=n)(hn:n<=12)(hw:Ab .i64 n=n)
  (hcall:Calls Ag 133 #[v0,.int .i64 0,.int .i64 n] w fun e w'=>e=.returned (.tuple #[])/\C w'):
  Calls Ag 84 #[v0,.int .i64 0,.int .i64 n,.int .i64 lim] w fun e w'=>e=.returned (.tuple #[])/\C w':=by
 have hw0:Ab .i64 (n-0)=n:=by grind
 go_enter Tryz.func84,Tryz.ntmps84
 go_wp2
 refine wp_loop_rounds 1 ?_;rw[rounds_succ]
 go_wp2_with (go_at_call 133;refine hcall.mono ?_;rintro e w' ⟨rfl,hC⟩)
 (try simp only[Exit.inBlock,Exit.then])
 refine bodyPost_ret (results_none rfl _ _ _) rfl ?_;simp_all
def zI3:ElS [tI,tI]->Option (RTy.El (.p .bool)):=fun x=>match x with
 |(a,c,())=>
  Aa
   (Aa (zA6 (a,())) fun(d:Bool)=>
    bif d then Aa (zA6 (c,())) fun(e:Bool)=>bif !e then Sa Sc else Sa (decide (a<c))else Sa (decide (a<c)))
   fun(f:Bool)=>Sa f
def wC:List (Ty.El tI)->ElA [.d tI,.d tI]->Option (List (Ty.El tI)×RTy.El (.tu [])):=fun l x=>match x with
 |(m,B,())=>
  zS
   (fun(e:Int×List Int)=>
    bif decide (e.1<B)then
     Aa
      (zS
       (fun(a:Int×List Int)=>
        Aa
         (bif decide (a.1>m)then
          Aa (idx a.2 a.1) fun(n:Int)=>
           Aa (atN a.2 (Af a.1)) fun(g:Int)=>
            Aa (idx a.2 (Ab .i64 (a.1- (1:Int)))) fun(p:Int)=>
             Aa (atN a.2 (Af (Ab .i64 (a.1- (1:Int))))) fun(h:Int)=>
              Aa (zI3 (g,h,())) fun(i:Bool)=>Sa (i,a.2)
         else Sa (Sb,a.2))
         fun(c:Bool×List Int)=>
         bif c.1 then
          Aa (idx c.2 (Ab .i64 (a.1- (1:Int)))) fun(q:Int)=>
           Aa (atN c.2 (Af (Ab .i64 (a.1- (1:Int))))) fun(f:Int)=>
            Aa (idx c.2 a.1) fun(t:Int)=>
             Aa (atN c.2 (Af a.1)) fun(j:Int)=>
              Aa (idx c.2 a.1) fun(u:Int)=>
               Aa (atN c.2 (Af a.1)) fun(y:Int)=>
                Aa (idx (Ai c.2 (Af a.1) f) (Ab .i64 (a.1- (1:Int)))) fun(z:Int)=>
                 Aa (atN (Ai c.2 (Af a.1) f) (Af (Ab .i64 (a.1- (1:Int))))) fun(A:Int)=>
                  Sa
                   (Ae
                    (Ab .i64 (a.1- (1:Int)),
                     Ai (Ai c.2 (Af a.1) f) (Af (Ab .i64 (a.1- (1:Int)))) j))
         else Sa (Ad c.2))
       e)
      fun(k:List Int)=>Sa (Ae (Ab .i64 (e.1+(1:Int)),k))
    else Option.map (fun(r:List Int×Unit)=>Ad r) (bif Nat.beq (Ac e.2) (Ac l)then Sa (e.2,())else Sd))
   (Ab .i64 (m+(1:Int)),l)
theorem zQX:OkX 139 [tI,tI] (.p .bool) zI3:=fX [zJq] [jj 6 5726622976 [] [.t 4 .bool]]
def zC1:Nat->Option JA:=fun k=>match k with
 |18=>Sa ⟨0x1555555500000000,[],[.t 30 .bool,.o 0 1000000 tI]⟩
 |17=>Sa ⟨0x1555555555555555500004001,[],[.t 7 tI,.o 0 1000000 tI]⟩
 |8=>Sa ⟨0x1555555555555555540004001,[],[.o 0 1000000 tI]⟩
 |5=>Sa ⟨0x1555555555555555555505001,[],[.t 6 tI,.o 0 1000000 tI]⟩
 |27=>Sa ⟨0,[(229376,28,0)],[]⟩
 |_=>Sd
theorem zCu:zCU U Ag G0 133 tI (uM [.d tI,.d tI]) (.tu []) wC:=
 zBv (fn:=Tryz.f133) (c:=kX Tryz.f133) (S:=((zU.none U).add 139 (qQ [tI,tI] (.p .bool) zI3))) (A:=zC1) (vR jE (by kernel_rfl) zQX) (by kernel_rfl) (by kernel_rfl) (by kernel_rfl) (by grind) (by rintro⟨⟩ e ⟨f,g,⟨⟩⟩;kernel_rfl)
def pdq:List (Ty.El tI)->ElA [.d tI,.d tI,.d tI]->Option (List (Ty.El tI)×RTy.El (.tu [])):=fun c x=>match x with
 |(a,n,_,())=>if a=(0:Int)/\(0:Int)<=n/\n<=(12:Int)then wC c ((0:Int),n,())else Sd
theorem qG3{n:Int}(d:0<=n)(e:n<=12):Ab .i64 n=n:=by
 have a:((2:Int)^Aj .i64)=0x10000000000000000:=by decide
 have c:((2:Int)^(Aj .i64-1))=0x8000000000000000:=by decide
 simp only[Ab,Al,bV,decide_eq_true_eq,a,c];split<;>omega
theorem qHf:zCU U Ag G0 84 tI (uM [.d tI,.d tI,.d tI]) (.tu []) pdq:=by
 intro s C r x G y Y hg;obtain⟨a,n,j,⟨⟩⟩:=x;have k:(if a=(0:Int)/\(0:Int)<=n/\n<=(12:Int)then wC C ((0:Int),n,())else Sd)=Sa (G,y):=hg;split at k
 .rename_i H;obtain⟨rfl,Z,hn⟩:=H;refine .of (zKF _ r _ Y) ?_;have q:=zAJ.row (by rfl) (zCu s C [.val (.int .i64 0),.val (.int .i64 n)] ((0:Int),n,()) G y (by rfl) k);intro w F O b v0 t u hG hF z hb I J m;have f:=zAU [.d tI,.d tI,.d tI] r _ Y;have ab:r.length=3:=f.len;obtain⟨l⟩:=t;have hl:l.length=4:=by grind
  match l,hl with
  |[A,K,L,M],_=>
   have g0:A=v0:=by simpa using J
   have g1:K=.int .i64 0:=Rd.eq_val (f.get 0 (r[0]'(by omega)) (.val (.int .i64 0)) (by simp) rfl w F K (m 0 K _ rfl (by simp)));have g2:L=.int .i64 n:=Rd.eq_val (f.get 1 (r[1]'(by omega)) (.val (.int .i64 n)) (by simp) rfl w F L (m 1 L _ rfl (by simp)));have g3:M=.int .i64 j:=Rd.eq_val (f.get 2 (r[2]'(by omega)) (.val (.int .i64 j)) (by simp) rfl w F M (m 2 M _ rfl (by simp)));subst g0 g1 g2 g3
   have H:=q w F O b A #[A,.int .i64 0,.int .i64 n] u hG hF z hb rfl rfl (fun i x d B D=>by
    match i with
    |0=>simp at B D;subst B D;exact .val _
    |1=>simp at B D;subst B D;exact .val _
    |i+2=>simp at B)
   have hw:=qD5 A n j w (fun p=>∃(g:Blk->Prop) (h:Nat->Prop),U.R s g h p/\xI (fun c=>O c\/(C≠[]/\c=b)) w p/\(∀c,h c->O c\/w.heap.size<=c)/\zFY w.heap.size F g/\
    (∀c:Nat,g c->(F c\/w.heap.size<=c)/\c<p.heap.size/\¬h c)/\zCD w.heap.size p g h b A tI C G (.tuple #[]) (.tup [])) Z hn (qG3 Z hn) (by
     refine H.mono ?_;rintro e p ⟨v,g,h,rfl,N,P,Q,S,W,E⟩
     have hv:v=.tuple #[]:=by
      have h7:Rd p g v (.tup []):=(zCD.out (by intro hh;cases hh) E).2
      cases h7 with
      |tup cs _ hl _=>
       grind
     subst hv
     exact⟨rfl,g,h,N,P,Q,S,W,E⟩)
   refine hw.mono ?_;rintro e p ⟨rfl,g,h,N,P,Q,S,W,E⟩;exact⟨_,g,h,rfl,N,P,Q,S,W,E⟩
 .cases k
end
end Go.Ve
namespace Go.Ve
noncomputable section
open Go Go.Proofs
theorem qEC{P:Program}{G:Nat->Option (List V)}{f:FuncId}{ts:List Ty}{R:RTy}{g:U.St->ElS ts->Option (U.St×R.El)}(h:jK U P G f (z6 (zBX (zBB ts) R g))):
  jK U P G f (z6 (qQ ts R (fun x=>(g () x).map Prod.snd))):=by
 intro w F O s c j l r d m n e i a;refine h w F O s c j l r d m n e i ?_;simp[z6,qQ,vT,zBX]at a ⊢
 cases p:zBB ts j with
 |none=>grind
 |some x=>
  rw[p]at a
  cases k:g () x with
  |none=>grind
  |some y=>simp only[k,bt]at a;have q:g s x=Sa y:=k;simp only[q,bt];exact a
def zEy:ElS [(.int .u64)]->Option (RTy.El (.p tI)):=fun x=>(qDI (St:=U.St) (zO9 (Γ:=U) LF G0 (zG7 U) 300 14 85) [(.int .u64)] (.p tI) () x).map Prod.snd
theorem zPl:OkX 85 [(.int .u64)] (.p tI) zEy:=qEC (zUT ((zBl mixed (by kernel_rfl) zCp 388 349 300 14).ok 85) _ _)
def uP:List (Ty.El tI)->ElA [.d tI,.d tI,.d tI]->Option (List (Ty.El tI)×RTy.El (.tu [])):=pdq
theorem zE9:zCU U Ag G0 84 tI (uM [.d tI,.d tI,.d tI]) (.tu []) uP:=qHf
def zAY:List (Ty.El tI)->ElA []->Option (List (Ty.El tI)×RTy.El (.tu [])):=fun a x=>match x with
 |()=>
  Aa (zEy (Ab .u64 (↑(Ac a):Int),())) fun(d:Int)=>
   bif Nat.beq (Ac a) (Ac a)&&Nat.beq (Ac a) (Ac a)then
    Aa (uP a ((0:Int),(↑(Ac a):Int),d,())) fun(c:List Int×Unit)=>
     bif Nat.beq (Ac c.1) (Ac a)then Sa (c.1,())else Sd
   else Sd
def zOS:Nat->Option JA:=fun _=>Sd
theorem zMz:zCU U Ag G0 45 tI (uM []) (.tu []) zAY:=
 zBv (fn:=Tryz.f45) (c:=kX Tryz.f45) (S:=(((zU.none U).add 85 (qQ [(.int .u64)] (.p tI) zEy)).addB 84 (zAM tI (uM [.d tI,.d tI,.d tI]) (.tu []) uP))) (A:=zOS) (zAH (vR jE (by kernel_rfl) zPl) (by kernel_rfl) zE9) (by kernel_rfl) (by kernel_rfl) (by kernel_rfl) (by grind) (by rintro⟨⟩ e ⟨⟩;kernel_rfl)
def zOr:Ent:=qEY zMz
end
end Go.Ve
