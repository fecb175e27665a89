/- law16 -/
import Derived.Deep.DeepCutAuto
import Derived.Deep.CutBlock
import Derived.Deep.QuietTactic
import Derived.BigQuiet
import Derived.Test.YtgiopebfjmfmhaaGreatLp30
import Derived.Test.YtgiopebfjmfmhaaGreatLp31
import Derived.Test.YtgiopebfjmfmhaaGreatLp27
import Derived.Test.YtgiopebfjmfmhaaGreatLp23
set_option linter.unusedVariables false
open Option renaming some->Sa,none->Sb
open Go.Lib renaming hid->Aa
open Go.Value renaming int->Ab,slice->Ad
open Go.Proofs.Tryz renaming prog->Ac,ntmps106->Ah
open Go.IntKind renaming wrap->Ae
open Go.Obj renaming cells->Af
open And renaming intro->Ag
set_option maxRecDepth 1000000
set_option maxHeartbeats 0
namespace Go.Ve
open Go Go.Proofs Go.Shelf Go.RowKit
def zEU(ed:List (Ty.El qD))(us:Nat->Bool)(r:Int)(ds:Int->List Int)(i:Nat):Nat->List (Ty.El zQ)
 |0=>[]
 |k+1=>match ed[k]? with
  |some x=>if us k=true/\x.1=r/\(i:Int)≠r/\(0:Int)<=(ds x.2.1).getD i 0/\Ae .i64 (x.2.2.1+(ds x.2.1).getD i 0)=(ds r).getD i 0 then zEU ed us r ds i k++[x.2.2.2.1]else zEU ed us r ds i k
  |none=>zEU ed us r ds i k
theorem zWR(ed:List (Ty.El qD))(us:Nat->Bool)(r:Int)(ds:Int->List Int)(i:Nat):∀k,(zEU ed us r ds i k).length<=k
 |0=>ai _
 |k+1=>by
  have a:=zWR ed us r ds i k;simp only[zEU];split
  .split
   .rw[aN,bL];omega
   .omega
  .omega
def zKa(x:Ty.El qD):Array Value:= #[.int .i64 x.1,.int .i64 x.2.1,.int .i64 x.2.2.1,.int .i64 x.2.2.2.1.1,.int .u32 x.2.2.2.1.2.1]
variable {l I:Nat}{i:Value}
theorem zPI{P:Program}{t:TypeId}(h:(P.info? t).map (fun z=>(z.zero,z.size,z.bytes))=Sa (Sa i,l,I)):∃z,P.info? t=Sa z/\z.zero=Sa i/\z.size=l/\z.bytes=I:=by
 cases c:P.info? t with
 |none=>rw[c]at h;cases h
 |some z=>rw[c]at h;simp only[bv,ac,aI]at h;exact⟨z,rfl,h.1,h.2.1,h.2.2⟩
theorem qGI:(Tryz.prog.info? 40).map (fun i=>(i.zero,i.size,i.bytes))=Sa (Sa (.agg #[.int .i64 0,.int .u32 0]),2,16):=by kernel_rfl
theorem qGH:(Tryz.prog.info? 49).map (fun i=>(i.zero,i.size,i.bytes))=Sa (Sa (.slice Sb 0 0),1,24):=by kernel_rfl
variable {g C:World}
theorem zHL{a:Addr}(h:∀w,w<g.heap.size->C.heap[w]?=g.heap[w]?)(c:g.cell? a=Sa i):C.cell? a=Sa i:=by
 simp only[World.cell?]at c ⊢
 cases d:g.heap[a.block]? with
 |none=>rw[d]at c;cases c
 |some o=>rw[h _ (qR d)];exact c
variable {a3:List Int}{J:Nat}{a0:Nat->List (Ty.El zQ)}{a1:Nat->Value}
theorem zXc{W:World}{f:Nat}(R:zGv g C l I a1 a0)(st:jW C W)(w:0<I)(c:J<g.heap.size\/C.heap.size<=J)(j:∀q,q<I->W.cell? ⟨J,f+q,Sb⟩=Sa (.int .i64 (a3.getD q 0))):zOm W l I a1 J:=by
 obtain⟨wr,n,_,_⟩:=R.hO;have r:=qR n
 have hlt:J<W.heap.size:=by
  have:=j 0 w;simp only[World.cell?]at this
  cases h:W.heap[J]? with
  |none=>rw[h]at this;cases this
  |some o=>exact qR h
 refine⟨hlt,fun k=>?_,fun i p k=>?_⟩
 .subst k;rcases c with h|h
  .have:=R.nO;omega
  .omega
 .obtain⟨t,u,_⟩:=q9 (R.hr i p) k;rcases c with h|h
  .omega
  .omega
structure zGx(w wx:World)(ob nd:Nat)(hv:Nat->Value)(ls:Nat->List (Ty.El zQ))(db dof:Nat)(d:List Int):Prop where
 R:zGv w wx ob nd hv ls
 D:zOm wx ob nd hv db
 C:∀q,q<nd->wx.cell? ⟨db,dof+q,Sb⟩=Sa (.int .i64 (d.getD q 0))
theorem zGx.still{w f W:World}{ob nd:Nat}{g:Nat->Value}{ls:Nat->List (Ty.El zQ)}{e c:Nat}{d:List Int}(h:zGx w f ob nd g ls e c d)(st:jW f W):zGx w W ob nd g ls e c d:=
 ⟨h.R.still st,h.D.still st,fun q hq=>(World.cell?_of_block (a:=⟨e,c+q,Sb⟩) (st.heap e h.D.1)).trans (h.C q hq)⟩
theorem zGx.congr{a:Nat->List (Ty.El zQ)}{c:Nat}(h:zGx g C l I a1 a0 J c a3)(k:∀i,i<I->a0 i=a i):zGx g C l I a1 a J c a3:=
 ⟨⟨h.R.hO,fun i e=>by rw[<-k i e];exact h.R.hr i e,fun i e w=>h.R.hz i e (by rw[k i e];exact w),h.R.inj,h.R.nO,h.R.heap,h.R.size,h.R.os,h.R.tape,h.R.output,h.R.drawn⟩,h.D,h.C⟩
theorem qDN{ob h:Nat}{G k:Nat}(I:zGx g C ob h a1 a0 G k a3){E:Nat}(hi:E<h){l:List (Ty.El zQ)}(Y:a0 E=l)(H:a1 E=i){x:Ty.El zQ}{m:World}{c f:Nat}(J:m.ownsRow g.heap.size 40 2 (.slice (Sa ⟨c,0,Sb⟩) (l.length+1) f) (l.length+1) (kG l++kG [x]))(r:(C.alloc (.cells (kG [x]).toArray 40)).grownBy m i.ownBlock/\(C.alloc (.cells (kG [x]).toArray 40)).drawn<=m.drawn)(y:i.ownBlock=Sa c\/c=C.heap.size+1){z n:Nat}{P:List Int}(L:zOm C ob h a1 z)(Z:∀q,q<h->C.cell? ⟨z,n+q,Sb⟩=Sa (.int .i64 (P.getD q 0))){K:Nat}{e:Array Value}{t:TypeId}(F:C.heap[K]?=Sa (.cells e t (0,0)))(Q:t≠49/\t≠40):
  ∃A,zGx g (m.setCell ⟨ob,E,Sb⟩ (.slice (Sa ⟨c,0,Sb⟩) (l.length+1) f)) ob h A (fun j=>if j=E then l++[x]else a0 j) G k a3/\zOm (m.setCell ⟨ob,E,Sb⟩ (.slice (Sa ⟨c,0,Sb⟩) (l.length+1) f)) ob h A z/\
   (∀q,q<h->(m.setCell ⟨ob,E,Sb⟩ (.slice (Sa ⟨c,0,Sb⟩) (l.length+1) f)).cell? ⟨z,n+q,Sb⟩=Sa (.int .i64 (P.getD q 0)))/\(m.setCell ⟨ob,E,Sb⟩ (.slice (Sa ⟨c,0,Sb⟩) (l.length+1) f)).heap[K]?=Sa (.cells e t (0,0)):=by
 subst Y H;obtain⟨M,hR⟩:=I.R.app hi J r.1 r.2 y;have B:∀w,(Ad (Sa ⟨c,0,Sb⟩) ((a0 E).length+1) f).ownBlock=Sa w->(a1 E).ownBlock=Sa w\/C.heap.size<=w:=fun w hg=>by cases hg;exact y.imp id (fun N=>by rw[N];exact cW _)
 have S:=I.D.next (u:=.slice (Sa ⟨c,0,Sb⟩) ((a0 E).length+1) f) hi M B;have W:=L.next (u:=.slice (Sa ⟨c,0,Sb⟩) ((a0 E).length+1) f) hi M B;obtain⟨C0,z1,_,_⟩:=I.R.hO;refine⟨_,⟨hR,S.1,fun q O=>(World.cell?_of_block (a:=⟨G,k+q,Sb⟩) S.2).trans (I.C q O)⟩,W.1,fun q O=>(World.cell?_of_block (a:=⟨z,n+q,Sb⟩) W.2).trans (Z q O),(M.heap K (qR F) (zAd F z1 Q.1) (fun N=>?_)).trans F⟩;obtain⟨_,_,ab,hc⟩:=q9 (I.R.hr E hi) N;exact zAd F hc Q.2 rfl
variable {j:Blk->Prop}
theorem zY2{es:List V}(h:zB8 g j ⟨fun _=>l,fun _=>l⟩ (fun _=>True) i 0 2 es):∃a n c,i=.slice a n c:=by
 rcases h with⟨_,a,rfl⟩|⟨_,_,d,rfl,_⟩
 .exact⟨_,_,_,rfl⟩
 .exact⟨_,_,_,rfl⟩
theorem qBJ(w:World)(n r:Int)(nd:Nat)(hn0:0<nd)(hn1:nd<=64)(ed:List (Ty.El qD))(hel:ed.length<=1048576)(ea:Option Addr)(ec:Nat)
  (HE:Hid (ed≠[]->∃b o,ea=Sa ⟨b,o,Sb⟩/\∀k x,ed[k]?=Sa x->∀m,m<5->w.cell? ⟨b,o+k*5+m,Sb⟩=(zKa x)[m]?)) (us:Nat->Bool) (ds:Int->List Int)
  (HND:Hid (∀wr:World,Calls Ac 59 #[.int .i64 n] wr fun e w'=>e=.returned (.int .i64 nd)/\jW wr w'))
  (HUS:Hid (∀(wr:World) (k:Nat) (x:Ty.El qD),ed[k]?=Sa x->Calls Ac 60 #[.int .i64 nd,.agg (zKa x)] wr fun e w'=>e=.returned (.bool (us k))/\jW wr w'))
  (HDS:Hid (∀(wr:World) (r':Int),(r'=r\/∃k x,ed[k]?=Sa x/\us k=true/\x.1=r/\r'=x.2.1)->(∀i,i<w.heap.size->wr.heap[i]?=w.heap[i]?)->w.heap.size<=wr.heap.size->
   Calls Ac 26 #[.int .i64 nd,.slice ea ed.length ec,.int .i64 r'] wr fun e w'=>∃b off cap,e=.returned (.slice (Sa ⟨b,off,Sb⟩) nd cap)/\jW wr w'/\(b<w.heap.size\/wr.heap.size<=b)/\∀q,q<nd->w'.cell? ⟨b,off+q,Sb⟩=Sa (.int .i64 ((ds r').getD q 0))))
  (hs:List (List (Ty.El zQ))) (hsl:hs.length=nd) (HSO:Hid (∀i,i<nd->∃ys y,uA (zEU ed us r ds i ed.length) ((),())=Sa (ys,y)/\jB ys ()=Sa (hs.getD i []))):
  Calls Ac 170 #[.int .i64 n,.slice ea ed.length ec,.int .i64 r] w fun e w'=>∃v fr',e=.returned v/\jW w w'/\(∀b,fr' b->w.heap.size<=b/\b<w'.heap.size)/\Rd w' (fb fr') v (.tl (.sl zQ) hs):=by
 obtain⟨i40,hi1,hi2,hi3,hi4⟩:=zPI qGI;have I40:=Aa (Ag hi1 (Ag hi2 (Ag hi3 hi4)));clear hi1 hi2 hi3 hi4;have HN0:=Aa hn0;have HEL:=Aa hel
 go_enter Tryz.func170,Tryz.ntmps170
 go_upto_region 3 with(go_at_call 59;refine(HND.out _).mono ?_;rintro e W1 ⟨rfl,st1⟩;have ST1:=Aa st1;clear st1)
 obtain⟨i49,hi1,hi2,hi3,hi4⟩:=zPI qGH;have hmk:=run_makeSlice (w:=W1) 161 49 i49 (.slice Sb 0 0) Tryz.underlying161 hi1 hi2 .i64 .i64 (nd:Int) (nd:Int) (by omega) (cX _) (by rw[hi3];omega) (by rw[hi4];omega) (by omega);rw[hi3,dJ,aB]at hmk;rw[hmk];clear hmk
 go_upto_region 3 with fail
 have R0:Hid (∀W:World,W=W1.alloc (Af (madeCells #[Ad Sb 0 0] nd) 49)->zGv w W W1.heap.size nd (fun _=>.slice Sb 0 0) (fun _=>[])):=Aa (by
  rintro W rfl;have h1:=ST1.out.alloc (Af (madeCells #[Ad Sb 0 0] nd) 49);refine⟨⟨_,heap_alloc_new _ _,size_madeCells _ _,fun i hi=>?_⟩,fun i hi=>World.ownsRow_nil _ _ _ _,fun _ _ _=>rfl,fun i j g hi hj hg=>(by cases hg),ST1.out.size,h1.heap,h1.size,h1.os,h1.tape,h1.output,h1.drawn⟩;have h:=toList_madeCells_one (.slice Sb 0 0) nd;rw[<-bN,h]
  simp[hi])
 generalize W1.alloc (Af (madeCells #[Ad Sb 0 0] nd) 49)=W2 at R0 ⊢;have R1:=Aa (R0.out W2 rfl);clear R0;generalize W1.heap.size=ob at R1 ⊢;clear ST1 hi1 hi2 hi3 hi4
 go_upto_region 4 with(go_at_call 26;refine(HDS.out _ r (.inl rfl) R1.out.heap R1.out.size).mono ?_;rintro e W3 ⟨db,dof,dc,rfl,st,hdb,hdc⟩;have R2:=Aa (R1.out.still st);have D2:Hid (zOm W3 ob nd (fun _=>.slice Sb 0 0) db):=Aa (zXc R1.out st hn0 hdb hdc);have DC2:=Aa hdc;clear st hdb hdc)
 clear R1
 go_wp2_with fail
 have I0:Hid (zGx w W3 ob nd (fun _=>.slice Sb 0 0) (fun _=>[]) db dof (ds r)):=Aa ⟨R2.out,D2.out,DC2.out⟩;clear R2 D2 DC2
 go_loopg [25] ed.length (fun g s25 wx=>∃k:Nat,s25=.int .i64 k/\k<=ed.length/\ed.length-k<=g/\∃hv:Nat->Value,Hid (zGx w wx ob nd hv (fun i=>zEU ed us r ds i k) db dof (ds r)))
 case atStart=>exact⟨0,rfl,by omega,by omega,_,I0⟩
 case round=>
  obtain⟨k,rfl,hk,hg,hv,R⟩:=hrel;by_cases hlt:k<ed.length
  .have HLT:Hid (k+1<=ed.length):=Aa hlt;obtain⟨x,hx⟩:∃x,ed[k]?=Sa x:=⟨ed[k],ah hlt⟩
   obtain⟨eb,eo,rfl,hec⟩:=HE.out (fun hh=>by rw[hh]at hlt;simp at hlt);have hc:=hec k x hx;have d0:wr.cell? ⟨eb,eo+k*5,Sb⟩=Sa (.int .i64 x.1):=zHL R.out.R.heap (hc 0 (by omega));have d1:wr.cell? ⟨eb,eo+k*5+1,Sb⟩=Sa (.int .i64 x.2.1):=zHL R.out.R.heap (hc 1 (by omega));have d2:wr.cell? ⟨eb,eo+k*5+2,Sb⟩=Sa (.int .i64 x.2.2.1):=zHL R.out.R.heap (hc 2 (by omega));have d3:wr.cell? ⟨eb,eo+k*5+3,Sb⟩=Sa (.int .i64 x.2.2.2.1.1):=zHL R.out.R.heap (hc 3 (by omega));have d4:wr.cell? ⟨eb,eo+k*5+4,Sb⟩=Sa (.int .u32 x.2.2.2.1.2.1):=zHL R.out.R.heap (hc 4 (by omega));have HX:=Aa hx;clear hc hec hx;obtain⟨x1,x2,x3,⟨h1,h2,⟨⟩⟩,⟨⟩⟩:=x;simp only at d0 d1 d2 d3 d4
   go_upto_block 1 with fail
   go_cut [] (fun wx=>∃hv:Nat->Value,Hid (zGx w wx ob nd hv (fun i=>zEU ed us r ds i (k+1)) db dof (ds r)))
   case rest=>
    obtain⟨hv',R'⟩:=hcut
    go_wp2_with fail
    go_roundg (ed.length- (k+1))
    case measure=>(have:=HLT.out;omega)
    case rel=>exact⟨k+1,by go_num,HLT.out,by omega,hv',R'⟩
   case first=>
   go_upto_region 7 with fail
   have A1:Hid (∀W:World,W=wr.alloc (Af #[Ab .i64 x1,Ab .i64 x2,Ab .i64 x3,Ab .i64 h1,Ab .u32 h2] 42)->zGx w W ob nd hv (fun i=>zEU ed us r ds i k) db dof (ds r)/\W.heap[wr.heap.size]?=Sa (.cells #[Ab .i64 x1,Ab .i64 x2,Ab .i64 x3,Ab .i64 h1,Ab .u32 h2] 42 (0,0))):=Aa (by
    rintro W rfl
    exact⟨R.out.still ((jW.refl wr).alloc _),heap_alloc_new _ _⟩)
   generalize wr.alloc (Af #[Ab .i64 x1,Ab .i64 x2,Ab .i64 x3,Ab .i64 h1,Ab .u32 h2] 42)=W4 at A1 ⊢;obtain⟨q1,q2⟩:=A1.out W4 rfl;have R4:=Aa q1;have X4:=Aa q2;generalize wr.heap.size=K at X4 q2 ⊢;clear q1 A1 d0 d1 d2 d3 d4 R;have e0:W4.cell? ⟨K,0,Sb⟩=Sa (.int .i64 x1):=by rw[cell_of_row W4 K 0 _ _ _ q2];rfl
   have e1:W4.cell? ⟨K,1,Sb⟩=Sa (.int .i64 x2):=by rw[cell_of_row W4 K 1 _ _ _ q2];rfl
   have e2:W4.cell? ⟨K,2,Sb⟩=Sa (.int .i64 x3):=by rw[cell_of_row W4 K 2 _ _ _ q2];rfl
   have e3:W4.cell? ⟨K,3,Sb⟩=Sa (.int .i64 h1):=by rw[cell_of_row W4 K 3 _ _ _ q2];rfl
   have e4:W4.cell? ⟨K,4,Sb⟩=Sa (.int .u32 h2):=by rw[cell_of_row W4 K 4 _ _ _ q2];rfl
   clear q2;have HUK:Hid (∀wr:World,Calls Ac 60 #[.int .i64 nd,.agg #[Ab .i64 x1,Ab .i64 x2,Ab .i64 x3,Ab .i64 h1,Ab .u32 h2]] wr fun e w'=>e=.returned (.bool (us k))/\jW wr w'):=Aa (fun wr=>by have h:=HUS.out wr k _ HX.out;unfold zKa at h;exact h)
   cases hus:us k with
   |false=>
    rw[hus]at HUK;have HU:Hid (us k=false):=Aa hus;clear hus
    go_wp2_with (go_at_call 60;refine(HUK.out _).mono ?_;rintro e W5 ⟨rfl,st⟩;have R5:=Aa (R4.out.still st);clear st)
    go_meet;exact⟨hv,Aa (R5.out.congr (fun i hi=>by simp only[zEU,HX.out,HU.out];rfl))⟩
   |true=>
    rw[hus]at HUK;have HU:=Aa hus;clear hus;by_cases hfr:x1=r
    .subst hfr
     go_upto_region 9 with(first|(go_at_call 60;refine(HUK.out _).mono ?_;rintro e W5 ⟨rfl,st⟩;have R5:=Aa (R4.out.still st);have X5:=Aa ((st.heap K (qR X4.out)).trans X4.out);have f0:W5.cell? ⟨K,0,Sb⟩=Sa (.int .i64 x1):=(by rw[cell_of_row W5 K 0 _ _ _ X5.out];rfl);have f1:W5.cell? ⟨K,1,Sb⟩=Sa (.int .i64 x2):=(by rw[cell_of_row W5 K 1 _ _ _ X5.out];rfl);clear st)|(go_at_call 26;refine(HDS.out _ x2 (.inr ⟨k,_,HX.out,HU.out,rfl,rfl⟩) R5.out.R.heap R5.out.R.size).mono ?_;rintro e W6 ⟨lb,lof,lc,rfl,st,hlb,hlc⟩;have R6:=Aa (R5.out.still st);have X6:=Aa ((st.heap K (qR X5.out)).trans X5.out);have L6:Hid (zOm W6 ob nd hv lb):=Aa (zXc R5.out.R st HN0.out hlb hlc);have LC6:=Aa hlc;clear st hlb hlc))
     clear R5 X5 f0 f1
     go_wp2_with fail
     go_loopg [46] nd (fun g s46 wx=>∃i:Nat,s46=.int .i64 i/\i<=nd/\nd-i<=g/\∃hv:Nat->Value,Hid (zGx w wx ob nd hv (fun j=>zEU ed us x1 ds j (if j<i then k+1 else k)) db dof (ds x1))/\Hid (zOm wx ob nd hv lb)/\
      Hid (∀q,q<nd->wx.cell? ⟨lb,lof+q,Sb⟩=Sa (.int .i64 ((ds x2).getD q 0)))/\Hid (wx.heap[K]?=Sa (.cells #[Ab .i64 x1,Ab .i64 x2,Ab .i64 x3,Ab .i64 h1,Ab .u32 h2] 42 (0,0))))
     case atStart=>exact⟨0,rfl,by omega,by omega,hv,Aa (R6.out.congr (fun j hj=>by rw[if_neg (by omega)])),L6,LC6,X6⟩
     case round=>
      clear R6 L6 LC6 X6 e0 e1 e2 e3 e4 R4 X4;obtain⟨i,rfl,hi,hgi,hv1,R7,L7,LC7,X7⟩:=hrel;by_cases hlti:i<nd
      .have HLTI:=Aa hlti;have l0:=LC7.out i hlti;have d0:=R7.out.C i hlti;have f2:wr.cell? ⟨K,2,Sb⟩=Sa (.int .i64 x3):=by rw[cell_of_row wr K 2 _ _ _ X7.out];rfl
       have f3:wr.cell? ⟨K,3,Sb⟩=Sa (.int .i64 h1):=by rw[cell_of_row wr K 3 _ _ _ X7.out];rfl
       have f4:wr.cell? ⟨K,4,Sb⟩=Sa (.int .u32 h2):=by rw[cell_of_row wr K 4 _ _ _ X7.out];rfl
       obtain⟨o0,z0⟩:=R7.out.R.cell hlti
       have HNO:Hid (¬((i:Int)≠x1/\(0:Int)<=(ds x2).getD i 0/\Ae .i64 (x3+(ds x2).getD i 0)=(ds x1).getD i 0)->zGx w wr ob nd hv1 (fun j=>zEU ed us x1 ds j (if j<i+1 then k+1 else k)) db dof (ds x1)):=Aa (fun hno=>R7.out.congr (fun j hj=>by
        by_cases hji:j=i
        .subst hji;rw[if_neg (cA _),if_pos (c7 _)];simp only[zEU,HX.out];rw[if_neg (fun hh=>hno hh.2.2)]
        .by_cases hj2:j<i
         .rw[if_pos hj2,if_pos (by omega)]
         .rw[if_neg hj2,if_neg (by omega)]))
       have HYES:Hid ((i:Int)≠x1->(0:Int)<=(ds x2).getD i 0->Ae .i64 (x3+(ds x2).getD i 0)=(ds x1).getD i 0->zEU ed us x1 ds i (k+1)=zEU ed us x1 ds i k++[((h1,h2,()):Ty.El zQ)]):=Aa (fun y1 y2 y3=>by
        simp only[zEU,HX.out]
        rw[if_pos ⟨HU.out,trivial,y1,y2,y3⟩])
       generalize (ds x2).getD i 0=li at l0 HNO HYES;generalize (ds x1).getD i 0=di at d0 HNO HYES;by_cases c1:(i:Int)=x1
       .have c1':((i:Int) !=x1)=false:=by simp[c1]
        have R8:=Aa (HNO.out (fun hh=>hh.1 c1));clear c1 HNO HYES
        go_wp2_with fail
        go_quiet (fail)
        all_goals
         go_wp2_with fail
         go_roundg (nd- (i+1))
         case measure=>(have:=HLTI.out;omega)
         case rel=>exact⟨i+1,by go_num,HLTI.out,by omega,hv1,Aa (R8.out.still (jW.drawN _ _)),Aa (L7.out.still (jW.drawN _ _)),LC7,X7⟩
       have c1':((i:Int) !=x1)=true:=by simp[c1]
       have C1:=Aa c1;clear c1;by_cases c2:(0:Int)<=li
       .by_cases c3:Ae .i64 (x3+li)=di
        .have c3':(wrap64 (x3+li)==di)=true:=by have hh:wrap64 (x3+li)=di:=(IntWalk.i64_left (x3+li)).symm.trans c3;rw[hh];simp
         have HY:=Aa (HYES.out C1.out c2 c3);clear c3 HNO HYES
         go_wp2_with fail
         go_quiet (fail)
         go_upto_region 13 with fail
         have R8:=Aa (R7.out.still (jW.drawN wr nq));have L8:=Aa (L7.out.still (jW.drawN wr nq));have LC8:Hid (∀q,q<nd->(wr.drewN nq).cell? ⟨lb,lof+q,Sb⟩=Sa (.int .i64 ((ds x2).getD q 0))):=Aa LC7.out;have X8:Hid ((wr.drewN nq).heap[K]?=Sa (.cells #[Ab .i64 x1,Ab .i64 x2,Ab .i64 x3,Ab .i64 h1,Ab .u32 h2] 42 (0,0))):=Aa X7.out;have o1:(wr.drewN nq).cell? ⟨ob,i,Sb⟩=Sa (hv1 i):=o0;have z1:(wr.drewN nq).frozen? ⟨ob,i,Sb⟩=false:=z0;have g3:(wr.drewN nq).cell? ⟨K,3,Sb⟩=Sa (.int .i64 h1):=f3;have g4:(wr.drewN nq).cell? ⟨K,4,Sb⟩=Sa (.int .u32 h2):=f4;generalize wr.drewN nq=W7 at R8 L8 LC8 X8 o1 z1 g3 g4 ⊢;clear o0 z0 f2 f3 f4 l0 d0 R7 L7 LC7 X7 c1' c3';obtain⟨hvi,hhvi⟩:∃hvi,hv1 i=hvi:=⟨_,rfl⟩
         rw[hhvi]at o1;obtain⟨lsi,hlsi⟩:∃l,l=zEU ed us x1 ds i k:=⟨_,rfl⟩
         rw[<-hlsi]at HY;have HVI:=Aa hhvi;have HLS:=Aa hlsi;have HPL:Hid (lsi.length<=1048576):=Aa (by rw[hlsi];have:=zWR ed us x1 ds i k;have:=HLT.out;have:=HEL.out;omega)
         have FO:Hid (W7.ownsRow w.heap.size 40 2 hvi lsi.length (kG lsi)):=Aa (by
          have h:=R8.out.R.hr i HLTI.out;simp only[if_neg (cA i)]at h;rw[<-hlsi,hhvi]at h
          exact h)
         have FNO:Hid (hvi.ownBlock≠Sa ob/\ob<W7.heap.size):=Aa (by
          obtain⟨C0,zz,_,_⟩:=R8.out.R.hO;refine⟨fun hh=>?_,qR zz⟩;obtain⟨_,_,cur,hc⟩:=q9 FO.out hh
          exact zAd zz hc (by decide) rfl)
         clear hhvi hlsi
         have FIN:Hid (∀(w8:World) (g8 d8:Nat),w8.ownsRow w.heap.size 40 2 (.slice (Sa ⟨g8,0,Sb⟩) (lsi.length+1) d8) (lsi.length+1) (kG lsi++kG [((h1,h2,()):Ty.El zQ)])->(W7.alloc (.cells (kG [((h1,h2,()):Ty.El zQ)]).toArray 40)).grownBy w8 hvi.ownBlock/\(W7.alloc (.cells (kG [((h1,h2,()):Ty.El zQ)]).toArray 40)).drawn<=w8.drawn->(hvi.ownBlock=Sa g8\/g8=W7.heap.size+1)->
           ∃hv2,Hid (zGx w (w8.setCell ⟨ob,i,Sb⟩ (.slice (Sa ⟨g8,0,Sb⟩) (lsi.length+1) d8)) ob nd hv2 (fun j=>zEU ed us x1 ds j (if j<i+1 then k+1 else k)) db dof (ds x1))/\Hid (zOm (w8.setCell ⟨ob,i,Sb⟩ (.slice (Sa ⟨g8,0,Sb⟩) (lsi.length+1) d8)) ob nd hv2 lb)/\
            Hid (∀q,q<nd->(w8.setCell ⟨ob,i,Sb⟩ (.slice (Sa ⟨g8,0,Sb⟩) (lsi.length+1) d8)).cell? ⟨lb,lof+q,Sb⟩=Sa (.int .i64 ((ds x2).getD q 0)))/\Hid ((w8.setCell ⟨ob,i,Sb⟩ (.slice (Sa ⟨g8,0,Sb⟩) (lsi.length+1) d8)).heap[K]?=Sa (.cells #[Ab .i64 x1,Ab .i64 x2,Ab .i64 x3,Ab .i64 h1,Ab .u32 h2] 42 (0,0)))):=Aa (by
          intro w8 g8 d8 a1 a2 a3;obtain⟨hv2,b1,b2,b3,b4⟩:=qDN R8.out HLTI.out (l:=lsi) (by simp only[if_neg (cA i)];exact HLS.out.symm) HVI.out a1 a2 a3 L8.out LC8.out X8.out (by decide);refine⟨hv2,Aa (b1.congr (fun j hj=>?_)),Aa b2,Aa b3,Aa b4⟩;by_cases hji:j=i
          .subst hji;simp only[if_true,if_pos (c7 _)];exact HY.out.symm
          .simp only[if_neg hji];by_cases hj2:j<i
           .rw[if_pos hj2,if_pos (by omega)]
           .rw[if_neg hj2,if_neg (by omega)])
         have o2:(W7.alloc (Af #[Ab .i64 h1,Ab .u32 h2] 40)).cell? ⟨ob,i,Sb⟩=Sa hvi:=(World.cell?_of_block (a:=⟨ob,i,Sb⟩) (((jW.refl W7).alloc _).heap ob FNO.out.2)).trans o1;have z2:(W7.alloc (Af #[Ab .i64 h1,Ab .u32 h2] 40)).frozen? ⟨ob,i,Sb⟩=false:=(World.frozen?_of_block (a:=⟨ob,i,Sb⟩) (((jW.refl W7).alloc _).heap ob FNO.out.2)).trans z1
         go_region_law (refine Bd.step_append_d (by rfl) _ _ _ (by rfl) w.heap.size 40 i40 (.agg #[.int .i64 0,.int .u32 0]) 2 16 Tryz.underlying49 I40.out.1 I40.out.2.1 I40.out.2.2.1 I40.out.2.2.2 rfl (by decide) hvi lsi.length (kG lsi) (by rfl) (by exact FO.out.alloc _) ⟨W7.heap.size,0,Sb⟩ 1 1 (kG [((h1,h2,()):Ty.El zQ)]) (by rfl) (by rfl) (World.news_of_block (cs:=(kG [((h1,h2,()):Ty.El zQ)]).toArray) (t:=40) (fr:=(0,0)) (heap_alloc_new W7 _)) (by simp[kG,Value.oneCell']) (by decide) (by have:=HPL.out;unfold maxLen;omega) (by have:=HPL.out;omega) (by have:=R8.out.R.size;show _<=(W7.heap.push _).size;rw[ca];omega) (W7.heap.size+1) (by simp) ?_;intro g8 d8 w8 hown8 hgd8 hat8 hlt8;have G8:=Aa (Ag hown8 (Ag hgd8 (Ag hat8 hlt8)));have e8:w8.cell? ⟨ob,i,Sb⟩=Sa hvi:=(World.cell?_of_block (a:=⟨ob,i,Sb⟩) (hgd8.1.block ob (by have:=FNO.out.2;show ob< (W7.heap.push _).size;rw[ca];omega) (fun hh=>FNO.out.1 hh.symm))).trans ((World.cell?_of_block (a:=⟨ob,i,Sb⟩) (((jW.refl W7).alloc _).heap ob FNO.out.2)).trans o1);have y8':w8.frozen? ⟨ob,i,Sb⟩=false:=(World.frozen?_of_block (a:=⟨ob,i,Sb⟩) (hgd8.1.block ob (by have:=FNO.out.2;show ob< (W7.heap.push _).size;rw[ca];omega) (fun hh=>FNO.out.1 hh.symm))).trans ((World.frozen?_of_block (a:=⟨ob,i,Sb⟩) (((jW.refl W7).alloc _).heap ob FNO.out.2)).trans z1);clear hown8 hgd8 hat8 hlt8)
         all_goals
          have hd9:Hid (W7.drawn<=w8.drawn):=Aa (by
           have h:=G8.out.2.1.2
           first
            |exact h
            |exact aj (dA W7.drawn 1) h
            |exact aj (dA W7.drawn 2) h
            |exact aj (dA W7.drawn 3) h
            |exact aj (dA W7.drawn 4) h)
          obtain⟨hv2,b1,b2,b3,b4⟩:=FIN.out w8 g8 d8 G8.out.1 ⟨⟨G8.out.2.1.1.os,G8.out.2.1.1.tape,G8.out.2.1.1.output,G8.out.2.1.1.size,G8.out.2.1.1.block⟩,hd9.out⟩ G8.out.2.2.1
          go_wp2_with fail
          go_roundg (nd- (i+1))
          case measure=>(have:=HLTI.out;omega)
          case rel=>exact⟨i+1,by go_num,HLTI.out,by omega,hv2,b1,b2,b3,b4⟩
        .have c3':(wrap64 (x3+li)==di)=false:=by have hh:¬wrap64 (x3+li)=di:=fun hw=>c3 ((IntWalk.i64_left (x3+li)).trans hw);simp[hh]
         have R8:=Aa (HNO.out (fun hh=>c3 hh.2.2));clear c3 HNO HYES
         go_wp2_with fail
         go_quiet (fail)
         all_goals
          go_wp2_with fail
          go_roundg (nd- (i+1))
          case measure=>(have:=HLTI.out;omega)
          case rel=>exact⟨i+1,by go_num,HLTI.out,by omega,hv1,Aa (R8.out.still (jW.drawN _ _)),Aa (L7.out.still (jW.drawN _ _)),LC7,X7⟩
       .have c2':decide ((0:Int)<=li)=false:=by simp[c2]
        have R8:=Aa (HNO.out (fun hh=>c2 hh.2.1));clear c2 HNO HYES
        go_wp2_with fail
        go_quiet (fail)
        all_goals
         go_wp2_with fail
         go_roundg (nd- (i+1))
         case measure=>(have:=HLTI.out;omega)
         case rel=>exact⟨i+1,by go_num,HLTI.out,by omega,hv1,Aa (R8.out.still (jW.drawN _ _)),Aa (L7.out.still (jW.drawN _ _)),LC7,X7⟩
      .have hin:i=nd:=by omega
       subst hin
       go_wp2_with fail
       go_meet;exact⟨hv1,Aa (R7.out.congr (fun j hj=>by rw[if_pos hj]))⟩
    .have hne:(x1 !=r)=true:=by simp[hfr]
     have HFR:Hid (¬x1=r):=Aa hfr;clear hfr
     go_wp2_with (go_at_call 60;refine(HUK.out _).mono ?_;rintro e W5 ⟨rfl,st⟩;have R5:=Aa (R4.out.still st);have X5:=Aa ((st.heap K (qR X4.out)).trans X4.out);have f0:W5.cell? ⟨K,0,Sb⟩=Sa (.int .i64 x1):=(by rw[cell_of_row W5 K 0 _ _ _ X5.out];rfl);clear st)
     go_meet;exact⟨hv,Aa (R5.out.congr (fun i hi=>by simp only[zEU,HX.out];rw[if_neg (fun hh=>HFR.out hh.2.1)]))⟩
  .have hke:k=ed.length:=by omega
   subst hke;have S0:Hid (zCJ w wr ob nd hv (fun i=>(hv i).ownBlock.getD 0) (fun i=>zEU ed us r ds i ed.length)):=Aa (zCJ.of R.out.R);clear R I0 HE
   go_wp2_with fail
   go_loopg [84] nd (fun g s84 wx=>∃i:Nat,s84=.int .i64 i/\i<=nd/\nd-i<=g/\∃(hv:Nat->Value) (bk:Nat->Nat),Hid (zCJ w wx ob nd hv bk (fun j=>if j<i then hs.getD j []else zEU ed us r ds j ed.length)))
   case atStart=>exact⟨0,rfl,by omega,by omega,hv,_,Aa (S0.out.congr (fun j hj=>by rw[if_neg (by omega)]))⟩
   case round=>
    obtain⟨i,rfl,hi,hgi,hv1,bk1,R1⟩:=hrel;by_cases hlti:i<nd
    .have HLTI:=Aa hlti;obtain⟨ys,y,hso,hco⟩:=HSO.out i hlti;have HS1:=Aa hso;have HC1:=Aa hco;clear hso hco;obtain⟨o0,z0⟩:=R1.out.cell hlti;have hrow:=R1.out.hr i hlti;have hrb:=R1.out.hb i hlti;simp only[if_neg (cA i)]at hrow hrb;have HROW:=Aa hrow;have HRB:=Aa hrb;clear hrow hrb
     go_upto_region 20 with(go_at_call 176;refine(qBf HS1.out HROW.out (fun h=>(HRB.out h).2.1)).mono ?_;rintro e W2 ⟨⟨u2,rfl⟩,hk2,ho2⟩;have R2:Hid (zCJ w W2 ob nd hv1 bk1 (fun j=>if j=i then ys else if j<i then hs.getD j []else zEU ed us r ds j ed.length)):=Aa (R1.out.sort HLTI.out (by simp only[if_neg (cA i)];exact hk2) ho2);clear hk2 ho2)
     clear o0 z0 HROW HRB;obtain⟨o2,z2⟩:=R2.out.cell hlti;have hrow:=R2.out.hr i hlti;have hrb:=R2.out.hb i hlti;simp only[if_true]at hrow hrb;have HROW:=Aa hrow;have HRB:=Aa hrb;clear hrow hrb
     have FIN:Hid (∀(W3:World) (u:Value) (b':Nat),xC (fun c=>ys≠[]/\c=bk1 i) W2 W3->((b'=bk1 i/\(ys=[]->hs.getD i []=[]))\/(W2.heap.size<=b'/\b'<W3.heap.size))->zB8 W3 (fun _=>False) ⟨fun _=>b',fun _=>b'⟩ (fun _=>True) u 0 2 ((hs.getD i []).map zQ.enc)->
       (W3.cell? ⟨ob,i,Sb⟩=Sa (hv1 i)/\W3.frozen? ⟨ob,i,Sb⟩=false)/\zCJ w (W3.setCell ⟨ob,i,Sb⟩ u) ob nd (fun j=>if j=i then u else hv1 j) (fun j=>if j=i then b' else bk1 j) (fun j=>if j<i+1 then hs.getD j []else zEU ed us r ds j ed.length)):=Aa (by
      intro W3 u b' h1 h2 h3;obtain⟨a1,a2⟩:=R2.out.put HLTI.out (zs:=hs.getD i []) (by simp only[if_true];exact h1) (by simp only[if_true];exact h2) h3;refine⟨a1,a2.congr (fun j hj=>?_)⟩;by_cases hji:j=i
      .subst hji;simp only[if_true,if_pos (c7 _)]
      .simp only[if_neg hji];by_cases hj2:j<i
       .rw[if_pos hj2,if_pos (by omega)]
       .rw[if_neg hj2,if_neg (by omega)])
     go_wp2_with (go_at_call 178;refine(zVN HC1.out HROW.out (fun h=>(HRB.out h).2.1)).mono ?_;rintro e W3 ⟨u3,b3,rfl,hk3,hb3,ho3⟩;obtain⟨ua,un,uc,rfl⟩:=zY2 ho3;obtain⟨⟨o3,z3⟩,hR3⟩:=FIN.out W3 _ b3 hk3 hb3 ho3;have R3:=Aa hR3;clear hR3 hk3 hb3 ho3)
     go_roundg (nd- (i+1))
     case measure=>(have:=HLTI.out;omega)
     case rel=>exact⟨i+1,by go_num,HLTI.out,by omega,_,_,R3⟩
    .have hin:i=nd:=by omega
     subst hin
     go_wp2_with fail
     go_ret
     obtain⟨fr,h1,h2⟩:=R1.out.rd hsl (fun j hj=>by rw[if_pos hj]);exact⟨_,fr,rfl,⟨R1.out.heap,R1.out.size,R1.out.os,R1.out.tape,R1.out.output,R1.out.drawn⟩,h1,h2⟩
variable {a2:List (Ty.El qD)}
theorem zSr(h:Rd g j i (.tl qD a2)):∃p z,i=.slice p a2.length z/\(a2≠[]->∃q r,p=Sa ⟨q,r,Sb⟩/\∀u x,a2[u]?=Sa x->∀m,m<5->g.cell? ⟨q,r+u*5+m,Sb⟩=(zKa x)[m]?):=by
 cases h with
 |tl _ _ _ h=>
  generalize A:a2.map qD.enc=f at h;have c:f.length=a2.length:=by rw[<-A];simp
  cases h with
  |slemp a d=>
   simp_all
  |sl b F d k f w B t C D E=>
   refine⟨_,d,by rw[c],fun G=>⟨b,F,rfl,fun u x H m I=>?_⟩⟩;have K:=(aa.1 H).1;have e:f[u]?=Sa (qD.enc x):=by grind
   have l:k=5:=by have:=C _ (ae e);rw[wZ]at this;exact this.symm
   subst l
   obtain⟨i,J,n⟩:∃i,(qD.enc x).cells[m]?=Sa (.val i)/\(zKa x)[m]?=Sa i:=by
    match m,I with
    |0,_=>exact⟨_,rfl,rfl⟩
    |1,_=>exact⟨_,rfl,rfl⟩
    |2,_=>exact⟨_,rfl,rfl⟩
    |3,_=>exact⟨_,rfl,rfl⟩
    |4,_=>exact⟨_,rfl,rfl⟩
   have y:=D (u*5+m) (by rw[c];omega);rw[<-bx]at y;rw[y,n];exact congrArg Sa (Rd.eq_val (E u m _ _ e J))
theorem zTP{ed:List (Ty.El qD)}{us:Nat->Bool}{r:Int}{ds:Int->List Int}{es:List (Ty.El qD×Option (List Int))}(a:∀k x,ed[k]?=Sa x->es[k]?=Sa (x,if us k=true/\x.1=r then Sa (ds x.2.1)else Sb))(i:Nat):
  ∀k,k<=ed.length->zEU ed us r ds i k=zDh r (ds r) (es.take k) i
 |0,_=>rfl
 |k+1,m=>by
  have h:=zTP a i k (by omega);have e:ed[k]?=Sa ed[k]:=ah (by omega);have f:=a k _ e;generalize ed[k]=x at e f;have n:es.take (k+1)=es.take k++[(x,if us k=true/\x.1=r then Sa (ds x.2.1)else Sb)]:=by rw[bS,f];rfl
  have j:zDh r (ds r) (es.take (k+1)) i=zDh r (ds r) (es.take k) i++zDh r (ds r) [(x,if us k=true/\x.1=r then Sa (ds x.2.1)else Sb)] i:=by
   grind[zDh]
  rw[j,<-h];simp only[zEU,e];by_cases c:us k=true/\x.1=r
  .rw[if_pos c];by_cases g:(i:Int)≠r/\(0:Int)<=(ds x.2.1).getD i 0/\Ae .i64 (x.2.2.1+(ds x.2.1).getD i 0)=(ds r).getD i 0
   .rw[if_pos ⟨c.1,c.2,g⟩]
    have l:(decide ((i:Int)≠r)&&(decide ((ds x.2.1).getD i 0>=(0:Int))&&(Ae .i64 (x.2.2.1+(ds x.2.1).getD i 0)==(ds r).getD i 0)))=true:=by
     grind
    grind[zDh]
   .rw[if_neg (fun d=>g d.2.2)]
    have l:(decide ((i:Int)≠r)&&(decide ((ds x.2.1).getD i 0>=(0:Int))&&(Ae .i64 (x.2.2.1+(ds x.2.1).getD i 0)==(ds r).getD i 0)))=false:=by
     grind
    grind[zDh]
  .rw[if_neg c,if_neg (fun d=>c ⟨d.1,d.2.1⟩)];simp[zDh]
variable {P:List (List (Ty.El zQ))}
theorem qBK{w:World}{F:Blk->Prop}{n r:Int}{ed:List (Ty.El qD)}(h:zCY (n,ed,r,())=Sa P)(hF:∀b:Nat,F (.b b)->b<w.heap.size)(L:Rd w F i (.tl qD ed)):
  Calls Ac 170 #[.int .i64 n,i,.int .i64 r] w fun e w'=>∃v A,e=.returned v/\jW w w'/\(∀b,A b->w.heap.size<=b/\b<w'.heap.size)/\Rd w' (fb A) v (.tl (.sl zQ) P):=by
 obtain⟨ea,ec,rfl,hE⟩:=zSr L;simp only[zCY,aG]at h;obtain⟨(M:Int),N,h⟩:=h;split at h
 .cases h
 rename_i C;have O:¬((M:Int)<=0\/1048576<ed.length):=C;clear C;simp only[aG]at h;obtain⟨d,c,K,Z,hm⟩:=h;have ap:M<=64:=by have h2:(if(64:Int)< (if(0:Int)>n then(0:Int)else n)then(64:Int)else if(0:Int)>n then(0:Int)else n)=M:=aX N;omega
 obtain⟨f,rfl⟩:∃f:Nat,M=f:=⟨M.toNat,by omega⟩
 have Q:0<f:=by omega
 have H:f<=64:=by omega
 have ab:ed.length<=1048576:=by omega
 have hL:∀{D:Int} {l:List Int},zHq (f:Int) ed D=Sa l->jH ((f:Int),ed,D,())=Sa l/\l.length=f:=by
  grind[Option.bind_eq_some_iff,zHq]
 have hK:∀k x,ed[k]?=Sa x->∃u,yQ ((f:Int),x,())=Sa u/\(yQ ((f:Int),ed.getD k default,())).getD false=u/\
   ((u=true/\x.1=r->∃l,zHq (f:Int) ed x.2.1=Sa l/\K[k]?=Sa (x,Sa l))/\(¬(u=true/\x.1=r)->K[k]?=Sa (x,Sb))):=by
  intro k x W;obtain⟨y,hy,E⟩:=zGV Z W;simp only[aG]at E;obtain⟨u,g,E⟩:=E;have hg:ed.getD k default=x:=by grind
  refine⟨u,g,by rw[hg,g];rfl,fun hc=>?_,fun hc=>?_⟩
  .have:(u&&(x.1==r))=true:=by grind
   rw[this]at E;simp at E
   grind
  grind
 have I:∀(B:World),(∀k,k<w.heap.size->B.heap[k]?=w.heap[k]?)->Rd B (fb fun b=>F (.b b)) (.slice ea ed.length ec) (.tl qD ed):=fun B Y=>
  zRB (zA6 (t:=.sl qD) (x:=ed) (F:=F) (F':=fb fun b=>F (.b b)) (fun b C=>C) rfl L) (fun _ h=>h) (fun b C=>Y b (hF b C))
 refine qBJ w n r f Q H ed ab ea ec (Aa hE) (fun k=>(yQ ((f:Int),ed.getD k default,())).getD false) (fun D=>(jH ((f:Int),ed,D,())).getD []) (Aa ?_) (Aa ?_) (Aa ?_) P (by rw[<-(zB4 hm).1];simp) (Aa ?_)
 .intro B;refine(zIM (args:= #[.int .i64 n]) (ty:=tI) rfl zNs (x:=(n,())) (y:=(f:Int)) N (wr:=B) (fr:=fun _=>False) (fun b C=>C.elim) rfl (fun k u d g c=>?_)).mono ?_
  .match k,g,c with
   |0,g,c=>cases g;cases c;exact .val _
  .rintro e w' ⟨u,A,rfl,J,_,_,g⟩;rw[Rd.eq_val g]
   grind
 .intro B k x W;obtain⟨u,g,av,_⟩:=hK k x W;refine(zIM (args:= #[.int .i64 f,.agg (zKa x)]) (ty:=.bool) rfl zLx (x:=((f:Int),x,())) (y:=u) g (wr:=B) (fr:=fun _=>False) (fun b C=>C.elim) rfl (fun j a d p c=>?_)).mono ?_
  .match j,p,c with
   |0,p,c=>cases p;cases c;exact .val _
   |1,p,c=>
    cases p;cases c;refine .agg _ _ rfl (fun m a d p c=>?_)
    match m,p,c with
    |0,p,c=>cases p;cases c;exact .val _
    |1,p,c=>cases p;cases c;exact .val _
    |2,p,c=>cases p;cases c;exact .val _
    |3,p,c=>cases p;cases c;exact .val _
    |4,p,c=>cases p;cases c;exact .val _
  .rintro e w' ⟨v,A,rfl,J,_,_,hv⟩;rw[Rd.eq_val hv]
   grind
 .intro B D hr Y h2
  obtain⟨l,hl⟩:∃l,zHq (f:Int) ed D=Sa l:=by
   grind
  obtain⟨ad,ag⟩:=hL hl;refine(zIM (args:= #[.int .i64 f,.slice ea ed.length ec,.int .i64 D]) (ty:=.sl tI) rfl zHM (x:=((f:Int),ed,D,())) (y:=l) ad (wr:=B) (fr:=fun b=>F (.b b)) (fun b C=>az (hF b C) h2) rfl (fun k u d g c=>?_)).mono ?_
  .match k,g,c with
   |0,g,c=>cases g;cases c;exact .val _
   |1,g,c=>cases g;cases c;exact I B Y
   |2,g,c=>cases g;cases c;exact .val _
  .rintro e w' ⟨u,A,rfl,J,c1,c2,g⟩;obtain⟨b,al,an,rfl,O,ao⟩:=qAJ (show Rd w' (fb A) u (.tl tI l)from g) (by grind);refine⟨b,al,an,by rw[ag],J,((c2 b O).1).imp (hF b) id,fun q hq=>?_⟩
   grind
 .intro ev hi;obtain⟨z,hz,E⟩:=zGV hm (bj (show ev< (f:Int).toNat by simpa using hi));simp only[aG]at E;obtain⟨⟨ys,y⟩,Y,h2⟩:=E;refine⟨ys,y,?_,?_⟩
  .have S:=zTP (ed:=ed) (us:=fun k=>(yQ ((f:Int),ed.getD k default,())).getD false) (r:=r) (ds:=fun D=>(jH ((f:Int),ed,D,())).getD []) (es:=K) (fun k x W=>by
    grind) ev ed.length (ai _)
   rw[S];have ax:K.take ed.length=K:=List.take_of_length_le (by rw[<-(zB4 Z).1];omega)
   grind
  grind
theorem zUO(w:World)(ab sb r:Nat)(hr:r<8)(j:Nat)(len cap bb bo:Nat)(u:Value)
  (hu:w.cell? ⟨ab,75+r,Sb⟩=Sa (.slice (Sa ⟨bb,bo,Sb⟩) len cap)) (hc:j<len->w.cell? ⟨bb,bo+j,Sb⟩=Sa u):
  Calls Ac 106 #[.pointer (Sa ⟨sb,0,Sb⟩),.pointer (Sa ⟨ab,0,Sb⟩),.int .i64 r,.int .i64 j] w fun e w'=>w'=w/\e=.returned (if j<len then u else .slice Sb 0 0):=by
 go_enter Tryz.func106,Ah
 by_cases hjl:j<len
 .have hc:=hc hjl;rw[if_pos hjl]
  go_wp2_with fail
  rw[show Sem.run Ac (binOp BinOp.eql 161 (Ad (Sa ⟨bb,bo,Sb⟩) len cap) (Ad Sb 0 0)) w=.ok (.bool false) w from by kernel_rfl]
  go_wp2_with fail
  go_ret
  exact⟨rfl,rfl⟩
 .rw[if_neg hjl];clear hc
  go_wp2_with fail
  rw[show Sem.run Ac (binOp BinOp.eql 161 (Ad (Sa ⟨bb,bo,Sb⟩) len cap) (Ad Sb 0 0)) w=.ok (.bool false) w from by kernel_rfl]
  go_wp2_with fail
  go_ret
  exact⟨rfl,rfl⟩
theorem zYw(w:World)(ab sb r:Nat)(hr:r<8)(j:Nat)(n:Int)(ev:Value)(C:Array Value)(ct:TypeId)(hab:Hid (w.heap[ab]?=Sa (.cells C ct (0,0))/\C[2]?=Sa ev/\C[75+r]?=Sa (.slice Sb 0 0)))
  (hsb:w.cell? ⟨sb,4,Sb⟩=Sa (.int .i64 n)) (len:Nat) (Q:World->Nat->Nat->Nat->Prop)
  (HC:Hid (∀wr:World,jW w wr->Calls Ac 170 #[.int .i64 n,ev,.int .i64 r] wr fun e w'=>∃ob oo c,e=.returned (.slice (Sa ⟨ob,oo,Sb⟩) len c)/\jW w w'/\ob≠ab/\(∀q,q<len->∃u,w'.cell? ⟨ob,oo+q,Sb⟩=Sa u)/\Q w' ob oo c)):
  Calls Ac 106 #[.pointer (Sa ⟨sb,0,Sb⟩),.pointer (Sa ⟨ab,0,Sb⟩),.int .i64 r,.int .i64 j] w fun e w'=>∃w1 ob oo c v,e=.returned v/\jW w w1/\Q w1 ob oo c/\w'=w1.setCell ⟨ab,75+r,Sb⟩ (.slice (Sa ⟨ob,oo,Sb⟩) len c)/\
   (j<len->w1.cell? ⟨ob,oo+j,Sb⟩=Sa v)/\(¬j<len->v=.slice Sb 0 0):=by
 have hu:w.cell? ⟨ab,75+r,Sb⟩=Sa (.slice Sb 0 0):=(cell_of_row w ab (75+r) _ _ _ hab.out.1).trans hab.out.2.2;have he:w.cell? ⟨ab,2,Sb⟩=Sa ev:=(cell_of_row w ab 2 _ _ _ hab.out.1).trans hab.out.2.1;have hz:w.frozen? ⟨ab,75+r,Sb⟩=false:=by simp only[World.frozen?,hab.out.1];simp
 have HF:Hid (∀w':World,jW w w'->w'.cell? ⟨ab,75+r,Sb⟩=Sa (.slice Sb 0 0)/\w'.cell? ⟨ab,2,Sb⟩=Sa ev/\w'.cell? ⟨sb,4,Sb⟩=Sa (.int .i64 n)/\w'.frozen? ⟨ab,75+r,Sb⟩=false):=Aa (by
  intro w' st;have h:=(st.heap ab (qR hab.out.1)).trans hab.out.1;refine⟨(cell_of_row w' ab (75+r) _ _ _ h).trans hab.out.2.2,(cell_of_row w' ab 2 _ _ _ h).trans hab.out.2.1,?_,by simp only[World.frozen?,h];simp⟩
  have:sb<w.heap.size:=by
   simp only[World.cell?]at hsb
   cases hb:w.heap[sb]? with
   |none=>rw[hb]at hsb;cases hsb
   |some o=>exact qR hb
  exact(World.cell?_of_block (a:=⟨sb,4,Sb⟩) (st.heap sb this)).trans hsb)
 go_enter Tryz.func106,Ah
 go_upto_region 2 with fail
 rw[show Sem.run Ac (binOp BinOp.eql 161 (Ad Sb 0 0) (Ad Sb 0 0)) w=.ok (.bool true) w from by kernel_rfl]
 go_upto_region 2 with fail
 have hr2:(r:Int)<8:=by omega
 have hr3:(0:Int)<=(r:Int):=by omega
 have hr4:((r:Int)).toNat=r:=aB r
 go_region_law (go_simp;go_at_call 170;refine(HC.out _ (jW.drawN w _)).mono ?_;rintro e w1 ⟨ob,oo,c,rfl,st,hob,hq,hQ⟩;obtain⟨k1,k2,k3,k4⟩:=HF.out w1 st;have ST:=Aa st;have HOB:=Aa hob;have HQ:=Aa hq;have HQQ:=Aa hQ;clear st hob hq hQ)
 all_goals
  have HW:Hid (∀W:World,W=w1.setCell ⟨ab,75+r,Sb⟩ (.slice (Sa ⟨ob,oo,Sb⟩) len c)->W.cell? ⟨ab,75+r,Sb⟩=Sa (.slice (Sa ⟨ob,oo,Sb⟩) len c)/\∀q,W.cell? ⟨ob,q,Sb⟩=w1.cell? ⟨ob,q,Sb⟩):=Aa (by
   rintro W rfl;have h:=(ST.out.heap ab (qR hab.out.1)).trans hab.out.1;refine⟨(cell_of_row _ ab (75+r) _ _ _ (xU (off:=75+r) (v:=.slice (Sa ⟨ob,oo,Sb⟩) len c) h)).trans ?_,fun q=>World.cell?_of_block (a:=⟨ob,q,Sb⟩) ?_⟩
   .rw[du,if_pos (ar.1 hab.out.2.2).1]
   .show(w1.heap.modify _ _)[ob]?=_
    rw[bK,if_neg (fun hh=>HOB.out hh.symm)])
  clear k1 k2 k3 k4;generalize hW:w1.setCell ⟨ab,75+r,Sb⟩ (.slice (Sa ⟨ob,oo,Sb⟩) len c)=W2 at HW ⊢;have HWE:=Aa hW;obtain⟨m1,m2⟩:=HW.out W2 rfl;have HM2:=Aa m2;clear m2 hW HW;by_cases hjl:j<len
  .obtain⟨u,hu⟩:=HQ.out j hjl;have m3:W2.cell? ⟨ob,oo+j,Sb⟩=Sa u:=(HM2.out (oo+j)).trans hu;have HU:=Aa hu;clear hu
   go_wp2_with fail
   go_ret
   exact⟨w1,ob,oo,c,u,rfl,ST.out,HQQ.out,HWE.out.symm,fun _=>HU.out,fun h=>absurd hjl h⟩
  .go_wp2_with fail
   go_ret
   exact⟨w1,ob,oo,c,_,rfl,ST.out,HQQ.out,HWE.out.symm,fun h=>absurd h hjl,fun _=>rfl⟩
theorem zVr{n r:Int}(h:zCY (n,a2,r,())=Sa P):P≠[]:=by
 simp only[zCY,aG]at h;obtain⟨(c:Int),e,h⟩:=h;split at h
 .cases h
 rename_i f;have g:¬((c:Int)<=0\/1048576<a2.length):=f;simp only[aG]at h;obtain⟨d,j,l,k,i⟩:=h;rintro rfl;have:=(zB4 i).1
 grind
theorem zU2(h:Rd g j i (.tl (.sl zQ) P))(m:P≠[]):∃b off cap,i=.slice (Sa ⟨b,off,Sb⟩) P.length cap/\j (.b b)/\∀q,q<P.length->∃u,g.cell? ⟨b,off+q,Sb⟩=Sa u/\Rd g j u (.tl zQ (P.getD q [])):=by
 cases h with
 |tl _ _ _ h=>
  generalize n:P.map (Ty.sl zQ).enc=f at h;have d:f.length=P.length:=by grind
  cases h with
  |slemp a cap=>grind
  |sl b off cap k f w v l p r t=>
   refine⟨b,off,cap,by rw[d],v,fun q x=>?_⟩;have e:f[q]?=Sa (.tl zQ (P.getD q [])):=by rw[<-n,aA,ba,ah x];rfl
   have F:k=1:=(p _ (ae e)).symm;subst F;have y:=r q (by rw[d];omega);have z:=t q 0 _ (.tl zQ (P.getD q [])) e rfl
   grind
theorem zZJ{c:List (Ty.El qD)}(h:Rd g j i (.tl qD a2))(l:Rd g j i (.tl qD c)):a2=c:=by
 obtain⟨P,Q,rfl,n⟩:=zSr h;obtain⟨p,q,r,t⟩:=zSr l;injection r with d e _;subst d;by_cases k:a2=[]
 .grind
 .have z:c≠[]:=fun A=>k (cS.1 (by rw[e,A];rfl));obtain⟨b,o,rfl,B⟩:=n k;obtain⟨S,W,f,C⟩:=t z;cases f;refine bT fun u=>?_;by_cases D:u<a2.length
  .have w:a2[u]?=Sa a2[u]:=ah D;have F:c[u]?=Sa (c[u]'(by omega)):=ah (by omega);generalize a2[u]=x at w;generalize c[u]'(by omega)=y at F;rw[w,F];have a:∀m,m<5->(zKa x)[m]?=(zKa y)[m]? :=fun m a=>(B u x w m a).symm.trans (C u y F m a);obtain⟨E,G,H,⟨I,J,⟨⟩⟩,⟨⟩⟩:=x;obtain⟨K,L,M,⟨N,O,⟨⟩⟩,⟨⟩⟩:=y;have Y:Sa (Ab .i64 E)=Sa (Ab .i64 K):=a 0 (by decide);have Z:Sa (Ab .i64 G)=Sa (Ab .i64 L):=a 1 (by decide);have k2:Sa (Ab .i64 H)=Sa (Ab .i64 M):=a 2 (by decide);have k3:Sa (Ab .i64 I)=Sa (Ab .i64 N):=a 3 (by decide);have k4:Sa (Ab .u32 J)=Sa (Ab .u32 O):=a 4 (by decide)
   grind
  grind
def qBx(F:Blk->Prop)(fr:Nat->Prop):Blk->Prop
 |.b n=>F (.b n)\/fr n
 |.s n=>F (.s n)\/fr n
 |x=>F x
variable {a4:Nat->Prop}
theorem qFt(x:Blk)(h:j x):qBx j a4 x:=by
 cases x<;>first|exact .inl h|exact h
theorem qE1(x:Blk)(h:stF j x):stF (qBx j a4) x:=by
 cases x<;>first|exact .inl h|exact h
theorem zYv{fr:Nat->Prop}{D:Ty.El qN}{v:Value}(R:zIa HH j a4 g)(hF:∀b:Nat,j (.b b)->b<g.heap.size/\¬a4 b)(hr:I<8)(M:j (.k J l (qN.cells D)))(st:jW g C)(e:∀b,fr b->g.heap.size<=b/\b<C.heap.size)(hv:Rd C (fb fr) v (.tl (.sl zQ) P))(c:HH ((J%16:Nat):Int) D.2.2.1 (I:Int)=Sa P):zIa HH (qBx j fr) a4 (C.setCell ⟨l,75+I,Sb⟩ v):=by
 obtain⟨hO,Ca,Q,w,hm⟩:=R.memo J l D M;have S:=qR w;have H:C.heap[l]?=Sa (.cells Ca Q (0,0)):=(st.heap l S).trans w;have a:=xU (off:=75+I) (v:=v) H;have y:∀q,q≠l->(C.setCell ⟨l,75+I,Sb⟩ v).heap[q]?=C.heap[q]? :=fun q E=>by show(C.heap.modify _ _)[q]?=_;rw[bK,if_neg (fun c=>E c.symm)]
 have i:∀q,q<g.heap.size->q≠l->(C.setCell ⟨l,75+I,Sb⟩ v).heap[q]?=g.heap[q]? :=fun q r F=>(y q F).trans (st.heap q r);have K:∀n:Nat,j (.s n)->n<g.heap.size/\n≠l:=fun n p=>⟨(hF n (R.sb n p)).1,fun c=>(hF n (R.sb n p)).2 (c▸hO)⟩
 have t:∀{x:Value} {d:V},Rd g (stF j) x d->Rd (C.setCell ⟨l,75+I,Sb⟩ v) (stF (qBx j fr)) x d:=fun h=>h.mono qE1 (fun n p=>i n (K n p).1 (K n p).2);have W:Rd (C.setCell ⟨l,75+I,Sb⟩ v) (stF (qBx j fr)) v (.tl (.sl zQ) P):=hv.mono (fun x z=>by cases x<;>first|exact .inr z|exact z.elim) (fun n p=>y n (fun c=>by have:=(e n p).1;omega));refine⟨fun b A=>?_,fun n p=>p.imp (R.sb n) (fun c=>c),fun id b Y h=>?_,R.eqk,R.kl,fun id b x h=>?_⟩
 .have:=R.own b A;have:=st.size;show b< (C.heap.modify _ _).size;rw[Array.size_modify];omega
 .have h:j (.k id b Y):=h;obtain⟨r,f,Z,F,G⟩:=R.ld id b Y h;refine⟨r.imp (fun c=>c) .inl,?_⟩;by_cases A:b=l
  .subst A;rw[w]at F;cases F;refine⟨_,_,a,fun m d N=>?_⟩;have av:=R.kl J b D M id Y h;have ay:=(aa.1 N).1;obtain⟨x,z,ad⟩:=G m d N;exact⟨x,by rw[bC (by omega)];exact z,t ad⟩
  .exact⟨f,Z,(i b (qR F) A).trans F,fun m d N=>(G m d N).elim fun x z=>⟨x,z.1,t z.2⟩⟩
 .have h:j (.k id b (qN.cells x)):=h;obtain⟨r,f,Z,F,G⟩:=R.memo id b x h;refine⟨r,?_⟩;by_cases A:b=l
  .subst A;rw[w]at F;cases F;have hid:id=J:=(R.eqk id J b b _ _ h M).1 rfl;subst hid;obtain⟨_,C1,a0,g1,g2⟩:=R.ld id b _ M;obtain⟨_,C2,a1,g3,g4⟩:=R.ld id b _ h;rw[w]at g1 g3;cases g1;cases g3;obtain⟨e1,i1,i2⟩:=g2 2 (.tl qD D.2.2.1) rfl;obtain⟨e2,i3,i4⟩:=g4 2 (.tl qD x.2.2.1) rfl;rw[i1]at i3;cases i3;have ag:x.2.2.1=D.2.2.1:=zZJ i4 i2;refine⟨_,_,a,fun q E=>?_⟩;by_cases al:q=I
   .subst al;obtain⟨u0,an,_⟩:=G q E;refine⟨v,by rw[du,if_pos (ar.1 an).1],.inr ⟨P,by rw[ag];exact c,W⟩⟩
   .obtain⟨u,ao,ap⟩:=G q E;exact⟨u,by rw[bC (by omega)];exact ao,ap.imp (fun c=>c) (fun⟨O,hl,B⟩=>⟨O,hl,t B⟩)⟩
  .exact⟨f,Z,(i b (qR F) A).trans F,fun q E=>(G q E).elim fun u hu=>⟨u,hu.1,hu.2.imp (fun c=>c) (fun⟨O,hl,B⟩=>⟨O,hl,t B⟩)⟩⟩
theorem zFv:jJ PS Ac G0 106 (z7 (qQ [(.pt qL),(.pt qN),tI,tI] (.p (.sl zQ)) qC)):=by
 intro w F O s ad Q s' r ag hG hF al G a;simp[z7,qQ,vR]at a
 cases L:zBv [(.pt qL),(.pt qN),tI,tI] Q with
 |none=>rw[L]at a;cases a
 |some x=>
  rw[L]at a;have B:=kH _ _ _ L;obtain⟨x1,x2,(H:Int),(C:Int),⟨⟩⟩:=x;have a:Option.map (fun y:(RTy.p (.sl zQ)).El=>((s,(RTy.p (.sl zQ)).res y):Unit×RV)) (qC (x1,x2,H,C,()))=Sa (s',r):=a
  obtain⟨M,d,a5⟩:∃M,qC (x1,x2,H,C,())=Sa M/\((s,(RTy.p (.sl zQ)).res M):Unit×RV)=(s',r):=by
   cases an:qC (x1,x2,H,C,())with
   |none=>rw[an]at a;cases a
   |some st=>rw[an]at a;exact⟨st,rfl,aX a⟩
  cases a5;have R:zIa HH F O w:=ag;simp only[qC,aG]at d;obtain⟨sx,rfl,ax,rfl,d⟩:=d
  cases m:(decide (sx.2.2.1=((ax.1%16:Nat):Int))&&(decide ((0:Int)<=H)&&decide (H< (8:Int))))with
  |false=>rw[m]at d;cases d
  |true=>
   rw[m]at d;simp only[am,decide_eq_true_eq]at m;obtain⟨c1,c2,c3⟩:=m;simp only[cond_true,aG]at d;obtain⟨z,D,d⟩:=d;have c2:(0:Int)<=H:=c2;have c3:(H:Int)<8:=c3;obtain⟨q,rfl⟩:∃q:Nat,H=(q:Int):=⟨H.toNat,(bl c2).symm⟩
   have I:q<8:=by omega
   obtain⟨j,rfl,hj⟩:∃j:Nat,C=(j:Int)/\M=if j<z.length then z.getD j []else[]:=by
    by_cases ao:(C:Int)>=(z.length:Int)
    .rw[decide_eq_true ao]at d;refine⟨C.toNat,(bl (by omega)).symm,?_⟩;rw[if_neg (by omega)];exact(aX d).symm
    .rw[decide_eq_false ao]at d;have d:idx z C=Sa M:=d;unfold idx at d;split at d
     .rename_i h0;have h0:(0:Int)<=C:=h0;have hlt:C.toNat<z.length:=by omega
      refine⟨C.toNat,(bl h0).symm,?_⟩;rw[if_pos hlt,ba];have d:z[C.toNat]?=Sa M:=d;rw[d];rfl
     .cases d
   have ap:Q.length=4:=B.len;obtain⟨l⟩:=ad;have a6:l.length=4:=by simpa[ap]using al
   match l,Q,a6,ap with
   |[a0,a1,a2,a3],[d0,d1,d2,d3],_,_=>
    have e0:Rd w F a0 (.pt qL (Sa sx)):=B.get 0 _ _ rfl rfl w F a0 (G 0 a0 d0 rfl rfl);have e1:Rd w F a1 (.pt qN (Sa ax)):=B.get 1 _ _ rfl rfl w F a1 (G 1 a1 d1 rfl rfl);have e2:a2=.int .i64 q:=Rd.eq_val (B.get 2 _ _ rfl rfl w F a2 (G 2 a2 d2 rfl rfl));have e3:a3=.int .i64 j:=Rd.eq_val (B.get 3 _ _ rfl rfl w F a3 (G 3 a3 d3 rfl rfl));subst e2 e3;obtain⟨ids,sv⟩:=sx;obtain⟨J,xa⟩:=ax
    obtain⟨E,rfl,a9⟩:∃E,a0=.pointer (Sa ⟨E,0,Sb⟩)/\F (.k ids E (qL.cells sv)):=by
     cases e0 with
     |pt _ _ E _ h=>exact⟨E,rfl,h⟩
    obtain⟨A,rfl,S⟩:∃A,a1=.pointer (Sa ⟨A,0,Sb⟩)/\F (.k J A (qN.cells xa)):=by
     cases e1 with
     |pt _ _ A _ h=>exact⟨A,rfl,h⟩
    obtain⟨_,Cs,cl,s1,s2⟩:=R.ld ids E _ a9;obtain⟨un,bd,be⟩:=s2 4 (.val (.int .i64 sv.2.1)) rfl;have bk:=Rd.eq_val be;subst bk;have bn:w.cell? ⟨E,4,Sb⟩=Sa (.int .i64 sv.2.1):=(cell_of_row w E 4 _ _ _ s1).trans bd;obtain⟨_,Ca,bs,t1,t2⟩:=R.ld J A _ S;obtain⟨ev,b0,b1⟩:=t2 2 (.tl qD xa.2.2.1) rfl;obtain⟨hO,Cm,cp,m1,m2⟩:=R.memo J A xa S;rw[t1]at m1;cases m1;obtain⟨u,u1,u2⟩:=m2 q I;have D:HH sv.2.1 xa.2.2.1 (q:Int)=Sa z:=D;have c1:sv.2.1=((J%16:Nat):Int):=c1;rcases u2 with rfl|⟨t,av,hu⟩
    .refine(zYw w A E q I j sv.2.1 ev Ca bs (Aa ⟨t1,b0,u1⟩) bn z.length (fun K W oo c=>∃fr:Nat->Prop,(∀b,fr b->w.heap.size<=b/\b<K.heap.size)/\Rd K (fb fr) (.slice (Sa ⟨W,oo,Sb⟩) z.length c) (.tl (.sl zQ) z)) (Aa ?_)).mono ?_
     .intro wr st;refine(qBK (w:=wr) (F:=stF F) D (fun b g=>az (hF b (R.sb b g)).1 st.size) (b1.mono (fun _ h=>h) (fun n Y=>st.heap n (hF n (R.sb n Y)).1))).mono ?_;rintro e w' ⟨v,fr,rfl,h1,h2,h3⟩;obtain⟨W,oo,c,rfl,Z,i⟩:=zU2 h3 (zVr D);refine⟨W,oo,c,rfl,st.trans h1,fun he=>?_,fun p hp=>(i p hp).elim fun u hu=>⟨u,hu.1⟩,fr,fun b g=>⟨aj st.size (h2 b g).1,(h2 b g).2⟩,h3⟩;have:=(h2 W Z).1;have:=qR t1;have:=st.size;omega
     .rintro e w' ⟨K,W,oo,c,v,rfl,st,⟨fr,f1,f2⟩,rfl,g1,g2⟩;have R':=zYv R hF I S st f1 f2 (by rw[<-c1];exact D);have N:(K.setCell ⟨A,75+q,Sb⟩ (.slice (Sa ⟨W,oo,Sb⟩) z.length c)).heap.size=K.heap.size:=by show(K.heap.modify _ _).size=_;exact Array.size_modify
      have P:∀p,p≠A->(K.setCell ⟨A,75+q,Sb⟩ (.slice (Sa ⟨W,oo,Sb⟩) z.length c)).heap[p]?=K.heap[p]? :=fun p hp=>by show(K.heap.modify _ _)[p]?=_;rw[bK,if_neg (fun D=>hp D.symm)]
      have ck:=qR t1;refine⟨v,qBx F fr,O,rfl,R',⟨st.os,st.tape,st.output,by rw[N];exact st.size,fun b g Y=>(P b (fun he=>Y (he▸hO))).trans (st.heap b g),st.drawn⟩,fun b g=>.inl g,⟨fun x L=>qFt x L,fun n Y=>Y.elim .inl (fun h=>.inr (.inl (f1 n h).1))⟩,fun b g=>?_,?_⟩
      .rw[N];rcases g with g|g
       .exact⟨.inl g,az (hF b g).1 st.size,(hF b g).2⟩
       .refine⟨.inr (f1 b g).1,(f1 b g).2,fun ho=>?_⟩;have:=R.own b ho;have:=(f1 b g).1;omega
      .show Rd _ _ v (.tl zQ M);rw[hj];by_cases f:j<z.length
       .rw[if_pos f];obtain⟨b2,o2,cq,b3,Z,i⟩:=zU2 f2 (zVr D);cases b3;obtain⟨u,hu,b4⟩:=i j f;rw[g1 f]at hu;cases hu;exact b4.mono (fun x L=>by cases x<;>first|exact .inr L|exact L.elim) (fun n Y=>P n (fun he=>by have:=(f1 n Y).1;omega))
       .rw[if_neg f,g2 f];exact .tl _ _ _ (.slemp _ _)
    .have b5:t=z:=by rw[<-c1]at av;exact aX (av.symm.trans D)
     subst b5;obtain⟨bb,bo,ay,rfl,Z,i⟩:=zU2 hu (zVr D);have a4:w.cell? ⟨A,75+q,Sb⟩=Sa (.slice (Sa ⟨bb,bo,Sb⟩) t.length ay):=(cell_of_row w A (75+q) _ _ _ t1).trans u1
     obtain⟨vv,b6,cc⟩:∃vv,(j<t.length->w.cell? ⟨bb,bo+j,Sb⟩=Sa vv)/\(j<t.length->Rd w F vv (.tl zQ (t.getD j []))):=by
      by_cases f:j<t.length
      .obtain⟨u,cf,ch⟩:=i j f;exact⟨u,fun _=>cf,fun _=>qCQ R.sb ch⟩
      .exact⟨.slice Sb 0 0,fun h=>absurd h f,fun h=>absurd h f⟩
     refine(zUO w A E q I j t.length ay bb bo vv a4 b6).mono ?_;rintro e w' ⟨rfl,rfl⟩;refine⟨_,F,O,rfl,R,.refl _ _,fun b g=>.inl g,.refl _ _,fun b g=>⟨.inl g,hF b g⟩,?_⟩;show Rd _ _ _ (.tl zQ M);rw[hj];by_cases f:j<t.length
     .rw[if_pos f,if_pos f];exact cc f
     .rw[if_neg f,if_neg f];exact .tl _ _ _ (.slemp _ _)
end Go.Ve
namespace Go.Ve
noncomputable section
open Go Go.Proofs
def uD:xQ PS:=enG (by kernel_rfl) zFv
theorem zDB:jJ PS Ac G0 104 (z7 (qQ [(.pt qN),tI,tI] (.p tI) zW)):=
 fG [] [jj 6 22364160 [] [.t 12 .bool]]
def qS:xQ PS:=enG (by kernel_rfl) zDB
def zBj:xQ PS:=liM (by kernel_rfl) (by kernel_rfl) (by kernel_rfl) zJj
theorem zGa:jJ PS Ac G0 62 (z7 (qQ [(.pt qL),(.pt qN),tI] (.p (.sl zL)) jA)):=
 fG [zBj,qS] [jj 32 0x5555555550001c4000 [] [.o 7 7 zL],jj 13 0x15555555555001c4000 [] [.t 16 tI,.o 7 7 zL],jj 36 0x15555555555555c4000 [] [.o 7 7 zL]]
def uK:xQ PS:=enG (by kernel_rfl) zGa
def zRH:xQ PS:=liS (by kernel_rfl) (by kernel_rfl) (by kernel_rfl) zI0
def qBv:xQ PS:=liS (by kernel_rfl) (by kernel_rfl) (by kernel_rfl) zRJ
theorem zEy:jJ PS Ac G0 112 (z7 (qQ [(.pt qL),tI,zD] (.p .bool) qO)):=
 fG [qBv,zRH] [jj 18 0x55555555554000000000000 [] [.t 45 .bool],jj 9 0x155555555555550000035000 [] [.t 20 tI],jj 28 0x155555555555555555575000 [] []]
def kC:xQ PS:=enG (by kernel_rfl) zEy
theorem zCm:jJ PS Ac G0 155 (z7 (qQ [(.pt qL),tI,tI,zL] (.p zC) qE)):=
 fG []
def kR:xQ PS:=enG (by kernel_rfl) zCm
def zNo:xQ PS:=liS (by kernel_rfl) (by kernel_rfl) (by kernel_rfl) zF7
theorem zF9:jJ PS Ac G0 96 (z7 (qQ [(.pt qL),tI] (.o zC) vO)):=
 fG [zNo,uD,qS,kR,kC,uK] [jj 58 0x1555555555554000000000000000000000000000 [] [.t 78 .bool,.o 5 5 zC],jj 64 0x155555555555555555555000000000000000007200400 [] [.o 5 5 zC,.v 10 [.p zC]],jj 45 0x555555555555555555555500000000000000007200400 [] [.t 46 tI,.o 5 5 zC,.v 10 [.p zC]],jj 68 0x555555555555555555555555400000000000007200400 [] [.o 5 5 zC,.v 10 [.p zC]],jj 72 0x555555555555555555555555555555550000000073c0400 [] [.o 5 5 zC],jj 25 0x1555555555555555555555555555555555000000073c0400 [] [.t 28 tI,.o 5 5 zC],jj 76 0x1555555555555555555555555555555555555400073c4400 [] [.o 5 5 zC],jj 13 0x5555555555555555555555555555555555555540073c4400 [] [.t 19 tI,.o 5 5 zC],jj 80 0x5555555555555555555555555555555555555555573c4400 [] [.o 5 5 zC]]
def zGz:xQ PS:=enG (by kernel_rfl) zF9
theorem zGD:jJ PS Ac G0 61 (z7 (qQ [(.pt qL),tI] (.p (.pt qN)) wY)):=
 fG [] [jj 9 93824986648832 [] [.t 12 tI],jj 28 93824992235776 [] []]
def zB2:xQ PS:=enG (by kernel_rfl) zGD
theorem zHP:jJ PS Ac G0 217 (z7 (qQ [(.pt qL),tI,tI] (.p .bool) vU)):=
 fG [zB2] [jj 10 96076792049176576 [] [.t 6 .bool]]
def zDa:xQ PS:=enG (by kernel_rfl) zHP
theorem zFw:jJ PS Ac G0 157 (z7 (qQ [(.pt qL),tI] (.p .bool) jI)):=
 fG [zDa] [jj 26 0x15555550000000000 [] [.t 32 .bool],jj 17 0x55555555500001100 [] [.t 16 tI],jj 36 0x55555555555401100 [] []]
def yV:xQ PS:=enG (by kernel_rfl) zFw
def zDz:xQ PS:=liA (by kernel_rfl) (by kernel_rfl) (by kernel_rfl) xO
def zDy:xQ PS:=liA (by kernel_rfl) (by kernel_rfl) (by kernel_rfl) xN
def zC9:xQ PS:=liA (by kernel_rfl) (by kernel_rfl) (by kernel_rfl) zCN
def zFs:xQ PS:=liA (by kernel_rfl) (by kernel_rfl) (by kernel_rfl) zEY
theorem zEw:jJ PS Ac G0 97 (z7 (qQ [(.pt qL),tI,(.sl zC)] (.o zC) wF)):=
 fG [kR,zFs,zC9,uK,zDy,zDz,kC,zB2,yV] [jj 34 0x155550000000000000000000 [] [.t 46 .bool,.o 7 7 zC],jj 46 0x1555554000000000000000000000000 [] [.t 60 .bool,.o 7 7 zC],jj 60 0x55555555555555555555000000000d5c4000 [] [.o 7 7 zC],jj 21 0x155555555555555555555500000000d5c4000 [] [.t 30 tI,.o 7 7 zC],jj 64 0x155555555555555555555555555500d5c4000 [] [.o 7 7 zC]]
def zEV:xQ PS:=enG (by kernel_rfl) zEw
theorem zE0:jJ PS Ac G0 163 (z7 (qQ [(.pt qL),tI,tI,(.pt qN)] (.p .bool) jU)):=
 fG [zDa,qS] [jj 6 0x1555555555555555550000 [] [.t 8 .bool]]
def zA7:xQ PS:=enG (by kernel_rfl) zE0
def zTa:xQ PS:=liS (by kernel_rfl) (by kernel_rfl) (by kernel_rfl) zJU
theorem zEx:jJ PS Ac G0 271 (z7 (qQ [(.pt qL),(.pt qN),tI,zD] (.tu [zD,.bool]) wG)):=
 fG [zTa] [jj 18 0x155555500000000000000 [] [.t 40 .bool],jj 9 0x5555555555000000c60000 [] [.t 24 tI,.v 8 [.p zD]],jj 28 0x5555555555555555c60000 [] [.v 8 [.p zD]]]
def zEW:xQ PS:=enG (by kernel_rfl) zEx
def zHI:xQ PS:=liS (by kernel_rfl) (by kernel_rfl) (by kernel_rfl) zDd
theorem zEZ:jJ PS Ac G0 221 (z7 (qQ [(.pt qL),(.pt qN),tI] (.p (.sl zL)) wO)):=
 fG [zHI,zBj,zEW,uK] [jj 48 0x5555555555555555555500017c4000 [] [.o 7 7 zL],jj 13 0x15555555555555555555550017c4000 [] [.t 18 tI,.o 7 7 zL],jj 52 0x15555555555555555555555557c4000 [] [.o 7 7 zL]]
def zFt:xQ PS:=enG (by kernel_rfl) zEZ
theorem zE1:jJ PS Ac G0 222 (z7 (qQ [(.pt qL),tI,zD] (.p .bool) wT)):=
 fG [zHI,uK] [jj 9 0x5555550011000 [] [.t 14 tI],jj 28 0x5555555551000 [] []]
def zFu:xQ PS:=enG (by kernel_rfl) zE1
def zF6:xQ PS:=liS (by kernel_rfl) (by kernel_rfl) (by kernel_rfl) zFi
theorem zEv:jJ PS Ac G0 65 (z7 (qQ [(.pt qL),tI,zC,tI,(.sl zQ)] (.tu [zC,.bool]) zBm)):=
 fG [zF6,kC] [jj 40 0x5555555140000000000002000000 [] [.v 12 [.p zC]]]
theorem zDD(g:ElS [(.pt qL),tI]->Option (RTy.El (.o zC)))(h:jJ PS Ac G0 55 (z7 (qQ [(.pt qL),tI] (.o zC) g))):jJ PS Ac G0 164 (z7 (qQ [(.pt qL),tI,(.pt qN)] (.p (.sl zL)) (jQ g))):=
 fG [zFu,(enG (by kernel_rfl) h),zBj,zFt] [jj 22 0x155555400000000000 [] [.t 34 .bool,.o 7 7 zL],jj 29 0x555500000000000000c04000 [] [.t 40 tI,.o 7 7 zL],jj 44 0x555555555555540000c44000 [] [.o 7 7 zL],jj 13 0x1555555555555554000c44000 [] [.t 19 tI,.o 7 7 zL],jj 48 0x1555555555555555550c44000 [] [.o 7 7 zL],jj 70 0x5555540000000000000000000000000000000 [] [.t 73 .bool,.o 7 7 zL,.o 57 57 zC],jj 76 0x1555555555404000000000000000000000c004000 [] [.o 57 57 zC,.o 7 7 zL],jj 61 0x5555555555544000000000000000000000c004000 [] [.t 59 tI,.o 57 57 zC,.o 7 7 zL],jj 80 0x5555555555555400000000000000000000c004000 [] [.o 7 7 zL]]
theorem zFy(g:ElS [(.pt qL),tI,(.pt qN)]->Option (RTy.El (.p (.sl zL))))(h:jJ PS Ac G0 164 (z7 (qQ [(.pt qL),tI,(.pt qN)] (.p (.sl zL)) g))):jJ PS Ac G0 98 (z7 (qQ [(.pt qL),tI] (.p (.sl zC)) (wS g))):=
 fG [zF6,uD,kR,qS,kC,(enG (by kernel_rfl) h),zA7,yV] [jj 22 0x555555554000000000 [] [.t 35 .bool,.o 5 5 zC],jj 72 0x55555555555555500000000000000000000000f00400 [] [.o 5 5 zC],jj 45 0x155555555555555550000000000000000000000f00400 [] [.t 56 tI,.o 5 5 zC],jj 76 0x155555555555555555555554000000000000000f10400 [] [.o 5 5 zC],jj 29 0x555555555555555555555555400000000000000f10400 [] [.t 41 tI,.o 5 5 zC],jj 80 0x555555555555555555555555555555555555000f11400 [] [.o 5 5 zC],jj 13 0x1555555555555555555555555555555555555500f11400 [] [.t 16 tI,.o 5 5 zC],jj 84 0x1555555555555555555555555555555555555555f11400 [] [.o 5 5 zC]]
def zS9:xQ PS:=liS (by kernel_rfl) (by kernel_rfl) (by kernel_rfl) zJQ
theorem zD7(g:ElS [(.pt qL),tI]->Option (RTy.El (.p (.sl zC))))(h:jJ PS Ac G0 98 (z7 (qQ [(.pt qL),tI] (.p (.sl zC)) g))):jJ PS Ac G0 55 (z7 (qQ [(.pt qL),tI] (.o zC) (jZ g))):=
 fG [zS9,(enG (by kernel_rfl) h),zEV,zGz] [jj 15 0 [(5,19,6)] []]
theorem zAn:∀n,jJ PS Ac G0 55 (z7 (qQ [(.pt qL),tI] (.o zC) (jX n)))
 |0=>qAP
 |n+1=>zD7 _ (zFy _ (zDD _ (zAn n)))
theorem zEu:jJ PS Ac G0 55 (z7 (qQ [(.pt qL),tI] (.o zC) qF)):=zAn 4
theorem zE2(g:ElS [(.pt qL),tI,tI]->Option (RTy.El (.tu [tI,(.sl zQ),.bool])))(h:jJ PS Ac G0 57 (z7 (qQ [(.pt qL),tI,tI] (.tu [tI,(.sl zQ),.bool]) g))):jJ PS Ac G0 171 (z7 (qQ [(.pt qL),tI,(.pt qN),tI] (.p tI) (wE g))):=
 fG [(enG (by kernel_rfl) h),qS] [jj 26 0x15555555400000000000000 [] [.t 44 .bool],jj 32 0x55555555555400001440000 [] [.t 9 tI],jj 13 0x155555555555540001440000 [] [.t 21 tI,.t 9 tI],jj 36 0x155555555555555501440000 [] [.t 9 tI],jj 38 0x15555555400000000000000000000000 [] [.t 62 .bool]]
def zEq:xQ PS:=liP (by kernel_rfl) (by kernel_rfl) (by kernel_rfl) (by kernel_rfl) zJi
theorem zDC(g:ElS [(.pt qL),tI,(.pt qN),tI]->Option (RTy.El (.p tI)))(h:jJ PS Ac G0 171 (z7 (qQ [(.pt qL),tI,(.pt qN),tI] (.p tI) g))):zKs PS Ac G0 107 wA 3 (uI [.d (.pt qL),.d tI,.d tI]) (.tu []) (jO g):=
 fGP [zEq,uD,qS,(enG (by kernel_rfl) h),zA7,yV] (A:=(jl [jj 14 0x55554000000000 [] [.t 27 .bool,.e 3 1000000 wA],jj 44 0x15555555555555400000000000500000 [] [.e 3 1000000 wA],jj 21 0x55555555555555540000000000500040 [] [.t 33 tI,.e 3 1000000 wA],jj 48 0x55555555555555555555555000510040 [] [.e 3 1000000 wA],jj 5 0x155555555555555555555555500510040 [] [.t 16 tI,.e 3 1000000 wA]])) (fn:=Tryz.f107) (by kernel_rfl) (by kernel_rfl) (by kernel_rfl) (by intro c h;cases h) (by rintro⟨⟩ f ⟨i,j,k,⟨⟩⟩;kernel_rfl)
theorem zFx(g:Ty.El wA->ElA [.d (.pt qL),.d tI,.d tI]->Option (Ty.El wA×RTy.El (.tu [])))(h:zKs PS Ac G0 107 wA 3 (uI [.d (.pt qL),.d tI,.d tI]) (.tu []) g):jJ PS Ac G0 57 (z7 (qQ [(.pt qL),tI,tI] (.tu [tI,(.sl zQ),.bool]) (wR g))):=
 fG [(qHE (by kernel_rfl) h),zEq,uD,qS] [jj 6 0x5555555554000000 [] [.t 31 .bool],jj 40 0x1555555500000000000001480000 [] [.v 9 [.p wA]],jj 21 0x5555555550000000000001480000 [] [.t 38 tI,.v 9 [.p wA]],jj 44 0x5555555555540000000001480000 [] [.v 9 [.p wA]],jj 52 0x15550000000000000000000000080000 [] [.v 9 [.p wA]]]
theorem zA8:∀n,jJ PS Ac G0 57 (z7 (qQ [(.pt qL),tI,tI] (.tu [tI,(.sl zQ),.bool]) (wP n)))
 |0=>qAP
 |n+1=>zFx _ (zDC _ (zE2 _ (zA8 n)))
theorem zF8:jJ PS Ac G0 57 (z7 (qQ [(.pt qL),tI,tI] (.tu [tI,(.sl zQ),.bool]) qM)):=zA8 4
def zTw:xQ (ptB HH):=liS (by kernel_rfl) (by kernel_rfl) (by kernel_rfl) zJQ
def zE9:xQ (ptB HH):=onG (by kernel_rfl) zEv
def zBT:xQ (ptB HH):=onG (by kernel_rfl) zF8
def zAR:xQ (ptB HH):=onG (by kernel_rfl) zEu
def zAK:xQ (ptB HH):=enG (by kernel_rfl) zHg
theorem zJV:zLF (ptB HH) Ac G0 30 (z7 (zBQ (zBv [zF,(.sl (.sl zC)),tI]) (.p (.sl zC)) zCo)):=
 fHb [zTw,zE9,zBT,zAR,zAK] (A:=(jl [jj 79 0 [(1,83,6)] [.st],jj 6 6004793776537600 [] [.t 26 .bool,.st],jj 68 0x155555554000000000000000040000001f0010000 [] [.o 8 31 zC,.st],jj 49 0x555555555400000000000000040000001f0010000 [] [.t 63 tI,.o 8 31 zC,.st],jj 72 0x555555555555555555554000040000001f1550000 [] [.o 8 31 zC,.st],jj 25 0x1555555555555555555555400040000001f1550000 [] [.t 39 tI,.o 8 31 zC,.st],jj 76 0x1555555555555555555555555540000001f1550000 [] [.o 8 31 zC,.st]])) (fn:=Tryz.f30) (zVq _ (by rfl)) (by kernel_rfl) (by kernel_rfl) (by rintro a ⟨d,e,f,⟨⟩⟩;kernel_rfl)
theorem zK4:OkX 30 [zF,(.sl (.sl zC)),tI] (.p (.sl zC)) zBH:=zOU (fun _=>rfl) (zMC (by kernel_rfl)) (by kernel_rfl) zJV
def zMz:Ent:=j9 zK4
theorem zK7:zLF (ptB HH) Ac G0 23 (z7 (zBQ (zBv [zF,tI,tI]) (.tu [tI,(.sl zQ),.bool]) zDf)):=
 fHb [zBT,zAK] (A:=(jl [jj 10 0x555555550000000 [] [.t 29 .bool,.st]])) (fn:=Tryz.f23) (zVq _ (by rfl)) (by kernel_rfl) (by kernel_rfl) (by rintro a ⟨d,e,f,⟨⟩⟩;kernel_rfl)
theorem zGb:OkX 23 [zF,tI,tI] (.tu [tI,(.sl zQ),.bool]) xF:=zOU (fun _=>rfl) (zMC (by kernel_rfl)) (by kernel_rfl) zK7
def zN3:Ent:=j9 zGb
theorem zIw:zLF (ptB HH) Ac G0 21 (z7 (zBQ (zBv [zF,tI]) (.p (.sl zC)) zEA)):=
 fHb [zAR,zAK] (A:=(jl [jj 6 357913600 [] [.t 14 .bool,.st]])) (fn:=Tryz.f21) (zVq _ (by rfl)) (by kernel_rfl) (by kernel_rfl) (by rintro a ⟨d,e,⟨⟩⟩;kernel_rfl)
theorem zJk:OkX 21 [zF,tI] (.p (.sl zC)) zCp:=zOU (fun _=>rfl) (zMC (by kernel_rfl)) (by kernel_rfl) zIw
end
end Go.Ve
