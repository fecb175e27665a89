/- law16 -/
import Derived.Tactics
import Derived.Tactics2
import Derived.WalkSpells
import Derived.StillTactics
import Derived.OwnWalk
import Derived.Laws.Pointers
import Derived.Deep.RegionHeld3
import Derived.Deep.RegionLaw
import Derived.Deep.AppendLies
import Derived.KernelRfl
import Derived.RegionTactic
import Derived.Lib.Hide
import Derived.Laws.CopyOwn
import Derived.Test.YtgiopebfjmfmhaaGreatLp27
import Derived.Test.YtgiopebfjmfmhaaGreatLp23
import Derived.Test.YtgiopebfjmfmhaaGreatLp2
set_option linter.unusedVariables false
open Option renaming some->Sa,none->Sb
open List renaming range->Aa
open Go.Lib renaming hid->Ab
set_option maxRecDepth 1000000
set_option maxHeartbeats 4000000
namespace Go.Ve
open Go Go.Proofs Go.Shelf Go.RowKit
def zH2(c:Array Value)(f:Nat->Value):Array Value:=Array.ofFn (n:=83) fun i=>if 11<=i.val/\i.val<75 then f (i.val-11)else c.getD i.val undef
theorem zEd(c:Array Value)(f:Nat->Value):(zH2 c f).size=83:=by simp[zH2]
variable {j:Array Value}{C:Nat->Value}
theorem zAs{i:Nat}(hi:i<83):(zH2 j C)[i]?=Sa (if 11<=i/\i<75 then C (i-11)else j.getD i undef):=by simp[zH2,hi]
variable {g:Nat}{J:Value}
theorem qEl(d:g<64):(zH2 j C).setIfInBounds (11+g) J=zH2 j (fun i=>if i=g then J else C i):=by
 apply co;intro i;rw[cC,zEd];by_cases a:i<83
 .rw[zAs a,zAs a]
  grind
 simp_all[zEd,if_neg]
structure But(b:Nat)(w w':World):Prop where
 heap:∀i,i<w.heap.size->i≠b->w'.heap[i]?=w.heap[i]?
 size:w.heap.size<=w'.heap.size
 os:w'.os=w.os
 tape:w'.tape=w.tape
 output:w'.output=w.output
 drawn:w.drawn<=w'.drawn
theorem But.refl(b:Nat)(w:World):But b w w:=⟨fun _ _ _=>rfl,ai _,rfl,rfl,rfl,ai _⟩
theorem But.trans{b:Nat}{w w' a:World}(h:But b w w')(k:But b w' a):But b w a:=
 ⟨fun i c hb=>(k.heap i (az c h.size) hb).trans (h.heap i c hb),aj h.size k.size,k.os.trans h.os,k.tape.trans h.tape,k.output.trans h.output,aj h.drawn k.drawn⟩
variable {i l:World}
theorem But.set(h:But g i l)(off:Nat)(v:Value):But g i (l.setCell ⟨g,off,Sb⟩ v):=
 ⟨fun b a hb=>by
  rw[<-h.heap b a hb];show(l.heap.modify _ _)[b]?=_
  grind,by show _<=(l.heap.modify _ _).size;simpa using h.size,h.os,h.tape,h.output,h.drawn⟩
variable {P:TypeId}
theorem xU{off:Nat}{v:Value}{fl:Nat×Nat}(h:i.heap[g]?=Sa (.cells j P fl)):(i.setCell ⟨g,off,Sb⟩ v).heap[g]?=Sa (.cells (j.setIfInBounds off v) P fl):=by
 show(i.heap.modify g _)[g]?=_
 grind
theorem But.row(h:But g i l)(cs:Array Value):But g i (l.setRow g cs):=
 ⟨fun b a hb=>(setRow_other l g b cs hb).trans (h.heap b a hb),by show _<=(l.setRow g cs).heap.size;simpa[World.setRow]using h.size,h.os,h.tape,h.output,h.drawn⟩
theorem But.drew{b:Nat}(h:But b i l)(q:Nat):But b i (l.drewN q):=
 ⟨h.heap,h.size,h.os,h.tape,h.output,by show i.drawn<=l.drawn+q;have:=h.drawn;omega⟩
theorem zZL{g:Nat->Value}(h:∀k,k<64->C k=g k):zH2 j C=zH2 j g:=by
 apply co;intro i;by_cases a:i<83
 .rw[zAs a,zAs a]
  grind
 grind[Array.getElem?_eq_none,zEd]
theorem zSW{P:Program}{ops:Array Oper}{o:Oper}{a:Act}{K:Act->World->Prop}{Q:Exit->Act->World->Prop}{E:Prop}(q:o.guard=Sb)(d s:Operand)(r y:TypeId)(z:o.op=.call { callee:=.builtin .copy,args:= #[d,s],argTypes:= #[r,y] })(c:TypeId)(A:P.underlying r=Sa (.slice c))(u:(P.info? c).map (·.size)=Sa 1)(g off e k:Nat)(x:Addr)(f l:Nat)(B:a.eval d=.slice (Sa ⟨g,off,Sb⟩) e k)(C:a.eval s=.slice (Sa x) f l)(w:Array Value)(t:TypeId)(D:i.heap[g]?=Sa (.cells w t (0,0)))(cs:List Value)(F:cs.length=Nat.min f e)(m:∀j v,cs[j]?=Sa v->i.cell? (x.add j)=Sa v)(n:off+cs.length<=w.size)(G:∀v∈cs,v.oneCell'=true)(h:K (a.put o.dst (goInt cs.length)) (i.setRow g (w.toList.take off++(cs++w.toList.drop (off+cs.length))).toArray)):
  if Region.wanted o (yielded ops a.tmps)=true then Oper.wp P o a i K Q else E:=by
 have H:Region.wanted o (yielded ops a.tmps)=true:=by simp[Region.wanted,q]
 rw[if_pos H];have p:=run_copy_row (P:=P) i r y o.type c g off e k x f l w t cs A u D F m n G;unfold Oper.wp;simp[execOp,z,resolve,invoke,builtin,B,C,p];exact h
variable {I:Nat}
theorem qFd{n:Nat}{f:Nat->Int}(h:∀q,q<n->i.cell? ⟨g,I+q,Sb⟩=Sa (.int .i64 (f q))):∀j v,((Aa n).map fun q=>Value.int .i64 (f q))[j]?=Sa v->i.cell? (Addr.add ⟨g,I,Sb⟩ j)=Sa v:=by
 grind[List.getElem?_eq_some_iff,List.getElem?_range,zDw,hlt]
theorem qFe{f:Nat->Int}:∀v∈(Aa g).map (fun q=>Value.int .i64 (f q)),v.oneCell'=true:=by intro v a;obtain⟨q,_,rfl⟩:=aO.1 a;rfl
theorem zXO{c:Array Value}{f:Nat->Value}{k n:Nat}(v:Nat->Value)(p:k+n<=64):
  ((zH2 c f).toList.take (11+k)++((Aa n).map v++(zH2 c f).toList.drop (11+k+((Aa n).map v).length))).toArray=zH2 c (fun i=>if k<=i/\i<k+n then v (i-k)else f i):=by
 apply co;intro i;have a:=zEd c f;have d:(zH2 c f).toList.length=83:=by simpa using a
 have e:∀j,(zH2 c f).toList[j]?=(zH2 c f)[j]? :=fun j=>bN;simp;by_cases l:i<11+k
 .rw[aT (by simp[d];omega),List.getElem?_take_of_lt l,e,zAs (by omega),zAs (by omega)]
  grind
 .rw[aF (by simp[d];omega)];have m:((zH2 c f).toList.take (11+k)).length=11+k:=by simp[d];omega
  rw[m];by_cases g:i- (11+k)<n
  .rw[aT (by simpa using g),aA,bj g,zAs (by omega),if_pos (by omega),if_pos (by omega)]
   grind
  .rw[aF (by grind),cH,e];simp;rw[show 11+k+n+(i- (11+k) -n)=i by omega];by_cases h:i<83
   .rw[zAs h,zAs h]
    grind
   grind[Array.getElem?_eq_none,zEd]
structure qEJ(w wr:World)(ab:Nat)(c:Array Value)(f:Nat->Value):Prop where
 blk:wr.heap[ab]?=Sa (.cells (zH2 c f) 175 (0,0))
 but:But ab w wr
theorem zND(ab n:Nat)(c:Array Value)(mem:Nat->Bool)(ev:Value)(W:World)(f0:Nat->Value)(hn:n<=8)
  (R0:Hid (qEJ W W ab c f0)) (hmem:Hid (∀r,r<8->c.getD (3+r) undef=.bool (mem r))) (he:Hid (c.getD 2 undef=ev)) (ds:Nat->Nat->Int)
  (hcall:Hid (∀w r,But ab W w->r<n->mem r=true->Calls Tryz.prog 26 #[.int .i64 n,ev,.int .i64 r] w fun e w'=>∃v b off cap,e=.returned v/\v=.slice (Sa ⟨b,off,Sb⟩) n cap/\b≠ab/\(∀q,q<n->w'.cell? ⟨b,off+q,Sb⟩=Sa (.int .i64 (ds r q)))/\w'.heap[ab]?=w.heap[ab]? /\But ab w w')):
  Calls Tryz.prog 95 #[.pointer (Sa ⟨ab,0,Sb⟩),.int .i64 n] W fun e w'=>e=.returned (.tuple #[])/\qEJ W w' ab c (fun k=>.int .i64 (if k / 8<n/\mem (k / 8)=true/\k%8<n then ds (k / 8) (k%8)else-1)):=by
 go_enter Tryz.func95,Tryz.ntmps95
 go_wp2_with fail
 go_loopg [6] 8 (fun g s6 wr=>∃r:Nat,s6=.int .i64 r/\r<=8/\8-r<=g/\∃f,Hid (qEJ W wr ab c f/\∀k,k<r*8->f k=.int .i64 (if k / 8<n/\mem (k / 8)=true/\k%8<n then ds (k / 8) (k%8)else-1)))
 case atStart=>exact⟨0,rfl,by omega,by omega,_,R0.out,fun k hk=>absurd hk (by omega)⟩
 case round=>
  obtain⟨r,rfl,hr,hg,f,R⟩:=hrel;by_cases hlt:r<8
  .go_wp2_with fail
   go_loopg [9] 8 (fun g s9 wr2=>∃q:Nat,s9=.int .i64 q/\q<=8/\8-q<=g/\∃f',Hid (qEJ W wr2 ab c f'/\(∀k,k<r*8->f' k=.int .i64 (if k / 8<n/\mem (k / 8)=true/\k%8<n then ds (k / 8) (k%8)else-1))/\∀k,r*8<=k->k<r*8+q->f' k=.int .i64 (-1)))
   case atStart=>exact⟨0,rfl,by omega,by omega,f,R.out.1,R.out.2,fun k hk hk'=>absurd hk' (by omega)⟩
   case round=>
    obtain⟨q,rfl,hq,hg2,f',R'⟩:=hrel;by_cases hltq:q<8
    .have hb:=R'.out.1.blk;have c0:wr.cell? ⟨ab,11+r*8+q,Sb⟩=Sa (f' (r*8+q)):=by simp only[World.cell?,hb];exact(zAs (i:=11+r*8+q) (by omega)).trans (by rw[if_pos (by omega),show 11+r*8+q-11=r*8+q by omega])
     have z0:wr.frozen? ⟨ab,11+r*8+q,Sb⟩=false:=by simp only[World.frozen?,hb];simp
     have HB:=Ab hb;clear hb
     have N:Hid (∃f'',qEJ W (wr.setCell ⟨ab,11+r*8+q,Sb⟩ (.int .i64 (-1))) ab c f''/\(∀k,k<r*8->f'' k=.int .i64 (if k / 8<n/\mem (k / 8)=true/\k%8<n then ds (k / 8) (k%8)else-1))/\∀k,r*8<=k->k<r*8+(q+1)->f'' k=.int .i64 (-1)):=by
      refine⟨fun i=>if i=r*8+q then .int .i64 (-1)else f' i,⟨?_,R'.out.1.but.set _ _⟩,fun k hk=>?_,fun k h1 h2=>?_⟩
      .have:=xU (off:=11+r*8+q) (v:=.int .i64 (-1)) HB.out;rw[show 11+r*8+q=11+(r*8+q) by omega,qEl (by omega)]at this;rw[show 11+r*8+q=11+(r*8+q) by omega];exact this
      .simp only;rw[if_neg (by omega)];exact R'.out.2.1 k hk
      .simp only;by_cases hk:k=r*8+q
       .rw[if_pos hk]
       .rw[if_neg hk];exact R'.out.2.2 k h1 (by omega)
     go_wp2_with fail
     go_roundg (8- (q+1))
     case measure=>omega
     case rel=>
      obtain⟨f2,n1,n2,n3⟩:=N.out;exact⟨q+1,by go_num,by omega,by omega,f2,n1,n2,n3⟩
    .have hq8:q=8:=by omega
     subst hq8;have hb:=R'.out.1.blk;have c3:wr.cell? ⟨ab,3+r,Sb⟩=Sa (.bool (mem r)):=by simp only[World.cell?,hb];exact(zAs (i:=3+r) (by omega)).trans (by rw[if_neg (by omega),hmem.out r hlt])
     have c2:wr.cell? ⟨ab,2,Sb⟩=Sa ev:=by simp only[World.cell?,hb];exact(zAs (i:=2) (by omega)).trans (by rw[if_neg (by omega),he.out])
     have HB:=Ab hb;clear hb;by_cases hrn:r<n
     .cases hm:mem r with
      |false=>
       rw[hm]at c3
       have N:Hid (∀k,k< (r+1)*8->f' k=.int .i64 (if k / 8<n/\mem (k / 8)=true/\k%8<n then ds (k / 8) (k%8)else-1)):=by
        intro k hk;by_cases h:k<r*8
        .exact R'.out.2.1 k h
        .rw[R'.out.2.2 k (by omega) (by omega),show k / 8=r by omega,if_neg (by rw[hm];simp)]
       clear hm
       go_wp2_with fail
       go_roundg (8- (r+1))
       case measure=>omega
       case rel=>exact⟨r+1,by go_num,by omega,by omega,f',R'.out.1,N.out⟩
      |true=>
       rw[hm]at c3;have HM:=Ab hm;clear hm;have HF1:Hid (∀f:Nat->Int,((Aa n).map fun q=>Value.int .i64 (f q)).length=Nat.min n 8):=Ab (fun f=>by rw[aK,b9];exact(cu hn).symm);have HF2:Hid (∀f:Nat->Int,11+r*8+((Aa n).map fun q=>Value.int .i64 (f q)).length<=(zH2 c f').size):=Ab (fun f=>by rw[aK,b9,zEd];omega);have HS:Hid ((Tryz.prog.info? 3).map (·.size)=Sa 1):=Ab (by kernel_rfl)
       go_wp2_with fail
       go_region_law (first
        |(go_simp;go_at_call 26;refine(hcall.out _ r (R'.out.1.but.drew _) hrn HM.out).mono ?_;rintro e w2 ⟨sv,sb,so,sc,rfl,rfl,hsne,hscell,hsab,hsbut⟩;have HB3:Hid (w2.heap[ab]?=Sa (.cells (zH2 c f') 175 (0,0))):=Ab (hsab.trans HB.out);have HSC:=Ab (qFd hscell);have HSB:=Ab hsbut;clear hscell hsab hsbut)
        |(refine zSW (by rfl) (.tmp 36) (.tmp 43) 25 25 (by rfl) 3 Tryz.underlying25 HS.out ab (11+r*8) 8 8 ⟨sb,so,Sb⟩ n sc (by simp[Act.eval]) (by simp[Act.eval]) (zH2 c f') 175 HB3.out ((Aa n).map fun q=>.int .i64 (ds r q)) (HF1.out _) HSC.out (HF2.out _) qFe ?_))
       go_wp2_with fail
       go_roundg (8- (r+1))
       case measure=>omega
       case rel=>
        refine⟨r+1,by go_num,by omega,by omega,(fun i=>if r*8<=i/\i<r*8+n then .int .i64 (ds r (i-r*8))else f' i),Ab ⟨⟨?_,((R'.out.1.but.drew 1).trans HSB.out).row _⟩,fun k hk=>?_⟩⟩
        .exact(setRow_heap w2 ab _ _ 175 _ HB3.out).trans (congrArg (fun x=>Sa (Obj.cells x 175 (0,0))) (by have h:=zXO (c:=c) (f:=f') (k:=r*8) (n:=n) (fun q=>.int .i64 (ds r q)) (by omega);rw[aK,b9]at h;exact h))
        .simp only;by_cases h:r*8<=k/\k<r*8+n
         .rw[if_pos h,show k / 8=r by omega,show k%8=k-r*8 by omega,if_pos ⟨hrn,HM.out,by omega⟩]
         .rw[if_neg h];by_cases h2:k<r*8
          .exact R'.out.2.1 k h2
          .rw[R'.out.2.2 k (by omega) (by omega),if_neg (by omega)]
     .have N:Hid (∀k,k< (r+1)*8->f' k=.int .i64 (if k / 8<n/\mem (k / 8)=true/\k%8<n then ds (k / 8) (k%8)else-1)):=by
       intro k hk;by_cases h:k<r*8
       .exact R'.out.2.1 k h
       .rw[R'.out.2.2 k (by omega) (by omega),show k / 8=r by omega,if_neg (fun h=>hrn h.1)]
      go_wp2_with fail
      go_roundg (8- (r+1))
      case measure=>omega
      case rel=>exact⟨r+1,by go_num,by omega,by omega,f',R'.out.1,N.out⟩
  .have hr8:r=8:=by omega
   subst hr8
   go_wp2_with fail
   go_end0
   refine⟨rfl,?_,R.out.1.but⟩;have:=R.out.1.blk;rw[zZL (fun k hk=>R.out.2 k (by omega))]at this;exact this
def uU(l:List (Int×Int×Int×Int)):List Value:=l.flatMap fun p=>[.int .i64 p.1,.int .u32 p.2.1,.int .i64 p.2.2.1,.int .i64 p.2.2.2]
def uF(num:Int)(pv a:Value)(mem:Nat->Bool)(f:Nat->Value):Array Value:=
 Array.ofFn (n:=83) fun i=>if i.val=0 then .int .i64 num else if i.val=1 then pv else if i.val=2 then a else if i.val<11 then .bool (mem (i.val-3))else if i.val<75 then f (i.val-11)else .slice Sb 0 0
theorem zBz(num:Int)(pv a:Value)(mem:Nat->Bool)(f:Nat->Value):(uF num pv a mem f).size=83:=by simp[uF]
theorem wI{num:Int}{a:Value}{mem:Nat->Bool}{i:Nat}(hi:i<83):
  (uF num J a mem C)[i]?=Sa (if i=0 then .int .i64 num else if i=1 then J else if i=2 then a else if i<11 then .bool (mem (i-3))else if i<75 then C (i-11)else .slice Sb 0 0):=by
 simp[uF,hi]
def zGF:Nat->Value:=fun _=>.int .i64 0
structure zA0(w wr:World)(B Bv:Nat)(v0 v1 v2 v3:Value)(n:Nat)(S:List AR)(av:Value)(bs:Nat->Nat)(pv:Nat->Value):Prop where
 hB:wr.heap[B]?=Sa (.cells #[v0,v1,v2,v3,.int .i64 n,av] 171 (0,0))
 hV:wr.heap[Bv]?=Sa (.cells #[v0,v1,v2,v3] 30 (0,0))
 ha:wr.ownsRow w.heap.size 128 1 av S.length ((Aa S.length).map fun j=>.pointer (Sa ⟨bs j,0,Sb⟩))
 hj:∀j a,S[j]?=Sa a->w.heap.size<=bs j/\wr.heap[bs j]?=Sa (.cells (uF a.num (pv j) (.slice Sb 0 0) a.mem zGF) 175 (0,0))
 hp:∀j a,S[j]?=Sa a->wr.ownsRow w.heap.size 177 4 (pv j) a.parts.length (uU a.parts)
 inj:∀i j,i<S.length->j<S.length->bs i=bs j->i=j
 pinj:∀i j g,i<S.length->j<S.length->(pv i).ownBlock=Sa g->(pv j).ownBlock=Sa g->i=j
 nB:w.heap.size<=B
 nV:w.heap.size<=Bv
 heap:∀i,i<w.heap.size->wr.heap[i]?=w.heap[i]?
 size:w.heap.size<=wr.heap.size
 os:wr.os=w.os
 tape:wr.tape=w.tape
 output:wr.output=w.output
 drawn:w.drawn<=wr.drawn
theorem qR{o:Obj}(h:i.heap[g]?=Sa o):g<i.heap.size:=(ar.1 h).1
variable {a0:Array Value}
theorem zAd{U:TypeId}(h:i.heap[g]?=Sa (.cells j P (0,0)))(k:i.heap[I]?=Sa (.cells a0 U (0,0)))(a:P≠U):g≠I:=by
 grind
theorem qG4{U:TypeId}(h:i.heap[g]?=Sa (.cells j P (0,0)))(k:i.heap[g]?=Sa (.cells a0 U (0,0))):P=U:=
 bG fun a=>zAd h k a rfl
theorem yB{size n:Nat}{xs:List Value}(h:i.ownsRow g I size J n xs)(f:∀a,J.ownBlock=Sa a->l.heap[a]?=i.heap[a]?):l.ownsRow g I size J n xs:=by obtain⟨w,j⟩:=h;refine⟨w,j.imp id ?_⟩;rintro⟨a,c,d,rfl,k,w',m⟩;exact⟨a,c,d,rfl,k,(f a rfl).trans w',m⟩
theorem q9{size n a:Nat}{xs:List Value}(h:i.ownsRow g I size J n xs)(d:J.ownBlock=Sa a):g<=a/\a<i.heap.size/\∃c,i.heap[a]?=Sa (.cells c I (0,0)):=by
 obtain⟨_,f⟩:=h;rcases f with⟨rfl,_⟩|⟨j,w,c,rfl,k,l,_⟩
 .cases d
 .cases d
  grind
section
variable {w wr:World}{B Bv n:Nat}{v0 v1 v2 v3 av:Value}{S:List AR}{bs:Nat->Nat}{pv:Nat->Value}
variable {g:World}
theorem zA0.keep(R:zA0 w wr B Bv v0 v1 v2 v3 n S av bs pv)(h:∀i,i<wr.heap.size->g.heap[i]?=wr.heap[i]?)(e:wr.heap.size<=g.heap.size)(f:g.os=wr.os)(k:g.tape=wr.tape)(l:g.output=wr.output)(m:wr.drawn<=g.drawn):
  zA0 w g B Bv v0 v1 v2 v3 n S av bs pv:=
 ⟨(h B (qR R.hB)).trans R.hB,(h Bv (qR R.hV)).trans R.hV,yB R.ha (fun W c=>h W (q9 R.ha c).2.1),fun j a hj=>⟨(R.hj j a hj).1,(h _ (qR (R.hj j a hj).2)).trans (R.hj j a hj).2⟩,
   fun j a hj=>yB (R.hp j a hj) (fun W c=>h W (q9 (R.hp j a hj) c).2.1),R.inj,R.pinj,R.nB,R.nV,fun i d=>(h i (az d R.size)).trans (R.heap i d),aj R.size e,f.trans R.os,k.trans R.tape,l.trans R.output,aj R.drawn m⟩
theorem zA0.alloc(R:zA0 w wr B Bv v0 v1 v2 v3 n S av bs pv)(o:Obj):zA0 w (wr.alloc o) B Bv v0 v1 v2 v3 n S av bs pv:=
 R.keep (fun i a=>by show(wr.heap.push o)[i]?=_;grind) (by simp_all) rfl rfl rfl (ai _)
theorem zA0.area{j:Nat}{a a':AR}{D:Value}(R:zA0 w wr B Bv v0 v1 v2 v3 n S av bs pv)(hj:S[j]?=Sa a)(E:g.heap[bs j]?=Sa (.cells (uF a'.num D (.slice Sb 0 0) a'.mem zGF) 175 (0,0)))(F:g.ownsRow w.heap.size 177 4 D a'.parts.length (uU a'.parts))(y:∀W,D.ownBlock=Sa W->(pv j).ownBlock=Sa W\/wr.heap.size<=W)(h:∀i,i<wr.heap.size->i≠bs j->(pv j).ownBlock≠Sa i->g.heap[i]?=wr.heap[i]?)(H:wr.heap.size<=g.heap.size)(u:g.os=wr.os)(x:g.tape=wr.tape)(I:g.output=wr.output)(J:wr.drawn<=g.drawn):
  zA0 w g B Bv v0 v1 v2 v3 n (S.set j a') av bs (fun k=>if k=j then D else pv k):=by
 have z:j<S.length:=(aa.1 hj).1;obtain⟨M,K⟩:=R.hj j a hj
 have A:∀{i:Nat} {C:Array Value} {T:TypeId},wr.heap[i]?=Sa (.cells C T (0,0))->T≠175->T≠177->g.heap[i]?=Sa (.cells C T (0,0)):=fun {i C T} m n1 n2=>by
  refine(h i (qR m) (fun d=>?_) (fun d=>?_)).trans m
  .grind
  .obtain⟨_,_,r,q⟩:=q9 (R.hp j a hj) d
   grind
 refine⟨A R.hB (by decide) (by decide),A R.hV (by decide) (by decide),?_,fun k c e=>?_,fun k c e=>?_,fun i k m e=>R.inj i k (by simpa using m) (by simpa using e),fun i k W m e p f=>?_,R.nB,R.nV,
  fun i m=>(h i (az m R.size) (by omega) (fun d=>by have:=(q9 (R.hp j a hj) d).1;omega)).trans (R.heap i m),aj R.size H,u.trans R.os,x.trans R.tape,I.trans R.output,aj R.drawn J⟩
 .rw[cb]
  exact yB R.ha (fun W p=>by
   obtain⟨_,_,r,q⟩:=q9 R.ha p
   grind)
 .by_cases l:k=j
  .grind
  .rw[aS (c9 l)]at e;simp only[if_neg l];obtain⟨L,G⟩:=R.hj k c e;have t:k<S.length:=(aa.1 e).1;refine⟨L,(h _ (qR G) (fun d=>l (R.inj k j t z d)) (fun d=>?_)).trans G⟩;obtain⟨_,_,r,q⟩:=q9 (R.hp j a hj) d
   grind
 .by_cases l:k=j
  .grind
  .rw[aS (c9 l)]at e;simp only[if_neg l];have t:k<S.length:=(aa.1 e).1;refine yB (R.hp k c e) (fun W p=>?_);obtain⟨_,hlt,r,q⟩:=q9 (R.hp k c e) p;exact h W hlt (fun d=>zAd q K (by decide) d) (fun d=>l (R.pinj k j W t z p d))
 .simp at m e;by_cases u:i=j<;>by_cases x:k=j
  .rw[u,x]
  .subst u;rw[if_pos rfl]at p;rw[if_neg x]at f;obtain⟨c,q⟩:∃c,S[k]?=Sa c:=⟨S[k],by simp[e]⟩
   rcases y W p with d|d
   .exact R.pinj _ _ W m e d f
   .have:=(q9 (R.hp k c q) f).2.1;omega
  .subst x;rw[if_pos rfl]at f;rw[if_neg u]at p;obtain⟨c,q⟩:∃c,S[i]?=Sa c:=⟨S[i],by simp[m]⟩
   rcases y W f with d|d
   .exact R.pinj _ _ W m e p d
   .have:=(q9 (R.hp i c q) p).2.1;omega
  .rw[if_neg u]at p;rw[if_neg x]at f;exact R.pinj i k W m e p f
theorem zA0.new{num:Int}{p:Value}{r:Nat}(R:zA0 w wr B Bv v0 v1 v2 v3 n S av bs pv)(x:wr.heap.size<=r)(y:g.heap[B]?=Sa (.cells #[v0,v1,v2,v3,.int .i64 n,p] 171 (0,0)))(t:g.heap[r]?=Sa (.cells (uF num (.slice Sb 0 0) (.slice Sb 0 0) (fun _=>false) zGF) 175 (0,0)))(D:g.ownsRow w.heap.size 128 1 p (S.length+1) (((Aa S.length).map fun j=>Value.pointer (Sa ⟨bs j,0,Sb⟩))++[.pointer (Sa ⟨r,0,Sb⟩)]))(h:∀i,i<wr.heap.size->i≠B->av.ownBlock≠Sa i->g.heap[i]?=wr.heap[i]?)(E:wr.heap.size<=g.heap.size)(l:g.os=wr.os)(m:g.tape=wr.tape)(F:g.output=wr.output)(G:wr.drawn<=g.drawn):
  zA0 w g B Bv v0 v1 v2 v3 n (S++[⟨num,[],fun _=>false⟩]) p (fun k=>if k=S.length then r else bs k) (fun k=>if k=S.length then .slice Sb 0 0 else pv k):=by
 have z:∀{i:Nat} {C:Array Value} {T:TypeId},wr.heap[i]?=Sa (.cells C T (0,0))->T≠171->T≠128->g.heap[i]?=Sa (.cells C T (0,0)):=fun {i C T} d n1 n2=>by
  refine(h i (qR d) (fun e=>?_) (fun e=>?_)).trans d
  .subst e;exact n1 (qG4 d R.hB)
  .obtain⟨_,_,A,u⟩:=q9 R.ha e
   grind
 have vA:∀k c,(S++[(⟨num,[],fun _=>false⟩:AR)])[k]?=Sa c->(k<S.length/\S[k]?=Sa c)\/(k=S.length/\c=⟨num,[],fun _=>false⟩):=by
  grind
 refine⟨y,z R.hV (by decide) (by decide),?_,fun k c a=>?_,fun k c a=>?_,fun i k d a e=>?_,fun i k W d a q f=>?_,R.nB,R.nV,
  fun i d=>(h i (az d R.size) (by have:=R.nB;omega) (fun e=>by have:=(q9 R.ha e).1;omega)).trans (R.heap i d),aj R.size E,l.trans R.os,m.trans R.tape,F.trans R.output,aj R.drawn G⟩
 .rw[aN,bL,dG,bw,List.map_singleton,if_pos rfl]
  have:(Aa S.length).map (fun j=>Value.pointer (Sa ⟨if j=S.length then r else bs j,0,Sb⟩))=(Aa S.length).map (fun j=>Value.pointer (Sa ⟨bs j,0,Sb⟩)):=by
   apply bH
   grind
  grind
 .rcases vA k c a with⟨hlt,a⟩|⟨rfl,rfl⟩
  .simp only[if_neg (show k≠S.length by omega)];obtain⟨H,I⟩:=R.hj k c a
   grind
  .simp;exact⟨aj R.size x,t⟩
 .rcases vA k c a with⟨hlt,a⟩|⟨rfl,rfl⟩
  .simp only[if_neg (show k≠S.length by omega)];refine yB (R.hp k c a) (fun W q=>?_);obtain⟨_,_,A,u⟩:=q9 (R.hp k c a) q
   grind
  .simp only[if_true];exact⟨rfl,.inl ⟨rfl,rfl⟩⟩
 .simp at d a;by_cases l:i=S.length<;>by_cases m:k=S.length
  .omega
  .rw[if_pos l,if_neg m]at e;obtain⟨c,u⟩:∃c,S[k]?=Sa c:=⟨S[k]'(by omega),by simp⟩
   have:=qR (R.hj k c u).2;omega
  .rw[if_neg l,if_pos m]at e;obtain⟨c,u⟩:∃c,S[i]?=Sa c:=⟨S[i]'(by omega),by simp⟩
   have:=qR (R.hj i c u).2;omega
  .rw[if_neg l,if_neg m]at e;exact R.inj i k (by omega) (by omega) e
 .simp at d a;by_cases l:i=S.length
  .rw[if_pos l]at q;cases q
  .by_cases m:k=S.length
   .rw[if_pos m]at f;cases f
   .rw[if_neg l]at q;rw[if_neg m]at f;exact R.pinj i k W (by omega) (by omega) q f
end
structure jW(w w':World):Prop where
 heap:∀i,i<w.heap.size->w'.heap[i]?=w.heap[i]?
 size:w.heap.size<=w'.heap.size
 os:w'.os=w.os
 tape:w'.tape=w.tape
 output:w'.output=w.output
 drawn:w.drawn<=w'.drawn
theorem jW.refl(w:World):jW w w:=⟨fun _ _=>rfl,ai _,rfl,rfl,rfl,ai _⟩
theorem jW.drawN(w:World)(q:Nat):jW w (w.drewN q):=⟨fun _ _=>rfl,ai _,rfl,rfl,rfl,by show w.drawn<=w.drawn+q;omega⟩
theorem jW.trans{w w' a:World}(h:jW w w')(k:jW w' a):jW w a:=
 ⟨fun i c=>(k.heap i (az c h.size)).trans (h.heap i c),aj h.size k.size,k.os.trans h.os,k.tape.trans h.tape,k.output.trans h.output,aj h.drawn k.drawn⟩
theorem jW.alloc{w w':World}(h:jW w w')(o:Obj):jW w (w'.alloc o):=
 h.trans ⟨fun i a=>by show(w'.heap.push o)[i]?=_;grind,by simp_all,rfl,rfl,rfl,ai _⟩
variable {i:Int}{C:Nat}{I:Nat->Bool}{j:Nat->Value}{g l:Value}
theorem zZ9(c:C<8):(uF i g l I j).setIfInBounds (3+C) (.bool true)=uF i g l (fun k=>if k=C then true else I k) j:=by
 apply co;intro num;rw[cC,zBz];by_cases a:num<83
 .rw[wI a,wI a]
  grind
 simp_all[zBz,if_neg]
variable {J:Value}
theorem qCz:(uF i g l I j).setIfInBounds 1 J=uF i J l I j:=by
 apply co;intro num;rw[cC,zBz];by_cases a:num<83
 .rw[wI a,wI a]
  grind
 simp_all[zBz,if_neg]
theorem zUG:(uF i g l I j).setIfInBounds 2 J=uF i g J I j:=by
 apply co;intro num;rw[cC,zBz];by_cases a:num<83
 .rw[wI a,wI a]
  grind
 simp_all[zBz,if_neg]
theorem zG2{p:Nat->Value}:zH2 (uF i g l I j) p=uF i g l I p:=by
 apply co;intro num;by_cases a:num<83
 .have c:(uF i g l I j).getD num undef=(if num=0 then .int .i64 i else if num=1 then g else if num=2 then l else if num<11 then .bool (I (num-3))else if num<75 then j (num-11)else .slice Sb 0 0):=by rw[bf,wI a];rfl
  rw[zAs a,wI a,c]
  grind
 grind[Array.getElem?_eq_none,zEd,zBz]
variable {P:World}
theorem qE3{F:Blk->Prop}{t:Ty}{xs:List t.El}(h:Rd P F g (.tl t xs)):∃a c,g=.slice a xs.length c:=by
 cases h with
 |tl _ _ _ h=>
  generalize i:xs.map t.enc=e at h;have j:e.length=xs.length:=by rw[<-i];simp
  cases h with
  |slemp a d=>simp_all
  |sl b k d m e w l f p q r=>simp_all
theorem zNd{e size n:Nat}{v:Value}{xs:List Value}(h:P.ownsRow C e size v n xs)(c:0<n):∃g cap,v=.slice (Sa ⟨g,0,Sb⟩) n cap/\C<=g/\g<P.heap.size/\∀j u,xs[j]?=Sa u->P.cell? ⟨g,j,Sb⟩=Sa u:=by
 obtain⟨g,cap,d,f,i⟩:=h.form c;subst d;refine⟨g,cap,rfl,f,i,fun j u k=>?_⟩;have:=h.cells (g:=g) rfl j u k
 rwa [zDw,bz]at this
variable {a0:List AR}
theorem qCx(h:∀(k:Nat) (a:AR),a0[k]?=Sa a->a.num≠i):zPo a0 i=none:=by
 grind[List.findIdx?_eq_none_iff,List.getElem?_of_mem,zPo]
theorem qCw{a:AR}(c:a0[C]?=Sa a)(d:a.num=i)(h:∀(j:Nat) (b:AR),j<C->a0[j]?=Sa b->b.num≠i):zPo a0 i=Sa C:=by
 grind[List.findIdx?_eq_some_iff_getElem,List.getElem?_eq_some_iff,zPo]
theorem qCs{wr:World}{Bv n:Nat}{v3 av:Value}{bs:Nat->Nat}(num:Int)(R:Hid (zA0 P wr C Bv g l J v3 n a0 av bs j))(hlen:a0.length<=1048576):
  Calls Tryz.prog 61 #[.pointer (Sa ⟨C,0,Sb⟩),.int .i64 num] wr fun e w'=>e=.returned (.pointer ((zPo a0 num).map fun B=>⟨bs B,0,Sb⟩))/\w'=wr:=by
 by_cases hS:a0=[]
 .subst hS
  obtain⟨ad,cap,rfl⟩:∃ad cap,av=.slice ad 0 cap:=by
   rcases R.out.ha.2 with⟨h,_⟩|⟨w,cap,cur,h1,_⟩
   all_goals grind
  have c5:wr.cell? ⟨C,5,Sb⟩=Sa (.slice ad 0 cap):=by rw[cell_of_row wr C 5 _ _ _ R.out.hB];rfl
  go_enter Tryz.func61,Tryz.ntmps61
  go_wp2_with fail
  go_loopg [12] 1 (fun w s12 wx=>s12=.int .i64 0/\wx=wr)
  case atStart=>grind
  case round=>
   obtain⟨rfl,rfl⟩:=hrel
   go_wp2_with fail
   go_ret
   exact⟨rfl,rfl⟩
 .have hpos:0<a0.length:=de.2 hS;obtain⟨w,cap,rfl,hg1,hg2,hg3⟩:=zNd R.out.ha hpos;have c5:wr.cell? ⟨C,5,Sb⟩=Sa (.slice (Sa ⟨w,0,Sb⟩) a0.length cap):=by rw[cell_of_row wr C 5 _ _ _ R.out.hB];rfl
  have HC:Hid (∀B,B<a0.length->wr.cell? ⟨w,B,Sb⟩=Sa (.pointer (Sa ⟨bs B,0,Sb⟩))):=Ab (fun B hj=>hg3 B _ (by simp[hj]))
  have HN:Hid (∀(B:Nat) (a:AR),a0[B]?=Sa a->wr.cell? ⟨bs B,0,Sb⟩=Sa (.int .i64 a.num)):=Ab (fun B a hj=>by
   have:=(R.out.hj B a hj).2
   grind[wI,World.cell?])
  clear hg1 hg2 hg3
  go_enter Tryz.func61,Tryz.ntmps61
  go_wp2_with fail
  go_loopg [12] a0.length (fun gg s12 wx=>∃i:Nat,s12=.int .i64 i/\i<=a0.length/\a0.length-i<=gg/\wx=wr/\Hid (∀(k:Nat) (a:AR),k<i->a0[k]?=Sa a->a.num≠num))
  case atStart=>exact⟨0,rfl,by omega,by omega,rfl,Ab (fun k a hk=>absurd hk (by omega))⟩
  case round=>
   obtain⟨i,rfl,hi,hgg,rfl,HK⟩:=hrel;by_cases hlt:i<a0.length
   .obtain⟨a,ha⟩:∃a,a0[i]?=Sa a:=⟨a0[i],by simp[hlt]⟩
    have c0:=HC.out i hlt;have c1:=HN.out i a ha;have HA:=Ab ha;clear ha;by_cases hnum:a.num=num
    .go_wp2_with fail
     go_ret
     rw[qCw HA.out hnum (fun B b hj hb=>HK.out B b hj hb)];exact⟨rfl,rfl⟩
    .go_wp2_with fail
     go_roundg (a0.length- (i+1))
     case measure=>omega
     case rel=>
      refine⟨i+1,by go_num,by omega,by omega,rfl,Ab (fun k b hk hb=>?_)⟩;by_cases hki:k=i
      .subst hki;rw[HA.out]at hb
       grind
      .exact HK.out k b (by omega) hb
   .have hil:i=a0.length:=by omega
    subst hil
    go_wp2_with fail
    go_ret
    rw[qCx (fun k a hk=>HK.out k a (aa.1 hk).1 hk)];exact⟨rfl,rfl⟩
end Go.Ve
