/-
  Functions out of code, part 6: contracts of functions to which a list is lent.
  Functions out of code, part 7: slices that go by a number: a state of lists; append.
  Functions out of code, part 8: contracts over a state of lists; from such a state to none, and from none to any.
  Functions out of code, part 9: a function with a state of lists of its own is a function without.
-/
import Derived.Test.YtcnlcmbchljpgaaGreatPt9
set_option linter.unusedVariables false
namespace Go.Ve
open Go
def zPt (n:Nat) (t:Ty) (xs:List t.El) (ds:List V):List T:= .ot jP t xs::(ds.map .p++List.replicate (n- (ds.length+1)) (.p (.val undef)))
def zJ5 {St:Type} (n:Nat) (s:St) (t:Ty) (xs:List t.El) (ds:List V):Env St:= { tm:=zPt n t xs ds,vars:=List.replicate n none,st:=s }
def zWu {St:Type} (e:Env St) (t:Ty):Option (List t.El):=
 match e.get 0 with
 | .ot id t' ys=>match Nat.beq id jP with
  |true=>zDK t' t ys
  |false=>none
 |_=>none
def RTy.getP:(R:RTy)→RV→Option R.El
 | .p ty, .p d=>ty.dec d
 | .tu tys, .p (.tup ds)=>zFs tys ds
 |_,_=>none
section
variable {Γ:Sig} {P:Program} {G:Nat→Option (List V)}
noncomputable def qCK (L:jJ) (G:Nat→Option (List V)) (S:zQ Γ) (A:Nat→Option JA) (fn:Func) (c:Code) (t:Ty) (R:RTy) (s:Γ.St) (xs:List t.El) (ds:List V):Option (List t.El×R.El):=
 zDU (zJ5 fn.ntmps s t xs ds) (fun e=>exC L G S A c (List t.El×R.El) (fun k e1 _=>match k with
  | .exit _=>none
  |_=>match zWu e1 t with
   |some ys=>match zCC L e1 fn with
    |some r=>match R.getP r with
     |some y=>zLW (Nat.beq ys.length xs.length) (some (ys,y))
     |none=>none
    |none=>none
   |none=>none) e 0)
theorem zNZ (t:Ty) (x:t.El) (h:t.flat=true): ∃u,(t.enc x).toVal1=some u:=by
 have hp:=zQr t [x] h
 simp only [RV.plain,cu,dD,dw,List.all_nil,c8] at hp
 exact bv.1 hp
theorem zXX {d:V} {u:Value} (h:d.toVal1=some u): ∃u',d.toVal=some u':=by
 cases d<;>first|exact ⟨u,h⟩|(simp [V.toVal1] at h)
theorem zSt: ∀ (ts:List Ty) (x:ElS ts),ts.all Ty.flat=true→(kP ts x).all (fun d=>d.toVal1.isSome)=true
 |[],_,_=>rfl
 |t::ts,x,h=>by
  simp only [dw,aj] at h
  simp only [kP,dw,aj]
  obtain ⟨u,hu⟩:=zNZ t x.1 h.1
  exact ⟨by rw [hu];rfl,zSt ts x.2 h.2⟩
theorem zT2 {R:RTy} (h:R.pl=true) (hno: ∀ty,R≠ .o ty) (y:R.El): ∃u,(R.val y).toVal=some u:=by
 cases R with
 |p ty=>obtain ⟨u,hu⟩:=zNZ ty y h;exact zXX hu
 |o ty=>exact absurd rfl (hno ty)
 |tu tys=>
  have:=zSt tys y h
  exact ⟨_,by simp only [RTy.val,V.toVal];rw [if_pos this]⟩
theorem zQn {w:World} {F:Blk→Prop} {v:Value} {R:RTy} {d:V} {y:R.El} (h:R.getP (.p d)=some y) (hr:Rd w F v d):Rd w F v (R.val y):=by
 cases R with
 |p ty=>exact kX (t:=ty) (x:=y) h _ _ _ hr
 |o ty=>simp [RTy.getP] at h
 |tu tys=>
  cases d with
  |tup ds=>exact WkV.tup (uU _ _ _ h) _ _ _ hr
  |_=>simp [RTy.getP] at h
theorem zSw {w0:World} {F0:Blk→Prop} {O0:xA} {a:Act} {w:World} {e:Env Γ.St} (hi:Inv Γ G w0 F0 O0 a w e) {fn:Func} {d:V} (h:zCC P e fn=some (.p d)):
  ∃v F',(results fn a.tmps).run P w= .ok v w∧Rd w F' v d:=by
 obtain ⟨F,O,β,hc,hG,hsz,hdf,ht,hv⟩:=hi
 have hvars: ∀s cs,e.var s=some cs→zU e (.v s)→jH w F β (zU e) (β.vb s) cs:=fun s cs hcs _=>hv s cs hcs
 have hrun: ∀us,(fn.results.toList.mapM (zR7 a.tmps)).run P w= .ok us w→
   (results fn a.tmps).run P w= .ok (if h:us.length=1 then us[0] else .tuple us.toArray) w:=by
  intro us hus
  rw [zPE,dg]
  simp only [Sem.run_bind,Sem.run_map,hus,Result.andThen_ok,Sem.run_pure]
  rfl
 have hone: ∀r0,fn.results.toList=[r0]→ ∀d,zZI P e r0=some d→ ∃v F',(results fn a.tmps).run P w= .ok v w∧Rd w F' v d:=by
  intro r0 hr d hd
  obtain ⟨us,h1,h2,h3⟩:=zIJ (P:=P) hvars ht [r0] [d] (by simp [zFG,hd])
  cases us with
  |nil=>simp at h2
  |cons u us=>
   cases us with
   |cons _ _=>simp at h2
   |nil=>
    have:=hrun [u] (by rw [hr];exact h1)
    exact ⟨u,_,by simpa using this,h3 0 u d rfl rfl⟩
 unfold zCC at h
 split at h
 ·rename_i t hres
  split at h
  ·cases h
  ·rename_i id k hx
   have hT:=ht t
   rw [hx] at hT
   obtain ⟨ha,cap,hvv,hrow⟩:=hT
   simp only [aa,RV.p.injEq] at h;subst h
   have hrun1:(results fn a.tmps).run P w= .ok (a.tmps.getD t undef) w:=by
    have:=hrun [a.tmps.getD t undef] (by rw [hres];rfl)
    simpa using this
   exact ⟨_,F,hrun1,by rw [hvv];exact .slemp _ _⟩
  ·cases h
  ·cases h
  ·simp only [ah] at h
   obtain ⟨d',hd,heq⟩:=h
   cases heq
   exact hone _ hres d hd
 ·rename_i r0 _ hres
  simp only [ah] at h
  obtain ⟨d',hd,heq⟩:=h
  cases heq
  exact hone _ hres d hd
 ·rename_i hn1 hn2
  simp only [ah] at h
  obtain ⟨ds,hds,heq⟩:=h
  cases heq
  obtain ⟨us,h1,h2,h3⟩:=zIJ (P:=P) hvars ht _ ds hds
  have hrun2:=hrun us h1
  have hne:us.length≠1:=by
   intro hl
   have hlen: ∀ (l:List ResultVar) (ds:List V),zFG P e l=some ds→ds.length=l.length:=by
    intro l
    induction l with
    |nil=>intro ds h;simp [zFG] at h;subst h;rfl
    |cons r l ih=>
     intro ds h
     simp only [zFG] at h
     split at h
     ·rename_i d ds' hd hds
      simp only [aa] at h;subst h
      simp [ih ds' hds]
     ·cases h
   have:=hlen _ ds hds
   match hl':fn.results.toList with
   |[]=>rw [hl'] at this;simp only [av] at this;omega
   |[r0]=>exact hn2 r0 hl'
   |_::_::_=>rw [hl'] at this;simp only [aA] at this;omega
  rw [dif_neg hne] at hrun2
  exact ⟨_,_,hrun2, .tup _ ds (by simpa using h2) (fun i x d hi hd=>h3 i x d (by simpa using hi) hd)⟩
theorem qAj [hsub:Subsingleton Γ.St] {S:zQ Γ} {A:Nat→Option JA} (hmix:P.follows .mixedOrders=true) (hS:qG Γ P G S.toS) {f:FuncId} {fn:Func} {c:Code} (hf:P.funcs[f]? =some fn) (hb:fn.body=some c)
  {t:Ty} {X:Type} {dec:List V→Option X} {enc:X→List V} (hdec: ∀ds x,dec ds=some x→w5 ds (enc x)) (hnb: ∀ds x,dec ds=some x→zCQ ds=none) {R:RTy} (hpl:R.pl=true) (hno: ∀ty,R≠ .o ty) {g:List t.El→X→Option (List t.El×R.El)}
  (h: ∀s xs x,qCK (Γ:=Γ) P G S A fn c t R s xs (enc x)=g xs x):zBH Γ P G f t dec R g:=by
 intro s xs r x ys y hx hy
 refine zBI.of (hnb r x hx) ?_
 intro w F O b v0 args hsig hG hF hown hb0 hsize ha0 hrd
 have hwk:=hdec r x hx
 have hlen':args.size=(enc x).length+1:=hsize.trans (by rw [hwk.len])
 have hrd': ∀ (i:Nat) (u:Value) (d:V),args[i+1]? =some u→(enc x)[i]? =some d→Rd w F u d:=by
  intro i u d hu hd
  have hlt:i<r.length:=by rw [hwk.len];exact (ac.1 hd).1
  exact hwk.get i r[i] d (by simp [hlt]) hd w F u (hrd i u r[i] hu (by simp [hlt]))
 have hex:=h s xs x
 rw [hy] at hex
 unfold qCK at hex
 rw [uE] at hex
 obtain ⟨k,e',d,hok,_,hend⟩:=zIX (fun _ _ _=> .inl hsub) hmix hS c _ _ _ _ _ hex
 have hk:(k= .normal∨k= .ret)∧(match zWu e' t with
   |some ys=>match zCC (jJ.of P) e' fn with
    |some r=>match R.getP r with
     |some y=>zLW (Nat.beq ys.length xs.length) (some (ys,y))
     |none=>none
    |none=>none
   |none=>none)=some (ys,y):=by
  cases k with
  |normal=>exact ⟨.inl rfl,hend⟩
  |ret=>exact ⟨.inr rfl,hend⟩
  |exit id=>cases hend
 obtain ⟨hk,hend⟩:=hk
 split at hend
 ·rename_i ys' hys
  split at hend
  ·rename_i rv hrv
   split at hend
   ·rename_i y' hy'
    obtain ⟨hlen0,hend⟩:=yT.1 hend
    have hlen0:=aQ hlen0
    simp only [aa,ak] at hend
    obtain ⟨rfl,rfl⟩:=hend
    refine calls_of_wp hf hb ?_
    have hcap: ∃cap,xs≠[]→v0= .slice (some ⟨b,0,none⟩) xs.length cap∧xs.length≤cap∧ ∃ (c:Array Value) (et:TypeId) (fl:Nat×Nat),w.heap[b]? =some (.cells c et fl)∧c.size=cap*t.size:=by
     rcases hown with ⟨h1,_⟩|⟨h1,_,cap,h2,c,et,h3,h4,h5,_⟩
     ·exact ⟨0,fun h=>absurd (by simpa using h1) h⟩
     ·exact ⟨cap,fun _=>⟨by simpa using h2,by simpa using h5,c,et,(0,0),h3,h4⟩⟩
    obtain ⟨cap,hcap⟩:=hcap
    let β:Lay:=⟨fun _=>0,fun _=>b⟩
    let al:j7→Prop:=fun q=>q= .o jP∧xs≠[]
    let O0:xA:=⟨O,if xs=[] then none else some (b,cap*t.size)⟩
    have h0T:zW w F β al v0 (.ot jP t xs):=by
     rcases hown with ⟨h1,h2⟩|⟨h1,_,h2⟩
     ·exact .inl ⟨h1,h2⟩
     ·exact .inr ⟨h1,⟨rfl,fun hh=>h1 (by rw [hh];rfl)⟩,h2⟩
    have jB: ∀q,zW w F β al ((args++Array.replicate (fn.ntmps-args.size) undef).getD q undef) ((zJ5 fn.ntmps s t xs (enc x)).get q):=by
     intro q
     simp only [zJ5,zPt,Env.get,az,au]
     cases q with
     |zero=>
      rw [bf (by omega),ha0]
      exact h0T
     |succ q=>
      rw [bx]
      by_cases ht:q< (enc x).length
      ·rw [aS (by simpa using ht),bf (by omega)]
       rw [am,ai ht,aP (by omega)]
       exact hrd' q _ _ (by simp [show q+1<args.size by omega]) (by simp [ht])
      ·rw [aT (by simpa using cN ht),bL (by omega),hlen']
       simp only [aW]
       by_cases h2:q- (enc x).length<fn.ntmps- ((enc x).length+1)
       ·rw [a8,if_pos h2,bR,if_pos (by omega)]
        exact Rd.val _
       ·rw [a8,if_neg h2]
        trivial
    have hnovar: ∀s0,(zJ5 fn.ntmps s t xs (enc x)).var s0=none:=by
     intro s0
     simp only [zJ5,Env.var,a8]
     split<;>rfl
    have hl:xs≠[]→O0.l=some (b,cap*t.size):=fun hh=>by simp [O0,hh]
    have hinv:Inv Γ G w F O0 { tmps:=args++Array.replicate (fn.ntmps-args.size) undef,defers:=[] } w (zJ5 fn.ntmps s t xs (enc x)):=by
     refine Inv.of (F:=F) (O:=O) (β:=β) (al:=al) ⟨zDq.refl _ w,hsig,fun b hb=> .inl hb,fun b hb=>⟨.inl hb,hF b hb⟩,fun b hb=>hb,?_,?_,?_⟩ hG ?_ rfl jB ?_ ?_
     ·rintro q ⟨rfl,hne⟩
      exact ⟨.inr ⟨rfl,_,hl hne⟩,hb0 hne⟩
     ·rintro q q' ⟨rfl,_⟩ ⟨rfl,_⟩ _;rfl
     ·intro b' n hb'
      by_cases hx0:xs=[]
      ·simp [O0,hx0] at hb'
      ·rw [hl hx0] at hb'
       simp only [aa,ak] at hb'
       obtain ⟨rfl,rfl⟩:=hb'
       obtain ⟨_,_,c,et,fl,h1,h2⟩:=hcap hx0
       exact ⟨(hb0 hx0).1,(hb0 hx0).2.2,(hb0 hx0).2.1,c,et,fl,h1,h2⟩
     ·simp [zJ5,zPt,hlen'];omega
     ·intro s0 cs hcs;rw [hnovar] at hcs;cases hcs
     ·rintro s0 ⟨hh,_⟩;cases hh
    refine wp_mono (hok w F O0 _ w hinv) ?_
    rintro ex a' w' ⟨rfl,hi'⟩
    have hdf:a'.defers=[]:=by obtain ⟨_,_,_,_,_,_,hdf,_⟩:=hi';exact hdf
    have hpd: ∃d0,rv= .p d0:=by
     cases rv with
     |p d0=>exact ⟨d0,rfl⟩
     |own es=>cases R<;>simp [RTy.getP] at hy'
     |ownT t0 xs0=>cases R<;>simp [RTy.getP] at hy'
    obtain ⟨d0,rfl⟩:=hpd
    obtain ⟨v,F1,h1,h2⟩:=zSw hi' hrv
    have h3:=zQn hy' h2
    obtain ⟨u,hu⟩:=zT2 hpl hno y'
    obtain ⟨F',O',β',hc',hG',hsz',_,ht',hv'⟩:=hi'
    have hrow:=ht' 0
    have hkeep:zDq (fun c=>O c∨(xs≠[]∧c=b)) w w':=by
     refine ⟨hc'.keep.os,hc'.keep.tape,hc'.keep.output,hc'.keep.size,fun c hc ho=>hc'.keep.block c hc ?_,hc'.keep.drawn⟩
     rintro (hh|⟨n,hh⟩)
     ·exact ho (.inl hh)
     ·by_cases hx0:xs=[]
      ·simp [O0,hx0] at hh
      ·rw [hl hx0] at hh
       simp only [aa,ak] at hh
       exact ho (.inr ⟨hx0,hh.1.symm⟩)
    have hrow':zQ9 w' F' ⟨fun _=>b,fun _=>b⟩ (fun _=>True) v0 0 t.size (ys'.map t.enc):=by
     unfold zWu at hys
     split at hys
     ·rename_i id t' zs hg
      split at hys
      ·rename_i hid
       have hid:=aQ hid
       subst hid
       obtain ⟨htt,hz⟩:=uP (uI hys)
       subst htt
       subst hz
       rw [hg] at hrow
       by_cases hx0:xs=[]
       ·subst hx0
        have hz:zs=[]:=aM hlen0
        subst hz
        rcases hown with ⟨_,h2⟩|⟨h1,_⟩
        ·exact .inl ⟨rfl,h2⟩
        ·exact absurd rfl h1
       ·have hne:zs≠[]:=fun hh=>hx0 (aM (by rw [←hlen0,hh];rfl))
        rcases hrow with ⟨h1,_⟩|⟨h1,hal,cap',_,c1,et1,q1,q2,q3,q4,q5⟩
        ·exact absurd (by simpa using h1) hne
        ·rcases (hc'.place _ hal).1 with ⟨hh,_⟩|⟨_,n,hh⟩
         ·exact absurd rfl hh
         ·rw [hl hx0] at hh
          simp only [aa,ak] at hh
          have hbb:β'.ob jP=b:=hh.1.symm
          rw [hbb] at q1
          obtain ⟨_,_,_,c2,et2,fl2,k1,k2⟩:=hc'.lent b _ (hl hx0)
          rw [q1] at k1
          simp only [aa,Obj.cells.injEq] at k1
          obtain ⟨rfl,_,_⟩:=k1
          obtain ⟨hv0,hle,_⟩:=hcap hx0
          refine .inr ⟨h1,trivial,cap,by rw [hv0];simp [hlen0],c1,et1,q1,k2,by rw [aW,hlen0];exact hle,q4,q5⟩
      ·cases hys
     ·cases hys
    have hst:e'.st=s:=dq _ _
    rcases hk with rfl|rfl
    ·exact ⟨hdf,v,h1,v,F',O',rfl,by rw [←hst];exact hc'.sig,hkeep,hc'.oin,hc'.f0,hc'.fin,zG0.of hrow' (h3.of_flat hu)⟩
    ·exact ⟨hdf,v,h1,v,F',O',rfl,by rw [←hst];exact hc'.sig,hkeep,hc'.oin,hc'.f0,hc'.fin,zG0.of hrow' (h3.of_flat hu)⟩
   ·cases hend
  ·cases hend
 ·cases hend
theorem qAH: ∀ (ts:List ATy) (ds:List V) (x:ElA ts),uH ts ds=some x→zCQ ds=none
 |_,[],_,_=>rfl
 |[],_::_,_,h=>by simp [uH] at h
 |t::ts,d::ds,x,h=>by
  refine zHZ ?_
  rintro r hr
  simp only [cD] at hr
  obtain ⟨rfl,_⟩:=hr
  have hb:t.dec .bot=none:=by
   cases t with
   |d ty=>cases ty<;>rfl
   |pp ty=>rfl
   |clo f caps=>rfl
  simp only [uH,hb] at h
  cases h
def zPs (n:Nat) (t:Ty) (k:Nat) (y:t.El) (ds:List V):List T:=
 (ds.take k).map .p++ .oet jP t [y] 0 0::((ds.drop k).map .p++List.replicate (n- (ds.length+1)) (.p (.val undef)))
def zJ4 {St:Type} (n:Nat) (s:St) (t:Ty) (k:Nat) (y:t.El) (ds:List V):Env St:= { tm:=zPs n t k y ds,vars:=List.replicate n none,st:=s }
def zZQ {St:Type} (e:Env St) (k:Nat) (t:Ty):Option t.El:=
 match e.get k with
 | .oet id t' ys 0 0=>match Nat.beq id jP with
  |true=>match zDK t' t ys with
   |some [z]=>some z
   |_=>none
  |false=>none
 |_=>none
noncomputable def qCJ (L:jJ) (G:Nat→Option (List V)) (S:zQ Γ) (A:Nat→Option JA) (fn:Func) (c:Code) (t:Ty) (R:RTy) (p:Nat) (s:Γ.St) (y:t.El) (ds:List V):Option (t.El×R.El):=
 zDU (zJ4 fn.ntmps s t p y ds) (fun e=>exC L G S A c (t.El×R.El) (fun k e1 _=>match k with
  | .exit _=>none
  |_=>match zZQ e1 p t with
   |some z=>match zCC L e1 fn with
    |some r=>match R.getP r with
     |some u=>some (z,u)
     |none=>none
    |none=>none
   |none=>none) e 0)
def zVV (Γ:Sig) (P:Program) (G:Nat→Option (List V)) (f:FuncId) (t:Ty) (p:Nat) {X:Type} (dec:List V→Option X) (R:RTy) (g:t.El→X→Option (t.El×R.El)):Prop:=
 ∀ (s:Γ.St) (y:t.El) (r:List V) (x:X) (z:t.El) (u:R.El),dec r=some x→g y x=some (z,u)→qAX Γ P G f s t p [y] r s [z] (R.val u)
def zSS (t:Ty) (p:Nat) {X:Type} (dec:List V→Option X) (R:RTy) (g:t.El→X→Option (t.El×R.El)):Γ.St→List V→Option (zDL Γ.St):=fun s ds=>
 match ds with
 | .tl t' xs::r=>match zDK t' t xs with
  |some [y]=>match zCQ r with
   |some (k,r')=>match Nat.beq k p with
    |true=>match dec r' with
     |some x=>some ⟨t.El×R.El,g y x,fun _=>s,fun u=> .p (.tup [.tl t [u.1],R.val u.2]),false⟩
     |none=>none
    |false=>none
   |none=>none
  |_=>none
 |_=>none
theorem zUc {S:zQ Γ} (hS:qG Γ P G S.toS) {f:FuncId} {sp:Γ.St→List V→Option (zDL Γ.St)} (hi:zId P f=true)
  (h: ∀ (s:Γ.St) (t:Ty) (xs:List t.El) (r:List V) (cx:zDL Γ.St) (u:cx.ρ) (ys:List t.El) (d:V),sp s (.tl t xs::r)=some cx→cx.m=some u→cx.res u= .p (.tup [.tl t ys,d])→zBI Γ P G f s t xs r (cx.st u) ys d):
  qG Γ P G (S.addB f sp).toS:=by
 have e0: ∀s ds,zDi ds=false→(S.addB f sp).toS f s ds=S.toS f s ds:=by
  intro s ds hb
  simp only [zQ.toS,zQ.addB,bh]
  cases ds with
  |nil=>rfl
  |cons d r=>cases d<;>first|rfl|cases hb
 have e1: ∀s r,(S.addB f sp).toS f s (.bot::r)=match sp s r with
   |some c=>c.m.map (fun y=>(c.st y,c.res y))
   |none=>S.toS f s (.bot::r):=by
  intro s r
  simp only [zQ.toS,zQ.addB,bh]
  cases sp s r<;>rfl
 have e2: ∀g',g'≠f→(S.addB f sp).toS g'=S.toS g':=by
  intro g' hg
  funext s ds
  have:Nat.beq g' f=false:=by
   cases hb:Nat.beq g' f with
   |false=>rfl
   |true=>exact absurd (aQ hb) hg
  simp only [zQ.toS,zQ.addB,this]
 have hnf: ∀k,P.funcs[k]? =none→k≠f:=by
  rintro k hk rfl
  simp [zId,hk] at hi
 have hisf : ∃ fn, P.funcs[f]? = some fn ∧ fn.body.isSome = true ∧ (fn.name == "runtime.NumGoroutine") = false := by
  unfold zId at hi
  split at hi
  ·rename_i fn hfn
   simp only [aj,bj] at hi
   exact ⟨fn,hfn,hi.1,hi.2⟩
  ·cases hi
 refine ⟨?_,?_,fun hno st q t ys bytes st' d h=>hS.app hno st q t ys bytes st' d (by rw [←e2 _ (hnf _ hno)];exact h),?_⟩
 ·intro g'
  by_cases hg:g'=f
  ·subst hg
   intro w F O s args ds s' r a1 a2 a3 a4 a5 a6
   cases hb:zDi ds with
   |false=>
    rw [e0 s ds hb] at a6
    exact hS.ok g' w F O s args ds s' r a1 a2 a3 a4 a5 a6
   |true=>
    exfalso
    cases ds with
    |nil=>cases hb
    |cons d ds=>
     cases d with
     |bot=>
      have h0:0<args.size:=by rw [a4];simp
      have hnb: ∀u:Value, ¬Rd w F u .bot:=fun u h=>by cases h
      exact hnb _ (a5 0 args[0] .bot (by simp [h0]) rfl)
     |_=>cases hb
  ·rw [e2 g' hg];exact hS.ok g'
 ·intro g' s ds r hr hbot
  by_cases hg:g'=f
  ·subst hg;exact hisf
  ·rw [e2 g' hg] at hr;exact hS.is g' s ds r hr hbot
 ·intro g' st t0 xs ds st' ys d h0
  by_cases hg:g'=f
  ·subst hg
   rw [e1] at h0
   split at h0
   ·rename_i cx hc
    refine ⟨?_,hisf⟩
    simp only [ah,ak] at h0
    obtain ⟨u,hu,h1,h2⟩:=h0
    rw [←h1]
    exact h st t0 xs ds cx u ys d hc hu h2
   ·exact hS.bor g' st t0 xs ds st' ys d h0
  ·rw [e2 g' hg] at h0;exact hS.bor g' st t0 xs ds st' ys d h0
theorem zUa {S:zQ Γ} (hS:qG Γ P G S.toS) {f:FuncId} {t:Ty} {p:Nat} {X:Type} {dec:List V→Option X} {R:RTy} {g:t.El→X→Option (t.El×R.El)} (hi:zId P f=true)
  (h:zVV Γ P G f t p dec R g):qG Γ P G (S.addB f (zSS t p dec R g)).toS:=by
 refine zUc hS hi ?_
 intro s t0 xs r cx u ys d hc hu hres
 simp only [zSS] at hc
 cases hzs:zDK t0 t xs with
 |none=>rw [hzs] at hc;cases hc
 |some zs=>
  rw [hzs] at hc
  rcases zs with _|⟨y,_|⟨y2,zs⟩⟩
  ·cases hc
  ·obtain ⟨ht,hz⟩:=uP (uI hzs)
   subst ht
   have hz:xs=[y]:=hz
   subst hz
   simp only at hc
   cases hpp:zCQ r with
   |none=>rw [hpp] at hc;cases hc
   |some q=>
    obtain ⟨k,r'⟩:=q
    rw [hpp] at hc
    simp only at hc
    cases hk:Nat.beq k p with
    |false=>rw [hk] at hc;cases hc
    |true=>
     rw [hk] at hc
     simp only at hc
     have hk:=aQ hk
     subst hk
     cases hx:dec r' with
     |none=>rw [hx] at hc;cases hc
     |some x=>
      rw [hx] at hc
      simp only [aa] at hc
      subst hc
      simp only [RV.p.injEq,V.tup.injEq,cD,and_true,V.tl.injEq,true_and] at hres
      obtain ⟨h2,h3⟩:=hres
      have h2:=eq_of_heq h2
      subst h2
      subst h3
      unfold zBI
      rw [hpp]
      exact h s y r' x u.1 u.2 hx hu
  ·cases hc
theorem qAh [hsub:Subsingleton Γ.St] {S:zQ Γ} {A:Nat→Option JA} (hmix:P.follows .mixedOrders=true) (hS:qG Γ P G S.toS) {f:FuncId} {fn:Func} {c:Code} (hf:P.funcs[f]? =some fn) (hb:fn.body=some c)
  {t:Ty} {p:Nat} {X:Type} {dec:List V→Option X} {enc:X→List V} (hdec: ∀ds x,dec ds=some x→w5 ds (enc x)) {R:RTy} (hpl:R.pl=true) (hno: ∀ty,R≠ .o ty) {g:t.El→X→Option (t.El×R.El)}
  (h: ∀s y x,qCJ (Γ:=Γ) P G S A fn c t R p s y (enc x)=g y x):zVV Γ P G f t p dec R g:=by
 intro s y r x z u0 hx hy w F O b args hsig hG hF hrow0 _ hb0 hsize hk ha0 hrd
 have hwk:=hdec r x hx
 have hlen':args.size=(enc x).length+1:=hsize.trans (by rw [hwk.len])
 have hk':p≤(enc x).length:=by rw [←hwk.len];exact hk
 have hrd': ∀ (i:Nat) (u:Value) (d:V),args[if i<p then i else i+1]? =some u→(enc x)[i]? =some d→Rd w F u d:=by
  intro i u d hu hd
  have hlt:i<r.length:=by rw [hwk.len];exact (ac.1 hd).1
  exact hwk.get i r[i] d (by simp [hlt]) hd w F u (hrd i u r[i] hu (by simp [hlt]))
 have hex:=h s y x
 rw [hy] at hex
 unfold qCJ at hex
 rw [uE] at hex
 obtain ⟨k,e',d,hok,_,hend⟩:=zIX (fun _ _ _=> .inl hsub) hmix hS c _ _ _ _ _ hex
 have hk:(k= .normal∨k= .ret)∧(match zZQ e' p t with
   |some z=>match zCC (jJ.of P) e' fn with
    |some r=>match R.getP r with
     |some u=>some (z,u)
     |none=>none
    |none=>none
   |none=>none)=some (z,u0):=by
  cases k with
  |normal=>exact ⟨.inl rfl,hend⟩
  |ret=>exact ⟨.inr rfl,hend⟩
  |exit id=>cases hend
 obtain ⟨hk,hend⟩:=hk
 split at hend
 ·rename_i z' hz'
  split at hend
  ·rename_i rv hrv
   split at hend
   ·rename_i y' hy'
    simp only [aa,ak] at hend
    obtain ⟨rfl,rfl⟩:=hend
    refine calls_of_wp hf hb ?_
    have hcap: ∃ (c:Array Value) (et:TypeId) (fl:Nat×Nat),w.heap[b]? =some (.cells c et fl)∧c.size=1*t.size:=by
     obtain ⟨c,et,h3,h4,_⟩:=hrow0
     exact ⟨c,et,(0,0),h3,h4⟩
    let β:Lay:=⟨fun _=>0,fun _=>b⟩
    let al:j7→Prop:=fun q=>q= .o jP
    let O0:xA:=⟨O,some (b,1*t.size)⟩
    have h0T:zW w F β al (.pointer (some ⟨b,0,none⟩)) (.oet jP t [y] 0 0):=⟨rfl,by simp,1,by simp [β],hrow0⟩
    have jB: ∀q,zW w F β al ((args++Array.replicate (fn.ntmps-args.size) undef).getD q undef) ((zJ4 fn.ntmps s t p y (enc x)).get q):=by
     intro q
     simp only [zJ4,zPs,Env.get,az,au]
     have hl1:(((enc x).take p).map T.p).length=p:=by simp [hk']
     rcases cG q p with hq|hq|hq
     ·rw [aS (by omega),bf (by omega)]
      rw [am,bu,if_pos hq,ai (by omega),aP (by omega)]
      exact hrd' q _ _ (by rw [if_pos hq];simp [show q<args.size by omega]) (by simp [show q< (enc x).length by omega])
     ·subst hq
      rw [aT (by omega),hl1,Nat.sub_self,bf (by omega),ha0]
      exact h0T
     ·rw [aT (by omega),hl1]
      obtain ⟨m,rfl⟩: ∃m,q=p+m+1:=⟨q-p-1,by omega⟩
      rw [show p+m+1-p=m+1 by omega,bx]
      by_cases ht:p+m< (enc x).length
      ·rw [aS (by simp;omega),bf (by omega)]
       rw [am,bb,ai ht,aP (by omega)]
       exact hrd' (p+m) _ _ (by rw [if_neg (by omega)];simp [show p+m+1<args.size by omega]) (by simp [ht])
      ·rw [aT (by simp;omega),bL (by omega),hlen']
       simp only [aW,bo]
       by_cases h2:m- ((enc x).length-p)<fn.ntmps- ((enc x).length+1)
       ·rw [a8,if_pos h2,bR,if_pos (by omega)]
        exact Rd.val _
       ·rw [a8,if_neg h2]
        trivial
    have hnovar: ∀s0,(zJ4 fn.ntmps s t p y (enc x)).var s0=none:=by
     intro s0
     simp only [zJ4,Env.var,a8]
     split<;>rfl
    have hinv:Inv Γ G w F O0 { tmps:=args++Array.replicate (fn.ntmps-args.size) undef,defers:=[] } w (zJ4 fn.ntmps s t p y (enc x)):=by
     refine Inv.of (F:=F) (O:=O) (β:=β) (al:=al) ⟨zDq.refl _ w,hsig,fun b hb=> .inl hb,fun b hb=>⟨.inl hb,hF b hb⟩,fun b hb=>hb,?_,?_,?_⟩ hG ?_ rfl jB ?_ ?_
     ·rintro q rfl
      exact ⟨.inr ⟨rfl,_,rfl⟩,hb0⟩
     ·rintro q q' rfl rfl _;rfl
     ·intro b' n hb'
      simp only [O0,aa,ak] at hb'
      obtain ⟨rfl,rfl⟩:=hb'
      obtain ⟨c,et,fl,h1,h2⟩:=hcap
      exact ⟨hb0.1,hb0.2.2,hb0.2.1,c,et,fl,h1,h2⟩
     ·simp [zJ4,zPs,hlen',co hk'];omega
     ·intro s0 cs hcs;rw [hnovar] at hcs;cases hcs
     ·rintro s0 hh;cases hh
    refine wp_mono (hok w F O0 _ w hinv) ?_
    rintro ex a' w' ⟨rfl,hi'⟩
    have hdf:a'.defers=[]:=by obtain ⟨_,_,_,_,_,_,hdf,_⟩:=hi';exact hdf
    have hpd: ∃d0,rv= .p d0:=by
     cases rv with
     |p d0=>exact ⟨d0,rfl⟩
     |own es=>cases R<;>simp [RTy.getP] at hy'
     |ownT t0 xs0=>cases R<;>simp [RTy.getP] at hy'
    obtain ⟨d0,rfl⟩:=hpd
    obtain ⟨v,F1,h1,h2⟩:=zSw hi' hrv
    have h3:=zQn hy' h2
    obtain ⟨u,hu⟩:=zT2 hpl hno y'
    obtain ⟨F',O',β',hc',hG',hsz',_,ht',hv'⟩:=hi'
    have hrow:=ht' p
    have hkeep:zDq (fun c=>O c∨c=b) w w':=by
     refine ⟨hc'.keep.os,hc'.keep.tape,hc'.keep.output,hc'.keep.size,fun c hc ho=>hc'.keep.block c hc ?_,hc'.keep.drawn⟩
     rintro (hh|⟨n,hh⟩)
     ·exact ho (.inl hh)
     ·simp only [O0,aa,ak] at hh
      exact ho (.inr hh.1.symm)
    have hrow':qL w' F' b t.size 1 ([z'].map t.enc):=by
     unfold zZQ at hz'
     split at hz'
     ·rename_i id t' zs hg
      split at hz'
      ·rename_i hid
       have hid:=aQ hid
       subst hid
       split at hz'
       ·rename_i z1 hcast
        simp only [aa] at hz'
        subst hz'
        obtain ⟨htt,hz⟩:=uP (uI hcast)
        subst htt
        subst hz
        rw [hg] at hrow
        obtain ⟨hal,_,cap',_,c1,et1,q1,q2,q3,q4,q5⟩:=hrow
        rcases (hc'.place _ hal).1 with ⟨hh,_⟩|⟨_,n,hh⟩
        ·exact absurd rfl hh
        ·simp only [O0,aa,ak] at hh
         have hbb:β'.ob jP=b:=hh.1.symm
         rw [hbb] at q1
         obtain ⟨_,_,_,c2,et2,fl2,k1,k2⟩:=hc'.lent b _ rfl
         rw [q1] at k1
         simp only [aa,Obj.cells.injEq] at k1
         obtain ⟨rfl,_,_⟩:=k1
         exact ⟨c1,et1,q1,k2,by simp,q4,q5⟩
       ·cases hz'
      ·cases hz'
     ·cases hz'
    have hst:e'.st=s:=dq _ _
    rcases hk with rfl|rfl
    ·exact ⟨hdf,v,h1,v,F',O',rfl,by rw [←hst];exact hc'.sig,hkeep,hc'.oin,hc'.f0,hc'.fin,hrow',rfl,h3.of_flat hu⟩
    ·exact ⟨hdf,v,h1,v,F',O',rfl,by rw [←hst];exact hc'.sig,hkeep,hc'.oin,hc'.f0,hc'.fin,hrow',rfl,h3.of_flat hu⟩
   ·cases hend
  ·cases hend
 ·cases hend
end
end Go.Ve

namespace Go.Ve
open Go
abbrev HSt (t:Ty):=List (Option (List t.El))
structure zXh (t:Ty) (st:HSt t) (F:Blk→Prop) (O:Nat→Prop) (w:World) (hb hc:Nat→Nat):Prop where
 hdl: ∀id xs,st[id]? =some (some xs)→ ∀a n c,F (.h id a n c)↔(a=some ⟨hb id,0,none⟩∧n=xs.length∧c=hc id)
 out: ∀id,st.length≤id→ ∀a n c, ¬F (.h id a n c)
 row: ∀id xs,st[id]? =some (some xs)→xs≠[]∧O (hb id)∧qL w (fun _=>False) (hb id) t.size (hc id) (xs.map t.enc)
 dist: ∀id id' xs xs',st[id]? =some (some xs)→st[id']? =some (some xs')→hb id=hb id'→id=id'
 own: ∀b,O b→ ∃id xs,st[id]? =some (some xs)∧hb id=b
theorem qL.same {w w':World} {F:Blk→Prop} {b k cap:Nat} {es:List V} (h:qL w (fun _=>False) b k cap es) (hw:w'.heap[b]? =w.heap[b]?):qL w' F b k cap es:=by
 obtain ⟨c,et,h1,h2,h3,h4,h5⟩:=h
 exact ⟨c,et,hw.trans h1,h2,h3,h4,fun i j e d x a1 a2 a3=>(h5 i j e d x a1 a2 a3).mono (fun _ h=>h.elim) (fun _ h=>h.elim)⟩
def wF (t:Ty):Sig where
 St:=HSt t
 R:=fun st F O w=> ∃hb hc,zXh t st F O w hb hc
 mono:=by
  rintro s F F' O w w' ⟨hb,hc,h⟩ hF hO
  refine ⟨hb,hc,?_,?_,?_,h.dist,h.own⟩
  ·intro id xs hx a n c;rw [hF];exact h.hdl id xs hx a n c
  ·intro id hx a n c hh;exact h.out id hx a n c ((hF id a n c).1 hh)
  ·intro id xs hx
   obtain ⟨h1,h2,h3⟩:=h.row id xs hx
   exact ⟨h1,h2,h3.same (hO _ h2)⟩
 inb:=by
  rintro s F O w ⟨hb,hc,h⟩ b hO
  obtain ⟨id,xs,h1,rfl⟩:=h.own b hO
  obtain ⟨_,_,c,et,h3,_⟩:=h.row id xs h1
  exact (ar.1 h3).1
def zRH {t:Ty} (bytes:Nat) (st:HSt t) (q:Option (Nat×Nat)) (ys:List t.El):Option (HSt t×Option (Nat×Nat)):=
 match ys with
 |[]=>none
 |y::r=>match q with
  |none=>if (2*(y::r).length+1024)*bytes≤140737488355328 then some (st++[some (y::r)],some (st.length,(y::r).length)) else none
  |some (id,_)=>match st[id]? with
   |some (some xs)=>if (2*(xs.length+(y::r).length)+1024)*bytes≤140737488355328 then some (st.set id none++[some (xs++y::r)],some (st.length,(xs++y::r).length)) else none
   |_=>none
theorem zD3 {t:Ty} (h:t.flat=true) {x:t.El} {d:V} (hd:d∈(t.enc x).cells) {w w':World} {F F':Blk→Prop} {v:Value} (hr:Rd w F v d):Rd w' F' v d:=by
 rw [qY] at hd
 have:=zBc (zSs t x h d hd)
 rw [this] at hr ⊢
 rw [Rd.eq_val hr]
 exact .val _
theorem zZC {t:Ty} (h:t.flat=true) {w:World} {F F':Blk→Prop} {b k cap:Nat} {xs:List t.El} (hr:qL w F b k cap (xs.map t.enc)):qL w F' b k cap (xs.map t.enc):=by
 obtain ⟨c,et,h1,h2,h3,h4,h5⟩:=hr
 refine ⟨c,et,h1,h2,h3,h4,fun i j e d x a1 a2 a3=> ?_⟩
 simp only [am,ah] at a1
 obtain ⟨y,hy,rfl⟩:=a1
 exact zD3 h (af a2) (h5 i j (t.enc y) d x (by simp [hy]) a2 a3)
theorem jB {α:Type} {st:List (Option α)} {id j:Nat} {z:α} {xs:α} (h:(st.set id none++[some z])[j]? =some (some xs)):(j=st.length∧xs=z)∨(j≠id∧j<st.length∧st[j]? =some (some xs)):=by
 by_cases hj:j<st.length
 ·rw [aS (by simpa using hj)] at h
  by_cases hid:id=j
  ·subst hid;rw [bc hj] at h;cases h
  ·rw [aG hid] at h;exact .inr ⟨bX hid,hj,h⟩
 ·rw [aT (by simp;omega)] at h
  simp only [bE] at h
  have h0:j-st.length=0:=by
   rcases bZ (j-st.length) with h0|h0
   ·exact h0
   ·rw [bg (by simp;omega)] at h;cases h
  rw [h0] at h
  simp at h
  exact .inl ⟨by omega,h.symm⟩
section
variable {t:Ty} {P:Program}
theorem zJW (hfl:t.flat=true) {st:HSt t} {F:Blk→Prop} {O:Nat→Prop} {w w':World} {hb hc:Nat→Nat} (h:zXh t st F O w hb hc) (hF: ∀b:Nat,F b→b<w.heap.size∧ ¬O b)
  {id:Nat} {zs:List t.El} (hz:zs≠[]) {blk cap:Nat} {O':Nat→Prop} (hk:zDq O w w') (hO1: ∀b,O' b↔(b=blk∨(O b∧ ∀xs,st[id]? =some (some xs)→b≠hb id)))
  (hblk:O blk∨w.heap.size≤blk) (hblt:blk<w'.heap.size) (hrow:qL w' F blk t.size cap (zs.map t.enc))
  (hold: ∀j xs,j≠id→st[j]? =some (some xs)→hb j≠blk∧w'.heap[hb j]? =w.heap[hb j]?) (hid:id<st.length→ ∃xs,st[id]? =some (some xs)):
  zXe (wF t) w F O (.slice (some ⟨blk,0,none⟩) zs.length cap) w' (st.set id none++[some zs]) (.rf (some (st.length,zs.length))):=by
 let F':Blk→Prop:=fun b=>F b∨b= .h st.length (some ⟨blk,0,none⟩) zs.length cap
 have hOO: ∀b,O' b→O b∨w.heap.size≤b:=fun b hb0=>by
  rcases (hO1 b).1 hb0 with rfl|h1
  ·exact hblk
  ·exact .inl h1.1
 refine ⟨F',O',⟨fun j=>if j=st.length then blk else hb j,fun j=>if j=st.length then cap else hc j,?_,?_,?_,?_,?_⟩,hk,hOO,fun b hb=> .inl hb,?_, .rf _ _ _ _ (.inr rfl)⟩
 ·intro j xs hj a n c
  rcases jB hj with ⟨rfl,rfl⟩|⟨hne,hlt,hj⟩
  ·simp only [if_true,F']
   constructor
   ·rintro (hh|hh)
    ·exact absurd hh (h.out _ (aK _) _ _ _)
    ·cases hh;exact ⟨rfl,rfl,rfl⟩
   ·rintro ⟨rfl,rfl,rfl⟩;exact .inr rfl
  ·have hne':j≠st.length:=by omega
   simp only [if_neg hne',F']
   rw [←h.hdl j xs hj]
   constructor
   ·rintro (hh|hh)
    ·exact hh
    ·cases hh;exact absurd rfl hne'
   ·exact .inl
 ·intro j hj a n c
  simp only [aH,bE,aC] at hj
  rintro (hh|hh)
  ·exact h.out j (by omega) _ _ _ hh
  ·cases hh;omega
 ·intro j xs hj
  rcases jB hj with ⟨rfl,rfl⟩|⟨hne,hlt,hj⟩
  ·simp only [if_true]
   exact ⟨hz,(hO1 _).2 (.inl rfl),zZC hfl hrow⟩
  ·have hne':j≠st.length:=by omega
   simp only [if_neg hne']
   obtain ⟨h1,h2,h3⟩:=h.row j xs hj
   refine ⟨h1,(hO1 _).2 (.inr ⟨h2,fun ys hy hh=>hne (h.dist j id xs ys hj hy hh)⟩),h3.same (hold j xs hne hj).2⟩
 ·intro j j' xs xs' hj hj' hh
  rcases jB hj with ⟨rfl,rfl⟩|⟨hne,hlt,hj1⟩<;>rcases jB hj' with ⟨rfl,rfl⟩|⟨hne',hlt',hj1'⟩
  ·rfl
  ·have h1:j'≠st.length:=by omega
   simp only [if_true,if_neg h1] at hh
   exact absurd hh.symm (hold j' xs' hne' hj1').1
  ·have h1:j≠st.length:=by omega
   simp only [if_true,if_neg h1] at hh
   exact absurd hh (hold j xs hne hj1).1
  ·have h1:j≠st.length:=by omega
   have h2:j'≠st.length:=by omega
   simp only [if_neg h1,if_neg h2] at hh
   exact h.dist j j' xs xs' hj1 hj1' hh
 ·intro b hb0
  rcases (hO1 b).1 hb0 with rfl|⟨h1,h2⟩
  ·refine ⟨st.length,zs,?_,by simp⟩
   rw [aT (by simp)];simp
  ·obtain ⟨j,xs,hj,rfl⟩:=h.own b h1
   have hlt:=(ac.1 hj).1
   have hji:j≠id:=by
    rintro rfl
    exact h2 xs hj rfl
   refine ⟨j,xs,?_,by simp [show j≠st.length by omega]⟩
   rw [aS (by simpa using hlt),aG (bX hji)]
   exact hj
 ·intro b hb0
  rcases hb0 with hb0|hb0
  ·obtain ⟨h1,h2⟩:=hF b hb0
   refine ⟨.inl hb0,cn h1 hk.size,fun ho=> ?_⟩
   rcases hOO b ho with ho|ho
   ·exact h2 ho
   ·omega
  ·cases hb0
theorem qBI (hfl:t.flat=true) {bytes:Nat} {st st':HSt t} {q q':Option (Nat×Nat)} {ys:List t.El} (h:zRH bytes st q ys=some (st',q')):
  qA2 (wF t) P st (.rf q) t ys bytes st' (.rf q'):=by
 intro ts ty t0 t1 el el1 info z w F O v0 v1 hts0 hts1 hu0 hu1 hinfo hz hsz hby hzc hbytes hR hF
 intro (hr0:Rd w F v0 (.rf q)) hr1
 subst hbytes
 obtain ⟨hb,hc,hR⟩:=hR
 have hk2: ∀q,q∈ys.map t.enc→q.cells.length=info.size:=by
  intro q hq
  simp only [be] at hq
  obtain ⟨y,_,rfl⟩:=hq
  rw [vF];exact hsz
 have ho2: ∀q,q∈ys.map t.enc→q.cells.all V.one=true:=by
  intro q hq
  simp only [be] at hq
  obtain ⟨y,_,rfl⟩:=hq
  rw [qY];exact zNH t y
 obtain ⟨a1,cap1,cells,hv1,hcap1,hl2,hrun2,hr2⟩:=zIH (P:=P) (β:=⟨id,id⟩) (al:=fun _=>False) (x:= .p (.sl (ys.map t.enc))) hr1.untl rfl hk2
 simp only [aW] at hv1 hcap1 hl2 hrun2
 have hs:wA P el=some info.size:=zAB hinfo
 have hrest: ∀m,(Builtin.zeroCells z.cells m).size=m*info.size:=by
  intro m;simp only [Builtin.zeroCells,dK,Array.size_range];rw [hzc]
 unfold zRH at h
 split at h
 ·cases h
 ·rename_i y r
  have hl2':cells.length=((y::r).map t.enc).length*info.size:=by simpa using hl2
  split at h
  ·-- nil
   split at h
   ·rename_i hbound
    simp only [aa,ak] at h
    obtain ⟨rfl,rfl⟩:=h
    cases hr0 with
    |rfn=>
     obtain ⟨newCap,hnc,hrun⟩:=xS (P:=P) (w:=w) (ts:=ts) (ty:=ty) (len:=0) (cap:=0) (n:=(y::r).length) (cap1:=cap1) (a0:=none) (a1:=a1) (cells:=cells) (old:=[]) hts0 hts1 hu0 hu1 hinfo hz
      (by rw [←hv1];exact hrun2 w.drew rfl) (by simp [Builtin.firstCells]) (by simp) hby (by simpa using hbound)
     rw [←hv1] at hrun
     simp only [bK] at hnc hrun
     refine ⟨_,_,hrun,?_⟩
     have hrow:=zHU (w':=w.drew.alloc (.cells (([]:List Value).toArray++(cells.toArray++Builtin.zeroCells z.cells (newCap- (y::r).length))) el)) (F:=F) (b:=w.heap.size) (k:=info.size) (cap:=newCap) (es:=[]) (es2:=(y::r).map t.enc) (et:=el) (old:=[]) (cells:=cells)
      (by simp) hk2 (by simp) hl2' (fun i j q y hi hj=>by simp at hi) (fun i j e d hi hj=>by
       obtain ⟨x,hx,hrx⟩:=hr2 i j e d hi hj
       simp only [am,ah] at hi
       obtain ⟨y0,_,rfl⟩:=hi
       exact ⟨x,hx,zD3 hfl (af hj) hrx⟩) (by simpa using hnc) (by simpa using hrest _) (zAn (w:=w.drew))
     rw [bM, ←hsz] at hrow
     have hset:st.set st.length none=st:=List.set_eq_of_length_le (aK _)
     have:=zJW (w':=w.drew.alloc (.cells (([]:List Value).toArray++(cells.toArray++Builtin.zeroCells z.cells (newCap- (y::r).length))) el)) (O':=fun b=>b=w.heap.size∨O b) (id:=st.length) hfl hR hF (zs:=y::r) (by simp) (blk:=w.heap.size) (cap:=newCap)
      ⟨rfl,rfl,rfl,by simp,fun b hb _=>wJ (w:=w.drew) hb,c9 _⟩ (fun b=>by
       constructor
       ·rintro (rfl|hh)
        ·exact .inl rfl
        ·exact .inr ⟨hh,fun xs hx=>by simp at hx⟩
       ·rintro (rfl|hh)
        ·exact .inl rfl
        ·exact .inr hh.1) (.inr (aK _)) (by simp) hrow (fun j xs _ hj=>by
       have hlt:=(wF t).inb (⟨hb,hc,hR⟩:(wF t).R st F O w) _ (hR.row j xs hj).2.1
       exact ⟨by omega,wJ (w:=w.drew) hlt⟩) (fun hh=>by omega)
     rw [hset] at this
     exact this
   ·cases h
  ·rename_i id n0
   split at h
   ·rename_i xs hst
    split at h
    ·rename_i hbound
     simp only [aa,ak] at h
     obtain ⟨rfl,rfl⟩:=h
     obtain ⟨hxne,hOid,hrow0⟩:=hR.row id xs hst
     cases hr0 with
     |rf _ a n c hh=>
      obtain ⟨rfl,rfl,rfl⟩:=(hR.hdl id xs hst _ _ _).1 hh
      obtain ⟨cc,et,g1,g2,g3,g4,g5⟩:=hrow0
      simp only [aW] at g3
      rw [hsz] at g2 g4 g5
      by_cases hroom:xs.length+(y::r).length≤hc id
      ·have hfit:xs.length*info.size+(y::r).length*info.size≤cc.size:=by rw [←bT,g2];exact ax _ hroom
       have hrun:=zG2 (P:=P) (w:=w) (ts:=ts) (ty:=ty) (b:=hb id) (off:=0) (len:=xs.length) (cap:=hc id) (n:=(y::r).length) (cap1:=cap1) (a1:=a1) (cells:=cells) (c:=cc) (et:=et) hts0 hts1 hu0 hu1 hs
        (by rw [←hv1];exact hrun2 w rfl) hl2 g1 (by omega) (zXs hl2' hk2 ho2 hr2) hroom
       rw [←hv1] at hrun
       simp only [bK] at hrun
       refine ⟨_,_,hrun,?_⟩
       have hlt:hb id<w.heap.size:=(ar.1 g1).1
       have hrow:=zUv (w':=setBlk w (hb id) (.cells (wT cc (xs.length*info.size) cells) et (0,0))) (F:=F) (b:=hb id) (k:=info.size) (cap:=hc id) (es:=xs.map t.enc) (es2:=(y::r).map t.enc) (c:=cc) (et:=et) (cells:=cells)
        (by simpa using g2) g4 (fun i j e d x hi hj hx=>by
         simp only [am,ah] at hi
         obtain ⟨y0,hy0,rfl⟩:=hi
         exact zD3 hfl (af hj) (g5 i j _ d x (by simp [hy0]) hj hx)) hk2 hl2' (fun i j e d hi hj=>by
         obtain ⟨x,hx,hrx⟩:=hr2 i j e d hi hj
         simp only [am,ah] at hi
         obtain ⟨y0,_,rfl⟩:=hi
         exact ⟨x,hx,zD3 hfl (af hj) hrx⟩) (by simpa using hroom) (by simpa using zCL hlt)
       rw [←df, ←hsz] at hrow
       have:=zJW (w':=setBlk w (hb id) (.cells (wT cc (xs.length*info.size) cells) et (0,0))) (O':=O) (id:=id) hfl hR hF (zs:=xs++y::r) (by simp) (blk:=hb id) (cap:=hc id)
        ⟨rfl,rfl,rfl,by rw [zC9];exact aK _,fun b hb0 hno=>wV (fun hh=>hno (by rw [hh];exact hOid)),aK _⟩ (fun b=>by
         constructor
         ·intro hh
          by_cases hbb:b=hb id
          ·exact .inl hbb
          ·exact .inr ⟨hh,fun _ _=>hbb⟩
         ·rintro (rfl|hh)
          ·exact hOid
          ·exact hh.1) (.inl hOid) (by rw [zC9];exact hlt) (by rw [hsz] at hrow ⊢;exact hrow) (fun j xs' hne hj=>by
         have h1:hb j≠hb id:=fun hh=>hne (hR.dist j id xs' xs hj hst hh)
         exact ⟨h1,wV h1⟩) (fun _=>⟨xs,hst⟩)
       simpa using this
      ·obtain ⟨a0,cap0,old,hv0',hcap0,hl1,hrun1,hr1⟩:=zIH (P:=P) (w:=w) (F:=F) (β:=⟨fun _=>hb id,fun _=>hb id⟩) (al:=fun _=>True) (x:= .ow 0 info.size (xs.map t.enc)) (v:= .slice (some ⟨hb id,0,none⟩) xs.length (hc id)) (k:=info.size)
        ⟨trivial,hc id,by simp,cc,et,g1,g2,by simpa using g3,g4,fun i j e d x hi hj hx=>(g5 i j e d x hi hj hx).mono (fun _ h=>h.elim) (fun _ h=>h.elim)⟩ rfl g4
       simp only [aW] at hv0' hcap0 hl1 hrun1
       have hcc:cap0=hc id:=by simp at hv0';exact hv0'.2.symm
       have haa:a0=some ⟨hb id,0,none⟩:=by simp at hv0';exact hv0'.1.symm
       subst hcc haa
       obtain ⟨newCap,hnc,hrun⟩:=xS (P:=P) (w:=w) (ts:=ts) (ty:=ty) (len:=xs.length) (cap:=hc id) (n:=(y::r).length) (cap1:=cap1) (a0:=some ⟨hb id,0,none⟩) (a1:=a1) (cells:=cells) (old:=old) hts0 hts1 hu0 hu1 hinfo hz
        (by rw [←hv1];exact hrun2 w.drew rfl) (hrun1 w.drew rfl) hroom hby hbound
       rw [←hv1] at hrun
       refine ⟨_,_,hrun,?_⟩
       have hrow:=zHU (w':=w.drew.alloc (.cells (old.toArray++(cells.toArray++Builtin.zeroCells z.cells (newCap- (xs.length+(y::r).length)))) el)) (F:=F) (b:=w.heap.size) (k:=info.size) (cap:=newCap) (es:=xs.map t.enc) (es2:=(y::r).map t.enc) (et:=el) (old:=old) (cells:=cells) (rest:=Builtin.zeroCells z.cells (newCap- (xs.length+(y::r).length)))
        g4 hk2 (by simpa using hl1) hl2' (fun i j e d hi hj=>by
         obtain ⟨x,hx,hrx⟩:=hr1 i j e d hi hj
         simp only [am,ah] at hi
         obtain ⟨y0,_,rfl⟩:=hi
         exact ⟨x,hx,zD3 hfl (af hj) hrx⟩) (fun i j e d hi hj=>by
         obtain ⟨x,hx,hrx⟩:=hr2 i j e d hi hj
         simp only [am,ah] at hi
         obtain ⟨y0,_,rfl⟩:=hi
         exact ⟨x,hx,zD3 hfl (af hj) hrx⟩) (by simpa using hnc) (by simpa using hrest _) (zAn (w:=w.drew))
       rw [←df, ←hsz] at hrow
       have:=zJW (w':=w.drew.alloc (.cells (old.toArray++(cells.toArray++Builtin.zeroCells z.cells (newCap- (xs.length+(y::r).length)))) el)) (O':=fun b=>b=w.heap.size∨(O b∧b≠hb id)) (id:=id) hfl hR hF (zs:=xs++y::r) (by simp) (blk:=w.heap.size) (cap:=newCap)
        ⟨rfl,rfl,rfl,by simp,fun b hb _=>wJ (w:=w.drew) hb,c9 _⟩ (fun b=>by
         constructor
         ·rintro (rfl|hh)
          ·exact .inl rfl
          ·exact .inr ⟨hh.1,fun _ _=>hh.2⟩
         ·rintro (rfl|hh)
          ·exact .inl rfl
          ·exact .inr ⟨hh.1,hh.2 xs hst⟩) (.inr (aK _)) (by simp) (by rw [hsz] at hrow ⊢;exact hrow) (fun j xs' _ hj=>by
         have hlt:=(wF t).inb (⟨hb,hc,hR⟩:(wF t).R st F O w) _ (hR.row j xs' hj).2.1
         exact ⟨by omega,wJ (w:=w.drew) hlt⟩) (fun _=>⟨xs,hst⟩)
       simpa using this
    ·cases h
   ·cases h
end
end Go.Ve

namespace Go.Ve
open Go
def zQ.addH {t:Ty} (S:zQ (wF t)):zQ (wF t):=fun f s ds=>
 match Nat.beq f j2 with
 |true=>match ds with
  |[.bot, .rf q, .tl t' ys, .val (.int _ b)]=>match zDK t' t ys with
   | .some zs=> .some ⟨HSt t×Option (Nat×Nat),zRH b.toNat s q zs,fun y=>y.1,fun y=> .p (.rf y.2),false⟩
   | .none=>S f s ds
  |_=>S f s ds
 |false=>S f s ds
theorem zNQ {t:Ty} {P:Program} {G:Nat→Option (List V)} {S:zQ (wF t)} (hS:qG (wF t) P G S.toS) (hfl:t.flat=true) (hno:P.funcs[j2]? =none):
  qG (wF t) P G S.addH.toS:=by
 have e2: ∀g,g≠j2→S.addH.toS g=S.toS g:=by
  intro g hg
  funext s ds
  have:Nat.beq g j2=false:=by
   cases hb:Nat.beq g j2 with
   |false=>rfl
   |true=>exact absurd (aQ hb) hg
  simp only [zQ.toS,zQ.addH,this]
 have e1: ∀ (s:HSt t) (ds:List V) r,S.addH.toS j2 s ds=some r→S.toS j2 s ds=some r∨
   ∃q ys zs k b,ds=[.bot, .rf q, .tl t ys, .val (.int k b)]∧ ∃q',zRH b.toNat s q ys=some (zs,q')∧r=(zs, .p (.rf q')):=by
  intro s ds r h
  have ht:Nat.beq j2 j2=true:=bh _
  simp only [zQ.toS,zQ.addH,ht] at h
  split at h
  ·rename_i c hc
   split at hc
   ·rename_i q t' ys k b
    cases hzs:zDK t' t ys with
    |none=>rw [hzs] at hc;simp only at hc;exact .inl (by simp only [zQ.toS,hc];exact h)
    |some zs=>
     rw [hzs] at hc
     obtain ⟨htt,hz⟩:=uP (uI hzs)
     subst htt
     subst hz
     simp only [aa] at hc
     rw [←hc] at h
     simp only [ah] at h
     obtain ⟨⟨st',q'⟩,h1,h2⟩:=h
     exact .inr ⟨q,ys,st',k,b,rfl,q',h1,h2.symm⟩
   ·exact .inl (by simp only [zQ.toS,hc];exact h)
  ·cases h
 refine ⟨?_,?_,?_,?_⟩
 ·intro g
  by_cases hg:g=j2
  ·subst hg
   intro w F O s args ds s' r a1 a2 a3 a4 a5 a6
   rcases e1 s ds _ a6 with h|⟨q,ys,zs,k,b,rfl,_⟩
   ·exact hS.ok j2 w F O s args ds s' r a1 a2 a3 a4 a5 h
   ·exfalso
    have h0:0<args.size:=by rw [a4];simp
    have hnb: ∀u:Value, ¬Rd w F u .bot:=fun u h=>by cases h
    exact hnb _ (a5 0 args[0] .bot (by simp [h0]) rfl)
  ·rw [e2 g hg];exact hS.ok g
 ·intro g s ds r hr hbot
  by_cases hg:g=j2
  ·subst hg
   rcases e1 s ds _ hr with h|⟨q,ys,zs,k,b,rfl,_⟩
   ·exact hS.is _ s ds r h hbot
   ·exact absurd rfl (hbot _)
  ·rw [e2 g hg] at hr;exact hS.is g s ds r hr hbot
 ·intro _ st q t' ys bytes st' d h
  rcases e1 _ _ _ h with h|⟨q0,ys0,zs,k,b,heq,q',h1,h2⟩
  ·exact hS.app hno st q t' ys bytes st' d h
  ·simp only [cD,V.rf.injEq,V.tl.injEq,V.val.injEq,Value.int.injEq,true_and,and_true] at heq
   obtain ⟨rfl,⟨htt,hys⟩,rfl,rfl⟩:=heq
   subst htt
   have hys:=eq_of_heq hys
   subst hys
   cases h2
   simp only [aR] at h1
   exact qBI hfl h1
 ·intro f st t' xs ds st' ys d h
  by_cases hf:f=j2
  ·subst hf
   rcases e1 _ _ _ h with h|⟨q0,ys0,zs,k,b,heq,_⟩
   ·exact hS.bor _ st t' xs ds st' ys d h
   ·simp at heq
  ·rw [e2 f hf] at h;exact hS.bor f st t' xs ds st' ys d h
def zQ.addE {Γ:Sig} (S:zQ Γ):zQ Γ:=fun f s ds=>
 match Nat.beq f j2 with
 |true=>match ds with
  |[.bot, .bot, .tl t ys, .val (.int _ b)]=> .some ⟨List t.El,app b.toNat [] ys,fun _=>s,fun zs=> .p (.tl t zs),false⟩
  |_=>S f s ds
 |false=>S f s ds
theorem qBZ {Γ:Sig} {P:Program} {bytes:Nat} {st:Γ.St} {t:Ty} {ys zs:List t.El} (h:app bytes [] ys=some zs):qA2 Γ P st .bot t ys bytes st (.tl t zs):=by
 intro ts ty t0 t1 el el1 info z w F O v0 v1 hts0 hts1 hu0 hu1 hinfo hz hsz hby hzc hbytes hR hF hr0 hr1
 subst hbytes
 obtain ⟨a0,rfl⟩:=(hr0: ∃a:Option Addr,v0= .slice a 0 0)
 unfold app at h
 split at h
 ·rename_i hbound
  simp only [aa,bM] at h
  subst h
  have hk2: ∀q,q∈ys.map t.enc→q.cells.length=info.size:=by
   intro q hq
   simp only [be] at hq
   obtain ⟨y,_,rfl⟩:=hq
   rw [vF];exact hsz
  obtain ⟨a1,cap1,cells,hv1,hcap1,hl2,hrun2,hr2⟩:=zIH (P:=P) (β:=⟨id,id⟩) (al:=fun _=>False) (x:= .p (.sl (ys.map t.enc))) hr1.untl rfl hk2
  simp only [aW] at hv1 hcap1 hl2 hrun2
  have hs:wA P el=some info.size:=zAB hinfo
  have hrest: ∀m,(Builtin.zeroCells z.cells m).size=m*info.size:=by
   intro m;simp only [Builtin.zeroCells,dK,Array.size_range];rw [hzc]
  cases ys with
  |nil=>
   have hrun:(Builtin.append_ ts ty #[.slice a0 0 0,v1]).run P w= .ok (.slice a0 0 0) w:=by
    rw [hv1]
    have hr:=hrun2 w rfl
    rw [hv1] at hr
    have hcn:cells=[]:=aM (by simpa using hl2)
    subst hcn
    simp only [av] at hr ⊢
    cases a0 with
    |none=>simp [Builtin.append_,hts0,hts1,zM hu0,zM hu1,zV hs,Builtin.lenOf,hr]
    |some ad=>simp [Builtin.append_,hts0,hts1,zM hu0,zM hu1,zV hs,Builtin.lenOf,hr,storeCells]
   exact ⟨_,w,hrun,F,O,hR,zDq.refl _ w,fun b hb=> .inl hb,fun b hb=>hb,fun b hb=>⟨.inl hb,hF b hb⟩, .tl t [] _ (.slemp a0 0)⟩
  |cons y r=>
   have hl2':cells.length=((y::r).map t.enc).length*info.size:=by simpa using hl2
   obtain ⟨newCap,hnc,hrun⟩:=xS (P:=P) (w:=w) (ts:=ts) (ty:=ty) (len:=0) (cap:=0) (n:=(y::r).length) (cap1:=cap1) (a0:=a0) (a1:=a1) (cells:=cells) (old:=[]) hts0 hts1 hu0 hu1 hinfo hz
    (by rw [←hv1];exact hrun2 w.drew rfl) (by cases a0<;>simp [Builtin.firstCells,loadCells,loadCellsFrom]) (by simp) hby (by simpa using hbound)
   rw [←hv1] at hrun
   simp only [bK] at hnc hrun
   have hrow:=zHU (w':=w.drew.alloc (.cells (([]:List Value).toArray++(cells.toArray++Builtin.zeroCells z.cells (newCap- (y::r).length))) el)) (F:=F) (b:=w.heap.size) (k:=info.size) (cap:=newCap) (es:=[]) (es2:=(y::r).map t.enc) (et:=el) (old:=[]) (cells:=cells)
    (by simp) hk2 (by simp) hl2' (fun i j q y hi hj=>by simp at hi) (fun i j e d hi hj=>by
     obtain ⟨x,hx,hrx⟩:=hr2 i j e d hi hj
     exact ⟨x,hx,hrx.mono (fun _ h=>h) (fun b hb=>wJ (w:=w.drew) (hF b hb).1)⟩) (by simpa using hnc) (by simpa using hrest _) (zAn (w:=w.drew))
   rw [bM] at hrow
   refine ⟨_,_,hrun,fun b=>F b∨b= .b w.heap.size,O,Γ.mono hR zNK (fun b hb=>wJ (w:=w.drew) (Γ.inb hR b hb)),⟨rfl,rfl,rfl,by simp,fun b hb _=>wJ (w:=w.drew) hb,c9 _⟩,fun b hb=> .inl hb,fun b hb=> .inl hb,?_,?_⟩
   ·rintro b (hb|hb)
    ·obtain ⟨h1,h2⟩:=hF b hb
     exact ⟨.inl hb,by simp;omega,h2⟩
    ·have hb:=zA3 hb
     subst hb
     exact ⟨.inr (aK _),by simp,fun ho=>by have:=Γ.inb hR _ ho;omega⟩
   ·have:=zGZ hrow (F':=fun b=>F b∨b= .b w.heap.size) (fun b hb=> .inl hb) (.inr rfl)
    rw [aW] at this
    exact .tl t (y::r) _ this
 ·cases h
theorem zUd {Γ:Sig} {P:Program} {G:Nat→Option (List V)} {S:zQ Γ} (hS:qG Γ P G S.toS) (hno:P.funcs[j2]? =none):qG Γ P G S.addE.toS:=by
 have e2: ∀g,g≠j2→S.addE.toS g=S.toS g:=by
  intro g hg
  funext s ds
  have:Nat.beq g j2=false:=by
   cases hb:Nat.beq g j2 with
   |false=>rfl
   |true=>exact absurd (aQ hb) hg
  simp only [zQ.toS,zQ.addE,this]
 have e1: ∀ (s:Γ.St) (ds:List V) r,S.addE.toS j2 s ds=some r→S.toS j2 s ds=some r∨
   ∃ (t:Ty) (ys zs:List t.El) (k:IntKind) (b:Int),ds=[.bot, .bot, .tl t ys, .val (.int k b)]∧app b.toNat [] ys=some zs∧r=(s, .p (.tl t zs)):=by
  intro s ds r h
  have ht:Nat.beq j2 j2=true:=bh _
  simp only [zQ.toS,zQ.addE,ht] at h
  split at h
  ·rename_i c hc
   split at hc
   ·rename_i t ys k b
    simp only [aa] at hc
    rw [←hc] at h
    simp only [ah] at h
    obtain ⟨zs,h1,h2⟩:=h
    exact .inr ⟨t,ys,zs,k,b,rfl,h1,h2.symm⟩
   ·exact .inl (by simp only [zQ.toS,hc];exact h)
  ·cases h
 refine ⟨?_,?_,?_,?_⟩
 ·intro g
  by_cases hg:g=j2
  ·subst hg
   intro w F O s args ds s' r a1 a2 a3 a4 a5 a6
   rcases e1 s ds _ a6 with h|⟨t,ys,zs,k,b,rfl,_⟩
   ·exact hS.ok j2 w F O s args ds s' r a1 a2 a3 a4 a5 h
   ·exfalso
    have h0:0<args.size:=by rw [a4];simp
    have hnb: ∀u:Value, ¬Rd w F u .bot:=fun u h=>by cases h
    exact hnb _ (a5 0 args[0] .bot (by simp [h0]) rfl)
  ·rw [e2 g hg];exact hS.ok g
 ·intro g s ds r hr hbot
  by_cases hg:g=j2
  ·subst hg
   rcases e1 s ds _ hr with h|⟨t,ys,zs,k,b,rfl,_⟩
   ·exact hS.is _ s ds r h hbot
   ·exact absurd rfl (hbot _)
  ·rw [e2 g hg] at hr;exact hS.is g s ds r hr hbot
 ·intro _ st q t ys bytes st' d h
  rcases e1 _ _ _ h with h|⟨t',ys',zs,k,b,heq,h1,h2⟩
  ·exact hS.app hno st q t ys bytes st' d h
  ·simp only [cD,V.tl.injEq,V.val.injEq,Value.int.injEq,true_and,and_true] at heq
   obtain ⟨rfl,⟨htt,hys⟩,rfl,rfl⟩:=heq
   subst htt
   have hys:=eq_of_heq hys
   subst hys
   cases h2
   simp only [aR] at h1
   exact qBZ h1
 ·intro f st t xs ds st' ys d h
  by_cases hf:f=j2
  ·subst hf
   rcases e1 _ _ _ h with h|⟨t',ys',zs,k,b,heq,_⟩
   ·exact hS.bor _ st t xs ds st' ys d h
   ·simp at heq
  ·rw [e2 f hf] at h;exact hS.bor f st t xs ds st' ys d h
section
variable {Γ:Sig} {P:Program} {G:Nat→Option (List V)}
noncomputable def qCI (L:jJ) (G:Nat→Option (List V)) (S:zQ Γ) (A:Nat→Option JA) (fn:Func) (c:Code) (R:RTy) (s:Γ.St) (ds:List V):Option (Γ.St×R.El):=
 zDU (start fn.ntmps s ds) (fun e=>exC L G S A c (Γ.St×R.El) (fun k e1 _=>match k with
  | .exit _=>none
  |_=>match zCC L e1 fn with
   |some r=>match R.get r with
    |some y=>some (e1.st,y)
    |none=>none
   |none=>none) e 0)
def zNS {X:Type} (dec:List V→Option X) (R:RTy) (g:Γ.St→X→Option (Γ.St×R.El)):Γ.St→List V→Option (zDL Γ.St):=fun s ds=>
 match dec ds with
 |some x=>some ⟨Γ.St×R.El,g s x,fun y=>y.1,fun y=>R.res y.2,R.pl⟩
 |none=>none
theorem qAg {S:zQ Γ} {A:Nat→Option JA} (hst: ∀k j,A k=some j→zFR j.sl=true) (hmix:P.follows .mixedOrders=true) (hS:qG Γ P G S.toS) {f:FuncId} {fn:Func} {c:Code} (hf:P.funcs[f]? =some fn) (hb:fn.body=some c)
  {X:Type} {dec:List V→Option X} {enc:X→List V} (hdec: ∀ds x,dec ds=some x→w5 ds (enc x)) {R:RTy} {g:Γ.St→X→Option (Γ.St×R.El)} (h: ∀s x,qCI (Γ:=Γ) P G S A fn c R s (enc x)=g s x):w6 Γ P G f (qQ (zNS dec R g)):=by
 intro w F O s args ds s' r hsig hG hF hlen hrd hspec
 simp only [qQ,zNS] at hspec
 split at hspec
 ·rename_i cx hcx
  split at hcx
  ·rename_i x hx
   simp only [aa] at hcx
   subst hcx
   simp only [ah] at hspec
   obtain ⟨⟨s1,y⟩,hy,hsr⟩:=hspec
   simp only [ak] at hsr
   obtain ⟨rfl,rfl⟩:=hsr
   have hwk:=hdec ds x hx
   have hlen':args.size=(enc x).length:=hlen.trans hwk.len
   have hrd': ∀ (i:Nat) (u:Value) (d:V),args[i]? =some u→(enc x)[i]? =some d→Rd w F u d:=by
    intro i u d hu hd
    have hlt:i<ds.length:=by rw [hwk.len];exact (ac.1 hd).1
    exact hwk.get i ds[i] d (by simp [hlt]) hd w F u (hrd i u ds[i] hu (by simp [hlt]))
   have hex:=h s x
   rw [hy] at hex
   unfold qCI at hex
   rw [uE] at hex
   obtain ⟨k,e',d,hok,_,hend⟩:=zIX (fun k j hj=> .inr (hst k j hj)) hmix hS c _ _ _ _ _ hex
   have hk:(k= .normal∨k= .ret)∧(match zCC (jJ.of P) e' fn with
    |some r=>match R.get r with
     |some y=>some (e'.st,y)
     |none=>none
    |none=>none)=some (s1,y):=by
    cases k with
    |normal=>exact ⟨.inl rfl,hend⟩
    |ret=>exact ⟨.inr rfl,hend⟩
    |exit id=>cases hend
   obtain ⟨hk,hend⟩:=hk
   split at hend
   ·rename_i r' hr'
    split at hend
    ·rename_i y' hy'
     simp only [aa,ak] at hend
     obtain ⟨rfl,rfl⟩:=hend
     refine calls_of_wp hf hb ?_
     have jB: ∀t,zW w F ⟨fun _=>0,fun _=>0⟩ (fun _=>False) ((args++Array.replicate (fn.ntmps-args.size) undef).getD t undef) ((start fn.ntmps s (enc x)).get t):=by
      intro t
      simp only [start,zGd,Env.get,az,au]
      by_cases ht:t< (enc x).length
      ·rw [aS (by simpa using ht),bf (by omega)]
       rw [am,ai ht,aP (by omega)]
       exact hrd' t _ _ (by simp [show t<args.size by omega]) (by simp [ht])
      ·rw [aT (by simpa using cN ht),bL (by omega),hlen']
       simp only [aW]
       by_cases h2:t- (enc x).length<fn.ntmps- (enc x).length
       ·rw [a8,if_pos h2,bR,if_pos h2]
        exact Rd.val _
       ·rw [a8,if_neg h2]
        trivial
     have hnovar: ∀s0,(start fn.ntmps s (enc x)).var s0=none:=by
      intro s0
      simp only [start,Env.var,a8]
      split<;>rfl
     have hinv:Inv Γ G w F O { tmps:=args++Array.replicate (fn.ntmps-args.size) undef,defers:=[] } w (start fn.ntmps s (enc x)):=by
      refine Inv.of (F:=F) (O:=O) (β:=⟨fun _=>0,fun _=>0⟩) (al:=fun _=>False) ⟨zDq.refl _ w,hsig,fun b hb=> .inl hb,fun b hb=>⟨.inl hb,hF b hb⟩,fun b hb=>hb,fun x hx=>hx.elim,fun x y hx=>hx.elim,fun b n h=>by cases h⟩ hG ?_ rfl jB ?_ (fun s h=>h.elim)
      ·simp [start,zGd,hlen']
      ·intro s0 cs hcs;rw [hnovar] at hcs;cases hcs
     refine wp_mono (hok w F O _ w hinv) ?_
     rintro ex a' w' ⟨rfl,hi'⟩
     obtain ⟨v,F',O',h1,h2,h3,h4,h5,h6,h7⟩:=zNh rfl hi' hr'
     have hdf:a'.defers=[]:=by obtain ⟨_,_,_,_,_,_,hdf,_⟩:=hi';exact hdf
     obtain ⟨F'',g1,gh,g2,g3⟩:=RTy.get_sound hy' h7
     have h2:=Γ.mono h2 gh (fun _ _=>rfl)
     have hF'': ∀b:Nat,F'' b→(F b∨w.heap.size≤b)∧b<w'.heap.size∧ ¬O' b:=by
      intro b hb
      rcases g2 b hb with hb|⟨h1,h2,h3⟩
      ·exact h6 b hb
      ·exact ⟨.inr h1,h2,h3⟩
     rcases hk with rfl|rfl
     ·exact ⟨hdf,v,h1,v,F'',O',rfl,h2,h3,h4,fun b hb=>g1 b (h5 b hb),hF'',g3⟩
     ·exact ⟨hdf,v,h1,v,F'',O',rfl,h2,h3,h4,fun b hb=>g1 b (h5 b hb),hF'',g3⟩
    ·cases hend
   ·cases hend
  ·cases hcx
 ·cases hspec
end
def Ty.norf:Ty→Bool
 | .rf=>false
 | .pair a b=>a.norf&&b.norf
 | .sl t=>t.norf
 |_=>true
theorem zGp {w:World} {F F':Blk→Prop} (hF: ∀b:Nat,F b→F' b): ∀ (t:Ty) (_:t.norf=true) (x:t.El) (v:Value) (d:V),d∈t.cells x→Rd w F v d→Rd w F' v d:=by
 intro t
 induction t with
 |int k=>intro _ x v d hd h;simp only [Ty.cells,aO] at hd;subst hd;rw [Rd.eq_val h];exact .val _
 |bool=>intro _ x v d hd h;simp only [Ty.cells,aO] at hd;subst hd;rw [Rd.eq_val h];exact .val _
 |str=>intro _ x v d hd h;simp only [Ty.cells,aO] at hd;subst hd;rw [Rd.eq_val h];exact .val _
 |unit=>intro _ x v d hd h;simp [Ty.cells] at hd
 |rf=>intro hn;simp [Ty.norf] at hn
 |pair a b iha ihb=>
  intro hn x v d hd h
  simp only [Ty.norf,aj] at hn
  simp only [Ty.cells,aX] at hd
  rcases hd with hd|hd
  ·exact iha hn.1 x.1 v d hd h
  ·exact ihb hn.2 x.2 v d hd h
 |sl t ih=>
  intro hn x v d hd h
  simp only [Ty.cells,aO] at hd
  subst hd
  refine .tl t x v ?_
  have h:=h.untl
  generalize hes:x.map t.enc=es at h
  cases h with
  |slemp a cap=>exact .slemp a cap
  |sl b off cap k _ g hFb hcap hk hg hr=>
   refine .sl b off cap k es g (hF b hFb) hcap hk hg ?_
   intro i j e d' hi hj
   have hi0:=hi
   rw [←hes] at hi0
   simp only [am,ah] at hi0
   obtain ⟨y,_,rfl⟩:=hi0
   exact ih hn y _ d' (by rw [←qY];exact af hj) (hr i j _ d' hi hj)
theorem zXA {w:World} {F F':Blk→Prop} (hF: ∀b:Nat,F b→F' b) {t:Ty} (hn:t.norf=true) {x:t.El} {v:Value} (h:Rd w F v (t.enc x)):Rd w F' v (t.enc x):=by
 cases t with
 |int k=>rw [Rd.eq_val h];exact .val _
 |bool=>rw [Rd.eq_val h];exact .val _
 |str=>rw [Rd.eq_val h];exact .val _
 |rf=>simp [Ty.norf] at hn
 |unit=>
  cases h with
  |agg cs _ hl hh=>exact .agg cs _ hl (fun i x d hi hd=>by simp at hd)
 |pair a b=>
  cases h with
  |agg cs _ hl hh=>exact .agg cs _ hl (fun i u d hi hd=>zGp hF (.pair a b) hn x u d (af hd) (hh i u d hi hd))
 |sl t=>exact zGp hF (.sl t) hn x v _ (by simp [Ty.cells,Ty.enc]) h
theorem zZB {w:World} {F F':Blk→Prop} (hF: ∀b:Nat,F b→F' b) {t:Ty} (hn:t.norf=true) {b k cap:Nat} {xs:List t.El} (hr:qL w F b k cap (xs.map t.enc)):qL w F' b k cap (xs.map t.enc):=by
 obtain ⟨c,et,h1,h2,h3,h4,h5⟩:=hr
 refine ⟨c,et,h1,h2,h3,h4,fun i j e d x a1 a2 a3=> ?_⟩
 have a0:=a1
 simp only [am,ah] at a0
 obtain ⟨y,hy,rfl⟩:=a0
 exact zGp hF t hn y x d (by rw [←qY];exact af a2) (h5 i j (t.enc y) d x a1 a2 a3)
def RTy.norf:RTy→Bool
 | .p ty=>ty.norf
 | .o ty=>ty.norf
 | .tu tys=>tys.all Ty.norf
theorem zNn {w:World} {F F':Blk→Prop} (hF: ∀b:Nat,F b→F' b): ∀ (ts:List Ty) (x:ElS ts),ts.all Ty.norf=true→ ∀ (i:Nat) (v:Value) (d:V),(kP ts x)[i]? =some d→Rd w F v d→Rd w F' v d
 |[],_,_,i,v,d,hd,_=>by simp [kP] at hd
 |t::ts,x,hn,i,v,d,hd,h=>by
  simp only [dw,aj] at hn
  cases i with
  |zero=>simp only [kP,aY,aa] at hd;subst hd;exact zXA hF hn.1 h
  |succ i=>exact zNn hF ts x.2 hn.2 i v d (by simpa [kP] using hd) h
theorem zZG {N:Nat} {w:World} {F F':Blk→Prop} {O O':Nat→Prop} (hF: ∀b:Nat,F b→F' b) (hF': ∀b:Nat,N≤b→F' b→F b) (hO: ∀b,N≤b→O' b→O b) {R:RTy} (hn:R.norf=true) {y:R.El} {v:Value} (h:x9 N w F O v (R.res y)):x9 N w F' O' v (R.res y):=by
 cases R with
 |p ty=>exact zXA (t:=ty) hF hn h
 |o ty=>
  rcases h with h|⟨h0,b,cap,h1,h2,h3,h4,h5,k,h6⟩
  ·exact .inl h
  ·exact .inr ⟨h0,b,cap,h1,h2,h3,fun hh=>h4 (hF' b h2 hh),fun hh=>h5 (hO b h2 hh),k,zZB (t:=ty) hF hn h6⟩
 |tu tys=>
  have h:Rd w F v (.tup (kP tys y)):=h
  cases h with
  |tup cs _ hl hh=>exact .tup cs _ hl (fun i u d hi hd=>zNn hF tys y hn i u d hd (hh i u d hi hd))
theorem zNc {Γ:Sig} {P:Program} {G:Nat→Option (List V)} {f:FuncId} {X:Type} {dec:List V→Option X} {R:RTy} {g:X→Option R.El} (hn:R.norf=true)
  (h:w6 jT P G f (qQ (vG dec R g))):w6 Γ P G f (qQ (vG dec R g)):=by
 intro w F O s args ds s' r hsig hG hF hlen hrd hspec
 simp only [qQ,vG] at hspec
 cases hx:dec ds with
 |none=>rw [hx] at hspec;cases hspec
 |some x=>
  rw [hx] at hspec
  simp only [ah,ak] at hspec
  obtain ⟨y,hy,rfl,rfl⟩:=hspec
  have hcall:=h w F (fun _=>False) () args ds () (R.res y) (fun _ h=>h) hG (fun b hb=>⟨(hF b hb).1,fun h=>h⟩) hlen hrd (by simp only [qQ,vG,hx,hy,aU])
  refine hcall.mono ?_
  rintro e w' ⟨v,F',O',rfl,g1,g2,g3,g4,g5,g6⟩
  let F'':Blk→Prop:=fun b=>match b with
   | .b n=>F' (.b n)
   | .h id a n c=>F (.h id a n c)
  have hkb: ∀b,O b→w'.heap[b]? =w.heap[b]? :=fun b hb=>g2.block b (Γ.inb hsig b hb) (fun h=>h)
  refine ⟨v,F'',O,rfl,Γ.mono hsig (fun _ _ _ _=>cC) hkb,⟨g2.os,g2.tape,g2.output,g2.size,fun b hb _=>g2.block b hb (fun h=>h),g2.drawn⟩,fun b hb=> .inl hb,?_,?_,?_⟩
  ·intro b hb
   cases b with
   |b n=>exact g4 _ hb
   |h _ _ _ _=>exact hb
  ·intro b hb
   obtain ⟨h1,h2,_⟩:=g5 b hb
   refine ⟨h1,h2,fun ho=> ?_⟩
   rcases h1 with h1|h1
   ·exact (hF b h1).2 ho
   ·have:=Γ.inb hsig b ho;omega
  ·exact zZG (F:=F') (F':=F'') (fun b hb=>hb) (fun b _ hb=>hb) (fun b hb ho=>by have:=Γ.inb hsig b ho;omega) hn g6
@[reducible] def vX (tE:Ty):Ty→Ty
 | .rf=> .sl tE
 | .pair a b=> .pair (vX tE a) (vX tE b)
 | .sl t=> .sl (vX tE t)
 | .int k=> .int k
 | .bool=> .bool
 | .str=> .str
 | .unit=> .unit
def zLY {α β:Type} (f:α→Option β):List α→Option (List β)
 |[]=>some []
 |x::r=>match f x,zLY f r with
  |some y,some ys=>some (y::ys)
  |_,_=>none
def zAR {tE:Ty} (st:HSt tE):(t:Ty)→t.El→Option (vX tE t).El
 | .rf,o=>match o with
  |none=>some []
  |some (id,_)=>match st[id]? with
   |some (some xs)=>some xs
   |_=>none
 | .pair a b,x=>match zAR st a x.1,zAR st b x.2 with
  |some y,some z=>some (y,z)
  |_,_=>none
 | .sl t,xs=>zLY (zAR st t) xs
 | .int _,x=>some x
 | .bool,x=>some x
 | .str,x=>some x
 | .unit,x=>some x
theorem zLX {α β:Type} {f:α→Option β} : ∀ {xs:List α} {ys:List β},zLY f xs=some ys→xs.length=ys.length∧ ∀ (i:Nat) (y:β),ys[i]? =some y→ ∃x,xs[i]? =some x∧f x=some y
 |[],ys,h=>by simp only [zLY,aa] at h;subst h;exact ⟨rfl,fun i y h=>by simp at h⟩
 |x::r,ys,h=>by
  simp only [zLY] at h
  split at h
  ·rename_i y ys' hy hys
   simp only [aa] at h
   subst h
   obtain ⟨h1,h2⟩:=zLX hys
   refine ⟨by simp [h1],fun i z hz=> ?_⟩
   cases i with
   |zero=>simp only [aY,aa] at hz;subst hz;exact ⟨x,rfl,hy⟩
   |succ i=>exact h2 i z (by simpa using hz)
  ·cases h
theorem kR (tE:Ty): ∀t:Ty,(vX tE t).size=t.size
 | .rf=>rfl
 | .pair a b=>by simp only [vX,Ty.size];rw [kR tE a,kR tE b]
 | .sl _=>rfl
 | .int _=>rfl
 | .bool=>rfl
 | .str=>rfl
 | .unit=>rfl
section
variable {tE:Ty} {st:HSt tE} {F F':Blk→Prop} {O:Nat→Prop} {w:World} {hb hc:Nat→Nat}
theorem zMI (h:zXh tE st F O w hb hc) (hF: ∀b:Nat,F b→F' b) (hO: ∀b,O b→F' (.b b)): ∀ (t:Ty) (x:t.El) (y:(vX tE t).El),zAR st t x=some y→
  ∀ (i:Nat) (v:Value) (d d':V),(t.cells x)[i]? =some d→((vX tE t).cells y)[i]? =some d'→Rd w F v d→Rd w F' v d':=by
 intro t
 induction t with
 |int k=>
  intro x y hxy i v d d' hd hd' hr
  obtain rfl:x=y:=aJ hxy
  have:=hd.symm.trans hd'
  simp only [aa] at this;subst this
  cases i with
  |zero=>simp only [Ty.cells,aY,aa] at hd;subst hd;rw [Rd.eq_val hr];exact .val _
  |succ i=>simp [Ty.cells] at hd
 |bool=>
  intro x y hxy i v d d' hd hd' hr
  obtain rfl:x=y:=aJ hxy
  have:=hd.symm.trans hd'
  simp only [aa] at this;subst this
  cases i with
  |zero=>simp only [Ty.cells,aY,aa] at hd;subst hd;rw [Rd.eq_val hr];exact .val _
  |succ i=>simp [Ty.cells] at hd
 |str=>
  intro x y hxy i v d d' hd hd' hr
  obtain rfl:x=y:=aJ hxy
  have:=hd.symm.trans hd'
  simp only [aa] at this;subst this
  cases i with
  |zero=>simp only [Ty.cells,aY,aa] at hd;subst hd;rw [Rd.eq_val hr];exact .val _
  |succ i=>simp [Ty.cells] at hd
 |unit=>intro x y hxy i v d d' hd;simp [Ty.cells] at hd
 |rf=>
  intro x y hxy i v d d' hd hd' hr
  cases i with
  |succ i=>simp [Ty.cells] at hd
  |zero=>
   simp only [Ty.cells,aY,aa] at hd
   simp only [vX,Ty.cells,aY,aa] at hd'
   subst hd hd'
   cases hr with
   |rfn=>
    obtain rfl:([]:List tE.El)=y:=aJ hxy
    exact .tl tE [] _ (.slemp none 0)
   |rf id a n c hh=>
    simp only [zAR] at hxy
    split at hxy
    ·rename_i xs hxs
     obtain rfl:xs=y:=aJ hxy
     obtain ⟨rfl,rfl,rfl⟩:=(h.hdl id xs hxs _ _ _).1 hh
     obtain ⟨_,h2,h3⟩:=h.row id xs hxs
     refine .tl tE xs _ ?_
     have:=zGZ (F':=F') h3 (fun _ h=>h.elim) (hO _ h2)
     simpa using this
    ·cases hxy
 |pair a b iha ihb=>
  intro x y hxy i v d d' hd hd' hr
  simp only [zAR] at hxy
  split at hxy
  ·rename_i y1 y2 h1 h2
   obtain rfl:(y1,y2)=y:=aJ hxy
   simp only [vX,Ty.cells] at hd hd'
   by_cases hi:i< (a.cells x.1).length
   ·rw [aS hi] at hd
    rw [aS (by rw [jA,kR];rw [jA] at hi;exact hi)] at hd'
    exact iha x.1 y1 h1 i v d d' hd hd' hr
   ·rw [aT (by omega)] at hd
    rw [aT (by rw [jA,kR];rw [jA] at hi;omega)] at hd'
    rw [jA,kR, ←jA a x.1] at hd'
    exact ihb x.2 y2 h2 _ v d d' hd hd' hr
  ·cases hxy
 |sl t ih=>
  intro x y hxy i v d d' hd hd' hr
  cases i with
  |succ i=>simp [Ty.cells] at hd
  |zero=>
   simp only [Ty.cells,aY,aa] at hd
   simp only [vX,Ty.cells,aY,aa] at hd'
   subst hd hd'
   obtain ⟨hlen,jB⟩:=zLX (show zLY (zAR st t) x=some y from hxy)
   refine .tl (vX tE t) y v ?_
   have hr1:=hr.untl
   clear hr
   generalize hes:x.map t.enc=es at hr1
   cases hr1 with
   |slemp a cap=>
    have hx0:x=[]:=by simpa using hes
    subst hx0
    have hy0:y=[]:=aM hlen.symm
    subst hy0
    exact .slemp a cap
   |sl b off cap k _ g hFb hcap hk hg hr=>
    have hel:es.length=(y.map (vX tE t).enc).length:=by rw [←hes,aW,aW];exact hlen
    rw [hel] at hg hcap ⊢
    have hkk: ∀e,e∈y.map (vX tE t).enc→e.cells.length=k:=by
     intro e he
     simp only [be] at he
     obtain ⟨y0,hy0,rfl⟩:=he
     rw [vF,kR]
     obtain ⟨j,hj⟩:=dC hy0
     obtain ⟨x0,hx0,_⟩:=jB j y0 hj
     have:=hk (t.enc x0) (by rw [←hes];exact List.mem_map_of_mem (af hx0))
     rw [vF] at this;exact this
    refine .sl b off cap k _ g (hF b hFb) hcap hkk hg ?_
    intro i j e d' hi hj
    simp only [am,ah] at hi
    obtain ⟨y0,hy0,rfl⟩:=hi
    obtain ⟨x0,hx0,hxy0⟩:=jB i y0 hy0
    rw [qY] at hj
    have hjl:j< (t.cells x0).length:=by
     have:=(ac.1 hj).1
     rw [jA,kR] at this;rw [jA];exact this
    refine ih x0 y0 hxy0 j _ (t.cells x0)[j] d' (by simp [hjl]) hj (hr i j (t.enc x0) _ (by rw [←hes];simp [hx0]) (by rw [qY];simp [hjl]))
theorem zXp (h:zXh tE st F O w hb hc) (hF: ∀b:Nat,F b→F' b) (hO: ∀b,O b→F' (.b b)) (t:Ty) (x:t.El) (y:(vX tE t).El) (hxy:zAR st t x=some y) {v:Value} (hr:Rd w F v (t.enc x)):Rd w F' v ((vX tE t).enc y):=by
 have one: ∀ (_:t.enc x=(t.cells x)[0]?.getD .bot) (_:(vX tE t).enc y=((vX tE t).cells y)[0]?.getD .bot) (_:0<t.size),Rd w F' v ((vX tE t).enc y):=by
  intro h1 h2 h3
  have l1:0< (t.cells x).length:=by rw [jA];exact h3
  have l2:0< ((vX tE t).cells y).length:=by rw [jA,kR];exact h3
  rw [h1] at hr
  rw [h2]
  simp only [ai l1,a7] at hr
  simp only [ai l2,a7]
  exact zMI h hF hO t x y hxy 0 v _ _ (by simp [l1]) (by simp [l2]) hr
 cases t with
 |int k=>exact one rfl rfl Nat.one_pos
 |bool=>exact one rfl rfl Nat.one_pos
 |str=>exact one rfl rfl Nat.one_pos
 |rf=>exact one rfl rfl Nat.one_pos
 |sl t=>exact one rfl rfl Nat.one_pos
 |unit=>
  cases hr with
  |agg cs _ hl hh=>exact .agg cs _ hl (fun i x d hi hd=>by simp at hd)
 |pair a b=>
  cases hr with
  |agg cs _ hl hh=>
   have e1:(a.cells x.1++b.cells x.2).length=(Ty.pair a b).size:=jA (.pair a b) x
   have e2:(((vX tE a).cells y.1)++((vX tE b).cells y.2)).length=(vX tE (Ty.pair a b)).size:=jA (vX tE (Ty.pair a b)) y
   refine .agg cs _ (by rw [hl,e1,e2,kR]) ?_
   intro i u d hi hd
   have hlt:i< (a.cells x.1++b.cells x.2).length:=by
    have:=(ac.1 hd).1
    rw [e2,kR] at this;rw [e1];exact this
   exact zMI h hF hO (.pair a b) x y hxy i u _ d (by simp only [Ty.cells];exact ai hlt) hd (hh i u _ hi (ai hlt))
end
end Go.Ve

namespace Go.Ve
open Go
theorem zFd: ∀ (t:Ty) (x:t.El) (r:List V),t.uncells (t.cells x++r)=some (x,r)
 | .int k,x,r=>by simp [Ty.cells,Ty.uncells,zGa]
 | .bool,x,r=>by simp [Ty.cells,Ty.uncells,zEc]
 | .str,x,r=>by simp [Ty.cells,Ty.uncells,zF9]
 | .unit,x,r=>by simp [Ty.cells,Ty.uncells]
 | .rf,x,r=>by simp [Ty.cells,Ty.uncells,zJ2]
 | .sl t,x,r=>by simp [Ty.cells,Ty.uncells,zJ1]
 | .pair a b,x,r=>by
  simp only [Ty.cells,Ty.uncells,bp]
  rw [zFd a x.1]
  simp only
  rw [zFd b x.2]
theorem qBP (t:Ty) (x:t.El):t.dec (t.enc x)=some x:=by
 cases t with
 |int k=>simp [Ty.enc,Ty.dec,zGa]
 |bool=>simp [Ty.enc,Ty.dec,zEc]
 |str=>simp [Ty.enc,Ty.dec,zF9]
 |unit=>rfl
 |rf=>simp [Ty.enc,Ty.dec,zJ2]
 |sl t=>simp [Ty.enc,Ty.dec,zJ1]
 |pair a b=>
  have:=zFd (.pair a b) x []
  simp only [ba] at this
  simp only [Ty.enc,Ty.dec]
  simp only [Ty.cells] at this
  rw [this]
theorem zED: ∀ (ts:List Ty) (x:ElS ts),zFs ts (kP ts x)=some x
 |[],_=>rfl
 |t::ts,x=>by
  simp only [kP,zFs,qBP,zED ts]
@[reducible] def zHG (tE:Ty):List Ty→List Ty
 |[]=>[]
 |t::r=>vX tE t::zHG tE r
def zPh {tE:Ty} (st:HSt tE):(ts:List Ty)→ElS ts→Option (ElS (zHG tE ts))
 |[],_=>some ()
 |t::r,x=>match zAR st t x.1,zPh st r x.2 with
  |some y,some z=>some (y,z)
  |_,_=>none
@[reducible] def zT5 (tE:Ty):RTy→RTy
 | .p ty=> .p (vX tE ty)
 | .o ty=> .o (vX tE ty)
 | .tu tys=> .tu (zHG tE tys)
def zZg {tE:Ty} (st:HSt tE):(R:RTy)→R.El→Option (zT5 tE R).El
 | .p ty,x=>zAR st ty x
 | .o ty,xs=>zLY (zAR st ty) xs
 | .tu tys,x=>zPh st tys x
section
variable {tE:Ty} {st:HSt tE} {F F':Blk→Prop} {O:Nat→Prop} {w:World} {hb hc:Nat→Nat}
theorem zT4 (h:zXh tE st F O w hb hc) (hF: ∀b:Nat,F b→F' b) (hO: ∀b,O b→F' (.b b)): ∀ (ts:List Ty) (x:ElS ts) (y:ElS (zHG tE ts)),zPh st ts x=some y→
  (kP ts x).length=(kP (zHG tE ts) y).length∧ ∀ (i:Nat) (v:Value) (d d':V),(kP ts x)[i]? =some d→(kP (zHG tE ts) y)[i]? =some d'→Rd w F v d→Rd w F' v d'
 |[],_,_,_=>⟨rfl,fun i v d d' hd=>by simp [kP] at hd⟩
 |t::ts,x,y,hxy=>by
  simp only [zPh] at hxy
  split at hxy
  ·rename_i y1 y2 h1 h2
   obtain rfl:(y1,y2)=y:=aJ hxy
   obtain ⟨k1,k2⟩:=zT4 h hF hO ts x.2 y2 h2
   refine ⟨by simp only [kP,aA,k1],fun i v d d' hd hd' hr=> ?_⟩
   cases i with
   |zero=>
    simp only [kP,aY,aa] at hd hd'
    subst hd hd'
    exact zXp h hF hO t x.1 y1 h1 hr
   |succ i=>exact k2 i v d d' (by simpa [kP] using hd) (by simpa [kP] using hd') hr
  ·cases hxy
theorem zZe (h:zXh tE st F O w hb hc) (hF: ∀b:Nat,F b→F' b) (hO: ∀b,O b→F' (.b b)) {t:Ty} {xs:List t.El} {ys:List (vX tE t).El} (hxy:zLY (zAR st t) xs=some ys) {b k cap:Nat}
  (hr:qL w F b k cap (xs.map t.enc)):qL w F' b k cap (ys.map (vX tE t).enc):=by
 obtain ⟨hlen,jB⟩:=zLX hxy
 obtain ⟨c,et,h1,h2,h3,h4,h5⟩:=hr
 refine ⟨c,et,h1,h2,by simpa [←hlen] using h3,?_,?_⟩
 ·intro e he
  simp only [be] at he
  obtain ⟨y0,hy0,rfl⟩:=he
  rw [vF,kR]
  obtain ⟨j,hj⟩:=dC hy0
  obtain ⟨x0,hx0,_⟩:=jB j y0 hj
  have:=h4 (t.enc x0) (List.mem_map_of_mem (af hx0))
  rw [vF] at this;exact this
 ·intro i j e d' x hi hj hx
  simp only [am,ah] at hi
  obtain ⟨y0,hy0,rfl⟩:=hi
  obtain ⟨x0,hx0,hxy0⟩:=jB i y0 hy0
  rw [qY] at hj
  have hjl:j< (t.cells x0).length:=by
   have:=(ac.1 hj).1
   rw [jA,kR] at this;rw [jA];exact this
  exact zMI h hF hO t x0 y0 hxy0 j _ (t.cells x0)[j] d' (by simp [hjl]) hj (h5 i j (t.enc x0) _ x (by simp [hx0]) (by rw [qY];simp [hjl]) hx)
theorem zZf (h:zXh tE st F O w hb hc) (hF: ∀b:Nat,F b→F' b) (hO: ∀b,O b→F' (.b b)) (hF': ∀b:Nat,F' b→F b∨O b) {N:Nat} {R:RTy} {x:R.El} {y:(zT5 tE R).El} (hxy:zZg st R x=some y) {v:Value}
  (hr:x9 N w F O v (R.res x)):x9 N w F' (fun _=>False) v ((zT5 tE R).res y):=by
 cases R with
 |p ty=>exact zXp h hF hO ty x y hxy hr
 |o ty=>
  have hxy:zLY (zAR st ty) x=some y:=hxy
  obtain ⟨hlen,_⟩:=zLX hxy
  rcases hr with ⟨h0,hv⟩|⟨h0,b,cap,h1,h2,h3,h4,h5,k,h6⟩
  ·have hx0:x=[]:=by simpa using h0
   subst hx0
   have hy0:y=[]:=aM hlen.symm
   subst hy0
   exact .inl ⟨rfl,hv⟩
  ·refine .inr ⟨?_,b,cap,by rw [h1];simp [hlen],h2,h3,fun hh=>(hF' b hh).elim h4 h5,fun hh=>hh,k,zZe h hF hO hxy h6⟩
   intro hh
   have hy0:y=[]:=by simpa using hh
   subst hy0
   have hx0:x=[]:=aM hlen
   subst hx0
   exact h0 rfl
 |tu tys=>
  have hr:Rd w F v (.tup (kP tys x)):=hr
  obtain ⟨k1,k2⟩:=zT4 h hF hO tys x y hxy
  cases hr with
  |tup cs _ hl hh=>
   refine Rd.tup cs (kP (zHG tE tys) y) (hl.trans k1) ?_
   intro i u d hi hd
   have hlt:i< (kP tys x).length:=by rw [k1];exact (ac.1 hd).1
   exact k2 i u _ d (ai hlt) hd (hh i u _ hi (ai hlt))
end
def zPi {tE:Ty} {X:Type} (R:RTy) (g:HSt tE→X→Option (HSt tE×R.El)) (x:X):Option (zT5 tE R).El:=
 match g [] x with
 |some (st,y)=>zZg st R y
 |none=>none
theorem zNY {tE:Ty} {P:Program} {G:Nat→Option (List V)} (hG0: ∀g,G g=none) {f:FuncId} {ts:List Ty} (hts:ts.all Ty.norf=true) {R:RTy} {g:HSt tE→ElS ts→Option (HSt tE×R.El)}
  (h:w6 (wF tE) P G f (qQ (zNS (zFs ts) R g))):w6 jT P G f (qQ (wI ts (zT5 tE R) (zPi R g))):=by
 intro w F O s args ds s' r hsig hG hF hlen hrd hspec
 simp only [qQ,wI,vG] at hspec
 cases hx:zFs ts ds with
 |none=>rw [hx] at hspec;cases hspec
 |some x=>
  rw [hx] at hspec
  simp only [ah,ak] at hspec
  obtain ⟨y,hy,rfl,rfl⟩:=hspec
  unfold zPi at hy
  split at hy
  ·rename_i st y0 hg
   have hwk:=uU ts ds x hx
   let F0:Blk→Prop:=fun b=>match b with
    | .b n=>F (.b n)
    | .h _ _ _ _=>False
   have hR0:(wF tE).R [] F0 (fun _=>False) w:=⟨fun _=>0,fun _=>0,fun id xs hh=>by simp at hh,fun id _ a n c hh=>hh,fun id xs hh=>by simp at hh,fun id id' xs xs' hh=>by simp at hh,fun b hh=>hh.elim⟩
   have hcall:=h w F0 (fun _=>False) [] args (kP ts x) st (R.res y0) hR0 (fun g cs hg=>by rw [hG0 g] at hg;cases hg) (fun b hb=>⟨(hF b hb).1,fun hh=>hh⟩) (hlen.trans hwk.len) (by
    intro i u d hu hd
    have hlt:i<ds.length:=by rw [hwk.len];exact (ac.1 hd).1
    have:=hwk.get i ds[i] d (by simp [hlt]) hd w F u (hrd i u ds[i] hu (by simp [hlt]))
    exact zNn (F:=F) (F':=F0) (fun b hb=>hb) ts x hts i u d hd this) (by simp only [qQ,zNS,zED];rw [hg];rfl)
   refine hcall.mono ?_
   rintro e w' ⟨v,F',O',rfl,⟨hb,hc,g1⟩,g2,g3,g4,g5,g6⟩
   let F'':Blk→Prop:=fun b=>match b with
    | .b n=>F' (.b n)∨O' n
    | .h id a n c=>F (.h id a n c)
   refine ⟨v,F'',fun _=>False,rfl,fun _ hh=>hh,⟨g2.os,g2.tape,g2.output,g2.size,fun b hb _=>g2.block b hb (fun hh=>hh),g2.drawn⟩,fun b hh=>hh.elim,?_,?_,?_⟩
   ·intro b hb0
    cases b with
    |b n=>exact .inl (g4 (.b n) hb0)
    |h _ _ _ _=>exact hb0
   ·intro b hb0
    rcases hb0 with hb0|hb0
    ·obtain ⟨k1,k2,_⟩:=g5 b hb0
     exact ⟨k1,k2,fun hh=>hh⟩
    ·refine ⟨.inr ((g3 b hb0).elim (fun hh=>hh.elim) (fun hh=>hh)),(wF tE).inb (⟨hb,hc,g1⟩:(wF tE).R st F' O' w') b hb0,fun hh=>hh⟩
   ·exact zZf (F':=F'') g1 (fun b hh=> .inl hh) (fun b hh=> .inr hh) (fun b hh=>hh) hy g6
  ·cases hy
def qBh {St:Type} (S:St→List V→Option (St×RV)) (ts:List Ty) (R:RTy) (s:St) (x:ElS ts):Option (St×R.El):=
 match S s (kP ts x) with
 |some (s',r)=>match R.get r with
  |some y=>some (s',y)
  |none=>none
 |none=>none
theorem zYu {Γ:Sig} {P:Program} {G:Nat→Option (List V)} {f:FuncId} {S:Γ.St→List V→Option (Γ.St×RV)} (h:w6 Γ P G f S) (ts:List Ty) (R:RTy):
  w6 Γ P G f (qQ (zNS (zFs ts) R (qBh S ts R))):=by
 intro w F O s args ds s' r hsig hG hF hlen hrd hspec
 simp only [qQ,zNS] at hspec
 cases hx:zFs ts ds with
 |none=>rw [hx] at hspec;cases hspec
 |some x=>
  rw [hx] at hspec
  simp only [ah,ak] at hspec
  obtain ⟨⟨s1,y⟩,hy,rfl,rfl⟩:=hspec
  unfold qBh at hy
  split at hy
  ·rename_i s2 r0 hS
   split at hy
   ·rename_i y0 hy0
    simp only [aa,ak] at hy
    obtain ⟨rfl,rfl⟩:=hy
    have hwk:=uU ts ds x hx
    have hcall:=h w F O s args (kP ts x) s2 r0 hsig hG hF (hlen.trans hwk.len) (by
     intro i u d hu hd
     have hlt:i<ds.length:=by rw [hwk.len];exact (ac.1 hd).1
     exact hwk.get i ds[i] d (by simp [hlt]) hd w F u (hrd i u ds[i] hu (by simp [hlt]))) hS
    refine hcall.mono ?_
    rintro e w' ⟨v,F',O',rfl,g1,g2,g3,g4,g5,g6⟩
    obtain ⟨F'',k1,kh,k2,k3⟩:=RTy.get_sound hy0 g6
    refine ⟨v,F'',O',rfl,Γ.mono g1 kh (fun _ _=>rfl),g2,g3,fun b hb=>k1 b (g4 b hb),?_,k3⟩
    intro b hb
    rcases k2 b hb with hb|⟨h1,h2,h3⟩
    ·exact g5 b hb
    ·exact ⟨.inr h1,h2,h3⟩
   ·cases hy
  ·cases hy
theorem zU4 {Γ:Sig} {P:Program} {G:Nat→Option (List V)} {f:FuncId} {S S':Γ.St→List V→Option (Γ.St×RV)} (h:w6 Γ P G f S) (hs: ∀s ds r,S' s ds=some r→S s ds=some r):w6 Γ P G f S':=
 fun w F O s args ds s' r a1 a2 a3 a4 a5 a6=>h w F O s args ds s' r a1 a2 a3 a4 a5 (hs _ _ _ a6)
end Go.Ve
