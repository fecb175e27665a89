/-
  The evaluator over pure values, part 20: stores into a slice of the frame's own; what stays from now on; one operation, whatever it is.
  The evaluator over pure values, part 21: regions: in the order of the text; in an order that is drawn, with a tail that comes last in every order.
  The evaluator over pure values, part 14: statements and functions.
  The evaluator over pure values, part 15: a function's contract out of the evaluation of its body.
  The evaluator over pure values, part 16: an evaluation that computes; the interpreter over all functions.
-/
import Derived.Test.YtaidmnnejapafaaGreatDoorl5
set_option linter.unusedVariables false
namespace Go.Ve
open Go
def z5 (cs:List V) (o:Nat):List V→List V
 |[]=>cs
 |x::r=>z5 (cs.set o x) (o+1) r
theorem zBJ: ∀ (xs cs:List V) (o:Nat),(z5 cs o xs).length=cs.length:=by
 intro xs
 induction xs with
 |nil=>intro cs o;rfl
 |cons x xs ih=>intro cs o;simp [z5,ih]
theorem zL5: ∀ (xs cs:List V) (o i:Nat),o+xs.length≤cs.length→(z5 cs o xs)[i]? =if o≤i∧i<o+xs.length then xs[i-o]? else cs[i]? :=by
 intro xs
 induction xs with
 |nil=>intro cs o i _;simp [z5];intro h1 h2;omega
 |cons x xs ih=>
  intro cs o i h
  simp only [List.length_cons] at h
  simp only [z5]
  rw [ih _ _ _ (by simp;omega)]
  by_cases h1:o+1≤i∧i<o+1+xs.length
  ·rw [if_pos h1,if_pos (by simp;omega)]
   have:i-o=(i- (o+1))+1:=by omega
   rw [this];simp
  ·rw [if_neg h1]
   by_cases h2:i=o
   ·subst h2
    rw [List.getElem?_set_self (by omega),if_pos (by simp)]
    simp
   ·rw [List.getElem?_set_ne (Ne.symm h2),if_neg (by simp;omega)]
def uT (q:V) (cs:List V):V:=
 match q with
 | .agg _=> .agg cs
 |_=>match cs with
  |[y]=>y
  |_=>q
def zB0 (id k n:Nat) (q:V):T→T
 | .ow i k' es=>if i=id then (if k'=k then .ow i k (es.set n q) else .dead) else .ow i k' es
 | .oe i k' es j off=>if i=id then (if k'=k then .oe i k (es.set n q) j off else .dead) else .oe i k' es j off
 | .ot i t xs=>if i=id then .dead else .ot i t xs
 | .oet i t xs j off=>if i=id then .dead else .oet i t xs j off
 | .ov i t xs j off=>if i=id then .dead else .ov i t xs j off
 | .on n=>if n.id=id∨n.id2=id then .dead else .on n
 |x=>x
section
variable {Γ:Sig} {P:Program} {G:Nat→Option (List V)} {S:qZ Γ} {o:Oper} {a:Act} {w0:World} {F0:Blk→Prop} {O0:kC} {w:World} {F:Blk→Prop} {β:Lay} {al:Site→Prop} {e e':Env Γ.St}
theorem z7.mapT {w':World} {F':Blk→Prop} {β':Lay} {al':Site→Prop} {f:T→T} {b:Nat} {cs:List T} (hb:w'.heap[b]? =w.heap[b]?)
  (hf: ∀v x,zE w F β al v x→zE w' F' β' al' v (f x)) (h:z7 w F β al b cs):z7 w' F' β' al' b (cs.map f):=by
 obtain ⟨c,et,h1,h2,h3⟩:=h
 refine ⟨c,et,hb.trans h1,by simpa using h2,?_⟩
 intro i x y hi hy
 simp only [List.getElem?_map,Option.map_eq_some_iff] at hy
 obtain ⟨z,hz,rfl⟩:=hy
 exact hf x z (h3 i x z hi hz)
def zAx (P:qK) (e:Env Γ.St) (t:TypeId) (id k:Nat) (es:List V) (i off:Nat) (d:V):Option (Env Γ.St):=
 match es[i]? with
 |some q=>
  if z9 P t=some d.cells.length∧off+d.cells.length≤k∧d.cells.all V.one=true∧q.cells.length=k∧(uT q (z5 q.cells off d.cells)).cells.length=k∧
    (q.noAgg=true→d.cells.length=1∧k=1) then
   some (e.mapT (zB0 id k i (uT q (z5 q.cells off d.cells))))
  else none
 |none=>none
theorem zCT {q d:V} {off k:Nat} (hq:q.cells.length=k) (hone:d.cells.all V.one=true) (hfit:off+d.cells.length≤k)
  (hc:q.noAgg=true→d.cells.length=1∧k=1):(uT q (z5 q.cells off d.cells)).cells=z5 q.cells off d.cells:=by
 have hl:=zBJ d.cells q.cells off
 have main:(∀cs,q≠ .agg cs)→d.cells.length=1∧k=1→(match z5 q.cells off d.cells with|[y]=>y|_=>q).cells=z5 q.cells off d.cells:=by
  intro hna ⟨h1,hk⟩
  subst hk
  obtain rfl:off=0:=by omega
  match hd:d.cells,h1 with
  |[y],_=>
   have hy:y.one=true:=by rw [hd] at hone;simpa using hone
   match hqc:q.cells,hq with
   |[z],_=>
    simp only [z5,List.set_cons_zero]
    cases y<;>first|rfl|(simp [V.one] at hy)
 cases q with
 |agg cs=>rfl
 |val v=>exact main (fun cs h=>by cases h) (hc rfl)
 |sl es=>exact main (fun cs h=>by cases h) (hc rfl)
 |tup vs=>exact main (fun cs h=>by cases h) (hc rfl)
 |clo f cs=>exact main (fun cs h=>by cases h) (hc rfl)
 |pp cs=>exact main (fun cs h=>by cases h) (hc rfl)
 |tl t xs=>exact main (fun cs h=>by cases h) (hc rfl)
 |rf o=>exact main (fun cs h=>by cases h) (hc rfl)
 |hd o=>exact main (fun cs h=>by cases h) (hc rfl)
 |bot=>exact main (fun cs h=>by cases h) (hc rfl)
theorem zKo {b k i off cap:Nat} {es0:List V} {c:Array Value} {et:TypeId} {q d:V} {vs:List Value} (hFne: ∀b':Nat,F b'→b'≠b) (g1:w.heap[b]? =some (.cells c et (0,0)))
  (p2:b<w.heap.size) (g5: ∀ (j:Nat) (d':V) (x:Value),q.cells[j]? =some d'→c[i*k+j]? =some x→Rd w F x d') (hqk:q.cells.length=k) (hfit:off+d.cells.length≤k)
  (hre:(uT q (z5 q.cells off d.cells)).cells.length=k) (hrc:(uT q (z5 q.cells off d.cells)).cells=z5 q.cells off d.cells) (h1:vs.length=d.cells.length)
  (hsz:i*k+off+vs.length≤c.size)
  (h3: ∀ (m:Nat) (x:Value) (y:V),vs[m]? =some x→d.cells[m]? =some y→Rd w F x y) (hr0:zW w F b k cap es0):
  zW (setBlk w b (.cells (qE c (i*k+off) vs) et (0,0))) F b k cap (es0.set i (uT q (z5 q.cells off d.cells))):=by
 obtain ⟨c',et',q1,q2,q3,q4,q5⟩:=hr0
 rw [g1] at q1
 simp only [Option.some.injEq,Obj.cells.injEq] at q1
 obtain ⟨rfl,_,_⟩:=q1
 refine ⟨_,et,zAa p2,by rw [kD];exact q2,by simpa using q3,?_,?_⟩
 ·intro y hy
  rcases List.mem_or_eq_of_mem_set hy with h|h
  ·exact q4 y h
  ·rw [h];exact hre
 ·intro i' j y d' x hi' hj hx
  have hj':=(List.getElem?_eq_some_iff.1 hj).1
  rw [zDO _ _ _ _ hsz] at hx
  simp only [h1] at hx
  by_cases hii:i=i'
  ·subst hii
   have hil0:i<es0.length:=by have:=(List.getElem?_eq_some_iff.1 hi').1;simpa using this
   rw [List.getElem?_set_self hil0,Option.some.injEq] at hi'
   subst hi'
   rw [hrc] at hj hj'
   rw [zL5 _ _ _ _ (by omega)] at hj
   rw [zBJ] at hj'
   by_cases hin:off≤j∧j<off+d.cells.length
   ·rw [if_pos hin] at hj
    rw [if_pos (by omega)] at hx
    have:=h3 (j-off) x d' (by rw [show j-off=i*k+j- (i*k+off) by omega];exact hx) hj
    exact Rd.setBlk hFne this
   ·rw [if_neg hin] at hj
    rw [if_neg (by omega)] at hx
    exact Rd.setBlk hFne (g5 j d' x hj hx)
  ·rw [List.getElem?_set_ne hii] at hi'
   have hyk:=q4 y (List.mem_of_getElem? hi')
   have hout: ¬(i*k+off≤i'*k+j∧i'*k+j<i*k+off+d.cells.length):=by
    intro hh
    rcases Nat.lt_or_ge i i' with h|h
    ·have:=Nat.mul_le_mul_right k (show i+1≤i' by omega)
     rw [Nat.succ_mul] at this;omega
    ·have:=Nat.mul_le_mul_right k (show i'+1≤i by omega)
     rw [Nat.succ_mul] at this;omega
   rw [if_neg hout] at hx
   exact Rd.setBlk hFne (q5 i' j y d' x hi' hj hx)
theorem zIJ (hi:Inv Γ G w0 F0 O0 a w e) {t:TypeId} {id k i off:Nat} {es:List V} {d:V} {ap xv:Operand} (hp:evx G e ap= .oe id k es i off) (hx:evx G e xv= .p d)
  (h:zAx P e t id k es i off d=some e'): ∃w',(Instr.storeAt t (a.eval ap) (a.eval xv)).run P w= .ok () w'∧Inv Γ G w0 F0 O0 a w' e':=by
 obtain ⟨F,O,β,hc,hG,hsz,hdf,ht,hv⟩:=hi
 have hpt:=wS hG ht ap
 have hxt:=wS hG ht xv
 rw [hp] at hpt
 rw [hx] at hxt
 obtain ⟨ha,hil,cap,hpv,c,et,g1,g2,g3,g4,g5⟩:=hpt
 unfold zAx at h
 split at h
 ·rename_i q hq
  split at h
  ·rename_i hcond
   obtain ⟨hsize,hfit,hone,hqk,hre,hag⟩:=hcond
   simp only [Option.some.injEq] at h
   subst h
   have hrc:=zCT hqk hone hfit hag
   obtain ⟨h1,h2,h3⟩:=zFT (xs:=d.cells.map .p) hxt (by simp [T.cellsT,hone])
   simp only [List.length_map] at h1
   have hik:(i+1)*k≤cap*k:=Nat.mul_le_mul_right k (by omega)
   rw [Nat.succ_mul] at hik
   have hrun:(Instr.storeAt t (a.eval ap) (a.eval xv)).run P w= .ok () (setBlk w (β.ob id) (.cells (qE c (i*k+off) (a.eval xv).cells.toList) et (0,0))):=by
    have hst:=uA (P:=P) (b:=β.ob id) (off:=i*k+off) (et:=et) (a.eval xv).cells.toList 0 w c g1 (by simp [h1];omega) (fun u hu=>h2 u (by simpa using hu))
    have hw:(if (a.eval xv).cells.toList=[] then w else setBlk w (β.ob id) (.cells (qE c (i*k+off+0) (a.eval xv).cells.toList) et (0,0)))=setBlk w (β.ob id) (.cells (qE c (i*k+off) (a.eval xv).cells.toList) et (0,0)):=by
     split
     ·rename_i hnil;rw [hnil];exact (zBL g1).symm
     ·simp
    rw [hw] at hst
    simp only [Instr.storeAt,hpv,Instr.sureAddr,Sem.run_bind,Sem.run_pure,Result.andThen_ok,storeVar,run_sizeOf hsize,h1,ne_eq,not_true,if_false]
    exact hst
   refine ⟨_,hrun,?_⟩
   obtain ⟨p1,p2,p3,p4⟩:=hc.place (.o id) ha
   have hFne: ∀b':Nat,F b'→b'≠β.ob id:=fun b' hb hh=>p3 (by rw [hh] at hb;exact hb)
   have hvne: ∀s,alive e (.v s)→β.vb s≠β.ob id:=fun s hs hh=>by
    have:=hc.dist (.v s) (.o id) hs ha hh
    cases this
   have hone': ∀id',id'≠id→alive e (.o id')→β.ob id'≠β.ob id:=fun id' hne hs hh=>by
    have:=hc.dist (.o id') (.o id) hs ha hh
    simp at this;exact hne this
   have hrow: ∀es0 cap',zW w F (β.ob id) k cap' es0→zW (setBlk w (β.ob id) (.cells (qE c (i*k+off) (a.eval xv).cells.toList) et (0,0))) F (β.ob id) k cap' (es0.set i (uT q (z5 q.cells off d.cells))):=
    fun es0 cap' hr0=>zKo hFne g1 p2 (fun j d' x hj hx=>g5 i j q d' x hq hj hx) hqk hfit hre hrc (by simp [h1]) (by simp only [Array.length_toList,h1];omega)
     (fun m x y hx hy=>h3 m x (.p y) (by simpa using hx) (by simp [hy])) hr0
   have hf: ∀v x,zE w F β (alive e) v x→zE (setBlk w (β.ob id) (.cells (qE c (i*k+off) (a.eval xv).cells.toList) et (0,0))) F β (alive e) v (zB0 id k i (uT q (z5 q.cells off d.cells)) x):=by
    intro v x hx
    cases x with
    |p y=>exact Rd.setBlk hFne hx
    |ow id' k' es0=>
     simp only [zB0]
     obtain ⟨ha',cap',hv',hr'⟩:=hx
     split
     ·rename_i hid
      subst hid
      split
      ·rename_i hke
       subst hke
       exact ⟨ha',cap',by simpa using hv',hrow es0 cap' hr'⟩
      ·trivial
     ·rename_i hid
      exact ⟨ha',cap',hv',hr'.setBlk hFne (hone' id' hid ha')⟩
    |oe id' k' es0 j off'=>
     simp only [zB0]
     obtain ⟨ha',hj',cap',hv',hr'⟩:=hx
     split
     ·rename_i hid
      subst hid
      split
      ·rename_i hke
       subst hke
       exact ⟨ha',by simpa using hj',cap',hv',hrow es0 cap' hr'⟩
      ·trivial
     ·rename_i hid
      exact ⟨ha',hj',cap',hv',hr'.setBlk hFne (hone' id' hid ha')⟩
    |lp s off'=>exact hx
    |mp id' es' ck=>
     obtain ⟨ha',hv',hr'⟩:=hx
     by_cases hid:id'=id
     ·subst hid;rw [g1] at hr';cases hr'
     ·exact ⟨ha',hv',(zR (hone' id' hid ha')).trans hr'⟩
    |ot id' t' xs'=>
     simp only [zB0]
     split
     ·trivial
     ·rename_i hid
      rcases hx with hx|⟨hne,ha',cap',hv',hr'⟩
      ·exact .inl hx
      ·exact .inr ⟨hne,ha',cap',hv',hr'.setBlk hFne (hone' id' hid ha')⟩
    |oet id' t' xs' j off'=>
     simp only [zB0]
     split
     ·trivial
     ·rename_i hid
      obtain ⟨ha',hj',cap',hv',hr'⟩:=hx
      exact ⟨ha',hj',cap',hv',hr'.setBlk hFne (hone' id' hid ha')⟩
    |ov id' t' xs' lo' hi'=>
     simp only [zB0]
     split
     ·trivial
     ·rename_i hid
      rcases hx with hx|⟨hne,ha',q1,q2,cap',hv',hr'⟩
      ·exact .inl hx
      ·exact .inr ⟨hne,ha',q1,q2,cap',hv',hr'.setBlk hFne (hone' id' hid ha')⟩
    |on n=>
     simp only [zB0]
     split
     ·trivial
     ·rename_i hid
      have hid:=not_or.1 hid
      exact zHL.mono hx (fun _ h=>h) (fun b' hb=>zR (hFne b' hb)) hx.1 hx.2.1 rfl rfl (zR (hone' _ hid.1 hx.1)) (zR (hone' _ hid.2 hx.2.1))
    |emp=>exact hx
    |dead=>trivial
   refine Inv.of (al:=alive e) (hc.setBlk ha _ (fun c' et' fl' hh=>by rw [show w.heap[β.blk (.o id)]? =_ from g1] at hh;simp only [Option.some.injEq,Obj.cells.injEq] at hh;exact ⟨_,_,_,rfl,by rw [kD,hh.1]⟩)) (fun g cs hg=>(hG g cs hg).setBlk hFne) (by simpa [Env.mapT] using hsz) hdf (fun t=>by rw [qH rfl];exact hf _ _ (ht t)) ?_ ?_
   ·intro s cs hcs
    rw [zS] at hcs
    simp only [Option.map_eq_some_iff] at hcs
    obtain ⟨cs0,hcs0,rfl⟩:=hcs
    have ha':alive e (.v s):=⟨cs0,hcs0⟩
    exact ⟨ha',(hv s cs0 hcs0).mapT (zR (hvne s ha')) hf⟩
   ·rintro s ⟨cs,hcs⟩
    exact ⟨_,by rw [zS,hcs];rfl⟩
  ·cases h
 ·cases h
def zKu (ty:Ty) (x:ty.El) (off:Nat) (d:V):Option ty.El:=
 match ty.uncells (z5 (ty.cells x) off d.cells) with
 |some (y,[])=>some y
 |_=>none
def Ty.aggT:Ty→Bool
 | .pair _ _| .unit=>true
 |_=>false
def zDp (id:Nat) (ty:Ty) (n:Nat) (x:ty.El):T→T
 | .ow i k es=>if i=id then .dead else .ow i k es
 | .oe i k es j off=>if i=id then .dead else .oe i k es j off
 | .ot i t ys=>if i=id then (if h:t=ty then .ot i ty ((h▸ys).set n x) else .dead) else .ot i t ys
 | .oet i t ys j off=>if i=id then (if h:t=ty then .oet i ty ((h▸ys).set n x) j off else .dead) else .oet i t ys j off
 | .ov i t xs j off=>if i=id then .dead else .ov i t xs j off
 | .on n=>if n.id=id∨n.id2=id then .dead else .on n
 |y=>y
def zBp (P:qK) (e:Env Γ.St) (t:TypeId) (id:Nat) (ty:Ty) (xs:List ty.El) (i off:Nat) (d:V):Option (Env Γ.St):=
 if z9 P t=some d.cells.length∧off+d.cells.length≤ty.size∧d.cells.all V.one=true∧(ty.aggT=false→d.cells.length=1∧ty.size=1) then
  match xs[i]? with
  |some x=>match zKu ty x off d with
   |some y=>some (e.mapT (zDp id ty i y))
   |none=>none
  |none=>none
 else none
theorem jQ.set: ∀ {xs ys:List V} (_:jQ xs ys) {a b:V} (_:WkV a b) (n:Nat),jQ (xs.set n a) (ys.set n b)
 |[],[],_,_,_,_,_=>trivial
 |x::xs,y::ys,h,a,b,hab,n=>by
  cases n with
  |zero=>exact ⟨hab,h.2⟩
  |succ n=>exact ⟨h.1,jQ.set h.2 hab n⟩
theorem jQ.splice: ∀ {ds ds':List V} (_:jQ ds ds') {cs cs':List V} (_:jQ cs cs') (o:Nat),jQ (z5 cs o ds) (z5 cs' o ds')
 |[],[],_,_,_,h,_=>h
 |x::ds,y::ds',hd,cs,cs',h,o=>jQ.splice hd.2 (h.set hd.1 o) (o+1)
theorem WkV.trans {x y z:V} (h:WkV x y) (k:WkV y z):WkV x z:=fun w F v hh=>k w F v (h w F v hh)
theorem jQ.trans: ∀ {xs ys zs:List V} (_:jQ xs ys) (_:jQ ys zs),jQ xs zs
 |[],[],[],_,_=>trivial
 |_::_,_::_,_::_,h,k=>⟨h.1.trans k.1,jQ.trans h.2 k.2⟩
def V.un:V→V
 | .tl t xs=> .sl (xs.map t.enc)
 |d=>d
theorem zQz (d:V):jQ d.un.cells d.cells∧d.un.cells.length=d.cells.length∧d.un.cells.all V.one=d.cells.all V.one:=by
 cases d with
 |tl t xs=>exact ⟨⟨fun w F v h=> .tl t xs v h,trivial⟩,rfl,rfl⟩
 |_=>exact ⟨.refl _,rfl,rfl⟩
theorem zUx (d:V):(T.p d).un= .p d.un:=by cases d<;>rfl
theorem zOP {ty:Ty} {x y:ty.El} {off:Nat} {d e:V} (u1:jQ e.cells d.cells) (hrc:(uT (ty.enc x) (z5 (ty.enc x).cells off e.cells)).cells=z5 (ty.enc x).cells off e.cells)
  (hy:zKu ty x off d=some y):jQ (uT (ty.enc x) (z5 (ty.enc x).cells off e.cells)).cells (ty.enc y).cells:=by
 rw [hrc,wG,wG]
 unfold zKu at hy
 split at hy
 ·rename_i y' hy'
  simp only [Option.some.injEq] at hy
  subst hy
  obtain ⟨c1,e1,e2⟩:=vD ty _ y' [] hy'
  simp only [List.append_nil] at e1
  exact (jQ.splice u1 (.refl _) off).trans (by rw [e1];exact e2)
 ·cases hy
theorem zON {ty:Ty} {y:ty.El} {i:Nat} {q0:V} (hcy:jQ q0.cells (ty.enc y).cells) {ys:List ty.El} {F:Blk→Prop} {b cap:Nat} {w:World} (hr:zW w F b ty.size cap ((ys.map ty.enc).set i q0)):
  zW w F b ty.size cap ((ys.set i y).map ty.enc):=by
 refine hr.weak (by simp) ?_ ?_
 ·intro q hq
  simp only [List.mem_map] at hq
  obtain ⟨z,_,rfl⟩:=hq
  exact jU ty z
 ·intro m p q hp hq
  rw [List.map_set] at hq
  by_cases hm:i=m
  ·subst hm
   have hlt:i<ys.length:=by have:=(List.getElem?_eq_some_iff.1 hq).1;simpa using this
   rw [List.getElem?_set_self (by simpa using hlt)] at hp hq
   simp only [Option.some.injEq] at hp hq
   subst hp hq
   exact hcy
  ·rw [List.getElem?_set_ne hm] at hp hq
   rw [hp] at hq
   simp only [Option.some.injEq] at hq
   subst hq
   exact .refl _
theorem zNq (hi:Inv Γ G w0 F0 O0 a w e) {t:TypeId} {id:Nat} {ty:Ty} {xs:List ty.El} {i off:Nat} {d:V} {ap xv:Operand} (hp:evx G e ap= .oet id ty xs i off) (hx:evx G e xv= .p d)
  (h:zBp P e t id ty xs i off d=some e'): ∃w',(Instr.storeAt t (a.eval ap) (a.eval xv)).run P w= .ok () w'∧Inv Γ G w0 F0 O0 a w' e':=by
 unfold zBp at h
 split at h
 ·rename_i hcond
  obtain ⟨hs,hfit,hone,hag⟩:=hcond
  split at h
  ·rename_i x hxi
   split at h
   ·rename_i y hy
    simp only [Option.some.injEq] at h
    subst h
    have hq:(xs.map ty.enc)[i]? =some (ty.enc x):=by simp [hxi]
    have hne:((ty.enc x).noAgg=true→d.cells.length=1∧ty.size=1):=by
     intro hh
     refine hag ?_
     cases ty<;>first|rfl|(simp [Ty.enc,V.noAgg] at hh)
    obtain ⟨u1,u2,u3⟩:=zQz d
    rw [←u2] at hs hfit hne
    rw [←u3] at hone
    have hrc:=zCT (q:=ty.enc x) (d:=d.un) (off:=off) (k:=ty.size) (jU ty x) hone hfit hne
    have hev:zAx P (e.mapT T.un) t id ty.size (xs.map ty.enc) i off d.un=some ((e.mapT T.un).mapT (zB0 id ty.size i (uT (ty.enc x) (z5 (ty.enc x).cells off d.un.cells)))):=by
     simp only [zAx,hq]
     rw [if_pos]
     exact ⟨hs,hfit,hone,jU ty x,by rw [hrc,zBJ,jU],hne⟩
    obtain ⟨w',h1,h2⟩:=zIJ (P:=P) hi.un (ap:=ap) (xv:=xv) (by rw [zD6,hp];rfl) (by rw [zD6,hx,zUx]) hev
    refine ⟨w',h1,?_⟩
    have hcy:=zOP u1 hrc hy
    have hset: ∀ (ys:List ty.El) (F:Blk→Prop) (b cap:Nat) (w:World),zW w F b ty.size cap ((ys.map ty.enc).set i (uT (ty.enc x) (z5 (ty.enc x).cells off d.un.cells)))→zW w F b ty.size cap ((ys.set i y).map ty.enc):=
     fun ys F b cap w hr=>zON hcy hr
    have hT: ∀z:T,WkT (zB0 id ty.size i (uT (ty.enc x) (z5 (ty.enc x).cells off d.un.cells)) z.un) (zDp id ty i y z):=by
     intro z
     cases z with
     |p q=>
      cases q with
      |tl t xs=>exact WkT.ofUn (.p (.tl t xs))
      |_=>exact .refl _
     |ow i0 k0 es0=>
      simp only [T.un,zB0,zDp]
      split
      ·exact .dead _
      ·exact .refl _
     |oe i0 k0 es0 j0 off0=>
      simp only [T.un,zB0,zDp]
      split
      ·exact .dead _
      ·exact .refl _
     |ot i0 t0 ys=>
      simp only [zDp]
      split
      ·rename_i hid
       split
       ·rename_i htt
        subst htt
        cases ys with
        |nil=>exact fun w F β al v hh=> .inl ⟨rfl,hh⟩
        |cons z zs=>
         intro w F β al v hh
         simp only [T.un,List.map_cons,zB0,hid,if_true] at hh
         obtain ⟨ha,cap,hv,hr⟩:=hh
         have hr':=hset (z::zs) F _ cap w hr
         refine .inr ⟨by simp,by rw [hid];exact ha,cap,by rw [hid];simpa using hv,by rw [hid];exact hr'⟩
       ·exact .dead _
      ·rename_i hid
       cases ys with
       |nil=>exact WkT.ofUn (.ot i0 t0 [])
       |cons z zs=>
        simp only [T.un,List.map_cons,zB0,if_neg hid]
        exact WkT.ofUn (.ot i0 t0 (z::zs))
     |oet i0 t0 ys j0 off0=>
      simp only [zDp]
      split
      ·rename_i hid
       split
       ·rename_i htt
        subst htt
        intro w F β al v hh
        simp only [T.un,zB0,hid,if_true] at hh
        obtain ⟨ha,hj,cap,hv,hr⟩:=hh
        refine ⟨by rw [hid];exact ha,by simpa using hj,cap,by rw [hid];exact hv,by rw [hid];exact hset ys F _ cap w hr⟩
       ·exact .dead _
      ·rename_i hid
       simp only [T.un,zB0,if_neg hid]
       exact WkT.ofUn (.oet i0 t0 ys j0 off0)
     |ov i0 t0 ys j0 off0=>
      simp only [T.un,zB0,zDp]
      exact .refl _
     |on n0=>
      simp only [T.un,zB0,zDp]
      exact .refl _
     |_=>exact .refl _
    refine h2.weak (by simp [Env.mapT]) rfl (fun t=>by rw [qH rfl,qH rfl,qH rfl];exact hT _) ?_
    intro s
    rw [zS,zS,zS]
    cases e.var s with
    |none=>trivial
    |some cs=>
     simp only [Option.map_some,List.map_map]
     exact uO.map (fun z=>hT z) cs
   ·cases h
  ·cases h
 ·cases h
def zPn (id:Nat) (es':List MapEntry) (ck':Nat):T→T
 | .mp i es ck=>if i=id then .mp i es' ck' else .mp i es ck
 |x=>x
def zKJ (P:qK) (e:Env Γ.St) (t:TypeId) (id:Nat) (es:List MapEntry) (ck:Nat) (k v:Value):Option (Env Γ.St):=
 match zX P.P (zTh t es ck k v) with
 |some (es',ck')=>some (e.mapT (zPn id es' ck'))
 |none=>none
theorem zJY {t:TypeId} {b:Nat} {es es':List MapEntry} {ck ck':Nat} {k v:Value} (hm:w.heap[b]? =some (.map es.toArray ck))
  (h:zX P (zTh t es ck k v)=some (es',ck')):(Instr.mapUpdate t (.map (some b)) k v).run P w= .ok () (setBlk w b (.map es'.toArray ck')):=by
 have hlt:=lt_of_block hm
 have hg:(getObj b).run P w= .ok (.map es.toArray ck) w:=by simp [getObj,Sem.run,hm]
 have hset: ∀ob,(setObj b ob).run P w= .ok () (setBlk w b ob):=by intro ob;simp [setObj,Sem.run,hm,setBlk]
 obtain ⟨d,h1,h⟩:=zBM h
 have h1:=zAd h1 w
 split at h
 ·rename_i keyType elem
  obtain ⟨u,h2,h⟩:=zBM h
  obtain ⟨r,h3,h⟩:=zBM h
  have h2:=zAd h2 w
  have h3:=zAd h3 w
  split at h
  ·rename_i i v0
   obtain ⟨key,h4,h⟩:=zBM h
   have h4:=zAd h4 w
   simp only [zX,pure,Option.some.injEq,Prod.mk.injEq] at h
   obtain ⟨rfl,rfl⟩:=h
   simp only [Instr.mapUpdate,Sem.run_bind,h1,Result.andThen_ok,hg,h2,h3]
   simp only [List.getElem?_toArray,h4,Result.andThen_ok,hset]
   congr 2
   simp
  ·simp only [zX,pure,Option.some.injEq,Prod.mk.injEq] at h
   obtain ⟨rfl,rfl⟩:=h
   simp only [Instr.mapUpdate,Sem.run_bind,h1,Result.andThen_ok,hg,h2,h3,hset]
   congr 2
   simp
 ·cases h
theorem zSl (hi:Inv Γ G w0 F0 O0 a w e) {t:TypeId} {id:Nat} {es:List MapEntry} {ck:Nat} {m kx vx:Operand} {k v:Value} (hm:evx G e m= .mp id es ck)
  (hk:wB (evx G e kx)=some k) (hx:wB (evx G e vx)=some v)
  (h:zKJ P e t id es ck k v=some e'): ∃w',(Instr.mapUpdate t (a.eval m) (a.eval kx) (a.eval vx)).run P w= .ok () w'∧Inv Γ G w0 F0 O0 a w' e':=by
 obtain ⟨F,O,β,hc,hG,hsz,hdf,ht,hv⟩:=hi
 have hmt:=wS hG ht m
 rw [hm] at hmt
 have hkt:=zGD (wS hG ht kx) hk
 have hxt:=zGD (wS hG ht vx) hx
 obtain ⟨ha,hmv,hblk⟩:=hmt
 unfold zKJ at h
 split at h
 ·rename_i es' ck' hp
  simp only [Option.some.injEq] at h
  subst h
  refine ⟨_,by rw [hmv,hkt,hxt];exact zJY hblk hp,?_⟩
  obtain ⟨p1,p2,p3,p4⟩:=hc.place (.o id) ha
  have hFne: ∀b':Nat,F b'→b'≠β.ob id:=fun b' hb hh=>p3 (by rw [hh] at hb;exact hb)
  have hvne: ∀s,alive e (.v s)→β.vb s≠β.ob id:=fun s hs hh=>by
   have:=hc.dist (.v s) (.o id) hs ha hh
   cases this
  have hone': ∀id',id'≠id→alive e (.o id')→β.ob id'≠β.ob id:=fun id' hne hs hh=>by
   have:=hc.dist (.o id') (.o id) hs ha hh
   simp at this;exact hne this
  have hf: ∀v x,zE w F β (alive e) v x→zE (setBlk w (β.ob id) (.map es'.toArray ck')) F β (alive e) v (zPn id es' ck' x):=by
   intro v x hx
   cases x with
   |p y=>exact Rd.setBlk hFne hx
   |ow id' k' es0=>
    obtain ⟨ha',cap',hv',hr'⟩:=hx
    by_cases hid:id'=id
    ·subst hid;obtain ⟨c,et,q1,_⟩:=hr';rw [hblk] at q1;cases q1
    ·exact ⟨ha',cap',hv',hr'.setBlk hFne (hone' id' hid ha')⟩
   |oe id' k' es0 j off'=>
    obtain ⟨ha',hj',cap',hv',hr'⟩:=hx
    by_cases hid:id'=id
    ·subst hid;obtain ⟨c,et,q1,_⟩:=hr';rw [hblk] at q1;cases q1
    ·exact ⟨ha',hj',cap',hv',hr'.setBlk hFne (hone' id' hid ha')⟩
   |lp s off'=>exact hx
   |mp id' es0 ck0=>
    obtain ⟨ha',hv',hr'⟩:=hx
    simp only [zPn]
    split
    ·rename_i hid
     subst hid
     exact ⟨ha',hv',zAa p2⟩
    ·rename_i hid
     exact ⟨ha',hv',(zR (hone' id' hid ha')).trans hr'⟩
   |ot id' t' xs'=>
    rcases hx with hx|⟨hne,ha',cap',hv',hr'⟩
    ·exact .inl hx
    ·by_cases hid:id'=id
     ·subst hid;obtain ⟨c,et,q1,_⟩:=hr';rw [hblk] at q1;cases q1
     ·exact .inr ⟨hne,ha',cap',hv',hr'.setBlk hFne (hone' id' hid ha')⟩
   |oet id' t' xs' j off'=>
    obtain ⟨ha',hj',cap',hv',hr'⟩:=hx
    by_cases hid:id'=id
    ·subst hid;obtain ⟨c,et,q1,_⟩:=hr';rw [hblk] at q1;cases q1
    ·exact ⟨ha',hj',cap',hv',hr'.setBlk hFne (hone' id' hid ha')⟩
   |ov id' t' xs' lo' hi'=>
    rcases hx with hx|⟨hne,ha',k1,k2,cap',hv',hr'⟩
    ·exact .inl hx
    ·by_cases hid:id'=id
     ·subst hid;obtain ⟨c,et,q1,_⟩:=hr';rw [hblk] at q1;cases q1
     ·exact .inr ⟨hne,ha',k1,k2,cap',hv',hr'.setBlk hFne (hone' id' hid ha')⟩
   |on n=>
    have h1:n.id≠id:=by
     rintro rfl;obtain ⟨_,_,c,et,cap2,q1,_⟩:=hx;rw [hblk] at q1;cases q1
    have h2:n.id2≠id:=by
     rintro rfl;obtain ⟨_,_,c,et,cap2,_,_,_,_,⟨c',et',q1,_⟩,_⟩:=hx;rw [hblk] at q1;cases q1
    exact zHL.mono hx (fun _ h=>h) (fun b' hb=>zR (hFne b' hb)) hx.1 hx.2.1 rfl rfl (zR (hone' _ h1 hx.1)) (zR (hone' _ h2 hx.2.1))
   |emp=>exact hx
   |dead=>trivial
  refine Inv.of (al:=alive e) (hc.setBlk ha _ (fun c' et' fl' hh=>by rw [show w.heap[β.blk (.o id)]? =_ from hblk] at hh;cases hh)) (fun g cs hg=>(hG g cs hg).setBlk hFne) (by simpa [Env.mapT] using hsz) hdf (fun t=>by rw [qH rfl];exact hf _ _ (ht t)) ?_ ?_
  ·intro s cs hcs
   rw [zS] at hcs
   simp only [Option.map_eq_some_iff] at hcs
   obtain ⟨cs0,hcs0,rfl⟩:=hcs
   have ha':alive e (.v s):=⟨cs0,hcs0⟩
   exact ⟨ha',(hv s cs0 hcs0).mapT (zR (hvne s ha')) hf⟩
  ·rintro s ⟨cs,hcs⟩
   exact ⟨_,by rw [zS,hcs];rfl⟩
 ·cases h
def yP (id:Nat):T→T
 | .ow i k es=>if i=id then .p (.sl es) else .ow i k es
 | .oe i k es j off=>if i=id then (match es[j]? with|some q=> .p (.pp (q.cells.drop off))|none=> .dead) else .oe i k es j off
 | .mp i es ck=>if i=id then .dead else .mp i es ck
 | .ot i t xs=>if i=id then .p (.tl t xs) else .ot i t xs
 | .oet i t xs j off=>if i=id then .dead else .oet i t xs j off
 | .ov i t xs j off=>if i=id then .dead else .ov i t xs j off
 | .on n=>if n.id=id∨n.id2=id then .dead else .on n
 |x=>x
theorem Inv.frzO (hi:Inv Γ G w0 F0 O0 a w e) {id:Nat} (hidl:id≠qA):Inv Γ G w0 F0 O0 a w (e.mapT (yP id)):=by
 obtain ⟨F,O,β,hc,hG,hsz,hdf,ht,hv⟩:=hi
 by_cases ha:alive e (.o id)
 ·obtain ⟨p1,p2,p3,p4⟩:=hc.place (.o id) ha
  let F':Blk→Prop:=fun b=>F b∨b=β.ob id
  let al':Site→Prop:=fun x=>alive e x∧x≠ .o id
  have hcore:Core Γ w0 F0 O0 w F' O β al' e.st:=by
   refine ⟨hc.keep,Γ.mono hc.sig zJO (fun _ _=>rfl),hc.oin,?_,fun b hb=> .inl (hc.f0 b hb),?_,fun x y hx hy=>hc.dist x y hx.1 hy.1,hc.lent.step (fun b n _ hb ho hf=>⟨rfl,ho,fun h=>h.elim hf (fun h=>by have h1:=kA h;have h2:w0.heap.size≤β.ob id:=p1.o hidl;omega)⟩)⟩
   ·rintro b (hb|hb)
    ·exact hc.fin b hb
    ·have hb:=kA hb;subst hb;exact ⟨.inr (p1.o hidl),p2,p4⟩
   ·intro x hx
    obtain ⟨q1,q2,q3,q4⟩:=hc.place x hx.1
    refine ⟨q1,q2,fun hh=>hh.elim q3 (fun hh=>hx.2 (hc.dist x (.o id) hx.1 ha (kA hh))),q4⟩
  have hext:Ext w F β al' w F' β al':=⟨fun _ h=> .inl h,fun _ _=>rfl,fun _ h=>h,fun _ _=>rfl,fun _ _=>rfl⟩
  have hf: ∀v x,zE w F β (alive e) v x→zE w F' β al' v (yP id x):=by
   intro v x hx
   cases x with
   |p y=>exact Rd.ext hext hx
   |ow i k es=>
    simp only [yP]
    obtain ⟨ha',cap,hv',hr⟩:=hx
    split
    ·rename_i hid
     subst hid
     rw [hv']
     exact zDn hr (fun b hb=> .inl hb) (.inr rfl)
    ·rename_i hid
     exact zE.ext hext (show zE w F β al' v (.ow i k es) from ⟨⟨ha',by simpa using hid⟩,cap,hv',hr⟩)
   |oe i k es j off=>
    simp only [yP]
    obtain ⟨ha',hj,cap,hv',hr⟩:=hx
    split
    ·rename_i hid
     subst hid
     split
     ·rename_i q hq
      obtain ⟨c,et,g1,g2,g3,g4,g5⟩:=hr
      have hqk:=g4 q (List.mem_of_getElem? hq)
      have hjk:(j+1)*k≤cap*k:=Nat.mul_le_mul_right k (by omega)
      rw [Nat.succ_mul] at hjk
      rw [hv']
      refine Rd.pp (β.ob i) (j*k+off) _ (fun m=>(c[j*k+(off+m)]?).getD undef) (.inr rfl) ?_ ?_
      ·intro m hm
       simp only [List.length_drop,hqk] at hm
       have hlt:j*k+(off+m)<c.size:=by omega
       have he:j*k+off+m=j*k+(off+m):=by omega
       simp [World.cell?,g1,he,hlt]
      ·intro m d hd
       rw [List.getElem?_drop] at hd
       have hlt2:=(List.getElem?_eq_some_iff.1 hd).1
       have hlt:j*k+(off+m)<c.size:=by omega
       exact Rd.ext hext (g5 j (off+m) q d _ hq hd (by simp [hlt]))
     ·trivial
    ·rename_i hid
     exact zE.ext hext (show zE w F β al' v (.oe i k es j off) from ⟨⟨ha',by simpa using hid⟩,hj,cap,hv',hr⟩)
   |lp s off=>exact ⟨⟨hx.1,by simp⟩,hx.2⟩
   |mp i es' ck=>
    simp only [yP]
    split
    ·trivial
    ·rename_i hid
     exact zE.ext hext (show zE w F β al' v (.mp i es' ck) from ⟨⟨hx.1,by simpa using hid⟩,hx.2⟩)
   |ot i t xs=>
    simp only [yP]
    split
    ·rename_i hid
     subst hid
     refine .tl t xs v ?_
     rcases hx with ⟨h0,a0,rfl⟩|⟨hne,ha',cap,rfl,hr⟩
     ·rw [h0];exact .slemp a0 0
     ·exact zDn (hr.mono hext.f hext.hf rfl) (fun _ h=>h) (.inr rfl)
    ·rename_i hid
     rcases hx with hx|⟨hne,ha',cap,hv',hr⟩
     ·exact .inl hx
     ·exact zE.ext hext (show zE w F β al' v (.ot i t xs) from .inr ⟨hne,⟨ha',by simpa using hid⟩,cap,hv',hr⟩)
   |oet i t xs j off=>
    simp only [yP]
    split
    ·trivial
    ·rename_i hid
     obtain ⟨ha',hj,cap,hv',hr⟩:=hx
     exact zE.ext hext (show zE w F β al' v (.oet i t xs j off) from ⟨⟨ha',by simpa using hid⟩,hj,cap,hv',hr⟩)
   |ov i t xs lo hi=>
    simp only [yP]
    split
    ·trivial
    ·rename_i hid
     rcases hx with hx|⟨hne,ha',k1,k2,cap,hv',hr⟩
     ·exact .inl hx
     ·exact zE.ext hext (show zE w F β al' v (.ov i t xs lo hi) from .inr ⟨hne,⟨ha',by simpa using hid⟩,k1,k2,cap,hv',hr⟩)
   |on n=>
    simp only [yP]
    split
    ·trivial
    ·rename_i hid
     have hid:=not_or.1 hid
     exact zE.ext hext (show zE w F β al' v (.on n) from ⟨⟨hx.1,by simpa using hid.1⟩,⟨hx.2.1,by simpa using hid.2⟩,hx.2.2⟩)
   |emp=>exact hx
   |dead=>trivial
  refine Inv.of (al:=al') hcore (hG.ext hext) (by simpa [Env.mapT] using hsz) hdf (fun t=>by rw [qH rfl];exact hf _ _ (ht t)) ?_ ?_
  ·intro s cs hcs
   rw [zS] at hcs
   simp only [Option.map_eq_some_iff] at hcs
   obtain ⟨cs0,hcs0,rfl⟩:=hcs
   exact ⟨⟨⟨cs0,hcs0⟩,by simp⟩,(hv s cs0 hcs0).mapT rfl hf⟩
  ·rintro s ⟨⟨cs,hcs⟩,_⟩
   exact ⟨_,by rw [zS,hcs];rfl⟩
 ·have hf: ∀v x,zE w F β (alive e) v x→zE w F β (alive e) v (yP id x):=by
   intro v x hx
   cases x with
   |ow i k es=>
    simp only [yP]
    split
    ·rename_i hid;subst hid;exact absurd hx.1 ha
    ·exact hx
   |oe i k es j off=>
    simp only [yP]
    split
    ·rename_i hid;subst hid;exact absurd hx.1 ha
    ·exact hx
   |mp i es ck=>
    simp only [yP]
    split
    ·trivial
    ·exact hx
   |ot i t xs=>
    simp only [yP]
    split
    ·rename_i hid
     subst hid
     rcases hx with ⟨h0,a0,rfl⟩|⟨hne,ha',_⟩
     ·exact .tl t xs _ (by rw [h0];exact .slemp a0 0)
     ·exact absurd ha' ha
    ·exact hx
   |oet i t xs j off=>
    simp only [yP]
    split
    ·trivial
    ·exact hx
   |ov i t xs lo hi=>
    simp only [yP]
    split
    ·trivial
    ·exact hx
   |on n=>
    simp only [yP]
    split
    ·trivial
    ·exact hx
   |_=>exact hx
  refine Inv.of (al:=alive e) hc hG (by simpa [Env.mapT] using hsz) hdf (fun t=>by rw [qH rfl];exact hf _ _ (ht t)) ?_ ?_
  ·intro s cs hcs
   rw [zS] at hcs
   simp only [Option.map_eq_some_iff] at hcs
   obtain ⟨cs0,hcs0,rfl⟩:=hcs
   exact ⟨⟨cs0,hcs0⟩,(hv s cs0 hcs0).mapT rfl hf⟩
  ·rintro s ⟨cs,hcs⟩
   exact ⟨_,by rw [zS,hcs];rfl⟩
def zHT (s:Nat) (ds:List V):T→T
 | .lp s' off=>if s'=s then .p (.pp (ds.drop off)) else .lp s' off
 |x=>x
def Env.frzV (s:Nat) (ds:List V) (e:Env Γ.St):Env Γ.St:=({ e with vars:=e.vars.set s none } :Env Γ.St).mapT (zHT s ds)
theorem zP4 {cs:List T} {ds:List V} (h:wC cs=some ds) (off:Nat):wC (cs.drop off)=some (ds.drop off):=by
 have:=zB7 h
 subst this
 have hall: ∀ds:List V,wC (ds.map .p)=some ds:=by
  intro ds
  induction ds with
  |nil=>rfl
  |cons d ds ih=>simp [wC,ih]
 rw [←List.map_drop];exact hall _
theorem Inv.frzV (hi:Inv Γ G w0 F0 O0 a w e) {s:Nat} {cs:List T} {ds:List V} (hs:e.var s=some cs) (hp:wC cs=some ds):Inv Γ G w0 F0 O0 a w (e.frzV s ds):=by
 obtain ⟨F,O,β,hc,hG,hsz,hdf,ht,hv⟩:=hi
 have ha:alive e (.v s):=⟨cs,hs⟩
 obtain ⟨p1,p2,p3,p4⟩:=hc.place (.v s) ha
 let F':Blk→Prop:=fun b=>F b∨b=β.vb s
 let al':Site→Prop:=fun x=>alive e x∧x≠ .v s
 have hcore:Core Γ w0 F0 O0 w F' O β al' e.st:=by
  refine ⟨hc.keep,Γ.mono hc.sig zJO (fun _ _=>rfl),hc.oin,?_,fun b hb=> .inl (hc.f0 b hb),?_,fun x y hx hy=>hc.dist x y hx.1 hy.1,hc.lent.step (fun b n _ hb ho hf=>⟨rfl,ho,fun h=>h.elim hf (fun h=>by have h1:=kA h;have h2:w0.heap.size≤β.vb s:=p1.v;omega)⟩)⟩
  ·rintro b (hb|hb)
   ·exact hc.fin b hb
   ·have hb:=kA hb;subst hb;exact ⟨.inr p1.v,p2,p4⟩
  ·intro x hx
   obtain ⟨q1,q2,q3,q4⟩:=hc.place x hx.1
   refine ⟨q1,q2,fun hh=>hh.elim q3 (fun hh=>hx.2 (hc.dist x (.v s) hx.1 ha (kA hh))),q4⟩
 have hext:Ext w F β al' w F' β al':=⟨fun _ h=> .inl h,fun _ _=>rfl,fun _ h=>h,fun _ _=>rfl,fun _ _=>rfl⟩
 have hf: ∀v x,zE w F β (alive e) v x→zE w F' β al' v (zHT s ds x):=by
  intro v x hx
  cases x with
  |p y=>exact Rd.ext hext hx
  |ow i k es=>exact zE.ext hext (show zE w F β al' v (.ow i k es) from ⟨⟨hx.1,by simp⟩,hx.2⟩)
  |oe i k es j off=>exact zE.ext hext (show zE w F β al' v (.oe i k es j off) from ⟨⟨hx.1,by simp⟩,hx.2⟩)
  |lp s' off=>
   simp only [zHT]
   obtain ⟨ha',hv'⟩:=hx
   split
   ·rename_i hss
    subst hss
    rw [hv']
    exact zR5 (hv s' cs hs) (fun b hb=> .inl hb) (.inr rfl) (zP4 hp off)
   ·rename_i hss
    exact ⟨⟨ha',by simpa using hss⟩,hv'⟩
  |mp i es ck=>exact zE.ext hext (show zE w F β al' v (.mp i es ck) from ⟨⟨hx.1,by simp⟩,hx.2⟩)
  |ot i t xs=>
   rcases hx with hx|⟨hne,ha',h2⟩
   ·exact .inl hx
   ·exact zE.ext hext (show zE w F β al' v (.ot i t xs) from .inr ⟨hne,⟨ha',by simp⟩,h2⟩)
  |oet i t xs j off=>exact zE.ext hext (show zE w F β al' v (.oet i t xs j off) from ⟨⟨hx.1,by simp⟩,hx.2⟩)
  |ov i t xs lo hi=>
   rcases hx with hx|⟨hne,ha',hx⟩
   ·exact .inl hx
   ·exact zE.ext hext (show zE w F β al' v (.ov i t xs lo hi) from .inr ⟨hne,⟨ha',by simp⟩,hx⟩)
  |on n=>exact zE.ext hext (show zE w F β al' v (.on n) from ⟨⟨hx.1,by simp⟩,⟨hx.2.1,by simp⟩,hx.2.2⟩)
  |emp=>exact hx
  |dead=>trivial
 have hvar: ∀s',(e.frzV s ds).var s'=if s'=s then none else (e.var s').map (List.map (zHT s ds)):=by
  intro s'
  simp only [Env.frzV,zS]
  simp only [Env.var]
  by_cases hh:s'=s
  ·subst hh
   rw [if_pos rfl]
   by_cases hl:s'<e.vars.length
   ·simp [hl]
   ·rw [List.getElem?_eq_none (by simp;omega)];rfl
  ·rw [if_neg hh,List.getElem?_set_ne (Ne.symm hh)]
 have hget: ∀t,(e.frzV s ds).get t=zHT s ds (e.get t):=fun t=>qH (f:=zHT s ds) rfl _ t
 refine Inv.of (al:=al') hcore (hG.ext hext) (by simpa [Env.frzV,Env.mapT] using hsz) hdf (fun t=>by rw [hget];exact hf _ _ (ht t)) ?_ ?_
 ·intro s' cs' hcs'
  rw [hvar] at hcs'
  split at hcs'
  ·cases hcs'
  ·rename_i hne
   simp only [Option.map_eq_some_iff] at hcs'
   obtain ⟨cs0,hcs0,rfl⟩:=hcs'
   exact ⟨⟨⟨cs0,hcs0⟩,by simpa using hne⟩,(hv s' cs0 hcs0).mapT rfl hf⟩
 ·rintro s' ⟨⟨cs',hcs'⟩,hne⟩
  have hne':s'≠s:=by simpa using hne
  exact ⟨_,by rw [hvar,if_neg hne',hcs'];rfl⟩
def zRi:Nat:=999
def T.ids:T→List Nat
 | .ow i _ _=>[i]
 | .oe i _ _ _ _=>[i]
 | .mp i _ _=>[i]
 | .ot i _ _=>[i]
 | .oet i _ _ _ _=>[i]
 | .ov i _ _ _ _=>[i]
 | .on n=>[n.id,n.id2]
 |_=>[]
def T.offs (a b:Nat) (x:T):T:=if x.ids.contains a||x.ids.contains b then .dead else x
theorem T.sites_sub {al al':Site→Prop} {x:T} (h:x.sites al) (hi: ∀i,i∈x.ids→al (.o i)→al' (.o i)) (hv: ∀s,al (.v s)→al' (.v s)):x.sites al':=by
 cases x with
 |ot i t xs=>exact fun h0=>hi _ (by simp [T.ids]) (h h0)
 |ov i t xs lo hi'=>exact fun h0=>hi _ (by simp [T.ids]) (h h0)
 |on n=>exact ⟨hi _ (by simp [T.ids]) h.1,hi _ (by simp [T.ids]) h.2⟩
 |lp s off=>exact hv _ h
 |p d=>trivial
 |emp=>trivial
 |dead=>trivial
 |_=>exact hi _ (by simp [T.ids]) h
theorem zE.setAway {v:Value} {x:T} {b:Nat} {ob:Obj} (h:zE w F β al v x) (hF: ∀b':Nat,F b'→b'≠b) (ho: ∀i,i∈x.ids→al (.o i)→β.ob i≠b):
  zE (setBlk w b ob) F β al v x:=by
 have h1:zE w F β (fun s=>al s∧ ∀i,s= .o i→i∈x.ids) v x:=
  h.on (T.sites_sub h.sites (fun i hi ha=>⟨ha,fun j hj=>by cases hj;exact hi⟩) (fun s hs=>⟨hs,fun j hj=>by cases hj⟩))
 have h2:=zE.setVar (ob:=ob) hF (fun i hi=>ho i (hi.2 i rfl) hi.1) h1
 exact h2.on (T.sites_sub h2.sites (fun i _ ha=>ha.1) (fun s hs=>hs.1))
theorem zE.offs {v:Value} {x:T} {id id2 b:Nat} {ob:Obj} (h:zE w F β al v x) (hF: ∀b':Nat,F b'→b'≠b) (ho: ∀i,i≠id→i≠id2→al (.o i)→β.ob i≠b):
  zE (setBlk w b ob) F β al v (T.offs id id2 x):=by
 unfold T.offs
 split
 ·trivial
 ·rename_i hn
  simp only [Bool.or_eq_true,List.contains_iff_mem,not_or] at hn
  exact h.setAway hF (fun i hi ha=>ho i (fun hh=>hn.1 (hh▸hi)) (fun hh=>hn.2 (hh▸hi)) ha)
def zNl (id id2:Nat) (t:Ty) (j:Nat) (ys:List t.El) (x:T):T:=
 match x with
 | .ot i t' zs=>if i=id then (if h:t'= .sl t then .on ⟨id,id2,t,(h▸zs:List (Ty.sl t).El),j,ys, .s⟩ else .dead) else T.offs id id2 (.ot i t' zs)
 |x=>T.offs id id2 x
def zAg (P:qK) (e:Env Γ.St) (t:TypeId) (id:Nat) (ty:Ty) (j off id2:Nat) (t2:Ty) (ys:List t2.El):Option (Env Γ.St):=
 match ty with
 | .sl t3=>if t3=t2∧off=0∧z9 P t=some 1∧id=zRi∧id≠id2∧ys.isEmpty=false then some (e.mapT (zNl id id2 t2 j ys)) else none
 |_=>none
theorem zL1 (hi:Inv Γ G w0 F0 O0 a w e) {t:TypeId} {id:Nat} {ty:Ty} {xs:List ty.El} {j off id2:Nat} {t2:Ty} {ys:List t2.El} {ap xv:Operand} (hp:evx G e ap= .oet id ty xs j off)
  (hx:evx G e xv= .ot id2 t2 ys) (h:zAg P e t id ty j off id2 t2 ys=some e'): ∃w',(Instr.storeAt t (a.eval ap) (a.eval xv)).run P w= .ok () w'∧Inv Γ G w0 F0 O0 a w' e':=by
 unfold zAg at h
 split at h
 ·rename_i t3
  split at h
  ·rename_i hcond
   obtain ⟨rfl,rfl,hsize,hnest,hne2,hys⟩:=hcond
   simp only [Option.some.injEq] at h
   subst h
   obtain ⟨F,O,β,hc,hG,hsz,hdf,ht,hv⟩:=hi
   have hpt:=wS hG ht ap
   have hxt:=wS hG ht xv
   rw [hp] at hpt
   rw [hx] at hxt
   obtain ⟨ha,hil,cap,hpv,c,et,g1,g2,g3,g4,g5⟩:=hpt
   have hyne:ys≠[]:=by intro hh;subst hh;simp at hys
   rcases hxt with ⟨h0,_⟩|⟨_,ha2,cap2,hv2,hrow2⟩
   ·exact absurd (by simpa using h0) hyne
   have hz:(Ty.sl t3).size=1:=rfl
   rw [hz] at hpv g2
   simp only [Nat.mul_one,Nat.add_zero] at hpv g2
   simp only [List.length_map] at g3 hv2
   have hjc:j<c.size:=by omega
   have hrun:(Instr.storeAt t (a.eval ap) (a.eval xv)).run P w= .ok () (setBlk w (β.ob id) (.cells (c.setIfInBounds j (a.eval xv)) et (0,0))):=by
    have hst:=uA (P:=P) (b:=β.ob id) (off:=j) (et:=et) [a.eval xv] 0 w c g1 (by simp;omega) (fun u hu=>by simp at hu;rw [hu,hv2];rfl)
    have hcl:(a.eval xv).cells= #[a.eval xv]:=by rw [hv2];rfl
    simp only [Instr.storeAt,hpv,Instr.sureAddr,Sem.run_bind,Sem.run_pure,Result.andThen_ok,storeVar,run_sizeOf hsize,hcl,ne_eq]
    simpa [qE] using hst
   refine ⟨_,hrun,?_⟩
   obtain ⟨p1,p2,p3,p4⟩:=hc.place (.o id) ha
   have hFne: ∀b':Nat,F b'→b'≠β.ob id:=fun b' hb hh=>p3 (by rw [hh] at hb;exact hb)
   have hvne: ∀s,alive e (.v s)→β.vb s≠β.ob id:=fun s hs hh=>by
    have:=hc.dist (.v s) (.o id) hs ha hh
    cases this
   have hone': ∀id',id'≠id→alive e (.o id')→β.ob id'≠β.ob id:=fun id' hne hs hh=>by
    have:=hc.dist (.o id') (.o id) hs ha hh
    simp at this;exact hne this
   have hf: ∀v x,zE w F β (alive e) v x→zE (setBlk w (β.ob id) (.cells (c.setIfInBounds j (a.eval xv)) et (0,0))) F β (alive e) v (zNl id id2 t3 j ys x):=by
    intro v x hx
    have hoff:zE (setBlk w (β.ob id) (.cells (c.setIfInBounds j (a.eval xv)) et (0,0))) F β (alive e) v (T.offs id id2 x):=hx.offs hFne (fun i h1 _ ha=>hone' i h1 ha)
    cases x with
    |ot i t' zs=>
     simp only [zNl]
     split
     ·rename_i hid
      subst hid
      split
      ·rename_i htt
       subst htt
       have hk: ∀ (hz0:zs.length≤c.size) (hrd: ∀ (i':Nat) (x:List t3.El) (u:Value),zs[i']? =some x→c[i']? =some u→Rd w F u (.tl t3 x)),(NM.Rel (β.ob i) (β.ob id2) c.size cap2 zs.length ys.length t3.size v .s)→
         zHL (setBlk w (β.ob i) (.cells (c.setIfInBounds j (a.eval xv)) et (0,0))) F β (alive e) v ⟨i,id2,t3,zs,j,ys, .s⟩:=by
        intro hz0 hrd hm
        refine ⟨ha,ha2,c.setIfInBounds j (a.eval xv),et,cap2,zAa p2,by simpa using hz0,?_,?_,hrow2.setBlk hFne (hone' id2 (Ne.symm hne2) ha2),?_⟩
        ·intro i' x u h1 h2 h3
         rw [Array.getElem?_setIfInBounds_ne (Ne.symm h1)] at h3
         exact Rd.setBlk hFne (hrd i' x u h2 h3)
        ·rw [Array.getElem?_setIfInBounds_self_of_lt hjc,hv2]
        ·simpa using hm
       rcases hx with ⟨h0,a0,hv0⟩|⟨hne,_,cap',hv',c',et',q1,q2,q3,q4,q5⟩
       ·have h0:zs=[]:=by simpa using h0
        subst h0
        exact hk (by simp) (fun i' x u h1=>by simp at h1) (.inl ⟨rfl,a0,hv0⟩)
       ·rw [g1] at q1
        simp only [Option.some.injEq,Obj.cells.injEq] at q1
        obtain ⟨rfl,_,_⟩:=q1
        rw [hz,Nat.mul_one] at q2
        simp only [List.length_map] at q3 hv'
        refine hk (by omega) ?_ (.inr (by rw [hv',q2]))
        intro i' x u h1 h2
        exact q5 i' 0 (.tl t3 x) (.tl t3 x) u (by simp only [List.getElem?_map,h1];rfl) rfl (by rw [hz];simpa using h2)
      ·trivial
     ·exact hoff
    |_=>exact hoff
   refine Inv.of (al:=alive e) (hc.setBlk ha _ (fun c' et' fl' hh=>by rw [show w.heap[β.blk (.o id)]? =_ from g1] at hh;simp only [Option.some.injEq,Obj.cells.injEq] at hh;exact ⟨_,_,_,rfl,by rw [←hh.1];simp⟩)) (fun g cs hg=>(hG g cs hg).setBlk hFne) (by simpa [Env.mapT] using hsz) hdf (fun t=>by rw [qH rfl];exact hf _ _ (ht t)) ?_ ?_
   ·intro s cs hcs
    rw [zS] at hcs
    simp only [Option.map_eq_some_iff] at hcs
    obtain ⟨cs0,hcs0,rfl⟩:=hcs
    have ha':alive e (.v s):=⟨cs0,hcs0⟩
    exact ⟨ha',(hv s cs0 hcs0).mapT (zR (hvne s ha')) hf⟩
   ·rintro s ⟨cs,hcs⟩
    exact ⟨_,by rw [zS,hcs];rfl⟩
  ·cases h
 ·cases h
def zKY (id id2:Nat) (t:Ty) (k:Nat) (y:t.El) (x:T):T:=
 match x with
 | .on ⟨i,i2,t',xs,j,ys,m⟩=>if i=id∧i2=id2 then (if h:t'=t then .on ⟨i,i2,t',xs,j,ys.set k (h▸y),m⟩ else .dead) else T.offs id id2 (.on ⟨i,i2,t',xs,j,ys,m⟩)
 |x=>T.offs id id2 x
def frzN (id id2:Nat) (x:T):T:=
 match x with
 | .on ⟨i,i2,t,xs,j,ys,m⟩=>if i=id∧i2=id2 then (match m with
  | .s=> .p (.tl (.sl t) (List.set xs j ys))
  |_=> .dead) else T.offs id id2 (.on ⟨i,i2,t,xs,j,ys,m⟩)
 |x=>T.offs id id2 x
def zNm (id id2:Nat) (t:Ty) (k:Nat) (y:t.El) (x:T):T:=frzN id id2 (zKY id id2 t k y x)
def xM (P:qK) (e:Env Γ.St) (t:TypeId) (n:Nst) (d:V):Option (Env Γ.St):=
 match n with
 |⟨id,id2,ty,_,_,ys, .q k off⟩=>
  if z9 P t=some d.cells.length∧off+d.cells.length≤ty.size∧d.cells.all V.one=true∧(ty.aggT=false→d.cells.length=1∧ty.size=1)∧id≠id2∧id≠qA∧id2≠qA then
   match ys[k]? with
   |some x=>match zKu ty x off d with
    |some y=>some (e.mapT (zNm id id2 ty k y))
    |none=>none
   |none=>none
  else none
 |_=>none
theorem Inv.frzN (hi:Inv Γ G w0 F0 O0 a w e) {id id2:Nat} (h1:id≠qA) (h2:id2≠qA) (ha:alive e (.o id)) (ha2:alive e (.o id2)):Inv Γ G w0 F0 O0 a w (e.mapT (Ve.frzN id id2)):=by
 obtain ⟨F,O,β,hc,hG,hsz,hdf,ht,hv⟩:=hi
 obtain ⟨p1,p2,p3,p4⟩:=hc.place (.o id) ha
 obtain ⟨r1,r2,r3,r4⟩:=hc.place (.o id2) ha2
 let F':Blk→Prop:=fun b=>F b∨b=β.ob id∨b=β.ob id2
 let al':Site→Prop:=fun x=>alive e x∧x≠ .o id∧x≠ .o id2
 have hcore:Core Γ w0 F0 O0 w F' O β al' e.st:=by
  refine ⟨hc.keep,Γ.mono hc.sig (fun i a0 n c=>⟨fun h=>h.elim (fun h=>h) (fun h=>by rcases h with h|h<;>cases h), .inl⟩) (fun _ _=>rfl),hc.oin,?_,fun b hb=> .inl (hc.f0 b hb),?_,fun x y hx hy=>hc.dist x y hx.1 hy.1,
   hc.lent.step (fun b n _ hb ho hf=>⟨rfl,ho,fun h=>h.elim hf (fun h=>by
    have k1:w0.heap.size≤β.ob id:=p1.o h1
    have k2:w0.heap.size≤β.ob id2:=r1.o h2
    rcases h with h|h<;>(have h3:=kA h;omega))⟩)⟩
  ·rintro b (hb|hb|hb)
   ·exact hc.fin b hb
   ·have hb:=kA hb;subst hb;exact ⟨.inr (p1.o h1),p2,p4⟩
   ·have hb:=kA hb;subst hb;exact ⟨.inr (r1.o h2),r2,r4⟩
  ·intro x hx
   obtain ⟨q1,q2,q3,q4⟩:=hc.place x hx.1
   refine ⟨q1,q2,fun hh=>hh.elim q3 (fun hh=> ?_),q4⟩
   rcases hh with hh|hh
   ·exact hx.2.1 (hc.dist x (.o id) hx.1 ha (kA hh))
   ·exact hx.2.2 (hc.dist x (.o id2) hx.1 ha2 (kA hh))
 have hext:Ext w F β al' w F' β al':=⟨fun _ h=> .inl h,fun _ _=>rfl,fun _ h=>h,fun _ _=>rfl,fun _ _=>rfl⟩
 have hf: ∀v x,zE w F β (alive e) v x→zE w F' β al' v (Ve.frzN id id2 x):=by
  intro v x hx
  have hoff:zE w F' β al' v (T.offs id id2 x):=by
   unfold T.offs
   split
   ·trivial
   ·rename_i hn
    simp only [Bool.or_eq_true,List.contains_iff_mem,not_or] at hn
    exact zE.ext hext (hx.on (T.sites_sub hx.sites (fun i hi h=>⟨h,fun hh=>by cases hh;exact hn.1 hi,fun hh=>by cases hh;exact hn.2 hi⟩) (fun s hs=>⟨hs,by simp,by simp⟩)))
  cases x with
  |on m=>
   obtain ⟨i,i2,ty,xs,j,ys,mm⟩:=m
   simp only [Ve.frzN]
   split
   ·rename_i hid
    obtain ⟨rfl,rfl⟩:=hid
    cases mm with
    |s=>
     obtain ⟨_,_,c,et,cap2,k1,k2,k5,k6,k7,k8⟩:=hx
     simp only at k1 k2 k5 k6 k7
     refine .tl (.sl ty) _ v ?_
     rcases k8 with ⟨h0,a0,rfl⟩|rfl
     ·have h0:xs=[]:=List.length_eq_zero_iff.1 h0
      subst h0
      exact .slemp a0 0
     ·have hrow:zW w F' (β.ob i) 1 c.size ((List.set xs j ys).map (Ty.sl ty).enc):=by
       refine ⟨c,et,k1,by simp,by simpa using k2,?_,?_⟩
       ·intro q hq
        simp only [List.mem_map] at hq
        obtain ⟨z,_,rfl⟩:=hq
        rfl
       ·intro i' jj q d u h3 h4 h5
        simp only [List.getElem?_map,Option.map_eq_some_iff] at h3
        obtain ⟨z,hz,rfl⟩:=h3
        have hjj:jj<1:=(List.getElem?_eq_some_iff.1 h4).1
        obtain rfl:jj=0:=by omega
        simp only [Nat.mul_one,Nat.add_zero] at h5
        have hd:d= .tl ty z:=by
         have:some (V.tl ty z)=some d:=h4
         exact (Option.some.inj this).symm
        subst hd
        by_cases hij:j=i'
        ·subst hij
         rw [k6] at h5
         simp only [Option.some.injEq] at h5
         subst h5
         have hlt:j<xs.length:=by have:=(List.getElem?_eq_some_iff.1 hz).1;simpa using this
         rw [List.getElem?_set_self hlt] at hz
         simp only [Option.some.injEq] at hz
         subst hz
         refine .tl ty ys _ ?_
         have:=zDn k7 (F':=F') (fun b hb=> .inl hb) (.inr (.inr rfl))
         simpa using this
        ·rw [List.getElem?_set_ne hij] at hz
         exact (k5 i' z u (Ne.symm hij) hz h5).mono (fun b hb=> .inl hb) (fun _ _=>rfl)
      have:=zDn hrow (F':=F') (fun b hb=>hb) (.inr (.inl rfl))
      simpa using this
    |_=>trivial
   ·exact hoff
  |_=>exact hoff
 refine Inv.of (al:=al') hcore (hG.ext hext) (by simpa [Env.mapT] using hsz) hdf (fun t=>by rw [qH rfl];exact hf _ _ (ht t)) ?_ ?_
 ·intro s cs hcs
  rw [zS] at hcs
  simp only [Option.map_eq_some_iff] at hcs
  obtain ⟨cs0,hcs0,rfl⟩:=hcs
  exact ⟨⟨⟨cs0,hcs0⟩,by simp,by simp⟩,(hv s cs0 hcs0).mapT rfl hf⟩
 ·rintro s ⟨⟨cs,hcs⟩,_⟩
  exact ⟨_,by rw [zS,hcs];rfl⟩
theorem zNr (hi:Inv Γ G w0 F0 O0 a w e) {t:TypeId} {n:Nst} {d:V} {ap xv:Operand} (hp:evx G e ap= .on n) (hx:evx G e xv= .p d)
  (h:xM P e t n d=some e'): ∃w',(Instr.storeAt t (a.eval ap) (a.eval xv)).run P w= .ok () w'∧Inv Γ G w0 F0 O0 a w' e':=by
 obtain ⟨id,id2,ty,xs,j,ys,mm⟩:=n
 cases mm with
 |q k off=>
  simp only [xM] at h
  split at h
  ·rename_i hcond
   obtain ⟨hs,hfit,hone,hag,hne2,hl1,hl2⟩:=hcond
   split at h
   ·rename_i x hxk
    split at h
    ·rename_i y hy
     simp only [Option.some.injEq] at h
     subst h
     obtain ⟨F,O,β,hc,hG,hsz,hdf,ht,hv⟩:=hi
     have hpt:=wS hG ht ap
     have hxt:=wS hG ht xv
     rw [hp] at hpt
     rw [hx] at hxt
     obtain ⟨ha,ha2,c0,et0,cap2,k1,k2,k5,k6,k7,k8⟩:=hpt
     simp only at ha ha2 k1 k2 k5 k6 k7
     obtain ⟨hkl,hpv⟩:=k8
     simp only at hkl hpv
     have k7':=k7
     obtain ⟨c,et,g1,g2,g3,g4,g5⟩:=k7'
     have hq:(ys.map ty.enc)[k]? =some (ty.enc x):=by simp [hxk]
     have hag':(ty.enc x).noAgg=true→d.cells.length=1∧ty.size=1:=by
      intro hh
      refine hag ?_
      cases ty<;>first|rfl|(simp [Ty.enc,V.noAgg] at hh)
     have hrc:=zCT (q:=ty.enc x) (d:=d) (off:=off) (k:=ty.size) (jU ty x) hone hfit hag'
     have hre:(uT (ty.enc x) (z5 (ty.enc x).cells off d.cells)).cells.length=ty.size:=by rw [hrc,zBJ,jU]
     obtain ⟨h1,h2,h3⟩:=zFT (xs:=d.cells.map .p) hxt (by simp [T.cellsT,hone])
     simp only [List.length_map] at h1
     have hik:(k+1)*ty.size≤cap2*ty.size:=Nat.mul_le_mul_right ty.size (by simp at g3;omega)
     rw [Nat.succ_mul] at hik
     have hrun:(Instr.storeAt t (a.eval ap) (a.eval xv)).run P w= .ok () (setBlk w (β.ob id2) (.cells (qE c (k*ty.size+off) (a.eval xv).cells.toList) et (0,0))):=by
      have hst:=uA (P:=P) (b:=β.ob id2) (off:=k*ty.size+off) (et:=et) (a.eval xv).cells.toList 0 w c g1 (by simp [h1];omega) (fun u hu=>h2 u (by simpa using hu))
      have hw:(if (a.eval xv).cells.toList=[] then w else setBlk w (β.ob id2) (.cells (qE c (k*ty.size+off+0) (a.eval xv).cells.toList) et (0,0)))=setBlk w (β.ob id2) (.cells (qE c (k*ty.size+off) (a.eval xv).cells.toList) et (0,0)):=by
       split
       ·rename_i hnil;rw [hnil];exact (zBL g1).symm
       ·simp
      rw [hw] at hst
      simp only [Instr.storeAt,hpv,Instr.sureAddr,Sem.run_bind,Sem.run_pure,Result.andThen_ok,storeVar,run_sizeOf hs,h1,ne_eq,not_true,if_false]
      exact hst
     refine ⟨_,hrun,?_⟩
     obtain ⟨p1,p2,p3,p4⟩:=hc.place (.o id2) ha2
     have hFne: ∀b':Nat,F b'→b'≠β.ob id2:=fun b' hb hh=>p3 (by rw [hh] at hb;exact hb)
     have hvne: ∀s,alive e (.v s)→β.vb s≠β.ob id2:=fun s hs hh=>by
      have:=hc.dist (.v s) (.o id2) hs ha2 hh
      cases this
     have hone': ∀id',id'≠id2→alive e (.o id')→β.ob id'≠β.ob id2:=fun id' hne hs hh=>by
      have:=hc.dist (.o id') (.o id2) hs ha2 hh
      simp at this;exact hne this
     have hrow: ∀ (zs:List ty.El) cap',zW w F (β.ob id2) ty.size cap' (zs.map ty.enc)→zW (setBlk w (β.ob id2) (.cells (qE c (k*ty.size+off) (a.eval xv).cells.toList) et (0,0))) F (β.ob id2) ty.size cap' ((zs.set k y).map ty.enc):=by
      intro zs cap' hr0
      have hr:=zKo (es0:=zs.map ty.enc) (i:=k) (off:=off) (d:=d) (vs:=(a.eval xv).cells.toList) hFne g1 p2 (fun jj d' u hj hu=>g5 k jj (ty.enc x) d' u hq hj hu) (jU ty x) hfit hre hrc (by simp [h1]) (by simp only [Array.length_toList,h1];omega)
       (fun m u z hu hz=>h3 m u (.p z) (by simpa using hu) (by simp [hz])) hr0
      exact zON (zOP (.refl _) hrc hy) hr
     have hf: ∀v x,zE w F β (alive e) v x→zE (setBlk w (β.ob id2) (.cells (qE c (k*ty.size+off) (a.eval xv).cells.toList) et (0,0))) F β (alive e) v (zKY id id2 ty k y x):=by
      intro v x hx
      have hoff:zE (setBlk w (β.ob id2) (.cells (qE c (k*ty.size+off) (a.eval xv).cells.toList) et (0,0))) F β (alive e) v (T.offs id id2 x):=hx.offs hFne (fun i _ h2 ha=>hone' i h2 ha)
      cases x with
      |on m=>
       obtain ⟨i,i2,t',xs',j',ys',mm'⟩:=m
       simp only [zKY]
       split
       ·rename_i hid
        obtain ⟨rfl,rfl⟩:=hid
        split
        ·rename_i htt
         subst htt
         obtain ⟨_,_,c1,et1,cap1,q1,q2,q5,q6,q7,q8⟩:=hx
         simp only at q1 q2 q5 q6 q7
         refine ⟨ha,ha2,c1,et1,cap1,(zR (hone' i hne2 ha)).trans q1,q2,fun i' x u a1 a2 a3=>Rd.setBlk hFne (q5 i' x u a1 a2 a3),?_,hrow ys' cap1 q7,?_⟩
         ·simpa using q6
         ·simpa using q8
        ·trivial
       ·exact hoff
      |_=>exact hoff
     have hinv:Inv Γ G w0 F0 O0 a (setBlk w (β.ob id2) (.cells (qE c (k*ty.size+off) (a.eval xv).cells.toList) et (0,0))) (e.mapT (zKY id id2 ty k y)):=by
      refine Inv.of (al:=alive e) (hc.setBlk ha2 _ (fun c' et' fl' hh=>by rw [show w.heap[β.blk (.o id2)]? =_ from g1] at hh;simp only [Option.some.injEq,Obj.cells.injEq] at hh;exact ⟨_,_,_,rfl,by rw [kD,hh.1]⟩)) (fun g cs hg=>(hG g cs hg).setBlk hFne) (by simpa [Env.mapT] using hsz) hdf (fun t=>by rw [qH rfl];exact hf _ _ (ht t)) ?_ ?_
      ·intro s cs hcs
       rw [zS] at hcs
       simp only [Option.map_eq_some_iff] at hcs
       obtain ⟨cs0,hcs0,rfl⟩:=hcs
       have ha':alive e (.v s):=⟨cs0,hcs0⟩
       exact ⟨ha',(hv s cs0 hcs0).mapT (zR (hvne s ha')) hf⟩
      ·rintro s ⟨cs,hcs⟩
       exact ⟨_,by rw [zS,hcs];rfl⟩
     have hal: ∀i,i=id∨i=id2→alive (e.mapT (zKY id id2 ty k y)) (.o i):=by
      intro i hi
      have hop:evx G (e.mapT (zKY id id2 ty k y)) ap= .on ⟨id,id2,ty,xs,j,ys.set k y, .q k off⟩:=by
       cases ap with
       |tmp p=>
        simp only [evx] at hp ⊢
        rw [qH rfl,hp]
        simp [zKY]
       |const v=>simp only [evx] at hp;cases v<;>cases hp
       |global g=>simp only [evx] at hp;split at hp<;>cases hp
       |func f=>cases hp
      cases ap with
      |tmp p=>
       rcases get_mem (e:=e.mapT (zKY id id2 ty k y)) (t:=p) hop with hm|hm
       ·exact ⟨_, .inl hm,by rcases hi with rfl|rfl<;>simp [T.hasO]⟩
       ·cases hm
      |const v=>simp only [evx] at hp;cases v<;>cases hp
      |global g=>simp only [evx] at hp;split at hp<;>cases hp
      |func f=>cases hp
     have hfin:=hinv.frzN hl1 hl2 (hal id (.inl rfl)) (hal id2 (.inr rfl))
     have hcomp:(e.mapT (zKY id id2 ty k y)).mapT (Ve.frzN id id2)=e.mapT (zNm id id2 ty k y):=by
      simp only [Env.mapT,List.map_map]
      congr 1
      refine List.map_congr_left (fun c _=> ?_)
      cases c with
      |none=>rfl
      |some cs=>simp [zNm,Function.comp_def]
     rw [hcomp] at hfin
     exact hfin
    ·cases h
   ·cases h
  ·cases h
 |_=>simp [xM] at h
def frzOE (id:Nat) (e:Env Γ.St):Env Γ.St:=
 match Nat.beq id qA with
 |true=>e
 |false=>e.mapT (yP id)
theorem Inv.frzOE (hi:Inv Γ G w0 F0 O0 a w e) (id:Nat):Inv Γ G w0 F0 O0 a w (Ve.frzOE id e):=by
 unfold Ve.frzOE
 split
 ·exact hi
 ·rename_i hb
  exact hi.frzO (fun h=>by subst h;simp at hb)
def frzCells (e:Env Γ.St):List T→Env Γ.St
 |[]=>e
 | .ow id _ _::r=>frzCells (frzOE id e) r
 | .ot id _ _::r=>frzCells (frzOE id e) r
 |_::r=>frzCells e r
def frzT1 (x:T) (e:Env Γ.St):Env Γ.St:=
 match x with
 | .ow id _ _=>frzOE id e
 | .oe id _ _ _ _=>frzOE id e
 | .ot id _ _=>frzOE id e
 | .lp s _=>match e.var s with
  |some cs=>match (frzCells e cs).var s with
   |some cs'=>match wC cs' with
    |some ds=>(frzCells e cs).frzV s ds
    |none=>frzCells e cs
   |none=>frzCells e cs
  |none=>e
 |_=>e
theorem Inv.frzCells: ∀ (cs:List T) (e:Env Γ.St),Inv Γ G w0 F0 O0 a w e→Inv Γ G w0 F0 O0 a w (Ve.frzCells e cs):=by
 intro cs
 induction cs with
 |nil=>intro e h;exact h
 |cons c cs ih=>
  intro e h
  cases c with
  |ow id k es=>exact ih _ (h.frzOE id)
  |ot id t xs=>exact ih _ (h.frzOE id)
  |_=>exact ih _ h
theorem Inv.frzT1 (h:Inv Γ G w0 F0 O0 a w e) (x:T):Inv Γ G w0 F0 O0 a w (Ve.frzT1 x e):=by
 unfold Ve.frzT1
 split
 ·exact h.frzOE _
 ·exact h.frzOE _
 ·exact h.frzOE _
 ·split
  ·rename_i cs hcs
   have h1:=Inv.frzCells cs e h
   split
   ·rename_i cs' hcs'
    split
    ·rename_i ds hds;exact h1.frzV hcs' hds
    ·exact h1
   ·exact h1
  ·exact h
 ·exact h
def frzOps (G:Nat→Option (List V)):List Operand→Env Γ.St→Env Γ.St
 |[],e=>e
 |x::r,e=>frzOps G r (frzT1 (evx G e x) e)
theorem Inv.frzOps: ∀ (xs:List Operand) (e:Env Γ.St),Inv Γ G w0 F0 O0 a w e→Inv Γ G w0 F0 O0 a w (Ve.frzOps G xs e):=by
 intro xs
 induction xs with
 |nil=>intro e h;exact h
 |cons x xs ih=>intro e h;exact ih _ (h.frzT1 _)
end
section
variable {Γ:Sig} (P:qK) (G:Nat→Option (List V)) (S:qZ Γ)
def evW (e:Env Γ.St) (o:Oper):Option (Env Γ.St):=
 match o.op with
 | .store t ap x=>match o.dst with
  |some _=>none
  |none=>match evx G e ap with
   | .lp s off=>zCx e P t s off (evx G e x)
   | .oe id k es i off=>match evx G e x with
    | .p d=>zAx P e t id k es i off d
    |_=>none
   | .oet id ty xs i off=>match evx G e x with
    | .p d=>zBp P e t id ty xs i off d
    | .ot id2 t2 ys=>zAg P e t id ty i off id2 t2 ys
    |_=>none
   | .on n=>match evx G e x with
    | .p d=>xM P e t n d
    |_=>none
   |_=>none
 | .call c=>match jC P G e o.dst c with
  |some e1=>some e1
  |none=>match wF P G e o.dst c with
   |some e1=>some e1
   |none=>uD P G e o.dst c
 | .mapUpdate t m k v=>match o.dst with
  |some _=>none
  |none=>match evx G e m,wB (evx G e k),wB (evx G e v) with
   | .mp id es ck,some k,some v=>zKJ P e t id es ck k v
   |_,_,_=>none
 |_=>none
def zGE (e:Env Γ.St) (o:Oper):Option (Env Γ.St):=
 match evQ P G S e o with
 |some r=>kB e o.dst r
 |none=>none
def zNT (o:Oper):List Operand:=
 match o.op with
 | .store _ _ x=>[x]
 | .mapUpdate _ _ _ v=>[v]
 |_=>o.op.operands.toList
end
section
variable {Γ:Sig} {P:Program} {G:Nat→Option (List V)} {S:qZ Γ} {o:Oper} {a:Act} {w0:World} {F0:Blk→Prop} {O0:kC} {w:World} {e e':Env Γ.St}
theorem zO4 (hi:Inv Γ G w0 F0 O0 a w e) (h:evW P G e o=some e') {Q:Exit→Act→World→Prop} :o.wp P a w (fun a' w'=>Inv Γ G w0 F0 O0 a' w' e') Q:=by
 obtain ⟨dst,op,type,pos,after,guard⟩:=o
 unfold evW at h
 split at h
 ·rename_i t ap x hop
  simp only at hop
  subst hop
  split at h
  ·cases h
  ·rename_i hd
   simp only at hd
   subst hd
   have hfin: ∀w',(Instr.storeAt t (a.eval ap) (a.eval x)).run P w= .ok () w'→Inv Γ G w0 F0 O0 a w' e'→(⟨none, .store t ap x,type,pos,after,guard⟩:Oper).wp P a w (fun a' w'=>Inv Γ G w0 F0 O0 a' w' e') Q:=by
    intro w' hr hinv
    unfold Oper.wp
    have:(execOp a.eval ⟨none, .store t ap x,type,pos,after,guard⟩).run P w= .ok .skip w':=by simp [execOp,hr]
    rw [this]
    exact hinv
   split at h
   ·rename_i s off hp
    obtain ⟨w',h1,h2⟩:=zNp (P:=P) hi hp rfl h
    exact hfin w' h1 h2
   ·rename_i id k es i off hp
    split at h
    ·rename_i d hx
     obtain ⟨w',h1,h2⟩:=zIJ (P:=P) hi hp hx h
     exact hfin w' h1 h2
    ·cases h
   ·rename_i id ty xs i off hp
    split at h
    ·rename_i d hx
     obtain ⟨w',h1,h2⟩:=zNq (P:=P) hi hp hx h
     exact hfin w' h1 h2
    ·rename_i id2 t2 ys hx
     obtain ⟨w',h1,h2⟩:=zL1 (P:=P) hi hp hx h
     exact hfin w' h1 h2
    ·cases h
   ·rename_i n hp
    split at h
    ·rename_i d hx
     obtain ⟨w',h1,h2⟩:=zNr (P:=P) hi hp hx h
     exact hfin w' h1 h2
    ·cases h
   ·cases h
 ·rename_i c hop
  simp only at hop
  subst hop
  split at h
  ·rename_i e1 h1
   simp only [Option.some.injEq] at h
   subst h
   exact zH2 hi h1
  ·split at h
   ·rename_i e1 h1
    simp only [Option.some.injEq] at h
    subst h
    exact zNb hi h1
   ·exact zOq hi h
 ·rename_i t m k v hop
  simp only at hop
  subst hop
  split at h
  ·cases h
  ·rename_i hd
   simp only at hd
   subst hd
   split at h
   ·rename_i id es ck kv vv hm hk hv
    obtain ⟨w',h1,h2⟩:=zSl (P:=P) hi hm hk hv h
    unfold Oper.wp
    have:(execOp a.eval ⟨none, .mapUpdate t m k v,type,pos,after,guard⟩).run P w= .ok .skip w':=by simp [execOp,h1]
    rw [this]
    exact h2
   ·cases h
 ·cases h
theorem zJt (hS:zZ Γ P G S) (hi:Inv Γ G w0 F0 O0 a w e) (h:zGE P G S e o=some e') {Q:Exit→Act→World→Prop} :o.wp P a w (fun a' w'=>Inv Γ G w0 F0 O0 a' w' e') Q:=by
 unfold zGE at h
 split at h
 ·rename_i r hr;exact zUh hS hi hr h
 ·cases h
end
end Go.Ve

namespace Go.Ve
open Go
section
variable {Γ:Sig} (P:qK) (G:Nat→Option (List V)) (S:qZ Γ)
def isW (o:Oper):Bool:=
 match o.op with
 | .store _ _ _=>true
 | .mapUpdate _ _ _ _=>true
 | .call c=>match c.callee with
  | .builtin .append=>true
  |_=>false
 |_=>false
def zQB:List Oper→Nat
 |[]=>0
 |o::r=>if isW o then 0 else zQB r+1
def zII (ops:Array Oper) (k:Nat):Bool:=
 if k=ops.size then true else
 let anc:=Region.before ops
 zR4 ops anc&&(List.range ops.size).all fun j=>match ops[j]? with
  |some o=>o.after.all (fun e=> !Region.binds .any e||decide (e.on<j))&&(decide (j<k)||(List.range j).all fun i=>(anc.getD j 0).testBit i)
  |none=>true
def zIt (ops:Array Oper) (k:Nat):Bool:=
 (List.range k).all fun i=>match ops[i]? with
  |some o=>match o.guard with
   |some (j,_)=>decide (j<k)
   |none=>true
  |none=>true
def zA8:List Oper→List Operand
 |[]=>[]
 |o::r=>if isCall o&& !isW o then o.op.operands.toList++zA8 r else zA8 r
end
section
variable {Γ:Sig} {P:Program} {G:Nat→Option (List V)} {S:qZ Γ} {w0:World} {F0:Blk→Prop} {O0:kC} {a:Act} {w:World} {e e':Env Γ.St} {ops:Array Oper} {k:Nat}
def zOA (P:Program) (G:Nat→Option (List V)) (e:Env Γ.St) (o:Oper) (e1:Env Γ.St):Prop:=
 ∀ (w0:World) (F0:Blk→Prop) (O0:kC) (a:Act) (w:World) (Q:Exit→Act→World→Prop),Inv Γ G w0 F0 O0 a w e→o.wp P a w (fun a' w'=>Inv Γ G w0 F0 O0 a' w' e1) Q
def zPe (P:Program) (G:Nat→Option (List V)) (ops:Array Oper) (e:Env Γ.St) (o:Oper) (e1:Env Γ.St):Prop:=
 (qO ops e o=some true∧zOA P G e o e1)∨(qO ops e o=some false∧e1=e.put o.dst (.p (.val undef)))
inductive zGR (P:Program) (G:Nat→Option (List V)) (ops:Array Oper):List Oper→Env Γ.St→Env Γ.St→Prop
 |nil (e:Env Γ.St):zGR P G ops [] e e
 |cons {o:Oper} {rest:List Oper} {e e1 e':Env Γ.St} :zPe P G ops e o e1→zGR P G ops rest e1 e'→zGR P G ops (o::rest) e e'
theorem zIK {o:Oper} {Q:Exit→Act→World→Prop} {K:Act→World→Prop} {i:Nat} (hi:ops[i]? =some o) (h:zPe P G ops e o e') (hinv:Inv Γ G w0 F0 O0 a w e)
  (hK: ∀a w,Inv Γ G w0 F0 O0 a w e'→K a w):wpOp P ops Q i K a w:=by
 unfold wpOp
 simp only [hi]
 obtain ⟨F,O,β,hc,hG,hsz,hdf,ht,hv⟩:=hinv
 rcases h with ⟨hw,h⟩|⟨hw,h⟩
 ·rw [zEq (fun t _=>ht t) hsz hw,if_pos rfl]
  exact .inl (Oper.wp_mono hK (h w0 F0 O0 a w Q ⟨F,O,β,hc,hG,hsz,hdf,ht,hv⟩))
 ·rw [zEq (fun t _=>ht t) hsz hw]
  simp only [Bool.false_eq_true,if_false]
  subst h
  refine hK _ _ ?_
  refine Inv.of (al:=alive e) (by cases o.dst<;>exact hc) hG ?_ ?_ ?_ ?_ ?_
  ·cases hd:o.dst<;>simp [Act.put,Env.put,hsz]
  ·cases hd:o.dst<;>exact hdf
  ·intro t
   cases hd:o.dst with
   |none=>exact ht t
   |some d=>
    rw [uY]
    simp only [Env.put]
    rw [vA,hsz]
    split
    ·exact Rd.val _
    ·exact ht t
  ·intro s cs hcs
   have:(e.put o.dst (.p (.val undef))).var s=e.var s:=by cases o.dst<;>rfl
   rw [this] at hcs
   exact ⟨⟨cs,hcs⟩,hv s cs hcs⟩
  ·intro s hs
   have:(e.put o.dst (.p (.val undef))).var s=e.var s:=by cases o.dst<;>rfl
   rw [this];exact hs
theorem zSq (ops:Array Oper) {Q:Exit→Act→World→Prop} : ∀ (n:Nat) (l:List Oper) (e e':Env Γ.St) (a:Act) (w:World),
  ops.toList.drop n=l→zGR P G ops l e e'→Inv Γ G w0 F0 O0 a w e→(∀a w,Inv Γ G w0 F0 O0 a w e'→Q .normal a w)→
  wpOps P ops Q (List.range' n l.length) a w:=by
 intro n l
 induction l generalizing n with
 |nil=>
  intro e e' a w _ h hi hQ
  cases h
  exact hQ a w hi
 |cons o rest ih=>
  intro e e' a w hl h hi hQ
  cases h with
  |cons he1 h=>
   rename_i e1
   have hat:ops[n]? =some o:=by
    have:(ops.toList.drop n)[0]? =some o:=by rw [hl];rfl
    rw [List.getElem?_drop] at this
    simpa using this
   have hrest:ops.toList.drop (n+1)=rest:=by rw [←List.tail_drop,hl];rfl
   simp only [List.length_cons,List.range'_succ]
   rw [wpOps_cons]
   exact zIK hat he1 hi (fun a w hi1=>ih (n+1) e1 e' a w hrest h hi1 hQ)
structure zUt (ops:Array Oper) (k:Nat):Prop where
 edge: ∀ (i:Nat) (o:Oper) (e:Edge),ops[i]? =some o→e∈o.after→Region.binds .any e=true→e.on<i
 last: ∀ (listed:Nat→Prop),(∀ (i:Nat) (o:Oper) (e:Edge),ops[i]? =some o→listed i→e∈o.after→Region.binds .any e=true→listed e.on)→
  ∀ (j i:Nat) (o:Oper),ops[j]? =some o→k≤j→i<j→(∀e,e∈o.after→Region.binds .any e=true→listed e.on)→listed i
theorem zOL (h:zII ops k=true) (hne:k≠ops.size):zUt ops k:=by
 unfold zII at h
 rw [if_neg hne] at h
 simp only [Bool.and_eq_true] at h
 obtain ⟨hanc,hall⟩:=h
 generalize Region.before ops=anc at hanc hall
 have hone: ∀j o,ops[j]? =some o→(o.after.all (fun e=> !Region.binds .any e||decide (e.on<j))&&(decide (j<k)||(List.range j).all fun i=>(anc.getD j 0).testBit i))=true:=by
  intro j o ho
  have hlt:j<ops.size:=(Array.getElem?_eq_some_iff.1 ho).1
  have:=List.all_eq_true.1 hall j (List.mem_range.2 hlt)
  simpa [ho] using this
 have hedge: ∀ (i:Nat) (o:Oper) (e:Edge),ops[i]? =some o→e∈o.after→Region.binds .any e=true→e.on<i:=by
  intro i o e ho he hb
  have h1:=hone i o ho
  rw [Bool.and_eq_true] at h1
  have h2:=Array.all_eq_true_iff_forall_mem.1 h1.1 e he
  simpa [hb] using h2
 have hcl: ∀ (listed:Nat→Prop),(∀ (i:Nat) (o:Oper) (e:Edge),ops[i]? =some o→listed i→e∈o.after→Region.binds .any e=true→listed e.on)→
   ∀ (i:Nat) (o:Oper) (j:Nat),ops[i]? =some o→j<i→(anc.getD i 0).testBit j=true→(∀e,e∈o.after→Region.binds .any e=true→listed e.on)→listed j:=by
  intro listed hdown i
  induction i using Nat.strongRecOn with
  |_ i ih=>
   intro o j ho hji hbit hi
   have hlt:i<ops.size:=(Array.getElem?_eq_some_iff.1 ho).1
   have h1:=List.all_eq_true.1 hanc i (List.mem_range.2 hlt)
   simp only [ho] at h1
   have h2:=List.all_eq_true.1 h1 j (List.mem_range.2 hji)
   simp only [hbit,Bool.not_true,Bool.false_or,Array.any_eq_true',Bool.and_eq_true,Bool.or_eq_true,decide_eq_true_eq,beq_iff_eq] at h2
   obtain ⟨e,he,⟨hb,hon⟩,hj⟩:=h2
   have hle:=hi e he hb
   rcases hj with rfl|⟨hjlt,hbit'⟩
   ·exact hle
   ·have hlt':e.on<ops.size:=by omega
    have ho':ops[e.on]? =some ops[e.on]:=by simp [hlt']
    exact ih e.on hon ops[e.on] j ho' hjlt hbit' (fun e2 he2 hb2=>hdown e.on _ e2 ho' hle he2 hb2)
 refine ⟨hedge,?_⟩
 intro listed hdown j i o ho hkj hij hdeps
 have h1:=hone j o ho
 rw [Bool.and_eq_true] at h1
 have h2:=h1.2
 simp only [Bool.or_eq_true,decide_eq_true_eq] at h2
 have h3:=h2.resolve_left (by omega)
 exact hcl listed hdown j o i ho hij (List.all_eq_true.1 h3 i (List.mem_range.2 hij)) hdeps
theorem zNk (ht:zUt ops k) {Q:Exit→Act→World→Prop} : ∀ (l:List Oper) (j:Nat) (e e':Env Γ.St) (fuel:Nat) (listed:Array Bool) (a:Act) (w:World),
  k≤j→ops.toList.drop j=l→zGR P G ops l e e'→listed.size=ops.size→(∀i,i<ops.size→listed.getD i true=decide (i<j))→Inv Γ G w0 F0 O0 a w e→l.length≤fuel→
  (∀a w,Inv Γ G w0 F0 O0 a w e'→Q .normal a w)→wpAny P .any ops Q fuel listed a w:=by
 intro l
 induction l with
 |nil=>
  intro j e e' fuel listed a w hkj hl hev hls hlist hinv hfuel hQ
  cases hev
  have hge:ops.size≤j:=by simpa using hl
  have hr:Region.ready .any ops listed=[]:=by
   apply List.eq_nil_iff_forall_not_mem.2
   intro i hi
   obtain ⟨hun,o,ho,_⟩:=mem_ready.1 hi
   have hlt:i<ops.size:=(Array.getElem?_eq_some_iff.1 ho).1
   rw [hlist i hlt] at hun
   simp at hun;omega
  exact wpAny_done hr (hQ a w hinv) fuel
 |cons o rest ih=>
  intro j e e' fuel listed a w hkj hl hev hls hlist hinv hfuel hQ
  cases hev with
  |cons he1 hev=>
   rename_i e1
   have hat:ops[j]? =some o:=by
    have:(ops.toList.drop j)[0]? =some o:=by rw [hl];rfl
    rw [List.getElem?_drop] at this
    simpa using this
   have hjlt:j<ops.size:=(Array.getElem?_eq_some_iff.1 hat).1
   have hrest:ops.toList.drop (j+1)=rest:=by rw [←List.tail_drop,hl];rfl
   cases fuel with
   |zero=>simp at hfuel
   |succ fuel=>
    have hdown: ∀ (i:Nat) (o:Oper) (e:Edge),ops[i]? =some o→listed.getD i true=true→e∈o.after→Region.binds .any e=true→listed.getD e.on true=true:=by
     intro i oi ed hi hli hed hb
     have hlt:i<ops.size:=(Array.getElem?_eq_some_iff.1 hi).1
     have hon:=ht.edge i oi ed hi hed hb
     rw [hlist i hlt] at hli
     rw [hlist ed.on (by omega)]
     simp at hli ⊢;omega
    refine ⟨fun hr=> ?_,?_⟩
    ·exfalso
     have:j∈Region.ready .any ops listed:=by
      rw [mem_ready]
      refine ⟨by rw [hlist j hjlt];simp,o,hat,?_⟩
      intro ed hed hb
      have hon:=ht.edge j o ed hat hed hb
      rw [zBQ (by omega),hlist ed.on (by omega)]
      simpa using hon
     rw [hr] at this;cases this
    ·intro i hi
     obtain ⟨hun,oi,ho,hdeps⟩:=mem_ready.1 hi
     have hlt:i<ops.size:=(Array.getElem?_eq_some_iff.1 ho).1
     have hij:j≤i:=by rw [hlist i hlt] at hun;simp at hun;exact hun
     have hdeps': ∀ed,ed∈oi.after→Region.binds .any ed=true→listed.getD ed.on true=true:=by
      intro ed hed hb
      have h1:=hdeps ed hed hb
      have hon:=ht.edge i oi ed ho hed hb
      rw [←zBQ (by omega)];exact h1
     have hii:i=j:=by
      rcases Nat.lt_or_ge j i with h|h
      ·exfalso
       have:=ht.last (fun k=>listed.getD k true=true) hdown i j oi ho (by omega) h hdeps'
       rw [hlist j hjlt] at this;simp at this
      ·omega
     subst hii
     refine zIK hat he1 hinv ?_
     intro a' w' hinv'
     refine ih (i+1) e1 e' fuel _ a' w' (by omega) hrest hev (by simpa using hls) ?_ hinv' (by simpa using hfuel) hQ
     intro i' hi'
     rw [qB _ _ _ (by omega)]
     split
     ·rename_i h;subst h;simp
     ·rename_i h
      rw [hlist i' hi']
      simp;omega
theorem yQ {i:Nat} (hi:i<k):(ops.extract 0 k)[i]? =ops[i]? :=by
 rw [Array.getElem?_extract]
 split
 ·simp
 ·rename_i h
  rw [Array.getElem?_eq_none (by simp at h;omega)]
theorem zKV {Q:Exit→Act→World→Prop} {K:Act→World→Prop} {i:Nat} (hi:i<k) (hg:zIt ops k=true) (h:wpOp P (ops.extract 0 k) Q i K a w):wpOp P ops Q i K a w:=by
 unfold wpOp at*
 rw [yQ hi] at h
 cases ho:ops[i]? with
 |none=>rw [ho] at h;exact h
 |some o=>
  rw [ho] at h
  simp only at h ⊢
  have hw:Region.wanted o (yielded (ops.extract 0 k) a.tmps)=Region.wanted o (yielded ops a.tmps):=by
   unfold Region.wanted
   cases hgd:o.guard with
   |none=>rfl
   |some gw=>
    obtain ⟨j,want⟩:=gw
    have h1:=List.all_eq_true.1 hg i (List.mem_range.2 hi)
    simp only [ho,hgd,decide_eq_true_eq] at h1
    simp only [yielded,yQ h1]
  rw [hw] at h
  exact h
theorem zLK (hm:k≤ops.size) (hst:zJR (ops.extract 0 k)) (htl:zII ops k=true) (hgd:zIt ops k=true) (hS:zZ Γ P G S) {sts:Nat→Γ.St} {e1 e':Env Γ.St}
  (hsteps: ∀ (i:Nat) (o:Oper),(ops.extract 0 k)[i]? =some o→zBv P G S (ops.extract 0 k) e1 (sts i) o (sts (i+1))) (hlast:sts k=e1.st)
  (htail:zGR P G ops (ops.toList.drop k) e1 e')
  {Q:Exit→Act→World→Prop} (hQ: ∀a w,Inv Γ G w0 F0 O0 a w e'→Q .normal a w): ∀ (fuel:Nat) (listed:Array Bool) (a:Act) (w:World),listed.size=ops.size→
  listed.count false≤fuel→(∀i,k≤i→i<ops.size→listed.getD i true=false)→
  (∀ (i:Nat) (o:Oper) (e:Edge),ops[i]? =some o→listed.getD i true=true→e∈o.after→Region.binds .any e=true→listed.getD e.on true=true)→
  (∃F O β al m,zQj Γ G w0 F0 O0 (ops.extract 0 k) e1 sts (listed.extract 0 k) a w F O β al m)→wpAny P .any ops Q fuel listed a w:=by
 have hks:(ops.extract 0 k).size=k:=by simp;omega
 have hlk: ∀ (listed:Array Bool) (i:Nat),i<k→(listed.extract 0 k).getD i true=listed.getD i true:=by
  intro listed i hi
  simp only [Array.getD_eq_getD_getElem?]
  rw [Array.getElem?_extract]
  split
  ·simp
  ·rename_i h
   rw [Array.getElem?_eq_none (by simp at h;omega)]
 have hinvOf: ∀ (listed:Array Bool) (a:Act) (w:World),(∀i,i<k→listed.getD i true=true)→(∃F O β al m,zQj Γ G w0 F0 O0 (ops.extract 0 k) e1 sts (listed.extract 0 k) a w F O β al m)→Inv Γ G w0 F0 O0 a w e1:=by
  rintro listed a w hall ⟨F,O,β,al,m,hp⟩
  have hkn: ∀t,zFg (ops.extract 0 k) (listed.extract 0 k) t:=fun t i o ho hl=>by
   have hi:i<k:=by have:=(Array.getElem?_eq_some_iff.1 ho).1;omega
   rw [hlk listed i hi,hall i hi] at hl;cases hl
  have heq: ∀q,m+q≤k→sts (m+q)=sts m:=by
   intro q
   induction q with
   |zero=>intro _;rfl
   |succ q ih=>
    intro hq
    have hlt:m+q< (ops.extract 0 k).size:=by omega
    have hj:(ops.extract 0 k)[m+q]? =some (ops.extract 0 k)[m+q]:=by rw [Array.getElem?_eq_getElem hlt]
    have hnc:isCall (ops.extract 0 k)[m+q]=false:=by
     cases hc:isCall (ops.extract 0 k)[m+q] with
     |false=>rfl
     |true=>have:=(hp.calls _ _ hj hc).1 (by rw [hlk listed _ (by omega)];exact hall _ (by omega));omega
    rw [←ih (by omega)]
    rcases hsteps (m+q) _ hj with ⟨_,r',hev',hst'',_,_⟩|⟨_,hst'',_⟩
    ·rw [←Nat.add_assoc,hst''];exact xB (zHx hev' hnc) _
    ·rw [←Nat.add_assoc,hst'']
  have hmle:=hp.mle
  have hlst:sts m=e1.st:=by
   have:=heq (k-m) (by omega)
   rw [Nat.add_sub_cancel' (by omega)] at this
   rw [←this,hlast]
  refine Inv.of (al:=al) (by rw [←hlst];exact hp.core) hp.g hp.size hp.defers (fun t=>hp.tm t (hkn t)) ?_ hp.lp
  intro s cs hcs
  have ha:=hp.vk s cs hcs (hkn s)
  exact ⟨ha,hp.var s cs hcs ha⟩
 have hdone: ∀ (fuel:Nat) (listed:Array Bool) (a:Act) (w:World),listed.size=ops.size→listed.count false≤fuel→(∀i,k≤i→i<ops.size→listed.getD i true=false)→
   (∀i,i<k→listed.getD i true=true)→Inv Γ G w0 F0 O0 a w e1→wpAny P .any ops Q fuel listed a w:=by
  intro fuel listed a w hls hcnt htf hall hinv
  by_cases hke:k=ops.size
  ·have hnil:ops.toList.drop k=[]:=by rw [hke];simp
   rw [hnil] at htail
   cases htail
   have hr:Region.ready .any ops listed=[]:=by
    apply List.eq_nil_iff_forall_not_mem.2
    intro i hi
    obtain ⟨hun,o,ho,_⟩:=mem_ready.1 hi
    have hlt:i<ops.size:=(Array.getElem?_eq_some_iff.1 ho).1
    rw [hall i (by omega)] at hun;cases hun
   exact wpAny_done hr (hQ a w hinv) fuel
  ·have htail':=zOL htl hke
   refine zNk htail' _ k e1 e' fuel listed a w (Nat.le_refl _) rfl htail hls ?_ hinv ?_ hQ
   ·intro i hi
    by_cases h:i<k
    ·rw [hall i h];simp [h]
    ·rw [htf i (by omega) hi];simp [h]
   ·have hle:(ops.toList.drop k).length≤listed.count false:=by
     have h1:listed=listed.extract 0 k++listed.extract k listed.size:=by
      apply zDk
      intro i
      rw [Array.getElem?_append]
      simp only [Array.size_extract,Array.getElem?_extract]
      by_cases hi:i<k
      ·by_cases hi2:i<listed.size
       ·simp [show i<min k listed.size by omega]
       ·rw [Array.getElem?_eq_none (by omega),if_neg (by omega),if_neg (by omega)]
      ·by_cases hi2:i<listed.size
       ·rw [if_neg (by omega),if_pos (by omega)]
        congr 1;omega
       ·rw [if_neg (by omega),if_neg (by omega),Array.getElem?_eq_none (by omega)]
     have h2:listed.extract k listed.size=Array.replicate (listed.size-k) false:=by
      apply zDk
      intro i
      rw [Array.getElem?_extract,Array.getElem?_replicate]
      by_cases hi:i<listed.size-k
      ·rw [if_pos (by omega),if_pos hi]
       have:=htf (k+i) (by omega) (by omega)
       rw [Array.getD_eq_getD_getElem?,Array.getElem?_eq_getElem (by omega),Option.getD_some] at this
       rw [Array.getElem?_eq_getElem (by omega),this]
      ·rw [if_neg (by omega),if_neg hi]
     rw [h1,Array.count_append,h2]
     simp
     omega
    omega
 intro fuel
 induction fuel with
 |zero=>
  intro listed a w hls hcnt htf hdown hp
  have hall: ∀i,i<k→listed.getD i true=true:=by
   intro i hi
   cases hl:listed.getD i true with
   |true=>rfl
   |false=>
    exfalso
    have h0:listed.count false=0:=by omega
    rw [Array.count_eq_zero] at h0
    apply h0
    have h:i<listed.size:=by omega
    simp [Array.getD_eq_getD_getElem?,h] at hl
    rw [←hl];exact Array.getElem_mem h
  exact hdone 0 listed a w hls hcnt htf hall (hinvOf listed a w hall hp)
 |succ fuel ih=>
  intro listed a w hls hcnt htf hdown hp
  by_cases hall: ∀i,i<k→listed.getD i true=true
  ·exact hdone (fuel+1) listed a w hls hcnt htf hall (hinvOf listed a w hall hp)
  ·have hmin: ∃i,i<k∧listed.getD i true=false∧ ∀j,j<i→listed.getD j true=true:=by
    have: ∀n,n≤k→(∀i,i<n→listed.getD i true=true)∨ ∃i,i<n∧listed.getD i true=false∧ ∀j,j<i→listed.getD j true=true:=by
     intro n
     induction n with
     |zero=>intro _;exact .inl (fun i hi=>by omega)
     |succ n ihn=>
      intro hn
      rcases ihn (by omega) with h|⟨i,h1,h2,h3⟩
      ·cases hl:listed.getD n true with
       |true=>exact .inl (fun i hi=>by rcases Nat.lt_or_ge i n with h'|h';exact h i h';obtain rfl:i=n:=(by omega);exact hl)
       |false=>exact .inr ⟨n,by omega,hl,h⟩
      ·exact .inr ⟨i,by omega,h2,h3⟩
    rcases this k (Nat.le_refl _) with h|⟨i,h1,h2,h3⟩
    ·exact absurd h hall
    ·exact ⟨i,h1,h2,h3⟩
   obtain ⟨i0,hi0,hun0,hbel⟩:=hmin
   refine ⟨fun hr=> ?_,?_⟩
   ·exfalso
    have hlt:i0<ops.size:=by omega
    have:i0∈Region.ready .any ops listed:=by
     rw [mem_ready]
     refine ⟨hun0,ops[i0],by simp [hlt],?_⟩
     intro ed hed hb
     have hon:=hst.edge i0 ops[i0] ed (by rw [yQ hi0];simp [hlt]) hed hb
     rw [zBQ (by omega)]
     exact hbel ed.on hon
    rw [hr] at this;cases this
   ·intro i hi
    obtain ⟨hun,o,ho,hdeps⟩:=mem_ready.1 hi
    have hlt:i<ops.size:=(Array.getElem?_eq_some_iff.1 ho).1
    have hin:i<listed.size:=by omega
    have hdeps': ∀ed,ed∈o.after→Region.binds .any ed=true→listed.getD ed.on true=true:=by
     intro ed hed hb
     have h1:=hdeps ed hed hb
     rcases Nat.lt_or_ge ed.on listed.size with h|h
     ·rw [←zBQ h];exact h1
     ·simp [Array.getD_eq_getD_getElem?,Array.getElem?_eq_none h]
    have hik:i<k:=by
     rcases Nat.lt_or_ge i k with h|h
     ·exact h
     ·exfalso
      have hke:k≠ops.size:=by omega
      have htail':=zOL htl hke
      have:=htail'.last (fun q=>listed.getD q true=true) hdown i i0 o ho h (by omega) hdeps'
      rw [hun0] at this;cases this
    obtain ⟨F,O,β,al,m,hp⟩:=hp
    refine zKV hik hgd ?_
    refine zKs hst hS hsteps hp (by simp;omega) ?_ (by rw [yQ hik];exact ho) (by rw [hlk listed i hik];exact hun) ?_ ?_
    ·intro j oj ed hj hl hed hb
     have hjk:j<k:=by have:=(Array.getElem?_eq_some_iff.1 hj).1;omega
     have hon:=hst.edge j oj ed hj hed hb
     rw [hlk listed j hjk] at hl
     rw [hlk listed ed.on (by omega)]
     exact hdown j oj ed (by rw [←yQ hjk];exact hj) hl hed hb
    ·intro ed hed hb
     have hon:=hst.edge i o ed (by rw [yQ hik];exact ho) hed hb
     rw [hlk listed ed.on (by omega)]
     exact hdeps' ed hed hb
    ·intro a' w' F' O' β' al' m' hp'
     have hset:(listed.extract 0 k).setIfInBounds i true=(listed.setIfInBounds i true).extract 0 k:=by
      apply zDk
      intro q
      rw [Array.getElem?_extract]
      by_cases hq:q=i
      ·subst hq
       rw [Array.getElem?_setIfInBounds_self_of_lt (by simp;omega),if_pos (by simp;omega)]
       rw [Nat.zero_add,Array.getElem?_setIfInBounds_self_of_lt hin]
      ·rw [Array.getElem?_setIfInBounds_ne (Ne.symm hq),Array.getElem?_extract]
       simp only [Array.size_setIfInBounds,Nat.zero_add]
       rw [Array.getElem?_setIfInBounds_ne (Ne.symm hq)]
     rw [hset] at hp'
     refine ih (listed.setIfInBounds i true) a' w' (by simpa using hls) ?_ ?_ ?_ ⟨F',O',β',al',m',hp'⟩
     ·have hli:listed[i]=false:=by simpa [Array.getD_eq_getD_getElem?,hin] using hun
      rw [Array.setIfInBounds_def,dif_pos hin,Array.count_set hin,hli]
      simp
      omega
     ·intro q hq1 hq2
      rw [qB _ _ _ hin,if_neg (by omega)];exact htf q hq1 hq2
     ·intro j oj ed hj hl hed hb
      rw [qB _ _ _ hin] at hl ⊢
      split
      ·rfl
      ·by_cases hji:j=i
       ·subst hji;rw [ho] at hj;cases hj;exact hdeps' ed hed hb
       ·rw [if_neg hji] at hl;exact hdown j oj ed hj hl hed hb
theorem zP5 (hmix:P.follows .mixedOrders=true) (hS:zZ Γ P G S) (hi:Inv Γ G w0 F0 O0 a w e) (hk:k≤ops.size) (htl:zII ops k=true) (hgd:zIt ops k=true)
  {e1:Env Γ.St} (he1:zOb P G S (ops.extract 0 k) e=some e1) (hev:zGR P G ops (ops.toList.drop k) e1 e') {id:Nat} {Q:Exit→Act→World→Prop} (hQ: ∀a w,Inv Γ G w0 F0 O0 a w e'→Q .normal a w):(Code.region id ops true).wp P Q a w:=by
 ·unfold zOb at he1
  split at he1
  ·rename_i hok
   have hst:=zKi hok
   have hah:=zJM hst 0 (ops.extract 0 k).toList (by simp)
   have hno: ∀d,d∈zK (ops.extract 0 k).toList→(killAll (zK (ops.extract 0 k).toList) e).var d=none:=by
    intro d hd
    cases hv:(killAll (zK (ops.extract 0 k).toList) e).var d with
    |none=>rfl
    |some cs=>exact absurd ⟨cs,hv⟩ (u7 _ e d hd).1
   obtain ⟨sts,h0,hn,hsteps,hg,hv,hl⟩:=zDd _ _ _ he1 hah hno
   have hks:(ops.extract 0 k).size=k:=by simp;omega
   have hsteps': ∀ (i:Nat) (o:Oper),(ops.extract 0 k)[i]? =some o→zBv P G S (ops.extract 0 k) e1 (sts i) o (sts (i+1)):=fun i o ho=>hsteps i o (by rw [Array.getElem?_toList];exact ho)
   refine wp_region_any hmix ?_
   obtain ⟨F,O,β,hc,hG,hsz,hdf,ht,hvv⟩:=(hi.killAll (zK (ops.extract 0 k).toList)).drew (w.drawn+1) (Nat.le_succ _)
   have hrep:(Array.replicate ops.size false).extract 0 k=Array.replicate k false:=by
    apply zDk
    intro i
    rw [Array.getElem?_extract,Array.getElem?_replicate]
    simp only [Array.size_replicate]
    by_cases h:i<k
    ·simp [h,show i<ops.size by omega,show i<min k ops.size by omega]
    ·rw [if_neg (by omega)];simp [h]
   have hnotin: ∀t,zFg (ops.extract 0 k) (Array.replicate k false) t→t ∉ zK (ops.extract 0 k).toList:=by
    intro t hkn hin
    simp only [zK,List.mem_filterMap] at hin
    obtain ⟨o,hm',hd⟩:=hin
    obtain ⟨i,hi',rfl⟩:=List.getElem_of_mem hm'
    have hi'':i< (ops.extract 0 k).size:=by simpa using hi'
    refine hkn i (ops.extract 0 k)[i] (Array.getElem?_eq_getElem hi'') (by simp [Array.getD_eq_getD_getElem?,show i<k by omega]) (by rw [←Array.getElem_toList];exact hd)
   refine zLK hk hst htl hgd hS hsteps' (by rw [←hn];simp;congr 1;omega) hev hQ ops.size _ a _ (by simp) (by simp) ?_ ?_ ⟨F,O,β,alive (killAll (zK (ops.extract 0 k).toList) e),0,?_⟩
   ·intro i _ hi';simp [Array.getD_eq_getD_getElem?,hi']
   ·intro i o ed ho hlst
    have hi'':i<ops.size:=(Array.getElem?_eq_some_iff.1 ho).1
    simp [Array.getD_eq_getD_getElem?,hi''] at hlst
   ·rw [hrep]
    refine ⟨by rw [h0];exact hc,hG,by rw [hl];exact hsz,hdf,?_,?_,?_,?_,?_,Nat.zero_le _,?_⟩
    ·intro t hkn;rw [hg t (hnotin t hkn)];exact ht t
    ·intro s cs hcs hs
     obtain ⟨cs0,hcs0⟩:=hs
     have hni:s ∉ zK (ops.extract 0 k).toList:=fun hin=>by rw [hno s hin] at hcs0;cases hcs0
     rw [hv s hni] at hcs
     exact hvv s cs hcs
    ·intro s hs
     obtain ⟨cs0,hcs0⟩:=hs
     have hni:s ∉ zK (ops.extract 0 k).toList:=fun hin=>by rw [hno s hin] at hcs0;cases hcs0
     exact ⟨cs0,by rw [hv s hni];exact hcs0⟩
    ·intro s cs hcs hkn
     rw [hv s (hnotin s hkn)] at hcs
     exact ⟨cs,hcs⟩
    ·intro i o d ho _ hd
     refine u7 _ e d ?_
     simp only [zK,List.mem_filterMap]
     exact ⟨o,Array.mem_toList_iff.2 (Array.mem_of_getElem? ho),hd⟩
    ·intro i o ho _
     have hi'':i< (ops.extract 0 k).size:=(Array.getElem?_eq_some_iff.1 ho).1
     have:i<k:=by omega
     simp [Array.getD_eq_getD_getElem?,this]
  ·cases he1
end
end Go.Ve

namespace Go.Ve
open Go
inductive X where
 |normal
 |exit (id:Nat)
 |ret
def X.toExit:X→Exit
 | .normal=> .normal
 | .exit id=> .exit id
 | .ret=> .ret
def X.out (id:Nat):X→X
 | .exit id'=>if id'=id then .normal else .exit id'
 |x=>x
section
variable {Γ:Sig} (P:qK) (G:Nat→Option (List V)) (S:qZ Γ)
end
section
variable {Γ:Sig} {P:Program} {G:Nat→Option (List V)} {S:qZ Γ} {w0:World} {F0:Blk→Prop} {O0:kC}
end
end Go.Ve

namespace Go.Ve
open Go
section
variable {St:Type} (P:qK) (e:Env St)
def zM9:List T→Option (List V)
 |[]=>some []
 |x::r=>match zCE e x,zM9 r with
  |some d,some ds=>some (d::ds)
  |_,_=>none
def zLb (t:TypeId):T→Option V
 | .p (.pp cs)=>ldV P t cs
 | .lp s off=>match e.var s with
  |some cs=>match zAI P t with
   |some true=>match z9 P t with
    |some n=>if n≤(cs.drop off).length then (zM9 e ((cs.drop off).take n)).map .agg else none
    |none=>none
   |some false=>match (cs.drop off).head? with
    |some x=>zCE e x
    |none=>none
   |none=>none
  |none=>none
 |_=>none
def resV:ResultVar→Option V
 | .tmp t=>zCE e (e.get t)
 | .cell t ty=>zLb P e ty (e.get t)
def zCm:List ResultVar→Option (List V)
 |[]=>some []
 |x::r=>match resV P e x,zCm r with
  |some d,some ds=>some (d::ds)
  |_,_=>none
def zFb (fn:Func):Option RV:=
 match fn.results.toList with
 |[.tmp t]=>match e.get t with
  | .emp=>some (.own [])
  | .ow _ _ []=>some (.p (.sl []))
  | .ow _ _ (x::es)=>some (.own (x::es))
  | .ot _ t xs=>some (.ownT t xs)
  |x=>(zCE e x).map .p
 |[r]=>(resV P e r).map .p
 |rs=>(zCm P e rs).map (fun ds=> .p (.tup ds))
end
def zGc (n:Nat) (ds:List V):List T:=ds.map .p++List.replicate (n-ds.length) (.p (.val undef))
def start {St:Type} (n:Nat) (s:St) (ds:List V):Env St:= { tm:=zGc n ds,vars:=List.replicate n none,st:=s }
section
variable {Γ:Sig} {P:Program} {G:Nat→Option (List V)} {S:qZ Γ} {e:Env Γ.St} {a:Act} {w:World} {F:Blk→Prop} {β:Lay} {al:Site→Prop}
theorem zQg (hvars: ∀s cs,e.var s=some cs→al (.v s)→z7 w F β al (β.vb s) cs): ∀ (xs:List T) (vs:List Value) (ds:List V),xs.length=vs.length→
  (∀ (i:Nat) (v:Value) (x:T),vs[i]? =some v→xs[i]? =some x→zE w F β al v x)→zM9 e xs=some ds→
  vs.length=ds.length∧ ∀ (i:Nat) (v:Value) (d:V),vs[i]? =some v→ds[i]? =some d→Rd w (Fal F β al) v d:=by
 intro xs
 induction xs with
 |nil=>
  intro vs ds hl _ h
  simp [zM9] at h;subst h
  cases vs with
  |nil=>exact ⟨rfl,fun i v d h=>by simp at h⟩
  |cons v vs=>simp at hl
 |cons x xs ih=>
  intro vs ds hl hr h
  cases vs with
  |nil=>simp at hl
  |cons v vs=>
   simp only [zM9] at h
   split at h
   ·rename_i d ds' hd hds
    simp only [Option.some.injEq] at h
    subst h
    obtain ⟨h1,h2⟩:=ih vs ds' (by simpa using hl) (fun i v x hv hx=>hr (i+1) v x (by simpa using hv) (by simpa using hx)) hds
    refine ⟨by simpa using h1,?_⟩
    intro i u y hu hy
    cases i with
    |zero=>simp at hu hy;subst hu hy;exact (zGO hvars (hr 0 v x rfl rfl) hd).1
    |succ i=>exact h2 i u y (by simpa using hu) (by simpa using hy)
   ·cases h
theorem zMg (hvars: ∀s cs,e.var s=some cs→al (.v s)→z7 w F β al (β.vb s) cs) {t:TypeId} {x:T} {v:Value} {d:V}
  (hx:zE w F β al v x) (h:zLb P e t x=some d): ∃ad u,v= .pointer (some ad)∧(loadVar t ad).run P w= .ok u w∧Rd w (Fal F β al) u d:=by
 unfold zLb at h
 split at h
 ·rename_i cs
  cases hx with
  |pp b off cs g hF hg hr=>
   obtain ⟨u,h1,h2⟩:=zLl (P:=P) hg hr h
   refine ⟨⟨b,off,none⟩,u,rfl,?_,h2.mono (fun b hb=> .inl hb) (fun _ _=>rfl)⟩
   simpa [Instr.loadAt,Instr.sureAddr] using h1
 ·rename_i s off
  obtain ⟨ha,rfl⟩:=hx
  split at h
  ·rename_i cs hcs
   have hv:=hvars s cs hcs ha
   split at h
   ·rename_i hagg
    split at h
    ·rename_i n hn
     split at h
     ·rename_i hle
      simp only [Option.map_eq_some_iff] at h
      obtain ⟨ds,hds,rfl⟩:=h
      simp only [List.length_drop] at hle
      let g:Nat→Value:=fun m=>(w.cell? ⟨β.vb s,off+m,none⟩).getD undef
      have hg: ∀m,m<n→w.cell? ⟨β.vb s,off+m,none⟩=some (g m)∧ ∀x,((cs.drop off).take n)[m]? =some x→zE w F β al (g m) x:=fun m hm=>by
       obtain ⟨x,h1,h2⟩:=hv.at (off+m) (by omega)
       refine ⟨by simp [g,h1],fun y hy=> ?_⟩
       rw [List.getElem?_take,if_pos hm,List.getElem?_drop,List.getElem?_eq_getElem (by omega),Option.some.injEq] at hy
       subst hy
       simpa [g,h1] using h2
      have hrun:=xG (P:=P) hagg hn (fun m hm=>(hg m hm).1)
      obtain ⟨h3,h4⟩:=zQg hvars ((cs.drop off).take n) ((List.range n).map g) ds (by simp;omega) (by
       intro i v x hv hx
       simp only [List.getElem?_map,Option.map_eq_some_iff] at hv
       obtain ⟨m,hm,rfl⟩:=hv
       have hi:i<n:=by
        have:=(List.getElem?_eq_some_iff.1 hm).1;simpa using this
       rw [List.getElem?_range hi] at hm
       simp only [Option.some.injEq] at hm
       subst hm
       exact (hg i hi).2 x hx) hds
      refine ⟨_,_,rfl,by simpa [Instr.loadAt,Instr.sureAddr] using hrun,?_⟩
      exact Rd.agg _ ds (by simpa using h3) (fun i x d hi hd=>h4 i x d (by simpa using hi) hd)
     ·cases h
    ·cases h
   ·rename_i hagg
    split at h
    ·rename_i x hx
     have hlt:off<cs.length:=by
      rcases Nat.lt_or_ge off cs.length with h|h
      ·exact h
      ·rw [List.drop_eq_nil_of_le h] at hx;simp at hx
     rw [List.head?_drop,List.getElem?_eq_getElem hlt,Option.some.injEq] at hx
     subst hx
     obtain ⟨x,h1,h2⟩:=hv.at off hlt
     have hrun:=yC (P:=P) hagg h1
     exact ⟨_,x,rfl,by simpa [Instr.loadAt,Instr.sureAddr] using hrun,(zGO hvars h2 h).1⟩
    ·cases h
   ·cases h
  ·cases h
 ·cases h
def zKp (tmps:Array Value):ResultVar→Sem Value
 | .tmp t=>pure (tmps.getD t undef)
 | .cell x t=>do loadVar t (←asAddr (tmps.getD x undef))
theorem zIV (fn:Func) (tmps:Array Value):results fn tmps=(do
  let vs←fn.results.mapM (zKp tmps)
  pure (if h:vs.size=1 then vs[0] else .tuple vs)):=by
 unfold results
 congr 1
theorem zQW (hvars: ∀s cs,e.var s=some cs→al (.v s)→z7 w F β al (β.vb s) cs) (ht: ∀t,zE w F β al (a.tmps.getD t undef) (e.get t)) {r:ResultVar} {d:V}
  (h:resV P e r=some d): ∃u,(zKp a.tmps r).run P w= .ok u w∧Rd w (Fal F β al) u d:=by
 cases r with
 |tmp t=>exact ⟨_,rfl,(zGO hvars (ht t) h).1⟩
 |cell t ty=>
  obtain ⟨ad,u,h1,h2,h3⟩:=zMg (P:=P) hvars (ht t) h
  exact ⟨u,by simp only [zKp,Sem.run_bind,h1,asAddr,Sem.run_pure,Result.andThen_ok,h2],h3⟩
theorem zEw (hvars: ∀s cs,e.var s=some cs→al (.v s)→z7 w F β al (β.vb s) cs) (ht: ∀t,zE w F β al (a.tmps.getD t undef) (e.get t)): ∀ (rs:List ResultVar) (ds:List V),
  zCm P e rs=some ds→ ∃us,(rs.mapM (zKp a.tmps)).run P w= .ok us w∧us.length=ds.length∧
   ∀ (i:Nat) (v:Value) (d:V),us[i]? =some v→ds[i]? =some d→Rd w (Fal F β al) v d:=by
 intro rs
 induction rs with
 |nil=>intro ds h;simp [zCm] at h;subst h;exact ⟨[],rfl,rfl,fun i v d h=>by simp at h⟩
 |cons r rs ih=>
  intro ds h
  simp only [zCm] at h
  split at h
  ·rename_i d ds' hd hds
   simp only [Option.some.injEq] at h
   subst h
   obtain ⟨u,h1,h2⟩:=zQW (P:=P) hvars ht hd
   obtain ⟨us,h3,h4,h5⟩:=ih ds' hds
   refine ⟨u::us,?_,by simpa using h4,?_⟩
   ·rw [List.mapM_cons]
    simp only [Sem.run_bind,h1,Result.andThen_ok,h3,Sem.run_pure]
   ·intro i v y hv hy
    cases i with
    |zero=>simp at hv hy;subst hv hy;exact h2
    |succ i=>exact h5 i v y (by simpa using hv) (by simpa using hy)
  ·cases h
theorem zKK {w0:World} {F0:Blk→Prop} {O0:kC} (hnl:O0.l=none) (hi:Inv Γ G w0 F0 O0 a w e) {fn:Func} {r:RV} (h:zFb P e fn=some r):
  ∃ (v:Value) (F':Blk→Prop) (O':Nat→Prop),(results fn a.tmps).run P w= .ok v w∧Γ.R e.st F' O' w∧zBx O0.o w0 w∧(∀b,O' b→O0.o b∨w0.heap.size≤b)∧(∀b,F0 b→F' b)∧
   (∀b:Nat,F' b→(F0 b∨w0.heap.size≤b)∧b<w.heap.size∧ ¬O' b)∧uX w0.heap.size w F' O' v r:=by
 obtain ⟨F,O,β,hc,hG,hsz,hdf,ht,hv⟩:=hi
 have hkeep:zBx O0.o w0 w:=⟨hc.keep.os,hc.keep.tape,hc.keep.output,hc.keep.size,fun b hb ho=>hc.keep.block b hb (fun h=>h.elim ho (fun ⟨n,h⟩=>by rw [hnl] at h;cases h)),hc.keep.drawn⟩
 have hhome: ∀x b,Home w0 O0 x b→w0.heap.size≤b:=fun x b h=>h.elim (fun h=>h.2) (fun ⟨_,n,h⟩=>by rw [hnl] at h;cases h)
 have hvars: ∀s cs,e.var s=some cs→alive e (.v s)→z7 w F β (alive e) (β.vb s) cs:=fun s cs hcs _=>hv s cs hcs
 have hFal: ∀b:Nat,Fal F β (alive e) b→(F0 b∨w0.heap.size≤b)∧b<w.heap.size∧ ¬O b:=by
  rintro b (hb|⟨x,hx,hxb⟩)
  ·exact hc.fin b hb
  ·have hxb:=kA hxb
   subst hxb
   obtain ⟨h1,h2,h3,h4⟩:=hc.place x hx
   exact ⟨.inr (hhome _ _ h1),h2,h4⟩
 have hsigF:Γ.R e.st (Fal F β (alive e)) O w:=Γ.mono hc.sig (fun _ _ _ _=>⟨fun h=>h.elim (fun h=>h) (fun ⟨_,_,h⟩=>by cases h), .inl⟩) (fun _ _=>rfl)
 have hrun: ∀us,(fn.results.toList.mapM (zKp a.tmps)).run P w= .ok us w→
   (results fn a.tmps).run P w= .ok (if h:us.length=1 then us[0] else .tuple us.toArray) w:=by
  intro us hus
  rw [zIV,Array.mapM_eq_mapM_toList]
  simp only [Sem.run_bind,Sem.run_map,hus,Result.andThen_ok,Sem.run_pure]
  rfl
 have hfin: ∀ (v:Value) (d:V),(results fn a.tmps).run P w= .ok v w→Rd w (Fal F β (alive e)) v d→
   ∃ (v:Value) (F':Blk→Prop) (O':Nat→Prop),(results fn a.tmps).run P w= .ok v w∧Γ.R e.st F' O' w∧zBx O0.o w0 w∧(∀b,O' b→O0.o b∨w0.heap.size≤b)∧(∀b,F0 b→F' b)∧
   (∀b:Nat,F' b→(F0 b∨w0.heap.size≤b)∧b<w.heap.size∧ ¬O' b)∧uX w0.heap.size w F' O' v (.p d):=
  fun v d h1 h2=>⟨v,Fal F β (alive e),O,h1,hsigF,hkeep,hc.oin,fun b hb=> .inl (hc.f0 b hb),hFal,h2⟩
 have hone: ∀r0,fn.results.toList=[r0]→ ∀d,resV P e r0=some d→ ∃v,(results fn a.tmps).run P w= .ok v w∧Rd w (Fal F β (alive e)) v d:=by
  intro r0 hr d hd
  obtain ⟨us,h1,h2,h3⟩:=zEw (P:=P) hvars ht [r0] [d] (by simp [zCm,hd])
  cases us with
  |nil=>simp at h2
  |cons u us=>
   cases us with
   |cons _ _=>simp at h2
   |nil=>
    have:=hrun [u] (by rw [hr];exact h1)
    exact ⟨u,by simpa using this,h3 0 u d rfl rfl⟩
 unfold zFb at h
 split at h
 ·rename_i t hres
  have hrun1:(results fn a.tmps).run P w= .ok (a.tmps.getD t undef) w:=by
   have:=hrun [a.tmps.getD t undef] (by rw [hres];rfl)
   simpa using this
  have hT:=ht t
  split at h
  ·rename_i hx
   simp only [Option.some.injEq] at h;subst h
   rw [hx] at hT
   obtain ⟨a0,ha0⟩:=hT
   exact ⟨_,Fal F β (alive e),O,hrun1,hsigF,hkeep,hc.oin,fun b hb=> .inl (hc.f0 b hb),hFal, .inl ⟨rfl,a0,ha0⟩⟩
  ·rename_i id k hx
   simp only [Option.some.injEq] at h;subst h
   rw [hx] at hT
   obtain ⟨ha,cap,hvv,hrow⟩:=hT
   exact hfin _ _ hrun1 (by rw [hvv];exact .slemp _ _)
  ·rename_i id k x es hx
   simp only [Option.some.injEq] at h;subst h
   rw [hx] at hT
   obtain ⟨ha,cap,hvv,hrow⟩:=hT
   obtain ⟨p1,p2,p3,p4⟩:=hc.place (.o id) ha
   refine ⟨_,F,O,hrun1,hc.sig,hkeep,hc.oin,hc.f0,hc.fin, .inr ⟨by simp,β.ob id,cap,hvv,hhome _ _ p1,p2,p3,p4,k,hrow⟩⟩
  ·rename_i id t xs hx
   simp only [Option.some.injEq] at h;subst h
   rw [hx] at hT
   rcases hT with ⟨h0,a0,hv0⟩|⟨hne,ha,cap,hvv,hrow⟩
   ·exact ⟨_,F,O,hrun1,hc.sig,hkeep,hc.oin,hc.f0,hc.fin, .inl ⟨h0,a0,hv0⟩⟩
   ·obtain ⟨p1,p2,p3,p4⟩:=hc.place (.o id) ha
    exact ⟨_,F,O,hrun1,hc.sig,hkeep,hc.oin,hc.f0,hc.fin, .inr ⟨hne,β.ob id,cap,hvv,hhome _ _ p1,p2,p3,p4,t.size,hrow⟩⟩
  ·simp only [Option.map_eq_some_iff] at h
   obtain ⟨d,hd,rfl⟩:=h
   obtain ⟨v,h1,h2⟩:=hone _ hres d hd
   exact hfin v d h1 h2
 ·rename_i r0 _ hres
  simp only [Option.map_eq_some_iff] at h
  obtain ⟨d,hd,rfl⟩:=h
  obtain ⟨v,h1,h2⟩:=hone _ hres d hd
  exact hfin v d h1 h2
 ·rename_i hn1 hn2
  simp only [Option.map_eq_some_iff] at h
  obtain ⟨ds,hds,rfl⟩:=h
  obtain ⟨us,h1,h2,h3⟩:=zEw (P:=P) hvars ht _ ds hds
  have hrun2:=hrun us h1
  have hne:us.length≠1:=by
   intro hl
   have hlen: ∀ (l:List ResultVar) (ds:List V),zCm P e l=some ds→ds.length=l.length:=by
    intro l
    induction l with
    |nil=>intro ds h;simp [zCm] at h;subst h;rfl
    |cons r l ih=>
     intro ds h
     simp only [zCm] at h
     split at h
     ·rename_i d ds' hd hds
      simp only [Option.some.injEq] at h;subst h
      simp [ih ds' hds]
     ·cases h
   have:=hlen _ ds hds
   match hl':fn.results.toList with
   |[]=>rw [hl'] at this;simp only [List.length_nil] at this;omega
   |[r0]=>exact hn2 r0 hl'
   |_::_::_=>rw [hl'] at this;simp only [List.length_cons] at this;omega
  rw [dif_neg hne] at hrun2
  exact hfin _ _ hrun2 (.tup _ ds (by simpa using h2) (fun i x d hi hd=>h3 i x d (by simpa using hi) hd))
end
end Go.Ve

namespace Go.Ve
open Go
section
variable {Γ:Sig} (P:qK) (G:Nat→Option (List V)) (S:qZ Γ)
variable {P G S}
variable (P G S)
def zKC:List V→Bool
 | .bot::_=>true
 |_=>false
end
section
variable {Γ:Sig} {P:Program} {G:Nat→Option (List V)} {S:qZ Γ}
theorem kP.nothing {f:FuncId} :kP Γ P G f (fun _ _=>none):=by
 intro w F O s args ds s' r _ _ _ _ _ h;cases h
def zOT (Γ:Sig):qZ Γ:=fun _ _ _=>none
theorem zNo:zZ Γ P G (zOT Γ):=
 ⟨fun _=> .nothing,(fun f s ds r h=>by cases h),(fun _ st q t ys bytes st' d h=>by cases h),(fun f st t xs ds st' ys d h=>by cases h)⟩
end
end Go.Ve
