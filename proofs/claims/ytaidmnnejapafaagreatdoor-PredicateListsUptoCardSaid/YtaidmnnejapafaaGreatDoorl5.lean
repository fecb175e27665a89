/-
  The evaluator over pure values, part 11: a region that draws its order, evaluated in the order of the text: what is known of each operation at the end.
  The evaluator over pure values, part 12: a region that draws its order, in whatever order.
  The evaluator over pure values, part 13: regions, statements, functions.
  The evaluator over pure values, part 17: operations that write what the frame itself has made; what stays from now on.
  The evaluator over pure values, part 18: append in the machine.
  The evaluator over pure values, part 19: append on a slice of the frame's own; stores into it; what stays from now on.
  The evaluator over pure values, part 24: states that know less; typed slices that are appended to.
-/
import Derived.Test.YtaidmnnejapafaaGreatDoorl4
set_option linter.unusedVariables false
namespace Go.Ve
open Go
section
variable {St:Type} (P:qK) (G:Nat→Option (List V)) (S:FuncId→St→List V→Option (St×RV)) (ops:Array Oper)
def qO (e:Env St) (o:Oper):Option Bool:=
 match o.guard with
 |none=>some true
 |some (j,want)=>match (ops[j]?).bind (·.dst) with
  |none=>some false
  |some t=>match e.get t with
   | .p (.val (.bool b))=>if t<e.tm.length then some (b==want) else none
   | .p (.val (.tuple _))=>some false
   |_=>none
def zK (l:List Oper):List Nat:=l.filterMap (·.dst)
def zI3 (pend:List Nat) (e:Env St) (o:Oper):Bool:=
 o.op.operands.toList.all fun x=>match evx G e x with
  | .lp s _=> !pend.contains s
  |_=>true
def zHI (e:Env St) (dst:Option Tmp) (r:R St):Option (Env St):=
 match dst with
 |some d=>if d<e.vars.length∧d≠qA then some (e.setR d r) else none
 |none=>match r with
  | .ret _=>some e
  | .call st _ (.p _)=>some { e with st:=st }
  |_=>none
def zAi:List Oper→Env St→Option (Env St)
 |[],e=>some e
 |o::rest,e=>match qO ops e o with
  |some true=>if zI3 G (zK (o::rest)) e o then
    match evQ P G S e o with
    |some r=>match zHI e o.dst r with
     |some e1=>zAi rest e1
     |none=>none
    |none=>none
   else none
  |some false=>zAi rest (e.put o.dst (.p (.val undef)))
  |none=>none
def zBv (e:Env St) (st:St) (o:Oper) (st':St):Prop:=
 (qO ops e o=some true∧ ∃r,evQ P G S { e with st:=st } o=some r∧st'=zHP st r∧(r.needs=true→ ∃d,o.dst=some d∧d≠qA)∧
  ∀d,o.dst=some d→(d<e.tm.length→e.get d=zJ0 d r)∧(∀cs,r= .var cs→e.var d=some cs)∧((∀cs,r≠ .var cs)→e.var d=none))∨
 (qO ops e o=some false∧st'=st∧ ∀d,o.dst=some d→(d<e.tm.length→e.get d= .p (.val undef))∧e.var d=none)
variable {P G S ops}
def zSd:List Oper→Prop
 |[]=>True
 |o::rest=>(∀t,t∈o.looksAt ops→t ∉ zK (o::rest))∧(∀d,o.dst=some d→d ∉ zK rest)∧zSd rest
theorem zAk {e e':Env St} {o:Oper} (h: ∀t,t∈o.looksAt ops→e'.get t=e.get t) (hl:e'.tm.length=e.tm.length):qO ops e' o=qO ops e o:=by
 unfold qO
 cases hg:o.guard with
 |none=>rfl
 |some gw=>
  obtain ⟨j,want⟩:=gw
  simp only
  cases hd:(ops[j]?).bind (·.dst) with
  |none=>rfl
  |some t=>
   simp only
   rw [h t (by simp [Oper.looksAt,hg,hd]),hl]
theorem zPV {e e':Env St} {o:Oper} (h: ∀t,t∈o.looksAt ops→e'.get t=e.get t) (x:Operand) (hx:x∈o.op.operands):evx G e' x=evx G e x:=by
 cases x with
 |tmp t=>exact h t (List.mem_append_left _ (List.mem_filterMap.2 ⟨.tmp t,by simpa using hx,rfl⟩))
 |_=>rfl
theorem zNR (e:Env St) (d:Option Tmp) (x:T) (t:Nat) (h:d≠some t):(e.put d x).get t=e.get t:=by
 cases d with
 |none=>rfl
 |some d=>
  have hne:t≠d:=fun hh=>h (by rw [hh])
  simp only [Env.put]
  rw [vA]
  simp [hne]
theorem zMc (e:Env St) (d t:Nat) (r:R St) (h:t≠d):(e.setR d r).get t=e.get t:=by
 have:(e.setR d r).get t=({ e with tm:=e.tm.set d (zJ0 d r) } :Env St).get t:=by
  cases r<;>rfl
 rw [this,vA];simp [h]
theorem zMd (e:Env St) (d:Nat) (r:R St) (h:d<e.tm.length):(e.setR d r).get d=zJ0 d r:=by
 have:(e.setR d r).get d=({ e with tm:=e.tm.set d (zJ0 d r) } :Env St).get d:=by
  cases r<;>rfl
 rw [this,vA];simp [h]
theorem zQM (e:Env St) (d:Nat) (r:R St):(e.setR d r).tm.length=e.tm.length:=by
 cases r<;>simp [Env.setR]
theorem zHb (e:Env St) (d:Nat) (r:R St) (hd:d<e.vars.length) (s:Nat):(e.setR d r).var s=match r with
  | .var cs=>if s=d then some cs else e.var s
  |_=>e.var s:=by
 cases r with
 |var cs=>
  simp only [Env.setR,Env.var]
  by_cases h:s=d
  ·subst h;simp [hd]
  ·simp [h,List.getElem?_set_ne (Ne.symm h)]
 |_=>rfl
theorem zQL (e:Env St) (d:Nat) (r:R St):(e.setR d r).st=zHP e.st r:=by
 cases r<;>rfl
theorem zDd: ∀ (l:List Oper) (e e':Env St),zAi P G S ops l e=some e'→zSd (ops:=ops) l→(∀d,d∈zK l→e.var d=none)→
  ∃sts:Nat→St,sts 0=e.st∧sts l.length=e'.st∧(∀ (i:Nat) (o:Oper),l[i]? =some o→zBv P G S ops e' (sts i) o (sts (i+1)))∧
   (∀t,t ∉ zK l→e'.get t=e.get t)∧(∀s,s ∉ zK l→e'.var s=e.var s)∧e'.tm.length=e.tm.length:=by
 intro l
 induction l with
 |nil=>
  intro e e' h _ _
  simp only [zAi,Option.some.injEq] at h
  subst h
  exact ⟨fun _=>e.st,rfl,rfl,fun i o ho=>by simp at ho,fun _ _=>rfl,fun _ _=>rfl,rfl⟩
 |cons o rest ih=>
  intro e e' h hah hnone
  obtain ⟨hlook,hdst,hah'⟩:=hah
  have hdn: ∀d,o.dst=some d→e.var d=none:=fun d hd=>hnone d (by simp [zK,hd])
  simp only [zAi] at h
  have key: ∀ (e1:Env St) (st1:St),e1.st=st1→zAi P G S ops rest e1=some e'→e1.tm.length=e.tm.length→
    (∀t,o.dst≠some t→e1.get t=e.get t)→(∀s,o.dst≠some s→e1.var s=e.var s)→
    (∀e2:Env St,(∀t,t∈o.looksAt ops→e2.get t=e.get t)→e2.tm.length=e.tm.length→(∀s,s ∉ zK (o::rest)→e2.var s=e.var s)→
     (∀d,o.dst=some d→e2.get d=e1.get d)→(∀d,o.dst=some d→e2.var d=e1.var d)→zBv P G S ops e2 e.st o st1)→
    ∃sts:Nat→St,sts 0=e.st∧sts (o::rest).length=e'.st∧(∀ (i:Nat) (o':Oper),(o::rest)[i]? =some o'→zBv P G S ops e' (sts i) o' (sts (i+1)))∧
     (∀t,t ∉ zK (o::rest)→e'.get t=e.get t)∧(∀s,s ∉ zK (o::rest)→e'.var s=e.var s)∧e'.tm.length=e.tm.length:=by
   intro e1 st1 hst1 hgo hlen hget hvar hstep
   have hsub: ∀t,t ∉ zK (o::rest)→t ∉ zK rest∧o.dst≠some t:=by
    intro t ht
    simp only [zK,List.filterMap_cons] at ht
    cases hd:o.dst with
    |none=>simp only [hd] at ht;exact ⟨ht,by simp⟩
    |some d=>
     simp only [hd,List.mem_cons,not_or] at ht
     exact ⟨ht.2,fun hh=>ht.1 (by simpa using hh.symm)⟩
   have hmem: ∀t,t∈zK rest→t∈zK (o::rest):=by
    intro t ht
    simp only [zK,List.filterMap_cons]
    cases hd:o.dst with
    |none=>exact ht
    |some d=>exact List.mem_cons_of_mem _ ht
   obtain ⟨sts,h0,hn,hsteps,hg,hv,hl⟩:=ih e1 e' hgo hah' (fun d hd=>by
    have hne:o.dst≠some d:=fun hh=>hdst d hh hd
    rw [hvar d hne];exact hnone d (hmem d hd))
   refine ⟨fun i=>match i with|0=>e.st|i+1=>sts i,rfl,hn,?_,?_,?_,by omega⟩
   ·intro i o' ho'
    cases i with
    |zero=>
     simp only [List.getElem?_cons_zero,Option.some.injEq] at ho'
     subst ho'
     simp only
     rw [h0,hst1]
     refine hstep e' ?_ (by omega) ?_ ?_ ?_
     ·intro t ht
      obtain ⟨h1,h2⟩:=hsub t (hlook t ht)
      rw [hg t h1,hget t h2]
     ·intro s hs
      obtain ⟨h1,h2⟩:=hsub s hs
      rw [hv s h1,hvar s h2]
     ·intro d hd;exact hg d (hdst d hd)
     ·intro d hd;exact hv d (hdst d hd)
    |succ i=>exact hsteps i o' (by simpa using ho')
   ·intro t ht
    obtain ⟨h1,h2⟩:=hsub t ht
    rw [hg t h1,hget t h2]
   ·intro s hs
    obtain ⟨h1,h2⟩:=hsub s hs
    rw [hv s h1,hvar s h2]
  split at h
  ·rename_i hw
   split at h
   ·rename_i hpend
    split at h
    ·rename_i r hr
     split at h
     ·rename_i e1 he1
      have hcong: ∀e2:Env St,(∀t,t∈o.looksAt ops→e2.get t=e.get t)→(∀s,s ∉ zK (o::rest)→e2.var s=e.var s)→evQ P G S { e2 with st:=e.st } o=some r:=by
       intro e2 h1 h2
       rw [←hr]
       symm
       refine zHy (e:=e) (e':= { e2 with st:=e.st }) ?_ ?_ rfl
       ·intro x hx;exact (zPV (G:=G) (e:=e) (e':= { e2 with st:=e.st }) h1 x hx).symm
       ·intro x hx s off hs
        have h3:=List.all_eq_true.1 hpend x (by simpa using hx)
        rw [hs] at h3
        have h4:s ∉ zK (o::rest):=by simpa using h3
        exact (h2 s h4).symm
      unfold zHI at he1
      split at he1
      ·rename_i d hd
       split at he1
       ·rename_i hdl0
        obtain ⟨hdl,hdL⟩:=hdl0
        simp only [Option.some.injEq] at he1
        subst he1
        refine key _ (zHP e.st r) (zQL e d r) h (zQM e d r) ?_ ?_ ?_
        ·intro t ht;exact zMc e d t r (fun hh=>ht (by rw [hd,hh]))
        ·intro s hs
         have hne:s≠d:=fun hh=>hs (by rw [hd,hh])
         rw [zHb e d r hdl]
         cases r<;>simp [hne]
        ·intro e2 h1 h2 h3 h4 h5
         refine .inl ⟨by rw [zAk h1 h2];exact hw,r,hcong e2 h1 h3,rfl,fun _=>⟨d,hd,hdL⟩,?_⟩
         intro d' hd'
         rw [hd] at hd'
         simp only [Option.some.injEq] at hd'
         subst hd'
         refine ⟨fun hlt=> ?_,?_,?_⟩
         ·rw [h4 d hd];exact zMd e d r (h2▸hlt)
         ·intro cs hcs
          rw [h5 d hd,zHb e d r hdl,hcs];simp
         ·intro hcs
          rw [h5 d hd,zHb e d r hdl]
          cases r with
          |var cs=>exact absurd rfl (hcs cs)
          |_=>exact hdn d hd
       ·cases he1
      ·rename_i hd
       split at he1
       ·simp only [Option.some.injEq] at he1
        subst he1
        refine key _ e.st rfl h rfl (fun _ _=>rfl) (fun _ _=>rfl) ?_
        intro e2 h1 h2 h3 h4 h5
        exact .inl ⟨by rw [zAk h1 h2];exact hw,_,hcong e2 h1 h3,rfl,fun hh=>by simp [R.needs] at hh,fun d hh=>by rw [hd] at hh;cases hh⟩
       ·simp only [Option.some.injEq] at he1
        subst he1
        refine key _ _ rfl h rfl (fun _ _=>rfl) (fun _ _=>rfl) ?_
        intro e2 h1 h2 h3 h4 h5
        exact .inl ⟨by rw [zAk h1 h2];exact hw,_,hcong e2 h1 h3,rfl,fun hh=>by simp [R.needs] at hh,fun d hh=>by rw [hd] at hh;cases hh⟩
       ·cases he1
     ·cases h
    ·cases h
   ·cases h
  ·rename_i hw
   refine key _ e.st ?_ h ?_ (fun t ht=>zNR e o.dst _ t ht) ?_ ?_
   ·cases o.dst<;>rfl
   ·cases o.dst<;>simp [Env.put]
   ·intro s _;cases o.dst<;>rfl
   ·intro e2 h1 h2 h3 h4 h5
    refine .inr ⟨by rw [zAk h1 h2];exact hw,rfl,?_⟩
    intro d hd
    refine ⟨fun hlt=> ?_,?_⟩
    ·rw [h4 d hd]
     simp only [Env.put,hd]
     rw [vA]
     rw [if_pos ⟨rfl,h2▸hlt⟩]
    ·rw [h5 d hd]
     have:(e.put o.dst (.p (.val undef))).var d=e.var d:=by cases o.dst<;>rfl
     rw [this];exact hdn d hd
  ·cases h
end
end Go.Ve

namespace Go.Ve
open Go
def zEO (ops:Array Oper) (anc:Array Nat) (i:Nat) (o:Oper):Bool:=
 o.after.all (fun e=> !Region.binds .any e||decide (e.on<i))&&
 (o.looksAt ops).all (fun t=>(List.range ops.size).all fun j=>match ops[j]? with
  |some oj=> !(oj.dst==some t)||o.after.any (fun e=>Region.binds .any e&&e.on==j)
  |none=>true)&&
 (List.range i).all (fun j=>match ops[j]? with
  |some oj=> !(oj.dst.isSome&&oj.dst==o.dst)&&(!(isCall oj&&isCall o)||(anc.getD i 0).testBit j)
  |none=>true)&&
 (!isCall o||(List.range i).all fun j=> !(anc.getD i 0).testBit j||o.after.any (fun e=>Region.binds .any e&&(e.on==j||(anc.getD e.on 0).testBit j)))
def zR4 (ops:Array Oper) (anc:Array Nat):Bool:=
 (List.range ops.size).all fun i=>match ops[i]? with
  |some o=>(List.range i).all fun j=> !(anc.getD i 0).testBit j||o.after.any (fun e=>Region.binds .any e&&decide (e.on<i)&&(e.on==j||(decide (j<e.on)&&(anc.getD e.on 0).testBit j)))
  |none=>true
def zJD (ops:Array Oper):Bool:=
 let anc:=if (ops.toList.filter isCall).length≤1 then #[] else Region.before ops
 zR4 ops anc&&(List.range ops.size).all fun i=>match ops[i]? with
  |some o=>zEO ops anc i o
  |none=>true
section
variable {ops:Array Oper}
structure zJR (ops:Array Oper):Prop where
 edge: ∀ (i:Nat) (o:Oper) (e:Edge),ops[i]? =some o→e∈o.after→Region.binds .any e=true→e.on<i
 look: ∀ (i:Nat) (o:Oper) (t j:Nat) (oj:Oper),ops[i]? =some o→t∈o.looksAt ops→ops[j]? =some oj→oj.dst=some t→ ∃e,e∈o.after∧Region.binds .any e=true∧e.on=j
 dist: ∀ (i j:Nat) (o oj:Oper) (d:Nat),ops[i]? =some o→ops[j]? =some oj→o.dst=some d→oj.dst=some d→i=j
 call: ∀ (listed:Nat→Prop),(∀ (i:Nat) (o:Oper) (e:Edge),ops[i]? =some o→listed i→e∈o.after→Region.binds .any e=true→listed e.on)→
  ∀ (i j:Nat) (o oj:Oper),ops[i]? =some o→ops[j]? =some oj→isCall o=true→isCall oj=true→j<i→listed i→listed j
theorem zKi (h:zJD ops=true):zJR ops:=by
 unfold zJD at h
 simp only [Bool.and_eq_true] at h
 obtain ⟨hanc,hall⟩:=h
 generalize (if (ops.toList.filter isCall).length≤1 then #[] else Region.before ops)=anc at hanc hall
 have hone: ∀i o,ops[i]? =some o→zEO ops anc i o=true:=by
  intro i o ho
  have hlt:i<ops.size:=(Array.getElem?_eq_some_iff.1 ho).1
  have:=List.all_eq_true.1 hall i (List.mem_range.2 hlt)
  simpa [ho] using this
 have hcl: ∀ (listed:Nat→Prop),(∀ (i:Nat) (o:Oper) (e:Edge),ops[i]? =some o→listed i→e∈o.after→Region.binds .any e=true→listed e.on)→
   ∀ (i:Nat) (o:Oper) (j:Nat),ops[i]? =some o→j<i→(anc.getD i 0).testBit j=true→listed i→listed j:=by
  intro listed hdown i
  induction i using Nat.strongRecOn with
  |_ i ih=>
   intro o j ho hji hbit hi
   have hlt:i<ops.size:=(Array.getElem?_eq_some_iff.1 ho).1
   have h1:=List.all_eq_true.1 hanc i (List.mem_range.2 hlt)
   simp only [ho] at h1
   have h2:=List.all_eq_true.1 h1 j (List.mem_range.2 hji)
   simp only [hbit,Bool.not_true,Bool.false_or,Array.any_eq_true',Bool.and_eq_true,Bool.or_eq_true,decide_eq_true_eq,beq_iff_eq] at h2
   obtain ⟨e,he,⟨hb,hon⟩,hj⟩:=h2
   have hle:=hdown i o e ho hi he hb
   rcases hj with rfl|⟨hjlt,hbit'⟩
   ·exact hle
   ·have hlt':e.on<ops.size:=by omega
    exact ih e.on hon ops[e.on] j (by simp [hlt']) hjlt hbit' hle
 refine ⟨?_,?_,?_,?_⟩
 ·intro i o e ho he hb
  have h1:=hone i o ho
  simp only [zEO,Bool.and_eq_true] at h1
  have h2:=Array.all_eq_true_iff_forall_mem.1 h1.1.1.1 e he
  simpa [hb] using h2
 ·intro i o t j oj ho ht hj hd
  have h1:=hone i o ho
  simp only [zEO,Bool.and_eq_true] at h1
  have h2:=List.all_eq_true.1 h1.1.1.2 t ht
  have hlt:j<ops.size:=(Array.getElem?_eq_some_iff.1 hj).1
  have h3:=List.all_eq_true.1 h2 j (List.mem_range.2 hlt)
  simp only [hj,hd,BEq.rfl,Bool.not_true,Bool.false_or,Array.any_eq_true',Bool.and_eq_true,beq_iff_eq] at h3
  obtain ⟨e,he,hb,hon⟩:=h3
  exact ⟨e,he,hb,hon⟩
 ·have hlt: ∀ (i j:Nat) (o oj:Oper) (d:Nat),ops[i]? =some o→ops[j]? =some oj→o.dst=some d→oj.dst=some d→j<i→False:=by
   intro i j o oj d ho hj hd hd' hji
   have h1:=hone i o ho
   simp only [zEO,Bool.and_eq_true] at h1
   have h2:=List.all_eq_true.1 h1.1.2 j (List.mem_range.2 hji)
   simp [hj,hd,hd'] at h2
  intro i j o oj d ho hj hd hd'
  rcases Nat.lt_trichotomy i j with h|h|h
  ·exact (hlt j i oj o d hj ho hd' hd h).elim
  ·exact h
  ·exact (hlt i j o oj d ho hj hd hd' h).elim
 ·intro listed hdown i j o oj ho hj hci hcj hji hi
  have h1:=hone i o ho
  simp only [zEO,Bool.and_eq_true] at h1
  have h2:=List.all_eq_true.1 h1.1.2 j (List.mem_range.2 hji)
  simp only [hj,hci,hcj,Bool.and_true,Bool.not_true,Bool.false_or,Bool.and_eq_true] at h2
  exact hcl listed hdown i o j ho hji h2.2 hi
theorem zJM (hs:zJR ops): ∀ (n:Nat) (l:List Oper),ops.toList.drop n=l→zSd (ops:=ops) l:=by
 intro n l
 induction l generalizing n with
 |nil=>intro _;trivial
 |cons o rest ih=>
  intro hl
  have hat: ∀i,ops[n+i]? =(o::rest)[i]? :=by
   intro i
   rw [←hl,List.getElem?_drop,Array.getElem?_toList]
  have ho:ops[n]? =some o:=by have:=hat 0;simpa using this
  have hmem: ∀t,t∈zK (o::rest)→ ∃i oj,ops[n+i]? =some oj∧oj.dst=some t:=by
   intro t ht
   simp only [zK,List.mem_filterMap] at ht
   obtain ⟨oj,hm,hd⟩:=ht
   obtain ⟨i,hi,rfl⟩:=List.getElem_of_mem hm
   exact ⟨i,_,by rw [hat i,List.getElem?_eq_getElem hi],hd⟩
  refine ⟨?_,?_,ih (n+1) ?_⟩
  ·intro t ht hin
   obtain ⟨i,oj,hj,hd⟩:=hmem t hin
   obtain ⟨e,he,hb,hon⟩:=hs.look n o t (n+i) oj ho ht hj hd
   have:=hs.edge n o e ho he hb
   omega
  ·intro d hd hin
   simp only [zK,List.mem_filterMap] at hin
   obtain ⟨oj,hm,hd'⟩:=hin
   obtain ⟨i,hi,rfl⟩:=List.getElem_of_mem hm
   have hj:ops[n+(i+1)]? =some rest[i]:=by rw [hat (i+1)];simp [hi]
   have:=hs.dist n (n+(i+1)) o _ d ho hj hd hd'
   omega
  ·rw [←List.tail_drop,hl];rfl
end
section
variable {Γ:Sig} {P:Program} {G:Nat→Option (List V)} {S:qZ Γ} {w0:World} {F0:Blk→Prop} {O0:kC} {ops:Array Oper} {e':Env Γ.St} {sts:Nat→Γ.St}
def zFg (ops:Array Oper) (listed:Array Bool) (t:Nat):Prop:= ∀ (i:Nat) (o:Oper),ops[i]? =some o→listed.getD i true=false→o.dst≠some t
structure zQj (Γ:Sig) (G:Nat→Option (List V)) (w0:World) (F0:Blk→Prop) (O0:kC) (ops:Array Oper) (e':Env Γ.St) (sts:Nat→Γ.St) (listed:Array Bool) (a:Act) (w:World)
  (F:Blk→Prop) (O:Nat→Prop) (β:Lay) (al:Site→Prop) (m:Nat):Prop where
 core:Core Γ w0 F0 O0 w F O β al (sts m)
 g:zBH G w F
 size:a.tmps.size=e'.tm.length
 defers:a.defers=[]
 tm: ∀t,zFg ops listed t→zE w F β al (a.tmps.getD t undef) (e'.get t)
 var: ∀s cs,e'.var s=some cs→al (.v s)→z7 w F β al (β.vb s) cs
 lp: ∀s,al (.v s)→ ∃cs,e'.var s=some cs
 vk: ∀s cs,e'.var s=some cs→zFg ops listed s→al (.v s)
 fresh: ∀ (i:Nat) (o:Oper) (d:Nat),ops[i]? =some o→listed.getD i true=false→o.dst=some d→ ¬al (.v d)∧ ¬al (.o d)
 mle:m≤ops.size
 calls: ∀ (i:Nat) (o:Oper),ops[i]? =some o→isCall o=true→(listed.getD i true=true↔i<m)
theorem zEq {w:World} {F:Blk→Prop} {β:Lay} {al:Site→Prop} {a:Act} {o:Oper} {b:Bool} (ht: ∀t,t∈o.looksAt ops→zE w F β al (a.tmps.getD t undef) (e'.get t)) (hsz:a.tmps.size=e'.tm.length)
  (h:qO ops e' o=some b):Region.wanted o (yielded ops a.tmps)=b:=by
 unfold qO at h
 unfold Region.wanted
 cases hg:o.guard with
 |none=>simp [hg] at h;simp [h]
 |some gw=>
  obtain ⟨j,want⟩:=gw
  simp only [hg] at h ⊢
  unfold yielded
  cases hd:(ops[j]?).bind (·.dst) with
  |none=>simp [hd] at h;simp [h]
  |some t=>
   simp only [hd] at h
   have hr:=ht t (by simp [Oper.looksAt,hg,hd])
   split at h
   ·rename_i b0 hb0
    split at h
    ·rename_i hlt
     rw [hb0] at hr
     have hv:=Rd.eq_val hr
     have hlt':t<a.tmps.size:=hsz▸hlt
     have hget:a.tmps[t]? =some (.bool b0):=by
      rw [Array.getElem?_eq_getElem hlt']
      rw [Array.getD_eq_getD_getElem?,Array.getElem?_eq_getElem hlt',Option.getD_some] at hv
      rw [hv]
     simp only [Option.bind_some,hget]
     simp only [Option.some.injEq] at h
     rw [←h];rfl
    ·cases h
   ·rename_i vs hvs
    rw [hvs] at hr
    have hv:=Rd.eq_val hr
    simp only [Option.some.injEq] at h
    subst h
    rw [Array.getD_eq_getD_getElem?] at hv
    simp only [Option.bind_some]
    cases hget:a.tmps[t]? with
    |none=>rfl
    |some u=>rw [hget,Option.getD_some] at hv;rw [hv];rfl
   ·cases h
theorem qB (listed:Array Bool) (i j:Nat) (hi:i<listed.size):(listed.setIfInBounds i true).getD j true=if j=i then true else listed.getD j true:=by
 simp only [Array.getD_eq_getD_getElem?]
 by_cases h:j=i
 ·subst h;simp [hi]
 ·simp [h,Array.getElem?_setIfInBounds_ne (Ne.symm h)]
theorem zBQ {listed:Array Bool} {i:Nat} (hi:i<listed.size):listed.getD i false=listed.getD i true:=by
 simp [Array.getD_eq_getD_getElem?,hi]
theorem zKs (hst:zJR ops) (hS:zZ Γ P G S)
  (hsteps: ∀ (i:Nat) (o:Oper),ops[i]? =some o→zBv P G S ops e' (sts i) o (sts (i+1)))
  {listed:Array Bool} {a:Act} {w:World} {F:Blk→Prop} {O:Nat→Prop} {β:Lay} {al:Site→Prop} {m:Nat} (hp:zQj Γ G w0 F0 O0 ops e' sts listed a w F O β al m)
  (hls:listed.size=ops.size)
  (hdown: ∀ (i:Nat) (o:Oper) (e:Edge),ops[i]? =some o→listed.getD i true=true→e∈o.after→Region.binds .any e=true→listed.getD e.on true=true)
  {i:Nat} {o:Oper} (ho:ops[i]? =some o) (hun:listed.getD i true=false) (hdeps: ∀e,e∈o.after→Region.binds .any e=true→listed.getD e.on true=true)
  {K:Act→World→Prop} {Q:Exit→Act→World→Prop}
  (hK: ∀a' w' F' O' β' al' m',zQj Γ G w0 F0 O0 ops e' sts (listed.setIfInBounds i true) a' w' F' O' β' al' m'→K a' w'):wpOp P ops Q i K a w:=by
 have hin:i<listed.size:=by rw [hls];exact (Array.getElem?_eq_some_iff.1 ho).1
 have hlk: ∀t,t∈o.looksAt ops→zFg ops listed t:=by
  intro t ht j oj hj hjl hd
  obtain ⟨e,he,hb,hon⟩:=hst.look i o t j oj ho ht hj hd
  have:=hdeps e he hb
  rw [hon,hjl] at this;cases this
 have hkn: ∀t,zFg ops (listed.setIfInBounds i true) t→o.dst≠some t→zFg ops listed t:=by
  intro t ht hne j oj hj hjl
  by_cases hji:j=i
  ·subst hji;rw [ho] at hj;cases hj;exact hne
  ·exact ht j oj hj (by rw [qB _ _ _ hin,if_neg hji];exact hjl)
 have hnd: ∀t,o.dst=some t→ ∀j oj,ops[j]? =some oj→(listed.setIfInBounds i true).getD j true=false→oj.dst≠some t:=by
  intro t ht j oj hj hjl hd
  have:=hst.dist i j o oj t ho hj ht hd
  subst this
  rw [qB _ _ _ hin,if_pos rfl] at hjl;cases hjl
 have hrest: ∀j oj d,ops[j]? =some oj→(listed.setIfInBounds i true).getD j true=false→oj.dst=some d→j≠i∧listed.getD j true=false:=by
  intro j oj d hj hjl hd
  by_cases hji:j=i
  ·subst hji;rw [qB _ _ _ hin,if_pos rfl] at hjl;cases hjl
  ·rw [qB _ _ _ hin,if_neg hji] at hjl;exact ⟨hji,hjl⟩
 have hcl: ∀ (isC:Bool),isCall o=isC→ ∃m',(∀j oj,ops[j]? =some oj→isCall oj=true→((listed.setIfInBounds i true).getD j true=true↔j<m'))∧m'≤ops.size∧
   (isC=false→m'=m)∧(isC=true→m'=i+1∧m≤i∧ ∀j oj,m≤j→j<i→ops[j]? =some oj→isCall oj=false):=by
  intro isC hc
  cases isC with
  |false=>
   refine ⟨m,?_,hp.mle,fun _=>rfl,fun h=>by cases h⟩
   intro j oj hj hcj
   have hji:j≠i:=fun hh=>by subst hh;rw [ho] at hj;cases hj;rw [hc] at hcj;cases hcj
   rw [qB _ _ _ hin,if_neg hji];exact hp.calls j oj hj hcj
  |true=>
   have hmi:m≤i:=by
    rcases Nat.lt_or_ge i m with h|h
    ·have:=(hp.calls i o ho hc).2 h;rw [hun] at this;cases this
    ·exact h
   refine ⟨i+1,?_,by have:=(Array.getElem?_eq_some_iff.1 ho).1;omega,(fun h=>by cases h),fun _=>⟨rfl,hmi,?_⟩⟩
   ·intro j oj hj hcj
    rw [qB _ _ _ hin]
    constructor
    ·intro h
     by_cases hji:j=i
     ·omega
     ·rw [if_neg hji] at h
      rcases Nat.lt_or_ge j i with h'|h'
      ·omega
      ·exfalso
       have:=hst.call (fun k=>listed.getD k true=true) hdown j i oj o hj ho hcj hc (by omega) h
       rw [hun] at this;cases this
    ·intro h
     by_cases hji:j=i
     ·rw [if_pos hji]
     ·rw [if_neg hji]
      have h1:=hst.call (fun k=>(listed.setIfInBounds i true).getD k true=true) (by
       intro i' o' e hi' hl' he hb
       rw [qB _ _ _ hin] at hl' ⊢
       split
       ·rfl
       ·by_cases hii:i'=i
        ·subst hii;rw [ho] at hi';cases hi';exact hdeps e he hb
        ·rw [if_neg hii] at hl';exact hdown i' o' e hi' hl' he hb) i j o oj ho hj hc hcj (by omega) (by rw [qB _ _ _ hin,if_pos rfl])
      rw [qB _ _ _ hin,if_neg hji] at h1;exact h1
   ·intro j oj hmj hji hj
    cases hcj:isCall oj with
    |false=>rfl
    |true=>
     exfalso
     have h1:=hst.call (fun k=>(listed.setIfInBounds i true).getD k true=true) (by
       intro i' o' e hi' hl' he hb
       rw [qB _ _ _ hin] at hl' ⊢
       split
       ·rfl
       ·by_cases hii:i'=i
        ·subst hii;rw [ho] at hi';cases hi';exact hdeps e he hb
        ·rw [if_neg hii] at hl';exact hdown i' o' e hi' hl' he hb) i j o oj ho hj hc hcj hji (by rw [qB _ _ _ hin,if_pos rfl])
     rw [qB _ _ _ hin,if_neg (by omega)] at h1
     have:=(hp.calls j oj hj hcj).1 h1
     omega
 unfold wpOp
 simp only [ho]
 rcases hsteps i o ho with ⟨hw,r,hev,hst',hneeds,hdst⟩|⟨hw,hst',hdst⟩
 ·rw [zEq (fun t ht=>hp.tm t (hlk t ht)) hp.size hw,if_pos rfl]
  refine .inl ?_
  have hops: ∀x,x∈o.op.operands→zE w F β al (a.eval x) (evx G ({ e' with st:=sts i } :Env Γ.St) x):=by
   intro x hx
   cases x with
   |tmp t=>exact hp.tm t (hlk t (List.mem_append_left _ (List.mem_filterMap.2 ⟨.tmp t,by simpa using hx,rfl⟩)))
   |const v=>exact zGj w F v
   |global g=>
    simp only [evx,Act.eval]
    split
    ·rename_i cs hg;exact hp.g g cs hg
    ·exact Rd.val _
   |func f=>exact Rd.clo f #[] [] rfl (fun i x d h=>by simp at h)
  have hsim:=zO5 (e:= { e' with st:=sts i }) hS (fun s cs hcs ha=>hp.var s cs hcs ha) hops hev
  have hpl: ∀x,al x→β.blk x<w.heap.size∧ ¬O (β.blk x):=fun x hx=>⟨(hp.core.place x hx).2.1,(hp.core.place x hx).2.2.2⟩
  obtain ⟨m',hcalls',hm',hmf,hmt⟩:=hcl (isCall o) rfl
  have hstm:zAD Γ P S o a w F β al al (sts m) r∧zHP (sts m) r=sts m':=by
   cases hc:isCall o with
   |false=>
    have hrc:=zHx hev hc
    rw [hmf hc]
    refine ⟨?_,xB hrc _⟩
    cases r with
    |call _ _ _=>cases hrc
    |_=>exact hsim
   |true=>
    obtain ⟨h1,h2,h3⟩:=hmt hc
    have heq: ∀k,m+k≤i→sts (m+k)=sts m:=by
     intro k
     induction k with
     |zero=>intro _;rfl
     |succ k ih=>
      intro hk
      have hlt:m+k<ops.size:=by have:=(Array.getElem?_eq_some_iff.1 ho).1;omega
      have hj:ops[m+k]? =some ops[m+k]:=by simp [hlt]
      have hnc:=h3 (m+k) _ (by omega) (by omega) hj
      rw [←ih (by omega)]
      rcases hsteps (m+k) _ hj with ⟨_,r',hev',hst'',_,_⟩|⟨_,hst'',_⟩
      ·rw [←Nat.add_assoc,hst''];exact xB (zHx hev' hnc) _
      ·rw [←Nat.add_assoc,hst'']
    have hii:sts i=sts m:=by have:=heq (i-m) (by omega);rwa [Nat.add_sub_cancel' h2] at this
    rw [←hii,h1,hst']
    exact ⟨hsim,rfl⟩
  refine zGp hS hp.g hp.core hpl hstm.1 (d:=o.dst.getD 0) (fun hn=>by obtain ⟨d,hd,hdL⟩:=hneeds hn;simpa [hd] using hdL) (fun hn=> ?_) ?_
  ·obtain ⟨d,hd,hdL⟩:=hneeds hn
   have:=hp.fresh i o d ho hun hd
   simpa [hd] using this
  ·intro v w' F' O' β' al' haf
   have hst2:=hstm.2
   refine hK _ _ F' O' β' al' m' ⟨by rw [←hst2];exact haf.core,hp.g.ext haf.ext,?_,?_,?_,?_,?_,?_,?_,hm',hcalls'⟩
   ·cases hd:o.dst<;>simp [Act.put,hp.size]
   ·cases hd:o.dst<;>exact hp.defers
   ·intro t ht
    cases hd:o.dst with
    |none=>
     exact (hp.tm t (hkn t ht (by rw [hd];simp))).ext haf.ext
    |some d=>
     rw [uY]
     split
     ·rename_i htd
      obtain ⟨rfl,hlt⟩:=htd
      have:=(hdst t hd).1 (hp.size▸hlt)
      rw [this]
      have hres:=haf.res
      rw [hd] at hres
      exact hres
     ·rename_i htd
      by_cases htd':t=d
      ·have hge: ¬d<a.tmps.size:=fun hh=>htd ⟨htd',hh⟩
       have:e'.get t= .dead:=by
        simp only [Env.get,List.getD_eq_getElem?_getD]
        rw [List.getElem?_eq_none (by rw [←hp.size,htd'];exact Nat.le_of_not_lt hge)];rfl
       rw [this];trivial
      ·exact (hp.tm t (hkn t ht (by rw [hd];simpa using Ne.symm htd'))).ext haf.ext
   ·intro s cs hcs hs
    rcases haf.new (.v s) hs with h|⟨hn,⟨heq,cs',hk⟩|⟨heq,_⟩⟩
    ·have hb:β'.vb s=β.vb s:=haf.ext.b (.v s) h
     rw [hb]
     exact (hp.var s cs hcs h).ext haf.ext (haf.ext.ha (.v s) h)
    ·obtain ⟨d,hd,hdL⟩:=hneeds hn
     simp only [hd,Option.getD_some,Site.v.injEq] at heq
     subst heq
     have h1:=(hdst s hd).2.1 cs' hk
     rw [hcs] at h1
     simp only [Option.some.injEq] at h1
     subst h1
     have:=haf.var cs hk
     simp only [hd,Option.getD_some] at this
     exact this.2
    ·cases heq
   ·intro s hs
    rcases haf.new (.v s) hs with h|⟨hn,⟨heq,cs',hk⟩|⟨heq,_⟩⟩
    ·exact hp.lp s h
    ·obtain ⟨d,hd,hdL⟩:=hneeds hn
     simp only [hd,Option.getD_some,Site.v.injEq] at heq
     subst heq
     exact ⟨cs',(hdst s hd).2.1 cs' hk⟩
    ·cases heq
   ·intro s cs hcs hks
    by_cases hd:o.dst=some s
    ·by_cases hv: ∃cs',r= .var cs'
     ·obtain ⟨cs',hk⟩:=hv
      have:=(haf.var cs' hk).1
      simpa [hd] using this
     ·have:=(hdst s hd).2.2 (fun cs' hk=>hv ⟨cs',hk⟩)
      rw [hcs] at this;cases this
    ·exact haf.ext.a _ (hp.vk s cs hcs (hkn s hks hd))
   ·intro j oj d hj hjl hd
    obtain ⟨hji,hjl'⟩:=hrest j oj d hj hjl hd
    have hf:=hp.fresh j oj d hj hjl' hd
    have hne: ∀d',o.dst=some d'→d'≠d:=fun d' hd' hh=>by
     subst hh;exact hji (hst.dist i j o oj d' ho hj hd' hd).symm
    refine ⟨fun hh=> ?_,fun hh=> ?_⟩
    ·rcases haf.new _ hh with h|⟨hn,⟨heq,_⟩|⟨heq,_⟩⟩
     ·exact hf.1 h
     ·obtain ⟨d',hd',hdL⟩:=hneeds hn
      simp only [hd',Option.getD_some,Site.v.injEq] at heq
      exact hne d' hd' heq.symm
     ·cases heq
    ·rcases haf.new _ hh with h|⟨hn,⟨heq,_⟩|⟨heq,_⟩⟩
     ·exact hf.2 h
     ·cases heq
     ·obtain ⟨d',hd',hdL⟩:=hneeds hn
      simp only [hd',Option.getD_some,Site.o.injEq] at heq
      exact hne d' hd' heq.symm
 ·rw [zEq (fun t ht=>hp.tm t (hlk t ht)) hp.size hw]
  simp only [Bool.false_eq_true,if_false]
  have hm': ∃m',(∀j oj,ops[j]? =some oj→isCall oj=true→((listed.setIfInBounds i true).getD j true=true↔j<m'))∧m'≤ops.size∧sts m'=sts m:=by
   obtain ⟨m',h1,h2,h3,h4⟩:=hcl (isCall o) rfl
   refine ⟨m',h1,h2,?_⟩
   cases hc:isCall o with
   |false=>rw [h3 hc]
   |true=>
    obtain ⟨g1,g2,g3⟩:=h4 hc
    have heq: ∀k,m+k≤i→sts (m+k)=sts m:=by
     intro k
     induction k with
     |zero=>intro _;rfl
     |succ k ih=>
      intro hk
      have hlt:m+k<ops.size:=by have:=(Array.getElem?_eq_some_iff.1 ho).1;omega
      have hj:ops[m+k]? =some ops[m+k]:=by simp [hlt]
      have hnc:=g3 (m+k) _ (by omega) (by omega) hj
      rw [←ih (by omega)]
      rcases hsteps (m+k) _ hj with ⟨_,r',hev',hst'',_,_⟩|⟨_,hst'',_⟩
      ·rw [←Nat.add_assoc,hst''];exact xB (zHx hev' hnc) _
      ·rw [←Nat.add_assoc,hst'']
    have hii:sts i=sts m:=by have:=heq (i-m) (by omega);rwa [Nat.add_sub_cancel' g2] at this
    rw [g1,hst',hii]
  obtain ⟨m',hcalls',hmle',hstm⟩:=hm'
  refine hK _ _ F O β al m' ⟨by rw [hstm];exact hp.core,hp.g,?_,?_,?_,hp.var,hp.lp,?_,?_,hmle',hcalls'⟩
  ·cases hd:o.dst<;>simp [Act.put,hp.size]
  ·cases hd:o.dst<;>exact hp.defers
  ·intro t ht
   cases hd:o.dst with
   |none=>exact hp.tm t (hkn t ht (by rw [hd];simp))
   |some d=>
    rw [uY]
    split
    ·rename_i htd
     obtain ⟨rfl,hlt⟩:=htd
     rw [(hdst t hd).1 (hp.size▸hlt)]
     exact Rd.val _
    ·rename_i htd
     by_cases htd':t=d
     ·have hge: ¬d<a.tmps.size:=fun hh=>htd ⟨htd',hh⟩
      have:e'.get t= .dead:=by
       simp only [Env.get,List.getD_eq_getElem?_getD]
       rw [List.getElem?_eq_none (by rw [←hp.size,htd'];exact Nat.le_of_not_lt hge)];rfl
      rw [this];trivial
     ·exact hp.tm t (hkn t ht (by rw [hd];simpa using Ne.symm htd'))
  ·intro s cs hcs hks
   by_cases hd:o.dst=some s
   ·have:=(hdst s hd).2
    rw [hcs] at this;cases this
   ·exact hp.vk s cs hcs (hkn s hks hd)
  ·intro j oj d hj hjl hd
   obtain ⟨hji,hjl'⟩:=hrest j oj d hj hjl hd
   exact hp.fresh j oj d hj hjl' hd
end
end Go.Ve

namespace Go.Ve
open Go
section
variable {Γ:Sig} {P:Program} {G:Nat→Option (List V)} {S:qZ Γ} {w0:World} {F0:Blk→Prop} {O0:kC} {ops:Array Oper} {a:Act} {w:World} {e e':Env Γ.St} {sts:Nat→Γ.St}
theorem Inv.kill (h:Inv Γ G w0 F0 O0 a w e) (d:Nat):Inv Γ G w0 F0 O0 a w (e.kill d):=by
 obtain ⟨F,O,β,hc,hG,hsz,hdf,ht,hv⟩:=h
 refine Inv.of (al:=alm d (alive e)) (hc.anti (fun x hx=>hx.1)) hG (by simpa [Env.kill] using hsz) hdf (fun t=>by rw [zC3];exact zE.kill (ht t)) ?_ ?_
 ·intro s cs hcs
  rw [vQ] at hcs
  split at hcs
  ·cases hcs
  ·rename_i hne
   simp only [Option.map_eq_some_iff] at hcs
   obtain ⟨cs0,hcs0,rfl⟩:=hcs
   exact ⟨⟨⟨cs0,hcs0⟩,by simpa using hne,by simp⟩,z7.kill (hv s cs0 hcs0)⟩
 ·rintro s ⟨⟨cs,hcs⟩,hne,_⟩
  have hne':s≠d:=by simpa using hne
  exact ⟨_,by rw [vQ,if_neg hne',hcs];rfl⟩
def killAll (ds:List Nat) (e:Env Γ.St):Env Γ.St:=ds.foldl (fun e d=>e.kill d) e
theorem zMD {d:Nat} {x:T} : ¬(zO d x).hasO d:=by
 cases x<;>simp only [zO]<;>(try split)<;>simp_all [T.hasO]
theorem zJi (d:Nat): ¬alive (e.kill d) (.v d)∧ ¬alive (e.kill d) (.o d):=by
 refine ⟨?_,?_⟩
 ·rintro ⟨cs,hcs⟩;rw [vQ,if_pos rfl] at hcs;cases hcs
 ·rintro ⟨x,hx,hid⟩
  rcases hx with hx|⟨s,cs,hcs,hx⟩
  ·simp only [Env.kill,List.mem_map] at hx
   obtain ⟨y,_,rfl⟩:=hx
   exact zMD hid
  ·rw [vQ] at hcs
   split at hcs
   ·cases hcs
   ·simp only [Option.map_eq_some_iff] at hcs
    obtain ⟨cs0,_,rfl⟩:=hcs
    simp only [List.mem_map] at hx
    obtain ⟨y,_,rfl⟩:=hx
    exact zMD hid
theorem zKx {d d':Nat} {x:T} (h:(zO d x).hasO d'):x.hasO d':=by
 cases x<;>simp only [zO] at h<;>(try split at h)<;>simp_all [T.hasO]
theorem zPH (d:Nat) (x:Site) (h:alive (e.kill d) x):alive e x:=by
 cases x with
 |v s=>
  obtain ⟨cs,hcs⟩:=h
  rw [vQ] at hcs
  split at hcs
  ·cases hcs
  ·simp only [Option.map_eq_some_iff] at hcs
   obtain ⟨cs0,h0,_⟩:=hcs
   exact ⟨cs0,h0⟩
 |o id=>
  obtain ⟨x,hx,hid⟩:=h
  rcases hx with hx|⟨s,cs,hcs,hx⟩
  ·simp only [Env.kill,List.mem_map] at hx
   obtain ⟨y,hy,rfl⟩:=hx
   exact ⟨y, .inl hy,zKx hid⟩
  ·rw [vQ] at hcs
   split at hcs
   ·cases hcs
   ·simp only [Option.map_eq_some_iff] at hcs
    obtain ⟨cs0,h0,rfl⟩:=hcs
    simp only [List.mem_map] at hx
    obtain ⟨y,hy,rfl⟩:=hx
    exact ⟨y, .inr ⟨s,cs0,h0,hy⟩,zKx hid⟩
theorem zGy: ∀ (ds:List Nat) (e:Env Γ.St) (x:Site),alive (killAll ds e) x→alive e x:=by
 intro ds
 induction ds with
 |nil=>intro e x h;exact h
 |cons d ds ih=>intro e x h;exact zPH d x (ih (e.kill d) x h)
theorem u7: ∀ (ds:List Nat) (e:Env Γ.St) (d:Nat),d∈ds→ ¬alive (killAll ds e) (.v d)∧ ¬alive (killAll ds e) (.o d):=by
 intro ds
 induction ds with
 |nil=>intro e d h;cases h
 |cons d0 ds ih=>
  intro e d h
  rcases List.mem_cons.1 h with rfl|h
  ·exact ⟨fun hh=>(zJi d).1 (zGy ds _ _ hh),fun hh=>(zJi d).2 (zGy ds _ _ hh)⟩
  ·exact ih (e.kill d0) d h
theorem Inv.killAll: ∀ (ds:List Nat) (e:Env Γ.St),Inv Γ G w0 F0 O0 a w e→Inv Γ G w0 F0 O0 a w (Ve.killAll ds e):=by
 intro ds
 induction ds with
 |nil=>intro e h;exact h
 |cons d ds ih=>intro e h;exact ih (e.kill d) (h.kill d)
theorem Inv.drew (h:Inv Γ G w0 F0 O0 a w e) (n:Nat) (hn:w.drawn≤n):Inv Γ G w0 F0 O0 a { w with drawn:=n } e:=by
 obtain ⟨F,O,β,hc,hG,hsz,hdf,ht,hv⟩:=h
 have hext:Ext w F β (alive e) { w with drawn:=n } F β (alive e):=⟨fun _ h=>h,fun _ _=>rfl,fun _ h=>h,fun _ _=>rfl,fun _ _=>rfl⟩
 exact ⟨F,O,β,⟨⟨hc.keep.os,hc.keep.tape,hc.keep.output,hc.keep.size,hc.keep.block,Nat.le_trans hc.keep.drawn hn⟩,Γ.mono hc.sig (fun _ _ _ _=>Iff.rfl) (fun _ _=>rfl),hc.oin,hc.fin,hc.f0,hc.place,hc.dist,hc.lent⟩,hG.ext hext,hsz,hdf,
  fun t=>(ht t).ext hext,fun s cs hcs=>(hv s cs hcs).ext hext rfl⟩
def zOb (P:qK) (G:Nat→Option (List V)) (S:qZ Γ) (ops:Array Oper) (e:Env Γ.St):Option (Env Γ.St):=
 if zJD ops then zAi P G S ops ops.toList (killAll (zK ops.toList) e) else none
end
end Go.Ve

namespace Go.Ve
open Go
def setBlk (w:World) (b:Nat) (ob:Obj):World:= { w with heap:=w.heap.setIfInBounds b ob }
theorem zR {w:World} {b b':Nat} {ob:Obj} (h:b'≠b):(setBlk w b ob).heap[b']? =w.heap[b']? :=by
 simp only [setBlk];exact Array.getElem?_setIfInBounds_ne (Ne.symm h)
theorem zAa {w:World} {b:Nat} {ob:Obj} (h:b<w.heap.size):(setBlk w b ob).heap[b]? =some ob:=by
 simp [setBlk,h]
theorem zDR {w:World} {b:Nat} {ob:Obj} :(setBlk w b ob).heap.size=w.heap.size:=by simp [setBlk]
theorem lt_of_block {w:World} {b:Nat} {ob:Obj} (h:w.heap[b]? =some ob):b<w.heap.size:=(Array.getElem?_eq_some_iff.1 h).1
theorem zDk {α:Type} {xs ys:Array α} (h: ∀i:Nat,xs[i]? =ys[i]?):xs=ys:=
 Array.ext' (List.ext_getElem? (fun i=>by simpa using h i))
theorem zIS {w:World} {b o:Nat} {c:Array Value} {et:TypeId} (h:w.heap[b]? =some (.cells c et (0,0))) (v:Value):
  w.setCell ⟨b,o,none⟩ v=setBlk w b (.cells (c.setIfInBounds o v) et (0,0)):=by
 have hlt:=lt_of_block h
 simp only [World.setCell,setBlk]
 congr 1
 refine zDk fun i=> ?_
 rw [Array.getElem?_modify]
 by_cases hi:b=i
 ·subst hi
  rw [if_pos rfl,h,Array.getElem?_setIfInBounds_self_of_lt hlt]
  rfl
 ·rw [if_neg hi,Array.getElem?_setIfInBounds_ne hi]
theorem zBL {w:World} {b:Nat} {ob:Obj} (h:w.heap[b]? =some ob):setBlk w b ob=w:=by
 have hlt:=lt_of_block h
 have:w.heap.setIfInBounds b ob=w.heap:=by
  refine zDk fun i=> ?_
  by_cases hi:b=i
  ·subst hi;rw [Array.getElem?_setIfInBounds_self_of_lt hlt,h]
  ·rw [Array.getElem?_setIfInBounds_ne hi]
 simp only [setBlk,this]
theorem zJX {w:World} {b:Nat} {o1 o2:Obj} :setBlk (setBlk w b o1) b o2=setBlk w b o2:=by
 simp only [setBlk];congr 1;exact Array.setIfInBounds_setIfInBounds ..
def qE (c:Array Value) (o:Nat):List Value→Array Value
 |[]=>c
 |v::r=>qE (c.setIfInBounds o v) (o+1) r
theorem kD: ∀ (vs:List Value) (c:Array Value) (o:Nat),(qE c o vs).size=c.size:=by
 intro vs
 induction vs with
 |nil=>intro c o;rfl
 |cons v vs ih=>intro c o;simp [qE,ih]
theorem zDO: ∀ (vs:List Value) (c:Array Value) (o i:Nat),o+vs.length≤c.size→(qE c o vs)[i]? =if o≤i∧i<o+vs.length then vs[i-o]? else c[i]? :=by
 intro vs
 induction vs with
 |nil=>intro c o i _;simp [qE];intro h1 h2;omega
 |cons v vs ih=>
  intro c o i h
  simp only [List.length_cons] at h
  simp only [qE]
  rw [ih _ _ _ (by simp;omega)]
  by_cases h1:o+1≤i∧i<o+1+vs.length
  ·rw [if_pos h1,if_pos (by simp;omega)]
   have:i-o=(i- (o+1))+1:=by omega
   rw [this];simp
  ·rw [if_neg h1]
   by_cases h2:i=o
   ·subst h2
    rw [Array.getElem?_setIfInBounds_self_of_lt (by omega),if_pos (by simp)]
    simp
   ·rw [Array.getElem?_setIfInBounds_ne (Ne.symm h2),if_neg (by simp;omega)]
theorem uA {P:Program} {b off:Nat} {et:TypeId} : ∀ (vs:List Value) (i:Nat) (w:World) (c:Array Value),w.heap[b]? =some (.cells c et (0,0))→off+i+vs.length≤c.size→
  (∀v,v∈vs→v.oneCell'=true)→(storeCells ⟨b,off,none⟩ vs i).run P w= .ok () (if vs=[] then w else setBlk w b (.cells (qE c (off+i) vs) et (0,0))):=by
 intro vs
 induction vs with
 |nil=>intro i w c _ _ _;simp [storeCells]
 |cons v vs ih=>
  intro i w c hb hle hone
  simp only [List.length_cons] at hle
  have hcell:w.cell? ⟨b,off+i,none⟩=some c[off+i]:=by simp [World.cell?,hb,show off+i<c.size by omega]
  have hfr:w.frozen? ⟨b,off+i,none⟩=false:=by simp [World.frozen?,hb]
  have hlt:=lt_of_block hb
  simp only [storeCells,Sem.run_bind,zAM,run_store P w _ v _ (hone v (by simp)),hcell,hfr,Bool.false_eq_true,if_false,Result.andThen_ok]
  rw [zIS hb]
  rw [ih (i+1) _ (c.setIfInBounds (off+i) v) (zAa hlt) (by simp;omega) (fun u hu=>hone u (List.mem_cons_of_mem _ hu))]
  simp only [reduceCtorEq,if_false]
  cases vs with
  |nil=>simp [qE]
  |cons u vs=>
   simp only [reduceCtorEq,if_false,zJX]
   rfl
section
variable {w:World} {F:Blk→Prop} {β:Lay} {al:Site→Prop}
theorem Rd.setBlk {b:Nat} {ob:Obj} (hF: ∀b':Nat,F b'→b'≠b) {v:Value} {d:V} (h:Rd w F v d):Rd (Ve.setBlk w b ob) F v d:=
 h.mono (fun _ h=>h) (fun b' hb=>zR (hF b' hb))
theorem zW.setBlk {b b0 k cap:Nat} {ob:Obj} (hF: ∀b':Nat,F b'→b'≠b) (hne:b0≠b) {es:List V} (h:zW w F b0 k cap es):zW (Ve.setBlk w b ob) F b0 k cap es:=
 h.mono (fun _ h=>h) (fun b' hb=>zR (hF b' hb)) (zR hne)
theorem zE.setVar {b:Nat} {ob:Obj} (hF: ∀b':Nat,F b'→b'≠b) (ho: ∀id,al (.o id)→β.ob id≠b) {v:Value} {x:T} (h:zE w F β al v x):zE (Ve.setBlk w b ob) F β al v x:=by
 cases x with
 |p d=>exact Rd.setBlk hF h
 |ow id k es=>obtain ⟨ha,cap,hv,hr⟩:=h;exact ⟨ha,cap,hv,hr.setBlk hF (ho id ha)⟩
 |oe id k es i off=>obtain ⟨ha,hi,cap,hv,hr⟩:=h;exact ⟨ha,hi,cap,hv,hr.setBlk hF (ho id ha)⟩
 |lp s off=>exact h
 |mp id es ck=>obtain ⟨ha,hv,hr⟩:=h;exact ⟨ha,hv,(zR (ho id ha)).trans hr⟩
 |ot id t xs=>
  rcases h with h|⟨hne,ha,cap,hv,hr⟩
  ·exact .inl h
  ·exact .inr ⟨hne,ha,cap,hv,hr.setBlk hF (ho id ha)⟩
 |oet id t xs i off=>obtain ⟨ha,hi,cap,hv,hr⟩:=h;exact ⟨ha,hi,cap,hv,hr.setBlk hF (ho id ha)⟩
 |ov id t xs lo hi=>
  rcases h with h|⟨hne,ha,h1,h2,cap,hv,hr⟩
  ·exact .inl h
  ·exact .inr ⟨hne,ha,h1,h2,cap,hv,hr.setBlk hF (ho id ha)⟩
 |on n=>exact zHL.mono h (fun _ h=>h) (fun b' hb=>zR (hF b' hb)) h.1 h.2.1 rfl rfl (zR (ho n.id h.1)) (zR (ho n.id2 h.2.1))
 |emp=>exact h
 |dead=>trivial
end
def V.one:V→Bool
 | .val (.agg _)=>false
 | .val (.tuple _)=>false
 | .agg _=>false
 | .tup _=>false
 |_=>true
def T.cellsT:T→Option (List T)
 | .p d=>if d.cells.all V.one then some (d.cells.map .p) else none
 | .dead=>none
 |x=>some [x]
def xC (cs:List T) (o:Nat):List T→List T
 |[]=>cs
 |x::r=>xC (cs.set o x) (o+1) r
theorem zL6: ∀ (xs cs:List T) (o:Nat),(xC cs o xs).length=cs.length:=by
 intro xs
 induction xs with
 |nil=>intro cs o;rfl
 |cons x xs ih=>intro cs o;simp [xC,ih]
theorem zL7: ∀ (xs cs:List T) (o i:Nat),o+xs.length≤cs.length→(xC cs o xs)[i]? =if o≤i∧i<o+xs.length then xs[i-o]? else cs[i]? :=by
 intro xs
 induction xs with
 |nil=>intro cs o i _;simp [xC];intro h1 h2;omega
 |cons x xs ih=>
  intro cs o i h
  simp only [List.length_cons] at h
  simp only [xC]
  rw [ih _ _ _ (by simp;omega)]
  by_cases h1:o+1≤i∧i<o+1+xs.length
  ·rw [if_pos h1,if_pos (by simp;omega)]
   have:i-o=(i- (o+1))+1:=by omega
   rw [this];simp
  ·rw [if_neg h1]
   by_cases h2:i=o
   ·subst h2
    rw [List.getElem?_set_self (by omega),if_pos (by simp)]
    simp
   ·rw [List.getElem?_set_ne (Ne.symm h2),if_neg (by simp;omega)]
section
variable {w:World} {F:Blk→Prop} {β:Lay} {al:Site→Prop}
theorem zKt {v:Value} {d:V} (h:Rd w F v d) (hd:d.one=true):v.oneCell'=true:=by
 cases h with
 |val=>cases v<;>simp_all [V.one,Value.oneCell']
 |agg=>simp [V.one] at hd
 |tup=>simp [V.one] at hd
 |tl t xs v h0=>obtain ⟨a0,cap0,rfl,_⟩:=zA9 h0;rfl
 |_=>rfl
theorem zFT {v:Value} {x:T} {xs:List T} (h:zE w F β al v x) (hx:x.cellsT=some xs):v.cells.size=xs.length∧(∀u,u∈v.cells→u.oneCell'=true)∧
  ∀ (i:Nat) (u:Value) (y:T),v.cells[i]? =some u→xs[i]? =some y→zE w F β al u y:=by
 have hone: ∀y,xs=[y]→zE w F β al v y→v.cells= #[v]→v.oneCell'=true→v.cells.size=xs.length∧(∀u,u∈v.cells→u.oneCell'=true)∧
   ∀ (i:Nat) (u:Value) (y:T),v.cells[i]? =some u→xs[i]? =some y→zE w F β al u y:=by
  intro y hy hr hc ho
  subst hy
  rw [hc]
  refine ⟨rfl,fun u hu=>by simp at hu;subst hu;exact ho,?_⟩
  intro i u z h1 h2
  cases i with
  |zero=>simp at h1 h2;subst h1 h2;exact hr
  |succ i=>simp at h2
 cases x with
 |p d=>
  simp only [T.cellsT] at hx
  split at hx
  ·rename_i hall
   simp only [Option.some.injEq] at hx
   subst hx
   have hleaf:d.leafy=true:=by
    cases d with
    |val u=>
     cases u with
     |agg cs=>simp [V.cells,V.one] at hall
     |_=>rfl
    |_=>rfl
   obtain ⟨h1,h2⟩:=zBl h hleaf
   refine ⟨by simpa using h1,?_,?_⟩
   ·intro u hu
    obtain ⟨i,hi,rfl⟩:=Array.getElem_of_mem hu
    have hi':i<d.cells.length:=by omega
    exact zKt (h2 i _ _ (by simp [hi]) (by simp [hi'])) (List.all_eq_true.1 hall _ (List.getElem_mem hi'))
   ·intro i u y hu hy
    simp only [List.getElem?_map,Option.map_eq_some_iff] at hy
    obtain ⟨z,hz,rfl⟩:=hy
    exact h2 i u z hu hz
  ·cases hx
 |dead=>simp [T.cellsT] at hx
 |ow id k es=>
  simp only [T.cellsT,Option.some.injEq] at hx
  obtain ⟨ha,cap,hv,hr⟩:=h
  exact hone _ hx.symm ⟨ha,cap,hv,hr⟩ (by rw [hv];rfl) (by rw [hv];rfl)
 |oe id k es i off=>
  simp only [T.cellsT,Option.some.injEq] at hx
  obtain ⟨ha,hi,cap,hv,hr⟩:=h
  exact hone _ hx.symm ⟨ha,hi,cap,hv,hr⟩ (by rw [hv];rfl) (by rw [hv];rfl)
 |lp s off=>
  simp only [T.cellsT,Option.some.injEq] at hx
  obtain ⟨ha,hv⟩:=h
  exact hone _ hx.symm ⟨ha,hv⟩ (by rw [hv];rfl) (by rw [hv];rfl)
 |mp id es ck=>
  simp only [T.cellsT,Option.some.injEq] at hx
  obtain ⟨ha,hv,hr⟩:=h
  exact hone _ hx.symm ⟨ha,hv,hr⟩ (by rw [hv];rfl) (by rw [hv];rfl)
 |ot id t xs=>
  simp only [T.cellsT,Option.some.injEq] at hx
  have h':=h
  rcases h with ⟨h0,a0,hv⟩|⟨hne,ha,cap,hv,hr⟩<;>exact hone _ hx.symm h' (by rw [hv];rfl) (by rw [hv];rfl)
 |oet id t xs i off=>
  simp only [T.cellsT,Option.some.injEq] at hx
  obtain ⟨ha,hi,cap,hv,hr⟩:=h
  exact hone _ hx.symm ⟨ha,hi,cap,hv,hr⟩ (by rw [hv];rfl) (by rw [hv];rfl)
 |ov id t xs lo hi=>
  simp only [T.cellsT,Option.some.injEq] at hx
  have h':=h
  rcases h with ⟨_,_,_,a0,hv⟩|⟨_,_,_,_,cap,hv,hr⟩<;>exact hone _ hx.symm h' (by rw [hv];rfl) (by rw [hv];rfl)
 |on n=>
  simp only [T.cellsT,Option.some.injEq] at hx
  rcases zHL.shape h with ⟨_,_,_,hv⟩|⟨_,hv⟩<;>exact hone _ hx.symm h (by rw [hv];rfl) (by rw [hv];rfl)
 |emp=>
  simp only [T.cellsT,Option.some.injEq] at hx
  obtain ⟨a0,hv⟩:=h
  exact hone _ hx.symm ⟨a0,hv⟩ (by rw [hv];rfl) (by rw [hv];rfl)
end
section
variable {Γ:Sig} {P:Program} {G:Nat→Option (List V)} {S:qZ Γ} {o:Oper} {a:Act} {w0:World} {F0:Blk→Prop} {O0:kC} {w:World} {F:Blk→Prop} {O:Nat→Prop} {β:Lay} {al al':Site→Prop} {st:Γ.St} {e e':Env Γ.St}
theorem Core.setBlk (hc:Core Γ w0 F0 O0 w F O β al st) {x:Site} (hx:al x) (ob:Obj) (hob: ∀c et fl,w.heap[β.blk x]? =some (.cells c et fl)→ ∃c' et' fl',ob= .cells c' et' fl'∧c'.size=c.size):Core Γ w0 F0 O0 (Ve.setBlk w (β.blk x) ob) F O β al st:=by
 obtain ⟨p1,p2,p3,p4⟩:=hc.place x hx
 refine ⟨⟨hc.keep.os,hc.keep.tape,hc.keep.output,by rw [zDR];exact hc.keep.size,?_,hc.keep.drawn⟩,Γ.mono hc.sig (fun _ _ _ _=>Iff.rfl) (fun b hb=>zR (fun h=>p4 (h▸hb))),hc.oin,?_,hc.f0,?_,hc.dist,?_⟩
 ·intro b hb ho
  rw [zR (fun hh=>ho (by rw [hh];exact p1.old (by rw [←hh];exact hb)))];exact hc.keep.block b hb ho
 ·intro b hb;rw [zDR];exact hc.fin b hb
 ·intro y hy;rw [zDR];exact hc.place y hy
 ·intro b n hb
  obtain ⟨h1,h2,h3,c,et,fl,h4,h5⟩:=hc.lent b n hb
  refine ⟨h1,h2,h3,?_⟩
  by_cases hbx:b=β.blk x
  ·subst hbx
   obtain ⟨c',et',fl',h6,h7⟩:=hob c et fl h4
   exact ⟨c',et',fl',by rw [zAa p2,h6],h7.trans h5⟩
  ·exact ⟨c,et,fl,by rw [zR hbx];exact h4,h5⟩
def zCx (e:Env Γ.St) (P:qK) (t:TypeId) (s off:Nat) (x:T):Option (Env Γ.St):=
 match e.var s,x.cellsT with
 |some cs,some xs=>if z9 P t=some xs.length∧off+xs.length≤cs.length∧s<e.vars.length then some { e with vars:=e.vars.set s (some (xC cs off xs)) } else none
 |_,_=>none
theorem zNp (hi:Inv Γ G w0 F0 O0 a w e) {t:TypeId} {s off:Nat} {x:T} {ap xv:Operand} (hp:evx G e ap= .lp s off) (hx:evx G e xv=x) (h:zCx e P t s off x=some e'):
  ∃w',(Instr.storeAt t (a.eval ap) (a.eval xv)).run P w= .ok () w'∧Inv Γ G w0 F0 O0 a w' e':=by
 obtain ⟨F,O,β,hc,hG,hsz,hdf,ht,hv⟩:=hi
 have hpt:=wS hG ht ap
 have hxt:=wS hG ht xv
 rw [hp] at hpt
 rw [hx] at hxt
 obtain ⟨ha,hpv⟩:=hpt
 unfold zCx at h
 split at h
 ·rename_i cs xs hcs hxs
  split at h
  ·rename_i hcond
   obtain ⟨hsize,hfit,hsl⟩:=hcond
   simp only [Option.some.injEq] at h
   subst h
   obtain ⟨h1,h2,h3⟩:=zFT hxt hxs
   obtain ⟨c,et,g1,g2,g3⟩:=hv s cs hcs
   have hrun:(Instr.storeAt t (a.eval ap) (a.eval xv)).run P w= .ok () (if (a.eval xv).cells.toList=[] then w else setBlk w (β.vb s) (.cells (qE c (off+0) (a.eval xv).cells.toList) et (0,0))):=by
    have hst:=uA (P:=P) (b:=β.vb s) (off:=off) (et:=et) (a.eval xv).cells.toList 0 w c g1 (by simp [h1];omega) (fun u hu=>h2 u (by simpa using hu))
    simp only [Instr.storeAt,hpv,Instr.sureAddr,Sem.run_bind,Sem.run_pure,Result.andThen_ok,storeVar,run_sizeOf hsize,h1,ne_eq,not_true,if_false]
    simpa using hst
   have hw':(if (a.eval xv).cells.toList=[] then w else setBlk w (β.vb s) (.cells (qE c (off+0) (a.eval xv).cells.toList) et (0,0)))=setBlk w (β.vb s) (.cells (qE c off (a.eval xv).cells.toList) et (0,0)):=by
    split
    ·rename_i hnil
     rw [hnil]
     exact (zBL g1).symm
    ·simp
   rw [hw'] at hrun
   refine ⟨_,hrun,?_⟩
   obtain ⟨p1,p2,p3,p4⟩:=hc.place (.v s) ha
   have hFne: ∀b':Nat,F b'→b'≠β.vb s:=fun b' hb hh=>p3 (by rw [hh] at hb;exact hb)
   have hone: ∀id,alive e (.o id)→β.ob id≠β.vb s:=fun id hid hh=>by
    have:=hc.dist (.o id) (.v s) hid ha hh
    cases this
   refine Inv.of (al:=alive e) (hc.setBlk ha _ (fun c' et' fl' hh=>by rw [show w.heap[β.blk (.v s)]? =_ from g1] at hh;simp only [Option.some.injEq,Obj.cells.injEq] at hh;exact ⟨_,_,_,rfl,by rw [kD,hh.1]⟩)) (fun g cs hg=>(hG g cs hg).setBlk hFne) hsz hdf (fun t=>(ht t).setVar hFne hone) ?_ ?_
   ·intro s' cs' hcs'
    have hvar:({ e with vars:=e.vars.set s (some (xC cs off xs)) } :Env Γ.St).var s'=if s'=s then some (xC cs off xs) else e.var s':=by
     simp only [Env.var]
     by_cases hh:s'=s
     ·subst hh;simp [hsl]
     ·simp [hh,List.getElem?_set_ne (Ne.symm hh)]
    rw [hvar] at hcs'
    split at hcs'
    ·rename_i hss
     subst hss
     simp only [Option.some.injEq] at hcs'
     subst hcs'
     refine ⟨ha,_,et,zAa p2,by rw [kD,zL6];exact g2,?_⟩
     intro i u y hu hy
     rw [zDO _ _ _ _ (by simp [h1];omega)] at hu
     rw [zL7 _ _ _ _ (by omega)] at hy
     have hl:(a.eval xv).cells.toList.length=xs.length:=by simpa using h1
     rw [hl] at hu
     split at hu
     ·rename_i hin
      rw [if_pos hin] at hy
      exact (h3 _ u y (by simpa using hu) hy).setVar hFne hone
     ·rename_i hin
      rw [if_neg hin] at hy
      exact (g3 i u y hu hy).setVar hFne hone
    ·rename_i hss
     have ha':alive e (.v s'):=⟨cs',hcs'⟩
     have hne:β.vb s'≠β.vb s:=fun hh=>by
      have:=hc.dist (.v s') (.v s) ha' ha hh
      simp at this;exact hss this
     refine ⟨ha',?_⟩
     obtain ⟨c',et',q1,q2,q3⟩:=hv s' cs' hcs'
     exact ⟨c',et',(zR hne).trans q1,q2,fun i u y hu hy=>(q3 i u y hu hy).setVar hFne hone⟩
   ·intro s' hs'
    by_cases hss:s'=s
    ·subst hss;exact ⟨xC cs off xs,by simp [Env.var,hsl]⟩
    ·obtain ⟨cs',hcs'⟩:=hs'
     refine ⟨cs',?_⟩
     simp only [Env.var] at hcs' ⊢
     rw [List.getElem?_set_ne (Ne.symm hss)];exact hcs'
  ·cases h
 ·cases h
end
end Go.Ve

namespace Go.Ve
open Go
theorem zPK (n:Nat): ∀ (r c:Nat),c<n→Builtin.growBy n r c≤2*n+1024:=by
 intro r
 induction r with
 |zero=>intro c h;simp [Builtin.growBy];omega
 |succ r ih=>
  intro c h
  simp only [Builtin.growBy]
  rw [if_neg (by omega)]
  by_cases h2:c+(c+768) / 4<n
  ·exact ih _ h2
  ·cases r with
   |zero=>simp [Builtin.growBy];omega
   |succ r=>simp only [Builtin.growBy];rw [if_pos (by omega)];omega
theorem zNN {n c:Nat} (h:c<n):Builtin.nextslicecap n c≤2*n+1024:=by
 unfold Builtin.nextslicecap
 split
 ·omega
 ·split
  ·omega
  ·exact zPK n 4 c h
section
variable {P:Program} {w:World}
theorem run_append_room {at0 at1:TypeId} {ts:Array TypeId} {ty el el1:TypeId} {size b off len cap n cap1:Nat} {a1:Option Addr} {cells:List Value} {c:Array Value} {et:TypeId}
  (h0:ts[0]? =some at0) (h1:ts[1]? =some at1) (hu0:P.underlying at0=some (.slice el)) (hu1:P.underlying at1=some (.slice el1)) (hs:z9 P el=some size)
  (hsrc:(Builtin.firstCells size n (.slice a1 n cap1)).run P w= .ok cells.toArray w) (hlen:cells.length=n*size)
  (hb:w.heap[b]? =some (.cells c et (0,0))) (hfit:off+len*size+n*size≤c.size) (hone: ∀v,v∈cells→v.oneCell'=true) (hroom:len+n≤cap):
  (Builtin.append_ ts ty #[.slice (some ⟨b,off,none⟩) len cap, .slice a1 n cap1]).run P w=
   .ok (.slice (some ⟨b,off,none⟩) (len+n) cap) (setBlk w b (.cells (qE c (off+len*size) cells) et (0,0))):=by
 have hst:=uA (P:=P) (b:=b) (off:=off+len*size) (et:=et) cells 0 w c hb (by omega) hone
 have hw:(if cells=[] then w else setBlk w b (.cells (qE c (off+len*size+0) cells) et (0,0)))=setBlk w b (.cells (qE c (off+len*size) cells) et (0,0)):=by
  split
  ·rename_i hnil;rw [hnil];exact (zBL hb).symm
  ·simp
 rw [hw] at hst
 simp only [Builtin.append_]
 simp [h0,h1,zC hu0,zC hu1,run_sizeOf hs,Builtin.lenOf,hroom,hsrc,zAM,hst]
theorem run_append_grow {at0 at1:TypeId} {ts:Array TypeId} {ty el el1:TypeId} {info:TypeInfo} {z:Value} {len cap n cap1:Nat} {a0 a1:Option Addr} {cells old:List Value}
  (h0:ts[0]? =some at0) (h1:ts[1]? =some at1) (hu0:P.underlying at0=some (.slice el)) (hu1:P.underlying at1=some (.slice el1)) (hi:P.info? el=some info) (hz:info.zero=some z)
  (hsrc:(Builtin.firstCells info.size n (.slice a1 n cap1)).run P w.drew= .ok cells.toArray w.drew)
  (hold:(Builtin.firstCells info.size len (.slice a0 len cap)).run P w.drew= .ok old.toArray w.drew)
  (hno: ¬len+n≤cap) (hbytes:1≤info.bytes) (hbound:(2*(len+n)+1024)*info.bytes≤140737488355328):
  ∃newCap:Nat,len+n≤newCap∧(Builtin.append_ ts ty #[.slice a0 len cap, .slice a1 n cap1]).run P w=
   .ok (.slice (some ⟨w.heap.size,0,none⟩) (len+n) newCap) (w.drew.alloc (.cells (old.toArray++(cells.toArray++Builtin.zeroCells z.cells (newCap- (len+n)))) el)):=by
 have hs:z9 P el=some info.size:=zAZ hi
 have hnc:Builtin.nextslicecap (len+n) cap*info.bytes≤281474976710656:=by
  have:=zNN (n:=len+n) (c:=cap) (by omega)
  have:=Nat.mul_le_mul_right info.bytes this
  omega
 refine ⟨(Question.appendCap (len+n) cap el).cut (w.tape w.drawn (.appendCap (len+n) cap el)),by simp [Question.cut],?_⟩
 have hzv:(zeroValue el).run P w.drew= .ok z w.drew:=by simp [zeroValue,run_typeInfo hi,hz]
 simp only [Builtin.append_]
 simp [h0,h1,zC hu0,zC hu1,run_sizeOf hs,Builtin.lenOf,hno,run_typeInfo hi,show ¬info.bytes=0 by omega,show ¬281474976710656<Builtin.nextslicecap (len+n) cap*info.bytes by omega,
  Question.forced,hsrc,hold,hzv,newRow]
end
end Go.Ve

namespace Go.Ve
open Go
def zAJ:T→Option (List V)
 | .p (.sl es)=>some es
 | .p (.val (.slice none 0 0))=>some []
 | .ow _ _ es=>some es
 | .emp=>some []
 | .ov _ t xs lo hi=>some (((xs.take hi).drop lo).map t.enc)
 |_=>none
section
variable {P:Program} {w:World} {F:Blk→Prop} {β:Lay} {al:Site→Prop}
theorem zQb {w w':World} (h:w'.heap=w.heap) (ad:Addr):w'.cell? ad=w.cell? ad:=by
 simp only [World.cell?,h]
theorem src_of {es:List V} {k b off cap:Nat} {g:Nat→Value} (hg: ∀m,m<es.length*k→w.cell? ⟨b,off+m,none⟩=some (g m))
  (hr: ∀ (i j:Nat) (e d:V),es[i]? =some e→e.cells[j]? =some d→Rd w F (g (i*k+j)) d) (hk: ∀e,e∈es→e.cells.length=k):
  ∃cells:List Value,cells.length=es.length*k∧
   (∀w':World,w'.heap=w.heap→(Builtin.firstCells k es.length (.slice (some ⟨b,off,none⟩) es.length cap)).run P w'= .ok cells.toArray w')∧
   ∀ (i j:Nat) (e d:V),es[i]? =some e→e.cells[j]? =some d→ ∃x,cells[i*k+j]? =some x∧Rd w F x d:=by
 refine ⟨(List.range (es.length*k)).map g,by simp,?_,?_⟩
 ·intro w' hw
  have:=run_loadCells (P:=P) (w:=w') (b:=b) (off:=off) (n:=es.length*k) (g:=g) (fun m hm=>by rw [zQb hw];exact hg m hm)
  simpa [Builtin.firstCells] using this
 ·intro i j e d hi hj
  have h1:=(List.getElem?_eq_some_iff.1 hi).1
  have h2:=(List.getElem?_eq_some_iff.1 hj).1
  have h3:=hk e (List.mem_of_getElem? hi)
  have:(i+1)*k≤es.length*k:=Nat.mul_le_mul_right k (by omega)
  rw [Nat.succ_mul] at this
  refine ⟨g (i*k+j),?_,hr i j e d hi hj⟩
  rw [List.getElem?_map,List.getElem?_range (by omega)];rfl
theorem zCS {k : Nat} (a : Option Addr) (cap : Nat) : ∃ cells : List Value, cells.length = ([] : List V).length * k ∧
   (∀w':World,w'.heap=w.heap→(Builtin.firstCells k 0 (.slice a 0 cap)).run P w'= .ok cells.toArray w')∧
   ∀ (i j:Nat) (e d:V),([]:List V)[i]? =some e→e.cells[j]? =some d→ ∃x,cells[i*k+j]? =some x∧Rd w F x d:=by
 refine ⟨[],by simp,?_,fun i j e d h=>by simp at h⟩
 intro w' _
 cases a with
 |none=>simp [Builtin.firstCells]
 |some ad=>simp [Builtin.firstCells,loadCells,loadCellsFrom]
theorem zK0 {x:T} {v:Value} {es:List V} {k:Nat} (hx:zE w F β al v x) (hes:zAJ x=some es) (hk: ∀e,e∈es→e.cells.length=k):
  ∃ (a:Option Addr) (cap:Nat) (cells:List Value),v= .slice a es.length cap∧es.length≤cap∧cells.length=es.length*k∧
   (∀w':World,w'.heap=w.heap→(Builtin.firstCells k es.length v).run P w'= .ok cells.toArray w')∧
   ∀ (i j:Nat) (e d:V),es[i]? =some e→e.cells[j]? =some d→ ∃x,cells[i*k+j]? =some x∧Rd w F x d:=by
 unfold zAJ at hes
 split at hes
 ·rename_i es0
  simp only [Option.some.injEq] at hes
  subst hes
  cases hx with
  |slemp a cap=>
   obtain ⟨cells,h1,h2,h3⟩:=zCS (P:=P) (w:=w) (F:=F) (k:=k) a cap
   exact ⟨a,cap,cells,rfl,by simp,h1,h2,h3⟩
  |sl b off cap k0 es g hF hcap hk0 hg hr=>
   cases es0 with
   |nil=>
    obtain ⟨cells,h1,h2,h3⟩:=zCS (P:=P) (w:=w) (F:=F) (k:=k) (some ⟨b,off,none⟩) cap
    exact ⟨_,cap,cells,rfl,by simp,h1,h2,h3⟩
   |cons e es=>
    have hkk:k0=k:=by rw [←hk0 e (by simp),hk e (by simp)]
    subst hkk
    obtain ⟨cells,h1,h2,h3⟩:=src_of (P:=P) (cap:=cap) hg hr hk0
    exact ⟨_,cap,cells,rfl,hcap,h1,h2,h3⟩
 ·simp only [Option.some.injEq] at hes
  subst hes
  have:=Rd.eq_val hx
  subst this
  obtain ⟨cells,h1,h2,h3⟩:=zCS (P:=P) (w:=w) (F:=F) (k:=k) none 0
  exact ⟨none,0,cells,rfl,by simp,h1,h2,h3⟩
 ·rename_i id k0 es0
  simp only [Option.some.injEq] at hes
  subst hes
  obtain ⟨ha,cap,rfl,c,et,g1,g2,g3,g4,g5⟩:=hx
  cases es0 with
  |nil=>
   obtain ⟨cells,h1,h2,h3⟩:=zCS (P:=P) (w:=w) (F:=F) (k:=k) (some ⟨β.ob id,0,none⟩) cap
   exact ⟨_,cap,cells,rfl,by simp,h1,h2,h3⟩
  |cons e es=>
   have hkk:k0=k:=by rw [←g4 e (by simp),hk e (by simp)]
   subst hkk
   have hle:(e::es).length*k0≤cap*k0:=Nat.mul_le_mul_right k0 g3
   obtain ⟨cells,h1,h2,h3⟩:=src_of (P:=P) (w:=w) (F:=F) (es:=e::es) (k:=k0) (b:=β.ob id) (off:=0) (cap:=cap) (g:=fun m=>(c[m]?).getD undef)
    (fun m hm=>by
     have:m<c.size:=by omega
     simp [World.cell?,g1,this])
    (fun i j q d hi hj=>by
     have hi':=(List.getElem?_eq_some_iff.1 hi).1
     have hj':=(List.getElem?_eq_some_iff.1 hj).1
     have hq:=g4 q (List.mem_of_getElem? hi)
     have:(i+1)*k0≤cap*k0:=Nat.mul_le_mul_right k0 (by omega)
     rw [Nat.succ_mul] at this
     have hlt:i*k0+j<c.size:=by omega
     exact g5 i j q d _ hi hj (by simp [hlt])) g4
   exact ⟨_,cap,cells,rfl,g3,h1,h2,h3⟩
 ·simp only [Option.some.injEq] at hes
  subst hes
  obtain ⟨a0,rfl⟩:=hx
  obtain ⟨cells,h1,h2,h3⟩:=zCS (P:=P) (w:=w) (F:=F) (k:=k) a0 0
  exact ⟨a0,0,cells,rfl,by simp,h1,h2,h3⟩
 ·rename_i id t xs lo hi
  simp only [Option.some.injEq] at hes
  subst hes
  rcases hx with ⟨rfl,rfl,rfl,a0,rfl⟩|⟨hne,ha,hlh,hhl,cap,rfl,c,et,g1,g2,g3,g4,g5⟩
  ·obtain ⟨cells,h1,h2,h3⟩:=zCS (P:=P) (w:=w) (F:=F) (k:=k) a0 0
   exact ⟨a0,0,cells,rfl,by simp,h1,h2,h3⟩
  ·have hlen:(((xs.take hi).drop lo).map t.enc).length=hi-lo:=by simp;omega
   have hcap:xs.length≤cap:=by simpa using g3
   by_cases h0:hi-lo=0
   ·have hnil:((xs.take hi).drop lo).map t.enc=[]:=List.eq_nil_of_length_eq_zero (by omega)
    rw [hnil,h0]
    obtain ⟨cells,h1,h2,h3⟩:=zCS (P:=P) (w:=w) (F:=F) (k:=k) (some ⟨β.ob id,if cap=lo then 0 else lo*t.size,none⟩) (cap-lo)
    exact ⟨_,_,cells,rfl,by simp,h1,h2,h3⟩
   ·have hkk:t.size=k:=by
     have hl0:0< (((xs.take hi).drop lo).map t.enc).length:=by omega
     have:=hk _ (List.getElem_mem hl0)
     rw [List.getElem_map,jU] at this
     exact this
    subst hkk
    rw [if_neg (by omega)]
    have hsub: ∀ (i:Nat) (q:V),(((xs.take hi).drop lo).map t.enc)[i]? =some q→(xs.map t.enc)[lo+i]? =some q∧lo+i<hi:=by
     intro i q hq
     have hi':=(List.getElem?_eq_some_iff.1 hq).1
     rw [hlen] at hi'
     refine ⟨?_,by omega⟩
     rw [←hq,List.getElem?_map,List.getElem?_map,List.getElem?_drop,List.getElem?_take,if_pos (by omega)]
    have hcs:cap*t.size=c.size:=g2.symm
    obtain ⟨cells,h1,h2,h3⟩:=src_of (P:=P) (w:=w) (F:=F) (es:=((xs.take hi).drop lo).map t.enc) (k:=t.size) (b:=β.ob id) (off:=lo*t.size) (cap:=cap-lo) (g:=fun m=>(c[lo*t.size+m]?).getD undef)
     (fun m hm=>by
      rw [hlen] at hm
      have h5:(hi-lo)*t.size=hi*t.size-lo*t.size:=Nat.sub_mul hi lo t.size
      have h6:hi*t.size≤cap*t.size:=Nat.mul_le_mul_right _ (by omega)
      have h7:lo*t.size≤hi*t.size:=Nat.mul_le_mul_right _ hlh
      have:lo*t.size+m<c.size:=by omega
      simp [World.cell?,g1,this])
     (fun i j q d hq hj=>by
      obtain ⟨hq1,hq2⟩:=hsub i q hq
      have hj':=(List.getElem?_eq_some_iff.1 hj).1
      have hqk:=g4 q (List.mem_of_getElem? hq1)
      have h5:(lo+i+1)*t.size≤cap*t.size:=Nat.mul_le_mul_right _ (by omega)
      rw [Nat.succ_mul,Nat.add_mul] at h5
      have hlt:lo*t.size+(i*t.size+j)<c.size:=by omega
      have:=g5 (lo+i) j q d (c[lo*t.size+(i*t.size+j)]) hq1 hj (by rw [Nat.add_mul,Nat.add_assoc];simp [hlt])
      simpa [hlt] using this) hk
    refine ⟨_,_,cells,by rw [hlen],by omega,h1,?_,h3⟩
    intro w' hw
    have:=h2 w' hw
    rw [hlen] at this ⊢
    exact this
 ·cases hes
theorem zSo {es:List V} {k:Nat} {cells:List Value} (hl:cells.length=es.length*k) (hk: ∀e,e∈es→e.cells.length=k) (ho: ∀e,e∈es→e.cells.all V.one=true)
  (h: ∀ (i j:Nat) (e d:V),es[i]? =some e→e.cells[j]? =some d→ ∃x,cells[i*k+j]? =some x∧Rd w F x d): ∀v,v∈cells→v.oneCell'=true:=by
 intro v hv
 obtain ⟨m,hm,rfl⟩:=List.getElem_of_mem hv
 have hk0:0<k:=by
  rcases Nat.eq_zero_or_pos k with h|h
  ·subst h;simp at hl;simp [hl] at hm
  ·exact h
 have hi:m / k<es.length:=by
  rw [Nat.div_lt_iff_lt_mul hk0];omega
 have hj:m%k< (es[m / k]).cells.length:=by rw [hk _ (List.getElem_mem hi)];exact Nat.mod_lt _ hk0
 obtain ⟨x,hx,hr⟩:=h (m / k) (m%k) _ _ (List.getElem?_eq_getElem hi) (List.getElem?_eq_getElem hj)
 have hmm:m / k*k+m%k=m:=by rw [Nat.mul_comm];exact Nat.div_add_mod m k
 rw [hmm,List.getElem?_eq_getElem hm,Option.some.injEq] at hx
 rw [hx]
 exact zKt hr (List.all_eq_true.1 (ho _ (List.getElem_mem hi)) _ (List.getElem_mem hj))
theorem zQR {w':World} {b k cap:Nat} {es es2:List V} {c:Array Value} {et:TypeId} {cells:List Value} (g2:c.size=cap*k) (g4: ∀e,e∈es→e.cells.length=k)
  (g5: ∀ (i j:Nat) (e d:V) (x:Value),es[i]? =some e→e.cells[j]? =some d→c[i*k+j]? =some x→Rd w' F x d)
  (hk2: ∀e,e∈es2→e.cells.length=k) (hl:cells.length=es2.length*k)
  (h: ∀ (i j:Nat) (e d:V),es2[i]? =some e→e.cells[j]? =some d→ ∃x,cells[i*k+j]? =some x∧Rd w' F x d) (hroom:es.length+es2.length≤cap)
  (hb:w'.heap[b]? =some (.cells (qE c (es.length*k) cells) et (0,0))):zW w' F b k cap (es++es2):=by
 have hfit:es.length*k+es2.length*k≤c.size:=by rw [←Nat.add_mul,g2];exact Nat.mul_le_mul_right k hroom
 refine ⟨_,et,hb,by rw [kD];exact g2,by simpa using hroom,?_,?_⟩
 ·intro e he
  rcases List.mem_append.1 he with h|h
  ·exact g4 e h
  ·exact hk2 e h
 ·intro i j e d x hi hj hx
  have hj':=(List.getElem?_eq_some_iff.1 hj).1
  rw [zDO _ _ _ _ (by rw [hl];exact hfit)] at hx
  by_cases hlt:i<es.length
  ·rw [List.getElem?_append_left hlt] at hi
   have:=g4 e (List.mem_of_getElem? hi)
   have h1:(i+1)*k≤es.length*k:=Nat.mul_le_mul_right k (by omega)
   rw [Nat.succ_mul] at h1
   rw [if_neg (by omega)] at hx
   exact g5 i j e d x hi hj hx
  ·rw [List.getElem?_append_right (by omega)] at hi
   have he:=hk2 e (List.mem_of_getElem? hi)
   have hi2:=(List.getElem?_eq_some_iff.1 hi).1
   have h1:es.length*k≤i*k:=Nat.mul_le_mul_right k (by omega)
   have h2:(i-es.length)*k=i*k-es.length*k:=Nat.sub_mul ..
   have h3:(i-es.length+1)*k≤es2.length*k:=Nat.mul_le_mul_right k (by omega)
   rw [Nat.succ_mul] at h3
   rw [if_pos (by rw [hl];omega)] at hx
   obtain ⟨y,hy,hr⟩:=h (i-es.length) j e d hi hj
   have h4:i*k+j-es.length*k=(i-es.length)*k+j:=by omega
   rw [h4,hy,Option.some.injEq] at hx
   subst hx;exact hr
theorem zMf {w':World} {b k cap:Nat} {es es2:List V} {et:TypeId} {old cells:List Value} {rest:Array Value} (hk1: ∀e,e∈es→e.cells.length=k) (hk2: ∀e,e∈es2→e.cells.length=k)
  (hl1:old.length=es.length*k) (hl2:cells.length=es2.length*k)
  (h1: ∀ (i j:Nat) (e d:V),es[i]? =some e→e.cells[j]? =some d→ ∃x,old[i*k+j]? =some x∧Rd w' F x d)
  (h2: ∀ (i j:Nat) (e d:V),es2[i]? =some e→e.cells[j]? =some d→ ∃x,cells[i*k+j]? =some x∧Rd w' F x d) (hcap:es.length+es2.length≤cap)
  (hrest:rest.size=(cap- (es.length+es2.length))*k)
  (hb:w'.heap[b]? =some (.cells (old.toArray++(cells.toArray++rest)) et (0,0))):zW w' F b k cap (es++es2):=by
 refine ⟨_,et,hb,?_,by simpa using hcap,?_,?_⟩
 ·simp only [Array.size_append,List.size_toArray,hl1,hl2,hrest,Nat.sub_mul,Nat.add_mul]
  have:(es.length+es2.length)*k≤cap*k:=Nat.mul_le_mul_right k hcap
  rw [Nat.add_mul] at this;omega
 ·intro e he
  rcases List.mem_append.1 he with h|h
  ·exact hk1 e h
  ·exact hk2 e h
 ·intro i j e d x hi hj hx
  have hj':=(List.getElem?_eq_some_iff.1 hj).1
  by_cases hlt:i<es.length
  ·rw [List.getElem?_append_left hlt] at hi
   have:=hk1 e (List.mem_of_getElem? hi)
   have h3:(i+1)*k≤es.length*k:=Nat.mul_le_mul_right k (by omega)
   rw [Nat.succ_mul] at h3
   rw [Array.getElem?_append_left (by simp;omega)] at hx
   obtain ⟨y,hy,hr⟩:=h1 i j e d hi hj
   simp only [List.getElem?_toArray] at hx
   rw [hy,Option.some.injEq] at hx
   subst hx;exact hr
  ·rw [List.getElem?_append_right (by omega)] at hi
   have he:=hk2 e (List.mem_of_getElem? hi)
   have hi2:=(List.getElem?_eq_some_iff.1 hi).1
   have h3:es.length*k≤i*k:=Nat.mul_le_mul_right k (by omega)
   have h4:(i-es.length)*k=i*k-es.length*k:=Nat.sub_mul ..
   have h5:(i-es.length+1)*k≤es2.length*k:=Nat.mul_le_mul_right k (by omega)
   rw [Nat.succ_mul] at h5
   rw [Array.getElem?_append_right (by simp;omega)] at hx
   simp only [List.size_toArray,hl1] at hx
   have h6:i*k+j-es.length*k=(i-es.length)*k+j:=by omega
   rw [h6,Array.getElem?_append_left (by simp;omega)] at hx
   obtain ⟨y,hy,hr⟩:=h2 (i-es.length) j e d hi hj
   simp only [List.getElem?_toArray] at hx
   rw [hy,Option.some.injEq] at hx
   subst hx;exact hr
end
section
variable {Γ:Sig} {P:Program} {G:Nat→Option (List V)} {S:qZ Γ} {o:Oper} {a:Act} {w0:World} {F0:Blk→Prop} {O0:kC} {w:World} {e e':Env Γ.St}
theorem Inv.own {F:Blk→Prop} {O:Nat→Prop} {β β':Lay} {w':World} {d id k:Nat} {es:List V} {v:Value} {cap:Nat} {al':Site→Prop}
  (hG:zBH G w F) (hsz:a.tmps.size=e.tm.length) (hdf:a.defers=[])
  (ht: ∀t,zE w F β (alive e) (a.tmps.getD t undef) (e.get t)) (hv: ∀s cs,e.var s=some cs→z7 w F β (alive e) (β.vb s) cs)
  (hal:al'=fun x=>alm id (alive e) x∨x= .o id)
  (hc':Core Γ w0 F0 O0 w' F O β' al' e.st) (hext:Ext w F β (alm id (alive e)) w' F β' al')
  (hval:v= .slice (some ⟨β'.ob id,0,none⟩) es.length cap) (hrow:zW w' F (β'.ob id) k cap es):
  Inv Γ G w0 F0 O0 (a.put (some d) v) w' { (e.kill id) with tm:=(e.kill id).tm.set d (.ow id k es) } :=by
 have hnew:al' (.o id):=by rw [hal];exact .inr rfl
 refine Inv.of (al:=al') hc' (hG.ext hext) (by simp [Act.put,Env.kill,hsz]) hdf ?_ ?_ ?_
 ·intro t
  rw [uY,vA]
  have hlen:(e.kill id).tm.length=a.tmps.size:=by simp [Env.kill,hsz]
  rw [hlen]
  split
  ·exact ⟨hnew,cap,hval,hrow⟩
  ·rw [zC3];exact (zE.kill (ht t)).ext hext
 ·intro s cs hcs
  have hcs':(e.kill id).var s=some cs:=hcs
  rw [vQ] at hcs'
  split at hcs'
  ·cases hcs'
  ·rename_i hne
   simp only [Option.map_eq_some_iff] at hcs'
   obtain ⟨cs0,hcs0,rfl⟩:=hcs'
   have ha:alm id (alive e) (.v s):=⟨⟨cs0,hcs0⟩,by simpa using hne,by simp⟩
   refine ⟨hext.a _ ha,?_⟩
   have hb:β'.vb s=β.vb s:=hext.b (.v s) ha
   rw [hb]
   exact (z7.kill (hv s cs0 hcs0)).ext hext (hext.ha (.v s) ha)
 ·intro s hs
  rw [hal] at hs
  rcases hs with ⟨⟨cs,hcs⟩,hne,_⟩|h
  ·have hne':s≠id:=by simpa using hne
   refine ⟨cs.map (zO id),?_⟩
   show (e.kill id).var s=_
   rw [vQ,if_neg hne',hcs];rfl
  ·cases h
theorem Core.drew {F:Blk→Prop} {O:Nat→Prop} {β:Lay} {al:Site→Prop} {st:Γ.St} (hc:Core Γ w0 F0 O0 w F O β al st):Core Γ w0 F0 O0 w.drew F O β al st:=
 ⟨⟨hc.keep.os,hc.keep.tape,hc.keep.output,hc.keep.size,hc.keep.block,Nat.le_trans hc.keep.drawn (Nat.le_succ _)⟩,Γ.mono hc.sig (fun _ _ _ _=>Iff.rfl) (fun _ _=>rfl),hc.oin,hc.fin,hc.f0,hc.place,hc.dist,hc.lent⟩
theorem zMT {w':World} {F F':Blk→Prop} {β β':Lay} {al al':Site→Prop} (h:Ext w.drew F β al w' F' β' al'):Ext w F β al w' F' β' al':=
 ⟨h.f,h.hf,h.a,h.b,h.ha⟩
def zIy (z:Value):Nat:=z.cells.size
def zCF (info:TypeInfo) (z:Value) (es2:List V):Bool:=
 es2.all (fun q=>q.cells.length==info.size&&q.cells.all V.one)&&decide (1≤info.bytes)&&zIy z==info.size
def qT (P:qK) (G:Nat→Option (List V)) (e:Env Γ.St) (nm:Option Nat) (dst:Option Tmp) (c:Call):Option (Env Γ.St):=
 match c.callee,c.args.toList,c.argTypes.toList,dst with
 | .builtin .append,[x0,x1],[t0,t1],some d=>
  match P.und t0,P.und t1 with
  |some (.slice el),some (.slice _)=>match P.inf el with
   |some info=>match info.zero,zAJ (evx G e x1) with
    |some z,some es2=>
     if zCF info z es2 then
      match evx G e x0 with
      | .ow id k es=>if k=info.size∧(2*(es.length+es2.length)+1024)*info.bytes≤140737488355328∧id≠qA then
        some { (e.kill id) with tm:=(e.kill id).tm.set d (.ow id k (es++es2)) } else none
      |x=>match zAJ x with
       |some []=>match x with
        | .p (.sl _)=>none
        | .ov _ _ _ _ _=>none
        |_=>match es2 with
         |[]=>some (e.put (some d) x)
         |q::r=>if (2*(q::r).length+1024)*info.bytes≤140737488355328∧nm.getD d≠qA then some { (e.kill (nm.getD d)) with tm:=(e.kill (nm.getD d)).tm.set d (.ow (nm.getD d) info.size (q::r)) } else none
       |_=>none
     else none
    |_,_=>none
   |none=>none
  |_,_=>none
 |_,_,_,_=>none
def uD (P:qK) (G:Nat→Option (List V)) (e:Env Γ.St) (dst:Option Tmp) (c:Call):Option (Env Γ.St):=qT P G e none dst c
theorem zAB (hi:Inv Γ G w0 F0 O0 a w e) {dst:Option Tmp} {c:Call} {type:TypeId} {pos:String} {after:Array Edge} {guard:Option (Nat×Bool)}
  {nm:Option Nat} (h:qT P G e nm dst c=some e') {Q:Exit→Act→World→Prop} :
  (⟨dst, .call c,type,pos,after,guard⟩:Oper).wp P a w (fun a' w'=>Inv Γ G w0 F0 O0 a' w' e') Q:=by
 obtain ⟨F,O,β,hc,hG,hsz,hdf,ht,hv⟩:=hi
 unfold qT at h
 split at h
 ·rename_i x0 x1 t0 t1 d hcal hargs htys
  split at h
  ·rename_i el el1 hu0 hu1
   split at h
   ·rename_i info hinfo
    split at h
    ·rename_i z es2 hz hes2
     split at h
     ·rename_i hok
      simp only [zCF,Bool.and_eq_true,decide_eq_true_eq,beq_iff_eq,List.all_eq_true] at hok
      obtain ⟨⟨hall,hbytes⟩,hzc⟩:=hok
      have hk2: ∀q,q∈es2→q.cells.length=info.size:=fun q hq=>(hall q hq).1
      have ho2: ∀q,q∈es2→q.cells.all V.one=true:=fun q hq=>List.all_eq_true.2 (fun y hy=>(hall q hq).2 y hy)
      obtain ⟨a1,cap1,cells,hv1,hcap1,hl2,hrun2,hr2⟩:=zK0 (P:=P) (wS hG ht x1) hes2 hk2
      have hargs':c.args= #[x0,x1]:=by apply Array.ext';simpa using hargs
      have ht0:c.argTypes[0]? =some t0:=by rw [←Array.getElem?_toList,htys];rfl
      have ht1:c.argTypes[1]? =some t1:=by rw [←Array.getElem?_toList,htys];rfl
      have hexec: ∀r,(Builtin.append_ c.argTypes type #[a.eval x0,a.eval x1]).run P w=r→(execOp a.eval ⟨some d, .call c,type,pos,after,guard⟩).run P w=r.andThen fun v w'=> .ok (.value v) w':=by
       intro r hr
       simp [execOp,resolve,hcal,hargs',invoke,builtin,hr]
      have hx0:=wS hG ht x0
      have hs:z9 P el=some info.size:=zAZ hinfo
      have hrest: ∀m,(Builtin.zeroCells z.cells m).size=m*info.size:=by
       intro m;simp only [Builtin.zeroCells,Array.size_map,Array.size_range];rw [show z.cells.size=info.size from hzc]
      split at h
      ·rename_i id k es hex0
       split at h
       ·rename_i hcond
        obtain ⟨rfl,hbound,hnl⟩:=hcond
        simp only [Option.some.injEq] at h
        subst h
        rw [hex0] at hx0
        obtain ⟨ha,cap,hv0,cc,et,g1,g2,g3,g4,g5⟩:=hx0
        have hp:=hc.place (.o id) ha
        have halm: ∀x,alm id (alive e) x→β.blk x≠β.ob id:=fun x hx hh=>hx.2.2 (hc.dist x (.o id) hx.1 ha hh)
        unfold Oper.wp
        by_cases hroom:es.length+es2.length≤cap
        ·have hfit:es.length*info.size+es2.length*info.size≤cc.size:=by rw [←Nat.add_mul,g2];exact Nat.mul_le_mul_right _ hroom
         have hrun:=run_append_room (P:=P) (w:=w) (ts:=c.argTypes) (ty:=type) (b:=β.ob id) (off:=0) (len:=es.length) (cap:=cap) (n:=es2.length) (cap1:=cap1) (a1:=a1) (cells:=cells) (c:=cc) (et:=et) ht0 ht1 hu0 hu1 hs
          (by rw [←hv1];exact hrun2 w rfl) hl2 g1 (by omega) (zSo hl2 hk2 ho2 hr2) hroom
         rw [←hv0, ←hv1] at hrun
         simp only [Nat.zero_add] at hrun
         rw [hexec _ hrun]
         simp only [Result.andThen_ok,Oper.upon]
         have hal': ∀x,(alm id (alive e) x∨x= .o id)→alive e x:=fun x hx=>hx.elim (fun h=>h.1) (fun h=>h▸ha)
         have hext:Ext w F β (alm id (alive e)) (setBlk w (β.ob id) (.cells (qE cc (es.length*info.size) cells) et (0,0))) F β (fun x=>alm id (alive e) x∨x= .o id):=
          ⟨fun _ h=>h,fun b hb=>zR (fun hh=>hp.2.2.1 (by rw [hh] at hb;exact hb)),fun _ h=> .inl h,fun _ _=>rfl,fun x hx=>zR (halm x hx)⟩
         refine Inv.own (cap:=cap) hG hsz hdf ht hv rfl ((hc.setBlk ha _ (fun c' et' fl' hh=>by rw [show w.heap[β.blk (.o id)]? =_ from g1] at hh;simp only [Option.some.injEq,Obj.cells.injEq] at hh;exact ⟨_,_,_,rfl,by rw [kD,hh.1]⟩)).anti hal') hext (by simp) ?_
         refine zQR g2 g4 (fun i j q y x hi hj hx=>Rd.ext hext (g5 i j q y x hi hj hx)) hk2 hl2 (fun i j q y hi hj=> ?_) hroom (zAa hp.2.1)
         obtain ⟨x,hx,hr⟩:=hr2 i j q y hi hj
         exact ⟨x,hx,Rd.ext hext hr⟩
        ·have hx0':zE w F β (alive e) (a.eval x0) (.ow id info.size es):=⟨ha,cap,hv0,cc,et,g1,g2,g3,g4,g5⟩
         obtain ⟨a0,cap0,old,hv0',hcap0,hl1,hrun1,hr1⟩:=zK0 (P:=P) (k:=info.size) hx0' rfl g4
         have hcc:cap0=cap:=by rw [hv0] at hv0';simp at hv0';exact hv0'.2.symm
         subst hcc
         obtain ⟨newCap,hnc,hrun⟩:=run_append_grow (P:=P) (w:=w) (ts:=c.argTypes) (ty:=type) (len:=es.length) (cap:=cap0) (n:=es2.length) (cap1:=cap1) (a0:=a0) (a1:=a1) (cells:=cells) (old:=old) ht0 ht1 hu0 hu1 hinfo hz
          (by rw [←hv1];exact hrun2 w.drew rfl) (by rw [←hv0'];exact hrun1 w.drew rfl) hroom hbytes hbound
         rw [←hv0', ←hv1] at hrun
         rw [hexec _ hrun]
         simp only [Result.andThen_ok,Oper.upon]
         let β':Lay:= { β with ob:=fun s=>if s=id then w.heap.size else β.ob s }
         have hb: ∀x,alm id (alive e) x→β'.blk x=β.blk x:=by
          intro x hx
          cases x with
          |o s=>
           have hne:s≠id:=fun hh=>hx.2.2 (by rw [hh])
           simp [Lay.blk,β',hne]
          |v s=>rfl
         have hob:β'.ob id=w.heap.size:=by simp [β']
         have hcm:=(hc.drew.anti (al':=alm id (alive e)) (fun x hx=>hx.1))
         have hcore:=hcm.push (.cells (old.toArray++(cells.toArray++Builtin.zeroCells z.cells (newCap- (es.length+es2.length)))) el) β' (.o id) (fun hh=>hnl (by cases hh;rfl)) hob hb
         have hext:Ext w F β (alm id (alive e)) (w.drew.alloc (.cells (old.toArray++(cells.toArray++Builtin.zeroCells z.cells (newCap- (es.length+es2.length)))) el)) F β' (fun x=>alm id (alive e) x∨x= .o id):=
          zMT (hcm.push_ext (.cells (old.toArray++(cells.toArray++Builtin.zeroCells z.cells (newCap- (es.length+es2.length)))) el) β' (fun x=>alm id (alive e) x∨x= .o id) hb (fun x hx=> .inl hx))
         refine Inv.own (cap:=newCap) hG hsz hdf ht hv rfl hcore hext (by rw [hob];simp) ?_
         rw [hob]
         refine zMf g4 hk2 hl1 hl2 (fun i j q y hi hj=> ?_) (fun i j q y hi hj=> ?_) hnc (hrest _) (zAu (w:=w.drew))
         ·obtain ⟨x,hx,hr⟩:=hr1 i j q y hi hj
          exact ⟨x,hx,Rd.ext hext hr⟩
         ·obtain ⟨x,hx,hr⟩:=hr2 i j q y hi hj
          exact ⟨x,hx,Rd.ext hext hr⟩
       ·cases h
      ·rename_i hnow
       split at h
       ·rename_i hnil
        have hemp:(∀es0,evx G e x0≠ .p (.sl es0))→(∀i t xs lo hi,evx G e x0≠ .ov i t xs lo hi)→ ∃a0,a.eval x0= .slice a0 0 0:=by
         intro hns hnov
         unfold zAJ at hnil
         split at hnil
         ·rename_i es0 heq;exact absurd heq (hns es0)
         ·rename_i heq
          rw [heq] at hx0
          exact ⟨none,Rd.eq_val hx0⟩
         ·rename_i i0 k0 es0 heq;exact absurd heq (hnow i0 k0 es0)
         ·rename_i heq
          rw [heq] at hx0
          obtain ⟨a0,ha0⟩:=hx0
          exact ⟨a0,ha0⟩
         ·rename_i heq;exact absurd heq (hnov _ _ _ _ _)
         ·cases hnil
        split at h
        ·cases h
        ·cases h
        ·rename_i hns hnov
         obtain ⟨a0,hv0⟩:=hemp hns hnov
         unfold Oper.wp
         split at h
         ·simp only [Option.some.injEq] at h
          subst h
          have hrun:(Builtin.append_ c.argTypes type #[a.eval x0,a.eval x1]).run P w= .ok (.slice a0 0 0) w:=by
           rw [hv0,hv1]
           have hr:=hrun2 w rfl
           rw [hv1] at hr
           have hcn:cells=[]:=List.eq_nil_of_length_eq_zero (by simpa using hl2)
           subst hcn
           simp only [List.length_nil] at hr ⊢
           cases a0 with
           |none=>simp [Builtin.append_,ht0,ht1,zC hu0,zC hu1,run_sizeOf hs,Builtin.lenOf,hr]
           |some ad=>simp [Builtin.append_,ht0,ht1,zC hu0,zC hu1,run_sizeOf hs,Builtin.lenOf,hr,storeCells]
          rw [hexec _ hrun]
          simp only [Result.andThen_ok,Oper.upon]
          refine Inv.of (al:=alive e) hc hG (by simp [Act.put,Env.put,hsz]) hdf ?_ (fun s cs hcs=>⟨⟨cs,hcs⟩,hv s cs hcs⟩) (fun s hs=>hs)
          intro t
          simp only [Env.put]
          rw [uY,vA,hsz]
          split
          ·rw [←hv0];exact hx0
          ·exact ht t
         ·rename_i q r
          split at h
          ·rename_i hbound0
           obtain ⟨hbound,hnl⟩:=hbound0
           simp only [Option.some.injEq] at h
           subst h
           obtain ⟨a0',cap0,old,hv0',hcap0,hl1,hrun1,hr1⟩:=zK0 (P:=P) (k:=info.size) hx0 hnil (by simp)
           rw [hv0] at hrun1
           have hold:old=[]:=List.eq_nil_of_length_eq_zero (by simpa using hl1)
           subst hold
           obtain ⟨newCap,hnc,hrun⟩:=run_append_grow (P:=P) (w:=w) (ts:=c.argTypes) (ty:=type) (len:=0) (cap:=0) (n:=(q::r).length) (cap1:=cap1) (a0:=a0) (a1:=a1) (cells:=cells) (old:=[]) ht0 ht1 hu0 hu1 hinfo hz
            (by rw [←hv1];exact hrun2 w.drew rfl) (by exact hrun1 w.drew rfl) (by simp) hbytes (by simpa using hbound)
           rw [←hv0, ←hv1] at hrun
           rw [hexec _ hrun]
           simp only [Result.andThen_ok,Oper.upon]
           simp only [Nat.zero_add] at hnc ⊢
           let β':Lay:= { β with ob:=fun s=>if s=nm.getD d then w.heap.size else β.ob s }
           have hb: ∀x,alm (nm.getD d) (alive e) x→β'.blk x=β.blk x:=by
            intro x hx
            cases x with
            |o s=>
             have hne:s≠nm.getD d:=fun hh=>hx.2.2 (by rw [hh])
             simp [Lay.blk,β',hne]
            |v s=>rfl
           have hob:β'.ob (nm.getD d)=w.heap.size:=by simp [β']
           have hcm:=(hc.drew.anti (al':=alm (nm.getD d) (alive e)) (fun x hx=>hx.1))
           have hcore:=hcm.push (.cells (([]:List Value).toArray++(cells.toArray++Builtin.zeroCells z.cells (newCap- (q::r).length))) el) β' (.o (nm.getD d)) (fun hh=>hnl (by injection hh)) hob hb
           have hext:=hcm.push_ext (.cells (([]:List Value).toArray++(cells.toArray++Builtin.zeroCells z.cells (newCap- (q::r).length))) el) β' (fun x=>alm (nm.getD d) (alive e) x∨x= .o (nm.getD d)) hb (fun x hx=> .inl hx)
           have hext':Ext w F β (alm (nm.getD d) (alive e)) (w.drew.alloc (.cells (([]:List Value).toArray++(cells.toArray++Builtin.zeroCells z.cells (newCap- (q::r).length))) el)) F β' (fun x=>alm (nm.getD d) (alive e) x∨x= .o (nm.getD d)):=zMT hext
           refine Inv.own (cap:=newCap) hG hsz hdf ht hv rfl hcore hext' (by rw [hob]) ?_
           rw [hob]
           have:=zMf (w':=w.drew.alloc (.cells (([]:List Value).toArray++(cells.toArray++Builtin.zeroCells z.cells (newCap- (q::r).length))) el)) (F:=F) (b:=w.heap.size) (k:=info.size) (cap:=newCap) (es:=[]) (es2:=q::r) (et:=el) (old:=[]) (cells:=cells)
            (by simp) hk2 (by simp) hl2 (fun i j q y hi hj=>by simp at hi) (fun i j q' y hi hj=>by
             obtain ⟨x,hx,hr⟩:=hr2 i j q' y hi hj
             exact ⟨x,hx,Rd.ext hext' hr⟩) (by simpa using hnc) (by simpa using hrest _) (zAu (w:=w.drew))
           simpa using this
          ·cases h
       ·cases h
     ·cases h
    ·cases h
   ·cases h
  ·cases h
 ·cases h
theorem zOq (hi:Inv Γ G w0 F0 O0 a w e) {dst:Option Tmp} {c:Call} {type:TypeId} {pos:String} {after:Array Edge} {guard:Option (Nat×Bool)}
  (h:uD P G e dst c=some e') {Q:Exit→Act→World→Prop} :
  (⟨dst, .call c,type,pos,after,guard⟩:Oper).wp P a w (fun a' w'=>Inv Γ G w0 F0 O0 a' w' e') Q:=zAB hi h
end
end Go.Ve

namespace Go.Ve
open Go
section
variable {St:Type}
def Env.mapT (f:T→T) (e:Env St):Env St:= { e with tm:=e.tm.map f,vars:=e.vars.map (fun c=>c.map (List.map f)) }
theorem qH {f:T→T} (hf:f .dead= .dead) (e:Env St) (t:Nat):(e.mapT f).get t=f (e.get t):=by
 simp only [Env.mapT,Env.get,List.getD_eq_getElem?_getD,List.getElem?_map]
 cases e.tm[t]? <;>simp [hf]
theorem zS {f:T→T} (e:Env St) (s:Nat):(e.mapT f).var s=(e.var s).map (List.map f):=by
 simp only [Env.mapT,Env.var,List.getElem?_map]
 cases e.vars[s]? <;>rfl
end
def WkT (x y:T):Prop:= ∀ (w:World) (F:Blk→Prop) (β:Lay) (al:Site→Prop) (v:Value),zE w F β al v x→zE w F β al v y
def uO:List T→List T→Prop
 |[],[]=>True
 |x::xs,y::ys=>WkT x y∧uO xs ys
 |_,_=>False
theorem WkT.refl (x:T):WkT x x:=fun _ _ _ _ _ h=>h
theorem WkT.dead (x:T):WkT x .dead:=fun _ _ _ _ _ _=>trivial
theorem WkT.un (x:T):WkT x x.un:=fun _ _ _ _ _ h=>yG.1 h
theorem WkT.ofUn (x:T):WkT x.un x:=fun _ _ _ _ _ h=>yG.2 h
theorem uO.refl: ∀ (l:List T),uO l l
 |[]=>trivial
 |x::l=>⟨.refl x,uO.refl l⟩
theorem uO.map {f g:T→T} (h: ∀x,WkT (f x) (g x)): ∀ (l:List T),uO (l.map f) (l.map g)
 |[]=>trivial
 |x::l=>⟨h x,uO.map h l⟩
theorem uO.get: ∀ {xs ys:List T} (_:uO xs ys) (i:Nat) (x y:T),xs[i]? =some x→ys[i]? =some y→WkT x y
 |[],[],_,i,x,y,h1,_=>by simp at h1
 |a::xs,b::ys,h,i,x,y,h1,h2=>by
  cases i with
  |zero=>simp at h1 h2;subst h1 h2;exact h.1
  |succ i=>exact uO.get h.2 i x y (by simpa using h1) (by simpa using h2)
theorem uO.len: ∀ {xs ys:List T} (_:uO xs ys),xs.length=ys.length
 |[],[],_=>rfl
 |a::xs,b::ys,h=>by simp [uO.len h.2]
section
variable {Γ:Sig} {P:Program} {G:Nat→Option (List V)} {S:qZ Γ} {o:Oper} {a:Act} {w0:World} {F0:Blk→Prop} {O0:kC} {w:World} {e e':Env Γ.St}
def zUb (e e2:Env Γ.St):Prop:= ∀s,match e.var s,e2.var s with
 |none,none=>True
 |some cs,some cs2=>uO cs cs2
 |_,_=>False
theorem Inv.weak {e2:Env Γ.St} (h:Inv Γ G w0 F0 O0 a w e) (hl:e2.tm.length=e.tm.length) (hst:e2.st=e.st) (ht2: ∀t,WkT (e.get t) (e2.get t)) (hv2:zUb e e2):
  Inv Γ G w0 F0 O0 a w e2:=by
 obtain ⟨F,O,β,hc,hG,hsz,hdf,ht,hv⟩:=h
 refine Inv.of (al:=alive e) (by rw [hst];exact hc) hG (by rw [hl];exact hsz) hdf (fun t=>ht2 t _ _ _ _ _ (ht t)) ?_ ?_
 ·intro s cs2 hcs2
  have h1:=hv2 s
  rw [hcs2] at h1
  cases hcs:e.var s with
  |none=>rw [hcs] at h1;exact h1.elim
  |some cs=>
   rw [hcs] at h1
   obtain ⟨c,et,g1,g2,g3⟩:=hv s cs hcs
   refine ⟨⟨cs,hcs⟩,c,et,g1,g2.trans h1.len,?_⟩
   intro i x y hx hy
   have hlt:i<cs.length:=by rw [h1.len];exact (List.getElem?_eq_some_iff.1 hy).1
   exact h1.get i cs[i] y (by simp [hlt]) hy _ _ _ _ _ (g3 i x cs[i] hx (by simp [hlt]))
 ·rintro s ⟨cs,hcs⟩
  have h1:=hv2 s
  rw [hcs] at h1
  cases hcs2:e2.var s with
  |none=>rw [hcs2] at h1;exact h1.elim
  |some cs2=>exact ⟨cs2,rfl⟩
theorem zD6 (x:Operand):evx G (e.mapT T.un) x=(evx G e x).un:=by
 cases x with
 |tmp t=>exact qH rfl e t
 |const v=>
  simp only [evx]
  cases v with
  |tuple vs=>rfl
  |agg cs=>rfl
  |_=>rfl
 |global g=>simp only [evx];cases G g<;>rfl
 |func f=>rfl
theorem Inv.un (h:Inv Γ G w0 F0 O0 a w e):Inv Γ G w0 F0 O0 a w (e.mapT T.un):=by
 refine h.weak (by simp [Env.mapT]) rfl (fun t=>by rw [qH rfl];exact WkT.un _) ?_
 intro s
 rw [zS]
 cases hs:e.var s with
 |none=>trivial
 |some cs=>
  have:=uO.map (f:=id) (g:=T.un) (fun x=>WkT.un x) cs
  simpa using this
theorem zOY (n:Nat) (x:T):WkT (zO n x.un) (zO n x):=by
 cases x with
 |p d=>
  cases d with
  |tl t xs=>exact WkT.ofUn (.p (.tl t xs))
  |_=>exact .refl _
 |ot i t xs=>
  cases xs with
  |nil=>
   simp only [zO,T.un,List.map_nil]
   split
   ·exact .dead _
   ·exact WkT.ofUn (.ot i t [])
  |cons x xs=>
   simp only [zO,T.un,List.map_cons]
   split
   ·exact .dead _
   ·exact WkT.ofUn (.ot i t (x::xs))
 |oet i t xs j off=>
  simp only [zO,T.un]
  split
  ·exact .dead _
  ·exact WkT.ofUn (.oet i t xs j off)
 |_=>exact .refl _
theorem cells_one (t:Ty) (x:t.El):(t.cells x).all V.one=true:=by
 induction t with
 |pair a b iha ihb=>simp only [Ty.cells,List.all_append,iha,ihb,Bool.and_self]
 |_=>rfl
def zNt:T→Option ((t:Ty)×List t.El)
 | .p (.tl t xs)=>some ⟨t,xs⟩
 | .ot _ t xs=>some ⟨t,xs⟩
 | .ov _ t xs lo hi=>some ⟨t,(xs.take hi).drop lo⟩
 |_=>none
def zMS (t:Ty):T→Option (Option Nat×List t.El)
 | .p (.val (.slice none 0 0))=>some (none,[])
 | .emp=>some (none,[])
 | .ot id t' xs=>if h:t'=t then some (some id,h▸xs) else none
 |_=>none
def jC (P:qK) (G:Nat→Option (List V)) (e:Env Γ.St) (dst:Option Tmp) (c:Call):Option (Env Γ.St):=
 match c.callee,c.args.toList,c.argTypes.toList,dst with
 | .builtin .append,[x0,x1],[t0,t1],some d=>
  match P.und t0,P.und t1 with
  |some (.slice el),some (.slice _)=>match P.inf el with
   |some info=>match info.zero,zNt (evx G e x1) with
    |some z,some ⟨t,ys⟩=>match zMS t (evx G e x0) with
     |some (nm,xs)=>
      if t.size=info.size∧1≤info.bytes∧zIy z=info.size∧nm.getD d≠qA then
       if (2*(xs.length+ys.length)+1024)*info.bytes≤140737488355328 then
        some { (e.kill (nm.getD d)) with tm:=(e.kill (nm.getD d)).tm.set d (.ot (nm.getD d) t (xs++ys)) }
       else none
      else none
     |none=>none
    |_,_=>none
   |none=>none
  |_,_=>none
 |_,_,_,_=>none
theorem zF4 {n d:Nat} {X Y:T} (hXY:WkT X Y) (h:Inv Γ G w0 F0 O0 a w { ((e.mapT T.un).kill n) with tm:=((e.mapT T.un).kill n).tm.set d X }):
  Inv Γ G w0 F0 O0 a w { (e.kill n) with tm:=(e.kill n).tm.set d Y } :=by
 refine h.weak (by simp [Env.kill,Env.mapT]) rfl ?_ ?_
 ·intro t
  rw [vA,vA]
  have hlen:((e.mapT T.un).kill n).tm.length=(e.kill n).tm.length:=by simp [Env.kill,Env.mapT]
  rw [hlen]
  split
  ·exact hXY
  ·rw [zC3,zC3,qH rfl]
   exact zOY n _
 ·intro s
  have h1:({ ((e.mapT T.un).kill n) with tm:=((e.mapT T.un).kill n).tm.set d X } :Env Γ.St).var s=((e.mapT T.un).kill n).var s:=rfl
  have h2:({ (e.kill n) with tm:=(e.kill n).tm.set d Y } :Env Γ.St).var s=(e.kill n).var s:=rfl
  rw [h1,h2,vQ,vQ,zS]
  by_cases hs:s=n
  ·rw [if_pos hs,if_pos hs];trivial
  ·rw [if_neg hs,if_neg hs]
   cases e.var s with
   |none=>trivial
   |some cs=>
    simp only [Option.map_some,List.map_map]
    exact uO.map (fun x=>zOY n x) cs
theorem zH2 (hi:Inv Γ G w0 F0 O0 a w e) {dst:Option Tmp} {c:Call} {type:TypeId} {pos:String} {after:Array Edge} {guard:Option (Nat×Bool)}
  (h:jC P G e dst c=some e') {Q:Exit→Act→World→Prop} :
  (⟨dst, .call c,type,pos,after,guard⟩:Oper).wp P a w (fun a' w'=>Inv Γ G w0 F0 O0 a' w' e') Q:=by
 unfold jC at h
 split at h
 ·rename_i x0 x1 t0 t1 d hcal hargs htys
  split at h
  ·rename_i el el1 hu0 hu1
   have hu0':P.underlying t0=some (.slice el):=hu0
   have hu1':P.underlying t1=some (.slice el1):=hu1
   split at h
   ·rename_i info hinfo
    have hinfo':P.info? el=some info:=hinfo
    split at h
    ·rename_i z t ys hz hsrc
     split at h
     ·rename_i nm xs hdst
      split at h
      ·rename_i hok
       obtain ⟨hsz,hby,hzc,hnl⟩:=hok
       split at h
       ·rename_i hbound
        simp only [Option.some.injEq] at h
        subst h
        have hsu:zAJ (evx G (e.mapT T.un) x1)=some (ys.map t.enc):=by
         rw [zD6]
         unfold zNt at hsrc
         split at hsrc
         ·rename_i heq
          simp only [Option.some.injEq,Sigma.mk.injEq] at hsrc
          obtain ⟨rfl,hys⟩:=hsrc
          cases hys
          rw [heq];rfl
         ·rename_i i0 ys0 heq
          simp only [Option.some.injEq,Sigma.mk.injEq] at hsrc
          obtain ⟨rfl,hys⟩:=hsrc
          cases hys
          rw [heq]
          cases ys0<;>rfl
         ·rename_i i0 xs0 lo0 hi0 heq
          simp only [Option.some.injEq,Sigma.mk.injEq] at hsrc
          obtain ⟨rfl,hys⟩:=hsrc
          cases hys
          rw [heq];rfl
         ·cases hsrc
        have hao:zCF info z (ys.map t.enc)=true:=by
         simp only [zCF,Bool.and_eq_true,decide_eq_true_eq,beq_iff_eq,List.all_eq_true]
         refine ⟨⟨?_,hby⟩,hzc⟩
         intro q hq
         simp only [List.mem_map] at hq
         obtain ⟨y,_,rfl⟩:=hq
         refine ⟨by rw [jU];exact hsz,?_⟩
         rw [wG]
         exact fun y hy=>List.all_eq_true.1 (cells_one t _) y hy
        have hown: ∀id x xs',nm=some id→xs=x::xs'→evx G (e.mapT T.un) x0= .ow id t.size (xs.map t.enc)→(⟨some d, .call c,type,pos,after,guard⟩:Oper).wp P a w (fun a' w'=>Inv Γ G w0 F0 O0 a' w' { (e.kill (nm.getD d)) with tm:=(e.kill (nm.getD d)).tm.set d (.ot (nm.getD d) t (xs++ys)) }) Q:=by
         intro id x xs' hnm hxs hx0
         subst hnm
         have hev:qT P G (e.mapT T.un) (some id) (some d) c=some { ((e.mapT T.un).kill id) with tm:=((e.mapT T.un).kill id).tm.set d (.ow id t.size (xs.map t.enc++ys.map t.enc)) } :=by
          have hb':(2*((xs.map t.enc).length+(ys.map t.enc).length)+1024)*info.bytes≤140737488355328:=by simpa using hbound
          have hnl':id≠qA:=hnl
          simp only [qT,hcal,hargs,htys,hu0',hu1',hinfo',hz,hsu,hao,if_true,hx0]
          rw [if_pos ⟨hsz,hb',hnl'⟩]
         refine Oper.wp_mono (fun a' w' hh=> ?_) (zAB hi.un hev)
         refine zF4 ?_ hh
         have:(T.ot id t (xs++ys)).un= .ow id t.size (xs.map t.enc++ys.map t.enc):=by
          subst hxs;simp [T.un]
         rw [←this];exact WkT.ofUn _
        have hemp: ∀x:T,evx G (e.mapT T.un) x0=x→(x= .emp∨x= .p (.val (.slice none 0 0)))→xs=[]→(⟨some d, .call c,type,pos,after,guard⟩:Oper).wp P a w (fun a' w'=>Inv Γ G w0 F0 O0 a' w' { (e.kill (nm.getD d)) with tm:=(e.kill (nm.getD d)).tm.set d (.ot (nm.getD d) t (xs++ys)) }) Q:=by
         intro x hx0 hx hxs
         subst hxs
         have hel:zAJ x=some []:=by rcases hx with rfl|rfl<;>rfl
         cases ys with
         |nil=>
          have hev:qT P G (e.mapT T.un) nm (some d) c=some ((e.mapT T.un).put (some d) x):=by
           simp only [qT,hcal,hargs,htys,hu0',hu1',hinfo',hz,hsu,hao,if_true,hx0]
           rcases hx with rfl|rfl<;>simp [zAJ]
          refine Oper.wp_mono (fun a' w' hh=> ?_) (zAB hi.un hev)
          have hk:=hh.kill (nm.getD d)
          have heq:((e.mapT T.un).put (some d) x).kill (nm.getD d)= { ((e.mapT T.un).kill (nm.getD d)) with tm:=((e.mapT T.un).kill (nm.getD d)).tm.set d (zO (nm.getD d) x) } :=by
           simp [Env.kill,Env.put,List.map_set]
          rw [heq] at hk
          refine zF4 ?_ hk
          rcases hx with rfl|rfl
          ·exact fun w F β al v h=> .inl ⟨rfl,h⟩
          ·exact fun w F β al v h=> .inl ⟨rfl,none,Rd.eq_val h⟩
         |cons y ys=>
          have hev:qT P G (e.mapT T.un) nm (some d) c=some { ((e.mapT T.un).kill (nm.getD d)) with tm:=((e.mapT T.un).kill (nm.getD d)).tm.set d (.ow (nm.getD d) info.size ((y::ys).map t.enc)) } :=by
           have hb':(2*(t.enc y::ys.map t.enc).length+1024)*info.bytes≤140737488355328:=by simpa using hbound
           simp only [qT,hcal,hargs,htys,hu0',hu1',hinfo',hz,hsu,hao,if_true,hx0]
           rcases hx with rfl|rfl<;>(simp only [zAJ,List.map_cons];rw [if_pos ⟨hb',hnl⟩])
          refine Oper.wp_mono (fun a' w' hh=> ?_) (zAB hi.un hev)
          refine zF4 ?_ hh
          have:(T.ot (nm.getD d) t ([]++y::ys)).un= .ow (nm.getD d) info.size ((y::ys).map t.enc):=by
           simp [T.un,hsz]
          rw [←this];exact WkT.ofUn _
        unfold zMS at hdst
        split at hdst
        ·rename_i heq
         simp only [Option.some.injEq,Prod.mk.injEq] at hdst
         obtain ⟨rfl,rfl⟩:=hdst
         exact hemp _ rfl (by rw [zD6,heq];exact .inr rfl) rfl
        ·rename_i heq
         simp only [Option.some.injEq,Prod.mk.injEq] at hdst
         obtain ⟨rfl,rfl⟩:=hdst
         exact hemp _ rfl (by rw [zD6,heq];exact .inl rfl) rfl
        ·rename_i id t' xs0 heq
         split at hdst
         ·rename_i ht
          subst ht
          simp only [Option.some.injEq,Prod.mk.injEq] at hdst
          obtain ⟨rfl,rfl⟩:=hdst
          cases hxs:xs0 with
          |nil=>
           subst hxs
           exact hemp _ rfl (by rw [zD6,heq];exact .inl rfl) rfl
          |cons x xs'=>
           subst hxs
           exact hown id x xs' rfl rfl (by rw [zD6,heq];rfl)
         ·cases hdst
        ·cases hdst
       ·cases h
      ·cases h
     ·cases h
    ·cases h
   ·cases h
  ·cases h
 ·cases h
def zRk (p:Nat):Operand→Bool
 | .tmp q=> !Nat.beq q p
 |_=>true
def wF (P:qK) (G:Nat→Option (List V)) (e:Env Γ.St) (dst:Option Tmp) (c:Call):Option (Env Γ.St):=
 match c.callee,c.args.toList,c.argTypes.toList,dst with
 | .builtin .append,[.tmp p,x1],[t0,t1],some d=>
  match P.und t0,P.und t1 with
  |some (.slice el),some (.slice _)=>match P.inf el with
   |some info=>match info.zero,zNt (evx G e x1) with
    |some z,some ⟨t,y::ys⟩=>match e.get p with
     | .ov id t' xs 0 hi=>
      if zRk p x1=false then none else
      if h:t'=t then
       if t.size=info.size∧1≤info.bytes∧zIy z=info.size∧id≠qA then
        if (2*((List.take hi (h▸xs)).length+(y::ys).length)+1024)*info.bytes≤140737488355328 then
         some { (e.kill id) with tm:=(e.kill id).tm.set d (.ot id t (List.take hi (h▸xs)++y::ys)) }
        else none
       else none
      else none
     |_=>none
    |_,_=>none
   |none=>none
  |_,_=>none
 |_,_,_,_=>none
theorem zJr {x:Operand} {p:Nat} {X:T} (h: ∀t,x= .tmp t→t≠p):evx G (e.put (some p) X) x=evx G e x:=by
 cases x with
 |tmp t=>
  simp only [evx,Env.put,Env.get,List.getD_eq_getElem?_getD]
  rw [List.getElem?_set_ne (fun hh=>h t rfl hh.symm)]
 |_=>rfl
theorem Inv.putWeak (h:Inv Γ G w0 F0 O0 a w e) {p:Nat} {X:T} (hw:WkT (e.get p) X):Inv Γ G w0 F0 O0 a w (e.put (some p) X):=by
 refine h.weak (by simp [Env.put]) rfl ?_ ?_
 ·intro t
  simp only [Env.put]
  rw [vA]
  split
  ·rename_i ht;rw [ht.1];exact hw
  ·exact .refl _
 ·intro s
  have:(e.put (some p) X).var s=e.var s:=rfl
  rw [this]
  cases e.var s with
  |none=>trivial
  |some cs=>exact uO.refl cs
theorem zW.take {w:World} {F:Blk→Prop} {b k cap:Nat} {es:List V} (h:zW w F b k cap es) (n:Nat):zW w F b k cap (es.take n):=by
 obtain ⟨c,et,g1,g2,g3,g4,g5⟩:=h
 refine ⟨c,et,g1,g2,by simp;omega,fun e he=>g4 e (List.mem_of_mem_take he),?_⟩
 intro i j e d x hi hj hx
 rw [List.getElem?_take] at hi
 split at hi
 ·exact g5 i j e d x hi hj hx
 ·cases hi
theorem zMC {p id:Nat} {X:T} (h1:zO id X= .dead) (h2:zO id (e.get p)= .dead) (hp:p<e.tm.length):(e.put (some p) X).kill id=e.kill id:=by
 have:(e.tm.set p X).map (zO id)=e.tm.map (zO id):=by
  rw [List.map_set,h1]
  apply List.ext_getElem?
  intro i
  rw [List.getElem?_set]
  split
  ·rename_i hpi
   subst hpi
   rw [if_pos (by simpa using hp),List.getElem?_map,List.getElem?_eq_getElem hp]
   simp only [Env.get,List.getD_eq_getElem?_getD,List.getElem?_eq_getElem hp,Option.getD_some] at h2
   simp [h2]
  ·rfl
 simp only [Env.kill,Env.put,this]
theorem zNb (hi:Inv Γ G w0 F0 O0 a w e) {dst:Option Tmp} {c:Call} {type:TypeId} {pos:String} {after:Array Edge} {guard:Option (Nat×Bool)}
  (h:wF P G e dst c=some e') {Q:Exit→Act→World→Prop} :
  (⟨dst, .call c,type,pos,after,guard⟩:Oper).wp P a w (fun a' w'=>Inv Γ G w0 F0 O0 a' w' e') Q:=by
 unfold wF at h
 split at h
 ·rename_i p x1 t0 t1 d hcal hargs htys
  split at h
  ·rename_i el el1 hu0 hu1
   have hu0':P.underlying t0=some (.slice el):=hu0
   have hu1':P.underlying t1=some (.slice el1):=hu1
   split at h
   ·rename_i info hinfo
    have hinfo':P.info? el=some info:=hinfo
    split at h
    ·rename_i z t y ys hz hsrc
     split at h
     ·rename_i id t' xs hi0 hget
      split at h
      ·cases h
      ·rename_i hne0
       split at h
       ·rename_i htt
        subst htt
        simp only at h
        split at h
        ·rename_i hok
         obtain ⟨hsz,hby,hzc,hnl⟩:=hok
         split at h
         ·rename_i hbound
          simp only [Option.some.injEq] at h
          subst h
          have hx1p: ∀q,x1= .tmp q→q≠p:=by
           rintro q rfl hqp
           subst hqp
           exact hne0 (by simp [zRk])
          have hlt:p<e.tm.length:=by
           rcases Nat.lt_or_ge p e.tm.length with h|h
           ·exact h
           ·simp only [Env.get,List.getD_eq_getElem?_getD,List.getElem?_eq_none h,Option.getD_none] at hget
            cases hget
          have hkov:zO id (e.get p)= .dead:=by rw [hget];simp [zO]
          have hgp: ∀ (e1:Env Γ.St) (X:T),p<e1.tm.length→(e1.put (some p) X).get p=X:=by
           intro e1 X h1
           simp only [Env.put]
           rw [vA,if_pos ⟨rfl,h1⟩]
          cases xs with
          |nil=>
           have hw:WkT (e.get p) (.ot id t' []):=by
            rw [hget]
            rintro w F β al v (⟨_,_,_,hv⟩|⟨h0,_⟩)
            ·exact .inl ⟨rfl,hv⟩
            ·exact absurd rfl h0
           have hk:(e.put (some p) (.ot id t' [])).kill id=e.kill id:=zMC (by simp [zO]) hkov hlt
           have hev:jC P G (e.put (some p) (.ot id t' [])) (some d) c=some { ((e.put (some p) (.ot id t' [])).kill id) with tm:=((e.put (some p) (.ot id t' [])).kill id).tm.set d (.ot id t' ([]++y::ys)) } :=by
            have hb':(2*(([]:List t'.El).length+(y::ys).length)+1024)*info.bytes≤140737488355328:=by simpa using hbound
            have hsrc':zNt (evx G (e.put (some p) (.ot id t' [])) x1)=some ⟨t',y::ys⟩:=by rw [zJr hx1p];exact hsrc
            have hdst:zMS t' (evx G (e.put (some p) (.ot id t' [])) (.tmp p))=some (some id,[]):=by
             simp only [evx,hgp e _ hlt,zMS,dif_pos]
            simp only [jC,hcal,hargs,htys,hu0',hu1',hinfo',hz,hsrc',hdst]
            rw [if_pos ⟨hsz,hby,hzc,hnl⟩,if_pos hb'];rfl
           have:=zH2 (type:=type) (pos:=pos) (after:=after) (guard:=guard) (Q:=Q) (hi.putWeak hw) hev
           rw [hk] at this
           simpa using this
          |cons x xs=>
           have hw:WkT ((e.mapT T.un).get p) (.ow id t'.size (((x::xs).take hi0).map t'.enc)):=by
            rw [qH rfl,hget]
            rintro w F β al v (⟨h0,_⟩|⟨_,ha,h1,h2,cap,hv,hr⟩)
            ·cases h0
            ·refine ⟨ha,cap,?_,?_⟩
             ·rw [hv]
              have:((List.take hi0 (x::xs)).map t'.enc).length=hi0:=by simp at h2 ⊢;omega
              rw [this]
              simp
             ·rw [List.map_take];exact hr.take hi0
           have hlt':p< (e.mapT T.un).tm.length:=by simpa [Env.mapT] using hlt
           have hkov':zO id ((e.mapT T.un).get p)= .dead:=by rw [qH rfl,hget];simp [T.un,zO]
           have hk:((e.mapT T.un).put (some p) (.ow id t'.size (((x::xs).take hi0).map t'.enc))).kill id=(e.mapT T.un).kill id:=zMC (by simp [zO]) hkov' hlt'
           have hsu:zAJ (evx G (e.mapT T.un) x1)=some ((y::ys).map t'.enc):=by
            rw [zD6]
            unfold zNt at hsrc
            split at hsrc
            ·rename_i heq
             simp only [Option.some.injEq,Sigma.mk.injEq] at hsrc
             obtain ⟨rfl,hys⟩:=hsrc
             cases hys
             rw [heq];rfl
            ·rename_i i0 ys0 heq
             simp only [Option.some.injEq,Sigma.mk.injEq] at hsrc
             obtain ⟨rfl,hys⟩:=hsrc
             cases hys
             rw [heq];rfl
            ·rename_i i0 xs0 lo0 hi1 heq
             simp only [Option.some.injEq,Sigma.mk.injEq] at hsrc
             obtain ⟨rfl,hys⟩:=hsrc
             rw [heq]
             simp only [T.un,zAJ]
             rw [eq_of_heq hys]
            ·cases hsrc
           have hao:zCF info z ((y::ys).map t'.enc)=true:=by
            simp only [zCF,Bool.and_eq_true,decide_eq_true_eq,beq_iff_eq,List.all_eq_true]
            refine ⟨⟨?_,hby⟩,hzc⟩
            intro q hq
            simp only [List.mem_map] at hq
            obtain ⟨y,_,rfl⟩:=hq
            refine ⟨by rw [jU];exact hsz,?_⟩
            rw [wG]
            exact fun y hy=>List.all_eq_true.1 (cells_one t' _) y hy
           have hev:qT P G ((e.mapT T.un).put (some p) (.ow id t'.size (((x::xs).take hi0).map t'.enc))) (some id) (some d) c=
             some { (((e.mapT T.un).put (some p) (.ow id t'.size (((x::xs).take hi0).map t'.enc))).kill id) with tm:=(((e.mapT T.un).put (some p) (.ow id t'.size (((x::xs).take hi0).map t'.enc))).kill id).tm.set d (.ow id t'.size (((x::xs).take hi0).map t'.enc++(y::ys).map t'.enc)) } :=by
            have hb':(2*((((x::xs).take hi0).map t'.enc).length+((y::ys).map t'.enc).length)+1024)*info.bytes≤140737488355328:=by simpa using hbound
            have hsu':zAJ (evx G ((e.mapT T.un).put (some p) (.ow id t'.size (((x::xs).take hi0).map t'.enc))) x1)=some ((y::ys).map t'.enc):=by rw [zJr hx1p];exact hsu
            have hx0:evx G ((e.mapT T.un).put (some p) (.ow id t'.size (((x::xs).take hi0).map t'.enc))) (.tmp p)= .ow id t'.size (((x::xs).take hi0).map t'.enc):=hgp _ _ hlt'
            simp only [qT,hcal,hargs,htys,hu0',hu1',hinfo',hz,hsu',hao,if_true,hx0]
            rw [if_pos ⟨hsz,hb',hnl⟩]
           refine Oper.wp_mono (fun a' w' hh=> ?_) (zAB (hi.un.putWeak hw) hev)
           rw [hk] at hh
           refine zF4 ?_ hh
           have:(T.ot id t' ((x::xs).take hi0++y::ys)).un= .ow id t'.size (((x::xs).take hi0).map t'.enc++(y::ys).map t'.enc):=by
            simp only [T.un,List.map_append]
            cases hm:((x::xs).take hi0).map t'.enc with
            |nil=>rfl
            |cons _ _=>rfl
           rw [←this];exact WkT.ofUn _
         ·cases h
        ·cases h
       ·cases h
     ·cases h
    ·cases h
   ·cases h
  ·cases h
 ·cases h
end
end Go.Ve
