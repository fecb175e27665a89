/-
  The evaluator over pure values, part 6: slicing, building, calling; all operations that write nothing of old.
  The evaluator over pure values, part 7: every operation that writes nothing of old.
  The evaluator over pure values, part 8: one operation in the machine; the state behind it.
  The evaluator over pure values, part 9: the frame's state in the machine; one operation behind the other.
  The evaluator over pure values, part 10: a region that draws its order.
-/
import Derived.Test.YtaidmnnejapafaaGreatDoorl3
set_option linter.unusedVariables false
namespace Go.Ve
open Go
section
variable {Γ:Sig} {P:Program} {G:Nat→Option (List V)} {S:qZ Γ} {e:Env Γ.St} {o:Oper} {a:Act} {w:World} {F:Blk→Prop} {β:Lay} {al:Site→Prop} {st:Γ.St}
theorem zQQ {α γ:Type} {f:α→Sem γ} {g:α→γ} : ∀ (l:List α),(∀x,x∈l→(f x).run P w= .ok (g x) w)→(l.mapM f).run P w= .ok (l.map g) w:=by
 intro l
 induction l with
 |nil=>intro _;rfl
 |cons x l ih=>
  intro h
  simp [List.mapM_cons,h x (by simp),ih (fun y hy=>h y (List.mem_cons_of_mem _ hy))]
theorem zDh {x:T} {v:Value} {dflt top y h:Nat} (hx:zE w F β al v x) (hb:v8 (some x) dflt top=some h) (hy:top≤y) (code:BoundsCode):
  (Instr.sliceBound v y code).run P w= .ok h w∧h≤top:=by
 unfold v8 at hb
 split at hb
 ·rename_i heq;cases heq
 ·rename_i k i heq
  simp only [Option.some.injEq] at heq
  subst heq
  split at hb
  ·rename_i hc
   simp only [Option.some.injEq] at hb
   subst hb
   have:=Rd.eq_val hx
   subst this
   refine ⟨?_,by omega⟩
   simp [Instr.sliceBound,asIntOf,hc.1,show i≤(y:Int) by omega]
  ·cases hb
 ·cases hb
theorem zTD {b off cap k:Nat} {es:List V} {g:Nat→Value} (hF:F b) (hcap:es.length≤cap) (hk: ∀e,e∈es→e.cells.length=k)
  (hg: ∀m,m<es.length*k→w.cell? ⟨b,off+m,none⟩=some (g m))
  (hr: ∀ (i j:Nat) (e d:V),es[i]? =some e→e.cells[j]? =some d→Rd w F (g (i*k+j)) d) {l h:Nat} (hh:h≤es.length) (hl:l≤h):
  Rd w F (.slice (some ⟨b,off+l*k,none⟩) (h-l) (cap-l)) (.sl ((es.take h).drop l)):=by
 have hlen:((es.take h).drop l).length=h-l:=by simp;omega
 rw [←hlen]
 refine .sl b (off+l*k) (cap-l) k _ (fun m=>g (l*k+m)) hF (by omega) ?_ ?_ ?_
 ·intro e he;exact hk e (List.mem_of_mem_take (List.mem_of_mem_drop he))
 ·intro m hm
  rw [hlen] at hm
  rw [Nat.add_assoc]
  refine hg _ ?_
  have h1:h*k≤es.length*k:=Nat.mul_le_mul_right k hh
  have h2:(h-l)*k=h*k-l*k:=Nat.sub_mul h l k
  have h3:l*k≤h*k:=Nat.mul_le_mul_right k hl
  omega
 ·intro i j e d h1 h2
  rw [List.getElem?_drop,List.getElem?_take] at h1
  split at h1
  ·have:=hr (l+i) j e d h1 h2
   rw [Nat.add_mul,Nat.add_assoc] at this
   exact this
  ·cases h1
theorem zHW {t:TypeId} {es:List V} {v:Value} {lo hi mx:Option Operand} {r:R Γ.St} (hx:Rd w F v (.sl es))
  (hlo: ∀x,lo=some x→zE w F β al (a.eval x) (evx G e x)) (hhi: ∀x,hi=some x→zE w F β al (a.eval x) (evx G e x))
  (hmx: ∀x,mx=some x→zE w F β al (a.eval x) (evx G e x))
  (h:zEL P t es (lo.map (evx G e)) (hi.map (evx G e)) (mx.map (evx G e))=some r):
  ∃u y,r= .ret y∧(Instr.sliceAt t v (lo.map a.eval) (hi.map a.eval) (mx.map a.eval)).run P w= .ok u w∧zE w F β al u y:=by
 unfold zEL at h
 split at h
 ·rename_i el hu
  cases mx with
  |none=>
   simp only [Option.map_none] at h ⊢
   split at h
   ·rename_i hN hbh
    split at h
    ·rename_i lN hbl
     split at h
     ·rename_i z hz
      obtain ⟨a0,cap,hv,hcap⟩:=zA9 hx
      have hh:hN≤es.length∧ ∀code,(match hi.map a.eval,(none:Option Value) with
        |some v,some _=>Instr.sliceBound v cap .slice3B
        |some v,none=>Instr.sliceBound v cap code
        |none,none=>pure es.length
        | none, some _ => stuck "Slice: max without high").run P w = .ok hN w := by
       cases hi with
       |none=>simp [v8] at hbh;subst hbh;exact ⟨Nat.le_refl _,fun _=>rfl⟩
       |some x=>
        have:=zDh (P:=P) (hhi x rfl) hbh hcap
        exact ⟨(this .index).2,fun code=>(this code).1⟩
      have hl:lN≤hN∧ ∀code,(match lo.map a.eval with
        |some v=>Instr.sliceBound v hN code
        |none=>pure 0).run P w= .ok lN w:=by
       cases lo with
       |none=>simp [v8] at hbl;subst hbl;exact ⟨Nat.zero_le _,fun _=>rfl⟩
       |some x=>
        have:=zDh (P:=P) (hlo x rfl) hbl (Nat.le_refl _)
        exact ⟨(this .index).2,fun code=>(this code).1⟩
      have hrun:(Instr.sliceAt t v (lo.map a.eval) (hi.map a.eval) none).run P w= .ok (.slice (if cap=lN then a0 else a0.map (·.add (lN*z))) (hN-lN) (cap-lN)) w:=by
       subst hv
       have h1:=hh.2 .sliceAcap
       have h2:=hl.2 .sliceB
       have hsb:(Instr.sliceBounds true es.length cap (lo.map a.eval) (hi.map a.eval) none).run P w= .ok (lN,hN,cap) w:=by
        simp only [Instr.sliceBounds,Sem.run_bind,Sem.run_pure,Result.andThen_ok]
        cases hi<;>cases lo<;>simp_all
       simp [Instr.sliceAt,Instr.slice,zC hu,hsb,run_sizeOf hz]
      have hres: ∃u,(Instr.sliceAt t v (lo.map a.eval) (hi.map a.eval) none).run P w= .ok u w∧Rd w F u (.sl ((es.take hN).drop lN))∧r= .ret (.p (.sl ((es.take hN).drop lN))):=by
       refine ⟨_,hrun,?_⟩
       cases hx with
       |slemp a1 cap1=>
        simp at hv
        obtain ⟨rfl,rfl⟩:=hv
        simp at hh hl
        obtain ⟨rfl,_⟩:=hh
        obtain ⟨hl0,_⟩:=hl
        obtain rfl:lN=0:=by omega
        refine ⟨?_,by simp at h;simp [h]⟩
        simp
        exact .slemp _ _
       |sl b off cap' k es g hF hcap' hk hg hr=>
        simp at hv
        obtain ⟨rfl,rfl⟩:=hv
        have hlen:((es.take hN).drop lN).length=hN-lN:=by simp;omega
        cases hd:es[lN]? with
        |some d=>
         simp only [hd] at h
         split at h
         ·rename_i hdz
          have hkz:k=z:=by rw [←hdz];exact (hk d (List.mem_of_getElem? hd)).symm
          subst hkz
          simp only [Option.some.injEq] at h
          refine ⟨?_,h.symm⟩
          have hlt:=(List.getElem?_eq_some_iff.1 hd).1
          rw [if_neg (by omega)]
          simp only [Option.map_some,zAM]
          exact zTD hF hcap hk hg hr hh.1 hl.1
         ·cases h
        |none=>
         simp only [hd,Option.some.injEq] at h
         have hge:=List.getElem?_eq_none_iff.1 hd
         have hnil:(es.take hN).drop lN=[]:=List.eq_nil_of_length_eq_zero (by omega)
         rw [hnil]
         refine ⟨?_,h.symm⟩
         have h0:hN-lN=0:=by omega
         rw [h0]
         have hsome: ∃off',(if cap'=lN then some (⟨b,off,none⟩:Addr) else Option.map (fun x:Addr=>x.add (lN*z)) (some (⟨b,off,none⟩:Addr)))=some (⟨b,off',none⟩:Addr):=by
          split
          ·exact ⟨off,rfl⟩
          ·exact ⟨off+lN*z,by simp [zAM]⟩
         obtain ⟨off',ho⟩:=hsome
         rw [ho]
         exact Rd.sl b off' _ 0 [] (fun _=>undef) hF (by simp) (by simp) (by simp) (by simp)
      obtain ⟨u,hu1,hu2,hu3⟩:=hres
      exact ⟨u,_,hu3,hu1,hu2⟩
     ·cases h
    ·cases h
   ·cases h
  |some m0=>
   simp only [Option.map_some] at h ⊢
   have hm:=hmx m0 rfl
   split at h
   ·rename_i heq;cases heq
   ·rename_i km heq
    simp only [Option.some.injEq] at heq
    rw [heq] at hm
    have hm':=Rd.eq_val hm
    split at h
    ·rename_i kh hhi0 hlo0
     cases hi with
     |none=>simp at hhi0
     |some h0=>
      cases lo with
      |some l0=>simp at hlo0
      |none=>
       simp only [Option.map_some,Option.some.injEq] at hhi0
       have hh:=hhi h0 rfl
       rw [hhi0] at hh
       have hh':=Rd.eq_val hh
       split at h
       ·rename_i z hz
        simp only [Option.some.injEq] at h
        subst h
        obtain ⟨a0,cap,hv,_⟩:=zA9 hx
        refine ⟨.slice a0 0 0, .emp,rfl,?_,a0,rfl⟩
        ·subst hv
         simp [Instr.sliceAt,Instr.slice,zC hu,Instr.sliceBounds,Instr.sliceBound,asIntOf,hm',hh',run_sizeOf hz]
       ·cases h
    ·cases h
   ·cases h
 ·cases h
theorem zKn {t el:TypeId} {v:Value} {a0:Option Addr} {n cap z hN lN:Nat} {lo hi:Option Operand} (hv:v= .slice a0 n cap) (hcap:n≤cap) (hu:P.underlying t=some (.slice el)) (hz:z9 P el=some z)
  (hlo: ∀x,lo=some x→zE w F β al (a.eval x) (evx G e x)) (hhi: ∀x,hi=some x→zE w F β al (a.eval x) (evx G e x))
  (hbh:v8 (hi.map (evx G e)) n n=some hN) (hbl:v8 (lo.map (evx G e)) 0 hN=some lN):
  hN≤n∧lN≤hN∧(Instr.sliceAt t v (lo.map a.eval) (hi.map a.eval) none).run P w= .ok (.slice (if cap=lN then a0 else a0.map (·.add (lN*z))) (hN-lN) (cap-lN)) w:=by
 have hh:hN≤n∧ ∀code,(match hi.map a.eval,(none:Option Value) with
   |some v,some _=>Instr.sliceBound v cap .slice3B
   |some v,none=>Instr.sliceBound v cap code
   |none,none=>pure n
   | none, some _ => stuck "Slice: max without high").run P w = .ok hN w := by
  cases hi with
  |none=>simp [v8] at hbh;subst hbh;exact ⟨Nat.le_refl _,fun _=>rfl⟩
  |some x=>
   have:=zDh (P:=P) (hhi x rfl) hbh hcap
   exact ⟨(this .index).2,fun code=>(this code).1⟩
 have hl:lN≤hN∧ ∀code,(match lo.map a.eval with
   |some v=>Instr.sliceBound v hN code
   |none=>pure 0).run P w= .ok lN w:=by
  cases lo with
  |none=>simp [v8] at hbl;subst hbl;exact ⟨Nat.zero_le _,fun _=>rfl⟩
  |some x=>
   have:=zDh (P:=P) (hlo x rfl) hbl (Nat.le_refl _)
   exact ⟨(this .index).2,fun code=>(this code).1⟩
 refine ⟨hh.1,hl.1,?_⟩
 subst hv
 have h1:=hh.2 .sliceAcap
 have h2:=hl.2 .sliceB
 have hsb:(Instr.sliceBounds true n cap (lo.map a.eval) (hi.map a.eval) none).run P w= .ok (lN,hN,cap) w:=by
  simp only [Instr.sliceBounds,Sem.run_bind,Sem.run_pure,Result.andThen_ok]
  cases hi<;>cases lo<;>simp_all
 simp [Instr.sliceAt,Instr.slice,zC hu,hsb,run_sizeOf hz]
theorem zLr {t:TypeId} {id:Nat} {ty:Ty} {xs:List ty.El} {v:Value} {lo hi mx:Option Operand} {r:R Γ.St} (hx:zE w F β al v (.ot id ty xs))
  (hlo: ∀x,lo=some x→zE w F β al (a.eval x) (evx G e x)) (hhi: ∀x,hi=some x→zE w F β al (a.eval x) (evx G e x))
  (h:zCz P t id ty xs (lo.map (evx G e)) (hi.map (evx G e)) (mx.map (evx G e))=some r):
  ∃u y,r= .ret y∧(Instr.sliceAt t v (lo.map a.eval) (hi.map a.eval) (mx.map a.eval)).run P w= .ok u w∧zE w F β al u y:=by
 unfold zCz at h
 split at h
 ·rename_i el hu
  split at h
  ·rename_i hz
   split at h
   ·rename_i hmn
    obtain rfl:mx=none:=by cases mx with|none=>rfl|some _=>simp at hmn
    split at h
    ·rename_i hN hbh
     split at h
     ·rename_i lN hbl
      simp only [Option.some.injEq] at h
      subst h
      rcases hx with ⟨h0,a0,hv⟩|⟨hne,ha,cap,hv,hrow⟩
      ·have h0:xs=[]:=List.map_eq_nil_iff.1 h0
       subst h0
       obtain ⟨h1,h2,h3⟩:=zKn (a:=a) (G:=G) (e:=e) hv (by simp) hu hz hlo hhi hbh hbl
       have h1:hN≤0:=h1
       obtain rfl:hN=0:=by omega
       obtain rfl:lN=0:=by omega
       exact ⟨_,_,rfl,h3, .inl ⟨rfl,rfl,rfl,_,rfl⟩⟩
      ·have hne':xs≠[]:=fun h=>hne (by rw [h];rfl)
       have hcap:xs.length≤cap:=by
        obtain ⟨c,et,g1,g2,g3,g4,g5⟩:=hrow
        simpa using g3
       obtain ⟨h1,h2,h3⟩:=zKn (a:=a) (G:=G) (e:=e) (n:=xs.length) (by simpa using hv) hcap hu hz hlo hhi hbh hbl
       refine ⟨_,_,rfl,h3, .inr ⟨hne',ha,h2,h1,cap,?_,hrow⟩⟩
       congr 1
       split
       ·rfl
       ·simp [zAM]
     ·cases h
    ·cases h
   ·cases h
  ·cases h
 ·cases h
theorem zLq {t:TypeId} {ty:Ty} {xs:List ty.El} {v:Value} {lo hi mx:Option Operand} {r:R Γ.St} (hx:Rd w F v (.tl ty xs))
  (hlo: ∀x,lo=some x→zE w F β al (a.eval x) (evx G e x)) (hhi: ∀x,hi=some x→zE w F β al (a.eval x) (evx G e x))
  (hmx: ∀x,mx=some x→zE w F β al (a.eval x) (evx G e x))
  (h:zCy P t ty xs (lo.map (evx G e)) (hi.map (evx G e)) (mx.map (evx G e))=some r):
  ∃u y,r= .ret y∧(Instr.sliceAt t v (lo.map a.eval) (hi.map a.eval) (mx.map a.eval)).run P w= .ok u w∧zE w F β al u y:=by
 unfold zCy at h
 split at h
 ·rename_i el hu
  have hu':P.underlying t=some (.slice el):=hu
  split at h
  ·rename_i hz
   split at h
   ·rename_i hmn
    split at h
    ·rename_i hN hbh
     split at h
     ·rename_i lN hbl
      simp only [Option.some.injEq] at h
      subst h
      obtain ⟨u,y,h1,h2,h3⟩:=zHW (P:=P) (t:=t) (Γ:=Γ) (lo:=lo) (hi:=hi) (mx:=mx) (r:= .ret (.p (.sl (((xs.map ty.enc).take hN).drop lN)))) (Rd.untl hx) hlo hhi hmx (by
       simp only [zEL,hu',hmn,List.length_map,hbh,hbl,hz]
       cases hl:(xs.map ty.enc)[lN]? with
       |none=>
        have:((xs.map ty.enc).take hN).drop lN=[]:=by
         rw [List.getElem?_eq_none_iff] at hl
         exact List.eq_nil_of_length_eq_zero (by simp at hl ⊢;omega)
        simp [this]
       |some d=>
        simp only [List.getElem?_map,Option.map_eq_some_iff] at hl
        obtain ⟨x,_,rfl⟩:=hl
        simp [jU])
      simp only [R.ret.injEq] at h1
      subst h1
      have h4:Rd w F u (.sl (((xs.map ty.enc).take hN).drop lN)):=h3
      refine ⟨u,_,rfl,h2, .tl _ _ _ ?_⟩
      simpa [List.map_take,List.map_drop] using h4
     ·cases h
    ·cases h
   ·cases h
  ·cases h
 ·cases h
theorem zMO {t:TypeId} {parts:Array (Nat×Operand)} {qs:List (Nat×V)} {r:R Γ.St} (hp: ∀p,p∈parts.toList→zE w F β al (a.eval p.2) (evx G e p.2))
  (hq:vT G e parts.toList=some qs) (h:zGF P t qs=some r):
  ∃u y,r= .ret y∧(Instr.build t (parts.map fun (i,x)=>(i,a.eval x))).run P w= .ok u w∧zE w F β al u y:=by
 obtain ⟨hl,hr⟩:=zE8 parts.toList qs hp hq
 unfold zGF at h
 split at h
 ·rename_i z hz
  simp only [Option.bind_eq_some_iff] at hz
  obtain ⟨info,hi,hz⟩:=hz
  have hz0:=zBl (zAc w F z) (by cases z<;>rfl)
  have hzero:zGW w F z.cells (V.ofVal1 z).cells:=hz0
  have hzv:(zeroValue t).run P w= .ok z w:=by simp [zeroValue,run_typeInfo hi,hz]
  split at h
  ·rename_i fs hu
   split at h
   ·rename_i hall
    simp only [Option.map_eq_some_iff] at h
    obtain ⟨cs,hcs,rfl⟩:=h
    have hpl:(fs.mapM fun f=>do pure (f.offset, ←sizeOf f.type):Sem (Array (Nat×Nat))).run P w= .ok (fs.map fun f=>(f.offset,(z9 P f.type).getD 0)) w:=by
     rw [Array.mapM_eq_mapM_toList]
     simp only [Sem.run_map]
     rw [zQQ (g:=fun f:Field=>(f.offset,(z9 P f.type).getD 0))]
     ·simp only [Result.andThen_ok]
      congr 1
      apply Array.ext'
      simp
     ·intro f hf
      obtain ⟨n,hn⟩:=Option.isSome_iff_exists.1 (List.all_eq_true.1 hall f hf)
      simp [run_sizeOf hn,hn]
    obtain ⟨c',hc1,hc2⟩:=zHv (w:=w) (F:=F) _ _ qs z.cells _ cs hl hr hzero hcs
    refine ⟨.agg c',_,rfl,?_,Rd.agg c' cs hc2.1 hc2.2⟩
    simp only [Instr.build,Sem.run_bind,hzv,Result.andThen_ok,zC hu,hpl]
    simp only [Array.toList_map]
    rw [hc1]
    rfl
   ·cases h
  ·rename_i n0 el hu
   split at h
   ·rename_i n hn
    simp only [Option.map_eq_some_iff] at h
    obtain ⟨cs,hcs,rfl⟩:=h
    obtain ⟨c',hc1,hc2⟩:=zHv (w:=w) (F:=F) _ _ qs z.cells _ cs hl hr hzero hcs
    refine ⟨.agg c',_,rfl,?_,Rd.agg c' cs hc2.1 hc2.2⟩
    simp only [Instr.build,Sem.run_bind,hzv,Result.andThen_ok,zC hu,run_sizeOf hn]
    simp only [Array.toList_map]
    rw [hc1]
    rfl
   ·cases h
  ·cases h
 ·cases h
theorem zDn {b k cap:Nat} {es:List V} (h:zW w F b k cap es) {F':Blk→Prop} (hF: ∀b,F b→F' b) (hb:F' b):Rd w F' (.slice (some ⟨b,0,none⟩) es.length cap) (.sl es):=by
 obtain ⟨c,et,h1,h2,h3,h4,h5⟩:=h
 have hle:es.length*k≤cap*k:=Nat.mul_le_mul_right k h3
 refine .sl b 0 cap k es (fun m=>(c[m]?).getD undef) hb h3 h4 ?_ ?_
 ·intro m hm
  have:m<c.size:=by omega
  simp [World.cell?,h1,this]
 ·intro i j e d hi hj
  have hi':=(List.getElem?_eq_some_iff.1 hi).1
  have hj':=(List.getElem?_eq_some_iff.1 hj).1
  have hk:=h4 e (List.mem_of_getElem? hi)
  have:(i+1)*k≤cap*k:=Nat.mul_le_mul_right k (by omega)
  rw [Nat.succ_mul] at this
  have hlt:i*k+j<c.size:=by omega
  exact (h5 i j e d _ hi hj (by simp [hlt])).mono hF (fun _ _=>rfl)
theorem zR5 {b:Nat} {cs:List T} {ds:List V} (h:z7 w F β al b cs) {F':Blk→Prop} (hF: ∀b,F b→F' b) (hb:F' b) {off:Nat}
  (hp:wC (cs.drop off)=some ds):Rd w F' (.pointer (some ⟨b,off,none⟩)) (.pp ds):=by
 have heq:=zB7 hp
 have hlen:ds.length=cs.length-off:=by
  have:=congrArg List.length heq
  simp at this;omega
 have hat: ∀m,m<ds.length→ ∃x,w.cell? ⟨b,off+m,none⟩=some x∧ ∀d,ds[m]? =some d→Rd w F x d:=by
  intro m hm
  obtain ⟨x,h1,h2⟩:=h.at (off+m) (by omega)
  refine ⟨x,h1,fun d hd=> ?_⟩
  have h3:(cs.drop off)[m]? =some (.p d):=by rw [heq];simp [hd]
  rw [List.getElem?_drop,List.getElem?_eq_getElem (by omega),Option.some.injEq] at h3
  rw [h3] at h2;exact h2
 refine .pp b off ds (fun m=>(w.cell? ⟨b,off+m,none⟩).getD undef) hb ?_ ?_
 ·intro m hm
  obtain ⟨x,h1,_⟩:=hat m hm
  simp [h1]
 ·intro m d hd
  obtain ⟨x,h1,h2⟩:=hat m (List.getElem?_eq_some_iff.1 hd).1
  simp only [h1,Option.getD_some]
  exact (h2 d hd).mono hF (fun _ _=>rfl)
theorem zGO (hvars: ∀s cs,e.var s=some cs→al (.v s)→z7 w F β al (β.vb s) cs) {v:Value} {x:T} {d:V} (hx:zE w F β al v x) (h:zCE e x=some d):
  Rd w (Fal F β al) v d∧(x.isView=false→Rd w F v d):=by
 cases x with
 |p d'=>
  simp only [zCE,Option.some.injEq] at h
  subst h
  exact ⟨Rd.mono hx (fun b hb=> .inl hb) (fun _ _=>rfl),fun _=>hx⟩
 |ow id k es=>
  simp only [zCE,Option.some.injEq] at h
  subst h
  obtain ⟨ha,cap,rfl,hrow⟩:=hx
  exact ⟨zDn hrow (fun b hb=> .inl hb) (.inr ⟨.o id,ha,rfl⟩),fun hv=>by simp [T.isView] at hv⟩
 |oe id k es i off=>simp [zCE] at h
 |lp s off=>
  simp only [zCE] at h
  split at h
  ·rename_i cs hcs
   simp only [Option.map_eq_some_iff] at h
   obtain ⟨ds,hds,rfl⟩:=h
   obtain ⟨ha,rfl⟩:=hx
   exact ⟨zR5 (hvars s cs hcs ha) (fun b hb=> .inl hb) (.inr ⟨.v s,ha,rfl⟩) hds,fun hv=>by simp [T.isView] at hv⟩
  ·cases h
 |emp=>
  simp only [zCE,Option.some.injEq] at h
  subst h
  obtain ⟨a0,rfl⟩:=hx
  exact ⟨.slemp a0 0,fun _=> .slemp a0 0⟩
 |mp id es ck=>simp [zCE] at h
 |ot id t xs=>
  simp only [zCE,Option.some.injEq] at h
  subst h
  refine ⟨?_,fun hv=>by simp [T.isView] at hv⟩
  refine .tl t xs v ?_
  rcases hx with ⟨h0,a0,rfl⟩|⟨hne,ha,cap,rfl,hrow⟩
  ·rw [h0];exact .slemp a0 0
  ·exact zDn hrow (fun b hb=> .inl hb) (.inr ⟨.o id,ha,rfl⟩)
 |oet id t xs i off=>simp [zCE] at h
 |ov id t xs lo hi=>simp [zCE] at h
 |on n=>simp [zCE] at h
 |dead=>simp [zCE] at h
theorem zQf (hvars: ∀s cs,e.var s=some cs→al (.v s)→z7 w F β al (β.vb s) cs): ∀ (xs:List Operand) (ds:List V),
  (∀x,x∈xs→zE w F β al (a.eval x) (evx G e x))→zGN G e xs=some ds→xs.length=ds.length∧
  ∀ (i:Nat) (x:Value) (y:V),(xs.map a.eval)[i]? =some x→ds[i]? =some y→Rd w (Fal F β al) x y∧(xs.any (fun x=>(evx G e x).isView)=false→Rd w F x y):=by
 intro xs
 induction xs with
 |nil=>intro qs _ h;simp [zGN] at h;subst h;exact ⟨rfl,fun i x y h1=>by simp at h1⟩
 |cons x xs ih=>
  intro qs hr h
  simp only [zGN] at h
  split at h
  ·rename_i d ds hd hds
   simp only [Option.some.injEq] at h
   subst h
   obtain ⟨h1,h2⟩:=ih ds (fun p hp=>hr p (List.mem_cons_of_mem _ hp)) hds
   refine ⟨by simpa using h1,?_⟩
   intro n u y hu hy
   cases n with
   |zero=>
    simp at hu hy;subst hu hy
    obtain ⟨h3,h4⟩:=zGO hvars (hr x (by simp)) hd
    exact ⟨h3,fun hv=>h4 (by simp at hv;exact hv.1)⟩
   |succ n=>
    obtain ⟨h3,h4⟩:=h2 n u y (by simpa using hu) (by simpa using hy)
    exact ⟨h3,fun hv=>h4 (by simp at hv ⊢;exact hv.2)⟩
  ·cases h
theorem zMu (ag:Bool) (k:Nat): ∀ (n:Nat) (flat:List V),(j8 ag k n flat).length=n:=by
 intro n
 induction n with
 |zero=>intro _;rfl
 |succ n ih=>intro flat;simp [j8,ih]
theorem zMv (ag:Bool) (k:Nat): ∀ (n:Nat) (flat:List V) (i:Nat) (q:V),flat.length=n*k→(ag=false→k=1)→(ag=true∨ ∀d,d∈flat→d.noAgg=true)→k≠0→
  (j8 ag k n flat)[i]? =some q→q.cells.length=k∧ ∀j d,q.cells[j]? =some d→flat[i*k+j]? =some d:=by
 intro n
 induction n with
 |zero=>intro flat i q _ _ _ _ h;simp [j8] at h
 |succ n ih=>
  intro flat i q hl hk hone hk0 h
  rw [Nat.succ_mul] at hl
  cases i with
  |zero=>
   simp only [j8,List.getElem?_cons_zero,Option.some.injEq] at h
   subst h
   cases ag with
   |true=>
    simp only [if_true,V.cells]
    refine ⟨by simp;omega,?_⟩
    intro j d hj
    rw [List.getElem?_take] at hj
    split at hj
    ·simpa using hj
    ·cases hj
   |false=>
    obtain rfl:=hk rfl
    cases flat with
    |nil=>simp at hl
    |cons d0 flat=>
     simp only [Bool.false_eq_true,if_false,List.head?_cons,Option.getD_some]
     have h1:=hone.resolve_left (by simp) d0 (by simp)
     have hc:d0.cells=[d0]:=by cases d0<;>simp_all [V.noAgg,V.cells]
     rw [hc]
     refine ⟨rfl,?_⟩
     intro j d hj
     have hj0:j=0:=by have:=(List.getElem?_eq_some_iff.1 hj).1;simpa using this
     subst hj0
     simpa using hj
  |succ i=>
   simp only [j8,List.getElem?_cons_succ] at h
   have:=ih (flat.drop k) i q (by simp;omega) hk (hone.imp id (fun hh d hd=>hh d (List.mem_of_mem_drop hd))) hk0 h
   refine ⟨this.1,?_⟩
   intro j d hj
   have h2:=this.2 j d hj
   rw [List.getElem?_drop] at h2
   rw [Nat.succ_mul,show i*k+k+j=k+(i*k+j) by omega];exact h2
theorem zHz {t:TypeId} {len:Nat} {parts:Array (Nat×Operand)} {qs:List (Nat×V)} {r:R Γ.St} {dst:Option Tmp} {type:TypeId} {pos:String} {after:Array Edge} {guard:Option (Nat×Bool)}
  (hp: ∀p,p∈parts.toList→zE w F β al (a.eval p.2) (evx G e p.2)) (hq:vT G e parts.toList=some qs) (h:xO P t len qs=some r):
  zAD Γ P S ⟨dst, .buildSlice t len parts,type,pos,after,guard⟩ a w F β al al st r:=by
 obtain ⟨hl,hr⟩:=zE8 parts.toList qs hp hq
 unfold xO at h
 split at h
 ·rename_i el hu
  split at h
  ·rename_i info hi
   split at h
   ·rename_i z ag hz hag
    split at h
    ·rename_i hcond
     obtain ⟨h24,hzl,hs0,hag1⟩:=hcond
     split at h
     ·rename_i flat hflat
      split at h
      ·rename_i hone
       obtain ⟨hz1,hz2⟩:=zBl (zAc w F z) (by cases z<;>rfl)
       have hzs:z.cells.size=info.size:=by rw [hz1];exact hzl
       have hzero:zGW w F ((Array.range (len*info.size)).map (fun i=>z.cells[i%z.cells.size]!)) ((List.range (len*info.size)).map (fun i=>((V.ofVal1 z).cells[i%info.size]?).getD (.val undef))):=by
        refine ⟨by simp,?_⟩
        intro i x y hx hy
        simp only [List.getElem?_map,Option.map_eq_some_iff] at hy
        obtain ⟨m,hm,rfl⟩:=hy
        have hlt:i<len*info.size:=by have:=(List.getElem?_eq_some_iff.1 hm).1;simpa using this
        rw [List.getElem?_range hlt,Option.some.injEq] at hm
        subst hm
        simp only [Array.getElem?_map,Array.getElem?_range,hlt,if_true,Option.map_some,Option.some.injEq] at hx
        subst hx
        have hmod:i%info.size<info.size:=Nat.mod_lt _ (Nat.pos_of_ne_zero hs0)
        rw [hzs]
        have hlt2:i%info.size<z.cells.size:=by omega
        have hlt3:i%info.size< (V.ofVal1 z).cells.length:=by omega
        rw [List.getElem?_eq_getElem hlt3,Option.getD_some]
        rw [getElem!_pos z.cells _ hlt2]
        exact hz2 (i%info.size) _ _ (Array.getElem?_eq_getElem hlt2) (List.getElem?_eq_getElem hlt3)
       obtain ⟨c',hc1,hc2⟩:=zHv (w:=w) (F:=F) _ _ qs _ _ flat hl hr hzero hflat
       have hflen:flat.length=len*info.size:=by
        have:=hc2.1
        have hfs: ∀ (ps:List (Nat×Value)) (c c':Array Value) (pl:Nat→Option (Nat×Nat)),Instr.fill pl c ps=some c'→c'.size=c.size:=by
         intro ps
         induction ps with
         |nil=>intro c c' pl h;simp [Instr.fill] at h;rw [h]
         |cons p ps ih=>
          intro c c' pl h
          obtain ⟨i,v⟩:=p
          simp only [Instr.fill] at h
          split at h
          ·cases h
          ·split at h
           ·cases h
           ·have h3:=ih _ _ _ h
            rw [h3]
            have hfold: ∀ (l:List (Value×Nat)) (off:Nat) (c:Array Value),(l.foldl (fun cs (x:Value×Nat)=>cs.setIfInBounds (off+x.2) x.1) c).size=c.size:=by
             intro l
             induction l with
             |nil=>intro off c;rfl
             |cons x l ih=>intro off c;simp [ih]
            rw [←Array.foldl_toList]
            exact hfold _ _ _
        have:=hfs _ _ _ _ hc1
        simp at this;omega
       have hget:=fun i q hq=>zMv ag info.size len flat i q hflen hag1 (by
        cases ag with
        |true=>exact .inl rfl
        |false=>simp only [Bool.false_or,List.all_eq_true] at hone;exact .inr hone) hs0 hq
       have hlen:=zMu ag info.size len flat
       have hrow: ∃ (c:Array Value) (et:TypeId),(execOp a.eval ⟨dst, .buildSlice t len parts,type,pos,after,guard⟩).run P w= .ok (.value (.slice (some ⟨w.heap.size,0,none⟩) (j8 ag info.size len flat).length (j8 ag info.size len flat).length)) { w with heap:=w.heap.push (.cells c et) } ∧
         c.size=(j8 ag info.size len flat).length*info.size∧(∀e,e∈(j8 ag info.size len flat)→e.cells.length=info.size)∧
         ∀ (i j:Nat) (e d:V) (x:Value),(j8 ag info.size len flat)[i]? =some e→e.cells[j]? =some d→c[i*info.size+j]? =some x→Rd w F x d:=by
        refine ⟨c',el,?_,?_,?_,?_⟩
        ·have hzv:(zeroValue el).run P w= .ok z w:=by simp [zeroValue,run_typeInfo hi,hz]
         have hsz:(sizeOf el).run P w= .ok info.size w:=run_sizeOf (zAZ hi) w
         rw [hlen]
         simp only [execOp,Instr.buildSlice,Sem.run_bind,zC hu,Result.andThen_ok,hsz]
         rw [if_neg (by omega)]
         by_cases h0:len*info.size=0
         ·have hrange: ∀f:Nat→Value,(Array.range (len*info.size)).map f= #[]:=by intro f;rw [h0];exact Array.eq_empty_of_size_eq_zero (by simp)
          rw [hrange] at hc1
          simp only [hrange]
          simp only [h0,if_true,Sem.run_bind,Sem.run_pure,Result.andThen_ok,Array.toList_map]
          rw [hc1]
          rfl
         ·simp only [h0,if_false,Sem.run_bind,hzv,Result.andThen_ok,Sem.run_pure]
          simp only [Array.toList_map]
          rw [hc1]
          rfl
        ·rw [hlen];rw [hc2.1];exact hflen
        ·intro q hq
         obtain ⟨i,hi',rfl⟩:=List.getElem_of_mem hq
         exact (hget i _ (List.getElem?_eq_getElem hi')).1
        ·intro i j q d x hi' hj hx
         exact hc2.2 _ x d hx ((hget i q hi').2 j d hj)
       obtain ⟨c,et,h1,h2,h3,h4⟩:=hrow
       have hfrz:zAD Γ P S ⟨dst, .buildSlice t len parts,type,pos,after,guard⟩ a w F β al al st (.frz (j8 ag info.size len flat)):=⟨c,et,info.size,h1,h2,h3,h4⟩
       split at h
       ·rename_i h0
        simp only [Option.some.injEq] at h
        subst h
        subst h0
        exact ⟨c,et,0,by simpa [j8] using h1,by simpa [j8] using h2,by simp,by simp,by simp,by simp⟩
       ·split at h
        ·rename_i ty hty
         split at h
         ·rename_i hsz
          split at h
          ·rename_i xs hxs
           simp only [Option.some.injEq] at h
           subst h
           exact ⟨_,c,et,h1,by rw [hsz];exact h2,by rw [hsz];exact h3,by rw [hsz];exact h4,zJE hxs⟩
          ·simp only [Option.some.injEq] at h;subst h;exact hfrz
         ·simp only [Option.some.injEq] at h;subst h;exact hfrz
        ·simp only [Option.some.injEq] at h;subst h;exact hfrz
      ·cases h
     ·cases h
    ·cases h
   ·cases h
  ·cases h
 ·cases h
theorem zQJ {v:Value} {x:T} (h:zE w F β al v x) (hx:x.thereS=true): ∃ (ad:Addr) (n c:Nat),v= .slice (some ad) n c:=by
 cases x with
 |p d=>
  cases d with
  |sl es=>
   cases es with
   |nil=>cases hx
   |cons x es=>exact zIX h
  |tl t xs=>
   cases xs with
   |nil=>cases hx
   |cons x es=>exact zIX (Rd.untl h)
  |_=>cases hx
 |ow id k es=>obtain ⟨ha,cap,hv,_⟩:=h;exact ⟨_,_,cap,hv⟩
 |_=>cases hx
theorem zKN {t el:TypeId} {ad:Addr} {n c n' c':Nat} (hu:(underlying t).run P w= .ok (.slice el) w):
  (Op.equal t (.slice (some ad) n c) (.slice none n' c')).run P w= .ok false w:=by
 show (Op.equalIn (9999+1) t (.slice (some ad) n c) (.slice none n' c')).run P w= .ok false w
 unfold Op.equalIn
 simp only [Sem.run_bind,hu,Result.andThen_ok]
 rfl
theorem zP2 {t el:TypeId} {ad:Addr} (hu:(underlying t).run P w= .ok (.pointer el) w):
  (Op.equal t (.pointer (some ad)) (.pointer none)).run P w= .ok false w:=by
 show (Op.equalIn (9999+1) t (.pointer (some ad)) (.pointer none)).run P w= .ok false w
 unfold Op.equalIn
 simp only [Sem.run_bind,hu,Result.andThen_ok]
 rfl
theorem zP0 {op:BinOp} {t t':TypeId} {x y:Operand} {r:R Γ.St} {dst:Option Tmp} {type:TypeId} {pos:String} {after:Array Edge} {guard:Option (Nat×Bool)}
  (hx:zE w F β al (a.eval x) (evx G e x)) (hy:zE w F β al (a.eval y) (evx G e y)) (h:zJu P op t (evx G e x) (evx G e y)=some r):
  zAD Γ P S ⟨dst, .binOp op t x y t',type,pos,after,guard⟩ a w F β al al st r:=by
 unfold zJu at h
 split at h
 ·rename_i hs
  obtain ⟨ad,n,c,hv⟩:=zQJ hx hs
  split at h
  ·rename_i n' c' hey
   rw [hey] at hy
   have hy':=Rd.eq_val hy
   split at h
   ·split at h
    ·rename_i el hu
     simp only [Option.some.injEq] at h
     subst h
     refine ⟨.bool false,?_, .val _⟩
     have hu':(underlying t).run P w= .ok (.slice el) w:=zC hu w
     have hb:binOp .eql t (.slice (some ad) n c) (.slice none n' c')=(do pure (.bool ((←Op.equal t (.slice (some ad) n c) (.slice none n' c'))))):=rfl
     have hg:eqGuard .eql t x y (.slice (some ad) n c) (.slice none n' c')=pure ():=rfl
     simp only [execOp,hv,hy',hg,hb,Sem.run_bind,Sem.run_pure,Result.andThen_ok,zKN hu']
    ·cases h
   ·split at h
    ·rename_i el hu
     simp only [Option.some.injEq] at h
     subst h
     refine ⟨.bool true,?_, .val _⟩
     have hu':(underlying t).run P w= .ok (.slice el) w:=zC hu w
     have hb:binOp .neq t (.slice (some ad) n c) (.slice none n' c')=(do pure (.bool (!(←Op.equal t (.slice (some ad) n c) (.slice none n' c'))))):=rfl
     have hg:eqGuard .neq t x y (.slice (some ad) n c) (.slice none n' c')=pure ():=rfl
     simp only [execOp,hv,hy',hg,hb,Sem.run_bind,Sem.run_pure,Result.andThen_ok,zKN hu']
     rfl
    ·cases h
   ·cases h
  ·cases h
 ·split at h
  ·rename_i hd hex
   rw [hex] at hx
   split at h
   ·rename_i hey
    rw [hey] at hy
    have hy':=Rd.eq_val hy
    split at h
    ·split at h
     ·rename_i el hu
      simp only [Option.some.injEq] at h
      subst h
      refine ⟨.bool false,?_, .val _⟩
      generalize hvx:a.eval x=vx at hx
      cases hx with
      |hd id ad hh=>
       have hu':(underlying t).run P w= .ok (.pointer el) w:=zC hu w
       have hb:binOp .eql t (.pointer (some ad)) (.pointer none)=(do pure (.bool ((←Op.equal t (.pointer (some ad)) (.pointer none))))):=rfl
       have hg:eqGuard .eql t x y (.pointer (some ad)) (.pointer none)=pure ():=rfl
       simp only [execOp,hvx,hy',hg,hb,Sem.run_bind,Sem.run_pure,Result.andThen_ok,zP2 hu']
     ·cases h
    ·cases h
   ·cases h
  ·cases h
theorem zRx {xs ys:Array Value} {d:Nat} {eqs:TypeId→V→V→Option Bool} {ds es:List V}
  (heq: ∀t vx vy x y c,Rd w F vx x→Rd w F vy y→eqs t x y=some c→(Op.equalIn d t vx vy).run P w= .ok c w)
  (hx:xs.size=ds.length∧ ∀ (i:Nat) (v:Value) (d:V),xs[i]? =some v→ds[i]? =some d→Rd w F v d)
  (hy:ys.size=es.length∧ ∀ (i:Nat) (v:Value) (d:V),ys[i]? =some v→es[i]? =some d→Rd w F v d): ∀ (fs:List Field) (c:Bool),zRP P eqs ds es fs=some c→
  (forIn fs ((none,()):Option Bool×Unit) (fun f (_:Option Bool×Unit)=>
   if f.name ≠ "_" then do
    let u←part f.type xs f.offset
    let v←part f.type ys f.offset
    let b←Op.equalIn d f.type u v
    if (!b)=true then pure (ForInStep.done (some false,())) else pure (ForInStep.yield (none,()))
   else pure (ForInStep.yield (none,()))):Sem (Option Bool×Unit)).run P w= .ok (if c then (none,()) else (some false,())) w:=by
 intro fs
 induction fs with
 |nil=>intro c h;simp [zRP] at h;subst h;rfl
 |cons f fs ih=>
  intro c h
  simp only [zRP] at h
  split at h
  ·cases h
  ·rename_i hname
   split at h
   ·rename_i a0 b0 ha hb
    split at h
    ·rename_i c1 c2 h1 h2
     simp only [Option.some.injEq] at h
     subst h
     obtain ⟨u,hu,hru⟩:=zHe (P:=P) hx.1 hx.2 ha
     obtain ⟨v,hv,hrv⟩:=zHe (P:=P) hy.1 hy.2 hb
     have he:=heq f.type u v a0 b0 c1 hru hrv h1
     rw [List.forIn_cons]
     simp only [ne_eq,hname,not_false_eq_true,if_true,Sem.run_bind,hu,hv,he,Result.andThen_ok]
     cases c1 with
     |false=>simp
     |true=>
      have:=ih c2 h2
      simp only [Bool.not_true,Bool.false_eq_true,if_false,Sem.run_pure,Result.andThen_ok,Bool.true_and]
      exact this
    ·cases h
   ·cases h
theorem zHA: ∀ (d:Nat) (t:TypeId) (vx vy:Value) (x y:V) (c:Bool),Rd w F vx x→Rd w F vy y→eqV P d t x y=some c→(Op.equalIn d t vx vy).run P w= .ok c w:=by
 intro d
 induction d with
 |zero=>intro t vx vy x y c _ _ h;simp [eqV] at h
 |succ d ih=>
  intro t vx vy x y c hx hy h
  simp only [eqV] at h
  split at h
  ·rename_i hu
   split at h
   ·simp only [Option.some.injEq] at h
    subst h
    rw [Rd.eq_val hx,Rd.eq_val hy]
    unfold Op.equalIn
    simp only [Sem.run_bind,zC hu,Result.andThen_ok]
    rfl
   ·cases h
  ·rename_i k0 hu
   split at h
   ·split at h
    ·rename_i hk
     simp only [Option.some.injEq] at h
     subst h
     rw [Rd.eq_val hx,Rd.eq_val hy]
     unfold Op.equalIn
     simp only [Sem.run_bind,zC hu,Result.andThen_ok,hk,if_true]
     rfl
    ·cases h
   ·cases h
  ·rename_i hu
   split at h
   ·simp only [Option.some.injEq] at h
    subst h
    rw [Rd.eq_val hx,Rd.eq_val hy]
    unfold Op.equalIn
    simp only [Sem.run_bind,zC hu,Result.andThen_ok]
    rfl
   ·cases h
  ·rename_i fs hu
   split at h
   ·split at h
    ·rename_i hst
     cases hx with
     |agg xs ds hl hr=>
      cases hy with
      |agg ys es hl' hr'=>
       unfold Op.equalIn
       have hp:(program).run P w= .ok P w:=rfl
       have hst':P.stoodInHeld t=false:=hst
       simp only [Sem.run_bind,zC hu,Result.andThen_ok,hp,hst',Bool.false_eq_true,if_false]
       rw [←Array.forIn_toList]
       have:=zRx (P:=P) (w:=w) (F:=F) (d:=d) (eqs:=eqV P d) (fun t vx vy x y c h1 h2 h3=>ih t vx vy x y c h1 h2 h3) ⟨hl,hr⟩ ⟨hl',hr'⟩ fs.toList c h
       rw [this]
       cases c<;>rfl
    ·cases h
   ·cases h
  ·cases h
theorem zRO {op:BinOp} {t t':TypeId} {x y:Operand} {r:R Γ.St} {dst:Option Tmp} {type:TypeId} {pos:String} {after:Array Edge} {guard:Option (Nat×Bool)}
  (hx:zE w F β al (a.eval x) (evx G e x)) (hy:zE w F β al (a.eval y) (evx G e y)) (h:zOa P op t (evx G e x) (evx G e y)=some r):
  zAD Γ P S ⟨dst, .binOp op t x y t',type,pos,after,guard⟩ a w F β al al st r:=by
 unfold zOa at h
 split at h
 ·rename_i xs ys hex hey
  rw [hex] at hx
  rw [hey] at hy
  have hx':Rd w F (a.eval x) (.agg xs):=hx
  have hy':Rd w F (a.eval y) (.agg ys):=hy
  have hgd: ∀op,(P.eqGuardType P.depth t=false)→(eqGuard op t x y (a.eval x) (a.eval y)).run P w= .ok () w:=by
   intro op hq
   generalize a.eval x=vx at hx'
   generalize a.eval y=vy at hy'
   cases hx' with
   |agg cs ds hl hr=>
    cases hy' with
    |agg cs' ds' hl' hr'=>
     unfold eqGuard
     have hp:(program).run P w= .ok P w:=rfl
     cases op<;>first|rfl|(simp [hp,hq])
  have hform: ∀op,op= .eql→binOp op t (a.eval x) (a.eval y)=(do pure (.bool (←Op.equal t (a.eval x) (a.eval y)))):=by
   rintro _ rfl
   generalize a.eval x=vx at hx'
   generalize a.eval y=vy at hy'
   cases hx' with
   |agg cs ds hl hr=>
    cases hy' with
    |agg cs' ds' hl' hr'=>rfl
  have hform2:binOp .neq t (a.eval x) (a.eval y)=(do pure (.bool (!(←Op.equal t (a.eval x) (a.eval y))))):=by
   generalize a.eval x=vx at hx'
   generalize a.eval y=vy at hy'
   cases hx' with
   |agg cs ds hl hr=>
    cases hy' with
    |agg cs' ds' hl' hr'=>rfl
  split at h
  ·split at h
   ·rename_i hq
    simp only [Option.map_eq_some_iff] at h
    obtain ⟨b,hb,rfl⟩:=h
    have he:(Op.equal t (a.eval x) (a.eval y)).run P w= .ok b w:=zHA (P:=P) 10000 t _ _ _ _ b hx' hy' hb
    refine ⟨.bool b,?_, .val _⟩
    have hbo:binOp .eql t (a.eval x) (a.eval y)=(do pure (.bool (←Op.equal t (a.eval x) (a.eval y)))):=hform .eql rfl
    simp only [execOp,hbo,Sem.run_bind,hgd .eql hq,Result.andThen_ok,he,Sem.run_pure]
   ·cases h
  ·split at h
   ·rename_i hq
    simp only [Option.map_eq_some_iff] at h
    obtain ⟨b,hb,rfl⟩:=h
    have he:(Op.equal t (a.eval x) (a.eval y)).run P w= .ok b w:=zHA (P:=P) 10000 t _ _ _ _ b hx' hy' hb
    refine ⟨.bool (!b),?_, .val _⟩
    have hbo:binOp .neq t (a.eval x) (a.eval y)=(do pure (.bool (!(←Op.equal t (a.eval x) (a.eval y))))):=hform2
    simp only [execOp,hbo,Sem.run_bind,hgd .neq hq,Result.andThen_ok,he,Sem.run_pure]
   ·cases h
  ·cases h
 ·cases h
theorem zIb {t:TypeId} {n:Int} {l c0:Operand} {r:R Γ.St} {dst:Option Tmp} {type:TypeId} {pos:String} {after:Array Edge} {guard:Option (Nat×Bool)}
  (hl:a.eval l= .int .i64 n) (hcv:a.eval c0= .int .i64 n) (h:yR P t n=some r):
  zAD Γ P S ⟨dst, .makeSlice t l c0,type,pos,after,guard⟩ a w F β al al st r:=by
 unfold yR at h
 split at h
 ·rename_i el hu
  split at h
  ·rename_i info hi
   split at h
   ·rename_i z hz
    split at h
    ·rename_i hcond
     obtain ⟨h0,hb,hb1,hzl,hs0⟩:=hcond
     obtain ⟨hz1,hz2⟩:=zBl (zAc w F z) (by cases z<;>rfl)
     have hzs:z.cells.size=info.size:=by rw [hz1];exact hzl
     have hnb:n≤140737488355328:=by
      have:n*1≤n*(info.bytes:Int):=Int.mul_le_mul_of_nonneg_left (by omega) h0
      omega
     have hwrap:IntKind.i64.wrap n=n:=IntWalk.i64_in n (by omega)
     have hmain: ∃ (c:Array Value) (et:TypeId) (cap:Nat),(execOp a.eval ⟨dst, .makeSlice t l c0,type,pos,after,guard⟩).run P w= .ok (.value (.slice (some ⟨w.heap.size,0,none⟩) (List.replicate n.toNat (V.ofVal1 z)).length cap)) { w with heap:=w.heap.push (.cells c et) } ∧
       c.size=cap*info.size∧(List.replicate n.toNat (V.ofVal1 z)).length≤cap∧(List.replicate n.toNat (V.ofVal1 z)=[]→cap=0)∧(∀e,e∈List.replicate n.toNat (V.ofVal1 z)→e.cells.length=info.size)∧
       ∀ (i j:Nat) (e d:V) (x:Value),(List.replicate n.toNat (V.ofVal1 z))[i]? =some e→e.cells[j]? =some d→c[i*info.size+j]? =some x→Rd w F x d:=by
      refine ⟨(Array.range (n.toNat*info.size)).map (fun i=>z.cells[i%z.cells.size]!),el,n.toNat,?_,by simp,by simp,by simp,?_,?_⟩
      ·have hzv:(zeroValue el).run P w= .ok z w:=by simp [zeroValue,run_typeInfo hi,hz]
       have hsz:(sizeOf el).run P w= .ok info.size w:=run_sizeOf (zAZ hi) w
       have hlt1: ¬(n<0∨281474976710656< (info.bytes:Int)*n):=by rw [Int.mul_comm];omega
       simp only [not_or] at hlt1
       simp only [execOp,Instr.makeSlice,Sem.run_bind,zC hu,Result.andThen_ok,hl,hcv,asInt,asIntOf,Sem.run_pure,run_typeInfo hi,hwrap]
       have hno:(decide (n<0)||decide ((info.bytes:Int)*n>2^48))=false:=by simp;omega
       simp only [hno,Bool.false_or,List.length_replicate]
       have hno2:(decide (n<0)||decide (n>n))=false:=by simp;omega
       simp only [hno2,Bool.false_eq_true,if_false]
       by_cases hz0:n.toNat*info.size=0
       ·have hrange: ∀f:Nat→Value,(Array.range (n.toNat*info.size)).map f= #[]:=by intro f;rw [hz0];exact Array.eq_empty_of_size_eq_zero (by simp)
        simp only [hrange]
        simp [hsz,hz0,newRow]
        congr 2
        exact Array.eq_empty_of_size_eq_zero (by simp)
       ·simp [hsz,hz0,hzv,newRow]
      ·intro q hq
       rw [List.eq_of_mem_replicate hq];exact hzl
      ·intro i j q d x hi' hj hx
       have hq:q=V.ofVal1 z:=List.eq_of_mem_replicate (List.mem_of_getElem? hi')
       subst hq
       have hj':=(List.getElem?_eq_some_iff.1 hj).1
       have hi2:i<n.toNat:=by have:=(List.getElem?_eq_some_iff.1 hi').1;simpa using this
       have h1:(i+1)*info.size≤n.toNat*info.size:=Nat.mul_le_mul_right _ (by omega)
       rw [Nat.succ_mul] at h1
       have hlt:i*info.size+j<n.toNat*info.size:=by omega
       simp only [Array.getElem?_map,Array.getElem?_range,hlt,if_true,Option.map_some,Option.some.injEq] at hx
       have hmod:(i*info.size+j)%info.size=j:=by
        rw [Nat.mul_comm,Nat.mul_add_mod];exact Nat.mod_eq_of_lt (by omega)
       rw [hzs,hmod] at hx
       have hj2:j<z.cells.size:=by omega
       rw [getElem!_pos z.cells _ hj2] at hx
       subst hx
       exact hz2 j _ d (by simp [hj2]) hj
     obtain ⟨c,et,cap,q1,q2,q3,q4,q5,q6⟩:=hmain
     split at h
     ·rename_i ty hty
      split at h
      ·rename_i x hx
       split at h
       ·rename_i hsz
        simp only [Option.some.injEq] at h
        subst h
        refine ⟨_,c,et,cap,q1,by rw [hsz];exact q2,q3,q4,by rw [hsz];exact q5,by rw [hsz];exact q6,by simp,?_⟩
        intro i p q hp hq
        simp only [List.map_replicate] at hq
        rw [List.eq_of_mem_replicate (List.mem_of_getElem? hp),List.eq_of_mem_replicate (List.mem_of_getElem? hq)]
        exact zHF hx
       ·cases h
      ·simp only [Option.some.injEq] at h;subst h;exact ⟨c,et,cap,q1,q2,q3,q4,q5,q6⟩
     ·simp only [Option.some.injEq] at h;subst h;exact ⟨c,et,cap,q1,q2,q3,q4,q5,q6⟩
    ·cases h
   ·cases h
  ·cases h
 ·cases h
end
end Go.Ve

namespace Go.Ve
open Go
section
variable {Γ:Sig} {P:Program} {G:Nat→Option (List V)} {S:qZ Γ} {e:Env Γ.St} {o:Oper} {a:Act} {w:World} {F:Blk→Prop} {β:Lay} {al:Site→Prop}
theorem zLB {St:Type} {view:Bool} {x:Option (St×RV)} {r:R St} (h:zIw view x=some r): ∃st' rv,x=some (st',rv)∧r= .call st' view rv∧(view=true→rv.plain=true):=by
 unfold zIw at h
 split at h
 ·rename_i st' rv
  split at h
  ·cases h
  ·rename_i hc
   simp only [Option.some.injEq] at h
   refine ⟨st',rv,rfl,h.symm,fun hv=> ?_⟩
   simpa [hv] using hc
 ·cases h
theorem zSF {x:T} {k:V} {v:Value} (h:zSG x=some k) (hr:zE w F β al v x):zTt w F v k:=by
 unfold zSG at h
 split at h
 ·simp only [Option.some.injEq] at h;subst h;exact hr
 ·simp only [Option.some.injEq] at h;subst h;exact hr
 ·simp only [Option.some.injEq] at h;subst h;exact ⟨none,Rd.eq_val hr⟩
 ·cases h
theorem zN7 (hS:zZ Γ P G S) {dst:Option Tmp} {c:Call} {type:TypeId} {pos:String} {after:Array Edge} {guard:Option (Nat×Bool)} (hcal:c.callee= .builtin .append)
  (hops: ∀x,x∈c.operands→zE w F β al (a.eval x) (evx G e x)) {r:R Γ.St} (h:zFK P G S e c=some r):
  zAD Γ P S ⟨dst, .call c,type,pos,after,guard⟩ a w F β al al e.st r:=by
 unfold zFK at h
 split at h
 ·rename_i x0 x1 t0 t1 hargs htys
  split at h
  ·rename_i q t ys hx0 hx1
   split at h
   ·cases h
   ·rename_i hnf
    split at h
    ·rename_i el el1 hu0 hu1
     split at h
     ·rename_i info hinfo
      split at h
      ·rename_i z hz
       split at h
       ·rename_i hc
        obtain ⟨c1,c2,c3⟩:=hc
        split at h
        ·rename_i st' d hs
         simp only [Option.some.injEq] at h
         subst h
         have hargs':c.args= #[x0,x1]:=by apply Array.ext';simpa using hargs
         have h0:=hops x0 (by simp [Call.operands,hcal,hargs'])
         have h1:=hops x1 (by simp [Call.operands,hcal,hargs'])
         have h0:=zSF hx0 h0
         rw [hx1] at h1
         refine .inl ⟨rfl,d,rfl,?_⟩
         intro O hR hF
         have happ:=hS.app hnf e.st q t ys info.bytes st' d hs
         obtain ⟨u,w',hr,ht⟩:=happ c.argTypes type t0 t1 el el1 info z w F O (a.eval x0) (a.eval x1) (by rw [←Array.getElem?_toList,htys];rfl) (by rw [←Array.getElem?_toList,htys];rfl) hu0 hu1 hinfo hz c1 c2 c3 rfl hR hF h0 h1
         refine ⟨u,w',?_,ht⟩
         simp [execOp,resolve,hcal,hargs',invoke,builtin,hr]
        ·cases h
       ·cases h
      ·cases h
     ·cases h
    ·cases h
  ·cases h
 ·cases h
theorem zOc (hS:zZ Γ P G S) (hvars: ∀s cs,e.var s=some cs→al (.v s)→z7 w F β al (β.vb s) cs) {dst:Option Tmp} {c:Call} {type:TypeId} {pos:String} {after:Array Edge} {guard:Option (Nat×Bool)}
  (hops: ∀x,x∈c.operands→zE w F β al (a.eval x) (evx G e x)) {r:R Γ.St} (h:zFL P G S e c ⟨dst, .call c,type,pos,after,guard⟩=some r):
  zAD Γ P S ⟨dst, .call c,type,pos,after,guard⟩ a w F β al al e.st r:=by
 have hns: ∀cs b,(⟨dst, .call c,type,pos,after,guard⟩:Oper).op≠ .select cs b:=fun _ _ hc=>by cases hc
 unfold zFL at h
 split at h
 ·rename_i hcal
  split at h
  ·rename_i r' hr'
   simp only [Option.some.injEq] at h
   subst h
   exact zN7 hS hcal hops hr'
  ·exact vI hns hops h
 ·rename_i hcal
  split at h
  ·rename_i x hx
   split at h
   ·rename_i r' hr'
    split at h
    ·rename_i t ht
     split at h
     ·rename_i el hu
      split at h
      ·rename_i hsz
       simp only [Option.some.injEq] at h
       subst h
       have hx0:c.args= #[x]:=by
        apply Array.ext
        ·simp [hsz]
        ·intro i h1 h2
         simp at h2
         subst h2
         rw [Array.getElem?_eq_getElem h1,Option.some.injEq] at hx
         simpa using hx
       obtain ⟨u,y,rfl,h1,h2⟩:=zP1 (P:=P) (c:=c) (hops x (by simp [Call.operands,hcal,hx0])) hr' hu ht type
       refine ⟨u,?_,h2⟩
       simp [execOp,resolve,hcal,hx0,invoke,builtin,h1]
      ·cases h
     ·cases h
    ·cases h
   ·exact vI hns hops h
  ·cases h
 ·exact vI hns hops h
 ·cases h
 ·rename_i f hcal
  split at h
  ·rename_i g caps ds hf hds
   obtain ⟨st',rv,h1,rfl,h2⟩:=zLB h
   have hfr:=hops f (by simp [Call.operands,hcal])
   rw [hf] at hfr
   obtain ⟨hlen,hargs⟩:=zQf (a:=a) hvars c.args.toList ds (fun x hx=>hops x (by simp [Call.operands];right;simpa using hx)) hds
   have hfr':Rd w F (a.eval f) (.clo g caps):=hfr
   generalize hev:a.eval f=fv at hfr'
   cases hfr' with
   |clo _ cv _ hl hcap=>
    obtain ⟨fn,hfn,hbody,hname⟩:=hS.is g e.st (ds++caps) _ h1 (by
     intro ds' hbot
     have hnb: ∀ (F:Blk→Prop) (u:Value), ¬Rd w F u .bot:=fun F u h=>by cases h
     cases ds with
     |nil=>
      simp only [List.nil_append] at hbot
      subst hbot
      have:0<cv.size:=by rw [hl];simp
      exact hnb F cv[0] (hcap 0 cv[0] .bot (by simp [this]) rfl)
     |cons d ds=>
      simp only [List.cons_append,List.cons.injEq] at hbot
      obtain ⟨rfl,_⟩:=hbot
      have hl0:0< (c.args.toList.map a.eval).length:=by rw [List.length_map,hlen];simp
      exact hnb _ _ (hargs 0 (c.args.toList.map a.eval)[0] .bot (List.getElem?_eq_getElem hl0) rfl).1)
    refine .inr ⟨g,c.args.map a.eval++cv,ds++caps,?_,?_,?_,h1,h2⟩
    ·have hb: ¬fn.body=none:=by intro hbb;simp [hbb] at hbody
     have hname' : ¬ fn.name = "runtime.NumGoroutine" := by simpa using hname
     simp [execOp,resolve,hcal,hev,Deferred.ofValue,invoke,callFunc,hfn,hname',hb]
    ·simp at hlen;simp [hl,hlen]
    ·intro i x d hi hd
     have hsz:(c.args.map a.eval).size=ds.length:=by simpa using hlen
     by_cases hlt:i<ds.length
     ·rw [List.getElem?_append_left hlt] at hd
      rw [Array.getElem?_append_left (by omega)] at hi
      obtain ⟨h3,h4⟩:=hargs i x d (by rw [←Array.getElem?_toList] at hi;simpa using hi) hd
      split
      ·exact h3
      ·rename_i hv;exact h4 (by simpa using hv)
     ·rw [List.getElem?_append_right (by omega)] at hd
      rw [Array.getElem?_append_right (by omega),hsz] at hi
      have h3:=hcap _ x d hi hd
      split
      ·exact h3.mono (fun b hb=> .inl hb) (fun _ _=>rfl)
      ·exact h3
  ·cases h
theorem zO5 (hS:zZ Γ P G S) (hvars: ∀s cs,e.var s=some cs→al (.v s)→z7 w F β al (β.vb s) cs)
  (hops: ∀x,x∈o.op.operands→zE w F β al (a.eval x) (evx G e x)) {r:R Γ.St} (h:evQ P G S e o=some r):zAD Γ P S o a w F β al al e.st r:=by
 obtain ⟨dst,op,type,pos,after,guard⟩:=o
 cases op<;>simp only [evQ] at h
 case move x=>
  simp only [Option.some.injEq] at h;subst h
  exact ⟨a.eval x,by simp [execOp],hops x (by simp [Op.operands])⟩
 case assign x=>
  simp only [Option.some.injEq] at h;subst h
  exact ⟨a.eval x,by simp [execOp],hops x (by simp [Op.operands])⟩
 case pick c x y=>exact vI (fun _ _ hc=>by cases hc) hops h
 case makeMap t r0=>
  cases r0 with
  |some _=>cases h
  |none=>
   simp only [Option.some.injEq] at h;subst h
   show (execOp a.eval ⟨dst, .makeMap t none,type,pos,after,guard⟩).run P w=_
   simp [execOp,Instr.makeMap]
 case lookup t x ix ok=>
  split at h
  ·rename_i id es ck hex
   split at h
   ·rename_i k hk
    simp only [Option.map_eq_some_iff] at h
    obtain ⟨v,hv,rfl⟩:=h
    have hx:=hops x (by simp [Op.operands])
    have hi:=zGD (hops ix (by simp [Op.operands])) hk
    rw [hex] at hx
    obtain ⟨_,hxv,hm⟩:=hx
    refine ⟨v,?_,zGj _ _ _⟩
    have hrun:=zAd hv w
    have:(Instr.lookup t (a.eval x) (a.eval ix) ok).run P w=(lookIn t es k ok).run P w:=by
     rw [hxv,hi]
     cases hu:P.underlying t with
     |none=>
      have hh : (underlying t).run P w = .halt (.stuck "no such type") w := by
       show (match P.underlying t with | some d => pure d | none => stuck "no such type" : Sem TypeDesc).run P w = _
       rw [hu];rfl
      simp only [lookIn,Sem.run_bind,hh] at hrun
      cases hrun
     |some d=>
      have hg:(getObj (β.ob id)).run P w= .ok (.map es.toArray ck) w:=by simp [getObj,Sem.run,hm]
      simp only [Instr.lookup,lookIn,Sem.run_bind,zC hu,Result.andThen_ok]
      cases d<;>simp [hg]
      congr 1
    simp [execOp,this,hrun]
   ·cases h
  ·cases h
 case alloc t=>
  split at h
  ·rename_i z hz
   simp only [Option.bind_eq_some_iff] at hz
   obtain ⟨info,hi,hz⟩:=hz
   simp only [Option.some.injEq] at h;subst h
   have hzv:(zeroValue t).run P w= .ok z w:=by simp [zeroValue,run_typeInfo hi,hz]
   obtain ⟨h1,h2⟩:=zBl (zAc w F z) (by cases z<;>rfl)
   refine ⟨z.cells,t,?_,by simpa using h1,?_⟩
   ·simp [execOp,Instr.alloc,hzv,newVar,newRow]
   ·intro i x d h3 h4
    simp only [List.getElem?_map,Option.map_eq_some_iff] at h4
    obtain ⟨y,hy,rfl⟩:=h4
    exact h2 i x y h3 hy
  ·cases h
 case box t x=>
  have hx:=hops x (by simp [Op.operands])
  have hrun:(execOp a.eval ⟨dst, .box t x,type,pos,after,guard⟩).run P w= .ok (.value (.pointer (some ⟨w.heap.size,0,none⟩))) { w with heap:=w.heap.push (.cells (a.eval x).cells t) } :=by
   simp [execOp,Instr.box,newVar,newRow]
  have hone: ∀y:T,zE w F β al (a.eval x) y→(a.eval x).cells= #[a.eval x]→zAD Γ P S ⟨dst, .box t x,type,pos,after,guard⟩ a w F β al al e.st (.var [y]):=by
   intro y hy hc
   refine ⟨(a.eval x).cells,t,hrun,by rw [hc];rfl,?_⟩
   rw [hc]
   intro i u d h3 h4
   cases i with
   |zero=>simp at h3 h4;subst h3 h4;exact hy
   |succ i=>simp at h4
  cases hex:evx G e x with
  |p d=>
   simp only [hex] at h hx
   split at h
   ·rename_i hleaf
    simp only [Option.some.injEq] at h;subst h
    obtain ⟨h1,h2⟩:=zBl hx hleaf
    refine ⟨(a.eval x).cells,t,hrun,by simpa using h1,?_⟩
    intro i u d' h3 h4
    simp only [List.getElem?_map,Option.map_eq_some_iff] at h4
    obtain ⟨y,hy,rfl⟩:=h4
    exact h2 i u y h3 hy
   ·cases h
  |dead=>simp [hex] at h
  |ow id k es=>
   simp only [hex,Option.some.injEq] at h hx;subst h
   refine hone _ hx ?_
   obtain ⟨_,cap,hv,_⟩:=hx;rw [hv];rfl
  |oe id k es i off=>
   simp only [hex,Option.some.injEq] at h hx;subst h
   refine hone _ hx ?_
   obtain ⟨_,_,cap,hv,_⟩:=hx;rw [hv];rfl
  |lp s off=>
   simp only [hex,Option.some.injEq] at h hx;subst h
   refine hone _ hx ?_
   obtain ⟨_,hv⟩:=hx;rw [hv];rfl
  |mp id es ck=>
   simp only [hex,Option.some.injEq] at h hx;subst h
   refine hone _ hx ?_
   obtain ⟨_,hv,_⟩:=hx;rw [hv];rfl
  |ot id t xs=>
   simp only [hex,Option.some.injEq] at h hx;subst h
   refine hone _ hx ?_
   rcases hx with ⟨_,a0,hv⟩|⟨_,_,cap,hv,_⟩<;>(rw [hv];rfl)
  |oet id t xs i off=>
   simp only [hex,Option.some.injEq] at h hx;subst h
   refine hone _ hx ?_
   obtain ⟨_,_,cap,hv,_⟩:=hx;rw [hv];rfl
  |ov id t xs lo hi=>
   simp only [hex,Option.some.injEq] at h hx;subst h
   refine hone _ hx ?_
   rcases hx with ⟨_,_,_,a0,hv⟩|⟨_,_,_,_,cap,hv,_⟩<;>(rw [hv];rfl)
  |on n=>
   simp only [hex,Option.some.injEq] at h hx;subst h
   refine hone _ hx ?_
   rcases zHL.shape hx with ⟨_,_,_,hv⟩|⟨_,hv⟩<;>(rw [hv];rfl)
  |emp=>
   simp only [hex,Option.some.injEq] at h hx;subst h
   refine hone _ hx ?_
   obtain ⟨a0,hv⟩:=hx;rw [hv];rfl
 case build t parts=>
  split at h
  ·rename_i ps hps
   obtain ⟨u,y,rfl,h1,h2⟩:=zMO (a:=a) (fun p hp=>hops p.2 (by
    simp only [Op.operands]
    simp only [List.mem_toArray,List.mem_map]
    exact ⟨p,hp,rfl⟩)) hps h
   exact ⟨u,by simp [execOp,h1],h2⟩
  ·cases h
 case buildSlice t n parts=>
  split at h
  ·rename_i ps hps
   exact zHz (fun p hp=>hops p.2 (by
    simp only [Op.operands]
    simp only [List.mem_toArray,List.mem_map]
    exact ⟨p,hp,rfl⟩)) hps h
  ·cases h
 case makeSlice t l c=>
  split at h
  ·rename_i n m hl hc
   split at h
   ·rename_i hnm
    subst hnm
    have h1:=hops l (by simp [Op.operands])
    have h2:=hops c (by simp [Op.operands])
    rw [hl] at h1
    rw [hc] at h2
    exact zIb (Rd.eq_val h1) (Rd.eq_val h2) h
   ·cases h
  ·cases h
 case load t x=>
  obtain ⟨u,y,rfl,h1,h2⟩:=zN5 hvars (hops x (by simp [Op.operands])) h
  exact ⟨u,by simp [execOp,h1],h2⟩
 case nilCheck x=>
  have hx:=hops x (by simp [Op.operands])
  split at h
  ·rename_i cs hex
   simp only [Option.some.injEq] at h;subst h
   rw [hex] at hx
   refine ⟨a.eval x,?_,hx⟩
   have hx':Rd w F (a.eval x) (.pp cs):=hx
   generalize hv:a.eval x=v at hx'
   cases hx'
   simp [execOp,hv]
  ·rename_i f caps hex
   simp only [Option.some.injEq] at h;subst h
   rw [hex] at hx
   refine ⟨a.eval x,?_,hx⟩
   have hx':Rd w F (a.eval x) (.clo f caps):=hx
   generalize hv:a.eval x=v at hx'
   cases hx'
   simp [execOp,hv]
  ·rename_i s off hex
   simp only [Option.some.injEq] at h;subst h
   rw [hex] at hx
   obtain ⟨h1,h2⟩:=hx
   exact ⟨a.eval x,by simp [execOp,h2],h1,h2⟩
  ·rename_i id k es i off hex
   simp only [Option.some.injEq] at h;subst h
   rw [hex] at hx
   obtain ⟨h1,h2,cap,h3,h4⟩:=hx
   exact ⟨a.eval x,by simp [execOp,h3],h1,h2,cap,h3,h4⟩
  ·rename_i id ty xs i off hex
   simp only [Option.some.injEq] at h;subst h
   rw [hex] at hx
   obtain ⟨h1,h2,cap,h3,h4⟩:=hx
   exact ⟨a.eval x,by simp [execOp,h3],h1,h2,cap,h3,h4⟩
  ·rename_i id id2 ty xs j ys k off hex
   simp only [Option.some.injEq] at h;subst h
   rw [hex] at hx
   obtain ⟨a1,a2,c,et,cap2,k1,k2,k5,k6,k7,k8,k9⟩:=hx
   exact ⟨a.eval x,by simp [execOp,k9],a1,a2,c,et,cap2,k1,k2,k5,k6,k7,k8,k9⟩
  ·exact vI (fun _ _ hc=>by cases hc) hops h
 case binOp op t x y t'=>
  split at h
  ·rename_i r' hr'
   simp only [Option.some.injEq] at h
   subst h
   exact zP0 (hops x (by simp [Op.operands])) (hops y (by simp [Op.operands])) hr'
  ·split at h
   ·rename_i r' hr'
    simp only [Option.some.injEq] at h
    subst h
    exact zRO (hops x (by simp [Op.operands])) (hops y (by simp [Op.operands])) hr'
   ·exact vI (fun _ _ hc=>by cases hc) hops h
 case unOp op t x=>exact vI (fun _ _ hc=>by cases hc) hops h
 case convert s d x=>exact vI (fun _ _ hc=>by cases hc) hops h
 case index t x i=>exact vI (fun _ _ hc=>by cases hc) hops h
 case makeFunc fn first captured=>
  cases fn<;>simp only [reduceCtorEq] at h
  rename_i f
  split at h
  ·rename_i ds hds
   split at h
   ·rename_i hsz
    simp only [Option.some.injEq] at h;subst h
    obtain ⟨h1,h2⟩:=zA1 (a:=a) captured.toList ds (fun x hx=>hops x (by simp [Op.operands];right;simpa using hx)) hds
    have hfirst:first= #[]:=Array.eq_empty_of_size_eq_zero hsz
    refine ⟨.func (.func f) #[] (captured.map a.eval),by simp [execOp,Instr.makeFunc,hfirst],?_⟩
    refine Rd.clo f _ ds (by simpa using h1) ?_
    intro i x d h3 h4
    exact h2 i x d (by rw [←Array.getElem?_toList] at h3;simpa using h3) h4
   ·cases h
  ·cases h
 case slice t x lo hi mx=>
  split at h
  ·rename_i es hex
   have hx:=hops x (by simp [Op.operands])
   rw [hex] at hx
   obtain ⟨u,y,rfl,h1,h2⟩:=zHW (a:=a) (G:=G) (e:=e) (lo:=lo) (hi:=hi) (mx:=mx) hx
    (fun y hy=>hops y (by simp [Op.operands,hy])) (fun y hy=>hops y (by simp [Op.operands,hy])) (fun y hy=>hops y (by simp [Op.operands,hy])) h
   exact ⟨u,by simp [execOp,h1],h2⟩
  ·rename_i ty xs hex
   have hx:=hops x (by simp [Op.operands])
   rw [hex] at hx
   obtain ⟨u,y,rfl,h1,h2⟩:=zLq (a:=a) (G:=G) (e:=e) (lo:=lo) (hi:=hi) (mx:=mx) hx
    (fun y hy=>hops y (by simp [Op.operands,hy])) (fun y hy=>hops y (by simp [Op.operands,hy])) (fun y hy=>hops y (by simp [Op.operands,hy])) h
   exact ⟨u,by simp [execOp,h1],h2⟩
  ·rename_i id ty xs hex
   have hx:=hops x (by simp [Op.operands])
   rw [hex] at hx
   obtain ⟨u,y,rfl,h1,h2⟩:=zLr (a:=a) (G:=G) (e:=e) (lo:=lo) (hi:=hi) (mx:=mx) hx
    (fun y hy=>hops y (by simp [Op.operands,hy])) (fun y hy=>hops y (by simp [Op.operands,hy])) h
   exact ⟨u,by simp [execOp,h1],h2⟩
  ·exact vI (fun _ _ hc=>by cases hc) hops h
 case fieldAddr t x i=>
  obtain ⟨u,y,rfl,h1,h2⟩:=zIe (hops x (by simp [Op.operands])) h
  exact ⟨u,by simp [execOp,h1],h2⟩
 case field t x i=>
  split at h
  ·rename_i cs hex
   have hx:=hops x (by simp [Op.operands])
   rw [hex] at hx
   unfold zIv at h
   split at h
   ·rename_i f hf
    obtain ⟨fs,hu,hfi⟩:=zC4 hf
    simp only [Option.map_eq_some_iff] at h
    obtain ⟨d,hd,rfl⟩:=h
    have hx':Rd w F (a.eval x) (.agg cs):=hx
    generalize hv:a.eval x=v at hx'
    cases hx' with
    |agg c _ hl hr=>
     obtain ⟨u,h1,h2⟩:=zHe hl hr hd
     exact ⟨u,by simp [execOp,Instr.field,zC hu,hfi,hv,asAgg,h1],h2⟩
   ·cases h
  ·cases h
 case indexAddr t x ix=>
  split at h
  ·rename_i k i hix
   have hi:=hops ix (by simp [Op.operands])
   rw [hix] at hi
   have hi':=Rd.eq_val hi
   obtain ⟨u,y,rfl,h1,h2⟩:=zIc (k:=k) (hops x (by simp [Op.operands])) h
   exact ⟨u,by simp [execOp,hi',h1],h2⟩
  ·cases h
 case extract x i=>
  split at h
  ·rename_i vs hex
   have hx:=hops x (by simp [Op.operands])
   rw [hex] at hx
   simp only [Option.map_eq_some_iff] at h
   obtain ⟨d,hd,rfl⟩:=h
   have hx':Rd w F (a.eval x) (.tup vs):=hx
   generalize hv:a.eval x=v at hx'
   cases hx' with
   |tup c _ hl hr=>
    have hlt:i<c.size:=by have:=(List.getElem?_eq_some_iff.1 hd).1;omega
    exact ⟨c[i],by simp [execOp,Instr.extract,hv,hlt],hr i _ d (by simp [hlt]) hd⟩
  ·cases h
 case call c=>exact zOc hS hvars hops h
 all_goals (cases h)
end
end Go.Ve

namespace Go.Ve
open Go
def ownT (d:Nat):List V→T
 |[]=> .emp
 |e::es=> .ow d e.cells.length (e::es)
def zUA (d k:Nat):List V→T
 |[]=> .emp
 |e::es=> .ow d k (e::es)
def frzT:List V→T
 |[]=> .emp
 |e::es=> .p (.sl (e::es))
def rvT (d:Nat):RV→T
 | .p x=> .p x
 | .own es=>ownT d es
 | .ownT t xs=> .ot d t xs
theorem zPP: ∀ (t:Ty) (x:t.El),t.flat=true→ ∀d,d∈t.cells x→d.isVal=true:=by
 intro t
 induction t with
 |pair a b iha ihb=>
  intro x h d hd
  simp only [Ty.flat,Bool.and_eq_true] at h
  simp only [Ty.cells,List.mem_append] at hd
  rcases hd with hd|hd
  ·exact iha x.1 h.1 d hd
  ·exact ihb x.2 h.2 d hd
 |sl t _=>intro x h;simp [Ty.flat] at h
 |rf=>intro x h;simp [Ty.flat] at h
 |hd=>intro x h;simp [Ty.flat] at h
 |unit=>intro x _ d hd;simp [Ty.cells] at hd
 |_=>intro x _ d hd;simp [Ty.cells] at hd;subst hd;rfl
theorem zJp (t:Ty) (xs:List t.El) (h:t.flat=true):(RV.own (xs.map t.enc)).plain=true:=by
 simp only [RV.plain,List.all_map,List.all_eq_true,Function.comp]
 intro x _
 have hl:=zPP t x h
 cases t with
 |pair a b=>
  have:(a.cells x.1++b.cells x.2).all V.isVal=true:=List.all_eq_true.2 hl
  simp only [Ty.enc,V.toVal1,this,if_true,Option.isSome_some]
 |sl t=>simp [Ty.flat] at h
 |rf=>simp [Ty.flat] at h
 |hd=>simp [Ty.flat] at h
 |_=>rfl
def zJ0 {St:Type} (d:Nat):R St→T
 | .ret x=>x
 | .var _=> .lp d 0
 | .own k es=>zUA d k es
 | .frz es=>frzT es
 | .call _ _ r=>rvT d r
 | .mk=> .mp d [] 0
 | .frzT t xs=> .p (.tl t xs)
 | .ownT t xs=> .ot d t xs
def zHP {St:Type} (st:St):R St→St
 | .call st' _ _=>st'
 |_=>st
def R.needs {St:Type} :R St→Bool
 | .ret _=>false
 | .call _ _ (.p _)=>false
 |_=>true
structure After (Γ:Sig) (w0:World) (F0:Blk→Prop) (O0:kC) (w:World) (F:Blk→Prop) (β:Lay) (al:Site→Prop) (st:Γ.St) (d:Nat) (r:R Γ.St)
  (v:Value) (w':World) (F':Blk→Prop) (O':Nat→Prop) (β':Lay) (al':Site→Prop):Prop where
 core:Core Γ w0 F0 O0 w' F' O' β' al' (zHP st r)
 ext:Ext w F β al w' F' β' al'
 new: ∀x,al' x→al x∨(r.needs=true∧((x= .v d∧ ∃cs,r= .var cs)∨(x= .o d∧True)))
 res:zE w' F' β' al' v (zJ0 d r)
 var: ∀cs,r= .var cs→al' (.v d)∧z7 w' F' β' al' (β'.vb d) cs
section
variable {Γ:Sig} {P:Program} {G:Nat→Option (List V)} {S:qZ Γ} {o:Oper} {a:Act} {w0:World} {F0:Blk→Prop} {O0:kC} {w:World} {F:Blk→Prop} {O:Nat→Prop} {β:Lay} {al:Site→Prop} {st:Γ.St}
theorem vR {w:World} {ob:Obj} {b:Nat} (h:b<w.heap.size):({ w with heap:=w.heap.push ob } :World).heap[b]? =w.heap[b]? :=by
 simp [Array.getElem?_push];omega
theorem zAu {w:World} {ob:Obj} :({ w with heap:=w.heap.push ob } :World).heap[w.heap.size]? =some ob:=by
 simp
theorem zBx.push {O0:Nat→Prop} (hk:zBx O0 w0 w) (ob:Obj):zBx O0 w0 { w with heap:=w.heap.push ob } :=
 ⟨hk.os,hk.tape,hk.output,by simp;have:=hk.size;omega,fun b hb ho=>by
  rw [vR (by have:=hk.size;omega)];exact hk.block b hb ho,hk.drawn⟩
theorem Core.push_ext (hc:Core Γ w0 F0 O0 w F O β al st) (ob:Obj) (β':Lay) (al':Site→Prop) (hb: ∀x,al x→β'.blk x=β.blk x) (ha: ∀x,al x→al' x):
  Ext w F β al { w with heap:=w.heap.push ob } F β' al':=
 ⟨fun _ h=>h,fun b hb=>vR (hc.fin b hb).2.1,ha,hb,fun x hx=>vR (hc.place x hx).2.1⟩
theorem Core.push (hc:Core Γ w0 F0 O0 w F O β al st) (ob:Obj) (β':Lay) (s:Site) (hL:s≠ .o qA) (hs:β'.blk s=w.heap.size) (hb: ∀x,al x→β'.blk x=β.blk x):
  Core Γ w0 F0 O0 { w with heap:=w.heap.push ob } F O β' (fun x=>al x∨x=s) st:=by
 refine ⟨hc.keep.push ob,Γ.mono hc.sig (fun _ _ _ _=>Iff.rfl) (fun b hb=>vR (Γ.inb hc.sig b hb)),hc.oin,?_,hc.f0,?_,?_,hc.lent.step (fun b n _ hb ho hf=>⟨vR (by have:=hc.keep.size;omega),ho,hf⟩)⟩
 ·intro b hb
  obtain ⟨h1,h2,h3⟩:=hc.fin b hb
  exact ⟨h1,by simp;omega,h3⟩
 ·rintro x (hx|rfl)
  ·obtain ⟨h1,h2,h3,h4⟩:=hc.place x hx
   rw [hb x hx]
   exact ⟨h1,by simp;omega,h3,h4⟩
  ·rw [hs]
   refine ⟨.inl ⟨hL,hc.keep.size⟩,by simp,fun hf=> ?_,fun ho=> ?_⟩
   ·have:=(hc.fin _ hf).2.1;omega
   ·have:=Γ.inb hc.sig _ ho;omega
 ·rintro x y (hx|rfl) (hy|rfl) h
  ·rw [hb x hx,hb y hy] at h;exact hc.dist x y hx hy h
  ·rw [hb x hx,hs] at h;have:=(hc.place x hx).2.1;omega
  ·rw [hs,hb y hy] at h;have:=(hc.place y hy).2.1;omega
  ·rfl
theorem zGp (hS:zZ Γ P G S) (hG:zBH G w F) (hc:Core Γ w0 F0 O0 w F O β al st) {alv:Site→Prop} (hv: ∀x,alv x→β.blk x<w.heap.size∧ ¬O (β.blk x)) {r:R Γ.St} (hs:zAD Γ P S o a w F β al alv st r) {d:Nat}
  (hdl:r.needs=true→d≠qA) (hfr:r.needs=true→ ¬al (.v d)∧ ¬al (.o d)) {K:Act→World→Prop} {Q:Exit→Act→World→Prop}
  (hK: ∀v w' F' O' β' al',After Γ w0 F0 O0 w F β al st d r v w' F' O' β' al'→K (a.put o.dst v) w'):o.wp P a w K Q:=by
 unfold Oper.wp
 cases r with
 |ret x=>
  obtain ⟨v,h1,h2⟩:=hs
  rw [h1]
  exact hK v w F O β al ⟨hc,Ext.refl,fun x hx=> .inl hx,h2,(fun cs h=>by cases h)⟩
 |var cs=>
  obtain ⟨c,et,h1,h2,h3⟩:=hs
  rw [h1]
  let β':Lay:= { β with vb:=fun s=>if s=d then w.heap.size else β.vb s }
  have hb: ∀x,al x→β'.blk x=β.blk x:=by
   intro x hx
   cases x with
   |v s=>
    have hne:s≠d:=fun h=>(hfr rfl).1 (h▸hx)
    simp [Lay.blk,β',hne]
   |o id=>rfl
  have hsb:β'.blk (.v d)=w.heap.size:=by simp [Lay.blk,β']
  have hext:=hc.push_ext (.cells c et) β' (fun x=>al x∨x= .v d) hb (fun x hx=> .inl hx)
  have hvar:z7 { w with heap:=w.heap.push (.cells c et) } F β' (fun x=>al x∨x= .v d) (β'.vb d) cs:=by
   refine ⟨c,et,?_,h2,fun i x y hi hy=>(h3 i x y hi hy).ext hext⟩
   have:β'.vb d=w.heap.size:=hsb
   rw [this];exact zAu
  refine hK _ _ F O β' (fun x=>al x∨x= .v d) ⟨hc.push _ β' (.v d) (fun h=>by cases h) hsb hb,hext,?_,?_,?_⟩
  ·rintro x (hx|rfl)
   ·exact .inl hx
   ·exact .inr ⟨rfl, .inl ⟨rfl,cs,rfl⟩⟩
  ·refine ⟨.inr rfl,?_⟩
   have:β'.vb d=w.heap.size:=hsb
   rw [this]
  ·intro cs' h;cases h;exact ⟨.inr rfl,hvar⟩
 |own k es=>
  obtain ⟨c,et,cap,h1,h2,h3,h30,h4,h5⟩:=hs
  rw [h1]
  let β':Lay:= { β with ob:=fun s=>if s=d then w.heap.size else β.ob s }
  have hb: ∀x,al x→β'.blk x=β.blk x:=by
   intro x hx
   cases x with
   |o s=>
    have hne:s≠d:=fun h=>(hfr rfl).2 (h▸hx)
    simp [Lay.blk,β',hne]
   |v id=>rfl
  have hsb:β'.blk (.o d)=w.heap.size:=by simp [Lay.blk,β']
  have hext:=hc.push_ext (.cells c et) β' (fun x=>al x∨x= .o d) hb (fun x hx=> .inl hx)
  have hob:β'.ob d=w.heap.size:=hsb
  cases es with
  |nil=>
   have hp:=hc.push (.cells c et) β' (.o d) (fun h=>hdl rfl (by cases h;rfl)) hsb hb
   refine hK _ _ F O β' al ⟨⟨hp.keep,hp.sig,hp.oin,hp.fin,hp.f0,fun x hx=>hp.place x (.inl hx),fun x y hx hy=>hp.dist x y (.inl hx) (.inl hy),hp.lent⟩,
    ⟨hext.f,hext.hf,fun _ h=>h,hext.b,hext.ha⟩,fun x hx=> .inl hx,?_,(fun cs h=>by cases h)⟩
   exact ⟨_,by rw [h30 rfl];rfl⟩
  |cons e0 es0=>
  refine hK _ _ F O β' (fun x=>al x∨x= .o d) ⟨hc.push _ β' (.o d) (fun h=>hdl rfl (by cases h;rfl)) hsb hb,hext,?_,?_,?_⟩
  ·rintro x (hx|rfl)
   ·exact .inl hx
   ·exact .inr ⟨rfl, .inr ⟨rfl,trivial⟩⟩
  ·refine ⟨.inr rfl,cap,by rw [hob],c,et,?_,h2,h3,h4,?_⟩
   ·rw [hob];exact zAu
   ·intro i j e d' x a1 a2 a3;exact Rd.ext hext (h5 i j e d' x a1 a2 a3)
  ·intro cs' h;cases h
 |frzT t xs=>
  obtain ⟨es,c,et,h1,h2,h4,h5,hwk⟩:=hs
  rw [h1]
  let F':Blk→Prop:=fun b=>F b∨b=w.heap.size
  have hext:Ext w F β al { w with heap:=w.heap.push (.cells c et) } F' β al:=
   ⟨fun _ h=> .inl h,fun b hb=>vR (hc.fin b hb).2.1,fun _ h=>h,fun _ _=>rfl,fun x hx=>vR (hc.place x hx).2.1⟩
  have hrd:Rd { w with heap:=w.heap.push (.cells c et) } F' (.slice (some ⟨w.heap.size,0,none⟩) es.length es.length) (.tl t xs):=by
   refine .tl t xs _ ?_
   have hrow:zW { w with heap:=w.heap.push (.cells c et) } F' w.heap.size t.size es.length es:=⟨c,et,zAu,h2,Nat.le_refl _,h4,fun i j e d' x a1 a2 a3=>Rd.ext hext (h5 i j e d' x a1 a2 a3)⟩
   have:=zDn (F:=F') (hrow.typed rfl hwk) (fun _ h=>h) (.inr rfl)
   rw [←hwk.1] at this
   exact this
  refine hK _ _ F' O β al ⟨?_,hext,fun x hx=> .inl hx,hrd,(fun cs h=>by cases h)⟩
  ·refine ⟨hc.keep.push _,Γ.mono hc.sig zJO (fun b hb=>vR (Γ.inb hc.sig b hb)),hc.oin,?_,fun b hb=> .inl (hc.f0 b hb),?_,hc.dist,hc.lent.step (fun b n _ hb ho hf=>⟨vR (by have:=hc.keep.size;omega),ho,fun h=>h.elim hf (fun h=>by have:=kA h;have:=hc.keep.size;omega)⟩)⟩
   ·rintro b (hb|hb)
    ·obtain ⟨h1,h2,h3⟩:=hc.fin b hb
     exact ⟨h1,by simp;omega,h3⟩
    ·have hb:=kA hb
     subst hb
     exact ⟨.inr hc.keep.size,by simp,fun ho=>by have:=Γ.inb hc.sig _ ho;omega⟩
   ·intro x hx
    obtain ⟨h1,h2,h3,h4⟩:=hc.place x hx
    exact ⟨h1,by simp;omega,fun h=>h.elim h3 (fun h=>by have:=kA h;omega),h4⟩
 |ownT t xs=>
  obtain ⟨es,c,et,cap,h1,h2,h3,h30,h4,h5,hwk⟩:=hs
  rw [h1]
  let β':Lay:= { β with ob:=fun s=>if s=d then w.heap.size else β.ob s }
  have hb: ∀x,al x→β'.blk x=β.blk x:=by
   intro x hx
   cases x with
   |o s=>
    have hne:s≠d:=fun h=>(hfr rfl).2 (h▸hx)
    simp [Lay.blk,β',hne]
   |v id=>rfl
  have hsb:β'.blk (.o d)=w.heap.size:=by simp [Lay.blk,β']
  have hext:=hc.push_ext (.cells c et) β' (fun x=>al x∨x= .o d) hb (fun x hx=> .inl hx)
  have hob:β'.ob d=w.heap.size:=hsb
  have hlx:es.length=xs.length:=by have:=hwk.1;simpa using this
  refine hK _ _ F O β' (fun x=>al x∨x= .o d) ⟨hc.push _ β' (.o d) (fun h=>hdl rfl (by cases h;rfl)) hsb hb,hext,?_,?_,?_⟩
  ·rintro x (hx|rfl)
   ·exact .inl hx
   ·exact .inr ⟨rfl, .inr ⟨rfl,trivial⟩⟩
  ·by_cases h0:xs.map t.enc=[]
   ·have he:es=[]:=List.eq_nil_of_length_eq_zero (by rw [hwk.1,h0];rfl)
    subst he
    exact .inl ⟨h0,_,by rw [h30 rfl];rfl⟩
   ·refine .inr ⟨h0, .inr rfl,cap,by rw [hob, ←hwk.1],?_⟩
    rw [hob]
    refine zW.typed ⟨c,et,zAu,h2,h3,h4,?_⟩ rfl hwk
    intro i j e d' x a1 a2 a3;exact Rd.ext hext (h5 i j e d' x a1 a2 a3)
  ·intro cs' h;cases h
 |mk=>
  have hs':(execOp a.eval o).run P w= .ok (.value (.map (some w.heap.size))) { w with heap:=w.heap.push (.map #[] 0) } :=hs
  rw [hs']
  let β':Lay:= { β with ob:=fun s=>if s=d then w.heap.size else β.ob s }
  have hb: ∀x,al x→β'.blk x=β.blk x:=by
   intro x hx
   cases x with
   |o s=>
    have hne:s≠d:=fun h=>(hfr rfl).2 (h▸hx)
    simp [Lay.blk,β',hne]
   |v id=>rfl
  have hsb:β'.blk (.o d)=w.heap.size:=by simp [Lay.blk,β']
  have hext:=hc.push_ext (.map #[] 0) β' (fun x=>al x∨x= .o d) hb (fun x hx=> .inl hx)
  have hob:β'.ob d=w.heap.size:=hsb
  refine hK _ _ F O β' (fun x=>al x∨x= .o d) ⟨hc.push _ β' (.o d) (fun h=>hdl rfl (by cases h;rfl)) hsb hb,hext,?_,?_,?_⟩
  ·rintro x (hx|rfl)
   ·exact .inl hx
   ·exact .inr ⟨rfl, .inr ⟨rfl,trivial⟩⟩
  ·exact ⟨.inr rfl,by rw [hob],by rw [hob];exact zAu⟩
  ·intro cs' h;cases h
 |frz es=>
  obtain ⟨c,et,k,h1,h2,h4,h5⟩:=hs
  rw [h1]
  let F':Blk→Prop:=fun b=>F b∨b=w.heap.size
  have hext:Ext w F β al { w with heap:=w.heap.push (.cells c et) } F' β al:=
   ⟨fun _ h=> .inl h,fun b hb=>vR (hc.fin b hb).2.1,fun _ h=>h,fun _ _=>rfl,fun x hx=>vR (hc.place x hx).2.1⟩
  have hrd:Rd { w with heap:=w.heap.push (.cells c et) } F' (.slice (some ⟨w.heap.size,0,none⟩) es.length es.length) (.sl es):=by
   refine zDn (F:=F') (k:=k) ⟨c,et,zAu,h2,Nat.le_refl _,h4,?_⟩ (fun _ h=>h) (.inr rfl)
   intro i j e d' x a1 a2 a3;exact Rd.ext hext (h5 i j e d' x a1 a2 a3)
  refine hK _ _ F' O β al ⟨?_,hext,fun x hx=> .inl hx,?_,(fun cs h=>by cases h)⟩
  ·refine ⟨hc.keep.push _,Γ.mono hc.sig zJO (fun b hb=>vR (Γ.inb hc.sig b hb)),hc.oin,?_,fun b hb=> .inl (hc.f0 b hb),?_,hc.dist,hc.lent.step (fun b n _ hb ho hf=>⟨vR (by have:=hc.keep.size;omega),ho,fun h=>h.elim hf (fun h=>by have:=kA h;have:=hc.keep.size;omega)⟩)⟩
   ·rintro b (hb|hb)
    ·obtain ⟨h1,h2,h3⟩:=hc.fin b hb
     exact ⟨h1,by simp;omega,h3⟩
    ·have hb:=kA hb
     subst hb
     exact ⟨.inr hc.keep.size,by simp,fun ho=>by have:=Γ.inb hc.sig _ ho;omega⟩
   ·intro x hx
    obtain ⟨h1,h2,h3,h4⟩:=hc.place x hx
    exact ⟨h1,by simp;omega,fun h=>h.elim h3 (fun h=>by have:=kA h;omega),h4⟩
  ·cases es with
   |nil=>exact ⟨_,rfl⟩
   |cons e es=>exact hrd
 |call st' view rv=>
  have hFF: ∀b,F b→(if view then Fal F β alv else F) b:=by
   intro b hb
   cases view with
   |false=>exact hb
   |true=>exact .inl hb
  have main:(view=true→rv.plain=true)→ ∀ (v:Value) (w':World) (Fr:Blk→Prop) (O':Nat→Prop),Γ.R st' Fr O' w'→zBx O w w'→(∀b,O' b→O b∨w.heap.size≤b)→(∀b,(if view then Fal F β alv else F) b→Fr b)→
    (∀b:Nat,Fr b→((if view then Fal F β alv else F) b∨w.heap.size≤b)∧b<w'.heap.size∧ ¬O' b)→uX w.heap.size w' Fr O' v rv→K (a.put o.dst v) w':=by
   intro h5 v w' Fr O' g1 g2 g3 g4 g5 g6
   let F':Blk→Prop:=fun b=>Fr b∧(F b∨zUD w.heap.size b)
   have g1:Γ.R st' F' O' w':=Γ.mono g1 (fun id a n c=>⟨fun h=>h.1,fun h=>⟨h, .inr trivial⟩⟩) (fun _ _=>rfl)
   have hO': ∀b,b<w.heap.size→ ¬O b→ ¬O' b:=fun b hb ho h=>by
    rcases g3 b h with h|h
    ·exact ho h
    ·omega
   have hsame: ∀b,b<w.heap.size→ ¬O b→w'.heap[b]? =w.heap[b]? :=g2.block
   have hplain: ∀ (u:Value) (x:V) (y:Value),x.toVal=some y→Rd w' Fr u x→Rd w' F' u x:=fun u x y hx hr=>hr.of_flat hx
   have hrd: ∀ (u:Value) (x:V),view=false→Rd w' Fr u x→Rd w' F' u x:=by
    intro u x hv hr
    subst hv
    refine hr.mono (fun b hb=>⟨hb,?_⟩) (fun _ _=>rfl)
    cases b with
    |b n=>exact (g5 n hb).1
    |h _ _ _ _=>exact .inr trivial
   have hcore: ∀ (β':Lay) (al':Site→Prop),(∀x,al' x→(al x∧β'.blk x=β.blk x)∨((x≠ .o qA∧w.heap.size≤β'.blk x)∧β'.blk x<w'.heap.size∧ ¬F' (β'.blk x)∧ ¬O' (β'.blk x)))→
     (∀x y,al' x→al' y→β'.blk x=β'.blk y→x=y)→Core Γ w0 F0 O0 w' F' O' β' al' st':=by
    intro β' al' hpl hdist
    refine ⟨⟨g2.os.trans hc.keep.os,g2.tape.trans hc.keep.tape,g2.output.trans hc.keep.output,Nat.le_trans hc.keep.size g2.size,?_,Nat.le_trans hc.keep.drawn g2.drawn⟩,g1,?_,?_,?_,?_,hdist,hc.lent.step (fun b n _ hb ho hf=>⟨hsame b (by have:=hc.keep.size;omega) ho,hO' b (by have:=hc.keep.size;omega) ho,fun h=>h.2.elim hf (fun h=>by have h:w.heap.size≤b:=h;have:=hc.keep.size;omega)⟩)⟩
    ·intro b hb ho
     have hno: ¬O b:=fun h=>by
      rcases hc.oin b h with h|h
      ·exact ho (.inl h)
      ·omega
     rw [hsame b (by have:=hc.keep.size;omega) hno]
     exact hc.keep.block b hb ho
    ·intro b hb
     rcases g3 b hb with h|h
     ·exact hc.oin b h
     ·exact .inr (Nat.le_trans hc.keep.size h)
    ·intro b hb
     obtain ⟨h1,h2,h3⟩:=g5 b hb.1
     refine ⟨?_,h2,h3⟩
     rcases hb.2 with h|h
     ·exact (hc.fin b h).1
     ·exact .inr (Nat.le_trans hc.keep.size h)
    ·intro b hb
     have:=hc.f0 b hb
     exact ⟨g4 b (hFF b this), .inl this⟩
    ·intro x hx
     rcases hpl x hx with ⟨h1,h2⟩|⟨h1,h2,h3,h4⟩
     ·obtain ⟨k1,k2,k3,k4⟩:=hc.place x h1
      rw [h2]
      refine ⟨k1,Nat.lt_of_lt_of_le k2 g2.size,fun h=> ?_,hO' _ k2 k4⟩
      rcases h.2 with h|h
      ·exact k3 h
      ·have h:w.heap.size≤β.blk x:=h
       omega
     ·exact ⟨.inl ⟨h1.1,Nat.le_trans hc.keep.size h1.2⟩,h2,h3,h4⟩
   have hext: ∀ (β':Lay) (al':Site→Prop),(∀x,al x→al' x)→(∀x,al x→β'.blk x=β.blk x)→Ext w F β al w' F' β' al':=by
    intro β' al' ha hb
    refine ⟨fun b hb=>⟨g4 b (hFF b hb), .inl hb⟩,fun b hb=>hsame b (hc.fin b hb).2.1 (hc.fin b hb).2.2,ha,hb,fun x hx=> ?_⟩
    obtain ⟨k1,k2,k3,k4⟩:=hc.place x hx
    exact hsame _ k2 k4
   have hkeep:=hcore β al (fun x hx=> .inl ⟨hx,rfl⟩) hc.dist
   have hkext:=hext β al (fun _ h=>h) (fun _ _=>rfl)
   have hown: ∀ (es:List V),zOz w.heap.size w' Fr O' v es→(view=true→(RV.own es).plain=true)→(R.call st' view rv:R Γ.St).needs=true→
     (es=[]→ ∀β al,zE w' F' β al v .emp→zE w' F' β al v (rvT d rv))→
     (es≠[]→ ∀k β al,(∀e,e∈es→e.cells.length=k)→zE w' F' β al v (.ow d k es)→zE w' F' β al v (rvT d rv))→K (a.put o.dst v) w':=by
    intro es g6 h5 hneeds hE hO
    rcases g6 with ⟨h0,a0,rfl⟩|⟨hne,b,cap,rfl,k1,k2,k3,k4,k,hrow⟩
    ·exact hK _ w' F' O' β al ⟨hkeep,hkext,fun x hx=> .inl hx,hE h0 β al ⟨a0,rfl⟩,(fun cs h=>by cases h)⟩
    ·have hkk: ∀e,e∈es→e.cells.length=k:=by
      obtain ⟨c,et,q1,q2,q3,q4,q5⟩:=hrow
      exact q4
     have hwant:zE w' F' { β with ob:=fun s=>if s=d then b else β.ob s } (fun x=>al x∨x= .o d) (.slice (some ⟨b,0,none⟩) es.length cap) (.ow d k es):=by
      refine ⟨.inr rfl,cap,by simp,?_⟩
      simp only [if_true]
      obtain ⟨c,et,q1,q2,q3,q4,q5⟩:=hrow
      refine ⟨c,et,q1,q2,q3,q4,?_⟩
      intro i j e d' x a1 a2 a3
      have:=q5 i j e d' x a1 a2 a3
      cases hvw:view with
      |false=>exact hrd x d' hvw this
      |true=>
       have hpl:=h5 hvw
       simp only [RV.plain] at hpl
       have h6:=List.all_eq_true.1 hpl e (List.mem_of_getElem? a1)
       obtain ⟨y,hy⟩:=Option.isSome_iff_exists.1 h6
       cases e with
       |val u=>
        cases j with
        |zero=>simp [V.cells] at a2;subst a2;exact hplain x _ u rfl this
        |succ j=>simp [V.cells] at a2
       |agg cs=>
        simp only [V.toVal1] at hy
        split at hy
        ·rename_i hall
         have h7:=zAo (List.all_eq_true.1 hall d' (List.mem_of_getElem? a2))
         rw [h7] at this ⊢
         exact hplain x _ _ rfl this
        ·cases hy
       |_=>simp [V.toVal1] at hy
     let β':Lay:= { β with ob:=fun s=>if s=d then b else β.ob s }
     have hb: ∀x,al x→β'.blk x=β.blk x:=by
      intro x hx
      cases x with
      |o s=>
       have hne:s≠d:=fun h=>(hfr hneeds).2 (h▸hx)
       simp [Lay.blk,β',hne]
      |v id=>rfl
     have hsb:β'.blk (.o d)=b:=by simp [Lay.blk,β']
     have hnF: ¬F' b:=fun h=>k3 h.1
     refine hK _ w' F' O' β' (fun x=>al x∨x= .o d) ⟨?_,hext β' _ (fun x hx=> .inl hx) hb,?_,hO hne k _ _ hkk hwant,(fun cs h=>by cases h)⟩
     ·refine hcore β' _ ?_ ?_
      ·rintro x (hx|rfl)
       ·exact .inl ⟨hx,hb x hx⟩
       ·rw [hsb];exact .inr ⟨⟨fun h=>hdl hneeds (by cases h;rfl),k1⟩,k2,hnF,k4⟩
      ·rintro x y (hx|rfl) (hy|rfl) h
       ·rw [hb x hx,hb y hy] at h;exact hc.dist x y hx hy h
       ·rw [hb x hx,hsb] at h;have:=(hc.place x hx).2.1;omega
       ·rw [hsb,hb y hy] at h;have:=(hc.place y hy).2.1;omega
       ·rfl
     ·rintro x (hx|rfl)
      ·exact .inl hx
      ·exact .inr ⟨hneeds, .inr ⟨rfl,trivial⟩⟩
   cases rv with
   |p x=>
    refine hK v w' F' O' β al ⟨hkeep,hkext,fun x hx=> .inl hx,?_,(fun cs h=>by cases h)⟩
    show Rd w' F' v x
    cases hvw:view with
    |false=>exact hrd v x hvw g6
    |true=>
     have:=h5 hvw
     simp only [RV.plain,Option.isSome_iff_exists] at this
     obtain ⟨y,hy⟩:=this
     exact hplain v x y hy g6
   |own es=>
    refine hown es g6 h5 rfl ?_ ?_
    ·intro h0 β al h;subst h0;exact h
    ·intro hne k β al hk h
     cases es with
     |nil=>exact absurd rfl hne
     |cons e es=>
      show zE _ _ _ _ _ (.ow d e.cells.length (e::es))
      rw [hk e (by simp)];exact h
   |ownT t xs=>
    refine hown (xs.map t.enc) g6 (fun hv=>zJp t xs (h5 hv)) rfl ?_ ?_
    ·intro h0 β al h
     refine yG.2 ?_
     simp only [rvT,T.un,h0]
     exact h
    ·intro hne k β al hk h
     cases xs with
     |nil=>exact absurd rfl hne
     |cons x xs=>
      refine yG.2 ?_
      have:k=t.size:=by rw [←hk (t.enc x) (by simp)];exact jU t x
      subst this
      exact h
  rcases hs with ⟨rfl,d0,rfl,hrun⟩|⟨f,args,ds,h1,h2,h3,h4,h5⟩
  ·obtain ⟨u,w',hr,F',O',g1,g2,g3,g4,g5,g6⟩:=hrun O hc.sig (fun b hb=>(hc.fin b hb).2)
   rw [hr]
   exact main (fun h=>by cases h) u w' F' O' g1 g2 g3 g4 g5 g6
  ·rw [h1]
   have hFc: ∀b:Nat,(if view then Fal F β alv else F) b→b<w.heap.size∧ ¬O b:=by
    intro b hb
    cases view with
    |false=>exact (hc.fin b hb).2
    |true=>
     rcases hb with hb|⟨x,hx,hxb⟩
     ·exact (hc.fin b hb).2
     ·have hxb:=kA hxb
      subst hxb
      exact hv x hx
   have hGc:zBH G w (if view then Fal F β alv else F):=fun g cs hg=>(hG g cs hg).mono hFF (fun _ _=>rfl)
   have hsigc:Γ.R st (if view then Fal F β alv else F) O w:=Γ.mono hc.sig (by
    intro id a n c
    cases view with
    |false=>exact Iff.rfl
    |true=>exact ⟨fun h=>h.elim (fun h=>h) (fun ⟨_,_,h⟩=>by cases h), .inl⟩) (fun _ _=>rfl)
   have hcall:=hS.ok f w (if view then Fal F β alv else F) O st args ds st' rv hsigc hGc hFc h2 (fun i x d hi hd'=>h3 i x d hi hd') h4
   refine hcall.mono ?_
   rintro e w' ⟨v,Fr,O',rfl,g1,g2,g3,g4,g5,g6⟩
   exact main h5 v w' Fr O' g1 g2 g3 g4 g5 g6
end
end Go.Ve

namespace Go.Ve
open Go
def T.hasO (id:Nat):T→Prop
 | .ow i _ _=>i=id
 | .oe i _ _ _ _=>i=id
 | .mp i _ _=>i=id
 | .ot i _ xs=>i=id∧xs≠[]
 | .oet i _ _ _ _=>i=id
 | .ov i _ xs _ _=>i=id∧xs≠[]
 | .on n=>n.id=id∨n.id2=id
 |_=>False
def T.sites (al:Site→Prop):T→Prop
 | .ow i _ _=>al (.o i)
 | .oe i _ _ _ _=>al (.o i)
 | .mp i _ _=>al (.o i)
 | .ot i _ xs=>xs≠[]→al (.o i)
 | .oet i _ _ _ _=>al (.o i)
 | .ov i _ xs _ _=>xs≠[]→al (.o i)
 | .on n=>al (.o n.id)∧al (.o n.id2)
 | .lp s _=>al (.v s)
 |_=>True
def zO (d:Nat):T→T
 | .ow i k es=>if i=d then .dead else .ow i k es
 | .oe i k es j off=>if i=d then .dead else .oe i k es j off
 | .lp s off=>if s=d then .dead else .lp s off
 | .mp i es ck=>if i=d then .dead else .mp i es ck
 | .ot i t xs=>if i=d then .dead else .ot i t xs
 | .oet i t xs j off=>if i=d then .dead else .oet i t xs j off
 | .ov i t xs j off=>if i=d then .dead else .ov i t xs j off
 | .on n=>if n.id=d∨n.id2=d then .dead else .on n
 |x=>x
section
variable {St:Type}
def Env.has (e:Env St) (x:T):Prop:=x∈e.tm∨ ∃s cs,e.var s=some cs∧x∈cs
def alive (e:Env St):Site→Prop
 | .v s=> ∃cs,e.var s=some cs
 | .o id=> ∃x,e.has x∧x.hasO id
def Env.kill (d:Nat) (e:Env St):Env St:=
 { e with tm:=e.tm.map (zO d),vars:=(e.vars.set d none).map (fun c=>c.map (List.map (zO d))) }
def Env.put (e:Env St) (d:Option Tmp) (x:T):Env St:=
 match d with
 |some d=> { e with tm:=e.tm.set d x }
 |none=>e
def zHS (d:Nat):R St→R St
 | .var cs=> .var (cs.map (zO d))
 |r=>r
def Env.setR (e:Env St) (d:Nat) (r:R St):Env St:=
 match r with
 | .var cs=> { e with vars:=e.vars.set d (some cs),tm:=e.tm.set d (.lp d 0) }
 | .call st _ rv=> { e with st:=st,tm:=e.tm.set d (rvT d rv) }
 |r=> { e with tm:=e.tm.set d (zJ0 d r) }
def kB (e:Env St) (dst:Option Tmp) (r:R St):Option (Env St):=
 match dst with
 |some d=>if r.needs then (if d<e.vars.length∧d≠qA then some ((e.kill d).setR d (zHS d r)) else none) else some (e.setR d r)
 |none=>match r with
  | .ret _=>some e
  | .call st _ (.p _)=>some { e with st:=st }
  |_=>none
theorem zC3 (e:Env St) (d t:Nat):(e.kill d).get t=zO d (e.get t):=by
 simp only [Env.kill,Env.get,List.getD_eq_getElem?_getD,List.getElem?_map]
 cases e.tm[t]? <;>rfl
theorem vQ (e:Env St) (d s:Nat):(e.kill d).var s=if s=d then none else (e.var s).map (List.map (zO d)):=by
 simp only [Env.kill,Env.var,List.getElem?_map]
 by_cases h:s=d
 ·subst h
  rw [if_pos rfl]
  by_cases hl:s<e.vars.length
  ·simp [List.getElem?_set_self hl]
  ·rw [List.getElem?_eq_none (by simp;omega)];rfl
 ·rw [if_neg h,List.getElem?_set_ne (Ne.symm h)]
  cases e.vars[s]? with
  |none=>rfl
  |some c=>rfl
theorem vA (e:Env St) (d t:Nat) (x:T):({ e with tm:=e.tm.set d x } :Env St).get t=if t=d∧d<e.tm.length then x else e.get t:=by
 simp only [Env.get,List.getD_eq_getElem?_getD]
 by_cases h:t=d
 ·subst h
  by_cases hl:t<e.tm.length
  ·simp [hl]
  ·simp [hl]
 ·simp [h,List.getElem?_set_ne (Ne.symm h)]
end
theorem uY (a:Act) (d t:Nat) (v:Value):(a.put (some d) v).tmps.getD t undef=if t=d∧d<a.tmps.size then v else a.tmps.getD t undef:=by
 simp only [Act.put]
 by_cases h:t=d
 ·subst h
  by_cases hl:t<a.tmps.size
  ·simp [hl]
  ·simp [hl]
 ·simp only [h,false_and,if_false]
  simp [Array.getElem?_setIfInBounds_ne (Ne.symm h)]
section
variable {w:World} {F:Blk→Prop} {β:Lay} {al al':Site→Prop}
theorem zE.on {v:Value} {x:T} (h:zE w F β al v x) (hs:x.sites al'):zE w F β al' v x:=by
 cases x with
 |p d=>exact h
 |ow i k es=>exact ⟨hs,h.2⟩
 |oe i k es j off=>exact ⟨hs,h.2⟩
 |lp s off=>exact ⟨hs,h.2⟩
 |mp i es ck=>exact ⟨hs,h.2⟩
 |ot i t xs=>
  rcases h with h|⟨hne,_,h⟩
  ·exact .inl h
  ·exact .inr ⟨hne,hs (by simpa using hne),h⟩
 |oet i t xs j off=>exact ⟨hs,h.2⟩
 |ov i t xs lo hi=>
  rcases h with h|⟨hne,_,h⟩
  ·exact .inl h
  ·exact .inr ⟨hne,hs hne,h⟩
 |on n=>exact ⟨hs.1,hs.2,h.2.2⟩
 |emp=>exact h
 |dead=>trivial
theorem zE.sites {v:Value} {x:T} (h:zE w F β al v x):x.sites al:=by
 cases x with
 |p d=>trivial
 |ow i k es=>exact h.1
 |oe i k es j off=>exact h.1
 |lp s off=>exact h.1
 |mp i es ck=>exact h.1
 |ot i t xs=>
  intro hne
  rcases h with ⟨h0,_⟩|⟨_,ha,_⟩
  ·exact absurd (by simpa using h0) hne
  ·exact ha
 |oet i t xs j off=>exact h.1
 |ov i t xs lo hi=>
  intro hne
  rcases h with ⟨h0,_⟩|⟨_,ha,_⟩
  ·exact absurd h0 hne
  ·exact ha
 |on n=>exact ⟨h.1,h.2.1⟩
 |emp=>trivial
 |dead=>trivial
def alm (d:Nat) (al:Site→Prop) (x:Site):Prop:=al x∧x≠ .v d∧x≠ .o d
theorem zE.kill {v:Value} {x:T} {d:Nat} (h:zE w F β al v x):zE w F β (alm d al) v (zO d x):=by
 cases x with
 |p d=>exact h
 |ow i k es=>
  simp only [zO];split
  ·trivial
  ·rename_i hne;exact ⟨⟨h.1,by simp,by simpa using hne⟩,h.2⟩
 |oe i k es j off=>
  simp only [zO];split
  ·trivial
  ·rename_i hne;exact ⟨⟨h.1,by simp,by simpa using hne⟩,h.2⟩
 |lp s off=>
  simp only [zO];split
  ·trivial
  ·rename_i hne;exact ⟨⟨h.1,by simpa using hne,by simp⟩,h.2⟩
 |mp i es ck=>
  simp only [zO];split
  ·trivial
  ·rename_i hne;exact ⟨⟨h.1,by simp,by simpa using hne⟩,h.2⟩
 |ot i t xs=>
  simp only [zO];split
  ·trivial
  ·rename_i hne
   rcases h with h|⟨h0,ha,h⟩
   ·exact .inl h
   ·exact .inr ⟨h0,⟨ha,by simp,by simpa using hne⟩,h⟩
 |oet i t xs j off=>
  simp only [zO];split
  ·trivial
  ·rename_i hne;exact ⟨⟨h.1,by simp,by simpa using hne⟩,h.2⟩
 |ov i t xs lo hi=>
  simp only [zO];split
  ·trivial
  ·rename_i hne
   rcases h with h|⟨h0,ha,h⟩
   ·exact .inl h
   ·exact .inr ⟨h0,⟨ha,by simp,by simpa using hne⟩,h⟩
 |on n=>
  simp only [zO];split
  ·trivial
  ·rename_i hne
   have h1:=not_or.1 hne
   exact ⟨⟨h.1,by simp,by simpa using h1.1⟩,⟨h.2.1,by simp,by simpa using h1.2⟩,h.2.2⟩
 |emp=>exact h
 |dead=>trivial
theorem z7.kill {b d:Nat} {cs:List T} (h:z7 w F β al b cs):z7 w F β (alm d al) b (cs.map (zO d)):=by
 obtain ⟨c,et,h1,h2,h3⟩:=h
 refine ⟨c,et,h1,by simpa using h2,?_⟩
 intro i x y hi hy
 simp only [List.getElem?_map,Option.map_eq_some_iff] at hy
 obtain ⟨z,hz,rfl⟩:=hy
 exact (h3 i x z hi hz).kill
theorem z7.on {b:Nat} {cs:List T} (h:z7 w F β al b cs) (hs: ∀x,x∈cs→x.sites al'):z7 w F β al' b cs:=by
 obtain ⟨c,et,h1,h2,h3⟩:=h
 exact ⟨c,et,h1,h2,fun i x y hi hy=>(h3 i x y hi hy).on (hs y (List.mem_of_getElem? hy))⟩
theorem z7.mem {b:Nat} {cs:List T} (h:z7 w F β al b cs) {x:T} (hx:x∈cs):x.sites al:=by
 obtain ⟨i,hi,rfl⟩:=List.getElem_of_mem hx
 obtain ⟨u,_,h2⟩:=h.at i hi
 exact h2.sites
end
def Inv (Γ:Sig) (G:Nat→Option (List V)) (w0:World) (F0:Blk→Prop) (O0:kC) (a:Act) (w:World) (e:Env Γ.St):Prop:=
 ∃ (F:Blk→Prop) (O:Nat→Prop) (β:Lay),Core Γ w0 F0 O0 w F O β (alive e) e.st∧zBH G w F∧a.tmps.size=e.tm.length∧a.defers=[]∧
  (∀t,zE w F β (alive e) (a.tmps.getD t undef) (e.get t))∧(∀s cs,e.var s=some cs→z7 w F β (alive e) (β.vb s) cs)
section
variable {Γ:Sig} {P:Program} {G:Nat→Option (List V)} {S:qZ Γ} {o:Oper} {a:Act} {w0:World} {F0:Blk→Prop} {O0:kC} {w:World} {F:Blk→Prop} {O:Nat→Prop} {β:Lay} {al al':Site→Prop} {st:Γ.St} {e e':Env Γ.St}
theorem Core.anti (h:Core Γ w0 F0 O0 w F O β al st) (ha: ∀x,al' x→al x):Core Γ w0 F0 O0 w F O β al' st:=
 ⟨h.keep,h.sig,h.oin,h.fin,h.f0,fun x hx=>h.place x (ha x hx),fun x y hx hy=>h.dist x y (ha x hx) (ha y hy),h.lent⟩
theorem get_mem {x:T} {t:Nat} (h:e.get t=x):x∈e.tm∨x= .dead:=by
 simp only [Env.get,List.getD_eq_getElem?_getD] at h
 cases hx:e.tm[t]? with
 |none=>rw [hx] at h;exact .inr h.symm
 |some y=>rw [hx] at h;subst h;exact .inl (List.mem_of_getElem? hx)
theorem Inv.of (hc:Core Γ w0 F0 O0 w F O β al e.st) (hG:zBH G w F) (hsz:a.tmps.size=e.tm.length) (hdf:a.defers=[])
  (ht: ∀t,zE w F β al (a.tmps.getD t undef) (e.get t)) (hv: ∀s cs,e.var s=some cs→al (.v s)∧z7 w F β al (β.vb s) cs)
  (hl: ∀s,al (.v s)→ ∃cs,e.var s=some cs):Inv Γ G w0 F0 O0 a w e:=by
 have hsub: ∀x,alive e x→al x:=by
  intro x hx
  cases x with
  |v s=>obtain ⟨cs,hcs⟩:=hx;exact (hv s cs hcs).1
  |o id=>
   obtain ⟨x,hx,hid⟩:=hx
   have hsites:x.sites al:=by
    rcases hx with hx|⟨s,cs,hcs,hx⟩
    ·obtain ⟨t,htl,rfl⟩:=List.getElem_of_mem hx
     have:=ht t
     simp only [Env.get,List.getD_eq_getElem?_getD,List.getElem?_eq_getElem htl,Option.getD_some] at this
     exact this.sites
    ·exact (hv s cs hcs).2.mem hx
   cases x<;>simp only [T.hasO] at hid<;>first|exact hid.elim|(subst hid;exact hsites)|(obtain ⟨rfl,h0⟩:=hid;exact hsites h0)|(rcases hid with rfl|rfl<;>first|exact hsites.1|exact hsites.2)
 have hal: ∀x,e.has x→x.sites al→x.sites (alive e):=by
  intro x hx hs
  cases x with
  |ow i k es=>exact ⟨_,hx,rfl⟩
  |oe i k es j off=>exact ⟨_,hx,rfl⟩
  |mp i es ck=>exact ⟨_,hx,rfl⟩
  |ot i t xs=>exact fun h0=>⟨_,hx,rfl,h0⟩
  |oet i t xs j off=>exact ⟨_,hx,rfl⟩
  |ov i t xs lo hi=>exact fun h0=>⟨_,hx,rfl,h0⟩
  |on n=>exact ⟨⟨_,hx, .inl rfl⟩,⟨_,hx, .inr rfl⟩⟩
  |lp s off=>exact hl s hs
  |_=>trivial
 refine ⟨F,O,β,hc.anti hsub,hG,hsz,hdf,?_,?_⟩
 ·intro t
  have h:=ht t
  refine h.on ?_
  rcases get_mem (e:=e) (t:=t) rfl with hm|hm
  ·exact hal _ (.inl hm) h.sites
  ·rw [hm];trivial
 ·intro s cs hcs
  exact (hv s cs hcs).2.on (fun x hx=>hal x (.inr ⟨s,cs,hcs,hx⟩) ((hv s cs hcs).2.mem hx))
theorem zBH.ext {w':World} {F':Blk→Prop} {β':Lay} (h:Ext w F β al w' F' β' al') (hG:zBH G w F):zBH G w' F':=fun g cs hg=>(hG g cs hg).ext h
theorem zNI {d:Nat} {r:R Γ.St} {alv:Site→Prop} (h:zAD Γ P S o a w F β al alv st r):zAD Γ P S o a w F β (alm d al) alv st (zHS d r)∨ ∃x,r= .ret x:=by
 cases r with
 |ret x=>exact .inr ⟨x,rfl⟩
 |var cs=>
  refine .inl ?_
  obtain ⟨c,et,h1,h2,h3⟩:=h
  refine ⟨c,et,h1,by simpa using h2,?_⟩
  intro i x y hi hy
  simp only [List.getElem?_map,Option.map_eq_some_iff] at hy
  obtain ⟨z,hz,rfl⟩:=hy
  exact (h3 i x z hi hz).kill
 |own k es=>exact .inl h
 |frz es=>exact .inl h
 |mk=>exact .inl h
 |frzT t xs=>exact .inl h
 |ownT t xs=>exact .inl h
 |call st' view rv=>exact .inl h
theorem wS (hG:zBH G w F) (ht: ∀t,zE w F β al (a.tmps.getD t undef) (e.get t)) (x:Operand):zE w F β al (a.eval x) (evx G e x):=by
 cases x with
 |tmp t=>exact ht t
 |const v=>exact zGj w F v
 |global g=>
  simp only [evx,Act.eval]
  split
  ·rename_i cs hg;exact hG g cs hg
  ·exact Rd.val _
 |func f=>exact Rd.clo f #[] [] rfl (fun i x d h=>by simp at h)
theorem zIp (e:Env Γ.St) (d:Nat) (r:R Γ.St):(e.setR d r).tm=e.tm.set d (zJ0 d r):=by
 cases r<;>rfl
theorem zOO (e:Env Γ.St) (d:Nat) (r:R Γ.St):(e.setR d r).st=zHP e.st r:=by
 cases r<;>rfl
theorem zIR (e:Env Γ.St) (d:Nat) (r:R Γ.St) (hd:d<e.vars.length∨ ∀cs,r≠ .var cs) (s:Nat):(e.setR d r).var s=match r with
  | .var cs=>if s=d then some cs else e.var s
  |_=>e.var s:=by
 cases r with
 |var cs=>
  have hd':d<e.vars.length:=hd.resolve_right (fun h=>h cs rfl)
  simp only [Env.setR,Env.var]
  by_cases h:s=d
  ·subst h;simp [hd']
  ·simp [h,List.getElem?_set_ne (Ne.symm h)]
 |_=>rfl
theorem zQN (hS:zZ Γ P G S) (hi:Inv Γ G w0 F0 O0 a w e) {r0 r:R Γ.St} (h:evQ P G S e o=some r0)
  (hup: ∀ {F:Blk→Prop} {β:Lay} {al alv:Site→Prop} {st:Γ.St},zAD Γ P S o a w F β al alv st r0→zAD Γ P S o a w F β al alv st r)
  (hr:kB e o.dst r=some e') {Q:Exit→Act→World→Prop} :
  o.wp P a w (fun a' w'=>Inv Γ G w0 F0 O0 a' w' e') Q:=by
 obtain ⟨F,O,β,hc,hG,hsz,hdf,ht,hv⟩:=hi
 have hsim:=hup (zO5 hS (fun s cs hcs _=>hv s cs hcs) (fun x _=>wS hG ht x) h)
 have hpl: ∀x,alive e x→β.blk x<w.heap.size∧ ¬O (β.blk x):=fun x hx=>⟨(hc.place x hx).2.1,(hc.place x hx).2.2.2⟩
 unfold kB at hr
 split at hr
 ·rename_i d hd
  split at hr
  ·rename_i hneeds
   split at hr
   ·rename_i hdl0
    obtain ⟨hdl,hdL⟩:=hdl0
    simp only [Option.some.injEq] at hr
    subst hr
    have hsim':zAD Γ P S o a w F β (alm d (alive e)) (alive e) e.st (zHS d r):=by
     rcases zNI (d:=d) hsim with h|⟨x,rfl⟩
     ·exact h
     ·simp [R.needs] at hneeds
    refine zGp hS hG (hc.anti (fun x hx=>hx.1)) hpl hsim' (d:=d) (fun _=>hdL) (fun _=>⟨fun h=>h.2.1 rfl,fun h=>h.2.2 rfl⟩) ?_
    intro v w' F' O' β' al' haf
    rw [hd]
    have hst:(e.kill d).st=e.st:=rfl
    refine Inv.of (al:=al') (by rw [zOO,hst];exact haf.core) (hG.ext haf.ext) ?_ ?_ ?_ ?_ ?_
    ·simp [Act.put,zIp,Env.kill,hsz]
    ·exact hdf
    ·intro t
     rw [uY]
     have hg:((e.kill d).setR d (zHS d r)).get t=if t=d∧d< (e.kill d).tm.length then zJ0 d (zHS d r) else (e.kill d).get t:=by
      rw [←vA];simp only [Env.get,zIp]
     rw [hg]
     have hlen:(e.kill d).tm.length=a.tmps.size:=by simp [Env.kill,hsz]
     rw [hlen]
     split
     ·exact haf.res
     ·rw [zC3];exact (zE.kill (ht t)).ext haf.ext
    ·intro s cs hcs
     have hvd:d< (e.kill d).vars.length:=by simpa [Env.kill] using hdl
     rw [zIR _ _ _ (.inl hvd)] at hcs
     have hother:(e.kill d).var s=some cs→al' (.v s)∧z7 w' F' β' al' (β'.vb s) cs:=by
      intro hcs
      rw [vQ] at hcs
      split at hcs
      ·cases hcs
      ·rename_i hne
       simp only [Option.map_eq_some_iff] at hcs
       obtain ⟨cs0,hcs0,rfl⟩:=hcs
       have ha:alm d (alive e) (.v s):=⟨⟨cs0,hcs0⟩,by simpa using hne,by simp⟩
       refine ⟨haf.ext.a _ ha,?_⟩
       have hb:β'.vb s=β.vb s:=haf.ext.b (.v s) ha
       rw [hb]
       exact (z7.kill (hv s cs0 hcs0)).ext haf.ext (haf.ext.ha (.v s) ha)
     cases hk:zHS d r with
     |var cs'=>
      rw [hk] at hcs
      simp only at hcs
      split at hcs
      ·rename_i hsd
       simp only [Option.some.injEq] at hcs
       subst hcs hsd
       exact haf.var cs' hk
      ·exact hother hcs
     |_=>rw [hk] at hcs;exact hother hcs
    ·intro s hs
     have hvd:d< (e.kill d).vars.length:=by simpa [Env.kill] using hdl
     rw [zIR _ _ _ (.inl hvd)]
     rcases haf.new (.v s) hs with ⟨⟨cs,hcs⟩,hne,_⟩|⟨_,⟨heq,cs,hk⟩|⟨heq,_⟩⟩
     ·have hne':s≠d:=by simpa using hne
      have h1:(e.kill d).var s=some (cs.map (zO d)):=by rw [vQ,if_neg hne',hcs];rfl
      cases hk:zHS d r with
      |var cs'=>simp only [hne',if_false];exact ⟨_,h1⟩
      |_=>exact ⟨_,h1⟩
     ·simp only [Site.v.injEq] at heq
      rw [hk];simp only [heq,if_true];exact ⟨cs,rfl⟩
     ·cases heq
   ·cases hr
  ·rename_i hneeds
   simp only [Option.some.injEq] at hr
   subst hr
   refine zGp hS hG hc hpl hsim (d:=d) (fun h=>absurd h hneeds) (fun h=>absurd h hneeds) ?_
   intro v w' F' O' β' al' haf
   rw [hd]
   have hnv: ∀cs,r≠ .var cs:=fun cs h=>by subst h;simp [R.needs] at hneeds
   have hnew: ∀x,al' x→alive e x:=fun x hx=>(haf.new x hx).resolve_right (fun h=>hneeds h.1)
   have hvv: ∀s,(e.setR d r).var s=e.var s:=by
    intro s;rw [zIR _ _ _ (.inr hnv)]
    cases r with
    |var cs=>exact absurd rfl (hnv cs)
    |_=>rfl
   refine Inv.of (al:=al') (by rw [zOO];exact haf.core) (hG.ext haf.ext) ?_ ?_ ?_ ?_ ?_
   ·simp [Act.put,zIp,hsz]
   ·exact hdf
   ·intro t
    rw [uY]
    have hg:(e.setR d r).get t=if t=d∧d<e.tm.length then zJ0 d r else e.get t:=by
     rw [←vA];simp only [Env.get,zIp]
    rw [hg,hsz]
    split
    ·exact haf.res
    ·exact (ht t).ext haf.ext
   ·intro s cs hcs
    rw [hvv] at hcs
    have ha:alive e (.v s):=⟨cs,hcs⟩
    refine ⟨haf.ext.a _ ha,?_⟩
    have hb:β'.vb s=β.vb s:=haf.ext.b (.v s) ha
    rw [hb]
    exact (hv s cs hcs).ext haf.ext (haf.ext.ha (.v s) ha)
   ·intro s hs
    rw [hvv];exact hnew _ hs
 ·rename_i hd
  have hcommon: ∀ (st':Γ.St),zHP e.st r=st'→(∀cs,r≠ .var cs)→r.needs=false→o.wp P a w (fun a' w'=>Inv Γ G w0 F0 O0 a' w' { e with st:=st' }) Q:=by
   intro st' hst hnv hneeds
   refine zGp hS hG hc hpl hsim (d:=0) (fun h=>by rw [hneeds] at h;cases h) (fun h=>by rw [hneeds] at h;cases h) ?_
   intro v w' F' O' β' al' haf
   rw [hd]
   have hnew: ∀x,al' x→alive e x:=fun x hx=>(haf.new x hx).resolve_right (fun h=>by rw [hneeds] at h;cases h.1)
   refine Inv.of (al:=al') (by rw [←hst];exact haf.core) (hG.ext haf.ext) hsz hdf (fun t=>(ht t).ext haf.ext) ?_ (fun s hs=>hnew _ hs)
   intro s cs hcs
   have ha:alive e (.v s):=⟨cs,hcs⟩
   refine ⟨haf.ext.a _ ha,?_⟩
   have hb:β'.vb s=β.vb s:=haf.ext.b (.v s) ha
   rw [hb]
   exact (hv s cs hcs).ext haf.ext (haf.ext.ha (.v s) ha)
  split at hr
  ·simp only [Option.some.injEq] at hr
   subst hr
   exact hcommon _ rfl (fun cs h=>by cases h) rfl
  ·simp only [Option.some.injEq] at hr
   subst hr
   exact hcommon _ rfl (fun cs h=>by cases h) rfl
  ·cases hr
theorem zUh (hS:zZ Γ P G S) (hi:Inv Γ G w0 F0 O0 a w e) {r:R Γ.St} (h:evQ P G S e o=some r) (hr:kB e o.dst r=some e') {Q:Exit→Act→World→Prop} :
  o.wp P a w (fun a' w'=>Inv Γ G w0 F0 O0 a' w' e') Q:=zQN hS hi h (fun h=>h) hr
theorem zSr (hS:zZ Γ P G S) (hi:Inv Γ G w0 F0 O0 a w e) {t:Ty} {xs:List t.El} (h:evQ P G S e o=some (.frzT t xs)) (hr:kB e o.dst (.ownT t xs)=some e') {Q:Exit→Act→World→Prop} :
  o.wp P a w (fun a' w'=>Inv Γ G w0 F0 O0 a' w' e') Q:=by
 refine zQN hS hi h (r:= .ownT t xs) ?_ hr
 intro F β al alv st hh
 obtain ⟨es,c,et,h1,h2,h3,h4,h5⟩:=hh
 exact ⟨es,c,et,es.length,h1,h2,Nat.le_refl _,fun h=>by rw [h];rfl,h3,h4,h5⟩
end
end Go.Ve

namespace Go.Ve
open Go
section
variable {St:Type} {P:qK} {G:Nat→Option (List V)} {S:FuncId→St→List V→Option (St×RV)} {e e':Env St} {o:Oper}
theorem uC (hns: ∀cs b,o.op≠ .select cs b) (hx: ∀x,x∈o.op.operands→evx G e x=evx G e' x):vY P G e o=vY P G e' o:=by
 unfold vY
 have h1:o.op.operands.toList.all (fun x=>(wB (evx G e x)).isSome)=o.op.operands.toList.all (fun x=>(wB (evx G e' x)).isSome):=by
  rw [Bool.eq_iff_iff]
  simp only [List.all_eq_true]
  exact ⟨fun h x hm=>by rw [←hx x (by simpa using hm)];exact h x hm,fun h x hm=>by rw [hx x (by simpa using hm)];exact h x hm⟩
 have h2:execOp (fun x=>(wB (evx G e x)).getD undef) o=execOp (fun x=>(wB (evx G e' x)).getD undef) o:=
  execOp_congr o hns (fun x hm=>by rw [hx x hm])
 rw [h1,h2]
theorem zOp {x:T} (hv: ∀s off,x= .lp s off→e.var s=e'.var s):zCE e x=zCE e' x:=by
 cases x<;>simp only [zCE]
 rw [hv _ _ rfl]
theorem zM8: ∀ (xs:List Operand),(∀x,x∈xs→evx G e x=evx G e' x)→(∀x,x∈xs→ ∀s off,evx G e x= .lp s off→e.var s=e'.var s)→
  zGN G e xs=zGN G e' xs:=by
 intro xs
 induction xs with
 |nil=>intro _ _;rfl
 |cons x xs ih=>
  intro hx hv
  simp only [zGN]
  rw [←hx x (by simp),zOp (hv x (by simp)),ih (fun y hy=>hx y (List.mem_cons_of_mem _ hy)) (fun y hy=>hv y (List.mem_cons_of_mem _ hy))]
theorem zIZ: ∀ (xs:List Operand),(∀x,x∈xs→evx G e x=evx G e' x)→vU G e xs=vU G e' xs:=by
 intro xs
 induction xs with
 |nil=>intro _;rfl
 |cons x xs ih=>
  intro hx
  simp only [vU]
  rw [←hx x (by simp),ih (fun y hy=>hx y (List.mem_cons_of_mem _ hy))]
theorem zDt: ∀ (xs:List (Nat×Operand)),(∀x,x∈xs→evx G e x.2=evx G e' x.2)→vT G e xs=vT G e' xs:=by
 intro xs
 induction xs with
 |nil=>intro _;rfl
 |cons x xs ih=>
  intro hx
  obtain ⟨i,x⟩:=x
  simp only [vT]
  rw [←hx (i,x) (by simp),ih (fun y hy=>hx y (List.mem_cons_of_mem _ hy))]
theorem zQh {α:Type} {p q:α→Bool} (l:List α) (h: ∀x,x∈l→p x=q x):l.any p=l.any q:=by
 induction l with
 |nil=>rfl
 |cons x l ih=>simp only [List.any_cons];rw [h x (by simp),ih (fun y hy=>h y (List.mem_cons_of_mem _ hy))]
def isCall (o:Oper):Bool:=
 match o.op with
 | .call c=>match c.callee with
  | .builtin .append=>true
  | .builtin _=>false
  |_=>true
 |_=>false
theorem zJs (hx: ∀x,x∈o.op.operands→evx G e x=evx G e' x) (hv: ∀x,x∈o.op.operands→ ∀s off,evx G e x= .lp s off→e.var s=e'.var s)
  (hst:isCall o=true→e.st=e'.st):evQ P G S e o=evQ P G S e' o:=by
 obtain ⟨dst,op,type,pos,after,guard⟩:=o
 cases op<;>simp only [evQ]
 case move x=>rw [hx x (by simp [Op.operands])]
 case assign x=>rw [hx x (by simp [Op.operands])]
 case pick c x y=>exact uC (fun _ _ hc=>by cases hc) hx
 case box t x=>rw [hx x (by simp [Op.operands])]
 case build t parts=>
  rw [zDt parts.toList (fun p hp=>hx p.2 (by
   simp only [Op.operands,List.mem_toArray,List.mem_map]
   exact ⟨p,hp,rfl⟩))]
 case buildSlice t n parts=>
  rw [zDt parts.toList (fun p hp=>hx p.2 (by
   simp only [Op.operands,List.mem_toArray,List.mem_map]
   exact ⟨p,hp,rfl⟩))]
 case makeSlice t l c=>rw [hx l (by simp [Op.operands]),hx c (by simp [Op.operands])]
 case load t x=>
  have h1:=hx x (by simp [Op.operands])
  have h2:=hv x (by simp [Op.operands])
  rw [←h1]
  cases hex:evx G e x with
  |lp s off=>simp only [zC6,zC5];rw [h2 s off hex]
  |p d=>cases d<;>rfl
  |_=>rfl
 case nilCheck x=>
  rw [uC (P:=P) (o:=⟨dst, .nilCheck x,type,pos,after,guard⟩) (fun _ _ hc=>by cases hc) hx,hx x (by simp [Op.operands])]
 case binOp op t x y t'=>
  rw [uC (P:=P) (o:=⟨dst, .binOp op t x y t',type,pos,after,guard⟩) (fun _ _ hc=>by cases hc) hx,hx x (by simp [Op.operands]),hx y (by simp [Op.operands])]
 case unOp op t x=>exact uC (fun _ _ hc=>by cases hc) hx
 case convert s d x=>exact uC (fun _ _ hc=>by cases hc) hx
 case index t x i=>exact uC (fun _ _ hc=>by cases hc) hx
 case makeFunc fn first captured=>
  cases fn with
  |func f=>simp only;rw [zIZ captured.toList (fun x hm=>hx x (by simp [Op.operands];right;simpa using hm))]
  |_=>rfl
 case slice t x lo hi mx=>
  rw [uC (P:=P) (o:=⟨dst, .slice t x lo hi mx,type,pos,after,guard⟩) (fun _ _ hc=>by cases hc) hx,hx x (by simp [Op.operands])]
  have h1:lo.map (evx G e)=lo.map (evx G e'):=by cases lo with
   |none=>rfl
   |some y=>simp only [Option.map_some];rw [hx y (by simp [Op.operands])]
  have h2:hi.map (evx G e)=hi.map (evx G e'):=by cases hi with
   |none=>rfl
   |some y=>simp only [Option.map_some];rw [hx y (by simp [Op.operands])]
  have h3:mx.map (evx G e)=mx.map (evx G e'):=by cases mx with
   |none=>rfl
   |some y=>simp only [Option.map_some];rw [hx y (by simp [Op.operands])]
  rw [h1,h2,h3]
 case fieldAddr t x i=>rw [hx x (by simp [Op.operands])]
 case makeMap t r=>cases r<;>rfl
 case lookup t x ix ok=>rw [hx x (by simp [Op.operands]),hx ix (by simp [Op.operands])]
 case field t x i=>rw [hx x (by simp [Op.operands])]
 case indexAddr t x ix=>rw [hx x (by simp [Op.operands]),hx ix (by simp [Op.operands])]
 case extract x i=>rw [hx x (by simp [Op.operands])]
 case call c=>
  have hf:vY P G e ⟨dst, .call c,type,pos,after,guard⟩=vY P G e' ⟨dst, .call c,type,pos,after,guard⟩:=uC (fun _ _ hc=>by cases hc) hx
  have ha: ∀x,x∈c.args→evx G e x=evx G e' x:=fun x hm=>hx x (by simp [Op.operands,Call.operands,hm])
  have hva: ∀x,x∈c.args→ ∀s off,evx G e x= .lp s off→e.var s=e'.var s:=fun x hm=>hv x (by simp [Op.operands,Call.operands,hm])
  unfold zFL
  rw [hf]
  cases hcal:c.callee with
  |invoke r m=>rfl
  |value f=>
   simp only
   rw [hx f (by simp [Op.operands,Call.operands,hcal]),zM8 c.args.toList (fun x hm=>ha x (by simpa using hm)) (fun x hm=>hva x (by simpa using hm)),hst (by simp [isCall,hcal])]
   rw [zQh c.args.toList (fun x hm=>by rw [ha x (by simpa using hm)])]
  |builtin b=>
   cases b<;>try rfl
   case append=>
    simp only
    have hst':=hst (by simp [isCall,hcal])
    have:zFK P G S e c=zFK P G S e' c:=by
     unfold zFK
     split
     ·rename_i x0 x1 t0 t1 hargs htys
      rw [ha x0 (by rw [←Array.mem_toList_iff,hargs];simp),ha x1 (by rw [←Array.mem_toList_iff,hargs];simp),hst']
     ·rfl
    rw [this]
   case len=>
    simp only
    cases h0:c.args[0]? with
    |none=>rfl
    |some x=>simp only;rw [ha x (Array.mem_of_getElem? h0)]
theorem zHy (hx: ∀x,x∈o.op.operands→evx G e x=evx G e' x) (hv: ∀x,x∈o.op.operands→ ∀s off,evx G e x= .lp s off→e.var s=e'.var s)
  (hst:e.st=e'.st):evQ P G S e o=evQ P G S e' o:=zJs hx hv (fun _=>hst)
theorem zN8 {r:R St} (h:vY P G e o=some r): ∃x,r= .ret x:=by
 unfold vY at h
 split at h
 ·split at h
  ·simp only [Option.some.injEq] at h;exact ⟨_,h.symm⟩
  ·cases h
 ·cases h
def R.isCall:R St→Bool
 | .call _ _ _=>true
 |_=>false
theorem zN6 {t:TypeId} {x:T} {r:R St} (h:zC5 P e t x=some r):r.isCall=false:=by
 unfold zC5 at h
 split at h<;>(try split at h)<;>(try (simp only [Option.map_eq_some_iff] at h;obtain ⟨_,_,rfl⟩:=h;rfl))<;>cases h
theorem zKM {t:TypeId} {x:T} {r:R St} (h:zC6 P e t x=some r):r.isCall=false:=by
 unfold zC6 at h
 split at h
 ·rename_i n
  obtain ⟨id,id2,ty,xs,j,ys,m⟩:=n
  simp only [zIu] at h
  repeat' split at h
  all_goals (first|(simp only [Option.some.injEq] at h;subst h;rfl)|cases h)
 ·split at h
  ·simp only [Option.map_eq_some_iff] at h;obtain ⟨_,_,rfl⟩:=h;rfl
  ·cases h
 ·exact zN6 h
theorem zIf {t:TypeId} {i:Nat} {x:T} {r:R St} (h:uK P t i x=some r):r.isCall=false:=by
 unfold uK at h
 repeat' split at h
 all_goals (first|(simp only [Option.some.injEq] at h;subst h;rfl)|cases h)
theorem zD7 {t:TypeId} {i:Nat} {x:T} {r:R St} (h:yS P t i x=some r):r.isCall=false:=by
 unfold yS at h
 split at h
 ·rename_i n
  obtain ⟨id,id2,ty,xs,j,ys,m⟩:=n
  simp only [zC7] at h
  repeat' split at h
  all_goals (first|(simp only [Option.some.injEq] at h;subst h;rfl)|cases h)
 ·repeat' split at h
  all_goals (first|(simp only [Option.some.injEq] at h;subst h;rfl)|cases h)
 ·exact zIf h
theorem zId {t:TypeId} {i:Int} {x:T} {r:R St} (h:vB P t x i=some r):r.isCall=false:=by
 unfold vB at h
 repeat' split at h
 all_goals (first|(simp only [Option.some.injEq] at h;subst h;rfl)|cases h)
theorem zJw {t:TypeId} {i:Int} {x:T} {r:R St} (h:vC P t x i=some r):r.isCall=false:=by
 unfold vC at h
 split at h
 ·rename_i n
  obtain ⟨id,id2,ty,xs,j,ys,m⟩:=n
  simp only [xN] at h
  repeat' split at h
  all_goals (first|(simp only [Option.some.injEq] at h;subst h;rfl)|cases h)
 ·repeat' split at h
  all_goals (first|(simp only [Option.some.injEq] at h;subst h;rfl)|cases h)
 ·repeat' split at h
  all_goals (first|(simp only [Option.some.injEq] at h;subst h;rfl)|cases h)
 ·repeat' split at h
  all_goals (first|(simp only [Option.some.injEq] at h;subst h;rfl)|cases h)
 ·exact zId h
theorem zMM {t:TypeId} {id:Nat} {ty:Ty} {xs:List ty.El} {lo hi mx:Option T} {r:R St} (h:zCz P t id ty xs lo hi mx=some r):r.isCall=false:=by
 unfold zCz at h
 repeat' split at h
 all_goals (first|(simp only [Option.some.injEq] at h;subst h;rfl)|cases h)
theorem zML {t:TypeId} {ty:Ty} {xs:List ty.El} {lo hi mx:Option T} {r:R St} (h:zCy P t ty xs lo hi mx=some r):r.isCall=false:=by
 unfold zCy at h
 repeat' split at h
 all_goals (first|(simp only [Option.some.injEq] at h;subst h;rfl)|cases h)
theorem zN4 {t:TypeId} {es:List V} {lo hi mx:Option T} {r:R St} (h:zEL P t es lo hi mx=some r):r.isCall=false:=by
 unfold zEL at h
 repeat' split at h
 all_goals (first|(simp only [Option.some.injEq] at h;subst h;rfl)|cases h)
theorem zRN {x:T} {r:R St} (h:zMN x=some r):r.isCall=false:=by
 unfold zMN at h
 repeat' split at h
 all_goals (first|(simp only [Option.some.injEq] at h;subst h;rfl)|cases h)
theorem zOd {t:TypeId} {ps:List (Nat×V)} {r:R St} (h:zGF P t ps=some r):r.isCall=false:=by
 unfold zGF at h
 repeat' split at h
 all_goals (first|(simp only [Option.map_eq_some_iff] at h;obtain ⟨_,_,rfl⟩:=h;rfl)|cases h)
theorem zIg {t:TypeId} {n:Nat} {ps:List (Nat×V)} {r:R St} (h:xO P t n ps=some r):r.isCall=false:=by
 unfold xO at h
 repeat' split at h
 all_goals (first|(simp only [Option.some.injEq] at h;subst h;rfl)|(simp only [Option.some.injEq] at h;subst h;split<;>rfl)|cases h)
theorem zRM {op:BinOp} {t:TypeId} {x y:T} {r:R St} (h:zJu P op t x y=some r):r.isCall=false:=by
 unfold zJu at h
 repeat' split at h
 all_goals (first|(simp only [Option.some.injEq] at h;subst h;rfl)|cases h)
theorem zSV {op:BinOp} {t:TypeId} {x y:T} {r:R St} (h:zOa P op t x y=some r):r.isCall=false:=by
 unfold zOa at h
 repeat' split at h
 all_goals (first|(simp only [Option.map_eq_some_iff] at h;obtain ⟨_,_,rfl⟩:=h;rfl)|cases h)
theorem zJv {t:TypeId} {n:Int} {r:R St} (h:yR P t n=some r):r.isCall=false:=by
 unfold yR at h
 repeat' split at h
 all_goals (first|(simp only [Option.some.injEq] at h;subst h;rfl)|cases h)
theorem zN9 {t:TypeId} {cs:List V} {i:Nat} {r:R St} (h:zIv P t cs i=some r):r.isCall=false:=by
 unfold zIv at h
 split at h
 ·simp only [Option.map_eq_some_iff] at h;obtain ⟨_,_,rfl⟩:=h;rfl
 ·cases h
theorem zCA {r:R St} (h:vY P G e o=some r):r.isCall=false:=by
 obtain ⟨x,rfl⟩:=zN8 h;rfl
theorem zHx {r:R St} (h:evQ P G S e o=some r) (hc:isCall o=false):r.isCall=false:=by
 obtain ⟨dst,op,type,pos,after,guard⟩:=o
 cases op<;>simp only [evQ] at h
 case call c=>
  unfold zFL at h
  simp only [isCall] at hc
  split at h
  ·rename_i hcal;simp [hcal] at hc
  ·split at h
   ·split at h
    ·repeat' split at h
     all_goals (first|(simp only [Option.some.injEq] at h;subst h;exact zRN (by assumption))|cases h)
    ·exact zCA h
   ·cases h
  ·exact zCA h
  ·cases h
  ·rename_i f hcal;simp [hcal] at hc
 case buildSlice t n parts=>
  split at h
  ·exact zIg h
  ·cases h
 case binOp op t x y t'=>
  split at h
  ·rename_i r' hr'
   simp only [Option.some.injEq] at h
   subst h
   exact zRM hr'
  ·split at h
   ·rename_i r' hr'
    simp only [Option.some.injEq] at h
    subst h
    exact zSV hr'
   ·exact zCA h
 case makeSlice t l c=>
  split at h
  ·split at h
   ·exact zJv h
   ·cases h
  ·cases h
 case load t x=>exact zKM h
 case makeMap t r=>
  cases r with
  |none=>simp only [Option.some.injEq] at h;subst h;rfl
  |some _=>cases h
 case fieldAddr t x i=>exact zD7 h
 case makeFunc fn first captured=>
  cases fn with
  |func f=>
   simp only at h
   split at h
   ·split at h
    ·simp only [Option.some.injEq] at h;subst h;rfl
    ·cases h
   ·cases h
  |_=>cases h
 all_goals (first
  |(cases h;done)
  |exact zKM h
  |exact zD7 h
  |exact zCA h
  |(simp only [Option.some.injEq] at h;subst h;rfl)
  | (repeat' split at h
     all_goals (first
      |(simp only [Option.some.injEq] at h;subst h;rfl)
      |(simp only [Option.map_eq_some_iff] at h;obtain ⟨_,_,rfl⟩:=h;rfl)
      |exact zJw h
      |exact zN4 h
      |exact zML h
      |exact zMM h
      |exact zOd h
      |exact zN9 h
      |exact zCA h
      |cases h)))
theorem xB {r:R St} (h:r.isCall=false) (st:St):zHP st r=st:=by
 cases r with
 |call st' view rv=>cases h
 |_=>rfl
end
end Go.Ve
