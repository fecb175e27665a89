/-
  Functions out of code, part 10: typed data out of data without types, lists too.
  Contracts at one point: what a function answers at given data.
  slices.Clone: the contract over typed lists, out of three that tell nil, empty and the rest apart.
  Plain laws: the reference's active routes; tables compared.
-/
import Derived.Test.YtcnlcmbchljpgaaGreatPs10
import Derived.Test.YtcnlcmbchljpgaaGreatPs12
set_option linter.unusedVariables false
namespace Go.Ve
open Go
def zXl {α:Type} (f:List V→Option (α×List V)):List V→Option (List α)
 |[]=>some []
 |e::r=>match f e.cells with
  |some (x,[])=>match zXl f r with
   |some xs=>some (x::xs)
   |none=>none
  |_=>none
def Ty.unc:(t:Ty)→List V→Option (t.El×List V)
 | .pair a b,cs=>match a.unc cs with
  |some (x,r)=>match b.unc r with
   |some (y,r)=>some ((x,y),r)
   |none=>none
  |none=>none
 | .sl t,cs=>match cs with
  | .sl es::r=>match zXl t.unc es with
   |some xs=>some (xs,r)
   |none=>none
  |cs=>zHY t cs
 | .int k,cs=>zEG k cs
 | .bool,cs=>zC2 cs
 | .str,cs=>zEF cs
 | .unit,cs=>some ((),cs)
 | .rf,cs=>zHZ cs
theorem zR3 {α:Type} {f:List V→Option (α×List V)} : ∀ {es:List V} {xs:List α},zXl f es=some xs→es.length=xs.length∧ ∀ (i:Nat) (x:α),xs[i]? =some x→ ∃e,es[i]? =some e∧f e.cells=some (x,[])
 |[],xs,h=>by simp only [zXl,Option.some.injEq] at h;subst h;exact ⟨rfl,fun i x h=>by simp at h⟩
 |e::r,xs,h=>by
  simp only [zXl] at h
  split at h
  ·rename_i x hx
   split at h
   ·rename_i xs' hxs
    simp only [Option.some.injEq] at h
    subst h
    obtain ⟨h1,h2⟩:=zR3 hxs
    refine ⟨by simp [h1],fun i y hy=> ?_⟩
    cases i with
    |zero=>simp only [List.getElem?_cons_zero,Option.some.injEq] at hy;subst hy;exact ⟨e,rfl,hx⟩
    |succ i=>exact h2 i y (by simpa using hy)
   ·cases h
  ·cases h
theorem zXP {t:Ty} {es:List V} {xs:List t.El} (hl:es.length=xs.length) (h: ∀ (i:Nat) (e:V) (x:t.El),es[i]? =some e→xs[i]? =some x→wF e.cells (t.cells x)):WkV (.sl es) (.tl t xs):=by
 intro w F v hr
 refine .tl t xs v ?_
 cases hr with
 |slemp a cap=>
  have:xs=[]:=List.eq_nil_of_length_eq_zero hl.symm
  subst this
  exact .slemp a cap
 |sl b off cap k _ g hFb hcap hk hg hr=>
  have hel:es.length=(xs.map t.enc).length:=by simpa using hl
  rw [hel] at hg hcap ⊢
  refine .sl b off cap k _ g hFb hcap ?_ hg ?_
  ·intro e he
   simp only [List.mem_map] at he
   obtain ⟨x,hx,rfl⟩:=he
   obtain ⟨j,hj⟩:=List.getElem?_of_mem hx
   have hjl:j<es.length:=by rw [hl];exact (List.getElem?_eq_some_iff.1 hj).1
   have h1:=(h j es[j] x (by simp [hjl]) hj).len
   rw [qP, ←h1]
   exact hk _ (List.getElem_mem hjl)
  ·intro i j e d hi hj
   simp only [List.getElem?_map,Option.map_eq_some_iff] at hi
   obtain ⟨x,hx,rfl⟩:=hi
   rw [qP] at hj
   have hil:i<es.length:=by rw [hl];exact (List.getElem?_eq_some_iff.1 hx).1
   have h1:=h i es[i] x (by simp [hil]) hx
   have hjl:j< (es[i]).cells.length:=by rw [h1.len];exact (List.getElem?_eq_some_iff.1 hj).1
   exact h1.get j _ d (List.getElem?_eq_getElem hjl) hj w F _ (hr i j es[i] _ (by simp [hil]) (List.getElem?_eq_getElem hjl))
theorem zOX: ∀ (t:Ty) (cs:List V) (x:t.El) (r:List V),t.unc cs=some (x,r)→ ∃cs1,cs=cs1++r∧wF cs1 (t.cells x):=by
 intro t
 induction t with
 |int k=>exact fun cs x r h=>jD (.int k) cs x r h
 |bool=>exact fun cs x r h=>jD .bool cs x r h
 |str=>exact fun cs x r h=>jD .str cs x r h
 |unit=>exact fun cs x r h=>jD .unit cs x r h
 |rf=>exact fun cs x r h=>jD .rf cs x r h
 |pair a b iha ihb=>
  intro cs x r h
  simp only [Ty.unc] at h
  split at h
  ·rename_i xa r1 h1
   split at h
   ·rename_i xb r2 h2
    simp only [Option.some.injEq,Prod.mk.injEq] at h
    obtain ⟨rfl,rfl⟩:=h
    obtain ⟨c1,rfl,k1⟩:=iha cs xa r1 h1
    obtain ⟨c2,rfl,k2⟩:=ihb r1 xb r2 h2
    exact ⟨c1++c2,by rw [List.append_assoc],k1.append k2⟩
   ·cases h
  ·cases h
 |sl t ih=>
  intro cs x r h
  simp only [Ty.unc] at h
  split at h
  ·rename_i es r'
   split at h
   ·rename_i xs hxs
    simp only [Option.some.injEq,Prod.mk.injEq] at h
    obtain ⟨rfl,rfl⟩:=h
    obtain ⟨h1,h2⟩:=zR3 hxs
    refine ⟨[.sl es],rfl,zXP h1 ?_,trivial⟩
    intro i e y he hy
    obtain ⟨e',he',hf⟩:=h2 i y hy
    rw [he] at he'
    simp only [Option.some.injEq] at he'
    subst he'
    obtain ⟨c1,hc,hw⟩:=ih e.cells y [] hf
    rw [List.append_nil] at hc
    rw [hc];exact hw
   ·cases h
  ·exact jD (.sl t) _ x r h
def Ty.decW (t:Ty) (d:V):Option t.El:=
 match t with
 | .pair a b=>match d with
  | .agg cs=>match (Ty.pair a b).unc cs with
   |some (x,[])=>some x
   |_=>none
  |_=>none
 | .unit=>none
 | .sl t=>match (Ty.sl t).unc [d] with
  |some (x,[])=>some x
  |_=>none
 | .int k=>(Ty.int k).dec d
 | .bool=>Ty.bool.dec d
 | .str=>Ty.str.dec d
 | .rf=>Ty.rf.dec d
theorem zTC {t:Ty} {d:V} {x:t.El} (h:t.decW d=some x):WkV d (t.enc x):=by
 cases t with
 |pair a b=>
  simp only [Ty.decW] at h
  split at h
  ·rename_i cs
   split at h
   ·rename_i x' hx
    simp only [Option.some.injEq] at h
    subst h
    obtain ⟨c1,h1,h2⟩:=zOX (.pair a b) cs x' [] hx
    simp only [List.append_nil] at h1
    subst h1
    exact WkV.agg h2
   ·cases h
  ·cases h
 |unit=>simp [Ty.decW] at h
 |sl t=>
  simp only [Ty.decW] at h
  split at h
  ·rename_i x' hx
   simp only [Option.some.injEq] at h
   subst h
   obtain ⟨c1,h1,h2⟩:=zOX (.sl t) [d] x' [] hx
   rw [List.append_nil] at h1
   subst h1
   exact h2.1
  ·cases h
 |int k=>exact kA h
 |bool=>exact kA h
 |str=>exact kA h
 |rf=>exact kA h
def zEx:(ts:List Ty)→List V→Option (ElS ts)
 |[],[]=>some ()
 |t::ts,d::ds=>match t.decW d with
  |some x=>match zEx ts ds with
   |some xs=>some (x,xs)
   |none=>none
  |none=>none
 |_,_=>none
theorem zLD: ∀ (ts:List Ty) (ds:List V) (x:ElS ts),zEx ts ds=some x→wF ds (v6 ts x)
 |[],[],_,_=>trivial
 |[],_::_,_,h=>by simp [zEx] at h
 |_::_,[],_,h=>by simp [zEx] at h
 |t::ts,d::ds,x,h=>by
  simp only [zEx] at h
  split at h
  ·rename_i y hy
   split at h
   ·rename_i ys hys
    simp only [Option.some.injEq] at h
    subst h
    exact ⟨zTC hy,zLD ts ds ys hys⟩
   ·cases h
  ·cases h
theorem zPk {Γ:Sig} {P:Program} {G:Nat→Option (List V)} {f:FuncId} {ts:List Ty} {R:RTy} {g:ElS ts→Option R.El} (h:wG Γ P G f (qK (j1 ts R g))):wG Γ P G f (qK (wS (zEx ts) R g)):=by
 intro w F O s args ds s' r hsig hG hF hlen hrd hspec
 simp only [qK,wS] at hspec
 cases hx:zEx ts ds with
 |none=>rw [hx] at hspec;cases hspec
 |some x=>
  rw [hx] at hspec
  have hwk:=zLD ts ds x hx
  refine h w F O s args (v6 ts x) s' r hsig hG hF (hlen.trans hwk.len) ?_ ?_
  ·intro i u d hu hd
   have hlt:i<ds.length:=by rw [hwk.len];exact (List.getElem?_eq_some_iff.1 hd).1
   exact hwk.get i ds[i] d (by simp [hlt]) hd w F u (hrd i u ds[i] hu (by simp [hlt]))
  ·simp only [qK,j1,wS,zDo];exact hspec
end Go.Ve

namespace Go.Ve
open Go
def zRB {α:Type} (f:α→α→Bool):List α→List α→Bool
 |[],[]=>true
 |x::xs,y::ys=>f x y&&zRB f xs ys
 |_,_=>false
theorem zGq {α:Type} {f:α→α→Bool} (hf: ∀x y,f x y=true→x=y): ∀ {xs ys:List α},zRB f xs ys=true→xs=ys
 |[],[],_=>rfl
 |x::xs,y::ys,h=>by
  simp only [zRB,Bool.and_eq_true] at h
  rw [hf x y h.1,zGq hf h.2]
 |[],_::_,h=>by cases h
 |_::_,[],h=>by cases h
def Ty.eqb:(t:Ty)→t.El→t.El→Bool
 | .int _,a,b=>decide (a=b)
 | .bool,a,b=>match a,b with
  |true,true=>true
  |false,false=>true
  |_,_=>false
 | .str,a,b=>zRB (fun (x y:UInt8)=>Nat.beq x.toNat y.toNat) a.data.toList b.data.toList
 | .unit,_,_=>true
 | .pair s t,a,b=>s.eqb a.1 b.1&&t.eqb a.2 b.2
 | .sl t,a,b=>zRB t.eqb a b
 | .rf,_,_=>false
theorem zVq: ∀ (t:Ty) (a b:t.El),t.eqb a b=true→a=b:=by
 intro t
 induction t with
 |int k=>exact fun a b h=>of_decide_eq_true h
 |bool=>
  intro a b h
  cases a<;>cases b<;>first|rfl|cases h
 |str=>
  intro a b h
  have h:=zGq (fun (x y:UInt8) h=>UInt8.toNat_inj.1 (Nat.eq_of_beq_eq_true h)) h
  cases a;cases b
  simp only at h
  rw [Array.toList_inj.1 h]
 |unit=>exact fun _ _ _=>rfl
 |pair s t ihs iht=>
  intro a b h
  simp only [Ty.eqb,Bool.and_eq_true] at h
  exact Prod.ext (ihs _ _ h.1) (iht _ _ h.2)
 |sl t ih=>exact fun a b h=>zGq ih h
 |rf=>exact fun _ _ h=>by cases h
def eqS:(ts:List Ty)→ElS ts→ElS ts→Bool
 |[],_,_=>true
 |t::ts,a,b=>t.eqb a.1 b.1&&eqS ts a.2 b.2
theorem zPt: ∀ (ts:List Ty) (a b:ElS ts),eqS ts a b=true→a=b
 |[],_,_,_=>rfl
 |t::ts,a,b,h=>by
  simp only [eqS,Bool.and_eq_true] at h
  exact Prod.ext (zVq t _ _ h.1) (zPt ts _ _ h.2)
def atP (ts:List Ty) {α:Type} (x0:ElS ts) (y0:α) (f:ElS ts→Option α):ElS ts→Option α:=fun x=>bif eqS ts x x0 then some y0 else f x
def noF {X α:Type} :X→Option α:=fun _=>none
theorem zP9 {Γ:Sig} {P:Program} {G:Nat→Option (List V)} {f:FuncId} {ts:List Ty} {R:RTy} {g h:ElS ts→Option R.El} (hg:wG Γ P G f (qK (j1 ts R g))) (hh: ∀x y,h x=some y→g x=some y):
  wG Γ P G f (qK (wS (zEx ts) R h)):=by
 refine zRK (zPk hg) ?_
 intro s ds r hr
 simp only [qK,wS] at hr ⊢
 cases hx:zEx ts ds with
 |none=>rw [hx] at hr;cases hr
 |some x=>
  rw [hx] at hr
  simp only [Option.map_eq_some_iff] at hr ⊢
  obtain ⟨y,hy,e⟩:=hr
  exact ⟨y,hh x y hy,e⟩
theorem zOa {ts:List Ty} {α:Type} {x0:ElS ts} {y0:α} {f g:ElS ts→Option α} (h0:g x0=some y0) (hf: ∀x y,f x=some y→g x=some y): ∀x y,atP ts x0 y0 f x=some y→g x=some y:=by
 intro x y h
 unfold atP at h
 cases he:eqS ts x x0 with
 |false=>rw [he] at h;exact hf x y h
 |true=>
  rw [he] at h
  rw [zPt ts x x0 he,h0]
  exact h
theorem zQx {X α:Type} {g:X→Option α} : ∀x y,noF (X:=X) (α:=α) x=some y→g x=some y:=fun _ _ h=>by cases h
end Go.Ve

namespace Go.Ve
open Go
def zLF (t:Ty) (ds:List V):Option (t.El×List t.El):=
 match zD7 [.sl t] ds with
 |some (y::r,_)=>some (y,r)
 |_=>none
theorem zDQ {t:Ty} {ds:List V} {q:t.El×List t.El} (h:zLF t ds=some q):wF ds [.tl t (q.1::q.2)]:=by
 unfold zLF at h
 split at h
 ·rename_i y r u hd
  simp only [Option.some.injEq] at h
  subst h
  exact k7 [.sl t] ds (y::r,u) hd
 ·cases h
open Classical in
noncomputable def zFB (v:Value) (ds:List V):Option Unit:=if ds=[.val v] then some () else none
theorem yA {v:Value} {ds:List V} {q:Unit} (h:zFB v ds=some q):wF ds [.val v]:=by
 unfold zFB at h
 split at h
 ·rename_i hd
  subst hd
  exact ⟨.refl _,trivial⟩
 ·cases h
theorem zRj {w:World} {F:Blk→Prop} {v:Value} {t:Ty} (h:Rd w F v (.tl t [])): ∃a c,v= .slice a 0 c:=by
 have h2:=Rd.untl h
 simp only [List.map_nil] at h2
 generalize hd:V.sl []=d at h2
 cases h2 with
 |slemp a c=>exact ⟨a,c,rfl⟩
 |sl b off cap k es g hF hcap hk hg hr=>
  simp only [V.sl.injEq] at hd
  subst hd
  exact ⟨_,_,rfl⟩
 |_=>cases hd
theorem zIx {P:Program} {G:Nat→Option (List V)} {f:FuncId} {t:Ty} {bytes:Nat}
  (h1:wG jK P G f (qK (wS (zLF t) (.p (.sl t)) (fun q=>Option.bind (app bytes [] (q.1::q.2)) fun z=>some z))))
  (h2: ∀c,wG jK P G f (qK (wS (zFB (.slice none 0 c)) (.p (.sl t)) (fun _=>some []))))
  (h3: ∀a c,wG jK P G f (qK (wS (zFB (.slice (some a) 0 c)) (.p (.sl t)) (fun _=>some [])))):
  wG jK P G f (qK (j1 [.sl t] (.p (.sl t)) (fun x=>Option.bind (app bytes [] x.1) fun z=>some z))):=by
 intro w F O s args ds s' r hsig hG hF hlen hrd hspec
 simp only [qK,j1,wS] at hspec
 cases hx:zD7 [.sl t] ds with
 |none=>rw [hx] at hspec;cases hspec
 |some x=>
  rw [hx] at hspec
  have hwk:=k7 [.sl t] ds x hx
  have hdl:ds.length=1:=hwk.len
  have hal:args.size=1:=hlen.trans hdl
  obtain ⟨xs,u⟩:=x
  have hv:Rd w F args[0] (.tl t xs):=hwk.get 0 (ds[0]'(by omega)) (.tl t xs) (by simp) rfl w F _ (hrd 0 _ _ (by simp) (by simp))
  cases xs with
  |cons y r0=>
   refine h1 w F O s args [.tl t (y::r0)] s' r hsig hG hF (by simpa using hal) ?_ ?_
   ·intro i v d hi hd
    match i with
    |0=>
     simp at hd
     subst hd
     have:v=args[0]:=by
      rw [Array.getElem?_eq_getElem (by omega)] at hi
      exact (Option.some.inj hi).symm
     rw [this];exact hv
    |i+1=>simp at hd
   ·have hde:zLF t [.tl t (y::r0)]=some (y,r0):=by
     unfold zLF
     rw [show zD7 [.sl t] [.tl t (y::r0)]=some (y::r0,()) from zDo [.sl t] (y::r0,())]
    simp only [qK,wS,hde]
    exact hspec
  |nil=>
   obtain ⟨a,c,ha⟩:=zRj hv
   have hres:some (s',r)=some (s,(RTy.p (.sl t)).res []):=by
    have:(app bytes ([]:List t.El) [])=some []∨app bytes ([]:List t.El) []=none:=by
     unfold app;split
     ·exact .inl rfl
     ·exact .inr rfl
    rcases this with h|h
    ·simp only [h,Option.bind_some,Option.map_some] at hspec
     exact hspec.symm
    ·simp only [h,Option.bind_none,Option.map_none] at hspec
     cases hspec
   simp only [Option.some.injEq,Prod.mk.injEq] at hres
   obtain ⟨rfl,rfl⟩:=hres
   have go: ∀v,args[0]=v→wG jK P G f (qK (wS (zFB v) (.p (.sl t)) (fun _=>some [])))→Calls P f args w fun e w'=> ∃ (v:Value) (F':Blk→Prop) (O':Nat→Prop),e= .returned v∧jK.R s' F' O' w'∧zCt O w w'∧
     (∀b,O' b→O b∨w.heap.size≤b)∧(∀b,F b→F' b)∧(∀b:Nat,F' b→(F b∨w.heap.size≤b)∧b<w'.heap.size∧ ¬O' b)∧yX w.heap.size w' F' O' v ((RTy.p (.sl t)).res []):=by
    intro v hv0 h
    refine h w F O s' args [.val v] s' _ hsig hG hF (by simpa using hal) ?_ ?_
    ·intro i u d hi hd
     match i with
     |0=>
      simp at hd
      subst hd
      have:u=args[0]:=by
       rw [Array.getElem?_eq_getElem (by omega)] at hi
       exact (Option.some.inj hi).symm
      rw [this,hv0];exact .val _
     |i+1=>simp at hd
    ·have hde:zFB v [.val v]=some ():=by unfold zFB;rw [if_pos rfl]
     simp only [qK,wS,hde]
     rfl
   cases a with
   |none=>exact go _ ha (h2 c)
   |some a=>exact go _ ha (h3 a c)
theorem zRL {P:Program} {G:Nat→Option (List V)} {f:FuncId} {t:Ty} {bytes:Nat}
  (h1:wG jK P G f (qK (wS (zLF t) (.o t) (fun q=>Option.bind (app bytes [] (q.1::q.2)) fun z=>some z))))
  (h2: ∀c,wG jK P G f (qK (wS (zFB (.slice none 0 c)) (.o t) (fun _=>some []))))
  (h3: ∀a c,wG jK P G f (qK (wS (zFB (.slice (some a) 0 c)) (.o t) (fun _=>some [])))):
  wG jK P G f (qK (j1 [.sl t] (.o t) (fun x=>Option.bind (app bytes [] x.1) fun z=>some z))):=by
 intro w F O s args ds s' r hsig hG hF hlen hrd hspec
 simp only [qK,j1,wS] at hspec
 cases hx:zD7 [.sl t] ds with
 |none=>rw [hx] at hspec;cases hspec
 |some x=>
  rw [hx] at hspec
  have hwk:=k7 [.sl t] ds x hx
  have hdl:ds.length=1:=hwk.len
  have hal:args.size=1:=hlen.trans hdl
  obtain ⟨xs,u⟩:=x
  have hv:Rd w F args[0] (.tl t xs):=hwk.get 0 (ds[0]'(by omega)) (.tl t xs) (by simp) rfl w F _ (hrd 0 _ _ (by simp) (by simp))
  cases xs with
  |cons y r0=>
   refine h1 w F O s args [.tl t (y::r0)] s' r hsig hG hF (by simpa using hal) ?_ ?_
   ·intro i v d hi hd
    match i with
    |0=>
     simp at hd
     subst hd
     have:v=args[0]:=by
      rw [Array.getElem?_eq_getElem (by omega)] at hi
      exact (Option.some.inj hi).symm
     rw [this];exact hv
    |i+1=>simp at hd
   ·have hde:zLF t [.tl t (y::r0)]=some (y,r0):=by
     unfold zLF
     rw [show zD7 [.sl t] [.tl t (y::r0)]=some (y::r0,()) from zDo [.sl t] (y::r0,())]
    simp only [qK,wS,hde]
    exact hspec
  |nil=>
   obtain ⟨a,c,ha⟩:=zRj hv
   have hres:some (s',r)=some (s,(RTy.o t).res []):=by
    have:(app bytes ([]:List t.El) [])=some []∨app bytes ([]:List t.El) []=none:=by
     unfold app;split
     ·exact .inl rfl
     ·exact .inr rfl
    rcases this with h|h
    ·simp only [h,Option.bind_some,Option.map_some] at hspec
     exact hspec.symm
    ·simp only [h,Option.bind_none,Option.map_none] at hspec
     cases hspec
   simp only [Option.some.injEq,Prod.mk.injEq] at hres
   obtain ⟨rfl,rfl⟩:=hres
   have go: ∀v,args[0]=v→wG jK P G f (qK (wS (zFB v) (.o t) (fun _=>some [])))→Calls P f args w fun e w'=> ∃ (v:Value) (F':Blk→Prop) (O':Nat→Prop),e= .returned v∧jK.R s' F' O' w'∧zCt O w w'∧
     (∀b,O' b→O b∨w.heap.size≤b)∧(∀b,F b→F' b)∧(∀b:Nat,F' b→(F b∨w.heap.size≤b)∧b<w'.heap.size∧ ¬O' b)∧yX w.heap.size w' F' O' v ((RTy.o t).res []):=by
    intro v hv0 h
    refine h w F O s' args [.val v] s' _ hsig hG hF (by simpa using hal) ?_ ?_
    ·intro i u d hi hd
     match i with
     |0=>
      simp at hd
      subst hd
      have:u=args[0]:=by
       rw [Array.getElem?_eq_getElem (by omega)] at hi
       exact (Option.some.inj hi).symm
      rw [this,hv0];exact .val _
     |i+1=>simp at hd
    ·have hde:zFB v [.val v]=some ():=by unfold zFB;rw [if_pos rfl]
     simp only [qK,wS,hde]
     rfl
   cases a with
   |none=>exact go _ ha (h2 c)
   |some a=>exact go _ ha (h3 a c)
theorem zYE {P:Program} {G:Nat→Option (List V)} {f:FuncId} {t:Ty} {ds:List V} (hnb:zBU ds=none) (h: ∀a:Option Addr, ∃S,wG jK P G f S∧S () (.val (.slice a 0 0)::ds)=some ((), .p (.tup []))):
  zAY jK P G f () t [] ds () [] (.tup []):=by
 refine zAY.of hnb ?_
 intro w F O b v0 args hR hG hF hown _ hsz ha0 hrest
 have hv: ∃a,v0= .slice a 0 0:=by
  rcases hown with ⟨_,h⟩|⟨h,_⟩
  ·exact h
  ·exact absurd rfl h
 obtain ⟨a,rfl⟩:=hv
 obtain ⟨S,hS,hs⟩:=h a
 have hcall:=hS w F O () args (.val (.slice a 0 0)::ds) () (.p (.tup [])) hR hG hF (by simpa using hsz) (by
  intro i v d hi hd
  match i with
  |0=>
   simp at hd
   subst hd
   rw [ha0] at hi
   cases hi
   exact .val _
  |i+1=>exact hrest i v d hi (by simpa using hd)) hs
 refine hcall.mono ?_
 rintro e w' ⟨v,F',O',rfl,h1,h2,h3,h4,h5,h6⟩
 exact ⟨v,F',O',rfl,h1,⟨h2.os,h2.tape,h2.output,h2.size,fun c hc ho=>h2.block c hc (fun hh=>ho (.inl hh)),h2.drawn⟩,h3,h4,h5,zFo.of (.inl ⟨rfl,a,rfl⟩) h6⟩
end Go.Ve


