/-
  The evaluator over pure values, part 1: values, readings of values in memory, and what keeps them.
  The evaluator over pure values, part 2: a frame's temporaries, the variables and slices of its own, and the relation to the machine's frame and world.
  The evaluator over pure values, part 25: readings that say less; typed data out of cells.
  The evaluator over pure values, part 3: operations that write nothing of old.
  The evaluator over pure values, part 4: what the operations that write nothing of old come to in the machine.
  The evaluator over pure values, part 5: the other operations that write nothing of old, and all of them together.
-/
import Derived.Orders
import Derived.Below
import Derived.KernelRfl
import Derived.IntWalk
set_option linter.unusedVariables false
namespace Go.Ve
open Go
inductive Ty where
 |int (k:IntKind)
 |bool
 |str
 |unit
 |pair (a b:Ty)
 |sl (t:Ty)
 |rf
 |hd
 deriving DecidableEq
@[reducible] def Ty.El:Ty→Type
 | .int _=>Int
 | .bool=>Bool
 | .str=>ByteArray
 | .unit=>Unit
 | .pair a b=>a.El×b.El
 | .sl t=>List t.El
 | .rf=>Option (Nat×Nat)
 | .hd=>Nat
inductive V where
 |val (v:Value)
 |agg (cs:List V)
 |sl (es:List V)
 |tup (vs:List V)
 |clo (f:FuncId) (caps:List V)
 |pp (cs:List V)
 |tl (t:Ty) (xs:List t.El)
 |rf (o:Option (Nat×Nat))
 |hd (id:Nat)
 |bot
def Ty.cells:(t:Ty)→t.El→List V
 | .int k,n=>[.val (.int k n)]
 | .bool,b=>[.val (.bool b)]
 | .str,s=>[.val (.string s)]
 | .unit,_=>[]
 | .pair a b,x=>a.cells x.1++b.cells x.2
 | .sl t,xs=>[.tl t xs]
 | .rf,o=>[.rf o]
 | .hd,n=>[.hd n]
def Ty.enc:(t:Ty)→t.El→V
 | .int k,n=> .val (.int k n)
 | .bool,b=> .val (.bool b)
 | .str,s=> .val (.string s)
 | .unit,_=> .agg []
 | .pair a b,x=> .agg (a.cells x.1++b.cells x.2)
 | .sl t,xs=> .tl t xs
 | .rf,o=> .rf o
 | .hd,n=> .hd n
def Ty.size:Ty→Nat
 | .unit=>0
 | .pair a b=>a.size+b.size
 |_=>1
def V.cells:V→List V
 | .agg cs=>cs
 |d=>[d]
def V.isVal:V→Bool
 | .val _=>true
 |_=>false
def V.leaf:V→Value
 | .val v=>v
 |_=>undef
def V.toVal1:V→Option Value
 | .val v=>some v
 | .agg cs=>if cs.all V.isVal then some (.agg (cs.map V.leaf).toArray) else none
 |_=>none
def V.toVal:V→Option Value
 | .tup vs=>if vs.all (fun d=>d.toVal1.isSome) then some (.tuple (vs.map (fun d=>d.toVal1.getD undef)).toArray) else none
 |d=>d.toVal1
def V.ofVal1:Value→V
 | .agg cs=> .agg (cs.toList.map .val)
 |v=> .val v
def V.ofVal:Value→V
 | .tuple vs=> .tup (vs.toList.map V.ofVal1)
 |v=>V.ofVal1 v
inductive Blk where
 |b (n:Nat)
 |h (id:Nat) (a:Option Addr) (n c:Nat)
instance:Coe Nat Blk:=⟨Blk.b⟩
theorem kA {a b:Nat} (h:Blk.b a=Blk.b b):a=b:=by cases h;rfl
theorem zJO {F:Blk→Prop} {m:Nat} (id:Nat) (a:Option Addr) (n c:Nat):(F (.h id a n c)∨Blk.h id a n c=Blk.b m)↔F (.h id a n c):=
 ⟨fun h=>h.resolve_right (fun h=>by cases h), .inl⟩
def zNJ (N:Nat):Blk→Prop
 | .b n=>n<N
 | .h _ _ _ _=>False
def zUD (N:Nat):Blk→Prop
 | .b n=>N≤n
 | .h _ _ _ _=>True
inductive Rd (w:World) (F:Blk→Prop):Value→V→Prop
 |val (v:Value):Rd w F v (.val v)
 |agg (cs:Array Value) (ds:List V) (hl:cs.size=ds.length)
   (h: ∀ (i:Nat) (x:Value) (d:V),cs[i]? =some x→ds[i]? =some d→Rd w F x d):Rd w F (.agg cs) (.agg ds)
 |tup (cs:Array Value) (ds:List V) (hl:cs.size=ds.length)
   (h: ∀ (i:Nat) (x:Value) (d:V),cs[i]? =some x→ds[i]? =some d→Rd w F x d):Rd w F (.tuple cs) (.tup ds)
 |slemp (a:Option Addr) (cap:Nat):Rd w F (.slice a 0 cap) (.sl [])
 |sl (b off cap k:Nat) (es:List V) (g:Nat→Value) (hF:F b) (hcap:es.length≤cap) (hk: ∀e,e∈es→e.cells.length=k)
   (hg: ∀m,m<es.length*k→w.cell? ⟨b,off+m,none⟩=some (g m))
   (hr: ∀ (i j:Nat) (e d:V),es[i]? =some e→e.cells[j]? =some d→Rd w F (g (i*k+j)) d):
   Rd w F (.slice (some ⟨b,off,none⟩) es.length cap) (.sl es)
 |clo (f:FuncId) (cs:Array Value) (ds:List V) (hl:cs.size=ds.length)
   (h: ∀ (i:Nat) (x:Value) (d:V),cs[i]? =some x→ds[i]? =some d→Rd w F x d):Rd w F (.func (.func f) #[] cs) (.clo f ds)
 |pp (b off:Nat) (cs:List V) (g:Nat→Value) (hF:F b)
   (hg: ∀m,m<cs.length→w.cell? ⟨b,off+m,none⟩=some (g m))
   (hr: ∀ (m:Nat) (d:V),cs[m]? =some d→Rd w F (g m) d):Rd w F (.pointer (some ⟨b,off,none⟩)) (.pp cs)
 |tl (t:Ty) (xs:List t.El) (v:Value) (h:Rd w F v (.sl (xs.map t.enc))):Rd w F v (.tl t xs)
 |rfn:Rd w F (.slice none 0 0) (.rf none)
 |rf (id:Nat) (a:Option Addr) (n c:Nat) (h:F (.h id a n c)):Rd w F (.slice a n c) (.rf (some (id,n)))
 |hd (id:Nat) (a:Addr) (h:F (.h id (some a) 0 0)):Rd w F (.pointer (some a)) (.hd id)
theorem Rd.mono {w w':World} {F F':Blk→Prop} {v:Value} {d:V} (h:Rd w F v d) (hF: ∀b,F b→F' b)
  (hw: ∀b:Nat,F b→w'.heap[b]? =w.heap[b]?):Rd w' F' v d:=by
 induction h with
 |val v=>exact .val v
 |agg cs ds hl _ ih=>exact .agg cs ds hl ih
 |tup cs ds hl _ ih=>exact .tup cs ds hl ih
 |slemp a cap=>exact .slemp a cap
 |sl b off cap k es g hb hcap hk hg _ ih=>
  exact .sl b off cap k es g (hF b hb) hcap hk (fun m hm=>(World.cell?_of_block (w:=w) (hw b hb)).trans (hg m hm)) ih
 |clo f cs ds hl _ ih=>exact .clo f cs ds hl ih
 |pp b off cs g hb hg _ ih=>exact .pp b off cs g (hF b hb) (fun m hm=>(World.cell?_of_block (w:=w) (hw b hb)).trans (hg m hm)) ih
 |tl t xs v _ ih=>exact .tl t xs v ih
 |rfn=>exact .rfn
 |rf id a n c h=>exact .rf id a n c (hF _ h)
 |hd id a h=>exact .hd id a (hF _ h)
theorem wG (t:Ty) (x:t.El):(t.enc x).cells=t.cells x:=by
 cases t<;>rfl
theorem yU (t:Ty) (x:t.El):(t.cells x).length=t.size:=by
 induction t with
 |pair a b iha ihb=>simp [Ty.cells,Ty.size,iha,ihb]
 |_=>rfl
theorem jU (t:Ty) (x:t.El):(t.enc x).cells.length=t.size:=by rw [wG,yU]
theorem Rd.untl {w:World} {F:Blk→Prop} {v:Value} {t:Ty} {xs:List t.El} (h:Rd w F v (.tl t xs)):Rd w F v (.sl (xs.map t.enc)):=by
 cases h with
 |tl _ _ _ h=>exact h
theorem Rd.eq_val {w:World} {F:Blk→Prop} {v u:Value} (h:Rd w F v (.val u)):v=u:=by
 cases h;rfl
theorem zAo {d:V} (h:d.isVal=true):d= .val d.leaf:=by
 cases d<;>simp [V.isVal] at h;rfl
theorem Rd.eq_toVal1 {w:World} {F:Blk→Prop} {v u:Value} {d:V} (h:Rd w F v d) (hd:d.toVal1=some u):v=u:=by
 cases h with
 |val v=>simpa [V.toVal1] using hd
 |agg cs ds hl h=>
  simp only [V.toVal1] at hd
  split at hd
  ·rename_i hall
   simp only [Option.some.injEq] at hd
   subst hd
   congr 1
   apply Array.ext
   ·simp [hl]
   ·intro i h1 h2
    have hi:i<ds.length:=by omega
    have h3:=h i cs[i] ds[i] (by simp [h1]) (by simp [hi])
    have h4:=zAo (List.all_eq_true.1 hall ds[i] (List.getElem_mem hi))
    rw [h4] at h3
    rw [h3.eq_val]
    simp
  ·cases hd
 |_=>simp [V.toVal1] at hd
theorem Rd.eq_toVal {w:World} {F:Blk→Prop} {v u:Value} {d:V} (h:Rd w F v d) (hd:d.toVal=some u):v=u:=by
 cases h with
 |tup cs ds hl h=>
  simp only [V.toVal] at hd
  split at hd
  ·rename_i hall
   simp only [Option.some.injEq] at hd
   subst hd
   congr 1
   apply Array.ext
   ·simp [hl]
   ·intro i h1 h2
    have hi:i<ds.length:=by omega
    have h3:=h i cs[i] ds[i] (by simp [h1]) (by simp [hi])
    have h4:=List.all_eq_true.1 hall ds[i] (List.getElem_mem hi)
    obtain ⟨u,hu⟩:=Option.isSome_iff_exists.1 h4
    rw [h3.eq_toVal1 hu]
    simp [hu]
  ·cases hd
 |val v=>exact Rd.eq_toVal1 (.val (w:=w) (F:=F) v) hd
 |agg cs ds hl h=>exact Rd.eq_toVal1 (.agg cs ds hl h) hd
 |_=>simp [V.toVal,V.toVal1] at hd
theorem zAc (w:World) (F:Blk→Prop) (v:Value):Rd w F v (V.ofVal1 v):=by
 cases v with
 |agg cs=>
  refine .agg cs _ (by simp) ?_
  intro i x d h1 h2
  simp only [List.getElem?_map,Option.map_eq_some_iff] at h2
  obtain ⟨y,hy,rfl⟩:=h2
  have:x=y:=by
   rw [Array.getElem?_toList] at hy
   rw [h1] at hy;exact Option.some.inj hy
  subst this;exact .val x
 |_=>exact .val _
theorem zGj (w:World) (F:Blk→Prop) (v:Value):Rd w F v (V.ofVal v):=by
 cases v with
 |tuple cs=>
  refine .tup cs _ (by simp) ?_
  intro i x d h1 h2
  simp only [List.getElem?_map,Option.map_eq_some_iff] at h2
  obtain ⟨y,hy,rfl⟩:=h2
  have:x=y:=by
   rw [Array.getElem?_toList] at hy
   rw [h1] at hy;exact Option.some.inj hy
  subst this;exact zAc w F x
 |agg cs=>exact zAc w F (.agg cs)
 |_=>exact .val _
theorem Rd.of_flat {w w':World} {F F':Blk→Prop} {v:Value} {d:V} {u:Value} (h:Rd w F v d) (hd:d.toVal=some u):Rd w' F' v d:=by
 cases h with
 |val v=>exact .val v
 |agg cs ds hl h=>
  refine .agg cs ds hl ?_
  intro i x d h1 h2
  simp only [V.toVal,V.toVal1] at hd
  split at hd
  ·rename_i hall
   have h4:=zAo (List.all_eq_true.1 hall d (List.mem_of_getElem? h2))
   have h3:=h i x d h1 h2
   rw [h4] at h3 ⊢
   rw [h3.eq_val];exact .val _
  ·cases hd
 |tup cs ds hl h=>
  refine .tup cs ds hl ?_
  intro i x d h1 h2
  simp only [V.toVal] at hd
  split at hd
  ·rename_i hall
   have h4:=List.all_eq_true.1 hall d (List.mem_of_getElem? h2)
   obtain ⟨u,hu⟩:=Option.isSome_iff_exists.1 h4
   have h3:=h i x d h1 h2
   cases h3 with
   |val=>exact .val _
   |agg cs' ds' hl' h'=>
    refine .agg cs' ds' hl' ?_
    intro i' x' d' h1' h2'
    simp only [V.toVal1] at hu
    split at hu
    ·rename_i hall'
     have h5:=zAo (List.all_eq_true.1 hall' d' (List.mem_of_getElem? h2'))
     have h6:=h' i' x' d' h1' h2'
     rw [h5] at h6 ⊢
     rw [h6.eq_val];exact .val _
    ·cases hu
   |_=>simp [V.toVal1] at hu
  ·cases hd
 |_=>simp [V.toVal,V.toVal1] at hd
structure qK where
 P:Program
 und:TypeId→Option TypeDesc
 inf:TypeId→Option TypeInfo
 fn:FuncId→Option Func
 ty:TypeId→Option Ty
def Ty.rep (a:Ty):Nat→Ty
 |0=> .unit
 |n+1=> .pair a (a.rep n)
def zFi (P:Program):Nat→TypeId→Option Ty
 |0,_=>none
 |n+1,t=>match P.underlying t with
  |some .bool=>some .bool
  |some (.int k)=>some (.int k)
  |some .string=>some .str
  |some (.slice el)=>match zFi P n el with
   |some a=>some (.sl a)
   |none=>none
  |some (.array m el)=>match zFi P n el with
   |some a=>some (a.rep m)
   |none=>none
  |some (.struct fs)=>fs.toList.foldr (fun f acc=>match zFi P n f.type,acc with
   |some a,some b=>some (.pair a b)
   |_,_=>none) (some .unit)
  |_=>none
def zSn (P:Program):Nat→TypeId→Option Ty
 |0,_=>none
 |n+1,t=>match P.underlying t with
  |some .bool=>some .bool
  |some (.int k)=>some (.int k)
  |some .string=>some .str
  |some (.slice el)=>match zSn P n el with
   |some a=>some (.sl a)
   |none=>none
  |some (.array m el)=>match zSn P n el with
   |some a=>some (a.rep m)
   |none=>none
  | some (.struct fs) => fs.toList.foldr (fun f acc => match (match f.name == "Ends" with
    |true=>some Ty.rf
    |false=>zSn P n f.type),acc with
   |some a,some b=>some (.pair a b)
   |_,_=>none) (some .unit)
  |_=>none
def zUr (P:Program) (t:TypeId):Bool:=
 match P.underlying t with
 | some (.struct fs) => fs.toList.any (fun f => f.name == "edges" || f.name == "Interfaces")
 |_=>false
def zMV (P:Program) (t:TypeId):Option Ty:=
 match zUr P t with
 |true=>none
 |false=>zSn P 12 t
@[reducible] def qK.of (P:Program):qK:=⟨P,P.underlying,P.info?,fun f=>P.funcs[f]?,zMV P⟩
instance:Coe Program qK:=⟨qK.of⟩
def zX {α:Type} (P:Program):Sem α→Option α
 | .pure a=>some a
 | .program k=>zX P (k P)
 |_=>none
theorem zAd {α:Type} {P:Program} {s:Sem α} {a:α} (h:zX P s=some a) (w:World):s.run P w= .ok a w:=by
 induction s with
 |pure b=>simp only [zX,Option.some.injEq] at h;subst h;rfl
 |program k ih=>exact ih P (by simpa [zX] using h)
 |_=>simp [zX] at h
theorem zBM {α β:Type} {P:Program} {s:Sem α} {f:α→Sem β} {b:β} (h:zX P (s>>=f)=some b): ∃a,zX P s=some a∧zX P (f a)=some b:=by
 change zX P (s.bind f)=some b at h
 induction s with
 |pure a=>exact ⟨a,rfl,h⟩
 |program k ih=>exact ih P (by simpa [zX,Sem.bind] using h)
 |_=>simp [zX,Sem.bind] at h
end Go.Ve

namespace Go.Ve
open Go
inductive NM where
 |s
 |p (i:Nat)
 |r
 |q (k off:Nat)
structure Nst where
 id:Nat
 id2:Nat
 t:Ty
 xs:List (List t.El)
 j:Nat
 ys:List t.El
 m:NM
inductive T where
 |p (d:V)
 |ow (id k:Nat) (es:List V)
 |oe (id k:Nat) (es:List V) (i off:Nat)
 |lp (s off:Nat)
 |mp (id:Nat) (es:List MapEntry) (ck:Nat)
 |ot (id:Nat) (t:Ty) (xs:List t.El)
 |oet (id:Nat) (t:Ty) (xs:List t.El) (i off:Nat)
 |ov (id:Nat) (t:Ty) (xs:List t.El) (lo hi:Nat)
 |on (n:Nst)
 |emp
 |dead
inductive Site where
 |v (s:Nat)
 |o (id:Nat)
structure Lay where
 vb:Nat→Nat
 ob:Nat→Nat
def Lay.blk (β:Lay):Site→Nat
 | .v s=>β.vb s
 | .o id=>β.ob id
def zW (w:World) (F:Blk→Prop) (b k cap:Nat) (es:List V):Prop:=
 ∃ (c:Array Value) (et:TypeId),w.heap[b]? =some (.cells c et (0,0))∧c.size=cap*k∧es.length≤cap∧
  (∀e,e∈es→e.cells.length=k)∧
  ∀ (i j:Nat) (e d:V) (x:Value),es[i]? =some e→e.cells[j]? =some d→c[i*k+j]? =some x→Rd w F x d
def zJS (w:World) (F:Blk→Prop) (β:Lay) (al:Site→Prop) (v:Value) (id k:Nat) (es:List V):Prop:=
 (es=[]∧ ∃a:Option Addr,v= .slice a 0 0)∨
  (es≠[]∧al (.o id)∧ ∃cap,v= .slice (some ⟨β.ob id,0,none⟩) es.length cap∧zW w F (β.ob id) k cap es)
def NM.Rel (b b2 cap cap2 len len2 z:Nat) (v:Value):NM→Prop
 | .s=>(len=0∧ ∃a:Option Addr,v= .slice a 0 0)∨v= .slice (some ⟨b,0,none⟩) len cap
 | .p i=>i<len∧v= .pointer (some ⟨b,i,none⟩)
 | .r=>v= .slice (some ⟨b2,0,none⟩) len2 cap2
 | .q k off=>k<len2∧v= .pointer (some ⟨b2,k*z+off,none⟩)
def zHL (w:World) (F:Blk→Prop) (β:Lay) (al:Site→Prop) (v:Value) (n:Nst):Prop:=
 al (.o n.id)∧al (.o n.id2)∧ ∃ (c:Array Value) (et:TypeId) (cap2:Nat),
  w.heap[β.ob n.id]? =some (.cells c et (0,0))∧n.xs.length≤c.size∧
  (∀i x u,i≠n.j→n.xs[i]? =some x→c[i]? =some u→Rd w F u (.tl n.t x))∧
  c[n.j]? =some (.slice (some ⟨β.ob n.id2,0,none⟩) n.ys.length cap2)∧zW w F (β.ob n.id2) n.t.size cap2 (n.ys.map n.t.enc)∧
  n.m.Rel (β.ob n.id) (β.ob n.id2) c.size cap2 n.xs.length n.ys.length n.t.size v
def zE (w:World) (F:Blk→Prop) (β:Lay) (al:Site→Prop) (v:Value):T→Prop
 | .p d=>Rd w F v d
 | .ow id k es=>al (.o id)∧ ∃cap,v= .slice (some ⟨β.ob id,0,none⟩) es.length cap∧zW w F (β.ob id) k cap es
 | .oe id k es i off=>al (.o id)∧i<es.length∧ ∃cap,v= .pointer (some ⟨β.ob id,i*k+off,none⟩)∧zW w F (β.ob id) k cap es
 | .lp s off=>al (.v s)∧v= .pointer (some ⟨β.vb s,off,none⟩)
 | .mp id es ck=>al (.o id)∧v= .map (some (β.ob id))∧w.heap[β.ob id]? =some (.map es.toArray ck)
 | .ot id t xs=>zJS w F β al v id t.size (xs.map t.enc)
 | .oet id t xs i off=>al (.o id)∧i<xs.length∧ ∃cap,v= .pointer (some ⟨β.ob id,i*t.size+off,none⟩)∧zW w F (β.ob id) t.size cap (xs.map t.enc)
 | .ov id t xs lo hi=>(xs=[]∧lo=0∧hi=0∧ ∃a:Option Addr,v= .slice a 0 0)∨
   (xs≠[]∧al (.o id)∧lo≤hi∧hi≤xs.length∧ ∃cap,v= .slice (some ⟨β.ob id,if cap=lo then 0 else lo*t.size,none⟩) (hi-lo) (cap-lo)∧zW w F (β.ob id) t.size cap (xs.map t.enc))
 | .on n=>zHL w F β al v n
 | .emp=> ∃a:Option Addr,v= .slice a 0 0
 | .dead=>True
def T.un:T→T
 | .p (.tl t xs)=> .p (.sl (xs.map t.enc))
 | .ot id t xs=>match xs.map t.enc with
  |[]=> .emp
  |e::es=> .ow id t.size (e::es)
 | .oet id t xs i off=> .oe id t.size (xs.map t.enc) i off
 |x=>x
theorem yG {w:World} {F:Blk→Prop} {β:Lay} {al:Site→Prop} {v:Value} {x:T} :zE w F β al v x↔zE w F β al v x.un:=by
 cases x with
 |p d=>
  cases d with
  |tl t xs=>exact ⟨fun h=>Rd.untl h,fun h=> .tl t xs v h⟩
  |_=>exact Iff.rfl
 |ot id t xs=>
  simp only [zE,T.un,zJS]
  cases hxs:xs.map t.enc with
  |nil=>simp
  |cons e es=>simp
 |oet id t xs i off=>simp [zE,T.un]
 |_=>exact Iff.rfl
def z7 (w:World) (F:Blk→Prop) (β:Lay) (al:Site→Prop) (b:Nat) (cs:List T):Prop:=
 ∃ (c:Array Value) (et:TypeId),w.heap[b]? =some (.cells c et (0,0))∧c.size=cs.length∧
  ∀ (i:Nat) (x:Value) (d:T),c[i]? =some x→cs[i]? =some d→zE w F β al x d
structure Ext (w:World) (F:Blk→Prop) (β:Lay) (al:Site→Prop) (w':World) (F':Blk→Prop) (β':Lay) (al':Site→Prop):Prop where
 f: ∀b,F b→F' b
 hf: ∀b:Nat,F b→w'.heap[b]? =w.heap[b]?
 a: ∀x,al x→al' x
 b: ∀x,al x→β'.blk x=β.blk x
 ha: ∀x,al x→w'.heap[β.blk x]? =w.heap[β.blk x]?
section
variable {w w' w'':World} {F F' F'':Blk→Prop} {β β' β'':Lay} {al al' al'':Site→Prop}
theorem Ext.refl:Ext w F β al w F β al:=⟨fun _ h=>h,fun _ _=>rfl,fun _ h=>h,fun _ _=>rfl,fun _ _=>rfl⟩
theorem Rd.ext (h:Ext w F β al w' F' β' al') {v:Value} {d:V} (hr:Rd w F v d):Rd w' F' v d:=hr.mono h.f h.hf
theorem zW.mono {b k cap:Nat} {es:List V} (hr:zW w F b k cap es) (hF: ∀b,F b→F' b) (hw: ∀b:Nat,F b→w'.heap[b]? =w.heap[b]?)
  (hb:w'.heap[b]? =w.heap[b]?):zW w' F' b k cap es:=by
 obtain ⟨c,et,h1,h2,h3,h4,h5⟩:=hr
 exact ⟨c,et,hb.trans h1,h2,h3,h4,fun i j e d x a1 a2 a3=>(h5 i j e d x a1 a2 a3).mono hF hw⟩
theorem zHL.mono {v:Value} {n:Nst} (hr:zHL w F β al v n) (hF: ∀b,F b→F' b) (hw: ∀b:Nat,F b→w'.heap[b]? =w.heap[b]?)
  (h1:al' (.o n.id)) (h2:al' (.o n.id2)) (b1:β'.ob n.id=β.ob n.id) (b2:β'.ob n.id2=β.ob n.id2)
  (g1:w'.heap[β.ob n.id]? =w.heap[β.ob n.id]?) (g2:w'.heap[β.ob n.id2]? =w.heap[β.ob n.id2]?):zHL w' F' β' al' v n:=by
 obtain ⟨_,_,c,et,cap2,k1,k2,k5,k6,k7,k8⟩:=hr
 refine ⟨h1,h2,c,et,cap2,?_,k2,fun i x u a1 a2 a3=>(k5 i x u a1 a2 a3).mono hF hw,?_,?_,?_⟩
 ·rw [b1];exact g1.trans k1
 ·rw [b2];exact k6
 ·rw [b2];exact k7.mono hF hw g2
 ·rw [b1,b2];exact k8
theorem zHL.shape {v:Value} {n:Nst} (hr:zHL w F β al v n):(∃a l k,v= .slice a l k)∨ ∃a,v= .pointer a:=by
 obtain ⟨_,_,c,et,cap2,k1,k2,k5,k6,k7,k8⟩:=hr
 cases hm:n.m<;>rw [hm] at k8
 ·rcases k8 with ⟨_,a,k8⟩|k8<;>exact .inl ⟨_,_,_,k8⟩
 ·exact .inr ⟨_,k8.2⟩
 ·exact .inl ⟨_,_,_,k8⟩
 ·exact .inr ⟨_,k8.2⟩
theorem zE.ext (h:Ext w F β al w' F' β' al') {v:Value} {x:T} (hr:zE w F β al v x):zE w' F' β' al' v x:=by
 cases x with
 |p d=>exact Rd.ext h hr
 |ow id k es=>
  obtain ⟨ha,cap,hv,hrow⟩:=hr
  have hb:β'.ob id=β.ob id:=h.b (.o id) ha
  refine ⟨h.a _ ha,cap,by rw [hb];exact hv,?_⟩
  rw [hb];exact hrow.mono h.f h.hf (h.ha (.o id) ha)
 |oe id k es i off=>
  obtain ⟨ha,hi,cap,hv,hrow⟩:=hr
  have hb:β'.ob id=β.ob id:=h.b (.o id) ha
  refine ⟨h.a _ ha,hi,cap,by rw [hb];exact hv,?_⟩
  rw [hb];exact hrow.mono h.f h.hf (h.ha (.o id) ha)
 |lp s off=>
  obtain ⟨ha,hv⟩:=hr
  have hb:β'.vb s=β.vb s:=h.b (.v s) ha
  exact ⟨h.a _ ha,by rw [hb];exact hv⟩
 |mp id es ck=>
  obtain ⟨ha,hv,hm⟩:=hr
  have hb:β'.ob id=β.ob id:=h.b (.o id) ha
  exact ⟨h.a _ ha,by rw [hb];exact hv,by rw [hb];exact (h.ha (.o id) ha).trans hm⟩
 |ot id t xs=>
  rcases hr with hr|⟨hne,ha,cap,hv,hrow⟩
  ·exact .inl hr
  ·have hb:β'.ob id=β.ob id:=h.b (.o id) ha
   refine .inr ⟨hne,h.a _ ha,cap,by rw [hb];exact hv,?_⟩
   rw [hb];exact hrow.mono h.f h.hf (h.ha (.o id) ha)
 |oet id t xs i off=>
  obtain ⟨ha,hi,cap,hv,hrow⟩:=hr
  have hb:β'.ob id=β.ob id:=h.b (.o id) ha
  refine ⟨h.a _ ha,hi,cap,by rw [hb];exact hv,?_⟩
  rw [hb];exact hrow.mono h.f h.hf (h.ha (.o id) ha)
 |ov id t xs lo hi=>
  rcases hr with hr|⟨hne,ha,h1,h2,cap,hv,hrow⟩
  ·exact .inl hr
  ·have hb:β'.ob id=β.ob id:=h.b (.o id) ha
   refine .inr ⟨hne,h.a _ ha,h1,h2,cap,by rw [hb];exact hv,?_⟩
   rw [hb];exact hrow.mono h.f h.hf (h.ha (.o id) ha)
 |on n=>exact zHL.mono hr h.f h.hf (h.a _ hr.1) (h.a _ hr.2.1) (h.b (.o n.id) hr.1) (h.b (.o n.id2) hr.2.1) (h.ha (.o n.id) hr.1) (h.ha (.o n.id2) hr.2.1)
 |emp=>exact hr
 |dead=>trivial
theorem z7.ext (h:Ext w F β al w' F' β' al') {b:Nat} {cs:List T} (hb:w'.heap[b]? =w.heap[b]?) (hr:z7 w F β al b cs):z7 w' F' β' al' b cs:=by
 obtain ⟨c,et,h1,h2,h3⟩:=hr
 exact ⟨c,et,hb.trans h1,h2,fun i x d a1 a2=>(h3 i x d a1 a2).ext h⟩
end
structure Sig where
 St:Type
 R:St→(Blk→Prop)→(Nat→Prop)→World→Prop
 mono: ∀ {s:St} {F F':Blk→Prop} {O:Nat→Prop} {w w':World},R s F O w→(∀id a n c,F' (.h id a n c)↔F (.h id a n c))→(∀b,O b→w'.heap[b]? =w.heap[b]?)→R s F' O w'
 inb: ∀ {s:St} {F:Blk→Prop} {O:Nat→Prop} {w:World},R s F O w→ ∀b,O b→b<w.heap.size
def zAl:Sig where
 St:=Unit
 R:=fun _ _ O _=> ∀b, ¬O b
 mono:=fun h _ _=>h
 inb:=fun h b hb=>absurd hb (h b)
structure zBx (O:Nat→Prop) (w w':World):Prop where
 os:w'.os=w.os
 tape:w'.tape=w.tape
 output:w'.output=w.output
 size:w.heap.size≤w'.heap.size
 block: ∀b,b<w.heap.size→ ¬O b→w'.heap[b]? =w.heap[b]?
 drawn:w.drawn≤w'.drawn
theorem zBx.refl (O:Nat→Prop) (w:World):zBx O w w:=⟨rfl,rfl,rfl,Nat.le_refl _,fun _ _ _=>rfl,Nat.le_refl _⟩
inductive RV where
 |p (d:V)
 |own (es:List V)
 |ownT (t:Ty) (xs:List t.El)
def zOz (N:Nat) (w:World) (F:Blk→Prop) (O:Nat→Prop) (v:Value) (es:List V):Prop:=
 (es=[]∧ ∃a:Option Addr,v= .slice a 0 0)∨
   es≠[]∧ ∃b cap,v= .slice (some ⟨b,0,none⟩) es.length cap∧N≤b∧b<w.heap.size∧ ¬F b∧ ¬O b∧ ∃k,zW w F b k cap es
def uX (N:Nat) (w:World) (F:Blk→Prop) (O:Nat→Prop) (v:Value):RV→Prop
 | .p d=>Rd w F v d
 | .own es=>zOz N w F O v es
 | .ownT t xs=>zOz N w F O v (xs.map t.enc)
def zBH (G:Nat→Option (List V)) (w:World) (F:Blk→Prop):Prop:=
 ∀g cs,G g=some cs→Rd w F (.pointer (some ⟨g,0,none⟩)) (.pp cs)
def kP (Γ:Sig) (P:Program) (G:Nat→Option (List V)) (f:FuncId) (spec:Γ.St→List V→Option (Γ.St×RV)):Prop:=
 ∀ (w:World) (F:Blk→Prop) (O:Nat→Prop) (s:Γ.St) (args:Array Value) (ds:List V) (s':Γ.St) (r:RV),
  Γ.R s F O w→zBH G w F→(∀b:Nat,F b→b<w.heap.size∧ ¬O b)→args.size=ds.length→
  (∀ (i:Nat) (x:Value) (d:V),args[i]? =some x→ds[i]? =some d→Rd w F x d)→
  spec s ds=some (s',r)→
  Calls P f args w fun e w'=> ∃ (v:Value) (F':Blk→Prop) (O':Nat→Prop),e= .returned v∧Γ.R s' F' O' w'∧zBx O w w'∧
   (∀b,O' b→O b∨w.heap.size≤b)∧(∀b,F b→F' b)∧(∀b:Nat,F' b→(F b∨w.heap.size≤b)∧b<w'.heap.size∧ ¬O' b)∧
   uX w.heap.size w' F' O' v r
abbrev qZ (Γ:Sig):=FuncId→Γ.St→List V→Option (Γ.St×RV)
structure Env (St:Type) where
 tm:List T
 vars:List (Option (List T))
 st:St
def Env.get {St:Type} (e:Env St) (t:Nat):T:=e.tm.getD t .dead
def Env.var {St:Type} (e:Env St) (s:Nat):Option (List T):=(e.vars[s]?).getD none
structure kC where
 o:Nat→Prop
 l:Option (Nat×Nat)
def kC.all (O:kC) (b:Nat):Prop:=O.o b∨ ∃n,O.l=some (b,n)
instance:Coe (Nat→Prop) kC:=⟨fun o=>⟨o,none⟩⟩
def qA:Nat:=1000000
def Home (w0:World) (O0:kC) (x:Site) (b:Nat):Prop:=(x≠ .o qA∧w0.heap.size≤b)∨(x= .o qA∧ ∃n,O0.l=some (b,n))
theorem Home.old {w0:World} {O0:kC} {x:Site} {b:Nat} (h:Home w0 O0 x b) (hb:b<w0.heap.size):O0.all b:=by
 rcases h with ⟨_,h⟩|⟨_,h⟩
 ·omega
 ·exact .inr h
theorem Home.v {w0:World} {O0:kC} {s:Nat} {b:Nat} (h:Home w0 O0 (.v s) b):w0.heap.size≤b:=by
 rcases h with ⟨_,h⟩|⟨h,_⟩
 ·exact h
 ·cases h
theorem Home.o {w0:World} {O0:kC} {id:Nat} {b:Nat} (h:Home w0 O0 (.o id) b) (hid:id≠qA):w0.heap.size≤b:=by
 rcases h with ⟨_,h⟩|⟨h,_⟩
 ·exact h
 ·injection h with h;exact absurd h hid
def zLI (w0:World) (O0:kC) (w:World) (F:Blk→Prop) (O:Nat→Prop):Prop:=
 ∀b n,O0.l=some (b,n)→b<w0.heap.size∧ ¬O b∧ ¬F b∧ ∃ (c:Array Value) (et:TypeId) (fl:Nat×Nat),w.heap[b]? =some (.cells c et fl)∧c.size=n
theorem zLI.step {w0:World} {O0:kC} {w w':World} {F F':Blk→Prop} {O O':Nat→Prop} (h:zLI w0 O0 w F O)
  (hs: ∀b n,O0.l=some (b,n)→b<w0.heap.size→ ¬O b→ ¬F b→w'.heap[b]? =w.heap[b]? ∧ ¬O' b∧ ¬F' b):zLI w0 O0 w' F' O':=by
 intro b n hb
 obtain ⟨h1,h2,h3,c,et,fl,h4,h5⟩:=h b n hb
 obtain ⟨g1,g2,g3⟩:=hs b n hb h1 h2 h3
 exact ⟨h1,g2,g3,c,et,fl,g1.trans h4,h5⟩
structure Core (Γ:Sig) (w0:World) (F0:Blk→Prop) (O0:kC) (w:World) (F:Blk→Prop) (O:Nat→Prop) (β:Lay) (al:Site→Prop) (st:Γ.St):Prop where
 keep:zBx O0.all w0 w
 sig:Γ.R st F O w
 oin: ∀b,O b→O0.o b∨w0.heap.size≤b
 fin: ∀b:Nat,F b→(F0 b∨w0.heap.size≤b)∧b<w.heap.size∧ ¬O b
 f0: ∀b,F0 b→F b
 place: ∀x,al x→Home w0 O0 x (β.blk x)∧β.blk x<w.heap.size∧ ¬F (β.blk x)∧ ¬O (β.blk x)
 dist: ∀x y,al x→al y→β.blk x=β.blk y→x=y
 lent:zLI w0 O0 w F O
end Go.Ve

namespace Go.Ve
open Go
def WkV (x y:V):Prop:= ∀ (w:World) (F:Blk→Prop) (v:Value),Rd w F v x→Rd w F v y
def jQ:List V→List V→Prop
 |[],[]=>True
 |x::xs,y::ys=>WkV x y∧jQ xs ys
 |_,_=>False
theorem WkV.refl (x:V):WkV x x:=fun _ _ _ h=>h
theorem jQ.refl: ∀ (l:List V),jQ l l
 |[]=>trivial
 |x::l=>⟨.refl x,jQ.refl l⟩
theorem jQ.get: ∀ {xs ys:List V} (_:jQ xs ys) (i:Nat) (x y:V),xs[i]? =some x→ys[i]? =some y→WkV x y
 |[],[],_,i,x,y,h1,_=>by simp at h1
 |a::xs,b::ys,h,i,x,y,h1,h2=>by
  cases i with
  |zero=>simp at h1 h2;subst h1 h2;exact h.1
  |succ i=>exact jQ.get h.2 i x y (by simpa using h1) (by simpa using h2)
theorem jQ.len: ∀ {xs ys:List V} (_:jQ xs ys),xs.length=ys.length
 |[],[],_=>rfl
 |a::xs,b::ys,h=>by simp [jQ.len h.2]
theorem jQ.append: ∀ {xs ys xs' ys':List V} (_:jQ xs ys) (_:jQ xs' ys'),jQ (xs++xs') (ys++ys')
 |[],[],_,_,_,h=>h
 |a::xs,b::ys,_,_,h,h'=>⟨h.1,jQ.append h.2 h'⟩
theorem WkV.agg {xs ys:List V} (h:jQ xs ys):WkV (.agg xs) (.agg ys):=by
 intro w F v hr
 cases hr with
 |agg cs ds hl h0=>
  refine .agg cs ys (hl.trans h.len) ?_
  intro i x d hi hd
  have hlt:i<xs.length:=by rw [h.len];exact (List.getElem?_eq_some_iff.1 hd).1
  exact h.get i xs[i] d (by simp [hlt]) hd w F x (h0 i x xs[i] hi (by simp [hlt]))
def zEt (k:IntKind):List V→Option (Int×List V)
 | .val (.int k' n)::r=>if k'=k then some (n,r) else none
 |_=>none
def zCi:List V→Option (Bool×List V)
 | .val (.bool b)::r=>some (b,r)
 |_=>none
def zEs:List V→Option (ByteArray×List V)
 | .val (.string s)::r=>some (s,r)
 |_=>none
def zG4 (t:Ty):List V→Option (List t.El×List V)
 | .tl t' xs::r=>if h:t'=t then some (h▸xs,r) else none
 | .val (.slice _ 0 _)::r=>some ([],r)
 | .sl []::r=>some ([],r)
 |_=>none
def zG5:List V→Option (Option (Nat×Nat)×List V)
 | .rf o::r=>some (o,r)
 | .val (.slice none 0 0)::r=>some (none,r)
 |_=>none
def zG6:List V→Option (Nat×List V)
 | .hd o::r=>some (o,r)
 |_=>none
def Ty.uncells:(t:Ty)→List V→Option (t.El×List V)
 | .int k,cs=>zEt k cs
 | .bool,cs=>zCi cs
 | .str,cs=>zEs cs
 | .unit,cs=>some ((),cs)
 | .pair a b,cs=>match a.uncells cs with
  |some (x,r)=>match b.uncells r with
   |some (y,r)=>some ((x,y),r)
   |none=>none
  |none=>none
 | .sl t,cs=>zG4 t cs
 | .rf,cs=>zG5 cs
 | .hd,cs=>zG6 cs
theorem vD: ∀ (t:Ty) (cs:List V) (x:t.El) (r:List V),t.uncells cs=some (x,r)→ ∃cs1,cs=cs1++r∧jQ cs1 (t.cells x):=by
 intro t
 induction t with
 |int k=>
  intro cs x r h
  simp only [Ty.uncells,zEt] at h
  split at h
  ·split at h
   ·rename_i hk
    simp only [Option.some.injEq,Prod.mk.injEq] at h
    obtain ⟨rfl,rfl⟩:=h
    subst hk
    exact ⟨[_],rfl, .refl _,trivial⟩
   ·cases h
  ·cases h
 |bool=>
  intro cs x r h
  simp only [Ty.uncells,zCi] at h
  split at h
  ·simp only [Option.some.injEq,Prod.mk.injEq] at h
   obtain ⟨rfl,rfl⟩:=h
   exact ⟨[_],rfl, .refl _,trivial⟩
  ·cases h
 |str=>
  intro cs x r h
  simp only [Ty.uncells,zEs] at h
  split at h
  ·simp only [Option.some.injEq,Prod.mk.injEq] at h
   obtain ⟨rfl,rfl⟩:=h
   exact ⟨[_],rfl, .refl _,trivial⟩
  ·cases h
 |unit=>
  intro cs x r h
  simp only [Ty.uncells,Option.some.injEq,Prod.mk.injEq] at h
  obtain ⟨_,rfl⟩:=h
  exact ⟨[],rfl,trivial⟩
 |pair a b iha ihb=>
  intro cs x r h
  simp only [Ty.uncells] at h
  split at h
  ·rename_i xa r1 h1
   split at h
   ·rename_i xb r2 h2
    simp only [Option.some.injEq,Prod.mk.injEq] at h
    obtain ⟨rfl,rfl⟩:=h
    obtain ⟨c1,rfl,k1⟩:=iha cs xa r1 h1
    obtain ⟨c2,rfl,k2⟩:=ihb r1 xb r2 h2
    exact ⟨c1++c2,by simp,k1.append k2⟩
   ·cases h
  ·cases h
 |sl t _=>
  intro cs x r h
  simp only [Ty.uncells,zG4] at h
  split at h
  ·split at h
   ·rename_i ht
    subst ht
    simp only [Option.some.injEq,Prod.mk.injEq] at h
    obtain ⟨rfl,rfl⟩:=h
    exact ⟨[_],rfl, .refl _,trivial⟩
   ·cases h
  ·simp only [Option.some.injEq,Prod.mk.injEq] at h
   obtain ⟨rfl,rfl⟩:=h
   refine ⟨[_],rfl,?_,trivial⟩
   intro w F v hr
   rw [Rd.eq_val hr]
   exact .tl t [] _ (.slemp _ _)
  ·simp only [Option.some.injEq,Prod.mk.injEq] at h
   obtain ⟨rfl,rfl⟩:=h
   exact ⟨[_],rfl,fun w F v hr=> .tl t [] v hr,trivial⟩
  ·cases h
 |rf=>
  intro cs x r h
  simp only [Ty.uncells,zG5] at h
  split at h
  ·simp only [Option.some.injEq,Prod.mk.injEq] at h
   obtain ⟨rfl,rfl⟩:=h
   exact ⟨[_],rfl, .refl _,trivial⟩
  ·simp only [Option.some.injEq,Prod.mk.injEq] at h
   obtain ⟨rfl,rfl⟩:=h
   refine ⟨[_],rfl,?_,trivial⟩
   intro w F v hr
   rw [Rd.eq_val hr]
   exact .rfn
  ·cases h
 |hd=>
  intro cs x r h
  simp only [Ty.uncells,zG6] at h
  split at h
  ·simp only [Option.some.injEq,Prod.mk.injEq] at h
   obtain ⟨rfl,rfl⟩:=h
   exact ⟨[_],rfl, .refl _,trivial⟩
  ·cases h
def Ty.dec (t:Ty) (d:V):Option t.El:=
 match t with
 | .pair a b=>match d with
  | .agg cs=>match (Ty.pair a b).uncells cs with
   |some (x,[])=>some x
   |_=>none
  |_=>none
 | .unit=>match d with
  | .agg []=>some ()
  |_=>none
 | .int k=>match zEt k [d] with
  |some (x,_)=>some x
  |none=>none
 | .bool=>match zCi [d] with
  |some (x,_)=>some x
  |none=>none
 | .str=>match zEs [d] with
  |some (x,_)=>some x
  |none=>none
 | .sl t=>match zG4 t [d] with
  |some (x,_)=>some x
  |none=>none
 | .rf=>match zG5 [d] with
  |some (x,_)=>some x
  |none=>none
 | .hd=>match zG6 [d] with
  |some (x,_)=>some x
  |none=>none
theorem yT {t:Ty} {d:V} {x:t.El} (h:t.dec d=some x):WkV d (t.enc x):=by
 have one: ∀ (t:Ty) (x:t.El) (r:List V),t.cells x=[t.enc x]→t.uncells [d]=some (x,r)→WkV d (t.enc x):=by
  intro t x r hc hu
  obtain ⟨c1,h1,h2⟩:=vD t [d] x r hu
  rw [hc] at h2
  have:=h2.len
  match c1,this with
  |[y],_=>
   simp at h1
   rw [←h1.1] at h2
   exact h2.1
 cases t with
 |pair a b=>
  simp only [Ty.dec] at h
  split at h
  ·rename_i cs
   split at h
   ·rename_i x' hx
    simp only [Option.some.injEq] at h
    subst h
    obtain ⟨c1,h1,h2⟩:=vD (.pair a b) cs x' [] hx
    simp only [List.append_nil] at h1
    subst h1
    exact WkV.agg h2
   ·cases h
  ·cases h
 |unit=>
  simp only [Ty.dec] at h
  split at h
  ·exact .refl _
  ·cases h
 |int k=>
  simp only [Ty.dec] at h
  split at h
  ·rename_i y r hy;simp only [Option.some.injEq] at h;subst h;exact one (.int k) y r rfl hy
  ·cases h
 |bool=>
  simp only [Ty.dec] at h
  split at h
  ·rename_i y r hy;simp only [Option.some.injEq] at h;subst h;exact one .bool y r rfl hy
  ·cases h
 |str=>
  simp only [Ty.dec] at h
  split at h
  ·rename_i y r hy;simp only [Option.some.injEq] at h;subst h;exact one .str y r rfl hy
  ·cases h
 |sl t=>
  simp only [Ty.dec] at h
  split at h
  ·rename_i y r hy;simp only [Option.some.injEq] at h;subst h;exact one (.sl t) y r rfl hy
  ·cases h
 |rf=>
  simp only [Ty.dec] at h
  split at h
  ·rename_i y r hy;simp only [Option.some.injEq] at h;subst h;exact one .rf y r rfl hy
  ·cases h
 |hd=>
  simp only [Ty.dec] at h
  split at h
  ·rename_i y r hy;simp only [Option.some.injEq] at h;subst h;exact one .hd y r rfl hy
  ·cases h
def Ty.decs (t:Ty):List V→Option (List t.El)
 |[]=>some []
 |d::ds=>match t.dec d with
  |some x=>match t.decs ds with
   |some xs=>some (x::xs)
   |none=>none
  |none=>none
theorem zW.weak {w:World} {F:Blk→Prop} {b k cap:Nat} {es es':List V} (h:zW w F b k cap es) (hl:es.length=es'.length) (hk: ∀e,e∈es'→e.cells.length=k)
  (hw: ∀ (i:Nat) (x y:V),es[i]? =some x→es'[i]? =some y→jQ x.cells y.cells):zW w F b k cap es':=by
 obtain ⟨c,et,h1,h2,h3,h4,h5⟩:=h
 refine ⟨c,et,h1,h2,by omega,hk,?_⟩
 intro i j y d x hi hj hx
 have hlt:i<es.length:=by rw [hl];exact (List.getElem?_eq_some_iff.1 hi).1
 have hws:=hw i es[i] y (by simp [hlt]) hi
 have hlt2:j<es[i].cells.length:=by rw [hws.len];exact (List.getElem?_eq_some_iff.1 hj).1
 exact hws.get j _ d (by simp [hlt2]) hj w F x (h5 i j es[i] es[i].cells[j] x (by simp [hlt]) (by simp [hlt2]) hx)
def zS9 (es es':List V):Prop:=es.length=es'.length∧ ∀ (i:Nat) (x y:V),es[i]? =some x→es'[i]? =some y→jQ x.cells y.cells
theorem zHF {t:Ty} {d:V} {x:t.El} (h:t.dec d=some x):jQ d.cells (t.enc x).cells:=by
 have one: ∀ (t:Ty) (x:t.El) (r:List V),t.cells x=[t.enc x]→t.uncells [d]=some (x,r)→(∀cs,d≠ .agg cs)→jQ d.cells (t.enc x).cells:=by
  intro t x r hc hu hd
  obtain ⟨c1,h1,h2⟩:=vD t [d] x r hu
  rw [wG]
  have hl:=h2.len
  rw [hc] at hl
  match c1,hl with
  |[y],_=>
   simp at h1
   rw [←h1.1] at h2
   have:d.cells=[d]:=by cases d<;>first|rfl|exact absurd rfl (hd _)
   rw [this];exact h2
 cases t with
 |pair a b=>
  simp only [Ty.dec] at h
  split at h
  ·rename_i cs
   split at h
   ·rename_i x' hx
    simp only [Option.some.injEq] at h
    subst h
    obtain ⟨c1,h1,h2⟩:=vD (.pair a b) cs x' [] hx
    simp only [List.append_nil] at h1
    subst h1
    rw [wG]
    exact h2
   ·cases h
  ·cases h
 |unit=>
  simp only [Ty.dec] at h
  split at h
  ·exact .refl _
  ·cases h
 |int k=>
  simp only [Ty.dec] at h
  split at h
  ·rename_i y r hy
   simp only [Option.some.injEq] at h;subst h
   refine one (.int k) y r rfl hy ?_
   rintro cs rfl
   simp [zEt] at hy
  ·cases h
 |bool=>
  simp only [Ty.dec] at h
  split at h
  ·rename_i y r hy
   simp only [Option.some.injEq] at h;subst h
   refine one .bool y r rfl hy ?_
   rintro cs rfl
   simp [zCi] at hy
  ·cases h
 |str=>
  simp only [Ty.dec] at h
  split at h
  ·rename_i y r hy
   simp only [Option.some.injEq] at h;subst h
   refine one .str y r rfl hy ?_
   rintro cs rfl
   simp [zEs] at hy
  ·cases h
 |sl t=>
  simp only [Ty.dec] at h
  split at h
  ·rename_i y r hy
   simp only [Option.some.injEq] at h;subst h
   refine one (.sl t) y r rfl hy ?_
   rintro cs rfl
   simp [zG4] at hy
  ·cases h
 |rf=>
  simp only [Ty.dec] at h
  split at h
  ·rename_i y r hy
   simp only [Option.some.injEq] at h;subst h
   refine one .rf y r rfl hy ?_
   rintro cs rfl
   simp [zG5] at hy
  ·cases h
 |hd=>
  simp only [Ty.dec] at h
  split at h
  ·rename_i y r hy
   simp only [Option.some.injEq] at h;subst h
   refine one .hd y r rfl hy ?_
   rintro cs rfl
   simp [zG6] at hy
  ·cases h
theorem zJE {t:Ty} : ∀ {ds:List V} {xs:List t.El},t.decs ds=some xs→zS9 ds (xs.map t.enc)
 |[],xs,h=>by simp [Ty.decs] at h;subst h;exact ⟨rfl,fun i x y h=>by simp at h⟩
 |d::ds,xs,h=>by
  simp only [Ty.decs] at h
  split at h
  ·rename_i x hx
   split at h
   ·rename_i ys hys
    simp only [Option.some.injEq] at h
    subst h
    obtain ⟨h1,h2⟩:=zJE hys
    refine ⟨by simpa using h1,?_⟩
    intro i p q hp hq
    cases i with
    |zero=>simp at hp hq;subst hp hq;exact zHF hx
    |succ i=>exact h2 i p q (by simpa using hp) (by simpa using hq)
   ·cases h
  ·cases h
theorem zW.typed {w:World} {F:Blk→Prop} {b k cap:Nat} {es:List V} {t:Ty} {xs:List t.El} (h:zW w F b k cap es) (hk:t.size=k) (hw:zS9 es (xs.map t.enc)):
  zW w F b k cap (xs.map t.enc):=by
 refine h.weak hw.1 ?_ hw.2
 intro q hq
 simp only [List.mem_map] at hq
 obtain ⟨z,_,rfl⟩:=hq
 rw [jU];exact hk
end Go.Ve

namespace Go.Ve
open Go
inductive R (St:Type) where
 |ret (x:T)
 |var (cs:List T)
 |own (k:Nat) (es:List V)
 |frz (es:List V)
 |call (st:St) (view:Bool) (r:RV)
 |mk
 |frzT (t:Ty) (xs:List t.El)
 |ownT (t:Ty) (xs:List t.El)
def lookIn (xType:TypeId) (es:List MapEntry) (index:Value) (commaOk:Bool):Sem Value:=do
 let .map key elem ← underlying xType | stuck "Lookup: map type expected"
 Instr.checkKey es.isEmpty 10000 key index
 let (v,ok) ←match←Instr.findKey key index es with
  |some (_,v)=>pure (v,true)
  |none=>pure (←zeroValue elem,false)
 pure (if commaOk then .tuple #[v, .bool ok] else v)
def zTh (mapType:TypeId) (es:List MapEntry) (ck:Nat) (key value:Value):Sem (List MapEntry×Nat):=do
 let .map keyType _ ← underlying mapType | stuck "MapUpdate: map type expected"
 Instr.checkKey false 10000 keyType key
 match←Instr.findKey keyType key es with
 |some (i,_)=>do
  let key←Instr.keyThatStays (((es[i]?).map (·.key)).getD key) key
  pure (es.modify i (fun e=> { e with key,val:=value }),ck)
 |none=>pure (es++[{ key,val:=value,born:=ck }],ck+1)
def zAI (P:qK) (t:TypeId):Option Bool:=
 match P.und t with
 |some (.struct _)=>some true
 |some (.array _ _)=>some true
 |some _=>some false
 |none=>none
def z9 (P:qK) (t:TypeId):Option Nat:=(P.inf t).map (·.size)
def ldV (P:qK) (t:TypeId) (cs:List V):Option V:=
 match zAI P t with
 |some true=>match z9 P t with
  |some n=>if n≤cs.length then some (.agg (cs.take n)) else none
  |none=>none
 |some false=>cs.head?
 |none=>none
def wC:List T→Option (List V)
 |[]=>some []
 | .p d::r=>(wC r).map (d:: ·)
 |_=>none
def ldT (P:qK) (t:TypeId) (cs:List T):Option T:=
 match zAI P t with
 |some true=>match z9 P t with
  |some n=>if n≤cs.length then (wC (cs.take n)).map (fun ds=> .p (.agg ds)) else none
  |none=>none
 |some false=>cs.head?
 |none=>none
def zMn (P:qK) (t:TypeId) (cs:List V) (off:Nat):Option V:=
 match zAI P t with
 |some true=>match z9 P t with
  |some n=>some (.agg ((cs.drop off).take n))
  |none=>none
 |some false=>cs[off]?
 |none=>none
def zEJ (P:qK) (t:TypeId) (i:Nat):Option Field:=
 match P.und t with
 |some (.struct fs)=>fs[i]?
 |_=>none
def V.leafy:V→Bool
 | .val (.agg _)=>false
 |_=>true
def zJq (place:Nat→Option (Nat×Nat)) (cells:List V):List (Nat×V)→Option (List V)
 |[]=>some cells
 |(i,v)::rest=>
  match place i with
  |none=>none
  |some (off,size)=>
   if v.leafy=false∨v.cells.length≠size∨off+v.cells.length>cells.length then none
   else zJq place (v.cells.zipIdx.foldl (fun cs (c,j)=>cs.set (off+j) c) cells) rest
section
variable {St:Type} (P:qK) (G:Nat→Option (List V)) (S:FuncId→St→List V→Option (St×RV)) (e:Env St)
def evx:Operand→T
 | .tmp t=>e.get t
 | .const v=> .p (V.ofVal v)
 | .global g=>match G g with
  |some cs=> .p (.pp cs)
  |none=> .p (.val (.pointer (some ⟨g,0,none⟩)))
 | .func f=> .p (.clo f [])
def wB:T→Option Value
 | .p d=>d.toVal
 |_=>none
def vY (o:Oper):Option (R St):=
 if o.op.operands.toList.all (fun x=>(wB (evx G e x)).isSome) then
  match zX P.P (execOp (fun x=>(wB (evx G e x)).getD undef) o) with
  |some (.value v)=>some (.ret (.p (V.ofVal v)))
  |_=>none
 else none
def zCE:T→Option V
 | .p d=>some d
 | .emp=>some (.sl [])
 | .ow _ _ es=>some (.sl es)
 | .ot _ t xs=>some (.tl t xs)
 | .lp s off=>match e.var s with
  |some cs=>(wC (cs.drop off)).map .pp
  |none=>none
 |_=>none
def T.isView:T→Bool
 | .ow _ _ _| .lp _ _| .ot _ _ _=>true
 |_=>false
def Ty.flat:Ty→Bool
 | .sl _=>false
 | .rf=>false
 | .hd=>false
 | .pair a b=>a.flat&&b.flat
 |_=>true
def RV.plain:RV→Bool
 | .p d=>d.toVal.isSome
 | .own es=>es.all (fun d=>d.toVal1.isSome)
 | .ownT t _=>t.flat
def zGN:List Operand→Option (List V)
 |[]=>some []
 |x::r=>match zCE e (evx G e x),zGN r with
  |some d,some ds=>some (d::ds)
  |_,_=>none
def vU:List Operand→Option (List V)
 |[]=>some []
 |x::r=>match evx G e x,vU r with
  | .p d,some ds=>some (d::ds)
  |_,_=>none
def vT:List (Nat×Operand)→Option (List (Nat×V))
 |[]=>some []
 |(i,x)::r=>match evx G e x,vT r with
  | .p d,some ds=>some ((i,d)::ds)
  |_,_=>none
def zIv (t:TypeId) (cs:List V) (i:Nat):Option (R St):=
 match zEJ P t i with
 |some f=>(zMn P f.type cs f.offset).map (fun d=> .ret (.p d))
 |none=>none
def zC5 (t:TypeId):T→Option (R St)
 | .p (.pp cs)=>(ldV P t cs).map (fun d=> .ret (.p d))
 | .lp s off=>match e.var s with
  |some cs=>(ldT P t (cs.drop off)).map .ret
  |none=>none
 | .oe _ _ es i off=>match es[i]? with
  |some d=>(ldV P t (d.cells.drop off)).map (fun d=> .ret (.p d))
  |none=>none
 |_=>none
def zIu (t:TypeId):Nst→Option (R St)
 |⟨id,id2,ty,xs,j,ys,m⟩=>match m with
  | .p i=>if i=j∧zAI P t=some false then some (.ret (.on ⟨id,id2,ty,xs,j,ys, .r⟩)) else none
  |_=>none
def zC6 (t:TypeId):T→Option (R St)
 | .on n=>zIu P t n
 | .oet _ ty xs i off=>match xs[i]? with
  |some x=>(ldV P t ((ty.cells x).drop off)).map (fun d=> .ret (.p d))
  |none=>none
 |x=>zC5 P e t x
def uK (t:TypeId) (i:Nat) (x:T):Option (R St):=
 match zEJ P t i with
 |some f=>match z9 P f.type with
  |some (_+1)=>match x with
   | .p (.pp cs)=>some (.ret (.p (.pp (cs.drop f.offset))))
   | .lp s off=>some (.ret (.lp s (off+f.offset)))
   | .oe id k es i off=>some (.ret (.oe id k es i (off+f.offset)))
   |_=>none
  |_=>none
 |none=>none
def zC7 (t:TypeId) (i:Nat):Nst→Option (R St)
 |⟨id,id2,ty,xs,j,ys,m⟩=>match m with
  | .q k off=>match zEJ P t i with
   |some f=>match z9 P f.type with
    |some (_+1)=>some (.ret (.on ⟨id,id2,ty,xs,j,ys, .q k (off+f.offset)⟩))
    |_=>none
   |none=>none
  |_=>none
def yS (t:TypeId) (i:Nat) (x:T):Option (R St):=
 match x with
 | .on n=>zC7 P t i n
 | .oet id ty xs j off=>match zEJ P t i with
  |some f=>match z9 P f.type with
   |some (_+1)=>some (.ret (.oet id ty xs j (off+f.offset)))
   |_=>none
  |none=>none
 |x=>uK P t i x
def vB (t:TypeId) (x:T) (i:Int):Option (R St):=
 if 0≤i then
  match P.und t,x with
  |some (.slice el), .p (.sl es)=>match es[i.toNat]? with
   |some d=>if z9 P el=some d.cells.length then some (.ret (.p (.pp d.cells))) else none
   |none=>none
  |some (.slice el), .ow id k es=>if i.toNat<es.length∧z9 P el=some k then some (.ret (.oe id k es i.toNat 0)) else none
  |some (.array n el), .p (.pp cs)=>match z9 P el with
   |some z=>if i<n then some (.ret (.p (.pp (cs.drop (i.toNat*z))))) else none
   |none=>none
  |some (.array n el), .lp s off=>match z9 P el with
   |some z=>if i<n then some (.ret (.lp s (off+i.toNat*z))) else none
   |none=>none
  |some (.array n el), .oe id k es j off=>match z9 P el with
   |some z=>if i<n then some (.ret (.oe id k es j (off+i.toNat*z))) else none
   |none=>none
  |_,_=>none
 else none
def xN (t:TypeId) (i:Int):Nst→Option (R St)
 |⟨id,id2,ty,xs,j,ys,m⟩=>if 0≤i then
   match P.und t with
   |some (.slice el)=>match m with
    | .s=>if z9 P el=some 1∧i.toNat<xs.length then some (.ret (.on ⟨id,id2,ty,xs,j,ys, .p i.toNat⟩)) else none
    | .r=>if z9 P el=some ty.size∧i.toNat<ys.length then some (.ret (.on ⟨id,id2,ty,xs,j,ys, .q i.toNat 0⟩)) else none
    |_=>none
   |_=>none
  else none
def vC (t:TypeId) (x:T) (i:Int):Option (R St):=
 match x with
 | .on n=>xN P t i n
 | .p (.tl ty xs)=>if 0≤i then
   match P.und t with
   |some (.slice el)=>if z9 P el=some ty.size then
     match xs[i.toNat]? with
     |some x=>some (.ret (.p (.pp (ty.cells x))))
     |none=>none
    else none
   |_=>none
  else none
 | .ot id ty xs=>if 0≤i then
   match P.und t with
   |some (.slice el)=>if z9 P el=some ty.size then
     if i.toNat<xs.length then some (.ret (.oet id ty xs i.toNat 0)) else none
    else none
   |_=>none
  else none
 | .oet id ty xs j off=>if 0≤i then
   match P.und t with
   |some (.array n el)=>match z9 P el with
    |some z=>if i<n then some (.ret (.oet id ty xs j (off+i.toNat*z))) else none
    |none=>none
   |_=>none
  else none
 |x=>vB P t x i
def v8 (d:Option T) (dflt top:Nat):Option Nat:=
 match d with
 |none=>some dflt
 |some (.p (.val (.int _ i)))=>if 0≤i∧i≤top then some i.toNat else none
 |_=>none
def zEL (t:TypeId) (es:List V) (lo hi mx:Option T):Option (R St):=
 match P.und t with
 |some (.slice el)=>
  match mx with
  |none=>match v8 hi es.length es.length with
   |some h=>match v8 lo 0 h with
    |some l=>match z9 P el with
     |some z=>match es[l]? with
      |some d=>if d.cells.length=z then some (.ret (.p (.sl ((es.take h).drop l)))) else none
      |none=>some (.ret (.p (.sl [])))
     |none=>none
    |none=>none
   |none=>none
  |some (.p (.val (.int _ 0)))=>match hi,lo with
   |some (.p (.val (.int _ 0))),none=>match z9 P el with
    |some _=>some (.ret .emp)
    |none=>none
   |_,_=>none
  |_=>none
 |_=>none
def zCy (t:TypeId) (ty:Ty) (xs:List ty.El) (lo hi mx:Option T):Option (R St):=
 match P.und t with
 |some (.slice el)=>if z9 P el=some ty.size then
   match mx with
   |none=>match v8 hi xs.length xs.length with
    |some h=>match v8 lo 0 h with
     |some l=>some (.ret (.p (.tl ty ((xs.take h).drop l))))
     |none=>none
    |none=>none
   |some _=>none
  else none
 |_=>none
def zQU (o:Option (Nat×Nat)):Nat:=
 match o with
 |none=>0
 |some q=>q.2
def zMN (x:T):Option (R St):=
 match x with
 | .p (.tl _ xs)=>some (.ret (.p (.val (.int .i64 xs.length))))
 | .ot _ _ xs=>some (.ret (.p (.val (.int .i64 xs.length))))
 | .p (.sl es)=>some (.ret (.p (.val (.int .i64 es.length))))
 | .ow _ _ es=>some (.ret (.p (.val (.int .i64 es.length))))
 | .emp=>some (.ret (.p (.val (.int .i64 0))))
 | .p (.rf o)=>some (.ret (.p (.val (.int .i64 (zQU o)))))
 |_=>none
def zGF (t:TypeId) (parts:List (Nat×V)):Option (R St):=
 match (P.inf t).bind (·.zero) with
 |some z=>match P.und t with
  |some (.struct fs)=>if fs.toList.all (fun f=>(z9 P f.type).isSome) then (zJq ((fs.map fun f=>(f.offset,(z9 P f.type).getD 0))[·]?) (V.ofVal1 z).cells parts).map (fun cs=> .ret (.p (.agg cs))) else none
  |some (.array _ el)=>match z9 P el with
   |some n=>(zJq (fun i=>some (i*n,n)) (V.ofVal1 z).cells parts).map (fun cs=> .ret (.p (.agg cs)))
   |none=>none
  |_=>none
 |none=>none
def V.noAgg:V→Bool
 | .agg _=>false
 |_=>true
def j8 (ag:Bool) (k:Nat):Nat→List V→List V
 |0,_=>[]
 |n+1,flat=>(if ag then .agg (flat.take k) else (flat.head?).getD (.val undef))::j8 ag k n (flat.drop k)
def xO (t:TypeId) (len:Nat) (parts:List (Nat×V)):Option (R St):=
 match P.und t with
 |some (.slice el)=>match P.inf el with
  |some info=>match info.zero,zAI P el with
   |some z,some ag=>
    if len*info.size≤16777216∧(V.ofVal1 z).cells.length=info.size∧info.size≠0∧(ag=false→info.size=1) then
     match zJq (fun i=>some (i*info.size,info.size)) ((List.range (len*info.size)).map (fun i=>((V.ofVal1 z).cells[i%info.size]?).getD (.val undef))) parts with
     |some flat=>if ag||flat.all V.noAgg then (if len=0 then some (.own info.size []) else match P.ty el with
       |some ty=>if ty.size=info.size then match ty.decs (j8 ag info.size len flat) with
        |some xs=>some (.frzT ty xs)
        |none=>some (.frz (j8 ag info.size len flat))
        else some (.frz (j8 ag info.size len flat))
       |none=>some (.frz (j8 ag info.size len flat))) else none
     |none=>none
    else none
   |_,_=>none
  |none=>none
 |_=>none
def yR (t:TypeId) (n:Int):Option (R St):=
 match P.und t with
 |some (.slice el)=>match P.inf el with
  |some info=>match info.zero with
   |some z=>
    if 0≤n∧n*info.bytes≤140737488355328∧1≤info.bytes∧(V.ofVal1 z).cells.length=info.size∧info.size≠0 then
     match P.ty el with
     |some ty=>match ty.dec (V.ofVal1 z) with
      |some x=>if ty.size=info.size then some (.ownT ty (List.replicate n.toNat x)) else none
      |none=>some (.own info.size (List.replicate n.toNat (V.ofVal1 z)))
     |none=>some (.own info.size (List.replicate n.toNat (V.ofVal1 z)))
    else none
   |none=>none
  |none=>none
 |_=>none
def zIw (view:Bool):Option (St×RV)→Option (R St)
 |some (st,r)=>if view&& !r.plain then none else some (.call st view r)
 |none=>none
def zFG:Nat:=1000000
def zSG:T→Option V
 | .p (.rf q)=>some (.rf q)
 | .emp=>some .bot
 | .p (.val (.slice none 0 0))=>some .bot
 |_=>none
def zFK (c:Call):Option (R St):=
 match c.args.toList,c.argTypes.toList with
 |[x0,x1],[t0,t1]=>match zSG (evx G e x0),evx G e x1 with
  |some q, .p (.tl t ys)=>match P.fn zFG with
   |some _=>none
   |none=>match P.und t0,P.und t1 with
    |some (.slice el),some (.slice _)=>match P.inf el with
     |some info=>match info.zero with
      |some z=>if t.size=info.size∧1≤info.bytes∧z.cells.size=info.size then
        match S zFG e.st [.bot,q, .tl t ys, .val (.int .i64 info.bytes)] with
        |some (st', .p d)=>some (.call st' false (.p d))
        |_=>none
       else none
      |none=>none
     |none=>none
    |_,_=>none
  |_,_=>none
 |_,_=>none
def zFL (c:Call) (o:Oper):Option (R St):=
 match c.callee with
 | .builtin .append=>match zFK P G S e c with
  |some r=>some r
  |none=>vY P G e o
 | .builtin .len=>match c.args[0]? with
  |some x=>match zMN (evx G e x) with
   |some r=>match c.argTypes[0]? with
    |some t=>match P.und t with
     |some (.slice _)=>if c.args.size=1 then some r else none
     |_=>none
    |none=>none
   |none=>vY P G e o
  |none=>none
 | .builtin _=>vY P G e o
 | .invoke _ _=>none
 | .value f=>match evx G e f,zGN G e c.args.toList with
  | .p (.clo g caps),some ds=>zIw (c.args.toList.any (fun x=>(evx G e x).isView)) (S g e.st (ds++caps))
  |_,_=>none
def T.thereS:T→Bool
 | .p (.sl (_::_))| .ow _ _ _| .p (.tl _ (_::_))=>true
 |_=>false
def zJu (op:BinOp) (t:TypeId) (x y:T):Option (R St):=
 if x.thereS then match y with
  | .p (.val (.slice none _ _))=>match op with
   | .eql=>match P.und t with
    |some (.slice _)=>some (.ret (.p (.val (.bool false))))
    |_=>none
   | .neq=>match P.und t with
    |some (.slice _)=>some (.ret (.p (.val (.bool true))))
    |_=>none
   |_=>none
  |_=>none
 else match x with
  | .p (.hd _)=>match y with
   | .p (.val (.pointer none))=>match op with
    | .eql=>match P.und t with
     |some (.pointer _)=>some (.ret (.p (.val (.bool false))))
     |_=>none
    |_=>none
   |_=>none
  |_=>none
def zRP (eq:TypeId→V→V→Option Bool) (xs ys:List V):List Field→Option Bool
 |[]=>some true
 | f :: r => if f.name = "_" then none else
  match zMn P f.type xs f.offset,zMn P f.type ys f.offset with
  |some a,some b=>match eq f.type a b,zRP eq xs ys r with
   |some c,some c'=>some (c&&c')
   |_,_=>none
  |_,_=>none
def eqV:Nat→TypeId→V→V→Option Bool
 |0,_,_,_=>none
 |d+1,t,x,y=>match P.und t with
  |some .bool=>match x,y with
   | .val (.bool a), .val (.bool b)=>some (a==b)
   |_,_=>none
  |some (.int _)=>match x,y with
   | .val (.int k a), .val (.int k' b)=>if k=k' then some (a==b) else none
   |_,_=>none
  |some .string=>match x,y with
   | .val (.string a), .val (.string b)=>some (a==b)
   |_,_=>none
  |some (.struct fs)=>match x,y with
   | .agg xs, .agg ys=>if P.P.stoodInHeld t=false then zRP P (eqV d) xs ys fs.toList else none
   |_,_=>none
  |_=>none
def zOa (op:BinOp) (t:TypeId) (x y:T):Option (R St):=
 match x,y with
 | .p (.agg xs), .p (.agg ys)=>match op with
  | .eql=>if P.P.eqGuardType P.P.depth t=false then (eqV P 10000 t (.agg xs) (.agg ys)).map (fun b=> .ret (.p (.val (.bool b)))) else none
  | .neq=>if P.P.eqGuardType P.P.depth t=false then (eqV P 10000 t (.agg xs) (.agg ys)).map (fun b=> .ret (.p (.val (.bool (!b))))) else none
  |_=>none
 |_,_=>none
def zCz (t:TypeId) (id:Nat) (ty:Ty) (xs:List ty.El) (lo hi mx:Option T):Option (R St):=
 match P.und t with
 |some (.slice el)=>if z9 P el=some ty.size then
   match mx with
   |none=>match v8 hi xs.length xs.length with
    |some h=>match v8 lo 0 h with
     |some l=>some (.ret (.ov id ty xs l h))
     |none=>none
    |none=>none
   |some _=>none
  else none
 |_=>none
def evQ (o:Oper):Option (R St):=
 match o.op with
 | .move x=>some (.ret (evx G e x))
 | .assign x=>some (.ret (evx G e x))
 | .field t x i=>match evx G e x with
  | .p (.agg cs)=>zIv P t cs i
  |_=>none
 | .extract x i=>match evx G e x with
  | .p (.tup vs)=>(vs[i]?).map (fun d=> .ret (.p d))
  |_=>none
 | .load t x=>zC6 P e t (evx G e x)
 | .box _ x=>match evx G e x with
  | .p d=>if d.leafy then some (.var (d.cells.map .p)) else none
  | .dead=>none
  |y=>some (.var [y])
 | .alloc t=>match (P.inf t).bind (·.zero) with
  |some z=>some (.var ((V.ofVal1 z).cells.map .p))
  |none=>none
 | .fieldAddr t x i=>yS P t i (evx G e x)
 | .indexAddr t x ix=>match evx G e ix with
  | .p (.val (.int _ i))=>vC P t (evx G e x) i
  |_=>none
 | .slice t x lo hi mx=>match evx G e x with
  | .p (.sl es)=>zEL P t es (lo.map (evx G e)) (hi.map (evx G e)) (mx.map (evx G e))
  | .p (.tl ty xs)=>zCy P t ty xs (lo.map (evx G e)) (hi.map (evx G e)) (mx.map (evx G e))
  | .ot id ty xs=>zCz P t id ty xs (lo.map (evx G e)) (hi.map (evx G e)) (mx.map (evx G e))
  |_=>vY P G e o
 | .nilCheck x=>match evx G e x with
  | .p (.pp cs)=>some (.ret (.p (.pp cs)))
  | .p (.clo f caps)=>some (.ret (.p (.clo f caps)))
  | .lp s off=>some (.ret (.lp s off))
  | .oe id k es i off=>some (.ret (.oe id k es i off))
  | .oet id ty xs i off=>some (.ret (.oet id ty xs i off))
  | .on ⟨id,id2,ty,xs,j,ys, .q k off⟩=>some (.ret (.on ⟨id,id2,ty,xs,j,ys, .q k off⟩))
  |_=>vY P G e o
 | .build t parts=>match vT G e parts.toList with
  |some ps=>zGF P t ps
  |none=>none
 | .buildSlice t n parts=>match vT G e parts.toList with
  |some ps=>xO P t n ps
  |none=>none
 | .makeSlice t l c=>match evx G e l,evx G e c with
  | .p (.val (.int .i64 n)), .p (.val (.int .i64 m))=>if n=m then yR P t n else none
  |_,_=>none
 | .makeFunc (.func f) first captured=>match vU G e captured.toList with
  |some ds=>if first.size=0 then some (.ret (.p (.clo f ds))) else none
  |none=>none
 | .call c=>zFL P G S e c o
 | .makeMap _ none=>some .mk
 | .lookup t x ix ok=>match evx G e x with
  | .mp _ es _=>match wB (evx G e ix) with
   |some k=>(zX P.P (lookIn t es k ok)).map (fun v=> .ret (.p (V.ofVal v)))
   |none=>none
  |_=>none
 | .binOp op t x y _=>match zJu P op t (evx G e x) (evx G e y) with
  |some r=>some r
  |none=>match zOa P op t (evx G e x) (evx G e y) with
   |some r=>some r
   |none=>vY P G e o
 | .unOp _ _ _| .convert _ _ _| .pick _ _ _| .index _ _ _=>vY P G e o
 |_=>none
end
end Go.Ve

namespace Go.Ve
open Go
theorem zAM (b off i:Nat):Addr.add ⟨b,off,none⟩ i=⟨b,off+i,none⟩:=by
 unfold Addr.add;split
 ·simp [*]
 ·rfl
theorem zC {P:Program} {t:TypeId} {d:TypeDesc} (h:P.underlying t=some d) (w:World):(underlying t).run P w= .ok d w:=by
 simp [underlying,h]
theorem zEv {P:Program} {t:TypeId} {c:Bool} (h:zAI P t=some c) (w:World):(isAgg t).run P w= .ok c w:=by
 unfold zAI at h
 cases hu:P.underlying t with
 |none=>simp [hu] at h
 |some d=>cases d<;>simp [hu] at h<;>subst h<;>simp [isAgg,underlying,hu]
theorem run_typeInfo {P:Program} {t:TypeId} {i:TypeInfo} (h:P.info? t=some i) (w:World):(typeInfo t).run P w= .ok i w:=by
 simp [typeInfo,h]
theorem run_sizeOf {P:Program} {t:TypeId} {n:Nat} (h:z9 P t=some n) (w:World):(sizeOf t).run P w= .ok n w:=by
 simp only [z9,Option.map_eq_some_iff] at h
 obtain ⟨i,hi,rfl⟩:=h
 simp [sizeOf,run_typeInfo hi]
theorem zAZ {P:Program} {t:TypeId} {i:TypeInfo} (h:P.info? t=some i):z9 P t=some i.size:=by
 show (P.info? t).map (·.size)=some i.size
 rw [h];rfl
theorem run_loadCellsFrom {P:Program} {w:World} {b off:Nat} {g:Nat→Value} : ∀ (n i:Nat) (acc:Array Value),
  (∀m,m<n→w.cell? ⟨b,off+(i+m),none⟩=some (g (i+m)))→
  (loadCellsFrom ⟨b,off,none⟩ i n acc).run P w= .ok (acc++((List.range n).map (fun m=>g (i+m))).toArray) w:=by
 intro n
 induction n with
 |zero=>intro i acc _;simp [loadCellsFrom]
 |succ n ih=>
  intro i acc h
  have h0:=h 0 (by omega)
  simp only [Nat.add_zero] at h0
  have h1:=ih (i+1) (acc.push (g i)) (fun m hm=>by
   have:=h (m+1) (by omega)
   rw [show i+1+m=i+(m+1) by omega];exact this)
  simp only [loadCellsFrom,Sem.run_bind,zAM,run_load,h0,Result.andThen_ok,h1]
  congr 1
  apply Array.ext'
  simp [List.range_succ_eq_map,Function.comp_def,Nat.add_assoc,Nat.add_comm 1]
theorem run_loadCells {P:Program} {w:World} {b off n:Nat} {g:Nat→Value} (h: ∀m,m<n→w.cell? ⟨b,off+m,none⟩=some (g m)):
  (loadCells ⟨b,off,none⟩ n).run P w= .ok ((List.range n).map g).toArray w:=by
 have:=run_loadCellsFrom (P:=P) (w:=w) (b:=b) (off:=off) (g:=g) n 0 #[] (fun m hm=>by simpa using h m hm)
 simpa [loadCells] using this
theorem xG {P:Program} {w:World} {t:TypeId} {b off n:Nat} {g:Nat→Value} (ha:zAI P t=some true) (hs:z9 P t=some n)
  (h: ∀m,m<n→w.cell? ⟨b,off+m,none⟩=some (g m)):
  (Instr.loadAt t (.pointer (some ⟨b,off,none⟩))).run P w= .ok (.agg ((List.range n).map g).toArray) w:=by
 simp [Instr.loadAt,Instr.sureAddr,loadVar,zEv ha,run_sizeOf hs,run_loadCells h]
theorem yC {P:Program} {w:World} {t:TypeId} {b off:Nat} {x:Value} (ha:zAI P t=some false)
  (h:w.cell? ⟨b,off,none⟩=some x):(Instr.loadAt t (.pointer (some ⟨b,off,none⟩))).run P w= .ok x w:=by
 simp [Instr.loadAt,Instr.sureAddr,loadVar,zEv ha,h]
def zR6 (Γ:Sig) (w:World) (F:Blk→Prop) (O:Nat→Prop) (u:Value) (w':World) (st':Γ.St) (d:V):Prop:=
 ∃ (F':Blk→Prop) (O':Nat→Prop),Γ.R st' F' O' w'∧zBx O w w'∧(∀b,O' b→O b∨w.heap.size≤b)∧(∀b,F b→F' b)∧
  (∀b:Nat,F' b→(F b∨w.heap.size≤b)∧b<w'.heap.size∧ ¬O' b)∧Rd w' F' u d
def zTt (w:World) (F:Blk→Prop) (v:Value):V→Prop
 | .bot=> ∃a:Option Addr,v= .slice a 0 0
 |d=>Rd w F v d
def zUw (Γ:Sig) (P:Program) (st:Γ.St) (q:V) (t:Ty) (ys:List t.El) (bytes:Nat) (st':Γ.St) (d:V):Prop:=
 ∀ (ts:Array TypeId) (ty t0 t1 el el1:TypeId) (info:TypeInfo) (z:Value) (w:World) (F:Blk→Prop) (O:Nat→Prop) (v0 v1:Value),
  ts[0]? =some t0→ts[1]? =some t1→P.underlying t0=some (.slice el)→P.underlying t1=some (.slice el1)→P.info? el=some info→info.zero=some z→
  t.size=info.size→1≤info.bytes→z.cells.size=info.size→info.bytes=bytes→Γ.R st F O w→(∀b:Nat,F b→b<w.heap.size∧ ¬O b)→
  zTt w F v0 q→Rd w F v1 (.tl t ys)→ ∃u w',(Builtin.append_ ts ty #[v0,v1]).run P w= .ok u w'∧zR6 Γ w F O u w' st' d
def zF2 (w:World) (F:Blk→Prop) (b:Nat) (v0:Value) (t:Ty) (xs ys:List t.El) (v:Value):V→Prop
 | .bot=>zJS w F ⟨fun _=>b,fun _=>b⟩ (fun _=>True) v 0 t.size (ys.map t.enc)∧(xs=[]→ys=[])
 |d=>zJS w F ⟨fun _=>b,fun _=>b⟩ (fun _=>True) v0 0 t.size (ys.map t.enc)∧Rd w F v d
theorem zF2.of {w:World} {F:Blk→Prop} {b:Nat} {v0:Value} {t:Ty} {xs ys:List t.El} {v:Value} {d:V}
  (h1:zJS w F ⟨fun _=>b,fun _=>b⟩ (fun _=>True) v0 0 t.size (ys.map t.enc)) (h2:Rd w F v d):zF2 w F b v0 t xs ys v d:=by
 cases d with
 |bot=>cases h2
 |_=>exact ⟨h1,h2⟩
theorem zF2.out {w:World} {F:Blk→Prop} {b:Nat} {v0:Value} {t:Ty} {xs ys:List t.El} {v:Value} {d:V} (hd:d= .bot→False) (h:zF2 w F b v0 t xs ys v d):
  zJS w F ⟨fun _=>b,fun _=>b⟩ (fun _=>True) v0 0 t.size (ys.map t.enc)∧Rd w F v d:=by
 cases d with
 |bot=>exact absurd rfl hd
 |_=>exact h
def zCV:List V→Option (Nat×List V)
 | .bot:: .val (.int _ k)::r=>some (k.toNat,r)
 |_=>none
theorem zDV {ds:List V} (h: ∀r,ds≠ .bot::r):zCV ds=none:=by
 unfold zCV
 split
 ·exact absurd rfl (h _)
 ·rfl
def zTs (Γ:Sig) (P:Program) (G:Nat→Option (List V)) (f:FuncId) (st:Γ.St) (t:Ty) (k:Nat) (xs:List t.El) (ds:List V) (st':Γ.St) (ys:List t.El) (d:V):Prop:=
 ∀ (w:World) (F:Blk→Prop) (O:Nat→Prop) (b:Nat) (args:Array Value),
  Γ.R st F O w→zBH G w F→(∀c:Nat,F c→c<w.heap.size∧ ¬O c)→
  zW w F b t.size 1 (xs.map t.enc)→xs.length=1→b<w.heap.size∧ ¬F b∧ ¬O b→
  args.size=ds.length+1→k≤ds.length→args[k]? =some (.pointer (some ⟨b,0,none⟩))→
  (∀ (i:Nat) (x:Value) (d:V),args[if i<k then i else i+1]? =some x→ds[i]? =some d→Rd w F x d)→
  Calls P f args w fun e w'=> ∃ (v:Value) (F':Blk→Prop) (O':Nat→Prop),e= .returned v∧Γ.R st' F' O' w'∧zBx (fun c=>O c∨c=b) w w'∧
   (∀c,O' c→O c∨w.heap.size≤c)∧(∀c,F c→F' c)∧(∀c:Nat,F' c→(F c∨w.heap.size≤c)∧c<w'.heap.size∧ ¬O' c)∧
   zW w' F' b t.size 1 (ys.map t.enc)∧ys.length=1∧Rd w' F' v d
def zR8 (Γ:Sig) (P:Program) (G:Nat→Option (List V)) (f:FuncId) (st:Γ.St) (t:Ty) (xs:List t.El) (ds:List V) (st':Γ.St) (ys:List t.El) (d:V):Prop:=
 ∀ (w:World) (F:Blk→Prop) (O:Nat→Prop) (b:Nat) (v0:Value) (args:Array Value),
  Γ.R st F O w→zBH G w F→(∀c:Nat,F c→c<w.heap.size∧ ¬O c)→
  zJS w F ⟨fun _=>b,fun _=>b⟩ (fun _=>True) v0 0 t.size (xs.map t.enc)→(xs≠[]→b<w.heap.size∧ ¬F b∧ ¬O b)→
  args.size=ds.length+1→args[0]? =some v0→(∀ (i:Nat) (x:Value) (d:V),args[i+1]? =some x→ds[i]? =some d→Rd w F x d)→
  Calls P f args w fun e w'=> ∃ (v:Value) (F':Blk→Prop) (O':Nat→Prop),e= .returned v∧Γ.R st' F' O' w'∧zBx (fun c=>O c∨(xs≠[]∧c=b)) w w'∧
   (∀c,O' c→O c∨w.heap.size≤c)∧(∀c,F c→F' c)∧(∀c:Nat,F' c→(F c∨w.heap.size≤c)∧c<w'.heap.size∧ ¬O' c)∧
   zF2 w' F' b v0 t xs ys v d
def zGX (Γ:Sig) (P:Program) (G:Nat→Option (List V)) (f:FuncId) (st:Γ.St) (t:Ty) (xs:List t.El) (ds:List V) (st':Γ.St) (ys:List t.El) (d:V):Prop:=
 match zCV ds with
 |none=>zR8 Γ P G f st t xs ds st' ys d
 |some (k,r)=>zTs Γ P G f st t k xs r st' ys d
theorem zGX.of {Γ:Sig} {P:Program} {G:Nat→Option (List V)} {f:FuncId} {st:Γ.St} {t:Ty} {xs:List t.El} {ds:List V} {st':Γ.St} {ys:List t.El} {d:V}
  (h:zCV ds=none) (hr:zR8 Γ P G f st t xs ds st' ys d):zGX Γ P G f st t xs ds st' ys d:=by unfold zGX;rw [h];exact hr
theorem zGX.row {Γ:Sig} {P:Program} {G:Nat→Option (List V)} {f:FuncId} {st:Γ.St} {t:Ty} {xs:List t.El} {ds:List V} {st':Γ.St} {ys:List t.El} {d:V}
  (h:zCV ds=none) (hr:zGX Γ P G f st t xs ds st' ys d):zR8 Γ P G f st t xs ds st' ys d:=by unfold zGX at hr;rw [h] at hr;exact hr
structure zZ (Γ:Sig) (P:Program) (G:Nat→Option (List V)) (S:qZ Γ):Prop where
 ok: ∀f,kP Γ P G f (S f)
 is : ∀ f s ds r, S f s ds = some r → (∀ ds', ds ≠ .bot :: ds') → ∃ fn, P.funcs[f]? = some fn ∧ fn.body.isSome = true ∧ (fn.name == "runtime.NumGoroutine") = false
 app:P.funcs[zFG]? =none→ ∀st q t ys (bytes:Nat) st' d,S zFG st [.bot,q, .tl t ys, .val (.int .i64 bytes)]=some (st', .p d)→zUw Γ P st q t ys bytes st' d
 bor : ∀ f st t xs ds st' ys d, S f st (.bot :: .tl t xs :: ds) = some (st', .p (.tup [.tl t ys, d])) → zGX Γ P G f st t xs ds st' ys d ∧ ∃ fn, P.funcs[f]? = some fn ∧ fn.body.isSome = true ∧ (fn.name == "runtime.NumGoroutine") = false
def Fal (F:Blk→Prop) (β:Lay) (al:Site→Prop) (b:Blk):Prop:=F b∨ ∃x,al x∧Blk.b (β.blk x)=b
def zAD (Γ:Sig) (P:Program) (S:qZ Γ) (o:Oper) (a:Act) (w:World) (F:Blk→Prop) (β:Lay) (al alv:Site→Prop) (st:Γ.St):R Γ.St→Prop
 | .ret x=> ∃v,(execOp a.eval o).run P w= .ok (.value v) w∧zE w F β al v x
 | .var cs=> ∃ (c:Array Value) (et:TypeId),(execOp a.eval o).run P w= .ok (.value (.pointer (some ⟨w.heap.size,0,none⟩))) { w with heap:=w.heap.push (.cells c et) } ∧
   c.size=cs.length∧ ∀ (i:Nat) (x:Value) (d:T),c[i]? =some x→cs[i]? =some d→zE w F β al x d
 | .own k es=> ∃ (c:Array Value) (et:TypeId) (cap:Nat),(execOp a.eval o).run P w= .ok (.value (.slice (some ⟨w.heap.size,0,none⟩) es.length cap)) { w with heap:=w.heap.push (.cells c et) } ∧
   c.size=cap*k∧es.length≤cap∧(es=[]→cap=0)∧(∀e,e∈es→e.cells.length=k)∧
   ∀ (i j:Nat) (e d:V) (x:Value),es[i]? =some e→e.cells[j]? =some d→c[i*k+j]? =some x→Rd w F x d
 | .frz es=> ∃ (c:Array Value) (et:TypeId) (k:Nat),(execOp a.eval o).run P w= .ok (.value (.slice (some ⟨w.heap.size,0,none⟩) es.length es.length)) { w with heap:=w.heap.push (.cells c et) } ∧
   c.size=es.length*k∧(∀e,e∈es→e.cells.length=k)∧
   ∀ (i j:Nat) (e d:V) (x:Value),es[i]? =some e→e.cells[j]? =some d→c[i*k+j]? =some x→Rd w F x d
 | .call st' view r=>(view=false∧ ∃d,r= .p d∧ ∀O,Γ.R st F O w→(∀b:Nat,F b→b<w.heap.size∧ ¬O b)→ ∃u w',(execOp a.eval o).run P w= .ok (.value u) w'∧zR6 Γ w F O u w' st' d)∨
   ∃ (f:FuncId) (args:Array Value) (ds:List V),(execOp a.eval o).run P w= .ok (.enter f args) w∧args.size=ds.length∧
   (∀ (i:Nat) (x:Value) (d:V),args[i]? =some x→ds[i]? =some d→Rd w (if view then Fal F β alv else F) x d)∧
   S f st ds=some (st',r)∧(view=true→r.plain=true)
 | .frzT t xs=> ∃ (es:List V) (c:Array Value) (et:TypeId),(execOp a.eval o).run P w= .ok (.value (.slice (some ⟨w.heap.size,0,none⟩) es.length es.length)) { w with heap:=w.heap.push (.cells c et) } ∧
   c.size=es.length*t.size∧(∀e,e∈es→e.cells.length=t.size)∧
   (∀ (i j:Nat) (e d:V) (x:Value),es[i]? =some e→e.cells[j]? =some d→c[i*t.size+j]? =some x→Rd w F x d)∧zS9 es (xs.map t.enc)
 | .ownT t xs=> ∃ (es:List V) (c:Array Value) (et:TypeId) (cap:Nat),(execOp a.eval o).run P w= .ok (.value (.slice (some ⟨w.heap.size,0,none⟩) es.length cap)) { w with heap:=w.heap.push (.cells c et) } ∧
   c.size=cap*t.size∧es.length≤cap∧(es=[]→cap=0)∧(∀e,e∈es→e.cells.length=t.size)∧
   (∀ (i j:Nat) (e d:V) (x:Value),es[i]? =some e→e.cells[j]? =some d→c[i*t.size+j]? =some x→Rd w F x d)∧zS9 es (xs.map t.enc)
 | .mk=>(execOp a.eval o).run P w= .ok (.value (.map (some w.heap.size))) { w with heap:=w.heap.push (.map #[] 0) }
section
variable {Γ:Sig} {P:Program} {G:Nat→Option (List V)} {S:qZ Γ} {e:Env Γ.St} {o:Oper} {a:Act} {w:World} {F:Blk→Prop} {β:Lay} {al:Site→Prop}
theorem zGD {v u:Value} {x:T} (h:zE w F β al v x) (hx:wB x=some u):v=u:=by
 cases x<;>simp [wB] at hx
 exact Rd.eq_toVal h hx
theorem vI (hns: ∀cs b,o.op≠ .select cs b) (hops: ∀x,x∈o.op.operands→zE w F β al (a.eval x) (evx G e x)) {r:R Γ.St}
  (h:vY P G e o=some r) {st:Γ.St} :zAD Γ P S o a w F β al al st r:=by
 unfold vY at h
 split at h
 ·rename_i hall
  have hc:execOp a.eval o=execOp (fun x=>(wB (evx G e x)).getD undef) o:=by
   apply execOp_congr o hns
   intro x hx
   have h1:=List.all_eq_true.1 hall x (by simpa using hx)
   obtain ⟨u,hu⟩:=Option.isSome_iff_exists.1 h1
   rw [zGD (hops x hx) hu]
   simp [hu]
  split at h
  ·rename_i v hv
   simp only [Option.some.injEq] at h
   subst h
   exact ⟨v,by rw [hc];exact zAd hv w,zGj w F v⟩
  ·cases h
 ·cases h
theorem zLl {t:TypeId} {cs:List V} {d:V} {b off:Nat} {g:Nat→Value}
  (hg: ∀m,m<cs.length→w.cell? ⟨b,off+m,none⟩=some (g m)) (hr: ∀ (m:Nat) (d:V),cs[m]? =some d→Rd w F (g m) d)
  (h:ldV P t cs=some d): ∃v,(Instr.loadAt t (.pointer (some ⟨b,off,none⟩))).run P w= .ok v w∧Rd w F v d:=by
 unfold ldV at h
 split at h
 ·rename_i ha
  split at h
  ·rename_i n hn
   split at h
   ·rename_i hle
    simp only [Option.some.injEq] at h
    subst h
    refine ⟨_,xG ha hn (fun m hm=>hg m (by omega)),?_⟩
    refine .agg _ _ (by simp;omega) ?_
    intro i x d h1 h2
    simp only [List.getElem?_toArray,List.getElem?_map,Option.map_eq_some_iff] at h1
    obtain ⟨m,hm,rfl⟩:=h1
    rw [List.getElem?_range] at hm
    ·simp only [Option.some.injEq] at hm;subst hm
     rw [List.getElem?_take] at h2
     split at h2
     ·exact hr _ _ h2
     ·cases h2
    ·rw [List.getElem?_take] at h2
     split at h2
     ·assumption
     ·cases h2
   ·cases h
  ·cases h
 ·rename_i ha
  cases cs with
  |nil=>simp at h
  |cons c cs=>
   simp only [List.head?_cons,Option.some.injEq] at h
   subst h
   refine ⟨g 0,yC ha ?_,hr 0 c rfl⟩
   simpa using hg 0 (by simp)
 ·cases h
theorem zB7: ∀ {cs:List T} {ds:List V},wC cs=some ds→cs=ds.map .p:=by
 intro cs
 induction cs with
 |nil=>intro ds h;simp [wC] at h;subst h;rfl
 |cons c cs ih=>
  intro ds h
  cases c<;>simp [wC] at h
  obtain ⟨ds',h1,rfl⟩:=h
  simp [ih h1]
theorem z7.at {b:Nat} {cs:List T} (h:z7 w F β al b cs) (i:Nat) (hi:i<cs.length):
  ∃x,w.cell? ⟨b,i,none⟩=some x∧zE w F β al x cs[i]:=by
 obtain ⟨c,et,h1,h2,h3⟩:=h
 have hic:i<c.size:=by omega
 refine ⟨c[i],by simp [World.cell?,h1,hic],h3 i _ _ (by simp [hic]) (by simp [hi])⟩
theorem zHX (hvars: ∀s cs,e.var s=some cs→al (.v s)→z7 w F β al (β.vb s) cs) {t:TypeId} {x:T} {v:Value} {r:R Γ.St}
  (hx:zE w F β al v x) (h:zC5 P e t x=some r): ∃u y,r= .ret y∧(Instr.loadAt t v).run P w= .ok u w∧zE w F β al u y:=by
 unfold zC5 at h
 split at h
 ·rename_i cs
  simp only [Option.map_eq_some_iff] at h
  obtain ⟨d,hd,rfl⟩:=h
  cases hx with
  |pp b off cs g hF hg hr=>
   obtain ⟨u,h1,h2⟩:=zLl hg hr hd
   exact ⟨u,_,rfl,h1,h2⟩
 ·rename_i s off
  obtain ⟨ha,rfl⟩:=hx
  split at h
  ·rename_i cs hcs
   have hv:=hvars s cs hcs ha
   simp only [Option.map_eq_some_iff] at h
   obtain ⟨y,hy,rfl⟩:=h
   unfold ldT at hy
   split at hy
   ·rename_i hagg
    split at hy
    ·rename_i n hn
     split at hy
     ·rename_i hle
      simp only [Option.map_eq_some_iff] at hy
      obtain ⟨ds,hds,rfl⟩:=hy
      have heq:=zB7 hds
      simp only [List.length_drop] at hle
      have hlen:ds.length=n:=by
       have:=congrArg List.length heq
       simp at this;omega
      have hcell: ∀m,m<n→ ∃x,w.cell? ⟨β.vb s,off+m,none⟩=some x∧ ∀d,ds[m]? =some d→Rd w F x d:=by
       intro m hm
       obtain ⟨x,h1,h2⟩:=hv.at (off+m) (by omega)
       refine ⟨x,h1,fun d hd=> ?_⟩
       have h3:((cs.drop off).take n)[m]? =some (.p d):=by rw [heq];simp [hd]
       rw [List.getElem?_take,if_pos hm,List.getElem?_drop] at h3
       rw [List.getElem?_eq_getElem (by omega),Option.some.injEq] at h3
       rw [h3] at h2;exact h2
      let g:Nat→Value:=fun m=>(w.cell? ⟨β.vb s,off+m,none⟩).getD undef
      have hg: ∀m,m<n→w.cell? ⟨β.vb s,off+m,none⟩=some (g m):=fun m hm=>by
       obtain ⟨x,h1,_⟩:=hcell m hm
       simp [g,h1]
      refine ⟨_,_,rfl,xG hagg hn hg,?_⟩
      refine Rd.agg _ _ (by simp [hlen]) ?_
      intro i x d h1 h2
      have hi:i<n:=by
       have:=(List.getElem?_eq_some_iff.1 h2).1;omega
      simp only [List.getElem?_toArray,List.getElem?_map,Option.map_eq_some_iff] at h1
      obtain ⟨m,hm,rfl⟩:=h1
      rw [List.getElem?_range hi] at hm
      simp only [Option.some.injEq] at hm;subst hm
      obtain ⟨x,h3,h4⟩:=hcell i hi
      simp only [g,h3,Option.getD_some]
      exact h4 d h2
     ·cases hy
    ·cases hy
   ·rename_i hagg
    have hlt:off<cs.length:=by
     rcases Nat.lt_or_ge off cs.length with h|h
     ·exact h
     ·rw [List.drop_eq_nil_of_le h] at hy;simp at hy
    rw [List.head?_drop,List.getElem?_eq_getElem hlt,Option.some.injEq] at hy
    subst hy
    obtain ⟨x,h1,h2⟩:=hv.at off hlt
    exact ⟨x,_,rfl,yC hagg h1,h2⟩
   ·cases hy
  ·cases h
 ·rename_i id k es i off
  obtain ⟨ha,hi,cap,rfl,c,et,h1,h2,h3,h4,h5⟩:=hx
  split at h
  ·rename_i d0 hd0
   simp only [Option.map_eq_some_iff] at h
   obtain ⟨d,hd,rfl⟩:=h
   have hk:=h4 d0 (List.mem_of_getElem? hd0)
   let g:Nat→Value:=fun m=>(c[i*k+(off+m)]?).getD undef
   have hin: ∀m,off+m<k→i*k+(off+m)<c.size:=by
    intro m hm
    have:(i+1)*k≤cap*k:=Nat.mul_le_mul_right k (by omega)
    rw [Nat.succ_mul] at this;omega
   have hlen:(d0.cells.drop off).length=k-off:=by simp [hk]
   obtain ⟨u,h6,h7⟩:=zLl (P:=P) (w:=w) (F:=F) (t:=t) (cs:=d0.cells.drop off) (d:=d) (b:=β.ob id) (off:=i*k+off) (g:=g)
    (fun m hm=>by
     have:=hin m (by omega)
     have e1:i*k+off+m=i*k+(off+m):=by omega
     simp [World.cell?,h1,g,e1,this])
    (fun m d' hd'=>by
     rw [List.getElem?_drop] at hd'
     have hlt:off+m<d0.cells.length:=(List.getElem?_eq_some_iff.1 hd').1
     have:=hin m (by omega)
     exact h5 i (off+m) d0 d' _ hd0 hd' (by simp [g,this])) hd
   exact ⟨u,_,rfl,h6,h7⟩
  ·cases h
 ·cases h
theorem zN5 (hvars: ∀s cs,e.var s=some cs→al (.v s)→z7 w F β al (β.vb s) cs) {t:TypeId} {x:T} {v:Value} {r:R Γ.St}
  (hx:zE w F β al v x) (h:zC6 P e t x=some r): ∃u y,r= .ret y∧(Instr.loadAt t v).run P w= .ok u w∧zE w F β al u y:=by
 cases x with
 |oet id ty xs i off=>
  refine zHX hvars (yG.1 hx) ?_
  simp only [zC6] at h
  simp only [T.un,zC5,List.getElem?_map]
  cases hxi:xs[i]? with
  |none=>rw [hxi] at h;cases h
  |some x=>rw [hxi] at h;simp only [Option.map_some,wG];exact h
 |on n=>
  obtain ⟨id,id2,ty,xs,j,ys,m⟩:=n
  simp only [zC6,zIu] at h
  split at h
  ·rename_i i
   split at h
   ·rename_i hc
    obtain ⟨hij,ha⟩:=hc
    subst hij
    simp only [Option.some.injEq] at h
    subst h
    obtain ⟨a1,a2,c,et,cap2,k1,k2,k5,k6,k7,k8⟩:=hx
    simp only [NM.Rel] at k8
    obtain ⟨k8,rfl⟩:=k8
    refine ⟨_,_,rfl,yC ha (x:= .slice (some ⟨β.ob id2,0,none⟩) ys.length cap2) ?_,a1,a2,c,et,cap2,k1,k2,k5,k6,k7,rfl⟩
    obtain ⟨hlt,hv⟩:=Array.getElem?_eq_some_iff.1 k6
    simp only at k1 hlt hv
    simp [World.cell?,k1,hlt,hv]
   ·cases h
  ·cases h
 |_=>exact zHX hvars hx h
end
end Go.Ve

namespace Go.Ve
open Go
section
variable {Γ:Sig} {P:Program} {G:Nat→Option (List V)} {S:qZ Γ} {e:Env Γ.St} {o:Oper} {a:Act} {w:World} {F:Blk→Prop} {β:Lay} {al:Site→Prop} {st:Γ.St}
theorem zC4 {t:TypeId} {i:Nat} {f:Field} (h:zEJ P t i=some f): ∃fs,P.underlying t=some (.struct fs)∧fs[i]? =some f:=by
 unfold zEJ at h
 split at h
 ·exact ⟨_,by assumption,h⟩
 ·cases h
theorem zHe {t:TypeId} {cs:List V} {off:Nat} {d:V} {c:Array Value} (hl:c.size=cs.length)
  (hr: ∀ (i:Nat) (x:Value) (d:V),c[i]? =some x→cs[i]? =some d→Rd w F x d)
  (h:zMn P t cs off=some d): ∃v,(part t c off).run P w= .ok v w∧Rd w F v d:=by
 unfold zMn at h
 split at h
 ·rename_i ha
  split at h
  ·rename_i n hn
   simp only [Option.some.injEq] at h
   subst h
   refine ⟨_,by simp [part,zEv ha,run_sizeOf hn];rfl,?_⟩
   refine .agg _ _ (by simp;omega) ?_
   intro i x d h1 h2
   rw [List.getElem?_take] at h2
   split at h2
   ·rw [List.getElem?_drop] at h2
    refine hr (off+i) x d ?_ h2
    rw [Array.getElem?_extract] at h1
    split at h1
    ·exact h1
    ·cases h1
   ·cases h2
  ·cases h
 ·rename_i ha
  have hlt:off<c.size:=by have:=(List.getElem?_eq_some_iff.1 h).1;omega
  refine ⟨c[off],by simp [part,zEv ha,hlt],hr off _ d (by simp [hlt]) h⟩
 ·cases h
theorem zCB {t:TypeId} {i:Nat} {x:T} {v:Value} {r:R Γ.St} (hx:zE w F β al v x) (h:uK P t i x=some r):
  ∃u y,r= .ret y∧(Instr.fieldAt t v i).run P w= .ok u w∧zE w F β al u y:=by
 unfold uK at h
 split at h
 ·rename_i f hf
  obtain ⟨fs,hu,hfi⟩:=zC4 hf
  split at h
  ·rename_i n hn
   have hrun: ∀b off,(Instr.fieldAt t (.pointer (some ⟨b,off,none⟩)) i).run P w= .ok (.pointer (some ⟨b,off+f.offset,none⟩)) w:=by
    intro b off
    simp [Instr.fieldAt,zC hu,hfi,Instr.sureAddr,fieldPlace,run_sizeOf hn,zAM]
   split at h
   ·rename_i cs
    simp only [Option.some.injEq] at h
    subst h
    cases hx with
    |pp b off cs g hF hg hr=>
     refine ⟨_,_,rfl,hrun b off,?_⟩
     refine Rd.pp b (off+f.offset) _ (fun m=>g (f.offset+m)) hF ?_ ?_
     ·intro m hm
      simp only [List.length_drop] at hm
      rw [Nat.add_assoc];exact hg _ (by omega)
     ·intro m d hd
      rw [List.getElem?_drop] at hd
      exact hr _ _ hd
   ·rename_i s off
    simp only [Option.some.injEq] at h
    subst h
    obtain ⟨ha,rfl⟩:=hx
    exact ⟨_,_,rfl,hrun _ _,ha,rfl⟩
   ·rename_i id k es j off
    simp only [Option.some.injEq] at h
    subst h
    obtain ⟨ha,hi,cap,rfl,hrow⟩:=hx
    exact ⟨_,_,rfl,hrun _ _,ha,hi,cap,by rw [Nat.add_assoc],hrow⟩
   ·cases h
  ·cases h
 ·cases h
theorem zIe {t:TypeId} {i:Nat} {x:T} {v:Value} {r:R Γ.St} (hx:zE w F β al v x) (h:yS P t i x=some r):
  ∃u y,r= .ret y∧(Instr.fieldAt t v i).run P w= .ok u w∧zE w F β al u y:=by
 cases x with
 |oet id ty xs j off=>
  simp only [yS] at h
  split at h
  ·rename_i f hf
   split at h
   ·rename_i n hn
    simp only [Option.some.injEq] at h
    subst h
    obtain ⟨u,y,h1,h2,h3⟩:=zCB (P:=P) (t:=t) (i:=i) (r:= .ret (.oe id ty.size (xs.map ty.enc) j (off+f.offset))) (Γ:=Γ) (yG.1 hx) (by simp [T.un,uK,hf,hn])
    simp only [R.ret.injEq] at h1
    subst h1
    exact ⟨u,_,rfl,h2,yG.2 h3⟩
   ·cases h
  ·cases h
 |on n=>
  obtain ⟨id,id2,ty,xs,j,ys,m⟩:=n
  simp only [yS,zC7] at h
  split at h
  ·rename_i k off
   split at h
   ·rename_i f hf
    obtain ⟨fs,hu,hfi⟩:=zC4 hf
    split at h
    ·rename_i n hn
     simp only [Option.some.injEq] at h
     subst h
     obtain ⟨a1,a2,c,et,cap2,k1,k2,k5,k6,k7,k8⟩:=hx
     simp only [NM.Rel] at k8
     obtain ⟨k8,rfl⟩:=k8
     refine ⟨_,_,rfl,?_,a1,a2,c,et,cap2,k1,k2,k5,k6,k7,k8,rfl⟩
     simp [Instr.fieldAt,zC hu,hfi,Instr.sureAddr,fieldPlace,run_sizeOf hn,zAM,Nat.add_assoc]
    ·cases h
   ·cases h
  ·cases h
 |_=>exact zCB hx h
theorem run_indexAt_slice {t el:TypeId} {z:Nat} {k:IntKind} {i:Int} {b off len cap:Nat} (hu:P.underlying t=some (.slice el)) (hz:z9 P el=some z)
  (h0:0≤i) (h1:i<len):(Instr.indexAt t (.slice (some ⟨b,off,none⟩) len cap) (.int k i)).run P w= .ok (.pointer (some ⟨b,off+i.toNat*z,none⟩)) w:=by
 simp [Instr.indexAt,asIntOf,zC hu,h0,h1,run_sizeOf hz,zAM]
theorem run_indexAt_array {t el:TypeId} {z n:Nat} {k:IntKind} {i:Int} {b off:Nat} (hu:P.underlying t=some (.array n el)) (hz:z9 P el=some z)
  (h0:0≤i) (h1:i<n):(Instr.indexAt t (.pointer (some ⟨b,off,none⟩)) (.int k i)).run P w= .ok (.pointer (some ⟨b,off+i.toNat*z,none⟩)) w:=by
 simp [Instr.indexAt,Instr.sureAddr,asIntOf,zC hu,h0,h1,run_sizeOf hz,zAM]
theorem uJ {t:TypeId} {k:IntKind} {i:Int} {x:T} {v:Value} {r:R Γ.St} (hx:zE w F β al v x) (h:vB P t x i=some r):
  ∃u y,r= .ret y∧(Instr.indexAt t v (.int k i)).run P w= .ok u w∧zE w F β al u y:=by
 unfold vB at h
 split at h
 ·rename_i h0
  split at h
  ·rename_i el es hu
   split at h
   ·rename_i d hd
    split at h
    ·rename_i hz
     simp only [Option.some.injEq] at h
     subst h
     have hlt:=(List.getElem?_eq_some_iff.1 hd).1
     cases hx with
     |slemp a0 cap0=>simp at hlt
     |sl b off cap k' es g hF hcap hk hg hr=>
      have hk':=hk d (List.mem_of_getElem? hd)
      refine ⟨_,_,rfl,run_indexAt_slice hu hz h0 (by omega),?_⟩
      rw [hk']
      refine Rd.pp b _ _ (fun m=>g (i.toNat*k'+m)) hF ?_ ?_
      ·intro m hm
       rw [hk'] at hm
       rw [Nat.add_assoc]
       refine hg _ ?_
       have:(i.toNat+1)*k'≤es.length*k':=Nat.mul_le_mul_right k' (by omega)
       rw [Nat.succ_mul] at this;omega
      ·intro m d' hd'
       exact hr _ _ _ _ hd hd'
    ·cases h
   ·cases h
  ·rename_i el id k' es hu
   split at h
   ·rename_i hc
    simp only [Option.some.injEq] at h
    subst h
    obtain ⟨ha,cap,rfl,hrow⟩:=hx
    refine ⟨_,_,rfl,run_indexAt_slice hu hc.2 h0 (by omega),ha,hc.1,cap,by simp,hrow⟩
   ·cases h
  ·rename_i n el cs hu
   split at h
   ·rename_i z hz
    split at h
    ·rename_i h1
     simp only [Option.some.injEq] at h
     subst h
     cases hx with
     |pp b off cs g hF hg hr=>
      refine ⟨_,_,rfl,run_indexAt_array hu hz h0 h1,?_⟩
      refine Rd.pp b _ _ (fun m=>g (i.toNat*z+m)) hF ?_ ?_
      ·intro m hm
       simp only [List.length_drop] at hm
       rw [Nat.add_assoc];exact hg _ (by omega)
      ·intro m d hd
       rw [List.getElem?_drop] at hd
       exact hr _ _ hd
    ·cases h
   ·cases h
  ·rename_i n el s off hu
   split at h
   ·rename_i z hz
    split at h
    ·rename_i h1
     simp only [Option.some.injEq] at h
     subst h
     obtain ⟨ha,rfl⟩:=hx
     exact ⟨_,_,rfl,run_indexAt_array hu hz h0 h1,ha,rfl⟩
    ·cases h
   ·cases h
  ·rename_i n el id k' es j off hu
   split at h
   ·rename_i z hz
    split at h
    ·rename_i h1
     simp only [Option.some.injEq] at h
     subst h
     obtain ⟨ha,hi,cap,rfl,hrow⟩:=hx
     exact ⟨_,_,rfl,run_indexAt_array hu hz h0 h1,ha,hi,cap,by rw [Nat.add_assoc],hrow⟩
    ·cases h
   ·cases h
  ·cases h
 ·cases h
theorem zIc {t:TypeId} {k:IntKind} {i:Int} {x:T} {v:Value} {r:R Γ.St} (hx:zE w F β al v x) (h:vC P t x i=some r):
  ∃u y,r= .ret y∧(Instr.indexAt t v (.int k i)).run P w= .ok u w∧zE w F β al u y:=by
 unfold vC at h
 split at h
 ·rename_i n
  obtain ⟨id,id2,ty,xs,j,ys,m⟩:=n
  simp only [xN] at h
  split at h
  ·rename_i h0
   split at h
   ·rename_i el hu
    have hu':P.underlying t=some (.slice el):=hu
    obtain ⟨a1,a2,c,et,cap2,k1,k2,k5,k6,k7,k8⟩:=hx
    split at h
    ·split at h
     ·rename_i hc
      obtain ⟨hz,hlt⟩:=hc
      simp only [Option.some.injEq] at h
      subst h
      simp only [NM.Rel] at k8
      rcases k8 with ⟨k8,_⟩|k8
      ·omega
      subst k8
      refine ⟨_,_,rfl,run_indexAt_slice hu' hz h0 (by omega),a1,a2,c,et,cap2,k1,k2,k5,k6,k7,hlt,?_⟩
      simp
     ·cases h
    ·split at h
     ·rename_i hc
      obtain ⟨hz,hlt⟩:=hc
      simp only [Option.some.injEq] at h
      subst h
      simp only [NM.Rel] at k8
      subst k8
      refine ⟨_,_,rfl,run_indexAt_slice hu' hz h0 (by omega),a1,a2,c,et,cap2,k1,k2,k5,k6,k7,hlt,?_⟩
      simp
     ·cases h
    ·cases h
   ·cases h
  ·cases h
 ·rename_i ty xs
  split at h
  ·rename_i h0
   split at h
   ·rename_i el hu
    have hu':P.underlying t=some (.slice el):=hu
    split at h
    ·rename_i hz
     split at h
     ·rename_i x hx'
      refine uJ (yG.1 hx) ?_
      simp only [T.un,vB,h0,if_true,hu',List.getElem?_map,hx',Option.map_some,wG,yU,hz]
      exact h
     ·cases h
    ·cases h
   ·cases h
  ·cases h
 ·rename_i id ty xs
  split at h
  ·rename_i h0
   split at h
   ·rename_i el hu
    have hu':P.underlying t=some (.slice el):=hu
    split at h
    ·rename_i hz
     split at h
     ·rename_i hlt
      simp only [Option.some.injEq] at h
      subst h
      have hne:xs≠[]:=by intro hh;subst hh;simp at hlt
      have hun:(T.ot id ty xs).un= .ow id ty.size (xs.map ty.enc):=by
       cases xs with
       |nil=>exact absurd rfl hne
       |cons x xs=>rfl
      have hx':=yG.1 hx
      rw [hun] at hx'
      obtain ⟨u,y,h1,h2,h3⟩:=uJ (P:=P) (t:=t) (i:=i) (k:=k) (Γ:=Γ) (r:= .ret (.oe id ty.size (xs.map ty.enc) i.toNat 0)) hx' (by simp only [vB,h0,if_true,hu',List.length_map,hlt,hz,and_self])
      simp only [R.ret.injEq] at h1
      subst h1
      exact ⟨u,_,rfl,h2,yG.2 h3⟩
     ·cases h
    ·cases h
   ·cases h
  ·cases h
 ·rename_i id ty xs j off
  split at h
  ·rename_i h0
   split at h
   ·rename_i n el hu
    have hu':P.underlying t=some (.array n el):=hu
    split at h
    ·rename_i z hz
     split at h
     ·rename_i hlt
      simp only [Option.some.injEq] at h
      subst h
      obtain ⟨u,y,h1,h2,h3⟩:=uJ (P:=P) (t:=t) (i:=i) (k:=k) (Γ:=Γ) (r:= .ret (.oe id ty.size (xs.map ty.enc) j (off+i.toNat*z))) (yG.1 hx) (by simp only [T.un,vB,h0,if_true,hu',hlt,hz])
      simp only [R.ret.injEq] at h1
      subst h1
      exact ⟨u,_,rfl,h2,yG.2 h3⟩
     ·cases h
    ·cases h
   ·cases h
  ·cases h
 ·exact uJ hx h
theorem zA9 {v:Value} {es:List V} (h:Rd w F v (.sl es)): ∃a cap,v= .slice a es.length cap∧es.length≤cap:=by
 cases h with
 |slemp a cap=>exact ⟨a,cap,rfl,by simp⟩
 |sl b off cap k es g hF hcap hk hg hr=>exact ⟨_,cap,rfl,hcap⟩
theorem zP1 {t el:TypeId} {x:T} {v:Value} {r:R Γ.St} {c:Call} (hx:zE w F β al v x) (h:zMN x=some r) (hu:P.underlying t=some (.slice el))
  (ht:c.argTypes[0]? =some t) (ty:TypeId): ∃u y,r= .ret y∧(Builtin.len_ c.argTypes ty #[v]).run P w= .ok u w∧zE w F β al u y:=by
 unfold zMN at h
 split at h
 ·rename_i ty xs
  simp only [Option.some.injEq] at h;subst h
  obtain ⟨a0,cap,rfl,_⟩:=zA9 (Rd.untl hx)
  exact ⟨_,_,rfl,by simp [Builtin.len_,ht,zC hu,goInt], .val _⟩
 ·rename_i id ty xs
  simp only [Option.some.injEq] at h;subst h
  rcases hx with ⟨h0,a0,rfl⟩|⟨hne,ha,cap,rfl,hrow⟩
  ·have:xs=[]:=by simpa using h0
   subst this
   exact ⟨_,_,rfl,by simp [Builtin.len_,ht,zC hu,goInt], .val _⟩
  ·exact ⟨_,_,rfl,by simp [Builtin.len_,ht,zC hu,goInt], .val _⟩
 ·rename_i es
  simp only [Option.some.injEq] at h;subst h
  obtain ⟨a0,cap,rfl,_⟩:=zA9 hx
  exact ⟨_,_,rfl,by simp [Builtin.len_,ht,zC hu,goInt], .val _⟩
 ·rename_i id k es
  simp only [Option.some.injEq] at h;subst h
  obtain ⟨ha,cap,rfl,hrow⟩:=hx
  exact ⟨_,_,rfl,by simp [Builtin.len_,ht,zC hu,goInt], .val _⟩
 ·simp only [Option.some.injEq] at h;subst h
  obtain ⟨a0,rfl⟩:=hx
  exact ⟨_,_,rfl,by simp [Builtin.len_,ht,zC hu,goInt], .val _⟩
 ·simp only [Option.some.injEq] at h;subst h
  cases hx with
  |rfn=>exact ⟨_,_,rfl,by simp [Builtin.len_,ht,zC hu,goInt,zQU], .val _⟩
  |rf id a n c h0=>exact ⟨_,_,rfl,by simp [Builtin.len_,ht,zC hu,goInt,zQU], .val _⟩
 ·cases h
theorem zIX {v:Value} {x:V} {es:List V} (h:Rd w F v (.sl (x::es))): ∃ (a:Addr) (n cap:Nat),v= .slice (some a) n cap:=by
 cases h with
 |sl b off cap k es g hF hcap hk hg hr=>exact ⟨_,_,cap,rfl⟩
theorem zBl {v:Value} {d:V} (h:Rd w F v d) (hd:d.leafy=true):v.cells.size=d.cells.length∧
  ∀ (i:Nat) (x:Value) (y:V),v.cells[i]? =some x→d.cells[i]? =some y→Rd w F x y:=by
 cases h with
 |agg cs ds hl h=>exact ⟨hl,h⟩
 |val=>
  cases v with
  |agg cs=>simp [V.leafy] at hd
  |_=>
   refine ⟨rfl,?_⟩
   intro i x y h1 h2
   cases i with
   |zero=>simp [Value.cells,V.cells] at h1 h2;subst h1 h2;exact .val _
   |succ i=>simp [V.cells] at h2
 |tup cs ds hl h=>
  refine ⟨rfl,?_⟩
  intro i x y h1 h2
  cases i with
  |zero=>simp [Value.cells,V.cells] at h1 h2;subst h1 h2;exact .tup cs ds hl h
  |succ i=>simp [V.cells] at h2
 |slemp a0 cap0=>
  refine ⟨rfl,?_⟩
  intro i x y h1 h2
  cases i with
  |zero=>simp [Value.cells,V.cells] at h1 h2;subst h1 h2;exact .slemp a0 cap0
  |succ i=>simp [V.cells] at h2
 |sl b off cap k es g hF hcap hk hg hr=>
  refine ⟨rfl,?_⟩
  intro i x y h1 h2
  cases i with
  |zero=>simp [Value.cells,V.cells] at h1 h2;subst h1 h2;exact .sl b off cap k es g hF hcap hk hg hr
  |succ i=>simp [V.cells] at h2
 |clo f cs ds hl h=>
  refine ⟨rfl,?_⟩
  intro i x y h1 h2
  cases i with
  |zero=>simp [Value.cells,V.cells] at h1 h2;subst h1 h2;exact .clo f cs ds hl h
  |succ i=>simp [V.cells] at h2
 |pp b off cs g hF hg hr=>
  refine ⟨rfl,?_⟩
  intro i x y h1 h2
  cases i with
  |zero=>simp [Value.cells,V.cells] at h1 h2;subst h1 h2;exact .pp b off cs g hF hg hr
  |succ i=>simp [V.cells] at h2
 |tl t xs v h0=>
  obtain ⟨a0,cap0,rfl,_⟩:=zA9 h0
  refine ⟨rfl,?_⟩
  intro i x y h1 h2
  cases i with
  |zero=>simp [Value.cells,V.cells] at h1 h2;subst h1 h2;exact .tl t xs _ (by simpa using h0)
  |succ i=>simp [V.cells] at h2
 |rfn=>
  refine ⟨rfl,?_⟩
  intro i x y h1 h2
  cases i with
  |zero=>simp [Value.cells,V.cells] at h1 h2;subst h1 h2;exact .rfn
  |succ i=>simp [V.cells] at h2
 |rf id a0 n0 c0 h0=>
  refine ⟨rfl,?_⟩
  intro i x y h1 h2
  cases i with
  |zero=>simp [Value.cells,V.cells] at h1 h2;subst h1 h2;exact .rf id a0 n0 c0 h0
  |succ i=>simp [V.cells] at h2
 |hd id a0 h0=>
  refine ⟨rfl,?_⟩
  intro i x y h1 h2
  cases i with
  |zero=>simp [Value.cells,V.cells] at h1 h2;subst h1 h2;exact .hd id a0 h0
  |succ i=>simp [V.cells] at h2
def zGW (w:World) (F:Blk→Prop) (c:Array Value) (ds:List V):Prop:=
 c.size=ds.length∧ ∀ (i:Nat) (x:Value) (y:V),c[i]? =some x→ds[i]? =some y→Rd w F x y
theorem zGW.set {c:Array Value} {ds:List V} (h:zGW w F c ds) (m:Nat) {x:Value} {y:V} (hx:Rd w F x y):zGW w F (c.setIfInBounds m x) (ds.set m y):=by
 refine ⟨by simp [h.1],?_⟩
 intro i x' y' h1 h2
 by_cases hi:m=i
 ·subst hi
  have hlt:m< (ds.set m y).length:=(List.getElem?_eq_some_iff.1 h2).1
  simp at hlt
  have hs:=h.1
  rw [Array.getElem?_setIfInBounds_self_of_lt (by omega)] at h1
  rw [List.getElem?_set_self hlt] at h2
  simp only [Option.some.injEq] at h1 h2
  subst h1 h2;exact hx
 ·rw [Array.getElem?_setIfInBounds_ne hi] at h1
  rw [List.getElem?_set_ne hi] at h2
  exact h.2 i x' y' h1 h2
theorem zNU (off:Nat): ∀ (vs:List Value) (ds:List V) (n:Nat) (c:Array Value) (cs:List V),
  vs.length=ds.length→(∀ (i:Nat) (x:Value) (y:V),vs[i]? =some x→ds[i]? =some y→Rd w F x y)→zGW w F c cs→
  zGW w F ((vs.zipIdx n).foldl (fun cs (c,j)=>cs.setIfInBounds (off+j) c) c) ((ds.zipIdx n).foldl (fun cs (c,j)=>cs.set (off+j) c) cs):=by
 intro vs
 induction vs with
 |nil=>intro ds n c cs hl _ hc;cases ds with
  |nil=>exact hc
  |cons d ds=>simp at hl
 |cons v vs ih=>
  intro ds n c cs hl hr hc
  cases ds with
  |nil=>simp at hl
  |cons d ds=>
   simp only [List.zipIdx_cons,List.foldl_cons]
   exact ih ds (n+1) _ _ (by simpa using hl) (fun i x y h1 h2=>hr (i+1) x y (by simpa using h1) (by simpa using h2)) (hc.set _ (hr 0 v d rfl rfl))
theorem zHv (place:Nat→Option (Nat×Nat)): ∀ (ps:List (Nat×Value)) (qs:List (Nat×V)) (c:Array Value) (cs ds:List V),
  ps.length=qs.length→(∀ (i:Nat) (x:Nat×Value) (y:Nat×V),ps[i]? =some x→qs[i]? =some y→x.1=y.1∧Rd w F x.2 y.2)→zGW w F c cs→
  zJq place cs qs=some ds→ ∃c',Instr.fill place c ps=some c'∧zGW w F c' ds:=by
 intro ps
 induction ps with
 |nil=>
  intro qs c cs ds hl _ hc h
  cases qs with
  |nil=>simp [zJq] at h;subst h;exact ⟨c,rfl,hc⟩
  |cons q qs=>simp at hl
 |cons p ps ih=>
  intro qs c cs ds hl hr hc h
  cases qs with
  |nil=>simp at hl
  |cons q qs=>
   obtain ⟨i,v⟩:=p
   obtain ⟨j,d⟩:=q
   obtain ⟨h1,h2⟩:=hr 0 _ _ rfl rfl
   simp only at h1 h2
   subst h1
   simp only [zJq] at h
   simp only [Instr.fill]
   split at h
   ·cases h
   ·rename_i off size hp
    split at h
    ·cases h
    ·rename_i hcond
     simp only [not_or] at hcond
     obtain ⟨hleaf,hsz,hfit⟩:=hcond
     obtain ⟨h3,h4⟩:=zBl h2 (by simpa using hleaf)
     have hcs:=hc.1
     simp only [hp]
     rw [if_neg (by simp;omega)]
     refine ih qs _ _ ds (by simpa using hl) (fun i x y h1 h2=>hr (i+1) x y (by simpa using h1) (by simpa using h2)) ?_ h
     have:=zNU (w:=w) (F:=F) off v.cells.toList d.cells 0 c cs (by simpa using h3) (fun i x y h1 h2=>h4 i x y (by simpa using h1) h2) hc
     rw [←Array.foldl_toList]
     simpa using this
theorem zE8 {a:Act} : ∀ (ps:List (Nat×Operand)) (qs:List (Nat×V)),(∀p,p∈ps→zE w F β al (a.eval p.2) (evx G e p.2))→
  vT G e ps=some qs→(ps.map fun (i,x)=>(i,a.eval x)).length=qs.length∧
  ∀ (i:Nat) (x:Nat×Value) (y:Nat×V),(ps.map fun (i,x)=>(i,a.eval x))[i]? =some x→qs[i]? =some y→x.1=y.1∧Rd w F x.2 y.2:=by
 intro ps
 induction ps with
 |nil=>intro qs _ h;simp [vT] at h;subst h;exact ⟨rfl,fun i x y h1=>by simp at h1⟩
 |cons p ps ih=>
  intro qs hr h
  obtain ⟨i,x⟩:=p
  simp only [vT] at h
  split at h
  ·rename_i d ds hd hds
   simp only [Option.some.injEq] at h
   subst h
   obtain ⟨h1,h2⟩:=ih ds (fun p hp=>hr p (List.mem_cons_of_mem _ hp)) hds
   refine ⟨by simpa using h1,?_⟩
   intro n u y hu hy
   cases n with
   |zero=>
    simp at hu hy;subst hu hy
    refine ⟨rfl,?_⟩
    have h3:=hr (i,x) (by simp)
    simp only [hd] at h3
    exact h3
   |succ n=>exact h2 n u y (by simpa using hu) (by simpa using hy)
  ·cases h
theorem zA1 {a:Act} : ∀ (xs:List Operand) (ds:List V),(∀x,x∈xs→zE w F β al (a.eval x) (evx G e x))→
  vU G e xs=some ds→xs.length=ds.length∧ ∀ (i:Nat) (x:Value) (y:V),(xs.map a.eval)[i]? =some x→ds[i]? =some y→Rd w F x y:=by
 intro xs
 induction xs with
 |nil=>intro qs _ h;simp [vU] at h;subst h;exact ⟨rfl,fun i x y h1=>by simp at h1⟩
 |cons x xs ih=>
  intro qs hr h
  simp only [vU] at h
  split at h
  ·rename_i d ds hd hds
   simp only [Option.some.injEq] at h
   subst h
   obtain ⟨h1,h2⟩:=ih ds (fun p hp=>hr p (List.mem_cons_of_mem _ hp)) hds
   refine ⟨by simpa using h1,?_⟩
   intro n u y hu hy
   cases n with
   |zero=>
    simp at hu hy;subst hu hy
    have h3:=hr x (by simp)
    rw [hd] at h3
    exact h3
   |succ n=>exact h2 n u y (by simpa using hu) (by simpa using hy)
  ·cases h
end
end Go.Ve
