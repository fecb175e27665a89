/-
  Sorting by the kit's contract of slices.SortFunc: lists of flat data, as contracts over typed data want it.
-/
import Derived.Shelf.SlSortCmp.InsertionK
import Derived.Test.YtcnlcmbchljpgaaGreatQb11
set_option linter.unusedVariables false
namespace Go.Ve
open Go Go.Proofs Go.Sort Go.Shelf
def Ty.vals:(t:Ty)→t.El→List Value
 | .int k,n=>[.int k n]
 | .bool,b=>[.bool b]
 | .str,s=>[.string s]
 | .unit,_=>[]
 | .pair a b,x=>a.vals x.1++b.vals x.2
 | .sl _,_=>[]
 | .rf,_=>[]
theorem zDz: ∀ (t:Ty) (x:t.El),t.flat=true→t.cells x=(t.vals x).map V.val:=by
 intro t
 induction t with
 |pair a b iha ihb=>
  intro x h
  simp only [Ty.flat,Bool.and_eq_true] at h
  simp only [Ty.cells,Ty.vals,List.map_append,iha x.1 h.1,ihb x.2 h.2]
 |sl t _=>intro x h;cases h
 |rf=>intro x h;cases h
 |_=>intro x _;rfl
theorem zEN (t:Ty) (x:t.El) (h:t.flat=true):(t.vals x).length=t.size:=by
 have h1:=qO t x
 rw [zDz t x h,List.length_map] at h1
 exact h1
theorem zO7: ∀ (t:Ty) (x:t.El), ∀v∈t.vals x,v.oneCell'=true:=by
 intro t
 induction t with
 |pair a b iha ihb=>
  intro x v hv
  simp only [Ty.vals,List.mem_append] at hv
  exact hv.elim (iha x.1 v) (ihb x.2 v)
 |sl t _=>intro x v hv;cases hv
 |rf=>intro x v hv;cases hv
 |unit=>intro x v hv;cases hv
 |int k=>intro x v hv;simp only [Ty.vals,List.mem_singleton] at hv;subst hv;rfl
 |bool=>intro x v hv;simp only [Ty.vals,List.mem_singleton] at hv;subst hv;rfl
 |str=>intro x v hv;simp only [Ty.vals,List.mem_singleton] at hv;subst hv;rfl
theorem zKH {w:World} {F:Blk→Prop} {t:Ty} (h:t.flat=true) (x:t.El):Rd w F (.agg (t.vals x).toArray) (.agg (t.cells x)):=by
 rw [zDz t x h]
 refine .agg _ _ (by simp) ?_
 intro i u d hu hd
 rw [List.getElem?_map] at hd
 simp only [List.getElem?_toArray] at hu
 rw [hu] at hd
 simp only [Option.map_some,Option.some.injEq] at hd
 subst hd
 exact .val u
theorem zQT {W W':World} (h:zBX (fun _=>False) W W'): ∃q os',W'=grow (W.drewN q) os':=by
 obtain ⟨h1,h2,h3,h4,h5,h6⟩:=h
 refine ⟨W'.drawn-W.drawn,W'.heap.extract W.heap.size W'.heap.size,?_⟩
 have hh:W'.heap=W.heap++W'.heap.extract W.heap.size W'.heap.size:=by
  apply Array.ext_getElem?
  intro i
  rw [Array.getElem?_append]
  split
  ·rename_i hi
   exact h5 i hi (fun h=>h)
  ·rename_i hi
   rw [Array.getElem?_extract]
   by_cases hi2:i<W'.heap.size
   ·rw [if_pos (by omega)]
    congr 1;omega
   ·rw [if_neg (by omega)]
    exact Array.getElem?_eq_none (by omega)
 have hd:W'.drawn=W.drawn+(W'.drawn-W.drawn):=by omega
 cases W'
 cases W
 simp only at h1 h2 h3 hh hd
 subst h1 h2 h3
 simp only [grow,World.drewN,World.mk.injEq]
 exact ⟨hh,trivial,hd,trivial,trivial⟩
theorem zRU {P:Program} {g:FuncId} {a b:Ty} [Inhabited (Ty.pair a b).El] (hfl:(Ty.pair a b).flat=true) {c:ElS [.pair a b, .pair a b]→Option Int} {cf:(Ty.pair a b).El→(Ty.pair a b).El→Int}
  (hg:j7 jI P (fun _=>none) g (qG (jV [.pair a b, .pair a b] (.p (.int .i64)) c))) (hc: ∀x y,c (x,y,())=some (cf x y)) (blk off size:Nat) (w:World):
  CmpLays P g #[] (Ty.pair a b).vals (Ty.pair a b).size cf blk off size w:=by
 intro m os dk _ x y
 generalize sortWorldK (Ty.pair a b).vals (Ty.pair a b).size w blk off m dk os=W
 have hsp:qG (Γ:=jI) (jV [.pair a b, .pair a b] (.p (.int .i64)) c) () (vA [.pair a b, .pair a b] (x,y,()))=some ((), .p (.val (.int .i64 (cf x y)))):=by
  simp only [qG,jV,wF,zCn]
  rw [hc x y]
  rfl
 have h:=hg W (fun _=>False) (fun _=>False) () #[.agg ((Ty.pair a b).vals x).toArray, .agg ((Ty.pair a b).vals y).toArray] (vA [.pair a b, .pair a b] (x,y,())) () (.p (.val (.int .i64 (cf x y)))) (fun b hb=>hb) (fun g cs hg=>by cases hg) (fun b hb=>hb.elim) rfl (by
  intro i u d hu hd
  match i with
  |0=>
   simp [vA] at hu hd
   subst hu hd
   exact zKH hfl x
  |1=>
   simp [vA] at hu hd
   subst hu hd
   exact zKH hfl y
  |i+2=>simp [vA] at hd) hsp
 rw [Array.append_empty]
 refine h.mono ?_
 rintro e w' ⟨v,F',O',rfl,_,hk,_,_,_,hret⟩
 have hv:v= .int .i64 (cf x y):=Rd.eq_val hret
 subst hv
 exact ⟨rfl,zQT hk⟩
theorem zNB {w:World} {F:Blk→Prop} {t:Ty} (hfl:t.flat=true) [Inhabited t.El] {b cap:Nat} {xs:List t.El} (h:z2 w F b t.size cap (xs.map t.enc)):HoldsK t.vals t.size w b 0 xs.toArray:=by
 obtain ⟨c,et,h1,h2,h3,h4,h5⟩:=h
 intro j hj
 rw [size_flatK] at hj
 have hj:j<xs.length*t.size:=by simpa using hj
 have hk:0<t.size:=by
  rcases Nat.eq_zero_or_pos t.size with h|h
  ·rw [h] at hj;omega
  ·exact h
 have hi:j / t.size<xs.length:=by rw [Nat.div_lt_iff_lt_mul hk];exact hj
 have hm:j%t.size<t.size:=Nat.mod_lt _ hk
 have hjs:j / t.size*t.size+j%t.size=j:=by rw [Nat.mul_comm];exact Nat.div_add_mod j t.size
 simp only [List.length_map] at h3
 have hcs:j<c.size:=by
  rw [h2]
  exact Nat.lt_of_lt_of_le hj (Nat.mul_le_mul_right _ h3)
 rw [get_flatK _ _ _ _ (by simpa using hj)]
 have hx:xs.toArray[j / t.size]! =xs[j / t.size]:=by simp [hi]
 rw [hx]
 have hvl:j%t.size< (t.vals xs[j / t.size]).length:=by rw [zEN t _ hfl];exact hm
 have hce:c[j]? =some (t.vals xs[j / t.size])[j%t.size]! :=by
  have hr:=h5 (j / t.size) (j%t.size) (t.enc xs[j / t.size]) (.val (t.vals xs[j / t.size])[j%t.size]!) c[j] (by simp [hi]) (by
   rw [qL,zDz t _ hfl,List.getElem?_map]
   simp [hvl]) (by rw [hjs];simp [hcs])
  rw [Array.getElem?_eq_getElem hcs,Rd.eq_val hr]
 refine ⟨?_,?_⟩
 ·simp only [World.cell?,h1,Nat.zero_add,Option.isSome_none,Bool.false_eq_true,if_false]
  exact hce
 ·simp only [World.frozen?,h1]
  simp
theorem zTI {w:World} {b:Nat} {c:Array Value} {et:TypeId} {fr:Nat×Nat} (h:w.heap[b]? =some (.cells c et fr)) {α:Type} [Inhabited α] (enc:α→List Value) (k n off:Nat) (d:Array α) (os:Array Obj):
  (sortWorldK enc k w b off n d os).heap[b]? =some (.cells (putCells id off (flatK enc k d) c) et fr):=by
 have hb:b<w.heap.size:=(Array.getElem?_eq_some_iff.1 h).1
 unfold sortWorldK grow putRowK putRow mapBlock
 simp only [Sort.ahead]
 rw [Array.getElem?_append_left (by simpa using hb),Array.getElem?_modify]
 simp only [if_true,h,Option.map_some,onCells]
theorem zMq {w:World} {b i:Nat} (hi:i<w.heap.size) (hne:i≠b) {α:Type} [Inhabited α] (enc:α→List Value) (k n off:Nat) (d:Array α) (os:Array Obj):
  (sortWorldK enc k w b off n d os).heap[i]? =w.heap[i]? :=by
 unfold sortWorldK grow putRowK putRow mapBlock
 simp only [Sort.ahead]
 rw [Array.getElem?_append_left (by simpa using hi),Array.getElem?_modify,if_neg (fun h=>hne h.symm)]
theorem zLc {w:World} {F F':Blk→Prop} {t:Ty} (hfl:t.flat=true) [Inhabited t.El] {b cap n:Nat} {xs:List t.El} {d:Array t.El} {os:Array Obj} (h:z2 w F b t.size cap (xs.map t.enc)) (hd:d.size=xs.length):
  z2 (sortWorldK t.vals t.size w b 0 n d os) F' b t.size cap (d.toList.map t.enc):=by
 obtain ⟨c,et,h1,h2,h3,h4,h5⟩:=h
 refine ⟨_,et,zTI h1 t.vals t.size n 0 d os,by simp [putCells,h2],by simpa [hd] using h3,?_,?_⟩
 ·intro e he
  obtain ⟨x,_,rfl⟩:=List.mem_map.1 he
  rw [qL,qO]
 ·intro i j e dd x he hdd hx
  rw [List.getElem?_map] at he
  have hi:i<d.size:=by
   rcases Nat.lt_or_ge i d.size with h|h
   ·exact h
   ·rw [List.getElem?_eq_none (by simpa using h)] at he;cases he
  have hde:d.toList[i]? =some d[i]:=by simp [hi]
  rw [hde] at he
  simp only [Option.map_some,Option.some.injEq] at he
  subst he
  rw [qL,zDz t _ hfl,List.getElem?_map] at hdd
  have hj:j<t.size:=by
   rcases Nat.lt_or_ge j t.size with h|h
   ·exact h
   ·rw [List.getElem?_eq_none (by rw [zEN t _ hfl];exact h)] at hdd;cases hdd
  have hvl:j< (t.vals d[i]).length:=by rw [zEN t _ hfl];exact hj
  rw [List.getElem?_eq_getElem hvl] at hdd
  simp only [Option.map_some,Option.some.injEq] at hdd
  subst hdd
  have hlt:i*t.size+j<d.size*t.size:=by
   have:(i+1)*t.size≤d.size*t.size:=Nat.mul_le_mul_right _ hi
   rw [Nat.succ_mul] at this
   omega
  have hk:0<t.size:=by omega
  have e1:(i*t.size+j) / t.size=i:=by
   rw [Nat.mul_comm,Nat.mul_add_div hk,Nat.div_eq_of_lt hj,Nat.add_zero]
  have e2:(i*t.size+j)%t.size=j:=by
   rw [Nat.mul_comm,Nat.mul_add_mod,Nat.mod_eq_of_lt hj]
  unfold putCells at hx
  rw [Array.getElem?_mapIdx] at hx
  cases hc:c[i*t.size+j]? with
  |none=>rw [hc] at hx;cases hx
  |some u=>
   rw [hc] at hx
   simp only [Option.map_some,Option.some.injEq,Nat.zero_le,Nat.zero_add,true_and,size_flatK] at hx
   rw [if_pos hlt,Nat.sub_zero,get_flatK _ _ _ _ hlt,e1,e2] at hx
   have hdi:d[i]! =d[i]:=by simp [hi]
   rw [hdi] at hx
   have:(t.vals d[i])[j]! =(t.vals d[i])[j]:=by simp [hvl]
   rw [←hx,id,this]
   exact .val _
end Go.Ve
