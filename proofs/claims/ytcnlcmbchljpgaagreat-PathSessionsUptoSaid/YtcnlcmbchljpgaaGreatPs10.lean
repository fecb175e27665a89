/-
  Functions out of code, part 7: slices that go by a number: a state of lists; append.
  Functions out of code, part 8: contracts over a state of lists; from such a state to none, and from none to any.
  Functions out of code, part 9: a function with a state of lists of its own is a function without.
  Functions out of code: views, tables, static routes.
  Functions out of code: distance-vector and path-vector routing.
-/
import Derived.Test.YtcnlcmbchljpgaaGreatPs9
set_option linter.unusedVariables false
namespace Go.Ve
open Go
abbrev HSt (t:Ty):=List (Option (List t.El))
structure zTZ (t:Ty) (st:HSt t) (F:Blk→Prop) (O:Nat→Prop) (w:World) (hb hc:Nat→Nat):Prop where
 hdl: ∀id xs,st[id]? =some (some xs)→ ∀a n c,F (.h id a n c)↔(a=some ⟨hb id,0,none⟩∧n=xs.length∧c=hc id)
 out: ∀id,st.length≤id→ ∀a n c, ¬F (.h id a n c)
 row: ∀id xs,st[id]? =some (some xs)→xs≠[]∧O (hb id)∧qG w (fun _=>False) (hb id) t.size (hc id) (xs.map t.enc)
 dist: ∀id id' xs xs',st[id]? =some (some xs)→st[id']? =some (some xs')→hb id=hb id'→id=id'
 own: ∀b,O b→ ∃id xs,st[id]? =some (some xs)∧hb id=b
theorem qG.same {w w':World} {F:Blk→Prop} {b k cap:Nat} {es:List V} (h:qG w (fun _=>False) b k cap es) (hw:w'.heap[b]? =w.heap[b]?):qG w' F b k cap es:=by
 obtain ⟨c,et,h1,h2,h3,h4,h5⟩:=h
 exact ⟨c,et,hw.trans h1,h2,h3,h4,fun i j e d x a1 a2 a3=>(h5 i j e d x a1 a2 a3).mono (fun _ h=>h.elim) (fun _ h=>h.elim)⟩
def jX (t:Ty):Sig where
 St:=HSt t
 R:=fun st F O w=> ∃hb hc,zTZ t st F O w hb hc
 mono:=by
  rintro s F F' O w w' ⟨hb,hc,h⟩ hF hO
  refine ⟨hb,hc,?_,?_,?_,h.dist,h.own⟩
  ·intro id xs hx a n c;rw [hF];exact h.hdl id xs hx a n c
  ·intro id hx a n c hh;exact h.out id hx a n c ((hF id a n c).1 hh)
  ·intro id xs hx
   obtain ⟨h1,h2,h3⟩:=h.row id xs hx
   exact ⟨h1,h2,h3.same (hO _ h2)⟩
 inb:=by
  rintro s F O w ⟨hb,hc,h⟩ b hO
  obtain ⟨id,xs,h1,rfl⟩:=h.own b hO
  obtain ⟨_,_,c,et,h3,_⟩:=h.row id xs h1
  exact (Array.getElem?_eq_some_iff.1 h3).1
def zOJ {t:Ty} (bytes:Nat) (st:HSt t) (q:Option (Nat×Nat)) (ys:List t.El):Option (HSt t×Option (Nat×Nat)):=
 match ys with
 |[]=>none
 |y::r=>match q with
  |none=>if (2*(y::r).length+1024)*bytes≤140737488355328 then some (st++[some (y::r)],some (st.length,(y::r).length)) else none
  |some (id,_)=>match st[id]? with
   |some (some xs)=>if (2*(xs.length+(y::r).length)+1024)*bytes≤140737488355328 then some (st.set id none++[some (xs++y::r)],some (st.length,(xs++y::r).length)) else none
   |_=>none
theorem zCU {t:Ty} (h:t.flat=true) {x:t.El} {d:V} (hd:d∈(t.enc x).cells) {w w':World} {F F':Blk→Prop} {v:Value} (hr:Rd w F v d):Rd w' F' v d:=by
 rw [qP] at hd
 have:=zAt (zPl t x h d hd)
 rw [this] at hr ⊢
 rw [Rd.eq_val hr]
 exact .val _
theorem zWe {t:Ty} (h:t.flat=true) {w:World} {F F':Blk→Prop} {b k cap:Nat} {xs:List t.El} (hr:qG w F b k cap (xs.map t.enc)):qG w F' b k cap (xs.map t.enc):=by
 obtain ⟨c,et,h1,h2,h3,h4,h5⟩:=hr
 refine ⟨c,et,h1,h2,h3,h4,fun i j e d x a1 a2 a3=> ?_⟩
 simp only [List.getElem?_map,Option.map_eq_some_iff] at a1
 obtain ⟨y,hy,rfl⟩:=a1
 exact zCU h (List.mem_of_getElem? a2) (h5 i j (t.enc y) d x (by simp [hy]) a2 a3)
theorem qU {α:Type} {st:List (Option α)} {id j:Nat} {z:α} {xs:α} (h:(st.set id none++[some z])[j]? =some (some xs)):(j=st.length∧xs=z)∨(j≠id∧j<st.length∧st[j]? =some (some xs)):=by
 by_cases hj:j<st.length
 ·rw [List.getElem?_append_left (by simpa using hj)] at h
  by_cases hid:id=j
  ·subst hid;rw [List.getElem?_set_self hj] at h;cases h
  ·rw [List.getElem?_set_ne hid] at h;exact .inr ⟨Ne.symm hid,hj,h⟩
 ·rw [List.getElem?_append_right (by simp;omega)] at h
  simp only [List.length_set] at h
  have h0:j-st.length=0:=by
   rcases Nat.eq_zero_or_pos (j-st.length) with h0|h0
   ·exact h0
   ·rw [List.getElem?_eq_none (by simp;omega)] at h;cases h
  rw [h0] at h
  simp at h
  exact .inl ⟨by omega,h.symm⟩
section
variable {t:Ty} {P:Program}
theorem zHT (hfl:t.flat=true) {st:HSt t} {F:Blk→Prop} {O:Nat→Prop} {w w':World} {hb hc:Nat→Nat} (h:zTZ t st F O w hb hc) (hF: ∀b:Nat,F b→b<w.heap.size∧ ¬O b)
  {id:Nat} {zs:List t.El} (hz:zs≠[]) {blk cap:Nat} {O':Nat→Prop} (hk:zCt O w w') (hO1: ∀b,O' b↔(b=blk∨(O b∧ ∀xs,st[id]? =some (some xs)→b≠hb id)))
  (hblk:O blk∨w.heap.size≤blk) (hblt:blk<w'.heap.size) (hrow:qG w' F blk t.size cap (zs.map t.enc))
  (hold: ∀j xs,j≠id→st[j]? =some (some xs)→hb j≠blk∧w'.heap[hb j]? =w.heap[hb j]?) (hid:id<st.length→ ∃xs,st[id]? =some (some xs)):
  zTV (jX t) w F O (.slice (some ⟨blk,0,none⟩) zs.length cap) w' (st.set id none++[some zs]) (.rf (some (st.length,zs.length))):=by
 let F':Blk→Prop:=fun b=>F b∨b= .h st.length (some ⟨blk,0,none⟩) zs.length cap
 have hOO: ∀b,O' b→O b∨w.heap.size≤b:=fun b hb0=>by
  rcases (hO1 b).1 hb0 with rfl|h1
  ·exact hblk
  ·exact .inl h1.1
 refine ⟨F',O',⟨fun j=>if j=st.length then blk else hb j,fun j=>if j=st.length then cap else hc j,?_,?_,?_,?_,?_⟩,hk,hOO,fun b hb=> .inl hb,?_, .rf _ _ _ _ (.inr rfl)⟩
 ·intro j xs hj a n c
  rcases qU hj with ⟨rfl,rfl⟩|⟨hne,hlt,hj⟩
  ·simp only [if_true,F']
   constructor
   ·rintro (hh|hh)
    ·exact absurd hh (h.out _ (Nat.le_refl _) _ _ _)
    ·cases hh;exact ⟨rfl,rfl,rfl⟩
   ·rintro ⟨rfl,rfl,rfl⟩;exact .inr rfl
  ·have hne':j≠st.length:=by omega
   simp only [if_neg hne',F']
   rw [←h.hdl j xs hj]
   constructor
   ·rintro (hh|hh)
    ·exact hh
    ·cases hh;exact absurd rfl hne'
   ·exact .inl
 ·intro j hj a n c
  simp only [List.length_append,List.length_set,List.length_singleton] at hj
  rintro (hh|hh)
  ·exact h.out j (by omega) _ _ _ hh
  ·cases hh;omega
 ·intro j xs hj
  rcases qU hj with ⟨rfl,rfl⟩|⟨hne,hlt,hj⟩
  ·simp only [if_true]
   exact ⟨hz,(hO1 _).2 (.inl rfl),zWe hfl hrow⟩
  ·have hne':j≠st.length:=by omega
   simp only [if_neg hne']
   obtain ⟨h1,h2,h3⟩:=h.row j xs hj
   refine ⟨h1,(hO1 _).2 (.inr ⟨h2,fun ys hy hh=>hne (h.dist j id xs ys hj hy hh)⟩),h3.same (hold j xs hne hj).2⟩
 ·intro j j' xs xs' hj hj' hh
  rcases qU hj with ⟨rfl,rfl⟩|⟨hne,hlt,hj1⟩<;>rcases qU hj' with ⟨rfl,rfl⟩|⟨hne',hlt',hj1'⟩
  ·rfl
  ·have h1:j'≠st.length:=by omega
   simp only [if_true,if_neg h1] at hh
   exact absurd hh.symm (hold j' xs' hne' hj1').1
  ·have h1:j≠st.length:=by omega
   simp only [if_true,if_neg h1] at hh
   exact absurd hh (hold j xs hne hj1).1
  ·have h1:j≠st.length:=by omega
   have h2:j'≠st.length:=by omega
   simp only [if_neg h1,if_neg h2] at hh
   exact h.dist j j' xs xs' hj1 hj1' hh
 ·intro b hb0
  rcases (hO1 b).1 hb0 with rfl|⟨h1,h2⟩
  ·refine ⟨st.length,zs,?_,by simp⟩
   rw [List.getElem?_append_right (by simp)];simp
  ·obtain ⟨j,xs,hj,rfl⟩:=h.own b h1
   have hlt:=(List.getElem?_eq_some_iff.1 hj).1
   have hji:j≠id:=by
    rintro rfl
    exact h2 xs hj rfl
   refine ⟨j,xs,?_,by simp [show j≠st.length by omega]⟩
   rw [List.getElem?_append_left (by simpa using hlt),List.getElem?_set_ne (Ne.symm hji)]
   exact hj
 ·intro b hb0
  rcases hb0 with hb0|hb0
  ·obtain ⟨h1,h2⟩:=hF b hb0
   refine ⟨.inl hb0,Nat.lt_of_lt_of_le h1 hk.size,fun ho=> ?_⟩
   rcases hOO b ho with ho|ho
   ·exact h2 ho
   ·omega
  ·cases hb0
theorem zYr (hfl:t.flat=true) {bytes:Nat} {st st':HSt t} {q q':Option (Nat×Nat)} {ys:List t.El} (h:zOJ bytes st q ys=some (st',q')):
  zY1 (jX t) P st q t ys bytes st' (.rf q'):=by
 intro ts ty t0 t1 el el1 info z w F O v0 v1 hts0 hts1 hu0 hu1 hinfo hz hsz hby hzc hbytes hR hF hr0 hr1
 subst hbytes
 obtain ⟨hb,hc,hR⟩:=hR
 have hk2: ∀q,q∈ys.map t.enc→q.cells.length=info.size:=by
  intro q hq
  simp only [List.mem_map] at hq
  obtain ⟨y,_,rfl⟩:=hq
  rw [wZ];exact hsz
 have ho2: ∀q,q∈ys.map t.enc→q.cells.all V.one=true:=by
  intro q hq
  simp only [List.mem_map] at hq
  obtain ⟨y,_,rfl⟩:=hq
  rw [qP];exact zLf t y
 obtain ⟨a1,cap1,cells,hv1,hcap1,hl2,hrun2,hr2⟩:=zI4 (P:=P) (β:=⟨id,id⟩) (al:=fun _=>False) (x:= .p (.sl (ys.map t.enc))) hr1.untl rfl hk2
 simp only [List.length_map] at hv1 hcap1 hl2 hrun2
 have hs:jY P el=some info.size:=zBa hinfo
 have hrest: ∀m,(Builtin.zeroCells z.cells m).size=m*info.size:=by
  intro m;simp only [Builtin.zeroCells,Array.size_map,Array.size_range];rw [hzc]
 unfold zOJ at h
 split at h
 ·cases h
 ·rename_i y r
  have hl2':cells.length=((y::r).map t.enc).length*info.size:=by simpa using hl2
  split at h
  ·-- nil
   split at h
   ·rename_i hbound
    simp only [Option.some.injEq,Prod.mk.injEq] at h
    obtain ⟨rfl,rfl⟩:=h
    cases hr0 with
    |rfn=>
     obtain ⟨newCap,hnc,hrun⟩:=zAz (P:=P) (w:=w) (ts:=ts) (ty:=ty) (len:=0) (cap:=0) (n:=(y::r).length) (cap1:=cap1) (a0:=none) (a1:=a1) (cells:=cells) (old:=[]) hts0 hts1 hu0 hu1 hinfo hz
      (by rw [←hv1];exact hrun2 w.drew rfl) (by simp [Builtin.firstCells]) (by simp) hby (by simpa using hbound)
     rw [←hv1] at hrun
     simp only [Nat.zero_add] at hnc hrun
     refine ⟨_,_,hrun,?_⟩
     have hrow:=zJd (w':=w.drew.alloc (.cells (([]:List Value).toArray++(cells.toArray++Builtin.zeroCells z.cells (newCap- (y::r).length))) el)) (F:=F) (b:=w.heap.size) (k:=info.size) (cap:=newCap) (es:=[]) (es2:=(y::r).map t.enc) (et:=el) (old:=[]) (cells:=cells)
      (by simp) hk2 (by simp) hl2' (fun i j q y hi hj=>by simp at hi) (fun i j e d hi hj=>by
       obtain ⟨x,hx,hrx⟩:=hr2 i j e d hi hj
       simp only [List.getElem?_map,Option.map_eq_some_iff] at hi
       obtain ⟨y0,_,rfl⟩:=hi
       exact ⟨x,hx,zCU hfl (List.mem_of_getElem? hj) hrx⟩) (by simpa using hnc) (by simpa using hrest _) (zAp (w:=w.drew))
     rw [List.nil_append, ←hsz] at hrow
     have hset:st.set st.length none=st:=List.set_eq_of_length_le (Nat.le_refl _)
     have:=zHT (w':=w.drew.alloc (.cells (([]:List Value).toArray++(cells.toArray++Builtin.zeroCells z.cells (newCap- (y::r).length))) el)) (O':=fun b=>b=w.heap.size∨O b) (id:=st.length) hfl hR hF (zs:=y::r) (by simp) (blk:=w.heap.size) (cap:=newCap)
      ⟨rfl,rfl,rfl,by simp,fun b hb _=>wT (w:=w.drew) hb,Nat.le_succ _⟩ (fun b=>by
       constructor
       ·rintro (rfl|hh)
        ·exact .inl rfl
        ·exact .inr ⟨hh,fun xs hx=>by simp at hx⟩
       ·rintro (rfl|hh)
        ·exact .inl rfl
        ·exact .inr hh.1) (.inr (Nat.le_refl _)) (by simp) hrow (fun j xs _ hj=>by
       have hlt:=(jX t).inb (⟨hb,hc,hR⟩:(jX t).R st F O w) _ (hR.row j xs hj).2.1
       exact ⟨by omega,wT (w:=w.drew) hlt⟩) (fun hh=>by omega)
     rw [hset] at this
     exact this
   ·cases h
  ·rename_i id n0
   split at h
   ·rename_i xs hst
    split at h
    ·rename_i hbound
     simp only [Option.some.injEq,Prod.mk.injEq] at h
     obtain ⟨rfl,rfl⟩:=h
     obtain ⟨hxne,hOid,hrow0⟩:=hR.row id xs hst
     cases hr0 with
     |rf _ a n c hh=>
      obtain ⟨rfl,rfl,rfl⟩:=(hR.hdl id xs hst _ _ _).1 hh
      obtain ⟨cc,et,g1,g2,g3,g4,g5⟩:=hrow0
      simp only [List.length_map] at g3
      rw [hsz] at g2 g4 g5
      by_cases hroom:xs.length+(y::r).length≤hc id
      ·have hfit:xs.length*info.size+(y::r).length*info.size≤cc.size:=by rw [←Nat.add_mul,g2];exact Nat.mul_le_mul_right _ hroom
       have hrun:=zFq (P:=P) (w:=w) (ts:=ts) (ty:=ty) (b:=hb id) (off:=0) (len:=xs.length) (cap:=hc id) (n:=(y::r).length) (cap1:=cap1) (a1:=a1) (cells:=cells) (c:=cc) (et:=et) hts0 hts1 hu0 hu1 hs
        (by rw [←hv1];exact hrun2 w rfl) hl2 g1 (by omega) (zT8 hl2' hk2 ho2 hr2) hroom
       rw [←hv1] at hrun
       simp only [Nat.zero_add] at hrun
       refine ⟨_,_,hrun,?_⟩
       have hlt:hb id<w.heap.size:=(Array.getElem?_eq_some_iff.1 g1).1
       have hrow:=zRb (w':=setBlk w (hb id) (.cells (wB cc (xs.length*info.size) cells) et (0,0))) (F:=F) (b:=hb id) (k:=info.size) (cap:=hc id) (es:=xs.map t.enc) (es2:=(y::r).map t.enc) (c:=cc) (et:=et) (cells:=cells)
        (by simpa using g2) g4 (fun i j e d x hi hj hx=>by
         simp only [List.getElem?_map,Option.map_eq_some_iff] at hi
         obtain ⟨y0,hy0,rfl⟩:=hi
         exact zCU hfl (List.mem_of_getElem? hj) (g5 i j _ d x (by simp [hy0]) hj hx)) hk2 hl2' (fun i j e d hi hj=>by
         obtain ⟨x,hx,hrx⟩:=hr2 i j e d hi hj
         simp only [List.getElem?_map,Option.map_eq_some_iff] at hi
         obtain ⟨y0,_,rfl⟩:=hi
         exact ⟨x,hx,zCU hfl (List.mem_of_getElem? hj) hrx⟩) (by simpa using hroom) (by simpa using zBR hlt)
       rw [←List.map_append, ←hsz] at hrow
       have:=zHT (w':=setBlk w (hb id) (.cells (wB cc (xs.length*info.size) cells) et (0,0))) (O':=O) (id:=id) hfl hR hF (zs:=xs++y::r) (by simp) (blk:=hb id) (cap:=hc id)
        ⟨rfl,rfl,rfl,by rw [zB7];exact Nat.le_refl _,fun b hb0 hno=>wC (fun hh=>hno (by rw [hh];exact hOid)),Nat.le_refl _⟩ (fun b=>by
         constructor
         ·intro hh
          by_cases hbb:b=hb id
          ·exact .inl hbb
          ·exact .inr ⟨hh,fun _ _=>hbb⟩
         ·rintro (rfl|hh)
          ·exact hOid
          ·exact hh.1) (.inl hOid) (by rw [zB7];exact hlt) (by rw [hsz] at hrow ⊢;exact hrow) (fun j xs' hne hj=>by
         have h1:hb j≠hb id:=fun hh=>hne (hR.dist j id xs' xs hj hst hh)
         exact ⟨h1,wC h1⟩) (fun _=>⟨xs,hst⟩)
       simpa using this
      ·obtain ⟨a0,cap0,old,hv0',hcap0,hl1,hrun1,hr1⟩:=zI4 (P:=P) (w:=w) (F:=F) (β:=⟨fun _=>hb id,fun _=>hb id⟩) (al:=fun _=>True) (x:= .ow 0 info.size (xs.map t.enc)) (v:= .slice (some ⟨hb id,0,none⟩) xs.length (hc id)) (k:=info.size)
        ⟨trivial,hc id,by simp,cc,et,g1,g2,by simpa using g3,g4,fun i j e d x hi hj hx=>(g5 i j e d x hi hj hx).mono (fun _ h=>h.elim) (fun _ h=>h.elim)⟩ rfl g4
       simp only [List.length_map] at hv0' hcap0 hl1 hrun1
       have hcc:cap0=hc id:=by simp at hv0';exact hv0'.2.symm
       have haa:a0=some ⟨hb id,0,none⟩:=by simp at hv0';exact hv0'.1.symm
       subst hcc haa
       obtain ⟨newCap,hnc,hrun⟩:=zAz (P:=P) (w:=w) (ts:=ts) (ty:=ty) (len:=xs.length) (cap:=hc id) (n:=(y::r).length) (cap1:=cap1) (a0:=some ⟨hb id,0,none⟩) (a1:=a1) (cells:=cells) (old:=old) hts0 hts1 hu0 hu1 hinfo hz
        (by rw [←hv1];exact hrun2 w.drew rfl) (hrun1 w.drew rfl) hroom hby hbound
       rw [←hv1] at hrun
       refine ⟨_,_,hrun,?_⟩
       have hrow:=zJd (w':=w.drew.alloc (.cells (old.toArray++(cells.toArray++Builtin.zeroCells z.cells (newCap- (xs.length+(y::r).length)))) el)) (F:=F) (b:=w.heap.size) (k:=info.size) (cap:=newCap) (es:=xs.map t.enc) (es2:=(y::r).map t.enc) (et:=el) (old:=old) (cells:=cells) (rest:=Builtin.zeroCells z.cells (newCap- (xs.length+(y::r).length)))
        g4 hk2 (by simpa using hl1) hl2' (fun i j e d hi hj=>by
         obtain ⟨x,hx,hrx⟩:=hr1 i j e d hi hj
         simp only [List.getElem?_map,Option.map_eq_some_iff] at hi
         obtain ⟨y0,_,rfl⟩:=hi
         exact ⟨x,hx,zCU hfl (List.mem_of_getElem? hj) hrx⟩) (fun i j e d hi hj=>by
         obtain ⟨x,hx,hrx⟩:=hr2 i j e d hi hj
         simp only [List.getElem?_map,Option.map_eq_some_iff] at hi
         obtain ⟨y0,_,rfl⟩:=hi
         exact ⟨x,hx,zCU hfl (List.mem_of_getElem? hj) hrx⟩) (by simpa using hnc) (by simpa using hrest _) (zAp (w:=w.drew))
       rw [←List.map_append, ←hsz] at hrow
       have:=zHT (w':=w.drew.alloc (.cells (old.toArray++(cells.toArray++Builtin.zeroCells z.cells (newCap- (xs.length+(y::r).length)))) el)) (O':=fun b=>b=w.heap.size∨(O b∧b≠hb id)) (id:=id) hfl hR hF (zs:=xs++y::r) (by simp) (blk:=w.heap.size) (cap:=newCap)
        ⟨rfl,rfl,rfl,by simp,fun b hb _=>wT (w:=w.drew) hb,Nat.le_succ _⟩ (fun b=>by
         constructor
         ·rintro (rfl|hh)
          ·exact .inl rfl
          ·exact .inr ⟨hh.1,fun _ _=>hh.2⟩
         ·rintro (rfl|hh)
          ·exact .inl rfl
          ·exact .inr ⟨hh.1,hh.2 xs hst⟩) (.inr (Nat.le_refl _)) (by simp) (by rw [hsz] at hrow ⊢;exact hrow) (fun j xs' _ hj=>by
         have hlt:=(jX t).inb (⟨hb,hc,hR⟩:(jX t).R st F O w) _ (hR.row j xs' hj).2.1
         exact ⟨by omega,wT (w:=w.drew) hlt⟩) (fun _=>⟨xs,hst⟩)
       simpa using this
    ·cases h
   ·cases h
end
end Go.Ve

namespace Go.Ve
open Go
def zO.addH {t:Ty} (S:zO (jX t)):zO (jX t):=fun f s ds=>
 match Nat.beq f uX with
 |true=>match ds with
  |[.bot, .rf q, .tl t' ys, .val (.int _ b)]=>match zCC t' t ys with
   | .some zs=> .some ⟨HSt t×Option (Nat×Nat),zOJ b.toNat s q zs,fun y=>y.1,fun y=> .p (.rf y.2),false⟩
   | .none=>S f s ds
  |_=>S f s ds
 |false=>S f s ds
theorem zLo {t:Ty} {P:Program} {G:Nat→Option (List V)} {S:zO (jX t)} (hS:qC (jX t) P G S.toS) (hfl:t.flat=true) (hno:P.funcs[uX]? =none):
  qC (jX t) P G S.addH.toS:=by
 have e2: ∀g,g≠uX→S.addH.toS g=S.toS g:=by
  intro g hg
  funext s ds
  have:Nat.beq g uX=false:=by
   cases hb:Nat.beq g uX with
   |false=>rfl
   |true=>exact absurd (Nat.eq_of_beq_eq_true hb) hg
  simp only [zO.toS,zO.addH,this]
 have e1: ∀ (s:HSt t) (ds:List V) r,S.addH.toS uX s ds=some r→S.toS uX s ds=some r∨
   ∃q ys zs k b,ds=[.bot, .rf q, .tl t ys, .val (.int k b)]∧ ∃q',zOJ b.toNat s q ys=some (zs,q')∧r=(zs, .p (.rf q')):=by
  intro s ds r h
  have ht:Nat.beq uX uX=true:=Nat.beq_refl _
  simp only [zO.toS,zO.addH,ht] at h
  split at h
  ·rename_i c hc
   split at hc
   ·rename_i q t' ys k b
    cases hzs:zCC t' t ys with
    |none=>rw [hzs] at hc;simp only at hc;exact .inl (by simp only [zO.toS,hc];exact h)
    |some zs=>
     rw [hzs] at hc
     obtain ⟨htt,hz⟩:=kX (kQ hzs)
     subst htt
     subst hz
     simp only [Option.some.injEq] at hc
     rw [←hc] at h
     simp only [Option.map_eq_some_iff] at h
     obtain ⟨⟨st',q'⟩,h1,h2⟩:=h
     exact .inr ⟨q,ys,st',k,b,rfl,q',h1,h2.symm⟩
   ·exact .inl (by simp only [zO.toS,hc];exact h)
  ·cases h
 refine ⟨?_,?_,?_,?_⟩
 ·intro g
  by_cases hg:g=uX
  ·subst hg
   intro w F O s args ds s' r a1 a2 a3 a4 a5 a6
   rcases e1 s ds _ a6 with h|⟨q,ys,zs,k,b,rfl,_⟩
   ·exact hS.ok uX w F O s args ds s' r a1 a2 a3 a4 a5 h
   ·exfalso
    have h0:0<args.size:=by rw [a4];simp
    have hnb: ∀u:Value, ¬Rd w F u .bot:=fun u h=>by cases h
    exact hnb _ (a5 0 args[0] .bot (by simp [h0]) rfl)
  ·rw [e2 g hg];exact hS.ok g
 ·intro g s ds r hr hbot
  by_cases hg:g=uX
  ·subst hg
   rcases e1 s ds _ hr with h|⟨q,ys,zs,k,b,rfl,_⟩
   ·exact hS.is _ s ds r h hbot
   ·exact absurd rfl (hbot _)
  ·rw [e2 g hg] at hr;exact hS.is g s ds r hr hbot
 ·intro _ st q t' ys bytes st' d h
  rcases e1 _ _ _ h with h|⟨q0,ys0,zs,k,b,heq,q',h1,h2⟩
  ·exact hS.app hno st q t' ys bytes st' d h
  ·simp only [List.cons.injEq,V.rf.injEq,V.tl.injEq,V.val.injEq,Value.int.injEq,true_and,and_true] at heq
   obtain ⟨rfl,⟨htt,hys⟩,rfl,rfl⟩:=heq
   subst htt
   have hys:=eq_of_heq hys
   subst hys
   cases h2
   simp only [Int.toNat_natCast] at h1
   exact zYr hfl h1
 ·intro f st t' xs ds st' ys d h
  by_cases hf:f=uX
  ·subst hf
   rcases e1 _ _ _ h with h|⟨q0,ys0,zs,k,b,heq,_⟩
   ·exact hS.bor _ st t' xs ds st' ys d h
   ·simp at heq
  ·rw [e2 f hf] at h;exact hS.bor f st t' xs ds st' ys d h
section
variable {Γ:Sig} {P:Program} {G:Nat→Option (List V)}
noncomputable def zZx (L:q8) (G:Nat→Option (List V)) (S:zO Γ) (A:Nat→Option JA) (fn:Func) (c:Code) (R:RTy) (s:Γ.St) (ds:List V):Option (Γ.St×R.El):=
 zCL (start fn.ntmps s ds) (fun e=>exC L G S A c (Γ.St×R.El) (fun k e1 _=>match k with
  | .exit _=>none
  |_=>match zBJ L e1 fn with
   |some r=>match R.get r with
    |some y=>some (e1.st,y)
    |none=>none
   |none=>none) e 0)
def zLq {X:Type} (dec:List V→Option X) (R:RTy) (g:Γ.St→X→Option (Γ.St×R.El)):Γ.St→List V→Option (zCD Γ.St):=fun s ds=>
 match dec ds with
 |some x=>some ⟨Γ.St×R.El,g s x,fun y=>y.1,fun y=>R.res y.2,R.pl⟩
 |none=>none
theorem zWW {S:zO Γ} {A:Nat→Option JA} (hst: ∀k j,A k=some j→zEq j.sl=true) (hmix:P.follows .mixedOrders=true) (hS:qC Γ P G S.toS) {f:FuncId} {fn:Func} {c:Code} (hf:P.funcs[f]? =some fn) (hb:fn.body=some c)
  {X:Type} {dec:List V→Option X} {enc:X→List V} (hdec: ∀ds x,dec ds=some x→wF ds (enc x)) {R:RTy} {g:Γ.St→X→Option (Γ.St×R.El)} (h: ∀s x,zZx (Γ:=Γ) P G S A fn c R s (enc x)=g s x):wG Γ P G f (qK (zLq dec R g)):=by
 intro w F O s args ds s' r hsig hG hF hlen hrd hspec
 simp only [qK,zLq] at hspec
 split at hspec
 ·rename_i cx hcx
  split at hcx
  ·rename_i x hx
   simp only [Option.some.injEq] at hcx
   subst hcx
   simp only [Option.map_eq_some_iff] at hspec
   obtain ⟨⟨s1,y⟩,hy,hsr⟩:=hspec
   simp only [Prod.mk.injEq] at hsr
   obtain ⟨rfl,rfl⟩:=hsr
   have hwk:=hdec ds x hx
   have hlen':args.size=(enc x).length:=hlen.trans hwk.len
   have hrd': ∀ (i:Nat) (u:Value) (d:V),args[i]? =some u→(enc x)[i]? =some d→Rd w F u d:=by
    intro i u d hu hd
    have hlt:i<ds.length:=by rw [hwk.len];exact (List.getElem?_eq_some_iff.1 hd).1
    exact hwk.get i ds[i] d (by simp [hlt]) hd w F u (hrd i u ds[i] hu (by simp [hlt]))
   have hex:=h s x
   rw [hy] at hex
   unfold zZx at hex
   rw [kK] at hex
   obtain ⟨k,e',d,hok,_,hend⟩:=zG2 (fun k j hj=> .inr (hst k j hj)) hmix hS c _ _ _ _ _ hex
   have hk:(k= .normal∨k= .ret)∧(match zBJ (q8.of P) e' fn with
    |some r=>match R.get r with
     |some y=>some (e'.st,y)
     |none=>none
    |none=>none)=some (s1,y):=by
    cases k with
    |normal=>exact ⟨.inl rfl,hend⟩
    |ret=>exact ⟨.inr rfl,hend⟩
    |exit id=>cases hend
   obtain ⟨hk,hend⟩:=hk
   split at hend
   ·rename_i r' hr'
    split at hend
    ·rename_i y' hy'
     simp only [Option.some.injEq,Prod.mk.injEq] at hend
     obtain ⟨rfl,rfl⟩:=hend
     refine calls_of_wp hf hb ?_
     have qU: ∀t,zV w F ⟨fun _=>0,fun _=>0⟩ (fun _=>False) ((args++Array.replicate (fn.ntmps-args.size) undef).getD t undef) ((start fn.ntmps s (enc x)).get t):=by
      intro t
      simp only [start,zEK,Env.get,List.getD_eq_getElem?_getD,Array.getD_eq_getD_getElem?]
      by_cases ht:t< (enc x).length
      ·rw [List.getElem?_append_left (by simpa using ht),Array.getElem?_append_left (by omega)]
       rw [List.getElem?_map,List.getElem?_eq_getElem ht,Array.getElem?_eq_getElem (by omega)]
       exact hrd' t _ _ (by simp [show t<args.size by omega]) (by simp [ht])
      ·rw [List.getElem?_append_right (by simpa using Nat.le_of_not_lt ht),Array.getElem?_append_right (by omega),hlen']
       simp only [List.length_map]
       by_cases h2:t- (enc x).length<fn.ntmps- (enc x).length
       ·rw [List.getElem?_replicate,if_pos h2,Array.getElem?_replicate,if_pos h2]
        exact Rd.val _
       ·rw [List.getElem?_replicate,if_neg h2]
        trivial
     have hnovar: ∀s0,(start fn.ntmps s (enc x)).var s0=none:=by
      intro s0
      simp only [start,Env.var,List.getElem?_replicate]
      split<;>rfl
     have hinv:Inv Γ G w F O { tmps:=args++Array.replicate (fn.ntmps-args.size) undef,defers:=[] } w (start fn.ntmps s (enc x)):=by
      refine Inv.of (F:=F) (O:=O) (β:=⟨fun _=>0,fun _=>0⟩) (al:=fun _=>False) ⟨zCt.refl _ w,hsig,fun b hb=> .inl hb,fun b hb=>⟨.inl hb,hF b hb⟩,fun b hb=>hb,fun x hx=>hx.elim,fun x y hx=>hx.elim,fun b n h=>by cases h⟩ hG ?_ rfl qU ?_ (fun s h=>h.elim)
      ·simp [start,zEK,hlen']
      ·intro s0 cs hcs;rw [hnovar] at hcs;cases hcs
     refine wp_mono (hok w F O _ w hinv) ?_
     rintro ex a' w' ⟨rfl,hi'⟩
     obtain ⟨v,F',O',h1,h2,h3,h4,h5,h6,h7⟩:=zKS rfl hi' hr'
     have hdf:a'.defers=[]:=by obtain ⟨_,_,_,_,_,_,hdf,_⟩:=hi';exact hdf
     obtain ⟨F'',g1,gh,g2,g3⟩:=RTy.get_sound hy' h7
     have h2:=Γ.mono h2 gh (fun _ _=>rfl)
     have hF'': ∀b:Nat,F'' b→(F b∨w.heap.size≤b)∧b<w'.heap.size∧ ¬O' b:=by
      intro b hb
      rcases g2 b hb with hb|⟨h1,h2,h3⟩
      ·exact h6 b hb
      ·exact ⟨.inr h1,h2,h3⟩
     rcases hk with rfl|rfl
     ·exact ⟨hdf,v,h1,v,F'',O',rfl,h2,h3,h4,fun b hb=>g1 b (h5 b hb),hF'',g3⟩
     ·exact ⟨hdf,v,h1,v,F'',O',rfl,h2,h3,h4,fun b hb=>g1 b (h5 b hb),hF'',g3⟩
    ·cases hend
   ·cases hend
  ·cases hcx
 ·cases hspec
end
def Ty.norf:Ty→Bool
 | .rf=>false
 | .pair a b=>a.norf&&b.norf
 | .sl t=>t.norf
 |_=>true
theorem zET {w:World} {F F':Blk→Prop} (hF: ∀b:Nat,F b→F' b): ∀ (t:Ty) (_:t.norf=true) (x:t.El) (v:Value) (d:V),d∈t.cells x→Rd w F v d→Rd w F' v d:=by
 intro t
 induction t with
 |int k=>intro _ x v d hd h;simp only [Ty.cells,List.mem_singleton] at hd;subst hd;rw [Rd.eq_val h];exact .val _
 |bool=>intro _ x v d hd h;simp only [Ty.cells,List.mem_singleton] at hd;subst hd;rw [Rd.eq_val h];exact .val _
 |str=>intro _ x v d hd h;simp only [Ty.cells,List.mem_singleton] at hd;subst hd;rw [Rd.eq_val h];exact .val _
 |unit=>intro _ x v d hd h;simp [Ty.cells] at hd
 |rf=>intro hn;simp [Ty.norf] at hn
 |pair a b iha ihb=>
  intro hn x v d hd h
  simp only [Ty.norf,Bool.and_eq_true] at hn
  simp only [Ty.cells,List.mem_append] at hd
  rcases hd with hd|hd
  ·exact iha hn.1 x.1 v d hd h
  ·exact ihb hn.2 x.2 v d hd h
 |sl t ih=>
  intro hn x v d hd h
  simp only [Ty.cells,List.mem_singleton] at hd
  subst hd
  refine .tl t x v ?_
  have h:=h.untl
  generalize hes:x.map t.enc=es at h
  cases h with
  |slemp a cap=>exact .slemp a cap
  |sl b off cap k _ g hFb hcap hk hg hr=>
   refine .sl b off cap k es g (hF b hFb) hcap hk hg ?_
   intro i j e d' hi hj
   have hi0:=hi
   rw [←hes] at hi0
   simp only [List.getElem?_map,Option.map_eq_some_iff] at hi0
   obtain ⟨y,_,rfl⟩:=hi0
   exact ih hn y _ d' (by rw [←qP];exact List.mem_of_getElem? hj) (hr i j _ d' hi hj)
theorem zUe {w:World} {F F':Blk→Prop} (hF: ∀b:Nat,F b→F' b) {t:Ty} (hn:t.norf=true) {x:t.El} {v:Value} (h:Rd w F v (t.enc x)):Rd w F' v (t.enc x):=by
 cases t with
 |int k=>rw [Rd.eq_val h];exact .val _
 |bool=>rw [Rd.eq_val h];exact .val _
 |str=>rw [Rd.eq_val h];exact .val _
 |rf=>simp [Ty.norf] at hn
 |unit=>
  cases h with
  |agg cs _ hl hh=>exact .agg cs _ hl (fun i x d hi hd=>by simp at hd)
 |pair a b=>
  cases h with
  |agg cs _ hl hh=>exact .agg cs _ hl (fun i u d hi hd=>zET hF (.pair a b) hn x u d (List.mem_of_getElem? hd) (hh i u d hi hd))
 |sl t=>exact zET hF (.sl t) hn x v _ (by simp [Ty.cells,Ty.enc]) h
theorem zWd {w:World} {F F':Blk→Prop} (hF: ∀b:Nat,F b→F' b) {t:Ty} (hn:t.norf=true) {b k cap:Nat} {xs:List t.El} (hr:qG w F b k cap (xs.map t.enc)):qG w F' b k cap (xs.map t.enc):=by
 obtain ⟨c,et,h1,h2,h3,h4,h5⟩:=hr
 refine ⟨c,et,h1,h2,h3,h4,fun i j e d x a1 a2 a3=> ?_⟩
 have a0:=a1
 simp only [List.getElem?_map,Option.map_eq_some_iff] at a0
 obtain ⟨y,hy,rfl⟩:=a0
 exact zET hF t hn y x d (by rw [←qP];exact List.mem_of_getElem? a2) (h5 i j (t.enc y) d x a1 a2 a3)
def RTy.norf:RTy→Bool
 | .p ty=>ty.norf
 | .o ty=>ty.norf
 | .tu tys=>tys.all Ty.norf
theorem zKY {w:World} {F F':Blk→Prop} (hF: ∀b:Nat,F b→F' b): ∀ (ts:List Ty) (x:ElS ts),ts.all Ty.norf=true→ ∀ (i:Nat) (v:Value) (d:V),(v6 ts x)[i]? =some d→Rd w F v d→Rd w F' v d
 |[],_,_,i,v,d,hd,_=>by simp [v6] at hd
 |t::ts,x,hn,i,v,d,hd,h=>by
  simp only [List.all_cons,Bool.and_eq_true] at hn
  cases i with
  |zero=>simp only [v6,List.getElem?_cons_zero,Option.some.injEq] at hd;subst hd;exact zUe hF hn.1 h
  |succ i=>exact zKY hF ts x.2 hn.2 i v d (by simpa [v6] using hd) h
theorem zWi {N:Nat} {w:World} {F F':Blk→Prop} {O O':Nat→Prop} (hF: ∀b:Nat,F b→F' b) (hF': ∀b:Nat,N≤b→F' b→F b) (hO: ∀b,N≤b→O' b→O b) {R:RTy} (hn:R.norf=true) {y:R.El} {v:Value} (h:yX N w F O v (R.res y)):yX N w F' O' v (R.res y):=by
 cases R with
 |p ty=>exact zUe (t:=ty) hF hn h
 |o ty=>
  rcases h with h|⟨h0,b,cap,h1,h2,h3,h4,h5,k,h6⟩
  ·exact .inl h
  ·exact .inr ⟨h0,b,cap,h1,h2,h3,fun hh=>h4 (hF' b h2 hh),fun hh=>h5 (hO b h2 hh),k,zWd (t:=ty) hF hn h6⟩
 |tu tys=>
  have h:Rd w F v (.tup (v6 tys y)):=h
  cases h with
  |tup cs _ hl hh=>exact .tup cs _ hl (fun i u d hi hd=>zKY hF tys y hn i u d hd (hh i u d hi hd))
theorem zKM {Γ:Sig} {P:Program} {G:Nat→Option (List V)} {f:FuncId} {X:Type} {dec:List V→Option X} {R:RTy} {g:X→Option R.El} (hn:R.norf=true)
  (h:wG jK P G f (qK (wS dec R g))):wG Γ P G f (qK (wS dec R g)):=by
 intro w F O s args ds s' r hsig hG hF hlen hrd hspec
 simp only [qK,wS] at hspec
 cases hx:dec ds with
 |none=>rw [hx] at hspec;cases hspec
 |some x=>
  rw [hx] at hspec
  simp only [Option.map_eq_some_iff,Prod.mk.injEq] at hspec
  obtain ⟨y,hy,rfl,rfl⟩:=hspec
  have hcall:=h w F (fun _=>False) () args ds () (R.res y) (fun _ h=>h) hG (fun b hb=>⟨(hF b hb).1,fun h=>h⟩) hlen hrd (by simp only [qK,wS,hx,hy,Option.map_some])
  refine hcall.mono ?_
  rintro e w' ⟨v,F',O',rfl,g1,g2,g3,g4,g5,g6⟩
  let F'':Blk→Prop:=fun b=>match b with
   | .b n=>F' (.b n)
   | .h id a n c=>F (.h id a n c)
  have hkb: ∀b,O b→w'.heap[b]? =w.heap[b]? :=fun b hb=>g2.block b (Γ.inb hsig b hb) (fun h=>h)
  refine ⟨v,F'',O,rfl,Γ.mono hsig (fun _ _ _ _=>Iff.rfl) hkb,⟨g2.os,g2.tape,g2.output,g2.size,fun b hb _=>g2.block b hb (fun h=>h),g2.drawn⟩,fun b hb=> .inl hb,?_,?_,?_⟩
  ·intro b hb
   cases b with
   |b n=>exact g4 _ hb
   |h _ _ _ _=>exact hb
  ·intro b hb
   obtain ⟨h1,h2,_⟩:=g5 b hb
   refine ⟨h1,h2,fun ho=> ?_⟩
   rcases h1 with h1|h1
   ·exact (hF b h1).2 ho
   ·have:=Γ.inb hsig b ho;omega
  ·exact zWi (F:=F') (F':=F'') (fun b hb=>hb) (fun b _ hb=>hb) (fun b hb ho=>by have:=Γ.inb hsig b ho;omega) hn g6
@[reducible] def vK (tE:Ty):Ty→Ty
 | .rf=> .sl tE
 | .pair a b=> .pair (vK tE a) (vK tE b)
 | .sl t=> .sl (vK tE t)
 | .int k=> .int k
 | .bool=> .bool
 | .str=> .str
 | .unit=> .unit
def zJK {α β:Type} (f:α→Option β):List α→Option (List β)
 |[]=>some []
 |x::r=>match f x,zJK f r with
  |some y,some ys=>some (y::ys)
  |_,_=>none
def zAa {tE:Ty} (st:HSt tE):(t:Ty)→t.El→Option (vK tE t).El
 | .rf,o=>match o with
  |none=>some []
  |some (id,_)=>match st[id]? with
   |some (some xs)=>some xs
   |_=>none
 | .pair a b,x=>match zAa st a x.1,zAa st b x.2 with
  |some y,some z=>some (y,z)
  |_,_=>none
 | .sl t,xs=>zJK (zAa st t) xs
 | .int _,x=>some x
 | .bool,x=>some x
 | .str,x=>some x
 | .unit,x=>some x
theorem zJJ {α β:Type} {f:α→Option β} : ∀ {xs:List α} {ys:List β},zJK f xs=some ys→xs.length=ys.length∧ ∀ (i:Nat) (y:β),ys[i]? =some y→ ∃x,xs[i]? =some x∧f x=some y
 |[],ys,h=>by simp only [zJK,Option.some.injEq] at h;subst h;exact ⟨rfl,fun i y h=>by simp at h⟩
 |x::r,ys,h=>by
  simp only [zJK] at h
  split at h
  ·rename_i y ys' hy hys
   simp only [Option.some.injEq] at h
   subst h
   obtain ⟨h1,h2⟩:=zJJ hys
   refine ⟨by simp [h1],fun i z hz=> ?_⟩
   cases i with
   |zero=>simp only [List.getElem?_cons_zero,Option.some.injEq] at hz;subst hz;exact ⟨x,rfl,hy⟩
   |succ i=>exact h2 i z (by simpa using hz)
  ·cases h
theorem v7 (tE:Ty): ∀t:Ty,(vK tE t).size=t.size
 | .rf=>rfl
 | .pair a b=>by simp only [vK,Ty.size];rw [v7 tE a,v7 tE b]
 | .sl _=>rfl
 | .int _=>rfl
 | .bool=>rfl
 | .str=>rfl
 | .unit=>rfl
section
variable {tE:Ty} {st:HSt tE} {F F':Blk→Prop} {O:Nat→Prop} {w:World} {hb hc:Nat→Nat}
theorem zKo (h:zTZ tE st F O w hb hc) (hF: ∀b:Nat,F b→F' b) (hO: ∀b,O b→F' (.b b)): ∀ (t:Ty) (x:t.El) (y:(vK tE t).El),zAa st t x=some y→
  ∀ (i:Nat) (v:Value) (d d':V),(t.cells x)[i]? =some d→((vK tE t).cells y)[i]? =some d'→Rd w F v d→Rd w F' v d':=by
 intro t
 induction t with
 |int k=>
  intro x y hxy i v d d' hd hd' hr
  obtain rfl:x=y:=Option.some.inj hxy
  have:=hd.symm.trans hd'
  simp only [Option.some.injEq] at this;subst this
  cases i with
  |zero=>simp only [Ty.cells,List.getElem?_cons_zero,Option.some.injEq] at hd;subst hd;rw [Rd.eq_val hr];exact .val _
  |succ i=>simp [Ty.cells] at hd
 |bool=>
  intro x y hxy i v d d' hd hd' hr
  obtain rfl:x=y:=Option.some.inj hxy
  have:=hd.symm.trans hd'
  simp only [Option.some.injEq] at this;subst this
  cases i with
  |zero=>simp only [Ty.cells,List.getElem?_cons_zero,Option.some.injEq] at hd;subst hd;rw [Rd.eq_val hr];exact .val _
  |succ i=>simp [Ty.cells] at hd
 |str=>
  intro x y hxy i v d d' hd hd' hr
  obtain rfl:x=y:=Option.some.inj hxy
  have:=hd.symm.trans hd'
  simp only [Option.some.injEq] at this;subst this
  cases i with
  |zero=>simp only [Ty.cells,List.getElem?_cons_zero,Option.some.injEq] at hd;subst hd;rw [Rd.eq_val hr];exact .val _
  |succ i=>simp [Ty.cells] at hd
 |unit=>intro x y hxy i v d d' hd;simp [Ty.cells] at hd
 |rf=>
  intro x y hxy i v d d' hd hd' hr
  cases i with
  |succ i=>simp [Ty.cells] at hd
  |zero=>
   simp only [Ty.cells,List.getElem?_cons_zero,Option.some.injEq] at hd
   simp only [vK,Ty.cells,List.getElem?_cons_zero,Option.some.injEq] at hd'
   subst hd hd'
   cases hr with
   |rfn=>
    obtain rfl:([]:List tE.El)=y:=Option.some.inj hxy
    exact .tl tE [] _ (.slemp none 0)
   |rf id a n c hh=>
    simp only [zAa] at hxy
    split at hxy
    ·rename_i xs hxs
     obtain rfl:xs=y:=Option.some.inj hxy
     obtain ⟨rfl,rfl,rfl⟩:=(h.hdl id xs hxs _ _ _).1 hh
     obtain ⟨_,h2,h3⟩:=h.row id xs hxs
     refine .tl tE xs _ ?_
     have:=zGH (F':=F') h3 (fun _ h=>h.elim) (hO _ h2)
     simpa using this
    ·cases hxy
 |pair a b iha ihb=>
  intro x y hxy i v d d' hd hd' hr
  simp only [zAa] at hxy
  split at hxy
  ·rename_i y1 y2 h1 h2
   obtain rfl:(y1,y2)=y:=Option.some.inj hxy
   simp only [vK,Ty.cells] at hd hd'
   by_cases hi:i< (a.cells x.1).length
   ·rw [List.getElem?_append_left hi] at hd
    rw [List.getElem?_append_left (by rw [qT,v7];rw [qT] at hi;exact hi)] at hd'
    exact iha x.1 y1 h1 i v d d' hd hd' hr
   ·rw [List.getElem?_append_right (by omega)] at hd
    rw [List.getElem?_append_right (by rw [qT,v7];rw [qT] at hi;omega)] at hd'
    rw [qT,v7, ←qT a x.1] at hd'
    exact ihb x.2 y2 h2 _ v d d' hd hd' hr
  ·cases hxy
 |sl t ih=>
  intro x y hxy i v d d' hd hd' hr
  cases i with
  |succ i=>simp [Ty.cells] at hd
  |zero=>
   simp only [Ty.cells,List.getElem?_cons_zero,Option.some.injEq] at hd
   simp only [vK,Ty.cells,List.getElem?_cons_zero,Option.some.injEq] at hd'
   subst hd hd'
   obtain ⟨hlen,qU⟩:=zJJ (show zJK (zAa st t) x=some y from hxy)
   refine .tl (vK tE t) y v ?_
   have hr1:=hr.untl
   clear hr
   generalize hes:x.map t.enc=es at hr1
   cases hr1 with
   |slemp a cap=>
    have hx0:x=[]:=by simpa using hes
    subst hx0
    have hy0:y=[]:=List.eq_nil_of_length_eq_zero hlen.symm
    subst hy0
    exact .slemp a cap
   |sl b off cap k _ g hFb hcap hk hg hr=>
    have hel:es.length=(y.map (vK tE t).enc).length:=by rw [←hes,List.length_map,List.length_map];exact hlen
    rw [hel] at hg hcap ⊢
    have hkk: ∀e,e∈y.map (vK tE t).enc→e.cells.length=k:=by
     intro e he
     simp only [List.mem_map] at he
     obtain ⟨y0,hy0,rfl⟩:=he
     rw [wZ,v7]
     obtain ⟨j,hj⟩:=List.getElem?_of_mem hy0
     obtain ⟨x0,hx0,_⟩:=qU j y0 hj
     have:=hk (t.enc x0) (by rw [←hes];exact List.mem_map_of_mem (List.mem_of_getElem? hx0))
     rw [wZ] at this;exact this
    refine .sl b off cap k _ g (hF b hFb) hcap hkk hg ?_
    intro i j e d' hi hj
    simp only [List.getElem?_map,Option.map_eq_some_iff] at hi
    obtain ⟨y0,hy0,rfl⟩:=hi
    obtain ⟨x0,hx0,hxy0⟩:=qU i y0 hy0
    rw [qP] at hj
    have hjl:j< (t.cells x0).length:=by
     have:=(List.getElem?_eq_some_iff.1 hj).1
     rw [qT,v7] at this;rw [qT];exact this
    refine ih x0 y0 hxy0 j _ (t.cells x0)[j] d' (by simp [hjl]) hj (hr i j (t.enc x0) _ (by rw [←hes];simp [hx0]) (by rw [qP];simp [hjl]))
theorem zT5 (h:zTZ tE st F O w hb hc) (hF: ∀b:Nat,F b→F' b) (hO: ∀b,O b→F' (.b b)) (t:Ty) (x:t.El) (y:(vK tE t).El) (hxy:zAa st t x=some y) {v:Value} (hr:Rd w F v (t.enc x)):Rd w F' v ((vK tE t).enc y):=by
 have one: ∀ (_:t.enc x=(t.cells x)[0]?.getD .bot) (_:(vK tE t).enc y=((vK tE t).cells y)[0]?.getD .bot) (_:0<t.size),Rd w F' v ((vK tE t).enc y):=by
  intro h1 h2 h3
  have l1:0< (t.cells x).length:=by rw [qT];exact h3
  have l2:0< ((vK tE t).cells y).length:=by rw [qT,v7];exact h3
  rw [h1] at hr
  rw [h2]
  simp only [List.getElem?_eq_getElem l1,Option.getD_some] at hr
  simp only [List.getElem?_eq_getElem l2,Option.getD_some]
  exact zKo h hF hO t x y hxy 0 v _ _ (by simp [l1]) (by simp [l2]) hr
 cases t with
 |int k=>exact one rfl rfl Nat.one_pos
 |bool=>exact one rfl rfl Nat.one_pos
 |str=>exact one rfl rfl Nat.one_pos
 |rf=>exact one rfl rfl Nat.one_pos
 |sl t=>exact one rfl rfl Nat.one_pos
 |unit=>
  cases hr with
  |agg cs _ hl hh=>exact .agg cs _ hl (fun i x d hi hd=>by simp at hd)
 |pair a b=>
  cases hr with
  |agg cs _ hl hh=>
   have e1:(a.cells x.1++b.cells x.2).length=(Ty.pair a b).size:=qT (.pair a b) x
   have e2:(((vK tE a).cells y.1)++((vK tE b).cells y.2)).length=(vK tE (Ty.pair a b)).size:=qT (vK tE (Ty.pair a b)) y
   refine .agg cs _ (by rw [hl,e1,e2,v7]) ?_
   intro i u d hi hd
   have hlt:i< (a.cells x.1++b.cells x.2).length:=by
    have:=(List.getElem?_eq_some_iff.1 hd).1
    rw [e2,v7] at this;rw [e1];exact this
   exact zKo h hF hO (.pair a b) x y hxy i u _ d (by simp only [Ty.cells];exact List.getElem?_eq_getElem hlt) hd (hh i u _ hi (List.getElem?_eq_getElem hlt))
end
end Go.Ve

namespace Go.Ve
open Go
theorem zDS: ∀ (t:Ty) (x:t.El) (r:List V),t.uncells (t.cells x++r)=some (x,r)
 | .int k,x,r=>by simp [Ty.cells,Ty.uncells,zEG]
 | .bool,x,r=>by simp [Ty.cells,Ty.uncells,zC2]
 | .str,x,r=>by simp [Ty.cells,Ty.uncells,zEF]
 | .unit,x,r=>by simp [Ty.cells,Ty.uncells]
 | .rf,x,r=>by simp [Ty.cells,Ty.uncells,zHZ]
 | .sl t,x,r=>by simp [Ty.cells,Ty.uncells,zHY]
 | .pair a b,x,r=>by
  simp only [Ty.cells,Ty.uncells,List.append_assoc]
  rw [zDS a x.1]
  simp only
  rw [zDS b x.2]
theorem zYx (t:Ty) (x:t.El):t.dec (t.enc x)=some x:=by
 cases t with
 |int k=>simp [Ty.enc,Ty.dec,zEG]
 |bool=>simp [Ty.enc,Ty.dec,zC2]
 |str=>simp [Ty.enc,Ty.dec,zEF]
 |unit=>rfl
 |rf=>simp [Ty.enc,Ty.dec,zHZ]
 |sl t=>simp [Ty.enc,Ty.dec,zHY]
 |pair a b=>
  have:=zDS (.pair a b) x []
  simp only [List.append_nil] at this
  simp only [Ty.enc,Ty.dec]
  simp only [Ty.cells] at this
  rw [this]
theorem zDo: ∀ (ts:List Ty) (x:ElS ts),zD7 ts (v6 ts x)=some x
 |[],_=>rfl
 |t::ts,x=>by
  simp only [v6,zD7,zYx,zDo ts]
@[reducible] def zFX (tE:Ty):List Ty→List Ty
 |[]=>[]
 |t::r=>vK tE t::zFX tE r
def zMF {tE:Ty} (st:HSt tE):(ts:List Ty)→ElS ts→Option (ElS (zFX tE ts))
 |[],_=>some ()
 |t::r,x=>match zAa st t x.1,zMF st r x.2 with
  |some y,some z=>some (y,z)
  |_,_=>none
@[reducible] def zQN (tE:Ty):RTy→RTy
 | .p ty=> .p (vK tE ty)
 | .o ty=> .o (vK tE ty)
 | .tu tys=> .tu (zFX tE tys)
def zVT {tE:Ty} (st:HSt tE):(R:RTy)→R.El→Option (zQN tE R).El
 | .p ty,x=>zAa st ty x
 | .o ty,xs=>zJK (zAa st ty) xs
 | .tu tys,x=>zMF st tys x
section
variable {tE:Ty} {st:HSt tE} {F F':Blk→Prop} {O:Nat→Prop} {w:World} {hb hc:Nat→Nat}
theorem zQM (h:zTZ tE st F O w hb hc) (hF: ∀b:Nat,F b→F' b) (hO: ∀b,O b→F' (.b b)): ∀ (ts:List Ty) (x:ElS ts) (y:ElS (zFX tE ts)),zMF st ts x=some y→
  (v6 ts x).length=(v6 (zFX tE ts) y).length∧ ∀ (i:Nat) (v:Value) (d d':V),(v6 ts x)[i]? =some d→(v6 (zFX tE ts) y)[i]? =some d'→Rd w F v d→Rd w F' v d'
 |[],_,_,_=>⟨rfl,fun i v d d' hd=>by simp [v6] at hd⟩
 |t::ts,x,y,hxy=>by
  simp only [zMF] at hxy
  split at hxy
  ·rename_i y1 y2 h1 h2
   obtain rfl:(y1,y2)=y:=Option.some.inj hxy
   obtain ⟨k1,k2⟩:=zQM h hF hO ts x.2 y2 h2
   refine ⟨by simp only [v6,List.length_cons,k1],fun i v d d' hd hd' hr=> ?_⟩
   cases i with
   |zero=>
    simp only [v6,List.getElem?_cons_zero,Option.some.injEq] at hd hd'
    subst hd hd'
    exact zT5 h hF hO t x.1 y1 h1 hr
   |succ i=>exact k2 i v d d' (by simpa [v6] using hd) (by simpa [v6] using hd') hr
  ·cases hxy
theorem zVR (h:zTZ tE st F O w hb hc) (hF: ∀b:Nat,F b→F' b) (hO: ∀b,O b→F' (.b b)) {t:Ty} {xs:List t.El} {ys:List (vK tE t).El} (hxy:zJK (zAa st t) xs=some ys) {b k cap:Nat}
  (hr:qG w F b k cap (xs.map t.enc)):qG w F' b k cap (ys.map (vK tE t).enc):=by
 obtain ⟨hlen,qU⟩:=zJJ hxy
 obtain ⟨c,et,h1,h2,h3,h4,h5⟩:=hr
 refine ⟨c,et,h1,h2,by simpa [←hlen] using h3,?_,?_⟩
 ·intro e he
  simp only [List.mem_map] at he
  obtain ⟨y0,hy0,rfl⟩:=he
  rw [wZ,v7]
  obtain ⟨j,hj⟩:=List.getElem?_of_mem hy0
  obtain ⟨x0,hx0,_⟩:=qU j y0 hj
  have:=h4 (t.enc x0) (List.mem_map_of_mem (List.mem_of_getElem? hx0))
  rw [wZ] at this;exact this
 ·intro i j e d' x hi hj hx
  simp only [List.getElem?_map,Option.map_eq_some_iff] at hi
  obtain ⟨y0,hy0,rfl⟩:=hi
  obtain ⟨x0,hx0,hxy0⟩:=qU i y0 hy0
  rw [qP] at hj
  have hjl:j< (t.cells x0).length:=by
   have:=(List.getElem?_eq_some_iff.1 hj).1
   rw [qT,v7] at this;rw [qT];exact this
  exact zKo h hF hO t x0 y0 hxy0 j _ (t.cells x0)[j] d' (by simp [hjl]) hj (h5 i j (t.enc x0) _ x (by simp [hx0]) (by rw [qP];simp [hjl]) hx)
theorem zVS (h:zTZ tE st F O w hb hc) (hF: ∀b:Nat,F b→F' b) (hO: ∀b,O b→F' (.b b)) (hF': ∀b:Nat,F' b→F b∨O b) {N:Nat} {R:RTy} {x:R.El} {y:(zQN tE R).El} (hxy:zVT st R x=some y) {v:Value}
  (hr:yX N w F O v (R.res x)):yX N w F' (fun _=>False) v ((zQN tE R).res y):=by
 cases R with
 |p ty=>exact zT5 h hF hO ty x y hxy hr
 |o ty=>
  have hxy:zJK (zAa st ty) x=some y:=hxy
  obtain ⟨hlen,_⟩:=zJJ hxy
  rcases hr with ⟨h0,hv⟩|⟨h0,b,cap,h1,h2,h3,h4,h5,k,h6⟩
  ·have hx0:x=[]:=by simpa using h0
   subst hx0
   have hy0:y=[]:=List.eq_nil_of_length_eq_zero hlen.symm
   subst hy0
   exact .inl ⟨rfl,hv⟩
  ·refine .inr ⟨?_,b,cap,by rw [h1];simp [hlen],h2,h3,fun hh=>(hF' b hh).elim h4 h5,fun hh=>hh,k,zVR h hF hO hxy h6⟩
   intro hh
   have hy0:y=[]:=by simpa using hh
   subst hy0
   have hx0:x=[]:=List.eq_nil_of_length_eq_zero hlen
   subst hx0
   exact h0 rfl
 |tu tys=>
  have hr:Rd w F v (.tup (v6 tys x)):=hr
  obtain ⟨k1,k2⟩:=zQM h hF hO tys x y hxy
  cases hr with
  |tup cs _ hl hh=>
   refine Rd.tup cs (v6 (zFX tE tys) y) (hl.trans k1) ?_
   intro i u d hi hd
   have hlt:i< (v6 tys x).length:=by rw [k1];exact (List.getElem?_eq_some_iff.1 hd).1
   exact k2 i u _ d (List.getElem?_eq_getElem hlt) hd (hh i u _ hi (List.getElem?_eq_getElem hlt))
end
def zMG {tE:Ty} {X:Type} (R:RTy) (g:HSt tE→X→Option (HSt tE×R.El)) (x:X):Option (zQN tE R).El:=
 match g [] x with
 |some (st,y)=>zVT st R y
 |none=>none
theorem zLw {tE:Ty} {P:Program} {G:Nat→Option (List V)} (hG0: ∀g,G g=none) {f:FuncId} {ts:List Ty} (hts:ts.all Ty.norf=true) {R:RTy} {g:HSt tE→ElS ts→Option (HSt tE×R.El)}
  (h:wG (jX tE) P G f (qK (zLq (zD7 ts) R g))):wG jK P G f (qK (j1 ts (zQN tE R) (zMG R g))):=by
 intro w F O s args ds s' r hsig hG hF hlen hrd hspec
 simp only [qK,j1,wS] at hspec
 cases hx:zD7 ts ds with
 |none=>rw [hx] at hspec;cases hspec
 |some x=>
  rw [hx] at hspec
  simp only [Option.map_eq_some_iff,Prod.mk.injEq] at hspec
  obtain ⟨y,hy,rfl,rfl⟩:=hspec
  unfold zMG at hy
  split at hy
  ·rename_i st y0 hg
   have hwk:=k7 ts ds x hx
   let F0:Blk→Prop:=fun b=>match b with
    | .b n=>F (.b n)
    | .h _ _ _ _=>False
   have hR0:(jX tE).R [] F0 (fun _=>False) w:=⟨fun _=>0,fun _=>0,fun id xs hh=>by simp at hh,fun id _ a n c hh=>hh,fun id xs hh=>by simp at hh,fun id id' xs xs' hh=>by simp at hh,fun b hh=>hh.elim⟩
   have hcall:=h w F0 (fun _=>False) [] args (v6 ts x) st (R.res y0) hR0 (fun g cs hg=>by rw [hG0 g] at hg;cases hg) (fun b hb=>⟨(hF b hb).1,fun hh=>hh⟩) (hlen.trans hwk.len) (by
    intro i u d hu hd
    have hlt:i<ds.length:=by rw [hwk.len];exact (List.getElem?_eq_some_iff.1 hd).1
    have:=hwk.get i ds[i] d (by simp [hlt]) hd w F u (hrd i u ds[i] hu (by simp [hlt]))
    exact zKY (F:=F) (F':=F0) (fun b hb=>hb) ts x hts i u d hd this) (by simp only [qK,zLq,zDo];rw [hg];rfl)
   refine hcall.mono ?_
   rintro e w' ⟨v,F',O',rfl,⟨hb,hc,g1⟩,g2,g3,g4,g5,g6⟩
   let F'':Blk→Prop:=fun b=>match b with
    | .b n=>F' (.b n)∨O' n
    | .h id a n c=>F (.h id a n c)
   refine ⟨v,F'',fun _=>False,rfl,fun _ hh=>hh,⟨g2.os,g2.tape,g2.output,g2.size,fun b hb _=>g2.block b hb (fun hh=>hh),g2.drawn⟩,fun b hh=>hh.elim,?_,?_,?_⟩
   ·intro b hb0
    cases b with
    |b n=>exact .inl (g4 (.b n) hb0)
    |h _ _ _ _=>exact hb0
   ·intro b hb0
    rcases hb0 with hb0|hb0
    ·obtain ⟨k1,k2,_⟩:=g5 b hb0
     exact ⟨k1,k2,fun hh=>hh⟩
    ·refine ⟨.inr ((g3 b hb0).elim (fun hh=>hh.elim) (fun hh=>hh)),(jX tE).inb (⟨hb,hc,g1⟩:(jX tE).R st F' O' w') b hb0,fun hh=>hh⟩
   ·exact zVS (F':=F'') g1 (fun b hh=> .inl hh) (fun b hh=> .inr hh) (fun b hh=>hh) hy g6
  ·cases hy
def zX2 {St:Type} (S:St→List V→Option (St×RV)) (ts:List Ty) (R:RTy) (s:St) (x:ElS ts):Option (St×R.El):=
 match S s (v6 ts x) with
 |some (s',r)=>match R.get r with
  |some y=>some (s',y)
  |none=>none
 |none=>none
theorem zVd {Γ:Sig} {P:Program} {G:Nat→Option (List V)} {f:FuncId} {S:Γ.St→List V→Option (Γ.St×RV)} (h:wG Γ P G f S) (ts:List Ty) (R:RTy):
  wG Γ P G f (qK (zLq (zD7 ts) R (zX2 S ts R))):=by
 intro w F O s args ds s' r hsig hG hF hlen hrd hspec
 simp only [qK,zLq] at hspec
 cases hx:zD7 ts ds with
 |none=>rw [hx] at hspec;cases hspec
 |some x=>
  rw [hx] at hspec
  simp only [Option.map_eq_some_iff,Prod.mk.injEq] at hspec
  obtain ⟨⟨s1,y⟩,hy,rfl,rfl⟩:=hspec
  unfold zX2 at hy
  split at hy
  ·rename_i s2 r0 hS
   split at hy
   ·rename_i y0 hy0
    simp only [Option.some.injEq,Prod.mk.injEq] at hy
    obtain ⟨rfl,rfl⟩:=hy
    have hwk:=k7 ts ds x hx
    have hcall:=h w F O s args (v6 ts x) s2 r0 hsig hG hF (hlen.trans hwk.len) (by
     intro i u d hu hd
     have hlt:i<ds.length:=by rw [hwk.len];exact (List.getElem?_eq_some_iff.1 hd).1
     exact hwk.get i ds[i] d (by simp [hlt]) hd w F u (hrd i u ds[i] hu (by simp [hlt]))) hS
    refine hcall.mono ?_
    rintro e w' ⟨v,F',O',rfl,g1,g2,g3,g4,g5,g6⟩
    obtain ⟨F'',k1,kh,k2,k3⟩:=RTy.get_sound hy0 g6
    refine ⟨v,F'',O',rfl,Γ.mono g1 kh (fun _ _=>rfl),g2,g3,fun b hb=>k1 b (g4 b hb),?_,k3⟩
    intro b hb
    rcases k2 b hb with hb|⟨h1,h2,h3⟩
    ·exact g5 b hb
    ·exact ⟨.inr h1,h2,h3⟩
   ·cases hy
  ·cases hy
theorem zRK {Γ:Sig} {P:Program} {G:Nat→Option (List V)} {f:FuncId} {S S':Γ.St→List V→Option (Γ.St×RV)} (h:wG Γ P G f S) (hs: ∀s ds r,S' s ds=some r→S s ds=some r):wG Γ P G f S':=
 fun w F O s args ds s' r a1 a2 a3 a4 a5 a6=>h w F O s args ds s' r a1 a2 a3 a4 a5 (hs _ _ _ a6)
end Go.Ve

namespace Go.Ve
open Go
set_option maxRecDepth 1000000
noncomputable def zE4:ElS [zD]→Option (RTy.El (.p .bool)):=fun x=>match x with|(a1,())=>Option.bind (bif decide ((↑(List.length a1.2.2.1):Int)>(12:Int)) then some true else bif decide ((↑(List.length a1.2.2.2.1):Int)>(12:Int)) then some true else bif decide ((↑(List.length a1.2.2.2.2.1):Int)>(12:Int)) then some true else bif decide ((↑(List.length a1.2.2.2.2.2.1):Int)>(12:Int)) then some true else bif decide ((↑(List.length a1.2.2.2.2.2.2.1):Int)>(12:Int)) then some true else bif decide ((↑(List.length a1.2.2.2.2.2.2.2.1):Int)>(20:Int)) then some true else bif decide ((↑(List.length a1.2.2.2.2.2.2.2.2.1.2.2.1):Int)>(8:Int)) then some true else bif decide ((↑(List.length a1.2.2.2.2.2.2.2.2.1.2.2.2.1):Int)>(8:Int)) then some true else bif decide ((↑(List.length a1.2.2.2.2.2.2.2.2.2.1.2.2.2.2.1):Int)>(8:Int)) then some true else bif decide ((↑(List.length a1.2.2.2.2.2.2.2.2.2.2.1.2.2.2.2.2.2.2.1):Int)>(8:Int)) then some true else bif decide ((↑(List.length a1.2.2.2.2.2.2.2.2.2.2.1.2.2.2.1):Int)>(12:Int)) then some true else bif decide ((↑(List.length a1.2.2.2.2.2.2.2.2.2.2.1.2.2.2.2.1):Int)>(12:Int)) then some true else bif decide ((↑(List.length a1.2.2.2.2.2.2.2.2.2.2.1.2.2.2.2.2.1):Int)>(12:Int)) then some true else some (decide ((↑(List.length a1.2.2.2.2.2.2.2.2.2.2.1.2.2.2.2.2.2.1):Int)>(12:Int)))) fun (s0:Bool)=>bif s0 then some false else qW (zP (fun (s5:Int)=>bif decide (s5< (↑(List.length a1.2.2.2.1):Int)) then Option.bind (idx a1.2.2.2.1 s5) fun (y6:Ty.El wR)=>bif decide ((↑(List.length y6.2.1):Int)>(20:Int)) then some (Sum.inr (Sum.inr false)) else some (Sum.inl (IntKind.wrap IntKind.i64 (s5+(1:Int)))) else some (Sum.inr (Sum.inl ()))) (0:Int)) fun (s7:Unit)=>qW (zP (fun (s12:Int)=>bif decide (s12< (↑(List.length a1.2.2.2.2.1):Int)) then Option.bind (idx a1.2.2.2.2.1 s12) fun (y13:Ty.El yL)=>bif decide ((↑(List.length y13.2.1):Int)>(12:Int)) then some (Sum.inr (Sum.inr false)) else some (Sum.inl (IntKind.wrap IntKind.i64 (s12+(1:Int)))) else some (Sum.inr (Sum.inl ()))) (0:Int)) fun (s14:Unit)=>qW (zP (fun (s19:Int)=>bif decide (s19< (↑(List.length a1.2.2.2.2.2.1):Int)) then Option.bind (idx a1.2.2.2.2.2.1 s19) fun (y20:Ty.El zKq)=>bif decide ((↑(List.length y20.2.1):Int)>(20:Int)) then some (Sum.inr (Sum.inr false)) else some (Sum.inl (IntKind.wrap IntKind.i64 (s19+(1:Int)))) else some (Sum.inr (Sum.inl ()))) (0:Int)) fun (s21:Unit)=>some true
noncomputable def zDL:ElS [zT]→Option (RTy.El (.p .bool)):=fun x=>match x with|(a1,())=>bif decide ((↑(List.length a1.1):Int)>(9:Int)) then some false else qW (zP (fun (s6:Int)=>bif decide (s6< (↑(List.length a1.1):Int)) then Option.bind (idx a1.1 s6) fun (y7:Ty.El zD)=>Option.bind (zE4 (y7,())) fun (y8:Bool)=>bif !y8 then some (Sum.inr (Sum.inr false)) else some (Sum.inl (IntKind.wrap IntKind.i64 (s6+(1:Int)))) else some (Sum.inr (Sum.inl ()))) (0:Int)) fun (s9:Unit)=>some true
noncomputable def zBg:ElS [zF,zF]→Option (RTy.El (.p tI)):=fun x=>match x with|(a1,a2,())=>Option.bind (bif decide (a1.1<a2.1) then some true else bif a1.1==a2.1 then some (decide (a1.2.1<a2.2.1)) else some false) fun (s0:Bool)=>bif s0 then some (-1:Int) else bif a1.1==a2.1&&(a1.2.1==a2.2.1&&true) then some (0:Int) else some (1:Int)
noncomputable def zB3:HSt zL→ElS [zT]→Option (HSt zL×RTy.El (.tu [zF1,tI])):=fun st0 x=>match x with|(a1,())=>Option.bind (kU (a1,())) fun (y0:Int)=>bif y0 !=(0:Int) then some (st0,([],[],()),y0,()) else Option.bind (zP (fun (s1:Int×(List (Ty.El zQ)×List Int)×HSt zL)=>bif decide (s1.1< (↑(List.length a1.1):Int)) then Option.bind (zP (fun (s2:Int×(List (Ty.El zQ)×List Int)×HSt zL)=>Option.bind (idx a1.1 s1.1) fun (y3:Ty.El zD)=>bif decide (s2.1< (↑(List.length y3.2.2.1):Int)) then Option.bind (Option.bind (idx a1.1 s1.1) fun (y4:Ty.El zD)=>Option.bind (idx y4.2.2.1 s2.1) fun (y5:Ty.El z8)=>Option.bind (bif y5.2.2.1==(0:Int) then some (true,s2.2) else some (y5.2.2.2.2.1,s2.2)) fun (s6:Bool×(List (Ty.El zQ)×List Int)×HSt zL)=>bif s6.1 then some s6.2 else Option.bind (wO (y5.2.1,y5.2.2.1,())) fun (y7:Int×Int×Unit)=>Option.bind (zP (fun (s8:Int×(List (Ty.El zQ)×List Int)×HSt zL)=>Option.bind (bif decide (s8.1< (↑(List.length s8.2.1.1):Int)) then Option.bind (idx s8.2.1.1 s8.1) fun (y16:Ty.El zQ)=>Option.bind (atN s8.2.1.1 (Int.toNat s8.1)) fun (y17:Ty.El zQ)=>Option.bind (zBg (y17.1,y7,())) fun (y18:Int)=>bif decide (y18< (0:Int)) then some (true,s8.2) else Option.bind (idx s8.2.1.1 s8.1) fun (y19:Ty.El zQ)=>Option.bind (atN s8.2.1.1 (Int.toNat s8.1)) fun (y20:Ty.El zQ)=>bif y20.1.1==y7.1&&(y20.1.2.1==y7.2.1&&true) then Option.bind (idx s8.2.1.1 s8.1) fun (y21:Ty.El zQ)=>Option.bind (atN s8.2.1.1 (Int.toNat s8.1)) fun (y22:Ty.El zQ)=>some (decide (y22.2.1<y5.2.2.2.1),s8.2) else some (false,s8.2) else some (false,s8.2)) fun (s23:Bool×(List (Ty.El zQ)×List Int)×HSt zL)=>bif s23.1 then some (Sum.inl (IntKind.wrap IntKind.i64 (s8.1+(1:Int)),s23.2)) else some (Sum.inr (s8.1,s23.2))) ((0:Int),s6.2)) fun (s24:Int×(List (Ty.El zQ)×List Int)×HSt zL)=>Option.bind (Option.bind (bif s24.1==(↑(List.length s24.2.1.1):Int) then some (true,s24.2) else Option.bind (idx s24.2.1.1 s24.1) fun (y29:Ty.El zQ)=>Option.bind (atN s24.2.1.1 (Int.toNat s24.1)) fun (y30:Ty.El zQ)=>bif !(y30.1.1==y7.1&&(y30.1.2.1==y7.2.1&&true)) then some (true,s24.2) else Option.bind (idx s24.2.1.1 s24.1) fun (y31:Ty.El zQ)=>Option.bind (atN s24.2.1.1 (Int.toNat s24.1)) fun (y32:Ty.El zQ)=>some (y32.2.1 !=y5.2.2.2.1,s24.2)) fun (s33:Bool×(List (Ty.El zQ)×List Int)×HSt zL)=>bif s33.1 then bif decide ((0:Int)≤s24.1)&&decide (s24.1≤(↑(List.length s33.2.1.1):Int))&&decide ((↑(List.length s33.2.1.1):Int)≤(↑(List.length s33.2.1.1):Int)) then Option.bind (app (48:Nat) [] (List.drop (Int.toNat s24.1) (List.take (Int.toNat (↑(List.length s33.2.1.1):Int)) s33.2.1.1))) fun (y34:List (Ty.El zQ))=>bif decide ((0:Int)≤(0:Int))&&decide ((0:Int)≤s24.1)&&decide (s24.1≤(↑(List.length s33.2.1.1):Int)) then Option.bind (app (48:Nat) (List.take (Int.toNat s24.1) s33.2.1.1) [(y7,y5.2.2.2.1,none,())]) fun (y35:List (Ty.El zQ))=>Option.bind (app (48:Nat) y35 y34) fun (y36:List (Ty.El zQ))=>some ((y36,s33.2.1.2),s33.2.2) else none else none else some s33.2) fun (s37:(List (Ty.El zQ)×List Int)×HSt zL)=>Option.bind (idx s37.1.1 s24.1) fun (y38:Ty.El zQ)=>Option.bind (atN s37.1.1 (Int.toNat s24.1)) fun (y39:Ty.El zQ)=>Option.bind (zOJ (16:Nat) s37.2 y39.2.2.1 [(s1.1,s2.1,())]) fun (y40:List (Option (List (Ty.El zL)))×Option (Nat×Nat))=>Option.bind (idx s37.1.1 s24.1) fun (y41:Ty.El zQ)=>Option.bind (atN s37.1.1 (Int.toNat s24.1)) fun (y42:Ty.El zQ)=>some ((List.set s37.1.1 (Int.toNat s24.1) (y42.1,y42.2.1,y40.2,()),s37.1.2),y40.1)) fun (s43:(List (Ty.El zQ)×List Int)×HSt zL)=>some (Sum.inl (IntKind.wrap IntKind.i64 (s2.1+(1:Int)),s43)) else some (Sum.inr s2.2)) ((0:Int),s1.2)) fun (s44:(List (Ty.El zQ)×List Int)×HSt zL)=>some (Sum.inl (IntKind.wrap IntKind.i64 (s1.1+(1:Int)),s44)) else some (Sum.inr s1.2)) ((0:Int),([],[]),st0)) fun (s45:(List (Ty.El zQ)×List Int)×HSt zL)=>Option.bind (zP (fun (s67:Int×(List (Ty.El zQ)×List Int)×HSt zL)=>bif decide (s67.1< (↑(List.length s67.2.1.1):Int)) then Option.bind (Option.bind (idx s67.2.1.1 s67.1) fun (y68:Ty.El zQ)=>Option.bind (atN s67.2.1.1 (Int.toNat s67.1)) fun (y69:Ty.El zQ)=>bif decide ((↑(zUd y69.2.2.1):Int)>(1:Int)) then Option.bind (app (8:Nat) s67.2.1.2 [s67.1]) fun (y70:List Int)=>some ((s67.2.1.1,y70),s67.2.2) else some s67.2) fun (s71:(List (Ty.El zQ)×List Int)×HSt zL)=>some (Sum.inl (IntKind.wrap IntKind.i64 (s67.1+(1:Int)),s71)) else some (Sum.inr s67.2)) ((0:Int),s45)) fun (s72:(List (Ty.El zQ)×List Int)×HSt zL)=>bif decide ((↑(List.length s72.1.2):Int)>(12:Int)) then some (s72.2,([],[],()),(7:Int),()) else some (s72.2,(s72.1.1,s72.1.2,()),(0:Int),())
noncomputable def zDI:ElS [zT]→Option (RTy.El (.tu [zI2,tI])):=zMG (.tu [zF1,tI]) zB3
noncomputable def zAB:ElS [(.sl tI),tI]→Option (RTy.El (.p .bool)):=fun x=>match x with|(a1,a2,())=>bif decide ((↑(List.length a1):Int)>(2:Int)) then some false else qW (zP (fun (s20:Int)=>bif decide (s20< (↑(List.length a1):Int)) then Option.bind (Option.bind (idx a1 s20) fun (y21:Int)=>bif decide (y21< (0:Int)) then some true else Option.bind (idx a1 s20) fun (y22:Int)=>bif decide (y22≥a2) then some true else bif decide (s20>(0:Int)) then Option.bind (idx a1 s20) fun (y23:Int)=>Option.bind (idx a1 (IntKind.wrap IntKind.i64 (s20- (1:Int)))) fun (y24:Int)=>some (decide (y23≤y24)) else some false) fun (s25:Bool)=>bif s25 then some (Sum.inr (Sum.inr false)) else some (Sum.inl (IntKind.wrap IntKind.i64 (s20+(1:Int)))) else some (Sum.inr (Sum.inl ()))) (0:Int)) fun (s26:Unit)=>some true
noncomputable def zER:ElS [zT,(.sl tI)]→Option (RTy.El (.tu [zR,tI])):=fun x=>match x with|(a1,a2,())=>Option.bind (zDI (a1,())) fun (y0:Ty.El zI2×Int×Unit)=>bif y0.2.1 !=(0:Int) then some ((([],()),([],[],()),[],()),y0.2.1,()) else Option.bind (zAB (a2,(↑(List.length y0.1.2.1):Int),())) fun (y1:Bool)=>bif !y1 then some ((([],()),([],[],()),[],()),(1:Int),()) else Option.bind (app (8:Nat) [] a2) fun (y3:List Int)=>some ((a1,y0.1,y3,()),(0:Int),())
noncomputable def zE5:ElS [zT,(.sl tI)]→Option (RTy.El (.tu [zR, .bool])):=fun x=>match x with|(a1,a2,())=>Option.bind (Option.bind (zDL (a1,())) fun (y1:Bool)=>bif !y1 then some true else some (decide ((↑(List.length a2):Int)>(2:Int)))) fun (s2:Bool)=>bif s2 then some ((([],()),([],[],()),[],()),false,()) else Option.bind (zER (a1,a2,())) fun (y3:Ty.El zR×Int×Unit)=>some (y3.1,y3.2.1==(0:Int),())
noncomputable def zBZ:ElS [tI]→Option (RTy.El (.p tI)):=fun x=>match x with|(a1,())=>some (if (if (32:Int)<a1 then (32:Int) else a1)>(0:Int) then if (32:Int)<a1 then (32:Int) else a1 else (0:Int))
noncomputable def zCY:ElS [tI]→Option (RTy.El (.p tU)):=fun x=>match x with|(a1,())=>Option.bind (zBZ (a1,())) fun (y0:Int)=>bif decide ((0:Int)≤IntKind.wrap IntKind.i64 ((32:Int) -y0)) then some (IntKind.wrap IntKind.u32 ((4294967295:Int)*(2:Int)^min (Int.toNat (IntKind.wrap IntKind.i64 ((32:Int) -y0))) (IntKind.bits IntKind.u32))) else none
noncomputable def wA:ElS [zF,tU]→Option (RTy.El (.p .bool)):=fun x=>match x with|(a1,a2,())=>Option.bind (zCY (a1.2.1,())) fun (y1:Int)=>some (IntKind.wrap IntKind.u32 (↑(BitVec.toNat (BitVec.ofInt (IntKind.bits IntKind.u32) a2&&&BitVec.ofInt (IntKind.bits IntKind.u32) y1)):Int)==a1.1)
noncomputable def zAy:ElS [(.sl zA),zF,tU]→Option (RTy.El (.p tI)):=fun x=>match x with|(a1,a2,a3,())=>Option.bind (zP (fun (s36:Int×Int)=>bif decide (s36.1< (↑(List.length a1):Int)) then Option.bind (Option.bind (idx a1 s36.1) fun (y37:Ty.El zA)=>Option.bind (bif y37.1.1==a2.1&&(y37.1.2.1==a2.2.1&&true) then some true else Option.bind (wA (y37.1,a3,())) fun (y38:Bool)=>some !y38) fun (s39:Bool)=>bif s39 then some s36.2 else Option.bind (bif decide (s36.2< (0:Int)) then some true else Option.bind (idx a1 s36.2) fun (y40:Ty.El zA)=>some (decide (y37.1.2.1>y40.1.2.1))) fun (s41:Bool)=>bif s41 then some s36.1 else some s36.2) fun (s42:Int)=>some (Sum.inl (IntKind.wrap IntKind.i64 (s36.1+(1:Int)),s42)) else some (Sum.inr s36.2)) ((0:Int),(-1:Int))) fun (s43:Int)=>some s43
noncomputable def zAI:ElA [.d z8, .pp .str]→Option (RTy.El (.p .bool)):=fun x=>match x with|(a1,a2,())=>some (a1.1==a2)
noncomputable def wE:ElA [.d (.sl z8), .clo 63 [(true, .str)]]→Option (RTy.El (.p tI)):=fun x=>match x with|(a1,(a2,()),())=>qW (zP (fun (s6:Int)=>bif decide (s6< (↑(List.length a1):Int)) then Option.bind (idx a1 s6) fun (y7:Ty.El z8)=>Option.bind (zAI (y7,a2,())) fun (y8:Bool)=>bif y8 then some (Sum.inr (Sum.inr s6)) else some (Sum.inl (IntKind.wrap IntKind.i64 (s6+(1:Int)))) else some (Sum.inr (Sum.inl ()))) (0:Int)) fun (s9:Unit)=>some (-1:Int)
noncomputable def zAC:ElS [zD, .str]→Option (RTy.El (.p tI)):=fun x=>match x with|(a1,a2,())=>Option.bind (wE (a1.2.2.1,(a2,()),())) fun (y0:Int)=>some y0
noncomputable def xT:ElS [(.sl zL),zL]→Option (RTy.El (.p tI)):=fun x=>match x with|(a1,a2,())=>qW (zP (fun (s5:Int)=>bif decide (s5< (↑(List.length a1):Int)) then Option.bind (idx a1 s5) fun (y6:Ty.El zL)=>bif a2.1==y6.1&&(a2.2.1==y6.2.1&&true) then some (Sum.inr (Sum.inr s5)) else some (Sum.inl (IntKind.wrap IntKind.i64 (s5+(1:Int)))) else some (Sum.inr (Sum.inl ()))) (0:Int)) fun (s7:Unit)=>some (-1:Int)
noncomputable def uD:ElS [(.sl zL),zL]→Option (RTy.El (.p .bool)):=fun x=>match x with|(a1,a2,())=>Option.bind (xT (a1,a2,())) fun (y0:Int)=>some (decide (y0≥(0:Int)))
noncomputable def zAN:ElS [zR,tI,tI]→Option (RTy.El (.p tI)):=fun x=>match x with|(a1,a2,a3,())=>qW (zP (fun (s9:Int)=>bif decide (s9< (↑(List.length a1.2.1.1):Int)) then Option.bind (idx a1.2.1.1 s9) fun (y10:Ty.El kB)=>Option.bind (uD (y10.2.2.1,(a2,a3,()),())) fun (y11:Bool)=>bif y11 then some (Sum.inr (Sum.inr s9)) else some (Sum.inl (IntKind.wrap IntKind.i64 (s9+(1:Int)))) else some (Sum.inr (Sum.inl ()))) (0:Int)) fun (s12:Unit)=>some (-1:Int)
noncomputable def uM:ElS [(.sl tI),tI]→Option (RTy.El (.p tI)):=fun x=>match x with|(a1,a2,())=>qW (zP (fun (s4:Int)=>bif decide (s4< (↑(List.length a1):Int)) then Option.bind (idx a1 s4) fun (y5:Int)=>bif a2==y5 then some (Sum.inr (Sum.inr s4)) else some (Sum.inl (IntKind.wrap IntKind.i64 (s4+(1:Int)))) else some (Sum.inr (Sum.inl ()))) (0:Int)) fun (s6:Unit)=>some (-1:Int)
noncomputable def zGQ:ElS [zR,tI,tI]→Option (RTy.El (.p tI)):=fun x=>match x with|(a1,a2,a3,())=>Option.bind (zAN (a1,a2,a3,())) fun (y0:Int)=>bif decide (y0< (0:Int)) then some (-1:Int) else Option.bind (uM (a1.2.1.2.1,y0,())) fun (y1:Int)=>some y1
noncomputable def vB:ElS [(.sl tI),tI]→Option (RTy.El (.p .bool)):=fun x=>match x with|(a1,a2,())=>Option.bind (uM (a1,a2,())) fun (y0:Int)=>some (decide (y0≥(0:Int)))
noncomputable def zGP:ElS [zR,tI,tI]→Option (RTy.El (.p .bool)):=fun x=>match x with|(a1,a2,a3,())=>Option.bind (zAN (a1,a2,a3,())) fun (y0:Int)=>bif decide (y0< (0:Int)) then some false else Option.bind (zGQ (a1,a2,a3,())) fun (y1:Int)=>Option.bind (bif decide (y1< (0:Int)) then some true else Option.bind (vB (a1.2.2.1,y1,())) fun (y3:Bool)=>some !y3) fun (s4:Bool)=>some s4
noncomputable def zB2:ElS [zR,(.sl zA),tI]→Option (RTy.El (.p (.sl zA))):=fun x=>match x with|(a1,a2,a3,())=>Option.bind (bif decide (a3< (0:Int)) then some true else some (decide (a3≥(↑(List.length a1.1.1):Int)))) fun (s0:Bool)=>bif s0 then some [] else Option.bind (idx a1.1.1 a3) fun (y1:Ty.El zD)=>Option.bind (zP (fun (s60:Int×List (Ty.El zA))=>bif decide (s60.1< (↑(List.length y1.2.2.2.2.2.2.2.1):Int)) then Option.bind (Option.bind (idx y1.2.2.2.2.2.2.2.1 s60.1) fun (y61:Ty.El zEI)=>qW (bif y61.2.1 !=(0:Int) then Option.bind (zAy (a2,y61.1,y61.2.1,())) fun (y62:Int)=>Option.bind (bif decide (y62< (0:Int)) then some (true,s60.2) else Option.bind (idx a2 y62) fun (y63:Ty.El zA)=>some (y63.2.2.2.2.2.2.2.2.2.2.2.2.1,s60.2)) fun (s64:Bool×List (Ty.El zA))=>bif s64.1 then some (Sum.inr s64.2) else some (Sum.inl (s64.2,y61.1,(2:Int),(0:Int),y61.2.2.2.2.1,(0:Int),(0:Int),y61.2.2.2.2.2.1,(0:Int),[],(0:Int),y61.2.1,[],false,())) else bif y61.2.2.1 != { data:= #[] } then Option.bind (zAC (y1,y61.2.2.1,())) fun (y65:Int)=>Option.bind (zGP (a1,a3,y65,())) fun (y66:Bool)=>bif !y66 then some (Sum.inr s60.2) else some (Sum.inl (s60.2,y61.1,(2:Int),(0:Int),y61.2.2.2.2.1,(0:Int),(0:Int),y61.2.2.2.2.2.1,(0:Int),[],(0:Int),(0:Int),[(y65,(0:Int),())],false,())) else bif y61.2.2.2.1 then some (Sum.inl (s60.2,y61.1,(2:Int),(0:Int),y61.2.2.2.2.1,(0:Int),(0:Int),y61.2.2.2.2.2.1,(0:Int),[],(0:Int),(0:Int),[],true,())) else some (Sum.inr s60.2)) fun (s67:List (Ty.El zA)×Ty.El zA)=>Option.bind (app (136:Nat) s67.1 [s67.2]) fun (y68:List (Ty.El zA))=>some y68) fun (s69:List (Ty.El zA))=>some (Sum.inl (IntKind.wrap IntKind.i64 (s60.1+(1:Int)),s69)) else some (Sum.inr s60.2)) ((0:Int),[])) fun (s70:List (Ty.El zA))=>some s70
noncomputable def zCP:ElS [tU,tI]→Option (RTy.El (.p zF)):=fun x=>match x with|(a1,a2,())=>Option.bind (zCY (a2,())) fun (y0:Int)=>Option.bind (zBZ (a2,())) fun (y1:Int)=>some (IntKind.wrap IntKind.u32 (↑(BitVec.toNat (BitVec.ofInt (IntKind.bits IntKind.u32) a1&&&BitVec.ofInt (IntKind.bits IntKind.u32) y0)):Int),y1,())
noncomputable def x6:ElS [tU]→Option (RTy.El (.p .bool)):=fun x=>match x with|(a1,())=>some (a1 !=a1)
noncomputable def wK:ElS [tU,tU]→Option (RTy.El (.p tI)):=fun x=>match x with|(a1,a2,())=>Option.bind (x6 (a1,())) fun (y0:Bool)=>Option.bind (x6 (a2,())) fun (y1:Bool)=>bif y0 then bif y1 then some (0:Int) else some (-1:Int) else bif y1 then some (1:Int) else bif decide (a1<a2) then some (-1:Int) else bif decide (a1>a2) then some (1:Int) else some (0:Int)
noncomputable def zB4:ElS [tI]→Option (RTy.El (.p .bool)):=fun x=>match x with|(a1,())=>some (a1 !=a1)
noncomputable def z7:ElS [tI,tI]→Option (RTy.El (.p tI)):=fun x=>match x with|(a1,a2,())=>Option.bind (zB4 (a1,())) fun (y0:Bool)=>Option.bind (zB4 (a2,())) fun (y1:Bool)=>bif y0 then bif y1 then some (0:Int) else some (-1:Int) else bif y1 then some (1:Int) else bif decide (a1<a2) then some (-1:Int) else bif decide (a1>a2) then some (1:Int) else some (0:Int)
noncomputable def zBz:ElS [zF,zF]→Option (RTy.El (.p tI)):=fun x=>match x with|(a1,a2,())=>Option.bind (wK (a1.1,a2.1,())) fun (y0:Int)=>bif y0 !=(0:Int) then some y0 else Option.bind (z7 (a1.2.1,a2.2.1,())) fun (y1:Int)=>some y1
noncomputable def zM:ElS [zA,zA]→Option (RTy.El (.p tI)):=fun x=>match x with|(a1,a2,())=>Option.bind (zBz (a1.1,a2.1,())) fun (y0:Int)=>some y0
noncomputable def z6:List (Ty.El zA)→ElA [.d tI, .d tI, .clo 26 []]→Option (List (Ty.El zA)×RTy.El (.tu [])):=fun a0 x=>match x with|(a1,a2,(),())=>zP (fun (s157:Int×List (Ty.El zA))=>bif decide (s157.1<a2) then Option.bind (zP (fun (s158:Int×List (Ty.El zA))=>Option.bind (bif decide (s158.1>a1) then Option.bind (idx s158.2 s158.1) fun (y159:Ty.El zA)=>Option.bind (atN s158.2 (Int.toNat s158.1)) fun (y160:Ty.El zA)=>Option.bind (idx s158.2 (IntKind.wrap IntKind.i64 (s158.1- (1:Int)))) fun (y161:Ty.El zA)=>Option.bind (atN s158.2 (Int.toNat (IntKind.wrap IntKind.i64 (s158.1- (1:Int))))) fun (y162:Ty.El zA)=>Option.bind (zM (y160,y162,())) fun (y163:Int)=>some (decide (y163< (0:Int)),s158.2) else some (false,s158.2)) fun (s164:Bool×List (Ty.El zA))=>bif s164.1 then Option.bind (idx s164.2 (IntKind.wrap IntKind.i64 (s158.1- (1:Int)))) fun (y165:Ty.El zA)=>Option.bind (atN s164.2 (Int.toNat (IntKind.wrap IntKind.i64 (s158.1- (1:Int))))) fun (y166:Ty.El zA)=>Option.bind (idx s164.2 s158.1) fun (y167:Ty.El zA)=>Option.bind (atN s164.2 (Int.toNat s158.1)) fun (y168:Ty.El zA)=>Option.bind (idx s164.2 s158.1) fun (y169:Ty.El zA)=>Option.bind (atN s164.2 (Int.toNat s158.1)) fun (y170:Ty.El zA)=>Option.bind (idx (List.set s164.2 (Int.toNat s158.1) y166) (IntKind.wrap IntKind.i64 (s158.1- (1:Int)))) fun (y171:Ty.El zA)=>Option.bind (atN (List.set s164.2 (Int.toNat s158.1) y166) (Int.toNat (IntKind.wrap IntKind.i64 (s158.1- (1:Int))))) fun (y172:Ty.El zA)=>some (Sum.inl (IntKind.wrap IntKind.i64 (s158.1- (1:Int)),List.set (List.set s164.2 (Int.toNat s158.1) y166) (Int.toNat (IntKind.wrap IntKind.i64 (s158.1- (1:Int)))) y168)) else some (Sum.inr s164.2)) s157) fun (s173:List (Ty.El zA))=>some (Sum.inl (IntKind.wrap IntKind.i64 (s157.1+(1:Int)),s173)) else Option.map (fun (r:List (Ty.El zA)×Unit)=>Sum.inr r) (bif Nat.beq (List.length s157.2) (List.length a0) then some (s157.2,()) else none)) (IntKind.wrap IntKind.i64 (a1+(1:Int)),a0)
noncomputable def qD:List (Ty.El zA)→ElA [.d tI, .d tI, .d tI, .clo 26 []]→Option (List (Ty.El zA)×RTy.El (.tu [])):=fun a0 x=>match x with|(a1,a2,a3,(),())=>zP (fun (s17:Int×List (Ty.El zA))=>bif decide (s17.1<a3) then Option.bind (idx s17.2 (IntKind.wrap IntKind.i64 (a2+s17.1))) fun (y18:Ty.El zA)=>Option.bind (atN s17.2 (Int.toNat (IntKind.wrap IntKind.i64 (a2+s17.1)))) fun (y19:Ty.El zA)=>Option.bind (idx s17.2 (IntKind.wrap IntKind.i64 (a1+s17.1))) fun (y20:Ty.El zA)=>Option.bind (atN s17.2 (Int.toNat (IntKind.wrap IntKind.i64 (a1+s17.1)))) fun (y21:Ty.El zA)=>Option.bind (idx s17.2 (IntKind.wrap IntKind.i64 (a1+s17.1))) fun (y22:Ty.El zA)=>Option.bind (atN s17.2 (Int.toNat (IntKind.wrap IntKind.i64 (a1+s17.1)))) fun (y23:Ty.El zA)=>Option.bind (idx (List.set s17.2 (Int.toNat (IntKind.wrap IntKind.i64 (a1+s17.1))) y19) (IntKind.wrap IntKind.i64 (a2+s17.1))) fun (y24:Ty.El zA)=>Option.bind (atN (List.set s17.2 (Int.toNat (IntKind.wrap IntKind.i64 (a1+s17.1))) y19) (Int.toNat (IntKind.wrap IntKind.i64 (a2+s17.1)))) fun (y25:Ty.El zA)=>some (Sum.inl (IntKind.wrap IntKind.i64 (s17.1+(1:Int)),List.set (List.set s17.2 (Int.toNat (IntKind.wrap IntKind.i64 (a1+s17.1))) y19) (Int.toNat (IntKind.wrap IntKind.i64 (a2+s17.1))) y21)) else Option.map (fun (r:List (Ty.El zA)×Unit)=>Sum.inr r) (bif Nat.beq (List.length s17.2) (List.length a0) then some (s17.2,()) else none)) ((0:Int),a0)
noncomputable def jL:List (Ty.El zA)→ElA [.d tI, .d tI, .d tI, .clo 26 []]→Option (List (Ty.El zA)×RTy.El (.tu [])):=fun a0 x=>match x with|(a1,a2,a3,(),())=>Option.bind (zP (fun (s6:Int×Int×List (Ty.El zA))=>bif s6.1 !=s6.2.1 then bif decide (s6.1>s6.2.1) then bif Nat.beq (List.length s6.2.2) (List.length s6.2.2) then Option.bind (qD s6.2.2 (IntKind.wrap IntKind.i64 (a2-s6.1),a2,s6.2.1,(),())) fun (y7:List (Ty.El zA)×Unit)=>some (Sum.inl (IntKind.wrap IntKind.i64 (s6.1-s6.2.1),s6.2.1,y7.1)) else none else bif Nat.beq (List.length s6.2.2) (List.length s6.2.2) then Option.bind (qD s6.2.2 (IntKind.wrap IntKind.i64 (a2-s6.1),IntKind.wrap IntKind.i64 (IntKind.wrap IntKind.i64 (a2+s6.2.1) -s6.1),s6.1,(),())) fun (y8:List (Ty.El zA)×Unit)=>some (Sum.inl (s6.1,IntKind.wrap IntKind.i64 (s6.2.1-s6.1),y8.1)) else none else some (Sum.inr (s6.2.2,s6.1))) (IntKind.wrap IntKind.i64 (a2-a1),IntKind.wrap IntKind.i64 (a3-a2),a0)) fun (s9:List (Ty.El zA)×Int)=>bif Nat.beq (List.length s9.1) (List.length s9.1) then Option.bind (qD s9.1 (IntKind.wrap IntKind.i64 (a2-s9.2),a2,s9.2,(),())) fun (y10:List (Ty.El zA)×Unit)=>bif Nat.beq (List.length y10.1) (List.length a0) then some (y10.1,()) else none else none
noncomputable def uK (slices_symMergeCmpFunc_Route_self:List (Ty.El zA)→ElA [.d tI, .d tI, .d tI, .clo 26 []]→Option (List (Ty.El zA)×RTy.El (.tu []))):List (Ty.El zA)→ElA [.d tI, .d tI, .d tI, .clo 26 []]→Option (List (Ty.El zA)×RTy.El (.tu [])):=fun a0 x=>match x with|(a1,a2,a3,(),())=>qW (bif IntKind.wrap IntKind.i64 (a2-a1)==(1:Int) then Option.bind (zP (fun (s50:Int×Int×List (Ty.El zA))=>bif decide (s50.1<s50.2.1) then Option.bind (idx s50.2.2 (IntKind.wrap IntKind.i64 (Int.fdiv (IntKind.wrap IntKind.u64 (IntKind.wrap IntKind.i64 (s50.1+s50.2.1))) ((2:Int)^min (Int.toNat (1:Int)) (IntKind.bits IntKind.u64))))) fun (y51:Ty.El zA)=>Option.bind (atN s50.2.2 (Int.toNat (IntKind.wrap IntKind.i64 (Int.fdiv (IntKind.wrap IntKind.u64 (IntKind.wrap IntKind.i64 (s50.1+s50.2.1))) ((2:Int)^min (Int.toNat (1:Int)) (IntKind.bits IntKind.u64)))))) fun (y52:Ty.El zA)=>Option.bind (idx s50.2.2 a1) fun (y53:Ty.El zA)=>Option.bind (atN s50.2.2 (Int.toNat a1)) fun (y54:Ty.El zA)=>Option.bind (zM (y52,y54,())) fun (y55:Int)=>bif decide (y55< (0:Int)) then some (Sum.inl (IntKind.wrap IntKind.i64 (IntKind.wrap IntKind.i64 (Int.fdiv (IntKind.wrap IntKind.u64 (IntKind.wrap IntKind.i64 (s50.1+s50.2.1))) ((2:Int)^min (Int.toNat (1:Int)) (IntKind.bits IntKind.u64)))+(1:Int)),s50.2)) else some (Sum.inl (s50.1,IntKind.wrap IntKind.i64 (Int.fdiv (IntKind.wrap IntKind.u64 (IntKind.wrap IntKind.i64 (s50.1+s50.2.1))) ((2:Int)^min (Int.toNat (1:Int)) (IntKind.bits IntKind.u64))),s50.2.2)) else some (Sum.inr (s50.1,s50.2.2))) (a2,a3,a0)) fun (s56:Int×List (Ty.El zA))=>zP (fun (s57:Int×List (Ty.El zA))=>bif decide (s57.1<IntKind.wrap IntKind.i64 (s56.1- (1:Int))) then Option.bind (idx s57.2 (IntKind.wrap IntKind.i64 (s57.1+(1:Int)))) fun (y58:Ty.El zA)=>Option.bind (atN s57.2 (Int.toNat (IntKind.wrap IntKind.i64 (s57.1+(1:Int))))) fun (y59:Ty.El zA)=>Option.bind (idx s57.2 s57.1) fun (y60:Ty.El zA)=>Option.bind (atN s57.2 (Int.toNat s57.1)) fun (y61:Ty.El zA)=>Option.bind (idx s57.2 s57.1) fun (y62:Ty.El zA)=>Option.bind (atN s57.2 (Int.toNat s57.1)) fun (y63:Ty.El zA)=>Option.bind (idx (List.set s57.2 (Int.toNat s57.1) y59) (IntKind.wrap IntKind.i64 (s57.1+(1:Int)))) fun (y64:Ty.El zA)=>Option.bind (atN (List.set s57.2 (Int.toNat s57.1) y59) (Int.toNat (IntKind.wrap IntKind.i64 (s57.1+(1:Int))))) fun (y65:Ty.El zA)=>some (Sum.inl (IntKind.wrap IntKind.i64 (s57.1+(1:Int)),List.set (List.set s57.2 (Int.toNat s57.1) y59) (Int.toNat (IntKind.wrap IntKind.i64 (s57.1+(1:Int)))) y61)) else Option.map (fun (r:List (Ty.El zA) ⊕ List (Ty.El zA)×Unit)=>Sum.inr r) (Option.map (fun (r:List (Ty.El zA)×Unit)=>Sum.inr r) (bif Nat.beq (List.length s57.2) (List.length a0) then some (s57.2,()) else none))) (a1,s56.2) else some (Sum.inl a0)) fun (s66:List (Ty.El zA))=>qW (bif IntKind.wrap IntKind.i64 (a3-a2)==(1:Int) then Option.bind (zP (fun (s117:Int×Int×List (Ty.El zA))=>bif decide (s117.1<s117.2.1) then Option.bind (idx s117.2.2 a2) fun (y118:Ty.El zA)=>Option.bind (atN s117.2.2 (Int.toNat a2)) fun (y119:Ty.El zA)=>Option.bind (idx s117.2.2 (IntKind.wrap IntKind.i64 (Int.fdiv (IntKind.wrap IntKind.u64 (IntKind.wrap IntKind.i64 (s117.1+s117.2.1))) ((2:Int)^min (Int.toNat (1:Int)) (IntKind.bits IntKind.u64))))) fun (y120:Ty.El zA)=>Option.bind (atN s117.2.2 (Int.toNat (IntKind.wrap IntKind.i64 (Int.fdiv (IntKind.wrap IntKind.u64 (IntKind.wrap IntKind.i64 (s117.1+s117.2.1))) ((2:Int)^min (Int.toNat (1:Int)) (IntKind.bits IntKind.u64)))))) fun (y121:Ty.El zA)=>Option.bind (zM (y119,y121,())) fun (y122:Int)=>bif !decide (y122< (0:Int)) then some (Sum.inl (IntKind.wrap IntKind.i64 (IntKind.wrap IntKind.i64 (Int.fdiv (IntKind.wrap IntKind.u64 (IntKind.wrap IntKind.i64 (s117.1+s117.2.1))) ((2:Int)^min (Int.toNat (1:Int)) (IntKind.bits IntKind.u64)))+(1:Int)),s117.2)) else some (Sum.inl (s117.1,IntKind.wrap IntKind.i64 (Int.fdiv (IntKind.wrap IntKind.u64 (IntKind.wrap IntKind.i64 (s117.1+s117.2.1))) ((2:Int)^min (Int.toNat (1:Int)) (IntKind.bits IntKind.u64))),s117.2.2)) else some (Sum.inr (s117.1,s117.2.2))) (a1,a2,s66)) fun (s123:Int×List (Ty.El zA))=>zP (fun (s124:Int×List (Ty.El zA))=>bif decide (s124.1>s123.1) then Option.bind (idx s124.2 (IntKind.wrap IntKind.i64 (s124.1- (1:Int)))) fun (y125:Ty.El zA)=>Option.bind (atN s124.2 (Int.toNat (IntKind.wrap IntKind.i64 (s124.1- (1:Int))))) fun (y126:Ty.El zA)=>Option.bind (idx s124.2 s124.1) fun (y127:Ty.El zA)=>Option.bind (atN s124.2 (Int.toNat s124.1)) fun (y128:Ty.El zA)=>Option.bind (idx s124.2 s124.1) fun (y129:Ty.El zA)=>Option.bind (atN s124.2 (Int.toNat s124.1)) fun (y130:Ty.El zA)=>Option.bind (idx (List.set s124.2 (Int.toNat s124.1) y126) (IntKind.wrap IntKind.i64 (s124.1- (1:Int)))) fun (y131:Ty.El zA)=>Option.bind (atN (List.set s124.2 (Int.toNat s124.1) y126) (Int.toNat (IntKind.wrap IntKind.i64 (s124.1- (1:Int))))) fun (y132:Ty.El zA)=>some (Sum.inl (IntKind.wrap IntKind.i64 (s124.1- (1:Int)),List.set (List.set s124.2 (Int.toNat s124.1) y126) (Int.toNat (IntKind.wrap IntKind.i64 (s124.1- (1:Int)))) y128)) else Option.map (fun (r:List (Ty.El zA) ⊕ List (Ty.El zA)×Unit)=>Sum.inr r) (Option.map (fun (r:List (Ty.El zA)×Unit)=>Sum.inr r) (bif Nat.beq (List.length s124.2) (List.length a0) then some (s124.2,()) else none))) (a2,s123.2) else some (Sum.inl s66)) fun (s133:List (Ty.El zA))=>Option.bind (bif decide (a2>IntKind.wrap IntKind.i64 (Int.fdiv (IntKind.wrap IntKind.u64 (IntKind.wrap IntKind.i64 (a1+a3))) ((2:Int)^min (Int.toNat (1:Int)) (IntKind.bits IntKind.u64)))) then some (IntKind.wrap IntKind.i64 (IntKind.wrap IntKind.i64 (IntKind.wrap IntKind.i64 (Int.fdiv (IntKind.wrap IntKind.u64 (IntKind.wrap IntKind.i64 (a1+a3))) ((2:Int)^min (Int.toNat (1:Int)) (IntKind.bits IntKind.u64)))+a2) -a3),IntKind.wrap IntKind.i64 (Int.fdiv (IntKind.wrap IntKind.u64 (IntKind.wrap IntKind.i64 (a1+a3))) ((2:Int)^min (Int.toNat (1:Int)) (IntKind.bits IntKind.u64))),s133) else some (a1,a2,s133)) fun (s134:Int×Int×List (Ty.El zA))=>Option.bind (zP (fun (s152:Int×Int×List (Ty.El zA))=>bif decide (s152.1<s152.2.1) then Option.bind (idx s152.2.2 (IntKind.wrap IntKind.i64 (IntKind.wrap IntKind.i64 (IntKind.wrap IntKind.i64 (IntKind.wrap IntKind.i64 (Int.fdiv (IntKind.wrap IntKind.u64 (IntKind.wrap IntKind.i64 (a1+a3))) ((2:Int)^min (Int.toNat (1:Int)) (IntKind.bits IntKind.u64)))+a2) - (1:Int)) -IntKind.wrap IntKind.i64 (Int.fdiv (IntKind.wrap IntKind.u64 (IntKind.wrap IntKind.i64 (s152.1+s152.2.1))) ((2:Int)^min (Int.toNat (1:Int)) (IntKind.bits IntKind.u64)))))) fun (y153:Ty.El zA)=>Option.bind (atN s152.2.2 (Int.toNat (IntKind.wrap IntKind.i64 (IntKind.wrap IntKind.i64 (IntKind.wrap IntKind.i64 (IntKind.wrap IntKind.i64 (Int.fdiv (IntKind.wrap IntKind.u64 (IntKind.wrap IntKind.i64 (a1+a3))) ((2:Int)^min (Int.toNat (1:Int)) (IntKind.bits IntKind.u64)))+a2) - (1:Int)) -IntKind.wrap IntKind.i64 (Int.fdiv (IntKind.wrap IntKind.u64 (IntKind.wrap IntKind.i64 (s152.1+s152.2.1))) ((2:Int)^min (Int.toNat (1:Int)) (IntKind.bits IntKind.u64))))))) fun (y154:Ty.El zA)=>Option.bind (idx s152.2.2 (IntKind.wrap IntKind.i64 (Int.fdiv (IntKind.wrap IntKind.u64 (IntKind.wrap IntKind.i64 (s152.1+s152.2.1))) ((2:Int)^min (Int.toNat (1:Int)) (IntKind.bits IntKind.u64))))) fun (y155:Ty.El zA)=>Option.bind (atN s152.2.2 (Int.toNat (IntKind.wrap IntKind.i64 (Int.fdiv (IntKind.wrap IntKind.u64 (IntKind.wrap IntKind.i64 (s152.1+s152.2.1))) ((2:Int)^min (Int.toNat (1:Int)) (IntKind.bits IntKind.u64)))))) fun (y156:Ty.El zA)=>Option.bind (zM (y154,y156,())) fun (y157:Int)=>bif !decide (y157< (0:Int)) then some (Sum.inl (IntKind.wrap IntKind.i64 (IntKind.wrap IntKind.i64 (Int.fdiv (IntKind.wrap IntKind.u64 (IntKind.wrap IntKind.i64 (s152.1+s152.2.1))) ((2:Int)^min (Int.toNat (1:Int)) (IntKind.bits IntKind.u64)))+(1:Int)),s152.2)) else some (Sum.inl (s152.1,IntKind.wrap IntKind.i64 (Int.fdiv (IntKind.wrap IntKind.u64 (IntKind.wrap IntKind.i64 (s152.1+s152.2.1))) ((2:Int)^min (Int.toNat (1:Int)) (IntKind.bits IntKind.u64))),s152.2.2)) else some (Sum.inr (s152.1,s152.2.2))) s134) fun (s158:Int×List (Ty.El zA))=>Option.bind (Option.bind (bif decide (s158.1<a2) then some (decide (a2<IntKind.wrap IntKind.i64 (IntKind.wrap IntKind.i64 (IntKind.wrap IntKind.i64 (Int.fdiv (IntKind.wrap IntKind.u64 (IntKind.wrap IntKind.i64 (a1+a3))) ((2:Int)^min (Int.toNat (1:Int)) (IntKind.bits IntKind.u64)))+a2) -s158.1)),s158.2) else some (false,s158.2)) fun (s161:Bool×List (Ty.El zA))=>bif s161.1 then bif Nat.beq (List.length s161.2) (List.length s161.2) then Option.bind (jL s161.2 (s158.1,a2,IntKind.wrap IntKind.i64 (IntKind.wrap IntKind.i64 (IntKind.wrap IntKind.i64 (Int.fdiv (IntKind.wrap IntKind.u64 (IntKind.wrap IntKind.i64 (a1+a3))) ((2:Int)^min (Int.toNat (1:Int)) (IntKind.bits IntKind.u64)))+a2) -s158.1),(),())) fun (y162:List (Ty.El zA)×Unit)=>some y162.1 else none else some s161.2) fun (s163:List (Ty.El zA))=>Option.bind (Option.bind (bif decide (a1<s158.1) then some (decide (s158.1<IntKind.wrap IntKind.i64 (Int.fdiv (IntKind.wrap IntKind.u64 (IntKind.wrap IntKind.i64 (a1+a3))) ((2:Int)^min (Int.toNat (1:Int)) (IntKind.bits IntKind.u64)))),s163) else some (false,s163)) fun (s166:Bool×List (Ty.El zA))=>bif s166.1 then bif Nat.beq (List.length s166.2) (List.length s166.2) then Option.bind (slices_symMergeCmpFunc_Route_self s166.2 (a1,s158.1,IntKind.wrap IntKind.i64 (Int.fdiv (IntKind.wrap IntKind.u64 (IntKind.wrap IntKind.i64 (a1+a3))) ((2:Int)^min (Int.toNat (1:Int)) (IntKind.bits IntKind.u64))),(),())) fun (y167:List (Ty.El zA)×Unit)=>some y167.1 else none else some s166.2) fun (s168:List (Ty.El zA))=>Option.bind (bif decide (IntKind.wrap IntKind.i64 (Int.fdiv (IntKind.wrap IntKind.u64 (IntKind.wrap IntKind.i64 (a1+a3))) ((2:Int)^min (Int.toNat (1:Int)) (IntKind.bits IntKind.u64)))<IntKind.wrap IntKind.i64 (IntKind.wrap IntKind.i64 (IntKind.wrap IntKind.i64 (Int.fdiv (IntKind.wrap IntKind.u64 (IntKind.wrap IntKind.i64 (a1+a3))) ((2:Int)^min (Int.toNat (1:Int)) (IntKind.bits IntKind.u64)))+a2) -s158.1)) then some (decide (IntKind.wrap IntKind.i64 (IntKind.wrap IntKind.i64 (IntKind.wrap IntKind.i64 (Int.fdiv (IntKind.wrap IntKind.u64 (IntKind.wrap IntKind.i64 (a1+a3))) ((2:Int)^min (Int.toNat (1:Int)) (IntKind.bits IntKind.u64)))+a2) -s158.1)<a3),s168) else some (false,s168)) fun (s169:Bool×List (Ty.El zA))=>bif s169.1 then bif Nat.beq (List.length s169.2) (List.length s169.2) then Option.bind (slices_symMergeCmpFunc_Route_self s169.2 (IntKind.wrap IntKind.i64 (Int.fdiv (IntKind.wrap IntKind.u64 (IntKind.wrap IntKind.i64 (a1+a3))) ((2:Int)^min (Int.toNat (1:Int)) (IntKind.bits IntKind.u64))),IntKind.wrap IntKind.i64 (IntKind.wrap IntKind.i64 (IntKind.wrap IntKind.i64 (Int.fdiv (IntKind.wrap IntKind.u64 (IntKind.wrap IntKind.i64 (a1+a3))) ((2:Int)^min (Int.toNat (1:Int)) (IntKind.bits IntKind.u64)))+a2) -s158.1),a3,(),())) fun (y170:List (Ty.El zA)×Unit)=>bif Nat.beq (List.length y170.1) (List.length a0) then some (y170.1,()) else none else none else bif Nat.beq (List.length s169.2) (List.length a0) then some (s169.2,()) else none
noncomputable def z2:Nat→(List (Ty.El zA)→ElA [.d tI, .d tI, .d tI, .clo 26 []]→Option (List (Ty.El zA)×RTy.El (.tu [])))|0=>fun _ _=>none|n+1=>uK (z2 n)
noncomputable def qF:List (Ty.El zA)→ElA [.d tI, .d tI, .d tI, .clo 26 []]→Option (List (Ty.El zA)×RTy.El (.tu [])):=z2 1048576
noncomputable def qL:List (Ty.El zA)→ElA [.d tI, .clo 26 []]→Option (List (Ty.El zA)×RTy.El (.tu [])):=fun a0 x=>match x with|(a1,(),())=>Option.bind (zP (fun (s4:Int×List (Ty.El zA)×Int)=>bif decide (s4.1≤a1) then bif Nat.beq (List.length s4.2.1) (List.length s4.2.1) then Option.bind (z6 s4.2.1 (s4.2.2,s4.1,(),())) fun (y5:List (Ty.El zA)×Unit)=>some (Sum.inl (IntKind.wrap IntKind.i64 (s4.1+(20:Int)),y5.1,s4.1)) else none else some (Sum.inr s4.2)) ((20:Int),a0,(0:Int))) fun (s6:List (Ty.El zA)×Int)=>bif Nat.beq (List.length s6.1) (List.length s6.1) then Option.bind (z6 s6.1 (s6.2,a1,(),())) fun (y7:List (Ty.El zA)×Unit)=>zP (fun (s30:Int×List (Ty.El zA))=>bif decide (s30.1<a1) then Option.bind (zP (fun (s31:Int×List (Ty.El zA)×Int)=>bif decide (s31.1≤a1) then bif Nat.beq (List.length s31.2.1) (List.length s31.2.1) then Option.bind (qF s31.2.1 (s31.2.2,IntKind.wrap IntKind.i64 (s31.2.2+s30.1),s31.1,(),())) fun (y32:List (Ty.El zA)×Unit)=>some (Sum.inl (IntKind.wrap IntKind.i64 (s31.1+IntKind.wrap IntKind.i64 ((2:Int)*s30.1)),y32.1,s31.1)) else none else some (Sum.inr (s31.2.2,s31.2.1))) (IntKind.wrap IntKind.i64 ((2:Int)*s30.1),s30.2,(0:Int))) fun (s33:Int×List (Ty.El zA))=>Option.bind (bif decide (IntKind.wrap IntKind.i64 (s33.1+s30.1)<a1) then bif Nat.beq (List.length s33.2) (List.length s33.2) then Option.bind (qF s33.2 (s33.1,IntKind.wrap IntKind.i64 (s33.1+s30.1),a1,(),())) fun (y34:List (Ty.El zA)×Unit)=>some y34.1 else none else some s33.2) fun (s35:List (Ty.El zA))=>some (Sum.inl (IntKind.wrap IntKind.i64 (s30.1*(2:Int)),s35)) else Option.map (fun (r:List (Ty.El zA)×Unit)=>Sum.inr r) (bif Nat.beq (List.length s30.2) (List.length a0) then some (s30.2,()) else none)) ((20:Int),y7.1) else none
noncomputable def qO:List (Ty.El zA)→ElA [.clo 26 []]→Option (List (Ty.El zA)×RTy.El (.tu [])):=fun a0 x=>match x with|((),())=>bif Nat.beq (List.length a0) (List.length a0)&&Nat.beq (List.length a0) (List.length a0) then Option.bind (qL a0 ((↑(List.length a0):Int),(),())) fun (y0:List (Ty.El zA)×Unit)=>bif Nat.beq (List.length y0.1) (List.length a0) then some (y0.1,()) else none else none
noncomputable def xX:ElS [zR,tI,tI]→Option (RTy.El (.p tI)):=fun x=>match x with|(a1,a2,a3,())=>qW (zP (fun (s20:Int)=>bif decide (s20< (↑(List.length a1.2.1.1):Int)) then qW (zP (fun (s21:Int)=>Option.bind (idx a1.2.1.1 s20) fun (y22:Ty.El kB)=>bif decide (s21< (↑(List.length y22.2.2.1):Int)) then Option.bind (idx a1.2.1.1 s20) fun (y23:Ty.El kB)=>Option.bind (idx y23.2.2.1 s21) fun (y24:Ty.El zL)=>bif y24.1==a2&&(y24.2.1==a3&&true) then some (Sum.inr (Sum.inr (Sum.inr (Sum.inr s20)))) else some (Sum.inl (IntKind.wrap IntKind.i64 (s21+(1:Int)))) else some (Sum.inr (Sum.inl ()))) (0:Int)) fun (s25:Unit)=>some (Sum.inl (IntKind.wrap IntKind.i64 (s20+(1:Int)))) else some (Sum.inr (Sum.inl ()))) (0:Int)) fun (s26:Unit)=>some (-1:Int)
noncomputable def zES:ElS [zR,tI,tI]→Option (RTy.El (.p tI)):=fun x=>match x with|(a1,a2,a3,())=>Option.bind (xX (a1,a2,a3,())) fun (y0:Int)=>qW (zP (fun (s8:Int)=>bif decide (s8< (↑(List.length a1.2.1.2.1):Int)) then Option.bind (bif decide (y0≥(0:Int)) then Option.bind (idx a1.2.1.2.1 s8) fun (y9:Int)=>some (y9==y0) else some false) fun (s10:Bool)=>bif s10 then some (Sum.inr (Sum.inr s8)) else some (Sum.inl (IntKind.wrap IntKind.i64 (s8+(1:Int)))) else some (Sum.inr (Sum.inl ()))) (0:Int)) fun (s11:Unit)=>some (-1:Int)
noncomputable def zJg:ElS [zR,tI,tI]→Option (RTy.El (.p .bool)):=fun x=>match x with|(a1,a2,a3,())=>Option.bind (xX (a1,a2,a3,())) fun (y0:Int)=>bif decide (y0< (0:Int)) then some false else Option.bind (zES (a1,a2,a3,())) fun (y1:Int)=>qW (zP (fun (s6:Int)=>bif decide (s6< (↑(List.length a1.2.2.1):Int)) then Option.bind (idx a1.2.2.1 s6) fun (y7:Int)=>bif y7==y1 then some (Sum.inr (Sum.inr false)) else some (Sum.inl (IntKind.wrap IntKind.i64 (s6+(1:Int)))) else some (Sum.inr (Sum.inl ()))) (0:Int)) fun (s8:Unit)=>some true
end Go.Ve

namespace Go.Ve
open Go
set_option maxRecDepth 1000000
noncomputable def zNo:ElS []→Option (RTy.El (.p .bool)):=fun x=>match x with|()=>some true
noncomputable def zA4:ElS [zR,tI,tI]→Option (RTy.El (.p (.sl zL))):=fun x=>match x with|(a1,a2,a3,())=>Option.bind (zGP (a1,a2,a3,())) fun (y0:Bool)=>bif !y0 then some [] else Option.bind (Option.bind (zAN (a1,a2,a3,())) fun (y18:Int)=>Option.bind (idx a1.2.1.1 y18) fun (y19:Ty.El kB)=>zP (fun (s20:Int×List (Ty.El zL))=>bif decide (s20.1< (↑(List.length y19.2.2.1):Int)) then Option.bind (Option.bind (idx y19.2.2.1 s20.1) fun (y21:Ty.El zL)=>Option.bind (bif y21.1 !=a2 then some (true,s20.2) else some (y21.2.1 !=a3,s20.2)) fun (s22:Bool×List (Ty.El zL))=>bif s22.1 then Option.bind (app (16:Nat) s22.2 [y21]) fun (y23:List (Ty.El zL))=>some y23 else some s22.2) fun (s24:List (Ty.El zL))=>some (Sum.inl (IntKind.wrap IntKind.i64 (s20.1+(1:Int)),s24)) else some (Sum.inr s20.2)) ((0:Int),[])) fun (s25:List (Ty.El zL))=>some s25
noncomputable def zAg:ElA [.d wR, .pp .str]→Option (RTy.El (.p .bool)):=fun x=>match x with|(a1,a2,())=>some (a1.1==a2)
noncomputable def wI:ElA [.d (.sl wR), .clo 178 [(true, .str)]]→Option (RTy.El (.p tI)):=fun x=>match x with|(a1,(a2,()),())=>qW (zP (fun (s6:Int)=>bif decide (s6< (↑(List.length a1):Int)) then Option.bind (idx a1 s6) fun (y7:Ty.El wR)=>Option.bind (zAg (y7,a2,())) fun (y8:Bool)=>bif y8 then some (Sum.inr (Sum.inr s6)) else some (Sum.inl (IntKind.wrap IntKind.i64 (s6+(1:Int)))) else some (Sum.inr (Sum.inl ()))) (0:Int)) fun (s9:Unit)=>some (-1:Int)
noncomputable def xZ:ElS [zD, .str]→Option (RTy.El (.p tI)):=fun x=>match x with|(a1,a2,())=>Option.bind (wI (a1.2.2.2.1,(a2,()),())) fun (y0:Int)=>some y0
noncomputable def zAV:ElS [zF,zF]→Option (RTy.El (.p .bool)):=fun x=>match x with|(a1,a2,())=>Option.bind (bif decide (a1.2.1≤a2.2.1) then Option.bind (wA (a1,a2.1,())) fun (y1:Bool)=>some y1 else some false) fun (s2:Bool)=>some s2
noncomputable def xJ:ElS [zCo,zF]→Option (RTy.El (.p .bool)):=fun x=>match x with|(a1,a2,())=>Option.bind (Option.bind (zAV (a1.2.1,a2,())) fun (y1:Bool)=>bif y1 then bif decide (a1.2.2.1≤a2.2.1) then some (decide (a2.2.1≤a1.2.2.2.1)) else some false else some false) fun (s2:Bool)=>some s2
noncomputable def zCH:ElS [wR,zF]→Option (RTy.El (.p tI)):=fun x=>match x with|(a1,a2,())=>qW (zP (fun (s6:Int)=>bif decide (s6< (↑(List.length a1.2.1):Int)) then Option.bind (idx a1.2.1 s6) fun (y7:Ty.El zCo)=>Option.bind (xJ (y7,a2,())) fun (y8:Bool)=>bif y8 then some (Sum.inr (Sum.inr s6)) else some (Sum.inl (IntKind.wrap IntKind.i64 (s6+(1:Int)))) else some (Sum.inr (Sum.inl ()))) (0:Int)) fun (s9:Unit)=>some (-1:Int)
noncomputable def zBj:ElS [zD, .str,zF]→Option (RTy.El (.p .bool)):=fun x=>match x with|(a1,a2,a3,())=>bif a2== { data:= #[] } then some true else Option.bind (xZ (a1,a2,())) fun (y0:Int)=>bif decide (y0< (0:Int)) then some false else Option.bind (idx a1.2.2.2.1 y0) fun (y3:Ty.El wR)=>Option.bind (zCH (y3,a3,())) fun (y4:Int)=>Option.bind (bif decide (y4≥(0:Int)) then Option.bind (idx a1.2.2.2.1 y0) fun (y7:Ty.El wR)=>Option.bind (idx y7.2.1 y4) fun (y8:Ty.El zCo)=>some y8.1 else some false) fun (s9:Bool)=>some s9
noncomputable def zAA:ElS [zR,tI,tI]→Option (RTy.El (.p (.sl zL))):=fun x=>match x with|(a1,a2,a3,())=>Option.bind (zJg (a1,a2,a3,())) fun (y0:Bool)=>bif !y0 then some [] else Option.bind (xX (a1,a2,a3,())) fun (y3:Int)=>Option.bind (idx a1.2.1.1 y3) fun (y4:Ty.El kB)=>Option.bind (zP (fun (s18:Int×List (Ty.El zL))=>bif decide (s18.1< (↑(List.length y4.2.2.1):Int)) then Option.bind (Option.bind (idx y4.2.2.1 s18.1) fun (y19:Ty.El zL)=>bif y19.1 !=a2 then Option.bind (idx y4.2.2.1 s18.1) fun (y20:Ty.El zL)=>Option.bind (app (16:Nat) s18.2 [y20]) fun (y21:List (Ty.El zL))=>some y21 else some s18.2) fun (s22:List (Ty.El zL))=>some (Sum.inl (IntKind.wrap IntKind.i64 (s18.1+(1:Int)),s22)) else some (Sum.inr s18.2)) ((0:Int),[])) fun (s23:List (Ty.El zL))=>some s23
noncomputable def zJh:ElS [zR,zL]→Option (RTy.El (.p z8)):=fun x=>match x with|(a1,a2,())=>Option.bind (idx a1.1.1 a2.1) fun (y2:Ty.El zD)=>Option.bind (idx y2.2.2.1 a2.2.1) fun (y3:Ty.El z8)=>some y3
noncomputable def zDa:ElS [zD,tU,tI]→Option (RTy.El (.p tI)):=fun x=>match x with|(a1,a2,a3,())=>qW (zP (fun (s10:Int)=>bif decide (s10< (↑(List.length a1.2.2.2.2.2.2.2.2.2.2.1.2.2.2.1):Int)) then Option.bind (Option.bind (idx a1.2.2.2.2.2.2.2.2.2.2.1.2.2.2.1 s10) fun (y11:Ty.El zU)=>bif y11.1==a2 then Option.bind (idx a1.2.2.2.2.2.2.2.2.2.2.1.2.2.2.1 s10) fun (y12:Ty.El zU)=>some (y12.2.1==a3) else some false) fun (s13:Bool)=>bif s13 then some (Sum.inr (Sum.inr s10)) else some (Sum.inl (IntKind.wrap IntKind.i64 (s10+(1:Int)))) else some (Sum.inr (Sum.inl ()))) (0:Int)) fun (s14:Unit)=>some (-1:Int)
noncomputable def zBh:ElS [zR]→Option (RTy.El (.p (.sl zK))):=fun x=>match x with|(a1,())=>Option.bind (zP (fun (s128:Int×List (Ty.El zK))=>bif decide (s128.1< (↑(List.length a1.1.1):Int)) then Option.bind (Option.bind (idx a1.1.1 s128.1) fun (y129:Ty.El zD)=>zP (fun (s130:Int×List (Ty.El zK))=>Option.bind (bif y129.2.2.2.2.2.2.2.2.2.2.1.1 then some (decide (s130.1< (↑(List.length y129.2.2.1):Int)),s130.2) else some (false,s130.2)) fun (s131:Bool×List (Ty.El zK))=>bif s131.1 then Option.bind (Option.bind (zAA (a1,s128.1,s130.1,())) fun (y132:List (Ty.El zL))=>zP (fun (s133:Int×List (Ty.El zK))=>bif decide (s133.1< (↑(List.length y132):Int)) then Option.bind (Option.bind (idx y132 s133.1) fun (y134:Ty.El zL)=>Option.bind (idx a1.1.1 y134.1) fun (y135:Ty.El zD)=>Option.bind (bif y135.2.2.2.2.2.2.2.2.2.2.1.1 then Option.bind (idx y132 s133.1) fun (y136:Ty.El zL)=>Option.bind (zJh (a1,y136,())) fun (y137:ByteArray×Int×Int×Int×Bool×Bool×Int×Int×Bool×ByteArray×ByteArray×Int×Unit)=>Option.bind (zDa (y129,y137.2.1,y135.2.1,())) fun (y138:Int)=>bif decide (y138≥(0:Int)) then Option.bind (idx y129.2.2.1 s130.1) fun (y139:Ty.El z8)=>Option.bind (zDa (y135,y139.2.1,y129.2.1,())) fun (y140:Int)=>some (decide (y140≥(0:Int)),s133.2) else some (false,s133.2) else some (false,s133.2)) fun (s141:Bool×List (Ty.El zK))=>bif s141.1 then Option.bind (idx y132 s133.1) fun (y142:Ty.El zL)=>Option.bind (idx y132 s133.1) fun (y143:Ty.El zL)=>Option.bind (app (40:Nat) s141.2 [(y142.1,y143.2.1,s128.1,s130.1,y129.2.1==y135.2.1,())]) fun (y144:List (Ty.El zK))=>some y144 else some s141.2) fun (s145:List (Ty.El zK))=>some (Sum.inl (IntKind.wrap IntKind.i64 (s133.1+(1:Int)),s145)) else some (Sum.inr s133.2)) ((0:Int),s131.2)) fun (s146:List (Ty.El zK))=>some (Sum.inl (IntKind.wrap IntKind.i64 (s130.1+(1:Int)),s146)) else some (Sum.inr s131.2)) ((0:Int),s128.2)) fun (s147:List (Ty.El zK))=>some (Sum.inl (IntKind.wrap IntKind.i64 (s128.1+(1:Int)),s147)) else some (Sum.inr s128.2)) ((0:Int),[])) fun (s148:List (Ty.El zK))=>some s148
noncomputable def qZ:ElS [zR,tI,tI]→Option (RTy.El (.tu [z8, .bool])):=fun x=>match x with|(a1,a2,a3,())=>Option.bind (bif decide (a2< (0:Int)) then some true else bif decide (a2≥(↑(List.length a1.1.1):Int)) then some true else bif decide (a3< (0:Int)) then some true else Option.bind (idx a1.1.1 a2) fun (y1:Ty.El zD)=>some (decide (a3≥(↑(List.length y1.2.2.1):Int)))) fun (s2:Bool)=>bif s2 then some (({ data:= #[] },(0:Int),(0:Int),(0:Int),false,false,(0:Int),(0:Int),false, { data:= #[] }, { data:= #[] },(0:Int),()),false,()) else Option.bind (idx a1.1.1 a2) fun (y3:Ty.El zD)=>Option.bind (idx y3.2.2.1 a3) fun (y4:Ty.El z8)=>some (y4,true,())
noncomputable def jI:ElS [zF,zF]→Option (RTy.El (.p .bool)):=fun x=>match x with|(a1,a2,())=>Option.bind (bif decide (a1.2.1>a2.2.1) then Option.bind (zAV (a2,a1,())) fun (y1:Bool)=>some y1 else some false) fun (s2:Bool)=>some s2
noncomputable def kI:ElS [zD,zF]→Option (RTy.El (.p .bool)):=fun x=>match x with|(a1,a2,())=>qW (zP (fun (s9:Int)=>bif decide (s9< (↑(List.length a1.2.2.2.2.2.2.2.2.2.2.1.2.2.2.2.2.1):Int)) then Option.bind (idx a1.2.2.2.2.2.2.2.2.2.2.1.2.2.2.2.2.1 s9) fun (y10:Ty.El jP)=>Option.bind (bif y10.2.1 then Option.bind (jI (a2,y10.1,())) fun (y11:Bool)=>some y11 else some false) fun (s12:Bool)=>bif s12 then some (Sum.inr (Sum.inr true)) else some (Sum.inl (IntKind.wrap IntKind.i64 (s9+(1:Int)))) else some (Sum.inr (Sum.inl ()))) (0:Int)) fun (s13:Unit)=>some false
noncomputable def vZ:ElS [(.sl zU)]→Option (RTy.El (.p (.sl zU))):=fun x=>match x with|(a1,())=>Option.bind (app (48:Nat) [] a1) fun (z:List (Ty.El zU))=>some z
noncomputable def jS:ElS [zD,tU]→Option (RTy.El (.tu [zU, .bool])):=fun x=>match x with|(a1,a2,())=>qW (Option.bind (vZ (a1.2.2.2.2.2.2.2.2.2.2.1.2.2.2.1,())) fun (y5:List (Ty.El zU))=>zP (fun (s6:Int×Ty.El zU)=>bif decide (s6.1< (↑(List.length y5):Int)) then Option.bind (idx y5 s6.1) fun (y7:Ty.El zU)=>bif y7.1==a2 then some (Sum.inr (Sum.inr (y7,true,()))) else some (Sum.inl (IntKind.wrap IntKind.i64 (s6.1+(1:Int)),s6.2)) else some (Sum.inr (Sum.inl s6.2))) ((0:Int),(0:Int),(0:Int), { data:= #[] }, { data:= #[] },())) fun (s8:Ty.El zU)=>some (((0:Int),(0:Int), { data:= #[] }, { data:= #[] },()),false,())
noncomputable def jN:ElS [(.sl tI)]→Option (RTy.El (.p (.sl tI))):=fun x=>match x with|(a1,())=>Option.bind (app (8:Nat) [] a1) fun (z:List (Ty.El tI))=>some z
noncomputable def xU:ElS [(.sl jH)]→Option (RTy.El (.p (.sl jH))):=fun x=>match x with|(a1,())=>Option.bind (app (16:Nat) [] a1) fun (z:List (Ty.El jH))=>some z
noncomputable def zBs:ElA [.d yL, .pp .str]→Option (RTy.El (.p .bool)):=fun x=>match x with|(a1,a2,())=>some (a1.1==a2)
noncomputable def w5:ElA [.d (.sl yL), .clo 201 [(true, .str)]]→Option (RTy.El (.p tI)):=fun x=>match x with|(a1,(a2,()),())=>qW (zP (fun (s6:Int)=>bif decide (s6< (↑(List.length a1):Int)) then Option.bind (idx a1 s6) fun (y7:Ty.El yL)=>Option.bind (zBs (y7,a2,())) fun (y8:Bool)=>bif y8 then some (Sum.inr (Sum.inr s6)) else some (Sum.inl (IntKind.wrap IntKind.i64 (s6+(1:Int)))) else some (Sum.inr (Sum.inl ()))) (0:Int)) fun (s9:Unit)=>some (-1:Int)
noncomputable def uW:ElS [zD, .str]→Option (RTy.El (.p tI)):=fun x=>match x with|(a1,a2,())=>Option.bind (w5 (a1.2.2.2.2.1,(a2,()),())) fun (y0:Int)=>some y0
noncomputable def zAq:ElS [zD, .str,zA]→Option (RTy.El (.p tI)):=fun x=>match x with|(a1,a2,a3,())=>Option.bind (uW (a1,a2,())) fun (y0:Int)=>bif decide (y0< (0:Int)) then some (-1:Int) else qW (Option.bind (idx a1.2.2.2.2.1 y0) fun (y11:Ty.El yL)=>zP (fun (s12:Int)=>bif decide (s12< (↑(List.length y11.2.1):Int)) then Option.bind (idx y11.2.1 s12) fun (y13:Ty.El kC)=>Option.bind (Option.bind (zBj (a1,y13.2.1,a3.1,())) fun (y14:Bool)=>bif y14 then bif y13.2.2.1==(-1:Int) then some true else some (y13.2.2.1==a3.2.2.2.2.2.2.1) else some false) fun (s15:Bool)=>bif s15 then some (Sum.inr (Sum.inr s12)) else some (Sum.inl (IntKind.wrap IntKind.i64 (s12+(1:Int)))) else some (Sum.inr (Sum.inl ()))) (0:Int)) fun (s16:Unit)=>some (-1:Int)
noncomputable def kH:ElS [zD, .str,zA]→Option (RTy.El (.tu [kC, .bool])):=fun x=>match x with|(a1,a2,a3,())=>Option.bind (zAq (a1,a2,a3,())) fun (y0:Int)=>bif decide (y0< (0:Int)) then some ((false, { data:= #[] },(0:Int),(0:Int),(0:Int),(0:Int),(0:Int),()),false,()) else Option.bind (uW (a1,a2,())) fun (y4:Int)=>Option.bind (idx a1.2.2.2.2.1 y4) fun (y5:Ty.El yL)=>Option.bind (idx y5.2.1 y0) fun (y6:Ty.El kC)=>some (y6,y6.1,())
noncomputable def zBk:ElS [zD, .str,zA]→Option (RTy.El (.tu [zA, .bool])):=fun x=>match x with|(a1,a2,a3,())=>Option.bind (jN (a3.2.2.2.2.2.2.2.2.1,())) fun (y0:List Int)=>Option.bind (xU (a3.2.2.2.2.2.2.2.2.2.2.2.1,())) fun (y1:List (Ty.El jH))=>bif a2== { data:= #[] } then some ((a3.1,a3.2.1,a3.2.2.1,a3.2.2.2.1,a3.2.2.2.2.1,a3.2.2.2.2.2.1,a3.2.2.2.2.2.2.1,a3.2.2.2.2.2.2.2.1,y0,a3.2.2.2.2.2.2.2.2.2.1,a3.2.2.2.2.2.2.2.2.2.2.1,y1,a3.2.2.2.2.2.2.2.2.2.2.2.2),true,()) else Option.bind (kH (a1,a2,(a3.1,a3.2.1,a3.2.2.1,a3.2.2.2.1,a3.2.2.2.2.1,a3.2.2.2.2.2.1,a3.2.2.2.2.2.2.1,a3.2.2.2.2.2.2.2.1,y0,a3.2.2.2.2.2.2.2.2.2.1,a3.2.2.2.2.2.2.2.2.2.2.1,y1,a3.2.2.2.2.2.2.2.2.2.2.2.2),())) fun (y2:Ty.El kC×Bool×Unit)=>bif !y2.2.1 then some ((((0:Int),(0:Int),()),(0:Int),(0:Int),(0:Int),(0:Int),(0:Int),(0:Int),(0:Int),[],(0:Int),(0:Int),[],false,()),false,()) else Option.bind (bif y2.1.2.2.2.1 !=(-1:Int) then some (a3.1,a3.2.1,a3.2.2.1,a3.2.2.2.1,y2.1.2.2.2.1,a3.2.2.2.2.2.1,a3.2.2.2.2.2.2.1,a3.2.2.2.2.2.2.2.1,y0,a3.2.2.2.2.2.2.2.2.2.1,a3.2.2.2.2.2.2.2.2.2.2.1,y1,a3.2.2.2.2.2.2.2.2.2.2.2.2) else some (a3.1,a3.2.1,a3.2.2.1,a3.2.2.2.1,a3.2.2.2.2.1,a3.2.2.2.2.2.1,a3.2.2.2.2.2.2.1,a3.2.2.2.2.2.2.2.1,y0,a3.2.2.2.2.2.2.2.2.2.1,a3.2.2.2.2.2.2.2.2.2.2.1,y1,a3.2.2.2.2.2.2.2.2.2.2.2.2)) fun (s3:Ty.El zA)=>Option.bind (bif y2.1.2.2.2.2.1 !=(-1:Int) then some (s3.1,s3.2.1,s3.2.2.1,s3.2.2.2.1,s3.2.2.2.2.1,s3.2.2.2.2.2.1,y2.1.2.2.2.2.1,s3.2.2.2.2.2.2.2) else some s3) fun (s4:Ty.El zA)=>Option.bind (bif y2.1.2.2.2.2.2.1 !=(-1:Int) then some (s4.1,s4.2.1,s4.2.2.1,s4.2.2.2.1,s4.2.2.2.2.1,s4.2.2.2.2.2.1,s4.2.2.2.2.2.2.1,y2.1.2.2.2.2.2.1,s4.2.2.2.2.2.2.2.2) else some s4) fun (s5:Ty.El zA)=>some (s5,true,())
noncomputable def zBi:ElS [zD, .str,zA]→Option (RTy.El (.p tI)):=fun x=>match x with|(a1,a2,a3,())=>Option.bind (kH (a1,a2,a3,())) fun (y0:Ty.El kC×Bool×Unit)=>bif !y0.2.1 then some (0:Int) else some y0.1.2.2.2.2.2.2.1
noncomputable def xD:ElS [zR,zK,zA]→Option (RTy.El (.tu [zA, .bool])):=fun x=>match x with|(a1,a2,a3,())=>Option.bind (qZ (a1,a2.2.2.1,a2.2.2.2.1,())) fun (y0:Ty.El z8×Bool×Unit)=>Option.bind (bif !y0.2.1 then some true else bif decide (a2.1< (0:Int)) then some true else some (decide (a2.1≥(↑(List.length a1.1.1):Int)))) fun (s1:Bool)=>bif s1 then some ((((0:Int),(0:Int),()),(0:Int),(0:Int),(0:Int),(0:Int),(0:Int),(0:Int),(0:Int),[],(0:Int),(0:Int),[],false,()),false,()) else Option.bind (idx a1.1.1 a2.1) fun (y2:Ty.El zD)=>Option.bind (bif a3.2.2.1==(4:Int) then bif a2.2.2.2.2.1 then some true else Option.bind (kI (y2,a3.1,())) fun (y5:Bool)=>some y5 else Option.bind (kI (y2,a3.1,())) fun (y6:Bool)=>some y6) fun (s7:Bool)=>bif s7 then some ((((0:Int),(0:Int),()),(0:Int),(0:Int),(0:Int),(0:Int),(0:Int),(0:Int),(0:Int),[],(0:Int),(0:Int),[],false,()),false,()) else Option.bind (jS (y2,y0.1.2.1,())) fun (y8:Ty.El zU×Bool×Unit)=>bif !y8.2.1 then some ((((0:Int),(0:Int),()),(0:Int),(0:Int),(0:Int),(0:Int),(0:Int),(0:Int),(0:Int),[],(0:Int),(0:Int),[],false,()),false,()) else Option.bind (bif !a2.2.2.2.2.1 then some (a3.1,a3.2.1,a3.2.2.1,a3.2.2.2.1,(0:Int),a3.2.2.2.2.2) else some a3) fun (s9:Ty.El zA)=>Option.bind (zBk (y2,y8.1.2.2.2.1,s9,())) fun (y10:Ty.El zA×Bool×Unit)=>bif !y10.2.1 then some ((((0:Int),(0:Int),()),(0:Int),(0:Int),(0:Int),(0:Int),(0:Int),(0:Int),(0:Int),[],(0:Int),(0:Int),[],false,()),false,()) else bif a2.2.2.2.2.1 then Option.bind (jN (s9.2.2.2.2.2.2.2.2.1,())) fun (y11:List Int)=>some ((s9.1,(5:Int),(0:Int),(0:Int),y10.1.2.2.2.2.1,(0:Int),y10.1.2.2.2.2.2.2.1,y10.1.2.2.2.2.2.2.2.1,y11,(0:Int),(0:Int),[],false,()),true,()) else Option.bind (zBi (y2,y8.1.2.2.2.1,s9,())) fun (y12:Int)=>bif decide (IntKind.wrap IntKind.i64 (IntKind.wrap IntKind.i64 ((1:Int)+y12)+(↑(List.length s9.2.2.2.2.2.2.2.2.1):Int))>(64:Int)) then some ((((0:Int),(0:Int),()),(0:Int),(0:Int),(0:Int),(0:Int),(0:Int),(0:Int),(0:Int),[],(0:Int),(0:Int),[],false,()),false,()) else Option.bind (zP (fun (s19:Int×Int×Int×Int×Int×Int×Int×Int×Int×Int×List Int×Int×Int×List (Ty.El jH)×Bool)=>bif decide (s19.1<IntKind.wrap IntKind.i64 ((1:Int)+y12)) then Option.bind (app (8:Nat) s19.2.2.2.2.2.2.2.2.2.2.1 [y2.2.1]) fun (y20:List Int)=>some (Sum.inl (IntKind.wrap IntKind.i64 (s19.1+(1:Int)),s19.2.1,s19.2.2.1,s19.2.2.2.1,s19.2.2.2.2.1,s19.2.2.2.2.2.1,s19.2.2.2.2.2.2.1,s19.2.2.2.2.2.2.2.1,s19.2.2.2.2.2.2.2.2.1,s19.2.2.2.2.2.2.2.2.2.1,y20,s19.2.2.2.2.2.2.2.2.2.2.2)) else some (Sum.inr s19.2)) ((0:Int),s9.1.1,s9.1.2.1,(5:Int),(0:Int),(0:Int),y10.1.2.2.2.2.1,(0:Int),y10.1.2.2.2.2.2.2.1,(0:Int),[],(0:Int),(0:Int),[],false)) fun (s21:Int×Int×Int×Int×Int×Int×Int×Int×Int×List Int×Int×Int×List (Ty.El jH)×Bool)=>Option.bind (app (8:Nat) s21.2.2.2.2.2.2.2.2.2.1 s9.2.2.2.2.2.2.2.2.1) fun (y22:List Int)=>some (((s21.1,s21.2.1,()),s21.2.2.1,s21.2.2.2.1,s21.2.2.2.2.1,s21.2.2.2.2.2.1,s21.2.2.2.2.2.2.1,s21.2.2.2.2.2.2.2.1,(100:Int),y22,s21.2.2.2.2.2.2.2.2.2.2.1,s21.2.2.2.2.2.2.2.2.2.2.2.1,s21.2.2.2.2.2.2.2.2.2.2.2.2.1,s21.2.2.2.2.2.2.2.2.2.2.2.2.2,()),true,())
noncomputable def xC:ElS [zR,zK,zA]→Option (RTy.El (.tu [zA, .bool])):=fun x=>match x with|(a1,a2,a3,())=>Option.bind (qZ (a1,a2.1,a2.2.1,())) fun (y0:Ty.El z8×Bool×Unit)=>Option.bind (bif !y0.2.1 then some true else bif decide (a2.2.2.1< (0:Int)) then some true else some (decide (a2.2.2.1≥(↑(List.length a1.1.1):Int)))) fun (s1:Bool)=>bif s1 then some ((((0:Int),(0:Int),()),(0:Int),(0:Int),(0:Int),(0:Int),(0:Int),(0:Int),(0:Int),[],(0:Int),(0:Int),[],false,()),false,()) else Option.bind (idx a1.1.1 a2.2.2.1) fun (y2:Ty.El zD)=>Option.bind (vB (a3.2.2.2.2.2.2.2.2.1,y2.2.1,())) fun (y3:Bool)=>bif y3 then some ((((0:Int),(0:Int),()),(0:Int),(0:Int),(0:Int),(0:Int),(0:Int),(0:Int),(0:Int),[],(0:Int),(0:Int),[],false,()),false,()) else Option.bind (jS (y2,y0.1.2.1,())) fun (y4:Ty.El zU×Bool×Unit)=>bif !y4.2.1 then some ((((0:Int),(0:Int),()),(0:Int),(0:Int),(0:Int),(0:Int),(0:Int),(0:Int),(0:Int),[],(0:Int),(0:Int),[],false,()),false,()) else Option.bind (zBk (y2,y4.1.2.2.1,a3,())) fun (y5:Ty.El zA×Bool×Unit)=>bif !y5.2.1 then some ((((0:Int),(0:Int),()),(0:Int),(0:Int),(0:Int),(0:Int),(0:Int),(0:Int),(0:Int),[],(0:Int),(0:Int),[],false,()),false,()) else Option.bind (jN (a3.2.2.2.2.2.2.2.2.1,())) fun (y7:List Int)=>Option.bind (bif a2.2.2.2.2.1 then some (a3.1,(5:Int),(4:Int),y2.2.2.2.2.2.2.2.2.2.2.1.2.2.1,y5.1.2.2.2.2.1,(0:Int),y5.1.2.2.2.2.2.2.1,y5.1.2.2.2.2.2.2.2.1,y7,y0.1.2.1,(0:Int),[(a2.2.2.2.1,y0.1.2.1,())],false,()) else some (a3.1,(5:Int),(3:Int),y2.2.2.2.2.2.2.2.2.2.2.1.2.1,y5.1.2.2.2.2.1,(0:Int),y5.1.2.2.2.2.2.2.1,y5.1.2.2.2.2.2.2.2.1,y7,y0.1.2.1,(0:Int),[(a2.2.2.2.1,y0.1.2.1,())],false,())) fun (s8:Ty.El zA)=>some (s8,true,())
noncomputable def uT:ElS [zD,tU,tI]→Option (RTy.El (.p .bool)):=fun x=>match x with|(a1,a2,a3,())=>Option.bind (jS (a1,a2,())) fun (y0:Ty.El zU×Bool×Unit)=>Option.bind (bif y0.2.1 then some (y0.1.2.1==a3) else some false) fun (s1:Bool)=>some s1
noncomputable def j3:ElS [zR,tI,tI]→Option (RTy.El (.p (.sl zK))):=fun x=>match x with|(a1,a2,a3,())=>Option.bind (idx a1.1.1 a2) fun (y0:Ty.El zD)=>Option.bind (qZ (a1,a2,a3,())) fun (y1:Ty.El z8×Bool×Unit)=>bif !y0.2.2.2.2.2.2.2.2.2.2.1.1 then some [] else Option.bind (Option.bind (zA4 (a1,a2,a3,())) fun (y30:List (Ty.El zL))=>zP (fun (s31:Int×List (Ty.El zK))=>bif decide (s31.1< (↑(List.length y30):Int)) then Option.bind (Option.bind (idx y30 s31.1) fun (y32:Ty.El zL)=>Option.bind (qZ (a1,y32.1,y32.2.1,())) fun (y33:Ty.El z8×Bool×Unit)=>bif !y33.2.1 then some s31.2 else Option.bind (idx a1.1.1 y32.1) fun (y34:Ty.El zD)=>Option.bind (bif y34.2.2.2.2.2.2.2.2.2.2.1.1 then Option.bind (uT (y0,y33.1.2.1,y34.2.1,())) fun (y35:Bool)=>bif y35 then Option.bind (uT (y34,y1.1.2.1,y0.2.1,())) fun (y36:Bool)=>some (y36,s31.2) else some (false,s31.2) else some (false,s31.2)) fun (s37:Bool×List (Ty.El zK))=>bif s37.1 then Option.bind (app (40:Nat) s37.2 [(y32.1,y32.2.1,a2,a3,y34.2.1==y0.2.1,())]) fun (y38:List (Ty.El zK))=>some y38 else some s37.2) fun (s39:List (Ty.El zK))=>some (Sum.inl (IntKind.wrap IntKind.i64 (s31.1+(1:Int)),s39)) else some (Sum.inr s31.2)) ((0:Int),[])) fun (s40:List (Ty.El zK))=>some s40
noncomputable def vC:ElS [zR]→Option (RTy.El (.p (.sl zK))):=fun x=>match x with|(a1,())=>Option.bind (zP (fun (s19:Int×List (Ty.El zK))=>bif decide (s19.1< (↑(List.length a1.1.1):Int)) then Option.bind (Option.bind (idx a1.1.1 s19.1) fun (y20:Ty.El zD)=>zP (fun (s21:Int×List (Ty.El zK))=>bif decide (s21.1< (↑(List.length y20.2.2.1):Int)) then Option.bind (j3 (a1,s19.1,s21.1,())) fun (y22:List (Ty.El zK))=>Option.bind (app (40:Nat) s21.2 y22) fun (y23:List (Ty.El zK))=>some (Sum.inl (IntKind.wrap IntKind.i64 (s21.1+(1:Int)),y23)) else some (Sum.inr s21.2)) ((0:Int),s19.2)) fun (s24:List (Ty.El zK))=>some (Sum.inl (IntKind.wrap IntKind.i64 (s19.1+(1:Int)),s24)) else some (Sum.inr s19.2)) ((0:Int),[])) fun (s25:List (Ty.El zK))=>some s25
noncomputable def yH:ElS [zT,(.sl tI)]→Option (RTy.El (.p .bool)):=fun x=>match x with|(a1,a2,())=>Option.bind (zE5 (a1,a2,())) fun (y0:Ty.El zR×Bool×Unit)=>bif !y0.2.1 then some true else Option.bind (vC (y0.1,())) fun (y3:List (Ty.El zK))=>Option.bind (zBh (y0.1,())) fun (y4:List (Ty.El zK))=>bif (↑(List.length y3):Int) !=(↑(List.length y4):Int) then some false else qW (zP (fun (s77:Int)=>bif decide (s77< (↑(List.length y3):Int)) then qW (Option.bind (zP (fun (s78:Int×Bool)=>bif decide (s78.1< (↑(List.length y3):Int)) then Option.bind (bif s78.2 then some true else Option.bind (idx y3 s78.1) fun (y79:Ty.El zK)=>Option.bind (idx y3 s77) fun (y80:Ty.El zK)=>Option.bind (idx y3 s77) fun (y81:Ty.El zK)=>Option.bind (idx y3 s77) fun (y82:Ty.El zK)=>Option.bind (idx y3 s77) fun (y83:Ty.El zK)=>Option.bind (idx y3 s77) fun (y84:Ty.El zK)=>some (y79.1==y80.2.2.1&&(y79.2.1==y81.2.2.2.1&&(y79.2.2.1==y82.1&&(y79.2.2.2.1==y83.2.1&&(y79.2.2.2.2.1==y84.2.2.2.2.1&&true)))))) fun (s85:Bool)=>some (Sum.inl (IntKind.wrap IntKind.i64 (s78.1+(1:Int)),s85)) else some (Sum.inr s78.2)) ((0:Int),false)) fun (s86:Bool)=>Option.bind (Option.bind (idx y3 s77) fun (y87:Ty.El zK)=>Option.bind (idx y4 s77) fun (y88:Ty.El zK)=>bif !(y87.1==y88.1&&(y87.2.1==y88.2.1&&(y87.2.2.1==y88.2.2.1&&(y87.2.2.2.1==y88.2.2.2.1&&(y87.2.2.2.2.1==y88.2.2.2.2.1&&true))))) then some true else some !s86) fun (s89:Bool)=>bif s89 then some (Sum.inr (Sum.inr (Sum.inr false))) else some (Sum.inl ())) fun (s90:Unit)=>some (Sum.inl (IntKind.wrap IntKind.i64 (s77+(1:Int)))) else some (Sum.inr (Sum.inl ()))) (0:Int)) fun (s91:Unit)=>Option.bind (zNo ()) fun (y92:Bool)=>some y92
end Go.Ve
