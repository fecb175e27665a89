/-
  Functions out of code, part 7: slices that go by a number: a state of lists; append.
  Functions out of code, part 8: contracts over a state of lists; from such a state to none, and from none to any.
  Functions out of code, part 9: a function with a state of lists of its own is a function without.
  Functions out of code: views, tables, static routes.
  Functions out of code: distance-vector and path-vector routing.
-/
import Derived.Test.YtcnlcmbchljpgaaGreatPo9
set_option linter.unusedVariables false
namespace Go.Ve
open Go
abbrev HSt (t:Ty):=List (Option (List t.El))
structure zU1 (t:Ty) (st:HSt t) (F:Blk→Prop) (O:Nat→Prop) (w:World) (hb hc:Nat→Nat):Prop where
 hdl: ∀id xs,st[id]? =some (some xs)→ ∀a n c,F (.h id a n c)↔(a=some ⟨hb id,0,none⟩∧n=xs.length∧c=hc id)
 out: ∀id,st.length≤id→ ∀a n c, ¬F (.h id a n c)
 row: ∀id xs,st[id]? =some (some xs)→xs≠[]∧O (hb id)∧qL w (fun _=>False) (hb id) t.size (hc id) (xs.map t.enc)
 dist: ∀id id' xs xs',st[id]? =some (some xs)→st[id']? =some (some xs')→hb id=hb id'→id=id'
 own: ∀b,O b→ ∃id xs,st[id]? =some (some xs)∧hb id=b
theorem qL.same {w w':World} {F:Blk→Prop} {b k cap:Nat} {es:List V} (h:qL w (fun _=>False) b k cap es) (hw:w'.heap[b]? =w.heap[b]?):qL w' F b k cap es:=by
 obtain ⟨c,et,h1,h2,h3,h4,h5⟩:=h
 exact ⟨c,et,hw.trans h1,h2,h3,h4,fun i j e d x a1 a2 a3=>(h5 i j e d x a1 a2 a3).mono (fun _ h=>h.elim) (fun _ h=>h.elim)⟩
def wA (t:Ty):Sig where
 St:=HSt t
 R:=fun st F O w=> ∃hb hc,zU1 t st F O w hb hc
 mono:=by
  rintro s F F' O w w' ⟨hb,hc,h⟩ hF hO
  refine ⟨hb,hc,?_,?_,?_,h.dist,h.own⟩
  ·intro id xs hx a n c;rw [hF];exact h.hdl id xs hx a n c
  ·intro id hx a n c hh;exact h.out id hx a n c ((hF id a n c).1 hh)
  ·intro id xs hx
   obtain ⟨h1,h2,h3⟩:=h.row id xs hx
   exact ⟨h1,h2,h3.same (hO _ h2)⟩
 inb:=by
  rintro s F O w ⟨hb,hc,h⟩ b hO
  obtain ⟨id,xs,h1,rfl⟩:=h.own b hO
  obtain ⟨_,_,c,et,h3,_⟩:=h.row id xs h1
  exact (Array.getElem?_eq_some_iff.1 h3).1
def zPs {t:Ty} (bytes:Nat) (st:HSt t) (q:Option (Nat×Nat)) (ys:List t.El):Option (HSt t×Option (Nat×Nat)):=
 match ys with
 |[]=>none
 |y::r=>match q with
  |none=>if (2*(y::r).length+1024)*bytes≤140737488355328 then some (st++[some (y::r)],some (st.length,(y::r).length)) else none
  |some (id,_)=>match st[id]? with
   |some (some xs)=>if (2*(xs.length+(y::r).length)+1024)*bytes≤140737488355328 then some (st.set id none++[some (xs++y::r)],some (st.length,(xs++y::r).length)) else none
   |_=>none
theorem zDp {t:Ty} (h:t.flat=true) {x:t.El} {d:V} (hd:d∈(t.enc x).cells) {w w':World} {F F':Blk→Prop} {v:Value} (hr:Rd w F v d):Rd w' F' v d:=by
 rw [qV] at hd
 have:=zA1 (zP8 t x h d hd)
 rw [this] at hr ⊢
 rw [Rd.eq_val hr]
 exact .val _
theorem zXj {t:Ty} (h:t.flat=true) {w:World} {F F':Blk→Prop} {b k cap:Nat} {xs:List t.El} (hr:qL w F b k cap (xs.map t.enc)):qL w F' b k cap (xs.map t.enc):=by
 obtain ⟨c,et,h1,h2,h3,h4,h5⟩:=hr
 refine ⟨c,et,h1,h2,h3,h4,fun i j e d x a1 a2 a3=> ?_⟩
 simp only [List.getElem?_map,Option.map_eq_some_iff] at a1
 obtain ⟨y,hy,rfl⟩:=a1
 exact zDp h (List.mem_of_getElem? a2) (h5 i j (t.enc y) d x (by simp [hy]) a2 a3)
theorem q7 {α:Type} {st:List (Option α)} {id j:Nat} {z:α} {xs:α} (h:(st.set id none++[some z])[j]? =some (some xs)):(j=st.length∧xs=z)∨(j≠id∧j<st.length∧st[j]? =some (some xs)):=by
 by_cases hj:j<st.length
 ·rw [List.getElem?_append_left (by simpa using hj)] at h
  by_cases hid:id=j
  ·subst hid;rw [List.getElem?_set_self hj] at h;cases h
  ·rw [List.getElem?_set_ne hid] at h;exact .inr ⟨Ne.symm hid,hj,h⟩
 ·rw [List.getElem?_append_right (by simp;omega)] at h
  simp only [List.length_set] at h
  have h0:j-st.length=0:=by
   rcases Nat.eq_zero_or_pos (j-st.length) with h0|h0
   ·exact h0
   ·rw [List.getElem?_eq_none (by simp;omega)] at h;cases h
  rw [h0] at h
  simp at h
  exact .inl ⟨by omega,h.symm⟩
section
variable {t:Ty} {P:Program}
theorem zIB (hfl:t.flat=true) {st:HSt t} {F:Blk→Prop} {O:Nat→Prop} {w w':World} {hb hc:Nat→Nat} (h:zU1 t st F O w hb hc) (hF: ∀b:Nat,F b→b<w.heap.size∧ ¬O b)
  {id:Nat} {zs:List t.El} (hz:zs≠[]) {blk cap:Nat} {O':Nat→Prop} (hk:zC1 O w w') (hO1: ∀b,O' b↔(b=blk∨(O b∧ ∀xs,st[id]? =some (some xs)→b≠hb id)))
  (hblk:O blk∨w.heap.size≤blk) (hblt:blk<w'.heap.size) (hrow:qL w' F blk t.size cap (zs.map t.enc))
  (hold: ∀j xs,j≠id→st[j]? =some (some xs)→hb j≠blk∧w'.heap[hb j]? =w.heap[hb j]?) (hid:id<st.length→ ∃xs,st[id]? =some (some xs)):
  zUX (wA t) w F O (.slice (some ⟨blk,0,none⟩) zs.length cap) w' (st.set id none++[some zs]) (.rf (some (st.length,zs.length))):=by
 let F':Blk→Prop:=fun b=>F b∨b= .h st.length (some ⟨blk,0,none⟩) zs.length cap
 have hOO: ∀b,O' b→O b∨w.heap.size≤b:=fun b hb0=>by
  rcases (hO1 b).1 hb0 with rfl|h1
  ·exact hblk
  ·exact .inl h1.1
 refine ⟨F',O',⟨fun j=>if j=st.length then blk else hb j,fun j=>if j=st.length then cap else hc j,?_,?_,?_,?_,?_⟩,hk,hOO,fun b hb=> .inl hb,?_, .rf _ _ _ _ (.inr rfl)⟩
 ·intro j xs hj a n c
  rcases q7 hj with ⟨rfl,rfl⟩|⟨hne,hlt,hj⟩
  ·simp only [if_true,F']
   constructor
   ·rintro (hh|hh)
    ·exact absurd hh (h.out _ (Nat.le_refl _) _ _ _)
    ·cases hh;exact ⟨rfl,rfl,rfl⟩
   ·rintro ⟨rfl,rfl,rfl⟩;exact .inr rfl
  ·have hne':j≠st.length:=by omega
   simp only [if_neg hne',F']
   rw [←h.hdl j xs hj]
   constructor
   ·rintro (hh|hh)
    ·exact hh
    ·cases hh;exact absurd rfl hne'
   ·exact .inl
 ·intro j hj a n c
  simp only [List.length_append,List.length_set,List.length_singleton] at hj
  rintro (hh|hh)
  ·exact h.out j (by omega) _ _ _ hh
  ·cases hh;omega
 ·intro j xs hj
  rcases q7 hj with ⟨rfl,rfl⟩|⟨hne,hlt,hj⟩
  ·simp only [if_true]
   exact ⟨hz,(hO1 _).2 (.inl rfl),zXj hfl hrow⟩
  ·have hne':j≠st.length:=by omega
   simp only [if_neg hne']
   obtain ⟨h1,h2,h3⟩:=h.row j xs hj
   refine ⟨h1,(hO1 _).2 (.inr ⟨h2,fun ys hy hh=>hne (h.dist j id xs ys hj hy hh)⟩),h3.same (hold j xs hne hj).2⟩
 ·intro j j' xs xs' hj hj' hh
  rcases q7 hj with ⟨rfl,rfl⟩|⟨hne,hlt,hj1⟩<;>rcases q7 hj' with ⟨rfl,rfl⟩|⟨hne',hlt',hj1'⟩
  ·rfl
  ·have h1:j'≠st.length:=by omega
   simp only [if_true,if_neg h1] at hh
   exact absurd hh.symm (hold j' xs' hne' hj1').1
  ·have h1:j≠st.length:=by omega
   simp only [if_true,if_neg h1] at hh
   exact absurd hh (hold j xs hne hj1).1
  ·have h1:j≠st.length:=by omega
   have h2:j'≠st.length:=by omega
   simp only [if_neg h1,if_neg h2] at hh
   exact h.dist j j' xs xs' hj1 hj1' hh
 ·intro b hb0
  rcases (hO1 b).1 hb0 with rfl|⟨h1,h2⟩
  ·refine ⟨st.length,zs,?_,by simp⟩
   rw [List.getElem?_append_right (by simp)];simp
  ·obtain ⟨j,xs,hj,rfl⟩:=h.own b h1
   have hlt:=(List.getElem?_eq_some_iff.1 hj).1
   have hji:j≠id:=by
    rintro rfl
    exact h2 xs hj rfl
   refine ⟨j,xs,?_,by simp [show j≠st.length by omega]⟩
   rw [List.getElem?_append_left (by simpa using hlt),List.getElem?_set_ne (Ne.symm hji)]
   exact hj
 ·intro b hb0
  rcases hb0 with hb0|hb0
  ·obtain ⟨h1,h2⟩:=hF b hb0
   refine ⟨.inl hb0,Nat.lt_of_lt_of_le h1 hk.size,fun ho=> ?_⟩
   rcases hOO b ho with ho|ho
   ·exact h2 ho
   ·omega
  ·cases hb0
theorem zZx (hfl:t.flat=true) {bytes:Nat} {st st':HSt t} {q q':Option (Nat×Nat)} {ys:List t.El} (h:zPs bytes st q ys=some (st',q')):
  zZ9 (wA t) P st q t ys bytes st' (.rf q'):=by
 intro ts ty t0 t1 el el1 info z w F O v0 v1 hts0 hts1 hu0 hu1 hinfo hz hsz hby hzc hbytes hR hF hr0 hr1
 subst hbytes
 obtain ⟨hb,hc,hR⟩:=hR
 have hk2: ∀q,q∈ys.map t.enc→q.cells.length=info.size:=by
  intro q hq
  simp only [List.mem_map] at hq
  obtain ⟨y,_,rfl⟩:=hq
  rw [vI];exact hsz
 have ho2: ∀q,q∈ys.map t.enc→q.cells.all V.one=true:=by
  intro q hq
  simp only [List.mem_map] at hq
  obtain ⟨y,_,rfl⟩:=hq
  rw [qV];exact zLT t y
 obtain ⟨a1,cap1,cells,hv1,hcap1,hl2,hrun2,hr2⟩:=zJM (P:=P) (β:=⟨id,id⟩) (al:=fun _=>False) (x:= .p (.sl (ys.map t.enc))) hr1.untl rfl hk2
 simp only [List.length_map] at hv1 hcap1 hl2 hrun2
 have hs:wB P el=some info.size:=zBF hinfo
 have hrest: ∀m,(Builtin.zeroCells z.cells m).size=m*info.size:=by
  intro m;simp only [Builtin.zeroCells,Array.size_map,Array.size_range];rw [hzc]
 unfold zPs at h
 split at h
 ·cases h
 ·rename_i y r
  have hl2':cells.length=((y::r).map t.enc).length*info.size:=by simpa using hl2
  split at h
  ·-- nil
   split at h
   ·rename_i hbound
    simp only [Option.some.injEq,Prod.mk.injEq] at h
    obtain ⟨rfl,rfl⟩:=h
    cases hr0 with
    |rfn=>
     obtain ⟨newCap,hnc,hrun⟩:=zA7 (P:=P) (w:=w) (ts:=ts) (ty:=ty) (len:=0) (cap:=0) (n:=(y::r).length) (cap1:=cap1) (a0:=none) (a1:=a1) (cells:=cells) (old:=[]) hts0 hts1 hu0 hu1 hinfo hz
      (by rw [←hv1];exact hrun2 w.drew rfl) (by simp [Builtin.firstCells]) (by simp) hby (by simpa using hbound)
     rw [←hv1] at hrun
     simp only [Nat.zero_add] at hnc hrun
     refine ⟨_,_,hrun,?_⟩
     have hrow:=zJU (w':=w.drew.alloc (.cells (([]:List Value).toArray++(cells.toArray++Builtin.zeroCells z.cells (newCap- (y::r).length))) el)) (F:=F) (b:=w.heap.size) (k:=info.size) (cap:=newCap) (es:=[]) (es2:=(y::r).map t.enc) (et:=el) (old:=[]) (cells:=cells)
      (by simp) hk2 (by simp) hl2' (fun i j q y hi hj=>by simp at hi) (fun i j e d hi hj=>by
       obtain ⟨x,hx,hrx⟩:=hr2 i j e d hi hj
       simp only [List.getElem?_map,Option.map_eq_some_iff] at hi
       obtain ⟨y0,_,rfl⟩:=hi
       exact ⟨x,hx,zDp hfl (List.mem_of_getElem? hj) hrx⟩) (by simpa using hnc) (by simpa using hrest _) (zAX (w:=w.drew))
     rw [List.nil_append, ←hsz] at hrow
     have hset:st.set st.length none=st:=List.set_eq_of_length_le (Nat.le_refl _)
     have:=zIB (w':=w.drew.alloc (.cells (([]:List Value).toArray++(cells.toArray++Builtin.zeroCells z.cells (newCap- (y::r).length))) el)) (O':=fun b=>b=w.heap.size∨O b) (id:=st.length) hfl hR hF (zs:=y::r) (by simp) (blk:=w.heap.size) (cap:=newCap)
      ⟨rfl,rfl,rfl,by simp,fun b hb _=>vE (w:=w.drew) hb,Nat.le_succ _⟩ (fun b=>by
       constructor
       ·rintro (rfl|hh)
        ·exact .inl rfl
        ·exact .inr ⟨hh,fun xs hx=>by simp at hx⟩
       ·rintro (rfl|hh)
        ·exact .inl rfl
        ·exact .inr hh.1) (.inr (Nat.le_refl _)) (by simp) hrow (fun j xs _ hj=>by
       have hlt:=(wA t).inb (⟨hb,hc,hR⟩:(wA t).R st F O w) _ (hR.row j xs hj).2.1
       exact ⟨by omega,vE (w:=w.drew) hlt⟩) (fun hh=>by omega)
     rw [hset] at this
     exact this
   ·cases h
  ·rename_i id n0
   split at h
   ·rename_i xs hst
    split at h
    ·rename_i hbound
     simp only [Option.some.injEq,Prod.mk.injEq] at h
     obtain ⟨rfl,rfl⟩:=h
     obtain ⟨hxne,hOid,hrow0⟩:=hR.row id xs hst
     cases hr0 with
     |rf _ a n c hh=>
      obtain ⟨rfl,rfl,rfl⟩:=(hR.hdl id xs hst _ _ _).1 hh
      obtain ⟨cc,et,g1,g2,g3,g4,g5⟩:=hrow0
      simp only [List.length_map] at g3
      rw [hsz] at g2 g4 g5
      by_cases hroom:xs.length+(y::r).length≤hc id
      ·have hfit:xs.length*info.size+(y::r).length*info.size≤cc.size:=by rw [←Nat.add_mul,g2];exact Nat.mul_le_mul_right _ hroom
       have hrun:=zFZ (P:=P) (w:=w) (ts:=ts) (ty:=ty) (b:=hb id) (off:=0) (len:=xs.length) (cap:=hc id) (n:=(y::r).length) (cap1:=cap1) (a1:=a1) (cells:=cells) (c:=cc) (et:=et) hts0 hts1 hu0 hu1 hs
        (by rw [←hv1];exact hrun2 w rfl) hl2 g1 (by omega) (zVc hl2' hk2 ho2 hr2) hroom
       rw [←hv1] at hrun
       simp only [Nat.zero_add] at hrun
       refine ⟨_,_,hrun,?_⟩
       have hlt:hb id<w.heap.size:=(Array.getElem?_eq_some_iff.1 g1).1
       have hrow:=zR6 (w':=setBlk w (hb id) (.cells (wP cc (xs.length*info.size) cells) et (0,0))) (F:=F) (b:=hb id) (k:=info.size) (cap:=hc id) (es:=xs.map t.enc) (es2:=(y::r).map t.enc) (c:=cc) (et:=et) (cells:=cells)
        (by simpa using g2) g4 (fun i j e d x hi hj hx=>by
         simp only [List.getElem?_map,Option.map_eq_some_iff] at hi
         obtain ⟨y0,hy0,rfl⟩:=hi
         exact zDp hfl (List.mem_of_getElem? hj) (g5 i j _ d x (by simp [hy0]) hj hx)) hk2 hl2' (fun i j e d hi hj=>by
         obtain ⟨x,hx,hrx⟩:=hr2 i j e d hi hj
         simp only [List.getElem?_map,Option.map_eq_some_iff] at hi
         obtain ⟨y0,_,rfl⟩:=hi
         exact ⟨x,hx,zDp hfl (List.mem_of_getElem? hj) hrx⟩) (by simpa using hroom) (by simpa using zCk hlt)
       rw [←List.map_append, ←hsz] at hrow
       have:=zIB (w':=setBlk w (hb id) (.cells (wP cc (xs.length*info.size) cells) et (0,0))) (O':=O) (id:=id) hfl hR hF (zs:=xs++y::r) (by simp) (blk:=hb id) (cap:=hc id)
        ⟨rfl,rfl,rfl,by rw [zCF];exact Nat.le_refl _,fun b hb0 hno=>wQ (fun hh=>hno (by rw [hh];exact hOid)),Nat.le_refl _⟩ (fun b=>by
         constructor
         ·intro hh
          by_cases hbb:b=hb id
          ·exact .inl hbb
          ·exact .inr ⟨hh,fun _ _=>hbb⟩
         ·rintro (rfl|hh)
          ·exact hOid
          ·exact hh.1) (.inl hOid) (by rw [zCF];exact hlt) (by rw [hsz] at hrow ⊢;exact hrow) (fun j xs' hne hj=>by
         have h1:hb j≠hb id:=fun hh=>hne (hR.dist j id xs' xs hj hst hh)
         exact ⟨h1,wQ h1⟩) (fun _=>⟨xs,hst⟩)
       simpa using this
      ·obtain ⟨a0,cap0,old,hv0',hcap0,hl1,hrun1,hr1⟩:=zJM (P:=P) (w:=w) (F:=F) (β:=⟨fun _=>hb id,fun _=>hb id⟩) (al:=fun _=>True) (x:= .ow 0 info.size (xs.map t.enc)) (v:= .slice (some ⟨hb id,0,none⟩) xs.length (hc id)) (k:=info.size)
        ⟨trivial,hc id,by simp,cc,et,g1,g2,by simpa using g3,g4,fun i j e d x hi hj hx=>(g5 i j e d x hi hj hx).mono (fun _ h=>h.elim) (fun _ h=>h.elim)⟩ rfl g4
       simp only [List.length_map] at hv0' hcap0 hl1 hrun1
       have hcc:cap0=hc id:=by simp at hv0';exact hv0'.2.symm
       have haa:a0=some ⟨hb id,0,none⟩:=by simp at hv0';exact hv0'.1.symm
       subst hcc haa
       obtain ⟨newCap,hnc,hrun⟩:=zA7 (P:=P) (w:=w) (ts:=ts) (ty:=ty) (len:=xs.length) (cap:=hc id) (n:=(y::r).length) (cap1:=cap1) (a0:=some ⟨hb id,0,none⟩) (a1:=a1) (cells:=cells) (old:=old) hts0 hts1 hu0 hu1 hinfo hz
        (by rw [←hv1];exact hrun2 w.drew rfl) (hrun1 w.drew rfl) hroom hby hbound
       rw [←hv1] at hrun
       refine ⟨_,_,hrun,?_⟩
       have hrow:=zJU (w':=w.drew.alloc (.cells (old.toArray++(cells.toArray++Builtin.zeroCells z.cells (newCap- (xs.length+(y::r).length)))) el)) (F:=F) (b:=w.heap.size) (k:=info.size) (cap:=newCap) (es:=xs.map t.enc) (es2:=(y::r).map t.enc) (et:=el) (old:=old) (cells:=cells) (rest:=Builtin.zeroCells z.cells (newCap- (xs.length+(y::r).length)))
        g4 hk2 (by simpa using hl1) hl2' (fun i j e d hi hj=>by
         obtain ⟨x,hx,hrx⟩:=hr1 i j e d hi hj
         simp only [List.getElem?_map,Option.map_eq_some_iff] at hi
         obtain ⟨y0,_,rfl⟩:=hi
         exact ⟨x,hx,zDp hfl (List.mem_of_getElem? hj) hrx⟩) (fun i j e d hi hj=>by
         obtain ⟨x,hx,hrx⟩:=hr2 i j e d hi hj
         simp only [List.getElem?_map,Option.map_eq_some_iff] at hi
         obtain ⟨y0,_,rfl⟩:=hi
         exact ⟨x,hx,zDp hfl (List.mem_of_getElem? hj) hrx⟩) (by simpa using hnc) (by simpa using hrest _) (zAX (w:=w.drew))
       rw [←List.map_append, ←hsz] at hrow
       have:=zIB (w':=w.drew.alloc (.cells (old.toArray++(cells.toArray++Builtin.zeroCells z.cells (newCap- (xs.length+(y::r).length)))) el)) (O':=fun b=>b=w.heap.size∨(O b∧b≠hb id)) (id:=id) hfl hR hF (zs:=xs++y::r) (by simp) (blk:=w.heap.size) (cap:=newCap)
        ⟨rfl,rfl,rfl,by simp,fun b hb _=>vE (w:=w.drew) hb,Nat.le_succ _⟩ (fun b=>by
         constructor
         ·rintro (rfl|hh)
          ·exact .inl rfl
          ·exact .inr ⟨hh.1,fun _ _=>hh.2⟩
         ·rintro (rfl|hh)
          ·exact .inl rfl
          ·exact .inr ⟨hh.1,hh.2 xs hst⟩) (.inr (Nat.le_refl _)) (by simp) (by rw [hsz] at hrow ⊢;exact hrow) (fun j xs' _ hj=>by
         have hlt:=(wA t).inb (⟨hb,hc,hR⟩:(wA t).R st F O w) _ (hR.row j xs' hj).2.1
         exact ⟨by omega,vE (w:=w.drew) hlt⟩) (fun _=>⟨xs,hst⟩)
       simpa using this
    ·cases h
   ·cases h
end
end Go.Ve

namespace Go.Ve
open Go
def zM.addH {t:Ty} (S:zM (wA t)):zM (wA t):=fun f s ds=>
 match Nat.beq f yO with
 |true=>match ds with
  |[.bot, .rf q, .tl t' ys, .val (.int _ b)]=>match zC9 t' t ys with
   | .some zs=> .some ⟨HSt t×Option (Nat×Nat),zPs b.toNat s q zs,fun y=>y.1,fun y=> .p (.rf y.2),false⟩
   | .none=>S f s ds
  |_=>S f s ds
 |false=>S f s ds
theorem zL2 {t:Ty} {P:Program} {G:Nat→Option (List V)} {S:zM (wA t)} (hS:qH (wA t) P G S.toS) (hfl:t.flat=true) (hno:P.funcs[yO]? =none):
  qH (wA t) P G S.addH.toS:=by
 have e2: ∀g,g≠yO→S.addH.toS g=S.toS g:=by
  intro g hg
  funext s ds
  have:Nat.beq g yO=false:=by
   cases hb:Nat.beq g yO with
   |false=>rfl
   |true=>exact absurd (Nat.eq_of_beq_eq_true hb) hg
  simp only [zM.toS,zM.addH,this]
 have e1: ∀ (s:HSt t) (ds:List V) r,S.addH.toS yO s ds=some r→S.toS yO s ds=some r∨
   ∃q ys zs k b,ds=[.bot, .rf q, .tl t ys, .val (.int k b)]∧ ∃q',zPs b.toNat s q ys=some (zs,q')∧r=(zs, .p (.rf q')):=by
  intro s ds r h
  have ht:Nat.beq yO yO=true:=Nat.beq_refl _
  simp only [zM.toS,zM.addH,ht] at h
  split at h
  ·rename_i c hc
   split at hc
   ·rename_i q t' ys k b
    cases hzs:zC9 t' t ys with
    |none=>rw [hzs] at hc;simp only at hc;exact .inl (by simp only [zM.toS,hc];exact h)
    |some zs=>
     rw [hzs] at hc
     obtain ⟨htt,hz⟩:=uL (uG hzs)
     subst htt
     subst hz
     simp only [Option.some.injEq] at hc
     rw [←hc] at h
     simp only [Option.map_eq_some_iff] at h
     obtain ⟨⟨st',q'⟩,h1,h2⟩:=h
     exact .inr ⟨q,ys,st',k,b,rfl,q',h1,h2.symm⟩
   ·exact .inl (by simp only [zM.toS,hc];exact h)
  ·cases h
 refine ⟨?_,?_,?_,?_⟩
 ·intro g
  by_cases hg:g=yO
  ·subst hg
   intro w F O s args ds s' r a1 a2 a3 a4 a5 a6
   rcases e1 s ds _ a6 with h|⟨q,ys,zs,k,b,rfl,_⟩
   ·exact hS.ok yO w F O s args ds s' r a1 a2 a3 a4 a5 h
   ·exfalso
    have h0:0<args.size:=by rw [a4];simp
    have hnb: ∀u:Value, ¬Rd w F u .bot:=fun u h=>by cases h
    exact hnb _ (a5 0 args[0] .bot (by simp [h0]) rfl)
  ·rw [e2 g hg];exact hS.ok g
 ·intro g s ds r hr hbot
  by_cases hg:g=yO
  ·subst hg
   rcases e1 s ds _ hr with h|⟨q,ys,zs,k,b,rfl,_⟩
   ·exact hS.is _ s ds r h hbot
   ·exact absurd rfl (hbot _)
  ·rw [e2 g hg] at hr;exact hS.is g s ds r hr hbot
 ·intro _ st q t' ys bytes st' d h
  rcases e1 _ _ _ h with h|⟨q0,ys0,zs,k,b,heq,q',h1,h2⟩
  ·exact hS.app hno st q t' ys bytes st' d h
  ·simp only [List.cons.injEq,V.rf.injEq,V.tl.injEq,V.val.injEq,Value.int.injEq,true_and,and_true] at heq
   obtain ⟨rfl,⟨htt,hys⟩,rfl,rfl⟩:=heq
   subst htt
   have hys:=eq_of_heq hys
   subst hys
   cases h2
   simp only [Int.toNat_natCast] at h1
   exact zZx hfl h1
 ·intro f st t' xs ds st' ys d h
  by_cases hf:f=yO
  ·subst hf
   rcases e1 _ _ _ h with h|⟨q0,ys0,zs,k,b,heq,_⟩
   ·exact hS.bor _ st t' xs ds st' ys d h
   ·simp at heq
  ·rw [e2 f hf] at h;exact hS.bor f st t' xs ds st' ys d h
section
variable {Γ:Sig} {P:Program} {G:Nat→Option (List V)}
noncomputable def qAF (L:jE) (G:Nat→Option (List V)) (S:zM Γ) (A:Nat→Option JA) (fn:Func) (c:Code) (R:RTy) (s:Γ.St) (ds:List V):Option (Γ.St×R.El):=
 zDh (start fn.ntmps s ds) (fun e=>exC L G S A c (Γ.St×R.El) (fun k e1 _=>match k with
  | .exit _=>none
  |_=>match zCc L e1 fn with
   |some r=>match R.get r with
    |some y=>some (e1.st,y)
    |none=>none
   |none=>none) e 0)
def zL4 {X:Type} (dec:List V→Option X) (R:RTy) (g:Γ.St→X→Option (Γ.St×R.El)):Γ.St→List V→Option (zDb Γ.St):=fun s ds=>
 match dec ds with
 |some x=>some ⟨Γ.St×R.El,g s x,fun y=>y.1,fun y=>R.res y.2,R.pl⟩
 |none=>none
theorem zX2 {S:zM Γ} {A:Nat→Option JA} (hst: ∀k j,A k=some j→zEU j.sl=true) (hmix:P.follows .mixedOrders=true) (hS:qH Γ P G S.toS) {f:FuncId} {fn:Func} {c:Code} (hf:P.funcs[f]? =some fn) (hb:fn.body=some c)
  {X:Type} {dec:List V→Option X} {enc:X→List V} (hdec: ∀ds x,dec ds=some x→wW ds (enc x)) {R:RTy} {g:Γ.St→X→Option (Γ.St×R.El)} (h: ∀s x,qAF (Γ:=Γ) P G S A fn c R s (enc x)=g s x):wY Γ P G f (qO (zL4 dec R g)):=by
 intro w F O s args ds s' r hsig hG hF hlen hrd hspec
 simp only [qO,zL4] at hspec
 split at hspec
 ·rename_i cx hcx
  split at hcx
  ·rename_i x hx
   simp only [Option.some.injEq] at hcx
   subst hcx
   simp only [Option.map_eq_some_iff] at hspec
   obtain ⟨⟨s1,y⟩,hy,hsr⟩:=hspec
   simp only [Prod.mk.injEq] at hsr
   obtain ⟨rfl,rfl⟩:=hsr
   have hwk:=hdec ds x hx
   have hlen':args.size=(enc x).length:=hlen.trans hwk.len
   have hrd': ∀ (i:Nat) (u:Value) (d:V),args[i]? =some u→(enc x)[i]? =some d→Rd w F u d:=by
    intro i u d hu hd
    have hlt:i<ds.length:=by rw [hwk.len];exact (List.getElem?_eq_some_iff.1 hd).1
    exact hwk.get i ds[i] d (by simp [hlt]) hd w F u (hrd i u ds[i] hu (by simp [hlt]))
   have hex:=h s x
   rw [hy] at hex
   unfold qAF at hex
   rw [uB] at hex
   obtain ⟨k,e',d,hok,_,hend⟩:=zHG (fun k j hj=> .inr (hst k j hj)) hmix hS c _ _ _ _ _ hex
   have hk:(k= .normal∨k= .ret)∧(match zCc (jE.of P) e' fn with
    |some r=>match R.get r with
     |some y=>some (e'.st,y)
     |none=>none
    |none=>none)=some (s1,y):=by
    cases k with
    |normal=>exact ⟨.inl rfl,hend⟩
    |ret=>exact ⟨.inr rfl,hend⟩
    |exit id=>cases hend
   obtain ⟨hk,hend⟩:=hk
   split at hend
   ·rename_i r' hr'
    split at hend
    ·rename_i y' hy'
     simp only [Option.some.injEq,Prod.mk.injEq] at hend
     obtain ⟨rfl,rfl⟩:=hend
     refine calls_of_wp hf hb ?_
     have q7: ∀t,zU w F ⟨fun _=>0,fun _=>0⟩ (fun _=>False) ((args++Array.replicate (fn.ntmps-args.size) undef).getD t undef) ((start fn.ntmps s (enc x)).get t):=by
      intro t
      simp only [start,zFf,Env.get,List.getD_eq_getElem?_getD,Array.getD_eq_getD_getElem?]
      by_cases ht:t< (enc x).length
      ·rw [List.getElem?_append_left (by simpa using ht),Array.getElem?_append_left (by omega)]
       rw [List.getElem?_map,List.getElem?_eq_getElem ht,Array.getElem?_eq_getElem (by omega)]
       exact hrd' t _ _ (by simp [show t<args.size by omega]) (by simp [ht])
      ·rw [List.getElem?_append_right (by simpa using Nat.le_of_not_lt ht),Array.getElem?_append_right (by omega),hlen']
       simp only [List.length_map]
       by_cases h2:t- (enc x).length<fn.ntmps- (enc x).length
       ·rw [List.getElem?_replicate,if_pos h2,Array.getElem?_replicate,if_pos h2]
        exact Rd.val _
       ·rw [List.getElem?_replicate,if_neg h2]
        trivial
     have hnovar: ∀s0,(start fn.ntmps s (enc x)).var s0=none:=by
      intro s0
      simp only [start,Env.var,List.getElem?_replicate]
      split<;>rfl
     have hinv:Inv Γ G w F O { tmps:=args++Array.replicate (fn.ntmps-args.size) undef,defers:=[] } w (start fn.ntmps s (enc x)):=by
      refine Inv.of (F:=F) (O:=O) (β:=⟨fun _=>0,fun _=>0⟩) (al:=fun _=>False) ⟨zC1.refl _ w,hsig,fun b hb=> .inl hb,fun b hb=>⟨.inl hb,hF b hb⟩,fun b hb=>hb,fun x hx=>hx.elim,fun x y hx=>hx.elim,fun b n h=>by cases h⟩ hG ?_ rfl q7 ?_ (fun s h=>h.elim)
      ·simp [start,zFf,hlen']
      ·intro s0 cs hcs;rw [hnovar] at hcs;cases hcs
     refine wp_mono (hok w F O _ w hinv) ?_
     rintro ex a' w' ⟨rfl,hi'⟩
     obtain ⟨v,F',O',h1,h2,h3,h4,h5,h6,h7⟩:=zLw rfl hi' hr'
     have hdf:a'.defers=[]:=by obtain ⟨_,_,_,_,_,_,hdf,_⟩:=hi';exact hdf
     obtain ⟨F'',g1,gh,g2,g3⟩:=RTy.get_sound hy' h7
     have h2:=Γ.mono h2 gh (fun _ _=>rfl)
     have hF'': ∀b:Nat,F'' b→(F b∨w.heap.size≤b)∧b<w'.heap.size∧ ¬O' b:=by
      intro b hb
      rcases g2 b hb with hb|⟨h1,h2,h3⟩
      ·exact h6 b hb
      ·exact ⟨.inr h1,h2,h3⟩
     rcases hk with rfl|rfl
     ·exact ⟨hdf,v,h1,v,F'',O',rfl,h2,h3,h4,fun b hb=>g1 b (h5 b hb),hF'',g3⟩
     ·exact ⟨hdf,v,h1,v,F'',O',rfl,h2,h3,h4,fun b hb=>g1 b (h5 b hb),hF'',g3⟩
    ·cases hend
   ·cases hend
  ·cases hcx
 ·cases hspec
end
def Ty.norf:Ty→Bool
 | .rf=>false
 | .pair a b=>a.norf&&b.norf
 | .sl t=>t.norf
 |_=>true
theorem zFo {w:World} {F F':Blk→Prop} (hF: ∀b:Nat,F b→F' b): ∀ (t:Ty) (_:t.norf=true) (x:t.El) (v:Value) (d:V),d∈t.cells x→Rd w F v d→Rd w F' v d:=by
 intro t
 induction t with
 |int k=>intro _ x v d hd h;simp only [Ty.cells,List.mem_singleton] at hd;subst hd;rw [Rd.eq_val h];exact .val _
 |bool=>intro _ x v d hd h;simp only [Ty.cells,List.mem_singleton] at hd;subst hd;rw [Rd.eq_val h];exact .val _
 |str=>intro _ x v d hd h;simp only [Ty.cells,List.mem_singleton] at hd;subst hd;rw [Rd.eq_val h];exact .val _
 |unit=>intro _ x v d hd h;simp [Ty.cells] at hd
 |rf=>intro hn;simp [Ty.norf] at hn
 |pair a b iha ihb=>
  intro hn x v d hd h
  simp only [Ty.norf,Bool.and_eq_true] at hn
  simp only [Ty.cells,List.mem_append] at hd
  rcases hd with hd|hd
  ·exact iha hn.1 x.1 v d hd h
  ·exact ihb hn.2 x.2 v d hd h
 |sl t ih=>
  intro hn x v d hd h
  simp only [Ty.cells,List.mem_singleton] at hd
  subst hd
  refine .tl t x v ?_
  have h:=h.untl
  generalize hes:x.map t.enc=es at h
  cases h with
  |slemp a cap=>exact .slemp a cap
  |sl b off cap k _ g hFb hcap hk hg hr=>
   refine .sl b off cap k es g (hF b hFb) hcap hk hg ?_
   intro i j e d' hi hj
   have hi0:=hi
   rw [←hes] at hi0
   simp only [List.getElem?_map,Option.map_eq_some_iff] at hi0
   obtain ⟨y,_,rfl⟩:=hi0
   exact ih hn y _ d' (by rw [←qV];exact List.mem_of_getElem? hj) (hr i j _ d' hi hj)
theorem zVj {w:World} {F F':Blk→Prop} (hF: ∀b:Nat,F b→F' b) {t:Ty} (hn:t.norf=true) {x:t.El} {v:Value} (h:Rd w F v (t.enc x)):Rd w F' v (t.enc x):=by
 cases t with
 |int k=>rw [Rd.eq_val h];exact .val _
 |bool=>rw [Rd.eq_val h];exact .val _
 |str=>rw [Rd.eq_val h];exact .val _
 |rf=>simp [Ty.norf] at hn
 |unit=>
  cases h with
  |agg cs _ hl hh=>exact .agg cs _ hl (fun i x d hi hd=>by simp at hd)
 |pair a b=>
  cases h with
  |agg cs _ hl hh=>exact .agg cs _ hl (fun i u d hi hd=>zFo hF (.pair a b) hn x u d (List.mem_of_getElem? hd) (hh i u d hi hd))
 |sl t=>exact zFo hF (.sl t) hn x v _ (by simp [Ty.cells,Ty.enc]) h
theorem zXi {w:World} {F F':Blk→Prop} (hF: ∀b:Nat,F b→F' b) {t:Ty} (hn:t.norf=true) {b k cap:Nat} {xs:List t.El} (hr:qL w F b k cap (xs.map t.enc)):qL w F' b k cap (xs.map t.enc):=by
 obtain ⟨c,et,h1,h2,h3,h4,h5⟩:=hr
 refine ⟨c,et,h1,h2,h3,h4,fun i j e d x a1 a2 a3=> ?_⟩
 have a0:=a1
 simp only [List.getElem?_map,Option.map_eq_some_iff] at a0
 obtain ⟨y,hy,rfl⟩:=a0
 exact zFo hF t hn y x d (by rw [←qV];exact List.mem_of_getElem? a2) (h5 i j (t.enc y) d x a1 a2 a3)
def RTy.norf:RTy→Bool
 | .p ty=>ty.norf
 | .o ty=>ty.norf
 | .tu tys=>tys.all Ty.norf
theorem zLC {w:World} {F F':Blk→Prop} (hF: ∀b:Nat,F b→F' b): ∀ (ts:List Ty) (x:ElS ts),ts.all Ty.norf=true→ ∀ (i:Nat) (v:Value) (d:V),(kQ ts x)[i]? =some d→Rd w F v d→Rd w F' v d
 |[],_,_,i,v,d,hd,_=>by simp [kQ] at hd
 |t::ts,x,hn,i,v,d,hd,h=>by
  simp only [List.all_cons,Bool.and_eq_true] at hn
  cases i with
  |zero=>simp only [kQ,List.getElem?_cons_zero,Option.some.injEq] at hd;subst hd;exact zVj hF hn.1 h
  |succ i=>exact zLC hF ts x.2 hn.2 i v d (by simpa [kQ] using hd) h
theorem zXn {N:Nat} {w:World} {F F':Blk→Prop} {O O':Nat→Prop} (hF: ∀b:Nat,F b→F' b) (hF': ∀b:Nat,N≤b→F' b→F b) (hO: ∀b,N≤b→O' b→O b) {R:RTy} (hn:R.norf=true) {y:R.El} {v:Value} (h:xY N w F O v (R.res y)):xY N w F' O' v (R.res y):=by
 cases R with
 |p ty=>exact zVj (t:=ty) hF hn h
 |o ty=>
  rcases h with h|⟨h0,b,cap,h1,h2,h3,h4,h5,k,h6⟩
  ·exact .inl h
  ·exact .inr ⟨h0,b,cap,h1,h2,h3,fun hh=>h4 (hF' b h2 hh),fun hh=>h5 (hO b h2 hh),k,zXi (t:=ty) hF hn h6⟩
 |tu tys=>
  have h:Rd w F v (.tup (kQ tys y)):=h
  cases h with
  |tup cs _ hl hh=>exact .tup cs _ hl (fun i u d hi hd=>zLC hF tys y hn i u d hd (hh i u d hi hd))
theorem zLq {Γ:Sig} {P:Program} {G:Nat→Option (List V)} {f:FuncId} {X:Type} {dec:List V→Option X} {R:RTy} {g:X→Option R.El} (hn:R.norf=true)
  (h:wY jP P G f (qO (vD dec R g))):wY Γ P G f (qO (vD dec R g)):=by
 intro w F O s args ds s' r hsig hG hF hlen hrd hspec
 simp only [qO,vD] at hspec
 cases hx:dec ds with
 |none=>rw [hx] at hspec;cases hspec
 |some x=>
  rw [hx] at hspec
  simp only [Option.map_eq_some_iff,Prod.mk.injEq] at hspec
  obtain ⟨y,hy,rfl,rfl⟩:=hspec
  have hcall:=h w F (fun _=>False) () args ds () (R.res y) (fun _ h=>h) hG (fun b hb=>⟨(hF b hb).1,fun h=>h⟩) hlen hrd (by simp only [qO,vD,hx,hy,Option.map_some])
  refine hcall.mono ?_
  rintro e w' ⟨v,F',O',rfl,g1,g2,g3,g4,g5,g6⟩
  let F'':Blk→Prop:=fun b=>match b with
   | .b n=>F' (.b n)
   | .h id a n c=>F (.h id a n c)
  have hkb: ∀b,O b→w'.heap[b]? =w.heap[b]? :=fun b hb=>g2.block b (Γ.inb hsig b hb) (fun h=>h)
  refine ⟨v,F'',O,rfl,Γ.mono hsig (fun _ _ _ _=>Iff.rfl) hkb,⟨g2.os,g2.tape,g2.output,g2.size,fun b hb _=>g2.block b hb (fun h=>h),g2.drawn⟩,fun b hb=> .inl hb,?_,?_,?_⟩
  ·intro b hb
   cases b with
   |b n=>exact g4 _ hb
   |h _ _ _ _=>exact hb
  ·intro b hb
   obtain ⟨h1,h2,_⟩:=g5 b hb
   refine ⟨h1,h2,fun ho=> ?_⟩
   rcases h1 with h1|h1
   ·exact (hF b h1).2 ho
   ·have:=Γ.inb hsig b ho;omega
  ·exact zXn (F:=F') (F':=F'') (fun b hb=>hb) (fun b _ hb=>hb) (fun b hb ho=>by have:=Γ.inb hsig b ho;omega) hn g6
@[reducible] def v2 (tE:Ty):Ty→Ty
 | .rf=> .sl tE
 | .pair a b=> .pair (v2 tE a) (v2 tE b)
 | .sl t=> .sl (v2 tE t)
 | .int k=> .int k
 | .bool=> .bool
 | .str=> .str
 | .unit=> .unit
def zKl {α β:Type} (f:α→Option β):List α→Option (List β)
 |[]=>some []
 |x::r=>match f x,zKl f r with
  |some y,some ys=>some (y::ys)
  |_,_=>none
def zAI {tE:Ty} (st:HSt tE):(t:Ty)→t.El→Option (v2 tE t).El
 | .rf,o=>match o with
  |none=>some []
  |some (id,_)=>match st[id]? with
   |some (some xs)=>some xs
   |_=>none
 | .pair a b,x=>match zAI st a x.1,zAI st b x.2 with
  |some y,some z=>some (y,z)
  |_,_=>none
 | .sl t,xs=>zKl (zAI st t) xs
 | .int _,x=>some x
 | .bool,x=>some x
 | .str,x=>some x
 | .unit,x=>some x
theorem zKk {α β:Type} {f:α→Option β} : ∀ {xs:List α} {ys:List β},zKl f xs=some ys→xs.length=ys.length∧ ∀ (i:Nat) (y:β),ys[i]? =some y→ ∃x,xs[i]? =some x∧f x=some y
 |[],ys,h=>by simp only [zKl,Option.some.injEq] at h;subst h;exact ⟨rfl,fun i y h=>by simp at h⟩
 |x::r,ys,h=>by
  simp only [zKl] at h
  split at h
  ·rename_i y ys' hy hys
   simp only [Option.some.injEq] at h
   subst h
   obtain ⟨h1,h2⟩:=zKk hys
   refine ⟨by simp [h1],fun i z hz=> ?_⟩
   cases i with
   |zero=>simp only [List.getElem?_cons_zero,Option.some.injEq] at hz;subst hz;exact ⟨x,rfl,hy⟩
   |succ i=>exact h2 i z (by simpa using hz)
  ·cases h
theorem kS (tE:Ty): ∀t:Ty,(v2 tE t).size=t.size
 | .rf=>rfl
 | .pair a b=>by simp only [v2,Ty.size];rw [kS tE a,kS tE b]
 | .sl _=>rfl
 | .int _=>rfl
 | .bool=>rfl
 | .str=>rfl
 | .unit=>rfl
section
variable {tE:Ty} {st:HSt tE} {F F':Blk→Prop} {O:Nat→Prop} {w:World} {hb hc:Nat→Nat}
theorem zK0 (h:zU1 tE st F O w hb hc) (hF: ∀b:Nat,F b→F' b) (hO: ∀b,O b→F' (.b b)): ∀ (t:Ty) (x:t.El) (y:(v2 tE t).El),zAI st t x=some y→
  ∀ (i:Nat) (v:Value) (d d':V),(t.cells x)[i]? =some d→((v2 tE t).cells y)[i]? =some d'→Rd w F v d→Rd w F' v d':=by
 intro t
 induction t with
 |int k=>
  intro x y hxy i v d d' hd hd' hr
  obtain rfl:x=y:=Option.some.inj hxy
  have:=hd.symm.trans hd'
  simp only [Option.some.injEq] at this;subst this
  cases i with
  |zero=>simp only [Ty.cells,List.getElem?_cons_zero,Option.some.injEq] at hd;subst hd;rw [Rd.eq_val hr];exact .val _
  |succ i=>simp [Ty.cells] at hd
 |bool=>
  intro x y hxy i v d d' hd hd' hr
  obtain rfl:x=y:=Option.some.inj hxy
  have:=hd.symm.trans hd'
  simp only [Option.some.injEq] at this;subst this
  cases i with
  |zero=>simp only [Ty.cells,List.getElem?_cons_zero,Option.some.injEq] at hd;subst hd;rw [Rd.eq_val hr];exact .val _
  |succ i=>simp [Ty.cells] at hd
 |str=>
  intro x y hxy i v d d' hd hd' hr
  obtain rfl:x=y:=Option.some.inj hxy
  have:=hd.symm.trans hd'
  simp only [Option.some.injEq] at this;subst this
  cases i with
  |zero=>simp only [Ty.cells,List.getElem?_cons_zero,Option.some.injEq] at hd;subst hd;rw [Rd.eq_val hr];exact .val _
  |succ i=>simp [Ty.cells] at hd
 |unit=>intro x y hxy i v d d' hd;simp [Ty.cells] at hd
 |rf=>
  intro x y hxy i v d d' hd hd' hr
  cases i with
  |succ i=>simp [Ty.cells] at hd
  |zero=>
   simp only [Ty.cells,List.getElem?_cons_zero,Option.some.injEq] at hd
   simp only [v2,Ty.cells,List.getElem?_cons_zero,Option.some.injEq] at hd'
   subst hd hd'
   cases hr with
   |rfn=>
    obtain rfl:([]:List tE.El)=y:=Option.some.inj hxy
    exact .tl tE [] _ (.slemp none 0)
   |rf id a n c hh=>
    simp only [zAI] at hxy
    split at hxy
    ·rename_i xs hxs
     obtain rfl:xs=y:=Option.some.inj hxy
     obtain ⟨rfl,rfl,rfl⟩:=(h.hdl id xs hxs _ _ _).1 hh
     obtain ⟨_,h2,h3⟩:=h.row id xs hxs
     refine .tl tE xs _ ?_
     have:=zHk (F':=F') h3 (fun _ h=>h.elim) (hO _ h2)
     simpa using this
    ·cases hxy
 |pair a b iha ihb=>
  intro x y hxy i v d d' hd hd' hr
  simp only [zAI] at hxy
  split at hxy
  ·rename_i y1 y2 h1 h2
   obtain rfl:(y1,y2)=y:=Option.some.inj hxy
   simp only [v2,Ty.cells] at hd hd'
   by_cases hi:i< (a.cells x.1).length
   ·rw [List.getElem?_append_left hi] at hd
    rw [List.getElem?_append_left (by rw [qZ,kS];rw [qZ] at hi;exact hi)] at hd'
    exact iha x.1 y1 h1 i v d d' hd hd' hr
   ·rw [List.getElem?_append_right (by omega)] at hd
    rw [List.getElem?_append_right (by rw [qZ,kS];rw [qZ] at hi;omega)] at hd'
    rw [qZ,kS, ←qZ a x.1] at hd'
    exact ihb x.2 y2 h2 _ v d d' hd hd' hr
  ·cases hxy
 |sl t ih=>
  intro x y hxy i v d d' hd hd' hr
  cases i with
  |succ i=>simp [Ty.cells] at hd
  |zero=>
   simp only [Ty.cells,List.getElem?_cons_zero,Option.some.injEq] at hd
   simp only [v2,Ty.cells,List.getElem?_cons_zero,Option.some.injEq] at hd'
   subst hd hd'
   obtain ⟨hlen,q7⟩:=zKk (show zKl (zAI st t) x=some y from hxy)
   refine .tl (v2 tE t) y v ?_
   have hr1:=hr.untl
   clear hr
   generalize hes:x.map t.enc=es at hr1
   cases hr1 with
   |slemp a cap=>
    have hx0:x=[]:=by simpa using hes
    subst hx0
    have hy0:y=[]:=List.eq_nil_of_length_eq_zero hlen.symm
    subst hy0
    exact .slemp a cap
   |sl b off cap k _ g hFb hcap hk hg hr=>
    have hel:es.length=(y.map (v2 tE t).enc).length:=by rw [←hes,List.length_map,List.length_map];exact hlen
    rw [hel] at hg hcap ⊢
    have hkk: ∀e,e∈y.map (v2 tE t).enc→e.cells.length=k:=by
     intro e he
     simp only [List.mem_map] at he
     obtain ⟨y0,hy0,rfl⟩:=he
     rw [vI,kS]
     obtain ⟨j,hj⟩:=List.getElem?_of_mem hy0
     obtain ⟨x0,hx0,_⟩:=q7 j y0 hj
     have:=hk (t.enc x0) (by rw [←hes];exact List.mem_map_of_mem (List.mem_of_getElem? hx0))
     rw [vI] at this;exact this
    refine .sl b off cap k _ g (hF b hFb) hcap hkk hg ?_
    intro i j e d' hi hj
    simp only [List.getElem?_map,Option.map_eq_some_iff] at hi
    obtain ⟨y0,hy0,rfl⟩:=hi
    obtain ⟨x0,hx0,hxy0⟩:=q7 i y0 hy0
    rw [qV] at hj
    have hjl:j< (t.cells x0).length:=by
     have:=(List.getElem?_eq_some_iff.1 hj).1
     rw [qZ,kS] at this;rw [qZ];exact this
    refine ih x0 y0 hxy0 j _ (t.cells x0)[j] d' (by simp [hjl]) hj (hr i j (t.enc x0) _ (by rw [←hes];simp [hx0]) (by rw [qV];simp [hjl]))
theorem zU9 (h:zU1 tE st F O w hb hc) (hF: ∀b:Nat,F b→F' b) (hO: ∀b,O b→F' (.b b)) (t:Ty) (x:t.El) (y:(v2 tE t).El) (hxy:zAI st t x=some y) {v:Value} (hr:Rd w F v (t.enc x)):Rd w F' v ((v2 tE t).enc y):=by
 have one: ∀ (_:t.enc x=(t.cells x)[0]?.getD .bot) (_:(v2 tE t).enc y=((v2 tE t).cells y)[0]?.getD .bot) (_:0<t.size),Rd w F' v ((v2 tE t).enc y):=by
  intro h1 h2 h3
  have l1:0< (t.cells x).length:=by rw [qZ];exact h3
  have l2:0< ((v2 tE t).cells y).length:=by rw [qZ,kS];exact h3
  rw [h1] at hr
  rw [h2]
  simp only [List.getElem?_eq_getElem l1,Option.getD_some] at hr
  simp only [List.getElem?_eq_getElem l2,Option.getD_some]
  exact zK0 h hF hO t x y hxy 0 v _ _ (by simp [l1]) (by simp [l2]) hr
 cases t with
 |int k=>exact one rfl rfl Nat.one_pos
 |bool=>exact one rfl rfl Nat.one_pos
 |str=>exact one rfl rfl Nat.one_pos
 |rf=>exact one rfl rfl Nat.one_pos
 |sl t=>exact one rfl rfl Nat.one_pos
 |unit=>
  cases hr with
  |agg cs _ hl hh=>exact .agg cs _ hl (fun i x d hi hd=>by simp at hd)
 |pair a b=>
  cases hr with
  |agg cs _ hl hh=>
   have e1:(a.cells x.1++b.cells x.2).length=(Ty.pair a b).size:=qZ (.pair a b) x
   have e2:(((v2 tE a).cells y.1)++((v2 tE b).cells y.2)).length=(v2 tE (Ty.pair a b)).size:=qZ (v2 tE (Ty.pair a b)) y
   refine .agg cs _ (by rw [hl,e1,e2,kS]) ?_
   intro i u d hi hd
   have hlt:i< (a.cells x.1++b.cells x.2).length:=by
    have:=(List.getElem?_eq_some_iff.1 hd).1
    rw [e2,kS] at this;rw [e1];exact this
   exact zK0 h hF hO (.pair a b) x y hxy i u _ d (by simp only [Ty.cells];exact List.getElem?_eq_getElem hlt) hd (hh i u _ hi (List.getElem?_eq_getElem hlt))
end
end Go.Ve

namespace Go.Ve
open Go
theorem zEk: ∀ (t:Ty) (x:t.El) (r:List V),t.uncells (t.cells x++r)=some (x,r)
 | .int k,x,r=>by simp [Ty.cells,Ty.uncells,zFb]
 | .bool,x,r=>by simp [Ty.cells,Ty.uncells,zDx]
 | .str,x,r=>by simp [Ty.cells,Ty.uncells,zFa]
 | .unit,x,r=>by simp [Ty.cells,Ty.uncells]
 | .rf,x,r=>by simp [Ty.cells,Ty.uncells,zIH]
 | .sl t,x,r=>by simp [Ty.cells,Ty.uncells,zIG]
 | .pair a b,x,r=>by
  simp only [Ty.cells,Ty.uncells,List.append_assoc]
  rw [zEk a x.1]
  simp only
  rw [zEk b x.2]
theorem zZE (t:Ty) (x:t.El):t.dec (t.enc x)=some x:=by
 cases t with
 |int k=>simp [Ty.enc,Ty.dec,zFb]
 |bool=>simp [Ty.enc,Ty.dec,zDx]
 |str=>simp [Ty.enc,Ty.dec,zFa]
 |unit=>rfl
 |rf=>simp [Ty.enc,Ty.dec,zIH]
 |sl t=>simp [Ty.enc,Ty.dec,zIG]
 |pair a b=>
  have:=zEk (.pair a b) x []
  simp only [List.append_nil] at this
  simp only [Ty.enc,Ty.dec]
  simp only [Ty.cells] at this
  rw [this]
theorem zDR: ∀ (ts:List Ty) (x:ElS ts),zEy ts (kQ ts x)=some x
 |[],_=>rfl
 |t::ts,x=>by
  simp only [kQ,zEy,zZE,zDR ts]
@[reducible] def zGw (tE:Ty):List Ty→List Ty
 |[]=>[]
 |t::r=>v2 tE t::zGw tE r
def zNi {tE:Ty} (st:HSt tE):(ts:List Ty)→ElS ts→Option (ElS (zGw tE ts))
 |[],_=>some ()
 |t::r,x=>match zAI st t x.1,zNi st r x.2 with
  |some y,some z=>some (y,z)
  |_,_=>none
@[reducible] def zRH (tE:Ty):RTy→RTy
 | .p ty=> .p (v2 tE ty)
 | .o ty=> .o (v2 tE ty)
 | .tu tys=> .tu (zGw tE tys)
def zW0 {tE:Ty} (st:HSt tE):(R:RTy)→R.El→Option (zRH tE R).El
 | .p ty,x=>zAI st ty x
 | .o ty,xs=>zKl (zAI st ty) xs
 | .tu tys,x=>zNi st tys x
section
variable {tE:Ty} {st:HSt tE} {F F':Blk→Prop} {O:Nat→Prop} {w:World} {hb hc:Nat→Nat}
theorem zRG (h:zU1 tE st F O w hb hc) (hF: ∀b:Nat,F b→F' b) (hO: ∀b,O b→F' (.b b)): ∀ (ts:List Ty) (x:ElS ts) (y:ElS (zGw tE ts)),zNi st ts x=some y→
  (kQ ts x).length=(kQ (zGw tE ts) y).length∧ ∀ (i:Nat) (v:Value) (d d':V),(kQ ts x)[i]? =some d→(kQ (zGw tE ts) y)[i]? =some d'→Rd w F v d→Rd w F' v d'
 |[],_,_,_=>⟨rfl,fun i v d d' hd=>by simp [kQ] at hd⟩
 |t::ts,x,y,hxy=>by
  simp only [zNi] at hxy
  split at hxy
  ·rename_i y1 y2 h1 h2
   obtain rfl:(y1,y2)=y:=Option.some.inj hxy
   obtain ⟨k1,k2⟩:=zRG h hF hO ts x.2 y2 h2
   refine ⟨by simp only [kQ,List.length_cons,k1],fun i v d d' hd hd' hr=> ?_⟩
   cases i with
   |zero=>
    simp only [kQ,List.getElem?_cons_zero,Option.some.injEq] at hd hd'
    subst hd hd'
    exact zU9 h hF hO t x.1 y1 h1 hr
   |succ i=>exact k2 i v d d' (by simpa [kQ] using hd) (by simpa [kQ] using hd') hr
  ·cases hxy
theorem zWY (h:zU1 tE st F O w hb hc) (hF: ∀b:Nat,F b→F' b) (hO: ∀b,O b→F' (.b b)) {t:Ty} {xs:List t.El} {ys:List (v2 tE t).El} (hxy:zKl (zAI st t) xs=some ys) {b k cap:Nat}
  (hr:qL w F b k cap (xs.map t.enc)):qL w F' b k cap (ys.map (v2 tE t).enc):=by
 obtain ⟨hlen,q7⟩:=zKk hxy
 obtain ⟨c,et,h1,h2,h3,h4,h5⟩:=hr
 refine ⟨c,et,h1,h2,by simpa [←hlen] using h3,?_,?_⟩
 ·intro e he
  simp only [List.mem_map] at he
  obtain ⟨y0,hy0,rfl⟩:=he
  rw [vI,kS]
  obtain ⟨j,hj⟩:=List.getElem?_of_mem hy0
  obtain ⟨x0,hx0,_⟩:=q7 j y0 hj
  have:=h4 (t.enc x0) (List.mem_map_of_mem (List.mem_of_getElem? hx0))
  rw [vI] at this;exact this
 ·intro i j e d' x hi hj hx
  simp only [List.getElem?_map,Option.map_eq_some_iff] at hi
  obtain ⟨y0,hy0,rfl⟩:=hi
  obtain ⟨x0,hx0,hxy0⟩:=q7 i y0 hy0
  rw [qV] at hj
  have hjl:j< (t.cells x0).length:=by
   have:=(List.getElem?_eq_some_iff.1 hj).1
   rw [qZ,kS] at this;rw [qZ];exact this
  exact zK0 h hF hO t x0 y0 hxy0 j _ (t.cells x0)[j] d' (by simp [hjl]) hj (h5 i j (t.enc x0) _ x (by simp [hx0]) (by rw [qV];simp [hjl]) hx)
theorem zWZ (h:zU1 tE st F O w hb hc) (hF: ∀b:Nat,F b→F' b) (hO: ∀b,O b→F' (.b b)) (hF': ∀b:Nat,F' b→F b∨O b) {N:Nat} {R:RTy} {x:R.El} {y:(zRH tE R).El} (hxy:zW0 st R x=some y) {v:Value}
  (hr:xY N w F O v (R.res x)):xY N w F' (fun _=>False) v ((zRH tE R).res y):=by
 cases R with
 |p ty=>exact zU9 h hF hO ty x y hxy hr
 |o ty=>
  have hxy:zKl (zAI st ty) x=some y:=hxy
  obtain ⟨hlen,_⟩:=zKk hxy
  rcases hr with ⟨h0,hv⟩|⟨h0,b,cap,h1,h2,h3,h4,h5,k,h6⟩
  ·have hx0:x=[]:=by simpa using h0
   subst hx0
   have hy0:y=[]:=List.eq_nil_of_length_eq_zero hlen.symm
   subst hy0
   exact .inl ⟨rfl,hv⟩
  ·refine .inr ⟨?_,b,cap,by rw [h1];simp [hlen],h2,h3,fun hh=>(hF' b hh).elim h4 h5,fun hh=>hh,k,zWY h hF hO hxy h6⟩
   intro hh
   have hy0:y=[]:=by simpa using hh
   subst hy0
   have hx0:x=[]:=List.eq_nil_of_length_eq_zero hlen
   subst hx0
   exact h0 rfl
 |tu tys=>
  have hr:Rd w F v (.tup (kQ tys x)):=hr
  obtain ⟨k1,k2⟩:=zRG h hF hO tys x y hxy
  cases hr with
  |tup cs _ hl hh=>
   refine Rd.tup cs (kQ (zGw tE tys) y) (hl.trans k1) ?_
   intro i u d hi hd
   have hlt:i< (kQ tys x).length:=by rw [k1];exact (List.getElem?_eq_some_iff.1 hd).1
   exact k2 i u _ d (List.getElem?_eq_getElem hlt) hd (hh i u _ hi (List.getElem?_eq_getElem hlt))
end
def zNj {tE:Ty} {X:Type} (R:RTy) (g:HSt tE→X→Option (HSt tE×R.El)) (x:X):Option (zRH tE R).El:=
 match g [] x with
 |some (st,y)=>zW0 st R y
 |none=>none
theorem zMb {tE:Ty} {P:Program} {G:Nat→Option (List V)} (hG0: ∀g,G g=none) {f:FuncId} {ts:List Ty} (hts:ts.all Ty.norf=true) {R:RTy} {g:HSt tE→ElS ts→Option (HSt tE×R.El)}
  (h:wY (wA tE) P G f (qO (zL4 (zEy ts) R g))):wY jP P G f (qO (wE ts (zRH tE R) (zNj R g))):=by
 intro w F O s args ds s' r hsig hG hF hlen hrd hspec
 simp only [qO,wE,vD] at hspec
 cases hx:zEy ts ds with
 |none=>rw [hx] at hspec;cases hspec
 |some x=>
  rw [hx] at hspec
  simp only [Option.map_eq_some_iff,Prod.mk.injEq] at hspec
  obtain ⟨y,hy,rfl,rfl⟩:=hspec
  unfold zNj at hy
  split at hy
  ·rename_i st y0 hg
   have hwk:=uP ts ds x hx
   let F0:Blk→Prop:=fun b=>match b with
    | .b n=>F (.b n)
    | .h _ _ _ _=>False
   have hR0:(wA tE).R [] F0 (fun _=>False) w:=⟨fun _=>0,fun _=>0,fun id xs hh=>by simp at hh,fun id _ a n c hh=>hh,fun id xs hh=>by simp at hh,fun id id' xs xs' hh=>by simp at hh,fun b hh=>hh.elim⟩
   have hcall:=h w F0 (fun _=>False) [] args (kQ ts x) st (R.res y0) hR0 (fun g cs hg=>by rw [hG0 g] at hg;cases hg) (fun b hb=>⟨(hF b hb).1,fun hh=>hh⟩) (hlen.trans hwk.len) (by
    intro i u d hu hd
    have hlt:i<ds.length:=by rw [hwk.len];exact (List.getElem?_eq_some_iff.1 hd).1
    have:=hwk.get i ds[i] d (by simp [hlt]) hd w F u (hrd i u ds[i] hu (by simp [hlt]))
    exact zLC (F:=F) (F':=F0) (fun b hb=>hb) ts x hts i u d hd this) (by simp only [qO,zL4,zDR];rw [hg];rfl)
   refine hcall.mono ?_
   rintro e w' ⟨v,F',O',rfl,⟨hb,hc,g1⟩,g2,g3,g4,g5,g6⟩
   let F'':Blk→Prop:=fun b=>match b with
    | .b n=>F' (.b n)∨O' n
    | .h id a n c=>F (.h id a n c)
   refine ⟨v,F'',fun _=>False,rfl,fun _ hh=>hh,⟨g2.os,g2.tape,g2.output,g2.size,fun b hb _=>g2.block b hb (fun hh=>hh),g2.drawn⟩,fun b hh=>hh.elim,?_,?_,?_⟩
   ·intro b hb0
    cases b with
    |b n=>exact .inl (g4 (.b n) hb0)
    |h _ _ _ _=>exact hb0
   ·intro b hb0
    rcases hb0 with hb0|hb0
    ·obtain ⟨k1,k2,_⟩:=g5 b hb0
     exact ⟨k1,k2,fun hh=>hh⟩
    ·refine ⟨.inr ((g3 b hb0).elim (fun hh=>hh.elim) (fun hh=>hh)),(wA tE).inb (⟨hb,hc,g1⟩:(wA tE).R st F' O' w') b hb0,fun hh=>hh⟩
   ·exact zWZ (F':=F'') g1 (fun b hh=> .inl hh) (fun b hh=> .inr hh) (fun b hh=>hh) hy g6
  ·cases hy
def zY6 {St:Type} (S:St→List V→Option (St×RV)) (ts:List Ty) (R:RTy) (s:St) (x:ElS ts):Option (St×R.El):=
 match S s (kQ ts x) with
 |some (s',r)=>match R.get r with
  |some y=>some (s',y)
  |none=>none
 |none=>none
theorem zWg {Γ:Sig} {P:Program} {G:Nat→Option (List V)} {f:FuncId} {S:Γ.St→List V→Option (Γ.St×RV)} (h:wY Γ P G f S) (ts:List Ty) (R:RTy):
  wY Γ P G f (qO (zL4 (zEy ts) R (zY6 S ts R))):=by
 intro w F O s args ds s' r hsig hG hF hlen hrd hspec
 simp only [qO,zL4] at hspec
 cases hx:zEy ts ds with
 |none=>rw [hx] at hspec;cases hspec
 |some x=>
  rw [hx] at hspec
  simp only [Option.map_eq_some_iff,Prod.mk.injEq] at hspec
  obtain ⟨⟨s1,y⟩,hy,rfl,rfl⟩:=hspec
  unfold zY6 at hy
  split at hy
  ·rename_i s2 r0 hS
   split at hy
   ·rename_i y0 hy0
    simp only [Option.some.injEq,Prod.mk.injEq] at hy
    obtain ⟨rfl,rfl⟩:=hy
    have hwk:=uP ts ds x hx
    have hcall:=h w F O s args (kQ ts x) s2 r0 hsig hG hF (hlen.trans hwk.len) (by
     intro i u d hu hd
     have hlt:i<ds.length:=by rw [hwk.len];exact (List.getElem?_eq_some_iff.1 hd).1
     exact hwk.get i ds[i] d (by simp [hlt]) hd w F u (hrd i u ds[i] hu (by simp [hlt]))) hS
    refine hcall.mono ?_
    rintro e w' ⟨v,F',O',rfl,g1,g2,g3,g4,g5,g6⟩
    obtain ⟨F'',k1,kh,k2,k3⟩:=RTy.get_sound hy0 g6
    refine ⟨v,F'',O',rfl,Γ.mono g1 kh (fun _ _=>rfl),g2,g3,fun b hb=>k1 b (g4 b hb),?_,k3⟩
    intro b hb
    rcases k2 b hb with hb|⟨h1,h2,h3⟩
    ·exact g5 b hb
    ·exact ⟨.inr h1,h2,h3⟩
   ·cases hy
  ·cases hy
theorem zSI {Γ:Sig} {P:Program} {G:Nat→Option (List V)} {f:FuncId} {S S':Γ.St→List V→Option (Γ.St×RV)} (h:wY Γ P G f S) (hs: ∀s ds r,S' s ds=some r→S s ds=some r):wY Γ P G f S':=
 fun w F O s args ds s' r a1 a2 a3 a4 a5 a6=>h w F O s args ds s' r a1 a2 a3 a4 a5 (hs _ _ _ a6)
end Go.Ve

namespace Go.Ve
open Go
set_option maxRecDepth 1000000
noncomputable def zFD:ElS [zF]→Option (RTy.El (.p .bool)):=fun x=>match x with|(a1,())=>Option.bind (bif decide ((↑(List.length a1.2.2.1):Int)>(12:Int)) then some true else bif decide ((↑(List.length a1.2.2.2.1):Int)>(12:Int)) then some true else bif decide ((↑(List.length a1.2.2.2.2.1):Int)>(12:Int)) then some true else bif decide ((↑(List.length a1.2.2.2.2.2.1):Int)>(12:Int)) then some true else bif decide ((↑(List.length a1.2.2.2.2.2.2.1):Int)>(12:Int)) then some true else bif decide ((↑(List.length a1.2.2.2.2.2.2.2.1):Int)>(20:Int)) then some true else bif decide ((↑(List.length a1.2.2.2.2.2.2.2.2.1.2.2.1):Int)>(8:Int)) then some true else bif decide ((↑(List.length a1.2.2.2.2.2.2.2.2.1.2.2.2.1):Int)>(8:Int)) then some true else bif decide ((↑(List.length a1.2.2.2.2.2.2.2.2.2.1.2.2.2.2.1):Int)>(8:Int)) then some true else bif decide ((↑(List.length a1.2.2.2.2.2.2.2.2.2.2.1.2.2.2.2.2.2.2.1):Int)>(8:Int)) then some true else bif decide ((↑(List.length a1.2.2.2.2.2.2.2.2.2.2.1.2.2.2.1):Int)>(12:Int)) then some true else bif decide ((↑(List.length a1.2.2.2.2.2.2.2.2.2.2.1.2.2.2.2.1):Int)>(12:Int)) then some true else bif decide ((↑(List.length a1.2.2.2.2.2.2.2.2.2.2.1.2.2.2.2.2.1):Int)>(12:Int)) then some true else some (decide ((↑(List.length a1.2.2.2.2.2.2.2.2.2.2.1.2.2.2.2.2.2.1):Int)>(12:Int)))) fun (s0:Bool)=>bif s0 then some false else q8 (zN (fun (s5:Int)=>bif decide (s5< (↑(List.length a1.2.2.2.1):Int)) then Option.bind (idx a1.2.2.2.1 s5) fun (y6:Ty.El vC)=>bif decide ((↑(List.length y6.2.1):Int)>(20:Int)) then some (Sum.inr (Sum.inr false)) else some (Sum.inl (IntKind.wrap IntKind.i64 (s5+(1:Int)))) else some (Sum.inr (Sum.inl ()))) (0:Int)) fun (s7:Unit)=>q8 (zN (fun (s12:Int)=>bif decide (s12< (↑(List.length a1.2.2.2.2.1):Int)) then Option.bind (idx a1.2.2.2.2.1 s12) fun (y13:Ty.El yW)=>bif decide ((↑(List.length y13.2.1):Int)>(12:Int)) then some (Sum.inr (Sum.inr false)) else some (Sum.inl (IntKind.wrap IntKind.i64 (s12+(1:Int)))) else some (Sum.inr (Sum.inl ()))) (0:Int)) fun (s14:Unit)=>q8 (zN (fun (s19:Int)=>bif decide (s19< (↑(List.length a1.2.2.2.2.2.1):Int)) then Option.bind (idx a1.2.2.2.2.2.1 s19) fun (y20:Ty.El zK2)=>bif decide ((↑(List.length y20.2.1):Int)>(20:Int)) then some (Sum.inr (Sum.inr false)) else some (Sum.inl (IntKind.wrap IntKind.i64 (s19+(1:Int)))) else some (Sum.inr (Sum.inl ()))) (0:Int)) fun (s21:Unit)=>some true
noncomputable def zEe:ElS [zQ]→Option (RTy.El (.p .bool)):=fun x=>match x with|(a1,())=>bif decide ((↑(List.length a1.1):Int)>(9:Int)) then some false else q8 (zN (fun (s6:Int)=>bif decide (s6< (↑(List.length a1.1):Int)) then Option.bind (idx a1.1 s6) fun (y7:Ty.El zF)=>Option.bind (zFD (y7,())) fun (y8:Bool)=>bif !y8 then some (Sum.inr (Sum.inr false)) else some (Sum.inl (IntKind.wrap IntKind.i64 (s6+(1:Int)))) else some (Sum.inr (Sum.inl ()))) (0:Int)) fun (s9:Unit)=>some true
noncomputable def vW:ElS [zH,zH]→Option (RTy.El (.p tI)):=fun x=>match x with|(a1,a2,())=>Option.bind (bif decide (a1.1<a2.1) then some true else bif a1.1==a2.1 then some (decide (a1.2.1<a2.2.1)) else some false) fun (s0:Bool)=>bif s0 then some (-1:Int) else bif a1.1==a2.1&&(a1.2.1==a2.2.1&&true) then some (0:Int) else some (1:Int)
noncomputable def zCA:HSt zO→ElS [zQ]→Option (HSt zO×RTy.El (.tu [zGA,tI])):=fun st0 x=>match x with|(a1,())=>Option.bind (uJ (a1,())) fun (y0:Int)=>bif y0 !=(0:Int) then some (st0,([],[],()),y0,()) else Option.bind (zN (fun (s1:Int×(List (Ty.El zP)×List Int)×HSt zO)=>bif decide (s1.1< (↑(List.length a1.1):Int)) then Option.bind (zN (fun (s2:Int×(List (Ty.El zP)×List Int)×HSt zO)=>Option.bind (idx a1.1 s1.1) fun (y3:Ty.El zF)=>bif decide (s2.1< (↑(List.length y3.2.2.1):Int)) then Option.bind (Option.bind (idx a1.1 s1.1) fun (y4:Ty.El zF)=>Option.bind (idx y4.2.2.1 s2.1) fun (y5:Ty.El qG)=>Option.bind (bif y5.2.2.1==(0:Int) then some (true,s2.2) else some (y5.2.2.2.2.1,s2.2)) fun (s6:Bool×(List (Ty.El zP)×List Int)×HSt zO)=>bif s6.1 then some s6.2 else Option.bind (w9 (y5.2.1,y5.2.2.1,())) fun (y7:Int×Int×Unit)=>Option.bind (zN (fun (s8:Int×(List (Ty.El zP)×List Int)×HSt zO)=>Option.bind (bif decide (s8.1< (↑(List.length s8.2.1.1):Int)) then Option.bind (idx s8.2.1.1 s8.1) fun (y16:Ty.El zP)=>Option.bind (atN s8.2.1.1 (Int.toNat s8.1)) fun (y17:Ty.El zP)=>Option.bind (vW (y17.1,y7,())) fun (y18:Int)=>bif decide (y18< (0:Int)) then some (true,s8.2) else Option.bind (idx s8.2.1.1 s8.1) fun (y19:Ty.El zP)=>Option.bind (atN s8.2.1.1 (Int.toNat s8.1)) fun (y20:Ty.El zP)=>bif y20.1.1==y7.1&&(y20.1.2.1==y7.2.1&&true) then Option.bind (idx s8.2.1.1 s8.1) fun (y21:Ty.El zP)=>Option.bind (atN s8.2.1.1 (Int.toNat s8.1)) fun (y22:Ty.El zP)=>some (decide (y22.2.1<y5.2.2.2.1),s8.2) else some (false,s8.2) else some (false,s8.2)) fun (s23:Bool×(List (Ty.El zP)×List Int)×HSt zO)=>bif s23.1 then some (Sum.inl (IntKind.wrap IntKind.i64 (s8.1+(1:Int)),s23.2)) else some (Sum.inr (s8.1,s23.2))) ((0:Int),s6.2)) fun (s24:Int×(List (Ty.El zP)×List Int)×HSt zO)=>Option.bind (Option.bind (bif s24.1==(↑(List.length s24.2.1.1):Int) then some (true,s24.2) else Option.bind (idx s24.2.1.1 s24.1) fun (y29:Ty.El zP)=>Option.bind (atN s24.2.1.1 (Int.toNat s24.1)) fun (y30:Ty.El zP)=>bif !(y30.1.1==y7.1&&(y30.1.2.1==y7.2.1&&true)) then some (true,s24.2) else Option.bind (idx s24.2.1.1 s24.1) fun (y31:Ty.El zP)=>Option.bind (atN s24.2.1.1 (Int.toNat s24.1)) fun (y32:Ty.El zP)=>some (y32.2.1 !=y5.2.2.2.1,s24.2)) fun (s33:Bool×(List (Ty.El zP)×List Int)×HSt zO)=>bif s33.1 then bif decide ((0:Int)≤s24.1)&&decide (s24.1≤(↑(List.length s33.2.1.1):Int))&&decide ((↑(List.length s33.2.1.1):Int)≤(↑(List.length s33.2.1.1):Int)) then Option.bind (app (48:Nat) [] (List.drop (Int.toNat s24.1) (List.take (Int.toNat (↑(List.length s33.2.1.1):Int)) s33.2.1.1))) fun (y34:List (Ty.El zP))=>bif decide ((0:Int)≤(0:Int))&&decide ((0:Int)≤s24.1)&&decide (s24.1≤(↑(List.length s33.2.1.1):Int)) then Option.bind (app (48:Nat) (List.take (Int.toNat s24.1) s33.2.1.1) [(y7,y5.2.2.2.1,none,())]) fun (y35:List (Ty.El zP))=>Option.bind (app (48:Nat) y35 y34) fun (y36:List (Ty.El zP))=>some ((y36,s33.2.1.2),s33.2.2) else none else none else some s33.2) fun (s37:(List (Ty.El zP)×List Int)×HSt zO)=>Option.bind (idx s37.1.1 s24.1) fun (y38:Ty.El zP)=>Option.bind (atN s37.1.1 (Int.toNat s24.1)) fun (y39:Ty.El zP)=>Option.bind (zPs (16:Nat) s37.2 y39.2.2.1 [(s1.1,s2.1,())]) fun (y40:List (Option (List (Ty.El zO)))×Option (Nat×Nat))=>Option.bind (idx s37.1.1 s24.1) fun (y41:Ty.El zP)=>Option.bind (atN s37.1.1 (Int.toNat s24.1)) fun (y42:Ty.El zP)=>some ((List.set s37.1.1 (Int.toNat s24.1) (y42.1,y42.2.1,y40.2,()),s37.1.2),y40.1)) fun (s43:(List (Ty.El zP)×List Int)×HSt zO)=>some (Sum.inl (IntKind.wrap IntKind.i64 (s2.1+(1:Int)),s43)) else some (Sum.inr s2.2)) ((0:Int),s1.2)) fun (s44:(List (Ty.El zP)×List Int)×HSt zO)=>some (Sum.inl (IntKind.wrap IntKind.i64 (s1.1+(1:Int)),s44)) else some (Sum.inr s1.2)) ((0:Int),([],[]),st0)) fun (s45:(List (Ty.El zP)×List Int)×HSt zO)=>Option.bind (zN (fun (s67:Int×(List (Ty.El zP)×List Int)×HSt zO)=>bif decide (s67.1< (↑(List.length s67.2.1.1):Int)) then Option.bind (Option.bind (idx s67.2.1.1 s67.1) fun (y68:Ty.El zP)=>Option.bind (atN s67.2.1.1 (Int.toNat s67.1)) fun (y69:Ty.El zP)=>bif decide ((↑(zVh y69.2.2.1):Int)>(1:Int)) then Option.bind (app (8:Nat) s67.2.1.2 [s67.1]) fun (y70:List Int)=>some ((s67.2.1.1,y70),s67.2.2) else some s67.2) fun (s71:(List (Ty.El zP)×List Int)×HSt zO)=>some (Sum.inl (IntKind.wrap IntKind.i64 (s67.1+(1:Int)),s71)) else some (Sum.inr s67.2)) ((0:Int),s45)) fun (s72:(List (Ty.El zP)×List Int)×HSt zO)=>bif decide ((↑(List.length s72.1.2):Int)>(12:Int)) then some (s72.2,([],[],()),(7:Int),()) else some (s72.2,(s72.1.1,s72.1.2,()),(0:Int),())
noncomputable def zEa:ElS [zQ]→Option (RTy.El (.tu [zJK,tI])):=zNj (.tu [zGA,tI]) zCA
noncomputable def zA8:ElS [(.sl tI),tI]→Option (RTy.El (.p .bool)):=fun x=>match x with|(a1,a2,())=>bif decide ((↑(List.length a1):Int)>(2:Int)) then some false else q8 (zN (fun (s20:Int)=>bif decide (s20< (↑(List.length a1):Int)) then Option.bind (Option.bind (idx a1 s20) fun (y21:Int)=>bif decide (y21< (0:Int)) then some true else Option.bind (idx a1 s20) fun (y22:Int)=>bif decide (y22≥a2) then some true else bif decide (s20>(0:Int)) then Option.bind (idx a1 s20) fun (y23:Int)=>Option.bind (idx a1 (IntKind.wrap IntKind.i64 (s20- (1:Int)))) fun (y24:Int)=>some (decide (y23≤y24)) else some false) fun (s25:Bool)=>bif s25 then some (Sum.inr (Sum.inr false)) else some (Sum.inl (IntKind.wrap IntKind.i64 (s20+(1:Int)))) else some (Sum.inr (Sum.inl ()))) (0:Int)) fun (s26:Unit)=>some true
noncomputable def zFm:ElS [zQ,(.sl tI)]→Option (RTy.El (.tu [zR,tI])):=fun x=>match x with|(a1,a2,())=>Option.bind (zEa (a1,())) fun (y0:Ty.El zJK×Int×Unit)=>bif y0.2.1 !=(0:Int) then some ((([],()),([],[],()),[],()),y0.2.1,()) else Option.bind (zA8 (a2,(↑(List.length y0.1.2.1):Int),())) fun (y1:Bool)=>bif !y1 then some ((([],()),([],[],()),[],()),(1:Int),()) else Option.bind (app (8:Nat) [] a2) fun (y3:List Int)=>some ((a1,y0.1,y3,()),(0:Int),())
noncomputable def zFE:ElS [zQ,(.sl tI)]→Option (RTy.El (.tu [zR, .bool])):=fun x=>match x with|(a1,a2,())=>Option.bind (Option.bind (zEe (a1,())) fun (y1:Bool)=>bif !y1 then some true else some (decide ((↑(List.length a2):Int)>(2:Int)))) fun (s2:Bool)=>bif s2 then some ((([],()),([],[],()),[],()),false,()) else Option.bind (zFm (a1,a2,())) fun (y3:Ty.El zR×Int×Unit)=>some (y3.1,y3.2.1==(0:Int),())
noncomputable def qS:ElS [tI,tI,tI]→Option (RTy.El (.p .bool)):=fun x=>match x with|(a1,a2,a3,())=>Option.bind (bif decide (a2≤a1) then some (decide (a1≤a3)) else some false) fun (s0:Bool)=>some s0
noncomputable def wT:ElS [zB, .bool, .bool, .bool]→Option (RTy.El (.p .bool)):=fun x=>match x with|(a1,a2,a3,a4,())=>Option.bind (bif a2 then bif a3 then bif a4 then some true else some (a1.2.2.2.2.2.2.2.2.2.2.1==(0:Int)) else bif a1.2.2.2.2.2.2.2.1==(0:Int) then bif (↑(List.length a1.2.2.2.2.2.2.2.2.1):Int)==(0:Int) then bif a1.2.2.2.2.2.2.2.2.2.1==(0:Int) then bif a4 then some true else some (a1.2.2.2.2.2.2.2.2.2.2.1==(0:Int)) else some false else some false else some false else bif a1.2.2.2.2.2.1==(0:Int) then bif a3 then bif a4 then some true else some (a1.2.2.2.2.2.2.2.2.2.2.1==(0:Int)) else bif a1.2.2.2.2.2.2.2.1==(0:Int) then bif (↑(List.length a1.2.2.2.2.2.2.2.2.1):Int)==(0:Int) then bif a1.2.2.2.2.2.2.2.2.2.1==(0:Int) then bif a4 then some true else some (a1.2.2.2.2.2.2.2.2.2.2.1==(0:Int)) else some false else some false else some false else some false) fun (s0:Bool)=>some s0
noncomputable def zCz:ElS [qP,qP]→Option (RTy.El (.p .bool)):=fun x=>match x with|(a1,a2,())=>Option.bind (bif decide (a1.1<a2.1) then some true else bif a1.1==a2.1 then some (decide (a1.2.1<a2.2.1)) else some false) fun (s0:Bool)=>some s0
noncomputable def jV:ElS [(.sl qP), .bool]→Option (RTy.El (.p .bool)):=fun x=>match x with|(a1,a2,())=>q8 (zN (fun (s28:Int)=>bif decide (s28< (↑(List.length a1):Int)) then Option.bind (Option.bind (idx a1 s28) fun (y29:Ty.El qP)=>bif decide (y29.1< (0:Int)) then some true else bif decide (s28>(0:Int)) then Option.bind (idx a1 (IntKind.wrap IntKind.i64 (s28- (1:Int)))) fun (y30:Ty.El qP)=>Option.bind (idx a1 s28) fun (y31:Ty.El qP)=>Option.bind (zCz (y30,y31,())) fun (y32:Bool)=>bif !y32 then some true else Option.bind (idx a1 s28) fun (y33:Ty.El qP)=>some !(y33.2.1==(0:Int))==a2 else Option.bind (idx a1 s28) fun (y34:Ty.El qP)=>some !(y34.2.1==(0:Int))==a2) fun (s35:Bool)=>bif s35 then some (Sum.inr (Sum.inr false)) else some (Sum.inl (IntKind.wrap IntKind.i64 (s28+(1:Int)))) else some (Sum.inr (Sum.inl ()))) (0:Int)) fun (s36:Unit)=>some true
noncomputable def x6:ElS [zB]→Option (RTy.El (.p .bool)):=fun x=>match x with|(a1,())=>Option.bind (bif a1.2.2.1 !=(0:Int) then some true else bif a1.2.2.2.2.1 !=(0:Int) then some true else Option.bind (qS (a1.2.2.2.1,(1:Int),(255:Int),())) fun (y2:Bool)=>bif !y2 then some true else Option.bind (wT (a1,false,false,true,())) fun (y3:Bool)=>some !y3) fun (s4:Bool)=>bif s4 then some false else bif a1.2.2.2.2.2.2.2.2.2.2.1 !=(0:Int) then Option.bind (bif (↑(List.length a1.2.2.2.2.2.2.2.2.2.2.2.1):Int)==(0:Int) then some !a1.2.2.2.2.2.2.2.2.2.2.2.2.1 else some false) fun (s5:Bool)=>some s5 else bif a1.2.2.2.2.2.2.2.2.2.2.2.2.1 then some ((↑(List.length a1.2.2.2.2.2.2.2.2.2.2.2.1):Int)==(0:Int)) else Option.bind (bif (↑(List.length a1.2.2.2.2.2.2.2.2.2.2.2.1):Int)==(1:Int) then Option.bind (jV (a1.2.2.2.2.2.2.2.2.2.2.2.1,true,())) fun (y7:Bool)=>some y7 else some false) fun (s8:Bool)=>some s8
noncomputable def k7:ElS [zB]→Option (RTy.El (.p .bool)):=fun x=>match x with|(a1,())=>Option.bind (Option.bind (qS (a1.2.2.1,(1:Int),(4:Int),())) fun (y4:Bool)=>bif !y4 then some true else Option.bind (qS (a1.2.2.2.1,(1:Int),(255:Int),())) fun (y5:Bool)=>bif !y5 then some true else Option.bind (qS (a1.2.2.2.2.1,(0:Int),(1073741824:Int),())) fun (y6:Bool)=>bif !y6 then some true else Option.bind (wT (a1,true,false,false,())) fun (y7:Bool)=>some !y7) fun (s8:Bool)=>bif s8 then some false else Option.bind (Option.bind (qS (a1.2.2.2.2.2.1,(0:Int),(1073741824:Int),())) fun (y10:Bool)=>bif !y10 then some true else bif a1.2.2.1 !=(4:Int) then some (a1.2.2.2.2.2.1 !=(0:Int)) else some false) fun (s11:Bool)=>bif s11 then some false else bif a1.2.2.2.2.2.2.2.2.2.2.2.2.1 then Option.bind (bif a1.2.2.1==(1:Int) then bif a1.2.2.2.2.1==(0:Int) then bif a1.2.2.2.2.2.2.1==(0:Int) then some ((↑(List.length a1.2.2.2.2.2.2.2.2.2.2.2.1):Int)==(0:Int)) else some false else some false else some false) fun (s12:Bool)=>some s12 else Option.bind (bif decide ((↑(List.length a1.2.2.2.2.2.2.2.2.2.2.2.1):Int)>(0:Int)) then Option.bind (jV (a1.2.2.2.2.2.2.2.2.2.2.2.1,false,())) fun (y14:Bool)=>some y14 else some false) fun (s15:Bool)=>some s15
noncomputable def uW:ElS [zB]→Option (RTy.El (.p .bool)):=fun x=>match x with|(a1,())=>Option.bind (Option.bind (qS (a1.2.2.2.1,(1:Int),(255:Int),())) fun (y3:Bool)=>bif !y3 then some true else Option.bind (qS (a1.2.2.2.2.1,(1:Int),(15:Int),())) fun (y4:Bool)=>bif !y4 then some true else Option.bind (wT (a1,false,false,false,())) fun (y5:Bool)=>bif !y5 then some true else some a1.2.2.2.2.2.2.2.2.2.2.2.2.1) fun (s6:Bool)=>bif s6 then some false else bif a1.2.2.1==(1:Int) then Option.bind (bif a1.2.2.2.2.1==(1:Int) then bif a1.2.2.2.2.2.2.1==(0:Int) then bif (↑(List.length a1.2.2.2.2.2.2.2.2.2.2.2.1):Int)==(1:Int) then Option.bind (jV (a1.2.2.2.2.2.2.2.2.2.2.2.1,true,())) fun (y8:Bool)=>some y8 else some false else some false else some false) fun (s9:Bool)=>some s9 else bif a1.2.2.1==(2:Int) then some ((↑(List.length a1.2.2.2.2.2.2.2.2.2.2.2.1):Int)==(0:Int)) else bif a1.2.2.1==(3:Int) then Option.bind (bif decide ((↑(List.length a1.2.2.2.2.2.2.2.2.2.2.2.1):Int)>(0:Int)) then Option.bind (jV (a1.2.2.2.2.2.2.2.2.2.2.2.1,false,())) fun (y11:Bool)=>some y11 else some false) fun (s12:Bool)=>some s12 else some false
noncomputable def vN:ElS [zB]→Option (RTy.El (.p .bool)):=fun x=>match x with|(a1,())=>Option.bind (Option.bind (qS (a1.2.2.2.1,(1:Int),(255:Int),())) fun (y4:Bool)=>bif !y4 then some true else Option.bind (qS (a1.2.2.2.2.1,(0:Int),(16777215:Int),())) fun (y5:Bool)=>bif !y5 then some true else Option.bind (qS (a1.2.2.2.2.2.2.2.1,(0:Int),(1000000:Int),())) fun (y6:Bool)=>bif !y6 then some true else Option.bind (wT (a1,false,true,false,())) fun (y7:Bool)=>some !y7) fun (s8:Bool)=>bif s8 then some false else Option.bind (bif a1.2.2.1==(1:Int) then some (a1.2.2.1==(1:Int)) else some (a1.2.2.1==(2:Int))) fun (s9:Bool)=>bif s9 then Option.bind (bif (↑(List.length a1.2.2.2.2.2.2.2.2.1):Int)==(0:Int) then bif a1.2.2.2.2.2.2.2.2.2.1==(0:Int) then bif (↑(List.length a1.2.2.2.2.2.2.2.2.2.2.2.1):Int)==(0:Int) then some (a1.2.2.2.2.2.2.2.2.2.2.2.2.1==(a1.2.2.1==(2:Int))) else some false else some false else some false) fun (s10:Bool)=>some s10 else Option.bind (bif a1.2.2.1==(3:Int) then some (a1.2.2.1==(3:Int)) else some (a1.2.2.1==(4:Int))) fun (s11:Bool)=>bif s11 then Option.bind (bif a1.2.2.1==(4:Int) then bif a1.2.2.2.2.2.2.2.2.2.1 !=(0:Int) then bif (↑(List.length a1.2.2.2.2.2.2.2.2.2.2.2.1):Int)==(1:Int) then Option.bind (jV (a1.2.2.2.2.2.2.2.2.2.2.2.1,false,())) fun (y20:Bool)=>bif y20 then Option.bind (idx a1.2.2.2.2.2.2.2.2.2.2.2.1 (0:Int)) fun (y21:Ty.El qP)=>bif y21.2.1==a1.2.2.2.2.2.2.2.2.2.1 then some !a1.2.2.2.2.2.2.2.2.2.2.2.2.1 else some false else some false else some false else some false else bif decide ((↑(List.length a1.2.2.2.2.2.2.2.2.1):Int)>(0:Int)) then bif a1.2.2.2.2.2.2.2.2.2.1 !=(0:Int) then bif (↑(List.length a1.2.2.2.2.2.2.2.2.2.2.2.1):Int)==(1:Int) then Option.bind (jV (a1.2.2.2.2.2.2.2.2.2.2.2.1,false,())) fun (y22:Bool)=>bif y22 then Option.bind (idx a1.2.2.2.2.2.2.2.2.2.2.2.1 (0:Int)) fun (y23:Ty.El qP)=>bif y23.2.1==a1.2.2.2.2.2.2.2.2.2.1 then some !a1.2.2.2.2.2.2.2.2.2.2.2.2.1 else some false else some false else some false else some false else some false) fun (s24:Bool)=>some s24 else some false
noncomputable def jJ:ElS [zB]→Option (RTy.El (.p .bool)):=fun x=>match x with|(a1,())=>Option.bind (Option.bind (w4 (a1.1,())) fun (y2:Bool)=>bif !y2 then some true else Option.bind (qS (a1.2.2.2.2.2.2.1,(0:Int),(65535:Int),())) fun (y3:Bool)=>bif !y3 then some true else some (decide ((↑(List.length a1.2.2.2.2.2.2.2.2.1):Int)>(64:Int)))) fun (s4:Bool)=>bif s4 then some false else q8 (zN (fun (s11:Int)=>bif decide (s11< (↑(List.length a1.2.2.2.2.2.2.2.2.1):Int)) then Option.bind (idx a1.2.2.2.2.2.2.2.2.1 s11) fun (y12:Int)=>Option.bind (qS (y12,(1:Int),(65535:Int),())) fun (y13:Bool)=>bif !y13 then some (Sum.inr (Sum.inr false)) else some (Sum.inl (IntKind.wrap IntKind.i64 (s11+(1:Int)))) else some (Sum.inr (Sum.inl ()))) (0:Int)) fun (s14:Unit)=>bif a1.2.1==(1:Int) then Option.bind (bif a1.2.2.1==(0:Int) then bif a1.2.2.2.1==(0:Int) then bif a1.2.2.2.2.1==(0:Int) then bif a1.2.2.2.2.2.2.1==(0:Int) then Option.bind (wT (a1,false,false,false,())) fun (y17:Bool)=>bif y17 then bif !a1.2.2.2.2.2.2.2.2.2.2.2.2.1 then bif (↑(List.length a1.2.2.2.2.2.2.2.2.2.2.2.1):Int)==(1:Int) then Option.bind (jV (a1.2.2.2.2.2.2.2.2.2.2.2.1,true,())) fun (y18:Bool)=>some y18 else some false else some false else some false else some false else some false else some false else some false) fun (s19:Bool)=>some s19 else bif a1.2.1==(2:Int) then Option.bind (x6 (a1,())) fun (y20:Bool)=>some y20 else bif a1.2.1==(3:Int) then Option.bind (k7 (a1,())) fun (y21:Bool)=>some y21 else bif a1.2.1==(4:Int) then Option.bind (uW (a1,())) fun (y22:Bool)=>some y22 else bif a1.2.1==(5:Int) then Option.bind (vN (a1,())) fun (y23:Bool)=>some y23 else some false
noncomputable def v8:ElS [(.sl zB),tI]→Option (RTy.El (.p .bool)):=fun x=>match x with|(a1,a2,())=>q8 (zN (fun (s40:Int)=>bif decide (s40< (↑(List.length a1):Int)) then Option.bind (Option.bind (idx a1 s40) fun (y41:Ty.El zB)=>Option.bind (jJ (y41,())) fun (y42:Bool)=>bif !y42 then some true else bif a2 !=(0:Int) then Option.bind (idx a1 s40) fun (y43:Ty.El zB)=>bif y43.2.1 !=a2 then some true else bif decide (s40>(0:Int)) then Option.bind (idx a1 (IntKind.wrap IntKind.i64 (s40- (1:Int)))) fun (y44:Ty.El zB)=>Option.bind (idx a1 s40) fun (y45:Ty.El zB)=>Option.bind (vW (y44.1,y45.1,())) fun (y46:Int)=>some (decide (y46≥(0:Int))) else some false else bif decide (s40>(0:Int)) then Option.bind (idx a1 (IntKind.wrap IntKind.i64 (s40- (1:Int)))) fun (y47:Ty.El zB)=>Option.bind (idx a1 s40) fun (y48:Ty.El zB)=>Option.bind (vW (y47.1,y48.1,())) fun (y49:Int)=>some (decide (y49≥(0:Int))) else some false) fun (s50:Bool)=>bif s50 then some (Sum.inr (Sum.inr false)) else some (Sum.inl (IntKind.wrap IntKind.i64 (s40+(1:Int)))) else some (Sum.inr (Sum.inl ()))) (0:Int)) fun (s51:Unit)=>some true
noncomputable def zCv:ElS [tI]→Option (RTy.El (.p tI)):=fun x=>match x with|(a1,())=>some (if (if (32:Int)<a1 then (32:Int) else a1)>(0:Int) then if (32:Int)<a1 then (32:Int) else a1 else (0:Int))
noncomputable def zDt:ElS [tI]→Option (RTy.El (.p tU)):=fun x=>match x with|(a1,())=>Option.bind (zCv (a1,())) fun (y0:Int)=>bif decide ((0:Int)≤IntKind.wrap IntKind.i64 ((32:Int) -y0)) then some (IntKind.wrap IntKind.u32 ((4294967295:Int)*(2:Int)^min (Int.toNat (IntKind.wrap IntKind.i64 ((32:Int) -y0))) (IntKind.bits IntKind.u32))) else none
noncomputable def wN:ElS [zH,tU]→Option (RTy.El (.p .bool)):=fun x=>match x with|(a1,a2,())=>Option.bind (zDt (a1.2.1,())) fun (y1:Int)=>some (IntKind.wrap IntKind.u32 (↑(BitVec.toNat (BitVec.ofInt (IntKind.bits IntKind.u32) a2&&&BitVec.ofInt (IntKind.bits IntKind.u32) y1)):Int)==a1.1)
noncomputable def zA6:ElS [(.sl zB),zH,tU]→Option (RTy.El (.p tI)):=fun x=>match x with|(a1,a2,a3,())=>Option.bind (zN (fun (s36:Int×Int)=>bif decide (s36.1< (↑(List.length a1):Int)) then Option.bind (Option.bind (idx a1 s36.1) fun (y37:Ty.El zB)=>Option.bind (bif y37.1.1==a2.1&&(y37.1.2.1==a2.2.1&&true) then some true else Option.bind (wN (y37.1,a3,())) fun (y38:Bool)=>some !y38) fun (s39:Bool)=>bif s39 then some s36.2 else Option.bind (bif decide (s36.2< (0:Int)) then some true else Option.bind (idx a1 s36.2) fun (y40:Ty.El zB)=>some (decide (y37.1.2.1>y40.1.2.1))) fun (s41:Bool)=>bif s41 then some s36.1 else some s36.2) fun (s42:Int)=>some (Sum.inl (IntKind.wrap IntKind.i64 (s36.1+(1:Int)),s42)) else some (Sum.inr s36.2)) ((0:Int),(-1:Int))) fun (s43:Int)=>some s43
noncomputable def zBg:ElA [.d qG, .pp .str]→Option (RTy.El (.p .bool)):=fun x=>match x with|(a1,a2,())=>some (a1.1==a2)
noncomputable def wV:ElA [.d (.sl qG), .clo 63 [(true, .str)]]→Option (RTy.El (.p tI)):=fun x=>match x with|(a1,(a2,()),())=>q8 (zN (fun (s6:Int)=>bif decide (s6< (↑(List.length a1):Int)) then Option.bind (idx a1 s6) fun (y7:Ty.El qG)=>Option.bind (zBg (y7,a2,())) fun (y8:Bool)=>bif y8 then some (Sum.inr (Sum.inr s6)) else some (Sum.inl (IntKind.wrap IntKind.i64 (s6+(1:Int)))) else some (Sum.inr (Sum.inl ()))) (0:Int)) fun (s9:Unit)=>some (-1:Int)
noncomputable def zA9:ElS [zF, .str]→Option (RTy.El (.p tI)):=fun x=>match x with|(a1,a2,())=>Option.bind (wV (a1.2.2.1,(a2,()),())) fun (y0:Int)=>some y0
noncomputable def zAw:ElS [(.sl zO),zO]→Option (RTy.El (.p tI)):=fun x=>match x with|(a1,a2,())=>q8 (zN (fun (s5:Int)=>bif decide (s5< (↑(List.length a1):Int)) then Option.bind (idx a1 s5) fun (y6:Ty.El zO)=>bif a2.1==y6.1&&(a2.2.1==y6.2.1&&true) then some (Sum.inr (Sum.inr s5)) else some (Sum.inl (IntKind.wrap IntKind.i64 (s5+(1:Int)))) else some (Sum.inr (Sum.inl ()))) (0:Int)) fun (s7:Unit)=>some (-1:Int)
noncomputable def uV:ElS [(.sl zO),zO]→Option (RTy.El (.p .bool)):=fun x=>match x with|(a1,a2,())=>Option.bind (zAw (a1,a2,())) fun (y0:Int)=>some (decide (y0≥(0:Int)))
noncomputable def zBk:ElS [zR,tI,tI]→Option (RTy.El (.p tI)):=fun x=>match x with|(a1,a2,a3,())=>q8 (zN (fun (s9:Int)=>bif decide (s9< (↑(List.length a1.2.1.1):Int)) then Option.bind (idx a1.2.1.1 s9) fun (y10:Ty.El zAt)=>Option.bind (uV (y10.2.2.1,(a2,a3,()),())) fun (y11:Bool)=>bif y11 then some (Sum.inr (Sum.inr s9)) else some (Sum.inl (IntKind.wrap IntKind.i64 (s9+(1:Int)))) else some (Sum.inr (Sum.inl ()))) (0:Int)) fun (s12:Unit)=>some (-1:Int)
noncomputable def yC:ElS [(.sl tI),tI]→Option (RTy.El (.p tI)):=fun x=>match x with|(a1,a2,())=>q8 (zN (fun (s4:Int)=>bif decide (s4< (↑(List.length a1):Int)) then Option.bind (idx a1 s4) fun (y5:Int)=>bif a2==y5 then some (Sum.inr (Sum.inr s4)) else some (Sum.inl (IntKind.wrap IntKind.i64 (s4+(1:Int)))) else some (Sum.inr (Sum.inl ()))) (0:Int)) fun (s6:Unit)=>some (-1:Int)
noncomputable def zHs:ElS [zR,tI,tI]→Option (RTy.El (.p tI)):=fun x=>match x with|(a1,a2,a3,())=>Option.bind (zBk (a1,a2,a3,())) fun (y0:Int)=>bif decide (y0< (0:Int)) then some (-1:Int) else Option.bind (yC (a1.2.1.2.1,y0,())) fun (y1:Int)=>some y1
noncomputable def vR:ElS [(.sl tI),tI]→Option (RTy.El (.p .bool)):=fun x=>match x with|(a1,a2,())=>Option.bind (yC (a1,a2,())) fun (y0:Int)=>some (decide (y0≥(0:Int)))
noncomputable def zHr:ElS [zR,tI,tI]→Option (RTy.El (.p .bool)):=fun x=>match x with|(a1,a2,a3,())=>Option.bind (zBk (a1,a2,a3,())) fun (y0:Int)=>bif decide (y0< (0:Int)) then some false else Option.bind (zHs (a1,a2,a3,())) fun (y1:Int)=>Option.bind (bif decide (y1< (0:Int)) then some true else Option.bind (vR (a1.2.2.1,y1,())) fun (y3:Bool)=>some !y3) fun (s4:Bool)=>some s4
noncomputable def zCy:ElS [zR,(.sl zB),tI]→Option (RTy.El (.p (.sl zB))):=fun x=>match x with|(a1,a2,a3,())=>Option.bind (bif decide (a3< (0:Int)) then some true else some (decide (a3≥(↑(List.length a1.1.1):Int)))) fun (s0:Bool)=>bif s0 then some [] else Option.bind (idx a1.1.1 a3) fun (y1:Ty.El zF)=>Option.bind (zN (fun (s60:Int×List (Ty.El zB))=>bif decide (s60.1< (↑(List.length y1.2.2.2.2.2.2.2.1):Int)) then Option.bind (Option.bind (idx y1.2.2.2.2.2.2.2.1 s60.1) fun (y61:Ty.El zFd)=>q8 (bif y61.2.1 !=(0:Int) then Option.bind (zA6 (a2,y61.1,y61.2.1,())) fun (y62:Int)=>Option.bind (bif decide (y62< (0:Int)) then some (true,s60.2) else Option.bind (idx a2 y62) fun (y63:Ty.El zB)=>some (y63.2.2.2.2.2.2.2.2.2.2.2.2.1,s60.2)) fun (s64:Bool×List (Ty.El zB))=>bif s64.1 then some (Sum.inr s64.2) else some (Sum.inl (s64.2,y61.1,(2:Int),(0:Int),y61.2.2.2.2.1,(0:Int),(0:Int),y61.2.2.2.2.2.1,(0:Int),[],(0:Int),y61.2.1,[],false,())) else bif y61.2.2.1 != { data:= #[] } then Option.bind (zA9 (y1,y61.2.2.1,())) fun (y65:Int)=>Option.bind (zHr (a1,a3,y65,())) fun (y66:Bool)=>bif !y66 then some (Sum.inr s60.2) else some (Sum.inl (s60.2,y61.1,(2:Int),(0:Int),y61.2.2.2.2.1,(0:Int),(0:Int),y61.2.2.2.2.2.1,(0:Int),[],(0:Int),(0:Int),[(y65,(0:Int),())],false,())) else bif y61.2.2.2.1 then some (Sum.inl (s60.2,y61.1,(2:Int),(0:Int),y61.2.2.2.2.1,(0:Int),(0:Int),y61.2.2.2.2.2.1,(0:Int),[],(0:Int),(0:Int),[],true,())) else some (Sum.inr s60.2)) fun (s67:List (Ty.El zB)×Ty.El zB)=>Option.bind (app (136:Nat) s67.1 [s67.2]) fun (y68:List (Ty.El zB))=>some y68) fun (s69:List (Ty.El zB))=>some (Sum.inl (IntKind.wrap IntKind.i64 (s60.1+(1:Int)),s69)) else some (Sum.inr s60.2)) ((0:Int),[])) fun (s70:List (Ty.El zB))=>some s70
noncomputable def zDk:ElS [tU,tI]→Option (RTy.El (.p zH)):=fun x=>match x with|(a1,a2,())=>Option.bind (zDt (a2,())) fun (y0:Int)=>Option.bind (zCv (a2,())) fun (y1:Int)=>some (IntKind.wrap IntKind.u32 (↑(BitVec.toNat (BitVec.ofInt (IntKind.bits IntKind.u32) a1&&&BitVec.ofInt (IntKind.bits IntKind.u32) y0)):Int),y1,())
noncomputable def zAE:ElS [tU]→Option (RTy.El (.p .bool)):=fun x=>match x with|(a1,())=>some (a1 !=a1)
noncomputable def w6:ElS [tU,tU]→Option (RTy.El (.p tI)):=fun x=>match x with|(a1,a2,())=>Option.bind (zAE (a1,())) fun (y0:Bool)=>Option.bind (zAE (a2,())) fun (y1:Bool)=>bif y0 then bif y1 then some (0:Int) else some (-1:Int) else bif y1 then some (1:Int) else bif decide (a1<a2) then some (-1:Int) else bif decide (a1>a2) then some (1:Int) else some (0:Int)
noncomputable def zCC:ElS [tI]→Option (RTy.El (.p .bool)):=fun x=>match x with|(a1,())=>some (a1 !=a1)
noncomputable def qC:ElS [tI,tI]→Option (RTy.El (.p tI)):=fun x=>match x with|(a1,a2,())=>Option.bind (zCC (a1,())) fun (y0:Bool)=>Option.bind (zCC (a2,())) fun (y1:Bool)=>bif y0 then bif y1 then some (0:Int) else some (-1:Int) else bif y1 then some (1:Int) else bif decide (a1<a2) then some (-1:Int) else bif decide (a1>a2) then some (1:Int) else some (0:Int)
noncomputable def zB3:ElS [zH,zH]→Option (RTy.El (.p tI)):=fun x=>match x with|(a1,a2,())=>Option.bind (w6 (a1.1,a2.1,())) fun (y0:Int)=>bif y0 !=(0:Int) then some y0 else Option.bind (qC (a1.2.1,a2.2.1,())) fun (y1:Int)=>some y1
noncomputable def zK:ElS [zB,zB]→Option (RTy.El (.p tI)):=fun x=>match x with|(a1,a2,())=>Option.bind (zB3 (a1.1,a2.1,())) fun (y0:Int)=>some y0
noncomputable def qB:List (Ty.El zB)→ElA [.d tI, .d tI, .clo 26 []]→Option (List (Ty.El zB)×RTy.El (.tu [])):=fun a0 x=>match x with|(a1,a2,(),())=>zN (fun (s157:Int×List (Ty.El zB))=>bif decide (s157.1<a2) then Option.bind (zN (fun (s158:Int×List (Ty.El zB))=>Option.bind (bif decide (s158.1>a1) then Option.bind (idx s158.2 s158.1) fun (y159:Ty.El zB)=>Option.bind (atN s158.2 (Int.toNat s158.1)) fun (y160:Ty.El zB)=>Option.bind (idx s158.2 (IntKind.wrap IntKind.i64 (s158.1- (1:Int)))) fun (y161:Ty.El zB)=>Option.bind (atN s158.2 (Int.toNat (IntKind.wrap IntKind.i64 (s158.1- (1:Int))))) fun (y162:Ty.El zB)=>Option.bind (zK (y160,y162,())) fun (y163:Int)=>some (decide (y163< (0:Int)),s158.2) else some (false,s158.2)) fun (s164:Bool×List (Ty.El zB))=>bif s164.1 then Option.bind (idx s164.2 (IntKind.wrap IntKind.i64 (s158.1- (1:Int)))) fun (y165:Ty.El zB)=>Option.bind (atN s164.2 (Int.toNat (IntKind.wrap IntKind.i64 (s158.1- (1:Int))))) fun (y166:Ty.El zB)=>Option.bind (idx s164.2 s158.1) fun (y167:Ty.El zB)=>Option.bind (atN s164.2 (Int.toNat s158.1)) fun (y168:Ty.El zB)=>Option.bind (idx s164.2 s158.1) fun (y169:Ty.El zB)=>Option.bind (atN s164.2 (Int.toNat s158.1)) fun (y170:Ty.El zB)=>Option.bind (idx (List.set s164.2 (Int.toNat s158.1) y166) (IntKind.wrap IntKind.i64 (s158.1- (1:Int)))) fun (y171:Ty.El zB)=>Option.bind (atN (List.set s164.2 (Int.toNat s158.1) y166) (Int.toNat (IntKind.wrap IntKind.i64 (s158.1- (1:Int))))) fun (y172:Ty.El zB)=>some (Sum.inl (IntKind.wrap IntKind.i64 (s158.1- (1:Int)),List.set (List.set s164.2 (Int.toNat s158.1) y166) (Int.toNat (IntKind.wrap IntKind.i64 (s158.1- (1:Int)))) y168)) else some (Sum.inr s164.2)) s157) fun (s173:List (Ty.El zB))=>some (Sum.inl (IntKind.wrap IntKind.i64 (s157.1+(1:Int)),s173)) else Option.map (fun (r:List (Ty.El zB)×Unit)=>Sum.inr r) (bif Nat.beq (List.length s157.2) (List.length a0) then some (s157.2,()) else none)) (IntKind.wrap IntKind.i64 (a1+(1:Int)),a0)
noncomputable def qI:List (Ty.El zB)→ElA [.d tI, .d tI, .d tI, .clo 26 []]→Option (List (Ty.El zB)×RTy.El (.tu [])):=fun a0 x=>match x with|(a1,a2,a3,(),())=>zN (fun (s17:Int×List (Ty.El zB))=>bif decide (s17.1<a3) then Option.bind (idx s17.2 (IntKind.wrap IntKind.i64 (a2+s17.1))) fun (y18:Ty.El zB)=>Option.bind (atN s17.2 (Int.toNat (IntKind.wrap IntKind.i64 (a2+s17.1)))) fun (y19:Ty.El zB)=>Option.bind (idx s17.2 (IntKind.wrap IntKind.i64 (a1+s17.1))) fun (y20:Ty.El zB)=>Option.bind (atN s17.2 (Int.toNat (IntKind.wrap IntKind.i64 (a1+s17.1)))) fun (y21:Ty.El zB)=>Option.bind (idx s17.2 (IntKind.wrap IntKind.i64 (a1+s17.1))) fun (y22:Ty.El zB)=>Option.bind (atN s17.2 (Int.toNat (IntKind.wrap IntKind.i64 (a1+s17.1)))) fun (y23:Ty.El zB)=>Option.bind (idx (List.set s17.2 (Int.toNat (IntKind.wrap IntKind.i64 (a1+s17.1))) y19) (IntKind.wrap IntKind.i64 (a2+s17.1))) fun (y24:Ty.El zB)=>Option.bind (atN (List.set s17.2 (Int.toNat (IntKind.wrap IntKind.i64 (a1+s17.1))) y19) (Int.toNat (IntKind.wrap IntKind.i64 (a2+s17.1)))) fun (y25:Ty.El zB)=>some (Sum.inl (IntKind.wrap IntKind.i64 (s17.1+(1:Int)),List.set (List.set s17.2 (Int.toNat (IntKind.wrap IntKind.i64 (a1+s17.1))) y19) (Int.toNat (IntKind.wrap IntKind.i64 (a2+s17.1))) y21)) else Option.map (fun (r:List (Ty.El zB)×Unit)=>Sum.inr r) (bif Nat.beq (List.length s17.2) (List.length a0) then some (s17.2,()) else none)) ((0:Int),a0)
noncomputable def jR:List (Ty.El zB)→ElA [.d tI, .d tI, .d tI, .clo 26 []]→Option (List (Ty.El zB)×RTy.El (.tu [])):=fun a0 x=>match x with|(a1,a2,a3,(),())=>Option.bind (zN (fun (s6:Int×Int×List (Ty.El zB))=>bif s6.1 !=s6.2.1 then bif decide (s6.1>s6.2.1) then bif Nat.beq (List.length s6.2.2) (List.length s6.2.2) then Option.bind (qI s6.2.2 (IntKind.wrap IntKind.i64 (a2-s6.1),a2,s6.2.1,(),())) fun (y7:List (Ty.El zB)×Unit)=>some (Sum.inl (IntKind.wrap IntKind.i64 (s6.1-s6.2.1),s6.2.1,y7.1)) else none else bif Nat.beq (List.length s6.2.2) (List.length s6.2.2) then Option.bind (qI s6.2.2 (IntKind.wrap IntKind.i64 (a2-s6.1),IntKind.wrap IntKind.i64 (IntKind.wrap IntKind.i64 (a2+s6.2.1) -s6.1),s6.1,(),())) fun (y8:List (Ty.El zB)×Unit)=>some (Sum.inl (s6.1,IntKind.wrap IntKind.i64 (s6.2.1-s6.1),y8.1)) else none else some (Sum.inr (s6.2.2,s6.1))) (IntKind.wrap IntKind.i64 (a2-a1),IntKind.wrap IntKind.i64 (a3-a2),a0)) fun (s9:List (Ty.El zB)×Int)=>bif Nat.beq (List.length s9.1) (List.length s9.1) then Option.bind (qI s9.1 (IntKind.wrap IntKind.i64 (a2-s9.2),a2,s9.2,(),())) fun (y10:List (Ty.El zB)×Unit)=>bif Nat.beq (List.length y10.1) (List.length a0) then some (y10.1,()) else none else none
noncomputable def yA (slices_symMergeCmpFunc_Route_self:List (Ty.El zB)→ElA [.d tI, .d tI, .d tI, .clo 26 []]→Option (List (Ty.El zB)×RTy.El (.tu []))):List (Ty.El zB)→ElA [.d tI, .d tI, .d tI, .clo 26 []]→Option (List (Ty.El zB)×RTy.El (.tu [])):=fun a0 x=>match x with|(a1,a2,a3,(),())=>q8 (bif IntKind.wrap IntKind.i64 (a2-a1)==(1:Int) then Option.bind (zN (fun (s50:Int×Int×List (Ty.El zB))=>bif decide (s50.1<s50.2.1) then Option.bind (idx s50.2.2 (IntKind.wrap IntKind.i64 (Int.fdiv (IntKind.wrap IntKind.u64 (IntKind.wrap IntKind.i64 (s50.1+s50.2.1))) ((2:Int)^min (Int.toNat (1:Int)) (IntKind.bits IntKind.u64))))) fun (y51:Ty.El zB)=>Option.bind (atN s50.2.2 (Int.toNat (IntKind.wrap IntKind.i64 (Int.fdiv (IntKind.wrap IntKind.u64 (IntKind.wrap IntKind.i64 (s50.1+s50.2.1))) ((2:Int)^min (Int.toNat (1:Int)) (IntKind.bits IntKind.u64)))))) fun (y52:Ty.El zB)=>Option.bind (idx s50.2.2 a1) fun (y53:Ty.El zB)=>Option.bind (atN s50.2.2 (Int.toNat a1)) fun (y54:Ty.El zB)=>Option.bind (zK (y52,y54,())) fun (y55:Int)=>bif decide (y55< (0:Int)) then some (Sum.inl (IntKind.wrap IntKind.i64 (IntKind.wrap IntKind.i64 (Int.fdiv (IntKind.wrap IntKind.u64 (IntKind.wrap IntKind.i64 (s50.1+s50.2.1))) ((2:Int)^min (Int.toNat (1:Int)) (IntKind.bits IntKind.u64)))+(1:Int)),s50.2)) else some (Sum.inl (s50.1,IntKind.wrap IntKind.i64 (Int.fdiv (IntKind.wrap IntKind.u64 (IntKind.wrap IntKind.i64 (s50.1+s50.2.1))) ((2:Int)^min (Int.toNat (1:Int)) (IntKind.bits IntKind.u64))),s50.2.2)) else some (Sum.inr (s50.1,s50.2.2))) (a2,a3,a0)) fun (s56:Int×List (Ty.El zB))=>zN (fun (s57:Int×List (Ty.El zB))=>bif decide (s57.1<IntKind.wrap IntKind.i64 (s56.1- (1:Int))) then Option.bind (idx s57.2 (IntKind.wrap IntKind.i64 (s57.1+(1:Int)))) fun (y58:Ty.El zB)=>Option.bind (atN s57.2 (Int.toNat (IntKind.wrap IntKind.i64 (s57.1+(1:Int))))) fun (y59:Ty.El zB)=>Option.bind (idx s57.2 s57.1) fun (y60:Ty.El zB)=>Option.bind (atN s57.2 (Int.toNat s57.1)) fun (y61:Ty.El zB)=>Option.bind (idx s57.2 s57.1) fun (y62:Ty.El zB)=>Option.bind (atN s57.2 (Int.toNat s57.1)) fun (y63:Ty.El zB)=>Option.bind (idx (List.set s57.2 (Int.toNat s57.1) y59) (IntKind.wrap IntKind.i64 (s57.1+(1:Int)))) fun (y64:Ty.El zB)=>Option.bind (atN (List.set s57.2 (Int.toNat s57.1) y59) (Int.toNat (IntKind.wrap IntKind.i64 (s57.1+(1:Int))))) fun (y65:Ty.El zB)=>some (Sum.inl (IntKind.wrap IntKind.i64 (s57.1+(1:Int)),List.set (List.set s57.2 (Int.toNat s57.1) y59) (Int.toNat (IntKind.wrap IntKind.i64 (s57.1+(1:Int)))) y61)) else Option.map (fun (r:List (Ty.El zB) ⊕ List (Ty.El zB)×Unit)=>Sum.inr r) (Option.map (fun (r:List (Ty.El zB)×Unit)=>Sum.inr r) (bif Nat.beq (List.length s57.2) (List.length a0) then some (s57.2,()) else none))) (a1,s56.2) else some (Sum.inl a0)) fun (s66:List (Ty.El zB))=>q8 (bif IntKind.wrap IntKind.i64 (a3-a2)==(1:Int) then Option.bind (zN (fun (s117:Int×Int×List (Ty.El zB))=>bif decide (s117.1<s117.2.1) then Option.bind (idx s117.2.2 a2) fun (y118:Ty.El zB)=>Option.bind (atN s117.2.2 (Int.toNat a2)) fun (y119:Ty.El zB)=>Option.bind (idx s117.2.2 (IntKind.wrap IntKind.i64 (Int.fdiv (IntKind.wrap IntKind.u64 (IntKind.wrap IntKind.i64 (s117.1+s117.2.1))) ((2:Int)^min (Int.toNat (1:Int)) (IntKind.bits IntKind.u64))))) fun (y120:Ty.El zB)=>Option.bind (atN s117.2.2 (Int.toNat (IntKind.wrap IntKind.i64 (Int.fdiv (IntKind.wrap IntKind.u64 (IntKind.wrap IntKind.i64 (s117.1+s117.2.1))) ((2:Int)^min (Int.toNat (1:Int)) (IntKind.bits IntKind.u64)))))) fun (y121:Ty.El zB)=>Option.bind (zK (y119,y121,())) fun (y122:Int)=>bif !decide (y122< (0:Int)) then some (Sum.inl (IntKind.wrap IntKind.i64 (IntKind.wrap IntKind.i64 (Int.fdiv (IntKind.wrap IntKind.u64 (IntKind.wrap IntKind.i64 (s117.1+s117.2.1))) ((2:Int)^min (Int.toNat (1:Int)) (IntKind.bits IntKind.u64)))+(1:Int)),s117.2)) else some (Sum.inl (s117.1,IntKind.wrap IntKind.i64 (Int.fdiv (IntKind.wrap IntKind.u64 (IntKind.wrap IntKind.i64 (s117.1+s117.2.1))) ((2:Int)^min (Int.toNat (1:Int)) (IntKind.bits IntKind.u64))),s117.2.2)) else some (Sum.inr (s117.1,s117.2.2))) (a1,a2,s66)) fun (s123:Int×List (Ty.El zB))=>zN (fun (s124:Int×List (Ty.El zB))=>bif decide (s124.1>s123.1) then Option.bind (idx s124.2 (IntKind.wrap IntKind.i64 (s124.1- (1:Int)))) fun (y125:Ty.El zB)=>Option.bind (atN s124.2 (Int.toNat (IntKind.wrap IntKind.i64 (s124.1- (1:Int))))) fun (y126:Ty.El zB)=>Option.bind (idx s124.2 s124.1) fun (y127:Ty.El zB)=>Option.bind (atN s124.2 (Int.toNat s124.1)) fun (y128:Ty.El zB)=>Option.bind (idx s124.2 s124.1) fun (y129:Ty.El zB)=>Option.bind (atN s124.2 (Int.toNat s124.1)) fun (y130:Ty.El zB)=>Option.bind (idx (List.set s124.2 (Int.toNat s124.1) y126) (IntKind.wrap IntKind.i64 (s124.1- (1:Int)))) fun (y131:Ty.El zB)=>Option.bind (atN (List.set s124.2 (Int.toNat s124.1) y126) (Int.toNat (IntKind.wrap IntKind.i64 (s124.1- (1:Int))))) fun (y132:Ty.El zB)=>some (Sum.inl (IntKind.wrap IntKind.i64 (s124.1- (1:Int)),List.set (List.set s124.2 (Int.toNat s124.1) y126) (Int.toNat (IntKind.wrap IntKind.i64 (s124.1- (1:Int)))) y128)) else Option.map (fun (r:List (Ty.El zB) ⊕ List (Ty.El zB)×Unit)=>Sum.inr r) (Option.map (fun (r:List (Ty.El zB)×Unit)=>Sum.inr r) (bif Nat.beq (List.length s124.2) (List.length a0) then some (s124.2,()) else none))) (a2,s123.2) else some (Sum.inl s66)) fun (s133:List (Ty.El zB))=>Option.bind (bif decide (a2>IntKind.wrap IntKind.i64 (Int.fdiv (IntKind.wrap IntKind.u64 (IntKind.wrap IntKind.i64 (a1+a3))) ((2:Int)^min (Int.toNat (1:Int)) (IntKind.bits IntKind.u64)))) then some (IntKind.wrap IntKind.i64 (IntKind.wrap IntKind.i64 (IntKind.wrap IntKind.i64 (Int.fdiv (IntKind.wrap IntKind.u64 (IntKind.wrap IntKind.i64 (a1+a3))) ((2:Int)^min (Int.toNat (1:Int)) (IntKind.bits IntKind.u64)))+a2) -a3),IntKind.wrap IntKind.i64 (Int.fdiv (IntKind.wrap IntKind.u64 (IntKind.wrap IntKind.i64 (a1+a3))) ((2:Int)^min (Int.toNat (1:Int)) (IntKind.bits IntKind.u64))),s133) else some (a1,a2,s133)) fun (s134:Int×Int×List (Ty.El zB))=>Option.bind (zN (fun (s152:Int×Int×List (Ty.El zB))=>bif decide (s152.1<s152.2.1) then Option.bind (idx s152.2.2 (IntKind.wrap IntKind.i64 (IntKind.wrap IntKind.i64 (IntKind.wrap IntKind.i64 (IntKind.wrap IntKind.i64 (Int.fdiv (IntKind.wrap IntKind.u64 (IntKind.wrap IntKind.i64 (a1+a3))) ((2:Int)^min (Int.toNat (1:Int)) (IntKind.bits IntKind.u64)))+a2) - (1:Int)) -IntKind.wrap IntKind.i64 (Int.fdiv (IntKind.wrap IntKind.u64 (IntKind.wrap IntKind.i64 (s152.1+s152.2.1))) ((2:Int)^min (Int.toNat (1:Int)) (IntKind.bits IntKind.u64)))))) fun (y153:Ty.El zB)=>Option.bind (atN s152.2.2 (Int.toNat (IntKind.wrap IntKind.i64 (IntKind.wrap IntKind.i64 (IntKind.wrap IntKind.i64 (IntKind.wrap IntKind.i64 (Int.fdiv (IntKind.wrap IntKind.u64 (IntKind.wrap IntKind.i64 (a1+a3))) ((2:Int)^min (Int.toNat (1:Int)) (IntKind.bits IntKind.u64)))+a2) - (1:Int)) -IntKind.wrap IntKind.i64 (Int.fdiv (IntKind.wrap IntKind.u64 (IntKind.wrap IntKind.i64 (s152.1+s152.2.1))) ((2:Int)^min (Int.toNat (1:Int)) (IntKind.bits IntKind.u64))))))) fun (y154:Ty.El zB)=>Option.bind (idx s152.2.2 (IntKind.wrap IntKind.i64 (Int.fdiv (IntKind.wrap IntKind.u64 (IntKind.wrap IntKind.i64 (s152.1+s152.2.1))) ((2:Int)^min (Int.toNat (1:Int)) (IntKind.bits IntKind.u64))))) fun (y155:Ty.El zB)=>Option.bind (atN s152.2.2 (Int.toNat (IntKind.wrap IntKind.i64 (Int.fdiv (IntKind.wrap IntKind.u64 (IntKind.wrap IntKind.i64 (s152.1+s152.2.1))) ((2:Int)^min (Int.toNat (1:Int)) (IntKind.bits IntKind.u64)))))) fun (y156:Ty.El zB)=>Option.bind (zK (y154,y156,())) fun (y157:Int)=>bif !decide (y157< (0:Int)) then some (Sum.inl (IntKind.wrap IntKind.i64 (IntKind.wrap IntKind.i64 (Int.fdiv (IntKind.wrap IntKind.u64 (IntKind.wrap IntKind.i64 (s152.1+s152.2.1))) ((2:Int)^min (Int.toNat (1:Int)) (IntKind.bits IntKind.u64)))+(1:Int)),s152.2)) else some (Sum.inl (s152.1,IntKind.wrap IntKind.i64 (Int.fdiv (IntKind.wrap IntKind.u64 (IntKind.wrap IntKind.i64 (s152.1+s152.2.1))) ((2:Int)^min (Int.toNat (1:Int)) (IntKind.bits IntKind.u64))),s152.2.2)) else some (Sum.inr (s152.1,s152.2.2))) s134) fun (s158:Int×List (Ty.El zB))=>Option.bind (Option.bind (bif decide (s158.1<a2) then some (decide (a2<IntKind.wrap IntKind.i64 (IntKind.wrap IntKind.i64 (IntKind.wrap IntKind.i64 (Int.fdiv (IntKind.wrap IntKind.u64 (IntKind.wrap IntKind.i64 (a1+a3))) ((2:Int)^min (Int.toNat (1:Int)) (IntKind.bits IntKind.u64)))+a2) -s158.1)),s158.2) else some (false,s158.2)) fun (s161:Bool×List (Ty.El zB))=>bif s161.1 then bif Nat.beq (List.length s161.2) (List.length s161.2) then Option.bind (jR s161.2 (s158.1,a2,IntKind.wrap IntKind.i64 (IntKind.wrap IntKind.i64 (IntKind.wrap IntKind.i64 (Int.fdiv (IntKind.wrap IntKind.u64 (IntKind.wrap IntKind.i64 (a1+a3))) ((2:Int)^min (Int.toNat (1:Int)) (IntKind.bits IntKind.u64)))+a2) -s158.1),(),())) fun (y162:List (Ty.El zB)×Unit)=>some y162.1 else none else some s161.2) fun (s163:List (Ty.El zB))=>Option.bind (Option.bind (bif decide (a1<s158.1) then some (decide (s158.1<IntKind.wrap IntKind.i64 (Int.fdiv (IntKind.wrap IntKind.u64 (IntKind.wrap IntKind.i64 (a1+a3))) ((2:Int)^min (Int.toNat (1:Int)) (IntKind.bits IntKind.u64)))),s163) else some (false,s163)) fun (s166:Bool×List (Ty.El zB))=>bif s166.1 then bif Nat.beq (List.length s166.2) (List.length s166.2) then Option.bind (slices_symMergeCmpFunc_Route_self s166.2 (a1,s158.1,IntKind.wrap IntKind.i64 (Int.fdiv (IntKind.wrap IntKind.u64 (IntKind.wrap IntKind.i64 (a1+a3))) ((2:Int)^min (Int.toNat (1:Int)) (IntKind.bits IntKind.u64))),(),())) fun (y167:List (Ty.El zB)×Unit)=>some y167.1 else none else some s166.2) fun (s168:List (Ty.El zB))=>Option.bind (bif decide (IntKind.wrap IntKind.i64 (Int.fdiv (IntKind.wrap IntKind.u64 (IntKind.wrap IntKind.i64 (a1+a3))) ((2:Int)^min (Int.toNat (1:Int)) (IntKind.bits IntKind.u64)))<IntKind.wrap IntKind.i64 (IntKind.wrap IntKind.i64 (IntKind.wrap IntKind.i64 (Int.fdiv (IntKind.wrap IntKind.u64 (IntKind.wrap IntKind.i64 (a1+a3))) ((2:Int)^min (Int.toNat (1:Int)) (IntKind.bits IntKind.u64)))+a2) -s158.1)) then some (decide (IntKind.wrap IntKind.i64 (IntKind.wrap IntKind.i64 (IntKind.wrap IntKind.i64 (Int.fdiv (IntKind.wrap IntKind.u64 (IntKind.wrap IntKind.i64 (a1+a3))) ((2:Int)^min (Int.toNat (1:Int)) (IntKind.bits IntKind.u64)))+a2) -s158.1)<a3),s168) else some (false,s168)) fun (s169:Bool×List (Ty.El zB))=>bif s169.1 then bif Nat.beq (List.length s169.2) (List.length s169.2) then Option.bind (slices_symMergeCmpFunc_Route_self s169.2 (IntKind.wrap IntKind.i64 (Int.fdiv (IntKind.wrap IntKind.u64 (IntKind.wrap IntKind.i64 (a1+a3))) ((2:Int)^min (Int.toNat (1:Int)) (IntKind.bits IntKind.u64))),IntKind.wrap IntKind.i64 (IntKind.wrap IntKind.i64 (IntKind.wrap IntKind.i64 (Int.fdiv (IntKind.wrap IntKind.u64 (IntKind.wrap IntKind.i64 (a1+a3))) ((2:Int)^min (Int.toNat (1:Int)) (IntKind.bits IntKind.u64)))+a2) -s158.1),a3,(),())) fun (y170:List (Ty.El zB)×Unit)=>bif Nat.beq (List.length y170.1) (List.length a0) then some (y170.1,()) else none else none else bif Nat.beq (List.length s169.2) (List.length a0) then some (s169.2,()) else none
noncomputable def qA:Nat→(List (Ty.El zB)→ElA [.d tI, .d tI, .d tI, .clo 26 []]→Option (List (Ty.El zB)×RTy.El (.tu [])))|0=>fun _ _=>none|n+1=>yA (qA n)
noncomputable def qK:List (Ty.El zB)→ElA [.d tI, .d tI, .d tI, .clo 26 []]→Option (List (Ty.El zB)×RTy.El (.tu [])):=qA 1048576
noncomputable def qQ:List (Ty.El zB)→ElA [.d tI, .clo 26 []]→Option (List (Ty.El zB)×RTy.El (.tu [])):=fun a0 x=>match x with|(a1,(),())=>Option.bind (zN (fun (s4:Int×List (Ty.El zB)×Int)=>bif decide (s4.1≤a1) then bif Nat.beq (List.length s4.2.1) (List.length s4.2.1) then Option.bind (qB s4.2.1 (s4.2.2,s4.1,(),())) fun (y5:List (Ty.El zB)×Unit)=>some (Sum.inl (IntKind.wrap IntKind.i64 (s4.1+(20:Int)),y5.1,s4.1)) else none else some (Sum.inr s4.2)) ((20:Int),a0,(0:Int))) fun (s6:List (Ty.El zB)×Int)=>bif Nat.beq (List.length s6.1) (List.length s6.1) then Option.bind (qB s6.1 (s6.2,a1,(),())) fun (y7:List (Ty.El zB)×Unit)=>zN (fun (s30:Int×List (Ty.El zB))=>bif decide (s30.1<a1) then Option.bind (zN (fun (s31:Int×List (Ty.El zB)×Int)=>bif decide (s31.1≤a1) then bif Nat.beq (List.length s31.2.1) (List.length s31.2.1) then Option.bind (qK s31.2.1 (s31.2.2,IntKind.wrap IntKind.i64 (s31.2.2+s30.1),s31.1,(),())) fun (y32:List (Ty.El zB)×Unit)=>some (Sum.inl (IntKind.wrap IntKind.i64 (s31.1+IntKind.wrap IntKind.i64 ((2:Int)*s30.1)),y32.1,s31.1)) else none else some (Sum.inr (s31.2.2,s31.2.1))) (IntKind.wrap IntKind.i64 ((2:Int)*s30.1),s30.2,(0:Int))) fun (s33:Int×List (Ty.El zB))=>Option.bind (bif decide (IntKind.wrap IntKind.i64 (s33.1+s30.1)<a1) then bif Nat.beq (List.length s33.2) (List.length s33.2) then Option.bind (qK s33.2 (s33.1,IntKind.wrap IntKind.i64 (s33.1+s30.1),a1,(),())) fun (y34:List (Ty.El zB)×Unit)=>some y34.1 else none else some s33.2) fun (s35:List (Ty.El zB))=>some (Sum.inl (IntKind.wrap IntKind.i64 (s30.1*(2:Int)),s35)) else Option.map (fun (r:List (Ty.El zB)×Unit)=>Sum.inr r) (bif Nat.beq (List.length s30.2) (List.length a0) then some (s30.2,()) else none)) ((20:Int),y7.1) else none
noncomputable def qU:List (Ty.El zB)→ElA [.clo 26 []]→Option (List (Ty.El zB)×RTy.El (.tu [])):=fun a0 x=>match x with|((),())=>bif Nat.beq (List.length a0) (List.length a0)&&Nat.beq (List.length a0) (List.length a0) then Option.bind (qQ a0 ((↑(List.length a0):Int),(),())) fun (y0:List (Ty.El zB)×Unit)=>bif Nat.beq (List.length y0.1) (List.length a0) then some (y0.1,()) else none else none
end Go.Ve

namespace Go.Ve
open Go
set_option maxRecDepth 1000000
noncomputable def zN5:ElS []→Option (RTy.El (.p .bool)):=fun x=>match x with|()=>some true
noncomputable def zBz:ElS [zR,tI,tI]→Option (RTy.El (.p (.sl zO))):=fun x=>match x with|(a1,a2,a3,())=>Option.bind (zHr (a1,a2,a3,())) fun (y0:Bool)=>bif !y0 then some [] else Option.bind (Option.bind (zBk (a1,a2,a3,())) fun (y18:Int)=>Option.bind (idx a1.2.1.1 y18) fun (y19:Ty.El zAt)=>zN (fun (s20:Int×List (Ty.El zO))=>bif decide (s20.1< (↑(List.length y19.2.2.1):Int)) then Option.bind (Option.bind (idx y19.2.2.1 s20.1) fun (y21:Ty.El zO)=>Option.bind (bif y21.1 !=a2 then some (true,s20.2) else some (y21.2.1 !=a3,s20.2)) fun (s22:Bool×List (Ty.El zO))=>bif s22.1 then Option.bind (app (16:Nat) s22.2 [y21]) fun (y23:List (Ty.El zO))=>some y23 else some s22.2) fun (s24:List (Ty.El zO))=>some (Sum.inl (IntKind.wrap IntKind.i64 (s20.1+(1:Int)),s24)) else some (Sum.inr s20.2)) ((0:Int),[])) fun (s25:List (Ty.El zO))=>some s25
noncomputable def zAQ:ElA [.d vC, .pp .str]→Option (RTy.El (.p .bool)):=fun x=>match x with|(a1,a2,())=>some (a1.1==a2)
noncomputable def wZ:ElA [.d (.sl vC), .clo 178 [(true, .str)]]→Option (RTy.El (.p tI)):=fun x=>match x with|(a1,(a2,()),())=>q8 (zN (fun (s6:Int)=>bif decide (s6< (↑(List.length a1):Int)) then Option.bind (idx a1 s6) fun (y7:Ty.El vC)=>Option.bind (zAQ (y7,a2,())) fun (y8:Bool)=>bif y8 then some (Sum.inr (Sum.inr s6)) else some (Sum.inl (IntKind.wrap IntKind.i64 (s6+(1:Int)))) else some (Sum.inr (Sum.inl ()))) (0:Int)) fun (s9:Unit)=>some (-1:Int)
noncomputable def zAA:ElS [zF, .str]→Option (RTy.El (.p tI)):=fun x=>match x with|(a1,a2,())=>Option.bind (wZ (a1.2.2.2.1,(a2,()),())) fun (y0:Int)=>some y0
noncomputable def zBs:ElS [zH,zH]→Option (RTy.El (.p .bool)):=fun x=>match x with|(a1,a2,())=>Option.bind (bif decide (a1.2.1≤a2.2.1) then Option.bind (wN (a1,a2.1,())) fun (y1:Bool)=>some y1 else some false) fun (s2:Bool)=>some s2
noncomputable def zAh:ElS [zCW,zH]→Option (RTy.El (.p .bool)):=fun x=>match x with|(a1,a2,())=>Option.bind (Option.bind (zBs (a1.2.1,a2,())) fun (y1:Bool)=>bif y1 then bif decide (a1.2.2.1≤a2.2.1) then some (decide (a2.2.1≤a1.2.2.2.1)) else some false else some false) fun (s2:Bool)=>some s2
noncomputable def zDf:ElS [vC,zH]→Option (RTy.El (.p tI)):=fun x=>match x with|(a1,a2,())=>q8 (zN (fun (s6:Int)=>bif decide (s6< (↑(List.length a1.2.1):Int)) then Option.bind (idx a1.2.1 s6) fun (y7:Ty.El zCW)=>Option.bind (zAh (y7,a2,())) fun (y8:Bool)=>bif y8 then some (Sum.inr (Sum.inr s6)) else some (Sum.inl (IntKind.wrap IntKind.i64 (s6+(1:Int)))) else some (Sum.inr (Sum.inl ()))) (0:Int)) fun (s9:Unit)=>some (-1:Int)
noncomputable def zBL:ElS [zF, .str,zH]→Option (RTy.El (.p .bool)):=fun x=>match x with|(a1,a2,a3,())=>bif a2== { data:= #[] } then some true else Option.bind (zAA (a1,a2,())) fun (y0:Int)=>bif decide (y0< (0:Int)) then some false else Option.bind (idx a1.2.2.2.1 y0) fun (y3:Ty.El vC)=>Option.bind (zDf (y3,a3,())) fun (y4:Int)=>Option.bind (bif decide (y4≥(0:Int)) then Option.bind (idx a1.2.2.2.1 y0) fun (y7:Ty.El vC)=>Option.bind (idx y7.2.1 y4) fun (y8:Ty.El zCW)=>some y8.1 else some false) fun (s9:Bool)=>some s9
noncomputable def zFn:ElS [(.sl zB),zH]→Option (RTy.El (.p tI)):=fun x=>match x with|(a1,a2,())=>q8 (zN (fun (s5:Int)=>bif decide (s5< (↑(List.length a1):Int)) then Option.bind (idx a1 s5) fun (y6:Ty.El zB)=>bif y6.1.1==a2.1&&(y6.1.2.1==a2.2.1&&true) then some (Sum.inr (Sum.inr s5)) else some (Sum.inl (IntKind.wrap IntKind.i64 (s5+(1:Int)))) else some (Sum.inr (Sum.inl ()))) (0:Int)) fun (s7:Unit)=>some (-1:Int)
noncomputable def jC:ElS [zR,tI,tI]→Option (RTy.El (.tu [qG, .bool])):=fun x=>match x with|(a1,a2,a3,())=>Option.bind (bif decide (a2< (0:Int)) then some true else bif decide (a2≥(↑(List.length a1.1.1):Int)) then some true else bif decide (a3< (0:Int)) then some true else Option.bind (idx a1.1.1 a2) fun (y1:Ty.El zF)=>some (decide (a3≥(↑(List.length y1.2.2.1):Int)))) fun (s2:Bool)=>bif s2 then some (({ data:= #[] },(0:Int),(0:Int),(0:Int),false,false,(0:Int),(0:Int),false, { data:= #[] }, { data:= #[] },(0:Int),()),false,()) else Option.bind (idx a1.1.1 a2) fun (y3:Ty.El zF)=>Option.bind (idx y3.2.2.1 a3) fun (y4:Ty.El qG)=>some (y4,true,())
noncomputable def jN:ElS [zH,zH]→Option (RTy.El (.p .bool)):=fun x=>match x with|(a1,a2,())=>Option.bind (bif decide (a1.2.1>a2.2.1) then Option.bind (zBs (a2,a1,())) fun (y1:Bool)=>some y1 else some false) fun (s2:Bool)=>some s2
noncomputable def k9:ElS [zF,zH]→Option (RTy.El (.p .bool)):=fun x=>match x with|(a1,a2,())=>q8 (zN (fun (s9:Int)=>bif decide (s9< (↑(List.length a1.2.2.2.2.2.2.2.2.2.2.1.2.2.2.2.2.1):Int)) then Option.bind (idx a1.2.2.2.2.2.2.2.2.2.2.1.2.2.2.2.2.1 s9) fun (y10:Ty.El jQ)=>Option.bind (bif y10.2.1 then Option.bind (jN (a2,y10.1,())) fun (y11:Bool)=>some y11 else some false) fun (s12:Bool)=>bif s12 then some (Sum.inr (Sum.inr true)) else some (Sum.inl (IntKind.wrap IntKind.i64 (s9+(1:Int)))) else some (Sum.inr (Sum.inl ()))) (0:Int)) fun (s13:Unit)=>some false
noncomputable def kP:ElS [(.sl z6)]→Option (RTy.El (.p (.sl z6))):=fun x=>match x with|(a1,())=>Option.bind (app (48:Nat) [] a1) fun (z:List (Ty.El z6))=>some z
noncomputable def jZ:ElS [zF,tU]→Option (RTy.El (.tu [z6, .bool])):=fun x=>match x with|(a1,a2,())=>q8 (Option.bind (kP (a1.2.2.2.2.2.2.2.2.2.2.1.2.2.2.1,())) fun (y5:List (Ty.El z6))=>zN (fun (s6:Int×Ty.El z6)=>bif decide (s6.1< (↑(List.length y5):Int)) then Option.bind (idx y5 s6.1) fun (y7:Ty.El z6)=>bif y7.1==a2 then some (Sum.inr (Sum.inr (y7,true,()))) else some (Sum.inl (IntKind.wrap IntKind.i64 (s6.1+(1:Int)),s6.2)) else some (Sum.inr (Sum.inl s6.2))) ((0:Int),(0:Int),(0:Int), { data:= #[] }, { data:= #[] },())) fun (s8:Ty.El z6)=>some (((0:Int),(0:Int), { data:= #[] }, { data:= #[] },()),false,())
noncomputable def jT:ElS [(.sl tI)]→Option (RTy.El (.p (.sl tI))):=fun x=>match x with|(a1,())=>Option.bind (app (8:Nat) [] a1) fun (z:List (Ty.El tI))=>some z
noncomputable def zAx:ElS [(.sl qP)]→Option (RTy.El (.p (.sl qP))):=fun x=>match x with|(a1,())=>Option.bind (app (16:Nat) [] a1) fun (z:List (Ty.El qP))=>some z
noncomputable def zBT:ElA [.d yW, .pp .str]→Option (RTy.El (.p .bool)):=fun x=>match x with|(a1,a2,())=>some (a1.1==a2)
noncomputable def vL:ElA [.d (.sl yW), .clo 201 [(true, .str)]]→Option (RTy.El (.p tI)):=fun x=>match x with|(a1,(a2,()),())=>q8 (zN (fun (s6:Int)=>bif decide (s6< (↑(List.length a1):Int)) then Option.bind (idx a1 s6) fun (y7:Ty.El yW)=>Option.bind (zBT (y7,a2,())) fun (y8:Bool)=>bif y8 then some (Sum.inr (Sum.inr s6)) else some (Sum.inl (IntKind.wrap IntKind.i64 (s6+(1:Int)))) else some (Sum.inr (Sum.inl ()))) (0:Int)) fun (s9:Unit)=>some (-1:Int)
noncomputable def yN:ElS [zF, .str]→Option (RTy.El (.p tI)):=fun x=>match x with|(a1,a2,())=>Option.bind (vL (a1.2.2.2.2.1,(a2,()),())) fun (y0:Int)=>some y0
noncomputable def zAY:ElS [zF, .str,zB]→Option (RTy.El (.p tI)):=fun x=>match x with|(a1,a2,a3,())=>Option.bind (yN (a1,a2,())) fun (y0:Int)=>bif decide (y0< (0:Int)) then some (-1:Int) else q8 (Option.bind (idx a1.2.2.2.2.1 y0) fun (y11:Ty.El yW)=>zN (fun (s12:Int)=>bif decide (s12< (↑(List.length y11.2.1):Int)) then Option.bind (idx y11.2.1 s12) fun (y13:Ty.El kN)=>Option.bind (Option.bind (zBL (a1,y13.2.1,a3.1,())) fun (y14:Bool)=>bif y14 then bif y13.2.2.1==(-1:Int) then some true else some (y13.2.2.1==a3.2.2.2.2.2.2.1) else some false) fun (s15:Bool)=>bif s15 then some (Sum.inr (Sum.inr s12)) else some (Sum.inl (IntKind.wrap IntKind.i64 (s12+(1:Int)))) else some (Sum.inr (Sum.inl ()))) (0:Int)) fun (s16:Unit)=>some (-1:Int)
noncomputable def k8:ElS [zF, .str,zB]→Option (RTy.El (.tu [kN, .bool])):=fun x=>match x with|(a1,a2,a3,())=>Option.bind (zAY (a1,a2,a3,())) fun (y0:Int)=>bif decide (y0< (0:Int)) then some ((false, { data:= #[] },(0:Int),(0:Int),(0:Int),(0:Int),(0:Int),()),false,()) else Option.bind (yN (a1,a2,())) fun (y4:Int)=>Option.bind (idx a1.2.2.2.2.1 y4) fun (y5:Ty.El yW)=>Option.bind (idx y5.2.1 y0) fun (y6:Ty.El kN)=>some (y6,y6.1,())
noncomputable def zBM:ElS [zF, .str,zB]→Option (RTy.El (.tu [zB, .bool])):=fun x=>match x with|(a1,a2,a3,())=>Option.bind (jT (a3.2.2.2.2.2.2.2.2.1,())) fun (y0:List Int)=>Option.bind (zAx (a3.2.2.2.2.2.2.2.2.2.2.2.1,())) fun (y1:List (Ty.El qP))=>bif a2== { data:= #[] } then some ((a3.1,a3.2.1,a3.2.2.1,a3.2.2.2.1,a3.2.2.2.2.1,a3.2.2.2.2.2.1,a3.2.2.2.2.2.2.1,a3.2.2.2.2.2.2.2.1,y0,a3.2.2.2.2.2.2.2.2.2.1,a3.2.2.2.2.2.2.2.2.2.2.1,y1,a3.2.2.2.2.2.2.2.2.2.2.2.2),true,()) else Option.bind (k8 (a1,a2,(a3.1,a3.2.1,a3.2.2.1,a3.2.2.2.1,a3.2.2.2.2.1,a3.2.2.2.2.2.1,a3.2.2.2.2.2.2.1,a3.2.2.2.2.2.2.2.1,y0,a3.2.2.2.2.2.2.2.2.2.1,a3.2.2.2.2.2.2.2.2.2.2.1,y1,a3.2.2.2.2.2.2.2.2.2.2.2.2),())) fun (y2:Ty.El kN×Bool×Unit)=>bif !y2.2.1 then some ((((0:Int),(0:Int),()),(0:Int),(0:Int),(0:Int),(0:Int),(0:Int),(0:Int),(0:Int),[],(0:Int),(0:Int),[],false,()),false,()) else Option.bind (bif y2.1.2.2.2.1 !=(-1:Int) then some (a3.1,a3.2.1,a3.2.2.1,a3.2.2.2.1,y2.1.2.2.2.1,a3.2.2.2.2.2.1,a3.2.2.2.2.2.2.1,a3.2.2.2.2.2.2.2.1,y0,a3.2.2.2.2.2.2.2.2.2.1,a3.2.2.2.2.2.2.2.2.2.2.1,y1,a3.2.2.2.2.2.2.2.2.2.2.2.2) else some (a3.1,a3.2.1,a3.2.2.1,a3.2.2.2.1,a3.2.2.2.2.1,a3.2.2.2.2.2.1,a3.2.2.2.2.2.2.1,a3.2.2.2.2.2.2.2.1,y0,a3.2.2.2.2.2.2.2.2.2.1,a3.2.2.2.2.2.2.2.2.2.2.1,y1,a3.2.2.2.2.2.2.2.2.2.2.2.2)) fun (s3:Ty.El zB)=>Option.bind (bif y2.1.2.2.2.2.1 !=(-1:Int) then some (s3.1,s3.2.1,s3.2.2.1,s3.2.2.2.1,s3.2.2.2.2.1,s3.2.2.2.2.2.1,y2.1.2.2.2.2.1,s3.2.2.2.2.2.2.2) else some s3) fun (s4:Ty.El zB)=>Option.bind (bif y2.1.2.2.2.2.2.1 !=(-1:Int) then some (s4.1,s4.2.1,s4.2.2.1,s4.2.2.2.1,s4.2.2.2.2.1,s4.2.2.2.2.2.1,s4.2.2.2.2.2.2.1,y2.1.2.2.2.2.2.1,s4.2.2.2.2.2.2.2.2) else some s4) fun (s5:Ty.El zB)=>some (s5,true,())
noncomputable def zBK:ElS [zF, .str,zB]→Option (RTy.El (.p tI)):=fun x=>match x with|(a1,a2,a3,())=>Option.bind (k8 (a1,a2,a3,())) fun (y0:Ty.El kN×Bool×Unit)=>bif !y0.2.1 then some (0:Int) else some y0.1.2.2.2.2.2.2.1
noncomputable def x8:ElS [zR,zW,zB]→Option (RTy.El (.tu [zB, .bool])):=fun x=>match x with|(a1,a2,a3,())=>Option.bind (jC (a1,a2.2.2.1,a2.2.2.2.1,())) fun (y0:Ty.El qG×Bool×Unit)=>Option.bind (bif !y0.2.1 then some true else bif decide (a2.1< (0:Int)) then some true else some (decide (a2.1≥(↑(List.length a1.1.1):Int)))) fun (s1:Bool)=>bif s1 then some ((((0:Int),(0:Int),()),(0:Int),(0:Int),(0:Int),(0:Int),(0:Int),(0:Int),(0:Int),[],(0:Int),(0:Int),[],false,()),false,()) else Option.bind (idx a1.1.1 a2.1) fun (y2:Ty.El zF)=>Option.bind (bif a3.2.2.1==(4:Int) then bif a2.2.2.2.2.1 then some true else Option.bind (k9 (y2,a3.1,())) fun (y5:Bool)=>some y5 else Option.bind (k9 (y2,a3.1,())) fun (y6:Bool)=>some y6) fun (s7:Bool)=>bif s7 then some ((((0:Int),(0:Int),()),(0:Int),(0:Int),(0:Int),(0:Int),(0:Int),(0:Int),(0:Int),[],(0:Int),(0:Int),[],false,()),false,()) else Option.bind (jZ (y2,y0.1.2.1,())) fun (y8:Ty.El z6×Bool×Unit)=>bif !y8.2.1 then some ((((0:Int),(0:Int),()),(0:Int),(0:Int),(0:Int),(0:Int),(0:Int),(0:Int),(0:Int),[],(0:Int),(0:Int),[],false,()),false,()) else Option.bind (bif !a2.2.2.2.2.1 then some (a3.1,a3.2.1,a3.2.2.1,a3.2.2.2.1,(0:Int),a3.2.2.2.2.2) else some a3) fun (s9:Ty.El zB)=>Option.bind (zBM (y2,y8.1.2.2.2.1,s9,())) fun (y10:Ty.El zB×Bool×Unit)=>bif !y10.2.1 then some ((((0:Int),(0:Int),()),(0:Int),(0:Int),(0:Int),(0:Int),(0:Int),(0:Int),(0:Int),[],(0:Int),(0:Int),[],false,()),false,()) else bif a2.2.2.2.2.1 then Option.bind (jT (s9.2.2.2.2.2.2.2.2.1,())) fun (y11:List Int)=>some ((s9.1,(5:Int),(0:Int),(0:Int),y10.1.2.2.2.2.1,(0:Int),y10.1.2.2.2.2.2.2.1,y10.1.2.2.2.2.2.2.2.1,y11,(0:Int),(0:Int),[],false,()),true,()) else Option.bind (zBK (y2,y8.1.2.2.2.1,s9,())) fun (y12:Int)=>bif decide (IntKind.wrap IntKind.i64 (IntKind.wrap IntKind.i64 ((1:Int)+y12)+(↑(List.length s9.2.2.2.2.2.2.2.2.1):Int))>(64:Int)) then some ((((0:Int),(0:Int),()),(0:Int),(0:Int),(0:Int),(0:Int),(0:Int),(0:Int),(0:Int),[],(0:Int),(0:Int),[],false,()),false,()) else Option.bind (zN (fun (s19:Int×Int×Int×Int×Int×Int×Int×Int×Int×Int×List Int×Int×Int×List (Ty.El qP)×Bool)=>bif decide (s19.1<IntKind.wrap IntKind.i64 ((1:Int)+y12)) then Option.bind (app (8:Nat) s19.2.2.2.2.2.2.2.2.2.2.1 [y2.2.1]) fun (y20:List Int)=>some (Sum.inl (IntKind.wrap IntKind.i64 (s19.1+(1:Int)),s19.2.1,s19.2.2.1,s19.2.2.2.1,s19.2.2.2.2.1,s19.2.2.2.2.2.1,s19.2.2.2.2.2.2.1,s19.2.2.2.2.2.2.2.1,s19.2.2.2.2.2.2.2.2.1,s19.2.2.2.2.2.2.2.2.2.1,y20,s19.2.2.2.2.2.2.2.2.2.2.2)) else some (Sum.inr s19.2)) ((0:Int),s9.1.1,s9.1.2.1,(5:Int),(0:Int),(0:Int),y10.1.2.2.2.2.1,(0:Int),y10.1.2.2.2.2.2.2.1,(0:Int),[],(0:Int),(0:Int),[],false)) fun (s21:Int×Int×Int×Int×Int×Int×Int×Int×Int×List Int×Int×Int×List (Ty.El qP)×Bool)=>Option.bind (app (8:Nat) s21.2.2.2.2.2.2.2.2.2.1 s9.2.2.2.2.2.2.2.2.1) fun (y22:List Int)=>some (((s21.1,s21.2.1,()),s21.2.2.1,s21.2.2.2.1,s21.2.2.2.2.1,s21.2.2.2.2.2.1,s21.2.2.2.2.2.2.1,s21.2.2.2.2.2.2.2.1,(100:Int),y22,s21.2.2.2.2.2.2.2.2.2.2.1,s21.2.2.2.2.2.2.2.2.2.2.2.1,s21.2.2.2.2.2.2.2.2.2.2.2.2.1,s21.2.2.2.2.2.2.2.2.2.2.2.2.2,()),true,())
noncomputable def x7:ElS [zR,zW,zB]→Option (RTy.El (.tu [zB, .bool])):=fun x=>match x with|(a1,a2,a3,())=>Option.bind (jC (a1,a2.1,a2.2.1,())) fun (y0:Ty.El qG×Bool×Unit)=>Option.bind (bif !y0.2.1 then some true else bif decide (a2.2.2.1< (0:Int)) then some true else some (decide (a2.2.2.1≥(↑(List.length a1.1.1):Int)))) fun (s1:Bool)=>bif s1 then some ((((0:Int),(0:Int),()),(0:Int),(0:Int),(0:Int),(0:Int),(0:Int),(0:Int),(0:Int),[],(0:Int),(0:Int),[],false,()),false,()) else Option.bind (idx a1.1.1 a2.2.2.1) fun (y2:Ty.El zF)=>Option.bind (vR (a3.2.2.2.2.2.2.2.2.1,y2.2.1,())) fun (y3:Bool)=>bif y3 then some ((((0:Int),(0:Int),()),(0:Int),(0:Int),(0:Int),(0:Int),(0:Int),(0:Int),(0:Int),[],(0:Int),(0:Int),[],false,()),false,()) else Option.bind (jZ (y2,y0.1.2.1,())) fun (y4:Ty.El z6×Bool×Unit)=>bif !y4.2.1 then some ((((0:Int),(0:Int),()),(0:Int),(0:Int),(0:Int),(0:Int),(0:Int),(0:Int),(0:Int),[],(0:Int),(0:Int),[],false,()),false,()) else Option.bind (zBM (y2,y4.1.2.2.1,a3,())) fun (y5:Ty.El zB×Bool×Unit)=>bif !y5.2.1 then some ((((0:Int),(0:Int),()),(0:Int),(0:Int),(0:Int),(0:Int),(0:Int),(0:Int),(0:Int),[],(0:Int),(0:Int),[],false,()),false,()) else Option.bind (jT (a3.2.2.2.2.2.2.2.2.1,())) fun (y7:List Int)=>Option.bind (bif a2.2.2.2.2.1 then some (a3.1,(5:Int),(4:Int),y2.2.2.2.2.2.2.2.2.2.2.1.2.2.1,y5.1.2.2.2.2.1,(0:Int),y5.1.2.2.2.2.2.2.1,y5.1.2.2.2.2.2.2.2.1,y7,y0.1.2.1,(0:Int),[(a2.2.2.2.1,y0.1.2.1,())],false,()) else some (a3.1,(5:Int),(3:Int),y2.2.2.2.2.2.2.2.2.2.2.1.2.1,y5.1.2.2.2.2.1,(0:Int),y5.1.2.2.2.2.2.2.1,y5.1.2.2.2.2.2.2.2.1,y7,y0.1.2.1,(0:Int),[(a2.2.2.2.1,y0.1.2.1,())],false,())) fun (s8:Ty.El zB)=>some (s8,true,())
noncomputable def yJ:ElS [zF,tU,tI]→Option (RTy.El (.p .bool)):=fun x=>match x with|(a1,a2,a3,())=>Option.bind (jZ (a1,a2,())) fun (y0:Ty.El z6×Bool×Unit)=>Option.bind (bif y0.2.1 then some (y0.1.2.1==a3) else some false) fun (s1:Bool)=>some s1
noncomputable def wF:ElS [zR,tI,tI]→Option (RTy.El (.p (.sl zW))):=fun x=>match x with|(a1,a2,a3,())=>Option.bind (idx a1.1.1 a2) fun (y0:Ty.El zF)=>Option.bind (jC (a1,a2,a3,())) fun (y1:Ty.El qG×Bool×Unit)=>bif !y0.2.2.2.2.2.2.2.2.2.2.1.1 then some [] else Option.bind (Option.bind (zBz (a1,a2,a3,())) fun (y30:List (Ty.El zO))=>zN (fun (s31:Int×List (Ty.El zW))=>bif decide (s31.1< (↑(List.length y30):Int)) then Option.bind (Option.bind (idx y30 s31.1) fun (y32:Ty.El zO)=>Option.bind (jC (a1,y32.1,y32.2.1,())) fun (y33:Ty.El qG×Bool×Unit)=>bif !y33.2.1 then some s31.2 else Option.bind (idx a1.1.1 y32.1) fun (y34:Ty.El zF)=>Option.bind (bif y34.2.2.2.2.2.2.2.2.2.2.1.1 then Option.bind (yJ (y0,y33.1.2.1,y34.2.1,())) fun (y35:Bool)=>bif y35 then Option.bind (yJ (y34,y1.1.2.1,y0.2.1,())) fun (y36:Bool)=>some (y36,s31.2) else some (false,s31.2) else some (false,s31.2)) fun (s37:Bool×List (Ty.El zW))=>bif s37.1 then Option.bind (app (40:Nat) s37.2 [(y32.1,y32.2.1,a2,a3,y34.2.1==y0.2.1,())]) fun (y38:List (Ty.El zW))=>some y38 else some s37.2) fun (s39:List (Ty.El zW))=>some (Sum.inl (IntKind.wrap IntKind.i64 (s31.1+(1:Int)),s39)) else some (Sum.inr s31.2)) ((0:Int),[])) fun (s40:List (Ty.El zW))=>some s40
noncomputable def uZ:ElS [zR]→Option (RTy.El (.p (.sl zW))):=fun x=>match x with|(a1,())=>Option.bind (zN (fun (s19:Int×List (Ty.El zW))=>bif decide (s19.1< (↑(List.length a1.1.1):Int)) then Option.bind (Option.bind (idx a1.1.1 s19.1) fun (y20:Ty.El zF)=>zN (fun (s21:Int×List (Ty.El zW))=>bif decide (s21.1< (↑(List.length y20.2.2.1):Int)) then Option.bind (wF (a1,s19.1,s21.1,())) fun (y22:List (Ty.El zW))=>Option.bind (app (40:Nat) s21.2 y22) fun (y23:List (Ty.El zW))=>some (Sum.inl (IntKind.wrap IntKind.i64 (s21.1+(1:Int)),y23)) else some (Sum.inr s21.2)) ((0:Int),s19.2)) fun (s24:List (Ty.El zW))=>some (Sum.inl (IntKind.wrap IntKind.i64 (s19.1+(1:Int)),s24)) else some (Sum.inr s19.2)) ((0:Int),[])) fun (s25:List (Ty.El zW))=>some s25
end Go.Ve
