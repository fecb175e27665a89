/-
  Functions out of code, part 7: slices that go by a number: a state of lists; append.
  Functions out of code, part 8: contracts over a state of lists; from such a state to none, and from none to any.
  Functions out of code, part 9: a function with a state of lists of its own is a function without.
  Functions out of code: views, tables, static routes.
-/
import Derived.Test.YtcnlcmbchljpgaaGreatPx10
set_option linter.unusedVariables false
namespace Go.Ve
open Go
abbrev HSt (t:Ty):=List (Option (List t.El))
structure zVE (t:Ty) (st:HSt t) (F:Blk→Prop) (O:Nat→Prop) (w:World) (hb hc:Nat→Nat):Prop where
 hdl: ∀id xs,st[id]? =some (some xs)→ ∀a n c,F (.h id a n c)↔(a=some ⟨hb id,0,none⟩∧n=xs.length∧c=hc id)
 out: ∀id,st.length≤id→ ∀a n c, ¬F (.h id a n c)
 row: ∀id xs,st[id]? =some (some xs)→xs≠[]∧O (hb id)∧qC w (fun _=>False) (hb id) t.size (hc id) (xs.map t.enc)
 dist: ∀id id' xs xs',st[id]? =some (some xs)→st[id']? =some (some xs')→hb id=hb id'→id=id'
 own: ∀b,O b→ ∃id xs,st[id]? =some (some xs)∧hb id=b
theorem qC.same {w w':World} {F:Blk→Prop} {b k cap:Nat} {es:List V} (h:qC w (fun _=>False) b k cap es) (hw:w'.heap[b]? =w.heap[b]?):qC w' F b k cap es:=by
 obtain ⟨c,et,h1,h2,h3,h4,h5⟩:=h
 exact ⟨c,et,hw.trans h1,h2,h3,h4,fun i j e d x a1 a2 a3=>(h5 i j e d x a1 a2 a3).mono (fun _ h=>h.elim) (fun _ h=>h.elim)⟩
def wC (t:Ty):Sig where
 St:=HSt t
 R:=fun st F O w=> ∃hb hc,zVE t st F O w hb hc
 mono:=by
  rintro s F F' O w w' ⟨hb,hc,h⟩ hF hO
  refine ⟨hb,hc,?_,?_,?_,h.dist,h.own⟩
  ·intro id xs hx a n c;rw [hF];exact h.hdl id xs hx a n c
  ·intro id hx a n c hh;exact h.out id hx a n c ((hF id a n c).1 hh)
  ·intro id xs hx
   obtain ⟨h1,h2,h3⟩:=h.row id xs hx
   exact ⟨h1,h2,h3.same (hO _ h2)⟩
 inb:=by
  rintro s F O w ⟨hb,hc,h⟩ b hO
  obtain ⟨id,xs,h1,rfl⟩:=h.own b hO
  obtain ⟨_,_,c,et,h3,_⟩:=h.row id xs h1
  exact (Array.getElem?_eq_some_iff.1 h3).1
def zQb {t:Ty} (bytes:Nat) (st:HSt t) (q:Option (Nat×Nat)) (ys:List t.El):Option (HSt t×Option (Nat×Nat)):=
 match ys with
 |[]=>none
 |y::r=>match q with
  |none=>if (2*(y::r).length+1024)*bytes≤140737488355328 then some (st++[some (y::r)],some (st.length,(y::r).length)) else none
  |some (id,_)=>match st[id]? with
   |some (some xs)=>if (2*(xs.length+(y::r).length)+1024)*bytes≤140737488355328 then some (st.set id none++[some (xs++y::r)],some (st.length,(xs++y::r).length)) else none
   |_=>none
theorem zDH {t:Ty} (h:t.flat=true) {x:t.El} {d:V} (hd:d∈(t.enc x).cells) {w w':World} {F F':Blk→Prop} {v:Value} (hr:Rd w F v d):Rd w' F' v d:=by
 rw [qW] at hd
 have:=zAZ (zQR t x h d hd)
 rw [this] at hr ⊢
 rw [Rd.eq_val hr]
 exact .val _
theorem zXX {t:Ty} (h:t.flat=true) {w:World} {F F':Blk→Prop} {b k cap:Nat} {xs:List t.El} (hr:qC w F b k cap (xs.map t.enc)):qC w F' b k cap (xs.map t.enc):=by
 obtain ⟨c,et,h1,h2,h3,h4,h5⟩:=hr
 refine ⟨c,et,h1,h2,h3,h4,fun i j e d x a1 a2 a3=> ?_⟩
 simp only [List.getElem?_map,Option.map_eq_some_iff] at a1
 obtain ⟨y,hy,rfl⟩:=a1
 exact zDH h (List.mem_of_getElem? a2) (h5 i j (t.enc y) d x (by simp [hy]) a2 a3)
theorem jA {α:Type} {st:List (Option α)} {id j:Nat} {z:α} {xs:α} (h:(st.set id none++[some z])[j]? =some (some xs)):(j=st.length∧xs=z)∨(j≠id∧j<st.length∧st[j]? =some (some xs)):=by
 by_cases hj:j<st.length
 ·rw [List.getElem?_append_left (by simpa using hj)] at h
  by_cases hid:id=j
  ·subst hid;rw [List.getElem?_set_self hj] at h;cases h
  ·rw [List.getElem?_set_ne hid] at h;exact .inr ⟨Ne.symm hid,hj,h⟩
 ·rw [List.getElem?_append_right (by simp;omega)] at h
  simp only [List.length_set] at h
  have h0:j-st.length=0:=by
   rcases Nat.eq_zero_or_pos (j-st.length) with h0|h0
   ·exact h0
   ·rw [List.getElem?_eq_none (by simp;omega)] at h;cases h
  rw [h0] at h
  simp at h
  exact .inl ⟨by omega,h.symm⟩
section
variable {t:Ty} {P:Program}
theorem zI5 (hfl:t.flat=true) {st:HSt t} {F:Blk→Prop} {O:Nat→Prop} {w w':World} {hb hc:Nat→Nat} (h:zVE t st F O w hb hc) (hF: ∀b:Nat,F b→b<w.heap.size∧ ¬O b)
  {id:Nat} {zs:List t.El} (hz:zs≠[]) {blk cap:Nat} {O':Nat→Prop} (hk:zC9 O w w') (hO1: ∀b,O' b↔(b=blk∨(O b∧ ∀xs,st[id]? =some (some xs)→b≠hb id)))
  (hblk:O blk∨w.heap.size≤blk) (hblt:blk<w'.heap.size) (hrow:qC w' F blk t.size cap (zs.map t.enc))
  (hold: ∀j xs,j≠id→st[j]? =some (some xs)→hb j≠blk∧w'.heap[hb j]? =w.heap[hb j]?) (hid:id<st.length→ ∃xs,st[id]? =some (some xs)):
  zVB (wC t) w F O (.slice (some ⟨blk,0,none⟩) zs.length cap) w' (st.set id none++[some zs]) (.rf (some (st.length,zs.length))):=by
 let F':Blk→Prop:=fun b=>F b∨b= .h st.length (some ⟨blk,0,none⟩) zs.length cap
 have hOO: ∀b,O' b→O b∨w.heap.size≤b:=fun b hb0=>by
  rcases (hO1 b).1 hb0 with rfl|h1
  ·exact hblk
  ·exact .inl h1.1
 refine ⟨F',O',⟨fun j=>if j=st.length then blk else hb j,fun j=>if j=st.length then cap else hc j,?_,?_,?_,?_,?_⟩,hk,hOO,fun b hb=> .inl hb,?_, .rf _ _ _ _ (.inr rfl)⟩
 ·intro j xs hj a n c
  rcases jA hj with ⟨rfl,rfl⟩|⟨hne,hlt,hj⟩
  ·simp only [if_true,F']
   constructor
   ·rintro (hh|hh)
    ·exact absurd hh (h.out _ (Nat.le_refl _) _ _ _)
    ·cases hh;exact ⟨rfl,rfl,rfl⟩
   ·rintro ⟨rfl,rfl,rfl⟩;exact .inr rfl
  ·have hne':j≠st.length:=by omega
   simp only [if_neg hne',F']
   rw [←h.hdl j xs hj]
   constructor
   ·rintro (hh|hh)
    ·exact hh
    ·cases hh;exact absurd rfl hne'
   ·exact .inl
 ·intro j hj a n c
  simp only [List.length_append,List.length_set,List.length_singleton] at hj
  rintro (hh|hh)
  ·exact h.out j (by omega) _ _ _ hh
  ·cases hh;omega
 ·intro j xs hj
  rcases jA hj with ⟨rfl,rfl⟩|⟨hne,hlt,hj⟩
  ·simp only [if_true]
   exact ⟨hz,(hO1 _).2 (.inl rfl),zXX hfl hrow⟩
  ·have hne':j≠st.length:=by omega
   simp only [if_neg hne']
   obtain ⟨h1,h2,h3⟩:=h.row j xs hj
   refine ⟨h1,(hO1 _).2 (.inr ⟨h2,fun ys hy hh=>hne (h.dist j id xs ys hj hy hh)⟩),h3.same (hold j xs hne hj).2⟩
 ·intro j j' xs xs' hj hj' hh
  rcases jA hj with ⟨rfl,rfl⟩|⟨hne,hlt,hj1⟩<;>rcases jA hj' with ⟨rfl,rfl⟩|⟨hne',hlt',hj1'⟩
  ·rfl
  ·have h1:j'≠st.length:=by omega
   simp only [if_true,if_neg h1] at hh
   exact absurd hh.symm (hold j' xs' hne' hj1').1
  ·have h1:j≠st.length:=by omega
   simp only [if_true,if_neg h1] at hh
   exact absurd hh (hold j xs hne hj1).1
  ·have h1:j≠st.length:=by omega
   have h2:j'≠st.length:=by omega
   simp only [if_neg h1,if_neg h2] at hh
   exact h.dist j j' xs xs' hj1 hj1' hh
 ·intro b hb0
  rcases (hO1 b).1 hb0 with rfl|⟨h1,h2⟩
  ·refine ⟨st.length,zs,?_,by simp⟩
   rw [List.getElem?_append_right (by simp)];simp
  ·obtain ⟨j,xs,hj,rfl⟩:=h.own b h1
   have hlt:=(List.getElem?_eq_some_iff.1 hj).1
   have hji:j≠id:=by
    rintro rfl
    exact h2 xs hj rfl
   refine ⟨j,xs,?_,by simp [show j≠st.length by omega]⟩
   rw [List.getElem?_append_left (by simpa using hlt),List.getElem?_set_ne (Ne.symm hji)]
   exact hj
 ·intro b hb0
  rcases hb0 with hb0|hb0
  ·obtain ⟨h1,h2⟩:=hF b hb0
   refine ⟨.inl hb0,Nat.lt_of_lt_of_le h1 hk.size,fun ho=> ?_⟩
   rcases hOO b ho with ho|ho
   ·exact h2 ho
   ·omega
  ·cases hb0
theorem qAe (hfl:t.flat=true) {bytes:Nat} {st st':HSt t} {q q':Option (Nat×Nat)} {ys:List t.El} (h:zQb bytes st q ys=some (st',q')):
  zZs (wC t) P st (.rf q) t ys bytes st' (.rf q'):=by
 intro ts ty t0 t1 el el1 info z w F O v0 v1 hts0 hts1 hu0 hu1 hinfo hz hsz hby hzc hbytes hR hF
 intro (hr0:Rd w F v0 (.rf q)) hr1
 subst hbytes
 obtain ⟨hb,hc,hR⟩:=hR
 have hk2: ∀q,q∈ys.map t.enc→q.cells.length=info.size:=by
  intro q hq
  simp only [List.mem_map] at hq
  obtain ⟨y,_,rfl⟩:=hq
  rw [wL];exact hsz
 have ho2: ∀q,q∈ys.map t.enc→q.cells.all V.one=true:=by
  intro q hq
  simp only [List.mem_map] at hq
  obtain ⟨y,_,rfl⟩:=hq
  rw [qW];exact zMv t y
 obtain ⟨a1,cap1,cells,hv1,hcap1,hl2,hrun2,hr2⟩:=zHY (P:=P) (β:=⟨id,id⟩) (al:=fun _=>False) (x:= .p (.sl (ys.map t.enc))) hr1.untl rfl hk2
 simp only [List.length_map] at hv1 hcap1 hl2 hrun2
 have hs:jI P el=some info.size:=zAs hinfo
 have hrest: ∀m,(Builtin.zeroCells z.cells m).size=m*info.size:=by
  intro m;simp only [Builtin.zeroCells,Array.size_map,Array.size_range];rw [hzc]
 unfold zQb at h
 split at h
 ·cases h
 ·rename_i y r
  have hl2':cells.length=((y::r).map t.enc).length*info.size:=by simpa using hl2
  split at h
  ·-- nil
   split at h
   ·rename_i hbound
    simp only [Option.some.injEq,Prod.mk.injEq] at h
    obtain ⟨rfl,rfl⟩:=h
    cases hr0 with
    |rfn=>
     obtain ⟨newCap,hnc,hrun⟩:=xM (P:=P) (w:=w) (ts:=ts) (ty:=ty) (len:=0) (cap:=0) (n:=(y::r).length) (cap1:=cap1) (a0:=none) (a1:=a1) (cells:=cells) (old:=[]) hts0 hts1 hu0 hu1 hinfo hz
      (by rw [←hv1];exact hrun2 w.drew rfl) (by simp [Builtin.firstCells]) (by simp) hby (by simpa using hbound)
     rw [←hv1] at hrun
     simp only [Nat.zero_add] at hnc hrun
     refine ⟨_,_,hrun,?_⟩
     have hrow:=zHj (w':=w.drew.alloc (.cells (([]:List Value).toArray++(cells.toArray++Builtin.zeroCells z.cells (newCap- (y::r).length))) el)) (F:=F) (b:=w.heap.size) (k:=info.size) (cap:=newCap) (es:=[]) (es2:=(y::r).map t.enc) (et:=el) (old:=[]) (cells:=cells)
      (by simp) hk2 (by simp) hl2' (fun i j q y hi hj=>by simp at hi) (fun i j e d hi hj=>by
       obtain ⟨x,hx,hrx⟩:=hr2 i j e d hi hj
       simp only [List.getElem?_map,Option.map_eq_some_iff] at hi
       obtain ⟨y0,_,rfl⟩:=hi
       exact ⟨x,hx,zDH hfl (List.mem_of_getElem? hj) hrx⟩) (by simpa using hnc) (by simpa using hrest _) (zAf (w:=w.drew))
     rw [List.nil_append, ←hsz] at hrow
     have hset:st.set st.length none=st:=List.set_eq_of_length_le (Nat.le_refl _)
     have:=zI5 (w':=w.drew.alloc (.cells (([]:List Value).toArray++(cells.toArray++Builtin.zeroCells z.cells (newCap- (y::r).length))) el)) (O':=fun b=>b=w.heap.size∨O b) (id:=st.length) hfl hR hF (zs:=y::r) (by simp) (blk:=w.heap.size) (cap:=newCap)
      ⟨rfl,rfl,rfl,by simp,fun b hb _=>wH (w:=w.drew) hb,Nat.le_succ _⟩ (fun b=>by
       constructor
       ·rintro (rfl|hh)
        ·exact .inl rfl
        ·exact .inr ⟨hh,fun xs hx=>by simp at hx⟩
       ·rintro (rfl|hh)
        ·exact .inl rfl
        ·exact .inr hh.1) (.inr (Nat.le_refl _)) (by simp) hrow (fun j xs _ hj=>by
       have hlt:=(wC t).inb (⟨hb,hc,hR⟩:(wC t).R st F O w) _ (hR.row j xs hj).2.1
       exact ⟨by omega,wH (w:=w.drew) hlt⟩) (fun hh=>by omega)
     rw [hset] at this
     exact this
   ·cases h
  ·rename_i id n0
   split at h
   ·rename_i xs hst
    split at h
    ·rename_i hbound
     simp only [Option.some.injEq,Prod.mk.injEq] at h
     obtain ⟨rfl,rfl⟩:=h
     obtain ⟨hxne,hOid,hrow0⟩:=hR.row id xs hst
     cases hr0 with
     |rf _ a n c hh=>
      obtain ⟨rfl,rfl,rfl⟩:=(hR.hdl id xs hst _ _ _).1 hh
      obtain ⟨cc,et,g1,g2,g3,g4,g5⟩:=hrow0
      simp only [List.length_map] at g3
      rw [hsz] at g2 g4 g5
      by_cases hroom:xs.length+(y::r).length≤hc id
      ·have hfit:xs.length*info.size+(y::r).length*info.size≤cc.size:=by rw [←Nat.add_mul,g2];exact Nat.mul_le_mul_right _ hroom
       have hrun:=zGx (P:=P) (w:=w) (ts:=ts) (ty:=ty) (b:=hb id) (off:=0) (len:=xs.length) (cap:=hc id) (n:=(y::r).length) (cap1:=cap1) (a1:=a1) (cells:=cells) (c:=cc) (et:=et) hts0 hts1 hu0 hu1 hs
        (by rw [←hv1];exact hrun2 w rfl) hl2 g1 (by omega) (zVO hl2' hk2 ho2 hr2) hroom
       rw [←hv1] at hrun
       simp only [Nat.zero_add] at hrun
       refine ⟨_,_,hrun,?_⟩
       have hlt:hb id<w.heap.size:=(Array.getElem?_eq_some_iff.1 g1).1
       have hrow:=zSM (w':=setBlk w (hb id) (.cells (jB cc (xs.length*info.size) cells) et (0,0))) (F:=F) (b:=hb id) (k:=info.size) (cap:=hc id) (es:=xs.map t.enc) (es2:=(y::r).map t.enc) (c:=cc) (et:=et) (cells:=cells)
        (by simpa using g2) g4 (fun i j e d x hi hj hx=>by
         simp only [List.getElem?_map,Option.map_eq_some_iff] at hi
         obtain ⟨y0,hy0,rfl⟩:=hi
         exact zDH hfl (List.mem_of_getElem? hj) (g5 i j _ d x (by simp [hy0]) hj hx)) hk2 hl2' (fun i j e d hi hj=>by
         obtain ⟨x,hx,hrx⟩:=hr2 i j e d hi hj
         simp only [List.getElem?_map,Option.map_eq_some_iff] at hi
         obtain ⟨y0,_,rfl⟩:=hi
         exact ⟨x,hx,zDH hfl (List.mem_of_getElem? hj) hrx⟩) (by simpa using hroom) (by simpa using zBq hlt)
       rw [←List.map_append, ←hsz] at hrow
       have:=zI5 (w':=setBlk w (hb id) (.cells (jB cc (xs.length*info.size) cells) et (0,0))) (O':=O) (id:=id) hfl hR hF (zs:=xs++y::r) (by simp) (blk:=hb id) (cap:=hc id)
        ⟨rfl,rfl,rfl,by rw [zCT];exact Nat.le_refl _,fun b hb0 hno=>qK (fun hh=>hno (by rw [hh];exact hOid)),Nat.le_refl _⟩ (fun b=>by
         constructor
         ·intro hh
          by_cases hbb:b=hb id
          ·exact .inl hbb
          ·exact .inr ⟨hh,fun _ _=>hbb⟩
         ·rintro (rfl|hh)
          ·exact hOid
          ·exact hh.1) (.inl hOid) (by rw [zCT];exact hlt) (by rw [hsz] at hrow ⊢;exact hrow) (fun j xs' hne hj=>by
         have h1:hb j≠hb id:=fun hh=>hne (hR.dist j id xs' xs hj hst hh)
         exact ⟨h1,qK h1⟩) (fun _=>⟨xs,hst⟩)
       simpa using this
      ·obtain ⟨a0,cap0,old,hv0',hcap0,hl1,hrun1,hr1⟩:=zHY (P:=P) (w:=w) (F:=F) (β:=⟨fun _=>hb id,fun _=>hb id⟩) (al:=fun _=>True) (x:= .ow 0 info.size (xs.map t.enc)) (v:= .slice (some ⟨hb id,0,none⟩) xs.length (hc id)) (k:=info.size)
        ⟨trivial,hc id,by simp,cc,et,g1,g2,by simpa using g3,g4,fun i j e d x hi hj hx=>(g5 i j e d x hi hj hx).mono (fun _ h=>h.elim) (fun _ h=>h.elim)⟩ rfl g4
       simp only [List.length_map] at hv0' hcap0 hl1 hrun1
       have hcc:cap0=hc id:=by simp at hv0';exact hv0'.2.symm
       have haa:a0=some ⟨hb id,0,none⟩:=by simp at hv0';exact hv0'.1.symm
       subst hcc haa
       obtain ⟨newCap,hnc,hrun⟩:=xM (P:=P) (w:=w) (ts:=ts) (ty:=ty) (len:=xs.length) (cap:=hc id) (n:=(y::r).length) (cap1:=cap1) (a0:=some ⟨hb id,0,none⟩) (a1:=a1) (cells:=cells) (old:=old) hts0 hts1 hu0 hu1 hinfo hz
        (by rw [←hv1];exact hrun2 w.drew rfl) (hrun1 w.drew rfl) hroom hby hbound
       rw [←hv1] at hrun
       refine ⟨_,_,hrun,?_⟩
       have hrow:=zHj (w':=w.drew.alloc (.cells (old.toArray++(cells.toArray++Builtin.zeroCells z.cells (newCap- (xs.length+(y::r).length)))) el)) (F:=F) (b:=w.heap.size) (k:=info.size) (cap:=newCap) (es:=xs.map t.enc) (es2:=(y::r).map t.enc) (et:=el) (old:=old) (cells:=cells) (rest:=Builtin.zeroCells z.cells (newCap- (xs.length+(y::r).length)))
        g4 hk2 (by simpa using hl1) hl2' (fun i j e d hi hj=>by
         obtain ⟨x,hx,hrx⟩:=hr1 i j e d hi hj
         simp only [List.getElem?_map,Option.map_eq_some_iff] at hi
         obtain ⟨y0,_,rfl⟩:=hi
         exact ⟨x,hx,zDH hfl (List.mem_of_getElem? hj) hrx⟩) (fun i j e d hi hj=>by
         obtain ⟨x,hx,hrx⟩:=hr2 i j e d hi hj
         simp only [List.getElem?_map,Option.map_eq_some_iff] at hi
         obtain ⟨y0,_,rfl⟩:=hi
         exact ⟨x,hx,zDH hfl (List.mem_of_getElem? hj) hrx⟩) (by simpa using hnc) (by simpa using hrest _) (zAf (w:=w.drew))
       rw [←List.map_append, ←hsz] at hrow
       have:=zI5 (w':=w.drew.alloc (.cells (old.toArray++(cells.toArray++Builtin.zeroCells z.cells (newCap- (xs.length+(y::r).length)))) el)) (O':=fun b=>b=w.heap.size∨(O b∧b≠hb id)) (id:=id) hfl hR hF (zs:=xs++y::r) (by simp) (blk:=w.heap.size) (cap:=newCap)
        ⟨rfl,rfl,rfl,by simp,fun b hb _=>wH (w:=w.drew) hb,Nat.le_succ _⟩ (fun b=>by
         constructor
         ·rintro (rfl|hh)
          ·exact .inl rfl
          ·exact .inr ⟨hh.1,fun _ _=>hh.2⟩
         ·rintro (rfl|hh)
          ·exact .inl rfl
          ·exact .inr ⟨hh.1,hh.2 xs hst⟩) (.inr (Nat.le_refl _)) (by simp) (by rw [hsz] at hrow ⊢;exact hrow) (fun j xs' _ hj=>by
         have hlt:=(wC t).inb (⟨hb,hc,hR⟩:(wC t).R st F O w) _ (hR.row j xs' hj).2.1
         exact ⟨by omega,wH (w:=w.drew) hlt⟩) (fun _=>⟨xs,hst⟩)
       simpa using this
    ·cases h
   ·cases h
end
end Go.Ve

namespace Go.Ve
open Go
def zO.addH {t:Ty} (S:zO (wC t)):zO (wC t):=fun f s ds=>
 match Nat.beq f j5 with
 |true=>match ds with
  |[.bot, .rf q, .tl t' ys, .val (.int _ b)]=>match zDp t' t ys with
   | .some zs=> .some ⟨HSt t×Option (Nat×Nat),zQb b.toNat s q zs,fun y=>y.1,fun y=> .p (.rf y.2),false⟩
   | .none=>S f s ds
  |_=>S f s ds
 |false=>S f s ds
theorem zMF {t:Ty} {P:Program} {G:Nat→Option (List V)} {S:zO (wC t)} (hS:qB (wC t) P G S.toS) (hfl:t.flat=true) (hno:P.funcs[j5]? =none):
  qB (wC t) P G S.addH.toS:=by
 have e2: ∀g,g≠j5→S.addH.toS g=S.toS g:=by
  intro g hg
  funext s ds
  have:Nat.beq g j5=false:=by
   cases hb:Nat.beq g j5 with
   |false=>rfl
   |true=>exact absurd (Nat.eq_of_beq_eq_true hb) hg
  simp only [zO.toS,zO.addH,this]
 have e1: ∀ (s:HSt t) (ds:List V) r,S.addH.toS j5 s ds=some r→S.toS j5 s ds=some r∨
   ∃q ys zs k b,ds=[.bot, .rf q, .tl t ys, .val (.int k b)]∧ ∃q',zQb b.toNat s q ys=some (zs,q')∧r=(zs, .p (.rf q')):=by
  intro s ds r h
  have ht:Nat.beq j5 j5=true:=Nat.beq_refl _
  simp only [zO.toS,zO.addH,ht] at h
  split at h
  ·rename_i c hc
   split at hc
   ·rename_i q t' ys k b
    cases hzs:zDp t' t ys with
    |none=>rw [hzs] at hc;simp only at hc;exact .inl (by simp only [zO.toS,hc];exact h)
    |some zs=>
     rw [hzs] at hc
     obtain ⟨htt,hz⟩:=uN (uI hzs)
     subst htt
     subst hz
     simp only [Option.some.injEq] at hc
     rw [←hc] at h
     simp only [Option.map_eq_some_iff] at h
     obtain ⟨⟨st',q'⟩,h1,h2⟩:=h
     exact .inr ⟨q,ys,st',k,b,rfl,q',h1,h2.symm⟩
   ·exact .inl (by simp only [zO.toS,hc];exact h)
  ·cases h
 refine ⟨?_,?_,?_,?_⟩
 ·intro g
  by_cases hg:g=j5
  ·subst hg
   intro w F O s args ds s' r a1 a2 a3 a4 a5 a6
   rcases e1 s ds _ a6 with h|⟨q,ys,zs,k,b,rfl,_⟩
   ·exact hS.ok j5 w F O s args ds s' r a1 a2 a3 a4 a5 h
   ·exfalso
    have h0:0<args.size:=by rw [a4];simp
    have hnb: ∀u:Value, ¬Rd w F u .bot:=fun u h=>by cases h
    exact hnb _ (a5 0 args[0] .bot (by simp [h0]) rfl)
  ·rw [e2 g hg];exact hS.ok g
 ·intro g s ds r hr hbot
  by_cases hg:g=j5
  ·subst hg
   rcases e1 s ds _ hr with h|⟨q,ys,zs,k,b,rfl,_⟩
   ·exact hS.is _ s ds r h hbot
   ·exact absurd rfl (hbot _)
  ·rw [e2 g hg] at hr;exact hS.is g s ds r hr hbot
 ·intro _ st q t' ys bytes st' d h
  rcases e1 _ _ _ h with h|⟨q0,ys0,zs,k,b,heq,q',h1,h2⟩
  ·exact hS.app hno st q t' ys bytes st' d h
  ·simp only [List.cons.injEq,V.rf.injEq,V.tl.injEq,V.val.injEq,Value.int.injEq,true_and,and_true] at heq
   obtain ⟨rfl,⟨htt,hys⟩,rfl,rfl⟩:=heq
   subst htt
   have hys:=eq_of_heq hys
   subst hys
   cases h2
   simp only [Int.toNat_natCast] at h1
   exact qAe hfl h1
 ·intro f st t' xs ds st' ys d h
  by_cases hf:f=j5
  ·subst hf
   rcases e1 _ _ _ h with h|⟨q0,ys0,zs,k,b,heq,_⟩
   ·exact hS.bor _ st t' xs ds st' ys d h
   ·simp at heq
  ·rw [e2 f hf] at h;exact hS.bor f st t' xs ds st' ys d h
def zO.addE {Γ:Sig} (S:zO Γ):zO Γ:=fun f s ds=>
 match Nat.beq f j5 with
 |true=>match ds with
  |[.bot, .bot, .tl t ys, .val (.int _ b)]=> .some ⟨List t.El,app b.toNat [] ys,fun _=>s,fun zs=> .p (.tl t zs),false⟩
  |_=>S f s ds
 |false=>S f s ds
theorem qAu {Γ:Sig} {P:Program} {bytes:Nat} {st:Γ.St} {t:Ty} {ys zs:List t.El} (h:app bytes [] ys=some zs):zZs Γ P st .bot t ys bytes st (.tl t zs):=by
 intro ts ty t0 t1 el el1 info z w F O v0 v1 hts0 hts1 hu0 hu1 hinfo hz hsz hby hzc hbytes hR hF hr0 hr1
 subst hbytes
 obtain ⟨a0,rfl⟩:=(hr0: ∃a:Option Addr,v0= .slice a 0 0)
 unfold app at h
 split at h
 ·rename_i hbound
  simp only [Option.some.injEq,List.nil_append] at h
  subst h
  have hk2: ∀q,q∈ys.map t.enc→q.cells.length=info.size:=by
   intro q hq
   simp only [List.mem_map] at hq
   obtain ⟨y,_,rfl⟩:=hq
   rw [wL];exact hsz
  obtain ⟨a1,cap1,cells,hv1,hcap1,hl2,hrun2,hr2⟩:=zHY (P:=P) (β:=⟨id,id⟩) (al:=fun _=>False) (x:= .p (.sl (ys.map t.enc))) hr1.untl rfl hk2
  simp only [List.length_map] at hv1 hcap1 hl2 hrun2
  have hs:jI P el=some info.size:=zAs hinfo
  have hrest: ∀m,(Builtin.zeroCells z.cells m).size=m*info.size:=by
   intro m;simp only [Builtin.zeroCells,Array.size_map,Array.size_range];rw [hzc]
  cases ys with
  |nil=>
   have hrun:(Builtin.append_ ts ty #[.slice a0 0 0,v1]).run P w= .ok (.slice a0 0 0) w:=by
    rw [hv1]
    have hr:=hrun2 w rfl
    rw [hv1] at hr
    have hcn:cells=[]:=List.eq_nil_of_length_eq_zero (by simpa using hl2)
    subst hcn
    simp only [List.length_nil] at hr ⊢
    cases a0 with
    |none=>simp [Builtin.append_,hts0,hts1,zL hu0,zL hu1,zV hs,Builtin.lenOf,hr]
    |some ad=>simp [Builtin.append_,hts0,hts1,zL hu0,zL hu1,zV hs,Builtin.lenOf,hr,storeCells]
   exact ⟨_,w,hrun,F,O,hR,zC9.refl _ w,fun b hb=> .inl hb,fun b hb=>hb,fun b hb=>⟨.inl hb,hF b hb⟩, .tl t [] _ (.slemp a0 0)⟩
  |cons y r=>
   have hl2':cells.length=((y::r).map t.enc).length*info.size:=by simpa using hl2
   obtain ⟨newCap,hnc,hrun⟩:=xM (P:=P) (w:=w) (ts:=ts) (ty:=ty) (len:=0) (cap:=0) (n:=(y::r).length) (cap1:=cap1) (a0:=a0) (a1:=a1) (cells:=cells) (old:=[]) hts0 hts1 hu0 hu1 hinfo hz
    (by rw [←hv1];exact hrun2 w.drew rfl) (by cases a0<;>simp [Builtin.firstCells,loadCells,loadCellsFrom]) (by simp) hby (by simpa using hbound)
   rw [←hv1] at hrun
   simp only [Nat.zero_add] at hnc hrun
   have hrow:=zHj (w':=w.drew.alloc (.cells (([]:List Value).toArray++(cells.toArray++Builtin.zeroCells z.cells (newCap- (y::r).length))) el)) (F:=F) (b:=w.heap.size) (k:=info.size) (cap:=newCap) (es:=[]) (es2:=(y::r).map t.enc) (et:=el) (old:=[]) (cells:=cells)
    (by simp) hk2 (by simp) hl2' (fun i j q y hi hj=>by simp at hi) (fun i j e d hi hj=>by
     obtain ⟨x,hx,hrx⟩:=hr2 i j e d hi hj
     exact ⟨x,hx,hrx.mono (fun _ h=>h) (fun b hb=>wH (w:=w.drew) (hF b hb).1)⟩) (by simpa using hnc) (by simpa using hrest _) (zAf (w:=w.drew))
   rw [List.nil_append] at hrow
   refine ⟨_,_,hrun,fun b=>F b∨b= .b w.heap.size,O,Γ.mono hR zMy (fun b hb=>wH (w:=w.drew) (Γ.inb hR b hb)),⟨rfl,rfl,rfl,by simp,fun b hb _=>wH (w:=w.drew) hb,Nat.le_succ _⟩,fun b hb=> .inl hb,fun b hb=> .inl hb,?_,?_⟩
   ·rintro b (hb|hb)
    ·obtain ⟨h1,h2⟩:=hF b hb
     exact ⟨.inl hb,by simp;omega,h2⟩
    ·have hb:=uT hb
     subst hb
     exact ⟨.inr (Nat.le_refl _),by simp,fun ho=>by have:=Γ.inb hR _ ho;omega⟩
   ·have:=zEj hrow (F':=fun b=>F b∨b= .b w.heap.size) (fun b hb=> .inl hb) (.inr rfl)
    rw [List.length_map] at this
    exact .tl t (y::r) _ this
 ·cases h
theorem zSt {Γ:Sig} {P:Program} {G:Nat→Option (List V)} {S:zO Γ} (hS:qB Γ P G S.toS) (hno:P.funcs[j5]? =none):qB Γ P G S.addE.toS:=by
 have e2: ∀g,g≠j5→S.addE.toS g=S.toS g:=by
  intro g hg
  funext s ds
  have:Nat.beq g j5=false:=by
   cases hb:Nat.beq g j5 with
   |false=>rfl
   |true=>exact absurd (Nat.eq_of_beq_eq_true hb) hg
  simp only [zO.toS,zO.addE,this]
 have e1: ∀ (s:Γ.St) (ds:List V) r,S.addE.toS j5 s ds=some r→S.toS j5 s ds=some r∨
   ∃ (t:Ty) (ys zs:List t.El) (k:IntKind) (b:Int),ds=[.bot, .bot, .tl t ys, .val (.int k b)]∧app b.toNat [] ys=some zs∧r=(s, .p (.tl t zs)):=by
  intro s ds r h
  have ht:Nat.beq j5 j5=true:=Nat.beq_refl _
  simp only [zO.toS,zO.addE,ht] at h
  split at h
  ·rename_i c hc
   split at hc
   ·rename_i t ys k b
    simp only [Option.some.injEq] at hc
    rw [←hc] at h
    simp only [Option.map_eq_some_iff] at h
    obtain ⟨zs,h1,h2⟩:=h
    exact .inr ⟨t,ys,zs,k,b,rfl,h1,h2.symm⟩
   ·exact .inl (by simp only [zO.toS,hc];exact h)
  ·cases h
 refine ⟨?_,?_,?_,?_⟩
 ·intro g
  by_cases hg:g=j5
  ·subst hg
   intro w F O s args ds s' r a1 a2 a3 a4 a5 a6
   rcases e1 s ds _ a6 with h|⟨t,ys,zs,k,b,rfl,_⟩
   ·exact hS.ok j5 w F O s args ds s' r a1 a2 a3 a4 a5 h
   ·exfalso
    have h0:0<args.size:=by rw [a4];simp
    have hnb: ∀u:Value, ¬Rd w F u .bot:=fun u h=>by cases h
    exact hnb _ (a5 0 args[0] .bot (by simp [h0]) rfl)
  ·rw [e2 g hg];exact hS.ok g
 ·intro g s ds r hr hbot
  by_cases hg:g=j5
  ·subst hg
   rcases e1 s ds _ hr with h|⟨t,ys,zs,k,b,rfl,_⟩
   ·exact hS.is _ s ds r h hbot
   ·exact absurd rfl (hbot _)
  ·rw [e2 g hg] at hr;exact hS.is g s ds r hr hbot
 ·intro _ st q t ys bytes st' d h
  rcases e1 _ _ _ h with h|⟨t',ys',zs,k,b,heq,h1,h2⟩
  ·exact hS.app hno st q t ys bytes st' d h
  ·simp only [List.cons.injEq,V.tl.injEq,V.val.injEq,Value.int.injEq,true_and,and_true] at heq
   obtain ⟨rfl,⟨htt,hys⟩,rfl,rfl⟩:=heq
   subst htt
   have hys:=eq_of_heq hys
   subst hys
   cases h2
   simp only [Int.toNat_natCast] at h1
   exact qAu h1
 ·intro f st t xs ds st' ys d h
  by_cases hf:f=j5
  ·subst hf
   rcases e1 _ _ _ h with h|⟨t',ys',zs,k,b,heq,_⟩
   ·exact hS.bor _ st t xs ds st' ys d h
   ·simp at heq
  ·rw [e2 f hf] at h;exact hS.bor f st t xs ds st' ys d h
section
variable {Γ:Sig} {P:Program} {G:Nat→Option (List V)}
noncomputable def qBg (L:jC) (G:Nat→Option (List V)) (S:zO Γ) (A:Nat→Option JA) (fn:Func) (c:Code) (R:RTy) (s:Γ.St) (ds:List V):Option (Γ.St×R.El):=
 zDz (start fn.ntmps s ds) (fun e=>exC L G S A c (Γ.St×R.El) (fun k e1 _=>match k with
  | .exit _=>none
  |_=>match zCs L e1 fn with
   |some r=>match R.get r with
    |some y=>some (e1.st,y)
    |none=>none
   |none=>none) e 0)
def zMH {X:Type} (dec:List V→Option X) (R:RTy) (g:Γ.St→X→Option (Γ.St×R.El)):Γ.St→List V→Option (zDq Γ.St):=fun s ds=>
 match dec ds with
 |some x=>some ⟨Γ.St×R.El,g s x,fun y=>y.1,fun y=>R.res y.2,R.pl⟩
 |none=>none
theorem zYE {S:zO Γ} {A:Nat→Option JA} (hst: ∀k j,A k=some j→zFm j.sl=true) (hmix:P.follows .mixedOrders=true) (hS:qB Γ P G S.toS) {f:FuncId} {fn:Func} {c:Code} (hf:P.funcs[f]? =some fn) (hb:fn.body=some c)
  {X:Type} {dec:List V→Option X} {enc:X→List V} (hdec: ∀ds x,dec ds=some x→wQ ds (enc x)) {R:RTy} {g:Γ.St→X→Option (Γ.St×R.El)} (h: ∀s x,qBg (Γ:=Γ) P G S A fn c R s (enc x)=g s x):wV Γ P G f (qP (zMH dec R g)):=by
 intro w F O s args ds s' r hsig hG hF hlen hrd hspec
 simp only [qP,zMH] at hspec
 split at hspec
 ·rename_i cx hcx
  split at hcx
  ·rename_i x hx
   simp only [Option.some.injEq] at hcx
   subst hcx
   simp only [Option.map_eq_some_iff] at hspec
   obtain ⟨⟨s1,y⟩,hy,hsr⟩:=hspec
   simp only [Prod.mk.injEq] at hsr
   obtain ⟨rfl,rfl⟩:=hsr
   have hwk:=hdec ds x hx
   have hlen':args.size=(enc x).length:=hlen.trans hwk.len
   have hrd': ∀ (i:Nat) (u:Value) (d:V),args[i]? =some u→(enc x)[i]? =some d→Rd w F u d:=by
    intro i u d hu hd
    have hlt:i<ds.length:=by rw [hwk.len];exact (List.getElem?_eq_some_iff.1 hd).1
    exact hwk.get i ds[i] d (by simp [hlt]) hd w F u (hrd i u ds[i] hu (by simp [hlt]))
   have hex:=h s x
   rw [hy] at hex
   unfold qBg at hex
   rw [uC] at hex
   obtain ⟨k,e',d,hok,_,hend⟩:=zIc (fun k j hj=> .inr (hst k j hj)) hmix hS c _ _ _ _ _ hex
   have hk:(k= .normal∨k= .ret)∧(match zCs (jC.of P) e' fn with
    |some r=>match R.get r with
     |some y=>some (e'.st,y)
     |none=>none
    |none=>none)=some (s1,y):=by
    cases k with
    |normal=>exact ⟨.inl rfl,hend⟩
    |ret=>exact ⟨.inr rfl,hend⟩
    |exit id=>cases hend
   obtain ⟨hk,hend⟩:=hk
   split at hend
   ·rename_i r' hr'
    split at hend
    ·rename_i y' hy'
     simp only [Option.some.injEq,Prod.mk.injEq] at hend
     obtain ⟨rfl,rfl⟩:=hend
     refine calls_of_wp hf hb ?_
     have jA: ∀t,zT w F ⟨fun _=>0,fun _=>0⟩ (fun _=>False) ((args++Array.replicate (fn.ntmps-args.size) undef).getD t undef) ((start fn.ntmps s (enc x)).get t):=by
      intro t
      simp only [start,zFL,Env.get,List.getD_eq_getElem?_getD,Array.getD_eq_getD_getElem?]
      by_cases ht:t< (enc x).length
      ·rw [List.getElem?_append_left (by simpa using ht),Array.getElem?_append_left (by omega)]
       rw [List.getElem?_map,List.getElem?_eq_getElem ht,Array.getElem?_eq_getElem (by omega)]
       exact hrd' t _ _ (by simp [show t<args.size by omega]) (by simp [ht])
      ·rw [List.getElem?_append_right (by simpa using Nat.le_of_not_lt ht),Array.getElem?_append_right (by omega),hlen']
       simp only [List.length_map]
       by_cases h2:t- (enc x).length<fn.ntmps- (enc x).length
       ·rw [List.getElem?_replicate,if_pos h2,Array.getElem?_replicate,if_pos h2]
        exact Rd.val _
       ·rw [List.getElem?_replicate,if_neg h2]
        trivial
     have hnovar: ∀s0,(start fn.ntmps s (enc x)).var s0=none:=by
      intro s0
      simp only [start,Env.var,List.getElem?_replicate]
      split<;>rfl
     have hinv:Inv Γ G w F O { tmps:=args++Array.replicate (fn.ntmps-args.size) undef,defers:=[] } w (start fn.ntmps s (enc x)):=by
      refine Inv.of (F:=F) (O:=O) (β:=⟨fun _=>0,fun _=>0⟩) (al:=fun _=>False) ⟨zC9.refl _ w,hsig,fun b hb=> .inl hb,fun b hb=>⟨.inl hb,hF b hb⟩,fun b hb=>hb,fun x hx=>hx.elim,fun x y hx=>hx.elim,fun b n h=>by cases h⟩ hG ?_ rfl jA ?_ (fun s h=>h.elim)
      ·simp [start,zFL,hlen']
      ·intro s0 cs hcs;rw [hnovar] at hcs;cases hcs
     refine wp_mono (hok w F O _ w hinv) ?_
     rintro ex a' w' ⟨rfl,hi'⟩
     obtain ⟨v,F',O',h1,h2,h3,h4,h5,h6,h7⟩:=zL7 rfl hi' hr'
     have hdf:a'.defers=[]:=by obtain ⟨_,_,_,_,_,_,hdf,_⟩:=hi';exact hdf
     obtain ⟨F'',g1,gh,g2,g3⟩:=RTy.get_sound hy' h7
     have h2:=Γ.mono h2 gh (fun _ _=>rfl)
     have hF'': ∀b:Nat,F'' b→(F b∨w.heap.size≤b)∧b<w'.heap.size∧ ¬O' b:=by
      intro b hb
      rcases g2 b hb with hb|⟨h1,h2,h3⟩
      ·exact h6 b hb
      ·exact ⟨.inr h1,h2,h3⟩
     rcases hk with rfl|rfl
     ·exact ⟨hdf,v,h1,v,F'',O',rfl,h2,h3,h4,fun b hb=>g1 b (h5 b hb),hF'',g3⟩
     ·exact ⟨hdf,v,h1,v,F'',O',rfl,h2,h3,h4,fun b hb=>g1 b (h5 b hb),hF'',g3⟩
    ·cases hend
   ·cases hend
  ·cases hcx
 ·cases hspec
end
def Ty.norf:Ty→Bool
 | .rf=>false
 | .pair a b=>a.norf&&b.norf
 | .sl t=>t.norf
 |_=>true
theorem zFT {w:World} {F F':Blk→Prop} (hF: ∀b:Nat,F b→F' b): ∀ (t:Ty) (_:t.norf=true) (x:t.El) (v:Value) (d:V),d∈t.cells x→Rd w F v d→Rd w F' v d:=by
 intro t
 induction t with
 |int k=>intro _ x v d hd h;simp only [Ty.cells,List.mem_singleton] at hd;subst hd;rw [Rd.eq_val h];exact .val _
 |bool=>intro _ x v d hd h;simp only [Ty.cells,List.mem_singleton] at hd;subst hd;rw [Rd.eq_val h];exact .val _
 |str=>intro _ x v d hd h;simp only [Ty.cells,List.mem_singleton] at hd;subst hd;rw [Rd.eq_val h];exact .val _
 |unit=>intro _ x v d hd h;simp [Ty.cells] at hd
 |rf=>intro hn;simp [Ty.norf] at hn
 |pair a b iha ihb=>
  intro hn x v d hd h
  simp only [Ty.norf,Bool.and_eq_true] at hn
  simp only [Ty.cells,List.mem_append] at hd
  rcases hd with hd|hd
  ·exact iha hn.1 x.1 v d hd h
  ·exact ihb hn.2 x.2 v d hd h
 |sl t ih=>
  intro hn x v d hd h
  simp only [Ty.cells,List.mem_singleton] at hd
  subst hd
  refine .tl t x v ?_
  have h:=h.untl
  generalize hes:x.map t.enc=es at h
  cases h with
  |slemp a cap=>exact .slemp a cap
  |sl b off cap k _ g hFb hcap hk hg hr=>
   refine .sl b off cap k es g (hF b hFb) hcap hk hg ?_
   intro i j e d' hi hj
   have hi0:=hi
   rw [←hes] at hi0
   simp only [List.getElem?_map,Option.map_eq_some_iff] at hi0
   obtain ⟨y,_,rfl⟩:=hi0
   exact ih hn y _ d' (by rw [←qW];exact List.mem_of_getElem? hj) (hr i j _ d' hi hj)
theorem zVW {w:World} {F F':Blk→Prop} (hF: ∀b:Nat,F b→F' b) {t:Ty} (hn:t.norf=true) {x:t.El} {v:Value} (h:Rd w F v (t.enc x)):Rd w F' v (t.enc x):=by
 cases t with
 |int k=>rw [Rd.eq_val h];exact .val _
 |bool=>rw [Rd.eq_val h];exact .val _
 |str=>rw [Rd.eq_val h];exact .val _
 |rf=>simp [Ty.norf] at hn
 |unit=>
  cases h with
  |agg cs _ hl hh=>exact .agg cs _ hl (fun i x d hi hd=>by simp at hd)
 |pair a b=>
  cases h with
  |agg cs _ hl hh=>exact .agg cs _ hl (fun i u d hi hd=>zFT hF (.pair a b) hn x u d (List.mem_of_getElem? hd) (hh i u d hi hd))
 |sl t=>exact zFT hF (.sl t) hn x v _ (by simp [Ty.cells,Ty.enc]) h
theorem zXW {w:World} {F F':Blk→Prop} (hF: ∀b:Nat,F b→F' b) {t:Ty} (hn:t.norf=true) {b k cap:Nat} {xs:List t.El} (hr:qC w F b k cap (xs.map t.enc)):qC w F' b k cap (xs.map t.enc):=by
 obtain ⟨c,et,h1,h2,h3,h4,h5⟩:=hr
 refine ⟨c,et,h1,h2,h3,h4,fun i j e d x a1 a2 a3=> ?_⟩
 have a0:=a1
 simp only [List.getElem?_map,Option.map_eq_some_iff] at a0
 obtain ⟨y,hy,rfl⟩:=a0
 exact zFT hF t hn y x d (by rw [←qW];exact List.mem_of_getElem? a2) (h5 i j (t.enc y) d x a1 a2 a3)
def RTy.norf:RTy→Bool
 | .p ty=>ty.norf
 | .o ty=>ty.norf
 | .tu tys=>tys.all Ty.norf
theorem zMd {w:World} {F F':Blk→Prop} (hF: ∀b:Nat,F b→F' b): ∀ (ts:List Ty) (x:ElS ts),ts.all Ty.norf=true→ ∀ (i:Nat) (v:Value) (d:V),(kJ ts x)[i]? =some d→Rd w F v d→Rd w F' v d
 |[],_,_,i,v,d,hd,_=>by simp [kJ] at hd
 |t::ts,x,hn,i,v,d,hd,h=>by
  simp only [List.all_cons,Bool.and_eq_true] at hn
  cases i with
  |zero=>simp only [kJ,List.getElem?_cons_zero,Option.some.injEq] at hd;subst hd;exact zVW hF hn.1 h
  |succ i=>exact zMd hF ts x.2 hn.2 i v d (by simpa [kJ] using hd) h
theorem zX1 {N:Nat} {w:World} {F F':Blk→Prop} {O O':Nat→Prop} (hF: ∀b:Nat,F b→F' b) (hF': ∀b:Nat,N≤b→F' b→F b) (hO: ∀b,N≤b→O' b→O b) {R:RTy} (hn:R.norf=true) {y:R.El} {v:Value} (h:xZ N w F O v (R.res y)):xZ N w F' O' v (R.res y):=by
 cases R with
 |p ty=>exact zVW (t:=ty) hF hn h
 |o ty=>
  rcases h with h|⟨h0,b,cap,h1,h2,h3,h4,h5,k,h6⟩
  ·exact .inl h
  ·exact .inr ⟨h0,b,cap,h1,h2,h3,fun hh=>h4 (hF' b h2 hh),fun hh=>h5 (hO b h2 hh),k,zXW (t:=ty) hF hn h6⟩
 |tu tys=>
  have h:Rd w F v (.tup (kJ tys y)):=h
  cases h with
  |tup cs _ hl hh=>exact .tup cs _ hl (fun i u d hi hd=>zMd hF tys y hn i u d hd (hh i u d hi hd))
theorem zL1 {Γ:Sig} {P:Program} {G:Nat→Option (List V)} {f:FuncId} {X:Type} {dec:List V→Option X} {R:RTy} {g:X→Option R.El} (hn:R.norf=true)
  (h:wV jV P G f (qP (vA dec R g))):wV Γ P G f (qP (vA dec R g)):=by
 intro w F O s args ds s' r hsig hG hF hlen hrd hspec
 simp only [qP,vA] at hspec
 cases hx:dec ds with
 |none=>rw [hx] at hspec;cases hspec
 |some x=>
  rw [hx] at hspec
  simp only [Option.map_eq_some_iff,Prod.mk.injEq] at hspec
  obtain ⟨y,hy,rfl,rfl⟩:=hspec
  have hcall:=h w F (fun _=>False) () args ds () (R.res y) (fun _ h=>h) hG (fun b hb=>⟨(hF b hb).1,fun h=>h⟩) hlen hrd (by simp only [qP,vA,hx,hy,Option.map_some])
  refine hcall.mono ?_
  rintro e w' ⟨v,F',O',rfl,g1,g2,g3,g4,g5,g6⟩
  let F'':Blk→Prop:=fun b=>match b with
   | .b n=>F' (.b n)
   | .h id a n c=>F (.h id a n c)
  have hkb: ∀b,O b→w'.heap[b]? =w.heap[b]? :=fun b hb=>g2.block b (Γ.inb hsig b hb) (fun h=>h)
  refine ⟨v,F'',O,rfl,Γ.mono hsig (fun _ _ _ _=>Iff.rfl) hkb,⟨g2.os,g2.tape,g2.output,g2.size,fun b hb _=>g2.block b hb (fun h=>h),g2.drawn⟩,fun b hb=> .inl hb,?_,?_,?_⟩
  ·intro b hb
   cases b with
   |b n=>exact g4 _ hb
   |h _ _ _ _=>exact hb
  ·intro b hb
   obtain ⟨h1,h2,_⟩:=g5 b hb
   refine ⟨h1,h2,fun ho=> ?_⟩
   rcases h1 with h1|h1
   ·exact (hF b h1).2 ho
   ·have:=Γ.inb hsig b ho;omega
  ·exact zX1 (F:=F') (F':=F'') (fun b hb=>hb) (fun b _ hb=>hb) (fun b hb ho=>by have:=Γ.inb hsig b ho;omega) hn g6
@[reducible] def vU (tE:Ty):Ty→Ty
 | .rf=> .sl tE
 | .pair a b=> .pair (vU tE a) (vU tE b)
 | .sl t=> .sl (vU tE t)
 | .int k=> .int k
 | .bool=> .bool
 | .str=> .str
 | .unit=> .unit
def zKY {α β:Type} (f:α→Option β):List α→Option (List β)
 |[]=>some []
 |x::r=>match f x,zKY f r with
  |some y,some ys=>some (y::ys)
  |_,_=>none
def zAG {tE:Ty} (st:HSt tE):(t:Ty)→t.El→Option (vU tE t).El
 | .rf,o=>match o with
  |none=>some []
  |some (id,_)=>match st[id]? with
   |some (some xs)=>some xs
   |_=>none
 | .pair a b,x=>match zAG st a x.1,zAG st b x.2 with
  |some y,some z=>some (y,z)
  |_,_=>none
 | .sl t,xs=>zKY (zAG st t) xs
 | .int _,x=>some x
 | .bool,x=>some x
 | .str,x=>some x
 | .unit,x=>some x
theorem zKX {α β:Type} {f:α→Option β} : ∀ {xs:List α} {ys:List β},zKY f xs=some ys→xs.length=ys.length∧ ∀ (i:Nat) (y:β),ys[i]? =some y→ ∃x,xs[i]? =some x∧f x=some y
 |[],ys,h=>by simp only [zKY,Option.some.injEq] at h;subst h;exact ⟨rfl,fun i y h=>by simp at h⟩
 |x::r,ys,h=>by
  simp only [zKY] at h
  split at h
  ·rename_i y ys' hy hys
   simp only [Option.some.injEq] at h
   subst h
   obtain ⟨h1,h2⟩:=zKX hys
   refine ⟨by simp [h1],fun i z hz=> ?_⟩
   cases i with
   |zero=>simp only [List.getElem?_cons_zero,Option.some.injEq] at hz;subst hz;exact ⟨x,rfl,hy⟩
   |succ i=>exact h2 i z (by simpa using hz)
  ·cases h
theorem kK (tE:Ty): ∀t:Ty,(vU tE t).size=t.size
 | .rf=>rfl
 | .pair a b=>by simp only [vU,Ty.size];rw [kK tE a,kK tE b]
 | .sl _=>rfl
 | .int _=>rfl
 | .bool=>rfl
 | .str=>rfl
 | .unit=>rfl
section
variable {tE:Ty} {st:HSt tE} {F F':Blk→Prop} {O:Nat→Prop} {w:World} {hb hc:Nat→Nat}
theorem zLE (h:zVE tE st F O w hb hc) (hF: ∀b:Nat,F b→F' b) (hO: ∀b,O b→F' (.b b)): ∀ (t:Ty) (x:t.El) (y:(vU tE t).El),zAG st t x=some y→
  ∀ (i:Nat) (v:Value) (d d':V),(t.cells x)[i]? =some d→((vU tE t).cells y)[i]? =some d'→Rd w F v d→Rd w F' v d':=by
 intro t
 induction t with
 |int k=>
  intro x y hxy i v d d' hd hd' hr
  obtain rfl:x=y:=Option.some.inj hxy
  have:=hd.symm.trans hd'
  simp only [Option.some.injEq] at this;subst this
  cases i with
  |zero=>simp only [Ty.cells,List.getElem?_cons_zero,Option.some.injEq] at hd;subst hd;rw [Rd.eq_val hr];exact .val _
  |succ i=>simp [Ty.cells] at hd
 |bool=>
  intro x y hxy i v d d' hd hd' hr
  obtain rfl:x=y:=Option.some.inj hxy
  have:=hd.symm.trans hd'
  simp only [Option.some.injEq] at this;subst this
  cases i with
  |zero=>simp only [Ty.cells,List.getElem?_cons_zero,Option.some.injEq] at hd;subst hd;rw [Rd.eq_val hr];exact .val _
  |succ i=>simp [Ty.cells] at hd
 |str=>
  intro x y hxy i v d d' hd hd' hr
  obtain rfl:x=y:=Option.some.inj hxy
  have:=hd.symm.trans hd'
  simp only [Option.some.injEq] at this;subst this
  cases i with
  |zero=>simp only [Ty.cells,List.getElem?_cons_zero,Option.some.injEq] at hd;subst hd;rw [Rd.eq_val hr];exact .val _
  |succ i=>simp [Ty.cells] at hd
 |unit=>intro x y hxy i v d d' hd;simp [Ty.cells] at hd
 |rf=>
  intro x y hxy i v d d' hd hd' hr
  cases i with
  |succ i=>simp [Ty.cells] at hd
  |zero=>
   simp only [Ty.cells,List.getElem?_cons_zero,Option.some.injEq] at hd
   simp only [vU,Ty.cells,List.getElem?_cons_zero,Option.some.injEq] at hd'
   subst hd hd'
   cases hr with
   |rfn=>
    obtain rfl:([]:List tE.El)=y:=Option.some.inj hxy
    exact .tl tE [] _ (.slemp none 0)
   |rf id a n c hh=>
    simp only [zAG] at hxy
    split at hxy
    ·rename_i xs hxs
     obtain rfl:xs=y:=Option.some.inj hxy
     obtain ⟨rfl,rfl,rfl⟩:=(h.hdl id xs hxs _ _ _).1 hh
     obtain ⟨_,h2,h3⟩:=h.row id xs hxs
     refine .tl tE xs _ ?_
     have:=zEj (F':=F') h3 (fun _ h=>h.elim) (hO _ h2)
     simpa using this
    ·cases hxy
 |pair a b iha ihb=>
  intro x y hxy i v d d' hd hd' hr
  simp only [zAG] at hxy
  split at hxy
  ·rename_i y1 y2 h1 h2
   obtain rfl:(y1,y2)=y:=Option.some.inj hxy
   simp only [vU,Ty.cells] at hd hd'
   by_cases hi:i< (a.cells x.1).length
   ·rw [List.getElem?_append_left hi] at hd
    rw [List.getElem?_append_left (by rw [q9,kK];rw [q9] at hi;exact hi)] at hd'
    exact iha x.1 y1 h1 i v d d' hd hd' hr
   ·rw [List.getElem?_append_right (by omega)] at hd
    rw [List.getElem?_append_right (by rw [q9,kK];rw [q9] at hi;omega)] at hd'
    rw [q9,kK, ←q9 a x.1] at hd'
    exact ihb x.2 y2 h2 _ v d d' hd hd' hr
  ·cases hxy
 |sl t ih=>
  intro x y hxy i v d d' hd hd' hr
  cases i with
  |succ i=>simp [Ty.cells] at hd
  |zero=>
   simp only [Ty.cells,List.getElem?_cons_zero,Option.some.injEq] at hd
   simp only [vU,Ty.cells,List.getElem?_cons_zero,Option.some.injEq] at hd'
   subst hd hd'
   obtain ⟨hlen,jA⟩:=zKX (show zKY (zAG st t) x=some y from hxy)
   refine .tl (vU tE t) y v ?_
   have hr1:=hr.untl
   clear hr
   generalize hes:x.map t.enc=es at hr1
   cases hr1 with
   |slemp a cap=>
    have hx0:x=[]:=by simpa using hes
    subst hx0
    have hy0:y=[]:=List.eq_nil_of_length_eq_zero hlen.symm
    subst hy0
    exact .slemp a cap
   |sl b off cap k _ g hFb hcap hk hg hr=>
    have hel:es.length=(y.map (vU tE t).enc).length:=by rw [←hes,List.length_map,List.length_map];exact hlen
    rw [hel] at hg hcap ⊢
    have hkk: ∀e,e∈y.map (vU tE t).enc→e.cells.length=k:=by
     intro e he
     simp only [List.mem_map] at he
     obtain ⟨y0,hy0,rfl⟩:=he
     rw [wL,kK]
     obtain ⟨j,hj⟩:=List.getElem?_of_mem hy0
     obtain ⟨x0,hx0,_⟩:=jA j y0 hj
     have:=hk (t.enc x0) (by rw [←hes];exact List.mem_map_of_mem (List.mem_of_getElem? hx0))
     rw [wL] at this;exact this
    refine .sl b off cap k _ g (hF b hFb) hcap hkk hg ?_
    intro i j e d' hi hj
    simp only [List.getElem?_map,Option.map_eq_some_iff] at hi
    obtain ⟨y0,hy0,rfl⟩:=hi
    obtain ⟨x0,hx0,hxy0⟩:=jA i y0 hy0
    rw [qW] at hj
    have hjl:j< (t.cells x0).length:=by
     have:=(List.getElem?_eq_some_iff.1 hj).1
     rw [q9,kK] at this;rw [q9];exact this
    refine ih x0 y0 hxy0 j _ (t.cells x0)[j] d' (by simp [hjl]) hj (hr i j (t.enc x0) _ (by rw [←hes];simp [hx0]) (by rw [qW];simp [hjl]))
theorem zVL (h:zVE tE st F O w hb hc) (hF: ∀b:Nat,F b→F' b) (hO: ∀b,O b→F' (.b b)) (t:Ty) (x:t.El) (y:(vU tE t).El) (hxy:zAG st t x=some y) {v:Value} (hr:Rd w F v (t.enc x)):Rd w F' v ((vU tE t).enc y):=by
 have one: ∀ (_:t.enc x=(t.cells x)[0]?.getD .bot) (_:(vU tE t).enc y=((vU tE t).cells y)[0]?.getD .bot) (_:0<t.size),Rd w F' v ((vU tE t).enc y):=by
  intro h1 h2 h3
  have l1:0< (t.cells x).length:=by rw [q9];exact h3
  have l2:0< ((vU tE t).cells y).length:=by rw [q9,kK];exact h3
  rw [h1] at hr
  rw [h2]
  simp only [List.getElem?_eq_getElem l1,Option.getD_some] at hr
  simp only [List.getElem?_eq_getElem l2,Option.getD_some]
  exact zLE h hF hO t x y hxy 0 v _ _ (by simp [l1]) (by simp [l2]) hr
 cases t with
 |int k=>exact one rfl rfl Nat.one_pos
 |bool=>exact one rfl rfl Nat.one_pos
 |str=>exact one rfl rfl Nat.one_pos
 |rf=>exact one rfl rfl Nat.one_pos
 |sl t=>exact one rfl rfl Nat.one_pos
 |unit=>
  cases hr with
  |agg cs _ hl hh=>exact .agg cs _ hl (fun i x d hi hd=>by simp at hd)
 |pair a b=>
  cases hr with
  |agg cs _ hl hh=>
   have e1:(a.cells x.1++b.cells x.2).length=(Ty.pair a b).size:=q9 (.pair a b) x
   have e2:(((vU tE a).cells y.1)++((vU tE b).cells y.2)).length=(vU tE (Ty.pair a b)).size:=q9 (vU tE (Ty.pair a b)) y
   refine .agg cs _ (by rw [hl,e1,e2,kK]) ?_
   intro i u d hi hd
   have hlt:i< (a.cells x.1++b.cells x.2).length:=by
    have:=(List.getElem?_eq_some_iff.1 hd).1
    rw [e2,kK] at this;rw [e1];exact this
   exact zLE h hF hO (.pair a b) x y hxy i u _ d (by simp only [Ty.cells];exact List.getElem?_eq_getElem hlt) hd (hh i u _ hi (List.getElem?_eq_getElem hlt))
end
end Go.Ve

namespace Go.Ve
open Go
theorem zEI: ∀ (t:Ty) (x:t.El) (r:List V),t.uncells (t.cells x++r)=some (x,r)
 | .int k,x,r=>by simp [Ty.cells,Ty.uncells,zFH]
 | .bool,x,r=>by simp [Ty.cells,Ty.uncells,zDQ]
 | .str,x,r=>by simp [Ty.cells,Ty.uncells,zFG]
 | .unit,x,r=>by simp [Ty.cells,Ty.uncells]
 | .rf,x,r=>by simp [Ty.cells,Ty.uncells,zJb]
 | .sl t,x,r=>by simp [Ty.cells,Ty.uncells,zJa]
 | .pair a b,x,r=>by
  simp only [Ty.cells,Ty.uncells,List.append_assoc]
  rw [zEI a x.1]
  simp only
  rw [zEI b x.2]
theorem qAj (t:Ty) (x:t.El):t.dec (t.enc x)=some x:=by
 cases t with
 |int k=>simp [Ty.enc,Ty.dec,zFH]
 |bool=>simp [Ty.enc,Ty.dec,zDQ]
 |str=>simp [Ty.enc,Ty.dec,zFG]
 |unit=>rfl
 |rf=>simp [Ty.enc,Ty.dec,zJb]
 |sl t=>simp [Ty.enc,Ty.dec,zJa]
 |pair a b=>
  have:=zEI (.pair a b) x []
  simp only [List.append_nil] at this
  simp only [Ty.enc,Ty.dec]
  simp only [Ty.cells] at this
  rw [this]
theorem zEc: ∀ (ts:List Ty) (x:ElS ts),zEY ts (kJ ts x)=some x
 |[],_=>rfl
 |t::ts,x=>by
  simp only [kJ,zEY,qAj,zEc ts]
@[reducible] def zG6 (tE:Ty):List Ty→List Ty
 |[]=>[]
 |t::r=>vU tE t::zG6 tE r
def zN2 {tE:Ty} (st:HSt tE):(ts:List Ty)→ElS ts→Option (ElS (zG6 tE ts))
 |[],_=>some ()
 |t::r,x=>match zAG st t x.1,zN2 st r x.2 with
  |some y,some z=>some (y,z)
  |_,_=>none
@[reducible] def zSl (tE:Ty):RTy→RTy
 | .p ty=> .p (vU tE ty)
 | .o ty=> .o (vU tE ty)
 | .tu tys=> .tu (zG6 tE tys)
def zXA {tE:Ty} (st:HSt tE):(R:RTy)→R.El→Option (zSl tE R).El
 | .p ty,x=>zAG st ty x
 | .o ty,xs=>zKY (zAG st ty) xs
 | .tu tys,x=>zN2 st tys x
section
variable {tE:Ty} {st:HSt tE} {F F':Blk→Prop} {O:Nat→Prop} {w:World} {hb hc:Nat→Nat}
theorem zSk (h:zVE tE st F O w hb hc) (hF: ∀b:Nat,F b→F' b) (hO: ∀b,O b→F' (.b b)): ∀ (ts:List Ty) (x:ElS ts) (y:ElS (zG6 tE ts)),zN2 st ts x=some y→
  (kJ ts x).length=(kJ (zG6 tE ts) y).length∧ ∀ (i:Nat) (v:Value) (d d':V),(kJ ts x)[i]? =some d→(kJ (zG6 tE ts) y)[i]? =some d'→Rd w F v d→Rd w F' v d'
 |[],_,_,_=>⟨rfl,fun i v d d' hd=>by simp [kJ] at hd⟩
 |t::ts,x,y,hxy=>by
  simp only [zN2] at hxy
  split at hxy
  ·rename_i y1 y2 h1 h2
   obtain rfl:(y1,y2)=y:=Option.some.inj hxy
   obtain ⟨k1,k2⟩:=zSk h hF hO ts x.2 y2 h2
   refine ⟨by simp only [kJ,List.length_cons,k1],fun i v d d' hd hd' hr=> ?_⟩
   cases i with
   |zero=>
    simp only [kJ,List.getElem?_cons_zero,Option.some.injEq] at hd hd'
    subst hd hd'
    exact zVL h hF hO t x.1 y1 h1 hr
   |succ i=>exact k2 i v d d' (by simpa [kJ] using hd) (by simpa [kJ] using hd') hr
  ·cases hxy
theorem zXy (h:zVE tE st F O w hb hc) (hF: ∀b:Nat,F b→F' b) (hO: ∀b,O b→F' (.b b)) {t:Ty} {xs:List t.El} {ys:List (vU tE t).El} (hxy:zKY (zAG st t) xs=some ys) {b k cap:Nat}
  (hr:qC w F b k cap (xs.map t.enc)):qC w F' b k cap (ys.map (vU tE t).enc):=by
 obtain ⟨hlen,jA⟩:=zKX hxy
 obtain ⟨c,et,h1,h2,h3,h4,h5⟩:=hr
 refine ⟨c,et,h1,h2,by simpa [←hlen] using h3,?_,?_⟩
 ·intro e he
  simp only [List.mem_map] at he
  obtain ⟨y0,hy0,rfl⟩:=he
  rw [wL,kK]
  obtain ⟨j,hj⟩:=List.getElem?_of_mem hy0
  obtain ⟨x0,hx0,_⟩:=jA j y0 hj
  have:=h4 (t.enc x0) (List.mem_map_of_mem (List.mem_of_getElem? hx0))
  rw [wL] at this;exact this
 ·intro i j e d' x hi hj hx
  simp only [List.getElem?_map,Option.map_eq_some_iff] at hi
  obtain ⟨y0,hy0,rfl⟩:=hi
  obtain ⟨x0,hx0,hxy0⟩:=jA i y0 hy0
  rw [qW] at hj
  have hjl:j< (t.cells x0).length:=by
   have:=(List.getElem?_eq_some_iff.1 hj).1
   rw [q9,kK] at this;rw [q9];exact this
  exact zLE h hF hO t x0 y0 hxy0 j _ (t.cells x0)[j] d' (by simp [hjl]) hj (h5 i j (t.enc x0) _ x (by simp [hx0]) (by rw [qW];simp [hjl]) hx)
theorem zXz (h:zVE tE st F O w hb hc) (hF: ∀b:Nat,F b→F' b) (hO: ∀b,O b→F' (.b b)) (hF': ∀b:Nat,F' b→F b∨O b) {N:Nat} {R:RTy} {x:R.El} {y:(zSl tE R).El} (hxy:zXA st R x=some y) {v:Value}
  (hr:xZ N w F O v (R.res x)):xZ N w F' (fun _=>False) v ((zSl tE R).res y):=by
 cases R with
 |p ty=>exact zVL h hF hO ty x y hxy hr
 |o ty=>
  have hxy:zKY (zAG st ty) x=some y:=hxy
  obtain ⟨hlen,_⟩:=zKX hxy
  rcases hr with ⟨h0,hv⟩|⟨h0,b,cap,h1,h2,h3,h4,h5,k,h6⟩
  ·have hx0:x=[]:=by simpa using h0
   subst hx0
   have hy0:y=[]:=List.eq_nil_of_length_eq_zero hlen.symm
   subst hy0
   exact .inl ⟨rfl,hv⟩
  ·refine .inr ⟨?_,b,cap,by rw [h1];simp [hlen],h2,h3,fun hh=>(hF' b hh).elim h4 h5,fun hh=>hh,k,zXy h hF hO hxy h6⟩
   intro hh
   have hy0:y=[]:=by simpa using hh
   subst hy0
   have hx0:x=[]:=List.eq_nil_of_length_eq_zero hlen
   subst hx0
   exact h0 rfl
 |tu tys=>
  have hr:Rd w F v (.tup (kJ tys x)):=hr
  obtain ⟨k1,k2⟩:=zSk h hF hO tys x y hxy
  cases hr with
  |tup cs _ hl hh=>
   refine Rd.tup cs (kJ (zG6 tE tys) y) (hl.trans k1) ?_
   intro i u d hi hd
   have hlt:i< (kJ tys x).length:=by rw [k1];exact (List.getElem?_eq_some_iff.1 hd).1
   exact k2 i u _ d (List.getElem?_eq_getElem hlt) hd (hh i u _ hi (List.getElem?_eq_getElem hlt))
end
def zN3 {tE:Ty} {X:Type} (R:RTy) (g:HSt tE→X→Option (HSt tE×R.El)) (x:X):Option (zSl tE R).El:=
 match g [] x with
 |some (st,y)=>zXA st R y
 |none=>none
theorem zMN {tE:Ty} {P:Program} {G:Nat→Option (List V)} (hG0: ∀g,G g=none) {f:FuncId} {ts:List Ty} (hts:ts.all Ty.norf=true) {R:RTy} {g:HSt tE→ElS ts→Option (HSt tE×R.El)}
  (h:wV (wC tE) P G f (qP (zMH (zEY ts) R g))):wV jV P G f (qP (wF ts (zSl tE R) (zN3 R g))):=by
 intro w F O s args ds s' r hsig hG hF hlen hrd hspec
 simp only [qP,wF,vA] at hspec
 cases hx:zEY ts ds with
 |none=>rw [hx] at hspec;cases hspec
 |some x=>
  rw [hx] at hspec
  simp only [Option.map_eq_some_iff,Prod.mk.injEq] at hspec
  obtain ⟨y,hy,rfl,rfl⟩:=hspec
  unfold zN3 at hy
  split at hy
  ·rename_i st y0 hg
   have hwk:=uS ts ds x hx
   let F0:Blk→Prop:=fun b=>match b with
    | .b n=>F (.b n)
    | .h _ _ _ _=>False
   have hR0:(wC tE).R [] F0 (fun _=>False) w:=⟨fun _=>0,fun _=>0,fun id xs hh=>by simp at hh,fun id _ a n c hh=>hh,fun id xs hh=>by simp at hh,fun id id' xs xs' hh=>by simp at hh,fun b hh=>hh.elim⟩
   have hcall:=h w F0 (fun _=>False) [] args (kJ ts x) st (R.res y0) hR0 (fun g cs hg=>by rw [hG0 g] at hg;cases hg) (fun b hb=>⟨(hF b hb).1,fun hh=>hh⟩) (hlen.trans hwk.len) (by
    intro i u d hu hd
    have hlt:i<ds.length:=by rw [hwk.len];exact (List.getElem?_eq_some_iff.1 hd).1
    have:=hwk.get i ds[i] d (by simp [hlt]) hd w F u (hrd i u ds[i] hu (by simp [hlt]))
    exact zMd (F:=F) (F':=F0) (fun b hb=>hb) ts x hts i u d hd this) (by simp only [qP,zMH,zEc];rw [hg];rfl)
   refine hcall.mono ?_
   rintro e w' ⟨v,F',O',rfl,⟨hb,hc,g1⟩,g2,g3,g4,g5,g6⟩
   let F'':Blk→Prop:=fun b=>match b with
    | .b n=>F' (.b n)∨O' n
    | .h id a n c=>F (.h id a n c)
   refine ⟨v,F'',fun _=>False,rfl,fun _ hh=>hh,⟨g2.os,g2.tape,g2.output,g2.size,fun b hb _=>g2.block b hb (fun hh=>hh),g2.drawn⟩,fun b hh=>hh.elim,?_,?_,?_⟩
   ·intro b hb0
    cases b with
    |b n=>exact .inl (g4 (.b n) hb0)
    |h _ _ _ _=>exact hb0
   ·intro b hb0
    rcases hb0 with hb0|hb0
    ·obtain ⟨k1,k2,_⟩:=g5 b hb0
     exact ⟨k1,k2,fun hh=>hh⟩
    ·refine ⟨.inr ((g3 b hb0).elim (fun hh=>hh.elim) (fun hh=>hh)),(wC tE).inb (⟨hb,hc,g1⟩:(wC tE).R st F' O' w') b hb0,fun hh=>hh⟩
   ·exact zXz (F':=F'') g1 (fun b hh=> .inl hh) (fun b hh=> .inr hh) (fun b hh=>hh) hy g6
  ·cases hy
def zZK {St:Type} (S:St→List V→Option (St×RV)) (ts:List Ty) (R:RTy) (s:St) (x:ElS ts):Option (St×R.El):=
 match S s (kJ ts x) with
 |some (s',r)=>match R.get r with
  |some y=>some (s',y)
  |none=>none
 |none=>none
theorem zWW {Γ:Sig} {P:Program} {G:Nat→Option (List V)} {f:FuncId} {S:Γ.St→List V→Option (Γ.St×RV)} (h:wV Γ P G f S) (ts:List Ty) (R:RTy):
  wV Γ P G f (qP (zMH (zEY ts) R (zZK S ts R))):=by
 intro w F O s args ds s' r hsig hG hF hlen hrd hspec
 simp only [qP,zMH] at hspec
 cases hx:zEY ts ds with
 |none=>rw [hx] at hspec;cases hspec
 |some x=>
  rw [hx] at hspec
  simp only [Option.map_eq_some_iff,Prod.mk.injEq] at hspec
  obtain ⟨⟨s1,y⟩,hy,rfl,rfl⟩:=hspec
  unfold zZK at hy
  split at hy
  ·rename_i s2 r0 hS
   split at hy
   ·rename_i y0 hy0
    simp only [Option.some.injEq,Prod.mk.injEq] at hy
    obtain ⟨rfl,rfl⟩:=hy
    have hwk:=uS ts ds x hx
    have hcall:=h w F O s args (kJ ts x) s2 r0 hsig hG hF (hlen.trans hwk.len) (by
     intro i u d hu hd
     have hlt:i<ds.length:=by rw [hwk.len];exact (List.getElem?_eq_some_iff.1 hd).1
     exact hwk.get i ds[i] d (by simp [hlt]) hd w F u (hrd i u ds[i] hu (by simp [hlt]))) hS
    refine hcall.mono ?_
    rintro e w' ⟨v,F',O',rfl,g1,g2,g3,g4,g5,g6⟩
    obtain ⟨F'',k1,kh,k2,k3⟩:=RTy.get_sound hy0 g6
    refine ⟨v,F'',O',rfl,Γ.mono g1 kh (fun _ _=>rfl),g2,g3,fun b hb=>k1 b (g4 b hb),?_,k3⟩
    intro b hb
    rcases k2 b hb with hb|⟨h1,h2,h3⟩
    ·exact g5 b hb
    ·exact ⟨.inr h1,h2,h3⟩
   ·cases hy
  ·cases hy
theorem zTn {Γ:Sig} {P:Program} {G:Nat→Option (List V)} {f:FuncId} {S S':Γ.St→List V→Option (Γ.St×RV)} (h:wV Γ P G f S) (hs: ∀s ds r,S' s ds=some r→S s ds=some r):wV Γ P G f S':=
 fun w F O s args ds s' r a1 a2 a3 a4 a5 a6=>h w F O s args ds s' r a1 a2 a3 a4 a5 (hs _ _ _ a6)
end Go.Ve

namespace Go.Ve
open Go
set_option maxRecDepth 1000000
noncomputable def zF8:ElS [zD]→Option (RTy.El (.p .bool)):=fun x=>match x with|(a1,())=>Option.bind (bif decide ((↑(List.length a1.2.2.1):Int)>(12:Int)) then some true else bif decide ((↑(List.length a1.2.2.2.1):Int)>(12:Int)) then some true else bif decide ((↑(List.length a1.2.2.2.2.1):Int)>(12:Int)) then some true else bif decide ((↑(List.length a1.2.2.2.2.2.1):Int)>(12:Int)) then some true else bif decide ((↑(List.length a1.2.2.2.2.2.2.1):Int)>(12:Int)) then some true else bif decide ((↑(List.length a1.2.2.2.2.2.2.2.1):Int)>(20:Int)) then some true else bif decide ((↑(List.length a1.2.2.2.2.2.2.2.2.1.2.2.1):Int)>(8:Int)) then some true else bif decide ((↑(List.length a1.2.2.2.2.2.2.2.2.1.2.2.2.1):Int)>(8:Int)) then some true else bif decide ((↑(List.length a1.2.2.2.2.2.2.2.2.2.1.2.2.2.2.1):Int)>(8:Int)) then some true else bif decide ((↑(List.length a1.2.2.2.2.2.2.2.2.2.2.1.2.2.2.2.2.2.2.1):Int)>(8:Int)) then some true else bif decide ((↑(List.length a1.2.2.2.2.2.2.2.2.2.2.1.2.2.2.1):Int)>(12:Int)) then some true else bif decide ((↑(List.length a1.2.2.2.2.2.2.2.2.2.2.1.2.2.2.2.1):Int)>(12:Int)) then some true else bif decide ((↑(List.length a1.2.2.2.2.2.2.2.2.2.2.1.2.2.2.2.2.1):Int)>(12:Int)) then some true else some (decide ((↑(List.length a1.2.2.2.2.2.2.2.2.2.2.1.2.2.2.2.2.2.1):Int)>(12:Int)))) fun (s0:Bool)=>bif s0 then some false else qT (zP (fun (s5:Int)=>bif decide (s5< (↑(List.length a1.2.2.2.1):Int)) then Option.bind (idx a1.2.2.2.1 s5) fun (y6:Ty.El j4)=>bif decide ((↑(List.length y6.2.1):Int)>(20:Int)) then some (Sum.inr (Sum.inr false)) else some (Sum.inl (IntKind.wrap IntKind.i64 (s5+(1:Int)))) else some (Sum.inr (Sum.inl ()))) (0:Int)) fun (s7:Unit)=>qT (zP (fun (s12:Int)=>bif decide (s12< (↑(List.length a1.2.2.2.2.1):Int)) then Option.bind (idx a1.2.2.2.2.1 s12) fun (y13:Ty.El vW)=>bif decide ((↑(List.length y13.2.1):Int)>(12:Int)) then some (Sum.inr (Sum.inr false)) else some (Sum.inl (IntKind.wrap IntKind.i64 (s12+(1:Int)))) else some (Sum.inr (Sum.inl ()))) (0:Int)) fun (s14:Unit)=>qT (zP (fun (s19:Int)=>bif decide (s19< (↑(List.length a1.2.2.2.2.2.1):Int)) then Option.bind (idx a1.2.2.2.2.2.1 s19) fun (y20:Ty.El zLG)=>bif decide ((↑(List.length y20.2.1):Int)>(20:Int)) then some (Sum.inr (Sum.inr false)) else some (Sum.inl (IntKind.wrap IntKind.i64 (s19+(1:Int)))) else some (Sum.inr (Sum.inl ()))) (0:Int)) fun (s21:Unit)=>some true
noncomputable def zEA:ElS [zW]→Option (RTy.El (.p .bool)):=fun x=>match x with|(a1,())=>bif decide ((↑(List.length a1.1):Int)>(9:Int)) then some false else qT (zP (fun (s6:Int)=>bif decide (s6< (↑(List.length a1.1):Int)) then Option.bind (idx a1.1 s6) fun (y7:Ty.El zD)=>Option.bind (zF8 (y7,())) fun (y8:Bool)=>bif !y8 then some (Sum.inr (Sum.inr false)) else some (Sum.inl (IntKind.wrap IntKind.i64 (s6+(1:Int)))) else some (Sum.inr (Sum.inl ()))) (0:Int)) fun (s9:Unit)=>some true
noncomputable def zBV:ElS [zH,zH]→Option (RTy.El (.p tI)):=fun x=>match x with|(a1,a2,())=>Option.bind (bif decide (a1.1<a2.1) then some true else bif a1.1==a2.1 then some (decide (a1.2.1<a2.2.1)) else some false) fun (s0:Bool)=>bif s0 then some (-1:Int) else bif a1.1==a2.1&&(a1.2.1==a2.2.1&&true) then some (0:Int) else some (1:Int)
noncomputable def zCP:HSt zM→ElS [zW]→Option (HSt zM×RTy.El (.tu [zHa,tI])):=fun st0 x=>match x with|(a1,())=>Option.bind (uK (a1,())) fun (y0:Int)=>bif y0 !=(0:Int) then some (st0,([],[],()),y0,()) else Option.bind (zP (fun (s1:Int×(List (Ty.El zR)×List Int)×HSt zM)=>bif decide (s1.1< (↑(List.length a1.1):Int)) then Option.bind (zP (fun (s2:Int×(List (Ty.El zR)×List Int)×HSt zM)=>Option.bind (idx a1.1 s1.1) fun (y3:Ty.El zD)=>bif decide (s2.1< (↑(List.length y3.2.2.1):Int)) then Option.bind (Option.bind (idx a1.1 s1.1) fun (y4:Ty.El zD)=>Option.bind (idx y4.2.2.1 s2.1) fun (y5:Ty.El z2)=>Option.bind (bif y5.2.2.1==(0:Int) then some (true,s2.2) else some (y5.2.2.2.2.1,s2.2)) fun (s6:Bool×(List (Ty.El zR)×List Int)×HSt zM)=>bif s6.1 then some s6.2 else Option.bind (w7 (y5.2.1,y5.2.2.1,())) fun (y7:Int×Int×Unit)=>Option.bind (zP (fun (s8:Int×(List (Ty.El zR)×List Int)×HSt zM)=>Option.bind (bif decide (s8.1< (↑(List.length s8.2.1.1):Int)) then Option.bind (idx s8.2.1.1 s8.1) fun (y16:Ty.El zR)=>Option.bind (atN s8.2.1.1 (Int.toNat s8.1)) fun (y17:Ty.El zR)=>Option.bind (zBV (y17.1,y7,())) fun (y18:Int)=>bif decide (y18< (0:Int)) then some (true,s8.2) else Option.bind (idx s8.2.1.1 s8.1) fun (y19:Ty.El zR)=>Option.bind (atN s8.2.1.1 (Int.toNat s8.1)) fun (y20:Ty.El zR)=>bif y20.1.1==y7.1&&(y20.1.2.1==y7.2.1&&true) then Option.bind (idx s8.2.1.1 s8.1) fun (y21:Ty.El zR)=>Option.bind (atN s8.2.1.1 (Int.toNat s8.1)) fun (y22:Ty.El zR)=>some (decide (y22.2.1<y5.2.2.2.1),s8.2) else some (false,s8.2) else some (false,s8.2)) fun (s23:Bool×(List (Ty.El zR)×List Int)×HSt zM)=>bif s23.1 then some (Sum.inl (IntKind.wrap IntKind.i64 (s8.1+(1:Int)),s23.2)) else some (Sum.inr (s8.1,s23.2))) ((0:Int),s6.2)) fun (s24:Int×(List (Ty.El zR)×List Int)×HSt zM)=>Option.bind (Option.bind (bif s24.1==(↑(List.length s24.2.1.1):Int) then some (true,s24.2) else Option.bind (idx s24.2.1.1 s24.1) fun (y29:Ty.El zR)=>Option.bind (atN s24.2.1.1 (Int.toNat s24.1)) fun (y30:Ty.El zR)=>bif !(y30.1.1==y7.1&&(y30.1.2.1==y7.2.1&&true)) then some (true,s24.2) else Option.bind (idx s24.2.1.1 s24.1) fun (y31:Ty.El zR)=>Option.bind (atN s24.2.1.1 (Int.toNat s24.1)) fun (y32:Ty.El zR)=>some (y32.2.1 !=y5.2.2.2.1,s24.2)) fun (s33:Bool×(List (Ty.El zR)×List Int)×HSt zM)=>bif s33.1 then bif decide ((0:Int)≤s24.1)&&decide (s24.1≤(↑(List.length s33.2.1.1):Int))&&decide ((↑(List.length s33.2.1.1):Int)≤(↑(List.length s33.2.1.1):Int)) then Option.bind (app (48:Nat) [] (List.drop (Int.toNat s24.1) (List.take (Int.toNat (↑(List.length s33.2.1.1):Int)) s33.2.1.1))) fun (y34:List (Ty.El zR))=>bif decide ((0:Int)≤(0:Int))&&decide ((0:Int)≤s24.1)&&decide (s24.1≤(↑(List.length s33.2.1.1):Int)) then Option.bind (app (48:Nat) (List.take (Int.toNat s24.1) s33.2.1.1) [(y7,y5.2.2.2.1,none,())]) fun (y35:List (Ty.El zR))=>Option.bind (app (48:Nat) y35 y34) fun (y36:List (Ty.El zR))=>some ((y36,s33.2.1.2),s33.2.2) else none else none else some s33.2) fun (s37:(List (Ty.El zR)×List Int)×HSt zM)=>Option.bind (idx s37.1.1 s24.1) fun (y38:Ty.El zR)=>Option.bind (atN s37.1.1 (Int.toNat s24.1)) fun (y39:Ty.El zR)=>Option.bind (zQb (16:Nat) s37.2 y39.2.2.1 [(s1.1,s2.1,())]) fun (y40:List (Option (List (Ty.El zM)))×Option (Nat×Nat))=>Option.bind (idx s37.1.1 s24.1) fun (y41:Ty.El zR)=>Option.bind (atN s37.1.1 (Int.toNat s24.1)) fun (y42:Ty.El zR)=>some ((List.set s37.1.1 (Int.toNat s24.1) (y42.1,y42.2.1,y40.2,()),s37.1.2),y40.1)) fun (s43:(List (Ty.El zR)×List Int)×HSt zM)=>some (Sum.inl (IntKind.wrap IntKind.i64 (s2.1+(1:Int)),s43)) else some (Sum.inr s2.2)) ((0:Int),s1.2)) fun (s44:(List (Ty.El zR)×List Int)×HSt zM)=>some (Sum.inl (IntKind.wrap IntKind.i64 (s1.1+(1:Int)),s44)) else some (Sum.inr s1.2)) ((0:Int),([],[]),st0)) fun (s45:(List (Ty.El zR)×List Int)×HSt zM)=>Option.bind (zP (fun (s67:Int×(List (Ty.El zR)×List Int)×HSt zM)=>bif decide (s67.1< (↑(List.length s67.2.1.1):Int)) then Option.bind (Option.bind (idx s67.2.1.1 s67.1) fun (y68:Ty.El zR)=>Option.bind (atN s67.2.1.1 (Int.toNat s67.1)) fun (y69:Ty.El zR)=>bif decide ((↑(zVU y69.2.2.1):Int)>(1:Int)) then Option.bind (app (8:Nat) s67.2.1.2 [s67.1]) fun (y70:List Int)=>some ((s67.2.1.1,y70),s67.2.2) else some s67.2) fun (s71:(List (Ty.El zR)×List Int)×HSt zM)=>some (Sum.inl (IntKind.wrap IntKind.i64 (s67.1+(1:Int)),s71)) else some (Sum.inr s67.2)) ((0:Int),s45)) fun (s72:(List (Ty.El zR)×List Int)×HSt zM)=>bif decide ((↑(List.length s72.1.2):Int)>(12:Int)) then some (s72.2,([],[],()),(7:Int),()) else some (s72.2,(s72.1.1,s72.1.2,()),(0:Int),())
noncomputable def zEw:ElS [zW]→Option (RTy.El (.tu [zKh,tI])):=zN3 (.tu [zHa,tI]) zCP
noncomputable def zA9:ElS [(.sl tI),tI]→Option (RTy.El (.p .bool)):=fun x=>match x with|(a1,a2,())=>bif decide ((↑(List.length a1):Int)>(2:Int)) then some false else qT (zP (fun (s20:Int)=>bif decide (s20< (↑(List.length a1):Int)) then Option.bind (Option.bind (idx a1 s20) fun (y21:Int)=>bif decide (y21< (0:Int)) then some true else Option.bind (idx a1 s20) fun (y22:Int)=>bif decide (y22≥a2) then some true else bif decide (s20>(0:Int)) then Option.bind (idx a1 s20) fun (y23:Int)=>Option.bind (idx a1 (IntKind.wrap IntKind.i64 (s20- (1:Int)))) fun (y24:Int)=>some (decide (y23≤y24)) else some false) fun (s25:Bool)=>bif s25 then some (Sum.inr (Sum.inr false)) else some (Sum.inl (IntKind.wrap IntKind.i64 (s20+(1:Int)))) else some (Sum.inr (Sum.inl ()))) (0:Int)) fun (s26:Unit)=>some true
noncomputable def zFQ:ElS [zW,(.sl tI)]→Option (RTy.El (.tu [zS,tI])):=fun x=>match x with|(a1,a2,())=>Option.bind (zEw (a1,())) fun (y0:Ty.El zKh×Int×Unit)=>bif y0.2.1 !=(0:Int) then some ((([],()),([],[],()),[],()),y0.2.1,()) else Option.bind (zA9 (a2,(↑(List.length y0.1.2.1):Int),())) fun (y1:Bool)=>bif !y1 then some ((([],()),([],[],()),[],()),(1:Int),()) else Option.bind (app (8:Nat) [] a2) fun (y3:List Int)=>some ((a1,y0.1,y3,()),(0:Int),())
noncomputable def zF9:ElS [zW,(.sl tI)]→Option (RTy.El (.tu [zS, .bool])):=fun x=>match x with|(a1,a2,())=>Option.bind (Option.bind (zEA (a1,())) fun (y1:Bool)=>bif !y1 then some true else some (decide ((↑(List.length a2):Int)>(2:Int)))) fun (s2:Bool)=>bif s2 then some ((([],()),([],[],()),[],()),false,()) else Option.bind (zFQ (a1,a2,())) fun (y3:Ty.El zS×Int×Unit)=>some (y3.1,y3.2.1==(0:Int),())
noncomputable def jF:ElS [tI,tI,tI]→Option (RTy.El (.p .bool)):=fun x=>match x with|(a1,a2,a3,())=>Option.bind (bif decide (a2≤a1) then some (decide (a1≤a3)) else some false) fun (s0:Bool)=>some s0
noncomputable def yW:ElS [zA, .bool, .bool, .bool]→Option (RTy.El (.p .bool)):=fun x=>match x with|(a1,a2,a3,a4,())=>Option.bind (bif a2 then bif a3 then bif a4 then some true else some (a1.2.2.2.2.2.2.2.2.2.2.1==(0:Int)) else bif a1.2.2.2.2.2.2.2.1==(0:Int) then bif (↑(List.length a1.2.2.2.2.2.2.2.2.1):Int)==(0:Int) then bif a1.2.2.2.2.2.2.2.2.2.1==(0:Int) then bif a4 then some true else some (a1.2.2.2.2.2.2.2.2.2.2.1==(0:Int)) else some false else some false else some false else bif a1.2.2.2.2.2.1==(0:Int) then bif a3 then bif a4 then some true else some (a1.2.2.2.2.2.2.2.2.2.2.1==(0:Int)) else bif a1.2.2.2.2.2.2.2.1==(0:Int) then bif (↑(List.length a1.2.2.2.2.2.2.2.2.1):Int)==(0:Int) then bif a1.2.2.2.2.2.2.2.2.2.1==(0:Int) then bif a4 then some true else some (a1.2.2.2.2.2.2.2.2.2.2.1==(0:Int)) else some false else some false else some false else some false) fun (s0:Bool)=>some s0
noncomputable def zCO:ElS [qS,qS]→Option (RTy.El (.p .bool)):=fun x=>match x with|(a1,a2,())=>Option.bind (bif decide (a1.1<a2.1) then some true else bif a1.1==a2.1 then some (decide (a1.2.1<a2.2.1)) else some false) fun (s0:Bool)=>some s0
noncomputable def uM:ElS [(.sl qS), .bool]→Option (RTy.El (.p .bool)):=fun x=>match x with|(a1,a2,())=>qT (zP (fun (s28:Int)=>bif decide (s28< (↑(List.length a1):Int)) then Option.bind (Option.bind (idx a1 s28) fun (y29:Ty.El qS)=>bif decide (y29.1< (0:Int)) then some true else bif decide (s28>(0:Int)) then Option.bind (idx a1 (IntKind.wrap IntKind.i64 (s28- (1:Int)))) fun (y30:Ty.El qS)=>Option.bind (idx a1 s28) fun (y31:Ty.El qS)=>Option.bind (zCO (y30,y31,())) fun (y32:Bool)=>bif !y32 then some true else Option.bind (idx a1 s28) fun (y33:Ty.El qS)=>some !(y33.2.1==(0:Int))==a2 else Option.bind (idx a1 s28) fun (y34:Ty.El qS)=>some !(y34.2.1==(0:Int))==a2) fun (s35:Bool)=>bif s35 then some (Sum.inr (Sum.inr false)) else some (Sum.inl (IntKind.wrap IntKind.i64 (s28+(1:Int)))) else some (Sum.inr (Sum.inl ()))) (0:Int)) fun (s36:Unit)=>some true
noncomputable def x8:ElS [zA]→Option (RTy.El (.p .bool)):=fun x=>match x with|(a1,())=>Option.bind (bif a1.2.2.1 !=(0:Int) then some true else bif a1.2.2.2.2.1 !=(0:Int) then some true else Option.bind (jF (a1.2.2.2.1,(1:Int),(255:Int),())) fun (y2:Bool)=>bif !y2 then some true else Option.bind (yW (a1,false,false,true,())) fun (y3:Bool)=>some !y3) fun (s4:Bool)=>bif s4 then some false else bif a1.2.2.2.2.2.2.2.2.2.2.1 !=(0:Int) then Option.bind (bif (↑(List.length a1.2.2.2.2.2.2.2.2.2.2.2.1):Int)==(0:Int) then some !a1.2.2.2.2.2.2.2.2.2.2.2.2.1 else some false) fun (s5:Bool)=>some s5 else bif a1.2.2.2.2.2.2.2.2.2.2.2.2.1 then some ((↑(List.length a1.2.2.2.2.2.2.2.2.2.2.2.1):Int)==(0:Int)) else Option.bind (bif (↑(List.length a1.2.2.2.2.2.2.2.2.2.2.2.1):Int)==(1:Int) then Option.bind (uM (a1.2.2.2.2.2.2.2.2.2.2.2.1,true,())) fun (y7:Bool)=>some y7 else some false) fun (s8:Bool)=>some s8
noncomputable def kW:ElS [zA]→Option (RTy.El (.p .bool)):=fun x=>match x with|(a1,())=>Option.bind (Option.bind (jF (a1.2.2.1,(1:Int),(4:Int),())) fun (y4:Bool)=>bif !y4 then some true else Option.bind (jF (a1.2.2.2.1,(1:Int),(255:Int),())) fun (y5:Bool)=>bif !y5 then some true else Option.bind (jF (a1.2.2.2.2.1,(0:Int),(1073741824:Int),())) fun (y6:Bool)=>bif !y6 then some true else Option.bind (yW (a1,true,false,false,())) fun (y7:Bool)=>some !y7) fun (s8:Bool)=>bif s8 then some false else Option.bind (Option.bind (jF (a1.2.2.2.2.2.1,(0:Int),(1073741824:Int),())) fun (y10:Bool)=>bif !y10 then some true else bif a1.2.2.1 !=(4:Int) then some (a1.2.2.2.2.2.1 !=(0:Int)) else some false) fun (s11:Bool)=>bif s11 then some false else bif a1.2.2.2.2.2.2.2.2.2.2.2.2.1 then Option.bind (bif a1.2.2.1==(1:Int) then bif a1.2.2.2.2.1==(0:Int) then bif a1.2.2.2.2.2.2.1==(0:Int) then some ((↑(List.length a1.2.2.2.2.2.2.2.2.2.2.2.1):Int)==(0:Int)) else some false else some false else some false) fun (s12:Bool)=>some s12 else Option.bind (bif decide ((↑(List.length a1.2.2.2.2.2.2.2.2.2.2.2.1):Int)>(0:Int)) then Option.bind (uM (a1.2.2.2.2.2.2.2.2.2.2.2.1,false,())) fun (y14:Bool)=>some y14 else some false) fun (s15:Bool)=>some s15
noncomputable def u4:ElS [zA]→Option (RTy.El (.p .bool)):=fun x=>match x with|(a1,())=>Option.bind (Option.bind (jF (a1.2.2.2.1,(1:Int),(255:Int),())) fun (y3:Bool)=>bif !y3 then some true else Option.bind (jF (a1.2.2.2.2.1,(1:Int),(15:Int),())) fun (y4:Bool)=>bif !y4 then some true else Option.bind (yW (a1,false,false,false,())) fun (y5:Bool)=>bif !y5 then some true else some a1.2.2.2.2.2.2.2.2.2.2.2.2.1) fun (s6:Bool)=>bif s6 then some false else bif a1.2.2.1==(1:Int) then Option.bind (bif a1.2.2.2.2.1==(1:Int) then bif a1.2.2.2.2.2.2.1==(0:Int) then bif (↑(List.length a1.2.2.2.2.2.2.2.2.2.2.2.1):Int)==(1:Int) then Option.bind (uM (a1.2.2.2.2.2.2.2.2.2.2.2.1,true,())) fun (y8:Bool)=>some y8 else some false else some false else some false) fun (s9:Bool)=>some s9 else bif a1.2.2.1==(2:Int) then some ((↑(List.length a1.2.2.2.2.2.2.2.2.2.2.2.1):Int)==(0:Int)) else bif a1.2.2.1==(3:Int) then Option.bind (bif decide ((↑(List.length a1.2.2.2.2.2.2.2.2.2.2.2.1):Int)>(0:Int)) then Option.bind (uM (a1.2.2.2.2.2.2.2.2.2.2.2.1,false,())) fun (y11:Bool)=>some y11 else some false) fun (s12:Bool)=>some s12 else some false
noncomputable def zA7:ElS [zA]→Option (RTy.El (.p .bool)):=fun x=>match x with|(a1,())=>Option.bind (Option.bind (jF (a1.2.2.2.1,(1:Int),(255:Int),())) fun (y4:Bool)=>bif !y4 then some true else Option.bind (jF (a1.2.2.2.2.1,(0:Int),(16777215:Int),())) fun (y5:Bool)=>bif !y5 then some true else Option.bind (jF (a1.2.2.2.2.2.2.2.1,(0:Int),(1000000:Int),())) fun (y6:Bool)=>bif !y6 then some true else Option.bind (yW (a1,false,true,false,())) fun (y7:Bool)=>some !y7) fun (s8:Bool)=>bif s8 then some false else Option.bind (bif a1.2.2.1==(1:Int) then some (a1.2.2.1==(1:Int)) else some (a1.2.2.1==(2:Int))) fun (s9:Bool)=>bif s9 then Option.bind (bif (↑(List.length a1.2.2.2.2.2.2.2.2.1):Int)==(0:Int) then bif a1.2.2.2.2.2.2.2.2.2.1==(0:Int) then bif (↑(List.length a1.2.2.2.2.2.2.2.2.2.2.2.1):Int)==(0:Int) then some (a1.2.2.2.2.2.2.2.2.2.2.2.2.1==(a1.2.2.1==(2:Int))) else some false else some false else some false) fun (s10:Bool)=>some s10 else Option.bind (bif a1.2.2.1==(3:Int) then some (a1.2.2.1==(3:Int)) else some (a1.2.2.1==(4:Int))) fun (s11:Bool)=>bif s11 then Option.bind (bif a1.2.2.1==(4:Int) then bif a1.2.2.2.2.2.2.2.2.2.1 !=(0:Int) then bif (↑(List.length a1.2.2.2.2.2.2.2.2.2.2.2.1):Int)==(1:Int) then Option.bind (uM (a1.2.2.2.2.2.2.2.2.2.2.2.1,false,())) fun (y20:Bool)=>bif y20 then Option.bind (idx a1.2.2.2.2.2.2.2.2.2.2.2.1 (0:Int)) fun (y21:Ty.El qS)=>bif y21.2.1==a1.2.2.2.2.2.2.2.2.2.1 then some !a1.2.2.2.2.2.2.2.2.2.2.2.2.1 else some false else some false else some false else some false else bif decide ((↑(List.length a1.2.2.2.2.2.2.2.2.1):Int)>(0:Int)) then bif a1.2.2.2.2.2.2.2.2.2.1 !=(0:Int) then bif (↑(List.length a1.2.2.2.2.2.2.2.2.2.2.2.1):Int)==(1:Int) then Option.bind (uM (a1.2.2.2.2.2.2.2.2.2.2.2.1,false,())) fun (y22:Bool)=>bif y22 then Option.bind (idx a1.2.2.2.2.2.2.2.2.2.2.2.1 (0:Int)) fun (y23:Ty.El qS)=>bif y23.2.1==a1.2.2.2.2.2.2.2.2.2.1 then some !a1.2.2.2.2.2.2.2.2.2.2.2.2.1 else some false else some false else some false else some false else some false) fun (s24:Bool)=>some s24 else some false
noncomputable def zEv:ElS [zA]→Option (RTy.El (.p .bool)):=fun x=>match x with|(a1,())=>Option.bind (Option.bind (wY (a1.1,())) fun (y2:Bool)=>bif !y2 then some true else Option.bind (jF (a1.2.2.2.2.2.2.1,(0:Int),(65535:Int),())) fun (y3:Bool)=>bif !y3 then some true else some (decide ((↑(List.length a1.2.2.2.2.2.2.2.2.1):Int)>(64:Int)))) fun (s4:Bool)=>bif s4 then some false else qT (zP (fun (s11:Int)=>bif decide (s11< (↑(List.length a1.2.2.2.2.2.2.2.2.1):Int)) then Option.bind (idx a1.2.2.2.2.2.2.2.2.1 s11) fun (y12:Int)=>Option.bind (jF (y12,(1:Int),(65535:Int),())) fun (y13:Bool)=>bif !y13 then some (Sum.inr (Sum.inr false)) else some (Sum.inl (IntKind.wrap IntKind.i64 (s11+(1:Int)))) else some (Sum.inr (Sum.inl ()))) (0:Int)) fun (s14:Unit)=>bif a1.2.1==(1:Int) then Option.bind (bif a1.2.2.1==(0:Int) then bif a1.2.2.2.1==(0:Int) then bif a1.2.2.2.2.1==(0:Int) then bif a1.2.2.2.2.2.2.1==(0:Int) then Option.bind (yW (a1,false,false,false,())) fun (y17:Bool)=>bif y17 then bif !a1.2.2.2.2.2.2.2.2.2.2.2.2.1 then bif (↑(List.length a1.2.2.2.2.2.2.2.2.2.2.2.1):Int)==(1:Int) then Option.bind (uM (a1.2.2.2.2.2.2.2.2.2.2.2.1,true,())) fun (y18:Bool)=>some y18 else some false else some false else some false else some false else some false else some false else some false) fun (s19:Bool)=>some s19 else bif a1.2.1==(2:Int) then Option.bind (x8 (a1,())) fun (y20:Bool)=>some y20 else bif a1.2.1==(3:Int) then Option.bind (kW (a1,())) fun (y21:Bool)=>some y21 else bif a1.2.1==(4:Int) then Option.bind (u4 (a1,())) fun (y22:Bool)=>some y22 else bif a1.2.1==(5:Int) then Option.bind (zA7 (a1,())) fun (y23:Bool)=>some y23 else some false
noncomputable def zCI:ElS [tI]→Option (RTy.El (.p tI)):=fun x=>match x with|(a1,())=>some (if (if (32:Int)<a1 then (32:Int) else a1)>(0:Int) then if (32:Int)<a1 then (32:Int) else a1 else (0:Int))
noncomputable def zDM:ElS [tI]→Option (RTy.El (.p tU)):=fun x=>match x with|(a1,())=>Option.bind (zCI (a1,())) fun (y0:Int)=>bif decide ((0:Int)≤IntKind.wrap IntKind.i64 ((32:Int) -y0)) then some (IntKind.wrap IntKind.u32 ((4294967295:Int)*(2:Int)^min (Int.toNat (IntKind.wrap IntKind.i64 ((32:Int) -y0))) (IntKind.bits IntKind.u32))) else none
noncomputable def wO:ElS [zH,tU]→Option (RTy.El (.p .bool)):=fun x=>match x with|(a1,a2,())=>Option.bind (zDM (a1.2.1,())) fun (y1:Int)=>some (IntKind.wrap IntKind.u32 (↑(BitVec.toNat (BitVec.ofInt (IntKind.bits IntKind.u32) a2&&&BitVec.ofInt (IntKind.bits IntKind.u32) y1)):Int)==a1.1)
noncomputable def zA4:ElS [(.sl zA),zH,tU]→Option (RTy.El (.p tI)):=fun x=>match x with|(a1,a2,a3,())=>Option.bind (zP (fun (s36:Int×Int)=>bif decide (s36.1< (↑(List.length a1):Int)) then Option.bind (Option.bind (idx a1 s36.1) fun (y37:Ty.El zA)=>Option.bind (bif y37.1.1==a2.1&&(y37.1.2.1==a2.2.1&&true) then some true else Option.bind (wO (y37.1,a3,())) fun (y38:Bool)=>some !y38) fun (s39:Bool)=>bif s39 then some s36.2 else Option.bind (bif decide (s36.2< (0:Int)) then some true else Option.bind (idx a1 s36.2) fun (y40:Ty.El zA)=>some (decide (y37.1.2.1>y40.1.2.1))) fun (s41:Bool)=>bif s41 then some s36.1 else some s36.2) fun (s42:Int)=>some (Sum.inl (IntKind.wrap IntKind.i64 (s36.1+(1:Int)),s42)) else some (Sum.inr s36.2)) ((0:Int),(-1:Int))) fun (s43:Int)=>some s43
noncomputable def zBj:ElA [.d z2, .pp .str]→Option (RTy.El (.p .bool)):=fun x=>match x with|(a1,a2,())=>some (a1.1==a2)
noncomputable def wT:ElA [.d (.sl z2), .clo 63 [(true, .str)]]→Option (RTy.El (.p tI)):=fun x=>match x with|(a1,(a2,()),())=>qT (zP (fun (s6:Int)=>bif decide (s6< (↑(List.length a1):Int)) then Option.bind (idx a1 s6) fun (y7:Ty.El z2)=>Option.bind (zBj (y7,a2,())) fun (y8:Bool)=>bif y8 then some (Sum.inr (Sum.inr s6)) else some (Sum.inl (IntKind.wrap IntKind.i64 (s6+(1:Int)))) else some (Sum.inr (Sum.inl ()))) (0:Int)) fun (s9:Unit)=>some (-1:Int)
noncomputable def zBa:ElS [zD, .str]→Option (RTy.El (.p tI)):=fun x=>match x with|(a1,a2,())=>Option.bind (wT (a1.2.2.1,(a2,()),())) fun (y0:Int)=>some y0
noncomputable def zAq:ElS [(.sl zM),zM]→Option (RTy.El (.p tI)):=fun x=>match x with|(a1,a2,())=>qT (zP (fun (s5:Int)=>bif decide (s5< (↑(List.length a1):Int)) then Option.bind (idx a1 s5) fun (y6:Ty.El zM)=>bif a2.1==y6.1&&(a2.2.1==y6.2.1&&true) then some (Sum.inr (Sum.inr s5)) else some (Sum.inl (IntKind.wrap IntKind.i64 (s5+(1:Int)))) else some (Sum.inr (Sum.inl ()))) (0:Int)) fun (s7:Unit)=>some (-1:Int)
noncomputable def uZ:ElS [(.sl zM),zM]→Option (RTy.El (.p .bool)):=fun x=>match x with|(a1,a2,())=>Option.bind (zAq (a1,a2,())) fun (y0:Int)=>some (decide (y0≥(0:Int)))
noncomputable def zBo:ElS [zS,tI,tI]→Option (RTy.El (.p tI)):=fun x=>match x with|(a1,a2,a3,())=>qT (zP (fun (s9:Int)=>bif decide (s9< (↑(List.length a1.2.1.1):Int)) then Option.bind (idx a1.2.1.1 s9) fun (y10:Ty.El uX)=>Option.bind (uZ (y10.2.2.1,(a2,a3,()),())) fun (y11:Bool)=>bif y11 then some (Sum.inr (Sum.inr s9)) else some (Sum.inl (IntKind.wrap IntKind.i64 (s9+(1:Int)))) else some (Sum.inr (Sum.inl ()))) (0:Int)) fun (s12:Unit)=>some (-1:Int)
noncomputable def yF:ElS [(.sl tI),tI]→Option (RTy.El (.p tI)):=fun x=>match x with|(a1,a2,())=>qT (zP (fun (s4:Int)=>bif decide (s4< (↑(List.length a1):Int)) then Option.bind (idx a1 s4) fun (y5:Int)=>bif a2==y5 then some (Sum.inr (Sum.inr s4)) else some (Sum.inl (IntKind.wrap IntKind.i64 (s4+(1:Int)))) else some (Sum.inr (Sum.inl ()))) (0:Int)) fun (s6:Unit)=>some (-1:Int)
noncomputable def zHX:ElS [zS,tI,tI]→Option (RTy.El (.p tI)):=fun x=>match x with|(a1,a2,a3,())=>Option.bind (zBo (a1,a2,a3,())) fun (y0:Int)=>bif decide (y0< (0:Int)) then some (-1:Int) else Option.bind (yF (a1.2.1.2.1,y0,())) fun (y1:Int)=>some y1
noncomputable def vL:ElS [(.sl tI),tI]→Option (RTy.El (.p .bool)):=fun x=>match x with|(a1,a2,())=>Option.bind (yF (a1,a2,())) fun (y0:Int)=>some (decide (y0≥(0:Int)))
noncomputable def zHW:ElS [zS,tI,tI]→Option (RTy.El (.p .bool)):=fun x=>match x with|(a1,a2,a3,())=>Option.bind (zBo (a1,a2,a3,())) fun (y0:Int)=>bif decide (y0< (0:Int)) then some false else Option.bind (zHX (a1,a2,a3,())) fun (y1:Int)=>Option.bind (bif decide (y1< (0:Int)) then some true else Option.bind (vL (a1.2.2.1,y1,())) fun (y3:Bool)=>some !y3) fun (s4:Bool)=>some s4
noncomputable def zCN:ElS [zS,(.sl zA),tI]→Option (RTy.El (.p (.sl zA))):=fun x=>match x with|(a1,a2,a3,())=>Option.bind (bif decide (a3< (0:Int)) then some true else some (decide (a3≥(↑(List.length a1.1.1):Int)))) fun (s0:Bool)=>bif s0 then some [] else Option.bind (idx a1.1.1 a3) fun (y1:Ty.El zD)=>Option.bind (zP (fun (s60:Int×List (Ty.El zA))=>bif decide (s60.1< (↑(List.length y1.2.2.2.2.2.2.2.1):Int)) then Option.bind (Option.bind (idx y1.2.2.2.2.2.2.2.1 s60.1) fun (y61:Ty.El zFJ)=>qT (bif y61.2.1 !=(0:Int) then Option.bind (zA4 (a2,y61.1,y61.2.1,())) fun (y62:Int)=>Option.bind (bif decide (y62< (0:Int)) then some (true,s60.2) else Option.bind (idx a2 y62) fun (y63:Ty.El zA)=>some (y63.2.2.2.2.2.2.2.2.2.2.2.2.1,s60.2)) fun (s64:Bool×List (Ty.El zA))=>bif s64.1 then some (Sum.inr s64.2) else some (Sum.inl (s64.2,y61.1,(2:Int),(0:Int),y61.2.2.2.2.1,(0:Int),(0:Int),y61.2.2.2.2.2.1,(0:Int),[],(0:Int),y61.2.1,[],false,())) else bif y61.2.2.1 != { data:= #[] } then Option.bind (zBa (y1,y61.2.2.1,())) fun (y65:Int)=>Option.bind (zHW (a1,a3,y65,())) fun (y66:Bool)=>bif !y66 then some (Sum.inr s60.2) else some (Sum.inl (s60.2,y61.1,(2:Int),(0:Int),y61.2.2.2.2.1,(0:Int),(0:Int),y61.2.2.2.2.2.1,(0:Int),[],(0:Int),(0:Int),[(y65,(0:Int),())],false,())) else bif y61.2.2.2.1 then some (Sum.inl (s60.2,y61.1,(2:Int),(0:Int),y61.2.2.2.2.1,(0:Int),(0:Int),y61.2.2.2.2.2.1,(0:Int),[],(0:Int),(0:Int),[],true,())) else some (Sum.inr s60.2)) fun (s67:List (Ty.El zA)×Ty.El zA)=>Option.bind (app (136:Nat) s67.1 [s67.2]) fun (y68:List (Ty.El zA))=>some y68) fun (s69:List (Ty.El zA))=>some (Sum.inl (IntKind.wrap IntKind.i64 (s60.1+(1:Int)),s69)) else some (Sum.inr s60.2)) ((0:Int),[])) fun (s70:List (Ty.El zA))=>some s70
noncomputable def zBf:ElS [zA,zA]→Option (RTy.El (.p .bool)):=fun x=>match x with|(a1,a2,())=>Option.bind (bif !(a1.1.1==a2.1.1&&(a1.1.2.1==a2.1.2.1&&true)) then some true else bif a1.2.1 !=a2.2.1 then some true else bif a1.2.2.1 !=a2.2.2.1 then some true else bif a1.2.2.2.1 !=a2.2.2.2.1 then some true else bif a1.2.2.2.2.1 !=a2.2.2.2.2.1 then some true else bif a1.2.2.2.2.2.1 !=a2.2.2.2.2.2.1 then some true else bif a1.2.2.2.2.2.2.1 !=a2.2.2.2.2.2.2.1 then some true else bif a1.2.2.2.2.2.2.2.1 !=a2.2.2.2.2.2.2.2.1 then some true else bif a1.2.2.2.2.2.2.2.2.2.1 !=a2.2.2.2.2.2.2.2.2.2.1 then some true else bif a1.2.2.2.2.2.2.2.2.2.2.1 !=a2.2.2.2.2.2.2.2.2.2.2.1 then some true else bif !a1.2.2.2.2.2.2.2.2.2.2.2.2.1==a2.2.2.2.2.2.2.2.2.2.2.2.2.1 then some true else bif (↑(List.length a1.2.2.2.2.2.2.2.2.1):Int) !=(↑(List.length a2.2.2.2.2.2.2.2.2.1):Int) then some true else some ((↑(List.length a1.2.2.2.2.2.2.2.2.2.2.2.1):Int) !=(↑(List.length a2.2.2.2.2.2.2.2.2.2.2.2.1):Int))) fun (s0:Bool)=>bif s0 then some false else qT (zP (fun (s9:Int)=>bif decide (s9< (↑(List.length a1.2.2.2.2.2.2.2.2.1):Int)) then Option.bind (idx a1.2.2.2.2.2.2.2.2.1 s9) fun (y10:Int)=>Option.bind (idx a2.2.2.2.2.2.2.2.2.1 s9) fun (y11:Int)=>bif y10 !=y11 then some (Sum.inr (Sum.inr false)) else some (Sum.inl (IntKind.wrap IntKind.i64 (s9+(1:Int)))) else some (Sum.inr (Sum.inl ()))) (0:Int)) fun (s12:Unit)=>qT (zP (fun (s21:Int)=>bif decide (s21< (↑(List.length a1.2.2.2.2.2.2.2.2.2.2.2.1):Int)) then Option.bind (idx a1.2.2.2.2.2.2.2.2.2.2.2.1 s21) fun (y22:Ty.El qS)=>Option.bind (idx a2.2.2.2.2.2.2.2.2.2.2.2.1 s21) fun (y23:Ty.El qS)=>bif !(y22.1==y23.1&&(y22.2.1==y23.2.1&&true)) then some (Sum.inr (Sum.inr false)) else some (Sum.inl (IntKind.wrap IntKind.i64 (s21+(1:Int)))) else some (Sum.inr (Sum.inl ()))) (0:Int)) fun (s24:Unit)=>some true
noncomputable def zDC:ElS [tU,tI]→Option (RTy.El (.p zH)):=fun x=>match x with|(a1,a2,())=>Option.bind (zDM (a2,())) fun (y0:Int)=>Option.bind (zCI (a2,())) fun (y1:Int)=>some (IntKind.wrap IntKind.u32 (↑(BitVec.toNat (BitVec.ofInt (IntKind.bits IntKind.u32) a1&&&BitVec.ofInt (IntKind.bits IntKind.u32) y0)):Int),y1,())
noncomputable def zAC:ElS [tU]→Option (RTy.El (.p .bool)):=fun x=>match x with|(a1,())=>some (a1 !=a1)
noncomputable def wZ:ElS [tU,tU]→Option (RTy.El (.p tI)):=fun x=>match x with|(a1,a2,())=>Option.bind (zAC (a1,())) fun (y0:Bool)=>Option.bind (zAC (a2,())) fun (y1:Bool)=>bif y0 then bif y1 then some (0:Int) else some (-1:Int) else bif y1 then some (1:Int) else bif decide (a1<a2) then some (-1:Int) else bif decide (a1>a2) then some (1:Int) else some (0:Int)
noncomputable def zCQ:ElS [tI]→Option (RTy.El (.p .bool)):=fun x=>match x with|(a1,())=>some (a1 !=a1)
noncomputable def qA:ElS [tI,tI]→Option (RTy.El (.p tI)):=fun x=>match x with|(a1,a2,())=>Option.bind (zCQ (a1,())) fun (y0:Bool)=>Option.bind (zCQ (a2,())) fun (y1:Bool)=>bif y0 then bif y1 then some (0:Int) else some (-1:Int) else bif y1 then some (1:Int) else bif decide (a1<a2) then some (-1:Int) else bif decide (a1>a2) then some (1:Int) else some (0:Int)
noncomputable def zCj:ElS [zH,zH]→Option (RTy.El (.p tI)):=fun x=>match x with|(a1,a2,())=>Option.bind (wZ (a1.1,a2.1,())) fun (y0:Int)=>bif y0 !=(0:Int) then some y0 else Option.bind (qA (a1.2.1,a2.2.1,())) fun (y1:Int)=>some y1
noncomputable def zN:ElS [zA,zA]→Option (RTy.El (.p tI)):=fun x=>match x with|(a1,a2,())=>Option.bind (zCj (a1.1,a2.1,())) fun (y0:Int)=>some y0
noncomputable def z8:List (Ty.El zA)→ElA [.d tI, .d tI, .clo 26 []]→Option (List (Ty.El zA)×RTy.El (.tu [])):=fun a0 x=>match x with|(a1,a2,(),())=>zP (fun (s157:Int×List (Ty.El zA))=>bif decide (s157.1<a2) then Option.bind (zP (fun (s158:Int×List (Ty.El zA))=>Option.bind (bif decide (s158.1>a1) then Option.bind (idx s158.2 s158.1) fun (y159:Ty.El zA)=>Option.bind (atN s158.2 (Int.toNat s158.1)) fun (y160:Ty.El zA)=>Option.bind (idx s158.2 (IntKind.wrap IntKind.i64 (s158.1- (1:Int)))) fun (y161:Ty.El zA)=>Option.bind (atN s158.2 (Int.toNat (IntKind.wrap IntKind.i64 (s158.1- (1:Int))))) fun (y162:Ty.El zA)=>Option.bind (zN (y160,y162,())) fun (y163:Int)=>some (decide (y163< (0:Int)),s158.2) else some (false,s158.2)) fun (s164:Bool×List (Ty.El zA))=>bif s164.1 then Option.bind (idx s164.2 (IntKind.wrap IntKind.i64 (s158.1- (1:Int)))) fun (y165:Ty.El zA)=>Option.bind (atN s164.2 (Int.toNat (IntKind.wrap IntKind.i64 (s158.1- (1:Int))))) fun (y166:Ty.El zA)=>Option.bind (idx s164.2 s158.1) fun (y167:Ty.El zA)=>Option.bind (atN s164.2 (Int.toNat s158.1)) fun (y168:Ty.El zA)=>Option.bind (idx s164.2 s158.1) fun (y169:Ty.El zA)=>Option.bind (atN s164.2 (Int.toNat s158.1)) fun (y170:Ty.El zA)=>Option.bind (idx (List.set s164.2 (Int.toNat s158.1) y166) (IntKind.wrap IntKind.i64 (s158.1- (1:Int)))) fun (y171:Ty.El zA)=>Option.bind (atN (List.set s164.2 (Int.toNat s158.1) y166) (Int.toNat (IntKind.wrap IntKind.i64 (s158.1- (1:Int))))) fun (y172:Ty.El zA)=>some (Sum.inl (IntKind.wrap IntKind.i64 (s158.1- (1:Int)),List.set (List.set s164.2 (Int.toNat s158.1) y166) (Int.toNat (IntKind.wrap IntKind.i64 (s158.1- (1:Int)))) y168)) else some (Sum.inr s164.2)) s157) fun (s173:List (Ty.El zA))=>some (Sum.inl (IntKind.wrap IntKind.i64 (s157.1+(1:Int)),s173)) else Option.map (fun (r:List (Ty.El zA)×Unit)=>Sum.inr r) (bif Nat.beq (List.length s157.2) (List.length a0) then some (s157.2,()) else none)) (IntKind.wrap IntKind.i64 (a1+(1:Int)),a0)
noncomputable def qG:List (Ty.El zA)→ElA [.d tI, .d tI, .d tI, .clo 26 []]→Option (List (Ty.El zA)×RTy.El (.tu [])):=fun a0 x=>match x with|(a1,a2,a3,(),())=>zP (fun (s17:Int×List (Ty.El zA))=>bif decide (s17.1<a3) then Option.bind (idx s17.2 (IntKind.wrap IntKind.i64 (a2+s17.1))) fun (y18:Ty.El zA)=>Option.bind (atN s17.2 (Int.toNat (IntKind.wrap IntKind.i64 (a2+s17.1)))) fun (y19:Ty.El zA)=>Option.bind (idx s17.2 (IntKind.wrap IntKind.i64 (a1+s17.1))) fun (y20:Ty.El zA)=>Option.bind (atN s17.2 (Int.toNat (IntKind.wrap IntKind.i64 (a1+s17.1)))) fun (y21:Ty.El zA)=>Option.bind (idx s17.2 (IntKind.wrap IntKind.i64 (a1+s17.1))) fun (y22:Ty.El zA)=>Option.bind (atN s17.2 (Int.toNat (IntKind.wrap IntKind.i64 (a1+s17.1)))) fun (y23:Ty.El zA)=>Option.bind (idx (List.set s17.2 (Int.toNat (IntKind.wrap IntKind.i64 (a1+s17.1))) y19) (IntKind.wrap IntKind.i64 (a2+s17.1))) fun (y24:Ty.El zA)=>Option.bind (atN (List.set s17.2 (Int.toNat (IntKind.wrap IntKind.i64 (a1+s17.1))) y19) (Int.toNat (IntKind.wrap IntKind.i64 (a2+s17.1)))) fun (y25:Ty.El zA)=>some (Sum.inl (IntKind.wrap IntKind.i64 (s17.1+(1:Int)),List.set (List.set s17.2 (Int.toNat (IntKind.wrap IntKind.i64 (a1+s17.1))) y19) (Int.toNat (IntKind.wrap IntKind.i64 (a2+s17.1))) y21)) else Option.map (fun (r:List (Ty.El zA)×Unit)=>Sum.inr r) (bif Nat.beq (List.length s17.2) (List.length a0) then some (s17.2,()) else none)) ((0:Int),a0)
noncomputable def jW:List (Ty.El zA)→ElA [.d tI, .d tI, .d tI, .clo 26 []]→Option (List (Ty.El zA)×RTy.El (.tu [])):=fun a0 x=>match x with|(a1,a2,a3,(),())=>Option.bind (zP (fun (s6:Int×Int×List (Ty.El zA))=>bif s6.1 !=s6.2.1 then bif decide (s6.1>s6.2.1) then bif Nat.beq (List.length s6.2.2) (List.length s6.2.2) then Option.bind (qG s6.2.2 (IntKind.wrap IntKind.i64 (a2-s6.1),a2,s6.2.1,(),())) fun (y7:List (Ty.El zA)×Unit)=>some (Sum.inl (IntKind.wrap IntKind.i64 (s6.1-s6.2.1),s6.2.1,y7.1)) else none else bif Nat.beq (List.length s6.2.2) (List.length s6.2.2) then Option.bind (qG s6.2.2 (IntKind.wrap IntKind.i64 (a2-s6.1),IntKind.wrap IntKind.i64 (IntKind.wrap IntKind.i64 (a2+s6.2.1) -s6.1),s6.1,(),())) fun (y8:List (Ty.El zA)×Unit)=>some (Sum.inl (s6.1,IntKind.wrap IntKind.i64 (s6.2.1-s6.1),y8.1)) else none else some (Sum.inr (s6.2.2,s6.1))) (IntKind.wrap IntKind.i64 (a2-a1),IntKind.wrap IntKind.i64 (a3-a2),a0)) fun (s9:List (Ty.El zA)×Int)=>bif Nat.beq (List.length s9.1) (List.length s9.1) then Option.bind (qG s9.1 (IntKind.wrap IntKind.i64 (a2-s9.2),a2,s9.2,(),())) fun (y10:List (Ty.El zA)×Unit)=>bif Nat.beq (List.length y10.1) (List.length a0) then some (y10.1,()) else none else none
noncomputable def yD (slices_symMergeCmpFunc_Route_self:List (Ty.El zA)→ElA [.d tI, .d tI, .d tI, .clo 26 []]→Option (List (Ty.El zA)×RTy.El (.tu []))):List (Ty.El zA)→ElA [.d tI, .d tI, .d tI, .clo 26 []]→Option (List (Ty.El zA)×RTy.El (.tu [])):=fun a0 x=>match x with|(a1,a2,a3,(),())=>qT (bif IntKind.wrap IntKind.i64 (a2-a1)==(1:Int) then Option.bind (zP (fun (s50:Int×Int×List (Ty.El zA))=>bif decide (s50.1<s50.2.1) then Option.bind (idx s50.2.2 (IntKind.wrap IntKind.i64 (Int.fdiv (IntKind.wrap IntKind.u64 (IntKind.wrap IntKind.i64 (s50.1+s50.2.1))) ((2:Int)^min (Int.toNat (1:Int)) (IntKind.bits IntKind.u64))))) fun (y51:Ty.El zA)=>Option.bind (atN s50.2.2 (Int.toNat (IntKind.wrap IntKind.i64 (Int.fdiv (IntKind.wrap IntKind.u64 (IntKind.wrap IntKind.i64 (s50.1+s50.2.1))) ((2:Int)^min (Int.toNat (1:Int)) (IntKind.bits IntKind.u64)))))) fun (y52:Ty.El zA)=>Option.bind (idx s50.2.2 a1) fun (y53:Ty.El zA)=>Option.bind (atN s50.2.2 (Int.toNat a1)) fun (y54:Ty.El zA)=>Option.bind (zN (y52,y54,())) fun (y55:Int)=>bif decide (y55< (0:Int)) then some (Sum.inl (IntKind.wrap IntKind.i64 (IntKind.wrap IntKind.i64 (Int.fdiv (IntKind.wrap IntKind.u64 (IntKind.wrap IntKind.i64 (s50.1+s50.2.1))) ((2:Int)^min (Int.toNat (1:Int)) (IntKind.bits IntKind.u64)))+(1:Int)),s50.2)) else some (Sum.inl (s50.1,IntKind.wrap IntKind.i64 (Int.fdiv (IntKind.wrap IntKind.u64 (IntKind.wrap IntKind.i64 (s50.1+s50.2.1))) ((2:Int)^min (Int.toNat (1:Int)) (IntKind.bits IntKind.u64))),s50.2.2)) else some (Sum.inr (s50.1,s50.2.2))) (a2,a3,a0)) fun (s56:Int×List (Ty.El zA))=>zP (fun (s57:Int×List (Ty.El zA))=>bif decide (s57.1<IntKind.wrap IntKind.i64 (s56.1- (1:Int))) then Option.bind (idx s57.2 (IntKind.wrap IntKind.i64 (s57.1+(1:Int)))) fun (y58:Ty.El zA)=>Option.bind (atN s57.2 (Int.toNat (IntKind.wrap IntKind.i64 (s57.1+(1:Int))))) fun (y59:Ty.El zA)=>Option.bind (idx s57.2 s57.1) fun (y60:Ty.El zA)=>Option.bind (atN s57.2 (Int.toNat s57.1)) fun (y61:Ty.El zA)=>Option.bind (idx s57.2 s57.1) fun (y62:Ty.El zA)=>Option.bind (atN s57.2 (Int.toNat s57.1)) fun (y63:Ty.El zA)=>Option.bind (idx (List.set s57.2 (Int.toNat s57.1) y59) (IntKind.wrap IntKind.i64 (s57.1+(1:Int)))) fun (y64:Ty.El zA)=>Option.bind (atN (List.set s57.2 (Int.toNat s57.1) y59) (Int.toNat (IntKind.wrap IntKind.i64 (s57.1+(1:Int))))) fun (y65:Ty.El zA)=>some (Sum.inl (IntKind.wrap IntKind.i64 (s57.1+(1:Int)),List.set (List.set s57.2 (Int.toNat s57.1) y59) (Int.toNat (IntKind.wrap IntKind.i64 (s57.1+(1:Int)))) y61)) else Option.map (fun (r:List (Ty.El zA) ⊕ List (Ty.El zA)×Unit)=>Sum.inr r) (Option.map (fun (r:List (Ty.El zA)×Unit)=>Sum.inr r) (bif Nat.beq (List.length s57.2) (List.length a0) then some (s57.2,()) else none))) (a1,s56.2) else some (Sum.inl a0)) fun (s66:List (Ty.El zA))=>qT (bif IntKind.wrap IntKind.i64 (a3-a2)==(1:Int) then Option.bind (zP (fun (s117:Int×Int×List (Ty.El zA))=>bif decide (s117.1<s117.2.1) then Option.bind (idx s117.2.2 a2) fun (y118:Ty.El zA)=>Option.bind (atN s117.2.2 (Int.toNat a2)) fun (y119:Ty.El zA)=>Option.bind (idx s117.2.2 (IntKind.wrap IntKind.i64 (Int.fdiv (IntKind.wrap IntKind.u64 (IntKind.wrap IntKind.i64 (s117.1+s117.2.1))) ((2:Int)^min (Int.toNat (1:Int)) (IntKind.bits IntKind.u64))))) fun (y120:Ty.El zA)=>Option.bind (atN s117.2.2 (Int.toNat (IntKind.wrap IntKind.i64 (Int.fdiv (IntKind.wrap IntKind.u64 (IntKind.wrap IntKind.i64 (s117.1+s117.2.1))) ((2:Int)^min (Int.toNat (1:Int)) (IntKind.bits IntKind.u64)))))) fun (y121:Ty.El zA)=>Option.bind (zN (y119,y121,())) fun (y122:Int)=>bif !decide (y122< (0:Int)) then some (Sum.inl (IntKind.wrap IntKind.i64 (IntKind.wrap IntKind.i64 (Int.fdiv (IntKind.wrap IntKind.u64 (IntKind.wrap IntKind.i64 (s117.1+s117.2.1))) ((2:Int)^min (Int.toNat (1:Int)) (IntKind.bits IntKind.u64)))+(1:Int)),s117.2)) else some (Sum.inl (s117.1,IntKind.wrap IntKind.i64 (Int.fdiv (IntKind.wrap IntKind.u64 (IntKind.wrap IntKind.i64 (s117.1+s117.2.1))) ((2:Int)^min (Int.toNat (1:Int)) (IntKind.bits IntKind.u64))),s117.2.2)) else some (Sum.inr (s117.1,s117.2.2))) (a1,a2,s66)) fun (s123:Int×List (Ty.El zA))=>zP (fun (s124:Int×List (Ty.El zA))=>bif decide (s124.1>s123.1) then Option.bind (idx s124.2 (IntKind.wrap IntKind.i64 (s124.1- (1:Int)))) fun (y125:Ty.El zA)=>Option.bind (atN s124.2 (Int.toNat (IntKind.wrap IntKind.i64 (s124.1- (1:Int))))) fun (y126:Ty.El zA)=>Option.bind (idx s124.2 s124.1) fun (y127:Ty.El zA)=>Option.bind (atN s124.2 (Int.toNat s124.1)) fun (y128:Ty.El zA)=>Option.bind (idx s124.2 s124.1) fun (y129:Ty.El zA)=>Option.bind (atN s124.2 (Int.toNat s124.1)) fun (y130:Ty.El zA)=>Option.bind (idx (List.set s124.2 (Int.toNat s124.1) y126) (IntKind.wrap IntKind.i64 (s124.1- (1:Int)))) fun (y131:Ty.El zA)=>Option.bind (atN (List.set s124.2 (Int.toNat s124.1) y126) (Int.toNat (IntKind.wrap IntKind.i64 (s124.1- (1:Int))))) fun (y132:Ty.El zA)=>some (Sum.inl (IntKind.wrap IntKind.i64 (s124.1- (1:Int)),List.set (List.set s124.2 (Int.toNat s124.1) y126) (Int.toNat (IntKind.wrap IntKind.i64 (s124.1- (1:Int)))) y128)) else Option.map (fun (r:List (Ty.El zA) ⊕ List (Ty.El zA)×Unit)=>Sum.inr r) (Option.map (fun (r:List (Ty.El zA)×Unit)=>Sum.inr r) (bif Nat.beq (List.length s124.2) (List.length a0) then some (s124.2,()) else none))) (a2,s123.2) else some (Sum.inl s66)) fun (s133:List (Ty.El zA))=>Option.bind (bif decide (a2>IntKind.wrap IntKind.i64 (Int.fdiv (IntKind.wrap IntKind.u64 (IntKind.wrap IntKind.i64 (a1+a3))) ((2:Int)^min (Int.toNat (1:Int)) (IntKind.bits IntKind.u64)))) then some (IntKind.wrap IntKind.i64 (IntKind.wrap IntKind.i64 (IntKind.wrap IntKind.i64 (Int.fdiv (IntKind.wrap IntKind.u64 (IntKind.wrap IntKind.i64 (a1+a3))) ((2:Int)^min (Int.toNat (1:Int)) (IntKind.bits IntKind.u64)))+a2) -a3),IntKind.wrap IntKind.i64 (Int.fdiv (IntKind.wrap IntKind.u64 (IntKind.wrap IntKind.i64 (a1+a3))) ((2:Int)^min (Int.toNat (1:Int)) (IntKind.bits IntKind.u64))),s133) else some (a1,a2,s133)) fun (s134:Int×Int×List (Ty.El zA))=>Option.bind (zP (fun (s152:Int×Int×List (Ty.El zA))=>bif decide (s152.1<s152.2.1) then Option.bind (idx s152.2.2 (IntKind.wrap IntKind.i64 (IntKind.wrap IntKind.i64 (IntKind.wrap IntKind.i64 (IntKind.wrap IntKind.i64 (Int.fdiv (IntKind.wrap IntKind.u64 (IntKind.wrap IntKind.i64 (a1+a3))) ((2:Int)^min (Int.toNat (1:Int)) (IntKind.bits IntKind.u64)))+a2) - (1:Int)) -IntKind.wrap IntKind.i64 (Int.fdiv (IntKind.wrap IntKind.u64 (IntKind.wrap IntKind.i64 (s152.1+s152.2.1))) ((2:Int)^min (Int.toNat (1:Int)) (IntKind.bits IntKind.u64)))))) fun (y153:Ty.El zA)=>Option.bind (atN s152.2.2 (Int.toNat (IntKind.wrap IntKind.i64 (IntKind.wrap IntKind.i64 (IntKind.wrap IntKind.i64 (IntKind.wrap IntKind.i64 (Int.fdiv (IntKind.wrap IntKind.u64 (IntKind.wrap IntKind.i64 (a1+a3))) ((2:Int)^min (Int.toNat (1:Int)) (IntKind.bits IntKind.u64)))+a2) - (1:Int)) -IntKind.wrap IntKind.i64 (Int.fdiv (IntKind.wrap IntKind.u64 (IntKind.wrap IntKind.i64 (s152.1+s152.2.1))) ((2:Int)^min (Int.toNat (1:Int)) (IntKind.bits IntKind.u64))))))) fun (y154:Ty.El zA)=>Option.bind (idx s152.2.2 (IntKind.wrap IntKind.i64 (Int.fdiv (IntKind.wrap IntKind.u64 (IntKind.wrap IntKind.i64 (s152.1+s152.2.1))) ((2:Int)^min (Int.toNat (1:Int)) (IntKind.bits IntKind.u64))))) fun (y155:Ty.El zA)=>Option.bind (atN s152.2.2 (Int.toNat (IntKind.wrap IntKind.i64 (Int.fdiv (IntKind.wrap IntKind.u64 (IntKind.wrap IntKind.i64 (s152.1+s152.2.1))) ((2:Int)^min (Int.toNat (1:Int)) (IntKind.bits IntKind.u64)))))) fun (y156:Ty.El zA)=>Option.bind (zN (y154,y156,())) fun (y157:Int)=>bif !decide (y157< (0:Int)) then some (Sum.inl (IntKind.wrap IntKind.i64 (IntKind.wrap IntKind.i64 (Int.fdiv (IntKind.wrap IntKind.u64 (IntKind.wrap IntKind.i64 (s152.1+s152.2.1))) ((2:Int)^min (Int.toNat (1:Int)) (IntKind.bits IntKind.u64)))+(1:Int)),s152.2)) else some (Sum.inl (s152.1,IntKind.wrap IntKind.i64 (Int.fdiv (IntKind.wrap IntKind.u64 (IntKind.wrap IntKind.i64 (s152.1+s152.2.1))) ((2:Int)^min (Int.toNat (1:Int)) (IntKind.bits IntKind.u64))),s152.2.2)) else some (Sum.inr (s152.1,s152.2.2))) s134) fun (s158:Int×List (Ty.El zA))=>Option.bind (Option.bind (bif decide (s158.1<a2) then some (decide (a2<IntKind.wrap IntKind.i64 (IntKind.wrap IntKind.i64 (IntKind.wrap IntKind.i64 (Int.fdiv (IntKind.wrap IntKind.u64 (IntKind.wrap IntKind.i64 (a1+a3))) ((2:Int)^min (Int.toNat (1:Int)) (IntKind.bits IntKind.u64)))+a2) -s158.1)),s158.2) else some (false,s158.2)) fun (s161:Bool×List (Ty.El zA))=>bif s161.1 then bif Nat.beq (List.length s161.2) (List.length s161.2) then Option.bind (jW s161.2 (s158.1,a2,IntKind.wrap IntKind.i64 (IntKind.wrap IntKind.i64 (IntKind.wrap IntKind.i64 (Int.fdiv (IntKind.wrap IntKind.u64 (IntKind.wrap IntKind.i64 (a1+a3))) ((2:Int)^min (Int.toNat (1:Int)) (IntKind.bits IntKind.u64)))+a2) -s158.1),(),())) fun (y162:List (Ty.El zA)×Unit)=>some y162.1 else none else some s161.2) fun (s163:List (Ty.El zA))=>Option.bind (Option.bind (bif decide (a1<s158.1) then some (decide (s158.1<IntKind.wrap IntKind.i64 (Int.fdiv (IntKind.wrap IntKind.u64 (IntKind.wrap IntKind.i64 (a1+a3))) ((2:Int)^min (Int.toNat (1:Int)) (IntKind.bits IntKind.u64)))),s163) else some (false,s163)) fun (s166:Bool×List (Ty.El zA))=>bif s166.1 then bif Nat.beq (List.length s166.2) (List.length s166.2) then Option.bind (slices_symMergeCmpFunc_Route_self s166.2 (a1,s158.1,IntKind.wrap IntKind.i64 (Int.fdiv (IntKind.wrap IntKind.u64 (IntKind.wrap IntKind.i64 (a1+a3))) ((2:Int)^min (Int.toNat (1:Int)) (IntKind.bits IntKind.u64))),(),())) fun (y167:List (Ty.El zA)×Unit)=>some y167.1 else none else some s166.2) fun (s168:List (Ty.El zA))=>Option.bind (bif decide (IntKind.wrap IntKind.i64 (Int.fdiv (IntKind.wrap IntKind.u64 (IntKind.wrap IntKind.i64 (a1+a3))) ((2:Int)^min (Int.toNat (1:Int)) (IntKind.bits IntKind.u64)))<IntKind.wrap IntKind.i64 (IntKind.wrap IntKind.i64 (IntKind.wrap IntKind.i64 (Int.fdiv (IntKind.wrap IntKind.u64 (IntKind.wrap IntKind.i64 (a1+a3))) ((2:Int)^min (Int.toNat (1:Int)) (IntKind.bits IntKind.u64)))+a2) -s158.1)) then some (decide (IntKind.wrap IntKind.i64 (IntKind.wrap IntKind.i64 (IntKind.wrap IntKind.i64 (Int.fdiv (IntKind.wrap IntKind.u64 (IntKind.wrap IntKind.i64 (a1+a3))) ((2:Int)^min (Int.toNat (1:Int)) (IntKind.bits IntKind.u64)))+a2) -s158.1)<a3),s168) else some (false,s168)) fun (s169:Bool×List (Ty.El zA))=>bif s169.1 then bif Nat.beq (List.length s169.2) (List.length s169.2) then Option.bind (slices_symMergeCmpFunc_Route_self s169.2 (IntKind.wrap IntKind.i64 (Int.fdiv (IntKind.wrap IntKind.u64 (IntKind.wrap IntKind.i64 (a1+a3))) ((2:Int)^min (Int.toNat (1:Int)) (IntKind.bits IntKind.u64))),IntKind.wrap IntKind.i64 (IntKind.wrap IntKind.i64 (IntKind.wrap IntKind.i64 (Int.fdiv (IntKind.wrap IntKind.u64 (IntKind.wrap IntKind.i64 (a1+a3))) ((2:Int)^min (Int.toNat (1:Int)) (IntKind.bits IntKind.u64)))+a2) -s158.1),a3,(),())) fun (y170:List (Ty.El zA)×Unit)=>bif Nat.beq (List.length y170.1) (List.length a0) then some (y170.1,()) else none else none else bif Nat.beq (List.length s169.2) (List.length a0) then some (s169.2,()) else none
noncomputable def z7:Nat→(List (Ty.El zA)→ElA [.d tI, .d tI, .d tI, .clo 26 []]→Option (List (Ty.El zA)×RTy.El (.tu [])))|0=>fun _ _=>none|n+1=>yD (z7 n)
noncomputable def qJ:List (Ty.El zA)→ElA [.d tI, .d tI, .d tI, .clo 26 []]→Option (List (Ty.El zA)×RTy.El (.tu [])):=z7 1048576
noncomputable def qQ:List (Ty.El zA)→ElA [.d tI, .clo 26 []]→Option (List (Ty.El zA)×RTy.El (.tu [])):=fun a0 x=>match x with|(a1,(),())=>Option.bind (zP (fun (s4:Int×List (Ty.El zA)×Int)=>bif decide (s4.1≤a1) then bif Nat.beq (List.length s4.2.1) (List.length s4.2.1) then Option.bind (z8 s4.2.1 (s4.2.2,s4.1,(),())) fun (y5:List (Ty.El zA)×Unit)=>some (Sum.inl (IntKind.wrap IntKind.i64 (s4.1+(20:Int)),y5.1,s4.1)) else none else some (Sum.inr s4.2)) ((20:Int),a0,(0:Int))) fun (s6:List (Ty.El zA)×Int)=>bif Nat.beq (List.length s6.1) (List.length s6.1) then Option.bind (z8 s6.1 (s6.2,a1,(),())) fun (y7:List (Ty.El zA)×Unit)=>zP (fun (s30:Int×List (Ty.El zA))=>bif decide (s30.1<a1) then Option.bind (zP (fun (s31:Int×List (Ty.El zA)×Int)=>bif decide (s31.1≤a1) then bif Nat.beq (List.length s31.2.1) (List.length s31.2.1) then Option.bind (qJ s31.2.1 (s31.2.2,IntKind.wrap IntKind.i64 (s31.2.2+s30.1),s31.1,(),())) fun (y32:List (Ty.El zA)×Unit)=>some (Sum.inl (IntKind.wrap IntKind.i64 (s31.1+IntKind.wrap IntKind.i64 ((2:Int)*s30.1)),y32.1,s31.1)) else none else some (Sum.inr (s31.2.2,s31.2.1))) (IntKind.wrap IntKind.i64 ((2:Int)*s30.1),s30.2,(0:Int))) fun (s33:Int×List (Ty.El zA))=>Option.bind (bif decide (IntKind.wrap IntKind.i64 (s33.1+s30.1)<a1) then bif Nat.beq (List.length s33.2) (List.length s33.2) then Option.bind (qJ s33.2 (s33.1,IntKind.wrap IntKind.i64 (s33.1+s30.1),a1,(),())) fun (y34:List (Ty.El zA)×Unit)=>some y34.1 else none else some s33.2) fun (s35:List (Ty.El zA))=>some (Sum.inl (IntKind.wrap IntKind.i64 (s30.1*(2:Int)),s35)) else Option.map (fun (r:List (Ty.El zA)×Unit)=>Sum.inr r) (bif Nat.beq (List.length s30.2) (List.length a0) then some (s30.2,()) else none)) ((20:Int),y7.1) else none
noncomputable def qV:List (Ty.El zA)→ElA [.clo 26 []]→Option (List (Ty.El zA)×RTy.El (.tu [])):=fun a0 x=>match x with|((),())=>bif Nat.beq (List.length a0) (List.length a0)&&Nat.beq (List.length a0) (List.length a0) then Option.bind (qQ a0 ((↑(List.length a0):Int),(),())) fun (y0:List (Ty.El zA)×Unit)=>bif Nat.beq (List.length y0.1) (List.length a0) then some (y0.1,()) else none else none
noncomputable def zAw:ElS [zS,tI,tI]→Option (RTy.El (.p tI)):=fun x=>match x with|(a1,a2,a3,())=>qT (zP (fun (s20:Int)=>bif decide (s20< (↑(List.length a1.2.1.1):Int)) then qT (zP (fun (s21:Int)=>Option.bind (idx a1.2.1.1 s20) fun (y22:Ty.El uX)=>bif decide (s21< (↑(List.length y22.2.2.1):Int)) then Option.bind (idx a1.2.1.1 s20) fun (y23:Ty.El uX)=>Option.bind (idx y23.2.2.1 s21) fun (y24:Ty.El zM)=>bif y24.1==a2&&(y24.2.1==a3&&true) then some (Sum.inr (Sum.inr (Sum.inr (Sum.inr s20)))) else some (Sum.inl (IntKind.wrap IntKind.i64 (s21+(1:Int)))) else some (Sum.inr (Sum.inl ()))) (0:Int)) fun (s25:Unit)=>some (Sum.inl (IntKind.wrap IntKind.i64 (s20+(1:Int)))) else some (Sum.inr (Sum.inl ()))) (0:Int)) fun (s26:Unit)=>some (-1:Int)
noncomputable def zFR:ElS [zS,tI,tI]→Option (RTy.El (.p tI)):=fun x=>match x with|(a1,a2,a3,())=>Option.bind (zAw (a1,a2,a3,())) fun (y0:Int)=>qT (zP (fun (s8:Int)=>bif decide (s8< (↑(List.length a1.2.1.2.1):Int)) then Option.bind (bif decide (y0≥(0:Int)) then Option.bind (idx a1.2.1.2.1 s8) fun (y9:Int)=>some (y9==y0) else some false) fun (s10:Bool)=>bif s10 then some (Sum.inr (Sum.inr s8)) else some (Sum.inl (IntKind.wrap IntKind.i64 (s8+(1:Int)))) else some (Sum.inr (Sum.inl ()))) (0:Int)) fun (s11:Unit)=>some (-1:Int)
noncomputable def zKw:ElS [zS,tI,tI]→Option (RTy.El (.p .bool)):=fun x=>match x with|(a1,a2,a3,())=>Option.bind (zAw (a1,a2,a3,())) fun (y0:Int)=>bif decide (y0< (0:Int)) then some false else Option.bind (zFR (a1,a2,a3,())) fun (y1:Int)=>qT (zP (fun (s6:Int)=>bif decide (s6< (↑(List.length a1.2.2.1):Int)) then Option.bind (idx a1.2.2.1 s6) fun (y7:Int)=>bif y7==y1 then some (Sum.inr (Sum.inr false)) else some (Sum.inl (IntKind.wrap IntKind.i64 (s6+(1:Int)))) else some (Sum.inr (Sum.inl ()))) (0:Int)) fun (s8:Unit)=>some true
end Go.Ve
