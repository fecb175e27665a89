/-
  Functions out of code, part 7: slices that go by a number: a state of lists; append.
  Functions out of code, part 8: contracts over a state of lists; from such a state to none, and from none to any.
  Functions out of code, part 9: a function with a state of lists of its own is a function without.
  Functions out of code: views, tables, static routes.
-/
import Derived.Test.YtcnlcmbchljpgaaGreatPl9
set_option linter.unusedVariables false
namespace Go.Ve
open Go
abbrev HSt (t:Ty):=List (Option (List t.El))
structure zUF (t:Ty) (st:HSt t) (F:Blk→Prop) (O:Nat→Prop) (w:World) (hb hc:Nat→Nat):Prop where
 hdl: ∀id xs,st[id]? =some (some xs)→ ∀a n c,F (.h id a n c)↔(a=some ⟨hb id,0,none⟩∧n=xs.length∧c=hc id)
 out: ∀id,st.length≤id→ ∀a n c, ¬F (.h id a n c)
 row: ∀id xs,st[id]? =some (some xs)→xs≠[]∧O (hb id)∧qI w (fun _=>False) (hb id) t.size (hc id) (xs.map t.enc)
 dist: ∀id id' xs xs',st[id]? =some (some xs)→st[id']? =some (some xs')→hb id=hb id'→id=id'
 own: ∀b,O b→ ∃id xs,st[id]? =some (some xs)∧hb id=b
theorem qI.same {w w':World} {F:Blk→Prop} {b k cap:Nat} {es:List V} (h:qI w (fun _=>False) b k cap es) (hw:w'.heap[b]? =w.heap[b]?):qI w' F b k cap es:=by
 obtain ⟨c,et,h1,h2,h3,h4,h5⟩:=h
 exact ⟨c,et,hw.trans h1,h2,h3,h4,fun i j e d x a1 a2 a3=>(h5 i j e d x a1 a2 a3).mono (fun _ h=>h.elim) (fun _ h=>h.elim)⟩
def j1 (t:Ty):Sig where
 St:=HSt t
 R:=fun st F O w=> ∃hb hc,zUF t st F O w hb hc
 mono:=by
  rintro s F F' O w w' ⟨hb,hc,h⟩ hF hO
  refine ⟨hb,hc,?_,?_,?_,h.dist,h.own⟩
  ·intro id xs hx a n c;rw [hF];exact h.hdl id xs hx a n c
  ·intro id hx a n c hh;exact h.out id hx a n c ((hF id a n c).1 hh)
  ·intro id xs hx
   obtain ⟨h1,h2,h3⟩:=h.row id xs hx
   exact ⟨h1,h2,h3.same (hO _ h2)⟩
 inb:=by
  rintro s F O w ⟨hb,hc,h⟩ b hO
  obtain ⟨id,xs,h1,rfl⟩:=h.own b hO
  obtain ⟨_,_,c,et,h3,_⟩:=h.row id xs h1
  exact (Array.getElem?_eq_some_iff.1 h3).1
def zPi {t:Ty} (bytes:Nat) (st:HSt t) (q:Option (Nat×Nat)) (ys:List t.El):Option (HSt t×Option (Nat×Nat)):=
 match ys with
 |[]=>none
 |y::r=>match q with
  |none=>if (2*(y::r).length+1024)*bytes≤140737488355328 then some (st++[some (y::r)],some (st.length,(y::r).length)) else none
  |some (id,_)=>match st[id]? with
   |some (some xs)=>if (2*(xs.length+(y::r).length)+1024)*bytes≤140737488355328 then some (st.set id none++[some (xs++y::r)],some (st.length,(xs++y::r).length)) else none
   |_=>none
theorem zDb {t:Ty} (h:t.flat=true) {x:t.El} {d:V} (hd:d∈(t.enc x).cells) {w w':World} {F F':Blk→Prop} {v:Value} (hr:Rd w F v d):Rd w' F' v d:=by
 rw [qS] at hd
 have:=zAE (zPX t x h d hd)
 rw [this] at hr ⊢
 rw [Rd.eq_val hr]
 exact .val _
theorem zWP {t:Ty} (h:t.flat=true) {w:World} {F F':Blk→Prop} {b k cap:Nat} {xs:List t.El} (hr:qI w F b k cap (xs.map t.enc)):qI w F' b k cap (xs.map t.enc):=by
 obtain ⟨c,et,h1,h2,h3,h4,h5⟩:=hr
 refine ⟨c,et,h1,h2,h3,h4,fun i j e d x a1 a2 a3=> ?_⟩
 simp only [List.getElem?_map,Option.map_eq_some_iff] at a1
 obtain ⟨y,hy,rfl⟩:=a1
 exact zDb h (List.mem_of_getElem? a2) (h5 i j (t.enc y) d x (by simp [hy]) a2 a3)
theorem qY {α:Type} {st:List (Option α)} {id j:Nat} {z:α} {xs:α} (h:(st.set id none++[some z])[j]? =some (some xs)):(j=st.length∧xs=z)∨(j≠id∧j<st.length∧st[j]? =some (some xs)):=by
 by_cases hj:j<st.length
 ·rw [List.getElem?_append_left (by simpa using hj)] at h
  by_cases hid:id=j
  ·subst hid;rw [List.getElem?_set_self hj] at h;cases h
  ·rw [List.getElem?_set_ne hid] at h;exact .inr ⟨Ne.symm hid,hj,h⟩
 ·rw [List.getElem?_append_right (by simp;omega)] at h
  simp only [List.length_set] at h
  have h0:j-st.length=0:=by
   rcases Nat.eq_zero_or_pos (j-st.length) with h0|h0
   ·exact h0
   ·rw [List.getElem?_eq_none (by simp;omega)] at h;cases h
  rw [h0] at h
  simp at h
  exact .inl ⟨by omega,h.symm⟩
section
variable {t:Ty} {P:Program}
theorem zIg (hfl:t.flat=true) {st:HSt t} {F:Blk→Prop} {O:Nat→Prop} {w w':World} {hb hc:Nat→Nat} (h:zUF t st F O w hb hc) (hF: ∀b:Nat,F b→b<w.heap.size∧ ¬O b)
  {id:Nat} {zs:List t.El} (hz:zs≠[]) {blk cap:Nat} {O':Nat→Prop} (hk:zCK O w w') (hO1: ∀b,O' b↔(b=blk∨(O b∧ ∀xs,st[id]? =some (some xs)→b≠hb id)))
  (hblk:O blk∨w.heap.size≤blk) (hblt:blk<w'.heap.size) (hrow:qI w' F blk t.size cap (zs.map t.enc))
  (hold: ∀j xs,j≠id→st[j]? =some (some xs)→hb j≠blk∧w'.heap[hb j]? =w.heap[hb j]?) (hid:id<st.length→ ∃xs,st[id]? =some (some xs)):
  zUB (j1 t) w F O (.slice (some ⟨blk,0,none⟩) zs.length cap) w' (st.set id none++[some zs]) (.rf (some (st.length,zs.length))):=by
 let F':Blk→Prop:=fun b=>F b∨b= .h st.length (some ⟨blk,0,none⟩) zs.length cap
 have hOO: ∀b,O' b→O b∨w.heap.size≤b:=fun b hb0=>by
  rcases (hO1 b).1 hb0 with rfl|h1
  ·exact hblk
  ·exact .inl h1.1
 refine ⟨F',O',⟨fun j=>if j=st.length then blk else hb j,fun j=>if j=st.length then cap else hc j,?_,?_,?_,?_,?_⟩,hk,hOO,fun b hb=> .inl hb,?_, .rf _ _ _ _ (.inr rfl)⟩
 ·intro j xs hj a n c
  rcases qY hj with ⟨rfl,rfl⟩|⟨hne,hlt,hj⟩
  ·simp only [if_true,F']
   constructor
   ·rintro (hh|hh)
    ·exact absurd hh (h.out _ (Nat.le_refl _) _ _ _)
    ·cases hh;exact ⟨rfl,rfl,rfl⟩
   ·rintro ⟨rfl,rfl,rfl⟩;exact .inr rfl
  ·have hne':j≠st.length:=by omega
   simp only [if_neg hne',F']
   rw [←h.hdl j xs hj]
   constructor
   ·rintro (hh|hh)
    ·exact hh
    ·cases hh;exact absurd rfl hne'
   ·exact .inl
 ·intro j hj a n c
  simp only [List.length_append,List.length_set,List.length_singleton] at hj
  rintro (hh|hh)
  ·exact h.out j (by omega) _ _ _ hh
  ·cases hh;omega
 ·intro j xs hj
  rcases qY hj with ⟨rfl,rfl⟩|⟨hne,hlt,hj⟩
  ·simp only [if_true]
   exact ⟨hz,(hO1 _).2 (.inl rfl),zWP hfl hrow⟩
  ·have hne':j≠st.length:=by omega
   simp only [if_neg hne']
   obtain ⟨h1,h2,h3⟩:=h.row j xs hj
   refine ⟨h1,(hO1 _).2 (.inr ⟨h2,fun ys hy hh=>hne (h.dist j id xs ys hj hy hh)⟩),h3.same (hold j xs hne hj).2⟩
 ·intro j j' xs xs' hj hj' hh
  rcases qY hj with ⟨rfl,rfl⟩|⟨hne,hlt,hj1⟩<;>rcases qY hj' with ⟨rfl,rfl⟩|⟨hne',hlt',hj1'⟩
  ·rfl
  ·have h1:j'≠st.length:=by omega
   simp only [if_true,if_neg h1] at hh
   exact absurd hh.symm (hold j' xs' hne' hj1').1
  ·have h1:j≠st.length:=by omega
   simp only [if_true,if_neg h1] at hh
   exact absurd hh (hold j xs hne hj1).1
  ·have h1:j≠st.length:=by omega
   have h2:j'≠st.length:=by omega
   simp only [if_neg h1,if_neg h2] at hh
   exact h.dist j j' xs xs' hj1 hj1' hh
 ·intro b hb0
  rcases (hO1 b).1 hb0 with rfl|⟨h1,h2⟩
  ·refine ⟨st.length,zs,?_,by simp⟩
   rw [List.getElem?_append_right (by simp)];simp
  ·obtain ⟨j,xs,hj,rfl⟩:=h.own b h1
   have hlt:=(List.getElem?_eq_some_iff.1 hj).1
   have hji:j≠id:=by
    rintro rfl
    exact h2 xs hj rfl
   refine ⟨j,xs,?_,by simp [show j≠st.length by omega]⟩
   rw [List.getElem?_append_left (by simpa using hlt),List.getElem?_set_ne (Ne.symm hji)]
   exact hj
 ·intro b hb0
  rcases hb0 with hb0|hb0
  ·obtain ⟨h1,h2⟩:=hF b hb0
   refine ⟨.inl hb0,Nat.lt_of_lt_of_le h1 hk.size,fun ho=> ?_⟩
   rcases hOO b ho with ho|ho
   ·exact h2 ho
   ·omega
  ·cases hb0
theorem zY1 (hfl:t.flat=true) {bytes:Nat} {st st':HSt t} {q q':Option (Nat×Nat)} {ys:List t.El} (h:zPi bytes st q ys=some (st',q')):
  zZA (j1 t) P st q t ys bytes st' (.rf q'):=by
 intro ts ty t0 t1 el el1 info z w F O v0 v1 hts0 hts1 hu0 hu1 hinfo hz hsz hby hzc hbytes hR hF hr0 hr1
 subst hbytes
 obtain ⟨hb,hc,hR⟩:=hR
 have hk2: ∀q,q∈ys.map t.enc→q.cells.length=info.size:=by
  intro q hq
  simp only [List.mem_map] at hq
  obtain ⟨y,_,rfl⟩:=hq
  rw [w7];exact hsz
 have ho2: ∀q,q∈ys.map t.enc→q.cells.all V.one=true:=by
  intro q hq
  simp only [List.mem_map] at hq
  obtain ⟨y,_,rfl⟩:=hq
  rw [qS];exact zLH t y
 obtain ⟨a1,cap1,cells,hv1,hcap1,hl2,hrun2,hr2⟩:=zJu (P:=P) (β:=⟨id,id⟩) (al:=fun _=>False) (x:= .p (.sl (ys.map t.enc))) hr1.untl rfl hk2
 simp only [List.length_map] at hv1 hcap1 hl2 hrun2
 have hs:j2 P el=some info.size:=zBq hinfo
 have hrest: ∀m,(Builtin.zeroCells z.cells m).size=m*info.size:=by
  intro m;simp only [Builtin.zeroCells,Array.size_map,Array.size_range];rw [hzc]
 unfold zPi at h
 split at h
 ·cases h
 ·rename_i y r
  have hl2':cells.length=((y::r).map t.enc).length*info.size:=by simpa using hl2
  split at h
  ·-- nil
   split at h
   ·rename_i hbound
    simp only [Option.some.injEq,Prod.mk.injEq] at h
    obtain ⟨rfl,rfl⟩:=h
    cases hr0 with
    |rfn=>
     obtain ⟨newCap,hnc,hrun⟩:=zAL (P:=P) (w:=w) (ts:=ts) (ty:=ty) (len:=0) (cap:=0) (n:=(y::r).length) (cap1:=cap1) (a0:=none) (a1:=a1) (cells:=cells) (old:=[]) hts0 hts1 hu0 hu1 hinfo hz
      (by rw [←hv1];exact hrun2 w.drew rfl) (by simp [Builtin.firstCells]) (by simp) hby (by simpa using hbound)
     rw [←hv1] at hrun
     simp only [Nat.zero_add] at hnc hrun
     refine ⟨_,_,hrun,?_⟩
     have hrow:=zJD (w':=w.drew.alloc (.cells (([]:List Value).toArray++(cells.toArray++Builtin.zeroCells z.cells (newCap- (y::r).length))) el)) (F:=F) (b:=w.heap.size) (k:=info.size) (cap:=newCap) (es:=[]) (es2:=(y::r).map t.enc) (et:=el) (old:=[]) (cells:=cells)
      (by simp) hk2 (by simp) hl2' (fun i j q y hi hj=>by simp at hi) (fun i j e d hi hj=>by
       obtain ⟨x,hx,hrx⟩:=hr2 i j e d hi hj
       simp only [List.getElem?_map,Option.map_eq_some_iff] at hi
       obtain ⟨y0,_,rfl⟩:=hi
       exact ⟨x,hx,zDb hfl (List.mem_of_getElem? hj) hrx⟩) (by simpa using hnc) (by simpa using hrest _) (zAA (w:=w.drew))
     rw [List.nil_append, ←hsz] at hrow
     have hset:st.set st.length none=st:=List.set_eq_of_length_le (Nat.le_refl _)
     have:=zIg (w':=w.drew.alloc (.cells (([]:List Value).toArray++(cells.toArray++Builtin.zeroCells z.cells (newCap- (y::r).length))) el)) (O':=fun b=>b=w.heap.size∨O b) (id:=st.length) hfl hR hF (zs:=y::r) (by simp) (blk:=w.heap.size) (cap:=newCap)
      ⟨rfl,rfl,rfl,by simp,fun b hb _=>wZ (w:=w.drew) hb,Nat.le_succ _⟩ (fun b=>by
       constructor
       ·rintro (rfl|hh)
        ·exact .inl rfl
        ·exact .inr ⟨hh,fun xs hx=>by simp at hx⟩
       ·rintro (rfl|hh)
        ·exact .inl rfl
        ·exact .inr hh.1) (.inr (Nat.le_refl _)) (by simp) hrow (fun j xs _ hj=>by
       have hlt:=(j1 t).inb (⟨hb,hc,hR⟩:(j1 t).R st F O w) _ (hR.row j xs hj).2.1
       exact ⟨by omega,wZ (w:=w.drew) hlt⟩) (fun hh=>by omega)
     rw [hset] at this
     exact this
   ·cases h
  ·rename_i id n0
   split at h
   ·rename_i xs hst
    split at h
    ·rename_i hbound
     simp only [Option.some.injEq,Prod.mk.injEq] at h
     obtain ⟨rfl,rfl⟩:=h
     obtain ⟨hxne,hOid,hrow0⟩:=hR.row id xs hst
     cases hr0 with
     |rf _ a n c hh=>
      obtain ⟨rfl,rfl,rfl⟩:=(hR.hdl id xs hst _ _ _).1 hh
      obtain ⟨cc,et,g1,g2,g3,g4,g5⟩:=hrow0
      simp only [List.length_map] at g3
      rw [hsz] at g2 g4 g5
      by_cases hroom:xs.length+(y::r).length≤hc id
      ·have hfit:xs.length*info.size+(y::r).length*info.size≤cc.size:=by rw [←Nat.add_mul,g2];exact Nat.mul_le_mul_right _ hroom
       have hrun:=zFN (P:=P) (w:=w) (ts:=ts) (ty:=ty) (b:=hb id) (off:=0) (len:=xs.length) (cap:=hc id) (n:=(y::r).length) (cap1:=cap1) (a1:=a1) (cells:=cells) (c:=cc) (et:=et) hts0 hts1 hu0 hu1 hs
        (by rw [←hv1];exact hrun2 w rfl) hl2 g1 (by omega) (zUO hl2' hk2 ho2 hr2) hroom
       rw [←hv1] at hrun
       simp only [Nat.zero_add] at hrun
       refine ⟨_,_,hrun,?_⟩
       have hlt:hb id<w.heap.size:=(Array.getElem?_eq_some_iff.1 g1).1
       have hrow:=zRQ (w':=setBlk w (hb id) (.cells (wF cc (xs.length*info.size) cells) et (0,0))) (F:=F) (b:=hb id) (k:=info.size) (cap:=hc id) (es:=xs.map t.enc) (es2:=(y::r).map t.enc) (c:=cc) (et:=et) (cells:=cells)
        (by simpa using g2) g4 (fun i j e d x hi hj hx=>by
         simp only [List.getElem?_map,Option.map_eq_some_iff] at hi
         obtain ⟨y0,hy0,rfl⟩:=hi
         exact zDb hfl (List.mem_of_getElem? hj) (g5 i j _ d x (by simp [hy0]) hj hx)) hk2 hl2' (fun i j e d hi hj=>by
         obtain ⟨x,hx,hrx⟩:=hr2 i j e d hi hj
         simp only [List.getElem?_map,Option.map_eq_some_iff] at hi
         obtain ⟨y0,_,rfl⟩:=hi
         exact ⟨x,hx,zDb hfl (List.mem_of_getElem? hj) hrx⟩) (by simpa using hroom) (by simpa using zB8 hlt)
       rw [←List.map_append, ←hsz] at hrow
       have:=zIg (w':=setBlk w (hb id) (.cells (wF cc (xs.length*info.size) cells) et (0,0))) (O':=O) (id:=id) hfl hR hF (zs:=xs++y::r) (by simp) (blk:=hb id) (cap:=hc id)
        ⟨rfl,rfl,rfl,by rw [zCp];exact Nat.le_refl _,fun b hb0 hno=>wG (fun hh=>hno (by rw [hh];exact hOid)),Nat.le_refl _⟩ (fun b=>by
         constructor
         ·intro hh
          by_cases hbb:b=hb id
          ·exact .inl hbb
          ·exact .inr ⟨hh,fun _ _=>hbb⟩
         ·rintro (rfl|hh)
          ·exact hOid
          ·exact hh.1) (.inl hOid) (by rw [zCp];exact hlt) (by rw [hsz] at hrow ⊢;exact hrow) (fun j xs' hne hj=>by
         have h1:hb j≠hb id:=fun hh=>hne (hR.dist j id xs' xs hj hst hh)
         exact ⟨h1,wG h1⟩) (fun _=>⟨xs,hst⟩)
       simpa using this
      ·obtain ⟨a0,cap0,old,hv0',hcap0,hl1,hrun1,hr1⟩:=zJu (P:=P) (w:=w) (F:=F) (β:=⟨fun _=>hb id,fun _=>hb id⟩) (al:=fun _=>True) (x:= .ow 0 info.size (xs.map t.enc)) (v:= .slice (some ⟨hb id,0,none⟩) xs.length (hc id)) (k:=info.size)
        ⟨trivial,hc id,by simp,cc,et,g1,g2,by simpa using g3,g4,fun i j e d x hi hj hx=>(g5 i j e d x hi hj hx).mono (fun _ h=>h.elim) (fun _ h=>h.elim)⟩ rfl g4
       simp only [List.length_map] at hv0' hcap0 hl1 hrun1
       have hcc:cap0=hc id:=by simp at hv0';exact hv0'.2.symm
       have haa:a0=some ⟨hb id,0,none⟩:=by simp at hv0';exact hv0'.1.symm
       subst hcc haa
       obtain ⟨newCap,hnc,hrun⟩:=zAL (P:=P) (w:=w) (ts:=ts) (ty:=ty) (len:=xs.length) (cap:=hc id) (n:=(y::r).length) (cap1:=cap1) (a0:=some ⟨hb id,0,none⟩) (a1:=a1) (cells:=cells) (old:=old) hts0 hts1 hu0 hu1 hinfo hz
        (by rw [←hv1];exact hrun2 w.drew rfl) (hrun1 w.drew rfl) hroom hby hbound
       rw [←hv1] at hrun
       refine ⟨_,_,hrun,?_⟩
       have hrow:=zJD (w':=w.drew.alloc (.cells (old.toArray++(cells.toArray++Builtin.zeroCells z.cells (newCap- (xs.length+(y::r).length)))) el)) (F:=F) (b:=w.heap.size) (k:=info.size) (cap:=newCap) (es:=xs.map t.enc) (es2:=(y::r).map t.enc) (et:=el) (old:=old) (cells:=cells) (rest:=Builtin.zeroCells z.cells (newCap- (xs.length+(y::r).length)))
        g4 hk2 (by simpa using hl1) hl2' (fun i j e d hi hj=>by
         obtain ⟨x,hx,hrx⟩:=hr1 i j e d hi hj
         simp only [List.getElem?_map,Option.map_eq_some_iff] at hi
         obtain ⟨y0,_,rfl⟩:=hi
         exact ⟨x,hx,zDb hfl (List.mem_of_getElem? hj) hrx⟩) (fun i j e d hi hj=>by
         obtain ⟨x,hx,hrx⟩:=hr2 i j e d hi hj
         simp only [List.getElem?_map,Option.map_eq_some_iff] at hi
         obtain ⟨y0,_,rfl⟩:=hi
         exact ⟨x,hx,zDb hfl (List.mem_of_getElem? hj) hrx⟩) (by simpa using hnc) (by simpa using hrest _) (zAA (w:=w.drew))
       rw [←List.map_append, ←hsz] at hrow
       have:=zIg (w':=w.drew.alloc (.cells (old.toArray++(cells.toArray++Builtin.zeroCells z.cells (newCap- (xs.length+(y::r).length)))) el)) (O':=fun b=>b=w.heap.size∨(O b∧b≠hb id)) (id:=id) hfl hR hF (zs:=xs++y::r) (by simp) (blk:=w.heap.size) (cap:=newCap)
        ⟨rfl,rfl,rfl,by simp,fun b hb _=>wZ (w:=w.drew) hb,Nat.le_succ _⟩ (fun b=>by
         constructor
         ·rintro (rfl|hh)
          ·exact .inl rfl
          ·exact .inr ⟨hh.1,fun _ _=>hh.2⟩
         ·rintro (rfl|hh)
          ·exact .inl rfl
          ·exact .inr ⟨hh.1,hh.2 xs hst⟩) (.inr (Nat.le_refl _)) (by simp) (by rw [hsz] at hrow ⊢;exact hrow) (fun j xs' _ hj=>by
         have hlt:=(j1 t).inb (⟨hb,hc,hR⟩:(j1 t).R st F O w) _ (hR.row j xs' hj).2.1
         exact ⟨by omega,wZ (w:=w.drew) hlt⟩) (fun _=>⟨xs,hst⟩)
       simpa using this
    ·cases h
   ·cases h
end
end Go.Ve

namespace Go.Ve
open Go
def zP.addH {t:Ty} (S:zP (j1 t)):zP (j1 t):=fun f s ds=>
 match Nat.beq f yA with
 |true=>match ds with
  |[.bot, .rf q, .tl t' ys, .val (.int _ b)]=>match zCV t' t ys with
   | .some zs=> .some ⟨HSt t×Option (Nat×Nat),zPi b.toNat s q zs,fun y=>y.1,fun y=> .p (.rf y.2),false⟩
   | .none=>S f s ds
  |_=>S f s ds
 |false=>S f s ds
theorem zLQ {t:Ty} {P:Program} {G:Nat→Option (List V)} {S:zP (j1 t)} (hS:qE (j1 t) P G S.toS) (hfl:t.flat=true) (hno:P.funcs[yA]? =none):
  qE (j1 t) P G S.addH.toS:=by
 have e2: ∀g,g≠yA→S.addH.toS g=S.toS g:=by
  intro g hg
  funext s ds
  have:Nat.beq g yA=false:=by
   cases hb:Nat.beq g yA with
   |false=>rfl
   |true=>exact absurd (Nat.eq_of_beq_eq_true hb) hg
  simp only [zP.toS,zP.addH,this]
 have e1: ∀ (s:HSt t) (ds:List V) r,S.addH.toS yA s ds=some r→S.toS yA s ds=some r∨
   ∃q ys zs k b,ds=[.bot, .rf q, .tl t ys, .val (.int k b)]∧ ∃q',zPi b.toNat s q ys=some (zs,q')∧r=(zs, .p (.rf q')):=by
  intro s ds r h
  have ht:Nat.beq yA yA=true:=Nat.beq_refl _
  simp only [zP.toS,zP.addH,ht] at h
  split at h
  ·rename_i c hc
   split at hc
   ·rename_i q t' ys k b
    cases hzs:zCV t' t ys with
    |none=>rw [hzs] at hc;simp only at hc;exact .inl (by simp only [zP.toS,hc];exact h)
    |some zs=>
     rw [hzs] at hc
     obtain ⟨htt,hz⟩:=k8 (kX hzs)
     subst htt
     subst hz
     simp only [Option.some.injEq] at hc
     rw [←hc] at h
     simp only [Option.map_eq_some_iff] at h
     obtain ⟨⟨st',q'⟩,h1,h2⟩:=h
     exact .inr ⟨q,ys,st',k,b,rfl,q',h1,h2.symm⟩
   ·exact .inl (by simp only [zP.toS,hc];exact h)
  ·cases h
 refine ⟨?_,?_,?_,?_⟩
 ·intro g
  by_cases hg:g=yA
  ·subst hg
   intro w F O s args ds s' r a1 a2 a3 a4 a5 a6
   rcases e1 s ds _ a6 with h|⟨q,ys,zs,k,b,rfl,_⟩
   ·exact hS.ok yA w F O s args ds s' r a1 a2 a3 a4 a5 h
   ·exfalso
    have h0:0<args.size:=by rw [a4];simp
    have hnb: ∀u:Value, ¬Rd w F u .bot:=fun u h=>by cases h
    exact hnb _ (a5 0 args[0] .bot (by simp [h0]) rfl)
  ·rw [e2 g hg];exact hS.ok g
 ·intro g s ds r hr hbot
  by_cases hg:g=yA
  ·subst hg
   rcases e1 s ds _ hr with h|⟨q,ys,zs,k,b,rfl,_⟩
   ·exact hS.is _ s ds r h hbot
   ·exact absurd rfl (hbot _)
  ·rw [e2 g hg] at hr;exact hS.is g s ds r hr hbot
 ·intro _ st q t' ys bytes st' d h
  rcases e1 _ _ _ h with h|⟨q0,ys0,zs,k,b,heq,q',h1,h2⟩
  ·exact hS.app hno st q t' ys bytes st' d h
  ·simp only [List.cons.injEq,V.rf.injEq,V.tl.injEq,V.val.injEq,Value.int.injEq,true_and,and_true] at heq
   obtain ⟨rfl,⟨htt,hys⟩,rfl,rfl⟩:=heq
   subst htt
   have hys:=eq_of_heq hys
   subst hys
   cases h2
   simp only [Int.toNat_natCast] at h1
   exact zY1 hfl h1
 ·intro f st t' xs ds st' ys d h
  by_cases hf:f=yA
  ·subst hf
   rcases e1 _ _ _ h with h|⟨q0,ys0,zs,k,b,heq,_⟩
   ·exact hS.bor _ st t' xs ds st' ys d h
   ·simp at heq
  ·rw [e2 f hf] at h;exact hS.bor f st t' xs ds st' ys d h
section
variable {Γ:Sig} {P:Program} {G:Nat→Option (List V)}
noncomputable def zZ5 (L:jA) (G:Nat→Option (List V)) (S:zP Γ) (A:Nat→Option JA) (fn:Func) (c:Code) (R:RTy) (s:Γ.St) (ds:List V):Option (Γ.St×R.El):=
 zC3 (start fn.ntmps s ds) (fun e=>exC L G S A c (Γ.St×R.El) (fun k e1 _=>match k with
  | .exit _=>none
  |_=>match zB0 L e1 fn with
   |some r=>match R.get r with
    |some y=>some (e1.st,y)
    |none=>none
   |none=>none) e 0)
def zLS {X:Type} (dec:List V→Option X) (R:RTy) (g:Γ.St→X→Option (Γ.St×R.El)):Γ.St→List V→Option (zCW Γ.St):=fun s ds=>
 match dec ds with
 |some x=>some ⟨Γ.St×R.El,g s x,fun y=>y.1,fun y=>R.res y.2,R.pl⟩
 |none=>none
theorem zXw {S:zP Γ} {A:Nat→Option JA} (hst: ∀k j,A k=some j→zEM j.sl=true) (hmix:P.follows .mixedOrders=true) (hS:qE Γ P G S.toS) {f:FuncId} {fn:Func} {c:Code} (hf:P.funcs[f]? =some fn) (hb:fn.body=some c)
  {X:Type} {dec:List V→Option X} {enc:X→List V} (hdec: ∀ds x,dec ds=some x→wK ds (enc x)) {R:RTy} {g:Γ.St→X→Option (Γ.St×R.El)} (h: ∀s x,zZ5 (Γ:=Γ) P G S A fn c R s (enc x)=g s x):wL Γ P G f (qN (zLS dec R g)):=by
 intro w F O s args ds s' r hsig hG hF hlen hrd hspec
 simp only [qN,zLS] at hspec
 split at hspec
 ·rename_i cx hcx
  split at hcx
  ·rename_i x hx
   simp only [Option.some.injEq] at hcx
   subst hcx
   simp only [Option.map_eq_some_iff] at hspec
   obtain ⟨⟨s1,y⟩,hy,hsr⟩:=hspec
   simp only [Prod.mk.injEq] at hsr
   obtain ⟨rfl,rfl⟩:=hsr
   have hwk:=hdec ds x hx
   have hlen':args.size=(enc x).length:=hlen.trans hwk.len
   have hrd': ∀ (i:Nat) (u:Value) (d:V),args[i]? =some u→(enc x)[i]? =some d→Rd w F u d:=by
    intro i u d hu hd
    have hlt:i<ds.length:=by rw [hwk.len];exact (List.getElem?_eq_some_iff.1 hd).1
    exact hwk.get i ds[i] d (by simp [hlt]) hd w F u (hrd i u ds[i] hu (by simp [hlt]))
   have hex:=h s x
   rw [hy] at hex
   unfold zZ5 at hex
   rw [kR] at hex
   obtain ⟨k,e',d,hok,_,hend⟩:=zHq (fun k j hj=> .inr (hst k j hj)) hmix hS c _ _ _ _ _ hex
   have hk:(k= .normal∨k= .ret)∧(match zB0 (jA.of P) e' fn with
    |some r=>match R.get r with
     |some y=>some (e'.st,y)
     |none=>none
    |none=>none)=some (s1,y):=by
    cases k with
    |normal=>exact ⟨.inl rfl,hend⟩
    |ret=>exact ⟨.inr rfl,hend⟩
    |exit id=>cases hend
   obtain ⟨hk,hend⟩:=hk
   split at hend
   ·rename_i r' hr'
    split at hend
    ·rename_i y' hy'
     simp only [Option.some.injEq,Prod.mk.injEq] at hend
     obtain ⟨rfl,rfl⟩:=hend
     refine calls_of_wp hf hb ?_
     have qY: ∀t,zU w F ⟨fun _=>0,fun _=>0⟩ (fun _=>False) ((args++Array.replicate (fn.ntmps-args.size) undef).getD t undef) ((start fn.ntmps s (enc x)).get t):=by
      intro t
      simp only [start,zE7,Env.get,List.getD_eq_getElem?_getD,Array.getD_eq_getD_getElem?]
      by_cases ht:t< (enc x).length
      ·rw [List.getElem?_append_left (by simpa using ht),Array.getElem?_append_left (by omega)]
       rw [List.getElem?_map,List.getElem?_eq_getElem ht,Array.getElem?_eq_getElem (by omega)]
       exact hrd' t _ _ (by simp [show t<args.size by omega]) (by simp [ht])
      ·rw [List.getElem?_append_right (by simpa using Nat.le_of_not_lt ht),Array.getElem?_append_right (by omega),hlen']
       simp only [List.length_map]
       by_cases h2:t- (enc x).length<fn.ntmps- (enc x).length
       ·rw [List.getElem?_replicate,if_pos h2,Array.getElem?_replicate,if_pos h2]
        exact Rd.val _
       ·rw [List.getElem?_replicate,if_neg h2]
        trivial
     have hnovar: ∀s0,(start fn.ntmps s (enc x)).var s0=none:=by
      intro s0
      simp only [start,Env.var,List.getElem?_replicate]
      split<;>rfl
     have hinv:Inv Γ G w F O { tmps:=args++Array.replicate (fn.ntmps-args.size) undef,defers:=[] } w (start fn.ntmps s (enc x)):=by
      refine Inv.of (F:=F) (O:=O) (β:=⟨fun _=>0,fun _=>0⟩) (al:=fun _=>False) ⟨zCK.refl _ w,hsig,fun b hb=> .inl hb,fun b hb=>⟨.inl hb,hF b hb⟩,fun b hb=>hb,fun x hx=>hx.elim,fun x y hx=>hx.elim,fun b n h=>by cases h⟩ hG ?_ rfl qY ?_ (fun s h=>h.elim)
      ·simp [start,zE7,hlen']
      ·intro s0 cs hcs;rw [hnovar] at hcs;cases hcs
     refine wp_mono (hok w F O _ w hinv) ?_
     rintro ex a' w' ⟨rfl,hi'⟩
     obtain ⟨v,F',O',h1,h2,h3,h4,h5,h6,h7⟩:=zLk rfl hi' hr'
     have hdf:a'.defers=[]:=by obtain ⟨_,_,_,_,_,_,hdf,_⟩:=hi';exact hdf
     obtain ⟨F'',g1,gh,g2,g3⟩:=RTy.get_sound hy' h7
     have h2:=Γ.mono h2 gh (fun _ _=>rfl)
     have hF'': ∀b:Nat,F'' b→(F b∨w.heap.size≤b)∧b<w'.heap.size∧ ¬O' b:=by
      intro b hb
      rcases g2 b hb with hb|⟨h1,h2,h3⟩
      ·exact h6 b hb
      ·exact ⟨.inr h1,h2,h3⟩
     rcases hk with rfl|rfl
     ·exact ⟨hdf,v,h1,v,F'',O',rfl,h2,h3,h4,fun b hb=>g1 b (h5 b hb),hF'',g3⟩
     ·exact ⟨hdf,v,h1,v,F'',O',rfl,h2,h3,h4,fun b hb=>g1 b (h5 b hb),hF'',g3⟩
    ·cases hend
   ·cases hend
  ·cases hcx
 ·cases hspec
end
def Ty.norf:Ty→Bool
 | .rf=>false
 | .pair a b=>a.norf&&b.norf
 | .sl t=>t.norf
 |_=>true
theorem zFe {w:World} {F F':Blk→Prop} (hF: ∀b:Nat,F b→F' b): ∀ (t:Ty) (_:t.norf=true) (x:t.El) (v:Value) (d:V),d∈t.cells x→Rd w F v d→Rd w F' v d:=by
 intro t
 induction t with
 |int k=>intro _ x v d hd h;simp only [Ty.cells,List.mem_singleton] at hd;subst hd;rw [Rd.eq_val h];exact .val _
 |bool=>intro _ x v d hd h;simp only [Ty.cells,List.mem_singleton] at hd;subst hd;rw [Rd.eq_val h];exact .val _
 |str=>intro _ x v d hd h;simp only [Ty.cells,List.mem_singleton] at hd;subst hd;rw [Rd.eq_val h];exact .val _
 |unit=>intro _ x v d hd h;simp [Ty.cells] at hd
 |rf=>intro hn;simp [Ty.norf] at hn
 |pair a b iha ihb=>
  intro hn x v d hd h
  simp only [Ty.norf,Bool.and_eq_true] at hn
  simp only [Ty.cells,List.mem_append] at hd
  rcases hd with hd|hd
  ·exact iha hn.1 x.1 v d hd h
  ·exact ihb hn.2 x.2 v d hd h
 |sl t ih=>
  intro hn x v d hd h
  simp only [Ty.cells,List.mem_singleton] at hd
  subst hd
  refine .tl t x v ?_
  have h:=h.untl
  generalize hes:x.map t.enc=es at h
  cases h with
  |slemp a cap=>exact .slemp a cap
  |sl b off cap k _ g hFb hcap hk hg hr=>
   refine .sl b off cap k es g (hF b hFb) hcap hk hg ?_
   intro i j e d' hi hj
   have hi0:=hi
   rw [←hes] at hi0
   simp only [List.getElem?_map,Option.map_eq_some_iff] at hi0
   obtain ⟨y,_,rfl⟩:=hi0
   exact ih hn y _ d' (by rw [←qS];exact List.mem_of_getElem? hj) (hr i j _ d' hi hj)
theorem zUU {w:World} {F F':Blk→Prop} (hF: ∀b:Nat,F b→F' b) {t:Ty} (hn:t.norf=true) {x:t.El} {v:Value} (h:Rd w F v (t.enc x)):Rd w F' v (t.enc x):=by
 cases t with
 |int k=>rw [Rd.eq_val h];exact .val _
 |bool=>rw [Rd.eq_val h];exact .val _
 |str=>rw [Rd.eq_val h];exact .val _
 |rf=>simp [Ty.norf] at hn
 |unit=>
  cases h with
  |agg cs _ hl hh=>exact .agg cs _ hl (fun i x d hi hd=>by simp at hd)
 |pair a b=>
  cases h with
  |agg cs _ hl hh=>exact .agg cs _ hl (fun i u d hi hd=>zFe hF (.pair a b) hn x u d (List.mem_of_getElem? hd) (hh i u d hi hd))
 |sl t=>exact zFe hF (.sl t) hn x v _ (by simp [Ty.cells,Ty.enc]) h
theorem zWO {w:World} {F F':Blk→Prop} (hF: ∀b:Nat,F b→F' b) {t:Ty} (hn:t.norf=true) {b k cap:Nat} {xs:List t.El} (hr:qI w F b k cap (xs.map t.enc)):qI w F' b k cap (xs.map t.enc):=by
 obtain ⟨c,et,h1,h2,h3,h4,h5⟩:=hr
 refine ⟨c,et,h1,h2,h3,h4,fun i j e d x a1 a2 a3=> ?_⟩
 have a0:=a1
 simp only [List.getElem?_map,Option.map_eq_some_iff] at a0
 obtain ⟨y,hy,rfl⟩:=a0
 exact zFe hF t hn y x d (by rw [←qS];exact List.mem_of_getElem? a2) (h5 i j (t.enc y) d x a1 a2 a3)
def RTy.norf:RTy→Bool
 | .p ty=>ty.norf
 | .o ty=>ty.norf
 | .tu tys=>tys.all Ty.norf
theorem zLq {w:World} {F F':Blk→Prop} (hF: ∀b:Nat,F b→F' b): ∀ (ts:List Ty) (x:ElS ts),ts.all Ty.norf=true→ ∀ (i:Nat) (v:Value) (d:V),(kA ts x)[i]? =some d→Rd w F v d→Rd w F' v d
 |[],_,_,i,v,d,hd,_=>by simp [kA] at hd
 |t::ts,x,hn,i,v,d,hd,h=>by
  simp only [List.all_cons,Bool.and_eq_true] at hn
  cases i with
  |zero=>simp only [kA,List.getElem?_cons_zero,Option.some.injEq] at hd;subst hd;exact zUU hF hn.1 h
  |succ i=>exact zLq hF ts x.2 hn.2 i v d (by simpa [kA] using hd) h
theorem zWT {N:Nat} {w:World} {F F':Blk→Prop} {O O':Nat→Prop} (hF: ∀b:Nat,F b→F' b) (hF': ∀b:Nat,N≤b→F' b→F b) (hO: ∀b,N≤b→O' b→O b) {R:RTy} (hn:R.norf=true) {y:R.El} {v:Value} (h:xG N w F O v (R.res y)):xG N w F' O' v (R.res y):=by
 cases R with
 |p ty=>exact zUU (t:=ty) hF hn h
 |o ty=>
  rcases h with h|⟨h0,b,cap,h1,h2,h3,h4,h5,k,h6⟩
  ·exact .inl h
  ·exact .inr ⟨h0,b,cap,h1,h2,h3,fun hh=>h4 (hF' b h2 hh),fun hh=>h5 (hO b h2 hh),k,zWO (t:=ty) hF hn h6⟩
 |tu tys=>
  have h:Rd w F v (.tup (kA tys y)):=h
  cases h with
  |tup cs _ hl hh=>exact .tup cs _ hl (fun i u d hi hd=>zLq hF tys y hn i u d hd (hh i u d hi hd))
theorem zLe {Γ:Sig} {P:Program} {G:Nat→Option (List V)} {f:FuncId} {X:Type} {dec:List V→Option X} {R:RTy} {g:X→Option R.El} (hn:R.norf=true)
  (h:wL jL P G f (qN (wY dec R g))):wL Γ P G f (qN (wY dec R g)):=by
 intro w F O s args ds s' r hsig hG hF hlen hrd hspec
 simp only [qN,wY] at hspec
 cases hx:dec ds with
 |none=>rw [hx] at hspec;cases hspec
 |some x=>
  rw [hx] at hspec
  simp only [Option.map_eq_some_iff,Prod.mk.injEq] at hspec
  obtain ⟨y,hy,rfl,rfl⟩:=hspec
  have hcall:=h w F (fun _=>False) () args ds () (R.res y) (fun _ h=>h) hG (fun b hb=>⟨(hF b hb).1,fun h=>h⟩) hlen hrd (by simp only [qN,wY,hx,hy,Option.map_some])
  refine hcall.mono ?_
  rintro e w' ⟨v,F',O',rfl,g1,g2,g3,g4,g5,g6⟩
  let F'':Blk→Prop:=fun b=>match b with
   | .b n=>F' (.b n)
   | .h id a n c=>F (.h id a n c)
  have hkb: ∀b,O b→w'.heap[b]? =w.heap[b]? :=fun b hb=>g2.block b (Γ.inb hsig b hb) (fun h=>h)
  refine ⟨v,F'',O,rfl,Γ.mono hsig (fun _ _ _ _=>Iff.rfl) hkb,⟨g2.os,g2.tape,g2.output,g2.size,fun b hb _=>g2.block b hb (fun h=>h),g2.drawn⟩,fun b hb=> .inl hb,?_,?_,?_⟩
  ·intro b hb
   cases b with
   |b n=>exact g4 _ hb
   |h _ _ _ _=>exact hb
  ·intro b hb
   obtain ⟨h1,h2,_⟩:=g5 b hb
   refine ⟨h1,h2,fun ho=> ?_⟩
   rcases h1 with h1|h1
   ·exact (hF b h1).2 ho
   ·have:=Γ.inb hsig b ho;omega
  ·exact zWT (F:=F') (F':=F'') (fun b hb=>hb) (fun b _ hb=>hb) (fun b hb ho=>by have:=Γ.inb hsig b ho;omega) hn g6
@[reducible] def vM (tE:Ty):Ty→Ty
 | .rf=> .sl tE
 | .pair a b=> .pair (vM tE a) (vM tE b)
 | .sl t=> .sl (vM tE t)
 | .int k=> .int k
 | .bool=> .bool
 | .str=> .str
 | .unit=> .unit
def zKa {α β:Type} (f:α→Option β):List α→Option (List β)
 |[]=>some []
 |x::r=>match f x,zKa f r with
  |some y,some ys=>some (y::ys)
  |_,_=>none
def zAl {tE:Ty} (st:HSt tE):(t:Ty)→t.El→Option (vM tE t).El
 | .rf,o=>match o with
  |none=>some []
  |some (id,_)=>match st[id]? with
   |some (some xs)=>some xs
   |_=>none
 | .pair a b,x=>match zAl st a x.1,zAl st b x.2 with
  |some y,some z=>some (y,z)
  |_,_=>none
 | .sl t,xs=>zKa (zAl st t) xs
 | .int _,x=>some x
 | .bool,x=>some x
 | .str,x=>some x
 | .unit,x=>some x
theorem zJ9 {α β:Type} {f:α→Option β} : ∀ {xs:List α} {ys:List β},zKa f xs=some ys→xs.length=ys.length∧ ∀ (i:Nat) (y:β),ys[i]? =some y→ ∃x,xs[i]? =some x∧f x=some y
 |[],ys,h=>by simp only [zKa,Option.some.injEq] at h;subst h;exact ⟨rfl,fun i y h=>by simp at h⟩
 |x::r,ys,h=>by
  simp only [zKa] at h
  split at h
  ·rename_i y ys' hy hys
   simp only [Option.some.injEq] at h
   subst h
   obtain ⟨h1,h2⟩:=zJ9 hys
   refine ⟨by simp [h1],fun i z hz=> ?_⟩
   cases i with
   |zero=>simp only [List.getElem?_cons_zero,Option.some.injEq] at hz;subst hz;exact ⟨x,rfl,hy⟩
   |succ i=>exact h2 i z (by simpa using hz)
  ·cases h
theorem kB (tE:Ty): ∀t:Ty,(vM tE t).size=t.size
 | .rf=>rfl
 | .pair a b=>by simp only [vM,Ty.size];rw [kB tE a,kB tE b]
 | .sl _=>rfl
 | .int _=>rfl
 | .bool=>rfl
 | .str=>rfl
 | .unit=>rfl
section
variable {tE:Ty} {st:HSt tE} {F F':Blk→Prop} {O:Nat→Prop} {w:World} {hb hc:Nat→Nat}
theorem zKQ (h:zUF tE st F O w hb hc) (hF: ∀b:Nat,F b→F' b) (hO: ∀b,O b→F' (.b b)): ∀ (t:Ty) (x:t.El) (y:(vM tE t).El),zAl st t x=some y→
  ∀ (i:Nat) (v:Value) (d d':V),(t.cells x)[i]? =some d→((vM tE t).cells y)[i]? =some d'→Rd w F v d→Rd w F' v d':=by
 intro t
 induction t with
 |int k=>
  intro x y hxy i v d d' hd hd' hr
  obtain rfl:x=y:=Option.some.inj hxy
  have:=hd.symm.trans hd'
  simp only [Option.some.injEq] at this;subst this
  cases i with
  |zero=>simp only [Ty.cells,List.getElem?_cons_zero,Option.some.injEq] at hd;subst hd;rw [Rd.eq_val hr];exact .val _
  |succ i=>simp [Ty.cells] at hd
 |bool=>
  intro x y hxy i v d d' hd hd' hr
  obtain rfl:x=y:=Option.some.inj hxy
  have:=hd.symm.trans hd'
  simp only [Option.some.injEq] at this;subst this
  cases i with
  |zero=>simp only [Ty.cells,List.getElem?_cons_zero,Option.some.injEq] at hd;subst hd;rw [Rd.eq_val hr];exact .val _
  |succ i=>simp [Ty.cells] at hd
 |str=>
  intro x y hxy i v d d' hd hd' hr
  obtain rfl:x=y:=Option.some.inj hxy
  have:=hd.symm.trans hd'
  simp only [Option.some.injEq] at this;subst this
  cases i with
  |zero=>simp only [Ty.cells,List.getElem?_cons_zero,Option.some.injEq] at hd;subst hd;rw [Rd.eq_val hr];exact .val _
  |succ i=>simp [Ty.cells] at hd
 |unit=>intro x y hxy i v d d' hd;simp [Ty.cells] at hd
 |rf=>
  intro x y hxy i v d d' hd hd' hr
  cases i with
  |succ i=>simp [Ty.cells] at hd
  |zero=>
   simp only [Ty.cells,List.getElem?_cons_zero,Option.some.injEq] at hd
   simp only [vM,Ty.cells,List.getElem?_cons_zero,Option.some.injEq] at hd'
   subst hd hd'
   cases hr with
   |rfn=>
    obtain rfl:([]:List tE.El)=y:=Option.some.inj hxy
    exact .tl tE [] _ (.slemp none 0)
   |rf id a n c hh=>
    simp only [zAl] at hxy
    split at hxy
    ·rename_i xs hxs
     obtain rfl:xs=y:=Option.some.inj hxy
     obtain ⟨rfl,rfl,rfl⟩:=(h.hdl id xs hxs _ _ _).1 hh
     obtain ⟨_,h2,h3⟩:=h.row id xs hxs
     refine .tl tE xs _ ?_
     have:=zG6 (F':=F') h3 (fun _ h=>h.elim) (hO _ h2)
     simpa using this
    ·cases hxy
 |pair a b iha ihb=>
  intro x y hxy i v d d' hd hd' hr
  simp only [zAl] at hxy
  split at hxy
  ·rename_i y1 y2 h1 h2
   obtain rfl:(y1,y2)=y:=Option.some.inj hxy
   simp only [vM,Ty.cells] at hd hd'
   by_cases hi:i< (a.cells x.1).length
   ·rw [List.getElem?_append_left hi] at hd
    rw [List.getElem?_append_left (by rw [qW,kB];rw [qW] at hi;exact hi)] at hd'
    exact iha x.1 y1 h1 i v d d' hd hd' hr
   ·rw [List.getElem?_append_right (by omega)] at hd
    rw [List.getElem?_append_right (by rw [qW,kB];rw [qW] at hi;omega)] at hd'
    rw [qW,kB, ←qW a x.1] at hd'
    exact ihb x.2 y2 h2 _ v d d' hd hd' hr
  ·cases hxy
 |sl t ih=>
  intro x y hxy i v d d' hd hd' hr
  cases i with
  |succ i=>simp [Ty.cells] at hd
  |zero=>
   simp only [Ty.cells,List.getElem?_cons_zero,Option.some.injEq] at hd
   simp only [vM,Ty.cells,List.getElem?_cons_zero,Option.some.injEq] at hd'
   subst hd hd'
   obtain ⟨hlen,qY⟩:=zJ9 (show zKa (zAl st t) x=some y from hxy)
   refine .tl (vM tE t) y v ?_
   have hr1:=hr.untl
   clear hr
   generalize hes:x.map t.enc=es at hr1
   cases hr1 with
   |slemp a cap=>
    have hx0:x=[]:=by simpa using hes
    subst hx0
    have hy0:y=[]:=List.eq_nil_of_length_eq_zero hlen.symm
    subst hy0
    exact .slemp a cap
   |sl b off cap k _ g hFb hcap hk hg hr=>
    have hel:es.length=(y.map (vM tE t).enc).length:=by rw [←hes,List.length_map,List.length_map];exact hlen
    rw [hel] at hg hcap ⊢
    have hkk: ∀e,e∈y.map (vM tE t).enc→e.cells.length=k:=by
     intro e he
     simp only [List.mem_map] at he
     obtain ⟨y0,hy0,rfl⟩:=he
     rw [w7,kB]
     obtain ⟨j,hj⟩:=List.getElem?_of_mem hy0
     obtain ⟨x0,hx0,_⟩:=qY j y0 hj
     have:=hk (t.enc x0) (by rw [←hes];exact List.mem_map_of_mem (List.mem_of_getElem? hx0))
     rw [w7] at this;exact this
    refine .sl b off cap k _ g (hF b hFb) hcap hkk hg ?_
    intro i j e d' hi hj
    simp only [List.getElem?_map,Option.map_eq_some_iff] at hi
    obtain ⟨y0,hy0,rfl⟩:=hi
    obtain ⟨x0,hx0,hxy0⟩:=qY i y0 hy0
    rw [qS] at hj
    have hjl:j< (t.cells x0).length:=by
     have:=(List.getElem?_eq_some_iff.1 hj).1
     rw [qW,kB] at this;rw [qW];exact this
    refine ih x0 y0 hxy0 j _ (t.cells x0)[j] d' (by simp [hjl]) hj (hr i j (t.enc x0) _ (by rw [←hes];simp [hx0]) (by rw [qS];simp [hjl]))
theorem zUL (h:zUF tE st F O w hb hc) (hF: ∀b:Nat,F b→F' b) (hO: ∀b,O b→F' (.b b)) (t:Ty) (x:t.El) (y:(vM tE t).El) (hxy:zAl st t x=some y) {v:Value} (hr:Rd w F v (t.enc x)):Rd w F' v ((vM tE t).enc y):=by
 have one: ∀ (_:t.enc x=(t.cells x)[0]?.getD .bot) (_:(vM tE t).enc y=((vM tE t).cells y)[0]?.getD .bot) (_:0<t.size),Rd w F' v ((vM tE t).enc y):=by
  intro h1 h2 h3
  have l1:0< (t.cells x).length:=by rw [qW];exact h3
  have l2:0< ((vM tE t).cells y).length:=by rw [qW,kB];exact h3
  rw [h1] at hr
  rw [h2]
  simp only [List.getElem?_eq_getElem l1,Option.getD_some] at hr
  simp only [List.getElem?_eq_getElem l2,Option.getD_some]
  exact zKQ h hF hO t x y hxy 0 v _ _ (by simp [l1]) (by simp [l2]) hr
 cases t with
 |int k=>exact one rfl rfl Nat.one_pos
 |bool=>exact one rfl rfl Nat.one_pos
 |str=>exact one rfl rfl Nat.one_pos
 |rf=>exact one rfl rfl Nat.one_pos
 |sl t=>exact one rfl rfl Nat.one_pos
 |unit=>
  cases hr with
  |agg cs _ hl hh=>exact .agg cs _ hl (fun i x d hi hd=>by simp at hd)
 |pair a b=>
  cases hr with
  |agg cs _ hl hh=>
   have e1:(a.cells x.1++b.cells x.2).length=(Ty.pair a b).size:=qW (.pair a b) x
   have e2:(((vM tE a).cells y.1)++((vM tE b).cells y.2)).length=(vM tE (Ty.pair a b)).size:=qW (vM tE (Ty.pair a b)) y
   refine .agg cs _ (by rw [hl,e1,e2,kB]) ?_
   intro i u d hi hd
   have hlt:i< (a.cells x.1++b.cells x.2).length:=by
    have:=(List.getElem?_eq_some_iff.1 hd).1
    rw [e2,kB] at this;rw [e1];exact this
   exact zKQ h hF hO (.pair a b) x y hxy i u _ d (by simp only [Ty.cells];exact List.getElem?_eq_getElem hlt) hd (hh i u _ hi (List.getElem?_eq_getElem hlt))
end
end Go.Ve

namespace Go.Ve
open Go
theorem zEc: ∀ (t:Ty) (x:t.El) (r:List V),t.uncells (t.cells x++r)=some (x,r)
 | .int k,x,r=>by simp [Ty.cells,Ty.uncells,zE3]
 | .bool,x,r=>by simp [Ty.cells,Ty.uncells,zDj]
 | .str,x,r=>by simp [Ty.cells,Ty.uncells,zE2]
 | .unit,x,r=>by simp [Ty.cells,Ty.uncells]
 | .rf,x,r=>by simp [Ty.cells,Ty.uncells,zIm]
 | .sl t,x,r=>by simp [Ty.cells,Ty.uncells,zIl]
 | .pair a b,x,r=>by
  simp only [Ty.cells,Ty.uncells,List.append_assoc]
  rw [zEc a x.1]
  simp only
  rw [zEc b x.2]
theorem zY7 (t:Ty) (x:t.El):t.dec (t.enc x)=some x:=by
 cases t with
 |int k=>simp [Ty.enc,Ty.dec,zE3]
 |bool=>simp [Ty.enc,Ty.dec,zDj]
 |str=>simp [Ty.enc,Ty.dec,zE2]
 |unit=>rfl
 |rf=>simp [Ty.enc,Ty.dec,zIm]
 |sl t=>simp [Ty.enc,Ty.dec,zIl]
 |pair a b=>
  have:=zEc (.pair a b) x []
  simp only [List.append_nil] at this
  simp only [Ty.enc,Ty.dec]
  simp only [Ty.cells] at this
  rw [this]
theorem zDG: ∀ (ts:List Ty) (x:ElS ts),zEq ts (kA ts x)=some x
 |[],_=>rfl
 |t::ts,x=>by
  simp only [kA,zEq,zY7,zDG ts]
@[reducible] def zGl (tE:Ty):List Ty→List Ty
 |[]=>[]
 |t::r=>vM tE t::zGl tE r
def zNb {tE:Ty} (st:HSt tE):(ts:List Ty)→ElS ts→Option (ElS (zGl tE ts))
 |[],_=>some ()
 |t::r,x=>match zAl st t x.1,zNb st r x.2 with
  |some y,some z=>some (y,z)
  |_,_=>none
@[reducible] def zRs (tE:Ty):RTy→RTy
 | .p ty=> .p (vM tE ty)
 | .o ty=> .o (vM tE ty)
 | .tu tys=> .tu (zGl tE tys)
def zWw {tE:Ty} (st:HSt tE):(R:RTy)→R.El→Option (zRs tE R).El
 | .p ty,x=>zAl st ty x
 | .o ty,xs=>zKa (zAl st ty) xs
 | .tu tys,x=>zNb st tys x
section
variable {tE:Ty} {st:HSt tE} {F F':Blk→Prop} {O:Nat→Prop} {w:World} {hb hc:Nat→Nat}
theorem zRr (h:zUF tE st F O w hb hc) (hF: ∀b:Nat,F b→F' b) (hO: ∀b,O b→F' (.b b)): ∀ (ts:List Ty) (x:ElS ts) (y:ElS (zGl tE ts)),zNb st ts x=some y→
  (kA ts x).length=(kA (zGl tE ts) y).length∧ ∀ (i:Nat) (v:Value) (d d':V),(kA ts x)[i]? =some d→(kA (zGl tE ts) y)[i]? =some d'→Rd w F v d→Rd w F' v d'
 |[],_,_,_=>⟨rfl,fun i v d d' hd=>by simp [kA] at hd⟩
 |t::ts,x,y,hxy=>by
  simp only [zNb] at hxy
  split at hxy
  ·rename_i y1 y2 h1 h2
   obtain rfl:(y1,y2)=y:=Option.some.inj hxy
   obtain ⟨k1,k2⟩:=zRr h hF hO ts x.2 y2 h2
   refine ⟨by simp only [kA,List.length_cons,k1],fun i v d d' hd hd' hr=> ?_⟩
   cases i with
   |zero=>
    simp only [kA,List.getElem?_cons_zero,Option.some.injEq] at hd hd'
    subst hd hd'
    exact zUL h hF hO t x.1 y1 h1 hr
   |succ i=>exact k2 i v d d' (by simpa [kA] using hd) (by simpa [kA] using hd') hr
  ·cases hxy
theorem zWu (h:zUF tE st F O w hb hc) (hF: ∀b:Nat,F b→F' b) (hO: ∀b,O b→F' (.b b)) {t:Ty} {xs:List t.El} {ys:List (vM tE t).El} (hxy:zKa (zAl st t) xs=some ys) {b k cap:Nat}
  (hr:qI w F b k cap (xs.map t.enc)):qI w F' b k cap (ys.map (vM tE t).enc):=by
 obtain ⟨hlen,qY⟩:=zJ9 hxy
 obtain ⟨c,et,h1,h2,h3,h4,h5⟩:=hr
 refine ⟨c,et,h1,h2,by simpa [←hlen] using h3,?_,?_⟩
 ·intro e he
  simp only [List.mem_map] at he
  obtain ⟨y0,hy0,rfl⟩:=he
  rw [w7,kB]
  obtain ⟨j,hj⟩:=List.getElem?_of_mem hy0
  obtain ⟨x0,hx0,_⟩:=qY j y0 hj
  have:=h4 (t.enc x0) (List.mem_map_of_mem (List.mem_of_getElem? hx0))
  rw [w7] at this;exact this
 ·intro i j e d' x hi hj hx
  simp only [List.getElem?_map,Option.map_eq_some_iff] at hi
  obtain ⟨y0,hy0,rfl⟩:=hi
  obtain ⟨x0,hx0,hxy0⟩:=qY i y0 hy0
  rw [qS] at hj
  have hjl:j< (t.cells x0).length:=by
   have:=(List.getElem?_eq_some_iff.1 hj).1
   rw [qW,kB] at this;rw [qW];exact this
  exact zKQ h hF hO t x0 y0 hxy0 j _ (t.cells x0)[j] d' (by simp [hjl]) hj (h5 i j (t.enc x0) _ x (by simp [hx0]) (by rw [qS];simp [hjl]) hx)
theorem zWv (h:zUF tE st F O w hb hc) (hF: ∀b:Nat,F b→F' b) (hO: ∀b,O b→F' (.b b)) (hF': ∀b:Nat,F' b→F b∨O b) {N:Nat} {R:RTy} {x:R.El} {y:(zRs tE R).El} (hxy:zWw st R x=some y) {v:Value}
  (hr:xG N w F O v (R.res x)):xG N w F' (fun _=>False) v ((zRs tE R).res y):=by
 cases R with
 |p ty=>exact zUL h hF hO ty x y hxy hr
 |o ty=>
  have hxy:zKa (zAl st ty) x=some y:=hxy
  obtain ⟨hlen,_⟩:=zJ9 hxy
  rcases hr with ⟨h0,hv⟩|⟨h0,b,cap,h1,h2,h3,h4,h5,k,h6⟩
  ·have hx0:x=[]:=by simpa using h0
   subst hx0
   have hy0:y=[]:=List.eq_nil_of_length_eq_zero hlen.symm
   subst hy0
   exact .inl ⟨rfl,hv⟩
  ·refine .inr ⟨?_,b,cap,by rw [h1];simp [hlen],h2,h3,fun hh=>(hF' b hh).elim h4 h5,fun hh=>hh,k,zWu h hF hO hxy h6⟩
   intro hh
   have hy0:y=[]:=by simpa using hh
   subst hy0
   have hx0:x=[]:=List.eq_nil_of_length_eq_zero hlen
   subst hx0
   exact h0 rfl
 |tu tys=>
  have hr:Rd w F v (.tup (kA tys x)):=hr
  obtain ⟨k1,k2⟩:=zRr h hF hO tys x y hxy
  cases hr with
  |tup cs _ hl hh=>
   refine Rd.tup cs (kA (zGl tE tys) y) (hl.trans k1) ?_
   intro i u d hi hd
   have hlt:i< (kA tys x).length:=by rw [k1];exact (List.getElem?_eq_some_iff.1 hd).1
   exact k2 i u _ d (List.getElem?_eq_getElem hlt) hd (hh i u _ hi (List.getElem?_eq_getElem hlt))
end
def zNc {tE:Ty} {X:Type} (R:RTy) (g:HSt tE→X→Option (HSt tE×R.El)) (x:X):Option (zRs tE R).El:=
 match g [] x with
 |some (st,y)=>zWw st R y
 |none=>none
theorem zLY {tE:Ty} {P:Program} {G:Nat→Option (List V)} (hG0: ∀g,G g=none) {f:FuncId} {ts:List Ty} (hts:ts.all Ty.norf=true) {R:RTy} {g:HSt tE→ElS ts→Option (HSt tE×R.El)}
  (h:wL (j1 tE) P G f (qN (zLS (zEq ts) R g))):wL jL P G f (qN (j4 ts (zRs tE R) (zNc R g))):=by
 intro w F O s args ds s' r hsig hG hF hlen hrd hspec
 simp only [qN,j4,wY] at hspec
 cases hx:zEq ts ds with
 |none=>rw [hx] at hspec;cases hspec
 |some x=>
  rw [hx] at hspec
  simp only [Option.map_eq_some_iff,Prod.mk.injEq] at hspec
  obtain ⟨y,hy,rfl,rfl⟩:=hspec
  unfold zNc at hy
  split at hy
  ·rename_i st y0 hg
   have hwk:=uD ts ds x hx
   let F0:Blk→Prop:=fun b=>match b with
    | .b n=>F (.b n)
    | .h _ _ _ _=>False
   have hR0:(j1 tE).R [] F0 (fun _=>False) w:=⟨fun _=>0,fun _=>0,fun id xs hh=>by simp at hh,fun id _ a n c hh=>hh,fun id xs hh=>by simp at hh,fun id id' xs xs' hh=>by simp at hh,fun b hh=>hh.elim⟩
   have hcall:=h w F0 (fun _=>False) [] args (kA ts x) st (R.res y0) hR0 (fun g cs hg=>by rw [hG0 g] at hg;cases hg) (fun b hb=>⟨(hF b hb).1,fun hh=>hh⟩) (hlen.trans hwk.len) (by
    intro i u d hu hd
    have hlt:i<ds.length:=by rw [hwk.len];exact (List.getElem?_eq_some_iff.1 hd).1
    have:=hwk.get i ds[i] d (by simp [hlt]) hd w F u (hrd i u ds[i] hu (by simp [hlt]))
    exact zLq (F:=F) (F':=F0) (fun b hb=>hb) ts x hts i u d hd this) (by simp only [qN,zLS,zDG];rw [hg];rfl)
   refine hcall.mono ?_
   rintro e w' ⟨v,F',O',rfl,⟨hb,hc,g1⟩,g2,g3,g4,g5,g6⟩
   let F'':Blk→Prop:=fun b=>match b with
    | .b n=>F' (.b n)∨O' n
    | .h id a n c=>F (.h id a n c)
   refine ⟨v,F'',fun _=>False,rfl,fun _ hh=>hh,⟨g2.os,g2.tape,g2.output,g2.size,fun b hb _=>g2.block b hb (fun hh=>hh),g2.drawn⟩,fun b hh=>hh.elim,?_,?_,?_⟩
   ·intro b hb0
    cases b with
    |b n=>exact .inl (g4 (.b n) hb0)
    |h _ _ _ _=>exact hb0
   ·intro b hb0
    rcases hb0 with hb0|hb0
    ·obtain ⟨k1,k2,_⟩:=g5 b hb0
     exact ⟨k1,k2,fun hh=>hh⟩
    ·refine ⟨.inr ((g3 b hb0).elim (fun hh=>hh.elim) (fun hh=>hh)),(j1 tE).inb (⟨hb,hc,g1⟩:(j1 tE).R st F' O' w') b hb0,fun hh=>hh⟩
   ·exact zWv (F':=F'') g1 (fun b hh=> .inl hh) (fun b hh=> .inr hh) (fun b hh=>hh) hy g6
  ·cases hy
def zYB {St:Type} (S:St→List V→Option (St×RV)) (ts:List Ty) (R:RTy) (s:St) (x:ElS ts):Option (St×R.El):=
 match S s (kA ts x) with
 |some (s',r)=>match R.get r with
  |some y=>some (s',y)
  |none=>none
 |none=>none
theorem zVS {Γ:Sig} {P:Program} {G:Nat→Option (List V)} {f:FuncId} {S:Γ.St→List V→Option (Γ.St×RV)} (h:wL Γ P G f S) (ts:List Ty) (R:RTy):
  wL Γ P G f (qN (zLS (zEq ts) R (zYB S ts R))):=by
 intro w F O s args ds s' r hsig hG hF hlen hrd hspec
 simp only [qN,zLS] at hspec
 cases hx:zEq ts ds with
 |none=>rw [hx] at hspec;cases hspec
 |some x=>
  rw [hx] at hspec
  simp only [Option.map_eq_some_iff,Prod.mk.injEq] at hspec
  obtain ⟨⟨s1,y⟩,hy,rfl,rfl⟩:=hspec
  unfold zYB at hy
  split at hy
  ·rename_i s2 r0 hS
   split at hy
   ·rename_i y0 hy0
    simp only [Option.some.injEq,Prod.mk.injEq] at hy
    obtain ⟨rfl,rfl⟩:=hy
    have hwk:=uD ts ds x hx
    have hcall:=h w F O s args (kA ts x) s2 r0 hsig hG hF (hlen.trans hwk.len) (by
     intro i u d hu hd
     have hlt:i<ds.length:=by rw [hwk.len];exact (List.getElem?_eq_some_iff.1 hd).1
     exact hwk.get i ds[i] d (by simp [hlt]) hd w F u (hrd i u ds[i] hu (by simp [hlt]))) hS
    refine hcall.mono ?_
    rintro e w' ⟨v,F',O',rfl,g1,g2,g3,g4,g5,g6⟩
    obtain ⟨F'',k1,kh,k2,k3⟩:=RTy.get_sound hy0 g6
    refine ⟨v,F'',O',rfl,Γ.mono g1 kh (fun _ _=>rfl),g2,g3,fun b hb=>k1 b (g4 b hb),?_,k3⟩
    intro b hb
    rcases k2 b hb with hb|⟨h1,h2,h3⟩
    ·exact g5 b hb
    ·exact ⟨.inr h1,h2,h3⟩
   ·cases hy
  ·cases hy
theorem zSp {Γ:Sig} {P:Program} {G:Nat→Option (List V)} {f:FuncId} {S S':Γ.St→List V→Option (Γ.St×RV)} (h:wL Γ P G f S) (hs: ∀s ds r,S' s ds=some r→S s ds=some r):wL Γ P G f S':=
 fun w F O s args ds s' r a1 a2 a3 a4 a5 a6=>h w F O s args ds s' r a1 a2 a3 a4 a5 (hs _ _ _ a6)
end Go.Ve

namespace Go.Ve
open Go
set_option maxRecDepth 1000000
noncomputable def zFr:ElS [zD]→Option (RTy.El (.p .bool)):=fun x=>match x with|(a1,())=>Option.bind (bif decide ((↑(List.length a1.2.2.1):Int)>(12:Int)) then some true else bif decide ((↑(List.length a1.2.2.2.1):Int)>(12:Int)) then some true else bif decide ((↑(List.length a1.2.2.2.2.1):Int)>(12:Int)) then some true else bif decide ((↑(List.length a1.2.2.2.2.2.1):Int)>(12:Int)) then some true else bif decide ((↑(List.length a1.2.2.2.2.2.2.1):Int)>(12:Int)) then some true else bif decide ((↑(List.length a1.2.2.2.2.2.2.2.1):Int)>(20:Int)) then some true else bif decide ((↑(List.length a1.2.2.2.2.2.2.2.2.1.2.2.1):Int)>(8:Int)) then some true else bif decide ((↑(List.length a1.2.2.2.2.2.2.2.2.1.2.2.2.1):Int)>(8:Int)) then some true else bif decide ((↑(List.length a1.2.2.2.2.2.2.2.2.2.1.2.2.2.2.1):Int)>(8:Int)) then some true else bif decide ((↑(List.length a1.2.2.2.2.2.2.2.2.2.2.1.2.2.2.2.2.2.2.1):Int)>(8:Int)) then some true else bif decide ((↑(List.length a1.2.2.2.2.2.2.2.2.2.2.1.2.2.2.1):Int)>(12:Int)) then some true else bif decide ((↑(List.length a1.2.2.2.2.2.2.2.2.2.2.1.2.2.2.2.1):Int)>(12:Int)) then some true else bif decide ((↑(List.length a1.2.2.2.2.2.2.2.2.2.2.1.2.2.2.2.2.1):Int)>(12:Int)) then some true else some (decide ((↑(List.length a1.2.2.2.2.2.2.2.2.2.2.1.2.2.2.2.2.2.1):Int)>(12:Int)))) fun (s0:Bool)=>bif s0 then some false else qT (zO (fun (s5:Int)=>bif decide (s5< (↑(List.length a1.2.2.2.1):Int)) then Option.bind (idx a1.2.2.2.1 s5) fun (y6:Ty.El wW)=>bif decide ((↑(List.length y6.2.1):Int)>(20:Int)) then some (Sum.inr (Sum.inr false)) else some (Sum.inl (IntKind.wrap IntKind.i64 (s5+(1:Int)))) else some (Sum.inr (Sum.inl ()))) (0:Int)) fun (s7:Unit)=>qT (zO (fun (s12:Int)=>bif decide (s12< (↑(List.length a1.2.2.2.2.1):Int)) then Option.bind (idx a1.2.2.2.2.1 s12) fun (y13:Ty.El yI)=>bif decide ((↑(List.length y13.2.1):Int)>(12:Int)) then some (Sum.inr (Sum.inr false)) else some (Sum.inl (IntKind.wrap IntKind.i64 (s12+(1:Int)))) else some (Sum.inr (Sum.inl ()))) (0:Int)) fun (s14:Unit)=>qT (zO (fun (s19:Int)=>bif decide (s19< (↑(List.length a1.2.2.2.2.2.1):Int)) then Option.bind (idx a1.2.2.2.2.2.1 s19) fun (y20:Ty.El zKS)=>bif decide ((↑(List.length y20.2.1):Int)>(20:Int)) then some (Sum.inr (Sum.inr false)) else some (Sum.inl (IntKind.wrap IntKind.i64 (s19+(1:Int)))) else some (Sum.inr (Sum.inl ()))) (0:Int)) fun (s21:Unit)=>some true
noncomputable def zD4:ElS [zV]→Option (RTy.El (.p .bool)):=fun x=>match x with|(a1,())=>bif decide ((↑(List.length a1.1):Int)>(9:Int)) then some false else qT (zO (fun (s6:Int)=>bif decide (s6< (↑(List.length a1.1):Int)) then Option.bind (idx a1.1 s6) fun (y7:Ty.El zD)=>Option.bind (zFr (y7,())) fun (y8:Bool)=>bif !y8 then some (Sum.inr (Sum.inr false)) else some (Sum.inl (IntKind.wrap IntKind.i64 (s6+(1:Int)))) else some (Sum.inr (Sum.inl ()))) (0:Int)) fun (s9:Unit)=>some true
noncomputable def zBw:ElS [zH,zH]→Option (RTy.El (.p tI)):=fun x=>match x with|(a1,a2,())=>Option.bind (bif decide (a1.1<a2.1) then some true else bif a1.1==a2.1 then some (decide (a1.2.1<a2.2.1)) else some false) fun (s0:Bool)=>bif s0 then some (-1:Int) else bif a1.1==a2.1&&(a1.2.1==a2.2.1&&true) then some (0:Int) else some (1:Int)
noncomputable def zCl:HSt zL→ElS [zV]→Option (HSt zL×RTy.El (.tu [zGp,tI])):=fun st0 x=>match x with|(a1,())=>Option.bind (kZ (a1,())) fun (y0:Int)=>bif y0 !=(0:Int) then some (st0,([],[],()),y0,()) else Option.bind (zO (fun (s1:Int×(List (Ty.El zQ)×List Int)×HSt zL)=>bif decide (s1.1< (↑(List.length a1.1):Int)) then Option.bind (zO (fun (s2:Int×(List (Ty.El zQ)×List Int)×HSt zL)=>Option.bind (idx a1.1 s1.1) fun (y3:Ty.El zD)=>bif decide (s2.1< (↑(List.length y3.2.2.1):Int)) then Option.bind (Option.bind (idx a1.1 s1.1) fun (y4:Ty.El zD)=>Option.bind (idx y4.2.2.1 s2.1) fun (y5:Ty.El z7)=>Option.bind (bif y5.2.2.1==(0:Int) then some (true,s2.2) else some (y5.2.2.2.2.1,s2.2)) fun (s6:Bool×(List (Ty.El zQ)×List Int)×HSt zL)=>bif s6.1 then some s6.2 else Option.bind (wU (y5.2.1,y5.2.2.1,())) fun (y7:Int×Int×Unit)=>Option.bind (zO (fun (s8:Int×(List (Ty.El zQ)×List Int)×HSt zL)=>Option.bind (bif decide (s8.1< (↑(List.length s8.2.1.1):Int)) then Option.bind (idx s8.2.1.1 s8.1) fun (y16:Ty.El zQ)=>Option.bind (atN s8.2.1.1 (Int.toNat s8.1)) fun (y17:Ty.El zQ)=>Option.bind (zBw (y17.1,y7,())) fun (y18:Int)=>bif decide (y18< (0:Int)) then some (true,s8.2) else Option.bind (idx s8.2.1.1 s8.1) fun (y19:Ty.El zQ)=>Option.bind (atN s8.2.1.1 (Int.toNat s8.1)) fun (y20:Ty.El zQ)=>bif y20.1.1==y7.1&&(y20.1.2.1==y7.2.1&&true) then Option.bind (idx s8.2.1.1 s8.1) fun (y21:Ty.El zQ)=>Option.bind (atN s8.2.1.1 (Int.toNat s8.1)) fun (y22:Ty.El zQ)=>some (decide (y22.2.1<y5.2.2.2.1),s8.2) else some (false,s8.2) else some (false,s8.2)) fun (s23:Bool×(List (Ty.El zQ)×List Int)×HSt zL)=>bif s23.1 then some (Sum.inl (IntKind.wrap IntKind.i64 (s8.1+(1:Int)),s23.2)) else some (Sum.inr (s8.1,s23.2))) ((0:Int),s6.2)) fun (s24:Int×(List (Ty.El zQ)×List Int)×HSt zL)=>Option.bind (Option.bind (bif s24.1==(↑(List.length s24.2.1.1):Int) then some (true,s24.2) else Option.bind (idx s24.2.1.1 s24.1) fun (y29:Ty.El zQ)=>Option.bind (atN s24.2.1.1 (Int.toNat s24.1)) fun (y30:Ty.El zQ)=>bif !(y30.1.1==y7.1&&(y30.1.2.1==y7.2.1&&true)) then some (true,s24.2) else Option.bind (idx s24.2.1.1 s24.1) fun (y31:Ty.El zQ)=>Option.bind (atN s24.2.1.1 (Int.toNat s24.1)) fun (y32:Ty.El zQ)=>some (y32.2.1 !=y5.2.2.2.1,s24.2)) fun (s33:Bool×(List (Ty.El zQ)×List Int)×HSt zL)=>bif s33.1 then bif decide ((0:Int)≤s24.1)&&decide (s24.1≤(↑(List.length s33.2.1.1):Int))&&decide ((↑(List.length s33.2.1.1):Int)≤(↑(List.length s33.2.1.1):Int)) then Option.bind (app (48:Nat) [] (List.drop (Int.toNat s24.1) (List.take (Int.toNat (↑(List.length s33.2.1.1):Int)) s33.2.1.1))) fun (y34:List (Ty.El zQ))=>bif decide ((0:Int)≤(0:Int))&&decide ((0:Int)≤s24.1)&&decide (s24.1≤(↑(List.length s33.2.1.1):Int)) then Option.bind (app (48:Nat) (List.take (Int.toNat s24.1) s33.2.1.1) [(y7,y5.2.2.2.1,none,())]) fun (y35:List (Ty.El zQ))=>Option.bind (app (48:Nat) y35 y34) fun (y36:List (Ty.El zQ))=>some ((y36,s33.2.1.2),s33.2.2) else none else none else some s33.2) fun (s37:(List (Ty.El zQ)×List Int)×HSt zL)=>Option.bind (idx s37.1.1 s24.1) fun (y38:Ty.El zQ)=>Option.bind (atN s37.1.1 (Int.toNat s24.1)) fun (y39:Ty.El zQ)=>Option.bind (zPi (16:Nat) s37.2 y39.2.2.1 [(s1.1,s2.1,())]) fun (y40:List (Option (List (Ty.El zL)))×Option (Nat×Nat))=>Option.bind (idx s37.1.1 s24.1) fun (y41:Ty.El zQ)=>Option.bind (atN s37.1.1 (Int.toNat s24.1)) fun (y42:Ty.El zQ)=>some ((List.set s37.1.1 (Int.toNat s24.1) (y42.1,y42.2.1,y40.2,()),s37.1.2),y40.1)) fun (s43:(List (Ty.El zQ)×List Int)×HSt zL)=>some (Sum.inl (IntKind.wrap IntKind.i64 (s2.1+(1:Int)),s43)) else some (Sum.inr s2.2)) ((0:Int),s1.2)) fun (s44:(List (Ty.El zQ)×List Int)×HSt zL)=>some (Sum.inl (IntKind.wrap IntKind.i64 (s1.1+(1:Int)),s44)) else some (Sum.inr s1.2)) ((0:Int),([],[]),st0)) fun (s45:(List (Ty.El zQ)×List Int)×HSt zL)=>Option.bind (zO (fun (s67:Int×(List (Ty.El zQ)×List Int)×HSt zL)=>bif decide (s67.1< (↑(List.length s67.2.1.1):Int)) then Option.bind (Option.bind (idx s67.2.1.1 s67.1) fun (y68:Ty.El zQ)=>Option.bind (atN s67.2.1.1 (Int.toNat s67.1)) fun (y69:Ty.El zQ)=>bif decide ((↑(zUT y69.2.2.1):Int)>(1:Int)) then Option.bind (app (8:Nat) s67.2.1.2 [s67.1]) fun (y70:List Int)=>some ((s67.2.1.1,y70),s67.2.2) else some s67.2) fun (s71:(List (Ty.El zQ)×List Int)×HSt zL)=>some (Sum.inl (IntKind.wrap IntKind.i64 (s67.1+(1:Int)),s71)) else some (Sum.inr s67.2)) ((0:Int),s45)) fun (s72:(List (Ty.El zQ)×List Int)×HSt zL)=>bif decide ((↑(List.length s72.1.2):Int)>(12:Int)) then some (s72.2,([],[],()),(7:Int),()) else some (s72.2,(s72.1.1,s72.1.2,()),(0:Int),())
noncomputable def zD1:ElS [zV]→Option (RTy.El (.tu [zJs,tI])):=zNc (.tu [zGp,tI]) zCl
noncomputable def zAO:ElS [(.sl tI),tI]→Option (RTy.El (.p .bool)):=fun x=>match x with|(a1,a2,())=>bif decide ((↑(List.length a1):Int)>(2:Int)) then some false else qT (zO (fun (s20:Int)=>bif decide (s20< (↑(List.length a1):Int)) then Option.bind (Option.bind (idx a1 s20) fun (y21:Int)=>bif decide (y21< (0:Int)) then some true else Option.bind (idx a1 s20) fun (y22:Int)=>bif decide (y22≥a2) then some true else bif decide (s20>(0:Int)) then Option.bind (idx a1 s20) fun (y23:Int)=>Option.bind (idx a1 (IntKind.wrap IntKind.i64 (s20- (1:Int)))) fun (y24:Int)=>some (decide (y23≤y24)) else some false) fun (s25:Bool)=>bif s25 then some (Sum.inr (Sum.inr false)) else some (Sum.inl (IntKind.wrap IntKind.i64 (s20+(1:Int)))) else some (Sum.inr (Sum.inl ()))) (0:Int)) fun (s26:Unit)=>some true
noncomputable def zFc:ElS [zV,(.sl tI)]→Option (RTy.El (.tu [zR,tI])):=fun x=>match x with|(a1,a2,())=>Option.bind (zD1 (a1,())) fun (y0:Ty.El zJs×Int×Unit)=>bif y0.2.1 !=(0:Int) then some ((([],()),([],[],()),[],()),y0.2.1,()) else Option.bind (zAO (a2,(↑(List.length y0.1.2.1):Int),())) fun (y1:Bool)=>bif !y1 then some ((([],()),([],[],()),[],()),(1:Int),()) else Option.bind (app (8:Nat) [] a2) fun (y3:List Int)=>some ((a1,y0.1,y3,()),(0:Int),())
noncomputable def zFs:ElS [zV,(.sl tI)]→Option (RTy.El (.tu [zR, .bool])):=fun x=>match x with|(a1,a2,())=>Option.bind (Option.bind (zD4 (a1,())) fun (y1:Bool)=>bif !y1 then some true else some (decide ((↑(List.length a2):Int)>(2:Int)))) fun (s2:Bool)=>bif s2 then some ((([],()),([],[],()),[],()),false,()) else Option.bind (zFc (a1,a2,())) fun (y3:Ty.El zR×Int×Unit)=>some (y3.1,y3.2.1==(0:Int),())
noncomputable def q7:ElS [tI,tI,tI]→Option (RTy.El (.p .bool)):=fun x=>match x with|(a1,a2,a3,())=>Option.bind (bif decide (a2≤a1) then some (decide (a1≤a3)) else some false) fun (s0:Bool)=>some s0
noncomputable def yJ:ElS [zA, .bool, .bool, .bool]→Option (RTy.El (.p .bool)):=fun x=>match x with|(a1,a2,a3,a4,())=>Option.bind (bif a2 then bif a3 then bif a4 then some true else some (a1.2.2.2.2.2.2.2.2.2.2.1==(0:Int)) else bif a1.2.2.2.2.2.2.2.1==(0:Int) then bif (↑(List.length a1.2.2.2.2.2.2.2.2.1):Int)==(0:Int) then bif a1.2.2.2.2.2.2.2.2.2.1==(0:Int) then bif a4 then some true else some (a1.2.2.2.2.2.2.2.2.2.2.1==(0:Int)) else some false else some false else some false else bif a1.2.2.2.2.2.1==(0:Int) then bif a3 then bif a4 then some true else some (a1.2.2.2.2.2.2.2.2.2.2.1==(0:Int)) else bif a1.2.2.2.2.2.2.2.1==(0:Int) then bif (↑(List.length a1.2.2.2.2.2.2.2.2.1):Int)==(0:Int) then bif a1.2.2.2.2.2.2.2.2.2.1==(0:Int) then bif a4 then some true else some (a1.2.2.2.2.2.2.2.2.2.2.1==(0:Int)) else some false else some false else some false else some false) fun (s0:Bool)=>some s0
noncomputable def zCk:ElS [qQ,qQ]→Option (RTy.El (.p .bool)):=fun x=>match x with|(a1,a2,())=>Option.bind (bif decide (a1.1<a2.1) then some true else bif a1.1==a2.1 then some (decide (a1.2.1<a2.2.1)) else some false) fun (s0:Bool)=>some s0
noncomputable def k7:ElS [(.sl qQ), .bool]→Option (RTy.El (.p .bool)):=fun x=>match x with|(a1,a2,())=>qT (zO (fun (s28:Int)=>bif decide (s28< (↑(List.length a1):Int)) then Option.bind (Option.bind (idx a1 s28) fun (y29:Ty.El qQ)=>bif decide (y29.1< (0:Int)) then some true else bif decide (s28>(0:Int)) then Option.bind (idx a1 (IntKind.wrap IntKind.i64 (s28- (1:Int)))) fun (y30:Ty.El qQ)=>Option.bind (idx a1 s28) fun (y31:Ty.El qQ)=>Option.bind (zCk (y30,y31,())) fun (y32:Bool)=>bif !y32 then some true else Option.bind (idx a1 s28) fun (y33:Ty.El qQ)=>some !(y33.2.1==(0:Int))==a2 else Option.bind (idx a1 s28) fun (y34:Ty.El qQ)=>some !(y34.2.1==(0:Int))==a2) fun (s35:Bool)=>bif s35 then some (Sum.inr (Sum.inr false)) else some (Sum.inl (IntKind.wrap IntKind.i64 (s28+(1:Int)))) else some (Sum.inr (Sum.inl ()))) (0:Int)) fun (s36:Unit)=>some true
noncomputable def xL:ElS [zA]→Option (RTy.El (.p .bool)):=fun x=>match x with|(a1,())=>Option.bind (bif a1.2.2.1 !=(0:Int) then some true else bif a1.2.2.2.2.1 !=(0:Int) then some true else Option.bind (q7 (a1.2.2.2.1,(1:Int),(255:Int),())) fun (y2:Bool)=>bif !y2 then some true else Option.bind (yJ (a1,false,false,true,())) fun (y3:Bool)=>some !y3) fun (s4:Bool)=>bif s4 then some false else bif a1.2.2.2.2.2.2.2.2.2.2.1 !=(0:Int) then Option.bind (bif (↑(List.length a1.2.2.2.2.2.2.2.2.2.2.2.1):Int)==(0:Int) then some !a1.2.2.2.2.2.2.2.2.2.2.2.2.1 else some false) fun (s5:Bool)=>some s5 else bif a1.2.2.2.2.2.2.2.2.2.2.2.2.1 then some ((↑(List.length a1.2.2.2.2.2.2.2.2.2.2.2.1):Int)==(0:Int)) else Option.bind (bif (↑(List.length a1.2.2.2.2.2.2.2.2.2.2.2.1):Int)==(1:Int) then Option.bind (k7 (a1.2.2.2.2.2.2.2.2.2.2.2.1,true,())) fun (y7:Bool)=>some y7 else some false) fun (s8:Bool)=>some s8
noncomputable def kJ:ElS [zA]→Option (RTy.El (.p .bool)):=fun x=>match x with|(a1,())=>Option.bind (Option.bind (q7 (a1.2.2.1,(1:Int),(4:Int),())) fun (y4:Bool)=>bif !y4 then some true else Option.bind (q7 (a1.2.2.2.1,(1:Int),(255:Int),())) fun (y5:Bool)=>bif !y5 then some true else Option.bind (q7 (a1.2.2.2.2.1,(0:Int),(1073741824:Int),())) fun (y6:Bool)=>bif !y6 then some true else Option.bind (yJ (a1,true,false,false,())) fun (y7:Bool)=>some !y7) fun (s8:Bool)=>bif s8 then some false else Option.bind (Option.bind (q7 (a1.2.2.2.2.2.1,(0:Int),(1073741824:Int),())) fun (y10:Bool)=>bif !y10 then some true else bif a1.2.2.1 !=(4:Int) then some (a1.2.2.2.2.2.1 !=(0:Int)) else some false) fun (s11:Bool)=>bif s11 then some false else bif a1.2.2.2.2.2.2.2.2.2.2.2.2.1 then Option.bind (bif a1.2.2.1==(1:Int) then bif a1.2.2.2.2.1==(0:Int) then bif a1.2.2.2.2.2.2.1==(0:Int) then some ((↑(List.length a1.2.2.2.2.2.2.2.2.2.2.2.1):Int)==(0:Int)) else some false else some false else some false) fun (s12:Bool)=>some s12 else Option.bind (bif decide ((↑(List.length a1.2.2.2.2.2.2.2.2.2.2.2.1):Int)>(0:Int)) then Option.bind (k7 (a1.2.2.2.2.2.2.2.2.2.2.2.1,false,())) fun (y14:Bool)=>some y14 else some false) fun (s15:Bool)=>some s15
noncomputable def uK:ElS [zA]→Option (RTy.El (.p .bool)):=fun x=>match x with|(a1,())=>Option.bind (Option.bind (q7 (a1.2.2.2.1,(1:Int),(255:Int),())) fun (y3:Bool)=>bif !y3 then some true else Option.bind (q7 (a1.2.2.2.2.1,(1:Int),(15:Int),())) fun (y4:Bool)=>bif !y4 then some true else Option.bind (yJ (a1,false,false,false,())) fun (y5:Bool)=>bif !y5 then some true else some a1.2.2.2.2.2.2.2.2.2.2.2.2.1) fun (s6:Bool)=>bif s6 then some false else bif a1.2.2.1==(1:Int) then Option.bind (bif a1.2.2.2.2.1==(1:Int) then bif a1.2.2.2.2.2.2.1==(0:Int) then bif (↑(List.length a1.2.2.2.2.2.2.2.2.2.2.2.1):Int)==(1:Int) then Option.bind (k7 (a1.2.2.2.2.2.2.2.2.2.2.2.1,true,())) fun (y8:Bool)=>some y8 else some false else some false else some false) fun (s9:Bool)=>some s9 else bif a1.2.2.1==(2:Int) then some ((↑(List.length a1.2.2.2.2.2.2.2.2.2.2.2.1):Int)==(0:Int)) else bif a1.2.2.1==(3:Int) then Option.bind (bif decide ((↑(List.length a1.2.2.2.2.2.2.2.2.2.2.2.1):Int)>(0:Int)) then Option.bind (k7 (a1.2.2.2.2.2.2.2.2.2.2.2.1,false,())) fun (y11:Bool)=>some y11 else some false) fun (s12:Bool)=>some s12 else some false
noncomputable def zAM:ElS [zA]→Option (RTy.El (.p .bool)):=fun x=>match x with|(a1,())=>Option.bind (Option.bind (q7 (a1.2.2.2.1,(1:Int),(255:Int),())) fun (y4:Bool)=>bif !y4 then some true else Option.bind (q7 (a1.2.2.2.2.1,(0:Int),(16777215:Int),())) fun (y5:Bool)=>bif !y5 then some true else Option.bind (q7 (a1.2.2.2.2.2.2.2.1,(0:Int),(1000000:Int),())) fun (y6:Bool)=>bif !y6 then some true else Option.bind (yJ (a1,false,true,false,())) fun (y7:Bool)=>some !y7) fun (s8:Bool)=>bif s8 then some false else Option.bind (bif a1.2.2.1==(1:Int) then some (a1.2.2.1==(1:Int)) else some (a1.2.2.1==(2:Int))) fun (s9:Bool)=>bif s9 then Option.bind (bif (↑(List.length a1.2.2.2.2.2.2.2.2.1):Int)==(0:Int) then bif a1.2.2.2.2.2.2.2.2.2.1==(0:Int) then bif (↑(List.length a1.2.2.2.2.2.2.2.2.2.2.2.1):Int)==(0:Int) then some (a1.2.2.2.2.2.2.2.2.2.2.2.2.1==(a1.2.2.1==(2:Int))) else some false else some false else some false) fun (s10:Bool)=>some s10 else Option.bind (bif a1.2.2.1==(3:Int) then some (a1.2.2.1==(3:Int)) else some (a1.2.2.1==(4:Int))) fun (s11:Bool)=>bif s11 then Option.bind (bif a1.2.2.1==(4:Int) then bif a1.2.2.2.2.2.2.2.2.2.1 !=(0:Int) then bif (↑(List.length a1.2.2.2.2.2.2.2.2.2.2.2.1):Int)==(1:Int) then Option.bind (k7 (a1.2.2.2.2.2.2.2.2.2.2.2.1,false,())) fun (y20:Bool)=>bif y20 then Option.bind (idx a1.2.2.2.2.2.2.2.2.2.2.2.1 (0:Int)) fun (y21:Ty.El qQ)=>bif y21.2.1==a1.2.2.2.2.2.2.2.2.2.1 then some !a1.2.2.2.2.2.2.2.2.2.2.2.2.1 else some false else some false else some false else some false else bif decide ((↑(List.length a1.2.2.2.2.2.2.2.2.1):Int)>(0:Int)) then bif a1.2.2.2.2.2.2.2.2.2.1 !=(0:Int) then bif (↑(List.length a1.2.2.2.2.2.2.2.2.2.2.2.1):Int)==(1:Int) then Option.bind (k7 (a1.2.2.2.2.2.2.2.2.2.2.2.1,false,())) fun (y22:Bool)=>bif y22 then Option.bind (idx a1.2.2.2.2.2.2.2.2.2.2.2.1 (0:Int)) fun (y23:Ty.El qQ)=>bif y23.2.1==a1.2.2.2.2.2.2.2.2.2.1 then some !a1.2.2.2.2.2.2.2.2.2.2.2.2.1 else some false else some false else some false else some false else some false) fun (s24:Bool)=>some s24 else some false
noncomputable def zD0:ElS [zA]→Option (RTy.El (.p .bool)):=fun x=>match x with|(a1,())=>Option.bind (Option.bind (wP (a1.1,())) fun (y2:Bool)=>bif !y2 then some true else Option.bind (q7 (a1.2.2.2.2.2.2.1,(0:Int),(65535:Int),())) fun (y3:Bool)=>bif !y3 then some true else some (decide ((↑(List.length a1.2.2.2.2.2.2.2.2.1):Int)>(64:Int)))) fun (s4:Bool)=>bif s4 then some false else qT (zO (fun (s11:Int)=>bif decide (s11< (↑(List.length a1.2.2.2.2.2.2.2.2.1):Int)) then Option.bind (idx a1.2.2.2.2.2.2.2.2.1 s11) fun (y12:Int)=>Option.bind (q7 (y12,(1:Int),(65535:Int),())) fun (y13:Bool)=>bif !y13 then some (Sum.inr (Sum.inr false)) else some (Sum.inl (IntKind.wrap IntKind.i64 (s11+(1:Int)))) else some (Sum.inr (Sum.inl ()))) (0:Int)) fun (s14:Unit)=>bif a1.2.1==(1:Int) then Option.bind (bif a1.2.2.1==(0:Int) then bif a1.2.2.2.1==(0:Int) then bif a1.2.2.2.2.1==(0:Int) then bif a1.2.2.2.2.2.2.1==(0:Int) then Option.bind (yJ (a1,false,false,false,())) fun (y17:Bool)=>bif y17 then bif !a1.2.2.2.2.2.2.2.2.2.2.2.2.1 then bif (↑(List.length a1.2.2.2.2.2.2.2.2.2.2.2.1):Int)==(1:Int) then Option.bind (k7 (a1.2.2.2.2.2.2.2.2.2.2.2.1,true,())) fun (y18:Bool)=>some y18 else some false else some false else some false else some false else some false else some false else some false) fun (s19:Bool)=>some s19 else bif a1.2.1==(2:Int) then Option.bind (xL (a1,())) fun (y20:Bool)=>some y20 else bif a1.2.1==(3:Int) then Option.bind (kJ (a1,())) fun (y21:Bool)=>some y21 else bif a1.2.1==(4:Int) then Option.bind (uK (a1,())) fun (y22:Bool)=>some y22 else bif a1.2.1==(5:Int) then Option.bind (zAM (a1,())) fun (y23:Bool)=>some y23 else some false
noncomputable def zCf:ElS [tI]→Option (RTy.El (.p tI)):=fun x=>match x with|(a1,())=>some (if (if (32:Int)<a1 then (32:Int) else a1)>(0:Int) then if (32:Int)<a1 then (32:Int) else a1 else (0:Int))
noncomputable def zDf:ElS [tI]→Option (RTy.El (.p tU)):=fun x=>match x with|(a1,())=>Option.bind (zCf (a1,())) fun (y0:Int)=>bif decide ((0:Int)≤IntKind.wrap IntKind.i64 ((32:Int) -y0)) then some (IntKind.wrap IntKind.u32 ((4294967295:Int)*(2:Int)^min (Int.toNat (IntKind.wrap IntKind.i64 ((32:Int) -y0))) (IntKind.bits IntKind.u32))) else none
noncomputable def wD:ElS [zH,tU]→Option (RTy.El (.p .bool)):=fun x=>match x with|(a1,a2,())=>Option.bind (zDf (a1.2.1,())) fun (y1:Int)=>some (IntKind.wrap IntKind.u32 (↑(BitVec.toNat (BitVec.ofInt (IntKind.bits IntKind.u32) a2&&&BitVec.ofInt (IntKind.bits IntKind.u32) y1)):Int)==a1.1)
noncomputable def zAK:ElS [(.sl zA),zH,tU]→Option (RTy.El (.p tI)):=fun x=>match x with|(a1,a2,a3,())=>Option.bind (zO (fun (s36:Int×Int)=>bif decide (s36.1< (↑(List.length a1):Int)) then Option.bind (Option.bind (idx a1 s36.1) fun (y37:Ty.El zA)=>Option.bind (bif y37.1.1==a2.1&&(y37.1.2.1==a2.2.1&&true) then some true else Option.bind (wD (y37.1,a3,())) fun (y38:Bool)=>some !y38) fun (s39:Bool)=>bif s39 then some s36.2 else Option.bind (bif decide (s36.2< (0:Int)) then some true else Option.bind (idx a1 s36.2) fun (y40:Ty.El zA)=>some (decide (y37.1.2.1>y40.1.2.1))) fun (s41:Bool)=>bif s41 then some s36.1 else some s36.2) fun (s42:Int)=>some (Sum.inl (IntKind.wrap IntKind.i64 (s36.1+(1:Int)),s42)) else some (Sum.inr s36.2)) ((0:Int),(-1:Int))) fun (s43:Int)=>some s43
noncomputable def zAW:ElA [.d z7, .pp .str]→Option (RTy.El (.p .bool)):=fun x=>match x with|(a1,a2,())=>some (a1.1==a2)
noncomputable def wJ:ElA [.d (.sl z7), .clo 63 [(true, .str)]]→Option (RTy.El (.p tI)):=fun x=>match x with|(a1,(a2,()),())=>qT (zO (fun (s6:Int)=>bif decide (s6< (↑(List.length a1):Int)) then Option.bind (idx a1 s6) fun (y7:Ty.El z7)=>Option.bind (zAW (y7,a2,())) fun (y8:Bool)=>bif y8 then some (Sum.inr (Sum.inr s6)) else some (Sum.inl (IntKind.wrap IntKind.i64 (s6+(1:Int)))) else some (Sum.inr (Sum.inl ()))) (0:Int)) fun (s9:Unit)=>some (-1:Int)
noncomputable def zAP:ElS [zD, .str]→Option (RTy.El (.p tI)):=fun x=>match x with|(a1,a2,())=>Option.bind (wJ (a1.2.2.1,(a2,()),())) fun (y0:Int)=>some y0
noncomputable def x7:ElS [(.sl zL),zL]→Option (RTy.El (.p tI)):=fun x=>match x with|(a1,a2,())=>qT (zO (fun (s5:Int)=>bif decide (s5< (↑(List.length a1):Int)) then Option.bind (idx a1 s5) fun (y6:Ty.El zL)=>bif a2.1==y6.1&&(a2.2.1==y6.2.1&&true) then some (Sum.inr (Sum.inr s5)) else some (Sum.inl (IntKind.wrap IntKind.i64 (s5+(1:Int)))) else some (Sum.inr (Sum.inl ()))) (0:Int)) fun (s7:Unit)=>some (-1:Int)
noncomputable def uJ:ElS [(.sl zL),zL]→Option (RTy.El (.p .bool)):=fun x=>match x with|(a1,a2,())=>Option.bind (x7 (a1,a2,())) fun (y0:Int)=>some (decide (y0≥(0:Int)))
noncomputable def zA2:ElS [zR,tI,tI]→Option (RTy.El (.p tI)):=fun x=>match x with|(a1,a2,a3,())=>qT (zO (fun (s9:Int)=>bif decide (s9< (↑(List.length a1.2.1.1):Int)) then Option.bind (idx a1.2.1.1 s9) fun (y10:Ty.El uH)=>Option.bind (uJ (y10.2.2.1,(a2,a3,()),())) fun (y11:Bool)=>bif y11 then some (Sum.inr (Sum.inr s9)) else some (Sum.inl (IntKind.wrap IntKind.i64 (s9+(1:Int)))) else some (Sum.inr (Sum.inl ()))) (0:Int)) fun (s12:Unit)=>some (-1:Int)
noncomputable def uU:ElS [(.sl tI),tI]→Option (RTy.El (.p tI)):=fun x=>match x with|(a1,a2,())=>qT (zO (fun (s4:Int)=>bif decide (s4< (↑(List.length a1):Int)) then Option.bind (idx a1 s4) fun (y5:Int)=>bif a2==y5 then some (Sum.inr (Sum.inr s4)) else some (Sum.inl (IntKind.wrap IntKind.i64 (s4+(1:Int)))) else some (Sum.inr (Sum.inl ()))) (0:Int)) fun (s6:Unit)=>some (-1:Int)
noncomputable def zHd:ElS [zR,tI,tI]→Option (RTy.El (.p tI)):=fun x=>match x with|(a1,a2,a3,())=>Option.bind (zA2 (a1,a2,a3,())) fun (y0:Int)=>bif decide (y0< (0:Int)) then some (-1:Int) else Option.bind (uU (a1.2.1.2.1,y0,())) fun (y1:Int)=>some y1
noncomputable def vE:ElS [(.sl tI),tI]→Option (RTy.El (.p .bool)):=fun x=>match x with|(a1,a2,())=>Option.bind (uU (a1,a2,())) fun (y0:Int)=>some (decide (y0≥(0:Int)))
noncomputable def zHc:ElS [zR,tI,tI]→Option (RTy.El (.p .bool)):=fun x=>match x with|(a1,a2,a3,())=>Option.bind (zA2 (a1,a2,a3,())) fun (y0:Int)=>bif decide (y0< (0:Int)) then some false else Option.bind (zHd (a1,a2,a3,())) fun (y1:Int)=>Option.bind (bif decide (y1< (0:Int)) then some true else Option.bind (vE (a1.2.2.1,y1,())) fun (y3:Bool)=>some !y3) fun (s4:Bool)=>some s4
noncomputable def zCj:ElS [zR,(.sl zA),tI]→Option (RTy.El (.p (.sl zA))):=fun x=>match x with|(a1,a2,a3,())=>Option.bind (bif decide (a3< (0:Int)) then some true else some (decide (a3≥(↑(List.length a1.1.1):Int)))) fun (s0:Bool)=>bif s0 then some [] else Option.bind (idx a1.1.1 a3) fun (y1:Ty.El zD)=>Option.bind (zO (fun (s60:Int×List (Ty.El zA))=>bif decide (s60.1< (↑(List.length y1.2.2.2.2.2.2.2.1):Int)) then Option.bind (Option.bind (idx y1.2.2.2.2.2.2.2.1 s60.1) fun (y61:Ty.El zE5)=>qT (bif y61.2.1 !=(0:Int) then Option.bind (zAK (a2,y61.1,y61.2.1,())) fun (y62:Int)=>Option.bind (bif decide (y62< (0:Int)) then some (true,s60.2) else Option.bind (idx a2 y62) fun (y63:Ty.El zA)=>some (y63.2.2.2.2.2.2.2.2.2.2.2.2.1,s60.2)) fun (s64:Bool×List (Ty.El zA))=>bif s64.1 then some (Sum.inr s64.2) else some (Sum.inl (s64.2,y61.1,(2:Int),(0:Int),y61.2.2.2.2.1,(0:Int),(0:Int),y61.2.2.2.2.2.1,(0:Int),[],(0:Int),y61.2.1,[],false,())) else bif y61.2.2.1 != { data:= #[] } then Option.bind (zAP (y1,y61.2.2.1,())) fun (y65:Int)=>Option.bind (zHc (a1,a3,y65,())) fun (y66:Bool)=>bif !y66 then some (Sum.inr s60.2) else some (Sum.inl (s60.2,y61.1,(2:Int),(0:Int),y61.2.2.2.2.1,(0:Int),(0:Int),y61.2.2.2.2.2.1,(0:Int),[],(0:Int),(0:Int),[(y65,(0:Int),())],false,())) else bif y61.2.2.2.1 then some (Sum.inl (s60.2,y61.1,(2:Int),(0:Int),y61.2.2.2.2.1,(0:Int),(0:Int),y61.2.2.2.2.2.1,(0:Int),[],(0:Int),(0:Int),[],true,())) else some (Sum.inr s60.2)) fun (s67:List (Ty.El zA)×Ty.El zA)=>Option.bind (app (136:Nat) s67.1 [s67.2]) fun (y68:List (Ty.El zA))=>some y68) fun (s69:List (Ty.El zA))=>some (Sum.inl (IntKind.wrap IntKind.i64 (s60.1+(1:Int)),s69)) else some (Sum.inr s60.2)) ((0:Int),[])) fun (s70:List (Ty.El zA))=>some s70
noncomputable def zC6:ElS [tU,tI]→Option (RTy.El (.p zH)):=fun x=>match x with|(a1,a2,())=>Option.bind (zDf (a2,())) fun (y0:Int)=>Option.bind (zCf (a2,())) fun (y1:Int)=>some (IntKind.wrap IntKind.u32 (↑(BitVec.toNat (BitVec.ofInt (IntKind.bits IntKind.u32) a1&&&BitVec.ofInt (IntKind.bits IntKind.u32) y0)):Int),y1,())
noncomputable def zAh:ElS [tU]→Option (RTy.El (.p .bool)):=fun x=>match x with|(a1,())=>some (a1 !=a1)
noncomputable def wQ:ElS [tU,tU]→Option (RTy.El (.p tI)):=fun x=>match x with|(a1,a2,())=>Option.bind (zAh (a1,())) fun (y0:Bool)=>Option.bind (zAh (a2,())) fun (y1:Bool)=>bif y0 then bif y1 then some (0:Int) else some (-1:Int) else bif y1 then some (1:Int) else bif decide (a1<a2) then some (-1:Int) else bif decide (a1>a2) then some (1:Int) else some (0:Int)
noncomputable def zCm:ElS [tI]→Option (RTy.El (.p .bool)):=fun x=>match x with|(a1,())=>some (a1 !=a1)
noncomputable def qA:ElS [tI,tI]→Option (RTy.El (.p tI)):=fun x=>match x with|(a1,a2,())=>Option.bind (zCm (a1,())) fun (y0:Bool)=>Option.bind (zCm (a2,())) fun (y1:Bool)=>bif y0 then bif y1 then some (0:Int) else some (-1:Int) else bif y1 then some (1:Int) else bif decide (a1<a2) then some (-1:Int) else bif decide (a1>a2) then some (1:Int) else some (0:Int)
noncomputable def zBQ:ElS [zH,zH]→Option (RTy.El (.p tI)):=fun x=>match x with|(a1,a2,())=>Option.bind (wQ (a1.1,a2.1,())) fun (y0:Int)=>bif y0 !=(0:Int) then some y0 else Option.bind (qA (a1.2.1,a2.2.1,())) fun (y1:Int)=>some y1
noncomputable def zM:ElS [zA,zA]→Option (RTy.El (.p tI)):=fun x=>match x with|(a1,a2,())=>Option.bind (zBQ (a1.1,a2.1,())) fun (y0:Int)=>some y0
noncomputable def z8:List (Ty.El zA)→ElA [.d tI, .d tI, .clo 26 []]→Option (List (Ty.El zA)×RTy.El (.tu [])):=fun a0 x=>match x with|(a1,a2,(),())=>zO (fun (s157:Int×List (Ty.El zA))=>bif decide (s157.1<a2) then Option.bind (zO (fun (s158:Int×List (Ty.El zA))=>Option.bind (bif decide (s158.1>a1) then Option.bind (idx s158.2 s158.1) fun (y159:Ty.El zA)=>Option.bind (atN s158.2 (Int.toNat s158.1)) fun (y160:Ty.El zA)=>Option.bind (idx s158.2 (IntKind.wrap IntKind.i64 (s158.1- (1:Int)))) fun (y161:Ty.El zA)=>Option.bind (atN s158.2 (Int.toNat (IntKind.wrap IntKind.i64 (s158.1- (1:Int))))) fun (y162:Ty.El zA)=>Option.bind (zM (y160,y162,())) fun (y163:Int)=>some (decide (y163< (0:Int)),s158.2) else some (false,s158.2)) fun (s164:Bool×List (Ty.El zA))=>bif s164.1 then Option.bind (idx s164.2 (IntKind.wrap IntKind.i64 (s158.1- (1:Int)))) fun (y165:Ty.El zA)=>Option.bind (atN s164.2 (Int.toNat (IntKind.wrap IntKind.i64 (s158.1- (1:Int))))) fun (y166:Ty.El zA)=>Option.bind (idx s164.2 s158.1) fun (y167:Ty.El zA)=>Option.bind (atN s164.2 (Int.toNat s158.1)) fun (y168:Ty.El zA)=>Option.bind (idx s164.2 s158.1) fun (y169:Ty.El zA)=>Option.bind (atN s164.2 (Int.toNat s158.1)) fun (y170:Ty.El zA)=>Option.bind (idx (List.set s164.2 (Int.toNat s158.1) y166) (IntKind.wrap IntKind.i64 (s158.1- (1:Int)))) fun (y171:Ty.El zA)=>Option.bind (atN (List.set s164.2 (Int.toNat s158.1) y166) (Int.toNat (IntKind.wrap IntKind.i64 (s158.1- (1:Int))))) fun (y172:Ty.El zA)=>some (Sum.inl (IntKind.wrap IntKind.i64 (s158.1- (1:Int)),List.set (List.set s164.2 (Int.toNat s158.1) y166) (Int.toNat (IntKind.wrap IntKind.i64 (s158.1- (1:Int)))) y168)) else some (Sum.inr s164.2)) s157) fun (s173:List (Ty.El zA))=>some (Sum.inl (IntKind.wrap IntKind.i64 (s157.1+(1:Int)),s173)) else Option.map (fun (r:List (Ty.El zA)×Unit)=>Sum.inr r) (bif Nat.beq (List.length s157.2) (List.length a0) then some (s157.2,()) else none)) (IntKind.wrap IntKind.i64 (a1+(1:Int)),a0)
noncomputable def qF:List (Ty.El zA)→ElA [.d tI, .d tI, .d tI, .clo 26 []]→Option (List (Ty.El zA)×RTy.El (.tu [])):=fun a0 x=>match x with|(a1,a2,a3,(),())=>zO (fun (s17:Int×List (Ty.El zA))=>bif decide (s17.1<a3) then Option.bind (idx s17.2 (IntKind.wrap IntKind.i64 (a2+s17.1))) fun (y18:Ty.El zA)=>Option.bind (atN s17.2 (Int.toNat (IntKind.wrap IntKind.i64 (a2+s17.1)))) fun (y19:Ty.El zA)=>Option.bind (idx s17.2 (IntKind.wrap IntKind.i64 (a1+s17.1))) fun (y20:Ty.El zA)=>Option.bind (atN s17.2 (Int.toNat (IntKind.wrap IntKind.i64 (a1+s17.1)))) fun (y21:Ty.El zA)=>Option.bind (idx s17.2 (IntKind.wrap IntKind.i64 (a1+s17.1))) fun (y22:Ty.El zA)=>Option.bind (atN s17.2 (Int.toNat (IntKind.wrap IntKind.i64 (a1+s17.1)))) fun (y23:Ty.El zA)=>Option.bind (idx (List.set s17.2 (Int.toNat (IntKind.wrap IntKind.i64 (a1+s17.1))) y19) (IntKind.wrap IntKind.i64 (a2+s17.1))) fun (y24:Ty.El zA)=>Option.bind (atN (List.set s17.2 (Int.toNat (IntKind.wrap IntKind.i64 (a1+s17.1))) y19) (Int.toNat (IntKind.wrap IntKind.i64 (a2+s17.1)))) fun (y25:Ty.El zA)=>some (Sum.inl (IntKind.wrap IntKind.i64 (s17.1+(1:Int)),List.set (List.set s17.2 (Int.toNat (IntKind.wrap IntKind.i64 (a1+s17.1))) y19) (Int.toNat (IntKind.wrap IntKind.i64 (a2+s17.1))) y21)) else Option.map (fun (r:List (Ty.El zA)×Unit)=>Sum.inr r) (bif Nat.beq (List.length s17.2) (List.length a0) then some (s17.2,()) else none)) ((0:Int),a0)
noncomputable def jM:List (Ty.El zA)→ElA [.d tI, .d tI, .d tI, .clo 26 []]→Option (List (Ty.El zA)×RTy.El (.tu [])):=fun a0 x=>match x with|(a1,a2,a3,(),())=>Option.bind (zO (fun (s6:Int×Int×List (Ty.El zA))=>bif s6.1 !=s6.2.1 then bif decide (s6.1>s6.2.1) then bif Nat.beq (List.length s6.2.2) (List.length s6.2.2) then Option.bind (qF s6.2.2 (IntKind.wrap IntKind.i64 (a2-s6.1),a2,s6.2.1,(),())) fun (y7:List (Ty.El zA)×Unit)=>some (Sum.inl (IntKind.wrap IntKind.i64 (s6.1-s6.2.1),s6.2.1,y7.1)) else none else bif Nat.beq (List.length s6.2.2) (List.length s6.2.2) then Option.bind (qF s6.2.2 (IntKind.wrap IntKind.i64 (a2-s6.1),IntKind.wrap IntKind.i64 (IntKind.wrap IntKind.i64 (a2+s6.2.1) -s6.1),s6.1,(),())) fun (y8:List (Ty.El zA)×Unit)=>some (Sum.inl (s6.1,IntKind.wrap IntKind.i64 (s6.2.1-s6.1),y8.1)) else none else some (Sum.inr (s6.2.2,s6.1))) (IntKind.wrap IntKind.i64 (a2-a1),IntKind.wrap IntKind.i64 (a3-a2),a0)) fun (s9:List (Ty.El zA)×Int)=>bif Nat.beq (List.length s9.1) (List.length s9.1) then Option.bind (qF s9.1 (IntKind.wrap IntKind.i64 (a2-s9.2),a2,s9.2,(),())) fun (y10:List (Ty.El zA)×Unit)=>bif Nat.beq (List.length y10.1) (List.length a0) then some (y10.1,()) else none else none
noncomputable def uS (slices_symMergeCmpFunc_Route_self:List (Ty.El zA)→ElA [.d tI, .d tI, .d tI, .clo 26 []]→Option (List (Ty.El zA)×RTy.El (.tu []))):List (Ty.El zA)→ElA [.d tI, .d tI, .d tI, .clo 26 []]→Option (List (Ty.El zA)×RTy.El (.tu [])):=fun a0 x=>match x with|(a1,a2,a3,(),())=>qT (bif IntKind.wrap IntKind.i64 (a2-a1)==(1:Int) then Option.bind (zO (fun (s50:Int×Int×List (Ty.El zA))=>bif decide (s50.1<s50.2.1) then Option.bind (idx s50.2.2 (IntKind.wrap IntKind.i64 (Int.fdiv (IntKind.wrap IntKind.u64 (IntKind.wrap IntKind.i64 (s50.1+s50.2.1))) ((2:Int)^min (Int.toNat (1:Int)) (IntKind.bits IntKind.u64))))) fun (y51:Ty.El zA)=>Option.bind (atN s50.2.2 (Int.toNat (IntKind.wrap IntKind.i64 (Int.fdiv (IntKind.wrap IntKind.u64 (IntKind.wrap IntKind.i64 (s50.1+s50.2.1))) ((2:Int)^min (Int.toNat (1:Int)) (IntKind.bits IntKind.u64)))))) fun (y52:Ty.El zA)=>Option.bind (idx s50.2.2 a1) fun (y53:Ty.El zA)=>Option.bind (atN s50.2.2 (Int.toNat a1)) fun (y54:Ty.El zA)=>Option.bind (zM (y52,y54,())) fun (y55:Int)=>bif decide (y55< (0:Int)) then some (Sum.inl (IntKind.wrap IntKind.i64 (IntKind.wrap IntKind.i64 (Int.fdiv (IntKind.wrap IntKind.u64 (IntKind.wrap IntKind.i64 (s50.1+s50.2.1))) ((2:Int)^min (Int.toNat (1:Int)) (IntKind.bits IntKind.u64)))+(1:Int)),s50.2)) else some (Sum.inl (s50.1,IntKind.wrap IntKind.i64 (Int.fdiv (IntKind.wrap IntKind.u64 (IntKind.wrap IntKind.i64 (s50.1+s50.2.1))) ((2:Int)^min (Int.toNat (1:Int)) (IntKind.bits IntKind.u64))),s50.2.2)) else some (Sum.inr (s50.1,s50.2.2))) (a2,a3,a0)) fun (s56:Int×List (Ty.El zA))=>zO (fun (s57:Int×List (Ty.El zA))=>bif decide (s57.1<IntKind.wrap IntKind.i64 (s56.1- (1:Int))) then Option.bind (idx s57.2 (IntKind.wrap IntKind.i64 (s57.1+(1:Int)))) fun (y58:Ty.El zA)=>Option.bind (atN s57.2 (Int.toNat (IntKind.wrap IntKind.i64 (s57.1+(1:Int))))) fun (y59:Ty.El zA)=>Option.bind (idx s57.2 s57.1) fun (y60:Ty.El zA)=>Option.bind (atN s57.2 (Int.toNat s57.1)) fun (y61:Ty.El zA)=>Option.bind (idx s57.2 s57.1) fun (y62:Ty.El zA)=>Option.bind (atN s57.2 (Int.toNat s57.1)) fun (y63:Ty.El zA)=>Option.bind (idx (List.set s57.2 (Int.toNat s57.1) y59) (IntKind.wrap IntKind.i64 (s57.1+(1:Int)))) fun (y64:Ty.El zA)=>Option.bind (atN (List.set s57.2 (Int.toNat s57.1) y59) (Int.toNat (IntKind.wrap IntKind.i64 (s57.1+(1:Int))))) fun (y65:Ty.El zA)=>some (Sum.inl (IntKind.wrap IntKind.i64 (s57.1+(1:Int)),List.set (List.set s57.2 (Int.toNat s57.1) y59) (Int.toNat (IntKind.wrap IntKind.i64 (s57.1+(1:Int)))) y61)) else Option.map (fun (r:List (Ty.El zA) ⊕ List (Ty.El zA)×Unit)=>Sum.inr r) (Option.map (fun (r:List (Ty.El zA)×Unit)=>Sum.inr r) (bif Nat.beq (List.length s57.2) (List.length a0) then some (s57.2,()) else none))) (a1,s56.2) else some (Sum.inl a0)) fun (s66:List (Ty.El zA))=>qT (bif IntKind.wrap IntKind.i64 (a3-a2)==(1:Int) then Option.bind (zO (fun (s117:Int×Int×List (Ty.El zA))=>bif decide (s117.1<s117.2.1) then Option.bind (idx s117.2.2 a2) fun (y118:Ty.El zA)=>Option.bind (atN s117.2.2 (Int.toNat a2)) fun (y119:Ty.El zA)=>Option.bind (idx s117.2.2 (IntKind.wrap IntKind.i64 (Int.fdiv (IntKind.wrap IntKind.u64 (IntKind.wrap IntKind.i64 (s117.1+s117.2.1))) ((2:Int)^min (Int.toNat (1:Int)) (IntKind.bits IntKind.u64))))) fun (y120:Ty.El zA)=>Option.bind (atN s117.2.2 (Int.toNat (IntKind.wrap IntKind.i64 (Int.fdiv (IntKind.wrap IntKind.u64 (IntKind.wrap IntKind.i64 (s117.1+s117.2.1))) ((2:Int)^min (Int.toNat (1:Int)) (IntKind.bits IntKind.u64)))))) fun (y121:Ty.El zA)=>Option.bind (zM (y119,y121,())) fun (y122:Int)=>bif !decide (y122< (0:Int)) then some (Sum.inl (IntKind.wrap IntKind.i64 (IntKind.wrap IntKind.i64 (Int.fdiv (IntKind.wrap IntKind.u64 (IntKind.wrap IntKind.i64 (s117.1+s117.2.1))) ((2:Int)^min (Int.toNat (1:Int)) (IntKind.bits IntKind.u64)))+(1:Int)),s117.2)) else some (Sum.inl (s117.1,IntKind.wrap IntKind.i64 (Int.fdiv (IntKind.wrap IntKind.u64 (IntKind.wrap IntKind.i64 (s117.1+s117.2.1))) ((2:Int)^min (Int.toNat (1:Int)) (IntKind.bits IntKind.u64))),s117.2.2)) else some (Sum.inr (s117.1,s117.2.2))) (a1,a2,s66)) fun (s123:Int×List (Ty.El zA))=>zO (fun (s124:Int×List (Ty.El zA))=>bif decide (s124.1>s123.1) then Option.bind (idx s124.2 (IntKind.wrap IntKind.i64 (s124.1- (1:Int)))) fun (y125:Ty.El zA)=>Option.bind (atN s124.2 (Int.toNat (IntKind.wrap IntKind.i64 (s124.1- (1:Int))))) fun (y126:Ty.El zA)=>Option.bind (idx s124.2 s124.1) fun (y127:Ty.El zA)=>Option.bind (atN s124.2 (Int.toNat s124.1)) fun (y128:Ty.El zA)=>Option.bind (idx s124.2 s124.1) fun (y129:Ty.El zA)=>Option.bind (atN s124.2 (Int.toNat s124.1)) fun (y130:Ty.El zA)=>Option.bind (idx (List.set s124.2 (Int.toNat s124.1) y126) (IntKind.wrap IntKind.i64 (s124.1- (1:Int)))) fun (y131:Ty.El zA)=>Option.bind (atN (List.set s124.2 (Int.toNat s124.1) y126) (Int.toNat (IntKind.wrap IntKind.i64 (s124.1- (1:Int))))) fun (y132:Ty.El zA)=>some (Sum.inl (IntKind.wrap IntKind.i64 (s124.1- (1:Int)),List.set (List.set s124.2 (Int.toNat s124.1) y126) (Int.toNat (IntKind.wrap IntKind.i64 (s124.1- (1:Int)))) y128)) else Option.map (fun (r:List (Ty.El zA) ⊕ List (Ty.El zA)×Unit)=>Sum.inr r) (Option.map (fun (r:List (Ty.El zA)×Unit)=>Sum.inr r) (bif Nat.beq (List.length s124.2) (List.length a0) then some (s124.2,()) else none))) (a2,s123.2) else some (Sum.inl s66)) fun (s133:List (Ty.El zA))=>Option.bind (bif decide (a2>IntKind.wrap IntKind.i64 (Int.fdiv (IntKind.wrap IntKind.u64 (IntKind.wrap IntKind.i64 (a1+a3))) ((2:Int)^min (Int.toNat (1:Int)) (IntKind.bits IntKind.u64)))) then some (IntKind.wrap IntKind.i64 (IntKind.wrap IntKind.i64 (IntKind.wrap IntKind.i64 (Int.fdiv (IntKind.wrap IntKind.u64 (IntKind.wrap IntKind.i64 (a1+a3))) ((2:Int)^min (Int.toNat (1:Int)) (IntKind.bits IntKind.u64)))+a2) -a3),IntKind.wrap IntKind.i64 (Int.fdiv (IntKind.wrap IntKind.u64 (IntKind.wrap IntKind.i64 (a1+a3))) ((2:Int)^min (Int.toNat (1:Int)) (IntKind.bits IntKind.u64))),s133) else some (a1,a2,s133)) fun (s134:Int×Int×List (Ty.El zA))=>Option.bind (zO (fun (s152:Int×Int×List (Ty.El zA))=>bif decide (s152.1<s152.2.1) then Option.bind (idx s152.2.2 (IntKind.wrap IntKind.i64 (IntKind.wrap IntKind.i64 (IntKind.wrap IntKind.i64 (IntKind.wrap IntKind.i64 (Int.fdiv (IntKind.wrap IntKind.u64 (IntKind.wrap IntKind.i64 (a1+a3))) ((2:Int)^min (Int.toNat (1:Int)) (IntKind.bits IntKind.u64)))+a2) - (1:Int)) -IntKind.wrap IntKind.i64 (Int.fdiv (IntKind.wrap IntKind.u64 (IntKind.wrap IntKind.i64 (s152.1+s152.2.1))) ((2:Int)^min (Int.toNat (1:Int)) (IntKind.bits IntKind.u64)))))) fun (y153:Ty.El zA)=>Option.bind (atN s152.2.2 (Int.toNat (IntKind.wrap IntKind.i64 (IntKind.wrap IntKind.i64 (IntKind.wrap IntKind.i64 (IntKind.wrap IntKind.i64 (Int.fdiv (IntKind.wrap IntKind.u64 (IntKind.wrap IntKind.i64 (a1+a3))) ((2:Int)^min (Int.toNat (1:Int)) (IntKind.bits IntKind.u64)))+a2) - (1:Int)) -IntKind.wrap IntKind.i64 (Int.fdiv (IntKind.wrap IntKind.u64 (IntKind.wrap IntKind.i64 (s152.1+s152.2.1))) ((2:Int)^min (Int.toNat (1:Int)) (IntKind.bits IntKind.u64))))))) fun (y154:Ty.El zA)=>Option.bind (idx s152.2.2 (IntKind.wrap IntKind.i64 (Int.fdiv (IntKind.wrap IntKind.u64 (IntKind.wrap IntKind.i64 (s152.1+s152.2.1))) ((2:Int)^min (Int.toNat (1:Int)) (IntKind.bits IntKind.u64))))) fun (y155:Ty.El zA)=>Option.bind (atN s152.2.2 (Int.toNat (IntKind.wrap IntKind.i64 (Int.fdiv (IntKind.wrap IntKind.u64 (IntKind.wrap IntKind.i64 (s152.1+s152.2.1))) ((2:Int)^min (Int.toNat (1:Int)) (IntKind.bits IntKind.u64)))))) fun (y156:Ty.El zA)=>Option.bind (zM (y154,y156,())) fun (y157:Int)=>bif !decide (y157< (0:Int)) then some (Sum.inl (IntKind.wrap IntKind.i64 (IntKind.wrap IntKind.i64 (Int.fdiv (IntKind.wrap IntKind.u64 (IntKind.wrap IntKind.i64 (s152.1+s152.2.1))) ((2:Int)^min (Int.toNat (1:Int)) (IntKind.bits IntKind.u64)))+(1:Int)),s152.2)) else some (Sum.inl (s152.1,IntKind.wrap IntKind.i64 (Int.fdiv (IntKind.wrap IntKind.u64 (IntKind.wrap IntKind.i64 (s152.1+s152.2.1))) ((2:Int)^min (Int.toNat (1:Int)) (IntKind.bits IntKind.u64))),s152.2.2)) else some (Sum.inr (s152.1,s152.2.2))) s134) fun (s158:Int×List (Ty.El zA))=>Option.bind (Option.bind (bif decide (s158.1<a2) then some (decide (a2<IntKind.wrap IntKind.i64 (IntKind.wrap IntKind.i64 (IntKind.wrap IntKind.i64 (Int.fdiv (IntKind.wrap IntKind.u64 (IntKind.wrap IntKind.i64 (a1+a3))) ((2:Int)^min (Int.toNat (1:Int)) (IntKind.bits IntKind.u64)))+a2) -s158.1)),s158.2) else some (false,s158.2)) fun (s161:Bool×List (Ty.El zA))=>bif s161.1 then bif Nat.beq (List.length s161.2) (List.length s161.2) then Option.bind (jM s161.2 (s158.1,a2,IntKind.wrap IntKind.i64 (IntKind.wrap IntKind.i64 (IntKind.wrap IntKind.i64 (Int.fdiv (IntKind.wrap IntKind.u64 (IntKind.wrap IntKind.i64 (a1+a3))) ((2:Int)^min (Int.toNat (1:Int)) (IntKind.bits IntKind.u64)))+a2) -s158.1),(),())) fun (y162:List (Ty.El zA)×Unit)=>some y162.1 else none else some s161.2) fun (s163:List (Ty.El zA))=>Option.bind (Option.bind (bif decide (a1<s158.1) then some (decide (s158.1<IntKind.wrap IntKind.i64 (Int.fdiv (IntKind.wrap IntKind.u64 (IntKind.wrap IntKind.i64 (a1+a3))) ((2:Int)^min (Int.toNat (1:Int)) (IntKind.bits IntKind.u64)))),s163) else some (false,s163)) fun (s166:Bool×List (Ty.El zA))=>bif s166.1 then bif Nat.beq (List.length s166.2) (List.length s166.2) then Option.bind (slices_symMergeCmpFunc_Route_self s166.2 (a1,s158.1,IntKind.wrap IntKind.i64 (Int.fdiv (IntKind.wrap IntKind.u64 (IntKind.wrap IntKind.i64 (a1+a3))) ((2:Int)^min (Int.toNat (1:Int)) (IntKind.bits IntKind.u64))),(),())) fun (y167:List (Ty.El zA)×Unit)=>some y167.1 else none else some s166.2) fun (s168:List (Ty.El zA))=>Option.bind (bif decide (IntKind.wrap IntKind.i64 (Int.fdiv (IntKind.wrap IntKind.u64 (IntKind.wrap IntKind.i64 (a1+a3))) ((2:Int)^min (Int.toNat (1:Int)) (IntKind.bits IntKind.u64)))<IntKind.wrap IntKind.i64 (IntKind.wrap IntKind.i64 (IntKind.wrap IntKind.i64 (Int.fdiv (IntKind.wrap IntKind.u64 (IntKind.wrap IntKind.i64 (a1+a3))) ((2:Int)^min (Int.toNat (1:Int)) (IntKind.bits IntKind.u64)))+a2) -s158.1)) then some (decide (IntKind.wrap IntKind.i64 (IntKind.wrap IntKind.i64 (IntKind.wrap IntKind.i64 (Int.fdiv (IntKind.wrap IntKind.u64 (IntKind.wrap IntKind.i64 (a1+a3))) ((2:Int)^min (Int.toNat (1:Int)) (IntKind.bits IntKind.u64)))+a2) -s158.1)<a3),s168) else some (false,s168)) fun (s169:Bool×List (Ty.El zA))=>bif s169.1 then bif Nat.beq (List.length s169.2) (List.length s169.2) then Option.bind (slices_symMergeCmpFunc_Route_self s169.2 (IntKind.wrap IntKind.i64 (Int.fdiv (IntKind.wrap IntKind.u64 (IntKind.wrap IntKind.i64 (a1+a3))) ((2:Int)^min (Int.toNat (1:Int)) (IntKind.bits IntKind.u64))),IntKind.wrap IntKind.i64 (IntKind.wrap IntKind.i64 (IntKind.wrap IntKind.i64 (Int.fdiv (IntKind.wrap IntKind.u64 (IntKind.wrap IntKind.i64 (a1+a3))) ((2:Int)^min (Int.toNat (1:Int)) (IntKind.bits IntKind.u64)))+a2) -s158.1),a3,(),())) fun (y170:List (Ty.El zA)×Unit)=>bif Nat.beq (List.length y170.1) (List.length a0) then some (y170.1,()) else none else none else bif Nat.beq (List.length s169.2) (List.length a0) then some (s169.2,()) else none
noncomputable def z2:Nat→(List (Ty.El zA)→ElA [.d tI, .d tI, .d tI, .clo 26 []]→Option (List (Ty.El zA)×RTy.El (.tu [])))|0=>fun _ _=>none|n+1=>uS (z2 n)
noncomputable def qH:List (Ty.El zA)→ElA [.d tI, .d tI, .d tI, .clo 26 []]→Option (List (Ty.El zA)×RTy.El (.tu [])):=z2 1048576
noncomputable def qO:List (Ty.El zA)→ElA [.d tI, .clo 26 []]→Option (List (Ty.El zA)×RTy.El (.tu [])):=fun a0 x=>match x with|(a1,(),())=>Option.bind (zO (fun (s4:Int×List (Ty.El zA)×Int)=>bif decide (s4.1≤a1) then bif Nat.beq (List.length s4.2.1) (List.length s4.2.1) then Option.bind (z8 s4.2.1 (s4.2.2,s4.1,(),())) fun (y5:List (Ty.El zA)×Unit)=>some (Sum.inl (IntKind.wrap IntKind.i64 (s4.1+(20:Int)),y5.1,s4.1)) else none else some (Sum.inr s4.2)) ((20:Int),a0,(0:Int))) fun (s6:List (Ty.El zA)×Int)=>bif Nat.beq (List.length s6.1) (List.length s6.1) then Option.bind (z8 s6.1 (s6.2,a1,(),())) fun (y7:List (Ty.El zA)×Unit)=>zO (fun (s30:Int×List (Ty.El zA))=>bif decide (s30.1<a1) then Option.bind (zO (fun (s31:Int×List (Ty.El zA)×Int)=>bif decide (s31.1≤a1) then bif Nat.beq (List.length s31.2.1) (List.length s31.2.1) then Option.bind (qH s31.2.1 (s31.2.2,IntKind.wrap IntKind.i64 (s31.2.2+s30.1),s31.1,(),())) fun (y32:List (Ty.El zA)×Unit)=>some (Sum.inl (IntKind.wrap IntKind.i64 (s31.1+IntKind.wrap IntKind.i64 ((2:Int)*s30.1)),y32.1,s31.1)) else none else some (Sum.inr (s31.2.2,s31.2.1))) (IntKind.wrap IntKind.i64 ((2:Int)*s30.1),s30.2,(0:Int))) fun (s33:Int×List (Ty.El zA))=>Option.bind (bif decide (IntKind.wrap IntKind.i64 (s33.1+s30.1)<a1) then bif Nat.beq (List.length s33.2) (List.length s33.2) then Option.bind (qH s33.2 (s33.1,IntKind.wrap IntKind.i64 (s33.1+s30.1),a1,(),())) fun (y34:List (Ty.El zA)×Unit)=>some y34.1 else none else some s33.2) fun (s35:List (Ty.El zA))=>some (Sum.inl (IntKind.wrap IntKind.i64 (s30.1*(2:Int)),s35)) else Option.map (fun (r:List (Ty.El zA)×Unit)=>Sum.inr r) (bif Nat.beq (List.length s30.2) (List.length a0) then some (s30.2,()) else none)) ((20:Int),y7.1) else none
noncomputable def qR:List (Ty.El zA)→ElA [.clo 26 []]→Option (List (Ty.El zA)×RTy.El (.tu [])):=fun a0 x=>match x with|((),())=>bif Nat.beq (List.length a0) (List.length a0)&&Nat.beq (List.length a0) (List.length a0) then Option.bind (qO a0 ((↑(List.length a0):Int),(),())) fun (y0:List (Ty.El zA)×Unit)=>bif Nat.beq (List.length y0.1) (List.length a0) then some (y0.1,()) else none else none
noncomputable def zAb:ElS [zR,tI,tI]→Option (RTy.El (.p tI)):=fun x=>match x with|(a1,a2,a3,())=>qT (zO (fun (s20:Int)=>bif decide (s20< (↑(List.length a1.2.1.1):Int)) then qT (zO (fun (s21:Int)=>Option.bind (idx a1.2.1.1 s20) fun (y22:Ty.El uH)=>bif decide (s21< (↑(List.length y22.2.2.1):Int)) then Option.bind (idx a1.2.1.1 s20) fun (y23:Ty.El uH)=>Option.bind (idx y23.2.2.1 s21) fun (y24:Ty.El zL)=>bif y24.1==a2&&(y24.2.1==a3&&true) then some (Sum.inr (Sum.inr (Sum.inr (Sum.inr s20)))) else some (Sum.inl (IntKind.wrap IntKind.i64 (s21+(1:Int)))) else some (Sum.inr (Sum.inl ()))) (0:Int)) fun (s25:Unit)=>some (Sum.inl (IntKind.wrap IntKind.i64 (s20+(1:Int)))) else some (Sum.inr (Sum.inl ()))) (0:Int)) fun (s26:Unit)=>some (-1:Int)
noncomputable def zFd:ElS [zR,tI,tI]→Option (RTy.El (.p tI)):=fun x=>match x with|(a1,a2,a3,())=>Option.bind (zAb (a1,a2,a3,())) fun (y0:Int)=>qT (zO (fun (s8:Int)=>bif decide (s8< (↑(List.length a1.2.1.2.1):Int)) then Option.bind (bif decide (y0≥(0:Int)) then Option.bind (idx a1.2.1.2.1 s8) fun (y9:Int)=>some (y9==y0) else some false) fun (s10:Bool)=>bif s10 then some (Sum.inr (Sum.inr s8)) else some (Sum.inl (IntKind.wrap IntKind.i64 (s8+(1:Int)))) else some (Sum.inr (Sum.inl ()))) (0:Int)) fun (s11:Unit)=>some (-1:Int)
noncomputable def zJG:ElS [zR,tI,tI]→Option (RTy.El (.p .bool)):=fun x=>match x with|(a1,a2,a3,())=>Option.bind (zAb (a1,a2,a3,())) fun (y0:Int)=>bif decide (y0< (0:Int)) then some false else Option.bind (zFd (a1,a2,a3,())) fun (y1:Int)=>qT (zO (fun (s6:Int)=>bif decide (s6< (↑(List.length a1.2.2.1):Int)) then Option.bind (idx a1.2.2.1 s6) fun (y7:Int)=>bif y7==y1 then some (Sum.inr (Sum.inr false)) else some (Sum.inl (IntKind.wrap IntKind.i64 (s6+(1:Int)))) else some (Sum.inr (Sum.inl ()))) (0:Int)) fun (s8:Unit)=>some true
end Go.Ve
