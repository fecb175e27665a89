/-
  law31: the package bdd, part F.
  law31: the package bdd, part G.
  law31: the package bdd, part H.
  law31: the package bdd, part I.
  law31: the laws on access lists, out of code.
  law31: the package bdd, part J.
  law31: contracts of the laws on access lists (Lists).
  law31, plain: the set of an access list.
  law31, plain: PredicateLists.
-/
import Derived.Test.YtaidmnnejapafaaGreatDoorl20
import Derived.Test.YtaidmnnejapafaaGreatDoorl23
import Derived.Test.YtaidmnnejapafaaGreatDoorl25
set_option linter.unusedVariables false
namespace Go.Proofs.Bw
open Go Go.Proofs Go.RowKit Go.Shelf Go.Bd Go.Ve
noncomputable def zLF (i:Nat) (x:qY.El) (sf:MSt×Int):Option (MSt×Int):=
 (wD sf.1 (i,x,())).bind fun y=>zER y.1 (i,y.2,(if x.1 then (1:Int) else 0),sf.2,())
noncomputable def xV (i:Nat) (s:MSt):List qY.El→Option (MSt×Int)
 |[]=>some (s,0)
 |x::xs=>(xV i s xs).bind (zLF i x)
def GG (w0:World) (O0:Nat→Prop) (F0:Blk→Prop) (Bf:Nat) (X:Nat→Prop) (s:MSt) (f:Int) (W:World):Prop:=
 ∃ (F:Blk→Prop) (O:Nat→Prop),zSB 220 s F O W∧zBH G0 W F∧(∀b:Nat,F b→b<W.heap.size∧ ¬O b)∧(∀b,F0 b→F b)∧(∀b:Nat,F b→F0 b∨w0.heap.size+2≤b)∧
  (∀b,O b→O0 b∨w0.heap.size+2≤b)∧(∀b,X b→b<W.heap.size∧ ¬O b)∧
  W.os=w0.os∧W.tape=w0.tape∧W.output=w0.output∧w0.drawn≤W.drawn∧w0.heap.size+2≤W.heap.size∧
  (∀b,b<w0.heap.size→ ¬O0 b→b≠Bf→W.heap[b]? =w0.heap[b]?)∧Boxed W Bf 55 (.int .i64 f)
structure Base (w0:World) (O0:Nat→Prop) (F0:Blk→Prop) (Bf:Nat):Prop where
 bf:Bf<w0.heap.size
 nf: ¬O0 Bf
 ff: ¬F0 Bf
 o0: ∀b,O0 b→b<w0.heap.size
 f0: ∀b:Nat,F0 b→b<w0.heap.size
section
variable {w0:World} {O0:Nat→Prop} {F0:Blk→Prop} {Bf:Nat} {X X':Nat→Prop} {s:MSt} {f:Int} {W W':World}
theorem GG.same (hB:Base w0 O0 F0 Bf) (h:GG w0 O0 F0 Bf X s f W) (hs: ∀b,b<W.heap.size→b≠w0.heap.size→b≠w0.heap.size+1→W'.heap[b]? =W.heap[b]?) (hz:W.heap.size≤W'.heap.size)
  (h1:W'.os=W.os) (h2:W'.tape=W.tape) (h3:W'.output=W.output) (h4:W.drawn≤W'.drawn) (hX: ∀b,X' b→X b∨(W.heap.size≤b∧b<W'.heap.size)):GG w0 O0 F0 Bf X' s f W':=by
 obtain ⟨F,O,g1,g2,g3,g4,g5,g6,g7,g8,g9,g10,g11,g12,g13,g14⟩:=h
 have inb: ∀b,O b→b<W.heap.size:=fun b hb=>xW.inb g1 b hb
 have neO: ∀b,O b→b≠w0.heap.size∧b≠w0.heap.size+1:=fun b hb=>by
  rcases g6 b hb with h|h
  ·have:=hB.o0 b h;omega
  ·omega
 have neF: ∀b:Nat,F b→b≠w0.heap.size∧b≠w0.heap.size+1:=fun b hb=>by
  rcases g5 b hb with h|h
  ·have:=hB.f0 b h;omega
  ·omega
 refine ⟨F,O,xW.mono g1 (fun _ _ _ _=>Iff.rfl) (fun b hb=>hs b (inb b hb) (neO b hb).1 (neO b hb).2),fun g cs hg=>(g2 g cs hg).mono (fun _ h=>h) (fun b hb=>hs b (g3 b hb).1 (neF b hb).1 (neF b hb).2),
  fun b hb=>⟨Nat.lt_of_lt_of_le (g3 b hb).1 hz,(g3 b hb).2⟩,g4,g5,g6,fun b hb=> ?_,h1.trans g8,h2.trans g9,h3.trans g10,Nat.le_trans g11 h4,Nat.le_trans g12 hz,fun b hb ho hne=>(hs b (by omega) (by omega) (by omega)).trans (g13 b hb ho hne),?_⟩
 ·rcases hX b hb with h|h
  ·exact ⟨Nat.lt_of_lt_of_le (g7 b h).1 hz,(g7 b h).2⟩
  ·exact ⟨h.2,fun ho=>by have:=inb b ho;omega⟩
 ·have hlt:=g14.lt
  have:=hB.bf
  exact (hs Bf hlt (by omega) (by omega)).trans g14
theorem GG.set (hB:Base w0 O0 F0 Bf) (h:GG w0 O0 F0 Bf X s f W) (g:Int):GG w0 O0 F0 Bf (fun _=>False) s g (W.setCell ⟨Bf,0,none⟩ (.int .i64 g)):=by
 obtain ⟨F,O,g1,g2,g3,g4,g5,g6,g7,g8,g9,g10,g11,g12,g13,g14⟩:=h
 have hb:=hB.bf
 have neO: ∀b,O b→b≠Bf:=fun b hb' e=>by
  subst e
  rcases g6 b hb' with h|h
  ·exact hB.nf h
  ·omega
 have neF: ∀b:Nat,F b→b≠Bf:=fun b hb' e=>by
  subst e
  rcases g5 b hb' with h|h
  ·exact hB.ff h
  ·omega
 have hs: ∀b,b≠Bf→(W.setCell ⟨Bf,0,none⟩ (.int .i64 g)).heap[b]? =W.heap[b]? :=fun b hne=>Below.heap_setCell _ _ _ b hne
 have hz:(W.setCell ⟨Bf,0,none⟩ (.int .i64 g)).heap.size=W.heap.size:=by simp [World.setCell]
 refine ⟨F,O,xW.mono g1 (fun _ _ _ _=>Iff.rfl) (fun b hb=>hs b (neO b hb)),fun g cs hg=>(g2 g cs hg).mono (fun _ h=>h) (fun b hb=>hs b (neF b hb)),
  fun b hb=>by rw [hz];exact g3 b hb,g4,g5,g6,fun b hb=>hb.elim,g8,g9,g10,g11,by rw [hz];exact g12,fun b hb ho hne=>(hs b hne).trans (g13 b hb ho hne),Boxed.set _ g14⟩
theorem zMP: ∀ (ts:List Ty) (x:ElS ts),(encS ts x).length=ts.length
 |[],_=>rfl
 |_::ts,x=>by simp only [encS,List.length_cons,zMP ts]
theorem GG.call (hB:Base w0 O0 F0 Bf) (h:GG w0 O0 F0 Bf X s f W) {fid:FuncId} {ts:List Ty} {g:MSt→ElS ts→Option (MSt×Int)} (hok:OkH fid ts (.p tI) g) {args:Array Value} {x:ElS ts} {s':MSt} {y:Int} (hg:g s x=some (s',y))
  (hlen:args.size=ts.length) (hargs: ∀F:Blk→Prop,(∀b,F0 b→F b)→ ∀ (j:Nat) (u:Value) (d:V),args[j]? =some u→(encS ts x)[j]? =some d→Rd W F u d):
  Calls Tryz.prog fid args W fun e W'=>e= .returned (.int .i64 y)∧GG w0 O0 F0 Bf X s' f W'∧(∀b,b<W.heap.size→(b=w0.heap.size∨b=w0.heap.size+1∨X b∨(b<w0.heap.size∧ ¬O0 b))→W'.heap[b]? =W.heap[b]?):=by
 obtain ⟨F,O,g1,g2,g3,g4,g5,g6,g7,g8,g9,g10,g11,g12,g13,g14⟩:=h
 have hc:=hok W F O s args (encS ts x) s' ((RTy.p tI).res y) g1 g2 g3 (by rw [hlen,zMP]) (hargs F g4) (by simp only [z8,uQ,zEi];rw [hg];rfl)
 refine hc.mono ?_
 rintro e W' ⟨v,F',O',rfl,k1,k2,k3,k4,k5,k6⟩
 have k6:Rd W' F' v (.val (.int .i64 y)):=k6
 have nO: ∀b,b<W.heap.size→(b=w0.heap.size∨b=w0.heap.size+1∨X b∨(b<w0.heap.size∧ ¬O0 b))→ ¬O b:=by
  intro b _ hb ho
  rcases g6 b ho with h|h
  ·have:=hB.o0 b h
   rcases hb with hb|hb|hb|hb
   ·omega
   ·omega
   ·exact (g7 b hb).2 ho
   ·exact hb.2 h
  ·rcases hb with hb|hb|hb|hb
   ·omega
   ·omega
   ·exact (g7 b hb).2 ho
   ·omega
 have sm: ∀b,b<W.heap.size→(b=w0.heap.size∨b=w0.heap.size+1∨X b∨(b<w0.heap.size∧ ¬O0 b))→W'.heap[b]? =W.heap[b]? :=fun b hb hc=>k2.block b hb (nO b hb hc)
 refine ⟨by rw [Rd.eq_val k6],⟨F',O',k1,fun g cs hg=>(g2 g cs hg).mono k4 (fun b hb=>k2.block b (g3 b hb).1 (g3 b hb).2),fun b hb=>⟨(k5 b hb).2.1,(k5 b hb).2.2⟩,fun b hb=>k4 b (g4 b hb),fun b hb=> ?_,fun b hb=> ?_,fun b hb=> ?_,
  k2.os.trans g8,k2.tape.trans g9,k2.output.trans g10,Nat.le_trans g11 k2.drawn,Nat.le_trans g12 k2.size,fun b hb ho hne=> ?_,?_⟩,sm⟩
 ·rcases (k5 b hb).1 with h|h
  ·exact g5 b h
  ·right;omega
 ·rcases k3 b hb with h|h
  ·exact g6 b h
  ·right;omega
 ·obtain ⟨h1,h2⟩:=g7 b hb
  refine ⟨Nat.lt_of_lt_of_le h1 k2.size,fun ho=> ?_⟩
  rcases k3 b ho with h|h
  ·exact h2 h
  ·omega
 ·exact (sm b (by omega) (.inr (.inr (.inr ⟨hb,ho⟩)))).trans (g13 b hb ho hne)
 ·exact (sm Bf g14.lt (.inr (.inr (.inr ⟨hB.bf,hB.nf⟩)))).trans g14
end
end Go.Proofs.Bw

namespace Go.Proofs.Bw
open Go Go.Proofs Go.RowKit Go.Shelf Go.Bd Go.Ve
section
variable {w0:World} {O0:Nat→Prop} {F0:Blk→Prop} {Bf:Nat} {X X':Nat→Prop} {s:MSt} {f:Int} {W W':World}
theorem GG.old (h:GG w0 O0 F0 Bf X s f W) {b:Nat} (hb:b<w0.heap.size) (ho: ¬O0 b) (hne:b≠Bf):W.heap[b]? =w0.heap[b]? :=by
 obtain ⟨F,O,g1,g2,g3,g4,g5,g6,g7,g8,g9,g10,g11,g12,g13,g14⟩:=h
 exact g13 b hb ho hne
theorem GG.box (h:GG w0 O0 F0 Bf X s f W):Boxed W Bf 55 (.int .i64 f):=by
 obtain ⟨F,O,g1,g2,g3,g4,g5,g6,g7,g8,g9,g10,g11,g12,g13,g14⟩:=h
 exact g14
theorem GG.size (h:GG w0 O0 F0 Bf X s f W):w0.heap.size+2≤W.heap.size:=by
 obtain ⟨F,O,g1,g2,g3,g4,g5,g6,g7,g8,g9,g10,g11,g12,g13,g14⟩:=h
 exact g12
theorem qF (W:World) (o:Obj) {b:Nat} (hb:b<W.heap.size):(W.alloc o).heap[b]? =W.heap[b]? :=by
 show (W.heap.push o)[b]? =W.heap[b]?
 rw [Array.getElem?_push,if_neg (by omega)]
theorem zQT (hB:Base w0 O0 F0 Bf) {l m:Nat} (hl:l=w0.heap.size+1) {i:Nat} {aH:Addr} {Bm:Nat} {x:qY.El} {r:Nat→Value} (hr0:r 0= .bool x.1) (h1c: ∀j,j<10→(r j).oneCell'=true)
  (hrd: ∀ (W:World) (F:Blk→Prop),Rd W F (zAW r) (qY.enc x)) (hBm:Boxed w0 Bm 53 (.pointer (some aH))) (hBo: ¬O0 Bm) (hBn:Bm≠Bf) (hH:F0 (.h i (some aH) 0 0))
  {s1 s':MSt} {g1 f':Int} (e1:wD s (i,x,())=some (s1,g1)) (e2:zER s1 (i,g1,(if x.1 then (1:Int) else 0),f,())=some (s',f'))
  (hW:GG w0 O0 F0 Bf (fun _=>False) s f W) (hD:W.heap[w0.heap.size]? =some (.deferred (some []))) {R0:Loop} (hL:W.heap[l]? =some (.loop R0)) (hst:R0.state= .ready)
  (R:Ending→World→Prop) (hR: ∀W',GG w0 O0 F0 Bf (fun _=>False) s' f' W'→W'.heap[w0.heap.size]? =some (.deferred (some []))→W'.heap[l]? =some (.loop { R0 with state:= .ready,pending:=none })→R (.returned (.bool true)) W') (u:Nat→Value):
  zLH.wpIn (Fence.wide.inRound l) m Tryz.prog (Exit.then (fun a₁ w₁=> ∃w₂,(Instr.beginRound l).run Tryz.prog w₁= .ok () w₂∧zLG.wpIn (Fence.wide.inRound l) m Tryz.prog (roundPost Tryz.prog l R) a₁ w₂) (fun _ _ _=>False))
   { tmps:=tmR u Bm Bf (zAW r),defers:=[] } W:=by
 have hsz:=hW.size
 refine zM7 l m u Bm Bf r h1c W _ ?_
 rintro t10 rfl
 have hLa:(W.alloc (.cells (zDg r) 69)).heap[l]? =some (.loop R0):=(qF W _ (by omega)).trans hL
 refine ⟨_,run_beginRound hLa hst,?_⟩
 obtain ⟨Wb,hWb⟩: ∃Wb,(W.alloc (.cells (zDg r) 69)).putObj l (.loop { R0 with state:= .busy })=Wb:=⟨_,rfl⟩
 rw [hWb]
 have zb:Wb.heap.size=W.heap.size+1:=by rw [←hWb];simp
 have lb:Wb.heap[l]? =some (.loop { R0 with state:= .busy }):=by rw [←hWb];exact World.putObj_heap_same (by simp;omega)
 have ob: ∀b,b<W.heap.size→b≠l→Wb.heap[b]? =W.heap[b]? :=fun b hb hne=>by rw [←hWb];exact (World.putObj_heap_other hne).trans (qF W _ hb)
 have xb:Wb.heap[W.heap.size]? =some (.cells (zDg r) 69):=by rw [←hWb];exact (World.putObj_heap_other (by omega)).trans (World.alloc_heap_new W _)
 have db:Wb.heap[w0.heap.size]? =some (.deferred (some [])):=(ob _ (by omega) (by omega)).trans hD
 have gb:GG w0 O0 F0 Bf (fun b=>b=W.heap.size) s f Wb:=by
  refine GG.same hB hW (fun b hb h1 h2=>ob b hb (by omega)) (by omega) (by rw [←hWb];rfl) (by rw [←hWb];rfl) (by rw [←hWb];rfl) (by rw [←hWb];exact Nat.le_refl _) (fun b hb=> .inr ?_)
  subst hb;omega
 have gd:GG w0 O0 F0 Bf (fun b=>b=W.heap.size) s f Wb.drew:=GG.same hB gb (fun b _ _ _=>rfl) (Nat.le_refl _) rfl rfl rfl (Nat.le_succ _) (fun b hb=> .inl hb)
 let Rec:World→Prop:=fun w=>w.heap[l]? =some (.loop { R0 with state:= .busy })∧w.heap[w0.heap.size]? =some (.deferred (some []))
 let Box:World→Prop:=fun w=>Boxed w Bm 53 (.pointer (some aH))∧Boxed w Bf 55 (.int .i64 f)∧w.heap[W.heap.size]? =some (.cells (zDg r) 69)
 have hBox: ∀ {s2:MSt} {w:World},GG w0 O0 F0 Bf (fun b=>b=W.heap.size) s2 f w→w.heap[W.heap.size]? =some (.cells (zDg r) 69)→Box w:=fun g hx=>⟨(g.old hBm.lt hBo hBn).trans hBm,g.box,hx⟩
 refine zQc l m (fun j=>if j=10 then .pointer (some ⟨W.heap.size,0,none⟩) else u j) Bm Bf W.heap.size (some aH) r x.1 hr0 f Wb Box (fun w h=>h.1.cell) (fun w h j hj=> ?_) (fun w h=>h.2.1.cell) (hBox gb xb) (hBox gd xb)
  (fun g w=>g=g1∧GG w0 O0 F0 Bf (fun b=>b=W.heap.size) s1 f w∧Rec w∧w.heap[W.heap.size]? =some (.cells (zDg r) 69)) ?_ (fun g w h=>hBox h.2.1 h.2.2.2)
  (fun g h w=>h=f'∧GG w0 O0 F0 Bf (fun b=>b=W.heap.size) s' f w∧Rec w) ?_ (fun g h w hp=>⟨⟨_,hp.2.1.box.cell⟩,hp.2.1.box.frozen⟩) _ ?_ rfl (zAW r)
 ·have hx:=h.2.2
  have:w.cell? ⟨W.heap.size,j,none⟩=(zDg r)[j]? :=by simp [World.cell?,hx]
  rw [this]
  show (List.map r (List.range 10)).toArray[j]? =some (r j)
  simp [List.getElem?_range hj]
 ·have hc:=GG.call hB gd zBN (args:= #[.pointer (some aH),zAW r]) e1 rfl (fun F hF j u d hu hd=>by
   rcases j with _|_|j
   ·cases hu;cases hd;exact Rd.hd i aH (hF _ hH)
   ·cases hu;cases hd;exact hrd _ F
   ·simp at hu)
  refine hc.mono ?_
  rintro e w ⟨rfl,gg,sm⟩
  exact ⟨g1,rfl,rfl,gg,⟨(sm l (by show l<Wb.heap.size;omega) (.inr (.inl hl))).trans lb,(sm _ (by show _<Wb.heap.size;omega) (.inl rfl)).trans db⟩,(sm _ (by show _<Wb.heap.size;omega) (.inr (.inr (.inl rfl)))).trans xb⟩
 ·rintro g w ⟨rfl,gg,hrec,hx⟩
  have ok29:OkH 37 [.hd,tR,tR,tR] (.p tI) zER:=zRF (by omega)
  have hc:=GG.call hB gg ok29 (args:= #[.pointer (some aH), .int .i64 g, .int .i64 (if x.1 then 1 else 0), .int .i64 f]) e2 rfl (fun F hF j u d hu hd=>by
   rcases j with _|_|_|_|j
   ·cases hu;cases hd;exact Rd.hd i aH (hF _ hH)
   ·cases hu;cases hd;exact Rd.val _
   ·cases hu;cases hd;exact Rd.val _
   ·cases hu;cases hd;exact Rd.val _
   ·simp at hu)
  refine hc.mono ?_
  rintro e w' ⟨rfl,gg',sm⟩
  have hsz':=gg.size
  exact ⟨f',rfl,rfl,gg',(sm l (by omega) (.inr (.inl hl))).trans hrec.1,(sm _ (by omega) (.inl rfl)).trans hrec.2⟩
 ·rintro tm g h w ⟨rfl,gg,hrec⟩
  have hbf:=hB.bf
  have hsz':=gg.size
  have gs:=gg.set hB h
  have hz:(w.setCell ⟨Bf,0,none⟩ (.int .i64 h)).heap.size=w.heap.size:=by simp [World.setCell]
  have hl2:(w.setCell ⟨Bf,0,none⟩ (.int .i64 h)).heap[l]? =some (.loop { R0 with state:= .busy }):=(Below.heap_setCell _ _ _ l (by show l≠Bf;omega)).trans hrec.1
  have hd2:(w.setCell ⟨Bf,0,none⟩ (.int .i64 h)).heap[w0.heap.size]? =some (.deferred (some [])):=(Below.heap_setCell _ _ _ _ (by show w0.heap.size≠Bf;omega)).trans hrec.2
  refine ⟨_,_,run_endRound none hl2,hR _ ?_ ?_ ?_⟩
  ·exact GG.same hB gs (fun b _ h1 h2=>World.putObj_heap_other (by omega)) (by simp) rfl rfl rfl (Nat.le_refl _) (fun b hb=>hb.elim)
  ·exact (World.putObj_heap_other (by omega)).trans hd2
  ·exact World.putObj_heap_same (by rw [hz];omega)
end
end Go.Proofs.Bw

namespace Go.Proofs.Bw
open Go Go.Proofs Go.RowKit Go.Shelf Go.Bd Go.Ve
theorem zGQ {i:Nat} {s:MSt} : ∀ {xs:List qY.El} {r:MSt×Int},xV i s xs=some r→ ∀k, ∃r',xV i s (xs.drop k)=some r'
 |[],r,h,k=>⟨r,by simpa using h⟩
 |x::xs,r,h,0=>⟨r,h⟩
 |x::xs,r,h,k+1=>by
  simp only [xV,Option.bind_eq_some_iff] at h
  obtain ⟨q,hq,_⟩:=h
  exact zGQ hq k
abbrev tmL (u:Nat→Value) (Bm Bf Bs:Nat):Array Value:=
 #[u 0,u 1,u 2, .pointer (some ⟨Bm,0,none⟩),u 4,u 5,u 6,u 7, .pointer (some ⟨Bf,0,none⟩),u 9,u 10,u 11,u 12,u 13,u 14,u 15,u 16,u 17,u 18,u 19,u 20,u 21,u 22,u 23,u 24,u 25,u 26,u 27,u 28,u 29,u 30,u 31, .func (.func 71) #[] #[.pointer (some ⟨Bs,0,none⟩)],u 33,u 34,u 35,u 36,u 37,u 38,u 39,u 40,u 41,u 42,u 43,u 44]
theorem zTB (Bm Bf Bs:Nat) (tm:Array Value) (h:tm=tmL (fun j=>tm.getD j undef) Bm Bf Bs): ∃u,tm=tmL u Bm Bf Bs:=⟨_,h⟩
theorem zUn (t:Array Value) (a b:Value):((#[33,34]:Array Tmp).zip #[a,b]).foldl (fun tmps (t,a)=>tmps.setIfInBounds t a) t=(t.setIfInBounds 33 a).setIfInBounds 34 b:=by simp
def Lies (w0:World) (O0:Nat→Prop) (Bf Bs:Nat) (rules:List qY.El):Prop:=
 (rules=[]∧ ∃a cap,w0.cell? ⟨Bs,0,none⟩=some (.slice a 0 cap))∨
 ∃ (b off cap:Nat) (rv:Nat→Nat→Value),w0.cell? ⟨Bs,0,none⟩=some (.slice (some ⟨b,off,none⟩) rules.length cap)∧b<w0.heap.size∧ ¬O0 b∧b≠Bf∧(∀j,j<rules.length→ ∀i,i<10→w0.cell? ⟨b,off+j*10+i,none⟩=some (rv j i))∧
  ∀j x,rules[j]? =some x→rv j 0= .bool x.1∧(∀i,i<10→(rv j i).oneCell'=true)∧ ∀ (W:World) (F:Blk→Prop),Rd W F (zAW (rv j)) (qY.enc x)
theorem zND {w0:World} {O0:Nat→Prop} {F0:Blk→Prop} {Bf:Nat} (hB:Base w0 O0 F0 Bf) {Q:Exit→Act→World→Prop} {tm:Array Value} {Bm Bs:Nat} (htm: ∃u,tm=tmL u Bm Bf Bs) {i:Nat} {aH:Addr} {rules:List qY.El}
  (hlen:rules.length≤1048576) (hBm:Boxed w0 Bm 53 (.pointer (some aH))) (hBo: ¬O0 Bm) (hBn:Bm≠Bf) (hBs:Bs<w0.heap.size) (hBso: ¬O0 Bs) (hBsn:Bs≠Bf) (hH:F0 (.h i (some aH) 0 0)) (hlies:Lies w0 O0 Bf Bs rules)
  {s s':MSt} {f':Int} (hfold:xV i s rules=some (s',f')) (h1:zSB 220 s F0 O0 w0) (h2:zBH G0 w0 F0) (h3: ∀b:Nat,F0 b→b<w0.heap.size∧ ¬O0 b) (h4:Boxed w0 Bf 55 (.int .i64 0))
  (hQ: ∀W,GG w0 O0 F0 Bf (fun _=>False) s' f' W→W.heap[w0.heap.size]? =some (.deferred (some []))→Q .normal { tmps:=tm,defers:=[{ target:= .collected w0.heap.size,args:= #[] }] } W):
  (Code.rangeFunc (.tmp 32) #[33,34] zLH zLG).wpIn Fence.wide 9 Tryz.prog Q { tmps:=tm,defers:=[] } w0:=by
 obtain ⟨u,rfl⟩:=htm
 refine wpIn_rangeFunc ?_
 intro fn hfn
 rw [show Fence.wide.round=none from rfl]
 obtain ⟨rec,hrec⟩: ∃rec:LoopState→Option Code→Loop,rec=fun st pe=> { state:=st,pending:=pe,fn,tmps:=tmL u Bm Bf Bs,params:= #[33,34],assign:=zLH,body:=zLG,defers:=w0.heap.size } :=⟨_,rfl⟩
 obtain ⟨W1,hW1⟩: ∃W1,(w0.alloc (.deferred (some []))).alloc (.loop (rec .ready none))=W1:=⟨_,rfl⟩
 have z1:W1.heap.size=w0.heap.size+2:=by rw [←hW1];simp
 have hL1:W1.heap[w0.heap.size+1]? =some (.loop (rec .ready none)):=by
  rw [←hW1];have:=World.alloc_heap_new (w0.alloc (.deferred (some []))) (.loop (rec .ready none));rwa [World.size_alloc] at this
 have hK1:W1.heap[w0.heap.size]? =some (.deferred (some [])):=by
  rw [←hW1];exact (qF _ _ (by simp)).trans (World.alloc_heap_new w0 _)
 have ho1: ∀b,b<w0.heap.size→W1.heap[b]? =w0.heap[b]? :=fun b hb=>by
  rw [←hW1];exact (qF _ _ (by simp;omega)).trans (qF _ _ hb)
 have g0:GG w0 O0 F0 Bf (fun _=>False) s 0 W1:=by
  refine ⟨F0,O0,xW.mono h1 (fun _ _ _ _=>Iff.rfl) (fun b hb=>ho1 b (hB.o0 b hb)),fun g cs hg=>(h2 g cs hg).mono (fun _ h=>h) (fun b hb=>ho1 b (hB.f0 b hb)),fun b hb=>⟨by have:=(h3 b hb).1;omega,(h3 b hb).2⟩,fun _ h=>h,fun _ h=> .inl h,fun _ h=> .inl h,
   fun b hb=>hb.elim,by rw [←hW1];rfl,by rw [←hW1];rfl,by rw [←hW1];rfl,by rw [←hW1];exact Nat.le_refl _,by omega,fun b hb _ _=>ho1 b hb,(ho1 Bf hB.bf).trans h4⟩
 let J:Nat→World→Prop:=fun k W=> ∃s1 f1,xV i s (rules.drop (rules.length-k))=some (s1,f1)∧GG w0 O0 F0 Bf (fun _=>False) s1 f1 W∧W.heap[w0.heap.size]? =some (.deferred (some []))∧W.heap[w0.heap.size+1]? =some (.loop (rec .ready none))
 have hJ0:J 0 W1:=⟨s,0,by simp [xV],g0,hK1,hL1⟩
 have hcell: ∀ {W:World} {b j:Nat},W.heap[b]? =w0.heap[b]? →W.cell? ⟨b,j,none⟩=w0.cell? ⟨b,j,none⟩:=fun h=>World.cell?_of_block h
 have hend: ∀W2,J rules.length W2→rangePost Fence.wide 9 Tryz.prog (w0.heap.size+1) Q { tmps:=tmL u Bm Bf Bs,defers:=[{ target:= .collected w0.heap.size,args:= #[] }]++[] } (.returned (.tuple #[])) W2:=by
  rintro W2 ⟨s1,f1,hf1,gg,hk,hl⟩
  rw [Nat.sub_self,List.drop_zero,hfold] at hf1
  cases hf1
  refine ⟨none,_,by have:=run_endLoop (P:=Tryz.prog) hl (by rw [hrec];simp);rw [hrec] at this;exact this,hQ _ (GG.same hB gg (fun b _ h1 h2=>World.putObj_heap_other h2) (by simp) rfl rfl rfl (Nat.le_refl _) (fun b hb=>hb.elim)) ((World.putObj_heap_other (by omega)).trans hk)⟩
 have hend': ∀v W2,J rules.length W2→rangePost Fence.wide 9 Tryz.prog (w0.heap.size+1) Q { tmps:=tmL u Bm Bf Bs,defers:=[{ target:= .collected w0.heap.size,args:= #[] }]++[] } (.returned v) W2:=fun _ W2 h=>hend W2 h
 have eg: ∀args w,(callFunc 71 args).run Tryz.prog w= .ok (.enter 71 args) w:=enters_of Tryz.func71 (by kernel_rfl) rfl
 refine ⟨w0.heap.size+1,[{ target:= .collected w0.heap.size,args:= #[] }],W1, { target:= .fn (.func 71) #[.pointer (some ⟨Bs,0,none⟩)],args:= #[.func (.yield (w0.heap.size+1)) #[] #[]] },W1,71,
  #[.func (.yield (w0.heap.size+1)) #[] #[]]++ #[.pointer (some ⟨Bs,0,none⟩)],W1,?_,?_,fun f' _=>trivial,?_,(fun h=>by cases h),?_⟩
 ·rw [←hW1,hrec];exact run_enterLoop_outer _ _ _ _ _
 ·have hg:({ tmps:=tmL u Bm Bf Bs,defers:=[] } :Act).eval (.tmp 32)= .func (.func 71) #[] #[.pointer (some ⟨Bs,0,none⟩)]:=rfl
  simp only [resolve,hg]
  simp [go_sem]
 ·simp [invoke,go_sem,eg]
 ·show CallsIn Fence.wide 8 Tryz.prog 71 #[.func (.yield (w0.heap.size+1)) #[] #[], .pointer (some ⟨Bs,0,none⟩)] W1 _
  rcases hlies with ⟨rfl,a,cap,hc⟩|⟨b,off,cap,rv,hc,hb,hbo,hbn,hel,hru⟩
  ·refine (zM5 Fence.wide 8 trivial rfl (w0.heap.size+1) Bs cap a (J 0) W1 ((hcell (ho1 Bs hBs)).trans hc) hJ0).mono ?_
   rintro e W2 ⟨⟨v,rfl⟩,hJ⟩
   exact hend' v W2 hJ
  ·refine (zS4 Fence.wide 8 trivial rfl (by omega) (w0.heap.size+1) Bs b off rules.length cap rv hlen J (fun k W hJ=> ?_) (fun k W hk hJ=> ?_) W1 hJ0).mono ?_
   ·obtain ⟨s1,f1,hf1,gg,_,_⟩:=hJ
    exact ⟨(hcell (gg.old hBs hBso hBsn)).trans hc,fun j hj i hi=>(hcell (gg.old hb hbo hbn)).trans (hel j hj i hi)⟩
   ·obtain ⟨s1,f1,hf1,gg,hk1,hl⟩:=hJ
    have hlt:rules.length-1-k<rules.length:=by omega
    obtain ⟨x,hx⟩: ∃x,rules[rules.length-1-k]? =some x:=⟨rules[rules.length-1-k],by simp [hlt]⟩
    obtain ⟨r0,r1,r2⟩:=hru _ _ hx
    have hd:rules.drop (rules.length- (k+1))=x::rules.drop (rules.length-k):=by
     have e1:rules.length- (k+1)=rules.length-1-k:=by omega
     have e2:rules.length-k=rules.length-1-k+1:=by omega
     rw [e1,e2,List.drop_eq_getElem_cons hlt]
     congr 1
     exact Option.some.inj ((List.getElem?_eq_getElem hlt).symm.trans hx)
    obtain ⟨⟨s2,f2⟩,hf2⟩:=zGQ hfold (rules.length- (k+1))
    have hf2':=hf2
    rw [hd,xV,hf1,Option.bind_some] at hf2'
    simp only [zLF,Option.bind_eq_some_iff] at hf2'
    obtain ⟨⟨s3,g3⟩,e1,e2⟩:=hf2'
    have hy:=run_yield (P:=Tryz.prog) (args:= #[.int .i64 ((rules.length-1-k:Nat):Int),zAW (rv (rules.length-1-k))]) hl (by rw [hrec];rfl)
    refine ⟨_,_,_,_,hy,?_⟩
    refine roundIn_of_wpIn trivial ?_
    have ht:(((rec .ready none).params.zip #[.int .i64 ((rules.length-1-k:Nat):Int),zAW (rv (rules.length-1-k))]).foldl (fun tmps (t,a)=>tmps.setIfInBounds t a) (rec .ready none).tmps)
      =tmR (fun j=>if j=33 then .int .i64 ((rules.length-1-k:Nat):Int) else if j=32 then .func (.func 71) #[] #[.pointer (some ⟨Bs,0,none⟩)] else u j) Bm Bf (zAW (rv (rules.length-1-k))):=by
     rw [hrec]
     show ((#[33,34]:Array Tmp).zip #[_,_]).foldl _ (tmL u Bm Bf Bs)=_
     rw [zUn]
     rfl
    rw [ht]
    have ha:(rec .ready none).assign=zLH:=by rw [hrec]
    have hbd:(rec .ready none).body=zLG:=by rw [hrec]
    rw [ha,hbd]
    refine zQT hB rfl r0 r1 r2 hBm hBo hBn hH e1 e2 gg hk1 hl (by rw [hrec]) _ (fun W' gg' hk' hl'=>⟨rfl,s2,f2,hf2,gg',hk',?_⟩) _
    rw [hl',hrec]
   ·rintro e W2 ⟨⟨v,rfl⟩,hJ⟩
    exact hend' v W2 hJ
end Go.Proofs.Bw

namespace Go.Proofs.Bw
open Go Go.Proofs Go.RowKit Go.Shelf Go.Bd Go.Ve
noncomputable def zHJ (r:zD.El):List uE.El:=r.2.2.2.2.2.1
noncomputable def jV:MSt→ElS [.hd,zD, .str]→Option (MSt×RTy.El (.p tI)):=fun s x=>
 if x.2.2.1.toList.isEmpty then some (s,1) else
  (wW (x.2.1,x.2.2.1,())).bind fun k=>
   if k<0 then some (s,0) else
    match (zHJ x.2.1)[k.toNat]? with
    |some l=>if l.2.1.length≤1048576 then xV x.1 s l.2.1 else none
    |none=>none
theorem zT6:Tryz.f9.body=some (uS 0):=rfl
theorem zNy (x:qY.El) (i:Nat) (hi:i<10): ∃u:Value,(qY.enc x).cells[i]? =some (.val u)∧u.oneCell'=true:=by
 obtain ⟨x0,x1,⟨a1,a2,⟨⟩⟩,⟨a3,a4,⟨⟩⟩,⟨a5,a6,⟨⟩⟩,⟨a7,a8,⟨⟩⟩,⟨⟩⟩:=x
 match i,hi with
 |0,_=>exact ⟨_,rfl,rfl⟩
 |1,_=>exact ⟨_,rfl,rfl⟩
 |2,_=>exact ⟨_,rfl,rfl⟩
 |3,_=>exact ⟨_,rfl,rfl⟩
 |4,_=>exact ⟨_,rfl,rfl⟩
 |5,_=>exact ⟨_,rfl,rfl⟩
 |6,_=>exact ⟨_,rfl,rfl⟩
 |7,_=>exact ⟨_,rfl,rfl⟩
 |8,_=>exact ⟨_,rfl,rfl⟩
 |9,_=>exact ⟨_,rfl,rfl⟩
theorem zSD {w w3:World} {F:Blk→Prop} {O1:Nat→Prop} {Bf Bs:Nat} {v:Value} {rules:List qY.El} (h:Rd w F v (.tl qY rules))
  (hF: ∀b:Nat,F b→b<w3.heap.size∧ ¬O1 b∧b≠Bf∧w3.heap[b]? =w.heap[b]?) (hBs:w3.cell? ⟨Bs,0,none⟩=some v):Lies w3 O1 Bf Bs rules:=by
 cases h with
 |tl _ _ _ h=>
  generalize he:rules.map qY.enc=es at h
  cases h with
  |slemp a cap=>exact .inl ⟨by simpa using he,a,cap,hBs⟩
  |sl b off cap k es g hFb hcap hk hg hr=>
   by_cases hn:rules=[]
   ·subst hn
    simp only [List.map_nil] at he
    subst he
    exact .inl ⟨rfl,_,cap,hBs⟩
   ·have hk10:k=10:=by
     cases rules with
     |nil=>exact absurd rfl hn
     |cons x xs=>
      have:=hk (qY.enc x) (by rw [←he];simp)
      rw [jU] at this
      exact this.symm
    subst hk10
    have hel:es.length=rules.length:=by rw [←he];simp
    obtain ⟨f1,f2,f3,f4⟩:=hF b hFb
    refine .inr ⟨b,off,cap,fun j i=>g (j*10+i),by rw [←hel];exact hBs,f1,f2,f3,fun j hj i hi=> ?_,fun j x hx=> ?_⟩
    ·rw [World.cell?_of_block (a:=⟨b,off+j*10+i,none⟩) f4]
     have:=hg (j*10+i) (by rw [hel];omega)
     rw [Nat.add_assoc];exact this
    ·have hj:es[j]? =some (qY.enc x):=by rw [←he,List.getElem?_map,hx];rfl
     have hval: ∀i,i<10→(qY.enc x).cells[i]? =some (.val (g (j*10+i)))∧(g (j*10+i)).oneCell'=true:=fun i hi=>by
      obtain ⟨u,hu,h1⟩:=zNy x i hi
      have:=Rd.eq_val (hr j i _ _ hj hu)
      rw [this];exact ⟨hu,h1⟩
     refine ⟨?_,fun i hi=>(hval i hi).2,fun W F'=> ?_⟩
     ·exact Rd.eq_val (hr j 0 _ (.val (.bool x.1)) hj rfl)
     ·refine Rd.agg _ (qY.enc x).cells rfl (fun i u d hu hd=> ?_)
      have hi:i<10:=by
       have:=(Array.getElem?_eq_some_iff.1 hu).1
       simpa using this
      have hu':u=g (j*10+i):=by
       have:(zAW fun i=>g (j*10+i)).cells[i]? =some (g (j*10+i)):=by
        show (List.map (fun i=>g (j*10+i)) (List.range 10)).toArray[i]? =_
        simp [List.getElem?_range hi]
       exact Option.some.inj (hu.symm.trans this)
      rw [(hval i hi).1] at hd
      cases hd
      rw [hu']
      exact Rd.val _
theorem zUa {w:World} {F:Blk→Prop} {v:Value} {acls:List uE.El} (h:Rd w F v (.tl uE acls)) {k:Nat} {l:uE.El} (hk:acls[k]? =some l):
  ∃ba oa ca u,v= .slice (some ⟨ba,oa,none⟩) acls.length ca∧F (ba:Nat)∧w.cell? ⟨ba,oa+k*2+1,none⟩=some u∧Rd w F u (.tl qY l.2.1):=by
 have hlt:=(List.getElem?_eq_some_iff.1 hk).1
 cases h with
 |tl _ _ _ h=>
  generalize he:acls.map uE.enc=es at h
  have hel:es.length=acls.length:=by rw [←he];simp
  cases h with
  |slemp a cap=>simp only [List.length_nil] at hel;omega
  |sl b off cap m es g hFb hcap hm hg hr=>
   have hj:es[k]? =some (uE.enc l):=by rw [←he,List.getElem?_map,hk];rfl
   have hm2:m=2:=by
    have:=hm (uE.enc l) (List.mem_of_getElem? hj)
    rw [jU] at this
    exact this.symm
   subst hm2
   refine ⟨b,off,cap,g (k*2+1),by rw [hel],hFb,?_,hr k 1 _ _ hj rfl⟩
   have:=hg (k*2+1) (by rw [hel];omega)
   rw [Nat.add_assoc];exact this
theorem zQK {w:World} {F:Blk→Prop} {v:Value} {rules:List qY.El} (h:Rd w F v (.tl qY rules)): ∃a n c,v= .slice a n c:=by
 cases h with
 |tl _ _ _ h=>
  generalize rules.map qY.enc=es at h
  cases h with
  |slemp a cap=>exact ⟨_,_,_,rfl⟩
  |sl b off cap m es g hFb hcap hm hg hr=>exact ⟨_,_,_,rfl⟩
theorem zUs (cs:Array Value) (h:cs.size=25): ∃c:Nat→Value,cs= #[c 0,c 1,c 2,c 3,c 4,c 5,c 6,c 7,c 8,c 9,c 10,c 11,c 12,c 13,c 14,c 15,c 16,c 17,c 18,c 19,c 20,c 21,c 22,c 23,c 24]∧ ∀i,i<25→cs[i]? =some (c i):=by
 refine ⟨fun j=>cs.getD j undef,?_,fun i hi=>by simp [h,hi]⟩
 show cs=(List.map (fun j=>cs.getD j undef) (List.range 25)).toArray
 apply Array.ext
 ·simp [h]
 ·intro i h1 h2
  simp [h1]
set_option maxRecDepth 100000 in
set_option maxHeartbeats 4000000 in
theorem zHg:OkH 9 [.hd,zD, .str] (.p tI) jV:=by
 intro w F O s args ds s' r hsig hG hF hlen hrd hspec
 simp only [z8,uQ] at hspec
 cases hx:yY [.hd,zD, .str] ds with
 |none=>rw [hx] at hspec;cases hspec
 |some ix=>
  obtain ⟨i,ro,nm,⟨⟩⟩:=ix
  rw [hx] at hspec
  have hspec:(jV s (i,ro,nm,())).map (fun y=>(y.1,(RTy.p tI).res y.2))=some (s',r):=hspec
  obtain ⟨⟨s1,y⟩,hy,hsr⟩:=Option.map_eq_some_iff.1 hspec
  simp only [Prod.mk.injEq] at hsr
  obtain ⟨rfl,rfl⟩:=hsr
  have hwk:=wL [.hd,zD, .str] ds (i,ro,nm,()) hx
  have hlen':args.size=3:=hlen.trans (hwk.len.trans rfl)
  have hrd': ∀ (j:Nat) (u:Value) (d:V),args[j]? =some u→(encS [.hd,zD, .str] (i,ro,nm,()))[j]? =some d→Rd w F u d:=by
   intro j u d hu hd
   have hlt:j<ds.length:=by rw [hwk.len];exact (List.getElem?_eq_some_iff.1 hd).1
   exact hwk.get j ds[j] d (by simp [hlt]) hd w F u (hrd j u ds[j] hu (by simp [hlt]))
  obtain ⟨a0,a1,a2,rfl⟩: ∃a0 a1 a2,args= #[a0,a1,a2]:=by
   refine ⟨args[0],args[1],args[2],?_⟩
   apply Array.ext
   ·simp [hlen']
   ·intro j h1 h2
    match j with
    |0=>rfl
    |1=>rfl
    |2=>rfl
    |j+3=>simp at h2;omega
  have hr0:=hrd' 0 a0 _ rfl rfl
  have hr1:=hrd' 1 a1 _ rfl rfl
  have hr2:=hrd' 2 a2 _ rfl rfl
  obtain rfl:=Rd.eq_val (show Rd w F a2 (.val (.string nm)) from hr2)
  obtain ⟨aH,rfl,hH⟩: ∃aH,a0= .pointer (some aH)∧F (.h i (some aH) 0 0):=by
   cases hr0 with
   |hd _ a ha=>exact ⟨a,rfl,ha⟩
  obtain ⟨cs,rfl,hcs,hc⟩: ∃cs,a1= .agg cs∧cs.size=25∧ ∀ (j:Nat) (u:Value) (d:V),cs[j]? =some u→(zD.cells ro)[j]? =some d→Rd w F u d:=by
   have hr1:Rd w F a1 (.agg (zD.cells ro)):=hr1
   generalize hd:zD.cells ro=dd at hr1
   cases hr1 with
   |agg cs _ hl h=>exact ⟨cs,rfl,by rw [hl, ←hd,yU];rfl,h⟩
  have hR1:Rd w F (.agg cs) (zD.enc ro):=hr1
  obtain ⟨c,rfl,hcc⟩:=zUs cs hcs
  have hacl:Rd w F (c 5) (.tl uE (zHJ ro)):=hc 5 (c 5) _ rfl rfl
  refine (callsIn_wide (n:=9)).1 (callsIn_of_wp_marks (c:=uS 0) Tryz.func9 zT6 trivial ?_ rfl)
  simp only [Tryz.ntmps9,List.size_toArray,List.length_cons,List.length_nil,Nat.reduceAdd,Nat.reduceSub,Array.replicate_succ,Array.replicate_zero,List.push_toArray,List.append_toArray,List.nil_append,List.cons_append]
  refine p0 ?_
  have inb:=fun b hb=>xW.inb hsig b hb
  obtain ⟨W2,hW2⟩: ∃W2,(w.alloc (.cells #[.pointer (some aH)] 53)).alloc (.cells #[c 0,c 1,c 2,c 3,c 4,c 5,c 6,c 7,c 8,c 9,c 10,c 11,c 12,c 13,c 14,c 15,c 16,c 17,c 18,c 19,c 20,c 21,c 22,c 23,c 24] 41)=W2:=⟨_,rfl⟩
  rw [hW2]
  have z2:W2.heap.size=w.heap.size+2:=by rw [←hW2];simp
  have o2: ∀b,b<w.heap.size→W2.heap[b]? =w.heap[b]? :=fun b hb=>by rw [←hW2];exact (qF _ _ (by simp;omega)).trans (qF _ _ hb)
  have b2:Boxed W2 w.heap.size 53 (.pointer (some aH)):=by rw [←hW2];exact (qF _ _ (by simp)).trans (World.alloc_heap_new w _)
  have r2:W2.heap[w.heap.size+1]? =some (.cells #[c 0,c 1,c 2,c 3,c 4,c 5,c 6,c 7,c 8,c 9,c 10,c 11,c 12,c 13,c 14,c 15,c 16,c 17,c 18,c 19,c 20,c 21,c 22,c 23,c 24] 41):=by rw [←hW2];have:=World.alloc_heap_new (w.alloc (.cells #[.pointer (some aH)] 53)) (.cells #[c 0,c 1,c 2,c 3,c 4,c 5,c 6,c 7,c 8,c 9,c 10,c 11,c 12,c 13,c 14,c 15,c 16,c 17,c 18,c 19,c 20,c 21,c 22,c 23,c 24] 41);rwa [World.size_alloc] at this
  have k2:zBx O w W2:=by rw [←hW2];exact ⟨rfl,rfl,rfl,by simp;omega,fun b hb _=>(qF _ _ (by simp;omega)).trans (qF _ _ hb),Nat.le_refl _⟩
  have sig2:xW.R s F O W2:=xW.mono hsig (fun _ _ _ _=>Iff.rfl) (fun b hb=>o2 b (inb b hb))
  have G2:zBH G0 W2 F:=fun g cs hg=>(hG g cs hg).mono (fun _ h=>h) (fun b hb=>o2 b (hF b hb).1)
  by_cases hnm:nm.toList.isEmpty=true
  ·refine p1e hnm (fun tm htm=> ?_)
   refine ⟨_,results_tmp rfl _ _ _,?_⟩
   unfold jV at hy
   dsimp only at hy
   rw [if_pos hnm] at hy
   cases hy
   exact ⟨_,F,O,rfl,sig2,k2,fun b hb=> .inl hb,fun b hb=>hb,fun b hb=>⟨.inl hb,by have:=(hF b hb).1;omega,(hF b hb).2⟩,by rw [htm];exact Rd.val _⟩
  ·have hnm':nm.toList.isEmpty=false:=by simpa using hnm
   unfold jV at hy
   dsimp only at hy
   rw [if_neg hnm] at hy
   obtain ⟨kk,hkk,hy⟩:=Option.bind_eq_some_iff.1 hy
   have okA:kP xW Tryz.prog G0 35 (z8 (zBk (yY [zD, .str]) (.p tI) wW)):=zKG rfl zGs
   have hA:=okA W2 F O s #[.agg #[c 0,c 1,c 2,c 3,c 4,c 5,c 6,c 7,c 8,c 9,c 10,c 11,c 12,c 13,c 14,c 15,c 16,c 17,c 18,c 19,c 20,c 21,c 22,c 23,c 24], .string nm] (encS [zD, .str] (ro,nm,())) s ((RTy.p tI).res kk) sig2 G2 (fun b hb=>⟨by have:=(hF b hb).1;omega,(hF b hb).2⟩) rfl (fun j u d hu hd=>by
    rcases j with _|_|j
    ·cases hu;cases hd;exact hR1.mono (fun _ h=>h) (fun b hb=>o2 b (hF b hb).1)
    ·cases hu;cases hd;exact Rd.val _
    ·simp at hu) (by simp only [z8,zBk,zEi];rw [hkk];rfl)
   refine p1 hnm' ?_
   refine p2 (c:=c) (kk:=kk) (fun j hj=> ?_) (PA:=fun w1=> ∃F1 O1,xW.R s F1 O1 w1∧zBx O W2 w1∧(∀b,O1 b→O b∨W2.heap.size≤b)∧(∀b,F b→F1 b)∧(∀b:Nat,F1 b→(F b∨W2.heap.size≤b)∧b<w1.heap.size∧ ¬O1 b))
    (hA.mono ?_) (fun w1 hp=> ?_)
   ·have:W2.cell? ⟨w.heap.size+1,j,none⟩= #[c 0,c 1,c 2,c 3,c 4,c 5,c 6,c 7,c 8,c 9,c 10,c 11,c 12,c 13,c 14,c 15,c 16,c 17,c 18,c 19,c 20,c 21,c 22,c 23,c 24][j]? :=by simp [World.cell?,r2]
    rw [this];exact hcc j hj
   ·rintro e w1 ⟨v,F1,O1,rfl,h1,h2,h3,h4,h5,h6⟩
    exact ⟨by rw [Rd.eq_val (show Rd w1 F1 v (.val (.int .i64 kk)) from h6)],F1,O1,h1,h2,h3,h4,h5⟩
   obtain ⟨F1,O1,s1R,k1,o1,f1,f1'⟩:=hp
   have G1:zBH G0 w1 F1:=fun g cs hg=>(G2 g cs hg).mono f1 (fun b hb=>k1.block b (by have:=(hF b hb).1;omega) (hF b hb).2)
   have z1:=k1.size
   have kw1:zBx O w w1:=⟨k1.os.trans k2.os,k1.tape.trans k2.tape,k1.output.trans k2.output,Nat.le_trans k2.size k1.size,fun b hb ho=>(k1.block b (by omega) ho).trans (k2.block b hb ho),Nat.le_trans k2.drawn k1.drawn⟩
   by_cases hk0:kk<0
   ·rw [if_pos hk0] at hy
    cases hy
    refine p3n hk0 (fun tm htm=> ?_)
    refine ⟨_,results_tmp rfl _ _ _,?_⟩
    exact ⟨_,F1,O1,rfl,s1R,kw1,fun b hb=>(o1 b hb).imp id (fun h=>by omega),f1,fun b hb=>⟨(f1' b hb).1.imp id (fun h=>by omega),(f1' b hb).2⟩,by rw [htm];exact Rd.val _⟩
   ·rw [if_neg hk0] at hy
    obtain ⟨k,rfl⟩: ∃k:Nat,kk=(k:Int):=Int.eq_ofNat_of_zero_le (show (0:Int)≤kk from Int.not_lt.1 hk0)
    rw [Int.toNat_natCast] at hy
    cases hl:(zHJ ro)[k]? with
    |none=>rw [hl] at hy;cases hy
    |some l=>
     rw [hl] at hy
     simp only at hy
     split at hy
     ·rename_i hlen0
      have hlt:=(List.getElem?_eq_some_iff.1 hl).1
      obtain ⟨ba,oa,ca,uu,hv,hba,hu,hru⟩:=zUa hacl hl
      obtain ⟨ar,lr,cr,rfl⟩:=zQK hru
      have nO: ∀b,b<w.heap.size+2→ ¬O b→ ¬O1 b:=fun b hb ho h=>(o1 b h).elim ho (fun h=>by omega)
      have row1:w1.heap[w.heap.size+1]? =some (.cells #[c 0,c 1,c 2,c 3,c 4,c 5,c 6,c 7,c 8,c 9,c 10,c 11,c 12,c 13,c 14,c 15,c 16,c 17,c 18,c 19,c 20,c 21,c 22,c 23,c 24] 41):=(k1.block _ (by omega) (fun h=>by have:=inb _ h;omega)).trans r2
      have box1:Boxed w1 w.heap.size 53 (.pointer (some aH)):=(k1.block _ (by omega) (fun h=>by have:=inb _ h;omega)).trans b2
      have c5: ∀ {W:World},W.heap[w.heap.size+1]? =some (.cells #[c 0,c 1,c 2,c 3,c 4,c 5,c 6,c 7,c 8,c 9,c 10,c 11,c 12,c 13,c 14,c 15,c 16,c 17,c 18,c 19,c 20,c 21,c 22,c 23,c 24] 41)→W.cell? ⟨w.heap.size+1,5,none⟩=some (.slice (some ⟨ba,oa,none⟩) (zHJ ro).length ca):=fun h=>by rw [←hv];simp [World.cell?,h]
      have hbo:=hF ba hba
      have el1: ∀ {W:World},W.heap[ba]? =w.heap[ba]? →W.cell? ⟨ba,oa+k*2+1,none⟩=some (.slice ar lr cr):=fun h=>(World.cell?_of_block (a:=⟨ba,oa+k*2+1,none⟩) h).trans hu
      refine p3 rfl hlt (c5 row1) ?_
      refine p4 ?_
      obtain ⟨wa,hwa⟩: ∃wa,w1.alloc (.cells #[.int .i64 0] 55)=wa:=⟨_,rfl⟩
      rw [hwa]
      have za:wa.heap.size=w1.heap.size+1:=by rw [←hwa];simp
      have oa1: ∀b,b<w1.heap.size→wa.heap[b]? =w1.heap[b]? :=fun b hb=>by rw [←hwa];exact qF _ _ hb
      have boxa:Boxed wa w1.heap.size 55 (.int .i64 0):=by rw [←hwa];exact World.alloc_heap_new _ _
      refine p5 (ba:=ba) (oa:=oa) (la:=(zHJ ro).length) (ca:=ca) (ar:=ar) (lr:=lr) (cr:=cr) (k:=k) hlt (c5 ((oa1 _ (by omega)).trans row1)) (el1 ((oa1 _ (by omega)).trans (kw1.block _ hbo.1 hbo.2))) ?_
      obtain ⟨w3,hw3⟩: ∃w3,wa.alloc (.cells #[.slice ar lr cr] 50)=w3:=⟨_,rfl⟩
      rw [hw3]
      have z3:w3.heap.size=w1.heap.size+2:=by rw [←hw3];simp;omega
      have o3: ∀b,b<w1.heap.size→w3.heap[b]? =w1.heap[b]? :=fun b hb=>by rw [←hw3];exact (qF _ _ (by omega)).trans (oa1 b hb)
      have boxf:Boxed w3 w1.heap.size 55 (.int .i64 0):=by rw [←hw3];exact (qF _ _ (by omega)).trans boxa
      have boxs:Boxed w3 wa.heap.size 50 (.slice ar lr cr):=by rw [←hw3];exact World.alloc_heap_new _ _
      have inb1:=fun b hb=>xW.inb s1R b hb
      have hB:Base w3 O1 F1 w1.heap.size:=⟨by omega,fun h=>by have:=inb1 _ h;omega,fun h=>by have:=(f1' _ h).2.1;omega,fun b hb=>by have:=inb1 b hb;omega,fun b hb=>by have:=(f1' b hb).2.1;omega⟩
      have hlies:Lies w3 O1 w1.heap.size wa.heap.size l.2.1:=zSD hru (fun b hb=>by
       have h1:=hF b hb
       exact ⟨by omega,nO b (by omega) h1.2,by omega,(o3 b (by omega)).trans (kw1.block b h1.1 h1.2)⟩) boxs.cell
      refine zND hB (zTB _ _ _ _ rfl) hlen0 ((o3 _ (by omega)).trans box1) (nO _ (by omega) (fun h=>by have:=inb _ h;omega)) (by omega) (by omega) (fun h=>by have:=inb1 _ h;omega) (by omega) (f1 _ hH) hlies hy
       (xW.mono s1R (fun _ _ _ _=>Iff.rfl) (fun b hb=>o3 b (inb1 b hb))) (fun g cs hg=>(G1 g cs hg).mono (fun _ h=>h) (fun b hb=>o3 b (f1' b hb).2.1)) (fun b hb=>⟨by have:=(f1' b hb).2.1;omega,(f1' b hb).2.2⟩) boxf (fun W gg hD=> ?_)
      refine p6 gg.box.cell (fun tm htm=> ?_)
      refine ⟨by simp, .inl ⟨_,_,rfl,run_takeDeferred hD,?_⟩⟩
      refine ⟨_,results_tmp rfl _ _ _,?_⟩
      have gz:=GG.same (W':=W.putObj w3.heap.size (.deferred none)) (X':=fun _=>False) hB gg (fun b _ h1 _=>World.putObj_heap_other h1) (by simp) rfl rfl rfl (Nat.le_refl _) (fun b hb=>hb.elim)
      obtain ⟨F',O',g1,g2,g3,g4,g5,g6,g7,g8,g9,g10,g11,g12,g13,g14⟩:=gz
      have os3:w3.os=w1.os∧w3.tape=w1.tape∧w3.output=w1.output∧w3.drawn=w1.drawn:=by rw [←hw3, ←hwa];exact ⟨rfl,rfl,rfl,rfl⟩
      refine ⟨_,F',O',rfl,g1,⟨g8.trans (os3.1.trans kw1.os),g9.trans (os3.2.1.trans kw1.tape),g10.trans (os3.2.2.1.trans kw1.output),by omega,fun b hb ho=> ?_,by have:=kw1.drawn;omega⟩,fun b hb=> ?_,fun b hb=>g4 b (f1 b hb),fun b hb=>⟨?_,g3 b hb⟩,by rw [htm];exact Rd.val _⟩
      ·exact (g13 b (by omega) (nO b (by omega) ho) (by omega)).trans ((o3 b (by omega)).trans (kw1.block b hb ho))
      ·rcases g6 b hb with h|h
       ·exact (o1 b h).imp id (fun h=>by omega)
       ·right;omega
      ·rcases g5 b hb with h|h
       ·exact (f1' b h).1.imp id (fun h=>by omega)
       ·right;omega
     ·cases hy
end Go.Proofs.Bw

namespace Go.Ve
open Go Go.Proofs Go.Bd Go.Proofs.Bw
noncomputable def zES:ElS [uE,qM]→Option (RTy.El (.p tI)):=fun x=>match x with
 |(a1,a2,())=>
  kI
   (zM
    (fun (s6:Int)=>
     bif decide (s6< (↑(List.length a1.2.1):Int)) then
      Option.bind (idx a1.2.1 s6) fun (y7:Ty.El qY)=>
       Option.bind (zBX (y7,a2,())) fun (y8:Bool)=>bif y8 then some (Sum.inr (Sum.inr s6)) else some (Sum.inl (IntKind.wrap IntKind.i64 (s6+(1:Int))))
     else some (Sum.inr (Sum.inl ())))
    (0:Int))
   fun (s9:Unit)=>some (-1:Int)
noncomputable def zBW:ElS [zD, .str,qM]→Option (RTy.El (.p .bool)):=fun x=>match x with
 |(a1,a2,a3,())=>
  bif a2== { data:= #[] } then some true
  else
   Option.bind (wW (a1,a2,())) fun (y0:Int)=>
    bif decide (y0< (0:Int)) then some false
    else
     Option.bind (idx a1.2.2.2.2.2.1 y0) fun (y3:Ty.El uE)=>
      Option.bind (zES (y3,a3,())) fun (y4:Int)=>
       Option.bind
        (bif decide (y4≥(0:Int)) then
         Option.bind (idx a1.2.2.2.2.2.1 y0) fun (y7:Ty.El uE)=>Option.bind (idx y7.2.1 y4) fun (y8:Ty.El qY)=>some y8.1
        else some false)
        fun (s9:Bool)=>some s9
noncomputable def zBO:ElS [zD]→Option (RTy.El (.p .bool)):=fun x=>match x with
 |(a1,())=>
  Option.bind
   (bif decide ((↑(List.length a1.2.2.1):Int)≤(8:Int)) then
    bif decide ((↑(List.length a1.2.2.2.2.2.1):Int)≤(8:Int)) then
     bif decide ((↑(List.length a1.2.2.2.1):Int)≤(8:Int)) then
      bif decide ((↑(List.length a1.2.2.2.2.1):Int)≤(8:Int)) then
       bif decide ((↑(List.length a1.2.2.2.2.2.2.1):Int)≤(8:Int)) then some (decide ((↑(List.length a1.2.2.2.2.2.2.2.1):Int)≤(16:Int)))
       else some false
      else some false
     else some false
    else some false
   else some false)
   fun (s0:Bool)=>some s0
noncomputable def j9:MSt→ElS [zD, .str,tI,qM]→Option (MSt×RTy.El (.p .bool)):=fun st0 x=>match x with
 |(a1,a2,a3,a4,())=>
  Option.bind (zAp st0 ()) fun (y0:MSt×Bool)=>
   bif !y0.2 then some (y0.1,false)
   else
    Option.bind
     (Option.bind (yF (a4,())) fun (y4:Bool)=>
      bif !y4 then some (true,y0.1)
      else
       Option.bind (zBO (a1,())) fun (y5:Bool)=>
        bif !y5 then some (true,y0.1) else Option.bind (kY (a1,())) fun (y6:Int)=>some (y6 !=(0:Int),y0.1))
     fun (s7:Bool×MSt)=>
     bif s7.1 then some (s7.2,true)
     else
      Option.bind
       (Option.bind (bif decide ((↑(List.length a1.2.2.2.2.2.1):Int)>(0:Int)) then some (decide (a3≥(0:Int)),s7.2) else some (false,s7.2))
        fun (s11:Bool×MSt)=>
        bif s11.1 then
         bif (↑(List.length a1.2.2.2.2.2.1):Int) !=(0:Int) then
          Option.bind (idx a1.2.2.2.2.2.1 (Int.tmod a3 (↑(List.length a1.2.2.2.2.2.1):Int))) fun (y12:Ty.El uE)=>some (y12.1,s11.2)
         else none
        else some (a2,s11.2))
       fun (s13:ByteArray×MSt)=>
       Option.bind (xL s13.2 ()) fun (y14:MSt×Nat)=>
        Option.bind (jV y14.1 (y14.2,a1,s13.1,())) fun (y15:MSt×Int)=>
         Option.bind
          (Option.bind (zH1 y15.1 (y14.2,y15.2,())) fun (y22:MSt×Bool)=>
           bif y22.2 then
            Option.bind (zA2 y22.1 (y14.2,y15.2,a4,())) fun (y23:MSt×Bool)=>
             Option.bind (zBW (a1,s13.1,a4,())) fun (y24:Bool)=>some (y23.2==y24,y23.1)
           else some (false,y22.1))
          fun (s25:Bool×MSt)=>some (s25.2,s25.1)
end Go.Ve

namespace Go.Ve
open Go Go.Proofs Go.Bd Go.Proofs.Bw
noncomputable def zIh:xX:=zBq (by kernel_rfl) zHg
end Go.Ve

namespace Go.Ve
open Go Go.Proofs Go.Bd Go.Proofs.Bw
set_option maxRecDepth 1000000
set_option maxHeartbeats 0
theorem zI6:OkX 6 [zD] (.p .bool) zBO:=fX [] (A:=(jl [jj 6 6296488643826193618256 [] [.t 2 .bool]])) (fn:=Tryz.f6) (by kernel_rfl) (by kernel_rfl) (by rintro ⟨⟩ ⟨a1,⟨⟩⟩;kernel_rfl)
theorem zLh:OkX 40 [uE,qM] (.p tI) zES:=fX [zKa] (A:=(jl [jj 9 366503539968 [] [.t 10 tI],jj 28 366503884032 [] []])) (fn:=Tryz.f40) (by kernel_rfl) (by kernel_rfl) (by rintro ⟨⟩ ⟨a1,a2,⟨⟩⟩;kernel_rfl)
noncomputable def zMR:Ent:=jJ (by kernel_rfl) zLh
theorem zJb:OkX 12 [zD, .str,qM] (.p .bool) zBW:=fX [zMR,zBT] (A:=(jl [jj 30 6296488620369945563136 [] [.t 6 .bool]])) (fn:=Tryz.f12) (by kernel_rfl) (by kernel_rfl) (by rintro ⟨⟩ ⟨a1,a2,a3,⟨⟩⟩;kernel_rfl)
theorem zCt:OkH 3 [zD, .str,tI,qM] (.p .bool) j9:=
 fH [(zC8 (by kernel_rfl) (by kernel_rfl) zJb),zLv,zMQ,zIh,zGJ,(zC8 (by kernel_rfl) (by kernel_rfl) zD0),(zC8 (by kernel_rfl) (by kernel_rfl) zI6),(zC8 (by kernel_rfl) (by kernel_rfl) zFz),zJ8] (A:=[jj 14 1501199853420544 [] [.t 25 .bool, .st],jj 22 98381133859908485120 [] [.t 33 .bool, .st],jj 28 103161669938947156365803524 [] [.t 1 .str, .st],jj 38 28356863804440655269595433827922149376 [] [.t 8 .bool, .st]]) (fn:=Tryz.f3) (by kernel_rfl) (by kernel_rfl) (by kernel_rfl) (by rintro st0 ⟨a1,a2,a3,a4,⟨⟩⟩;kernel_rfl)
end Go.Ve

namespace Go.Ve
open Go Go.Proofs Go.Bd Go.Proofs.Bw
set_option maxRecDepth 1000000
set_option maxHeartbeats 4000000
def zJP:List Rul→(Nat→Bool)→Bool
 |[],_=>false
 |x::xs,a=>if zHO x a then x.1 else zJP xs a
theorem zQo: ∀l:List Rul,Wd (4^l.length) (zJP l)
 |[]=>Wd.const false
 |x::xs=>by
  have h:=((zOH x).wd.prod (zQo xs)).comp (fun q=>if q.1 then x.1 else q.2)
  have e:4*4^xs.length=4^(x::xs).length:=by rw [List.length_cons,Nat.pow_succ,Nat.mul_comm]
  rw [e] at h
  exact h
def cA:Nat→Nat
 |0=>0
 |n+1=>cA n+400000+220*4^(n+1)
theorem zS1: ∀ {m n:Nat},m≤n→cA m≤cA n:=by
 intro m n h
 induction h with
 |refl=>exact Nat.le_refl _
 |step _ ih=>exact Nat.le_trans ih (by rw [cA];omega)
theorem zUp:cA 16≤1300000000000:=by decide
abbrev cAA:Nat:=1300000000000
theorem zTp {n:Nat} (h:n≤16):cA n≤cAA:=Nat.le_trans (zS1 h) zUp
theorem zKl {p:Pub} {nx i:Nat} (hp:POk p) (hi:i+1=nx): ∀l:List Rul,(∀x,x∈l→zBw x)→p.S.ns.length+cA l.length≤lim→Wp (xV i (nx,some p) l) (Mk p nx (cA l.length) (zJP l))
 |[],_,_=>zA ⟨p,rfl,Stp.refl hp,Rp.f0 hp⟩
 |x::xs,hx,hr=>by
  have hr:p.S.ns.length+(cA xs.length+400000+220*4^(xs.length+1))≤5864062014000:=hr
  unfold xV
  refine zB ((zKl hp hi xs (fun y hy=>hx y (List.mem_cons_of_mem _ hy)) (by show _≤5864062014000;omega)).mono ?_)
  rintro ⟨st1,f1⟩ ⟨q1,hst1,hs1,h1⟩
  simp only at hst1 h1
  subst hst1
  have c1:=hs1.cnt
  unfold zLF
  dsimp only
  refine zB ((zKm hs1.ok hi x (hx x List.mem_cons_self) (by show _+400000≤5864062014000;omega)).mono ?_)
  rintro ⟨st2,f2⟩ ⟨q2,hst2,hs2,h2⟩
  simp only at hst2 h2
  subst hst2
  have c2:=hs2.cnt
  have hd:Rp q2 (if x.1 then (1:Int) else 0) (fun _=>x.1):=by
   cases x.1 with
   |true=>exact Rp.f1 hs2.ok
   |false=>exact Rp.f0 hs2.ok
  have hcr:cR=400000:=rfl
  refine zTu hs2.ok hi h2 hd (h1.step hs1.ok hs2) (4^(xs.length+1)) (zQo (x::xs)) (by show _≤5864062014000;omega) ?_
  intro p' y hs3 hy
  exact ⟨p',rfl,((hs1.trans hs2).trans hs3).mono (Nat.le_refl _),hy⟩
theorem zRg (s:ByteArray):s.toList.isEmpty=(s==⟨#[]⟩):=by
 rw [zCM]
 obtain ⟨⟨l⟩⟩:=s
 cases l with
 |nil=>rfl
 |cons a l=>
  symm
  rw [List.isEmpty_cons]
  exact beq_eq_false_iff_ne.2 (fun h=>by cases h)
def zGh (r:Ty.El zD) (nm:ByteArray):List Rul:=match r.2.2.2.2.2.1[(zA5 (fun x:Ty.El uE=>x.1==nm) r.2.2.2.2.2.1).toNat]? with
 |some l=>l.2.1
 |none=>[]
def zGn (r:Ty.El zD) (nm:ByteArray) (a:Nat→Bool):Bool:=
 if nm==⟨#[]⟩ then true else if zA5 (fun x:Ty.El uE=>x.1==nm) r.2.2.2.2.2.1<0 then false else zJP (zGh r nm) a
theorem zQH {p:Pub} {nx i:Nat} (hp:POk p) (hi:i+1=nx) (r:Ty.El zD) (nm:ByteArray) (h4:r.2.2.2.2.2.1.length≤1048576) (hok: ∀l,l∈r.2.2.2.2.2.1→l.2.1.length≤16∧ ∀x,x∈l.2.1→zBw x)
  (hr:p.S.ns.length+cAA≤lim):Wp (jV (nx,some p) (i,r,nm,())) (Mk p nx cAA (zGn r nm)):=by
 unfold jV
 dsimp only
 rw [zRg]
 by_cases hn:(nm==(⟨#[]⟩:ByteArray))=true
 ·rw [if_pos hn]
  have e:zGn r nm=fun _=>true:=by funext a;rw [zGn,if_pos hn]
  rw [e]
  exact zA ⟨p,rfl,(Stp.refl hp).mono (Nat.zero_le _),Rp.f1 hp⟩
 ·rw [if_neg hn]
  refine zB ((xD r nm h4).mono ?_)
  rintro _ rfl
  rcases zAf (fun x:Ty.El uE=>x.1==nm) r.2.2.2.2.2.1 with ⟨h1,_⟩|⟨k,l,h1,h2,_,_⟩
  ·have e:zGn r nm=fun _=>false:=by funext a;rw [zGn,if_neg hn,h1];rfl
   rw [h1,if_pos (by decide),e]
   exact zA ⟨p,rfl,(Stp.refl hp).mono (Nat.zero_le _),Rp.f0 hp⟩
  ·have hl:=hok l (List.mem_of_getElem? h2)
   have e:zGn r nm=zJP l.2.1:=by
    funext a
    rw [zGn,if_neg hn,h1,if_neg (show ¬((k:Int)<0) by omega),zGh,h1,Int.toNat_natCast,h2]
   rw [h1,if_neg (show ¬((k:Int)<0) by omega),e,Int.toNat_natCast,show (zHJ r)[k]? =some l from h2]
   dsimp only
   rw [if_pos (by omega)]
   exact (zKl hp hi l.2.1 hl.2 (Nat.le_trans (Nat.add_le_add_left (zTp hl.1) _) hr)).mono (fun q hq=>hq.mono (zTp hl.1) (fun _=>rfl))
def zKb (p:Pkt):List Rul→Bool
 |[]=>false
 |x::xs=>if zFB x p then x.1 else zKb p xs
theorem zNh {pk:Pkt} {al:List Bool} (h:zGV pk al) (hp:zPf pk): ∀l:List Rul,(∀x,x∈l→zBw x)→zJP l (asg al)=zKb pk l
 |[],_=>rfl
 |x::xs,hx=>by
  rw [zJP,zKb,zPt h hp x (hx x List.mem_cons_self),zNh h hp xs (fun y hy=>hx y (List.mem_cons_of_mem _ hy))]
theorem zQi (p:Pkt): ∀l:List Rul,zKb p l=match l[(zA5 (fun x=>zFB x p) l).toNat]? with
  |some x=>decide (0≤zA5 (fun x=>zFB x p) l)&&x.1
  |none=>false:=by
 intro l
 rcases zAf (fun x=>zFB x p) l with ⟨h1,h2⟩|⟨i,x,h1,h2,h3,h4⟩
 ·rw [h1]
  have:zKb p l=false:=by
   clear h1
   induction l with
   |nil=>rfl
   |cons y ys ih=>
    have hy:zFB y p=false:=h2 y List.mem_cons_self
    rw [zKb,hy]
    exact ih (fun z hz=>h2 z (List.mem_cons_of_mem _ hz))
  rw [this]
  cases l[(-1:Int).toNat]? <;>rfl
 ·rw [h1,Int.toNat_natCast,h2]
  simp only [Int.natCast_nonneg,decide_true,Bool.true_and]
  clear h1
  induction l generalizing i with
  |nil=>simp at h2
  |cons y ys ih=>
   cases i with
   |zero=>
    simp only [List.getElem?_cons_zero,Option.some.injEq] at h2
    subst h2
    have h3:zFB y p=true:=h3
    rw [zKb,h3];rfl
   |succ i=>
    have hy:zFB y p=false:=h4 0 y (by omega) rfl
    rw [zKb,hy]
    simp only [List.getElem?_cons_succ] at h2
    exact ih i h2 (fun j z hj hz=>h4 (j+1) z (by omega) (by simpa using hz))
theorem zNv (l:Ty.El uE) (p:Pkt) (hl:l.2.1.length≤1048576):Wp (zES (l,p,())) (fun k=>k=zA5 (fun x=>zFB x p) l.2.1):=by
 unfold zES
 refine zEp (p:=fun x=>zFB x p) (Nat.lt_of_le_of_lt hl (by omega)) (fun i x hx=> ?_) rfl
 rw [wR hx,Option.bind_some,zK2,Option.bind_some]
 cases zFB x p<;>rfl
def zI2 (r:Ty.El zD) (nm:ByteArray) (p:Pkt):Bool:=
 if nm==⟨#[]⟩ then true else if zA5 (fun x:Ty.El uE=>x.1==nm) r.2.2.2.2.2.1<0 then false else zKb p (zGh r nm)
end Go.Ve

namespace Go.Ve
open Go Go.Proofs Go.Bd Go.Proofs.Bw
set_option maxRecDepth 1000000
set_option maxHeartbeats 4000000
theorem zIT {r:Ty.El zD} {nm:ByteArray} {k:Nat} {l:Ty.El uE} (h1:zA5 (fun x:Ty.El uE=>x.1==nm) r.2.2.2.2.2.1=(k:Int)) (h2:r.2.2.2.2.2.1[k]? =some l):zGh r nm=l.2.1:=by
 rw [zGh,h1,Int.toNat_natCast,h2]
theorem zK1 (r:Ty.El zD) (nm:ByteArray) (p:Pkt) (h4:r.2.2.2.2.2.1.length≤1048576) (hok: ∀l,l∈r.2.2.2.2.2.1→l.2.1.length≤16):Wp (zBW (r,nm,p,())) (fun b=>b=zI2 r nm p):=by
 unfold zBW
 dsimp only
 refine zG (fun h=>zA ?_) (fun h=> ?_)
 ·rw [zI2,if_pos h]
 have hn: ¬(nm==(⟨#[]⟩:ByteArray))=true:=by rw [h];decide
 refine zB ((xD r nm h4).mono ?_)
 rintro _ rfl
 rcases zAf (fun x:Ty.El uE=>x.1==nm) r.2.2.2.2.2.1 with ⟨h1,_⟩|⟨k,l,h1,h2,_,_⟩
 ·rw [h1]
  refine zJ (fun _=>zA ?_) (fun h=>absurd (by decide) h)
  rw [zI2,if_neg hn,h1];rfl
 ·have hl:=hok l (List.mem_of_getElem? h2)
  have e:zI2 r nm p=zKb p l.2.1:=by
   rw [zI2,if_neg hn,h1,if_neg (show ¬((k:Int)<0) by omega),zIT h1 h2]
  rw [h1,e]
  refine zJ (fun h=>absurd h (show ¬((k:Int)<0) by omega)) (fun _=> ?_)
  refine zB (jR (wR h2) ?_)
  refine zB ((zNv l p (by omega)).mono ?_)
  rintro _ rfl
  have hm:=zQi p l.2.1
  rcases zAf (fun x=>zFB x p) l.2.1 with ⟨g1,_⟩|⟨i,x,g1,g2,_,_⟩
  ·rw [g1] at hm ⊢
   refine zB (Wp.mono (Q:=fun b=>b=false) ?_ ?_)
   ·exact zJ (fun h=>absurd h (by decide)) (fun _=>zA rfl)
   ·rintro _ rfl
    refine zA ?_
    rw [hm]
    cases l.2.1[(-1:Int).toNat]? <;>rfl
  ·rw [g1] at hm ⊢
   rw [Int.toNat_natCast,g2] at hm
   refine zB (Wp.mono (Q:=fun b=>b=x.1) ?_ ?_)
   ·refine zJ (fun _=> ?_) (fun h=>absurd (show ((i:Int)≥0) by omega) h)
    refine zB (jR (wR h2) ?_)
    exact zB (jR (wR g2) (zA rfl))
   ·rintro _ rfl
    refine zA ?_
    rw [hm]
    simp
theorem zPp (r:Ty.El zD):Wp (zBO (r,())) (fun _=>True):=by
 unfold zBO
 dsimp only
 refine zB (Wp.mono (Q:=fun _=>True) ?_ (fun b _=>zA trivial))
 exact zJ (fun _=>zJ (fun _=>zJ (fun _=>zJ (fun _=>zJ (fun _=>zA trivial) (fun _=>zA trivial)) (fun _=>zA trivial)) (fun _=>zA trivial)) (fun _=>zA trivial)) (fun _=>zA trivial)
def zPg (r:Ty.El zD):Prop:= ∀ (i:Nat) l,r.2.2.2.2.2.1[i]? =some l→zPh r i l
theorem zPg.lists {r:Ty.El zD} (h:zPg r): ∀l,l∈r.2.2.2.2.2.1→l.2.1.length≤16∧ ∀x,x∈l.2.1→zBw x:=fun l hl=>by
 obtain ⟨i,hi⟩:=List.getElem?_of_mem hl
 exact ⟨(h i l hi).len,(h i l hi).rules⟩
theorem zPA {r:Ty.El zD} (hr:zPg r) {nm:ByteArray} {pk:Pkt} {al:List Bool} (h:zGV pk al) (hp:zPf pk):zGn r nm (asg al)=zI2 r nm pk:=by
 unfold zGn zI2
 split
 ·rfl
 ·split
  ·rfl
  ·rename_i h0
   rcases zAf (fun x:Ty.El uE=>x.1==nm) r.2.2.2.2.2.1 with ⟨h1,_⟩|⟨k,l,h1,h2,_,_⟩
   ·rw [h1] at h0;exact absurd (by decide) h0
   ·rw [zIT h1 h2]
    exact zNh h hp l.2.1 (hr k l h2).rules
theorem zSA {n:Nat} (hn:0<n) {a:Int} (ha:0≤a):0≤Int.tmod a (n:Int)∧Int.tmod a (n:Int)< (n:Int):=
 ⟨Int.tmod_nonneg _ ha,Int.tmod_lt_of_pos _ (by omega)⟩
theorem zMB (r:Ty.El zD) (nm:ByteArray) (w:Int) (p:Pkt) (hs:SmL r):Wp (j9 (0,none) (r,nm,w,p,())) (fun q=>q.2=true):=by
 unfold j9
 dsimp only
 refine zB (zM6.mono ?_)
 rintro ⟨⟨n1,q0⟩,b⟩ ⟨hb,hn⟩
 simp only at hb hn
 subst hb hn
 refine zG (fun hc=>by cases hc) (fun _=> ?_)
 refine zB (Wp.mono (Q:=fun s:Bool×MSt=>s.2=(1,q0)∧(s.1=false→zPf p∧zPg r)) ?_ ?_)
 ·refine zB ((zG9 p).mono ?_)
  intro b hb
  refine zG (fun _=>zA ⟨rfl,fun h=>by cases h⟩) (fun hn=> ?_)
  obtain ⟨p0,p1,s0,s1,d0,d1⟩:=hb (by simpa using hn)
  refine zB ((zPp r).mono ?_)
  intro b _
  refine zG (fun _=>zA ⟨rfl,fun h=>by cases h⟩) (fun _=> ?_)
  refine zB ((zHa r hs).mono ?_)
  intro c hc
  refine zA ⟨rfl,fun h=>⟨⟨p0,p1,s0,s1,d0,d1⟩,hc (by simpa [bne] using h)⟩⟩
 rintro ⟨b,st⟩ ⟨hst,hT⟩
 simp only at hst hT
 subst hst
 refine zG (fun _=>zA rfl) (fun hb=> ?_)
 obtain ⟨hp,hA⟩:=hT hb
 refine zB (Wp.mono (Q:=fun s:ByteArray×MSt=>s.2=(1,q0)) ?_ ?_)
 ·refine zB (Wp.mono (Q:=fun s:Bool×MSt=>s.2=(1,q0)∧(s.1=true→0<r.2.2.2.2.2.1.length∧(0:Int)≤w)) ?_ ?_)
  ·refine zJ (fun h=>zA ⟨rfl,fun h2=>⟨?_,?_⟩⟩) (fun _=>zA ⟨rfl,fun h=>by cases h⟩)
   ·have h:((r.2.2.2.2.2.1.length:Int)>0):=h
    omega
   ·exact of_decide_eq_true h2
  ·rintro ⟨b,st⟩ ⟨hst,hb⟩
   simp only at hst hb
   subst hst
   refine zG (fun h=> ?_) (fun _=>zA rfl)
   obtain ⟨h0,h1⟩:=hb h
   obtain ⟨m0,m1⟩:=zSA h0 h1
   refine zG (fun _=>zB (jD m0 m1 (fun y _ _=>zA rfl))) (fun hz=> ?_)
   have hz:((r.2.2.2.2.2.1.length:Int) !=0)=false:=hz
   have:(r.2.2.2.2.2.1.length:Int)=0:=by simpa [bne] using hz
   omega
 rintro ⟨nm',st⟩ hst
 simp only at hst
 subst hst
 refine zB (jR zMa ?_)
 dsimp only
 refine zB ((zQH (i:=1) zMt rfl r nm' hs.i4 hA.lists (by decide)).mono ?_)
 rintro ⟨st1,f⟩ ⟨q1,hst1,hs1,hf⟩
 simp only at hst1 hf
 subst hst1
 refine zB (Wp.mono (Q:=fun s:Bool×MSt=>s.1=true) ?_ (fun s hs=>zA hs))
 refine zB (jR (zQv hf rfl) ?_)
 refine zG (fun _=> ?_) (fun h=>by cases h)
 refine zB (zSe rfl hf p ?_)
 intro al ha
 refine zB ((zK1 r nm' p hs.i4 (fun l hl=>(hA.lists l hl).1)).mono ?_)
 rintro _ rfl
 refine zA ?_
 dsimp only
 rw [zPA hA ha hp]
 exact beq_self_eq_true _
end Go.Ve
