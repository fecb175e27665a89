/-
  law31: the package bdd, part C.
  law31: the package bdd, part E.
  law31: the package bdd, part G.
-/
import Derived.Tactics
import Derived.Tactics2
import Derived.WalkSpells
import Derived.StillTactics
import Derived.OwnWalk
import Derived.Laws.Pointers
import Derived.Deep.RegionHeld3
import Derived.Deep.RegionLaw
import Derived.Deep.AppendLies
import Derived.KernelRfl
import Derived.RegionTactic
import Derived.Lib.Hide
import Derived.Test.YtaidmnnejapafaaGreatDoorl16
import Derived.Test.YtaidmnnejapafaaGreatDoorl2
set_option linter.unusedVariables false
namespace Go.Proofs.Bw
open Go Go.Proofs Go.RowKit Go.Bd
set_option maxRecDepth 100000
theorem alloc_old {w:World} {o:Obj} {i:Nat} (h:i<w.heap.size):(w.alloc o).drew.heap[i]? =w.heap[i]? :=by
 show (w.heap.push o)[i]? =_
 rw [Array.getElem?_push,if_neg (Nat.ne_of_lt h)]
theorem zV {w w':World} {base e size n:Nat} {v:Value} {xs:List Value} (h:w.ownsRow base e size v n xs) (hw: ∀g,v.ownBlock=some g→w'.heap[g]? =w.heap[g]?):w'.ownsRow base e size v n xs:=by
 obtain ⟨h1,h2⟩:=h
 refine ⟨h1,h2.imp id ?_⟩
 rintro ⟨g,cap,cur,rfl,a1,a2,a3⟩
 exact ⟨g,cap,cur,rfl,a1,(hw g rfl).trans a2,a3⟩
theorem jN {w:World} {a:Addr} {v:Value} {i:Nat} (h:a.block≠i):(w.setCell a v).heap[i]? =w.heap[i]? :=by
 show (w.heap.modify _ _)[i]? =_
 rw [Array.getElem?_modify,if_neg h]
theorem zU {w:World} {a:Addr} {v:Value} :(w.setCell a v).heap.size=w.heap.size:=by
 show (w.heap.modify _ _).size=_
 simp
theorem zSL:(Tryz.prog.info? 145).map (fun i=>(i.zero,i.size,i.bytes))=some (some (.agg #[.int .i64 0, .int .i64 0, .int .i64 0]),3,24):=by kernel_rfl
theorem info4:(Tryz.prog.info? 4).map (fun i=>(i.zero,i.size,i.bytes))=some (some (.bool false),1,1):=by kernel_rfl
def zTc (b bn bs bu v lo hi len:Nat) (xs ys:List Value) (l:List (Key×Nat)) (w:World) (e:Ending) (w':World):Prop:=
 e= .returned (.int .i64 len)∧ ∃g1 c1 g2 c2:Nat,
  w'.ownsRow 0 145 3 (.slice (some ⟨g1,0,none⟩) (len+1) c1) (len+1) (xs++[.int .i64 v, .int .i64 lo, .int .i64 hi])∧
  w'.ownsRow 0 4 1 (.slice (some ⟨g2,0,none⟩) (len+1) c2) (len+1) (ys++[.bool false])∧
  w'.heap[bu]? =some (.map (wA 0 (put (v,lo,hi) len l)).toArray (put (v,lo,hi) len l).length)∧
  (∀C T,w.heap[b]? =some (.cells C T (0,0))→w'.heap[b]? =some (.cells ((C.setIfInBounds 2 (.slice (some ⟨g1,0,none⟩) (len+1) c1)).setIfInBounds 3 (.slice (some ⟨g2,0,none⟩) (len+1) c2)) T (0,0)))∧
  (g1=bn∨w.heap.size≤g1)∧(g2=bs∨w.heap.size≤g2)∧g1≠g2∧w.heap.size≤w'.heap.size∧
  (∀i,i<w.heap.size→i≠b→i≠bn→i≠bs→i≠bu→w'.heap[i]? =w.heap[i]?)∧w'.os=w.os∧w'.tape=w.tape∧w'.output=w.output∧w.drawn≤w'.drawn
theorem xF {w:World} {b i:Nat} {o:Obj} (h:i≠b):(Go.Ve.setBlk w b o).heap[i]? =w.heap[i]? :=by
 show (w.heap.setIfInBounds b o)[i]? =_
 rw [Array.getElem?_setIfInBounds_ne (Ne.symm h)]
theorem zDS {w:World} {b:Nat} {o:Obj} (h:b<w.heap.size):(Go.Ve.setBlk w b o).heap[b]? =some o:=by
 show (w.heap.setIfInBounds b o)[b]? =_
 simp [h]
theorem vE {w:World} {b off:Nat} {v:Value} {C:Array Value} {T:TypeId} {fl:Nat×Nat} (h:w.heap[b]? =some (.cells C T fl)):(w.setCell ⟨b,off,none⟩ v).heap[b]? =some (.cells (C.setIfInBounds off v) T fl):=by
 show (w.heap.modify b _)[b]? =_
 rw [Array.getElem?_modify,if_pos rfl,h]
 rfl
set_option maxHeartbeats 3200000 in
theorem zRf (b bn bs bu v lo hi len cn cs:Nat) (xs ys:List Value) (l:List (Key×Nat)) (w:World)
  (h2:w.cell? ⟨b,2,none⟩=some (.slice (some ⟨bn,0,none⟩) len cn)) (h3:w.cell? ⟨b,3,none⟩=some (.slice (some ⟨bs,0,none⟩) len cs)) (h4:w.cell? ⟨b,4,none⟩=some (.slice none 0 0)) (h5:w.cell? ⟨b,5,none⟩=some (.map (some bu)))
  (f2:w.frozen? ⟨b,2,none⟩=false) (f3:w.frozen? ⟨b,3,none⟩=false)
  (hb:b<w.heap.size) (hu:Hid (bu<w.heap.size)) (hm:Hid (w.heap[bu]? =some (.map (wA 0 l).toArray l.length)))
  (hN:Hid (w.ownsRow 0 145 3 (.slice (some ⟨bn,0,none⟩) len cn) len xs)) (hS:Hid (w.ownsRow 0 4 1 (.slice (some ⟨bs,0,none⟩) len cs) len ys))
  (d1:b≠bn) (d2:b≠bs) (d3:bn≠bs) (d4:bu≠b) (d5:bu≠bn) (d6:bu≠bs) (hlen:Hid ((len+1)*24≤140737488355328))
  (hne:((lo:Int)==hi)=false) (hl:Hid (Bd.look (v,lo,hi) l=none)):
  Calls Tryz.prog 98 #[.pointer (some ⟨b,0,none⟩), .int .i64 v, .int .i64 lo, .int .i64 hi] w (zTc b bn bs bu v lo hi len xs ys l w):=by
 obtain ⟨i0,hi0,hz0,hz1,hz2⟩:=info_parts zSL
 have HI:=Lib.hid hi0
 have HZ:=Lib.hid (And.intro hz0 (And.intro hz1 hz2))
 clear hi0 hz0 hz1 hz2
 obtain ⟨i4,hi4,hz4,hz5,hz6⟩:=info_parts info4
 have HI4:=Lib.hid hi4
 have HZ4:=Lib.hid (And.intro hz4 (And.intro hz5 hz6))
 clear hi4 hz4 hz5 hz6
 have hlk: ∀q,Sem.run Tryz.prog (Instr.lookup 96 (.map (some bu)) (.agg #[.int .i64 v, .int .i64 lo, .int .i64 hi]) true) ((w.alloc (.cells #[.int .i64 v, .int .i64 lo, .int .i64 hi] 145)).drewN q)=
   .ok (.tuple #[.int .i64 0, .bool false]) ((w.alloc (.cells #[.int .i64 v, .int .i64 lo, .int .i64 hi] 145)).drewN q):=fun q=>by
  have:=zTP.lookup (v,lo,hi) (w:=(w.alloc (.cells #[.int .i64 v, .int .i64 lo, .int .i64 hi] 145)).drewN q) (b:=bu) (ck:=l.length) (l:=l) (by rw [alloc_at hu.out];exact hm.out)
  rw [hl.out] at this
  exact this
 go_enter Tryz.func98,Tryz.ntmps98
 go_wp2
 go_quiet (fail)
 clear hlk
 have E1:Hid (∀W:World,W=(w.alloc (.cells #[.int .i64 v, .int .i64 lo, .int .i64 hi] 145)).drewN nq→W.heap.size=w.heap.size+1∧W.heap[w.heap.size]? =some (.cells #[.int .i64 v, .int .i64 lo, .int .i64 hi] 145 (0,0))∧
   (∀i,i<w.heap.size→W.heap[i]? =w.heap[i]?)):=by
  rintro W rfl
  refine ⟨by show (w.heap.push _).size=_;simp,by show (w.heap.push _)[w.heap.size]? =_;simp,fun i hi=>alloc_at hi⟩
 generalize hW:(w.alloc (.cells #[.int .i64 v, .int .i64 lo, .int .i64 hi] 145)).drewN nq=W
 obtain ⟨e1,e2,e3⟩:=E1.out W hW.symm
 have g2:W.cell? ⟨b,2,none⟩=some (.slice (some ⟨bn,0,none⟩) len cn):=(World.cell?_of_block (w:=w) (e3 b hb)).trans h2
 have g3:W.cell? ⟨b,3,none⟩=some (.slice (some ⟨bs,0,none⟩) len cs):=(World.cell?_of_block (w:=w) (e3 b hb)).trans h3
 have g4:W.cell? ⟨b,4,none⟩=some (.slice none 0 0):=(World.cell?_of_block (w:=w) (e3 b hb)).trans h4
 have g5:W.cell? ⟨b,5,none⟩=some (.map (some bu)):=(World.cell?_of_block (w:=w) (e3 b hb)).trans h5
 have q2:W.frozen? ⟨b,2,none⟩=false:=(World.frozen?_of_block (w:=w) (e3 b hb)).trans f2
 have q3:W.frozen? ⟨b,3,none⟩=false:=(World.frozen?_of_block (w:=w) (e3 b hb)).trans f3
 have HW:=Lib.hid hW
 have HE:=Lib.hid e3
 have HE2:=Lib.hid e2
 have hsz:=Lib.hid e1
 generalize hK:w.heap.size=K at*
 have k0:W.cell? ⟨K,0,none⟩=some (.int .i64 v):=by rw [cell_of_row W K 0 _ _ _ e2];rfl
 have k1:W.cell? ⟨K,1,none⟩=some (.int .i64 lo):=by rw [cell_of_row W K 1 _ _ _ e2];rfl
 have k2:W.cell? ⟨K,2,none⟩=some (.int .i64 hi):=by rw [cell_of_row W K 2 _ _ _ e2];rfl
 have HK:=Lib.hid hK
 clear hW e1 e2 e3 h2 h3 h4 h5 f2 f3 E1 hK
 have hown:Hid (W.ownsRow 0 145 3 (.slice (some ⟨bn,0,none⟩) len cn) len xs):=Lib.hid (hN.out.kept (row:=none) ⟨by rw [←HW.out];rfl,by rw [←HW.out];rfl,by rw [←HW.out];rfl,by rw [hsz.out,HK.out];omega,fun k hk _=>HE.out k (by rw [←HK.out];exact hk)⟩ (.inr (by simp [Value.ownBlock])))
 have hbn:bn<K:=by have:=(hN.out.lt bn rfl).2;rw [HK.out] at this;exact this
 have hWs:K<W.heap.size:=by rw [hsz.out];omega
 have hkp:Hid (∀o:Obj,(W.alloc o).drew.cell? ⟨b,2,none⟩=some (.slice (some ⟨bn,0,none⟩) len cn)∧(W.alloc o).drew.frozen? ⟨b,2,none⟩=false∧(W.alloc o).drew.cell? ⟨K,0,none⟩=some (.int .i64 v)∧(W.alloc o).drew.cell? ⟨K,1,none⟩=some (.int .i64 lo)∧(W.alloc o).drew.cell? ⟨K,2,none⟩=some (.int .i64 hi)):=by
  intro o
  have hb':(W.alloc o).drew.heap[b]? =W.heap[b]? :=alloc_old (by rw [hsz.out];omega)
  have hk':(W.alloc o).drew.heap[K]? =W.heap[K]? :=alloc_old (by rw [hsz.out];omega)
  exact ⟨(World.cell?_of_block hb').trans g2,(World.frozen?_of_block hb').trans q2,(World.cell?_of_block hk').trans k0,(World.cell?_of_block hk').trans k1,(World.cell?_of_block hk').trans k2⟩
 have hbne:Hid (some b≠(Value.slice (some ⟨bn,0,none⟩) len cn).ownBlock):=fun h=>d1 (Option.some.inj h)
 have hlt2:Hid (∀o:Obj,b< (W.alloc o).heap.size):=fun o=>by show b< (W.heap.push o).size;rw [Array.size_push,hsz.out];omega
 have hal: ∀o:Obj,(W.alloc o).cell? ⟨b,2,none⟩=some (.slice (some ⟨bn,0,none⟩) len cn):=fun o=>(hkp.out o).1
 go_wp2
 go_region_law ((refine zJW (by rfl) _ _ _ (by rfl) 0 145 i0 _ 3 24 Tryz.underlying93 HI.out HZ.out.1 HZ.out.2.1 HZ.out.2.2 rfl (by omega) _ len xs (by rfl) (by exact hown.out.alloc _) ⟨W.heap.size,0,none⟩ 1 1 [.int .i64 v, .int .i64 lo, .int .i64 hi] (by rfl) (by rfl) (World.news_of_block (cs:= #[.int .i64 v, .int .i64 lo, .int .i64 hi]) (t:=145) (fr:=(0,0)) (heap_alloc_new W _)) (by simp [Value.oneCell']) (by omega) (by have:=hlen.out;unfold maxLen;omega) hlen.out (by simp) (W.heap.size+1) (by simp) ?_;intro gg cap w1 hown1 hgrow hat hlt;have HD1:=Lib.hid hgrow.2;have hgrow:=hgrow.1;have hown1:=Lib.hid hown1;have HG:Hid (World.grownBy _ w1 (some bn)):=hgrow;have HA:Hid (some bn=some gg∨gg=W.heap.size+1):=hat;clear hat;have c2:=(hgrow.cell_far ⟨b,2,none⟩ (hlt2.out _) hbne.out).trans (hkp.out _).1;have z2:=(hgrow.frozen_far ⟨b,2,none⟩ (hlt2.out _) hbne.out).trans (hkp.out _).2.1;clear hgrow))
 all_goals
  clear hal k0 k1 k2 g2 q2
  have hs1:Hid (∀i,i<K→i≠bn→w1.heap[i]? =W.heap[i]?):=fun i hi hne=>(HG.out.block i (by show i< (W.heap.push _).size;rw [Array.size_push,hsz.out];omega) (fun h=>hne (Option.some.inj h))).trans (alloc_old (by rw [hsz.out];omega))
  have hsK:Hid (w1.heap[K]? =W.heap[K]?):=(HG.out.block K (by show K< (W.heap.push _).size;rw [Array.size_push,hsz.out];omega) (fun h=>by have:=Option.some.inj h;omega)).trans (alloc_old (by rw [hsz.out];omega))
  have hw1:Hid (W.heap.size+1≤w1.heap.size):=by have:=HG.out.size;rwa [show ((W.alloc (.cells #[.int .i64 v, .int .i64 lo, .int .i64 hi] 145)).drew).heap.size=W.heap.size+1 from by show (W.heap.push _).size=_;simp] at this
  have c3:w1.cell? ⟨b,3,none⟩=some (.slice (some ⟨bs,0,none⟩) len cs):=(World.cell?_of_block (hs1.out b hb d1)).trans g3
  have z3:w1.frozen? ⟨b,3,none⟩=false:=(World.frozen?_of_block (hs1.out b hb d1)).trans q3
  have c5:w1.cell? ⟨b,5,none⟩=some (.map (some bu)):=(World.cell?_of_block (hs1.out b hb d1)).trans g5
  have k0:w1.cell? ⟨K,0,none⟩=some (.int .i64 v):=by rw [cell_of_row w1 K 0 _ _ _ (hsK.out.trans HE2.out)];rfl
  have k1:w1.cell? ⟨K,1,none⟩=some (.int .i64 lo):=by rw [cell_of_row w1 K 1 _ _ _ (hsK.out.trans HE2.out)];rfl
  have k2:w1.cell? ⟨K,2,none⟩=some (.int .i64 hi):=by rw [cell_of_row w1 K 2 _ _ _ (hsK.out.trans HE2.out)];rfl
  clear g3 q3 g4 g5
  have hS1:Hid (∀o,((w1.setCell ⟨b,2,none⟩ (.slice (some ⟨gg,0,none⟩) (len+1) cap)).alloc o).ownsRow 0 4 1 (.slice (some ⟨bs,0,none⟩) len cs) len ys):=fun o=>
   (zV hS.out (fun g hg=>by
    have:bs=g:=Option.some.inj hg
    subst this
    have hbs:bs<K:=by have:=(hS.out.lt bs rfl).2;rw [HK.out] at this;exact this
    rw [jN d2,hs1.out bs hbs (fun h=>d3 h.symm),HE.out bs hbs])).alloc o
  have hbK:Hid (b<w1.heap.size):=by have:=hw1.out;show b<_;omega
  have hX:Hid (∀o i,i<w1.heap.size→i≠b→((w1.setCell ⟨b,2,none⟩ (.slice (some ⟨gg,0,none⟩) (len+1) cap)).alloc o).heap[i]? =w1.heap[i]?):=fun o i hi hne=>(alloc_old (w:=w1.setCell _ _) (by rw [zU];exact hi)).trans (jN (fun h=>hne h.symm))
  have hXs:Hid (∀o,((w1.setCell ⟨b,2,none⟩ (.slice (some ⟨gg,0,none⟩) (len+1) cap)).alloc o).heap.size=w1.heap.size+1):=fun o=>by show (Array.push _ o).size=_;rw [Array.size_push,zU]
  have hXb:Hid (∀o,((w1.setCell ⟨b,2,none⟩ (.slice (some ⟨gg,0,none⟩) (len+1) cap)).alloc o).heap[b]? =(w1.setCell ⟨b,2,none⟩ (.slice (some ⟨gg,0,none⟩) (len+1) cap)).heap[b]?):=fun o=>alloc_old (w:=w1.setCell _ _) (by rw [zU];exact hbK.out)
  have hXc:Hid (∀o,((w1.setCell ⟨b,2,none⟩ (.slice (some ⟨gg,0,none⟩) (len+1) cap)).alloc o).cell? ⟨b,3,none⟩=some (.slice (some ⟨bs,0,none⟩) len cs)∧((w1.setCell ⟨b,2,none⟩ (.slice (some ⟨gg,0,none⟩) (len+1) cap)).alloc o).frozen? ⟨b,3,none⟩=false∧b< ((w1.setCell ⟨b,2,none⟩ (.slice (some ⟨gg,0,none⟩) (len+1) cap)).alloc o).heap.size):=fun o=>
   ⟨(World.cell?_of_block (a:=⟨b,3,none⟩) (hXb.out o)).trans ((World.cell?_setCell_other _ _ _ _ (by simp)).trans c3),(World.frozen?_of_block (a:=⟨b,3,none⟩) (hXb.out o)).trans (by rw [World.frozen?_setCell];exact z3),by rw [hXs.out];have:=hbK.out;omega⟩
  have hbs2:Hid (some b≠(Value.slice (some ⟨bs,0,none⟩) len cs).ownBlock):=fun h=>d2 (Option.some.inj h)
  go_wp2_with (at_builtin;refine zAE (by rfl) _ _ _ (by rfl) 0 4 i4 (.bool false) 1 1 Tryz.underlying94 HI4.out HZ4.out.1 HZ4.out.2.1 HZ4.out.2.2 rfl (by decide) _ len ys (by rfl) (hS1.out _) ⟨w1.heap.size,0,none⟩ 1 1 [.bool false] (by rfl) (by rfl) (World.news_of_block (cs:= #[.bool false]) (t:=4) (fr:=(0,0)) (by rw [←zU (w:=w1) (a:=⟨b,2,none⟩) (v:= .slice (some ⟨gg,0,none⟩) (len+1) cap)];exact heap_alloc_new _ _)) (by simp [Value.oneCell']) (by decide) (by have:=hlen.out;unfold maxLen;omega) (by have:=hlen.out;omega) (Nat.zero_le _) (w1.heap.size+1) (by simp [zU]) ?_;intro g2 c2' w2 hown2 hgrow2 hat2 hlt2';have HD2:=Lib.hid hgrow2.2;have hgrow2:=hgrow2.1;have hown2:=Lib.hid hown2;have HG2:Hid (World.grownBy _ w2 (some bs)):=hgrow2;have HA2:Hid (some bs=some g2∨g2=w1.heap.size+1):=hat2;clear hat2;have e3:w2.cell? ⟨b,3,none⟩=some (.slice (some ⟨bs,0,none⟩) len cs):=(hgrow2.cell_far ⟨b,3,none⟩ (hXc.out _).2.2 hbs2.out).trans (hXc.out _).1;have y3:w2.frozen? ⟨b,3,none⟩=false:=(hgrow2.frozen_far ⟨b,3,none⟩ (hXc.out _).2.2 hbs2.out).trans (hXc.out _).2.1;clear hgrow2)
  have hY:Hid (∀i,i<w1.heap.size→i≠b→i≠bs→w2.heap[i]? =w1.heap[i]?):=fun i hi h1 h2=>(HG2.out.block i (by rw [hXs.out];omega) (fun h=>h2 (Option.some.inj h))).trans (hX.out _ i hi h1)
  have hYb:Hid (w2.heap[b]? =(w1.setCell ⟨b,2,none⟩ (.slice (some ⟨gg,0,none⟩) (len+1) cap)).heap[b]?):=(HG2.out.block b (by rw [hXs.out];have:=hbK.out;omega) (fun h=>d2 (Option.some.inj h))).trans (hXb.out _)
  have hKb:K≠b:=by omega
  have hKs:Hid (K<w1.heap.size):=by have:=hw1.out;show K<_;omega
  have hsK2:Hid (K≠bs):=fun h=>by have:=(hS.out.lt bs rfl).2;rw [HK.out] at this;omega
  have m5:w2.cell? ⟨b,5,none⟩=some (.map (some bu)):=(World.cell?_of_block (a:=⟨b,5,none⟩) hYb.out).trans ((World.cell?_setCell_other _ _ _ _ (by simp)).trans c5)
  have j0:w2.cell? ⟨K,0,none⟩=some (.int .i64 v):=(World.cell?_of_block (a:=⟨K,0,none⟩) (hY.out K hKs.out hKb hsK2.out)).trans k0
  have j1:w2.cell? ⟨K,1,none⟩=some (.int .i64 lo):=(World.cell?_of_block (a:=⟨K,1,none⟩) (hY.out K hKs.out hKb hsK2.out)).trans k1
  have j2:w2.cell? ⟨K,2,none⟩=some (.int .i64 hi):=(World.cell?_of_block (a:=⟨K,2,none⟩) (hY.out K hKs.out hKb hsK2.out)).trans k2
  clear k0 k1 k2 c5 c3 z3 c2 z2
  trace "AT15"
  have hl3:Hid (∀W':World,W'.heap=(w2.setCell ⟨b,3,none⟩ (.slice (some ⟨g2,0,none⟩) (len+1) c2')).heap→Sem.run Tryz.prog (Instr.mapUpdate 96 (.map (some bu)) (.agg #[.int .i64 v, .int .i64 lo, .int .i64 hi]) (.int .i64 len)) W'= .ok () (Go.Ve.setBlk W' bu (.map (wA 0 (put (v,lo,hi) len l)).toArray (put (v,lo,hi) len l).length))):=fun W' h=>by
   refine zTP.update (v,lo,hi) len (w:=W') (b:=bu) (l:=l) ?_
   rw [h]
   refine (jN (fun h=>d4 h.symm)).trans ?_
   refine (hY.out bu (by have:=hu.out;have:=hw1.out;omega) d4 d6).trans ?_
   refine (hs1.out bu hu.out d5).trans ?_
   exact (HE.out bu hu.out).trans hm.out
  generalize hW3:w2.setCell ⟨b,3,none⟩ (.slice (some ⟨g2,0,none⟩) (len+1) c2')=W3
  have p5:W3.cell? ⟨b,5,none⟩=some (.map (some bu)):=by rw [←hW3,World.cell?_setCell_other _ _ _ _ (by simp)];exact m5
  have p0:W3.cell? ⟨K,0,none⟩=some (.int .i64 v):=by rw [←hW3,World.cell?_setCell_other _ _ _ _ (by simp [hKb])];exact j0
  have p1:W3.cell? ⟨K,1,none⟩=some (.int .i64 lo):=by rw [←hW3,World.cell?_setCell_other _ _ _ _ (by simp [hKb])];exact j1
  have p2:W3.cell? ⟨K,2,none⟩=some (.int .i64 hi):=by rw [←hW3,World.cell?_setCell_other _ _ _ _ (by simp [hKb])];exact j2
  rw [hW3] at hl3
  have hW3:=Lib.hid hW3
  clear j0 j1 j2 m5 e3 y3
  have hmu:Sem.run Tryz.prog (Instr.mapUpdate 96 (.map (some bu)) (.agg #[.int .i64 v, .int .i64 lo, .int .i64 hi]) (.int .i64 len)) W3.drew= .ok () (Go.Ve.setBlk W3.drew bu (.map (wA 0 (put (v,lo,hi) len l)).toArray (put (v,lo,hi) len l).length)):=hl3.out W3.drew rfl
  go_wp2
  go_region
  all_goals
   go_wp2
   go_ret
   have n1:=hw1.out
   have n2:=hsz.out
   have n3:=hu.out
   have n4:=HK.out
   have n5:bs<K:=by have:=(hS.out.lt bs rfl).2;rw [HK.out] at this;exact this
   have n6:w1.heap.size+1≤w2.heap.size:=by have:=HG2.out.size;rw [hXs.out] at this;exact this
   have n7:W3.heap.size=w2.heap.size:=by rw [←hW3.out,zU]
   have a1:gg=bn∨gg=K+2:=HA.out.imp (fun h=>(Option.some.inj h).symm) (fun h=>by omega)
   have a2:g2=bs∨g2=w1.heap.size+1:=HA2.out.imp (fun h=>(Option.some.inj h).symm) id
   have far3: ∀i,i≠b→W3.heap[i]? =w2.heap[i]? :=fun i hi=>by rw [←hW3.out];exact jN (fun h=>hi h.symm)
   have fin: ∀ (o:Obj) i,i≠bu→(Go.Ve.setBlk W3.drew bu o).heap[i]? =W3.heap[i]? :=fun o i hi=>xF (w:=W3.drew) hi
   refine ⟨rfl,gg,cap,g2,c2',?_,?_,?_,?_,?_,?_,?_,?_,?_,?_,?_,?_,?_⟩
   ·refine zV hown1.out (fun g hg=> ?_)
    have:gg=g:=Option.some.inj hg
    subst this
    rw [fin _ gg (by omega),far3 gg (by omega)]
    exact hY.out gg hlt (by omega) (by omega)
   ·refine zV hown2.out (fun g hg=> ?_)
    have:g2=g:=Option.some.inj hg
    subst this
    rw [fin _ g2 (by omega),far3 g2 (by omega)]
   ·exact zDS (w:=W3.drew) (by show bu<W3.heap.size;omega)
   ·intro C T hC
    rw [fin _ b (by omega), ←hW3.out]
    refine vE ?_
    rw [hYb.out]
    refine vE ?_
    rw [hs1.out b hb d1,HE.out b hb]
    exact hC
   ·omega
   ·omega
   ·omega
   ·show w.heap.size≤(W3.heap.setIfInBounds bu _).size
    rw [Array.size_setIfInBounds];omega
   ·intro i hi x1 x2 x3 x4
    rw [HK.out] at hi
    rw [fin _ i x4,far3 i x1,hY.out i (by omega) x1 x3,hs1.out i hi x2,HE.out i hi]
   ·show W3.os=w.os
    rw [←hW3.out]
    show w2.os=w.os
    rw [HG2.out.os]
    show w1.os=w.os
    rw [HG.out.os]
    show W.os=w.os
    rw [←HW.out];rfl
   ·show W3.tape=w.tape
    rw [←hW3.out]
    show w2.tape=w.tape
    rw [HG2.out.tape]
    show w1.tape=w.tape
    rw [HG.out.tape]
    show W.tape=w.tape
    rw [←HW.out];rfl
   ·show W3.output=w.output
    rw [←hW3.out]
    show w2.output=w.output
    rw [HG2.out.output]
    show w1.output=w.output
    rw [HG.out.output]
    show W.output=w.output
    rw [←HW.out];rfl
   ·show w.drawn≤W3.drawn+1
    have q1:w.drawn≤W.drawn:=by rw [←HW.out];show w.drawn≤w.drawn+nq;omega
    have q2:W.drawn+1≤w1.drawn:=HD1.out
    have q3:w1.drawn≤w2.drawn:=HD2.out
    have q4:W3.drawn=w2.drawn:=by rw [←hW3.out];rfl
    omega
end Go.Proofs.Bw

namespace Go.Proofs.Bw
open Go Go.Proofs Go.RowKit Go.Bd
def zDq:Nat→List Nd→List (Key×Nat)
 |_,[]=>[]
 |k,x::l=>(x,k)::zDq (k+1) l
theorem zEr (x:Nd): ∀ (l:List Nd) (k:Nat),Bd.look x (zDq k l)=fnd x l k
 |[],_=>rfl
 |y::l,k=>by
  simp only [zDq,Bd.look,fnd]
  split
  ·rfl
  ·exact zEr x l (k+1)
theorem zKg (x:Nd): ∀ (l:List Nd) (k:Nat),zDq k (l++[x])=zDq k l++[(x,k+l.length)]
 |[],_=>rfl
 |y::l,k=>by
  simp only [List.cons_append,zDq,zKg x l (k+1),List.length_cons]
  rw [show k+1+l.length=k+(l.length+1) by omega]
def zHR (x:Nd):List Value:=[.int .i64 x.1, .int .i64 x.2.1, .int .i64 x.2.2]
def zGw (ns:List Nd):List Value:=[.int .i64 (-1), .int .i64 0, .int .i64 0, .int .i64 (-1), .int .i64 0, .int .i64 0]++ns.flatMap zHR
theorem flat_get: ∀ (ns:List Nd) (i j:Nat) (x:Nd),ns[i]? =some x→j<3→(ns.flatMap zHR)[i*3+j]? =(zHR x)[j]?
 |[],i,j,x,h,_=>by simp at h
 |y::l,0,j,x,h,hj=>by
  simp only [List.getElem?_cons_zero,Option.some.injEq] at h
  subst h
  rw [List.flatMap_cons,Nat.zero_mul,Nat.zero_add,List.getElem?_append_left (by simpa [zHR] using hj)]
 |y::l,i+1,j,x,h,hj=>by
  simp only [List.getElem?_cons_succ] at h
  rw [List.flatMap_cons,List.getElem?_append_right (by simp [zHR];omega)]
  have:=flat_get l i j x h hj
  rw [←this]
  congr 1
  simp [zHR];omega
theorem zHo {ns:List Nd} {i j:Nat} {x:Nd} (h:ns[i]? =some x) (hj:j<3):(zGw ns)[(i+2)*3+j]? =(zHR x)[j]? :=by
 rw [zGw,List.getElem?_append_right (by simp;omega), ←flat_get ns i j x h hj]
 congr 1
 simp;omega
theorem zNM (ns:List Nd) (x:Nd):zGw (ns++[x])=zGw ns++zHR x:=by
 simp [zGw]
structure Lo where
 (b bo bl bn bs bu bm bc co cl cn cs:Nat)
structure zY (w:World) (n:Nat) (S:St) (sh:List Bool) (L:Lo):Prop where
 mb:w.heap[L.b]? =some (.cells #[.slice (some ⟨L.bo,0,none⟩) n L.co, .slice (some ⟨L.bl,0,none⟩) n L.cl, .slice (some ⟨L.bn,0,none⟩) (S.ns.length+2) L.cn, .slice (some ⟨L.bs,0,none⟩) (S.ns.length+2) L.cs,
  .slice none 0 0, .map (some L.bu), .map (some L.bm), .map (some L.bc)] 100 (0,0))
 ord: ∀v,v<n→w.cell? ⟨L.bo,v,none⟩=some (.int .i64 v)
 lev: ∀v,v<n→w.cell? ⟨L.bl,v,none⟩=some (.int .i64 v)
 rn:w.ownsRow 0 145 3 (.slice (some ⟨L.bn,0,none⟩) (S.ns.length+2) L.cn) (S.ns.length+2) (zGw S.ns)
 rs:w.ownsRow 0 4 1 (.slice (some ⟨L.bs,0,none⟩) (S.ns.length+2) L.cs) (S.ns.length+2) (sh.map .bool)
 mu:w.heap[L.bu]? =some (.map (wA 0 (zDq 2 S.ns)).toArray (zDq 2 S.ns).length)
 mm:w.heap[L.bm]? =some (.map (wA 0 S.mm).toArray S.mm.length)
 lt:L.bo<w.heap.size∧L.bl<w.heap.size
 d:L.b≠L.bo∧L.b≠L.bl∧L.b≠L.bn∧L.b≠L.bs∧L.b≠L.bu∧L.b≠L.bm∧L.bo≠L.bn∧L.bo≠L.bs∧L.bo≠L.bu∧L.bo≠L.bm∧L.bl≠L.bn∧L.bl≠L.bs∧L.bl≠L.bu∧L.bl≠L.bm∧
  L.bn≠L.bs∧L.bn≠L.bu∧L.bn≠L.bm∧L.bs≠L.bu∧L.bs≠L.bm∧L.bu≠L.bm
structure Chg (w w':World) (L L':Lo):Prop where
 same:L'.b=L.b∧L'.bo=L.bo∧L'.bl=L.bl∧L'.bu=L.bu∧L'.bc=L.bc
 new:(L'.bn=L.bn∨w.heap.size≤L'.bn)∧(L'.bs=L.bs∨w.heap.size≤L'.bs)∧(L'.bm=L.bm∨w.heap.size≤L'.bm)
 size:w.heap.size≤w'.heap.size
 rest: ∀i,i<w.heap.size→i≠L.b→i≠L.bn→i≠L.bs→i≠L.bu→i≠L.bm→w'.heap[i]? =w.heap[i]?
 os:w'.os=w.os
 tape:w'.tape=w.tape
 output:w'.output=w.output
 drawn:w.drawn≤w'.drawn
variable {w w' w'':World} {n m:Nat} {S:St} {sh:List Bool} {L L' L'':Lo}
theorem Chg.trans (h:Chg w w' L L') (k:Chg w' w'' L' L''):Chg w w'' L L'':=by
 obtain ⟨a1,a2,a3,a4,a5⟩:=h.same
 obtain ⟨b1,b2,b3,b4,b5⟩:=k.same
 obtain ⟨n1,n2,n3⟩:=h.new
 obtain ⟨m1,m2,m3⟩:=k.new
 have s1:=h.size
 refine ⟨⟨b1.trans a1,b2.trans a2,b3.trans a3,b4.trans a4,b5.trans a5⟩,⟨by omega,by omega,by omega⟩,Nat.le_trans s1 k.size,fun i hi c1 c2 c3 c4 c5=> ?_,k.os.trans h.os,k.tape.trans h.tape,k.output.trans h.output,Nat.le_trans h.drawn k.drawn⟩
 rw [k.rest i (by omega) (by omega) (by omega) (by omega) (by omega) (by omega),h.rest i hi c1 c2 c3 c4 c5]
theorem zRj {x g b N:Nat} (hx:x<N) (h:g=b∨N≤g) (hd:x≠b):x≠g:=by
 rcases h with rfl|h
 ·exact hd
 ·exact Nat.ne_of_lt (Nat.lt_of_lt_of_le hx h)
theorem zIs {w:World} {i:Nat} {o:Obj} (h:w.heap[i]? =some o):i<w.heap.size:=(Array.getElem?_eq_some_iff.1 h).1
theorem zY.lts (M:zY w n S sh L):L.b<w.heap.size∧L.bn<w.heap.size∧L.bs<w.heap.size∧L.bu<w.heap.size∧L.bm<w.heap.size:=
 ⟨zIs M.mb,(M.rn.lt L.bn rfl).2,(M.rs.lt L.bs rfl).2,zIs M.mu,zIs M.mm⟩
theorem zY.keep (M:zY w n S sh L) (h: ∀i,i<w.heap.size→w'.heap[i]? =w.heap[i]?) (hs:w.heap.size≤w'.heap.size):zY w' n S sh L:=by
 obtain ⟨l1,l2,l3,l4,l5⟩:=M.lts
 refine ⟨(h _ l1).trans M.mb,fun v hv=>(World.cell?_of_block (a:=⟨L.bo,v,none⟩) (h _ M.lt.1)).trans (M.ord v hv),fun v hv=>(World.cell?_of_block (a:=⟨L.bl,v,none⟩) (h _ M.lt.2)).trans (M.lev v hv),
  zV M.rn (fun g hg=> ?_),zV M.rs (fun g hg=> ?_),(h _ l4).trans M.mu,(h _ l5).trans M.mm,⟨by have:=M.lt.1;omega,by have:=M.lt.2;omega⟩,M.d⟩
 ·have:L.bn=g:=Option.some.inj hg
  subst this;exact h _ l2
 ·have:L.bs=g:=Option.some.inj hg
  subst this;exact h _ l3
theorem Chg.quiet (h: ∀i,i<w.heap.size→w'.heap[i]? =w.heap[i]?) (hs:w.heap.size≤w'.heap.size) (h1:w'.os=w.os) (h2:w'.tape=w.tape) (h3:w'.output=w.output) (h4:w.drawn≤w'.drawn):Chg w w' L L:=
 ⟨⟨rfl,rfl,rfl,rfl,rfl⟩,⟨.inl rfl, .inl rfl, .inl rfl⟩,hs,fun i hi _ _ _ _ _=>h i hi,h1,h2,h3,h4⟩
theorem Chg.refl:Chg w w L L:= .quiet (fun _ _=>rfl) (Nat.le_refl _) rfl rfl rfl (Nat.le_refl _)
theorem zY.cell (M:zY w n S sh L) (o:Nat) (v:Value) (h:(#[.slice (some ⟨L.bo,0,none⟩) n L.co, .slice (some ⟨L.bl,0,none⟩) n L.cl, .slice (some ⟨L.bn,0,none⟩) (S.ns.length+2) L.cn, .slice (some ⟨L.bs,0,none⟩) (S.ns.length+2) L.cs,
  .slice none 0 0, .map (some L.bu), .map (some L.bm), .map (some L.bc)]:Array Value)[o]? =some v):w.cell? ⟨L.b,o,none⟩=some v:=by
 rw [cell_of_row w L.b o _ _ _ M.mb];exact h
theorem zY.free (M:zY w n S sh L) (o:Nat):w.frozen? ⟨L.b,o,none⟩=false:=by
 simp only [World.frozen?,M.mb]
 simp
theorem zY.node (M:zY w n S sh L) {i:Nat} {x:Nd} (h:S.ns[i]? =some x):w.cell? ⟨L.bn,(i+2)*3,none⟩=some (.int .i64 x.1)∧w.cell? ⟨L.bn,(i+2)*3+1,none⟩=some (.int .i64 x.2.1)∧w.cell? ⟨L.bn,(i+2)*3+2,none⟩=some (.int .i64 x.2.2):=by
 have c: ∀j u,(zGw S.ns)[j]? =some u→w.cell? ⟨L.bn,j,none⟩=some u:=fun j u hu=>by
  have:=M.rn.cells (g:=L.bn) rfl j u hu
  rwa [Addr.add_lit,Nat.zero_add] at this
 have g0:=zHo h (j:=0) (by omega)
 have g1:=zHo h (j:=1) (by omega)
 have g2:=zHo h (j:=2) (by omega)
 exact ⟨c _ _ g0,c _ _ g1,c _ _ g2⟩
theorem zY.low (M:zY w n S sh L) {f:Nat} (h:f<2):w.cell? ⟨L.bn,f*3,none⟩=some (.int .i64 (-1))∧w.cell? ⟨L.bn,f*3+1,none⟩=some (.int .i64 0)∧w.cell? ⟨L.bn,f*3+2,none⟩=some (.int .i64 0):=by
 have c: ∀j u,(zGw S.ns)[j]? =some u→w.cell? ⟨L.bn,j,none⟩=some u:=fun j u hu=>by
  have:=M.rn.cells (g:=L.bn) rfl j u hu
  rwa [Addr.add_lit,Nat.zero_add] at this
 have:f=0∨f=1:=by omega
 rcases this with rfl|rfl
 ·exact ⟨c _ _ rfl,c _ _ rfl,c _ _ rfl⟩
 ·exact ⟨c _ _ rfl,c _ _ rfl,c _ _ rfl⟩
def grow (sh:List Bool) (m:Nat):List Bool:=sh++List.replicate (m+2-sh.length) false
theorem zY.shl (M:zY w n S sh L):sh.length=S.ns.length+2:=by
 have:=M.rs.1
 simpa using this
theorem zEI (h:sh.length=m+2):grow sh m=sh:=by simp [grow,h]
theorem zRr (h:sh.length=m+2):grow sh (m+1)=sh++[false]:=by
 rw [grow,h,show m+1+2- (m+2)=1 by omega];rfl
theorem zY.c0 (M:zY w n S sh L):w.cell? ⟨L.b,0,none⟩=some (.slice (some ⟨L.bo,0,none⟩) n L.co):=M.cell 0 _ rfl
theorem zY.c1 (M:zY w n S sh L):w.cell? ⟨L.b,1,none⟩=some (.slice (some ⟨L.bl,0,none⟩) n L.cl):=M.cell 1 _ rfl
theorem zY.c2 (M:zY w n S sh L):w.cell? ⟨L.b,2,none⟩=some (.slice (some ⟨L.bn,0,none⟩) (S.ns.length+2) L.cn):=M.cell 2 _ rfl
theorem zY.c3 (M:zY w n S sh L):w.cell? ⟨L.b,3,none⟩=some (.slice (some ⟨L.bs,0,none⟩) (S.ns.length+2) L.cs):=M.cell 3 _ rfl
theorem zY.c4 (M:zY w n S sh L):w.cell? ⟨L.b,4,none⟩=some (.slice none 0 0):=M.cell 4 _ rfl
theorem zY.c5 (M:zY w n S sh L):w.cell? ⟨L.b,5,none⟩=some (.map (some L.bu)):=M.cell 5 _ rfl
theorem zY.c6 (M:zY w n S sh L):w.cell? ⟨L.b,6,none⟩=some (.map (some L.bm)):=M.cell 6 _ rfl
set_option maxHeartbeats 400000 in
theorem zOS (M:zY w n S sh L) {v lo hi:Nat} (hsz:((mk S.ns v lo hi).2.length+2)*24≤140737488355328):
  Calls Tryz.prog 98 #[.pointer (some ⟨L.b,0,none⟩), .int .i64 v, .int .i64 lo, .int .i64 hi] w fun e w'=>e= .returned (.int .i64 (mk S.ns v lo hi).1)∧ ∃L',zY w' n ⟨(mk S.ns v lo hi).2,S.mm⟩ (grow sh (mk S.ns v lo hi).2.length) L'∧Chg w w' L L':=by
 obtain ⟨l1,l2,l3,l4,l5⟩:=M.lts
 obtain ⟨x1,x2,x3,x4,x5,x6,x7,x8,x9,x10,x11,x12,x13,x14,x15,x16,x17,x18,x19,x20⟩:=M.d
 have hl:=M.lt
 have hshl:=M.shl
 by_cases he:lo=hi
 ·subst he
  have hmk:mk S.ns v lo lo=(lo,S.ns):=by unfold mk;rw [if_pos rfl]
  rw [hmk]
  refine (zPC _ v lo w).mono ?_
  rintro e w' ⟨rfl,rfl⟩
  exact ⟨rfl,L,by simp only;rw [zEI hshl];exact M, .refl⟩
 ·have hne:((lo:Int)==hi)=false:=by simp;omega
  cases hf:fnd (v,lo,hi) S.ns 2 with
  |some r=>
   have hmk:mk S.ns v lo hi=(r,S.ns):=by unfold mk;rw [if_neg he,hf]
   rw [hmk]
   refine (zRe L.b L.bu _ v lo hi r (zDq 2 S.ns) w M.c5 l1 (Lib.hid l4) (Lib.hid M.mu) hne (Lib.hid (by rw [zEr];exact hf))).mono ?_
   rintro e w' ⟨rfl,q,rfl⟩
   have hold: ∀i,i<w.heap.size→((w.alloc (.cells #[.int .i64 v, .int .i64 lo, .int .i64 hi] 145)).drewN q).heap[i]? =w.heap[i]? :=fun i hi=>alloc_at hi
   have hs:w.heap.size≤((w.alloc (.cells #[.int .i64 v, .int .i64 lo, .int .i64 hi] 145)).drewN q).heap.size:=by show _≤(w.heap.push _).size;simp
   refine ⟨rfl,L,?_, .quiet hold hs rfl rfl rfl (by show w.drawn≤w.drawn+q;omega)⟩
   simp only
   rw [zEI hshl]
   exact M.keep hold hs
  |none=>
   have hmk:mk S.ns v lo hi=(S.ns.length+2,S.ns++[(v,lo,hi)]):=by unfold mk;rw [if_neg he,hf]
   rw [hmk] at hsz ⊢
   have hsz':(S.ns.length+2+1)*24≤140737488355328:=by
    have h1:(S.ns++[(v,lo,hi)]).length=S.ns.length+1:=by simp
    rw [h1] at hsz
    rwa [show S.ns.length+2+1=S.ns.length+1+2 by omega]
   clear hsz
   refine (zRf L.b L.bn L.bs L.bu v lo hi (S.ns.length+2) L.cn L.cs (zGw S.ns) (sh.map .bool) (zDq 2 S.ns) w M.c2 M.c3 M.c4 M.c5 (M.free 2) (M.free 3) l1 (Lib.hid l4) (Lib.hid M.mu)
    (Lib.hid M.rn) (Lib.hid M.rs) x3 x4 x15 x5.symm x16.symm x18.symm (Lib.hid hsz') hne (Lib.hid (by rw [zEr];exact hf))).mono ?_
   rintro e w' ⟨rfl,g1,c1,g2,c2,r1,r2,r3,r4,r5,r6,r7,r8,r9,r10,r11,r12,r13⟩
   have y1: ∀x,x<w.heap.size→x≠L.bn→x≠g1:=fun x hx=>zRj hx r5
   have y2: ∀x,x<w.heap.size→x≠L.bs→x≠g2:=fun x hx=>zRj hx r6
   have hdd:L.b≠L.bo∧L.b≠L.bl∧L.b≠g1∧L.b≠g2∧L.b≠L.bu∧L.b≠L.bm∧L.bo≠g1∧L.bo≠g2∧L.bo≠L.bu∧L.bo≠L.bm∧L.bl≠g1∧L.bl≠g2∧L.bl≠L.bu∧L.bl≠L.bm∧
     g1≠g2∧g1≠L.bu∧g1≠L.bm∧g2≠L.bu∧g2≠L.bm∧L.bu≠L.bm:=
    ⟨x1,x2,y1 _ l1 x3,y2 _ l1 x4,x5,x6,y1 _ hl.1 x7,y2 _ hl.1 x8,x9,x10,y1 _ hl.2 x11,y2 _ hl.2 x12,x13,x14,
     r7,(y1 _ l4 x16.symm).symm,(y1 _ l5 x17.symm).symm,(y2 _ l4 x18.symm).symm,(y2 _ l5 x19.symm).symm,x20⟩
   have hll:L.bo<w'.heap.size∧L.bl<w'.heap.size:=⟨Nat.lt_of_lt_of_le hl.1 r8,Nat.lt_of_lt_of_le hl.2 r8⟩
   have q1:=r9 _ hl.1 x1.symm x7 x8 x9
   have q2:=r9 _ hl.2 x2.symm x11 x12 x13
   have q3:=r9 _ l5 x6.symm x17.symm x19.symm x20.symm
   have hput:put (v,lo,hi) (S.ns.length+2) (zDq 2 S.ns)=zDq 2 (S.ns++[(v,lo,hi)]):=by
    rw [zLe (by rw [zEr];exact hf),zKg,Nat.add_comm 2]
   have hlen:(S.ns++[(v,lo,hi)]).length=S.ns.length+1:=by simp
   refine ⟨rfl,⟨L.b,L.bo,L.bl,g1,g2,L.bu,L.bm,L.bc,L.co,L.cl,c1,c2⟩,?_,⟨⟨rfl,rfl,rfl,rfl,rfl⟩,⟨r5,r6, .inl rfl⟩,r8,fun i hi c1 c2 c3 c4 c5=>r9 i hi c1 c2 c3 c4,r10,r11,r12,r13⟩⟩
   simp only
   rw [hlen,zRr hshl]
   refine ⟨?_,fun u hu=> ?_,fun u hu=> ?_,?_,?_,?_,?_,hll,hdd⟩
   ·rw [r4 _ _ M.mb]
    simp only [hlen]
    rfl
   ·exact (World.cell?_of_block (a:=⟨L.bo,u,none⟩) q1).trans (M.ord u hu)
   ·exact (World.cell?_of_block (a:=⟨L.bl,u,none⟩) q2).trans (M.lev u hu)
   ·simp only [hlen,zNM]
    exact r1
   ·simp only [hlen,List.map_append,List.map_cons,List.map_nil]
    exact r2
   ·simp only [←hput]
    exact r3
   ·exact q3.trans M.mm
end Go.Proofs.Bw

namespace Go.Proofs.Bw
open Go Go.Proofs Go.RowKit Go.Bd
set_option maxRecDepth 100000
theorem zL4 (b bn len cn f v:Nat) (vx vlo vhi:Int) (w:World) (h2:w.cell? ⟨b,2,none⟩=some (.slice (some ⟨bn,0,none⟩) len cn)) (hl:f<len)
  (hx:w.cell? ⟨bn,f*3,none⟩=some (.int .i64 vx)) (hlo:w.cell? ⟨bn,f*3+1,none⟩=some (.int .i64 vlo)) (hhi:w.cell? ⟨bn,f*3+2,none⟩=some (.int .i64 vhi)) (hv:(vx==(v:Int))=false):
  Calls Tryz.prog 97 #[.pointer (some ⟨b,0,none⟩), .int .i64 f, .int .i64 v] w fun e w'=>e= .returned (.tuple #[.int .i64 f, .int .i64 f])∧ ∃q,w'=(w.alloc (.cells #[.int .i64 vx, .int .i64 vlo, .int .i64 vhi] 145)).drewN q:=by
 go_enter Tryz.func97,Tryz.ntmps97
 go_wp2
 go_ret2
 exact ⟨rfl,0,rfl⟩
variable {w w':World} {n:Nat} {S:St} {sh:List Bool} {L L':Lo}
theorem zRR (M:zY w n S sh L) (W:Wf n S.ns) {f:Nat} (hf:f<S.ns.length+2):
  Calls Tryz.prog 96 #[.pointer (some ⟨L.b,0,none⟩), .int .i64 f] w fun e w'=>e= .returned (.int .i64 (lvl n S.ns f))∧ ∃q,w'=w.drewN q:=by
 rcases jH S.ns hf with h|⟨i,x,rfl,hx⟩
 ·rw [uH h]
  exact (zP6 L.b L.bo n L.co f w M.c0 h).mono fun e w' h=>⟨h.1,0,h.2.symm⟩
 ·rw [wI hx]
  exact zOi L.b L.bl n L.cl L.bn (S.ns.length+2) L.cn (i+2) x.1 w M.c1 M.c2 (by omega) hf (M.node hx).1 (W.v hx) (M.lev _ (W.v hx))
structure Old (w w':World):Prop where
 heap: ∀i,i<w.heap.size→w'.heap[i]? =w.heap[i]?
 size:w.heap.size≤w'.heap.size
 os:w'.os=w.os
 tape:w'.tape=w.tape
 output:w'.output=w.output
 drawn:w.drawn≤w'.drawn
theorem Old.chg (h:Old w w'):Chg w w' L L:= .quiet h.heap h.size h.os h.tape h.output h.drawn
theorem Old.alloc (o:Obj) (q:Nat):Old w ((w.alloc o).drewN q):=
 ⟨fun i hi=>alloc_at hi,by show _≤(w.heap.push _).size;simp,rfl,rfl,rfl,by show w.drawn≤w.drawn+q;omega⟩
theorem split_ok (M:zY w n S sh L) (f v:Nat) (hf:f<S.ns.length+2):
  Calls Tryz.prog 97 #[.pointer (some ⟨L.b,0,none⟩), .int .i64 f, .int .i64 v] w fun e w'=>e= .returned (.tuple #[.int .i64 (split S.ns f v).1, .int .i64 (split S.ns f v).2])∧Old w w':=by
 rcases jH S.ns hf with h|⟨i,x,rfl,hx⟩
 ·have hs:split S.ns f v=(f,f):=by simp [split,h]
  rw [hs]
  obtain ⟨c0,c1,c2⟩:=M.low h
  refine (zL4 L.b L.bn (S.ns.length+2) L.cn f v (-1) 0 0 w M.c2 hf c0 c1 c2 (by simp<;>omega)).mono ?_
  rintro e w' ⟨rfl,q,rfl⟩
  exact ⟨rfl,Old.alloc _ q⟩
 ·obtain ⟨c0,c1,c2⟩:=M.node hx
  have hs:split S.ns (i+2) v=if x.1=v then (x.2.1,x.2.2) else (i+2,i+2):=by
   rw [split,if_neg (by omega)]
   simp [show i+2-2=i by omega,hx]
  rw [hs]
  by_cases hv:x.1=v
  ·rw [if_pos hv]
   refine (zQG L.b L.bn (S.ns.length+2) L.cn (i+2) v 0 0 0 x.1 x.2.1 x.2.2 w M.c2 hf c0 c1 c2 (by rw [hv])).mono ?_
   rintro e w' ⟨rfl,q,rfl⟩
   exact ⟨rfl,Old.alloc _ q⟩
  ·rw [if_neg hv]
   refine (zL4 L.b L.bn (S.ns.length+2) L.cn (i+2) v x.1 x.2.1 x.2.2 w M.c2 hf c0 c1 c2 (by simp<;>omega)).mono ?_
   rintro e w' ⟨rfl,q,rfl⟩
   exact ⟨rfl,Old.alloc _ q⟩
theorem grow_grow {sh:List Bool} {a b:Nat} (h1:sh.length≤a+2) (h2:a≤b):grow (grow sh a) b=grow sh b:=by
 unfold grow
 rw [List.append_assoc,List.length_append,List.length_replicate,List.replicate_append_replicate]
 congr 2
 omega
theorem zY.memo (M:zY w n S sh L) (mm':List (Key×Nat)):zY (Go.Ve.setBlk w.drew L.bm (.map (wA 0 mm').toArray mm'.length)) n ⟨S.ns,mm'⟩ sh L:=by
 obtain ⟨l1,l2,l3,l4,l5⟩:=M.lts
 obtain ⟨x1,x2,x3,x4,x5,x6,x7,x8,x9,x10,x11,x12,x13,x14,x15,x16,x17,x18,x19,x20⟩:=M.d
 have far: ∀i,i≠L.bm→(Go.Ve.setBlk w.drew L.bm (.map (wA 0 mm').toArray mm'.length)).heap[i]? =w.heap[i]? :=fun i hi=>xF (w:=w.drew) hi
 have hs:(Go.Ve.setBlk w.drew L.bm (.map (wA 0 mm').toArray mm'.length)).heap.size=w.heap.size:=by
  show (w.heap.setIfInBounds _ _).size=_
  rw [Array.size_setIfInBounds]
 refine ⟨(far _ x6).trans M.mb,fun v hv=>(World.cell?_of_block (a:=⟨L.bo,v,none⟩) (far _ x10)).trans (M.ord v hv),fun v hv=>(World.cell?_of_block (a:=⟨L.bl,v,none⟩) (far _ x14)).trans (M.lev v hv),
  zV M.rn (fun g hg=> ?_),zV M.rs (fun g hg=> ?_),(far _ x20).trans M.mu,zDS (w:=w.drew) l5,by rw [hs];exact M.lt,M.d⟩
 ·have:L.bn=g:=Option.some.inj hg
  subst this;exact far _ x17
 ·have:L.bs=g:=Option.some.inj hg
  subst this;exact far _ x19
theorem Chg.memo (o:Obj):Chg w (Go.Ve.setBlk w.drew L.bm o) L L:=
 ⟨⟨rfl,rfl,rfl,rfl,rfl⟩,⟨.inl rfl, .inl rfl, .inl rfl⟩,by show _≤(w.heap.setIfInBounds _ _).size;rw [Array.size_setIfInBounds];exact Nat.le_refl _,fun i hi _ _ _ _ h=>xF (w:=w.drew) h,rfl,rfl,rfl,Nat.le_succ _⟩
theorem zY.fresh (M:zY w n S sh L):zY ((w.alloc (.map #[] 0)).setCell ⟨L.b,6,none⟩ (.map (some w.heap.size))) n ⟨S.ns,[]⟩ sh { L with bm:=w.heap.size } ∧
  Chg w ((w.alloc (.map #[] 0)).setCell ⟨L.b,6,none⟩ (.map (some w.heap.size))) L { L with bm:=w.heap.size } :=by
 obtain ⟨l1,l2,l3,l4,l5⟩:=M.lts
 obtain ⟨x1,x2,x3,x4,x5,x6,x7,x8,x9,x10,x11,x12,x13,x14,x15,x16,x17,x18,x19,x20⟩:=M.d
 have hl:=M.lt
 have far: ∀i,i<w.heap.size→i≠L.b→((w.alloc (.map #[] 0)).setCell ⟨L.b,6,none⟩ (.map (some w.heap.size))).heap[i]? =w.heap[i]? :=fun i hi hne=>(jN (fun h=>hne h.symm)).trans (alloc_old (w:=w) hi)
 have hs:((w.alloc (.map #[] 0)).setCell ⟨L.b,6,none⟩ (.map (some w.heap.size))).heap.size=w.heap.size+1:=by
  rw [zU]
  show (w.heap.push _).size=_
  simp
 refine ⟨⟨?_,fun v hv=>(World.cell?_of_block (a:=⟨L.bo,v,none⟩) (far _ hl.1 x1.symm)).trans (M.ord v hv),fun v hv=>(World.cell?_of_block (a:=⟨L.bl,v,none⟩) (far _ hl.2 x2.symm)).trans (M.lev v hv),
  zV M.rn (fun g hg=> ?_),zV M.rs (fun g hg=> ?_),(far _ l4 x5.symm).trans M.mu,?_,by rw [hs];exact ⟨Nat.lt_succ_of_lt hl.1,Nat.lt_succ_of_lt hl.2⟩,?_⟩,?_⟩
 ·have:=vE (w:=w.alloc (.map #[] 0)) (off:=6) (v:= .map (some w.heap.size)) ((alloc_old (w:=w) (o:= .map #[] 0) l1).trans M.mb)
  exact this
 ·have:L.bn=g:=Option.some.inj hg
  subst this;exact far _ l2 x3.symm
 ·have:L.bs=g:=Option.some.inj hg
  subst this;exact far _ l3 x4.symm
 ·refine (jN (Nat.ne_of_lt l1)).trans ?_
  show (w.heap.push _)[w.heap.size]? =_
  simp [wA]
 ·exact ⟨x1,x2,x3,x4,x5,Nat.ne_of_lt l1,x7,x8,x9,Nat.ne_of_lt hl.1,x11,x12,x13,Nat.ne_of_lt hl.2,x15,x16,Nat.ne_of_lt l2,x18,Nat.ne_of_lt l3,Nat.ne_of_lt l4⟩
 ·exact ⟨⟨rfl,rfl,rfl,rfl,rfl⟩,⟨.inl rfl, .inl rfl, .inr (Nat.le_refl _)⟩,by rw [hs];omega,fun i hi h1 _ _ _ _=>far i hi h1,rfl,rfl,rfl,Nat.le_refl _⟩
end Go.Proofs.Bw
