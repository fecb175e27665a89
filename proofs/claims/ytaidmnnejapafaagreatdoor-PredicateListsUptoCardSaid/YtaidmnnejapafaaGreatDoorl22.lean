/-
  law31: the package bdd, part H.
  law31: the package bdd, part I.
  law31: the package bdd, part J.
  law31: the package bdd, part K.
  law31: the package bdd, part L.
  law31: the package bdd, part M.
  law31: the package bdd, part N.
  law31: the package bdd, part O.
  law31: the package bdd, part Q.
  law31: the package bdd, part R.
  law31: the package bdd, part S.
  law31: the package bdd, part T.
  law31: the package bdd, part U.
  law31: the package bdd, part V.
  law31: the package bdd, part W.
  law31: the package bdd, part X.
  Functions out of code, over the state of one manager.
-/
import Derived.Laws.Cover1
import Derived.Carry
import Derived.Deep.DeepCutAuto
import Derived.Deep.CutBlock
import Derived.Test.YtaidmnnejapafaaGreatDoorl21
import Derived.Test.YtaidmnnejapafaaGreatDoorl1
import Derived.Test.YtaidmnnejapafaaGreatDoorl13
import Derived.Test.YtaidmnnejapafaaGreatDoorl10
import Derived.Test.YtaidmnnejapafaaGreatDoorl14
set_option linter.unusedVariables false
namespace Go.Proofs.Bw
open Go Go.Proofs Go.RowKit Go.Bd
set_option maxRecDepth 100000
theorem zPs {w:World} {mt kt et ty:TypeId} {b:Nat} {es:Array MapEntry} {ck:Nat} (hu:Tryz.prog.underlying mt=some (.map kt et)) (h:w.heap[b]? =some (.map es ck)):
  (Builtin.len_ #[mt] ty #[.map (some b)]).run Tryz.prog w= .ok (.int .i64 es.size) w:=by
 have hg:(getObj b).run Tryz.prog w= .ok (.map es ck) w:=by simp [getObj,Sem.run,h]
 simp [Builtin.len_,Sem.run_bind,run_underlying hu,hg,goInt]
def zET (n:Nat) (r:Nat×St) (sh:List Bool) (L:Lo) (w:World) (e:Ending) (w':World):Prop:=
 e= .returned (.int .i64 r.1)∧ ∃L',zY w' n r.2 (grow sh r.2.ns.length) L'∧Chg w w' L L'
set_option maxHeartbeats 3200000 in
theorem zRq {n : Nat} (k : Nat) (IH : Hid (∀ (f g h u : Nat) (S : St) (sh : List Bool) (L : Lo) (w : World), zY w n S sh L → Ok n S → f < S.ns.length + 2 → g < S.ns.length + 2 → h < S.ns.length + 2 →
   u≤lvl n S.ns f→u≤lvl n S.ns g→u≤lvl n S.ns h→n<k+u→((jP n k f g h S).2.ns.length+2)*24≤140737488355328→
   Calls Tryz.prog 73 #[.pointer (some ⟨L.b,0,none⟩), .int .i64 f, .int .i64 g, .int .i64 h] w (zET n (jP n k f g h S) sh L w)))
  (f g h u:Nat) (S:St) (sh:List Bool) (L:Lo) (w:World) (hM:Hid (zY w n S sh L)) (hO:Hid (Ok n S)) (hf:Hid (f<S.ns.length+2)) (hg0:Hid (g<S.ns.length+2)) (hh0:Hid (h<S.ns.length+2))
  (hlf:Hid (u≤lvl n S.ns f)) (hlg:Hid (u≤lvl n S.ns g)) (hlh:Hid (u≤lvl n S.ns h)) (hk:Hid (n<k+1+u)) (hn0:Hid (n≤1000)) (hsz:Hid (((jP n (k+1) f g h S).2.ns.length+2)*24≤140737488355328)):
  Calls Tryz.prog 73 #[.pointer (some ⟨L.b,0,none⟩), .int .i64 f, .int .i64 g, .int .i64 h] w (zET n (jP n (k+1) f g h S) sh L w):=by
 obtain ⟨g',HG⟩: ∃g',Hid (g'=if f=g then 1 else g):=⟨_,Lib.hid rfl⟩
 obtain ⟨h',HH⟩: ∃h',Hid (h'=if f=h then 0 else h):=⟨_,Lib.hid rfl⟩
 have hinl:Hid (∀r,nrm f g h= .inl r→zET n (jP n (k+1) f g h S) sh L w (.returned (.int .i64 r)) w):=fun r hr=>by
  have:jP n (k+1) f g h S=(r,S):=by simp only [jP,hr]
  rw [this]
  exact ⟨rfl,L,by simp only;rw [zEI hM.out.shl];exact hM.out, .refl⟩
 go_enter Tryz.func73,Tryz.ntmps73
 go_upto_if 24 with (fail)
 go_cut [2] (fun s2 wx=>s2= .int .i64 g'∧w=wx)
 case first=>
  by_cases he:f=g
  ·have hd:((f:Int)==g)=true:=by simp [he]
   go_wp2
   go_meet
   exact ⟨by rw [HG.out,if_pos he];rfl,rfl⟩
  ·have hd:((f:Int)==g)=false:=by simp;omega
   go_wp2
   go_meet
   exact ⟨by rw [HG.out,if_neg he],rfl⟩
 case rest=>
  obtain ⟨rfl,rfl⟩:=hcut
  go_upto_if 27 with (fail)
  go_cut [3] (fun s3 wx=>s3= .int .i64 h'∧w=wx)
  case first=>
   by_cases he:f=h
   ·have hd:((f:Int)==h)=true:=by simp [he]
    go_wp2
    go_meet
    exact ⟨by rw [HH.out,if_pos he];rfl,rfl⟩
   ·have hd:((f:Int)==h)=false:=by simp;omega
    go_wp2
    go_meet
    exact ⟨by rw [HH.out,if_neg he],rfl⟩
  case rest=>
   obtain ⟨rfl,rfl⟩:=hcut
   go_upto_block 0 with (fail)
   go_cut [1,2,3] (fun s1 s2 s3 wx=>w=wx∧ ∃t:Key,nrm f g h= .inr t∧s1= .int .i64 t.1∧s2= .int .i64 t.2.1∧s3= .int .i64 t.2.2)
   case first=>
    have hn:Hid (nrm f g h=_):=Lib.hid (show nrm f g h=(if f=1 then .inl g' else if f=0 then .inl h' else if g'=h' then .inl g' else if g'=1∧h'=0 then .inl f else if h'=0∧g'<f then .inr (g',f,h') else if g'=1∧h'<f then .inr (h',g',f) else .inr (f,g',h')) by unfold nrm;rw [←HG.out, ←HH.out])
    by_cases f1:f=1
    ·have d1:((f:Int)==1)=true:=by simp [f1]
     go_wp2
     go_ret
     exact hinl.out g' (by rw [hn.out,if_pos f1])
    ·have d1:((f:Int)==1)=false:=by simp;omega
     by_cases f0:f=0
     ·have d2:((f:Int)==0)=true:=by simp [f0]
      go_wp2
      go_ret
      exact hinl.out h' (by rw [hn.out,if_neg f1,if_pos f0])
     ·have d2:((f:Int)==0)=false:=by simp;omega
      by_cases gh:g'=h'
      ·have d3:((g':Int)==h')=true:=by simp [gh]
       go_wp2
       go_ret
       exact hinl.out g' (by rw [hn.out,if_neg f1,if_neg f0,if_pos gh])
      ·have d3:((g':Int)==h')=false:=by simp;omega
       by_cases h0:h'=0
       ·have d4:((h':Int)==0)=true:=by simp [h0]
        by_cases g1:g'=1
        ·have d5:((g':Int)==1)=true:=by simp [g1]
         go_wp2
         go_ret
         exact hinl.out f (by rw [hn.out,if_neg f1,if_neg f0,if_neg gh,if_pos ⟨g1,h0⟩])
        ·have d5:((g':Int)==1)=false:=by simp;omega
         by_cases lt:g'<f
         ·go_wp2
          go_meet
          exact ⟨rfl,(g',f,h'),by rw [hn.out,if_neg f1,if_neg f0,if_neg gh,if_neg (fun hh=>g1 hh.1),if_pos ⟨h0,lt⟩],rfl,rfl,rfl⟩
         ·go_wp2
          go_meet
          exact ⟨rfl,(f,g',h'),by rw [hn.out,if_neg f1,if_neg f0,if_neg gh,if_neg (fun hh=>g1 hh.1),if_neg (fun hh=>lt hh.2),if_neg (fun hh=>g1 hh.1)],rfl,rfl,rfl⟩
       ·have d4:((h':Int)==0)=false:=by simp;omega
        by_cases g1:g'=1
        ·have d5:((g':Int)==1)=true:=by simp [g1]
         by_cases lt:h'<f
         ·go_wp2
          go_meet
          exact ⟨rfl,(h',g',f),by rw [hn.out,if_neg f1,if_neg f0,if_neg gh,if_neg (fun hh=>h0 hh.2),if_neg (fun hh=>h0 hh.1),if_pos ⟨g1,lt⟩],rfl,rfl,rfl⟩
         ·go_wp2
          go_meet
          exact ⟨rfl,(f,g',h'),by rw [hn.out,if_neg f1,if_neg f0,if_neg gh,if_neg (fun hh=>h0 hh.2),if_neg (fun hh=>h0 hh.1),if_neg (fun hh=>lt hh.2)],rfl,rfl,rfl⟩
        ·have d5:((g':Int)==1)=false:=by simp;omega
         go_wp2
         go_meet
         exact ⟨rfl,(f,g',h'),by rw [hn.out,if_neg f1,if_neg f0,if_neg gh,if_neg (fun hh=>h0 hh.2),if_neg (fun hh=>h0 hh.1),if_neg (fun hh=>g1 hh.1)],rfl,rfl,rfl⟩
   case rest=>
    obtain ⟨rfl,t,hn,rfl,rfl,rfl⟩:=hcut
    have T:=zNL S.ns f g h
    rw [hn] at T
    have HN:=Lib.hid hn
    clear hn
    have HT:=Lib.hid T
    clear T
    obtain ⟨t1,t2,t3⟩:=t
    have hlk: ∀q,Sem.run Tryz.prog (Instr.lookup 97 (.map (some L.bm)) (.agg #[.int .i64 t1, .int .i64 t2, .int .i64 t3]) true) ((w.alloc (.cells #[.int .i64 t1, .int .i64 t2, .int .i64 t3] 175)).drewN q)=
      .ok (.tuple #[.int .i64 ((Bd.look (t1,t2,t3) S.mm).getD 0), .bool (Bd.look (t1,t2,t3) S.mm).isSome]) ((w.alloc (.cells #[.int .i64 t1, .int .i64 t2, .int .i64 t3] 175)).drewN q):=fun q=>by
     exact zTR.lookup (t1,t2,t3) (w:=(w.alloc (.cells #[.int .i64 t1, .int .i64 t2, .int .i64 t3] 175)).drewN q) (b:=L.bm) (ck:=S.mm.length) (l:=S.mm) (by rw [alloc_at hM.out.lts.2.2.2.2];exact hM.out.mm)
    have c6:=hM.out.c6
    have hbl:=hM.out.lts.1
    cases hl:Bd.look (t1,t2,t3) S.mm with
    |some r=>
     rw [hl] at hlk
     simp only [Option.getD_some,Option.isSome_some] at hlk
     have HL:=Lib.hid hl
     clear hl
     go_wp2
     go_quiet (fail)
     go_wp2
     go_ret
     have hit:jP n (k+1) f g h S=(r,S):=by simp only [jP,HN.out,HL.out]
     rw [hit]
     have ho:=Old.alloc (w:=w) (.cells #[.int .i64 t1, .int .i64 t2, .int .i64 t3] 175) nq
     exact ⟨rfl,L,by simp only;rw [zEI hM.out.shl];exact hM.out.keep ho.heap ho.size,ho.chg⟩
    |none=>
     rw [hl] at hlk
     simp only [Option.getD_none,Option.isSome_none] at hlk
     have HL:=Lib.hid hl
     clear hl
     go_wp2
     go_quiet (fail)
     clear hlk
     have hold:=Old.alloc (w:=w) (.cells #[.int .i64 t1, .int .i64 t2, .int .i64 t3] 175) nq
     have hkey:((w.alloc (.cells #[.int .i64 t1, .int .i64 t2, .int .i64 t3] 175)).drewN nq).heap[w.heap.size]? =some (.cells #[.int .i64 t1, .int .i64 t2, .int .i64 t3] 175 (0,0)):=by
      show (w.heap.push _)[w.heap.size]? =_
      simp
     have hsize:((w.alloc (.cells #[.int .i64 t1, .int .i64 t2, .int .i64 t3] 175)).drewN nq).heap.size=w.heap.size+1:=by
      show (w.heap.push _).size=_
      simp
     generalize (w.alloc (.cells #[.int .i64 t1, .int .i64 t2, .int .i64 t3] 175)).drewN nq=W1 at*
     have M1:zY W1 n S sh L:=hM.out.keep hold.heap hold.size
     have HO1:=Lib.hid hold
     generalize hK:w.heap.size=K at*
     have HK:=Lib.hid hK
     have HKey:=Lib.hid hkey
     have HS1:=Lib.hid hsize
     have c0:=M1.c0
     have HM1:=Lib.hid M1
     clear hold hkey hsize hK M1 c6 hbl
     have hin:Hid (t1<S.ns.length+2∧t2<S.ns.length+2∧t3<S.ns.length+2):=by
      obtain ⟨x1,x2,x3,x4,x5⟩:=HT.out
      have:=hf.out;have:=hg0.out;have:=hh0.out
      show t1<_∧t2<_∧t3<_
      omega
     have DD:Hid (∀t q,t<S.ns.length+2→Calls Tryz.prog 96 #[.pointer (some ⟨L.b,0,none⟩), .int .i64 t] (W1.drewN q) fun e w'=>e= .returned (.int .i64 (lvl n S.ns t))∧ ∃m,w'=(W1.drewN q).drewN m):=fun t q ht=>zRR (HM1.out.keep (w':=W1.drewN q) (fun _ _=>rfl) (Nat.le_refl _)) hO.out.wf ht
     obtain ⟨y1,y2,y3⟩:=hin.out
     obtain ⟨v,lo,hi,hv0,hP0,hit0⟩:=zPJ (k:=k) hO.out hf.out hg0.out hh0.out hlf.out hlg.out hlh.out hk.out HN.out HL.out
     have HV:Hid (v=min (lvl n S.ns t1) (min (lvl n S.ns t2) (lvl n S.ns t3))):=Lib.hid hv0
     have HP:=Lib.hid hP0
     have HIT:=Lib.hid hit0
     clear hv0 hP0 hit0
     have hvn:v<n:=by
      obtain ⟨x1,_⟩:=HT.out
      have hl1:lvl n S.ns t1<n:=by
       rcases jH S.ns y1 with h1|⟨i,x,hi,hx⟩
       ·exact absurd h1 (Nat.not_lt.2 x1)
       ·rw [hi,wI hx];exact hO.out.wf.v hx
      have:=HV.out
      omega
     have hcv:W1.cell? ⟨L.bo,v,none⟩=some (.int .i64 v):=HM1.out.ord v hvn
     go_upto_region 21 with (fail)
     go_cut [12] (fun s12 wx=>s12= .int .i64 v∧ ∃q,wx=W1.drewN q)
     case first=>
      by_cases m1:lvl n S.ns t2<lvl n S.ns t1
      ·by_cases m2:lvl n S.ns t3<lvl n S.ns t2
       ·have e:v=lvl n S.ns t3:=by have:=HV.out;omega
        rw [e] at hvn hcv
        go_wp2
        go_quiet ((go_at_call 96;exact Calls.quiet_of (DD.out _ _ (by assumption))))
        go_wp2_with fail
        go_meet
        exact ⟨by rw [e],_,rfl⟩
       ·have e:v=lvl n S.ns t2:=by have:=HV.out;omega
        rw [e] at hvn hcv
        go_wp2
        go_quiet ((go_at_call 96;exact Calls.quiet_of (DD.out _ _ (by assumption))))
        go_wp2_with fail
        go_meet
        exact ⟨by rw [e],_,rfl⟩
      ·by_cases m2:lvl n S.ns t3<lvl n S.ns t1
       ·have e:v=lvl n S.ns t3:=by have:=HV.out;omega
        rw [e] at hvn hcv
        go_wp2
        go_quiet ((go_at_call 96;exact Calls.quiet_of (DD.out _ _ (by assumption))))
        go_wp2_with fail
        go_meet
        exact ⟨by rw [e],_,rfl⟩
       ·have e:v=lvl n S.ns t1:=by have:=HV.out;omega
        rw [e] at hvn hcv
        go_wp2
        go_quiet ((go_at_call 96;exact Calls.quiet_of (DD.out _ _ (by assumption))))
        go_wp2_with fail
        go_meet
        exact ⟨by rw [e],_,rfl⟩
     case rest=>
      obtain ⟨rfl,q,rfl⟩:=hcut
      have hold2:Old W1 (W1.drewN q):=⟨fun _ _=>rfl,Nat.le_refl _,rfl,rfl,rfl,by show W1.drawn≤W1.drawn+q;omega⟩
      generalize W1.drewN q=W2 at*
      have HO2:=Lib.hid hold2
      have M2:=Lib.hid (HM1.out.keep hold2.heap hold2.size)
      clear hold2 hcv c0
      go_wp2_with fail
      refine (split_ok M2.out t1 v y1).mono ?_
      rintro e W3 ⟨rfl,O3⟩
      have HO3:=Lib.hid O3
      have M3:=Lib.hid (M2.out.keep O3.heap O3.size)
      clear O3
      go_wp2_with fail
      refine (split_ok M3.out t2 v y2).mono ?_
      rintro e W4 ⟨rfl,O4⟩
      have HO4:=Lib.hid O4
      have M4:=Lib.hid (M3.out.keep O4.heap O4.size)
      clear O4
      go_wp2_with fail
      refine (split_ok M4.out t3 v y3).mono ?_
      rintro e W5 ⟨rfl,O5⟩
      have HO5:=Lib.hid O5
      have M5:=Lib.hid (M4.out.keep O5.heap O5.size)
      clear O5
      have HszF:Hid (((mk hi.2.ns v lo.1 hi.1).2.length+2)*24≤140737488355328):=by
       have:=hsz.out
       rw [HIT.out] at this
       exact Lib.hid this
      have HszH:Hid ((hi.2.ns.length+2)*24≤140737488355328):=Lib.hid (Nat.le_trans (Nat.mul_le_mul_right _ (Nat.add_le_add_right HP.out.l3 2)) HszF.out)
      have HszL:Hid ((lo.2.ns.length+2)*24≤140737488355328):=Lib.hid (Nat.le_trans (Nat.mul_le_mul_right _ (Nat.add_le_add_right HP.out.l2 2)) HszH.out)
      have CLO:Hid (Calls Tryz.prog 73 #[.pointer (some ⟨L.b,0,none⟩), .int .i64 (split S.ns t1 v).1, .int .i64 (split S.ns t2 v).1, .int .i64 (split S.ns t3 v).1] W5 (zET n lo sh L W5)):=by
       have P:=HP.out
       have:=IH.out (split S.ns t1 v).1 (split S.ns t2 v).1 (split S.ns t3 v).1 (v+1) S sh L W5 M5.out hO.out P.a.1 P.a.2.1 P.a.2.2 P.b.1 P.b.2.1 P.b.2.2 P.k1 (by rw [←P.elo];exact HszL.out)
       rw [←P.elo] at this
       exact Lib.hid this
      go_wp2_with fail
      refine CLO.out.mono ?_
      rintro e W6 ⟨rfl,L6,M6',C6'⟩
      have M6:=Lib.hid M6'
      have C6:=Lib.hid C6'
      clear M6' C6'
      have CHI:Hid (Calls Tryz.prog 73 #[.pointer (some ⟨L.b,0,none⟩), .int .i64 (split S.ns t1 v).2, .int .i64 (split S.ns t2 v).2, .int .i64 (split S.ns t3 v).2] W6 (zET n hi (grow sh lo.2.ns.length) L6 W6)):=by
       have P:=HP.out
       have:=IH.out (split S.ns t1 v).2 (split S.ns t2 v).2 (split S.ns t3 v).2 (v+1) lo.2 (grow sh lo.2.ns.length) L6 W6 M6.out P.okl P.c.1 P.c.2.1 P.c.2.2 P.d.1 P.d.2.1 P.d.2.2 P.k1 (by rw [←P.ehi];exact HszH.out)
       rw [←P.ehi,C6.out.same.1] at this
       exact Lib.hid this
      go_wp2_with fail
      refine CHI.out.mono ?_
      rintro e W7 ⟨rfl,L7,M7',C7'⟩
      have M7:=Lib.hid M7'
      have C7:=Lib.hid (C6.out.trans C7')
      clear M7' C7'
      have CN:Hid (Calls Tryz.prog 98 #[.pointer (some ⟨L.b,0,none⟩), .int .i64 v, .int .i64 lo.1, .int .i64 hi.1] W7 fun e w'=>e= .returned (.int .i64 (mk hi.2.ns v lo.1 hi.1).1)∧ ∃L',zY w' n ⟨(mk hi.2.ns v lo.1 hi.1).2,hi.2.mm⟩ (grow (grow (grow sh lo.2.ns.length) hi.2.ns.length) (mk hi.2.ns v lo.1 hi.1).2.length) L'∧Chg W7 w' L7 L'):=by
       have:=zOS M7.out (v:=v) (lo:=lo.1) (hi:=hi.1) HszF.out
       rw [C7.out.same.1] at this
       exact Lib.hid this
      go_wp2_with fail
      refine CN.out.mono ?_
      rintro e W8 ⟨rfl,L8,M8',C8'⟩
      have M8:=Lib.hid M8'
      have C8:=Lib.hid (C7.out.trans C8')
      clear M8' C8'
      have hKlt:Hid (∀i,i<K→W8.heap.size≤W8.heap.size):=Lib.hid (fun _ _=>Nat.le_refl _)
      have hlts:Hid (L.b<K∧L.bn<K∧L.bs<K∧L.bu<K∧L.bm<K):=Lib.hid (by have:=hM.out.lts;rw [HK.out] at this;exact this)
      have hK5:Hid (K<W5.heap.size):=Lib.hid (by
       have a1:=HS1.out;have a2:=HO2.out.size;have a3:=HO3.out.size;have a4:=HO4.out.size;have a5:=HO5.out.size
       omega)
      have hkey5:Hid (W5.heap[K]? =some (.cells #[.int .i64 t1, .int .i64 t2, .int .i64 t3] 175 (0,0))):=Lib.hid (by
       have a1:=HS1.out;have a2:=HO2.out.size;have a3:=HO3.out.size;have a4:=HO4.out.size
       rw [HO5.out.heap K (by omega),HO4.out.heap K (by omega),HO3.out.heap K (by omega),HO2.out.heap K (by omega)]
       exact HKey.out)
      have hkey8:Hid (W8.heap[K]? =some (.cells #[.int .i64 t1, .int .i64 t2, .int .i64 t3] 175 (0,0))):=Lib.hid (by
       obtain ⟨b1,b2,b3,b4,b5⟩:=hlts.out
       rw [C8.out.rest K hK5.out (by omega) (by omega) (by omega) (by omega) (by omega)]
       exact hkey5.out)
      have k0:W8.cell? ⟨K,0,none⟩=some (.int .i64 t1):=by rw [cell_of_row W8 K 0 _ _ _ hkey8.out];rfl
      have k1:W8.cell? ⟨K,1,none⟩=some (.int .i64 t2):=by rw [cell_of_row W8 K 1 _ _ _ hkey8.out];rfl
      have k2:W8.cell? ⟨K,2,none⟩=some (.int .i64 t3):=by rw [cell_of_row W8 K 2 _ _ _ hkey8.out];rfl
      have p6:W8.cell? ⟨L.b,6,none⟩=some (.map (some L8.bm)):=by rw [←C8.out.same.1];exact M8.out.c6
      have z6:W8.frozen? ⟨L.b,6,none⟩=false:=by rw [←C8.out.same.1];exact M8.out.free 6
      obtain ⟨m8,hm8⟩: ∃m8,Hid (m8=hi.2.mm.length):=⟨_,Lib.hid rfl⟩
      have hlen8:Sem.run Tryz.prog (Builtin.len_ #[97] 3 #[.map (some L8.bm)]) W8= .ok (.int .i64 m8) W8:=by
       rw [zPs Tryz.underlying97 M8.out.mm,List.size_toArray,zJy,hm8.out]
      have C5:Hid (Chg w W5 L L):=Lib.hid ((HO1.out.chg.trans HO2.out.chg).trans ((HO3.out.chg.trans HO4.out.chg).trans HO5.out.chg))
      have HGR:Hid (grow (grow (grow sh lo.2.ns.length) hi.2.ns.length) (mk hi.2.ns v lo.1 hi.1).2.length=grow sh (mk hi.2.ns v lo.1 hi.1).2.length):=Lib.hid (by
       have P:=HP.out
       have hl:=hM.out.shl
       rw [grow_grow (by rw [hl];exact Nat.add_le_add_right P.l1 2) P.l2,grow_grow (by rw [hl];exact Nat.add_le_add_right (Nat.le_trans P.l1 P.l2) 2) P.l3])
      by_cases hlim:zEA≤m8
      ·have hdec:decide ((1048576:Int)≤(m8:Int))=true:=by simp only [zEA] at hlim;simp only [decide_eq_true_eq];omega
       have HLIM:=Lib.hid hlim
       clear hlim
       have hb8:Hid (L.b<W8.heap.size):=Lib.hid (by have:=M8.out.lts.1;rwa [C8.out.same.1] at this)
       have hmm:= @run_makeMap Tryz.prog
       have hal6: ∀o:Obj,(W8.alloc o).cell? ⟨L.b,6,none⟩=some (.map (some L8.bm)):=fun o=>(World.cell?_of_block (a:=⟨L.b,6,none⟩) (alloc_old (w:=W8) hb8.out)).trans p6
       have hfz6: ∀o:Obj,(W8.alloc o).frozen? ⟨L.b,6,none⟩=false:=fun o=>(World.frozen?_of_block (a:=⟨L.b,6,none⟩) (alloc_old (w:=W8) hb8.out)).trans z6
       go_wp2
       clear hlen8 hdec hmm hal6 hfz6 k0 k1 k2 p6 z6
       have hfr:=M8.out.fresh
       rw [C8.out.same.1] at hfr
       generalize (W8.alloc (.map #[] 0)).setCell ⟨L.b,6,none⟩ (.map (some W8.heap.size))=W9 at*
       obtain ⟨F1,F2⟩:=hfr
       have M9:=Lib.hid F1
       have C9:=Lib.hid F2
       clear F1 F2
       have hkey9:Hid (W9.heap[K]? =some (.cells #[.int .i64 t1, .int .i64 t2, .int .i64 t3] 175 (0,0))):=Lib.hid (by
        obtain ⟨b1,b2,b3,b4,b5⟩:=hlts.out
        have hK8:=Nat.lt_of_lt_of_le hK5.out C8.out.size
        have n1:=C8.out.new.1;have n2:=C8.out.new.2.1;have n3:=C8.out.new.2.2
        have n4:=C8.out.same.2.2.2.1
        have h5:=hK5.out
        rw [C9.out.rest K hK8 (by rw [C8.out.same.1];omega) (by omega) (by omega) (by omega) (by omega)]
        exact hkey8.out)
       have k0:W9.cell? ⟨K,0,none⟩=some (.int .i64 t1):=by rw [cell_of_row W9 K 0 _ _ _ hkey9.out];rfl
       have k1:W9.cell? ⟨K,1,none⟩=some (.int .i64 t2):=by rw [cell_of_row W9 K 1 _ _ _ hkey9.out];rfl
       have k2:W9.cell? ⟨K,2,none⟩=some (.int .i64 t3):=by rw [cell_of_row W9 K 2 _ _ _ hkey9.out];rfl
       have p6:W9.cell? ⟨L.b,6,none⟩=some (.map (some W8.heap.size)):=by
        have:=M9.out.c6
        simp only [C8.out.same.1] at this
        exact this
       have hmu:Sem.run Tryz.prog (Instr.mapUpdate 97 (.map (some W8.heap.size)) (.agg #[.int .i64 t1, .int .i64 t2, .int .i64 t3]) (.int .i64 (mk hi.2.ns v lo.1 hi.1).1)) W9.drew= .ok () (Go.Ve.setBlk W9.drew W8.heap.size (.map (wA 0 (put (t1,t2,t3) (mk hi.2.ns v lo.1 hi.1).1 [])).toArray (put (t1,t2,t3) (mk hi.2.ns v lo.1 hi.1).1 []).length)):=
        zTR.update (t1,t2,t3) (mk hi.2.ns v lo.1 hi.1).1 (w:=W9.drew) (b:=W8.heap.size) (l:=[]) M9.out.mm
       go_wp2
       go_region
       all_goals
        go_wp2
        go_ret
        rw [HIT.out]
        have hkp:keep (t1,t2,t3) (mk hi.2.ns v lo.1 hi.1).1 hi.2.mm=put (t1,t2,t3) (mk hi.2.ns v lo.1 hi.1).1 []:=by unfold keep;rw [if_pos (by rw [←hm8.out];exact HLIM.out)]
        refine ⟨rfl,_,?_,((C5.out.trans C8.out).trans C9.out).trans (Chg.memo (L:= { b:=L.b,bo:=L8.bo,bl:=L8.bl,bn:=L8.bn,bs:=L8.bs,bu:=L8.bu,bm:=W8.heap.size,bc:=L8.bc,co:=L8.co,cl:=L8.cl,cn:=L8.cn,cs:=L8.cs }) _)⟩
        simp only [hkp]
        rw [←HGR.out]
        exact M9.out.memo _
      ·have hdec:decide ((1048576:Int)≤(m8:Int))=false:=by simp only [zEA] at hlim;simp only [decide_eq_false_iff_not];omega
       have HLIM:=Lib.hid hlim
       clear hlim
       go_wp2
       go_outline
       clear hlen8 hdec
       have hmu:Sem.run Tryz.prog (Instr.mapUpdate 97 (.map (some L8.bm)) (.agg #[.int .i64 t1, .int .i64 t2, .int .i64 t3]) (.int .i64 (mk hi.2.ns v lo.1 hi.1).1)) W8.drew= .ok () (Go.Ve.setBlk W8.drew L8.bm (.map (wA 0 (put (t1,t2,t3) (mk hi.2.ns v lo.1 hi.1).1 hi.2.mm)).toArray (put (t1,t2,t3) (mk hi.2.ns v lo.1 hi.1).1 hi.2.mm).length)):=
        zTR.update (t1,t2,t3) (mk hi.2.ns v lo.1 hi.1).1 (w:=W8.drew) (b:=L8.bm) (l:=hi.2.mm) M8.out.mm
       go_region
       all_goals
        go_wp2
        go_ret
        rw [HIT.out]
        have hkp:keep (t1,t2,t3) (mk hi.2.ns v lo.1 hi.1).1 hi.2.mm=put (t1,t2,t3) (mk hi.2.ns v lo.1 hi.1).1 hi.2.mm:=by unfold keep;rw [if_neg (by rw [←hm8.out];exact HLIM.out)]
        refine ⟨rfl,L8,?_,(C5.out.trans C8.out).trans (Chg.memo _)⟩
        simp only [hkp]
        rw [←HGR.out]
        exact M8.out.memo _
end Go.Proofs.Bw

namespace Go.Proofs.Bw
open Go Go.Proofs Go.RowKit Go.Bd
set_option maxRecDepth 100000
variable {n:Nat} {S:St} {sh:List Bool} {L:Lo} {w:World}
theorem zOZ (hn:n≤1000): ∀ (k f g h u:Nat) (S:St) (sh:List Bool) (L:Lo) (w:World),zY w n S sh L→Ok n S→f<S.ns.length+2→g<S.ns.length+2→h<S.ns.length+2→
  u≤lvl n S.ns f→u≤lvl n S.ns g→u≤lvl n S.ns h→n<k+u→((jP n k f g h S).2.ns.length+2)*24≤140737488355328→
  Calls Tryz.prog 73 #[.pointer (some ⟨L.b,0,none⟩), .int .i64 f, .int .i64 g, .int .i64 h] w (zET n (jP n k f g h S) sh L w)
 |0,f,g,h,u,S,sh,L,w,M,O,hf,hg,hh,lf,lg,lh,hk,hs=>by
  exfalso
  have:=zLj O.wf f
  omega
 |k+1,f,g,h,u,S,sh,L,w,M,O,hf,hg,hh,lf,lg,lh,hk,hs=>
  zRq k (Lib.hid (zOZ hn k)) f g h u S sh L w (Lib.hid M) (Lib.hid O) (Lib.hid hf) (Lib.hid hg) (Lib.hid hh) (Lib.hid lf) (Lib.hid lg) (Lib.hid lh) (Lib.hid hk) (Lib.hid hn) (Lib.hid hs)
theorem zY.mark (M:zY w n S sh L) {f:Nat} (hf:f<S.ns.length+2):w.cell? ⟨L.bs,f,none⟩=some (.bool (sh[f]?.getD false)):=by
 have hl:=M.shl
 have hx:sh[f]? =some sh[f]:=by simp [show f<sh.length by omega]
 have:=M.rs.cells (g:=L.bs) rfl f (.bool sh[f]) (by rw [List.getElem?_map,hx];rfl)
 rw [Addr.add_lit,Nat.zero_add] at this
 rw [hx]
 exact this
theorem zQx (b bs cs len f:Nat) (w:World) (h3:w.cell? ⟨b,3,none⟩=some (.slice (some ⟨bs,0,none⟩) len cs)) (hf:len≤f):
  Calls Tryz.prog 10 #[.pointer (some ⟨b,0,none⟩), .int .i64 f] w fun e w'=>e= .returned (.bool false)∧w=w':=by
 have hlt: ¬f<len:=by omega
 go_enter Tryz.func10,Tryz.ntmps10
 go_wp2
 go_ret
 exact ⟨rfl,rfl⟩
theorem zLU (M:zY w n S sh L) (f:Nat):Calls Tryz.prog 10 #[.pointer (some ⟨L.b,0,none⟩), .int .i64 f] w fun e w'=>e= .returned (.bool (sh[f]?.getD false))∧w=w':=by
 rcases Nat.lt_or_ge f (S.ns.length+2) with h|h
 ·exact zQw L.b L.bs L.cs _ f _ w M.c3 h (M.mark h)
 ·have:sh[f]? =none:=by rw [List.getElem?_eq_none];rw [M.shl];exact h
  rw [this]
  exact zQx L.b L.bs L.cs _ f w M.c3 h
def zCl (sh:List Bool) (f:Nat):List Bool:=sh.set f true
theorem zOM (M:zY w n S sh L) {f:Nat} (hf:f<S.ns.length+2):
  Calls Tryz.prog 72 #[.pointer (some ⟨L.b,0,none⟩), .int .i64 f] w fun e w'=>e= .returned (.int .i64 f)∧zY w' n S (zCl sh f) L∧Chg w w' L L:=by
 obtain ⟨l1,l2,l3,l4,l5⟩:=M.lts
 obtain ⟨x1,x2,x3,x4,x5,x6,x7,x8,x9,x10,x11,x12,x13,x14,x15,x16,x17,x18,x19,x20⟩:=M.d
 have hl:=M.lt
 have hshl:=M.shl
 obtain ⟨r1,r2⟩:=M.rs
 have hrow: ∃cur:Array Value,w.heap[L.bs]? =some (.cells cur 4 (0,0))∧S.ns.length+2≤L.cs∧L.cs≤maxLen∧cur.size=L.cs*1∧cur.toList.take ((S.ns.length+2)*1)=sh.map .bool:=by
  rcases r2 with ⟨h,_⟩|⟨g,cap,cur,hv,_,a1,a2,a3,a4,a5⟩
  ·cases h
  ·cases hv
   exact ⟨cur,a1,a2,a3,a4,a5⟩
 obtain ⟨cur,a1,a2,a3,a4,a5⟩:=hrow
 have hfz:w.frozen? ⟨L.bs,f,none⟩=false:=by
  simp only [World.frozen?,a1]
  simp
 refine (zSp L.b L.bs L.cs (S.ns.length+2) f _ w M.c3 hf (M.mark hf) hfz).mono ?_
 rintro e w' ⟨rfl,rfl⟩
 have far: ∀i,i≠L.bs→(w.setCell ⟨L.bs,f,none⟩ (.bool true)).heap[i]? =w.heap[i]? :=fun i hi=>jN (fun h=>hi h.symm)
 have hs:(w.setCell ⟨L.bs,f,none⟩ (.bool true)).heap.size=w.heap.size:=zU
 refine ⟨rfl,⟨(far _ x4).trans M.mb,fun v hv=>(World.cell?_of_block (a:=⟨L.bo,v,none⟩) (far _ x8)).trans (M.ord v hv),fun v hv=>(World.cell?_of_block (a:=⟨L.bl,v,none⟩) (far _ x12)).trans (M.lev v hv),
  zV M.rn (fun g hg=> ?_),⟨by simpa [zCl] using hshl, .inr ⟨L.bs,L.cs,cur.setIfInBounds f (.bool true),rfl,Nat.zero_le _,vE a1,a2,a3,by rw [Array.size_setIfInBounds];exact a4,?_⟩⟩,(far _ x18.symm).trans M.mu,(far _ x19.symm).trans M.mm,by rw [hs];exact hl,M.d⟩,
  ⟨⟨rfl,rfl,rfl,rfl,rfl⟩,⟨.inl rfl, .inl rfl, .inl rfl⟩,Nat.le_of_eq hs.symm,fun i _ _ _ h _ _=>far i h,rfl,rfl,rfl,Nat.le_refl _⟩⟩
 ·have:L.bn=g:=Option.some.inj hg
  subst this;exact far _ x15
 ·rw [Array.toList_setIfInBounds,List.take_set,a5,zCl,List.map_set]
end Go.Proofs.Bw

namespace Go.Proofs.Bw
open Go Go.Proofs Go.RowKit Go.Bd
set_option maxRecDepth 100000
structure Pub where
 S:St
 sh:List Bool
def zIm (n:Nat) (p:Pub) (f g h:Nat):Nat×Pub:=
 ((jP n (n+1) f g h p.S).1,⟨(jP n (n+1) f g h p.S).2,zCl (grow p.sh (jP n (n+1) f g h p.S).2.ns.length) (jP n (n+1) f g h p.S).1⟩)
def zKc (p:Pub) (v:Nat):Nat×Pub:=
 ((mk p.S.ns v 0 1).1,⟨⟨(mk p.S.ns v 0 1).2,p.S.mm⟩,zCl (grow p.sh (mk p.S.ns v 0 1).2.length) (mk p.S.ns v 0 1).1⟩)
def zGS (n:Nat) (r:Nat×Pub) (L:Lo) (w:World) (e:Ending) (w':World):Prop:=
 e= .returned (.int .i64 r.1)∧ ∃L',zY w' n r.2.S r.2.sh L'∧Chg w w' L L'
variable {n:Nat} {p:Pub} {L:Lo} {w:World}
theorem zBe (M:zY w n p.S p.sh L) {f:Nat} (hv:p.sh[f]? =some true):Calls Tryz.prog 10 #[.pointer (some ⟨L.b,0,none⟩), .int .i64 f] w fun e w'=>e= .returned (.bool true)∧w=w':=by
 have:=zLU M f
 rw [hv] at this
 exact this
theorem zIE (M:zY w n p.S p.sh L) {f:Nat} (hv:p.sh[f]? =some true):f<p.S.ns.length+2:=by
 have:=(List.getElem?_eq_some_iff.1 hv).1
 rwa [M.shl] at this
set_option maxHeartbeats 800000 in
theorem zIr (hn:Hid (n≤1000)) (M:Hid (zY w n p.S p.sh L)) (O:Hid (Ok n p.S)) {f g h:Nat} (hf:Hid (p.sh[f]? =some true)) (hg:Hid (p.sh[g]? =some true)) (hh:Hid (p.sh[h]? =some true))
  (hs:Hid (((jP n (n+1) f g h p.S).2.ns.length+2)*24≤140737488355328)):
  Calls Tryz.prog 37 #[.pointer (some ⟨L.b,0,none⟩), .int .i64 f, .int .i64 g, .int .i64 h] w (zGS n (zIm n p f g h) L w):=by
 have c1:=Lib.hid (zBe M.out hf.out)
 have c2:=Lib.hid (zBe M.out hg.out)
 have c3:=Lib.hid (zBe M.out hh.out)
 have lf:=Lib.hid (zIE M.out hf.out)
 have lg:=Lib.hid (zIE M.out hg.out)
 have lh:=Lib.hid (zIE M.out hh.out)
 have ci:=Lib.hid (zOZ hn.out (n+1) f g h 0 p.S p.sh L w M.out O.out lf.out lg.out lh.out (Nat.zero_le _) (Nat.zero_le _) (Nat.zero_le _) (by omega) hs.out)
 have I:=Lib.hid (zFF (n+1) f g h 0 p.S O.out lf.out lg.out lh.out (Nat.zero_le _) (Nat.zero_le _) (Nat.zero_le _) (by omega))
 go_enter Tryz.func37,Tryz.ntmps37
 go_wp2_with fail
 refine c1.out.mono ?_
 rintro e w' ⟨rfl,rfl⟩
 go_wp2_with fail
 refine c2.out.mono ?_
 rintro e w' ⟨rfl,rfl⟩
 go_wp2_with fail
 refine c3.out.mono ?_
 rintro e w' ⟨rfl,rfl⟩
 go_wp2_with fail
 refine ci.out.mono ?_
 rintro e w1 ⟨rfl,L1,M1',C1'⟩
 have M1:=Lib.hid M1'
 have C1:=Lib.hid C1'
 clear M1' C1'
 have cs:Hid (Calls Tryz.prog 72 #[.pointer (some ⟨L.b,0,none⟩), .int .i64 (jP n (n+1) f g h p.S).1] w1 fun e w'=>e= .returned (.int .i64 (jP n (n+1) f g h p.S).1)∧zY w' n (jP n (n+1) f g h p.S).2 (zCl (grow p.sh (jP n (n+1) f g h p.S).2.ns.length) (jP n (n+1) f g h p.S).1) L1∧Chg w1 w' L1 L1):=by
  have:=zOM M1.out I.out.lt
  rw [C1.out.same.1] at this
  exact Lib.hid this
 go_wp2_with fail
 refine cs.out.mono ?_
 rintro e w2 ⟨rfl,M2',C2'⟩
 have M2:=Lib.hid M2'
 have C2:=Lib.hid C2'
 clear M2' C2'
 go_wp2
 go_ret
 exact ⟨rfl,L1,M2.out,C1.out.trans C2.out⟩
theorem zSx (hn:n≤1000) (M:zY w n p.S p.sh L) (O:Ok n p.S) {f:Nat} (hf:p.sh[f]? =some true) (h0:p.sh[0]? =some true) (h1:p.sh[1]? =some true)
  (hs:((jP n (n+1) f 0 1 p.S).2.ns.length+2)*24≤140737488355328):
  Calls Tryz.prog 19 #[.pointer (some ⟨L.b,0,none⟩), .int .i64 f] w (zGS n (zIm n p f 0 1) L w):=by
 have c:=Lib.hid (zIr (Lib.hid hn) (Lib.hid M) (Lib.hid O) (Lib.hid hf) (Lib.hid h0) (Lib.hid h1) (Lib.hid hs))
 clear hn M O hf h0 h1 hs
 go_enter Tryz.func19,Tryz.ntmps19
 go_wp2_with fail
 refine c.out.mono ?_
 rintro e w1 ⟨rfl,h⟩
 have H:=Lib.hid h
 clear h
 go_wp2
 go_ret
 exact ⟨rfl,H.out⟩
theorem zS6 (hn:n≤1000) (M:zY w n p.S p.sh L) (O:Ok n p.S) {f g:Nat} (hf:p.sh[f]? =some true) (hg:p.sh[g]? =some true) (h0:p.sh[0]? =some true)
  (hs:((jP n (n+1) f g 0 p.S).2.ns.length+2)*24≤140737488355328):
  Calls Tryz.prog 41 #[.pointer (some ⟨L.b,0,none⟩), .int .i64 f, .int .i64 g] w (zGS n (zIm n p f g 0) L w):=by
 have c:=Lib.hid (zIr (Lib.hid hn) (Lib.hid M) (Lib.hid O) (Lib.hid hf) (Lib.hid hg) (Lib.hid h0) (Lib.hid hs))
 clear hn M O hf h0 hg hs
 go_enter Tryz.func41,Tryz.ntmps41
 go_wp2_with fail
 refine c.out.mono ?_
 rintro e w1 ⟨rfl,h⟩
 have H:=Lib.hid h
 clear h
 go_wp2
 go_ret
 exact ⟨rfl,H.out⟩
theorem zTH (hn:n≤1000) (M:zY w n p.S p.sh L) (O:Ok n p.S) {f g:Nat} (hf:p.sh[f]? =some true) (hg:p.sh[g]? =some true) (h1:p.sh[1]? =some true)
  (hs:((jP n (n+1) f 1 g p.S).2.ns.length+2)*24≤140737488355328):
  Calls Tryz.prog 51 #[.pointer (some ⟨L.b,0,none⟩), .int .i64 f, .int .i64 g] w (zGS n (zIm n p f 1 g) L w):=by
 have c:=Lib.hid (zIr (Lib.hid hn) (Lib.hid M) (Lib.hid O) (Lib.hid hf) (Lib.hid h1) (Lib.hid hg) (Lib.hid hs))
 clear hn M O hf h1 hg hs
 go_enter Tryz.func51,Tryz.ntmps51
 go_wp2_with fail
 refine c.out.mono ?_
 rintro e w1 ⟨rfl,h⟩
 have H:=Lib.hid h
 clear h
 go_wp2
 go_ret
 exact ⟨rfl,H.out⟩
theorem zSj (M:zY w n p.S p.sh L) (O:Ok n p.S) {v:Nat} (hv:v<n) (hs:((mk p.S.ns v 0 1).2.length+2)*24≤140737488355328):
  Calls Tryz.prog 79 #[.pointer (some ⟨L.b,0,none⟩), .int .i64 v] w (zGS n (zKc p v) L w):=by
 have c1:=Lib.hid (zLP L.b L.bo n L.co v w M.c0 hv)
 have c2:=Lib.hid (zOS M (v:=v) (lo:=0) (hi:=1) hs)
 have K:=Lib.hid (zOW O.wf hv (lo:=0) (hi:=1) (by omega) (by omega) (by rw [uH (by omega)];exact hv) (by rw [uH (by omega)];exact hv))
 clear M O hv hs
 go_enter Tryz.func79,Tryz.ntmps79
 go_wp2_with fail
 refine c1.out.mono ?_
 rintro e w' ⟨rfl,rfl⟩
 go_wp2_with fail
 refine c2.out.mono ?_
 rintro e w1 ⟨rfl,L1,M1',C1'⟩
 have M1:=Lib.hid M1'
 have C1:=Lib.hid C1'
 clear M1' C1'
 have cs:Hid (Calls Tryz.prog 72 #[.pointer (some ⟨L.b,0,none⟩), .int .i64 (mk p.S.ns v 0 1).1] w1 fun e w'=>e= .returned (.int .i64 (mk p.S.ns v 0 1).1)∧zY w' n ⟨(mk p.S.ns v 0 1).2,p.S.mm⟩ (zCl (grow p.sh (mk p.S.ns v 0 1).2.length) (mk p.S.ns v 0 1).1) L1∧Chg w1 w' L1 L1):=by
  have:=zOM M1.out K.out.lt
  rw [C1.out.same.1] at this
  exact Lib.hid this
 go_wp2_with fail
 refine cs.out.mono ?_
 rintro e w2 ⟨rfl,M2',C2'⟩
 have M2:=Lib.hid M2'
 have C2:=Lib.hid C2'
 clear M2' C2'
 go_wp2
 go_ret
 exact ⟨rfl,L1,M2.out,C1.out.trans C2.out⟩
end Go.Proofs.Bw

namespace Go.Proofs.Bw
open Go Go.Proofs Go.RowKit Go.Bd
set_option maxRecDepth 100000
variable {n:Nat} {S:St} {sh:List Bool} {L:Lo} {w:World}
theorem Old.refl {w:World} :Old w w:=⟨fun _ _=>rfl,Nat.le_refl _,rfl,rfl,rfl,Nat.le_refl _⟩
theorem Old.trans {w w' w'':World} (h:Old w w') (k:Old w' w''):Old w w'':=
 ⟨fun i hi=>(k.heap i (Nat.lt_of_lt_of_le hi h.size)).trans (h.heap i hi),Nat.le_trans h.size k.size,k.os.trans h.os,k.tape.trans h.tape,k.output.trans h.output,Nat.le_trans h.drawn k.drawn⟩
theorem Old.alloc1 {w:World} (o:Obj):Old w (w.alloc o):=Old.alloc o 0
set_option maxHeartbeats 800000 in
theorem zSU (M:Hid (zY w n S sh L)) (W:Hid (Wf n S.ns)) {f:Nat} (hf:Hid (sh[f]? =some true)) (al:List Bool) (ab ao ca:Nat) (hal:Hid (∀i b,al[i]? =some b→w.cell? ⟨ab,ao+i,none⟩=some (.bool b))) (hab:Hid (ab<w.heap.size)):
  Calls Tryz.prog 38 #[.pointer (some ⟨L.b,0,none⟩), .int .i64 f, .slice (some ⟨ab,ao,none⟩) al.length ca] w fun e w'=>e= .returned (.bool (den S.ns f (fun v=>al.getD v false)))∧Old w w':=by
 have c1:=Lib.hid (zBe (p:=⟨S,sh⟩) M.out hf.out)
 have hlt:=Lib.hid (zIE (p:=⟨S,sh⟩) M.out hf.out)
 go_enter Tryz.func38,Tryz.ntmps38
 go_wp2_with fail
 refine c1.out.mono ?_
 rintro e w' ⟨rfl,rfl⟩
 go_wp2
 go_loopg [1] f (fun g s1 wr=> ∃c:Nat,s1= .int .i64 c∧c<S.ns.length+2∧c≤g∧Hid (den S.ns c (fun v=>al.getD v false)=den S.ns f (fun v=>al.getD v false))∧Hid (Old w wr))
 case atStart=>exact ⟨f,rfl,hlt.out,Nat.le_refl _,Lib.hid rfl,Lib.hid .refl⟩
 case round=>
  obtain ⟨c,rfl,hc,hg,hden,hold⟩:=hrel
  by_cases h2:c<2
  ·have cc:=kJ c wr
   rw [show decide (c<2)=true by simpa using h2] at cc
   have CC:=Lib.hid cc
   clear cc
   by_cases h1:c=1
   ·have d1:((c:Int)==1)=true:=by simp [h1]
    have h1':=Lib.hid h1
    clear h1
    go_wp2_with fail
    refine CC.out.mono ?_
    rintro e w' ⟨rfl,rfl⟩
    go_wp2
    go_ret
    exact ⟨by rw [←hden.out,h1'.out,wT (by omega)];rfl,hold.out⟩
   ·have d1:((c:Int)==1)=false:=by simp;omega
    have h1':=Lib.hid h1
    clear h1
    go_wp2_with fail
    refine CC.out.mono ?_
    rintro e w' ⟨rfl,rfl⟩
    go_wp2
    go_ret
    exact ⟨by rw [←hden.out,wT h2,show c=0 by have:=h1'.out;omega];rfl,hold.out⟩
  ·have cc:=kJ c wr
   rw [show decide (c<2)=false by simpa using h2] at cc
   have CC:=Lib.hid cc
   clear cc
   obtain ⟨i,x,hi,hx⟩: ∃i x,c=i+2∧S.ns[i]? =some x:=(jH S.ns hc).resolve_left h2
   have HX:=Lib.hid hx
   have HI:=Lib.hid hi
   have Mr:=Lib.hid (M.out.keep hold.out.heap hold.out.size)
   have m2:=Mr.out.c2
   obtain ⟨n0,n1,n2⟩:=Mr.out.node hx
   rw [←hi] at n0 n1 n2
   have hlo:=(W.out.lo hx).1
   have hhi:=(W.out.hi hx).1
   have hb0:=Mr.out.lts.1
   clear hx hi
   go_wp2_with fail
   refine CC.out.mono ?_
   rintro e w' ⟨rfl,rfl⟩
   by_cases hv:x.1<al.length
   ·have hcell: ∀o:Obj,(wr.alloc o).cell? ⟨ab,ao+x.1,none⟩=some (.bool al[x.1]):=fun o=>by
     refine (World.cell?_of_block (a:=⟨ab,ao+x.1,none⟩) ((Old.alloc1 o).heap _ (Nat.lt_of_lt_of_le hab.out hold.out.size))).trans ?_
     exact (World.cell?_of_block (a:=⟨ab,ao+x.1,none⟩) (hold.out.heap _ hab.out)).trans (hal.out x.1 _ (by simp [hv]))
    have HB:Hid ((fun v=>al.getD v false) x.1=al[x.1]):=Lib.hid (by simp [hv])
    cases hbv:al[x.1] with
    |true=>
     rw [hbv] at hcell HB
     clear hbv
     go_wp2
     go_roundg (c-1)
     case measure=>omega
     case rel=>exact ⟨x.2.2,rfl,by have:=HI.out;omega,by have:=HI.out;omega,Lib.hid (by rw [←hden.out,HI.out,vZ W.out HX.out,if_pos HB.out]),Lib.hid (hold.out.trans (Old.alloc1 _))⟩
    |false=>
     rw [hbv] at hcell HB
     clear hbv
     go_wp2
     go_roundg (c-1)
     case measure=>omega
     case rel=>exact ⟨x.2.1,rfl,by have:=HI.out;omega,by have:=HI.out;omega,Lib.hid (by rw [←hden.out,HI.out,vZ W.out HX.out,if_neg (by rw [HB.out];exact Bool.false_ne_true)]),Lib.hid (hold.out.trans (Old.alloc1 _))⟩
   ·have HB:Hid ((fun v=>al.getD v false) x.1=false):=Lib.hid (by simp [hv])
    go_wp2
    go_roundg (c-1)
    case measure=>omega
    case rel=>exact ⟨x.2.1,rfl,by have:=HI.out;omega,by have:=HI.out;omega,Lib.hid (by rw [←hden.out,HI.out,vZ W.out HX.out,if_neg (by rw [HB.out];exact Bool.false_ne_true)]),Lib.hid (hold.out.trans (Old.alloc1 _))⟩
end Go.Proofs.Bw

namespace Go.Proofs.Bw
open Go Go.Proofs Go.RowKit Go.Bd
set_option maxRecDepth 100000
theorem info3:(Tryz.prog.info? 3).map (fun i=>(i.zero,i.size,i.bytes))=some (some (.int .i64 0),1,8):=by kernel_rfl
def upTo (v:Nat):List Value:=(List.range v).map (fun (i:Nat)=>Value.int .i64 i)
theorem zPo (v:Nat):upTo (v+1)=upTo v++[.int .i64 v]:=by simp [upTo,List.range_succ]
structure zDo (w wr:World) (N a b:Nat) (o l:Value):Prop where
 mb:wr.heap[N+5]? =some (.cells #[o,l, .slice (some ⟨N,0,none⟩) 2 2, .slice (some ⟨N+1,0,none⟩) 2 2, .slice none 0 0, .map (some (N+2)), .map (some (N+3)), .map (some (N+4))] 100 (0,0))
 ro:wr.ownsRow (N+6) 3 1 o a (upTo a)
 rl:wr.ownsRow (N+6) 3 1 l b (upTo b)
 ne: ∀x,o.ownBlock=some x→l.ownBlock≠some x
 b0:wr.heap[N]? =some (.cells #[.int .i64 (-1), .int .i64 0, .int .i64 0, .int .i64 (-1), .int .i64 0, .int .i64 0] 145 (0,0))
 b1:wr.heap[N+1]? =some (.cells #[.bool true, .bool true] 4 (0,0))
 b2:wr.heap[N+2]? =some (.map #[] 0)
 b3:wr.heap[N+3]? =some (.map #[] 0)
 b4:wr.heap[N+4]? =some (.map #[] 0)
 hN:N=w.heap.size
 size:N+6≤wr.heap.size
 old:Old w wr
structure zOy (wr W:World) (N a:Nat) (v v':Value):Prop where
 own:W.ownsRow (N+6) 3 1 v' (a+1) (upTo (a+1))
 blk: ∃g,v'.ownBlock=some g∧(v.ownBlock=some g∨wr.heap.size≤g)
 far: ∀i,i<wr.heap.size→i≠N+5→v.ownBlock≠some i→W.heap[i]? =wr.heap[i]?
 size:wr.heap.size≤W.heap.size
 os:W.os=wr.os
 tape:W.tape=wr.tape
 output:W.output=wr.output
 drawn:wr.drawn≤W.drawn
theorem pushed {wr w1:World} {N a g c B:Nat} {v:Value} (off:Nat) (hB:N+5=B) (hown:w1.ownsRow (N+6) 3 1 (.slice (some ⟨g,0,none⟩) (a+1) c) (a+1) (upTo a++[.int .i64 a])) (hg:(wr.alloc (.cells #[.int .i64 a] 3)).grownBy w1 v.ownBlock) (hd:wr.drawn≤w1.drawn)
  (hat:v.ownBlock=some g∨g=wr.heap.size+1) (hr:wr.ownsRow (N+6) 3 1 v a (upTo a)) (hN:N+6≤wr.heap.size):
  zOy wr (w1.setCell ⟨B,off,none⟩ (.slice (some ⟨g,0,none⟩) (a+1) c)) N a v (.slice (some ⟨g,0,none⟩) (a+1) c):=by
 subst hB
 have hs:(wr.alloc (.cells #[.int .i64 a] 3)).heap.size=wr.heap.size+1:=by show (wr.heap.push _).size=_;simp
 have hge:N+6≤g:=by
  rcases hat with h|h
  ·exact (hr.lt g h).1
  ·omega
 refine ⟨?_,⟨g,rfl,hat.imp id (fun h=>by omega)⟩,fun i hi h1 h2=> ?_,?_,hg.os,hg.tape,hg.output,hd⟩
 ·rw [zPo]
  refine zV hown (fun g' hg'=> ?_)
  have:g=g':=Option.some.inj hg'
  subst this
  exact jN (by show N+5≠g;omega)
 ·refine (jN (fun h=>h1 h.symm)).trans ((hg.block i (by omega) (fun h=>h2 h.symm)).trans ?_)
  exact alloc_old (w:=wr) hi
 ·rw [zU]
  have:=hg.size
  omega
theorem zDo.push0 {w wr W:World} {N a b:Nat} {o l o':Value} (R:zDo w wr N a b o l) (P:zOy wr W N a o o')
  (hb: ∀C T,wr.heap[N+5]? =some (.cells C T (0,0))→W.heap[N+5]? =some (.cells (C.setIfInBounds 0 o') T (0,0))):zDo w W N (a+1) b o' l:=by
 have h1: ∀i,i<N+6→o.ownBlock≠some i:=fun i hi h=>by have:=(R.ro.lt i h).1;omega
 have hs:=R.size
 have far: ∀i,i<N+5→W.heap[i]? =wr.heap[i]? :=fun i hi=>P.far i (by omega) (by omega) (h1 i (by omega))
 obtain ⟨g,hg,hg2⟩:=P.blk
 refine ⟨hb _ _ R.mb,P.own,zV R.rl (fun x hx=> ?_),fun x hx hl=> ?_,(far _ (by omega)).trans R.b0,(far _ (by omega)).trans R.b1,(far _ (by omega)).trans R.b2,(far _ (by omega)).trans R.b3,(far _ (by omega)).trans R.b4,R.hN,Nat.le_trans R.size P.size,?_⟩
 ·have hx2:=R.rl.lt x hx
  exact P.far x hx2.2 (by omega) (fun h=>R.ne x h hx)
 ·rw [hg] at hx
  cases hx
  rcases hg2 with h|h
  ·exact R.ne g h hl
  ·have:=(R.rl.lt g hl).2;omega
 ·have hN:=R.hN
  exact ⟨fun i hi=>(far i (by omega)).trans (R.old.heap i hi),Nat.le_trans R.old.size P.size,P.os.trans R.old.os,P.tape.trans R.old.tape,P.output.trans R.old.output,Nat.le_trans R.old.drawn P.drawn⟩
theorem zDo.push1 {w wr W:World} {N a b:Nat} {o l l':Value} (R:zDo w wr N a b o l) (P:zOy wr W N b l l')
  (hb: ∀C T,wr.heap[N+5]? =some (.cells C T (0,0))→W.heap[N+5]? =some (.cells (C.setIfInBounds 1 l') T (0,0))):zDo w W N a (b+1) o l':=by
 have h1: ∀i,i<N+6→l.ownBlock≠some i:=fun i hi h=>by have:=(R.rl.lt i h).1;omega
 have hs:=R.size
 have far: ∀i,i<N+5→W.heap[i]? =wr.heap[i]? :=fun i hi=>P.far i (by omega) (by omega) (h1 i (by omega))
 obtain ⟨g,hg,hg2⟩:=P.blk
 refine ⟨hb _ _ R.mb,zV R.ro (fun x hx=> ?_),P.own,fun x hx hl=> ?_,(far _ (by omega)).trans R.b0,(far _ (by omega)).trans R.b1,(far _ (by omega)).trans R.b2,(far _ (by omega)).trans R.b3,(far _ (by omega)).trans R.b4,R.hN,Nat.le_trans R.size P.size,?_⟩
 ·have hx2:=R.ro.lt x hx
  exact P.far x hx2.2 (by omega) (R.ne x hx)
 ·rw [hg] at hl
  cases hl
  rcases hg2 with h|h
  ·exact R.ne g hx h
  ·have:=(R.ro.lt g hx).2;omega
 ·have hN:=R.hN
  exact ⟨fun i hi=>(far i (by omega)).trans (R.old.heap i hi),Nat.le_trans R.old.size P.size,P.os.trans R.old.os,P.tape.trans R.old.tape,P.output.trans R.old.output,Nat.le_trans R.old.drawn P.drawn⟩
theorem newAt (u:World) (o:Obj) {i:Nat} (h:i=u.heap.size):(u.alloc o).heap[i]? =some o:=by
 subst h
 show (u.heap.push o)[u.heap.size]? =_
 simp
theorem zLW {n i:Nat} (h:i<n):(upTo n)[i]? =some (.int .i64 i):=by simp [upTo,h]
theorem zRh {w wr:World} {n:Nat} {o l:Value} (h0:0<n) (R:zDo w wr w.heap.size n n o l):
  ∃L:Lo,L.b=w.heap.size+5∧zY wr n ⟨[],[]⟩ [true,true] L∧w.heap.size≤L.b∧w.heap.size≤L.bn∧w.heap.size≤L.bs∧w.heap.size≤L.bu∧w.heap.size≤L.bm∧w.heap.size≤L.bo∧w.heap.size≤L.bl:=by
 obtain ⟨go,co,rfl,hgo,hgo2⟩:=R.ro.form h0
 obtain ⟨gl,cl,rfl,hgl,hgl2⟩:=R.rl.form h0
 have hs:=R.size
 have hne:go≠gl:=fun h=>R.ne go rfl (by rw [h];rfl)
 refine ⟨⟨w.heap.size+5,go,gl,w.heap.size,w.heap.size+1,w.heap.size+2,w.heap.size+3,w.heap.size+4,co,cl,2,2⟩,rfl,⟨R.mb,fun v hv=> ?_,fun v hv=> ?_,?_,?_,R.b2,R.b3,⟨hgo2,hgl2⟩,?_⟩,Nat.le_add_right _ _,Nat.le_refl _,Nat.le_add_right _ _,Nat.le_add_right _ _,Nat.le_add_right _ _,Nat.le_trans (Nat.le_add_right _ 6) hgo,Nat.le_trans (Nat.le_add_right _ 6) hgl⟩
 ·have:=R.ro.cells (g:=go) rfl v _ (zLW hv)
  rwa [Addr.add_lit,Nat.zero_add] at this
 ·have:=R.rl.cells (g:=gl) rfl v _ (zLW hv)
  rwa [Addr.add_lit,Nat.zero_add] at this
 ·exact ⟨rfl, .inr ⟨_,2,_,rfl,Nat.zero_le _,R.b0,Nat.le_refl _,by unfold maxLen;omega,rfl,rfl⟩⟩
 ·exact ⟨rfl, .inr ⟨_,2,_,rfl,Nat.zero_le _,R.b1,Nat.le_refl _,by unfold maxLen;omega,rfl,rfl⟩⟩
 ·simp only
  have a1:w.heap.size+6≤go:=hgo
  have a2:w.heap.size+6≤gl:=hgl
  refine ⟨?_,?_,?_,?_,?_,?_,?_,?_,?_,?_,?_,?_,?_,?_,?_,?_,?_,?_,?_,?_⟩<;>omega
def zTd (n:Nat) (w:World) (e:Ending) (w':World):Prop:=
 ∃L,e= .returned (.pointer (some ⟨L.b,0,none⟩))∧zY w' n ⟨[],[]⟩ [true,true] L∧Old w w'∧(w.heap.size≤L.b∧w.heap.size≤L.bn∧w.heap.size≤L.bs∧w.heap.size≤L.bu∧w.heap.size≤L.bm∧w.heap.size≤L.bo∧w.heap.size≤L.bl)
set_option maxHeartbeats 3200000 in
theorem zTJ (n:Nat) (w:World) (h0:Hid (0<n)) (hn:n≤256):Calls Tryz.prog 34 #[.int .i64 n] w (zTd n w):=by
 have hmm:= @run_makeMap Tryz.prog
 obtain ⟨i0,hi0,hz0,hz1,hz2⟩:=info_parts info3
 have HI:=Lib.hid hi0
 have HZ:=Lib.hid (And.intro hz0 (And.intro hz1 hz2))
 clear hi0 hz0 hz1 hz2
 go_enter Tryz.func34,Tryz.ntmps34
 go_wp2
 clear hmm
 have H0:Hid (∀W:World,W=(((((w.alloc (.cells #[.int .i64 (-1), .int .i64 0, .int .i64 0, .int .i64 (-1), .int .i64 0, .int .i64 0] 145)).alloc (.cells #[.bool true, .bool true] 4)).alloc (.map #[] 0)).alloc (.map #[] 0)).alloc (.map #[] 0)).alloc (.cells #[.slice none 0 0, .slice none 0 0, .slice (some ⟨w.heap.size,0,none⟩) 2 2, .slice (some ⟨w.heap.size+1,0,none⟩) 2 2, .slice none 0 0, .map (some (w.heap.size+1+1)), .map (some (w.heap.size+1+1+1)), .map (some (w.heap.size+1+1+1+1))] 100)→
   zDo w W w.heap.size 0 0 (.slice none 0 0) (.slice none 0 0)):=Lib.hid (by
  rintro W rfl
  have hsz: ∀ (u:World) (o:Obj),(u.alloc o).heap.size=u.heap.size+1:=fun u o=>by show (u.heap.push o).size=_;simp
  have hnew: ∀ (u:World) (o:Obj),(u.alloc o).heap[u.heap.size]? =some o:=fun u o=>by show (u.heap.push o)[u.heap.size]? =_;simp
  have hold: ∀ (u:World) (o:Obj) (i:Nat),i<u.heap.size→(u.alloc o).heap[i]? =u.heap[i]? :=fun u o i hi=>alloc_old (w:=u) hi
  refine ⟨?_,World.ownsRow_nil _ _ _ _,World.ownsRow_nil _ _ _ _,fun x hx=>by simp [Value.ownBlock] at hx,?_,?_,?_,?_,?_,rfl,?_,?_⟩
  ·exact newAt _ _ (by simp only [hsz])
  ·rw [hold _ _ _ (by simp only [hsz];omega),hold _ _ _ (by simp only [hsz];omega),hold _ _ _ (by simp only [hsz];omega),hold _ _ _ (by simp only [hsz];omega),hold _ _ _ (by simp only [hsz];omega)]
   exact newAt _ _ rfl
  ·rw [hold _ _ _ (by simp only [hsz];omega),hold _ _ _ (by simp only [hsz];omega),hold _ _ _ (by simp only [hsz];omega),hold _ _ _ (by simp only [hsz];omega)]
   exact newAt _ _ (by simp only [hsz])
  ·rw [hold _ _ _ (by simp only [hsz];omega),hold _ _ _ (by simp only [hsz];omega),hold _ _ _ (by simp only [hsz];omega)]
   exact newAt _ _ (by simp only [hsz])
  ·rw [hold _ _ _ (by simp only [hsz];omega),hold _ _ _ (by simp only [hsz];omega)]
   exact newAt _ _ (by simp only [hsz])
  ·rw [hold _ _ _ (by simp only [hsz];omega)]
   exact newAt _ _ (by simp only [hsz])
  ·simp only [hsz];omega
  ·exact (((((Old.alloc1 _).trans (Old.alloc1 _)).trans (Old.alloc1 _)).trans (Old.alloc1 _)).trans (Old.alloc1 _)).trans (Old.alloc1 _))
 generalize (((((w.alloc (.cells #[.int .i64 (-1), .int .i64 0, .int .i64 0, .int .i64 (-1), .int .i64 0, .int .i64 0] 145)).alloc (.cells #[.bool true, .bool true] 4)).alloc (.map #[] 0)).alloc (.map #[] 0)).alloc (.map #[] 0)).alloc (.cells #[.slice none 0 0, .slice none 0 0, .slice (some ⟨w.heap.size,0,none⟩) 2 2, .slice (some ⟨w.heap.size+1,0,none⟩) 2 2, .slice none 0 0, .map (some (w.heap.size+1+1)), .map (some (w.heap.size+1+1+1)), .map (some (w.heap.size+1+1+1+1))] 100)=W0 at*
 have R0:=Lib.hid (H0.out W0 rfl)
 clear H0
 generalize hB:w.heap.size+1+1+1+1+1=B
 have HB:=Lib.hid hB
 clear hB
 go_loopg [19] n (fun g s19 wr=> ∃v:Nat,s19= .int .i64 v∧v≤n∧n-v≤g∧ ∃o l,Hid (zDo w wr w.heap.size v v o l))
 case atStart=>exact ⟨0,rfl,Nat.zero_le _,by omega,_,_,R0⟩
 case round=>
  obtain ⟨v,rfl,hv,hg,o,l,R⟩:=hrel
  by_cases hlt:v<n
  ·have hBn:Hid (w.heap.size+5=B):=Lib.hid HB.out
   have hmb:=R.out.mb
   rw [hBn.out] at hmb
   have hBlt:Hid (B<wr.heap.size):=Lib.hid (by have:=R.out.size;have:=hBn.out;omega)
   have c0:wr.cell? ⟨B,0,none⟩=some o:=by rw [cell_of_row wr B 0 _ _ _ hmb];rfl
   have c1:wr.cell? ⟨B,1,none⟩=some l:=by rw [cell_of_row wr B 1 _ _ _ hmb];rfl
   have hMB:=Lib.hid hmb
   clear hmb
   have hfz:Hid (∀i,wr.frozen? ⟨B,i,none⟩=false):=Lib.hid (fun i=>by simp only [World.frozen?,hMB.out];simp)
   have hX0:Hid (∀ob:Obj,(wr.alloc ob).heap[B]? =wr.heap[B]? ∧B< (wr.alloc ob).heap.size):=Lib.hid (fun ob=>⟨alloc_old (w:=wr) hBlt.out,by show B< (wr.heap.push ob).size;rw [Array.size_push];have:=hBlt.out;omega⟩)
   have hno:Hid (some B≠o.ownBlock):=Lib.hid (fun h=>by have:=(R.out.ro.lt B h.symm).1;have:=hBn.out;omega)
   have hnl:Hid (some B≠l.ownBlock):=Lib.hid (fun h=>by have:=(R.out.rl.lt B h.symm).1;have:=hBn.out;omega)
   have hbase:Hid (∀ob:Obj,w.heap.size+6≤(wr.alloc ob).heap.size):=Lib.hid (fun ob=>by show _≤(wr.heap.push ob).size;rw [Array.size_push];have:=R.out.size;omega)
   go_wp2_with (first
    |(at_builtin;refine zAE (by rfl) _ _ _ (by rfl) (w.heap.size+6) 3 i0 (.int .i64 0) 1 8 Tryz.underlying92 HI.out HZ.out.1 HZ.out.2.1 HZ.out.2.2 rfl (by decide) o v (upTo v) (by rfl) (R.out.ro.alloc _) ⟨wr.heap.size,0,none⟩ 1 1 [.int .i64 v] (by rfl) (by rfl) (World.news_of_block (cs:= #[.int .i64 v]) (t:=3) (fr:=(0,0)) (heap_alloc_new wr _)) (by simp [Value.oneCell']) (by decide) (by unfold maxLen;omega) (by omega) (hbase.out _) (wr.heap.size+1) (by simp) ?_;intro g1 d1 w1 hown1 hgd1 hat1 hlt1;have HP1:=Lib.hid (pushed 0 hBn.out hown1 hgd1.1 hgd1.2 hat1 R.out.ro R.out.size);have HB1:Hid (w1.heap[B]? =wr.heap[B]?):=Lib.hid ((hgd1.1.block B (hX0.out _).2 hno.out).trans (hX0.out _).1);have e0:w1.cell? ⟨B,0,none⟩=some o:=(World.cell?_of_block (a:=⟨B,0,none⟩) HB1.out).trans c0;have e1:w1.cell? ⟨B,1,none⟩=some l:=(World.cell?_of_block (a:=⟨B,1,none⟩) HB1.out).trans c1;have z0:w1.frozen? ⟨B,0,none⟩=false:=(World.frozen?_of_block (a:=⟨B,0,none⟩) HB1.out).trans (hfz.out 0);have z1:w1.frozen? ⟨B,1,none⟩=false:=(World.frozen?_of_block (a:=⟨B,1,none⟩) HB1.out).trans (hfz.out 1);have R2:=Lib.hid (R.out.push0 HP1.out (fun C T hC=>by rw [hBn.out] at hC ⊢;exact vE (HB1.out.trans hC)));clear hown1 hgd1 hat1 c0 c1)
    |(at_builtin;refine zAE (by rfl) _ _ _ (by rfl) (w.heap.size+6) 3 i0 (.int .i64 0) 1 8 Tryz.underlying92 HI.out HZ.out.1 HZ.out.2.1 HZ.out.2.2 rfl (by decide) l v (upTo v) (by rfl) (R2.out.rl.alloc _) ⟨w1.heap.size,0,none⟩ 1 1 [.int .i64 v] (by rfl) (by rfl) (World.news_of_block (cs:= #[.int .i64 v]) (t:=3) (fr:=(0,0)) (by rw [←zU (w:=w1) (a:=⟨B,0,none⟩) (v:= .slice (some ⟨g1,0,none⟩) (v+1) d1)];exact heap_alloc_new _ _)) (by simp [Value.oneCell']) (by decide) (by unfold maxLen;omega) (by omega) (by have:=R2.out.size;show _≤(Array.push _ _).size;rw [Array.size_push];omega) (w1.heap.size+1) (by simp [zU]) ?_;intro g2 d2 w2 hown2 hgd2 hat2 hlt2;have HP2:=Lib.hid (pushed (wr:=(w1.setCell ⟨B,0,none⟩ (.slice (some ⟨g1,0,none⟩) (v+1) d1))) 1 hBn.out hown2 hgd2.1 hgd2.2 (by rw [zU];exact hat2) R2.out.rl R2.out.size);have HB2:Hid (w2.heap[B]? =(w1.setCell ⟨B,0,none⟩ (.slice (some ⟨g1,0,none⟩) (v+1) d1)).heap[B]?):=Lib.hid ((hgd2.1.block B (by show B< (Array.push _ _).size;rw [Array.size_push,zU];have:=hlt1;have:=HB1.out;have:=hBlt.out;have:=HP1.out.size;rw [zU] at this;omega) hnl.out).trans (alloc_old (w:=(w1.setCell ⟨B,0,none⟩ (.slice (some ⟨g1,0,none⟩) (v+1) d1))) (by rw [zU];have:=hBlt.out;have:=HP1.out.size;rw [zU] at this;omega)));have q1:w2.cell? ⟨B,1,none⟩=some l:=(World.cell?_of_block (a:=⟨B,1,none⟩) HB2.out).trans ((World.cell?_setCell_other _ _ _ _ (by simp)).trans e1);have y1:w2.frozen? ⟨B,1,none⟩=false:=(World.frozen?_of_block (a:=⟨B,1,none⟩) HB2.out).trans (by rw [World.frozen?_setCell];exact z1);have R3:=Lib.hid (R2.out.push1 HP2.out (fun C T hC=>by rw [hBn.out] at hC ⊢;exact vE (HB2.out.trans hC)));clear hown2 hgd2 hat2)
    |go_in)
   go_roundg (n- (v+1))
   case measure=>omega
   case rel=>exact ⟨v+1,by go_num,by omega,Nat.le_refl _,_,_,R3⟩
  ·have hvn:v=n:=by omega
   subst hvn
   obtain ⟨L,hL,hM,hb⟩:=zRh h0.out R.out
   have HL:=Lib.hid (And.intro hL (And.intro hM hb))
   clear hL hM hb
   go_wp2
   go_ret
   have hLB:L.b=B:=HL.out.1.trans HB.out
   exact ⟨L,by rw [hLB];rfl,HL.out.2.1,R.out.old,HL.out.2.2⟩
end Go.Proofs.Bw

namespace Go.Proofs.Bw
open Go Go.Proofs Go.RowKit Go.Bd
set_option maxRecDepth 100000
theorem zTQ:zR7 Tryz.prog 112 55 where
 und:=⟨4,by kernel_rfl,fun w=>by kernel_rfl⟩
 key:=by kernel_rfl
 chk:=fun e f w=>by cases e<;>kernel_rfl
def wkF (ns:List Nd):Nat→Nat→List Nat→List Nat
 |0,_,seen=>seen
 |k+1,f,seen=>if f<2 then seen else if f∈seen then seen else match ns[f-2]? with
  |some x=>wkF ns k x.2.2 (wkF ns k x.2.1 (seen++[f]))
  |none=>seen
theorem zKX (ns:List Nd): ∀ (k f:Nat) (seen:List Nat),seen.length≤(wkF ns k f seen).length
 |0,_,seen=>Nat.le_refl _
 |k+1,f,seen=>by
  simp only [wkF]
  split
  ·exact Nat.le_refl _
  ·split
   ·exact Nat.le_refl _
   ·split
    ·rename_i x _
     have h1:=zKX ns k x.2.1 (seen++[f])
     have h2:=zKX ns k x.2.2 (wkF ns k x.2.1 (seen++[f]))
     simp only [List.length_append,List.length_singleton] at h1
     omega
    ·exact Nat.le_refl _
structure Two (w w':World) (sb nb:Nat):Prop where
 rest: ∀i,i<w.heap.size→i≠sb→i≠nb→w'.heap[i]? =w.heap[i]?
 size:w.heap.size≤w'.heap.size
 os:w'.os=w.os
 tape:w'.tape=w.tape
 output:w'.output=w.output
 drawn:w.drawn≤w'.drawn
theorem Two.trans {w w' w'':World} {sb nb:Nat} (h:Two w w' sb nb) (k:Two w' w'' sb nb):Two w w'' sb nb:=
 ⟨fun i hi h1 h2=>(k.rest i (Nat.lt_of_lt_of_le hi h.size) h1 h2).trans (h.rest i hi h1 h2),Nat.le_trans h.size k.size,k.os.trans h.os,k.tape.trans h.tape,k.output.trans h.output,Nat.le_trans h.drawn k.drawn⟩
theorem Two.refl {w:World} {sb nb:Nat} :Two w w sb nb:=⟨fun _ _ _ _=>rfl,Nat.le_refl _,rfl,rfl,rfl,Nat.le_refl _⟩
def Apart (L:Lo) (sb nb:Nat):Prop:= ∀i,i=L.b∨i=L.bo∨i=L.bl∨i=L.bn∨i=L.bs∨i=L.bu∨i=L.bm→i≠sb∧i≠nb
theorem zY.two {w w':World} {n:Nat} {S:St} {sh:List Bool} {L:Lo} {sb nb:Nat} (M:zY w n S sh L) (A:Apart L sb nb) (T:Two w w' sb nb):zY w' n S sh L:=by
 obtain ⟨l1,l2,l3,l4,l5⟩:=M.lts
 have hl:=M.lt
 have far: ∀i,(i=L.b∨i=L.bo∨i=L.bl∨i=L.bn∨i=L.bs∨i=L.bu∨i=L.bm)→i<w.heap.size→w'.heap[i]? =w.heap[i]? :=fun i hi hlt=>T.rest i hlt (A i hi).1 (A i hi).2
 refine ⟨(far _ (by simp) l1).trans M.mb,fun v hv=>(World.cell?_of_block (a:=⟨L.bo,v,none⟩) (far _ (by simp) hl.1)).trans (M.ord v hv),fun v hv=>(World.cell?_of_block (a:=⟨L.bl,v,none⟩) (far _ (by simp) hl.2)).trans (M.lev v hv),
  zV M.rn (fun g hg=> ?_),zV M.rs (fun g hg=> ?_),(far _ (by simp) l4).trans M.mu,(far _ (by simp) l5).trans M.mm,⟨Nat.lt_of_lt_of_le hl.1 T.size,Nat.lt_of_lt_of_le hl.2 T.size⟩,M.d⟩
 ·have:L.bn=g:=Option.some.inj hg
  subst this;exact far _ (by simp) l2
 ·have:L.bs=g:=Option.some.inj hg
  subst this;exact far _ (by simp) l3
theorem count_one (f nb c:Nat) (w:World) (h:w.cell? ⟨nb,0,none⟩=some (.int .i64 c)) (hz:w.frozen? ⟨nb,0,none⟩=false) (hc:c≤1000000000):
  Calls Tryz.prog 48 #[.int .i64 f, .pointer (some ⟨nb,0,none⟩)] w fun e w'=>e= .returned (.tuple #[])∧w.setCell ⟨nb,0,none⟩ (.int .i64 (c+1:Nat))=w':=by
 go_enter Tryz.func48,Tryz.ntmps48
 go_wp2
 go_end0
 exact ⟨rfl,rfl⟩
def zJQ (sb nb c:Nat) (seen seen':List Nat) (w:World) (e:Ending) (w':World):Prop:=
 e= .returned (.tuple #[])∧w'.heap[sb]? =some (.map (kM 0 seen').toArray seen'.length)∧w'.heap[nb]? =some (.cells #[.int .i64 (c+(seen'.length-seen.length):Nat)] 3 (0,0))∧Two w w' sb nb
theorem zQq (m x y:Value) (f:Nat) (hf:f<2) (w:World):Calls Tryz.prog 47 #[m, .int .i64 f,x,y] w fun e w'=>e= .returned (.tuple #[])∧w=w':=by
 have cc:=kJ f w
 rw [show decide (f<2)=true by simpa using hf] at cc
 have CC:=Lib.hid cc
 clear cc
 go_enter Tryz.func47,Tryz.ntmps47
 go_wp2_with fail
 refine CC.out.mono ?_
 rintro e w' ⟨rfl,rfl⟩
 go_wp2
 exact bodyPost_ret (results_none (by rfl) _ _ _) rfl ⟨rfl,rfl⟩
theorem zPm (m y:Value) (sb ck f:Nat) (hf: ¬f<2) (seen:List Nat) (hs:f∈seen) (w:World) (h:w.heap[sb]? =some (.map (kM 0 seen).toArray ck)):
  Calls Tryz.prog 47 #[m, .int .i64 f, .map (some sb),y] w fun e w'=>e= .returned (.tuple #[])∧w=w':=by
 have cc:=kJ f w
 rw [show decide (f<2)=false by simpa using hf] at cc
 have CC:=Lib.hid cc
 clear cc
 have hlk:=zTQ.lookup f h
 rw [show decide (f∈seen)=true by simpa using hs] at hlk
 clear h hs hf
 go_enter Tryz.func47,Tryz.ntmps47
 go_wp2_with fail
 refine CC.out.mono ?_
 rintro e w' ⟨rfl,rfl⟩
 go_wp2
 exact bodyPost_ret (results_none (by rfl) _ _ _) rfl ⟨rfl,rfl⟩
set_option maxHeartbeats 1600000 in
theorem zPl {n : Nat} (k : Nat) (IH : Hid (∀ (f c : Nat) (seen : List Nat) (w : World) (S : St) (sh : List Bool) (L : Lo) (sb nb : Nat), f < k → zY w n S sh L → Wf n S.ns → f < S.ns.length + 2 → Apart L sb nb → sb ≠ nb →
   w.heap[sb]? =some (.map (kM 0 seen).toArray seen.length)→w.heap[nb]? =some (.cells #[.int .i64 c] 3 (0,0))→c+(wkF S.ns k f seen).length≤1000000000+seen.length→
   Calls Tryz.prog 47 #[.pointer (some ⟨L.b,0,none⟩), .int .i64 f, .map (some sb), .func (.func 48) #[] #[.pointer (some ⟨nb,0,none⟩)]] w (zJQ sb nb c seen (wkF S.ns k f seen) w)))
  (f c:Nat) (seen:List Nat) (w:World) (S:St) (sh:List Bool) (L:Lo) (sb nb:Nat) (hk:Hid (f<k+1)) (M:Hid (zY w n S sh L)) (W:Hid (Wf n S.ns)) (hf:Hid (f<S.ns.length+2)) (A:Hid (Apart L sb nb)) (hne:Hid (sb≠nb))
  (hs:Hid (w.heap[sb]? =some (.map (kM 0 seen).toArray seen.length))) (hc:Hid (w.heap[nb]? =some (.cells #[.int .i64 c] 3 (0,0)))) (hb:Hid (c+(wkF S.ns (k+1) f seen).length≤1000000000+seen.length)):
  Calls Tryz.prog 47 #[.pointer (some ⟨L.b,0,none⟩), .int .i64 f, .map (some sb), .func (.func 48) #[] #[.pointer (some ⟨nb,0,none⟩)]] w (zJQ sb nb c seen (wkF S.ns (k+1) f seen) w):=by
 by_cases h2:f<2
 ·have hw:wkF S.ns (k+1) f seen=seen:=by simp only [wkF,if_pos h2]
  rw [hw]
  refine (zQq _ _ _ f h2 w).mono ?_
  rintro e w' ⟨rfl,rfl⟩
  exact ⟨rfl,hs.out,by rw [Nat.sub_self];exact hc.out, .refl⟩
 ·by_cases hm:f∈seen
  ·have hw:wkF S.ns (k+1) f seen=seen:=by simp only [wkF,if_neg h2,if_pos hm]
   rw [hw]
   refine (zPm _ _ sb _ f h2 seen hm w hs.out).mono ?_
   rintro e w' ⟨rfl,rfl⟩
   exact ⟨rfl,hs.out,by rw [Nat.sub_self];exact hc.out, .refl⟩
  ·obtain ⟨i,x,hi,hx⟩: ∃i x,f=i+2∧S.ns[i]? =some x:=(jH S.ns hf.out).resolve_left h2
   have HW:Hid (wkF S.ns (k+1) f seen=wkF S.ns k x.2.2 (wkF S.ns k x.2.1 (seen++[f]))):=Lib.hid (by simp only [wkF,if_neg h2,if_neg hm];rw [show f-2=i by omega,hx])
   have HX:=Lib.hid hx
   have HI:=Lib.hid hi
   have cc:=kJ f w
   rw [show decide (f<2)=false by simpa using h2] at cc
   have CC:=Lib.hid cc
   have hlk:=zTQ.lookup f hs.out
   rw [show decide (f∈seen)=false by simpa using hm] at hlk
   have hmu:=zTQ.update f hm hs.out
   have HM:=Lib.hid hm
   have hsb:sb<w.heap.size:=zIs hs.out
   have T1:Two w (Ve.setBlk w sb (.map (kM 0 (seen++[f])).toArray (seen++[f]).length)) sb nb:=
    ⟨fun i _ h1 _=>xF h1,by show _≤(w.heap.setIfInBounds _ _).size;rw [Array.size_setIfInBounds];exact Nat.le_refl _,rfl,rfl,rfl,Nat.le_refl _⟩
   have hs1:=zDS (o:= .map (kM 0 (seen++[f])).toArray (seen++[f]).length) hsb
   have hc1:(Ve.setBlk w sb (.map (kM 0 (seen++[f])).toArray (seen++[f]).length)).heap[nb]? =some (.cells #[.int .i64 c] 3 (0,0)):=(xF (fun h=>hne.out h.symm)).trans hc.out
   generalize Ve.setBlk w sb (.map (kM 0 (seen++[f])).toArray (seen++[f]).length)=W1 at*
   have M1:=M.out.two A.out T1
   have c2:=M1.c2
   obtain ⟨n0,n1,n2⟩:=M1.node hx
   rw [←hi] at n0 n1 n2
   have hx1:=(W.out.lo hx)
   have hx2:=(W.out.hi hx)
   have hlen:=(List.getElem?_eq_some_iff.1 hx).1
   have l1:=zKX S.ns k x.2.1 (seen++[f])
   have l2:=zKX S.ns k x.2.2 (wkF S.ns k x.2.1 (seen++[f]))
   have l3:(seen++[f]).length=seen.length+1:=by simp
   have hb':=hb.out
   rw [HW.out] at hb'
   have hk':=hk.out
   have CLO:=Lib.hid (IH.out x.2.1 c (seen++[f]) W1 S sh L sb nb (by omega) M1 W.out (by omega) A.out hne.out hs1 hc1 (by omega))
   have HT1:=Lib.hid T1
   have HM1:=Lib.hid M1
   have L1:=Lib.hid l1
   have L2:=Lib.hid l2
   have L3:=Lib.hid l3
   have HB:=Lib.hid hb'
   have HX1:=Lib.hid hx1
   have HX2:=Lib.hid hx2
   have flt:f<S.ns.length+2:=hf.out
   have HLEN:=Lib.hid hlen
   clear cc hi hx hm T1 M1 hs1 hc1 l1 l2 l3 hb' hk' hx1 hx2 hlen
   go_enter Tryz.func47,Tryz.ntmps47
   go_wp2_with fail
   refine CC.out.mono ?_
   rintro e w' ⟨rfl,rfl⟩
   go_wp2_with fail
   refine CLO.out.mono ?_
   rintro e W2 ⟨rfl,a1,a2,a3⟩
   have A1:=Lib.hid a1
   have A2:=Lib.hid a2
   have A3:=Lib.hid a3
   clear a1 a2 a3 c2 n0 n1 n2
   have M2:=Lib.hid (HM1.out.two A.out A3.out)
   have c2:=M2.out.c2
   obtain ⟨n0,n1,n2⟩:=M2.out.node HX.out
   rw [←HI.out] at n0 n1 n2
   have CHI:=Lib.hid (IH.out x.2.2 (c+((wkF S.ns k x.2.1 (seen++[f])).length- (seen++[f]).length)) (wkF S.ns k x.2.1 (seen++[f])) W2 S sh L sb nb (by have:=HX2.out;have:=hk.out;have:=HI.out;omega) M2.out W.out (by have:=HX2.out;have:=HLEN.out;omega) A.out hne.out A1.out A2.out (by have:=L1.out;have:=L2.out;have:=L3.out;have:=HB.out;omega))
   go_wp2_with fail
   refine CHI.out.mono ?_
   rintro e W3 ⟨rfl,b1,b2,b3⟩
   have B1:=Lib.hid b1
   have B2:=Lib.hid b2
   have B3:=Lib.hid b3
   clear b1 b2 b3 c2 n0 n1 n2
   have hcn:W3.cell? ⟨nb,0,none⟩=some (.int .i64 ((c+((wkF S.ns k x.2.1 (seen++[f])).length- (seen++[f]).length)+((wkF S.ns k x.2.2 (wkF S.ns k x.2.1 (seen++[f]))).length- (wkF S.ns k x.2.1 (seen++[f])).length):Nat))):=by rw [cell_of_row W3 nb 0 _ _ _ B2.out];rfl
   have hzn:W3.frozen? ⟨nb,0,none⟩=false:=by simp only [World.frozen?,B2.out];simp
   have CCN:=Lib.hid (count_one f nb _ W3 hcn hzn (by have:=L1.out;have:=L2.out;have:=L3.out;have:=HB.out;omega))
   clear hcn hzn
   go_wp2_with fail
   refine CCN.out.mono ?_
   rintro e W4 ⟨rfl,hw4⟩
   have H4:=Lib.hid hw4
   clear hw4
   go_wp2
   go_end0
   rw [HW.out]
   refine ⟨rfl,?_,?_,(HT1.out.trans (A3.out.trans B3.out)).trans ⟨fun i _ _ h=>by rw [←H4.out];exact jN (fun hh=>h hh.symm),by rw [←H4.out,zU];exact Nat.le_refl _,by rw [←H4.out];rfl,by rw [←H4.out];rfl,by rw [←H4.out];rfl,by rw [←H4.out];exact Nat.le_refl _⟩⟩
   ·rw [←H4.out]
    exact (jN (fun hh=>hne.out hh.symm)).trans B1.out
   ·rw [←H4.out]
    refine (vE B2.out).trans ?_
    have l1:=L1.out
    have l2:=L2.out
    have l3:=L3.out
    have e:(c+((wkF S.ns k x.2.1 (seen++[f])).length- (seen++[f]).length)+((wkF S.ns k x.2.2 (wkF S.ns k x.2.1 (seen++[f]))).length- (wkF S.ns k x.2.1 (seen++[f])).length)+1)=c+((wkF S.ns k x.2.2 (wkF S.ns k x.2.1 (seen++[f]))).length-seen.length):=by omega
    rw [e]
    rfl
theorem zOK {n : Nat} : ∀ (k f c : Nat) (seen : List Nat) (w : World) (S : St) (sh : List Bool) (L : Lo) (sb nb : Nat), f < k → zY w n S sh L → Wf n S.ns → f < S.ns.length + 2 → Apart L sb nb → sb ≠ nb →
   w.heap[sb]? =some (.map (kM 0 seen).toArray seen.length)→w.heap[nb]? =some (.cells #[.int .i64 c] 3 (0,0))→c+(wkF S.ns k f seen).length≤1000000000+seen.length→
   Calls Tryz.prog 47 #[.pointer (some ⟨L.b,0,none⟩), .int .i64 f, .map (some sb), .func (.func 48) #[] #[.pointer (some ⟨nb,0,none⟩)]] w (zJQ sb nb c seen (wkF S.ns k f seen) w)
 |0,f,_,_,_,_,_,_,_,_,h,_,_,_,_,_,_,_,_=>absurd h (Nat.not_lt_zero _)
 |k+1,f,c,seen,w,S,sh,L,sb,nb,h1,h2,h3,h4,h5,h6,h7,h8,h9=>
  zPl k (Lib.hid (zOK k)) f c seen w S sh L sb nb (Lib.hid h1) (Lib.hid h2) (Lib.hid h3) (Lib.hid h4) (Lib.hid h5) (Lib.hid h6) (Lib.hid h7) (Lib.hid h8) (Lib.hid h9)
theorem Apart.new {w:World} {n:Nat} {S:St} {sh:List Bool} {L:Lo} (M:zY w n S sh L) {sb nb:Nat} (h1:w.heap.size≤sb) (h2:w.heap.size≤nb):Apart L sb nb:=by
 obtain ⟨l1,l2,l3,l4,l5⟩:=M.lts
 have hl:=M.lt
 rintro i (rfl|rfl|rfl|rfl|rfl|rfl|rfl)<;>omega
set_option maxHeartbeats 800000 in
theorem zK4 {n:Nat} {w:World} {S:St} {sh:List Bool} {L:Lo} (M:Hid (zY w n S sh L)) (W:Hid (Wf n S.ns)) {f:Nat} (hf:Hid (sh[f]? =some true)) (hb:Hid ((wkF S.ns (f+1) f []).length≤1000000000)):
  Calls Tryz.prog 17 #[.pointer (some ⟨L.b,0,none⟩), .int .i64 f] w fun e w'=>e= .returned (.int .i64 (wkF S.ns (f+1) f []).length)∧Old w w':=by
 have c1:=Lib.hid (zBe (p:=⟨S,sh⟩) M.out hf.out)
 have hlt:=Lib.hid (zIE (p:=⟨S,sh⟩) M.out hf.out)
 have O1:Old w ((w.alloc (.cells #[.int .i64 0] 3)).alloc (.map #[] 0)):=(Old.alloc1 _).trans (Old.alloc1 _)
 have hs0:(w.alloc (.cells #[.int .i64 0] 3)).heap.size=w.heap.size+1:=by show (w.heap.push _).size=_;simp
 have CW:=Lib.hid (zOK (f+1) f 0 [] ((w.alloc (.cells #[.int .i64 0] 3)).alloc (.map #[] 0)) S sh L (w.heap.size+1) w.heap.size (Nat.lt_succ_self _) (M.out.keep O1.heap O1.size) W.out hlt.out
  (Apart.new M.out (Nat.le_succ _) (Nat.le_refl _)) (by omega) (newAt _ _ hs0.symm) ((alloc_old (w:=w.alloc (.cells #[.int .i64 0] 3)) (by rw [hs0];omega)).trans (by show (w.heap.push _)[w.heap.size]? =_;simp)) (by have:=hb.out;simp only [List.length_nil];omega))
 have HO1:=Lib.hid O1
 have HS0:=Lib.hid hs0
 clear O1 hs0
 have hmm:= @run_makeMap Tryz.prog
 go_enter Tryz.func17,Tryz.ntmps17
 go_wp2_with fail
 refine c1.out.mono ?_
 rintro e w' ⟨rfl,rfl⟩
 go_wp2_with fail
 refine CW.out.mono ?_
 rintro e W1 ⟨rfl,a1,a2,a3⟩
 have A2:=Lib.hid a2
 have A3:=Lib.hid a3
 have hc:W1.cell? ⟨w.heap.size,0,none⟩=some (.int .i64 ((0+((wkF S.ns (f+1) f []).length- ([]:List Nat).length):Nat))):=by rw [cell_of_row W1 w.heap.size 0 _ _ _ a2];rfl
 clear a1 a2 a3 hmm
 go_wp2
 go_ret
 refine ⟨by simp,?_⟩
 have hO:=HO1.out
 have hS:=HS0.out
 exact ⟨fun i hi=>(A3.out.rest i (Nat.lt_of_lt_of_le hi hO.size) (by omega) (by omega)).trans (hO.heap i hi),Nat.le_trans hO.size A3.out.size,A3.out.os.trans hO.os,A3.out.tape.trans hO.tape,A3.out.output.trans hO.output,Nat.le_trans hO.drawn A3.out.drawn⟩
end Go.Proofs.Bw

namespace Go.Proofs.Bw
open Go Go.Proofs Go.Bd Go.Ve
abbrev MSt:=Nat×Option Pub
structure zFf (n:Nat) (p:Pub):Prop where
 ok:Ok n p.S
 f0:p.sh[0]? =some true
 f1:p.sh[1]? =some true
def zBy (L:Lo) (b:Nat):Prop:=b=L.b∨b=L.bo∨b=L.bl∨b=L.bn∨b=L.bs∨b=L.bu∨b=L.bm
def zSB (n:Nat) (s:MSt) (F:Blk→Prop) (O:Nat→Prop) (w:World):Prop:=
 (∀i a k c,s.1≤i→ ¬F (.h i a k c))∧match s.2 with
  |none=> ∀b, ¬O b
  |some p=>zFf n p∧0<s.1∧ ∃L,zY w n p.S p.sh L∧(∀a k c,F (.h (s.1-1) a k c)↔(a=some ⟨L.b,0,none⟩∧k=0∧c=0))∧ ∀b,O b↔zBy L b
theorem zY.same {w w':World} {n:Nat} {S:St} {sh:List Bool} {L:Lo} (M:zY w n S sh L) (h: ∀b,zBy L b→w'.heap[b]? =w.heap[b]?):zY w' n S sh L:=by
 have hl:=M.lt
 have lt: ∀b,zBy L b→b<w.heap.size→b<w'.heap.size:=fun b hb hlt=>by
  have:=h b hb
  rw [Array.getElem?_eq_getElem hlt] at this
  exact (Array.getElem?_eq_some_iff.1 this).1
 have b1:zBy L L.b:= .inl rfl
 have b2:zBy L L.bo:= .inr (.inl rfl)
 have b3:zBy L L.bl:= .inr (.inr (.inl rfl))
 have b4:zBy L L.bn:= .inr (.inr (.inr (.inl rfl)))
 have b5:zBy L L.bs:= .inr (.inr (.inr (.inr (.inl rfl))))
 have b6:zBy L L.bu:= .inr (.inr (.inr (.inr (.inr (.inl rfl)))))
 have b7:zBy L L.bm:= .inr (.inr (.inr (.inr (.inr (.inr rfl)))))
 refine ⟨(h _ b1).trans M.mb,fun v hv=>(World.cell?_of_block (a:=⟨L.bo,v,none⟩) (h _ b2)).trans (M.ord v hv),fun v hv=>(World.cell?_of_block (a:=⟨L.bl,v,none⟩) (h _ b3)).trans (M.lev v hv),
  zV M.rn (fun g hg=> ?_),zV M.rs (fun g hg=> ?_),(h _ b6).trans M.mu,(h _ b7).trans M.mm,⟨lt _ b2 hl.1,lt _ b3 hl.2⟩,M.d⟩
 ·have:L.bn=g:=Option.some.inj hg
  subst this;exact h _ b4
 ·have:L.bs=g:=Option.some.inj hg
  subst this;exact h _ b5
theorem zY.inb {w:World} {n:Nat} {S:St} {sh:List Bool} {L:Lo} (M:zY w n S sh L) {b:Nat} (hb:zBy L b):b<w.heap.size:=by
 obtain ⟨l1,l2,l3,l4,l5⟩:=M.lts
 have hl:=M.lt
 rcases hb with rfl|rfl|rfl|rfl|rfl|rfl|rfl
 ·exact l1
 ·exact hl.1
 ·exact hl.2
 ·exact l2
 ·exact l3
 ·exact l4
 ·exact l5
def jI (n:Nat):Sig where
 St:=MSt
 R:=zSB n
 mono {s F F' O w w'} h hF hw:=by
  obtain ⟨h1,h2⟩:=h
  refine ⟨fun i a k c hi hh=>h1 i a k c hi ((hF i a k c).1 hh),?_⟩
  cases hs:s.2 with
  |none=>rw [hs] at h2;exact h2
  |some p=>
   rw [hs] at h2
   obtain ⟨a1,a2,L,a3,a4,a5⟩:=h2
   exact ⟨a1,a2,L,a3.same (fun b hb=>hw b ((a5 b).2 hb)),fun a k c=>(hF _ _ _ _).trans (a4 a k c),a5⟩
 inb {s F O w} h b hb:=by
  obtain ⟨h1,h2⟩:=h
  cases hs:s.2 with
  |none=>rw [hs] at h2;exact absurd hb (h2 b)
  |some p=>
   rw [hs] at h2
   obtain ⟨a1,a2,L,a3,a4,a5⟩:=h2
   exact a3.inb ((a5 b).1 hb)
theorem zKv {n nx:Nat} {p':Pub} {F:Blk→Prop} {O:Nat→Prop} {w w':World} {L L':Lo} (hN: ∀i a k c,nx≤i→ ¬F (.h i a k c)) (h0:0<nx) (hH: ∀a k c,F (.h (nx-1) a k c)↔(a=some ⟨L.b,0,none⟩∧k=0∧c=0))
  (hO: ∀b,O b↔zBy L b) (hF: ∀b:Nat,F b→b<w.heap.size∧ ¬O b) (M':zY w' n p'.S p'.sh L') (C:Chg w w' L L') (hp:zFf n p'):
  zSB n (nx,some p') F (zBy L') w'∧zBx O w w'∧(∀b,zBy L' b→O b∨w.heap.size≤b)∧(∀b:Nat,F b→(F b∨w.heap.size≤b)∧b<w'.heap.size∧ ¬zBy L' b):=by
 have hback: ∀b,zBy L' b→O b∨w.heap.size≤b:=by
  obtain ⟨s1,s2,s3,s4,s5⟩:=C.same
  obtain ⟨m1,m2,m3⟩:=C.new
  rintro b (rfl|rfl|rfl|rfl|rfl|rfl|rfl)
  ·exact .inl ((hO _).2 (.inl s1))
  ·exact .inl ((hO _).2 (.inr (.inl s2)))
  ·exact .inl ((hO _).2 (.inr (.inr (.inl s3))))
  ·exact m1.imp (fun h=>(hO _).2 (.inr (.inr (.inr (.inl h))))) id
  ·exact m2.imp (fun h=>(hO _).2 (.inr (.inr (.inr (.inr (.inl h)))))) id
  ·exact .inl ((hO _).2 (.inr (.inr (.inr (.inr (.inr (.inl s4)))))))
  ·exact m3.imp (fun h=>(hO _).2 (.inr (.inr (.inr (.inr (.inr (.inr h))))))) id
 refine ⟨⟨hN,hp,h0,L',M',fun a k c=>by rw [C.same.1];exact hH a k c,fun b=>Iff.rfl⟩,⟨C.os,C.tape,C.output,C.size,fun b hb ho=> ?_,C.drawn⟩,hback,fun b hb=>⟨.inl hb,Nat.lt_of_lt_of_le (hF b hb).1 C.size,fun hL=> ?_⟩⟩
 ·have no: ¬zBy L b:=fun h=>ho ((hO b).2 h)
  exact C.rest b hb (fun h=>no (.inl h)) (fun h=>no (.inr (.inr (.inr (.inl h))))) (fun h=>no (.inr (.inr (.inr (.inr (.inl h)))))) (fun h=>no (.inr (.inr (.inr (.inr (.inr (.inl h))))))) (fun h=>no (.inr (.inr (.inr (.inr (.inr (.inr h)))))))
 ·rcases hback b hL with h|h
  ·exact (hF b hb).2 h
  ·exact absurd (hF b hb).1 (Nat.not_lt.2 h)
end Go.Proofs.Bw

namespace Go.Proofs.Bw
open Go Go.Proofs Go.Bd Go.Ve
theorem zFI {n:Nat} {G:Nat→Option (List V)} {f:FuncId} {ts:List Ty} {R:RTy} {g:MSt→Nat×ElS ts→Option (MSt×R.El)} (flat: ∀x:ElS ts, ∃vals:List Value,encS ts x=vals.map V.val)
  (h: ∀nx p i x s' y,g (nx,p) (i,x)=some (s',y)→ ∃q,p=some q∧i+1=nx∧(zFf n q→ ∀vals:List Value,encS ts x=vals.map V.val→ ∀w L,zY w n q.S q.sh L→
   Calls Tryz.prog f (Value.pointer (some ⟨L.b,0,none⟩)::vals).toArray w (fun e w'=> ∃v p' L',e= .returned v∧s'=(nx,some p')∧zFf n p'∧zY w' n p'.S p'.sh L'∧Chg w w' L L'∧R.res y= .p (.val v)))):
  kP (jI n) Tryz.prog G f (z8 (uQ (Γ:=jI n) (yY (.hd::ts)) R g)):=by
 intro w F O s args ds s' r hsig hG hF hlen hrd hspec
 obtain ⟨nx,p⟩:=s
 simp only [z8,uQ] at hspec
 cases hx:yY (.hd::ts) ds with
 |none=>rw [hx] at hspec;cases hspec
 |some ix=>
  obtain ⟨i,x⟩:=ix
  rw [hx] at hspec
  have hspec:(g (nx,p) (i,x)).map (fun y=>(y.1,R.res y.2))=some (s',r):=hspec
  obtain ⟨⟨s1,y⟩,hy,hsr⟩:=Option.map_eq_some_iff.1 hspec
  simp only [Prod.mk.injEq] at hsr
  obtain ⟨rfl,rfl⟩:=hsr
  obtain ⟨q,rfl,rfl,hcall⟩:=h nx p i x _ y hy
  obtain ⟨hN,hp,h0,L,M,hH,hO⟩:=hsig
  obtain ⟨vals,hvals⟩:=flat x
  have hwk:=wL (.hd::ts) ds (i,x) hx
  have hlen':args.size=(V.hd i::vals.map V.val).length:=by rw [←hvals];exact hlen.trans hwk.len
  have hrd': ∀ (j:Nat) (u:Value) (d:V),args[j]? =some u→(V.hd i::vals.map V.val)[j]? =some d→Rd w F u d:=by
   intro j u d hu hd
   rw [←hvals] at hd
   have hlt:j<ds.length:=by rw [hwk.len];exact (List.getElem?_eq_some_iff.1 hd).1
   exact hwk.get j ds[j] d (by simp [hlt]) hd w F u (hrd j u ds[j] hu (by simp [hlt]))
  have hargs:args=(Value.pointer (some ⟨L.b,0,none⟩)::vals).toArray:=by
   apply Array.ext
   ·simpa using hlen'
   ·intro j h1 h2
    cases j with
    |zero=>
     have:=hrd' 0 args[0] (.hd i) (by simp) rfl
     generalize args[0]=u at this
     cases this with
     |hd _ a ha=>
      obtain ⟨h1,_,_⟩:=(hH _ _ _).1 ha
      cases h1
      rfl
    |succ j=>
     have hj:j<vals.length:=by simpa using h2
     have:=hrd' (j+1) args[j+1] (.val vals[j]) (by simp) (by simp [hj])
     rw [Rd.eq_val this]
     simp
  have hC:=hcall hp vals hvals w L M
  rw [←hargs] at hC
  refine hC.mono ?_
  rintro e w' ⟨v,p',L',rfl,rfl,hp',M',C,hres⟩
  obtain ⟨k1,k2,k3,k4⟩:=zKv (nx:=i+1) hN h0 hH hO hF M' C hp'
  refine ⟨v,F,zBy L',rfl,k1,k2,k3,fun b hb=>hb,k4,?_⟩
  show uX w.heap.size w' F (zBy L') v (R.res y)
  rw [hres]
  exact Rd.val v
end Go.Proofs.Bw

namespace Go.Proofs.Bw
open Go Go.Proofs Go.Bd Go.Ve
def val (p:Pub) (f:Int):Bool:=decide (0≤f)&&(p.sh[f.toNat]? ==some true)
theorem zF5 {p:Pub} {f:Int} (h:val p f=true): ∃k:Nat,f=k∧p.sh[k]? =some true:=by
 simp only [val,Bool.and_eq_true,decide_eq_true_eq,beq_iff_eq] at h
 exact ⟨f.toNat,by omega,h.2⟩
theorem yM {sh:List Bool} {m r i:Nat} (h:sh[i]? =some true):(zCl (grow sh m) r)[i]? =some true:=by
 have hi:=(List.getElem?_eq_some_iff.1 h).1
 have h1:(grow sh m)[i]? =some true:=by rw [grow,List.getElem?_append_left hi];exact h
 rw [zCl,List.getElem?_set]
 split
 ·rename_i hr
  rw [if_pos (by rw [hr];exact (List.getElem?_eq_some_iff.1 h1).1)]
 ·exact h1
def room (S:St):Bool:=decide ((S.ns.length+2)*24≤140737488355328)
abbrev tR:Ty:= .int .i64
def zDr (n:Nat) (s:MSt) (i:Nat) (f g h:Int):Option (MSt×Int):=
 match s.2 with
 |some p=>if decide (i+1=s.1)&&val p f&&val p g&&val p h&&room (jP n (n+1) f.toNat g.toNat h.toNat p.S).2 then some ((s.1,some (zIm n p f.toNat g.toNat h.toNat).2),(zIm n p f.toNat g.toNat h.toNat).1) else none
 |none=>none
theorem zCR {n:Nat} {nx:Nat} {p:Option Pub} {i:Nat} {f g h:Int} {s':MSt} {y:Int} (hs:zDr n (nx,p) i f g h=some (s',y)):
  ∃ (q:Pub) (a b c:Nat),p=some q∧i+1=nx∧f=a∧g=b∧h=c∧q.sh[a]? =some true∧q.sh[b]? =some true∧q.sh[c]? =some true∧((jP n (n+1) a b c q.S).2.ns.length+2)*24≤140737488355328∧
   s'=(nx,some (zIm n q a b c).2)∧y=(zIm n q a b c).1:=by
 unfold zDr at hs
 cases p with
 |none=>cases hs
 |some q=>
  simp only at hs
  split at hs
  ·rename_i hc
   simp only [Bool.and_eq_true,decide_eq_true_eq,room] at hc
   obtain ⟨⟨⟨⟨h1,h2⟩,h3⟩,h4⟩,h5⟩:=hc
   obtain ⟨a,rfl,ha⟩:=zF5 h2
   obtain ⟨b,rfl,hb⟩:=zF5 h3
   obtain ⟨c,rfl,hc⟩:=zF5 h4
   simp only [Int.toNat_natCast] at h5 hs
   simp only [Option.some.injEq,Prod.mk.injEq] at hs
   exact ⟨q,a,b,c,rfl,h1,rfl,rfl,rfl,ha,hb,hc,h5,hs.1.symm,hs.2.symm⟩
  ·cases hs
theorem zGT {n:Nat} {q:Pub} (hq:zFf n q) {a b c:Nat} (ha:q.sh[a]? =some true) (hb:q.sh[b]? =some true) (hc:q.sh[c]? =some true) (hl:q.sh.length=q.S.ns.length+2):zFf n (zIm n q a b c).2:=by
 have lt: ∀ {x:Nat},q.sh[x]? =some true→x<q.S.ns.length+2:=fun h=>by have:=(List.getElem?_eq_some_iff.1 h).1;omega
 exact ⟨(zFF (n+1) a b c 0 q.S hq.ok (lt ha) (lt hb) (lt hc) (Nat.zero_le _) (Nat.zero_le _) (Nat.zero_le _) (by omega)).ok,yM hq.f0,yM hq.f1⟩
theorem uI: ∀ (m:Nat) (x:ElS (List.replicate m tR)), ∃vals:List Value,encS (List.replicate m tR) x=vals.map V.val
 |0,_=>⟨[],rfl⟩
 |m+1,x=>by
  obtain ⟨vals,h⟩:=uI m x.2
  exact ⟨.int .i64 x.1::vals,by simp only [List.replicate,encS,Ty.enc,h,List.map_cons]⟩
theorem zAX {l:List Value} {m:List V} (h:m=l.map V.val): ∀l',m=l'.map V.val→l'=l:=by
 intro l' h'
 rw [h] at h'
 have:=List.map_inj_right (f:=V.val) (fun x y h=>by cases h;rfl)|>.1 h'
 exact this.symm
theorem zRF {n:Nat} (hn:n≤1000) {G:Nat→Option (List V)} :kP (jI n) Tryz.prog G 37 (z8 (uQ (Γ:=jI n) (yY [.hd,tR,tR,tR]) (.p tR) (fun s x=>zDr n s x.1 x.2.1 x.2.2.1 x.2.2.2.1))):=by
 refine zFI (ts:=[tR,tR,tR]) (fun x=>uI 3 x) ?_
 intro nx p i x s' y hy
 obtain ⟨q,a,b,c,rfl,h1,e1,e2,e3,ha,hb,hc,hs,rfl,rfl⟩:=zCR hy
 refine ⟨q,rfl,h1,fun hq vals hvals w L M=> ?_⟩
 have hv:vals=[.int .i64 a, .int .i64 b, .int .i64 c]:=zAX (by rw [←e1, ←e2, ←e3];rfl) vals hvals.symm.symm
 subst hv
 refine (zIr (Lib.hid hn) (Lib.hid M) (Lib.hid hq.ok) (Lib.hid ha) (Lib.hid hb) (Lib.hid hc) (Lib.hid hs)).mono ?_
 rintro e w' ⟨rfl,L',M',C⟩
 exact ⟨_,_,L',rfl,rfl,zGT hq ha hb hc M.shl,M',C,rfl⟩
end Go.Proofs.Bw

namespace Go.Proofs.Bw
open Go Go.Proofs Go.Bd Go.Ve
theorem zTo {a:Nat} (h:(0:Int)=a):a=0:=by omega
theorem zTn {a:Nat} (h:(1:Int)=a):a=1:=by omega
theorem zRD {n:Nat} (hn:n≤1000) {G:Nat→Option (List V)} :kP (jI n) Tryz.prog G 19 (z8 (uQ (Γ:=jI n) (yY [.hd,tR]) (.p tR) (fun s x=>zDr n s x.1 x.2.1 0 1))):=by
 refine zFI (ts:=[tR]) (fun x=>uI 1 x) ?_
 intro nx p i x s' y hy
 obtain ⟨q,a,b,c,rfl,h1,e1,e2,e3,ha,hb,hc,hs,rfl,rfl⟩:=zCR hy
 have e2:=zTo e2
 have e3:=zTn e3
 subst e2 e3
 refine ⟨q,rfl,h1,fun hq vals hvals w L M=> ?_⟩
 have hv:vals=[.int .i64 a]:=zAX (by rw [←e1];rfl) vals hvals.symm.symm
 subst hv
 refine (zSx hn M hq.ok ha hb hc hs).mono ?_
 rintro e w' ⟨rfl,L',M',C⟩
 exact ⟨_,_,L',rfl,rfl,zGT hq ha hb hc M.shl,M',C,rfl⟩
theorem zRG {n:Nat} (hn:n≤1000) {G:Nat→Option (List V)} :kP (jI n) Tryz.prog G 41 (z8 (uQ (Γ:=jI n) (yY [.hd,tR,tR]) (.p tR) (fun s x=>zDr n s x.1 x.2.1 x.2.2.1 0))):=by
 refine zFI (ts:=[tR,tR]) (fun x=>uI 2 x) ?_
 intro nx p i x s' y hy
 obtain ⟨q,a,b,c,rfl,h1,e1,e2,e3,ha,hb,hc,hs,rfl,rfl⟩:=zCR hy
 have e3:=zTo e3
 subst e3
 refine ⟨q,rfl,h1,fun hq vals hvals w L M=> ?_⟩
 have hv:vals=[.int .i64 a, .int .i64 b]:=zAX (by rw [←e1, ←e2];rfl) vals hvals.symm.symm
 subst hv
 refine (zS6 hn M hq.ok ha hb hc hs).mono ?_
 rintro e w' ⟨rfl,L',M',C⟩
 exact ⟨_,_,L',rfl,rfl,zGT hq ha hb hc M.shl,M',C,rfl⟩
theorem zSP {n:Nat} (hn:n≤1000) {G:Nat→Option (List V)} :kP (jI n) Tryz.prog G 51 (z8 (uQ (Γ:=jI n) (yY [.hd,tR,tR]) (.p tR) (fun s x=>zDr n s x.1 x.2.1 1 x.2.2.1))):=by
 refine zFI (ts:=[tR,tR]) (fun x=>uI 2 x) ?_
 intro nx p i x s' y hy
 obtain ⟨q,a,b,c,rfl,h1,e1,e2,e3,ha,hb,hc,hs,rfl,rfl⟩:=zCR hy
 have e2:=zTn e2
 subst e2
 refine ⟨q,rfl,h1,fun hq vals hvals w L M=> ?_⟩
 have hv:vals=[.int .i64 a, .int .i64 c]:=zAX (by rw [←e1, ←e3];rfl) vals hvals.symm.symm
 subst hv
 refine (zTH hn M hq.ok ha hc hb hs).mono ?_
 rintro e w' ⟨rfl,L',M',C⟩
 exact ⟨_,_,L',rfl,rfl,zGT hq ha hb hc M.shl,M',C,rfl⟩
def zKj (n:Nat) (s:MSt) (i:Nat) (v:Int):Option (MSt×Int):=
 match s.2 with
 |some p=>if decide (i+1=s.1)&&decide (0≤v)&&decide (v.toNat<n)&&room ⟨(mk p.S.ns v.toNat 0 1).2,[]⟩ then some ((s.1,some (zKc p v.toNat).2),(zKc p v.toNat).1) else none
 |none=>none
theorem zRC {n:Nat} {G:Nat→Option (List V)} :kP (jI n) Tryz.prog G 79 (z8 (uQ (Γ:=jI n) (yY [.hd,tR]) (.p tR) (fun s x=>zKj n s x.1 x.2.1))):=by
 refine zFI (ts:=[tR]) (fun x=>uI 1 x) ?_
 intro nx p i x s' y hy
 unfold zKj at hy
 cases p with
 |none=>cases hy
 |some q=>
  simp only at hy
  split at hy
  ·rename_i hc
   simp only [Bool.and_eq_true,decide_eq_true_eq,room] at hc
   obtain ⟨⟨⟨h1,h2⟩,h3⟩,h5⟩:=hc
   obtain ⟨v,hv⟩: ∃v:Nat,x.1=(v:Int):=⟨Int.toNat x.1,(Int.toNat_of_nonneg h2).symm⟩
   rw [hv] at h3 h5 hy
   simp only [Int.toNat_natCast] at h3 h5 hy
   simp only [Option.some.injEq,Prod.mk.injEq] at hy
   obtain ⟨rfl,rfl⟩:=hy
   refine ⟨q,rfl,h1,fun hq vals hvals w L M=> ?_⟩
   have hv:vals=[.int .i64 v]:=zAX (by rw [←hv];rfl) vals hvals.symm.symm
   subst hv
   have K:=zOW hq.ok.wf h3 (lo:=0) (hi:=1) (by omega) (by omega) (by rw [uH (by omega)];exact h3) (by rw [uH (by omega)];exact h3)
   refine (zSj M hq.ok h3 h5).mono ?_
   rintro e w' ⟨rfl,L',M',C⟩
   refine ⟨_,_,L',rfl,rfl,⟨⟨K.wf,?_⟩,yM hq.f0,yM hq.f1⟩,M',C,rfl⟩
   obtain ⟨e3,he,_⟩:=K.app
   intro t ht
   obtain ⟨m1,m2,m3⟩:=hq.ok.memo t ht
   have W':=K.wf
   simp only [zKc]
   rw [he] at W' ⊢
   exact ⟨m1.app,by simp only [List.length_append];omega,fun a=>by rw [hq.ok.wf.app W' m2,zD3 hq.ok.wf W' m1];exact m3 a⟩
  ·cases hy
def zGd (s:MSt) (i:Nat) (f:Int):Option (MSt×Bool):=
 match s.2 with
 |some p=>if decide (i+1=s.1)&&decide (0≤f) then some (s,val p f) else none
 |none=>none
theorem zNZ {n:Nat} {G:Nat→Option (List V)} :kP (jI n) Tryz.prog G 10 (z8 (uQ (Γ:=jI n) (yY [.hd,tR]) (.p .bool) (fun s x=>zGd s x.1 x.2.1))):=by
 refine zFI (ts:=[tR]) (fun x=>uI 1 x) ?_
 intro nx p i x s' y hy
 unfold zGd at hy
 cases p with
 |none=>cases hy
 |some q=>
  simp only at hy
  split at hy
  ·rename_i hc
   simp only [Bool.and_eq_true,decide_eq_true_eq] at hc
   simp only [Option.some.injEq,Prod.mk.injEq] at hy
   obtain ⟨rfl,rfl⟩:=hy
   obtain ⟨v,hv⟩: ∃v:Nat,x.1=(v:Int):=⟨Int.toNat x.1,(Int.toNat_of_nonneg hc.2).symm⟩
   refine ⟨q,rfl,hc.1,fun hq vals hvals w L M=> ?_⟩
   have hvv:vals=[.int .i64 v]:=zAX (by rw [←hv];rfl) vals hvals.symm.symm
   subst hvv
   refine (zLU M v).mono ?_
   rintro e w' ⟨rfl,rfl⟩
   refine ⟨_,_,L,rfl,rfl,hq,M, .refl,?_⟩
   rw [hv]
   have:val q (v:Int)=q.sh[v]?.getD false:=by
    simp only [val,Int.toNat_natCast]
    cases q.sh[v]? with
    |none=>simp
    |some b=>cases b<;>simp
   rw [this]
   rfl
  ·cases hy
end Go.Proofs.Bw

namespace Go.Proofs.Bw
open Go Go.Proofs Go.Bd Go.Ve
theorem zT1 {n:Nat} {G:Nat→Option (List V)} {f:FuncId} {ts:List Ty} {R:RTy} {g:MSt→Nat×ElS ts→Option (MSt×R.El)}
  (h: ∀nx p i x s' y,g (nx,p) (i,x)=some (s',y)→ ∃q,p=some q∧i+1=nx∧(zFf n q→ ∀ (vals:List Value) (w:World) (F:Blk→Prop),vals.length=(encS ts x).length→(∀ (j:Nat) (u:Value) (d:V),vals[j]? =some u→(encS ts x)[j]? =some d→Rd w F u d)→
   (∀b:Nat,F b→b<w.heap.size)→ ∀L,zY w n q.S q.sh L→
   Calls Tryz.prog f (Value.pointer (some ⟨L.b,0,none⟩)::vals).toArray w (fun e w'=> ∃v p' L',e= .returned v∧s'=(nx,some p')∧zFf n p'∧zY w' n p'.S p'.sh L'∧Chg w w' L L'∧R.res y= .p (.val v)))):
  kP (jI n) Tryz.prog G f (z8 (uQ (Γ:=jI n) (yY (.hd::ts)) R g)):=by
 intro w F O s args ds s' r hsig hG hF hlen hrd hspec
 obtain ⟨nx,p⟩:=s
 simp only [z8,uQ] at hspec
 cases hx:yY (.hd::ts) ds with
 |none=>rw [hx] at hspec;cases hspec
 |some ix=>
  obtain ⟨i,x⟩:=ix
  rw [hx] at hspec
  have hspec:(g (nx,p) (i,x)).map (fun y=>(y.1,R.res y.2))=some (s',r):=hspec
  obtain ⟨⟨s1,y⟩,hy,hsr⟩:=Option.map_eq_some_iff.1 hspec
  simp only [Prod.mk.injEq] at hsr
  obtain ⟨rfl,rfl⟩:=hsr
  obtain ⟨q,rfl,rfl,hcall⟩:=h nx p i x _ y hy
  obtain ⟨hN,hp,h0,L,M,hH,hO⟩:=hsig
  have hwk:=wL (.hd::ts) ds (i,x) hx
  have hlen':args.size=(V.hd i::encS ts x).length:=hlen.trans hwk.len
  have hrd': ∀ (j:Nat) (u:Value) (d:V),args[j]? =some u→(V.hd i::encS ts x)[j]? =some d→Rd w F u d:=by
   intro j u d hu hd
   have hlt:j<ds.length:=by rw [hwk.len];exact (List.getElem?_eq_some_iff.1 hd).1
   exact hwk.get j ds[j] d (by simp [hlt]) hd w F u (hrd j u ds[j] hu (by simp [hlt]))
  obtain ⟨al⟩:=args
  cases al with
  |nil=>simp at hlen'
  |cons u0 vals=>
   have e0:u0= .pointer (some ⟨L.b,0,none⟩):=by
    have:=hrd' 0 u0 (.hd i) (by simp) rfl
    cases this with
    |hd _ a ha=>
     obtain ⟨h1,_,_⟩:=(hH _ _ _).1 ha
     cases h1
     rfl
   subst e0
   refine (hcall hp vals w F (by simpa using hlen') (fun j u d hu hd=>hrd' (j+1) u d (by simpa using hu) (by simpa using hd)) (fun b hb=>(hF b hb).1) L M).mono ?_
   rintro e w' ⟨v,p',L',rfl,rfl,hp',M',C,hres⟩
   obtain ⟨k1,k2,k3,k4⟩:=zKv (nx:=i+1) hN h0 hH hO hF M' C hp'
   refine ⟨v,F,zBy L',rfl,k1,k2,k3,fun b hb=>hb,k4,?_⟩
   show uX w.heap.size w' F (zBy L') v (R.res y)
   rw [hres]
   exact Rd.val v
def zIM (s:MSt) (i:Nat) (f:Int):Option (MSt×Int):=
 match s.2 with
 |some p=>if decide (i+1=s.1)&&val p f&&decide ((wkF p.S.ns (f.toNat+1) f.toNat []).length≤1000000000) then some (s,((wkF p.S.ns (f.toNat+1) f.toNat []).length:Int)) else none
 |none=>none
theorem zPN {n:Nat} {G:Nat→Option (List V)} :kP (jI n) Tryz.prog G 17 (z8 (uQ (Γ:=jI n) (yY [.hd,tR]) (.p tR) (fun s x=>zIM s x.1 x.2.1))):=by
 refine zFI (ts:=[tR]) (fun x=>uI 1 x) ?_
 intro nx p i x s' y hy
 unfold zIM at hy
 cases p with
 |none=>cases hy
 |some q=>
  simp only at hy
  split at hy
  ·rename_i hc
   simp only [Bool.and_eq_true,decide_eq_true_eq] at hc
   obtain ⟨⟨h1,h2⟩,h3⟩:=hc
   obtain ⟨v,hv,hs⟩:=zF5 h2
   rw [hv] at h3 hy
   simp only [Int.toNat_natCast] at h3 hy
   simp only [Option.some.injEq,Prod.mk.injEq] at hy
   obtain ⟨rfl,rfl⟩:=hy
   refine ⟨q,rfl,h1,fun hq vals hvals w L M=> ?_⟩
   have hvv:vals=[.int .i64 v]:=zAX (by rw [←hv];rfl) vals hvals.symm.symm
   subst hvv
   refine (zK4 (Lib.hid M) (Lib.hid hq.ok.wf) (Lib.hid hs) (Lib.hid h3)).mono ?_
   rintro e w' ⟨rfl,K⟩
   exact ⟨_,_,L,rfl,rfl,hq,M.keep K.heap K.size,K.chg,rfl⟩
  ·cases hy
theorem zRY {w:World} {F:Blk→Prop} {u:Value} {al:List Bool} (h:Rd w F u (.tl .bool al)) (h0:0<al.length):
  ∃b o c,u= .slice (some ⟨b,o,none⟩) al.length c∧F (.b b)∧ ∀i t,al[i]? =some t→w.cell? ⟨b,o+i,none⟩=some (.bool t):=by
 have h:=h.untl
 generalize hes:List.map (Ty.enc (t:=Ty.bool)) al=es at h
 have hle:es.length=al.length:=by rw [←hes];simp
 cases h with
 |slemp a cap=>simp at hle;omega
 |sl b off cap k es g hF hcap hk hg hr=>
  have hk1:k=1:=by
   have hm:es[0]'(by omega)∈es:=List.getElem_mem _
   rw [←hk _ hm]
   subst hes
   simp [Ty.enc,V.cells]
  subst hk1
  refine ⟨b,off,cap,by rw [hle],hF,fun i t hi=> ?_⟩
  have hlt:=(List.getElem?_eq_some_iff.1 hi).1
  rw [hg i (by omega)]
  have:=hr i 0 (.val (.bool t)) (.val (.bool t)) (by subst hes;simp [hi,Ty.enc]) rfl
  simp only [Nat.mul_one,Nat.add_zero] at this
  rw [Rd.eq_val this]
def zIN (s:MSt) (i:Nat) (f:Int) (al:List Bool):Option (MSt×Bool):=
 match s.2 with
 |some p=>if decide (i+1=s.1)&&val p f&&decide (0<al.length) then some (s,den p.S.ns f.toNat (fun v=>al.getD v false)) else none
 |none=>none
theorem zPO {n:Nat} {G:Nat→Option (List V)} :kP (jI n) Tryz.prog G 38 (z8 (uQ (Γ:=jI n) (yY [.hd,tR, .sl .bool]) (.p .bool) (fun s x=>zIN s x.1 x.2.1 x.2.2.1))):=by
 refine zT1 (ts:=[tR, .sl .bool]) ?_
 intro nx p i x s' y hy
 unfold zIN at hy
 cases p with
 |none=>cases hy
 |some q=>
  simp only at hy
  split at hy
  ·rename_i hc
   simp only [Bool.and_eq_true,decide_eq_true_eq] at hc
   obtain ⟨⟨h1,h2⟩,h3⟩:=hc
   obtain ⟨v,hv,hs⟩:=zF5 h2
   rw [hv] at hy
   simp only [Int.toNat_natCast] at hy
   simp only [Option.some.injEq,Prod.mk.injEq] at hy
   obtain ⟨rfl,rfl⟩:=hy
   refine ⟨q,rfl,h1,fun hq vals w F hl hr hF L M=> ?_⟩
   have hl:vals.length=2:=hl
   match vals,hl with
   |[u1,u2],_=>
    have e1:u1= .int .i64 v:=by
     have:=hr 0 u1 (.val (.int .i64 x.1)) rfl rfl
     rw [hv] at this
     exact Rd.eq_val this
    subst e1
    have r2:Rd w F u2 (.tl .bool x.2.1):=hr 1 u2 _ rfl rfl
    obtain ⟨b,o,c,rfl,hb,hal⟩:=zRY r2 h3
    refine (zSU (Lib.hid M) (Lib.hid hq.ok.wf) (Lib.hid hs) x.2.1 b o c (Lib.hid hal) (Lib.hid (hF _ hb))).mono ?_
    rintro e w' ⟨rfl,K⟩
    exact ⟨_,_,L,rfl,rfl,hq,M.keep K.heap K.size,K.chg,rfl⟩
  ·cases hy
end Go.Proofs.Bw

namespace Go.Proofs.Bw
open Go Go.Proofs Go.Bd Go.Ve
def zJe:Pub:=⟨⟨[],[]⟩,[true,true]⟩
theorem zOV (n:Nat):zFf n zJe:=by
 refine ⟨⟨⟨?_,?_,?_,?_,?_⟩,?_⟩,rfl,rfl⟩
 ·intro i x h;simp [zJe] at h
 ·intro i x h;simp [zJe] at h
 ·intro i x h;simp [zJe] at h
 ·intro i x h;simp [zJe] at h
 ·intro i j x h;simp [zJe] at h
 ·intro t ht
  simp [zJe] at ht
def zKk (n:Nat) (s:MSt) (k:Int):Option (MSt×Nat):=
 if k=n∧0<n∧n≤256 then some ((s.1+1,some zJe),s.1) else none
theorem zRE {n:Nat} {G:Nat→Option (List V)} :kP (jI n) Tryz.prog G 34 (z8 (uQ (Γ:=jI n) (yY [tR]) (.p .hd) (fun s x=>zKk n s x.1))):=by
 intro w F O s args ds s' r hsig hG hF hlen hrd hspec
 obtain ⟨nx,p⟩:=s
 simp only [z8,uQ] at hspec
 cases hx:yY [tR] ds with
 |none=>rw [hx] at hspec;cases hspec
 |some x=>
  rw [hx] at hspec
  have hspec:(zKk n (nx,p) x.1).map (fun y=>(y.1,RTy.res (.p .hd) y.2))=some (s',r):=hspec
  obtain ⟨⟨s1,y⟩,hy,hsr⟩:=Option.map_eq_some_iff.1 hspec
  simp only [Prod.mk.injEq] at hsr
  obtain ⟨rfl,rfl⟩:=hsr
  unfold zKk at hy
  split at hy
  ·rename_i hc
   obtain ⟨c1,c2,c3⟩:=hc
   simp only [Option.some.injEq,Prod.mk.injEq] at hy
   obtain ⟨rfl,rfl⟩:=hy
   obtain ⟨hN,hp⟩:=hsig
   have hwk:=wL [tR] ds x hx
   have hlen':args.size=1:=hlen.trans hwk.len
   have hargs:args= #[.int .i64 n]:=by
    obtain ⟨al⟩:=args
    match al,hlen' with
    |[u],_=>
     have hlt:0<ds.length:=by rw [hwk.len];exact Nat.zero_lt_one
     have:=hwk.get 0 ds[0] (.val (.int .i64 x.1)) (by simp [hlt]) rfl w F u (hrd 0 u ds[0] rfl (by simp [hlt]))
     rw [c1] at this
     rw [Rd.eq_val this]
   rw [hargs]
   refine (zTJ n w (Lib.hid c2) c3).mono ?_
   rintro e w' ⟨L,rfl,M,K,g1,g2,g3,g4,g5,g6,g7⟩
   have hback: ∀b,zBy L b→w.heap.size≤b:=by
    rintro b (rfl|rfl|rfl|rfl|rfl|rfl|rfl)
    ·exact g1
    ·exact g6
    ·exact g7
    ·exact g2
    ·exact g3
    ·exact g4
    ·exact g5
   refine ⟨_,fun b=>F b∨b= .h nx (some ⟨L.b,0,none⟩) 0 0,zBy L,rfl,⟨fun i a k c hi hh=> ?_,zOV n,Nat.succ_pos _,L,M,fun a k c=> ?_,fun b=>Iff.rfl⟩,⟨K.os,K.tape,K.output,K.size,fun b hb _=>K.heap b hb,K.drawn⟩,fun b hb=> .inr (hback b hb),fun b hb=> .inl hb,fun b hb=> ?_,?_⟩
   ·rcases hh with hh|hh
    ·exact hN i a k c (by have hi:nx+1≤i:=hi;omega) hh
    ·have hi:nx+1≤i:=hi
     cases hh
     omega
   ·show (F (.h (nx+1-1) a k c)∨Blk.h (nx+1-1) a k c=Blk.h nx (some ⟨L.b,0,none⟩) 0 0)↔_
    rw [Nat.add_sub_cancel]
    constructor
    ·rintro (hh|hh)
     ·exact absurd hh (hN nx a k c (Nat.le_refl _))
     ·cases hh;exact ⟨rfl,rfl,rfl⟩
    ·rintro ⟨rfl,rfl,rfl⟩
     exact .inr rfl
   ·rcases hb with hb|hb
    ·exact ⟨.inl hb,Nat.lt_of_lt_of_le (hF b hb).1 K.size,fun hL=>absurd (hF b hb).1 (Nat.not_lt.2 (hback b hL))⟩
    ·cases hb
   ·exact Rd.hd nx _ (.inr rfl)
  ·cases hy
end Go.Proofs.Bw

namespace Go.Proofs.Bw
open Go Go.Proofs Go.RowKit
set_option maxRecDepth 100000
def fldC:List Int:=[0,32,32,32,64,8,72,16,88,16]
def zUd (w:World):Prop:= ∀ (i:Nat) (x:Int),fldC[i]? =some x→w.cell? ⟨0,i,none⟩=some (.int .i64 x)
def wdF (k:Nat):Nat:=[32,32,8,16,16].getD k 0
def ftF (k:Nat):Nat:=[0,32,64,72,88].getD k 0
def zLS (k bit:Nat) (next:Bool):Nat:=12+2*(ftF k+bit)+(if next then 1 else 0)
theorem zLN {w:World} (H:zUd w) {k:Nat} (hk:k<5):Calls Tryz.prog 78 #[.int .i64 k] w fun e w'=>e= .returned (.int .i64 (wdF k))∧w=w':=by
 have hk:k=0∨k=1∨k=2∨k=3∨k=4:=by omega
 rcases hk with rfl|rfl|rfl|rfl|rfl
 ·have h:=H 1 32 rfl
  go_enter Tryz.func78,Tryz.ntmps78
  go_wp2
  go_ret
  exact ⟨rfl,rfl⟩
 ·have h:=H 3 32 rfl
  go_enter Tryz.func78,Tryz.ntmps78
  go_wp2
  go_ret
  exact ⟨rfl,rfl⟩
 ·have h:=H 5 8 rfl
  go_enter Tryz.func78,Tryz.ntmps78
  go_wp2
  go_ret
  exact ⟨rfl,rfl⟩
 ·have h:=H 7 16 rfl
  go_enter Tryz.func78,Tryz.ntmps78
  go_wp2
  go_ret
  exact ⟨rfl,rfl⟩
 ·have h:=H 9 16 rfl
  go_enter Tryz.func78,Tryz.ntmps78
  go_wp2
  go_ret
  exact ⟨rfl,rfl⟩
theorem zSN (w:World) (b:Nat) (hb:b<1000) (next:Bool):Calls Tryz.prog 102 #[.int .i64 b, .bool next] w fun e w'=>e= .returned (.int .i64 ((12+2*b+(if next then 1 else 0):Nat):Int))∧w=w':=by
 cases next with
 |false=>
  go_enter Tryz.func102,Tryz.ntmps102
  go_wp2
  go_ret
  exact ⟨by go_num,rfl⟩
 |true=>
  go_enter Tryz.func102,Tryz.ntmps102
  go_wp2
  go_ret
  exact ⟨by go_num,rfl⟩
theorem zTX {k:Nat} (hk:k<5):fldC[k*2]? =some (ftF k:Int):=by
 have hk:k=0∨k=1∨k=2∨k=3∨k=4:=by omega
 rcases hk with rfl|rfl|rfl|rfl|rfl<;>rfl
theorem zTw (k:Nat):wdF k≤32:=by
 unfold wdF
 match k with
 |0|1|2|3|4=>decide
 |k+5=>simp
theorem zTY (k:Nat):ftF k≤88:=by
 unfold ftF
 match k with
 |0|1|2|3|4=>decide
 |k+5=>simp
theorem zSk {w:World} (H:zUd w) {k:Nat} (hk:k<5) {bit:Nat} (hb:bit<wdF k) (next:Bool):
  Calls Tryz.prog 80 #[.int .i64 k, .int .i64 bit, .bool next] w fun e w'=>e= .returned (.int .i64 (zLS k bit next))∧w=w':=by
 have c1:=Lib.hid (zLN H hk)
 have h1:=zTw k
 have h2:=zTY k
 have h:=H (k*2) _ (zTX hk)
 have hn: ¬(wdF k≤bit):=by omega
 have c2:=Lib.hid (zSN w (ftF k+bit) (by omega) next)
 go_enter Tryz.func80,Tryz.ntmps80
 go_wp2_with (first|(go_at_call 78;refine c1.out.mono ?_;rintro e w' ⟨rfl,rfl⟩)|(go_at_call 102;refine c2.out.mono ?_;rintro e w' ⟨rfl,rfl⟩))
 ·go_ret
  exact ⟨by simp only [zLS];go_num,rfl⟩
 ·go_ret
  exact ⟨by simp only [zLS];go_num,rfl⟩
end Go.Proofs.Bw



namespace Go.Proofs.Bw
open Go Go.Proofs Go.Bd Go.Ve
def zTi {X Y:Type} (g:MSt→X→Option (MSt×Y)) (x:X):Option Y:=(g (0,none) x).map (·.2)
theorem zNW {n:Nat} {P:Program} {G:Nat→Option (List V)} (hG0: ∀g cs,G g=some cs→ ∀ (m:Nat) (d:V),cs[m]? =some d→ ∃v,d= .val v) {f:FuncId} {ts:List Ty} (hts:ts.all Ty.norf=true) {ty:Ty} (hty:ty.norf=true)
  {g:MSt→ElS ts→Option (MSt×ty.El)} (h:kP (jI n) P G f (z8 (uQ (Γ:=jI n) (yY ts) (.p ty) g))):kP zAl P G f (z8 (zAQ ts (.p ty) (zTi g))):=by
 intro w F O s args ds s' r hsig hG hF hlen hrd hspec
 simp only [z8,zAQ,zBk] at hspec
 cases hx:yY ts ds with
 |none=>rw [hx] at hspec;cases hspec
 |some x=>
  rw [hx] at hspec
  simp only [Option.map_eq_some_iff,Prod.mk.injEq] at hspec
  obtain ⟨y,hy,rfl,rfl⟩:=hspec
  obtain ⟨⟨st,y0⟩,hg,rfl⟩:=Option.map_eq_some_iff.1 hy
  have hwk:=wL ts ds x hx
  let F0:Blk→Prop:=fun b=>match b with
   | .b n=>F (.b n)
   | .h _ _ _ _=>False
  have hR0:(jI n).R (0,none) F0 (fun _=>False) w:=⟨fun i a k c _ hh=>hh,fun b hh=>hh⟩
  have hG1:zBH G w F0:=by
   intro g cs hg
   have h1:=hG g cs hg
   have h2:=hG0 g cs hg
   cases h1 with
   |pp b off cs g hF hg hr=>
    refine Rd.pp _ _ _ g hF hg (fun m d hd=> ?_)
    obtain ⟨v,rfl⟩:=h2 m d hd
    have:=hr m _ hd
    rw [Rd.eq_val this]
    exact Rd.val v
  have hcall:=h w F0 (fun _=>False) (0,none) args (encS ts x) st ((RTy.p ty).res y0) hR0 hG1 (fun b hb=>⟨(hF b hb).1,fun hh=>hh⟩) (hlen.trans hwk.len) (by
   intro i u d hu hd
   have hlt:i<ds.length:=by rw [hwk.len];exact (List.getElem?_eq_some_iff.1 hd).1
   have:=hwk.get i ds[i] d (by simp [hlt]) hd w F u (hrd i u ds[i] hu (by simp [hlt]))
   exact zEN (F:=F) (F':=F0) (fun b hb=>hb) ts x hts i u d hd this) (by simp only [z8,uQ,zEi];rw [hg];rfl)
  refine hcall.mono ?_
  rintro e w' ⟨v,F',O',rfl,g1,g2,g3,g4,g5,g6⟩
  let F'':Blk→Prop:=fun b=>match b with
   | .b n=>F' (.b n)∨O' n
   | .h id a n c=>F (.h id a n c)
  refine ⟨v,F'',fun _=>False,rfl,fun _ hh=>hh,⟨g2.os,g2.tape,g2.output,g2.size,fun b hb _=>g2.block b hb (fun hh=>hh),g2.drawn⟩,fun b hh=>hh.elim,?_,?_,?_⟩
  ·intro b hb0
   cases b with
   |b n=>exact .inl (g4 (.b n) hb0)
   |h _ _ _ _=>exact hb0
  ·intro b hb0
   rcases hb0 with hb0|hb0
   ·obtain ⟨k1,k2,_⟩:=g5 b hb0
    exact ⟨k1,k2,fun hh=>hh⟩
   ·exact ⟨.inr ((g3 b hb0).elim (fun hh=>hh.elim) (fun hh=>hh)),(jI n).inb g1 b hb0,fun hh=>hh⟩
  ·have g6:Rd w' F' v (ty.enc y0):=g6
   show Rd w' F'' v (ty.enc y0)
   exact zEN (F:=F') (F':=F'') (fun b hb=> .inl hb) [ty] (y0,()) (by simp [hty]) 0 v _ rfl g6
end Go.Proofs.Bw

namespace Go.Proofs.Bw
open Go Go.Proofs Go.Bd Go.Ve
theorem zO2 {w:World} {F:Blk→Prop} (hG:zBH G0 w F):zUd w:=by
 have h:=hG 0 _ rfl
 intro i x hx
 generalize hcs:([.val (.int .i64 0), .val (.int .i64 32), .val (.int .i64 32), .val (.int .i64 32), .val (.int .i64 64), .val (.int .i64 8), .val (.int .i64 72), .val (.int .i64 16), .val (.int .i64 88), .val (.int .i64 16)]:List V)=cs at h
 cases h with
 |pp b off cs g hF hg hr=>
  have hd:cs[i]? =some (.val (.int .i64 x)):=by
   subst hcs
   match i,hx with
   |0,h|1,h|2,h|3,h|4,h|5,h|6,h|7,h|8,h|9,h=>cases h;rfl
   |i+10,h=>simp [fldC] at h
  have h1:=hg i (List.getElem?_eq_some_iff.1 hd).1
  have h2:=hr i _ hd
  rw [Rd.eq_val h2,Nat.zero_add] at h1
  exact h1
theorem zRy {G:Nat→Option (List V)} {f:FuncId} {ts:List Ty} {ty:Ty} {g:ElS ts→Option ty.El} (flat: ∀x:ElS ts, ∃vals:List Value,encS ts x=vals.map V.val)
  (h: ∀x y,g x=some y→ ∀vals:List Value,encS ts x=vals.map V.val→ ∀w F,zBH G w F→Calls Tryz.prog f vals.toArray w (fun e w'=> ∃v,e= .returned v∧w=w'∧ty.enc y= .val v)):
  kP zAl Tryz.prog G f (z8 (zAQ ts (.p ty) g)):=by
 intro w F O s args ds s' r hsig hG hF hlen hrd hspec
 simp only [z8,zAQ,zBk] at hspec
 cases hx:yY ts ds with
 |none=>rw [hx] at hspec;cases hspec
 |some x=>
  rw [hx] at hspec
  simp only [Option.map_eq_some_iff,Prod.mk.injEq] at hspec
  obtain ⟨y,hy,rfl,rfl⟩:=hspec
  have hwk:=wL ts ds x hx
  obtain ⟨vals,hvals⟩:=flat x
  have hlen':args.size=vals.length:=by rw [hlen,hwk.len,hvals,List.length_map]
  have hargs:args=vals.toArray:=by
   apply Array.ext
   ·simpa using hlen'
   ·intro j h1 h2
    have hj:j<vals.length:=by simpa using h2
    have hlt:j<ds.length:=by rw [←hlen];exact h1
    have:=hwk.get j ds[j] (.val vals[j]) (by simp [hlt]) (by rw [hvals];simp [hj]) w F args[j] (hrd j args[j] ds[j] (by simp) (by simp [hlt]))
    rw [Rd.eq_val this]
    simp
  rw [hargs]
  refine (h x y hy vals hvals w F hG).mono ?_
  rintro e w' ⟨v,rfl,rfl,hv⟩
  refine ⟨v,F,O,rfl,hsig,zBx.refl O w,fun b hb=> .inl hb,fun b hb=>hb,fun b hb=>⟨.inl hb,(hF b hb).1,(hF b hb).2⟩,?_⟩
  show Rd w F v (ty.enc y)
  rw [hv]
  exact Rd.val v
def zG1 (k:Int):Option Int:=if 0≤k∧k<5 then some (wdF k.toNat) else none
def zLR (k bit:Int) (next:Bool):Option Int:=if (0≤k∧k<5)∧0≤bit∧bit<wdF k.toNat then some (zLS k.toNat bit.toNat next) else none
theorem zNV:kP zAl Tryz.prog G0 78 (z8 (zAQ [tR] (.p tR) (fun x=>zG1 x.1))):=by
 refine zRy (ty:=tR) (fun x=>uI 1 x) ?_
 intro x y hy vals hvals w F hG
 obtain ⟨k,u⟩:=x
 have hy:zG1 k=some y:=hy
 unfold zG1 at hy
 split at hy
 ·rename_i hc
  obtain ⟨c1,c2⟩:=hc
  obtain ⟨m,rfl⟩: ∃m:Nat,k=(m:Int):=⟨Int.toNat k,(Int.toNat_of_nonneg c1).symm⟩
  have c3:m<5:=Int.ofNat_lt.1 c2
  cases hy
  have hv:vals=[.int .i64 m]:=zAX rfl vals hvals
  subst hv
  refine (zLN (zO2 hG) c3).mono ?_
  rintro e w' ⟨rfl,rfl⟩
  exact ⟨_,rfl,rfl,rfl⟩
 ·cases hy
theorem zPL:kP zAl Tryz.prog G0 80 (z8 (zAQ [tR,tR, .bool] (.p tR) (fun x=>zLR x.1 x.2.1 x.2.2.1))):=by
 refine zRy (ty:=tR) (fun x=>⟨[.int .i64 x.1, .int .i64 x.2.1, .bool x.2.2.1],rfl⟩) ?_
 intro x y hy vals hvals w F hG
 obtain ⟨k,bit,next,u⟩:=x
 have hy:zLR k bit next=some y:=hy
 unfold zLR at hy
 split at hy
 ·rename_i hc
  obtain ⟨⟨c1,c2⟩,c4,c5⟩:=hc
  obtain ⟨m,rfl⟩: ∃m:Nat,k=(m:Int):=⟨Int.toNat k,(Int.toNat_of_nonneg c1).symm⟩
  obtain ⟨b,rfl⟩: ∃b:Nat,bit=(b:Int):=⟨Int.toNat bit,(Int.toNat_of_nonneg c4).symm⟩
  have c3:m<5:=Int.ofNat_lt.1 c2
  have c6:b<wdF m:=Int.ofNat_lt.1 c5
  cases hy
  have hv:vals=[.int .i64 m, .int .i64 b, .bool next]:=zAX rfl vals hvals
  subst hv
  refine (zSk (zO2 hG) c3 c6 next).mono ?_
  rintro e w' ⟨rfl,rfl⟩
  exact ⟨_,rfl,rfl,rfl⟩
 ·cases hy
end Go.Proofs.Bw

namespace Go.Ve
open Go Go.Proofs Go.Bd Go.Proofs.Bw
abbrev xW:Sig:=jI 220
structure xX where
 ad:zL xW→zL xW
 ok: ∀S:zL xW,zZ xW Tryz.prog G0 S.toS→zZ xW Tryz.prog G0 (ad S).toS
def zBq {f:FuncId} {sp:xW.St→List V→Option (zCG xW.St)} (hi:isFn Tryz.prog f=true) (h:kP xW Tryz.prog G0 f (z8 sp)):xX:=⟨fun S=>S.add f sp,fun _ hS=>xZ hS hi h⟩
def zC8 {f:FuncId} {X:Type} {dec:List V→Option X} {R:RTy} {g:X→Option R.El} (hi:isFn Tryz.prog f=true) (hn:R.norf=true) (h:kP zAl Tryz.prog G0 f (z8 (zBk dec R g))):xX:=
 ⟨fun S=>S.add f (zBk dec R g),fun _ hS=>xZ hS hi (zKG hn h)⟩
def zO7:List xX→zL xW
 |[]=>zL.none xW
 |e::r=>e.ad (zO7 r)
theorem zJz: ∀l,zZ xW Tryz.prog G0 (zO7 l).toS
 |[]=>zDN
 |e::r=>e.ok _ (zJz r)
abbrev OkH (f:FuncId) (ts:List Ty) (R:RTy) (g:MSt→ElS ts→Option (MSt×R.El)):Prop:=kP xW Tryz.prog G0 f (z8 (uQ (Γ:=xW) (yY ts) R g))
abbrev zTb (f:FuncId) (ts:List ATy) (R:RTy) (g:MSt→ElA ts→Option (MSt×R.El)):Prop:=kP xW Tryz.prog G0 f (z8 (uQ (Γ:=xW) (zIl ts) R g))
def zNf:List (Nat×JA)→Bool
 |[]=>true
 |p::r=>zCw p.2.sl&&zNf r
theorem zJL: ∀ {l:List (Nat×JA)},zNf l=true→ ∀k j,jl l k=some j→zCw j.sl=true
 |[],_,_,_,h=>by cases h
 |(a,q)::r,hl,k,j,h=>by
  simp only [zNf,Bool.and_eq_true] at hl
  simp only [jl] at h
  split at h
  ·cases h;exact hl.1
  ·exact zJL hl.2 k j h
theorem fH (l:List xX) {A:List (Nat×JA)} {f:FuncId} {fn:Func} (hA:zNf A=true) (hf:LF.fn f=some fn) (hb:fn.body=some (zDi fn))
  {ts:List Ty} {R:RTy} {g:MSt→ElS ts→Option (MSt×R.El)} (h: ∀s x,zSS (Γ:=xW) LF G0 (zO7 l) (jl A) fn (zDi fn) R s (encS ts x)=g s x):OkH f ts R g:=by
 have hl:LF=qK.of Tryz.prog:=qK.fast_eq Tryz.prog 204 127
 rw [hl] at hf h
 exact zMH (zJL hA) mixed (zJz l) hf hb (wL ts) h
theorem fHA (l:List xX) {A:List (Nat×JA)} {f:FuncId} {fn:Func} (hA:zNf A=true) (hf:LF.fn f=some fn) (hb:fn.body=some (zDi fn))
  {ts:List ATy} {R:RTy} {g:MSt→ElA ts→Option (MSt×R.El)} (h: ∀s x,zSS (Γ:=xW) LF G0 (zO7 l) (jl A) fn (zDi fn) R s (zOf ts x)=g s x):zTb f ts R g:=by
 have hl:LF=qK.of Tryz.prog:=qK.fast_eq Tryz.prog 204 127
 rw [hl] at hf h
 exact zMH (zJL hA) mixed (zJz l) hf hb (zDf ts) h
noncomputable def zER:MSt→ElS [.hd,tR,tR,tR]→Option (MSt×RTy.El (.p tR)):=fun s x=>zDr 220 s x.1 x.2.1 x.2.2.1 x.2.2.2.1
noncomputable def kR:MSt→ElS [.hd,tR]→Option (MSt×RTy.El (.p tR)):=fun s x=>zDr 220 s x.1 x.2.1 0 1
noncomputable def qP:MSt→ElS [.hd,tR,tR]→Option (MSt×RTy.El (.p tR)):=fun s x=>zDr 220 s x.1 x.2.1 x.2.2.1 0
noncomputable def xT:MSt→ElS [.hd,tR,tR]→Option (MSt×RTy.El (.p tR)):=fun s x=>zDr 220 s x.1 x.2.1 1 x.2.2.1
noncomputable def zEQ:MSt→ElS [.hd,tR]→Option (MSt×RTy.El (.p tR)):=fun s x=>zKj 220 s x.1 x.2.1
noncomputable def zH1:MSt→ElS [.hd,tR]→Option (MSt×RTy.El (.p .bool)):=fun s x=>zGd s x.1 x.2.1
noncomputable def zDj:MSt→ElS [.hd,tR]→Option (MSt×RTy.El (.p tR)):=fun s x=>zIM s x.1 x.2.1
noncomputable def zJJ:MSt→ElS [.hd,tR, .sl .bool]→Option (MSt×RTy.El (.p .bool)):=fun s x=>zIN s x.1 x.2.1 x.2.2.1
noncomputable def zKQ:MSt→ElS [tR]→Option (MSt×RTy.El (.p .hd)):=fun s x=>zKk 220 s x.1
noncomputable def zBa:xX:=zBq (by kernel_rfl) (show OkH 19 _ _ kR from zRD (by omega))
noncomputable def zBb:xX:=zBq (by kernel_rfl) (show OkH 41 _ _ qP from zRG (by omega))
noncomputable def zEf:xX:=zBq (by kernel_rfl) (show OkH 51 _ _ xT from zSP (by omega))
noncomputable def zKO:xX:=zBq (by kernel_rfl) (show OkH 79 _ _ zEQ from zRC)
noncomputable def zMQ:xX:=zBq (by kernel_rfl) (show OkH 10 _ _ zH1 from zNZ)
noncomputable def zOg:xX:=zBq (by kernel_rfl) (show OkH 17 _ _ zDj from zPN)
noncomputable def zOh:xX:=zBq (by kernel_rfl) (show OkH 38 _ _ zJJ from zPO)
noncomputable def zP3:xX:=zBq (by kernel_rfl) (show OkH 34 _ _ zKQ from zRE)
noncomputable def zN:ElS [tR]→Option (RTy.El (.p tR)):=fun x=>zG1 x.1
noncomputable def jX:ElS [tR,tR, .bool]→Option (RTy.El (.p tR)):=fun x=>zLR x.1 x.2.1 x.2.2.1
theorem zAH:OkX 78 [tR] (.p tR) zN:=zNV
theorem zCa:OkX 80 [tR,tR, .bool] (.p tR) jX:=zPL
end Go.Ve
