/-
  law31: the package bdd, part E.
-/
import Derived.RangeFuncLeaves
import Derived.Test.YtaidmnnejapafaaGreatDoorl19
import Derived.Test.YtaidmnnejapafaaGreatDoorl3
set_option linter.unusedVariables false
namespace Go.Proofs.Bw
open Go Go.Proofs Go.RowKit Go.Shelf
def zNw:Nat→Code→Code
 |0,c=>c
 |k+1,c=>match zNw k c with
  | .seq _ y=>y
  |c=>c
noncomputable def uS (k:Nat):Code:=zNw k (Tryz.f9.body.getD .skip)
theorem zAz {k:Nat} {c x y:Code} (hc:Tryz.f9.body=some c) (h:zNw k c= .seq x y):uS k= .seq x (uS (k+1)):=by
 unfold uS
 rw [hc]
 show zNw k c= .seq x (zNw (k+1) c)
 rw [zNw,h]
theorem zG0 {F:Fence} {n:Nat} {P:Program} {ops:Array Oper} {Q:Exit→Act→World→Prop} {i:Nat} {rest:List Nat} {o:Oper} {a:Act} {w:World} {ty:TypeId} {x:Operand} {b off N:Nat} {g:Nat→Value} {v:Value}
  (hi:ops[i]? =some o) (hg:o.guard=none) (ho:o.op= .load ty x) (hx:a.eval x= .pointer (some ⟨b,off,none⟩)) (ha:Ve.zAI P ty=some true) (hs:Ve.z9 P ty=some N)
  (hv:(Value.agg ((List.range N).map g).toArray)=v) (hF: ∀f,F.fn f) (hro:F.round=none)
  (hc: ∀m,m<N→w.cell? ⟨b,off+m,none⟩=some (g m)) (h:wpOpsIn F n P ops Q rest (a.put o.dst v) w):wpOpsIn F n P ops Q (i::rest) a w:=by
 unfold wpOpsIn
 rw [hi]
 have hw:Region.wanted o (yielded ops a.tmps)=true:=by simp [Region.wanted,hg]
 simp only [hw,if_true]
 refine ⟨fun f _=>hF f,?_⟩
 have e:(o.semAt F.round a.eval).run P w= .ok (.value v) w:=by
  rw [hro,Oper.semAt_none]
  unfold execOp
  have hl:=Ve.xG (P:=P) (w:=w) ha hs hc
  rw [hv] at hl
  simp only [ho,hx,Sem.run_bind,hl,Result.andThen_ok,Sem.run_pure]
 rw [e]
 exact h
theorem zBZ {F:Fence} {n:Nat} {P:Program} {ops:Array Oper} {Q:Exit→Act→World→Prop} {i:Nat} {rest:List Nat} {o:Oper} {a:Act} {w:World} (hi:ops[i]? =some o)
  (h:if Region.wanted o (yielded ops a.tmps)=true then o.wpIn F n P a w (wpOpsIn F n P ops Q rest) Q else (∀f,o.about P w a.eval=some f→F.fn f)∧wpOpsIn F n P ops Q rest (a.put o.dst undef) w):wpOpsIn F n P ops Q (i::rest) a w:=by
 unfold wpOpsIn
 rw [hi]
 exact h
theorem zOj {k:Nat} {c x y:Code} (hc:Tryz.f9.body=some c) (h:zNw k c= .seq x y):uS k= .seq x y:=by
 unfold uS
 rw [hc]
 exact h
set_option maxRecDepth 100000 in
set_option maxHeartbeats 4000000 in
theorem p0 {n:Nat} {Q:Exit→Act→World→Prop} {x3 x4 x5 x6 x7 x8 x9 x10 x11 x12 x13 x14 x15 x16 x17 x18 x19 x20 x21 x22 x23 x24 x25 x26 x27 x28 x29 x30 x31 x32 x33 x34 x35 x36 x37 x38 x39 x40 x41 x42 x43 x44:Value} {w:World} {pm:Option Addr} {c:Nat→Value} {nm:ByteArray}
  (h:(uS 1).wpIn Fence.wide n Tryz.prog Q { tmps:= #[.pointer pm, .agg #[c 0,c 1,c 2,c 3,c 4,c 5,c 6,c 7,c 8,c 9,c 10,c 11,c 12,c 13,c 14,c 15,c 16,c 17,c 18,c 19,c 20,c 21,c 22,c 23,c 24], .string nm, .pointer (some ⟨w.heap.size,0,none⟩), .pointer (some ⟨w.heap.size+1,0,none⟩),x5, .int .i64 0,x7,x8,x9,x10,x11,x12,x13,x14,x15,x16,x17,x18,x19,x20,x21,x22,x23,x24,x25,x26,x27,x28,x29,x30,x31,x32,x33,x34,x35,x36,x37,x38,x39,x40,x41,x42,x43,x44],defers:=[] } ((w.alloc (.cells #[.pointer pm] 53)).alloc (.cells #[c 0,c 1,c 2,c 3,c 4,c 5,c 6,c 7,c 8,c 9,c 10,c 11,c 12,c 13,c 14,c 15,c 16,c 17,c 18,c 19,c 20,c 21,c 22,c 23,c 24] 41))):
  (uS 0).wpIn Fence.wide n Tryz.prog Q { tmps:= #[.pointer pm, .agg #[c 0,c 1,c 2,c 3,c 4,c 5,c 6,c 7,c 8,c 9,c 10,c 11,c 12,c 13,c 14,c 15,c 16,c 17,c 18,c 19,c 20,c 21,c 22,c 23,c 24], .string nm,x3,x4,x5,x6,x7,x8,x9,x10,x11,x12,x13,x14,x15,x16,x17,x18,x19,x20,x21,x22,x23,x24,x25,x26,x27,x28,x29,x30,x31,x32,x33,x34,x35,x36,x37,x38,x39,x40,x41,x42,x43,x44],defers:=[] } w:=by
 rw [zAz (k:=0) rfl rfl]
 have h':=Lib.hid h
 clear h
 refine wpIn_seq ?_
 gi_wp2
 exact h'.out
set_option maxRecDepth 100000 in
set_option maxHeartbeats 4000000 in
theorem p1 {n:Nat} {Q:Exit→Act→World→Prop} {x0 x1 x3 x4 x5 x6 x7 x8 x9 x10 x11 x12 x13 x14 x15 x16 x17 x18 x19 x20 x21 x22 x23 x24 x25 x26 x27 x28 x29 x30 x31 x32 x33 x34 x35 x36 x37 x38 x39 x40 x41 x42 x43 x44:Value} {w:World} {nm:ByteArray} (hnm:nm.toList.isEmpty=false)
  (h:(uS 2).wpIn Fence.wide n Tryz.prog Q { tmps:= #[x0,x1, .string nm,x3,x4,x5,x6,x7,x8,x9,x10,x11, .string nm, .bool false,x14,x15,x16,x17,x18,x19,x20,x21,x22,x23,x24,x25,x26,x27,x28,x29,x30,x31,x32,x33,x34,x35,x36,x37,x38,x39,x40,x41,x42,x43,x44],defers:=[] } w):
  (uS 1).wpIn Fence.wide n Tryz.prog Q { tmps:= #[x0,x1, .string nm,x3,x4,x5,x6,x7,x8,x9,x10,x11,x12,x13,x14,x15,x16,x17,x18,x19,x20,x21,x22,x23,x24,x25,x26,x27,x28,x29,x30,x31,x32,x33,x34,x35,x36,x37,x38,x39,x40,x41,x42,x43,x44],defers:=[] } w:=by
 rw [zAz (k:=1) rfl rfl]
 have h':=Lib.hid h
 clear h
 refine wpIn_seq ?_
 gi_wp2
 exact h'.out
set_option maxRecDepth 100000 in
set_option maxHeartbeats 4000000 in
theorem p1e {n:Nat} {Q:Exit→Act→World→Prop} {x0 x1 x3 x4 x5 x6 x7 x8 x9 x10 x11 x12 x13 x14 x15 x16 x17 x18 x19 x20 x21 x22 x23 x24 x25 x26 x27 x28 x29 x30 x31 x32 x33 x34 x35 x36 x37 x38 x39 x40 x41 x42 x43 x44:Value} {w:World} {nm:ByteArray} (hnm:nm.toList.isEmpty=true)
  (h: ∀tm:Array Value,tm.getD 6 undef= .int .i64 1→Q .ret { tmps:=tm,defers:=[] } w):
  (uS 1).wpIn Fence.wide n Tryz.prog Q { tmps:= #[x0,x1, .string nm,x3,x4,x5,x6,x7,x8,x9,x10,x11,x12,x13,x14,x15,x16,x17,x18,x19,x20,x21,x22,x23,x24,x25,x26,x27,x28,x29,x30,x31,x32,x33,x34,x35,x36,x37,x38,x39,x40,x41,x42,x43,x44],defers:=[] } w:=by
 rw [zAz (k:=1) rfl rfl]
 have h':=Lib.hid h
 clear h
 refine wpIn_seq ?_
 gi_wp2
 exact h'.out _ rfl
set_option maxRecDepth 100000 in
set_option maxHeartbeats 4000000 in
theorem p2 {n:Nat} {Q:Exit→Act→World→Prop} {x0 x1 x3 x5 x6 x7 x8 x9 x10 x11 x12 x13 x14 x15 x16 x17 x18 x19 x20 x21 x22 x23 x24 x25 x26 x27 x28 x29 x30 x31 x32 x33 x34 x35 x36 x37 x38 x39 x40 x41 x42 x43 x44:Value} {w:World} {Br:Nat} {c:Nat→Value} {nm:ByteArray} {kk:Int} (hc: ∀i,i<25→w.cell? ⟨Br,i,none⟩=some (c i)) {PA:World→Prop} (hA:Calls Tryz.prog 35 #[.agg #[c 0,c 1,c 2,c 3,c 4,c 5,c 6,c 7,c 8,c 9,c 10,c 11,c 12,c 13,c 14,c 15,c 16,c 17,c 18,c 19,c 20,c 21,c 22,c 23,c 24], .string nm] w fun e w'=>e= .returned (.int .i64 kk)∧PA w')
  (h: ∀w1,PA w1→(uS 3).wpIn Fence.wide n Tryz.prog Q { tmps:= #[x0,x1, .string nm,x3, .pointer (some ⟨Br,0,none⟩),x5,x6, .int .i64 kk,x8,x9,x10,x11,x12,x13, .agg #[c 0,c 1,c 2,c 3,c 4,c 5,c 6,c 7,c 8,c 9,c 10,c 11,c 12,c 13,c 14,c 15,c 16,c 17,c 18,c 19,c 20,c 21,c 22,c 23,c 24], .string nm, .int .i64 kk,x17,x18,x19,x20,x21,x22,x23,x24,x25,x26,x27,x28,x29,x30,x31,x32,x33,x34,x35,x36,x37,x38,x39,x40,x41,x42,x43,x44],defers:=[] } w1):
  (uS 2).wpIn Fence.wide n Tryz.prog Q { tmps:= #[x0,x1, .string nm,x3, .pointer (some ⟨Br,0,none⟩),x5,x6,x7,x8,x9,x10,x11,x12,x13,x14,x15,x16,x17,x18,x19,x20,x21,x22,x23,x24,x25,x26,x27,x28,x29,x30,x31,x32,x33,x34,x35,x36,x37,x38,x39,x40,x41,x42,x43,x44],defers:=[] } w:=by
 rw [zAz (k:=2) rfl rfl]
 have h':=Lib.hid h
 clear h
 refine wpIn_seq ?_
 refine wpIn_region ?_
 refine zG0 (i:=0) (rest:=[1,2,3]) (v:= .agg #[c 0,c 1,c 2,c 3,c 4,c 5,c 6,c 7,c 8,c 9,c 10,c 11,c 12,c 13,c 14,c 15,c 16,c 17,c 18,c 19,c 20,c 21,c 22,c 23,c 24]) (g:=c) rfl rfl rfl rfl (by kernel_rfl) (by kernel_rfl) rfl (fun _=>trivial) rfl (fun m hm=>by simpa using hc m hm) ?_
 clear hc
 refine zBZ rfl ?_
 go_simp
 refine zBZ rfl ?_
 go_simp
 refine ⟨trivial,(fun e=>by cases e),(callsIn_wide.2 hA).mono ?_⟩
 rintro e w1 ⟨rfl,hp⟩
 refine zBZ rfl ?_
 go_simp
 exact h'.out w1 hp
set_option maxRecDepth 100000 in
set_option maxHeartbeats 4000000 in
theorem p3 {n:Nat} {Q:Exit→Act→World→Prop} {x0 x1 x2 x3 x5 x6 x8 x9 x10 x11 x12 x13 x14 x15 x16 x17 x18 x19 x20 x21 x22 x23 x24 x25 x26 x27 x28 x29 x30 x31 x32 x33 x34 x35 x36 x37 x38 x39 x40 x41 x42 x43 x44:Value} {w:World} {Br:Nat} {sl:Value} {k la ca:Nat} {ad:Option Addr} (hsl:sl= .slice ad la ca) (hk:k<la) (hc:w.cell? ⟨Br,5,none⟩=some sl)
  (h:(uS 4).wpIn Fence.wide n Tryz.prog Q { tmps:= #[x0,x1,x2,x3, .pointer (some ⟨Br,0,none⟩),x5,x6, .int .i64 k,x8,x9,x10,x11,x12,x13,x14,x15,x16, .int .i64 k, .bool false, .bool false, .int .i64 k, .pointer (some ⟨Br,5,none⟩),sl, .int .i64 la, .bool false, .bool false,x26,x27,x28,x29,x30,x31,x32,x33,x34,x35,x36,x37,x38,x39,x40,x41,x42,x43,x44],defers:=[] } w):
  (uS 3).wpIn Fence.wide n Tryz.prog Q { tmps:= #[x0,x1,x2,x3, .pointer (some ⟨Br,0,none⟩),x5,x6, .int .i64 k,x8,x9,x10,x11,x12,x13,x14,x15,x16,x17,x18,x19,x20,x21,x22,x23,x24,x25,x26,x27,x28,x29,x30,x31,x32,x33,x34,x35,x36,x37,x38,x39,x40,x41,x42,x43,x44],defers:=[] } w:=by
 rw [zAz (k:=3) rfl rfl]
 have h':=Lib.hid h
 clear h
 refine wpIn_seq ?_
 have hk0:((k:Int)<0)=False:=by simp
 have hk1:((k:Int)≥(la:Int))=False:=by simp;omega
 subst hsl
 gi_wp2
 exact h'.out
set_option maxRecDepth 100000 in
set_option maxHeartbeats 4000000 in
theorem p3n {n:Nat} {Q:Exit→Act→World→Prop} {x0 x1 x2 x3 x5 x6 x8 x9 x10 x11 x12 x13 x14 x15 x16 x17 x18 x19 x20 x21 x22 x23 x24 x25 x26 x27 x28 x29 x30 x31 x32 x33 x34 x35 x36 x37 x38 x39 x40 x41 x42 x43 x44:Value} {w:World} {Br:Nat} {kk:Int} (hk:kk<0)
  (h: ∀tm:Array Value,tm.getD 6 undef= .int .i64 0→Q .ret { tmps:=tm,defers:=[] } w):
  (uS 3).wpIn Fence.wide n Tryz.prog Q { tmps:= #[x0,x1,x2,x3, .pointer (some ⟨Br,0,none⟩),x5,x6, .int .i64 kk,x8,x9,x10,x11,x12,x13,x14,x15,x16,x17,x18,x19,x20,x21,x22,x23,x24,x25,x26,x27,x28,x29,x30,x31,x32,x33,x34,x35,x36,x37,x38,x39,x40,x41,x42,x43,x44],defers:=[] } w:=by
 rw [zAz (k:=3) rfl rfl]
 have h':=Lib.hid h
 clear h
 refine wpIn_seq ?_
 have hk0:(kk<0)=True:=by simp [hk]
 gi_wp2
 exact h'.out _ rfl
set_option maxRecDepth 100000 in
set_option maxHeartbeats 4000000 in
theorem p4 {n:Nat} {Q:Exit→Act→World→Prop} {x0 x1 x2 x3 x4 x5 x6 x7 x8 x9 x10 x11 x12 x13 x14 x15 x16 x17 x18 x19 x20 x21 x22 x23 x24 x25 x26 x27 x28 x29 x30 x31 x32 x33 x34 x35 x36 x37 x38 x39 x40 x41 x42 x43 x44:Value} {w:World}
  (h:(uS 5).wpIn Fence.wide n Tryz.prog Q { tmps:= #[x0,x1,x2,x3,x4,x5,x6,x7, .pointer (some ⟨w.heap.size,0,none⟩),x9,x10,x11,x12,x13,x14,x15,x16,x17,x18,x19,x20,x21,x22,x23,x24,x25,x26,x27,x28,x29,x30,x31,x32,x33,x34,x35,x36,x37,x38,x39,x40,x41,x42,x43,x44],defers:=[] } (w.alloc (.cells #[.int .i64 0] 55))):
  (uS 4).wpIn Fence.wide n Tryz.prog Q { tmps:= #[x0,x1,x2,x3,x4,x5,x6,x7,x8,x9,x10,x11,x12,x13,x14,x15,x16,x17,x18,x19,x20,x21,x22,x23,x24,x25,x26,x27,x28,x29,x30,x31,x32,x33,x34,x35,x36,x37,x38,x39,x40,x41,x42,x43,x44],defers:=[] } w:=by
 rw [zAz (k:=4) rfl rfl]
 have h':=Lib.hid h
 clear h
 refine wpIn_seq ?_
 gi_wp2
 exact h'.out
set_option maxRecDepth 100000 in
set_option maxHeartbeats 4000000 in
theorem p5 {n:Nat} {Q:Exit→Act→World→Prop} {x0 x1 x2 x3 x5 x6 x8 x9 x10 x11 x12 x13 x14 x15 x16 x17 x18 x19 x20 x21 x22 x23 x24 x25 x26 x27 x28 x29 x30 x31 x32 x33 x34 x35 x36 x37 x38 x39 x40 x41 x42 x43 x44:Value} {w:World} {Br ba oa la ca lr cr k:Nat} {ar:Option Addr} (hk:k<la) (hc:w.cell? ⟨Br,5,none⟩=some (.slice (some ⟨ba,oa,none⟩) la ca)) (he:w.cell? ⟨ba,oa+k*2+1,none⟩=some (.slice ar lr cr))
  (h:(Code.rangeFunc (.tmp 32) #[33,34] zLH zLG).wpIn Fence.wide n Tryz.prog (Exit.inBlock 0 (Exit.then ((uS 6).wpIn Fence.wide n Tryz.prog Q) Q)) { tmps:= #[x0,x1,x2,x3, .pointer (some ⟨Br,0,none⟩),x5,x6, .int .i64 k,x8,x9,x10,x11,x12,x13,x14,x15,x16,x17,x18,x19,x20,x21,x22,x23,x24,x25, .pointer (some ⟨Br,5,none⟩), .slice (some ⟨ba,oa,none⟩) la ca, .int .i64 k, .pointer (some ⟨ba,oa+k*2,none⟩), .pointer (some ⟨ba,oa+k*2+1,none⟩), .slice ar lr cr, .func (.func 71) #[] #[.pointer (some ⟨w.heap.size,0,none⟩)],x33,x34,x35,x36,x37,x38,x39,x40,x41,x42,x43,x44],defers:=[] } (w.alloc (.cells #[.slice ar lr cr] 50))):
  (uS 5).wpIn Fence.wide n Tryz.prog Q { tmps:= #[x0,x1,x2,x3, .pointer (some ⟨Br,0,none⟩),x5,x6, .int .i64 k,x8,x9,x10,x11,x12,x13,x14,x15,x16,x17,x18,x19,x20,x21,x22,x23,x24,x25,x26,x27,x28,x29,x30,x31,x32,x33,x34,x35,x36,x37,x38,x39,x40,x41,x42,x43,x44],defers:=[] } w:=by
 rw [zAz (k:=5) rfl rfl]
 have h':=Lib.hid h
 clear h
 refine wpIn_seq ?_
 refine wpIn_seq ?_
 gi_wp2
 refine ⟨trivial,(fun e=>by cases e),(zM4 Fence.wide _ trivial rfl ar lr cr w).mono ?_⟩
 rintro e w1 ⟨rfl,rfl⟩
 gi_wp2
 exact h'.out
set_option maxRecDepth 100000 in
set_option maxHeartbeats 4000000 in
theorem p6 {n:Nat} {Q:Exit→Act→World→Prop} {x0 x1 x2 x3 x4 x5 x6 x7 x9 x10 x11 x12 x13 x14 x15 x16 x17 x18 x19 x20 x21 x22 x23 x24 x25 x26 x27 x28 x29 x30 x31 x32 x33 x34 x35 x36 x37 x38 x39 x40 x41 x42 x43 x44:Value} {w:World} {Bf:Nat} {f:Int} {ds:List Deferred} (hf:w.cell? ⟨Bf,0,none⟩=some (.int .i64 f))
  (h: ∀tm:Array Value,tm.getD 6 undef= .int .i64 f→Q .ret { tmps:=tm,defers:=ds } w):
  (uS 6).wpIn Fence.wide n Tryz.prog Q { tmps:= #[x0,x1,x2,x3,x4,x5,x6,x7, .pointer (some ⟨Bf,0,none⟩),x9,x10,x11,x12,x13,x14,x15,x16,x17,x18,x19,x20,x21,x22,x23,x24,x25,x26,x27,x28,x29,x30,x31,x32,x33,x34,x35,x36,x37,x38,x39,x40,x41,x42,x43,x44],defers:=ds } w:=by
 rw [zOj (k:=6) rfl rfl]
 have h':=Lib.hid h
 clear h
 gi_wp2
 exact h'.out _ rfl
end Go.Proofs.Bw
