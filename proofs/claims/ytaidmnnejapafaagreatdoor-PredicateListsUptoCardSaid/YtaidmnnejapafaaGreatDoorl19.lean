/-
  law31: the package bdd, part C.
-/
import Derived.Lib.Hide
import Derived.Test.YtaidmnnejapafaaGreatDoorl18
set_option linter.unusedVariables false
namespace Go.Proofs.Bw
open Go Go.Proofs Go.RowKit Go.Shelf
attribute [local go_sem] Oper.semAt_some run_store
def zNA:Code→Option (Code×Code)
 | .seq x y=>match zNA x with
  |some r=>some r
  |none=>zNA y
 | .block _ c=>zNA c
 | .rangeFunc _ _ a b=>some (a,b)
 |_=>none
noncomputable def zLH:Code:=((Tryz.f9.body.bind zNA).getD (.skip, .skip)).1
noncomputable def zLG:Code:=((Tryz.f9.body.bind zNA).getD (.skip, .skip)).2
theorem zS8 {c:Code} {r:Code×Code} (hc:Tryz.f9.body=some c) (hr:zNA c=some r):zLH=r.1:=by
 unfold zLH
 rw [hc,Option.bind_some,hr]
 rfl
theorem zS7 {c:Code} {r:Code×Code} (hc:Tryz.f9.body=some c) (hr:zNA c=some r):zLG=r.2:=by
 unfold zLG
 rw [hc,Option.bind_some,hr]
 rfl
abbrev zDg (r:Nat→Value):Array Value:= #[r 0,r 1,r 2,r 3,r 4,r 5,r 6,r 7,r 8,r 9]
abbrev tmR (u:Nat→Value) (Bm Bf:Nat) (x:Value):Array Value:=
 #[u 0,u 1,u 2, .pointer (some ⟨Bm,0,none⟩),u 4,u 5,u 6,u 7, .pointer (some ⟨Bf,0,none⟩),u 9,u 10,u 11,u 12,u 13,u 14,u 15,u 16,u 17,u 18,u 19,u 20,u 21,u 22,u 23,u 24,u 25,u 26,u 27,u 28,u 29,u 30,u 31,u 32,u 33,x,u 35,u 36,u 37,u 38,u 39,u 40,u 41,u 42,u 43,u 44]
set_option maxRecDepth 100000 in
set_option maxHeartbeats 4000000 in
theorem zM7 (l m:Nat) (u:Nat→Value) (Bm Bf:Nat) (r:Nat→Value) (h1: ∀i,i<10→(r i).oneCell'=true) (W:World) (Q:Exit→Act→World→Prop)
  (hQ: ∀t10,t10= .pointer (some ⟨W.heap.size,0,none⟩)→Q .normal { tmps:=tmR (fun i=>if i=10 then t10 else u i) Bm Bf (zAW r),defers:=[] } (W.alloc (.cells (zDg r) 69))):
  zLH.wpIn (Fence.wide.inRound l) m Tryz.prog Q { tmps:=tmR u Bm Bf (zAW r),defers:=[] } W:=by
 have e:zLH=_:=zS8 rfl rfl
 rw [e]
 have o0:=h1 0 (by omega)
 have o1:=h1 1 (by omega)
 have o2:=h1 2 (by omega)
 have o3:=h1 3 (by omega)
 have o4:=h1 4 (by omega)
 have o5:=h1 5 (by omega)
 have o6:=h1 6 (by omega)
 have o7:=h1 7 (by omega)
 have o8:=h1 8 (by omega)
 have o9:=h1 9 (by omega)
 dsimp only
 have hQ':RowKit.Hid (∀t10,t10=Value.pointer (some ⟨W.heap.size,0,none⟩)→Q .normal { tmps:=tmR (fun i=>if i=10 then t10 else u i) Bm Bf (zAW r),defers:=[] } (W.alloc (.cells (zDg r) 69))):=Lib.hid hQ
 clear hQ
 gi_wp2
 exact hQ'.out _ rfl
set_option maxRecDepth 100000 in
set_option maxHeartbeats 4000000 in
theorem zQc (l m:Nat) (u:Nat→Value) (Bm Bf Bx:Nat) (pm:Option Addr) (r:Nat→Value) (pb:Bool) (hr0:r 0= .bool pb) (f:Int) (W0:World)
  (Box:World→Prop) (hbm: ∀w,Box w→w.cell? ⟨Bm,0,none⟩=some (.pointer pm)) (hbx: ∀w,Box w→ ∀i,i<10→w.cell? ⟨Bx,i,none⟩=some (r i)) (hbf: ∀w,Box w→w.cell? ⟨Bf,0,none⟩=some (.int .i64 f)) (h0:Box W0) (h1:Box W0.drew)
  (PR:Int→World→Prop) (hR:Calls Tryz.prog 13 #[.pointer pm,zAW r] W0.drew fun e w'=> ∃g,e= .returned (.int .i64 g)∧PR g w') (hPR: ∀g w',PR g w'→Box w')
  (PI:Int→Int→World→Prop) (hI: ∀g w,PR g w→Calls Tryz.prog 37 #[.pointer pm, .int .i64 g, .int .i64 (if pb then 1 else 0), .int .i64 f] w fun e w'=> ∃h,e= .returned (.int .i64 h)∧PI g h w')
  (hPI: ∀g h w',PI g h w'→(∃v,w'.cell? ⟨Bf,0,none⟩=some v)∧w'.frozen? ⟨Bf,0,none⟩=false)
  (Q:Exit→Act→World→Prop) (hQ: ∀tm g h w,PI g h w→Q .normal { tmps:=tm,defers:=[] } (w.setCell ⟨Bf,0,none⟩ (.int .i64 h)))
  (hu:u 10= .pointer (some ⟨Bx,0,none⟩)) (x:Value):
  zLG.wpIn (Fence.wide.inRound l) m Tryz.prog Q { tmps:=tmR u Bm Bf x,defers:=[] } W0:=by
 have e:zLG=_:=zS7 rfl rfl
 rw [e]
 dsimp only
 have c0:=hbx W0 h0 0 (by omega)
 rw [hr0] at c0
 have hmx:Tryz.prog.follows .mixedOrders=true:=by kernel_rfl
 have eo:zDv=_:=zMo rfl rfl
 dsimp only [tmR]
 rw [hu]
 have main: ∀ (v0 v1 v2 v4 v5 v6 v7 v9 v12 v13 v14 v15 v16 v17 v18 v19 v20 v21 v22 v23 v24 v25 v26 v27 v28 v29 v30 v31 v32 v33 v34 v35 v36 v37 v38 v39 v40 v41 v42 v43 v44:Value) (dec:Int),(dec=if pb then 1 else 0)→wpAnyIn (Fence.wide.inRound l) m Tryz.prog .any zDv (Exit.inBlock 1 Q) 8 (Array.replicate 8 false) { tmps:= #[v0,v1,v2, .pointer (some ⟨Bm,0,none⟩),v4,v5,v6,v7, .pointer (some ⟨Bf,0,none⟩),v9, .pointer (some ⟨Bx,0,none⟩), .int .i64 dec,v12,v13,v14,v15,v16,v17,v18,v19,v20,v21,v22,v23,v24,v25,v26,v27,v28,v29,v30,v31,v32,v33,v34,v35,v36,v37,v38,v39,v40,v41,v42,v43,v44],defers:=[] } W0.drew:=by
  rintro v0 v1 v2 v4 v5 v6 v7 v9 v12 v13 v14 v15 v16 v17 v18 v19 v20 v21 v22 v23 v24 v25 v26 v27 v28 v29 v30 v31 v32 v33 v34 v35 v36 v37 v38 v39 v40 v41 v42 v43 v44 dec rfl
  exact zQX l m (fun i=>[v0,v1,v2,undef,v4,v5,v6,v7,undef,v9,undef,undef,v12,v13,v14,v15,v16,v17,v18,v19,v20,v21,v22,v23,v24,v25,v26,v27,v28,v29,v30,v31,v32,v33,v34,v35,v36,undef,undef,undef,undef,undef,undef,undef,v44].getD i undef) Bm Bf Bx pm r _ f W0.drew Box hbm hbx hbf h1 PR hR hPR PI hI hPI (Exit.inBlock 1 Q) (fun tm g h w hp=>by have:=hQ tm g h w hp;exact this) v37 v38 v39 v40 v41 v42 v43
 rw [eo] at main
 clear eo
 have main:=Lib.hid main
 cases pb with
 |true=>
  gi_wp2
  refine wpIn_region_any hmx ?_
  exact main.out _ _ _ _ _ _ _ _ _ _ _ _ _ _ _ _ _ _ _ _ _ _ _ _ _ _ _ _ _ _ _ _ _ _ _ _ _ _ _ _ _ 1 rfl
 |false=>
  gi_wp2
  refine wpIn_region_any hmx ?_
  exact main.out _ _ _ _ _ _ _ _ _ _ _ _ _ _ _ _ _ _ _ _ _ _ _ _ _ _ _ _ _ _ _ _ _ _ _ _ _ _ _ _ _ 0 rfl
end Go.Proofs.Bw
