/-
  law31: the package bdd, part A.
-/
import Derived.Test.YtaidmnnejapafaaGreatDoorProg
import Derived.WalkKit
import Derived.Deep.QuietTactic
import Derived.BigQuiet
import Derived.StillTailTactics
set_option linter.unusedVariables false
namespace Go.Proofs.Bw
open Go Go.Proofs Go.RowKit
set_option maxRecDepth 100000
theorem kJ (f:Nat) (w:World):Calls Tryz.prog 74 #[.int .i64 f] w fun e w'=>e= .returned (.bool (decide (f<2)))∧w=w':=by
 rcases Nat.lt_or_ge f 2 with h|h
 ·have:f=0∨f=1:=by omega
  rcases this with rfl|rfl
  ·go_enter Tryz.func74,Tryz.ntmps74
   go_wp2
   go_ret
   exact ⟨rfl,rfl⟩
  ·go_enter Tryz.func74,Tryz.ntmps74
   go_wp2
   go_ret
   exact ⟨rfl,rfl⟩
 ·have h0:((f:Int)==0)=false:=by simp;omega
  have h1:((f:Int)==1)=false:=by simp;omega
  have h2:decide (f<2)=false:=by simp;omega
  rw [h2]
  clear h2
  go_enter Tryz.func74,Tryz.ntmps74
  go_wp2
  go_ret
  exact ⟨rfl,rfl⟩
theorem zQw (b bs cs len f:Nat) (x:Bool) (w:World) (h3:w.cell? ⟨b,3,none⟩=some (.slice (some ⟨bs,0,none⟩) len cs)) (hf:f<len) (hx:w.cell? ⟨bs,f,none⟩=some (.bool x)):
  Calls Tryz.prog 10 #[.pointer (some ⟨b,0,none⟩), .int .i64 f] w fun e w'=>e= .returned (.bool x)∧w=w':=by
 go_enter Tryz.func10,Tryz.ntmps10
 go_wp2
 go_ret
 exact ⟨rfl,rfl⟩
theorem zSp (b bs cs len f:Nat) (x:Bool) (w:World) (h3:w.cell? ⟨b,3,none⟩=some (.slice (some ⟨bs,0,none⟩) len cs)) (hf:f<len) (hx:w.cell? ⟨bs,f,none⟩=some (.bool x)) (hz:w.frozen? ⟨bs,f,none⟩=false):
  Calls Tryz.prog 72 #[.pointer (some ⟨b,0,none⟩), .int .i64 f] w fun e w'=>e= .returned (.int .i64 f)∧w.setCell ⟨bs,f,none⟩ (.bool true)=w':=by
 go_enter Tryz.func72,Tryz.ntmps72
 go_wp2
 go_ret
 exact ⟨rfl,rfl⟩
theorem zLP (b bo n co v:Nat) (w:World) (h0:w.cell? ⟨b,0,none⟩=some (.slice (some ⟨bo,0,none⟩) n co)) (hv:v<n):
  Calls Tryz.prog 101 #[.pointer (some ⟨b,0,none⟩), .int .i64 v] w fun e w'=>e= .returned (.bool true)∧w=w':=by
 go_enter Tryz.func101,Tryz.ntmps101
 go_wp2
 go_ret
 exact ⟨rfl,rfl⟩
theorem zP6 (b bo n co f:Nat) (w:World) (h0:w.cell? ⟨b,0,none⟩=some (.slice (some ⟨bo,0,none⟩) n co)) (hf:f<2):
  Calls Tryz.prog 96 #[.pointer (some ⟨b,0,none⟩), .int .i64 f] w fun e w'=>e= .returned (.int .i64 n)∧w=w':=by
 have hc:=kJ f w
 rw [show decide (f<2)=true by simpa using hf] at hc
 go_enter Tryz.func96,Tryz.ntmps96
 go_wp2_with (go_at_call 74;refine hc.mono ?_;rintro e w' ⟨rfl,rfl⟩)
 go_ret
 exact ⟨rfl,rfl⟩
theorem zOi (b bl n cl bn len cn f v:Nat) (w:World) (h1:w.cell? ⟨b,1,none⟩=some (.slice (some ⟨bl,0,none⟩) n cl)) (h2:w.cell? ⟨b,2,none⟩=some (.slice (some ⟨bn,0,none⟩) len cn))
  (hf:2≤f) (hl:f<len) (hx:w.cell? ⟨bn,f*3,none⟩=some (.int .i64 v)) (hv:v<n) (hy:w.cell? ⟨bl,v,none⟩=some (.int .i64 v)):
  Calls Tryz.prog 96 #[.pointer (some ⟨b,0,none⟩), .int .i64 f] w fun e w'=>e= .returned (.int .i64 v)∧ ∃q,w'=w.drewN q:=by
 have hc:=kJ f w
 rw [show decide (f<2)=false by simpa using hf] at hc
 go_enter Tryz.func96,Tryz.ntmps96
 go_wp2_with (go_at_call 74;refine hc.mono ?_;rintro e w' ⟨rfl,rfl⟩)
 go_quiet (fail)
 go_wp2
 go_ret
 exact ⟨rfl,_,rfl⟩
theorem zQG (b bn len cn f v x lo hi:Nat) (vx vlo vhi:Int) (w:World) (h2:w.cell? ⟨b,2,none⟩=some (.slice (some ⟨bn,0,none⟩) len cn)) (hl:f<len)
  (hx:w.cell? ⟨bn,f*3,none⟩=some (.int .i64 vx)) (hlo:w.cell? ⟨bn,f*3+1,none⟩=some (.int .i64 vlo)) (hhi:w.cell? ⟨bn,f*3+2,none⟩=some (.int .i64 vhi)) (hv:vx=v):
  Calls Tryz.prog 97 #[.pointer (some ⟨b,0,none⟩), .int .i64 f, .int .i64 v] w fun e w'=>e= .returned (.tuple #[.int .i64 vlo, .int .i64 vhi])∧ ∃q,w'=(w.alloc (.cells #[.int .i64 vx, .int .i64 vlo, .int .i64 vhi] 145)).drewN q:=by
 subst hv
 go_enter Tryz.func97,Tryz.ntmps97
 go_wp2
 go_outline
 go_quiet (fail)
 go_wp2
 go_ret2
 exact ⟨rfl,_,rfl⟩
end Go.Proofs.Bw
