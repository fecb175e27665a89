/-
  The evaluator over pure values, part 16: an evaluation that computes; the interpreter over all functions.
-/
import Derived.Test.YtcnlcmbchljpgaaGreatQb5
set_option linter.unusedVariables false
namespace Go.Ve
open Go
section
variable {Γ:Sig} (P:jG) (G:Nat→Option (List V)) (S:jD Γ)
def vT:Nat→Code→Env Γ.St→Option (X×Env Γ.St)
 |0,_,_=>none
 |_+1, .skip,e=>some (.normal,e)
 |n+1, .seq x y,e=>match vT n x e with
  |some (.normal,e1)=>vT n y e1
  |r=>r
 |n+1, .cond c x y,e=>match evx G e c with
  | .p (.val (.bool true))=>vT n x e
  | .p (.val (.bool false))=>vT n y e
  |_=>none
 |n+1, .block id c,e=>match vT n c e with
  |some (k,e1)=>some (k.out id,e1)
  |none=>none
 |n+1, .loop c,e=>match vT n c e with
  |some (.normal,e1)=>vT n (.loop c) e1
  |r=>r
 |_+1, .exit id,e=>some (.exit id,e)
 |_+1, .ret,e=>some (.ret,e)
 |_+1, .region _ ops false,e=>match zIn P G S ops ops.toList e with
  |some e1=>some (.normal,e1)
  |none=>none
 |_+1, .region _ ops true,e=>match zFQ P G S ops e with
  |some e1=>some (.normal,e1)
  |none=>none
 |_,_,_=>none
variable {P G S}
theorem Ev.loopStep {c:Code} {e e1 e2:Env Γ.St} {k:X} (h1:Ev P G S c e .normal e1) (h2:Ev P G S (.loop c) e1 k e2):Ev P G S (.loop c) e k e2:=by
 cases h2 with
 |loop n es h0 hs hl hne=>
  refine .loop (n+1) (fun i=>match i with|0=>e|i+1=>es i) rfl ?_ hl hne
  intro i hi
  cases i with
  |zero=>simp only;rw [h0];exact h1
  |succ i=>exact hs i (by omega)
theorem Ev.loopDone {c:Code} {e e1:Env Γ.St} {k:X} (h1:Ev P G S c e k e1) (hne:k≠ .normal):Ev P G S (.loop c) e k e1:=
 .loop 0 (fun _=>e) rfl (fun i hi=>by omega) h1 hne
theorem zL2: ∀ (n:Nat) (c:Code) (e e':Env Γ.St) (k:X),vT P G S n c e=some (k,e')→Ev P G S c e k e':=by
 intro n
 induction n with
 |zero=>intro c e e' k h;simp [vT] at h
 |succ n ih=>
  intro c e e' k h
  cases c<;>(try simp only [vT] at h)
  case skip=>simp only [Option.some.injEq,Prod.mk.injEq] at h;obtain ⟨rfl,rfl⟩:=h;exact .skip e
  case region id ops draw=>
   cases draw
   ·simp only [vT] at h
    split at h
    ·rename_i e1 he1
     simp only [Option.some.injEq,Prod.mk.injEq] at h;obtain ⟨rfl,rfl⟩:=h
     exact .seqR he1
    ·cases h
   ·simp only [vT] at h
    split at h
    ·rename_i e1 he1
     simp only [Option.some.injEq,Prod.mk.injEq] at h;obtain ⟨rfl,rfl⟩:=h
     exact .drawR he1
    ·cases h
  case seq x y=>
   split at h
   ·rename_i e1 he1
    exact .seqN (ih x e e1 .normal he1) (ih y e1 e' k h)
   ·rename_i hne
    refine .seqX (ih x e e' k h) ?_
    rintro rfl
    exact hne e' h
  case cond c x y=>
   split at h
   ·rename_i hc;exact .condT hc (ih x e e' k h)
   ·rename_i hc;exact .condF hc (ih y e e' k h)
   ·cases h
  case block id c=>
   split at h
   ·rename_i k0 e1 he1
    simp only [Option.some.injEq,Prod.mk.injEq] at h;obtain ⟨rfl,rfl⟩:=h
    exact .block (ih c e e1 k0 he1)
   ·cases h
  case loop c=>
   split at h
   ·rename_i e1 he1
    exact (ih c e e1 .normal he1).loopStep (ih (.loop c) e1 e' k h)
   ·rename_i hne
    refine (ih c e e' k h).loopDone ?_
    rintro rfl
    exact hne e' h
  case exit id=>simp only [Option.some.injEq,Prod.mk.injEq] at h;obtain ⟨rfl,rfl⟩:=h;exact .exit id e
  case ret=>simp only [Option.some.injEq,Prod.mk.injEq] at h;obtain ⟨rfl,rfl⟩:=h;exact .ret e
  all_goals (cases h)
variable (P G S)
def zQg (n:Nat) (fn:Func) (s:Γ.St) (ds:List V):Option (Γ.St×RV):=
 match fn.body with
 |some c=>match vT P G S n c (start fn.ntmps s ds) with
  |some (.normal,e')=>(zBK P e' fn).map (fun r=>(e'.st,r))
  |some (.ret,e')=>(zBK P e' fn).map (fun r=>(e'.st,r))
  |_=>none
 |none=>none
def zCg:List V→Bool
 | .bot::_=>true
 |_=>false
def zKc (Xs:jD Γ) (k:Nat):Nat→jD Γ
 |0=>Xs
 |n+1=>fun f s ds=>match Xs f s ds with
  |some r=>some r
  |none=>match zCg ds with
   |true=>none
   |false=>match P.fn f with
    |some fn=>zQg P G (zKc Xs k n) k fn s ds
    |none=>none
end
section
variable {Γ:Sig} {P:Program} {G:Nat→Option (List V)} {S:jD Γ}
theorem zTn (hm:P.follows .mixedOrders=true) (hS:z7 Γ P G S) {f:FuncId} {fn:Func} (hf:P.funcs[f]? =some fn) (n:Nat):j7 Γ P G f (zQg P G S n fn):=by
 cases hb:fn.body with
 |none=>
  intro w F O s args ds s' r _ _ _ _ _ h
  simp [zQg,hb] at h
 |some c=>
  refine zRx hm hS hf hb ?_
  intro s ds s' r h
  simp only [zQg,hb] at h
  split at h
  ·rename_i e' he'
   simp only [Option.map_eq_some_iff,Prod.mk.injEq] at h
   obtain ⟨r',hr,hst,rfl⟩:=h
   exact ⟨_,e',zL2 n c _ e' _ he', .inl rfl,hst,hr⟩
  ·rename_i e' he'
   simp only [Option.map_eq_some_iff,Prod.mk.injEq] at h
   obtain ⟨r',hr,hst,rfl⟩:=h
   exact ⟨_,e',zL2 n c _ e' _ he', .inr rfl,hst,hr⟩
  ·cases h
theorem j7.or {f:FuncId} {s1 s2:Γ.St→List V→Option (Γ.St×RV)} (h1:j7 Γ P G f s1) (h2:j7 Γ P G f s2):
  j7 Γ P G f (fun s ds=>match s1 s ds with|some r=>some r|none=>s2 s ds):=by
 intro w F O s args ds s' r a1 a2 a3 a4 a5 h
 simp only at h
 split at h
 ·rename_i r' hr'
  simp only [Option.some.injEq] at h
  subst h
  exact h1 w F O s args ds s' r a1 a2 a3 a4 a5 hr'
 ·exact h2 w F O s args ds s' r a1 a2 a3 a4 a5 h
theorem j7.nothing {f:FuncId} :j7 Γ P G f (fun _ _=>none):=by
 intro w F O s args ds s' r _ _ _ _ _ h;cases h
def zKJ (P : Program) : Bool := P.funcs.toList.all (fun fn => !(fn.name == "runtime.NumGoroutine"))
theorem zQY (hm:P.follows .mixedOrders=true) (hn:zKJ P=true) {Xs:jD Γ} (hX:z7 Γ P G Xs) (k:Nat): ∀n,z7 Γ P G (zKc P G Xs k n):=by
 intro n
 induction n with
 |zero=>exact hX
 |succ n ih=>
  refine ⟨?_,?_,?_,?_⟩
  ·intro f
   cases hf:P.funcs[f]? with
   |none=>
    have:zKc P G Xs k (n+1) f=fun s ds=>match Xs f s ds with|some r=>some r|none=>none:=by
     funext s ds;simp only [zKc,hf];cases zCg ds<;>rfl
    rw [this]
    exact (hX.ok f).or .nothing
   |some fn=>
    have:zKc P G Xs k (n+1) f=fun s ds=>match Xs f s ds with|some r=>some r|none=>match zCg ds with|true=>none|false=>zQg P G (zKc P G Xs k n) k fn s ds:=by
     funext s ds;simp only [zKc,hf]
    rw [this]
    refine (hX.ok f).or ?_
    intro w F O s args ds s' r a1 a2 a3 a4 a5 h
    simp only at h
    split at h
    ·cases h
    ·exact zTn hm ih hf k w F O s args ds s' r a1 a2 a3 a4 a5 h
  ·intro f s ds r h hb
   simp only [zKc] at h
   split at h
   ·rename_i r' hr'
    exact hX.is f s ds r' hr' hb
   ·split at h
    ·cases h
    ·split at h
     ·rename_i fn hf
      refine ⟨fn,hf,?_,?_⟩
      ·cases hb:fn.body with
       |some c=>rfl
       |none=>simp [zQg,hb] at h
      ·have:=List.all_eq_true.1 hn fn (by simpa using Array.mem_of_getElem? hf)
       simpa using this
     ·cases h
  ·intro hno st q t ys bytes st' d h
   refine hX.app hno st q t ys bytes st' d ?_
   simp only [zKc,zCg] at h
   split at h
   ·rename_i r' hr';rw [hr'];exact h
   ·cases h
  ·intro f st t xs ds st' ys d h
   refine hX.bor f st t xs ds st' ys d ?_
   simp only [zKc,zCg] at h
   split at h
   ·rename_i r' hr';rw [hr'];exact h
   ·cases h
def zKI (Γ:Sig):jD Γ:=fun _ _ _=>none
theorem zGH:z7 Γ P G (zKI Γ):=
 ⟨fun _=> .nothing,(fun f s ds r h=>by cases h),(fun _ st q t ys bytes st' d h=>by cases h),(fun f st t xs ds st' ys d h=>by cases h)⟩
end
end Go.Ve
