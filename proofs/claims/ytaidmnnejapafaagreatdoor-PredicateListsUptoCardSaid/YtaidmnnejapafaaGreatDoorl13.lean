/-
  Maps whose keys are structs of three integers: looking up and storing, over lists of entries.
  Sets of numbers, as maps from integers to true.
-/
import Derived.Test.YtaidmnnejapafaaGreatDoorl6
import Derived.Test.YtaidmnnejapafaaGreatDoorl1
set_option linter.unusedVariables false
namespace Go.Bd
open Go Go.Ve
def zD8 (k:Key):Value:= .agg #[.int .i64 k.1, .int .i64 k.2.1, .int .i64 k.2.2]
def wA:Nat→List (Key×Nat)→List MapEntry
 |_,[]=>[]
 |n,p::l=>⟨zD8 p.1, .int .i64 p.2,n⟩::wA (n+1) l
theorem zJy: ∀ (l:List (Key×Nat)) (n:Nat),(wA n l).length=l.length
 |[],_=>rfl
 |_::l,n=>by simp [wA,zJy l]
theorem zHY: ∀ (l m:List (Key×Nat)) (n:Nat),wA n (l++m)=wA n l++wA (n+l.length) m
 |[],m,n=>by simp [wA]
 |p::l,m,n=>by
  simp only [List.cons_append,wA,zHY l m (n+1),List.length_cons]
  rw [show n+1+l.length=n+(l.length+1) by omega]
def zTT (P:Program) (t:TypeId):Bool:=match P.underlying t with
 |some (.struct _)=>true
 |_=>false
theorem zSJ {P:Program} {t:TypeId} (h:zTT P t=true): ∃fs,P.underlying t=some (.struct fs):=by
 unfold zTT at h
 split at h
 ·exact ⟨_,by assumption⟩
 ·cases h
structure zHM (P:Program) (mt kt:TypeId):Prop where
 und: ∃et,P.underlying mt=some (.map kt et)∧ ∀w,(zeroValue et).run P w= .ok (.int .i64 0) w
 st:zTT P kt=true
 eq: ∀k k':Key,eqV P 10000 kt (.agg [.val (.int .i64 k.1), .val (.int .i64 k.2.1), .val (.int .i64 k.2.2)]) (.agg [.val (.int .i64 k'.1), .val (.int .i64 k'.2.1), .val (.int .i64 k'.2.2)])=
  some (((k.1:Int)==k'.1)&&(((k.2.1:Int)==k'.2.1)&&(((k.2.2:Int)==k'.2.2)&&true)))
 chk: ∀ (e:Bool) (k:Key) (w:World),(Instr.checkKey e 10000 kt (zD8 k)).run P w= .ok () w
variable {P:Program} {mt kt:TypeId}
theorem zSE (k k':Key):(((k.1:Int)==k'.1)&&(((k.2.1:Int)==k'.2.1)&&(((k.2.2:Int)==k'.2.2)&&true)))=decide (k=k'):=by
 obtain ⟨a,b,c⟩:=k
 obtain ⟨a',b',c'⟩:=k'
 rw [Bool.eq_iff_iff]
 simp only [Bool.and_true,Bool.and_eq_true,beq_iff_eq,decide_eq_true_eq,Prod.mk.injEq]
 omega
theorem zHM.equal (K:zHM P mt kt) (k k':Key) (w:World):(Op.equal kt (zD8 k) (zD8 k')).run P w= .ok (decide (k=k')) w:=by
 have rd: ∀k:Key,Rd w (fun _=>True) (zD8 k) (.agg [.val (.int .i64 k.1), .val (.int .i64 k.2.1), .val (.int .i64 k.2.2)]):=fun k=>zAc w _ (zD8 k)
 have:=zHA (w:=w) (F:=fun _=>True) 10000 kt _ _ _ _ _ (rd k) (rd k') (K.eq k k')
 rw [zSE] at this
 exact this
def zAU (k:Key):Nat→List (Key×Nat)→Option (Nat×Nat)
 |_,[]=>none
 |i,p::l=>if p.1=k then some (i,p.2) else zAU k (i+1) l
theorem zHM.asking (K:zHM P mt kt) (k:Key) (w:World): ∀ (l:List (Key×Nat)) (n i:Nat),
  (Instr.findAsking kt (zD8 k) (wA n l) i).run P w= .ok ((zAU k i l).map (fun p=>(p.1,Value.int .i64 p.2))) w
 |[],n,i=>by simp [wA,Instr.findAsking,zAU]
 |p::l,n,i=>by
  simp only [wA,Instr.findAsking,zAU,Sem.run_bind,K.equal k p.1 w,Result.andThen_ok]
  by_cases h:k=p.1
  ·simp [h]
  ·rw [if_neg (show ¬p.1=k from fun hh=>h hh.symm),if_neg (by simpa using h)]
   exact zHM.asking K k w l (n+1) (i+1)
theorem zHM.find (K:zHM P mt kt) (k:Key) (w:World) (l:List (Key×Nat)) (n:Nat):
  (Instr.findKey kt (zD8 k) (wA n l)).run P w= .ok ((zAU k 0 l).map (fun p=>(p.1,Value.int .i64 p.2))) w:=by
 obtain ⟨fs,hfs⟩:=zSJ K.st
 simp only [Instr.findKey,Sem.run_bind,zC hfs,Result.andThen_ok]
 cases l with
 |nil=>simp [wA,Instr.findNow,zAU]
 |cons p l=>
  have:Instr.findNow (.struct fs) (zD8 k) (wA n (p::l)) 0=none:=by simp [wA,Instr.findNow,Instr.sameNow]
  rw [this]
  exact K.asking k w (p::l) n 0
theorem zFC (k:Key): ∀ (l:List (Key×Nat)) (i:Nat),(zAU k i l).map (·.2)=look k l
 |[],_=>rfl
 |p::l,i=>by
  simp only [zAU,look]
  split
  ·rfl
  ·exact zFC k l (i+1)
theorem zHM.lookup (K:zHM P mt kt) (k:Key) {w:World} {b ck:Nat} {l:List (Key×Nat)} (h:w.heap[b]? =some (.map (wA 0 l).toArray ck)):
  (Instr.lookup mt (.map (some b)) (zD8 k) true).run P w= .ok (.tuple #[.int .i64 ((look k l).getD 0), .bool (look k l).isSome]) w:=by
 obtain ⟨et,hu,hz⟩:=K.und
 have hg:(getObj b).run P w= .ok (.map (wA 0 l).toArray ck) w:=by simp [getObj,Sem.run,h]
 simp only [Instr.lookup,Sem.run_bind,zC hu,Result.andThen_ok,hg,Sem.run_pure,K.chk,K.find]
 rw [←zFC k l 0]
 cases zAU k 0 l with
 |none=>simp [hz,Sem.run_bind]
 |some p=>simp
theorem zLe {k:Key} {r:Nat} : ∀ {l:List (Key×Nat)},look k l=none→put k r l=l++[(k,r)]
 |[],_=>rfl
 |p::l,h=>by
  simp only [look] at h
  split at h
  ·cases h
  ·rename_i hne
   simp only [put,if_neg hne,List.cons_append,zLe h]
theorem zHp {k:Key} : ∀ {l:List (Key×Nat)} {i:Nat} {p:Nat×Nat},zAU k i l=some p→ ∃j,p.1=i+j∧l[j]? =some (k,p.2)
 |[],_,_,h=>by simp [zAU] at h
 |q::l,i,p,h=>by
  simp only [zAU] at h
  split at h
  ·rename_i hk
   simp only [Option.some.injEq] at h
   subst h hk
   exact ⟨0,rfl,rfl⟩
  ·obtain ⟨j,h1,h2⟩:=zHp h
   exact ⟨j+1,by omega,h2⟩
theorem zLd {k:Key} {r:Nat} : ∀ {l:List (Key×Nat)} {n i:Nat} {p:Nat×Nat},zAU k i l=some p→wA n (put k r l)=(wA n l).modify (p.1-i) (fun e=> { e with key:=zD8 k,val:= .int .i64 r })
 |[],_,_,_,h=>by simp [zAU] at h
 |q::l,n,i,p,h=>by
  simp only [zAU] at h
  split at h
  ·rename_i hk
   simp only [Option.some.injEq] at h
   subst h hk
   simp [put,wA]
  ·rename_i hne
   obtain ⟨j,h1,h2⟩:=zHp h
   have:=zLd (r:=r) (n:=n+1) h
   simp only [put,if_neg hne,wA,this]
   rw [show p.1-i=(p.1- (i+1))+1 by omega]
   rfl
theorem zHM.update (K:zHM P mt kt) (k:Key) (r:Nat) {w:World} {b:Nat} {l:List (Key×Nat)} (h:w.heap[b]? =some (.map (wA 0 l).toArray l.length)):
  (Instr.mapUpdate mt (.map (some b)) (zD8 k) (.int .i64 r)).run P w= .ok () (setBlk w b (.map (wA 0 (put k r l)).toArray (put k r l).length)):=by
 obtain ⟨et,hu,hz⟩:=K.und
 have hb:b<w.heap.size:=by
  rcases Nat.lt_or_ge b w.heap.size with h1|h1
  ·exact h1
  ·rw [Array.getElem?_eq_none h1] at h;cases h
 have hg:(getObj b).run P w= .ok (.map (wA 0 l).toArray l.length) w:=by simp [getObj,Sem.run,h]
 have hset: ∀o,(setObj b o).run P w= .ok () (setBlk w b o):=fun o=>by
  obtain ⟨q,hq⟩: ∃q,Obj.map (wA 0 l).toArray l.length=q:=⟨_,rfl⟩
  simp only [setObj,Sem.run,h,setBlk]
 simp only [Instr.mapUpdate,Sem.run_bind,zC hu,Result.andThen_ok,hg,K.chk,K.find]
 cases hl:zAU k 0 l with
 |none=>
  have hn:look k l=none:=by rw [←zFC k l 0,hl];rfl
  rw [zLe hn,zHY]
  simp [hset,wA]
 |some p=>
  obtain ⟨j,h1,h2⟩:=zHp hl
  have hlen:(put k r l).length=l.length:=by
   have:=congrArg List.length (zLd (r:=r) (n:=0) hl)
   simpa [zJy] using this
  have he:((wA 0 l).toArray[p.1]?).map (·.key)=some (zD8 k):=by
   rw [List.getElem?_toArray]
   have: ∀ (l:List (Key×Nat)) (n j:Nat),(wA n l)[j]? =(l[j]?).map (fun q=>⟨zD8 q.1, .int .i64 q.2,n+j⟩):=by
    intro l
    induction l with
    |nil=>intro n j;simp [wA]
    |cons q l ih=>
     intro n j
     cases j with
     |zero=>simp [wA]
     |succ j=>simp [wA,ih,Nat.add_assoc,Nat.add_comm 1 j]
   rw [this,show p.1=j by omega,h2]
   rfl
  have hsame:Instr.sameBits 10000 (zD8 k) (zD8 k)=true:=by simp [zD8,Instr.sameBits]
  simp only [Option.map_some,he,Option.getD_some,Instr.keyThatStays,hsame,if_true,Sem.run_bind,Sem.run_pure,Result.andThen_ok,hset]
  rw [hlen,zLd (r:=r) (n:=0) hl]
  simp
end Go.Bd

namespace Go.Bd
open Go Go.Ve
def kM:Nat→List Nat→List MapEntry
 |_,[]=>[]
 |n,f::l=>⟨.int .i64 f, .bool true,n⟩::kM (n+1) l
theorem zGG: ∀ (l m:List Nat) (n:Nat),kM n (l++m)=kM n l++kM (n+l.length) m
 |[],m,n=>by simp [kM]
 |p::l,m,n=>by
  simp only [List.cons_append,kM,zGG l m (n+1),List.length_cons]
  rw [show n+1+l.length=n+(l.length+1) by omega]
theorem zHu (f:Nat): ∀ (l:List Nat) (n i:Nat), ∃r,Instr.findNow (.int .i64) (.int .i64 f) (kM n l) i=some r∧(r.map (·.2))=if f∈l then some (.bool true) else none
 |[],n,i=>⟨none,by simp [kM,Instr.findNow],by simp⟩
 |g::l,n,i=>by
  by_cases h:f=g
  ·subst h
   exact ⟨some (i, .bool true),by simp [kM,Instr.findNow,Instr.sameNow],by simp⟩
  ·obtain ⟨r,h1,h2⟩:=zHu f l (n+1) (i+1)
   refine ⟨r,?_,by rw [h2];simp [h]⟩
   have hne:((f:Int)==(g:Int))=false:=by simp;omega
   simp only [kM,Instr.findNow,Instr.sameNow,if_true,hne]
   exact h1
structure zR7 (P:Program) (mt kt:TypeId):Prop where
 und: ∃et,P.underlying mt=some (.map kt et)∧ ∀w,(zeroValue et).run P w= .ok (.bool false) w
 key:P.underlying kt=some (.int .i64)
 chk: ∀ (e:Bool) (f:Nat) (w:World),(Instr.checkKey e 10000 kt (.int .i64 f)).run P w= .ok () w
variable {P:Program} {mt kt:TypeId}
theorem zR7.lookup (K:zR7 P mt kt) (f:Nat) {w:World} {b ck:Nat} {l:List Nat} (h:w.heap[b]? =some (.map (kM 0 l).toArray ck)):
  (Instr.lookup mt (.map (some b)) (.int .i64 f) false).run P w= .ok (.bool (decide (f∈l))) w:=by
 obtain ⟨et,hu,hz⟩:=K.und
 have hg:(getObj b).run P w= .ok (.map (kM 0 l).toArray ck) w:=by simp [getObj,Sem.run,h]
 obtain ⟨r,h1,h2⟩:=zHu f l 0 0
 have hck: ∀e,(Instr.checkKey e 10000 kt (.int .i64 f)).run P w= .ok () w:=fun e=>K.chk e f w
 simp only [Instr.lookup,Sem.run_bind,zC hu,Result.andThen_ok,hg,Sem.run_pure,hck,Instr.findKey,zC K.key,h1]
 cases r with
 |none=>
  have:f ∉ l:=fun hm=>by simp [hm] at h2
  simp [hz,Sem.run_bind,this]
 |some p=>
  by_cases hm:f∈l
  ·simp only [Option.map_some,if_pos hm,Option.some.injEq] at h2
   simp [hm,h2]
  ·simp [hm] at h2
theorem zR7.update (K:zR7 P mt kt) (f:Nat) {w:World} {b:Nat} {l:List Nat} (hf:f ∉ l) (h:w.heap[b]? =some (.map (kM 0 l).toArray l.length)):
  (Instr.mapUpdate mt (.map (some b)) (.int .i64 f) (.bool true)).run P w= .ok () (setBlk w b (.map (kM 0 (l++[f])).toArray (l++[f]).length)):=by
 obtain ⟨et,hu,hz⟩:=K.und
 have hg:(getObj b).run P w= .ok (.map (kM 0 l).toArray l.length) w:=by simp [getObj,Sem.run,h]
 have hset: ∀o,(setObj b o).run P w= .ok () (setBlk w b o):=fun o=>by
  simp only [setObj,Sem.run,h,setBlk]
 obtain ⟨r,h1,h2⟩:=zHu f l 0 0
 have hck: ∀e,(Instr.checkKey e 10000 kt (.int .i64 f)).run P w= .ok () w:=fun e=>K.chk e f w
 simp only [Instr.mapUpdate,Sem.run_bind,zC hu,Result.andThen_ok,hg,hck,Instr.findKey,zC K.key,h1,Sem.run_pure]
 cases r with
 |some p=>simp [hf] at h2
 |none=>
  rw [zGG]
  simp [hset,kM]
end Go.Bd
