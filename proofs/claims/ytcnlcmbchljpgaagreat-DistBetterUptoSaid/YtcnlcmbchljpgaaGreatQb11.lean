/-
  Functions out of code, part 8: contracts over a state of lists; from such a state to none, and from none to any.
  Functions out of code, part 9: a function with a state of lists of its own is a function without.
  Functions out of code: views, tables, static routes.
  Functions out of code: distance-vector and path-vector routing.
  Plain laws, part 1: what partial values come to.
  Plain laws, part 2: loops over lists.
  Plain laws, part 3: loops over lists within loops.
  Plain laws: sorting by insertion.
  Plain laws: prefixes in order; domains in order.
-/
import Derived.Test.YtcnlcmbchljpgaaGreatQb10
set_option linter.unusedVariables false
namespace Go.Ve
open Go
def zQ.addH {t:Ty} (S:zQ (jU t)):zQ (jU t):=fun f s ds=>
 match Nat.beq f kK with
 |true=>match ds with
  |[.bot, .rf q, .tl t' ys, .val (.int _ b)]=>match zDs t' t ys with
   | .some zs=> .some ⟨HSt t×Option (Nat×Nat),zMU b.toNat s q zs,fun y=>y.1,fun y=> .p (.rf y.2),false⟩
   | .none=>S f s ds
  |_=>S f s ds
 |false=>S f s ds
theorem zJH {t:Ty} {P:Program} {G:Nat→Option (List V)} {S:zQ (jU t)} (hS:z7 (jU t) P G S.toS) (hfl:t.flat=true) (hno:P.funcs[kK]? =none):
  z7 (jU t) P G S.addH.toS:=by
 have e2: ∀g,g≠kK→S.addH.toS g=S.toS g:=by
  intro g hg
  funext s ds
  have:Nat.beq g kK=false:=by
   cases hb:Nat.beq g kK with
   |false=>rfl
   |true=>exact absurd (Nat.eq_of_beq_eq_true hb) hg
  simp only [zQ.toS,zQ.addH,this]
 have e1: ∀ (s:HSt t) (ds:List V) r,S.addH.toS kK s ds=some r→S.toS kK s ds=some r∨
   ∃q ys zs k b,ds=[.bot, .rf q, .tl t ys, .val (.int k b)]∧ ∃q',zMU b.toNat s q ys=some (zs,q')∧r=(zs, .p (.rf q')):=by
  intro s ds r h
  have ht:Nat.beq kK kK=true:=Nat.beq_refl _
  simp only [zQ.toS,zQ.addH,ht] at h
  split at h
  ·rename_i c hc
   split at hc
   ·rename_i q t' ys k b
    cases hzs:zDs t' t ys with
    |none=>rw [hzs] at hc;simp only at hc;exact .inl (by simp only [zQ.toS,hc];exact h)
    |some zs=>
     rw [hzs] at hc
     obtain ⟨htt,hz⟩:=yG (yL hzs)
     subst htt
     subst hz
     simp only [Option.some.injEq] at hc
     rw [←hc] at h
     simp only [Option.map_eq_some_iff] at h
     obtain ⟨⟨st',q'⟩,h1,h2⟩:=h
     exact .inr ⟨q,ys,st',k,b,rfl,q',h1,h2.symm⟩
   ·exact .inl (by simp only [zQ.toS,hc];exact h)
  ·cases h
 refine ⟨?_,?_,?_,?_⟩
 ·intro g
  by_cases hg:g=kK
  ·subst hg
   intro w F O s args ds s' r a1 a2 a3 a4 a5 a6
   rcases e1 s ds _ a6 with h|⟨q,ys,zs,k,b,rfl,_⟩
   ·exact hS.ok kK w F O s args ds s' r a1 a2 a3 a4 a5 h
   ·exfalso
    have h0:0<args.size:=by rw [a4];simp
    have hnb: ∀u:Value, ¬Rd w F u .bot:=fun u h=>by cases h
    exact hnb _ (a5 0 args[0] .bot (by simp [h0]) rfl)
  ·rw [e2 g hg];exact hS.ok g
 ·intro g s ds r hr hbot
  by_cases hg:g=kK
  ·subst hg
   rcases e1 s ds _ hr with h|⟨q,ys,zs,k,b,rfl,_⟩
   ·exact hS.is _ s ds r h hbot
   ·exact absurd rfl (hbot _)
  ·rw [e2 g hg] at hr;exact hS.is g s ds r hr hbot
 ·intro _ st q t' ys bytes st' d h
  rcases e1 _ _ _ h with h|⟨q0,ys0,zs,k,b,heq,q',h1,h2⟩
  ·exact hS.app hno st q t' ys bytes st' d h
  ·simp only [List.cons.injEq,V.rf.injEq,V.tl.injEq,V.val.injEq,Value.int.injEq,true_and,and_true] at heq
   obtain ⟨rfl,⟨htt,hys⟩,rfl,rfl⟩:=heq
   subst htt
   have hys:=eq_of_heq hys
   subst hys
   cases h2
   simp only [Int.toNat_natCast] at h1
   exact zV5 hfl h1
 ·intro f st t' xs ds st' ys d h
  by_cases hf:f=kK
  ·subst hf
   rcases e1 _ _ _ h with h|⟨q0,ys0,zs,k,b,heq,_⟩
   ·exact hS.bor _ st t' xs ds st' ys d h
   ·simp at heq
  ·rw [e2 f hf] at h;exact hS.bor f st t' xs ds st' ys d h
section
variable {Γ:Sig} {P:Program} {G:Nat→Option (List V)}
noncomputable def zW2 (L:jG) (G:Nat→Option (List V)) (S:zQ Γ) (A:Nat→Option JA) (fn:Func) (c:Code) (R:RTy) (s:Γ.St) (ds:List V):Option (Γ.St×R.El):=
 zCe (start fn.ntmps s ds) (fun e=>exC L G S A c (Γ.St×R.El) (fun k e1 _=>match k with
  | .exit _=>none
  |_=>match zBK L e1 fn with
   |some r=>match R.get r with
    |some y=>some (e1.st,y)
    |none=>none
   |none=>none) e 0)
def zJJ {X:Type} (dec:List V→Option X) (R:RTy) (g:Γ.St→X→Option (Γ.St×R.El)):Γ.St→List V→Option (zDx Γ.St):=fun s ds=>
 match dec ds with
 |some x=>some ⟨Γ.St×R.El,g s x,fun y=>y.1,fun y=>R.res y.2,R.pl⟩
 |none=>none
theorem zUS {S:zQ Γ} {A:Nat→Option JA} (hst: ∀k j,A k=some j→zDm j.sl=true) (hmix:P.follows .mixedOrders=true) (hS:z7 Γ P G S.toS) {f:FuncId} {fn:Func} {c:Code} (hf:P.funcs[f]? =some fn) (hb:fn.body=some c)
  {X:Type} {dec:List V→Option X} {enc:X→List V} (hdec: ∀ds x,dec ds=some x→j5 ds (enc x)) {R:RTy} {g:Γ.St→X→Option (Γ.St×R.El)} (h: ∀s x,zW2 (Γ:=Γ) P G S A fn c R s (enc x)=g s x):j7 Γ P G f (qG (zJJ dec R g)):=by
 intro w F O s args ds s' r hsig hG hF hlen hrd hspec
 simp only [qG,zJJ] at hspec
 split at hspec
 ·rename_i cx hcx
  split at hcx
  ·rename_i x hx
   simp only [Option.some.injEq] at hcx
   subst hcx
   simp only [Option.map_eq_some_iff] at hspec
   obtain ⟨⟨s1,y⟩,hy,hsr⟩:=hspec
   simp only [Prod.mk.injEq] at hsr
   obtain ⟨rfl,rfl⟩:=hsr
   have hwk:=hdec ds x hx
   have hlen':args.size=(enc x).length:=hlen.trans hwk.len
   have hrd': ∀ (i:Nat) (u:Value) (d:V),args[i]? =some u→(enc x)[i]? =some d→Rd w F u d:=by
    intro i u d hu hd
    have hlt:i<ds.length:=by rw [hwk.len];exact (List.getElem?_eq_some_iff.1 hd).1
    exact hwk.get i ds[i] d (by simp [hlt]) hd w F u (hrd i u ds[i] hu (by simp [hlt]))
   have hex:=h s x
   rw [hy] at hex
   unfold zW2 at hex
   rw [v7] at hex
   obtain ⟨k,e',d,hok,_,hend⟩:=zJc (fun k j hj=> .inr (hst k j hj)) hmix hS c _ _ _ _ _ hex
   have hk:(k= .normal∨k= .ret)∧(match zBK (jG.of P) e' fn with
    |some r=>match R.get r with
     |some y=>some (e'.st,y)
     |none=>none
    |none=>none)=some (s1,y):=by
    cases k with
    |normal=>exact ⟨.inl rfl,hend⟩
    |ret=>exact ⟨.inr rfl,hend⟩
    |exit id=>cases hend
   obtain ⟨hk,hend⟩:=hk
   split at hend
   ·rename_i r' hr'
    split at hend
    ·rename_i y' hy'
     simp only [Option.some.injEq,Prod.mk.injEq] at hend
     obtain ⟨rfl,rfl⟩:=hend
     refine calls_of_wp hf hb ?_
     have qR: ∀t,zP w F ⟨fun _=>0,fun _=>0⟩ (fun _=>False) ((args++Array.replicate (fn.ntmps-args.size) undef).getD t undef) ((start fn.ntmps s (enc x)).get t):=by
      intro t
      simp only [start,zDG,Env.get,List.getD_eq_getElem?_getD,Array.getD_eq_getD_getElem?]
      by_cases ht:t< (enc x).length
      ·rw [List.getElem?_append_left (by simpa using ht),Array.getElem?_append_left (by omega)]
       rw [List.getElem?_map,List.getElem?_eq_getElem ht,Array.getElem?_eq_getElem (by omega)]
       exact hrd' t _ _ (by simp [show t<args.size by omega]) (by simp [ht])
      ·rw [List.getElem?_append_right (by simpa using Nat.le_of_not_lt ht),Array.getElem?_append_right (by omega),hlen']
       simp only [List.length_map]
       by_cases h2:t- (enc x).length<fn.ntmps- (enc x).length
       ·rw [List.getElem?_replicate,if_pos h2,Array.getElem?_replicate,if_pos h2]
        exact Rd.val _
       ·rw [List.getElem?_replicate,if_neg h2]
        trivial
     have hnovar: ∀s0,(start fn.ntmps s (enc x)).var s0=none:=by
      intro s0
      simp only [start,Env.var,List.getElem?_replicate]
      split<;>rfl
     have hinv:Inv Γ G w F O { tmps:=args++Array.replicate (fn.ntmps-args.size) undef,defers:=[] } w (start fn.ntmps s (enc x)):=by
      refine Inv.of (F:=F) (O:=O) (β:=⟨fun _=>0,fun _=>0⟩) (al:=fun _=>False) ⟨zBX.refl _ w,hsig,fun b hb=> .inl hb,fun b hb=>⟨.inl hb,hF b hb⟩,fun b hb=>hb,fun x hx=>hx.elim,fun x y hx=>hx.elim,fun b n h=>by cases h⟩ hG ?_ rfl qR ?_ (fun s h=>h.elim)
      ·simp [start,zDG,hlen']
      ·intro s0 cs hcs;rw [hnovar] at hcs;cases hcs
     refine wp_mono (hok w F O _ w hinv) ?_
     rintro ex a' w' ⟨rfl,hi'⟩
     obtain ⟨v,F',O',h1,h2,h3,h4,h5,h6,h7⟩:=zJd rfl hi' hr'
     have hdf:a'.defers=[]:=by obtain ⟨_,_,_,_,_,_,hdf,_⟩:=hi';exact hdf
     obtain ⟨F'',g1,gh,g2,g3⟩:=RTy.get_sound hy' h7
     have h2:=Γ.mono h2 gh (fun _ _=>rfl)
     have hF'': ∀b:Nat,F'' b→(F b∨w.heap.size≤b)∧b<w'.heap.size∧ ¬O' b:=by
      intro b hb
      rcases g2 b hb with hb|⟨h1,h2,h3⟩
      ·exact h6 b hb
      ·exact ⟨.inr h1,h2,h3⟩
     rcases hk with rfl|rfl
     ·exact ⟨hdf,v,h1,v,F'',O',rfl,h2,h3,h4,fun b hb=>g1 b (h5 b hb),hF'',g3⟩
     ·exact ⟨hdf,v,h1,v,F'',O',rfl,h2,h3,h4,fun b hb=>g1 b (h5 b hb),hF'',g3⟩
    ·cases hend
   ·cases hend
  ·cases hcx
 ·cases hspec
end
def Ty.norf:Ty→Bool
 | .rf=>false
 | .pair a b=>a.norf&&b.norf
 | .sl t=>t.norf
 |_=>true
theorem zDN {w:World} {F F':Blk→Prop} (hF: ∀b:Nat,F b→F' b): ∀ (t:Ty) (_:t.norf=true) (x:t.El) (v:Value) (d:V),d∈t.cells x→Rd w F v d→Rd w F' v d:=by
 intro t
 induction t with
 |int k=>intro _ x v d hd h;simp only [Ty.cells,List.mem_singleton] at hd;subst hd;rw [Rd.eq_val h];exact .val _
 |bool=>intro _ x v d hd h;simp only [Ty.cells,List.mem_singleton] at hd;subst hd;rw [Rd.eq_val h];exact .val _
 |str=>intro _ x v d hd h;simp only [Ty.cells,List.mem_singleton] at hd;subst hd;rw [Rd.eq_val h];exact .val _
 |unit=>intro _ x v d hd h;simp [Ty.cells] at hd
 |rf=>intro hn;simp [Ty.norf] at hn
 |pair a b iha ihb=>
  intro hn x v d hd h
  simp only [Ty.norf,Bool.and_eq_true] at hn
  simp only [Ty.cells,List.mem_append] at hd
  rcases hd with hd|hd
  ·exact iha hn.1 x.1 v d hd h
  ·exact ihb hn.2 x.2 v d hd h
 |sl t ih=>
  intro hn x v d hd h
  simp only [Ty.cells,List.mem_singleton] at hd
  subst hd
  refine .tl t x v ?_
  have h:=h.untl
  generalize hes:x.map t.enc=es at h
  cases h with
  |slemp a cap=>exact .slemp a cap
  |sl b off cap k _ g hFb hcap hk hg hr=>
   refine .sl b off cap k es g (hF b hFb) hcap hk hg ?_
   intro i j e d' hi hj
   have hi0:=hi
   rw [←hes] at hi0
   simp only [List.getElem?_map,Option.map_eq_some_iff] at hi0
   obtain ⟨y,_,rfl⟩:=hi0
   exact ih hn y _ d' (by rw [←qL];exact List.mem_of_getElem? hj) (hr i j _ d' hi hj)
theorem zSu {w:World} {F F':Blk→Prop} (hF: ∀b:Nat,F b→F' b) {t:Ty} (hn:t.norf=true) {x:t.El} {v:Value} (h:Rd w F v (t.enc x)):Rd w F' v (t.enc x):=by
 cases t with
 |int k=>rw [Rd.eq_val h];exact .val _
 |bool=>rw [Rd.eq_val h];exact .val _
 |str=>rw [Rd.eq_val h];exact .val _
 |rf=>simp [Ty.norf] at hn
 |unit=>
  cases h with
  |agg cs _ hl hh=>exact .agg cs _ hl (fun i x d hi hd=>by simp at hd)
 |pair a b=>
  cases h with
  |agg cs _ hl hh=>exact .agg cs _ hl (fun i u d hi hd=>zDN hF (.pair a b) hn x u d (List.mem_of_getElem? hd) (hh i u d hi hd))
 |sl t=>exact zDN hF (.sl t) hn x v _ (by simp [Ty.cells,Ty.enc]) h
theorem zUe {w:World} {F F':Blk→Prop} (hF: ∀b:Nat,F b→F' b) {t:Ty} (hn:t.norf=true) {b k cap:Nat} {xs:List t.El} (hr:z2 w F b k cap (xs.map t.enc)):z2 w F' b k cap (xs.map t.enc):=by
 obtain ⟨c,et,h1,h2,h3,h4,h5⟩:=hr
 refine ⟨c,et,h1,h2,h3,h4,fun i j e d x a1 a2 a3=> ?_⟩
 have a0:=a1
 simp only [List.getElem?_map,Option.map_eq_some_iff] at a0
 obtain ⟨y,hy,rfl⟩:=a0
 exact zDN hF t hn y x d (by rw [←qL];exact List.mem_of_getElem? a2) (h5 i j (t.enc y) d x a1 a2 a3)
def RTy.norf:RTy→Bool
 | .p ty=>ty.norf
 | .o ty=>ty.norf
 | .tu tys=>tys.all Ty.norf
theorem zJk {w:World} {F F':Blk→Prop} (hF: ∀b:Nat,F b→F' b): ∀ (ts:List Ty) (x:ElS ts),ts.all Ty.norf=true→ ∀ (i:Nat) (v:Value) (d:V),(vA ts x)[i]? =some d→Rd w F v d→Rd w F' v d
 |[],_,_,i,v,d,hd,_=>by simp [vA] at hd
 |t::ts,x,hn,i,v,d,hd,h=>by
  simp only [List.all_cons,Bool.and_eq_true] at hn
  cases i with
  |zero=>simp only [vA,List.getElem?_cons_zero,Option.some.injEq] at hd;subst hd;exact zSu hF hn.1 h
  |succ i=>exact zJk hF ts x.2 hn.2 i v d (by simpa [vA] using hd) h
theorem zUj {N:Nat} {w:World} {F F':Blk→Prop} {O O':Nat→Prop} (hF: ∀b:Nat,F b→F' b) (hF': ∀b:Nat,N≤b→F' b→F b) (hO: ∀b,N≤b→O' b→O b) {R:RTy} (hn:R.norf=true) {y:R.El} {v:Value} (h:uO N w F O v (R.res y)):uO N w F' O' v (R.res y):=by
 cases R with
 |p ty=>exact zSu (t:=ty) hF hn h
 |o ty=>
  rcases h with h|⟨h0,b,cap,h1,h2,h3,h4,h5,k,h6⟩
  ·exact .inl h
  ·exact .inr ⟨h0,b,cap,h1,h2,h3,fun hh=>h4 (hF' b h2 hh),fun hh=>h5 (hO b h2 hh),k,zUe (t:=ty) hF hn h6⟩
 |tu tys=>
  have h:Rd w F v (.tup (vA tys y)):=h
  cases h with
  |tup cs _ hl hh=>exact .tup cs _ hl (fun i u d hi hd=>zJk hF tys y hn i u d hd (hh i u d hi hd))
theorem zI8 {Γ:Sig} {P:Program} {G:Nat→Option (List V)} {f:FuncId} {X:Type} {dec:List V→Option X} {R:RTy} {g:X→Option R.El} (hn:R.norf=true)
  (h:j7 jI P G f (qG (wF dec R g))):j7 Γ P G f (qG (wF dec R g)):=by
 intro w F O s args ds s' r hsig hG hF hlen hrd hspec
 simp only [qG,wF] at hspec
 cases hx:dec ds with
 |none=>rw [hx] at hspec;cases hspec
 |some x=>
  rw [hx] at hspec
  simp only [Option.map_eq_some_iff,Prod.mk.injEq] at hspec
  obtain ⟨y,hy,rfl,rfl⟩:=hspec
  have hcall:=h w F (fun _=>False) () args ds () (R.res y) (fun _ h=>h) hG (fun b hb=>⟨(hF b hb).1,fun h=>h⟩) hlen hrd (by simp only [qG,wF,hx,hy,Option.map_some])
  refine hcall.mono ?_
  rintro e w' ⟨v,F',O',rfl,g1,g2,g3,g4,g5,g6⟩
  let F'':Blk→Prop:=fun b=>match b with
   | .b n=>F' (.b n)
   | .h id a n c=>F (.h id a n c)
  have hkb: ∀b,O b→w'.heap[b]? =w.heap[b]? :=fun b hb=>g2.block b (Γ.inb hsig b hb) (fun h=>h)
  refine ⟨v,F'',O,rfl,Γ.mono hsig (fun _ _ _ _=>Iff.rfl) hkb,⟨g2.os,g2.tape,g2.output,g2.size,fun b hb _=>g2.block b hb (fun h=>h),g2.drawn⟩,fun b hb=> .inl hb,?_,?_,?_⟩
  ·intro b hb
   cases b with
   |b n=>exact g4 _ hb
   |h _ _ _ _=>exact hb
  ·intro b hb
   obtain ⟨h1,h2,_⟩:=g5 b hb
   refine ⟨h1,h2,fun ho=> ?_⟩
   rcases h1 with h1|h1
   ·exact (hF b h1).2 ho
   ·have:=Γ.inb hsig b ho;omega
  ·exact zUj (F:=F') (F':=F'') (fun b hb=>hb) (fun b _ hb=>hb) (fun b hb ho=>by have:=Γ.inb hsig b ho;omega) hn g6
@[reducible] def wS (tE:Ty):Ty→Ty
 | .rf=> .sl tE
 | .pair a b=> .pair (wS tE a) (wS tE b)
 | .sl t=> .sl (wS tE t)
 | .int k=> .int k
 | .bool=> .bool
 | .str=> .str
 | .unit=> .unit
def zH7 {α β:Type} (f:α→Option β):List α→Option (List β)
 |[]=>some []
 |x::r=>match f x,zH7 f r with
  |some y,some ys=>some (y::ys)
  |_,_=>none
def xB {tE:Ty} (st:HSt tE):(t:Ty)→t.El→Option (wS tE t).El
 | .rf,o=>match o with
  |none=>some []
  |some (id,_)=>match st[id]? with
   |some (some xs)=>some xs
   |_=>none
 | .pair a b,x=>match xB st a x.1,xB st b x.2 with
  |some y,some z=>some (y,z)
  |_,_=>none
 | .sl t,xs=>zH7 (xB st t) xs
 | .int _,x=>some x
 | .bool,x=>some x
 | .str,x=>some x
 | .unit,x=>some x
theorem zH6 {α β:Type} {f:α→Option β} : ∀ {xs:List α} {ys:List β},zH7 f xs=some ys→xs.length=ys.length∧ ∀ (i:Nat) (y:β),ys[i]? =some y→ ∃x,xs[i]? =some x∧f x=some y
 |[],ys,h=>by simp only [zH7,Option.some.injEq] at h;subst h;exact ⟨rfl,fun i y h=>by simp at h⟩
 |x::r,ys,h=>by
  simp only [zH7] at h
  split at h
  ·rename_i y ys' hy hys
   simp only [Option.some.injEq] at h
   subst h
   obtain ⟨h1,h2⟩:=zH6 hys
   refine ⟨by simp [h1],fun i z hz=> ?_⟩
   cases i with
   |zero=>simp only [List.getElem?_cons_zero,Option.some.injEq] at hz;subst hz;exact ⟨x,rfl,hy⟩
   |succ i=>exact h2 i z (by simpa using hz)
  ·cases h
theorem vD (tE:Ty): ∀t:Ty,(wS tE t).size=t.size
 | .rf=>rfl
 | .pair a b=>by simp only [wS,Ty.size];rw [vD tE a,vD tE b]
 | .sl _=>rfl
 | .int _=>rfl
 | .bool=>rfl
 | .str=>rfl
 | .unit=>rfl
section
variable {tE:Ty} {st:HSt tE} {F F':Blk→Prop} {O:Nat→Prop} {w:World} {hb hc:Nat→Nat}
theorem zIK (h:zSd tE st F O w hb hc) (hF: ∀b:Nat,F b→F' b) (hO: ∀b,O b→F' (.b b)): ∀ (t:Ty) (x:t.El) (y:(wS tE t).El),xB st t x=some y→
  ∀ (i:Nat) (v:Value) (d d':V),(t.cells x)[i]? =some d→((wS tE t).cells y)[i]? =some d'→Rd w F v d→Rd w F' v d':=by
 intro t
 induction t with
 |int k=>
  intro x y hxy i v d d' hd hd' hr
  obtain rfl:x=y:=Option.some.inj hxy
  have:=hd.symm.trans hd'
  simp only [Option.some.injEq] at this;subst this
  cases i with
  |zero=>simp only [Ty.cells,List.getElem?_cons_zero,Option.some.injEq] at hd;subst hd;rw [Rd.eq_val hr];exact .val _
  |succ i=>simp [Ty.cells] at hd
 |bool=>
  intro x y hxy i v d d' hd hd' hr
  obtain rfl:x=y:=Option.some.inj hxy
  have:=hd.symm.trans hd'
  simp only [Option.some.injEq] at this;subst this
  cases i with
  |zero=>simp only [Ty.cells,List.getElem?_cons_zero,Option.some.injEq] at hd;subst hd;rw [Rd.eq_val hr];exact .val _
  |succ i=>simp [Ty.cells] at hd
 |str=>
  intro x y hxy i v d d' hd hd' hr
  obtain rfl:x=y:=Option.some.inj hxy
  have:=hd.symm.trans hd'
  simp only [Option.some.injEq] at this;subst this
  cases i with
  |zero=>simp only [Ty.cells,List.getElem?_cons_zero,Option.some.injEq] at hd;subst hd;rw [Rd.eq_val hr];exact .val _
  |succ i=>simp [Ty.cells] at hd
 |unit=>intro x y hxy i v d d' hd;simp [Ty.cells] at hd
 |rf=>
  intro x y hxy i v d d' hd hd' hr
  cases i with
  |succ i=>simp [Ty.cells] at hd
  |zero=>
   simp only [Ty.cells,List.getElem?_cons_zero,Option.some.injEq] at hd
   simp only [wS,Ty.cells,List.getElem?_cons_zero,Option.some.injEq] at hd'
   subst hd hd'
   cases hr with
   |rfn=>
    obtain rfl:([]:List tE.El)=y:=Option.some.inj hxy
    exact .tl tE [] _ (.slemp none 0)
   |rf id a n c hh=>
    simp only [xB] at hxy
    split at hxy
    ·rename_i xs hxs
     obtain rfl:xs=y:=Option.some.inj hxy
     obtain ⟨rfl,rfl,rfl⟩:=(h.hdl id xs hxs _ _ _).1 hh
     obtain ⟨_,h2,h3⟩:=h.row id xs hxs
     refine .tl tE xs _ ?_
     have:=zC1 (F':=F') h3 (fun _ h=>h.elim) (hO _ h2)
     simpa using this
    ·cases hxy
 |pair a b iha ihb=>
  intro x y hxy i v d d' hd hd' hr
  simp only [xB] at hxy
  split at hxy
  ·rename_i y1 y2 h1 h2
   obtain rfl:(y1,y2)=y:=Option.some.inj hxy
   simp only [wS,Ty.cells] at hd hd'
   by_cases hi:i< (a.cells x.1).length
   ·rw [List.getElem?_append_left hi] at hd
    rw [List.getElem?_append_left (by rw [qO,vD];rw [qO] at hi;exact hi)] at hd'
    exact iha x.1 y1 h1 i v d d' hd hd' hr
   ·rw [List.getElem?_append_right (by omega)] at hd
    rw [List.getElem?_append_right (by rw [qO,vD];rw [qO] at hi;omega)] at hd'
    rw [qO,vD, ←qO a x.1] at hd'
    exact ihb x.2 y2 h2 _ v d d' hd hd' hr
  ·cases hxy
 |sl t ih=>
  intro x y hxy i v d d' hd hd' hr
  cases i with
  |succ i=>simp [Ty.cells] at hd
  |zero=>
   simp only [Ty.cells,List.getElem?_cons_zero,Option.some.injEq] at hd
   simp only [wS,Ty.cells,List.getElem?_cons_zero,Option.some.injEq] at hd'
   subst hd hd'
   obtain ⟨hlen,qR⟩:=zH6 (show zH7 (xB st t) x=some y from hxy)
   refine .tl (wS tE t) y v ?_
   have hr1:=hr.untl
   clear hr
   generalize hes:x.map t.enc=es at hr1
   cases hr1 with
   |slemp a cap=>
    have hx0:x=[]:=by simpa using hes
    subst hx0
    have hy0:y=[]:=List.eq_nil_of_length_eq_zero hlen.symm
    subst hy0
    exact .slemp a cap
   |sl b off cap k _ g hFb hcap hk hg hr=>
    have hel:es.length=(y.map (wS tE t).enc).length:=by rw [←hes,List.length_map,List.length_map];exact hlen
    rw [hel] at hg hcap ⊢
    have hkk: ∀e,e∈y.map (wS tE t).enc→e.cells.length=k:=by
     intro e he
     simp only [List.mem_map] at he
     obtain ⟨y0,hy0,rfl⟩:=he
     rw [jO,vD]
     obtain ⟨j,hj⟩:=List.getElem?_of_mem hy0
     obtain ⟨x0,hx0,_⟩:=qR j y0 hj
     have:=hk (t.enc x0) (by rw [←hes];exact List.mem_map_of_mem (List.mem_of_getElem? hx0))
     rw [jO] at this;exact this
    refine .sl b off cap k _ g (hF b hFb) hcap hkk hg ?_
    intro i j e d' hi hj
    simp only [List.getElem?_map,Option.map_eq_some_iff] at hi
    obtain ⟨y0,hy0,rfl⟩:=hi
    obtain ⟨x0,hx0,hxy0⟩:=qR i y0 hy0
    rw [qL] at hj
    have hjl:j< (t.cells x0).length:=by
     have:=(List.getElem?_eq_some_iff.1 hj).1
     rw [qO,vD] at this;rw [qO];exact this
    refine ih x0 y0 hxy0 j _ (t.cells x0)[j] d' (by simp [hjl]) hj (hr i j (t.enc x0) _ (by rw [←hes];simp [hx0]) (by rw [qL];simp [hjl]))
theorem zSi (h:zSd tE st F O w hb hc) (hF: ∀b:Nat,F b→F' b) (hO: ∀b,O b→F' (.b b)) (t:Ty) (x:t.El) (y:(wS tE t).El) (hxy:xB st t x=some y) {v:Value} (hr:Rd w F v (t.enc x)):Rd w F' v ((wS tE t).enc y):=by
 have one: ∀ (_:t.enc x=(t.cells x)[0]?.getD .bot) (_:(wS tE t).enc y=((wS tE t).cells y)[0]?.getD .bot) (_:0<t.size),Rd w F' v ((wS tE t).enc y):=by
  intro h1 h2 h3
  have l1:0< (t.cells x).length:=by rw [qO];exact h3
  have l2:0< ((wS tE t).cells y).length:=by rw [qO,vD];exact h3
  rw [h1] at hr
  rw [h2]
  simp only [List.getElem?_eq_getElem l1,Option.getD_some] at hr
  simp only [List.getElem?_eq_getElem l2,Option.getD_some]
  exact zIK h hF hO t x y hxy 0 v _ _ (by simp [l1]) (by simp [l2]) hr
 cases t with
 |int k=>exact one rfl rfl Nat.one_pos
 |bool=>exact one rfl rfl Nat.one_pos
 |str=>exact one rfl rfl Nat.one_pos
 |rf=>exact one rfl rfl Nat.one_pos
 |sl t=>exact one rfl rfl Nat.one_pos
 |unit=>
  cases hr with
  |agg cs _ hl hh=>exact .agg cs _ hl (fun i x d hi hd=>by simp at hd)
 |pair a b=>
  cases hr with
  |agg cs _ hl hh=>
   have e1:(a.cells x.1++b.cells x.2).length=(Ty.pair a b).size:=qO (.pair a b) x
   have e2:(((wS tE a).cells y.1)++((wS tE b).cells y.2)).length=(wS tE (Ty.pair a b)).size:=qO (wS tE (Ty.pair a b)) y
   refine .agg cs _ (by rw [hl,e1,e2,vD]) ?_
   intro i u d hi hd
   have hlt:i< (a.cells x.1++b.cells x.2).length:=by
    have:=(List.getElem?_eq_some_iff.1 hd).1
    rw [e2,vD] at this;rw [e1];exact this
   exact zIK h hF hO (.pair a b) x y hxy i u _ d (by simp only [Ty.cells];exact List.getElem?_eq_getElem hlt) hd (hh i u _ hi (List.getElem?_eq_getElem hlt))
end
end Go.Ve

namespace Go.Ve
open Go
theorem zCS: ∀ (t:Ty) (x:t.El) (r:List V),t.uncells (t.cells x++r)=some (x,r)
 | .int k,x,r=>by simp [Ty.cells,Ty.uncells,zDC]
 | .bool,x,r=>by simp [Ty.cells,Ty.uncells,zB4]
 | .str,x,r=>by simp [Ty.cells,Ty.uncells,zDB]
 | .unit,x,r=>by simp [Ty.cells,Ty.uncells]
 | .rf,x,r=>by simp [Ty.cells,Ty.uncells,zGG]
 | .sl t,x,r=>by simp [Ty.cells,Ty.uncells,zGF]
 | .pair a b,x,r=>by
  simp only [Ty.cells,Ty.uncells,List.append_assoc]
  rw [zCS a x.1]
  simp only
  rw [zCS b x.2]
theorem zWd (t:Ty) (x:t.El):t.dec (t.enc x)=some x:=by
 cases t with
 |int k=>simp [Ty.enc,Ty.dec,zDC]
 |bool=>simp [Ty.enc,Ty.dec,zB4]
 |str=>simp [Ty.enc,Ty.dec,zDB]
 |unit=>rfl
 |rf=>simp [Ty.enc,Ty.dec,zGG]
 |sl t=>simp [Ty.enc,Ty.dec,zGF]
 |pair a b=>
  have:=zCS (.pair a b) x []
  simp only [List.append_nil] at this
  simp only [Ty.enc,Ty.dec]
  simp only [Ty.cells] at this
  rw [this]
theorem zCn: ∀ (ts:List Ty) (x:ElS ts),zCu ts (vA ts x)=some x
 |[],_=>rfl
 |t::ts,x=>by
  simp only [vA,zCu,zWd,zCn ts]
@[reducible] def zEO (tE:Ty):List Ty→List Ty
 |[]=>[]
 |t::r=>wS tE t::zEO tE r
def zKW {tE:Ty} (st:HSt tE):(ts:List Ty)→ElS ts→Option (ElS (zEO tE ts))
 |[],_=>some ()
 |t::r,x=>match xB st t x.1,zKW st r x.2 with
  |some y,some z=>some (y,z)
  |_,_=>none
@[reducible] def zPa (tE:Ty):RTy→RTy
 | .p ty=> .p (wS tE ty)
 | .o ty=> .o (wS tE ty)
 | .tu tys=> .tu (zEO tE tys)
def zTV {tE:Ty} (st:HSt tE):(R:RTy)→R.El→Option (zPa tE R).El
 | .p ty,x=>xB st ty x
 | .o ty,xs=>zH7 (xB st ty) xs
 | .tu tys,x=>zKW st tys x
section
variable {tE:Ty} {st:HSt tE} {F F':Blk→Prop} {O:Nat→Prop} {w:World} {hb hc:Nat→Nat}
theorem zO9 (h:zSd tE st F O w hb hc) (hF: ∀b:Nat,F b→F' b) (hO: ∀b,O b→F' (.b b)): ∀ (ts:List Ty) (x:ElS ts) (y:ElS (zEO tE ts)),zKW st ts x=some y→
  (vA ts x).length=(vA (zEO tE ts) y).length∧ ∀ (i:Nat) (v:Value) (d d':V),(vA ts x)[i]? =some d→(vA (zEO tE ts) y)[i]? =some d'→Rd w F v d→Rd w F' v d'
 |[],_,_,_=>⟨rfl,fun i v d d' hd=>by simp [vA] at hd⟩
 |t::ts,x,y,hxy=>by
  simp only [zKW] at hxy
  split at hxy
  ·rename_i y1 y2 h1 h2
   obtain rfl:(y1,y2)=y:=Option.some.inj hxy
   obtain ⟨k1,k2⟩:=zO9 h hF hO ts x.2 y2 h2
   refine ⟨by simp only [vA,List.length_cons,k1],fun i v d d' hd hd' hr=> ?_⟩
   cases i with
   |zero=>
    simp only [vA,List.getElem?_cons_zero,Option.some.injEq] at hd hd'
    subst hd hd'
    exact zSi h hF hO t x.1 y1 h1 hr
   |succ i=>exact k2 i v d d' (by simpa [vA] using hd) (by simpa [vA] using hd') hr
  ·cases hxy
theorem zTT (h:zSd tE st F O w hb hc) (hF: ∀b:Nat,F b→F' b) (hO: ∀b,O b→F' (.b b)) {t:Ty} {xs:List t.El} {ys:List (wS tE t).El} (hxy:zH7 (xB st t) xs=some ys) {b k cap:Nat}
  (hr:z2 w F b k cap (xs.map t.enc)):z2 w F' b k cap (ys.map (wS tE t).enc):=by
 obtain ⟨hlen,qR⟩:=zH6 hxy
 obtain ⟨c,et,h1,h2,h3,h4,h5⟩:=hr
 refine ⟨c,et,h1,h2,by simpa [←hlen] using h3,?_,?_⟩
 ·intro e he
  simp only [List.mem_map] at he
  obtain ⟨y0,hy0,rfl⟩:=he
  rw [jO,vD]
  obtain ⟨j,hj⟩:=List.getElem?_of_mem hy0
  obtain ⟨x0,hx0,_⟩:=qR j y0 hj
  have:=h4 (t.enc x0) (List.mem_map_of_mem (List.mem_of_getElem? hx0))
  rw [jO] at this;exact this
 ·intro i j e d' x hi hj hx
  simp only [List.getElem?_map,Option.map_eq_some_iff] at hi
  obtain ⟨y0,hy0,rfl⟩:=hi
  obtain ⟨x0,hx0,hxy0⟩:=qR i y0 hy0
  rw [qL] at hj
  have hjl:j< (t.cells x0).length:=by
   have:=(List.getElem?_eq_some_iff.1 hj).1
   rw [qO,vD] at this;rw [qO];exact this
  exact zIK h hF hO t x0 y0 hxy0 j _ (t.cells x0)[j] d' (by simp [hjl]) hj (h5 i j (t.enc x0) _ x (by simp [hx0]) (by rw [qL];simp [hjl]) hx)
theorem zTU (h:zSd tE st F O w hb hc) (hF: ∀b:Nat,F b→F' b) (hO: ∀b,O b→F' (.b b)) (hF': ∀b:Nat,F' b→F b∨O b) {N:Nat} {R:RTy} {x:R.El} {y:(zPa tE R).El} (hxy:zTV st R x=some y) {v:Value}
  (hr:uO N w F O v (R.res x)):uO N w F' (fun _=>False) v ((zPa tE R).res y):=by
 cases R with
 |p ty=>exact zSi h hF hO ty x y hxy hr
 |o ty=>
  have hxy:zH7 (xB st ty) x=some y:=hxy
  obtain ⟨hlen,_⟩:=zH6 hxy
  rcases hr with ⟨h0,hv⟩|⟨h0,b,cap,h1,h2,h3,h4,h5,k,h6⟩
  ·have hx0:x=[]:=by simpa using h0
   subst hx0
   have hy0:y=[]:=List.eq_nil_of_length_eq_zero hlen.symm
   subst hy0
   exact .inl ⟨rfl,hv⟩
  ·refine .inr ⟨?_,b,cap,by rw [h1];simp [hlen],h2,h3,fun hh=>(hF' b hh).elim h4 h5,fun hh=>hh,k,zTT h hF hO hxy h6⟩
   intro hh
   have hy0:y=[]:=by simpa using hh
   subst hy0
   have hx0:x=[]:=List.eq_nil_of_length_eq_zero hlen
   subst hx0
   exact h0 rfl
 |tu tys=>
  have hr:Rd w F v (.tup (vA tys x)):=hr
  obtain ⟨k1,k2⟩:=zO9 h hF hO tys x y hxy
  cases hr with
  |tup cs _ hl hh=>
   refine Rd.tup cs (vA (zEO tE tys) y) (hl.trans k1) ?_
   intro i u d hi hd
   have hlt:i< (vA tys x).length:=by rw [k1];exact (List.getElem?_eq_some_iff.1 hd).1
   exact k2 i u _ d (List.getElem?_eq_getElem hlt) hd (hh i u _ hi (List.getElem?_eq_getElem hlt))
end
def zKX {tE:Ty} {X:Type} (R:RTy) (g:HSt tE→X→Option (HSt tE×R.El)) (x:X):Option (zPa tE R).El:=
 match g [] x with
 |some (st,y)=>zTV st R y
 |none=>none
theorem zJQ {tE:Ty} {P:Program} {G:Nat→Option (List V)} (hG0: ∀g,G g=none) {f:FuncId} {ts:List Ty} (hts:ts.all Ty.norf=true) {R:RTy} {g:HSt tE→ElS ts→Option (HSt tE×R.El)}
  (h:j7 (jU tE) P G f (qG (zJJ (zCu ts) R g))):j7 jI P G f (qG (jV ts (zPa tE R) (zKX R g))):=by
 intro w F O s args ds s' r hsig hG hF hlen hrd hspec
 simp only [qG,jV,wF] at hspec
 cases hx:zCu ts ds with
 |none=>rw [hx] at hspec;cases hspec
 |some x=>
  rw [hx] at hspec
  simp only [Option.map_eq_some_iff,Prod.mk.injEq] at hspec
  obtain ⟨y,hy,rfl,rfl⟩:=hspec
  unfold zKX at hy
  split at hy
  ·rename_i st y0 hg
   have hwk:=w6 ts ds x hx
   let F0:Blk→Prop:=fun b=>match b with
    | .b n=>F (.b n)
    | .h _ _ _ _=>False
   have hR0:(jU tE).R [] F0 (fun _=>False) w:=⟨fun _=>0,fun _=>0,fun id xs hh=>by simp at hh,fun id _ a n c hh=>hh,fun id xs hh=>by simp at hh,fun id id' xs xs' hh=>by simp at hh,fun b hh=>hh.elim⟩
   have hcall:=h w F0 (fun _=>False) [] args (vA ts x) st (R.res y0) hR0 (fun g cs hg=>by rw [hG0 g] at hg;cases hg) (fun b hb=>⟨(hF b hb).1,fun hh=>hh⟩) (hlen.trans hwk.len) (by
    intro i u d hu hd
    have hlt:i<ds.length:=by rw [hwk.len];exact (List.getElem?_eq_some_iff.1 hd).1
    have:=hwk.get i ds[i] d (by simp [hlt]) hd w F u (hrd i u ds[i] hu (by simp [hlt]))
    exact zJk (F:=F) (F':=F0) (fun b hb=>hb) ts x hts i u d hd this) (by simp only [qG,zJJ,zCn];rw [hg];rfl)
   refine hcall.mono ?_
   rintro e w' ⟨v,F',O',rfl,⟨hb,hc,g1⟩,g2,g3,g4,g5,g6⟩
   let F'':Blk→Prop:=fun b=>match b with
    | .b n=>F' (.b n)∨O' n
    | .h id a n c=>F (.h id a n c)
   refine ⟨v,F'',fun _=>False,rfl,fun _ hh=>hh,⟨g2.os,g2.tape,g2.output,g2.size,fun b hb _=>g2.block b hb (fun hh=>hh),g2.drawn⟩,fun b hh=>hh.elim,?_,?_,?_⟩
   ·intro b hb0
    cases b with
    |b n=>exact .inl (g4 (.b n) hb0)
    |h _ _ _ _=>exact hb0
   ·intro b hb0
    rcases hb0 with hb0|hb0
    ·obtain ⟨k1,k2,_⟩:=g5 b hb0
     exact ⟨k1,k2,fun hh=>hh⟩
    ·refine ⟨.inr ((g3 b hb0).elim (fun hh=>hh.elim) (fun hh=>hh)),(jU tE).inb (⟨hb,hc,g1⟩:(jU tE).R st F' O' w') b hb0,fun hh=>hh⟩
   ·exact zTU (F':=F'') g1 (fun b hh=> .inl hh) (fun b hh=> .inr hh) (fun b hh=>hh) hy g6
  ·cases hy
def zVI {St:Type} (S:St→List V→Option (St×RV)) (ts:List Ty) (R:RTy) (s:St) (x:ElS ts):Option (St×R.El):=
 match S s (vA ts x) with
 |some (s',r)=>match R.get r with
  |some y=>some (s',y)
  |none=>none
 |none=>none
theorem zTl {Γ:Sig} {P:Program} {G:Nat→Option (List V)} {f:FuncId} {S:Γ.St→List V→Option (Γ.St×RV)} (h:j7 Γ P G f S) (ts:List Ty) (R:RTy):
  j7 Γ P G f (qG (zJJ (zCu ts) R (zVI S ts R))):=by
 intro w F O s args ds s' r hsig hG hF hlen hrd hspec
 simp only [qG,zJJ] at hspec
 cases hx:zCu ts ds with
 |none=>rw [hx] at hspec;cases hspec
 |some x=>
  rw [hx] at hspec
  simp only [Option.map_eq_some_iff,Prod.mk.injEq] at hspec
  obtain ⟨⟨s1,y⟩,hy,rfl,rfl⟩:=hspec
  unfold zVI at hy
  split at hy
  ·rename_i s2 r0 hS
   split at hy
   ·rename_i y0 hy0
    simp only [Option.some.injEq,Prod.mk.injEq] at hy
    obtain ⟨rfl,rfl⟩:=hy
    have hwk:=w6 ts ds x hx
    have hcall:=h w F O s args (vA ts x) s2 r0 hsig hG hF (hlen.trans hwk.len) (by
     intro i u d hu hd
     have hlt:i<ds.length:=by rw [hwk.len];exact (List.getElem?_eq_some_iff.1 hd).1
     exact hwk.get i ds[i] d (by simp [hlt]) hd w F u (hrd i u ds[i] hu (by simp [hlt]))) hS
    refine hcall.mono ?_
    rintro e w' ⟨v,F',O',rfl,g1,g2,g3,g4,g5,g6⟩
    obtain ⟨F'',k1,kh,k2,k3⟩:=RTy.get_sound hy0 g6
    refine ⟨v,F'',O',rfl,Γ.mono g1 kh (fun _ _=>rfl),g2,g3,fun b hb=>k1 b (g4 b hb),?_,k3⟩
    intro b hb
    rcases k2 b hb with hb|⟨h1,h2,h3⟩
    ·exact g5 b hb
    ·exact ⟨.inr h1,h2,h3⟩
   ·cases hy
  ·cases hy
theorem zP3 {Γ:Sig} {P:Program} {G:Nat→Option (List V)} {f:FuncId} {S S':Γ.St→List V→Option (Γ.St×RV)} (h:j7 Γ P G f S) (hs: ∀s ds r,S' s ds=some r→S s ds=some r):j7 Γ P G f S':=
 fun w F O s args ds s' r a1 a2 a3 a4 a5 a6=>h w F O s args ds s' r a1 a2 a3 a4 a5 (hs _ _ _ a6)
end Go.Ve

namespace Go.Ve
open Go
set_option maxRecDepth 1000000
noncomputable def zDV:ElS [zG]→Option (RTy.El (.p .bool)):=fun x=>match x with|(a1,())=>Option.bind (bif decide ((↑(List.length a1.2.2.1):Int)>(12:Int)) then some true else bif decide ((↑(List.length a1.2.2.2.1):Int)>(12:Int)) then some true else bif decide ((↑(List.length a1.2.2.2.2.1):Int)>(12:Int)) then some true else bif decide ((↑(List.length a1.2.2.2.2.2.1):Int)>(12:Int)) then some true else bif decide ((↑(List.length a1.2.2.2.2.2.2.1):Int)>(12:Int)) then some true else bif decide ((↑(List.length a1.2.2.2.2.2.2.2.1):Int)>(20:Int)) then some true else bif decide ((↑(List.length a1.2.2.2.2.2.2.2.2.1.2.2.1):Int)>(8:Int)) then some true else bif decide ((↑(List.length a1.2.2.2.2.2.2.2.2.1.2.2.2.1):Int)>(8:Int)) then some true else bif decide ((↑(List.length a1.2.2.2.2.2.2.2.2.2.1.2.2.2.2.1):Int)>(8:Int)) then some true else bif decide ((↑(List.length a1.2.2.2.2.2.2.2.2.2.2.1.2.2.2.2.2.2.2.1):Int)>(8:Int)) then some true else bif decide ((↑(List.length a1.2.2.2.2.2.2.2.2.2.2.1.2.2.2.1):Int)>(12:Int)) then some true else bif decide ((↑(List.length a1.2.2.2.2.2.2.2.2.2.2.1.2.2.2.2.1):Int)>(12:Int)) then some true else bif decide ((↑(List.length a1.2.2.2.2.2.2.2.2.2.2.1.2.2.2.2.2.1):Int)>(12:Int)) then some true else some (decide ((↑(List.length a1.2.2.2.2.2.2.2.2.2.2.1.2.2.2.2.2.2.1):Int)>(12:Int)))) fun (s0:Bool)=>bif s0 then some false else jP (zR (fun (s5:Int)=>bif decide (s5< (↑(List.length a1.2.2.2.1):Int)) then Option.bind (idx a1.2.2.2.1 s5) fun (y6:Ty.El wE)=>bif decide ((↑(List.length y6.2.1):Int)>(20:Int)) then some (Sum.inr (Sum.inr false)) else some (Sum.inl (IntKind.wrap IntKind.i64 (s5+(1:Int)))) else some (Sum.inr (Sum.inl ()))) (0:Int)) fun (s7:Unit)=>jP (zR (fun (s12:Int)=>bif decide (s12< (↑(List.length a1.2.2.2.2.1):Int)) then Option.bind (idx a1.2.2.2.2.1 s12) fun (y13:Ty.El zGh)=>bif decide ((↑(List.length y13.2.1):Int)>(12:Int)) then some (Sum.inr (Sum.inr false)) else some (Sum.inl (IntKind.wrap IntKind.i64 (s12+(1:Int)))) else some (Sum.inr (Sum.inl ()))) (0:Int)) fun (s14:Unit)=>jP (zR (fun (s19:Int)=>bif decide (s19< (↑(List.length a1.2.2.2.2.2.1):Int)) then Option.bind (idx a1.2.2.2.2.2.1 s19) fun (y20:Ty.El zIN)=>bif decide ((↑(List.length y20.2.1):Int)>(20:Int)) then some (Sum.inr (Sum.inr false)) else some (Sum.inl (IntKind.wrap IntKind.i64 (s19+(1:Int)))) else some (Sum.inr (Sum.inl ()))) (0:Int)) fun (s21:Unit)=>some true
noncomputable def zCK:ElS [zV]→Option (RTy.El (.p .bool)):=fun x=>match x with|(a1,())=>bif decide ((↑(List.length a1.1):Int)>(9:Int)) then some false else jP (zR (fun (s6:Int)=>bif decide (s6< (↑(List.length a1.1):Int)) then Option.bind (idx a1.1 s6) fun (y7:Ty.El zG)=>Option.bind (zDV (y7,())) fun (y8:Bool)=>bif !y8 then some (Sum.inr (Sum.inr false)) else some (Sum.inl (IntKind.wrap IntKind.i64 (s6+(1:Int)))) else some (Sum.inr (Sum.inl ()))) (0:Int)) fun (s9:Unit)=>some true
noncomputable def vJ:ElS [zF,zF]→Option (RTy.El (.p tI)):=fun x=>match x with|(a1,a2,())=>Option.bind (bif decide (a1.1<a2.1) then some true else bif a1.1==a2.1 then some (decide (a1.2.1<a2.2.1)) else some false) fun (s0:Bool)=>bif s0 then some (-1:Int) else bif a1.1==a2.1&&(a1.2.1==a2.2.1&&true) then some (0:Int) else some (1:Int)
noncomputable def zBj:HSt zO→ElS [zV]→Option (HSt zO×RTy.El (.tu [zEU,tI])):=fun st0 x=>match x with|(a1,())=>Option.bind (u7 (a1,())) fun (y0:Int)=>bif y0 !=(0:Int) then some (st0,([],[],()),y0,()) else Option.bind (zR (fun (s1:Int×(List (Ty.El zM)×List Int)×HSt zO)=>bif decide (s1.1< (↑(List.length a1.1):Int)) then Option.bind (zR (fun (s2:Int×(List (Ty.El zM)×List Int)×HSt zO)=>Option.bind (idx a1.1 s1.1) fun (y3:Ty.El zG)=>bif decide (s2.1< (↑(List.length y3.2.2.1):Int)) then Option.bind (Option.bind (idx a1.1 s1.1) fun (y4:Ty.El zG)=>Option.bind (idx y4.2.2.1 s2.1) fun (y5:Ty.El qQ)=>Option.bind (bif y5.2.2.1==(0:Int) then some (true,s2.2) else some (y5.2.2.2.2.1,s2.2)) fun (s6:Bool×(List (Ty.El zM)×List Int)×HSt zO)=>bif s6.1 then some s6.2 else Option.bind (vI (y5.2.1,y5.2.2.1,())) fun (y7:Int×Int×Unit)=>Option.bind (zR (fun (s8:Int×(List (Ty.El zM)×List Int)×HSt zO)=>Option.bind (bif decide (s8.1< (↑(List.length s8.2.1.1):Int)) then Option.bind (idx s8.2.1.1 s8.1) fun (y16:Ty.El zM)=>Option.bind (atN s8.2.1.1 (Int.toNat s8.1)) fun (y17:Ty.El zM)=>Option.bind (vJ (y17.1,y7,())) fun (y18:Int)=>bif decide (y18< (0:Int)) then some (true,s8.2) else Option.bind (idx s8.2.1.1 s8.1) fun (y19:Ty.El zM)=>Option.bind (atN s8.2.1.1 (Int.toNat s8.1)) fun (y20:Ty.El zM)=>bif y20.1.1==y7.1&&(y20.1.2.1==y7.2.1&&true) then Option.bind (idx s8.2.1.1 s8.1) fun (y21:Ty.El zM)=>Option.bind (atN s8.2.1.1 (Int.toNat s8.1)) fun (y22:Ty.El zM)=>some (decide (y22.2.1<y5.2.2.2.1),s8.2) else some (false,s8.2) else some (false,s8.2)) fun (s23:Bool×(List (Ty.El zM)×List Int)×HSt zO)=>bif s23.1 then some (Sum.inl (IntKind.wrap IntKind.i64 (s8.1+(1:Int)),s23.2)) else some (Sum.inr (s8.1,s23.2))) ((0:Int),s6.2)) fun (s24:Int×(List (Ty.El zM)×List Int)×HSt zO)=>Option.bind (Option.bind (bif s24.1==(↑(List.length s24.2.1.1):Int) then some (true,s24.2) else Option.bind (idx s24.2.1.1 s24.1) fun (y29:Ty.El zM)=>Option.bind (atN s24.2.1.1 (Int.toNat s24.1)) fun (y30:Ty.El zM)=>bif !(y30.1.1==y7.1&&(y30.1.2.1==y7.2.1&&true)) then some (true,s24.2) else Option.bind (idx s24.2.1.1 s24.1) fun (y31:Ty.El zM)=>Option.bind (atN s24.2.1.1 (Int.toNat s24.1)) fun (y32:Ty.El zM)=>some (y32.2.1 !=y5.2.2.2.1,s24.2)) fun (s33:Bool×(List (Ty.El zM)×List Int)×HSt zO)=>bif s33.1 then bif decide ((0:Int)≤s24.1)&&decide (s24.1≤(↑(List.length s33.2.1.1):Int))&&decide ((↑(List.length s33.2.1.1):Int)≤(↑(List.length s33.2.1.1):Int)) then Option.bind (app (48:Nat) [] (List.drop (Int.toNat s24.1) (List.take (Int.toNat (↑(List.length s33.2.1.1):Int)) s33.2.1.1))) fun (y34:List (Ty.El zM))=>bif decide ((0:Int)≤(0:Int))&&decide ((0:Int)≤s24.1)&&decide (s24.1≤(↑(List.length s33.2.1.1):Int)) then Option.bind (app (48:Nat) (List.take (Int.toNat s24.1) s33.2.1.1) [(y7,y5.2.2.2.1,none,())]) fun (y35:List (Ty.El zM))=>Option.bind (app (48:Nat) y35 y34) fun (y36:List (Ty.El zM))=>some ((y36,s33.2.1.2),s33.2.2) else none else none else some s33.2) fun (s37:(List (Ty.El zM)×List Int)×HSt zO)=>Option.bind (idx s37.1.1 s24.1) fun (y38:Ty.El zM)=>Option.bind (atN s37.1.1 (Int.toNat s24.1)) fun (y39:Ty.El zM)=>Option.bind (zMU (16:Nat) s37.2 y39.2.2.1 [(s1.1,s2.1,())]) fun (y40:List (Option (List (Ty.El zO)))×Option (Nat×Nat))=>Option.bind (idx s37.1.1 s24.1) fun (y41:Ty.El zM)=>Option.bind (atN s37.1.1 (Int.toNat s24.1)) fun (y42:Ty.El zM)=>some ((List.set s37.1.1 (Int.toNat s24.1) (y42.1,y42.2.1,y40.2,()),s37.1.2),y40.1)) fun (s43:(List (Ty.El zM)×List Int)×HSt zO)=>some (Sum.inl (IntKind.wrap IntKind.i64 (s2.1+(1:Int)),s43)) else some (Sum.inr s2.2)) ((0:Int),s1.2)) fun (s44:(List (Ty.El zM)×List Int)×HSt zO)=>some (Sum.inl (IntKind.wrap IntKind.i64 (s1.1+(1:Int)),s44)) else some (Sum.inr s1.2)) ((0:Int),([],[]),st0)) fun (s45:(List (Ty.El zM)×List Int)×HSt zO)=>Option.bind (zR (fun (s67:Int×(List (Ty.El zM)×List Int)×HSt zO)=>bif decide (s67.1< (↑(List.length s67.2.1.1):Int)) then Option.bind (Option.bind (idx s67.2.1.1 s67.1) fun (y68:Ty.El zM)=>Option.bind (atN s67.2.1.1 (Int.toNat s67.1)) fun (y69:Ty.El zM)=>bif decide ((↑(zSs y69.2.2.1):Int)>(1:Int)) then Option.bind (app (8:Nat) s67.2.1.2 [s67.1]) fun (y70:List Int)=>some ((s67.2.1.1,y70),s67.2.2) else some s67.2) fun (s71:(List (Ty.El zM)×List Int)×HSt zO)=>some (Sum.inl (IntKind.wrap IntKind.i64 (s67.1+(1:Int)),s71)) else some (Sum.inr s67.2)) ((0:Int),s45)) fun (s72:(List (Ty.El zM)×List Int)×HSt zO)=>bif decide ((↑(List.length s72.1.2):Int)>(12:Int)) then some (s72.2,([],[],()),(7:Int),()) else some (s72.2,(s72.1.1,s72.1.2,()),(0:Int),())
noncomputable def zCF:ElS [zV]→Option (RTy.El (.tu [zHA,tI])):=zKX (.tu [zEU,tI]) zBj
noncomputable def x5:ElS [(.sl tI),tI]→Option (RTy.El (.p .bool)):=fun x=>match x with|(a1,a2,())=>bif decide ((↑(List.length a1):Int)>(2:Int)) then some false else jP (zR (fun (s20:Int)=>bif decide (s20< (↑(List.length a1):Int)) then Option.bind (Option.bind (idx a1 s20) fun (y21:Int)=>bif decide (y21< (0:Int)) then some true else Option.bind (idx a1 s20) fun (y22:Int)=>bif decide (y22≥a2) then some true else bif decide (s20>(0:Int)) then Option.bind (idx a1 s20) fun (y23:Int)=>Option.bind (idx a1 (IntKind.wrap IntKind.i64 (s20- (1:Int)))) fun (y24:Int)=>some (decide (y23≤y24)) else some false) fun (s25:Bool)=>bif s25 then some (Sum.inr (Sum.inr false)) else some (Sum.inl (IntKind.wrap IntKind.i64 (s20+(1:Int)))) else some (Sum.inr (Sum.inl ()))) (0:Int)) fun (s26:Unit)=>some true
noncomputable def zDK:ElS [zV,(.sl tI)]→Option (RTy.El (.tu [z6,tI])):=fun x=>match x with|(a1,a2,())=>Option.bind (zCF (a1,())) fun (y0:Ty.El zHA×Int×Unit)=>bif y0.2.1 !=(0:Int) then some ((([],()),([],[],()),[],()),y0.2.1,()) else Option.bind (x5 (a2,(↑(List.length y0.1.2.1):Int),())) fun (y1:Bool)=>bif !y1 then some ((([],()),([],[],()),[],()),(1:Int),()) else Option.bind (app (8:Nat) [] a2) fun (y3:List Int)=>some ((a1,y0.1,y3,()),(0:Int),())
noncomputable def zDW:ElS [zV,(.sl tI)]→Option (RTy.El (.tu [z6, .bool])):=fun x=>match x with|(a1,a2,())=>Option.bind (Option.bind (zCK (a1,())) fun (y1:Bool)=>bif !y1 then some true else some (decide ((↑(List.length a2):Int)>(2:Int)))) fun (s2:Bool)=>bif s2 then some ((([],()),([],[],()),[],()),false,()) else Option.bind (zDK (a1,a2,())) fun (y3:Ty.El z6×Int×Unit)=>some (y3.1,y3.2.1==(0:Int),())
noncomputable def qM:ElS [tI,tI,tI]→Option (RTy.El (.p .bool)):=fun x=>match x with|(a1,a2,a3,())=>Option.bind (bif decide (a2≤a1) then some (decide (a1≤a3)) else some false) fun (s0:Bool)=>some s0
noncomputable def wT:ElS [zA, .bool, .bool, .bool]→Option (RTy.El (.p .bool)):=fun x=>match x with|(a1,a2,a3,a4,())=>Option.bind (bif a2 then bif a3 then bif a4 then some true else some (a1.2.2.2.2.2.2.2.2.2.2.1==(0:Int)) else bif a1.2.2.2.2.2.2.2.1==(0:Int) then bif (↑(List.length a1.2.2.2.2.2.2.2.2.1):Int)==(0:Int) then bif a1.2.2.2.2.2.2.2.2.2.1==(0:Int) then bif a4 then some true else some (a1.2.2.2.2.2.2.2.2.2.2.1==(0:Int)) else some false else some false else some false else bif a1.2.2.2.2.2.1==(0:Int) then bif a3 then bif a4 then some true else some (a1.2.2.2.2.2.2.2.2.2.2.1==(0:Int)) else bif a1.2.2.2.2.2.2.2.1==(0:Int) then bif (↑(List.length a1.2.2.2.2.2.2.2.2.1):Int)==(0:Int) then bif a1.2.2.2.2.2.2.2.2.2.1==(0:Int) then bif a4 then some true else some (a1.2.2.2.2.2.2.2.2.2.2.1==(0:Int)) else some false else some false else some false else some false) fun (s0:Bool)=>some s0
noncomputable def zBi:ElS [jJ,jJ]→Option (RTy.El (.p .bool)):=fun x=>match x with|(a1,a2,())=>Option.bind (bif decide (a1.1<a2.1) then some true else bif a1.1==a2.1 then some (decide (a1.2.1<a2.2.1)) else some false) fun (s0:Bool)=>some s0
noncomputable def w4:ElS [(.sl jJ), .bool]→Option (RTy.El (.p .bool)):=fun x=>match x with|(a1,a2,())=>jP (zR (fun (s28:Int)=>bif decide (s28< (↑(List.length a1):Int)) then Option.bind (Option.bind (idx a1 s28) fun (y29:Ty.El jJ)=>bif decide (y29.1< (0:Int)) then some true else bif decide (s28>(0:Int)) then Option.bind (idx a1 (IntKind.wrap IntKind.i64 (s28- (1:Int)))) fun (y30:Ty.El jJ)=>Option.bind (idx a1 s28) fun (y31:Ty.El jJ)=>Option.bind (zBi (y30,y31,())) fun (y32:Bool)=>bif !y32 then some true else Option.bind (idx a1 s28) fun (y33:Ty.El jJ)=>some !(y33.2.1==(0:Int))==a2 else Option.bind (idx a1 s28) fun (y34:Ty.El jJ)=>some !(y34.2.1==(0:Int))==a2) fun (s35:Bool)=>bif s35 then some (Sum.inr (Sum.inr false)) else some (Sum.inl (IntKind.wrap IntKind.i64 (s28+(1:Int)))) else some (Sum.inr (Sum.inl ()))) (0:Int)) fun (s36:Unit)=>some true
noncomputable def uV:ElS [zA]→Option (RTy.El (.p .bool)):=fun x=>match x with|(a1,())=>Option.bind (bif a1.2.2.1 !=(0:Int) then some true else bif a1.2.2.2.2.1 !=(0:Int) then some true else Option.bind (qM (a1.2.2.2.1,(1:Int),(255:Int),())) fun (y2:Bool)=>bif !y2 then some true else Option.bind (wT (a1,false,false,true,())) fun (y3:Bool)=>some !y3) fun (s4:Bool)=>bif s4 then some false else bif a1.2.2.2.2.2.2.2.2.2.2.1 !=(0:Int) then Option.bind (bif (↑(List.length a1.2.2.2.2.2.2.2.2.2.2.2.1):Int)==(0:Int) then some !a1.2.2.2.2.2.2.2.2.2.2.2.2.1 else some false) fun (s5:Bool)=>some s5 else bif a1.2.2.2.2.2.2.2.2.2.2.2.2.1 then some ((↑(List.length a1.2.2.2.2.2.2.2.2.2.2.2.1):Int)==(0:Int)) else Option.bind (bif (↑(List.length a1.2.2.2.2.2.2.2.2.2.2.2.1):Int)==(1:Int) then Option.bind (w4 (a1.2.2.2.2.2.2.2.2.2.2.2.1,true,())) fun (y7:Bool)=>some y7 else some false) fun (s8:Bool)=>some s8
noncomputable def vK:ElS [zA]→Option (RTy.El (.p .bool)):=fun x=>match x with|(a1,())=>Option.bind (Option.bind (qM (a1.2.2.1,(1:Int),(4:Int),())) fun (y4:Bool)=>bif !y4 then some true else Option.bind (qM (a1.2.2.2.1,(1:Int),(255:Int),())) fun (y5:Bool)=>bif !y5 then some true else Option.bind (qM (a1.2.2.2.2.1,(0:Int),(1073741824:Int),())) fun (y6:Bool)=>bif !y6 then some true else Option.bind (wT (a1,true,false,false,())) fun (y7:Bool)=>some !y7) fun (s8:Bool)=>bif s8 then some false else Option.bind (Option.bind (qM (a1.2.2.2.2.2.1,(0:Int),(1073741824:Int),())) fun (y10:Bool)=>bif !y10 then some true else bif a1.2.2.1 !=(4:Int) then some (a1.2.2.2.2.2.1 !=(0:Int)) else some false) fun (s11:Bool)=>bif s11 then some false else bif a1.2.2.2.2.2.2.2.2.2.2.2.2.1 then Option.bind (bif a1.2.2.1==(1:Int) then bif a1.2.2.2.2.1==(0:Int) then bif a1.2.2.2.2.2.2.1==(0:Int) then some ((↑(List.length a1.2.2.2.2.2.2.2.2.2.2.2.1):Int)==(0:Int)) else some false else some false else some false) fun (s12:Bool)=>some s12 else Option.bind (bif decide ((↑(List.length a1.2.2.2.2.2.2.2.2.2.2.2.1):Int)>(0:Int)) then Option.bind (w4 (a1.2.2.2.2.2.2.2.2.2.2.2.1,false,())) fun (y14:Bool)=>some y14 else some false) fun (s15:Bool)=>some s15
noncomputable def wL:ElS [zA]→Option (RTy.El (.p .bool)):=fun x=>match x with|(a1,())=>Option.bind (Option.bind (qM (a1.2.2.2.1,(1:Int),(255:Int),())) fun (y3:Bool)=>bif !y3 then some true else Option.bind (qM (a1.2.2.2.2.1,(1:Int),(15:Int),())) fun (y4:Bool)=>bif !y4 then some true else Option.bind (wT (a1,false,false,false,())) fun (y5:Bool)=>bif !y5 then some true else some a1.2.2.2.2.2.2.2.2.2.2.2.2.1) fun (s6:Bool)=>bif s6 then some false else bif a1.2.2.1==(1:Int) then Option.bind (bif a1.2.2.2.2.1==(1:Int) then bif a1.2.2.2.2.2.2.1==(0:Int) then bif (↑(List.length a1.2.2.2.2.2.2.2.2.2.2.2.1):Int)==(1:Int) then Option.bind (w4 (a1.2.2.2.2.2.2.2.2.2.2.2.1,true,())) fun (y8:Bool)=>some y8 else some false else some false else some false) fun (s9:Bool)=>some s9 else bif a1.2.2.1==(2:Int) then some ((↑(List.length a1.2.2.2.2.2.2.2.2.2.2.2.1):Int)==(0:Int)) else bif a1.2.2.1==(3:Int) then Option.bind (bif decide ((↑(List.length a1.2.2.2.2.2.2.2.2.2.2.2.1):Int)>(0:Int)) then Option.bind (w4 (a1.2.2.2.2.2.2.2.2.2.2.2.1,false,())) fun (y11:Bool)=>some y11 else some false) fun (s12:Bool)=>some s12 else some false
noncomputable def x4:ElS [zA]→Option (RTy.El (.p .bool)):=fun x=>match x with|(a1,())=>Option.bind (Option.bind (qM (a1.2.2.2.1,(1:Int),(255:Int),())) fun (y4:Bool)=>bif !y4 then some true else Option.bind (qM (a1.2.2.2.2.1,(0:Int),(16777215:Int),())) fun (y5:Bool)=>bif !y5 then some true else Option.bind (qM (a1.2.2.2.2.2.2.2.1,(0:Int),(1000000:Int),())) fun (y6:Bool)=>bif !y6 then some true else Option.bind (wT (a1,false,true,false,())) fun (y7:Bool)=>some !y7) fun (s8:Bool)=>bif s8 then some false else Option.bind (bif a1.2.2.1==(1:Int) then some (a1.2.2.1==(1:Int)) else some (a1.2.2.1==(2:Int))) fun (s9:Bool)=>bif s9 then Option.bind (bif (↑(List.length a1.2.2.2.2.2.2.2.2.1):Int)==(0:Int) then bif a1.2.2.2.2.2.2.2.2.2.1==(0:Int) then bif (↑(List.length a1.2.2.2.2.2.2.2.2.2.2.2.1):Int)==(0:Int) then some (a1.2.2.2.2.2.2.2.2.2.2.2.2.1==(a1.2.2.1==(2:Int))) else some false else some false else some false) fun (s10:Bool)=>some s10 else Option.bind (bif a1.2.2.1==(3:Int) then some (a1.2.2.1==(3:Int)) else some (a1.2.2.1==(4:Int))) fun (s11:Bool)=>bif s11 then Option.bind (bif a1.2.2.1==(4:Int) then bif a1.2.2.2.2.2.2.2.2.2.1 !=(0:Int) then bif (↑(List.length a1.2.2.2.2.2.2.2.2.2.2.2.1):Int)==(1:Int) then Option.bind (w4 (a1.2.2.2.2.2.2.2.2.2.2.2.1,false,())) fun (y20:Bool)=>bif y20 then Option.bind (idx a1.2.2.2.2.2.2.2.2.2.2.2.1 (0:Int)) fun (y21:Ty.El jJ)=>bif y21.2.1==a1.2.2.2.2.2.2.2.2.2.1 then some !a1.2.2.2.2.2.2.2.2.2.2.2.2.1 else some false else some false else some false else some false else bif decide ((↑(List.length a1.2.2.2.2.2.2.2.2.1):Int)>(0:Int)) then bif a1.2.2.2.2.2.2.2.2.2.1 !=(0:Int) then bif (↑(List.length a1.2.2.2.2.2.2.2.2.2.2.2.1):Int)==(1:Int) then Option.bind (w4 (a1.2.2.2.2.2.2.2.2.2.2.2.1,false,())) fun (y22:Bool)=>bif y22 then Option.bind (idx a1.2.2.2.2.2.2.2.2.2.2.2.1 (0:Int)) fun (y23:Ty.El jJ)=>bif y23.2.1==a1.2.2.2.2.2.2.2.2.2.1 then some !a1.2.2.2.2.2.2.2.2.2.2.2.2.1 else some false else some false else some false else some false else some false) fun (s24:Bool)=>some s24 else some false
noncomputable def wU:ElS [zA]→Option (RTy.El (.p .bool)):=fun x=>match x with|(a1,())=>Option.bind (Option.bind (j9 (a1.1,())) fun (y2:Bool)=>bif !y2 then some true else Option.bind (qM (a1.2.2.2.2.2.2.1,(0:Int),(65535:Int),())) fun (y3:Bool)=>bif !y3 then some true else some (decide ((↑(List.length a1.2.2.2.2.2.2.2.2.1):Int)>(64:Int)))) fun (s4:Bool)=>bif s4 then some false else jP (zR (fun (s11:Int)=>bif decide (s11< (↑(List.length a1.2.2.2.2.2.2.2.2.1):Int)) then Option.bind (idx a1.2.2.2.2.2.2.2.2.1 s11) fun (y12:Int)=>Option.bind (qM (y12,(1:Int),(65535:Int),())) fun (y13:Bool)=>bif !y13 then some (Sum.inr (Sum.inr false)) else some (Sum.inl (IntKind.wrap IntKind.i64 (s11+(1:Int)))) else some (Sum.inr (Sum.inl ()))) (0:Int)) fun (s14:Unit)=>bif a1.2.1==(1:Int) then Option.bind (bif a1.2.2.1==(0:Int) then bif a1.2.2.2.1==(0:Int) then bif a1.2.2.2.2.1==(0:Int) then bif a1.2.2.2.2.2.2.1==(0:Int) then Option.bind (wT (a1,false,false,false,())) fun (y17:Bool)=>bif y17 then bif !a1.2.2.2.2.2.2.2.2.2.2.2.2.1 then bif (↑(List.length a1.2.2.2.2.2.2.2.2.2.2.2.1):Int)==(1:Int) then Option.bind (w4 (a1.2.2.2.2.2.2.2.2.2.2.2.1,true,())) fun (y18:Bool)=>some y18 else some false else some false else some false else some false else some false else some false else some false) fun (s19:Bool)=>some s19 else bif a1.2.1==(2:Int) then Option.bind (uV (a1,())) fun (y20:Bool)=>some y20 else bif a1.2.1==(3:Int) then Option.bind (vK (a1,())) fun (y21:Bool)=>some y21 else bif a1.2.1==(4:Int) then Option.bind (wL (a1,())) fun (y22:Bool)=>some y22 else bif a1.2.1==(5:Int) then Option.bind (x4 (a1,())) fun (y23:Bool)=>some y23 else some false
noncomputable def zCE:ElS [(.sl zA),tI]→Option (RTy.El (.p .bool)):=fun x=>match x with|(a1,a2,())=>jP (zR (fun (s40:Int)=>bif decide (s40< (↑(List.length a1):Int)) then Option.bind (Option.bind (idx a1 s40) fun (y41:Ty.El zA)=>Option.bind (wU (y41,())) fun (y42:Bool)=>bif !y42 then some true else bif a2 !=(0:Int) then Option.bind (idx a1 s40) fun (y43:Ty.El zA)=>bif y43.2.1 !=a2 then some true else bif decide (s40>(0:Int)) then Option.bind (idx a1 (IntKind.wrap IntKind.i64 (s40- (1:Int)))) fun (y44:Ty.El zA)=>Option.bind (idx a1 s40) fun (y45:Ty.El zA)=>Option.bind (vJ (y44.1,y45.1,())) fun (y46:Int)=>some (decide (y46≥(0:Int))) else some false else bif decide (s40>(0:Int)) then Option.bind (idx a1 (IntKind.wrap IntKind.i64 (s40- (1:Int)))) fun (y47:Ty.El zA)=>Option.bind (idx a1 s40) fun (y48:Ty.El zA)=>Option.bind (vJ (y47.1,y48.1,())) fun (y49:Int)=>some (decide (y49≥(0:Int))) else some false) fun (s50:Bool)=>bif s50 then some (Sum.inr (Sum.inr false)) else some (Sum.inl (IntKind.wrap IntKind.i64 (s40+(1:Int)))) else some (Sum.inr (Sum.inl ()))) (0:Int)) fun (s51:Unit)=>some true
noncomputable def zCr:ElS [tI]→Option (RTy.El (.p tI)):=fun x=>match x with|(a1,())=>some (if (if (32:Int)<a1 then (32:Int) else a1)>(0:Int) then if (32:Int)<a1 then (32:Int) else a1 else (0:Int))
noncomputable def zDw:ElS [tI]→Option (RTy.El (.p tU)):=fun x=>match x with|(a1,())=>Option.bind (zCr (a1,())) fun (y0:Int)=>bif decide ((0:Int)≤IntKind.wrap IntKind.i64 ((32:Int) -y0)) then some (IntKind.wrap IntKind.u32 ((4294967295:Int)*(2:Int)^min (Int.toNat (IntKind.wrap IntKind.i64 ((32:Int) -y0))) (IntKind.bits IntKind.u32))) else none
noncomputable def xV:ElS [zF,tU]→Option (RTy.El (.p .bool)):=fun x=>match x with|(a1,a2,())=>Option.bind (zDw (a1.2.1,())) fun (y1:Int)=>some (IntKind.wrap IntKind.u32 (↑(BitVec.toNat (BitVec.ofInt (IntKind.bits IntKind.u32) a2&&&BitVec.ofInt (IntKind.bits IntKind.u32) y1)):Int)==a1.1)
noncomputable def yN:ElS [(.sl zO),zO]→Option (RTy.El (.p tI)):=fun x=>match x with|(a1,a2,())=>jP (zR (fun (s5:Int)=>bif decide (s5< (↑(List.length a1):Int)) then Option.bind (idx a1 s5) fun (y6:Ty.El zO)=>bif a2.1==y6.1&&(a2.2.1==y6.2.1&&true) then some (Sum.inr (Sum.inr s5)) else some (Sum.inl (IntKind.wrap IntKind.i64 (s5+(1:Int)))) else some (Sum.inr (Sum.inl ()))) (0:Int)) fun (s7:Unit)=>some (-1:Int)
noncomputable def v2:ElS [(.sl zO),zO]→Option (RTy.El (.p .bool)):=fun x=>match x with|(a1,a2,())=>Option.bind (yN (a1,a2,())) fun (y0:Int)=>some (decide (y0≥(0:Int)))
noncomputable def zAd:ElS [z6,tI,tI]→Option (RTy.El (.p tI)):=fun x=>match x with|(a1,a2,a3,())=>jP (zR (fun (s9:Int)=>bif decide (s9< (↑(List.length a1.2.1.1):Int)) then Option.bind (idx a1.2.1.1 s9) fun (y10:Ty.El zAu)=>Option.bind (v2 (y10.2.2.1,(a2,a3,()),())) fun (y11:Bool)=>bif y11 then some (Sum.inr (Sum.inr s9)) else some (Sum.inl (IntKind.wrap IntKind.i64 (s9+(1:Int)))) else some (Sum.inr (Sum.inl ()))) (0:Int)) fun (s12:Unit)=>some (-1:Int)
noncomputable def kG:ElS [(.sl tI),tI]→Option (RTy.El (.p tI)):=fun x=>match x with|(a1,a2,())=>jP (zR (fun (s4:Int)=>bif decide (s4< (↑(List.length a1):Int)) then Option.bind (idx a1 s4) fun (y5:Int)=>bif a2==y5 then some (Sum.inr (Sum.inr s4)) else some (Sum.inl (IntKind.wrap IntKind.i64 (s4+(1:Int)))) else some (Sum.inr (Sum.inl ()))) (0:Int)) fun (s6:Unit)=>some (-1:Int)
noncomputable def zFA:ElS [z6,tI,tI]→Option (RTy.El (.p tI)):=fun x=>match x with|(a1,a2,a3,())=>Option.bind (zAd (a1,a2,a3,())) fun (y0:Int)=>bif decide (y0< (0:Int)) then some (-1:Int) else Option.bind (kG (a1.2.1.2.1,y0,())) fun (y1:Int)=>some y1
noncomputable def vZ:ElS [(.sl tI),tI]→Option (RTy.El (.p .bool)):=fun x=>match x with|(a1,a2,())=>Option.bind (kG (a1,a2,())) fun (y0:Int)=>some (decide (y0≥(0:Int)))
noncomputable def zHx:ElS [z6,tI,tI]→Option (RTy.El (.p .bool)):=fun x=>match x with|(a1,a2,a3,())=>Option.bind (zAd (a1,a2,a3,())) fun (y0:Int)=>bif decide (y0< (0:Int)) then some false else Option.bind (zFA (a1,a2,a3,())) fun (y1:Int)=>Option.bind (bif decide (y1< (0:Int)) then some true else Option.bind (vZ (a1.2.2.1,y1,())) fun (y3:Bool)=>some !y3) fun (s4:Bool)=>some s4
noncomputable def zBW:ElS [tU,tI]→Option (RTy.El (.p zF)):=fun x=>match x with|(a1,a2,())=>Option.bind (zDw (a2,())) fun (y0:Int)=>Option.bind (zCr (a2,())) fun (y1:Int)=>some (IntKind.wrap IntKind.u32 (↑(BitVec.toNat (BitVec.ofInt (IntKind.bits IntKind.u32) a1&&&BitVec.ofInt (IntKind.bits IntKind.u32) y0)):Int),y1,())
noncomputable def yX:ElS [tU]→Option (RTy.El (.p .bool)):=fun x=>match x with|(a1,())=>some (a1 !=a1)
noncomputable def wA:ElS [tU,tU]→Option (RTy.El (.p tI)):=fun x=>match x with|(a1,a2,())=>Option.bind (yX (a1,())) fun (y0:Bool)=>Option.bind (yX (a2,())) fun (y1:Bool)=>bif y0 then bif y1 then some (0:Int) else some (-1:Int) else bif y1 then some (1:Int) else bif decide (a1<a2) then some (-1:Int) else bif decide (a1>a2) then some (1:Int) else some (0:Int)
noncomputable def zBk:ElS [tI]→Option (RTy.El (.p .bool)):=fun x=>match x with|(a1,())=>some (a1 !=a1)
noncomputable def zY:ElS [tI,tI]→Option (RTy.El (.p tI)):=fun x=>match x with|(a1,a2,())=>Option.bind (zBk (a1,())) fun (y0:Bool)=>Option.bind (zBk (a2,())) fun (y1:Bool)=>bif y0 then bif y1 then some (0:Int) else some (-1:Int) else bif y1 then some (1:Int) else bif decide (a1<a2) then some (-1:Int) else bif decide (a1>a2) then some (1:Int) else some (0:Int)
noncomputable def zAU:ElS [zF,zF]→Option (RTy.El (.p tI)):=fun x=>match x with|(a1,a2,())=>Option.bind (wA (a1.1,a2.1,())) fun (y0:Int)=>bif y0 !=(0:Int) then some y0 else Option.bind (zY (a1.2.1,a2.2.1,())) fun (y1:Int)=>some y1
noncomputable def zJ:ElS [zA,zA]→Option (RTy.El (.p tI)):=fun x=>match x with|(a1,a2,())=>Option.bind (zAU (a1.1,a2.1,())) fun (y0:Int)=>some y0
noncomputable def zX:List (Ty.El zA)→ElA [.d tI, .d tI, .clo 26 []]→Option (List (Ty.El zA)×RTy.El (.tu [])):=fun a0 x=>match x with|(a1,a2,(),())=>zR (fun (s157:Int×List (Ty.El zA))=>bif decide (s157.1<a2) then Option.bind (zR (fun (s158:Int×List (Ty.El zA))=>Option.bind (bif decide (s158.1>a1) then Option.bind (idx s158.2 s158.1) fun (y159:Ty.El zA)=>Option.bind (atN s158.2 (Int.toNat s158.1)) fun (y160:Ty.El zA)=>Option.bind (idx s158.2 (IntKind.wrap IntKind.i64 (s158.1- (1:Int)))) fun (y161:Ty.El zA)=>Option.bind (atN s158.2 (Int.toNat (IntKind.wrap IntKind.i64 (s158.1- (1:Int))))) fun (y162:Ty.El zA)=>Option.bind (zJ (y160,y162,())) fun (y163:Int)=>some (decide (y163< (0:Int)),s158.2) else some (false,s158.2)) fun (s164:Bool×List (Ty.El zA))=>bif s164.1 then Option.bind (idx s164.2 (IntKind.wrap IntKind.i64 (s158.1- (1:Int)))) fun (y165:Ty.El zA)=>Option.bind (atN s164.2 (Int.toNat (IntKind.wrap IntKind.i64 (s158.1- (1:Int))))) fun (y166:Ty.El zA)=>Option.bind (idx s164.2 s158.1) fun (y167:Ty.El zA)=>Option.bind (atN s164.2 (Int.toNat s158.1)) fun (y168:Ty.El zA)=>Option.bind (idx s164.2 s158.1) fun (y169:Ty.El zA)=>Option.bind (atN s164.2 (Int.toNat s158.1)) fun (y170:Ty.El zA)=>Option.bind (idx (List.set s164.2 (Int.toNat s158.1) y166) (IntKind.wrap IntKind.i64 (s158.1- (1:Int)))) fun (y171:Ty.El zA)=>Option.bind (atN (List.set s164.2 (Int.toNat s158.1) y166) (Int.toNat (IntKind.wrap IntKind.i64 (s158.1- (1:Int))))) fun (y172:Ty.El zA)=>some (Sum.inl (IntKind.wrap IntKind.i64 (s158.1- (1:Int)),List.set (List.set s164.2 (Int.toNat s158.1) y166) (Int.toNat (IntKind.wrap IntKind.i64 (s158.1- (1:Int)))) y168)) else some (Sum.inr s164.2)) s157) fun (s173:List (Ty.El zA))=>some (Sum.inl (IntKind.wrap IntKind.i64 (s157.1+(1:Int)),s173)) else Option.map (fun (r:List (Ty.El zA)×Unit)=>Sum.inr r) (bif Nat.beq (List.length s157.2) (List.length a0) then some (s157.2,()) else none)) (IntKind.wrap IntKind.i64 (a1+(1:Int)),a0)
noncomputable def z8:List (Ty.El zA)→ElA [.d tI, .d tI, .d tI, .clo 26 []]→Option (List (Ty.El zA)×RTy.El (.tu [])):=fun a0 x=>match x with|(a1,a2,a3,(),())=>zR (fun (s17:Int×List (Ty.El zA))=>bif decide (s17.1<a3) then Option.bind (idx s17.2 (IntKind.wrap IntKind.i64 (a2+s17.1))) fun (y18:Ty.El zA)=>Option.bind (atN s17.2 (Int.toNat (IntKind.wrap IntKind.i64 (a2+s17.1)))) fun (y19:Ty.El zA)=>Option.bind (idx s17.2 (IntKind.wrap IntKind.i64 (a1+s17.1))) fun (y20:Ty.El zA)=>Option.bind (atN s17.2 (Int.toNat (IntKind.wrap IntKind.i64 (a1+s17.1)))) fun (y21:Ty.El zA)=>Option.bind (idx s17.2 (IntKind.wrap IntKind.i64 (a1+s17.1))) fun (y22:Ty.El zA)=>Option.bind (atN s17.2 (Int.toNat (IntKind.wrap IntKind.i64 (a1+s17.1)))) fun (y23:Ty.El zA)=>Option.bind (idx (List.set s17.2 (Int.toNat (IntKind.wrap IntKind.i64 (a1+s17.1))) y19) (IntKind.wrap IntKind.i64 (a2+s17.1))) fun (y24:Ty.El zA)=>Option.bind (atN (List.set s17.2 (Int.toNat (IntKind.wrap IntKind.i64 (a1+s17.1))) y19) (Int.toNat (IntKind.wrap IntKind.i64 (a2+s17.1)))) fun (y25:Ty.El zA)=>some (Sum.inl (IntKind.wrap IntKind.i64 (s17.1+(1:Int)),List.set (List.set s17.2 (Int.toNat (IntKind.wrap IntKind.i64 (a1+s17.1))) y19) (Int.toNat (IntKind.wrap IntKind.i64 (a2+s17.1))) y21)) else Option.map (fun (r:List (Ty.El zA)×Unit)=>Sum.inr r) (bif Nat.beq (List.length s17.2) (List.length a0) then some (s17.2,()) else none)) ((0:Int),a0)
noncomputable def jL:List (Ty.El zA)→ElA [.d tI, .d tI, .d tI, .clo 26 []]→Option (List (Ty.El zA)×RTy.El (.tu [])):=fun a0 x=>match x with|(a1,a2,a3,(),())=>Option.bind (zR (fun (s6:Int×Int×List (Ty.El zA))=>bif s6.1 !=s6.2.1 then bif decide (s6.1>s6.2.1) then bif Nat.beq (List.length s6.2.2) (List.length s6.2.2) then Option.bind (z8 s6.2.2 (IntKind.wrap IntKind.i64 (a2-s6.1),a2,s6.2.1,(),())) fun (y7:List (Ty.El zA)×Unit)=>some (Sum.inl (IntKind.wrap IntKind.i64 (s6.1-s6.2.1),s6.2.1,y7.1)) else none else bif Nat.beq (List.length s6.2.2) (List.length s6.2.2) then Option.bind (z8 s6.2.2 (IntKind.wrap IntKind.i64 (a2-s6.1),IntKind.wrap IntKind.i64 (IntKind.wrap IntKind.i64 (a2+s6.2.1) -s6.1),s6.1,(),())) fun (y8:List (Ty.El zA)×Unit)=>some (Sum.inl (s6.1,IntKind.wrap IntKind.i64 (s6.2.1-s6.1),y8.1)) else none else some (Sum.inr (s6.2.2,s6.1))) (IntKind.wrap IntKind.i64 (a2-a1),IntKind.wrap IntKind.i64 (a3-a2),a0)) fun (s9:List (Ty.El zA)×Int)=>bif Nat.beq (List.length s9.1) (List.length s9.1) then Option.bind (z8 s9.1 (IntKind.wrap IntKind.i64 (a2-s9.2),a2,s9.2,(),())) fun (y10:List (Ty.El zA)×Unit)=>bif Nat.beq (List.length y10.1) (List.length a0) then some (y10.1,()) else none else none
noncomputable def kE (slices_symMergeCmpFunc_Route_self:List (Ty.El zA)→ElA [.d tI, .d tI, .d tI, .clo 26 []]→Option (List (Ty.El zA)×RTy.El (.tu []))):List (Ty.El zA)→ElA [.d tI, .d tI, .d tI, .clo 26 []]→Option (List (Ty.El zA)×RTy.El (.tu [])):=fun a0 x=>match x with|(a1,a2,a3,(),())=>jP (bif IntKind.wrap IntKind.i64 (a2-a1)==(1:Int) then Option.bind (zR (fun (s50:Int×Int×List (Ty.El zA))=>bif decide (s50.1<s50.2.1) then Option.bind (idx s50.2.2 (IntKind.wrap IntKind.i64 (Int.fdiv (IntKind.wrap IntKind.u64 (IntKind.wrap IntKind.i64 (s50.1+s50.2.1))) ((2:Int)^min (Int.toNat (1:Int)) (IntKind.bits IntKind.u64))))) fun (y51:Ty.El zA)=>Option.bind (atN s50.2.2 (Int.toNat (IntKind.wrap IntKind.i64 (Int.fdiv (IntKind.wrap IntKind.u64 (IntKind.wrap IntKind.i64 (s50.1+s50.2.1))) ((2:Int)^min (Int.toNat (1:Int)) (IntKind.bits IntKind.u64)))))) fun (y52:Ty.El zA)=>Option.bind (idx s50.2.2 a1) fun (y53:Ty.El zA)=>Option.bind (atN s50.2.2 (Int.toNat a1)) fun (y54:Ty.El zA)=>Option.bind (zJ (y52,y54,())) fun (y55:Int)=>bif decide (y55< (0:Int)) then some (Sum.inl (IntKind.wrap IntKind.i64 (IntKind.wrap IntKind.i64 (Int.fdiv (IntKind.wrap IntKind.u64 (IntKind.wrap IntKind.i64 (s50.1+s50.2.1))) ((2:Int)^min (Int.toNat (1:Int)) (IntKind.bits IntKind.u64)))+(1:Int)),s50.2)) else some (Sum.inl (s50.1,IntKind.wrap IntKind.i64 (Int.fdiv (IntKind.wrap IntKind.u64 (IntKind.wrap IntKind.i64 (s50.1+s50.2.1))) ((2:Int)^min (Int.toNat (1:Int)) (IntKind.bits IntKind.u64))),s50.2.2)) else some (Sum.inr (s50.1,s50.2.2))) (a2,a3,a0)) fun (s56:Int×List (Ty.El zA))=>zR (fun (s57:Int×List (Ty.El zA))=>bif decide (s57.1<IntKind.wrap IntKind.i64 (s56.1- (1:Int))) then Option.bind (idx s57.2 (IntKind.wrap IntKind.i64 (s57.1+(1:Int)))) fun (y58:Ty.El zA)=>Option.bind (atN s57.2 (Int.toNat (IntKind.wrap IntKind.i64 (s57.1+(1:Int))))) fun (y59:Ty.El zA)=>Option.bind (idx s57.2 s57.1) fun (y60:Ty.El zA)=>Option.bind (atN s57.2 (Int.toNat s57.1)) fun (y61:Ty.El zA)=>Option.bind (idx s57.2 s57.1) fun (y62:Ty.El zA)=>Option.bind (atN s57.2 (Int.toNat s57.1)) fun (y63:Ty.El zA)=>Option.bind (idx (List.set s57.2 (Int.toNat s57.1) y59) (IntKind.wrap IntKind.i64 (s57.1+(1:Int)))) fun (y64:Ty.El zA)=>Option.bind (atN (List.set s57.2 (Int.toNat s57.1) y59) (Int.toNat (IntKind.wrap IntKind.i64 (s57.1+(1:Int))))) fun (y65:Ty.El zA)=>some (Sum.inl (IntKind.wrap IntKind.i64 (s57.1+(1:Int)),List.set (List.set s57.2 (Int.toNat s57.1) y59) (Int.toNat (IntKind.wrap IntKind.i64 (s57.1+(1:Int)))) y61)) else Option.map (fun (r:List (Ty.El zA) ⊕ List (Ty.El zA)×Unit)=>Sum.inr r) (Option.map (fun (r:List (Ty.El zA)×Unit)=>Sum.inr r) (bif Nat.beq (List.length s57.2) (List.length a0) then some (s57.2,()) else none))) (a1,s56.2) else some (Sum.inl a0)) fun (s66:List (Ty.El zA))=>jP (bif IntKind.wrap IntKind.i64 (a3-a2)==(1:Int) then Option.bind (zR (fun (s117:Int×Int×List (Ty.El zA))=>bif decide (s117.1<s117.2.1) then Option.bind (idx s117.2.2 a2) fun (y118:Ty.El zA)=>Option.bind (atN s117.2.2 (Int.toNat a2)) fun (y119:Ty.El zA)=>Option.bind (idx s117.2.2 (IntKind.wrap IntKind.i64 (Int.fdiv (IntKind.wrap IntKind.u64 (IntKind.wrap IntKind.i64 (s117.1+s117.2.1))) ((2:Int)^min (Int.toNat (1:Int)) (IntKind.bits IntKind.u64))))) fun (y120:Ty.El zA)=>Option.bind (atN s117.2.2 (Int.toNat (IntKind.wrap IntKind.i64 (Int.fdiv (IntKind.wrap IntKind.u64 (IntKind.wrap IntKind.i64 (s117.1+s117.2.1))) ((2:Int)^min (Int.toNat (1:Int)) (IntKind.bits IntKind.u64)))))) fun (y121:Ty.El zA)=>Option.bind (zJ (y119,y121,())) fun (y122:Int)=>bif !decide (y122< (0:Int)) then some (Sum.inl (IntKind.wrap IntKind.i64 (IntKind.wrap IntKind.i64 (Int.fdiv (IntKind.wrap IntKind.u64 (IntKind.wrap IntKind.i64 (s117.1+s117.2.1))) ((2:Int)^min (Int.toNat (1:Int)) (IntKind.bits IntKind.u64)))+(1:Int)),s117.2)) else some (Sum.inl (s117.1,IntKind.wrap IntKind.i64 (Int.fdiv (IntKind.wrap IntKind.u64 (IntKind.wrap IntKind.i64 (s117.1+s117.2.1))) ((2:Int)^min (Int.toNat (1:Int)) (IntKind.bits IntKind.u64))),s117.2.2)) else some (Sum.inr (s117.1,s117.2.2))) (a1,a2,s66)) fun (s123:Int×List (Ty.El zA))=>zR (fun (s124:Int×List (Ty.El zA))=>bif decide (s124.1>s123.1) then Option.bind (idx s124.2 (IntKind.wrap IntKind.i64 (s124.1- (1:Int)))) fun (y125:Ty.El zA)=>Option.bind (atN s124.2 (Int.toNat (IntKind.wrap IntKind.i64 (s124.1- (1:Int))))) fun (y126:Ty.El zA)=>Option.bind (idx s124.2 s124.1) fun (y127:Ty.El zA)=>Option.bind (atN s124.2 (Int.toNat s124.1)) fun (y128:Ty.El zA)=>Option.bind (idx s124.2 s124.1) fun (y129:Ty.El zA)=>Option.bind (atN s124.2 (Int.toNat s124.1)) fun (y130:Ty.El zA)=>Option.bind (idx (List.set s124.2 (Int.toNat s124.1) y126) (IntKind.wrap IntKind.i64 (s124.1- (1:Int)))) fun (y131:Ty.El zA)=>Option.bind (atN (List.set s124.2 (Int.toNat s124.1) y126) (Int.toNat (IntKind.wrap IntKind.i64 (s124.1- (1:Int))))) fun (y132:Ty.El zA)=>some (Sum.inl (IntKind.wrap IntKind.i64 (s124.1- (1:Int)),List.set (List.set s124.2 (Int.toNat s124.1) y126) (Int.toNat (IntKind.wrap IntKind.i64 (s124.1- (1:Int)))) y128)) else Option.map (fun (r:List (Ty.El zA) ⊕ List (Ty.El zA)×Unit)=>Sum.inr r) (Option.map (fun (r:List (Ty.El zA)×Unit)=>Sum.inr r) (bif Nat.beq (List.length s124.2) (List.length a0) then some (s124.2,()) else none))) (a2,s123.2) else some (Sum.inl s66)) fun (s133:List (Ty.El zA))=>Option.bind (bif decide (a2>IntKind.wrap IntKind.i64 (Int.fdiv (IntKind.wrap IntKind.u64 (IntKind.wrap IntKind.i64 (a1+a3))) ((2:Int)^min (Int.toNat (1:Int)) (IntKind.bits IntKind.u64)))) then some (IntKind.wrap IntKind.i64 (IntKind.wrap IntKind.i64 (IntKind.wrap IntKind.i64 (Int.fdiv (IntKind.wrap IntKind.u64 (IntKind.wrap IntKind.i64 (a1+a3))) ((2:Int)^min (Int.toNat (1:Int)) (IntKind.bits IntKind.u64)))+a2) -a3),IntKind.wrap IntKind.i64 (Int.fdiv (IntKind.wrap IntKind.u64 (IntKind.wrap IntKind.i64 (a1+a3))) ((2:Int)^min (Int.toNat (1:Int)) (IntKind.bits IntKind.u64))),s133) else some (a1,a2,s133)) fun (s134:Int×Int×List (Ty.El zA))=>Option.bind (zR (fun (s152:Int×Int×List (Ty.El zA))=>bif decide (s152.1<s152.2.1) then Option.bind (idx s152.2.2 (IntKind.wrap IntKind.i64 (IntKind.wrap IntKind.i64 (IntKind.wrap IntKind.i64 (IntKind.wrap IntKind.i64 (Int.fdiv (IntKind.wrap IntKind.u64 (IntKind.wrap IntKind.i64 (a1+a3))) ((2:Int)^min (Int.toNat (1:Int)) (IntKind.bits IntKind.u64)))+a2) - (1:Int)) -IntKind.wrap IntKind.i64 (Int.fdiv (IntKind.wrap IntKind.u64 (IntKind.wrap IntKind.i64 (s152.1+s152.2.1))) ((2:Int)^min (Int.toNat (1:Int)) (IntKind.bits IntKind.u64)))))) fun (y153:Ty.El zA)=>Option.bind (atN s152.2.2 (Int.toNat (IntKind.wrap IntKind.i64 (IntKind.wrap IntKind.i64 (IntKind.wrap IntKind.i64 (IntKind.wrap IntKind.i64 (Int.fdiv (IntKind.wrap IntKind.u64 (IntKind.wrap IntKind.i64 (a1+a3))) ((2:Int)^min (Int.toNat (1:Int)) (IntKind.bits IntKind.u64)))+a2) - (1:Int)) -IntKind.wrap IntKind.i64 (Int.fdiv (IntKind.wrap IntKind.u64 (IntKind.wrap IntKind.i64 (s152.1+s152.2.1))) ((2:Int)^min (Int.toNat (1:Int)) (IntKind.bits IntKind.u64))))))) fun (y154:Ty.El zA)=>Option.bind (idx s152.2.2 (IntKind.wrap IntKind.i64 (Int.fdiv (IntKind.wrap IntKind.u64 (IntKind.wrap IntKind.i64 (s152.1+s152.2.1))) ((2:Int)^min (Int.toNat (1:Int)) (IntKind.bits IntKind.u64))))) fun (y155:Ty.El zA)=>Option.bind (atN s152.2.2 (Int.toNat (IntKind.wrap IntKind.i64 (Int.fdiv (IntKind.wrap IntKind.u64 (IntKind.wrap IntKind.i64 (s152.1+s152.2.1))) ((2:Int)^min (Int.toNat (1:Int)) (IntKind.bits IntKind.u64)))))) fun (y156:Ty.El zA)=>Option.bind (zJ (y154,y156,())) fun (y157:Int)=>bif !decide (y157< (0:Int)) then some (Sum.inl (IntKind.wrap IntKind.i64 (IntKind.wrap IntKind.i64 (Int.fdiv (IntKind.wrap IntKind.u64 (IntKind.wrap IntKind.i64 (s152.1+s152.2.1))) ((2:Int)^min (Int.toNat (1:Int)) (IntKind.bits IntKind.u64)))+(1:Int)),s152.2)) else some (Sum.inl (s152.1,IntKind.wrap IntKind.i64 (Int.fdiv (IntKind.wrap IntKind.u64 (IntKind.wrap IntKind.i64 (s152.1+s152.2.1))) ((2:Int)^min (Int.toNat (1:Int)) (IntKind.bits IntKind.u64))),s152.2.2)) else some (Sum.inr (s152.1,s152.2.2))) s134) fun (s158:Int×List (Ty.El zA))=>Option.bind (Option.bind (bif decide (s158.1<a2) then some (decide (a2<IntKind.wrap IntKind.i64 (IntKind.wrap IntKind.i64 (IntKind.wrap IntKind.i64 (Int.fdiv (IntKind.wrap IntKind.u64 (IntKind.wrap IntKind.i64 (a1+a3))) ((2:Int)^min (Int.toNat (1:Int)) (IntKind.bits IntKind.u64)))+a2) -s158.1)),s158.2) else some (false,s158.2)) fun (s161:Bool×List (Ty.El zA))=>bif s161.1 then bif Nat.beq (List.length s161.2) (List.length s161.2) then Option.bind (jL s161.2 (s158.1,a2,IntKind.wrap IntKind.i64 (IntKind.wrap IntKind.i64 (IntKind.wrap IntKind.i64 (Int.fdiv (IntKind.wrap IntKind.u64 (IntKind.wrap IntKind.i64 (a1+a3))) ((2:Int)^min (Int.toNat (1:Int)) (IntKind.bits IntKind.u64)))+a2) -s158.1),(),())) fun (y162:List (Ty.El zA)×Unit)=>some y162.1 else none else some s161.2) fun (s163:List (Ty.El zA))=>Option.bind (Option.bind (bif decide (a1<s158.1) then some (decide (s158.1<IntKind.wrap IntKind.i64 (Int.fdiv (IntKind.wrap IntKind.u64 (IntKind.wrap IntKind.i64 (a1+a3))) ((2:Int)^min (Int.toNat (1:Int)) (IntKind.bits IntKind.u64)))),s163) else some (false,s163)) fun (s166:Bool×List (Ty.El zA))=>bif s166.1 then bif Nat.beq (List.length s166.2) (List.length s166.2) then Option.bind (slices_symMergeCmpFunc_Route_self s166.2 (a1,s158.1,IntKind.wrap IntKind.i64 (Int.fdiv (IntKind.wrap IntKind.u64 (IntKind.wrap IntKind.i64 (a1+a3))) ((2:Int)^min (Int.toNat (1:Int)) (IntKind.bits IntKind.u64))),(),())) fun (y167:List (Ty.El zA)×Unit)=>some y167.1 else none else some s166.2) fun (s168:List (Ty.El zA))=>Option.bind (bif decide (IntKind.wrap IntKind.i64 (Int.fdiv (IntKind.wrap IntKind.u64 (IntKind.wrap IntKind.i64 (a1+a3))) ((2:Int)^min (Int.toNat (1:Int)) (IntKind.bits IntKind.u64)))<IntKind.wrap IntKind.i64 (IntKind.wrap IntKind.i64 (IntKind.wrap IntKind.i64 (Int.fdiv (IntKind.wrap IntKind.u64 (IntKind.wrap IntKind.i64 (a1+a3))) ((2:Int)^min (Int.toNat (1:Int)) (IntKind.bits IntKind.u64)))+a2) -s158.1)) then some (decide (IntKind.wrap IntKind.i64 (IntKind.wrap IntKind.i64 (IntKind.wrap IntKind.i64 (Int.fdiv (IntKind.wrap IntKind.u64 (IntKind.wrap IntKind.i64 (a1+a3))) ((2:Int)^min (Int.toNat (1:Int)) (IntKind.bits IntKind.u64)))+a2) -s158.1)<a3),s168) else some (false,s168)) fun (s169:Bool×List (Ty.El zA))=>bif s169.1 then bif Nat.beq (List.length s169.2) (List.length s169.2) then Option.bind (slices_symMergeCmpFunc_Route_self s169.2 (IntKind.wrap IntKind.i64 (Int.fdiv (IntKind.wrap IntKind.u64 (IntKind.wrap IntKind.i64 (a1+a3))) ((2:Int)^min (Int.toNat (1:Int)) (IntKind.bits IntKind.u64))),IntKind.wrap IntKind.i64 (IntKind.wrap IntKind.i64 (IntKind.wrap IntKind.i64 (Int.fdiv (IntKind.wrap IntKind.u64 (IntKind.wrap IntKind.i64 (a1+a3))) ((2:Int)^min (Int.toNat (1:Int)) (IntKind.bits IntKind.u64)))+a2) -s158.1),a3,(),())) fun (y170:List (Ty.El zA)×Unit)=>bif Nat.beq (List.length y170.1) (List.length a0) then some (y170.1,()) else none else none else bif Nat.beq (List.length s169.2) (List.length a0) then some (s169.2,()) else none
noncomputable def zW:Nat→(List (Ty.El zA)→ElA [.d tI, .d tI, .d tI, .clo 26 []]→Option (List (Ty.El zA)×RTy.El (.tu [])))|0=>fun _ _=>none|n+1=>kE (zW n)
noncomputable def qB:List (Ty.El zA)→ElA [.d tI, .d tI, .d tI, .clo 26 []]→Option (List (Ty.El zA)×RTy.El (.tu [])):=zW 1048576
noncomputable def qI:List (Ty.El zA)→ElA [.d tI, .clo 26 []]→Option (List (Ty.El zA)×RTy.El (.tu [])):=fun a0 x=>match x with|(a1,(),())=>Option.bind (zR (fun (s4:Int×List (Ty.El zA)×Int)=>bif decide (s4.1≤a1) then bif Nat.beq (List.length s4.2.1) (List.length s4.2.1) then Option.bind (zX s4.2.1 (s4.2.2,s4.1,(),())) fun (y5:List (Ty.El zA)×Unit)=>some (Sum.inl (IntKind.wrap IntKind.i64 (s4.1+(20:Int)),y5.1,s4.1)) else none else some (Sum.inr s4.2)) ((20:Int),a0,(0:Int))) fun (s6:List (Ty.El zA)×Int)=>bif Nat.beq (List.length s6.1) (List.length s6.1) then Option.bind (zX s6.1 (s6.2,a1,(),())) fun (y7:List (Ty.El zA)×Unit)=>zR (fun (s30:Int×List (Ty.El zA))=>bif decide (s30.1<a1) then Option.bind (zR (fun (s31:Int×List (Ty.El zA)×Int)=>bif decide (s31.1≤a1) then bif Nat.beq (List.length s31.2.1) (List.length s31.2.1) then Option.bind (qB s31.2.1 (s31.2.2,IntKind.wrap IntKind.i64 (s31.2.2+s30.1),s31.1,(),())) fun (y32:List (Ty.El zA)×Unit)=>some (Sum.inl (IntKind.wrap IntKind.i64 (s31.1+IntKind.wrap IntKind.i64 ((2:Int)*s30.1)),y32.1,s31.1)) else none else some (Sum.inr (s31.2.2,s31.2.1))) (IntKind.wrap IntKind.i64 ((2:Int)*s30.1),s30.2,(0:Int))) fun (s33:Int×List (Ty.El zA))=>Option.bind (bif decide (IntKind.wrap IntKind.i64 (s33.1+s30.1)<a1) then bif Nat.beq (List.length s33.2) (List.length s33.2) then Option.bind (qB s33.2 (s33.1,IntKind.wrap IntKind.i64 (s33.1+s30.1),a1,(),())) fun (y34:List (Ty.El zA)×Unit)=>some y34.1 else none else some s33.2) fun (s35:List (Ty.El zA))=>some (Sum.inl (IntKind.wrap IntKind.i64 (s30.1*(2:Int)),s35)) else Option.map (fun (r:List (Ty.El zA)×Unit)=>Sum.inr r) (bif Nat.beq (List.length s30.2) (List.length a0) then some (s30.2,()) else none)) ((20:Int),y7.1) else none
noncomputable def qE:List (Ty.El zA)→ElA [.clo 26 []]→Option (List (Ty.El zA)×RTy.El (.tu [])):=fun a0 x=>match x with|((),())=>bif Nat.beq (List.length a0) (List.length a0)&&Nat.beq (List.length a0) (List.length a0) then Option.bind (qI a0 ((↑(List.length a0):Int),(),())) fun (y0:List (Ty.El zA)×Unit)=>bif Nat.beq (List.length y0.1) (List.length a0) then some (y0.1,()) else none else none
end Go.Ve

namespace Go.Ve
open Go
set_option maxRecDepth 1000000
noncomputable def zLJ:ElS []→Option (RTy.El (.p .bool)):=fun x=>match x with|()=>some true
noncomputable def zCJ:ElS [z6,(.sl (.sl zA))]→Option (RTy.El (.p .bool)):=fun x=>match x with|(a1,a2,())=>bif (↑(List.length a2):Int) !=(↑(List.length a1.1.1):Int) then some false else jP (zR (fun (s13:Int)=>bif decide (s13< (↑(List.length a2):Int)) then Option.bind (Option.bind (idx a2 s13) fun (y14:List (Ty.El zA))=>bif decide ((↑(List.length y14):Int)>(12:Int)) then some true else Option.bind (idx a2 s13) fun (y15:List (Ty.El zA))=>Option.bind (zCE (y15,(4:Int),())) fun (y16:Bool)=>some !y16) fun (s17:Bool)=>bif s17 then some (Sum.inr (Sum.inr false)) else some (Sum.inl (IntKind.wrap IntKind.i64 (s13+(1:Int)))) else some (Sum.inr (Sum.inl ()))) (0:Int)) fun (s18:Unit)=>some true
noncomputable def j3:ElS [z6,tI,tI]→Option (RTy.El (.tu [qQ, .bool])):=fun x=>match x with|(a1,a2,a3,())=>Option.bind (bif decide (a2< (0:Int)) then some true else bif decide (a2≥(↑(List.length a1.1.1):Int)) then some true else bif decide (a3< (0:Int)) then some true else Option.bind (idx a1.1.1 a2) fun (y1:Ty.El zG)=>some (decide (a3≥(↑(List.length y1.2.2.1):Int)))) fun (s2:Bool)=>bif s2 then some (({ data:= #[] },(0:Int),(0:Int),(0:Int),false,false,(0:Int),(0:Int),false, { data:= #[] }, { data:= #[] },(0:Int),()),false,()) else Option.bind (idx a1.1.1 a2) fun (y3:Ty.El zG)=>Option.bind (idx y3.2.2.1 a3) fun (y4:Ty.El qQ)=>some (y4,true,())
noncomputable def jZ:ElS [z6,tI,tI]→Option (RTy.El (.p .bool)):=fun x=>match x with|(a1,a2,a3,())=>Option.bind (j3 (a1,a2,a3,())) fun (y0:Ty.El qQ×Bool×Unit)=>Option.bind (bif y0.2.1 then Option.bind (idx a1.1.1 a2) fun (y3:Ty.El zG)=>bif y3.2.2.2.2.2.2.2.2.2.1.1 then bif y0.1.2.2.2.2.2.2.2.2.1 then Option.bind (zHx (a1,a2,a3,())) fun (y4:Bool)=>some y4 else some false else some false else some false) fun (s5:Bool)=>some s5
noncomputable def zAt:ElS [z6,tI,tI]→Option (RTy.El (.p (.sl zO))):=fun x=>match x with|(a1,a2,a3,())=>Option.bind (zHx (a1,a2,a3,())) fun (y0:Bool)=>bif !y0 then some [] else Option.bind (Option.bind (zAd (a1,a2,a3,())) fun (y18:Int)=>Option.bind (idx a1.2.1.1 y18) fun (y19:Ty.El zAu)=>zR (fun (s20:Int×List (Ty.El zO))=>bif decide (s20.1< (↑(List.length y19.2.2.1):Int)) then Option.bind (Option.bind (idx y19.2.2.1 s20.1) fun (y21:Ty.El zO)=>Option.bind (bif y21.1 !=a2 then some (true,s20.2) else some (y21.2.1 !=a3,s20.2)) fun (s22:Bool×List (Ty.El zO))=>bif s22.1 then Option.bind (app (16:Nat) s22.2 [y21]) fun (y23:List (Ty.El zO))=>some y23 else some s22.2) fun (s24:List (Ty.El zO))=>some (Sum.inl (IntKind.wrap IntKind.i64 (s20.1+(1:Int)),s24)) else some (Sum.inr s20.2)) ((0:Int),[])) fun (s25:List (Ty.El zO))=>some s25
noncomputable def xF:ElA [.d wE, .pp .str]→Option (RTy.El (.p .bool)):=fun x=>match x with|(a1,a2,())=>some (a1.1==a2)
noncomputable def j8:ElA [.d (.sl wE), .clo 178 [(true, .str)]]→Option (RTy.El (.p tI)):=fun x=>match x with|(a1,(a2,()),())=>jP (zR (fun (s6:Int)=>bif decide (s6< (↑(List.length a1):Int)) then Option.bind (idx a1 s6) fun (y7:Ty.El wE)=>Option.bind (xF (y7,a2,())) fun (y8:Bool)=>bif y8 then some (Sum.inr (Sum.inr s6)) else some (Sum.inl (IntKind.wrap IntKind.i64 (s6+(1:Int)))) else some (Sum.inr (Sum.inl ()))) (0:Int)) fun (s9:Unit)=>some (-1:Int)
noncomputable def yS:ElS [zG, .str]→Option (RTy.El (.p tI)):=fun x=>match x with|(a1,a2,())=>Option.bind (j8 (a1.2.2.2.1,(a2,()),())) fun (y0:Int)=>some y0
noncomputable def zBw:ElS [zF,zF]→Option (RTy.El (.p .bool)):=fun x=>match x with|(a1,a2,())=>Option.bind (bif decide (a1.2.1≤a2.2.1) then Option.bind (xV (a1,a2.1,())) fun (y1:Bool)=>some y1 else some false) fun (s2:Bool)=>some s2
noncomputable def yB:ElS [zBy,zF]→Option (RTy.El (.p .bool)):=fun x=>match x with|(a1,a2,())=>Option.bind (Option.bind (zBw (a1.2.1,a2,())) fun (y1:Bool)=>bif y1 then bif decide (a1.2.2.1≤a2.2.1) then some (decide (a2.2.1≤a1.2.2.2.1)) else some false else some false) fun (s2:Bool)=>some s2
noncomputable def zBR:ElS [wE,zF]→Option (RTy.El (.p tI)):=fun x=>match x with|(a1,a2,())=>jP (zR (fun (s6:Int)=>bif decide (s6< (↑(List.length a1.2.1):Int)) then Option.bind (idx a1.2.1 s6) fun (y7:Ty.El zBy)=>Option.bind (yB (y7,a2,())) fun (y8:Bool)=>bif y8 then some (Sum.inr (Sum.inr s6)) else some (Sum.inl (IntKind.wrap IntKind.i64 (s6+(1:Int)))) else some (Sum.inr (Sum.inl ()))) (0:Int)) fun (s9:Unit)=>some (-1:Int)
noncomputable def yA:ElS [zG, .str,zF]→Option (RTy.El (.p .bool)):=fun x=>match x with|(a1,a2,a3,())=>bif a2== { data:= #[] } then some true else Option.bind (yS (a1,a2,())) fun (y0:Int)=>bif decide (y0< (0:Int)) then some false else Option.bind (idx a1.2.2.2.1 y0) fun (y3:Ty.El wE)=>Option.bind (zBR (y3,a3,())) fun (y4:Int)=>Option.bind (bif decide (y4≥(0:Int)) then Option.bind (idx a1.2.2.2.1 y0) fun (y7:Ty.El wE)=>Option.bind (idx y7.2.1 y4) fun (y8:Ty.El zBy)=>some y8.1 else some false) fun (s9:Bool)=>some s9
noncomputable def uD:ElS [z6,(.sl zA),tI,tI,zO]→Option (RTy.El (.p (.sl zA))):=fun x=>match x with|(a1,a2,a3,a4,a5,())=>Option.bind (idx a1.1.1 a3) fun (y2:Ty.El zG)=>Option.bind (idx a1.1.1 a5.1) fun (y3:Ty.El zG)=>Option.bind (j3 (a1,a5.1,a5.2.1,())) fun (y4:Ty.El qQ×Bool×Unit)=>Option.bind (zR (fun (s26:Int×List (Ty.El zA))=>bif decide (s26.1< (↑(List.length a2):Int)) then Option.bind (Option.bind (idx a2 s26.1) fun (y27:Ty.El zA)=>Option.bind (bif decide (y27.2.2.2.2.1≥(15:Int)) then some (true,s26.2) else Option.bind (yA (y3,y3.2.2.2.2.2.2.2.2.2.1.2.2.2.1,y27.1,())) fun (y28:Bool)=>bif !y28 then some (true,s26.2) else Option.bind (yA (y2,y2.2.2.2.2.2.2.2.2.2.1.2.2.1,y27.1,())) fun (y29:Bool)=>some (!y29,s26.2)) fun (s30:Bool×List (Ty.El zA))=>bif s30.1 then some s30.2 else Option.bind (app (136:Nat) s30.2 [(y27.1,(4:Int),(3:Int),y2.2.2.2.2.2.2.2.2.2.1.2.1,IntKind.wrap IntKind.i64 (y27.2.2.2.2.1+(1:Int)),(0:Int),y27.2.2.2.2.2.2.1,(0:Int),[],(0:Int),(0:Int),[(a4,y4.1.2.1,())],false,())]) fun (y31:List (Ty.El zA))=>some y31) fun (s32:List (Ty.El zA))=>some (Sum.inl (IntKind.wrap IntKind.i64 (s26.1+(1:Int)),s32)) else some (Sum.inr s26.2)) ((0:Int),[])) fun (s33:List (Ty.El zA))=>some s33
noncomputable def uE:ElS [z6,(.sl (.sl zA)),tI]→Option (RTy.El (.p (.sl zA))):=fun x=>match x with|(a1,a2,a3,())=>Option.bind (bif decide (a3< (0:Int)) then some true else some (decide (a3≥(↑(List.length a1.1.1):Int)))) fun (s0:Bool)=>bif s0 then some [] else Option.bind (Option.bind (idx a1.1.1 a3) fun (y54:Ty.El zG)=>zR (fun (s55:Int×List (Ty.El zA))=>bif decide (s55.1< (↑(List.length y54.2.2.1):Int)) then Option.bind (Option.bind (jZ (a1,a3,s55.1,())) fun (y56:Bool)=>bif !y56 then some s55.2 else Option.bind (zAt (a1,a3,s55.1,())) fun (y57:List (Ty.El zO))=>zR (fun (s58:Int×List (Ty.El zA))=>bif decide (s58.1< (↑(List.length y57):Int)) then Option.bind (Option.bind (idx y57 s58.1) fun (y59:Ty.El zO)=>Option.bind (Option.bind (jZ (a1,y59.1,y59.2.1,())) fun (y60:Bool)=>bif y60 then some (decide (y59.1< (↑(List.length a2):Int)),s58.2) else some (false,s58.2)) fun (s61:Bool×List (Ty.El zA))=>bif s61.1 then Option.bind (idx a2 y59.1) fun (y62:List (Ty.El zA))=>Option.bind (uD (a1,y62,a3,s55.1,y59,())) fun (y63:List (Ty.El zA))=>Option.bind (app (136:Nat) s61.2 y63) fun (y64:List (Ty.El zA))=>some y64 else some s61.2) fun (s65:List (Ty.El zA))=>some (Sum.inl (IntKind.wrap IntKind.i64 (s58.1+(1:Int)),s65)) else some (Sum.inr s58.2)) ((0:Int),s55.2)) fun (s66:List (Ty.El zA))=>some (Sum.inl (IntKind.wrap IntKind.i64 (s55.1+(1:Int)),s66)) else some (Sum.inr s55.2)) ((0:Int),[])) fun (s67:List (Ty.El zA))=>some s67
noncomputable def zDL:ElS [(.sl zA),zF]→Option (RTy.El (.p tI)):=fun x=>match x with|(a1,a2,())=>jP (zR (fun (s5:Int)=>bif decide (s5< (↑(List.length a1):Int)) then Option.bind (idx a1 s5) fun (y6:Ty.El zA)=>bif y6.1.1==a2.1&&(y6.1.2.1==a2.2.1&&true) then some (Sum.inr (Sum.inr s5)) else some (Sum.inl (IntKind.wrap IntKind.i64 (s5+(1:Int)))) else some (Sum.inr (Sum.inl ()))) (0:Int)) fun (s7:Unit)=>some (-1:Int)
noncomputable def yO:ElS [(.sl tI)]→Option (RTy.El (.p (.sl tI))):=fun x=>match x with|(a1,())=>Option.bind (app (8:Nat) [] a1) fun (z:List (Ty.El tI))=>some z
end Go.Ve

namespace Go.Ve
open Go
def Wp {α:Type} (m:Option α) (Q:α→Prop):Prop:= ∃r,m=some r∧Q r
section
variable {α β ρ σ:Type}
theorem Wp.mono {m:Option α} {Q Q':α→Prop} (h:Wp m Q) (hq: ∀r,Q r→Q' r):Wp m Q':=by
 obtain ⟨r,h1,h2⟩:=h;exact ⟨r,h1,hq r h2⟩
theorem zB {x:α} {Q:α→Prop} (h:Q x):Wp (some x) Q:=⟨x,rfl,h⟩
theorem zC {m:Option α} {f:α→Option β} {Q:β→Prop} (h:Wp m (fun y=>Wp (f y) Q)):Wp (Option.bind m f) Q:=by
 obtain ⟨y,rfl,h⟩:=h;exact h
theorem zKU {m:Option α} {f:α→Option β} {Q:β→Prop} (h:Wp m (fun _=>True)) (k: ∀y,m=some y→Wp (f y) Q):Wp (Option.bind m f) Q:=by
 obtain ⟨y,rfl,_⟩:=h;exact k y rfl
theorem zH {c:Bool} {x y:Option α} {Q:α→Prop} (h1:c=true→Wp x Q) (h2:c=false→Wp y Q):Wp (bif c then x else y) Q:=by
 cases c
 ·exact h2 rfl
 ·exact h1 rfl
theorem xC {m:Option α} {f:α→β} {Q:β→Prop} (h:Wp m (fun y=>Q (f y))):Wp (Option.map f m) Q:=by
 obtain ⟨y,rfl,h⟩:=h;exact ⟨_,rfl,h⟩
def uG (P:σ→Prop) (Q:ρ→Prop):σ ⊕ ρ→Prop
 | .inl s=>P s
 | .inr r=>Q r
theorem e2l {P:σ→Prop} {Q:ρ→Prop} {s:σ} (h:P s):uG P Q (.inl s):=h
theorem e2r {P:σ→Prop} {Q:ρ→Prop} {r:ρ} (h:Q r):uG P Q (.inr r):=h
theorem qT {m:Option (σ ⊕ ρ)} {K:σ→Option ρ} {Q:ρ→Prop} (h:Wp m (uG (fun s=>Wp (K s) Q) Q)):Wp (jP m K) Q:=by
 obtain ⟨o,rfl,h⟩:=h
 cases o with
 |inl s=>exact h
 |inr r=>exact ⟨r,rfl,h⟩
theorem wO {f:σ→Option (σ ⊕ ρ)} {Q:ρ→Prop} (J:σ→Prop) (m:σ→Nat) {s0:σ} (h0:J s0)
  (step: ∀s,J s→Wp (f s) (uG (fun s'=>J s'∧m s'<m s) Q)):Wp (zR f s0) Q:=by
 refine zTg J m Q ?_ h0
 intro s hs
 obtain ⟨o,h1,h2⟩:=step s hs
 refine ⟨o,h1,?_⟩
 cases o with
 |inl s'=>exact h2
 |inr r=>exact h2
theorem j6 {n s0:Int} {body els:Int→Option (Int ⊕ ρ)} {Q:ρ→Prop}
  (step: ∀s,s0≤s→s<n→Wp (body s) (uG (fun s'=>s'=s+1) Q))
  (fin: ∀s,s0≤s→n≤s→Wp (els s) (uG (fun _=>False) Q)):Wp (zR (fun s=>bif decide (s<n) then body s else els s) s0) Q:=by
 refine wO (fun s=>s0≤s) (fun s=>(n-s).toNat) (Int.le_refl _) ?_
 intro s hs
 refine zH ?_ ?_
 ·intro hc
  have hc:s<n:=by simpa using hc
  refine (step s hs hc).mono ?_
  intro o ho
  cases o with
  |inl s'=>have:s'=s+1:=ho;subst this;exact ⟨by omega,by omega⟩
  |inr r=>exact ho
 ·intro hc
  have hc:n≤s:=by simpa using hc
  refine (fin s hs hc).mono ?_
  intro o ho
  cases o with
  |inl s'=>exact ho.elim
  |inr r=>exact ho
theorem zVw {γ:Type} {n s0:Int} {g0:γ} {body els:Int×γ→Option ((Int×γ) ⊕ ρ)} {Q:ρ→Prop} (J:Int→γ→Prop) (h0:J s0 g0)
  (step: ∀s g,s0≤s→s<n→J s g→Wp (body (s,g)) (uG (fun o=>o.1=s+1∧J (s+1) o.2) Q))
  (fin: ∀s g,s0≤s→n≤s→J s g→Wp (els (s,g)) (uG (fun _=>False) Q)):Wp (zR (fun o=>bif decide (o.1<n) then body o else els o) (s0,g0)) Q:=by
 refine wO (fun o=>s0≤o.1∧J o.1 o.2) (fun o=>(n-o.1).toNat) ⟨Int.le_refl _,h0⟩ ?_
 rintro ⟨s,g⟩ ⟨hs,hj⟩
 refine zH ?_ ?_
 ·intro hc
  have hc:s<n:=by simpa using hc
  refine (step s g hs hc hj).mono ?_
  intro o ho
  cases o with
  |inl s'=>obtain ⟨s1,g1⟩:=s';obtain ⟨h1,h2⟩:=ho;simp only at h1 h2;subst h1;exact ⟨⟨by omega,h2⟩,by simp only;omega⟩
  |inr r=>exact ho
 ·intro hc
  have hc:n≤s:=by simpa using hc
  refine (fin s g hs hc hj).mono ?_
  intro o ho
  cases o with
  |inl s'=>exact ho.elim
  |inr r=>exact ho
theorem j2 {xs:List α} {i:Int} {Q:α→Prop} (h0:0≤i) (h1:i<xs.length) (h: ∀y,y∈xs→xs[i.toNat]? =some y→Q y):Wp (idx xs i) Q:=by
 unfold idx
 rw [if_pos h0]
 have hl:i.toNat<xs.length:=by omega
 exact ⟨xs[i.toNat],by simp [hl],h _ (List.getElem_mem hl) (by simp [hl])⟩
theorem uL {s:ByteArray} {i:Int} {Q:Int→Prop} (h0:0≤i) (h1:i<s.size) (h: ∀y,0≤y→y<256→Q y):Wp (zJy s i) Q:=by
 unfold zJy
 rw [if_pos h0]
 have hl:i.toNat<s.size:=by omega
 refine ⟨(s[i.toNat].toNat:Int),by simp [hl],h _ (by omega) ?_⟩
 have:=s[i.toNat].toNat_lt
 omega
theorem zA0 {bytes:Nat} {xs ys:List α} {Q:List α→Prop} (h0:(2*(xs.length+ys.length)+1024)*bytes≤140737488355328) (h:Q (xs++ys)):Wp (app bytes xs ys) Q:=by
 unfold app
 rw [if_pos h0]
 exact ⟨_,rfl,h⟩
end
theorem zD {x:Int} (h0: -9223372036854775808≤x) (h1:x<9223372036854775808):IntKind.wrap .i64 x=x:=by
 have e1:((2:Int)^IntKind.bits .i64)=18446744073709551616:=by decide
 have e2:((2:Int)^(IntKind.bits .i64-1))=9223372036854775808:=by decide
 simp only [IntKind.wrap,IntKind.signed,Bool.true_and,decide_eq_true_eq,e1,e2]
 split<;>omega
theorem zHp {x:Int} (h0:0≤x) (h1:x<18446744073709551616):IntKind.wrap .u64 x=x:=by
 have e1:((2:Int)^IntKind.bits .u64)=18446744073709551616:=by decide
 simp only [IntKind.wrap,IntKind.signed,Bool.false_and,Bool.false_eq_true,if_false,e1]
 omega
theorem zI {α:Type} {p:Prop} [Decidable p] {x y:Option α} {Q:α→Prop} (h1:p→Wp x Q) (h2: ¬p→Wp y Q):Wp (bif decide p then x else y) Q:=by
 by_cases h:p
 ·simp only [h,decide_true,cond_true];exact h1 h
 ·simp only [h,decide_false,cond_false];exact h2 h
theorem jT {α:Type} {p:Prop} [Decidable p] {x y:Option α} {Q:α→Prop} (h1: ¬p→Wp x Q) (h2:p→Wp y Q):Wp (bif !decide p then x else y) Q:=by
 by_cases h:p
 ·simp only [h,decide_true,Bool.not_true,cond_false];exact h2 h
 ·simp only [h,decide_false,Bool.not_false,cond_true];exact h1 h
end Go.Ve

namespace Go.Ve
open Go
theorem zT {α:Type} {xs:List α} {i:Nat} {x:α} (h:xs[i]? =some x):idx xs (i:Int)=some x:=by
 rw [idx,if_pos (by omega),Int.toNat_natCast];exact h
theorem wD {α:Type} {m:Option α} {x:α} {Q:α→Prop} (h:m=some x) (hq:Q x):Wp m Q:=⟨x,h,hq⟩
section
variable {α γ ρ:Type}
theorem zBL {xs:List α} {g0:γ} {body:Int×γ→Option γ} {Q:γ→Prop} (hl:xs.length<4611686018427387904) (J:Nat→γ→Prop) (h0:J 0 g0)
  (step: ∀i x g,xs[i]? =some x→J i g→Wp (body ((i:Int),g)) (J (i+1))) (fin: ∀g,J xs.length g→Q g):
  Wp (zR (fun s:Int×γ=>bif decide (s.1< (xs.length:Int)) then Option.bind (body s) (fun g=>some (Sum.inl (IntKind.wrap IntKind.i64 (s.1+(1:Int)),g))) else some (Sum.inr s.2)) ((0:Int),g0)) Q:=by
 refine wO (fun (s:Int×γ)=> ∃i:Nat,s.1=(i:Int)∧i≤xs.length∧J i s.2) (fun (s:Int×γ)=>((xs.length:Int) -s.1).toNat) ⟨(0:Nat),rfl,Nat.zero_le _,h0⟩ ?_
 rintro ⟨s,g⟩ ⟨i,hi,hle,hj⟩
 simp only at hi
 subst hi
 refine zI ?_ ?_
 ·intro hc
  have hlt:i<xs.length:=by simp only at hc;omega
  refine zC ((step i xs[i] g (by simp [hlt]) hj).mono ?_)
  intro g' hg'
  refine zB ?_
  refine e2l ⟨⟨i+1,?_,hlt,hg'⟩,?_⟩
  ·simp only;rw [zD (by omega) (by omega)];omega
  ·simp only;rw [zD (by omega) (by omega)];omega
 ·intro hc
  have:i=xs.length:=by simp only at hc;omega
  subst this
  exact zB (e2r (fin _ hj))
theorem zO2 {n:Nat} {c:Int×γ→Int} {g0:γ} {body:Int×γ→Option γ} {Q:γ→Prop} (hl:n<4611686018427387904) (J:Nat→γ→Prop) (h0:J 0 g0) (hc: ∀i g,J i g→c ((i:Int),g)=n)
  (step: ∀i g,i<n→J i g→Wp (body ((i:Int),g)) (J (i+1))) (fin: ∀g,J n g→Q g):
  Wp (zR (fun s:Int×γ=>bif decide (s.1<c s) then Option.bind (body s) (fun g=>some (Sum.inl (IntKind.wrap IntKind.i64 (s.1+(1:Int)),g))) else some (Sum.inr s.2)) ((0:Int),g0)) Q:=by
 refine wO (fun (s:Int×γ)=> ∃i:Nat,s.1=(i:Int)∧i≤n∧J i s.2) (fun (s:Int×γ)=>((n:Int) -s.1).toNat) ⟨(0:Nat),rfl,Nat.zero_le _,h0⟩ ?_
 rintro ⟨s,g⟩ ⟨i,hi,hle,hj⟩
 simp only at hi
 subst hi
 have hci:=hc i g hj
 refine zI ?_ ?_
 ·intro hc'
  simp only [hci] at hc'
  have hlt:i<n:=by omega
  refine zC ((step i g hlt hj).mono ?_)
  intro g' hg'
  refine zB ?_
  refine e2l ⟨⟨i+1,?_,hlt,hg'⟩,?_⟩
  ·simp only;rw [zD (by omega) (by omega)];omega
  ·simp only;rw [zD (by omega) (by omega)];omega
 ·intro hc'
  simp only [hci] at hc'
  have:i=n:=by omega
  subst this
  exact zB (e2r (fin _ hj))
theorem zFx {xs:List α} {body:Int→Option (Int ⊕ (Unit ⊕ ρ))} {K:Unit→Option ρ} {Q:ρ→Prop} (hl:xs.length<4611686018427387904) (J:Nat→Prop) (h0:J 0)
  (step: ∀i x,xs[i]? =some x→J i→Wp (body (i:Int)) (uG (fun s'=>s'=IntKind.wrap IntKind.i64 ((i:Int)+1)∧J (i+1)) (uG (fun _=>False) Q))) (fin:J xs.length→Wp (K ()) Q):
  Wp (jP (zR (fun s:Int=>bif decide (s< (xs.length:Int)) then body s else some (Sum.inr (Sum.inl ()))) (0:Int)) K) Q:=by
 refine qT ?_
 refine wO (fun (s:Int)=> ∃i:Nat,s=(i:Int)∧i≤xs.length∧J i) (fun (s:Int)=>((xs.length:Int) -s).toNat) ⟨(0:Nat),rfl,Nat.zero_le _,h0⟩ ?_
 rintro s ⟨i,hi,hle,hj⟩
 subst hi
 refine zI ?_ ?_
 ·intro hc
  have hlt:i<xs.length:=by omega
  refine (step i xs[i] (by simp [hlt]) hj).mono ?_
  intro o ho
  cases o with
  |inl s'=>
   obtain ⟨rfl,h2⟩:=ho
   rw [zD (by omega) (by omega)]
   exact ⟨⟨i+1,by omega,hlt,h2⟩,by omega⟩
  |inr o=>
   cases o with
   |inl _=>exact ho.elim
   |inr r=>exact ho
 ·intro hc
  have:i=xs.length:=by omega
  subst this
  exact zB (e2r (fin hj))
end
def zBs {α:Type} (p:α→Bool) (xs:List α):Int:=
 match xs.findIdx? p with
 |some i=>i
 |none=> -1
theorem zNH {α:Type} {p:α→Bool} {xs:List α} (h: ∀x,x∈xs→p x=false):zBs p xs= -1:=by
 have:xs.findIdx? p=none:=by rw [List.findIdx?_eq_none_iff];exact h
 simp [zBs,this]
theorem zV9 {α:Type} {p:α→Bool} {xs:List α} {i:Nat} {x:α} (h:xs[i]? =some x) (hp:p x=true) (hn: ∀j y,j<i→xs[j]? =some y→p y=false):zBs p xs=i:=by
 have hlt:=(List.getElem?_eq_some_iff.1 h).1
 have hx:=(List.getElem?_eq_some_iff.1 h).2
 have:xs.findIdx? p=some i:=by
  rw [List.findIdx?_eq_some_iff_getElem]
  refine ⟨hlt,by rw [hx];exact hp,?_⟩
  intro j hj
  have:=hn j xs[j] hj (by simp)
  simp [this]
 simp [zBs,this]
theorem zLY {α:Type} (p:α→Bool) (xs:List α):(zBs p xs= -1∧ ∀x,x∈xs→p x=false)∨ ∃i x,zBs p xs=(i:Nat)∧xs[i]? =some x∧p x=true∧ ∀j y,j<i→xs[j]? =some y→p y=false:=by
 cases h:xs.findIdx? p with
 |none=>left;refine ⟨by simp [zBs,h],?_⟩;rw [List.findIdx?_eq_none_iff] at h;exact h
 |some i=>
  right
  rw [List.findIdx?_eq_some_iff_getElem] at h
  obtain ⟨h1,h2,h3⟩:=h
  have h':xs.findIdx? p=some i:=by rw [List.findIdx?_eq_some_iff_getElem];exact ⟨h1,h2,h3⟩
  refine ⟨i,xs[i],by simp [zBs,h'],by simp [h1],h2,?_⟩
  intro j y hj hy
  obtain ⟨hjl,rfl⟩:=List.getElem?_eq_some_iff.1 hy
  have:=h3 j hj
  simpa using this
theorem zFy {α:Type} {xs:List α} {p:α→Bool} {body:Int→Option (Int ⊕ (Unit ⊕ Int))} {Q:Int→Prop} (hl:xs.length<4611686018427387904)
  (step: ∀ (i:Nat) x,xs[i]? =some x→body (i:Int)=some (bif p x then Sum.inr (Sum.inr (i:Int)) else Sum.inl (IntKind.wrap IntKind.i64 ((i:Int)+1)))) (fin:Q (zBs p xs)):
  Wp (jP (zR (fun s:Int=>bif decide (s< (xs.length:Int)) then body s else some (Sum.inr (Sum.inl ()))) (0:Int)) (fun _=>some (-1:Int))) Q:=by
 refine zFx hl (fun i=> ∀j y,j<i→xs[j]? =some y→p y=false) (fun j y hj=>by omega) ?_ ?_
 ·intro i x hx hj
  refine wD (step i x hx) ?_
  cases hp:p x with
  |true=>
   simp only [cond_true]
   refine e2r (e2r ?_)
   rw [zV9 hx hp hj] at fin
   exact fin
  |false=>
   simp only [cond_false]
   refine e2l ⟨rfl,?_⟩
   intro j y hji hy
   rcases Nat.lt_or_ge j i with h|h
   ·exact hj j y h hy
   ·have:j=i:=by omega
    subst this
    rw [hx] at hy
    cases hy
    exact hp
 ·intro hj
  refine zB ?_
  rw [zNH] at fin
  ·exact fin
  ·intro x hx
   obtain ⟨j,hjl,rfl⟩:=List.getElem_of_mem hx
   exact hj j _ hjl (by simp [hjl])
end Go.Ve

namespace Go.Ve
open Go
section
variable {α ρ:Type}
theorem zTQ {xs:List α} {body:Int→Option (Int ⊕ (Unit ⊕ ρ))} {Q:Unit ⊕ ρ→Prop} (hl:xs.length<4611686018427387904) (J:Nat→Prop) (h0:J 0)
  (step: ∀i x,xs[i]? =some x→J i→Wp (body (i:Int)) (uG (fun s'=>s'=IntKind.wrap IntKind.i64 ((i:Int)+1)∧J (i+1)) (fun o=>(∀u,o≠Sum.inl u)∧Q o))) (fin:J xs.length→Q (Sum.inl ())):
  Wp (zR (fun s:Int=>bif decide (s< (xs.length:Int)) then body s else some (Sum.inr (Sum.inl ()))) (0:Int)) Q:=by
 refine wO (fun (s:Int)=> ∃i:Nat,s=(i:Int)∧i≤xs.length∧J i) (fun (s:Int)=>((xs.length:Int) -s).toNat) ⟨(0:Nat),rfl,Nat.zero_le _,h0⟩ ?_
 rintro s ⟨i,hi,hle,hj⟩
 subst hi
 refine zI ?_ ?_
 ·intro hc
  have hlt:i<xs.length:=by omega
  refine (step i xs[i] (by simp [hlt]) hj).mono ?_
  intro o ho
  cases o with
  |inl s'=>
   obtain ⟨rfl,h2⟩:=ho
   rw [zD (by omega) (by omega)]
   exact ⟨⟨i+1,by omega,hlt,h2⟩,by omega⟩
  |inr o=>exact ho.2
 ·intro hc
  have:i=xs.length:=by omega
  subst this
  exact zB (e2r (fin hj))
theorem zVx {xs:List α} {P:α→Prop} {body:Int→Option (Int ⊕ (Unit ⊕ ρ))} {Q:Unit ⊕ ρ→Prop} (hl:xs.length<4611686018427387904)
  (step: ∀ (i:Nat) x,xs[i]? =some x→Wp (body (i:Int)) (uG (fun s'=>s'=IntKind.wrap IntKind.i64 ((i:Int)+1)∧P x) (fun o=>(∀u,o≠Sum.inl u)∧Q o))) (fin:(∀x,x∈xs→P x)→Q (Sum.inl ())):
  Wp (zR (fun s:Int=>bif decide (s< (xs.length:Int)) then body s else some (Sum.inr (Sum.inl ()))) (0:Int)) Q:=by
 refine zTQ hl (fun i=> ∀j y,j<i→xs[j]? =some y→P y) (fun j y hj=>by omega) ?_ (fun h=>fin ?_)
 ·intro i x hx hj
  refine (step i x hx).mono ?_
  intro o ho
  cases o with
  |inl s'=>
   refine ⟨ho.1,?_⟩
   intro j y hj' hy
   rcases Nat.lt_or_ge j i with h'|h'
   ·exact hj j y h' hy
   ·have:j=i:=by omega
    subst this
    rw [hx] at hy
    cases hy
    exact ho.2
  |inr o=>exact ho
 ·intro x hx
  obtain ⟨j,hjl,rfl⟩:=List.getElem_of_mem hx
  exact h j _ hjl (by simp [hjl])
end
end Go.Ve

namespace Go.Ve
open Go
section
variable {α:Type} {lt:α→α→Prop}
structure Ord (lt:α→α→Prop):Prop where
 asym: ∀x y,lt x y→ ¬lt y x
 tr: ∀x y z, ¬lt y x→ ¬lt z y→ ¬lt z x
theorem zA3 (ho:Ord lt): ∀ {xs ys:List α},xs.Pairwise lt→ys.Pairwise lt→(∀z,z∈xs↔z∈ys)→xs=ys
 |[],[],_,_,_=>rfl
 |[],y::ys,_,_,h=>by have:=(h y).2 (by simp);cases this
 |x::xs,[],_,_,h=>by have:=(h x).1 (by simp);cases this
 |x::xs,y::ys,hx,hy,h=>by
  rw [List.pairwise_cons] at hx hy
  have irr: ∀z, ¬lt z z:=fun z hz=>ho.asym z z hz hz
  have e:x=y:=by
   rcases List.mem_cons.1 ((h x).1 (by simp)) with h1|h1
   ·exact h1
   ·rcases List.mem_cons.1 ((h y).2 (by simp)) with h2|h2
    ·exact h2.symm
    ·exact absurd (hx.1 y h2) (ho.asym _ _ (hy.1 x h1))
  subst e
  have:xs=ys:=by
   refine zA3 ho hx.2 hy.2 (fun z=>⟨fun hz=> ?_,fun hz=> ?_⟩)
   ·rcases List.mem_cons.1 ((h z).1 (List.mem_cons_of_mem _ hz)) with rfl|h1
    ·exact absurd (hx.1 z hz) (irr z)
    ·exact h1
   ·rcases List.mem_cons.1 ((h z).2 (List.mem_cons_of_mem _ hz)) with rfl|h1
    ·exact absurd (hy.1 z hz) (irr z)
    ·exact h1
  rw [this]
end
end Go.Ve

namespace Go.Ve
open Go
set_option maxRecDepth 1000000
set_option maxHeartbeats 4000000
theorem u4 {α:Type} {m:Option α} {x:α} (h:Wp m (fun r=>r=x)):m=some x:=by
 obtain ⟨r,h1,rfl⟩:=h;exact h1
theorem zE3 {p q:Ty.El zF} (h:(p.1==q.1&&(p.2.1==q.2.1&&true))=true):p=q:=by
 obtain ⟨a,b,⟨⟩⟩:=p
 obtain ⟨c,d,⟨⟩⟩:=q
 simp only [Bool.and_true,Bool.and_eq_true,beq_iff_eq] at h
 obtain ⟨rfl,rfl⟩:=h
 rfl
def zDe (a b c d:Int):Prop:=a<c∨(a=c∧b<d)
def plt (p q:Ty.El zF):Prop:=zDe p.1 p.2.1 q.1 q.2.1
theorem zFF:Ord plt where
 asym:=fun x y h=>by unfold plt zDe at*;omega
 tr:=fun x y z h1 h2=>by unfold plt zDe at*;omega
theorem zSw {a b c d:Int} (h: ¬zDe c d a b) (hne: ¬(a=c∧b=d)):zDe a b c d:=by
 unfold zDe at*
 omega
theorem zOl {p q:Ty.El zF} (h: ¬plt q p) (hne:p≠q):plt p q:=by
 refine zSw h (fun e=>hne ?_)
 obtain ⟨a,b,⟨⟩⟩:=p
 obtain ⟨c,d,⟨⟩⟩:=q
 obtain ⟨rfl,rfl⟩:=e
 rfl
def zIA (a b c d:Int):Int:=if a<c then-1 else if c<a then 1 else if b<d then-1 else if d<b then 1 else 0
def zWf (p q:Ty.El zF):Int:=zIA p.1 p.2.1 q.1 q.2.1
theorem zOT {a b c d:Int} :zIA a b c d<0↔zDe a b c d:=by
 unfold zIA zDe
 split
 ·omega
 ·split
  ·omega
  ·split
   ·omega
   ·split<;>omega
theorem zIz {p q:Ty.El zF} :zWf p q<0↔plt p q:=zOT
theorem zK9 (a b:Int):wA (a,b,())=some (if a<b then-1 else if b<a then 1 else 0):=by
 refine u4 ?_
 unfold wA yX
 simp only [Option.bind_some,bne_self_eq_false,cond_false]
 refine zI (fun h=>zB ?_) (fun h=>zI (fun h'=>zB ?_) (fun h'=>zB ?_))
 ·rw [if_pos h]
 ·rw [if_neg h,if_pos h']
 ·rw [if_neg h,if_neg h']
theorem zB6 (a b:Int):zY (a,b,())=some (if a<b then-1 else if b<a then 1 else 0):=by
 refine u4 ?_
 unfold zY zBk
 simp only [Option.bind_some,bne_self_eq_false,cond_false]
 refine zI (fun h=>zB ?_) (fun h=>zI (fun h'=>zB ?_) (fun h'=>zB ?_))
 ·rw [if_pos h]
 ·rw [if_neg h,if_pos h']
 ·rw [if_neg h,if_neg h']
theorem zSK {a b c d:Int} :(if ((if a<c then (-1:Int) else if c<a then 1 else 0) !=0)=true then (if a<c then (-1:Int) else if c<a then 1 else 0) else (if b<d then (-1:Int) else if d<b then 1 else 0))=zIA a b c d:=by
 unfold zIA
 by_cases h1:a<c
 ·simp [h1]
 ·by_cases h2:c<a
  ·simp [h1,h2]
  ·simp [h1,h2]
theorem zHI (p q:Ty.El zF):zAU (p,q,())=some (zWf p q):=by
 refine u4 ?_
 unfold zAU
 dsimp only
 refine zC (wD (zK9 _ _) (zH (fun h=>zB ?_) (fun h=>zC (wD (zB6 _ _) (zB ?_)))))
 ·have:=zSK (a:=p.1) (b:=p.2.1) (c:=q.1) (d:=q.2.1)
  rw [if_pos h] at this
  exact this
 ·have:=zSK (a:=p.1) (b:=p.2.1) (c:=q.1) (d:=q.2.1)
  rw [if_neg (by rw [h];simp)] at this
  exact this
theorem zXc {a b c d:Int} (h:zDe a b c d): -1=zIA a b c d:=by
 unfold zIA;unfold zDe at h
 by_cases h1:a<c
 ·rw [if_pos h1]
 ·rw [if_neg h1,if_neg (by omega),if_pos (by omega)]
theorem zXa {a b:Int} :0=zIA a b a b:=by
 unfold zIA
 rw [if_neg (by omega),if_neg (by omega),if_neg (by omega),if_neg (by omega)]
theorem zXb {a b c d:Int} (h: ¬zDe a b c d) (hne: ¬(a=c∧b=d)):1=zIA a b c d:=by
 unfold zIA;unfold zDe at h
 rw [if_neg (by omega)]
 by_cases h1:c<a
 ·rw [if_pos h1]
 ·rw [if_neg h1,if_neg (by omega),if_pos (by omega)]
theorem zCz (p q:Ty.El zF):vJ (p,q,())=some (zWf p q):=by
 refine u4 ?_
 unfold vJ
 dsimp only
 refine zC ((show Wp _ (fun s:Bool=>s=true↔plt p q) from ?_).mono (fun s hs=> ?_))
 ·refine zI (fun h=>zB ⟨fun _=> .inl h,fun _=>rfl⟩) (fun h=>zH (fun h'=>zB ?_) (fun h'=>zB ?_))
  ·have h':p.1=q.1:=by simpa using h'
   rw [decide_eq_true_eq]
   constructor
   ·intro h2;exact .inr ⟨h',h2⟩
   ·intro h2
    rcases h2 with h2|h2
    ·exact absurd h2 h
    ·exact h2.2
  ·have h': ¬p.1=q.1:=by simpa using h'
   constructor
   ·intro h2;cases h2
   ·intro h2
    exfalso
    rcases h2 with h2|h2
    ·exact h h2
    ·exact h' h2.1
 ·refine zH (fun h=>zB (zXc (hs.1 h))) (fun h=>zH (fun he=>zB ?_) (fun he=>zB (zXb ?_ ?_)))
  ·have:=zE3 he
   subst this
   exact zXa
  ·exact fun hp=>by rw [hs.2 hp] at h;cases h
  ·intro e
   have h1:(p.1==q.1)=true:=by simpa using e.1
   have h2:(p.2.1==q.2.1)=true:=by simpa using e.2
   rw [h1,h2] at he
   cases he
def zBJ (p:Ty.El zF) (v:Int) (p':Ty.El zF) (v':Int):Prop:=plt p p'∨(p=p'∧v<v')
theorem zPZ {p q r:Ty.El zF} {u v w:Int} (h1:zBJ p u q v) (h2:zBJ q v r w):zBJ p u r w:=by
 rcases h1 with h1|⟨rfl,h1⟩
 ·rcases h2 with h2|⟨rfl,h2⟩
  ·exact .inl (by unfold plt zDe at*;omega)
  ·exact .inl h1
 ·rcases h2 with h2|⟨rfl,h2⟩
  ·exact .inl h2
  ·exact .inr ⟨rfl,by omega⟩
theorem zUI {p q:Ty.El zF} {u v:Int} (h: ¬zBJ p u q v) (hne: ¬(p=q∧u=v)):zBJ q v p u:=by
 by_cases he:p=q
 ·subst he
  refine .inr ⟨rfl,?_⟩
  have h1: ¬u<v:=fun h'=>h (.inr ⟨rfl,h'⟩)
  have h2: ¬u=v:=fun h'=>hne ⟨rfl,h'⟩
  omega
 ·exact .inl (zOl (fun h'=>h (.inl h')) (fun h'=>he h'.symm))
end Go.Ve
