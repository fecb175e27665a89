/-
  law31: the package bdd, part D.
-/
import Derived.RangeFuncNested
import Derived.RangeFuncBound
import Derived.Shelf.RegionOpen
import Derived.Test.YtaidmnnejapafaaGreatDoorl17
set_option linter.unusedVariables false
namespace Go.Proofs.Bw
open Go Go.Proofs Go.RowKit Go.Shelf
attribute [local go_sem] Oper.semAt_some
theorem zS5 {F:Fence} {n:Nat} {P:Program} {md:Region.Mode} {ops:Array Oper} {Q:Exit→Act→World→Prop} (I:Nat→Array Bool→Act→World→Prop)
  (h0: ∀ls a w,I 0 ls a w→Region.ready md ops ls=[]∧Q .normal a w)
  (h1: ∀k ls a w,I (k+1) ls a w→Region.ready md ops ls≠[]∧ ∀i∈Region.ready md ops ls,wpOpIn F n P ops Q i (I k (ls.setIfInBounds i true)) a w):
  ∀k ls a w,I k ls a w→wpAnyIn F n P md ops Q k ls a w:=by
 intro k
 induction k with
 |zero=>intro ls a w h;exact h0 ls a w h
 |succ k ih=>
  intro ls a w h
  obtain ⟨hn,hi⟩:=h1 k ls a w h
  exact ⟨fun e=>absurd e hn,fun i him=>wpOpIn_mono (ih _) (hi i him)⟩
def zK9:Nat→Code→Option (Array Oper)
 |k, .seq x y=>match zK9 k x with
  |some r=>some r
  |none=>zK9 k y
 |k, .cond _ x y=>match zK9 k x with
  |some r=>some r
  |none=>zK9 k y
 |k, .block _ c=>zK9 k c
 |k, .rangeFunc _ _ a b=>match zK9 k a with
  |some r=>some r
  |none=>zK9 k b
 |k, .region id ops _=>if id=k then some ops else none
 |_,_=>none
noncomputable def zDv:Array Oper:=((Tryz.f9.body.bind (zK9 12)).getD #[])
abbrev tmC (u:Nat→Value) (Bm Bf Bx:Nat) (dec:Int) (t37 t38 t39 t40 t41 t42 t43:Value):Array Value:=
 #[u 0,u 1,u 2, .pointer (some ⟨Bm,0,none⟩),u 4,u 5,u 6,u 7, .pointer (some ⟨Bf,0,none⟩),u 9, .pointer (some ⟨Bx,0,none⟩), .int .i64 dec,u 12,u 13,u 14,u 15,u 16,u 17,u 18,u 19,u 20,u 21,u 22,u 23,u 24,u 25,u 26,u 27,u 28,u 29,u 30,u 31,u 32,u 33,u 34,u 35,u 36,t37,t38,t39,t40,t41,t42,t43,u 44]
def zQY (b0 b1 b2 b3 b4 b5:Bool) (i:Nat):Bool:=
 (i==0&& !b0)||(i==1&& !b1)||(i==2&& !b2)||(i==3&& !b3&&b1&&b2)||(i==4&& !b4)||(i==5&& !b5)||(i==6&&b0&&b3&&b4&&b5)
theorem rdy (b0 b1 b2 b3 b4 b5:Bool):Region.ready .any zDv #[b0,b1,b2,b3,b4,b5,false,false]≠[]∧ ∀i∈Region.ready .any zDv #[b0,b1,b2,b3,b4,b5,false,false],zQY b0 b1 b2 b3 b4 b5 i=true:=by
 have h: ∀b0 b1 b2 b3 b4 b5,((Region.ready .any zDv #[b0,b1,b2,b3,b4,b5,false,false]).isEmpty==false&&(Region.ready .any zDv #[b0,b1,b2,b3,b4,b5,false,false]).all (zQY b0 b1 b2 b3 b4 b5))=true:=by
  intro b0 b1 b2 b3 b4 b5
  cases b0<;>cases b1<;>cases b2<;>cases b3<;>cases b4<;>cases b5<;>kernel_rfl
 have h:=h b0 b1 b2 b3 b4 b5
 generalize Region.ready .any zDv #[b0,b1,b2,b3,b4,b5,false,false]=l at*
 simp only [Bool.and_eq_true,beq_iff_eq,List.all_eq_true] at h
 exact ⟨fun e=>by rw [e] at h;simp at h,h.2⟩
theorem zUy:Region.ready .any zDv #[true,true,true,true,true,true,true,false]=[7]:=by kernel_rfl
theorem zMo {c:Code} {ops:Array Oper} (hc:Tryz.f9.body=some c) (hr:zK9 12 c=some ops):zDv=ops:=by
 unfold zDv
 rw [hc,Option.bind_some,hr]
 rfl
def zUH (u:Nat→Value) (Bm Bf Bx:Nat) (pm:Option Addr) (r:Nat→Value) (dec f:Int) (W0:World) (Box:World→Prop) (PR:Int→World→Prop) (PI:Int→Int→World→Prop) (b0 b1 b2 b3 b4 b5 b6 b7:Bool) (a:Act) (w:World):Prop:=
 ∃t37 t38 t39 t40 t41 t42 t43,a= { tmps:=tmC u Bm Bf Bx dec t37 t38 t39 t40 t41 t42 t43,defers:=[] } ∧
  ((b6=false∧b7=false∧Box w∧(b0=true→t37= .pointer pm)∧(b1=true→t38= .pointer pm)∧(b2=true→t39=zAW r)∧(b4=true→t41= .int .i64 dec)∧(b5=true→t42= .int .i64 f)∧
    (b3=false→w=W0)∧(b3=true→b1=true∧b2=true∧ ∃g,t40= .int .i64 g∧PR g w))∨
   (b0=true∧b1=true∧b2=true∧b3=true∧b4=true∧b5=true∧b6=true∧b7=false∧ ∃g h,t43= .int .i64 h∧PI g h w)∨
   (b0=true∧b1=true∧b2=true∧b3=true∧b4=true∧b5=true∧b6=true∧b7=true∧ ∃g h w',PI g h w'∧w=w'.setCell ⟨Bf,0,none⟩ (.int .i64 h)))
def zUK (u:Nat→Value) (Bm Bf Bx:Nat) (pm:Option Addr) (r:Nat→Value) (dec f:Int) (W0:World) (Box:World→Prop) (PR:Int→World→Prop) (PI:Int→Int→World→Prop) (k:Nat) (ls:Array Bool) (a:Act) (w:World):Prop:=
 ∃b0 b1 b2 b3 b4 b5 b6 b7:Bool,ls= #[b0,b1,b2,b3,b4,b5,b6,b7]∧k=(!b0).toNat+(!b1).toNat+(!b2).toNat+(!b3).toNat+(!b4).toNat+(!b5).toNat+(!b6).toNat+(!b7).toNat∧
  zUH u Bm Bf Bx pm r dec f W0 Box PR PI b0 b1 b2 b3 b4 b5 b6 b7 a w
set_option maxRecDepth 100000 in
set_option maxHeartbeats 4000000 in
theorem zQX (l m:Nat) (u:Nat→Value) (Bm Bf Bx:Nat) (pm:Option Addr) (r:Nat→Value) (dec f:Int) (W0:World)
  (Box:World→Prop) (hbm: ∀w,Box w→w.cell? ⟨Bm,0,none⟩=some (.pointer pm)) (hbx: ∀w,Box w→ ∀i,i<10→w.cell? ⟨Bx,i,none⟩=some (r i)) (hbf: ∀w,Box w→w.cell? ⟨Bf,0,none⟩=some (.int .i64 f)) (h0:Box W0)
  (PR:Int→World→Prop) (hR:Calls Tryz.prog 13 #[.pointer pm,zAW r] W0 fun e w'=> ∃g,e= .returned (.int .i64 g)∧PR g w') (hPR: ∀g w',PR g w'→Box w')
  (PI:Int→Int→World→Prop) (hI: ∀g w,PR g w→Calls Tryz.prog 37 #[.pointer pm, .int .i64 g, .int .i64 dec, .int .i64 f] w fun e w'=> ∃h,e= .returned (.int .i64 h)∧PI g h w')
  (hPI: ∀g h w',PI g h w'→(∃v,w'.cell? ⟨Bf,0,none⟩=some v)∧w'.frozen? ⟨Bf,0,none⟩=false)
  (Q:Exit→Act→World→Prop) (hQ: ∀tm g h w,PI g h w→Q .normal { tmps:=tm,defers:=[] } (w.setCell ⟨Bf,0,none⟩ (.int .i64 h)))
  (t37 t38 t39 t40 t41 t42 t43:Value):
  wpAnyIn (Fence.wide.inRound l) m Tryz.prog .any zDv Q 8 (Array.replicate 8 false) { tmps:=tmC u Bm Bf Bx dec t37 t38 t39 t40 t41 t42 t43,defers:=[] } W0:=by
 have e:zDv=_:=zMo rfl rfl
 have rd:=rdy
 have rd7:=zUy
 rw [e] at rd rd7 ⊢
 refine zS5 (zUK u Bm Bf Bx pm r dec f W0 Box PR PI) ?_ ?_ 8 _ _ _ ?_
 ·rintro ls a w ⟨b0,b1,b2,b3,b4,b5,b6,b7,rfl,hk,t37,t38,t39,t40,t41,t42,t43,rfl,h⟩
  rcases h with ⟨rfl,rfl,h⟩|⟨rfl,rfl,rfl,rfl,rfl,rfl,rfl,rfl,h⟩|⟨rfl,rfl,rfl,rfl,rfl,rfl,rfl,rfl,g,h,w',hp,rfl⟩
  ·simp at hk
  ·simp at hk
  ·exact ⟨by kernel_rfl,hQ _ _ _ _ hp⟩
 ·rintro k ls a w ⟨b0,b1,b2,b3,b4,b5,b6,b7,rfl,hk,t37,t38,t39,t40,t41,t42,t43,rfl,h⟩
  rcases h with ⟨rfl,rfl,hB,h0',h1,h2,h4,h5,h3,h3'⟩|⟨rfl,rfl,rfl,rfl,rfl,rfl,rfl,rfl,g,h,rfl,hp⟩|⟨rfl,rfl,rfl,rfl,rfl,rfl,rfl,rfl,h⟩
  ·refine ⟨(rd b0 b1 b2 b3 b4 b5).1,fun i hi=> ?_⟩
   have hr:=(rd b0 b1 b2 b3 b4 b5).2 i hi
   have cm:=hbm w hB
   have cf:=hbf w hB
   clear hi
   simp only [zQY,Bool.or_eq_true,Bool.and_eq_true,beq_iff_eq,Bool.not_eq_true'] at hr
   rcases hr with (((((⟨rfl,rfl⟩|⟨rfl,rfl⟩)|⟨rfl,rfl⟩)|⟨⟨⟨rfl,rfl⟩,rfl⟩,rfl⟩)|⟨rfl,rfl⟩)|⟨rfl,rfl⟩)|⟨⟨⟨⟨rfl,rfl⟩,rfl⟩,rfl⟩,rfl⟩
   ·refine wpOpIn_step rfl ?_
    intro K hK
    go_simp
    refine hK _ _ ⟨true,b1,b2,b3,b4,b5,false,false,rfl,by simp at hk ⊢;omega,_,_,_,_,_,_,_,rfl, .inl ⟨rfl,rfl,hB,fun _=>rfl,h1,h2,h4,h5,h3,h3'⟩⟩
   ·refine wpOpIn_step rfl ?_
    intro K hK
    go_simp
    refine hK _ _ ⟨b0,true,b2,b3,b4,b5,false,false,rfl,by simp at hk ⊢;omega,_,_,_,_,_,_,_,rfl, .inl ⟨rfl,rfl,hB,h0',fun _=>rfl,h2,h4,h5,h3,fun e=>⟨rfl,(h3' e).2⟩⟩⟩
   ·refine wpOpIn_step rfl ?_
    intro K hK
    have c0:=hbx w hB 0 (by omega)
    have c1:=hbx w hB 1 (by omega)
    have c2:=hbx w hB 2 (by omega)
    have c3:=hbx w hB 3 (by omega)
    have c4:=hbx w hB 4 (by omega)
    have c5:=hbx w hB 5 (by omega)
    have c6:=hbx w hB 6 (by omega)
    have c7:=hbx w hB 7 (by omega)
    have c8:=hbx w hB 8 (by omega)
    have c9:=hbx w hB 9 (by omega)
    go_simp
    refine hK _ _ ⟨b0,b1,true,b3,b4,b5,false,false,rfl,by simp at hk ⊢;omega,_,_,_,_,_,_,_,rfl, .inl ⟨rfl,rfl,hB,h0',h1,fun _=>rfl,h4,h5,h3,fun e=>⟨(h3' e).1,rfl,(h3' e).2.2⟩⟩⟩
   ·refine wpOpIn_step rfl ?_
    intro K hK
    obtain rfl:=h1 rfl
    obtain rfl:=h2 rfl
    obtain rfl:=h3 rfl
    go_simp
    refine ⟨trivial,(fun e=>by cases e),(CallsIn.inRound l (callsIn_wide.2 hR)).mono ?_⟩
    rintro e w' ⟨g,rfl,hg⟩
    refine hK _ _ ⟨b0,true,true,true,b4,b5,false,false,rfl,by simp at hk ⊢;omega,_,_,_,_,_,_,_,rfl, .inl ⟨rfl,rfl,hPR _ _ hg,h0',fun _=>rfl,fun _=>rfl,h4,h5,by simp,fun e=>⟨rfl,rfl,g,rfl,hg⟩⟩⟩
   ·refine wpOpIn_step rfl ?_
    intro K hK
    go_simp
    refine hK _ _ ⟨b0,b1,b2,b3,true,b5,false,false,rfl,by simp at hk ⊢;omega,_,_,_,_,_,_,_,rfl, .inl ⟨rfl,rfl,hB,h0',h1,h2,fun _=>rfl,h5,h3,h3'⟩⟩
   ·refine wpOpIn_step rfl ?_
    intro K hK
    go_simp
    refine hK _ _ ⟨b0,b1,b2,b3,b4,true,false,false,rfl,by simp at hk ⊢;omega,_,_,_,_,_,_,_,rfl, .inl ⟨rfl,rfl,hB,h0',h1,h2,h4,fun _=>rfl,h3,h3'⟩⟩
   ·refine wpOpIn_step rfl ?_
    intro K hK
    obtain rfl:=h0' rfl
    obtain rfl:=h4 rfl
    obtain rfl:=h5 rfl
    obtain ⟨rfl,rfl,g,rfl,hg⟩:=h3' rfl
    have hI:=hI g w hg
    go_simp
    refine ⟨trivial,(fun e=>by cases e),(CallsIn.inRound l (callsIn_wide.2 hI)).mono ?_⟩
    rintro e w' ⟨h,rfl,hh⟩
    refine hK _ _ ⟨true,true,true,true,true,true,true,false,rfl,by simp at hk ⊢;omega,_,_,_,_,_,_,_,rfl, .inr (.inl ⟨rfl,rfl,rfl,rfl,rfl,rfl,rfl,rfl,g,h,rfl,hh⟩)⟩
  ·rw [rd7]
   refine ⟨by simp,fun i hi=> ?_⟩
   obtain ⟨⟨v,hc⟩,hf⟩:=hPI _ _ _ hp
   obtain rfl:i=7:=by simpa using hi
   refine wpOpIn_step rfl ?_
   intro K hK
   go_simp
   refine hK _ _ ⟨true,true,true,true,true,true,true,true,rfl,by simp at hk ⊢;omega,_,_,_,_,_,_,_,rfl, .inr (.inr ⟨rfl,rfl,rfl,rfl,rfl,rfl,rfl,rfl,g,h,w,hp,rfl⟩)⟩
  ·simp at hk
 ·exact ⟨false,false,false,false,false,false,false,false,rfl,rfl,_,_,_,_,_,_,_,rfl, .inl ⟨rfl,rfl,h0,by simp,by simp,by simp,by simp,by simp,fun _=>rfl,by simp⟩⟩
end Go.Proofs.Bw
