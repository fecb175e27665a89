/- law16 -/
import Derived.Test.YtgiopebfjmfmhaaGreatLp24
import Derived.Test.YtgiopebfjmfmhaaGreatLp23
import Derived.Test.YtgiopebfjmfmhaaGreatLp22
import Derived.Test.YtgiopebfjmfmhaaGreatLp14
set_option linter.unusedVariables false
open Option renaming some->Sa,none->Sb
open Option renaming bind->Aa
open Go.Proofs.Tryz renaming prog->Ab
open Go.Value renaming int->Ac
open Go.Builtin renaming append_->Ad
open List renaming replicate->Ae,length->Af
set_option maxRecDepth 1000000
set_option maxHeartbeats 0
namespace Go.Ve
noncomputable section
open Go Go.Proofs
theorem zJh:OkX 216 [zQ,zQ] (.p tI) zMk:=fX [zFD,uV,xP]
theorem xO:OkA 158 [.d zL,.pp vK] (.p .bool) qW:=fA [zTu] (A:=fun _=>Sb) (fn:=Tryz.f158) (by kernel_rfl) (by kernel_rfl) (by rintro⟨⟩ ⟨c,e,⟨⟩⟩;kernel_rfl)
def zDF:Ent:=j9 xO
theorem xN:OkA 160 [.d zC,.pp vK] (.p .bool) jP:=fA [] (A:=fun _=>Sb) (fn:=Tryz.f160) (by kernel_rfl) (by kernel_rfl) (by rintro⟨⟩ ⟨c,e,⟨⟩⟩;kernel_rfl)
def zDE:Ent:=j9 xN
theorem zJT:OkA 225 [.d zL,.pp zD] (.p .bool) u4:=fA [] (A:=fun _=>Sb) (fn:=Tryz.f225) (by kernel_rfl) (by kernel_rfl) (by rintro⟨⟩ ⟨c,e,⟨⟩⟩;kernel_rfl)
def zFl:Ent:=j9 zJT
theorem zD6:OkA 219 [.d (.sl zL),.clo 225 [(true,zD)]] (.p tI) vM:=fA [zFl] (A:=(jl [jj 9 91625948416 [] [.t 8 tI],jj 28 91625968896 [] []])) (fn:=Tryz.f219) (by kernel_rfl) (by kernel_rfl) (by rintro⟨⟩ ⟨c,⟨e,⟨⟩⟩,⟨⟩⟩;kernel_rfl)
def zEH:Ent:=j9 zD6
theorem zCM:OkA 219 [.d (.sl zL),.clo 158 [(true,vK)]] (.p tI) wD:=fA [zDF] (A:=(jl [jj 9 91625948416 [] [.t 8 tI],jj 28 91625968896 [] []])) (fn:=Tryz.f219) (by kernel_rfl) (by kernel_rfl) (by rintro⟨⟩ ⟨c,⟨e,⟨⟩⟩,⟨⟩⟩;kernel_rfl)
def zDo:Ent:=j9 zCM
theorem zCN:OkA 161 [.d (.sl zL),.clo 158 [(true,vK)]] (.p .bool) jL:=fA [zDo] (A:=fun _=>Sb) (fn:=Tryz.f161) (by kernel_rfl) (by kernel_rfl) (by rintro⟨⟩ ⟨c,⟨e,⟨⟩⟩,⟨⟩⟩;kernel_rfl)
theorem zGC:OkA 220 [.d (.sl zC),.clo 160 [(true,vK)]] (.p tI) uB:=fA [zDE] (A:=(jl [jj 9 91625948416 [] [.t 8 tI],jj 28 91625968896 [] []])) (fn:=Tryz.f220) (by kernel_rfl) (by kernel_rfl) (by rintro⟨⟩ ⟨c,⟨e,⟨⟩⟩,⟨⟩⟩;kernel_rfl)
def zHp:Ent:=j9 zGC
theorem zEY:OkA 162 [.d (.sl zC),.clo 160 [(true,vK)]] (.p .bool) wN:=fA [zHp] (A:=fun _=>Sb) (fn:=Tryz.f162) (by kernel_rfl) (by kernel_rfl) (by rintro⟨⟩ ⟨c,⟨e,⟨⟩⟩,⟨⟩⟩;kernel_rfl)
theorem zDd:OkX 172 [(.sl zL),zD] (.p tI) vE:=fX [zEH,zFl]
def zPg:Ent:=j9 zDd
theorem zHf:OkX 42 [zF,tI,tI] (.tu [z6,.bool]) vI:=fX [] [jj 6 0x55555555555550000 [] [.t 33 .bool]]
def zCE:Ent:=j9 zHf
theorem zDc:OkX 40 [zF,tI,tI,tI] (.p .bool) wC:=fX [zUq,zCE] [jj 10 0x15555555555555000010000 [] [.t 8 .bool]]
def zDR:Ent:=j9 zDc
theorem zMf:OkX 12 [zF,tI] (.p (.sl qD)) jD:=fX [zCE,zO9,zDR] [jj 64 0x555555555555555540000000000000037c00400 [] [.o 5 5 qD],jj 41 0x1555555555555555554000000000000037c00400 [] [.t 43 tI,.o 5 5 qD],jj 68 0x1555555555555555555555555400000037cd0400 [] [.o 5 5 qD],jj 25 0x5555555555555555555555555540000037cd0400 [] [.t 27 tI,.o 5 5 qD],jj 72 0x5555555555555555555555555555540037cdd400 [] [.o 5 5 qD],jj 13 0x15555555555555555555555555555554037cdd400 [] [.t 19 tI,.o 5 5 qD],jj 76 0x15555555555555555555555555555555577cdd400 [] [.o 5 5 qD]]
theorem zK3:OkX 37 [zF] (.p (.sl tI)) zBF:=fX [zN0] [jj 17 0x5555400000400 [] [.t 5 tI,.o 4 16 tI],jj 28 0x5555400000500 [] [.o 4 16 tI],jj 73 0x5555555555500000000000000000000100000 [] [.t 10 tI,.o 4 16 tI],jj 60 0x5555555555555000000000000000000140100 [] [.o 4 16 tI],jj 57 0x5555555555555555555000000000000150100 [] [.t 8 tI,.o 4 16 tI],jj 48 0x5555555555555555555000000000000150100 [] [.o 4 16 tI],jj 45 0x5555555555555555555554000000000154100 [] [.t 7 tI,.o 4 16 tI],jj 36 0x5555555555555555555554000000000154100 [] [.o 4 16 tI],jj 33 0x5555555555555555555555550000000155100 [] [.t 6 tI,.o 4 16 tI],jj 84 0x5555555555555555555555550000000155100 [] [.o 4 16 tI]]
def zMy:Ent:=j9 zK3
theorem zNs:OkX 59 [tI] (.p tI) zDY:=fX []
def zXM:Ent:=j9 zNs
theorem zLx:OkX 60 [tI,qD] (.p .bool) yQ:=fX [] [jj 6 0x155555555555555500 [] [.t 4 .bool]]
def zVD:Ent:=j9 zLx
theorem zHM:OkX 26 [tI,(.sl qD),tI] (.p (.sl tI)) jH:=fX [zVD,zXM] [jj 17 96070927988621312 [] [.t 22 tI,.o 7 19 tI],jj 32 96076425546776576 [] [.o 7 19 tI],jj 34 0x555400000000000000 [] [.t 35 .bool,.o 7 19 tI],jj 66 0x55555555554000000000000000000000000 [] [.t 69 .bool,.o 42 19 tI,.o 9 41 .bool,.o 7 19 tI],jj 72 0x155555555555501000000000000001544000 [] [.o 42 19 tI,.o 9 41 .bool,.t 10 tI,.o 7 19 tI],jj 57 0x555555555555551000000000000001544000 [] [.t 44 tI,.o 42 19 tI,.o 9 41 .bool,.t 10 tI,.o 7 19 tI],jj 76 0x555555555555555000000000000001544000 [] [.t 10 tI,.o 7 19 tI,.o 9 41 .bool],jj 102 0x55555000000000000000000000000000000000000000000 [] [.t 93 .bool,.o 7 19 tI,.o 9 41 .bool],jj 110 0x5555555400000000000000000000000000000000000000000000000000 [] [.t 115 .bool,.o 7 19 tI,.o 9 41 .bool],jj 116 0x1555555555555555555500000000000000000000000000000000070044000 [] [.o 7 19 tI,.o 9 41 .bool],jj 93 0x5555555555555555555550000000000000000000000000000000070044000 [] [.t 80 tI,.o 7 19 tI,.o 9 41 .bool],jj 49 0x5555555555555555555555555555555555555555000000000000071545000 [] [.o 7 19 tI,.o 9 41 .bool]]
def yT:List (Ty.El tI)->ElA []->Option (List (Ty.El tI)):=fun c _=>if c.length<1099511627776 then Sa (kP (fun a b:Int=>a==b) c)else Sb
def zCe:ElS [zF,tI]->Option (RTy.El (.p (.sl tI))):=fun x=>match x with
 |(g,f,())=>
  Aa (bif decide (f< (0:Int))then Sa true else Sa (decide (f>=(↑(Af g.1.1):Int)))) fun(m:Bool)=>
   bif m then Sa []
   else
    Aa
     (Aa (idx g.1.1 f) fun(d:Ty.El zG)=>
      zR
       (fun(a:Int×List Int)=>
        bif decide (a.1< (↑(Af d.2.2.1):Int))then
         Aa
          (Aa (idx d.2.2.1 a.1) fun(e:Ty.El z6)=>
           Aa (wC (g,f,a.1,e.2.2.2.2.2.2.1,())) fun(h:Bool)=>
            bif h then Aa (app (8:Nat) a.2 [e.2.2.2.2.2.2.1]) fun(i:List Int)=>Sa i else Sa a.2)
          fun(j:List Int)=>Sa (Sum.inl (IntKind.wrap .i64 (a.1+(1:Int)),j))
        else Sa (Sum.inr a.2))
       ((0:Int),[]))
     fun(c:List Int)=>
     bif Nat.beq (Af c) (Af c)then
      Aa (zAN c ()) fun(k:List Int×Unit)=>Aa (yT k.1 ()) fun(l:List Int)=>Sa l
     else Sb
def zAo:ElS [zF,tI]->Option (RTy.El (.p .bool)):=fun x=>match x with
 |(c,d,())=>
  Aa (zCe (c,d,())) fun(a:List Int)=>
   Aa (bif decide ((↑(Af a):Int)>=(2:Int))then Aa (vZ (a,(0:Int),())) fun(e:Bool)=>Sa e else Sa false)
    fun(f:Bool)=>Sa f
theorem zMg(a:zGy U Ab G0 46 tI (uI []) yT):OkX 15 [zF,tI] (.p (.sl tI)) zCe:=fX [(qHl a),zNX,zDR] [jj 6 22906470400 [] [.t 17 .bool],jj 36 0x55555550000000000d400 [] [.o 5 5 tI],jj 21 0x155555555000000000d400 [] [.t 26 tI,.o 5 5 tI],jj 40 0x155555555555500000d400 [] [.o 5 5 tI]]
theorem zK5(a:zGy U Ab G0 46 tI (uI []) yT):OkX 17 [zF,tI] (.p .bool) zAo:=fX [zDQ,(j9 (zMg a))] [jj 10 1431568640 [] [.t 4 .bool]]
end
end Go.Ve
namespace Go.Ve
open Go Go.Proofs Go.Shelf Go.RowKit Go.Lib Go.Sort
theorem zXx(d:Array Int):flatK (Ty.vals tI) 1 d=d.map (Ac .i64):=by apply Array.ext;all_goals simp_all[Nat.mod_one,flatK,Ty.vals]
theorem qFk(w:World)(b off:Nat)(d:Array Int):putRow (Ac .i64) w b off d=putRowK (Ty.vals tI) 1 w b off d:=by
 unfold putRowK;rw[zXx];unfold putRow;congr 1;funext c;unfold putCells
 grind
theorem qBL{w:World}{b:Nat}{d:Array Int}(h:HoldsK (Ty.vals tI) 1 w b 0 d):Holds (Ac .i64) w b 0 d:=by
 unfold HoldsK at h;rw[zXx]at h;intro j a;have:=h j (by simpa using a)
 grind
def qHa:Ren:=⟨fun f=>if f=43 then 46 else f,fun t=>if t=22 then 25 else if t=23 then 3 else t,fun g=>g⟩
theorem zVn:SlLaysE.n43 Ab qHa where
 mixed:=mixed
 f43:=⟨Tryz.f46.name,by kernel_rfl,by kernel_rfl⟩
 t0:=by kernel_rfl
 a0:=zZ (by kernel_rfl)
 z0:=zK (by kernel_rfl)
 v0:=fun w=>by kernel_rfl
 t3:=by kernel_rfl
 a3:=zZ (by kernel_rfl)
 z3:=zK (by kernel_rfl)
 v3:=fun w=>by kernel_rfl
 t4:=by kernel_rfl
 a4:=zZ (by kernel_rfl)
 z4:=zK (by kernel_rfl)
 v4:=fun w=>by kernel_rfl
 t22:=by kernel_rfl
 a22:=zZ (by kernel_rfl)
 z22:=zK (by kernel_rfl)
 v22:=fun w=>by kernel_rfl
 a23:=zZ (by kernel_rfl)
 z23:=zK (by kernel_rfl)
theorem qGs(a:Option Addr):zOD (Γ:=U) LF G0 (zGU U) 300 14 46 () [.val (.slice a 0 0)]=Sa ((),.p (.val (.slice a 0 0))):=by kernel_rfl
theorem zSa:zGy U Ab G0 46 tI (uI []) (fun xs _=>if xs.length<1099511627776 then Sa (compact xs)else Sb):=by
 intro s xs r x ys k i
 have H:r=[]:=by
  cases r with
  |nil=>rfl
  |cons d r=>cases k
 subst H;simp only at i;split at i
 .rename_i hl;cases i;by_cases l:xs=[]
  .subst l;exact qAF rfl (fun a=>⟨_,(zBc mixed (by kernel_rfl) zCg 388 349 300 14).ok 46,qGs a⟩)
  .refine zAy.of rfl ?_;intro w F O blk v0 m I hG J p K C u D;have L:xs.map (Ty.enc tI)≠[]:=by simpa using l
   rcases p with⟨h,_⟩|⟨_,_,j,y,f⟩
   .grind
   simp only at y f;obtain⟨M,N,Q⟩:=K l
   match m,C with
   |⟨[u0]⟩,_=>
    simp at u;subst u;have z:xs.length<=j:=by obtain⟨_,_,_,_,S,_⟩:=f;simpa using S
    rw[y,aK];have W:=qBL (zOT (t:=tI) rfl f);have g:=AnyE.slices_Compact (P:=Ab) (ρ:=qHa) zVn (Ac .i64) (fun x=>rfl) (EqlAt.intD _ _ .i64) (NeqAt.intD _ _ .i64) (0:Int) (fun w=>by kernel_rfl) blk 0 j xs.toArray w W (by simp;omega) (by simpa using z);simp at g;refine g.mono ?_;rintro e w' ⟨rfl,q,rfl⟩;rw[qFk];have Y:=zPZ xs.toArray xs.length;have E:0<xs.length:=de.2 l;have Z:=zSE xs.toArray E
    have hw:putRowK (Ty.vals tI) (Ty.size tI) (Sort.ahead w q) blk 0 (compactUpTo xs.toArray xs.length++Ae (xs.length- (compactUpTo xs.toArray xs.length).length) (0:Int)).toArray=
      sortWorldK (Ty.vals tI) (Ty.size tI) w blk 0 q (compactUpTo xs.toArray xs.length++Ae (xs.length- (compactUpTo xs.toArray xs.length).length) (0:Int)).toArray #[]:=by
     grind[grow_empty,sortWorldK]
    have G:putRowK (Ty.vals tI) 1 (Sort.ahead w q) blk 0 (compactUpTo xs.toArray xs.length++Ae (xs.length- (compactUpTo xs.toArray xs.length).length) (0:Int)).toArray=_:=hw;rw[G];have A:=zL4 (t:=tI) (F':=F) (n:=q) (os:= #[]) rfl f (d:=(compactUpTo xs.toArray xs.length++Ae (xs.length- (compactUpTo xs.toArray xs.length).length) (0:Int)).toArray) (by simp;omega);simp only[bw]at A;refine⟨_,F,O,rfl,I,⟨rfl,rfl,rfl,?_,?_,?_⟩,fun _ h=>.inl h,zFM.refl _ _,fun c B=>⟨.inl B,?_,(J c B).2⟩,blk,.inl ⟨rfl,fun h=>absurd h l⟩,.inr ⟨?_,trivial,j,?_,zWQ A⟩⟩
    .simp[sortWorldK,putRowK]
    .grind[zMH]
    all_goals grind[List.length_map,sortWorldK,grow,putRowK,putRow,mapBlock,Sort.ahead,compact]
 .cases i
theorem zJf:zGy U Ab G0 46 tI (uI []) yT:=by intro s c r x d e f;refine zSa s c r x d e ?_;show(if c.length<1099511627776 then Sa (compact c)else Sb)=Sa d;have:compact c=kP (fun a b:Int=>a==b) c:=zMD (fun a b=>by simp) _ c rfl;rw[this];exact f
theorem zJO:OkX 17 [zF,tI] (.p .bool) zAo:=zK5 zJf
end Go.Ve
namespace Go.Ve
open Go Go.Proofs Go.Shelf Go.Sort
theorem zRM:OkX 224 [zQ,zQ] (.p tI) v7:=fX [zFD,uV,xP]
theorem zW7:OkX 216 [zQ,zQ] (.p tI) v7:=zJh
theorem zWO(a:Option Addr):zOD (Γ:=U) LF G0 (zGU U) 300 14 176 () [.val (.slice a 0 0),.clo 216 []]=Sa ((),.p (.tup [])):=by kernel_rfl
theorem zWN(a:Option Addr):zOD (Γ:=U) LF G0 (zGU U) 300 14 176 () [.val (.slice a 0 0),.clo 224 []]=Sa ((),.p (.tup [])):=by kernel_rfl
theorem zGA:zCK U Ab G0 176 zQ (uI [.clo 216 []]) (.tu []) zC0:=
 zGg (P:=Ab) (ρ:=zGR) (f:=176) (g:=216) (a:=tI) (b:=.pair tU .unit) rfl zJY rfl (zZ (by kernel_rfl)) (zK (by kernel_rfl)) (c:=v7) zQQ
  (enters_of Tryz.func216 (by kernel_rfl) rfl) zW7 zAA
  (zVS rfl (fun a=>⟨_,(zBc mixed (by kernel_rfl) zCg 388 349 300 14).ok 176,zWO a⟩))
theorem zGB:zCK U Ab G0 176 zQ (uI [.clo 224 []]) (.tu []) uA:=
 zGg (P:=Ab) (ρ:=zGR) (f:=176) (g:=224) (a:=tI) (b:=.pair tU .unit) rfl zJY rfl (zZ (by kernel_rfl)) (zK (by kernel_rfl)) (c:=v7) zQQ
  (enters_of Tryz.func224 (by kernel_rfl) rfl) zRM zAA
  (zVS rfl (fun a=>⟨_,(zBc mixed (by kernel_rfl) zCg 388 349 300 14).ok 176,zWN a⟩))
end Go.Ve
namespace Go.Ve
noncomputable section
open Go Go.Proofs
def zLb:Ent:=j9 zJP
def zHo:Ent:=qEj zGA
theorem zF7:OkX 156 [(.sl zQ),(.sl zQ)] (.p (.sl zQ)) xE:=fX [zEI,zHo,zLb]
def zN2:Ent:=j9 zF7
theorem zJi:zKs U Ab G0 105 wA 0 (uI [.d tI,.d (.sl zQ)]) (.tu []) kF:=
 zZm (fn:=Tryz.f105) (c:=kU Tryz.f105) (S:=qB6 [zN2,zMu]) (A:=(fun _=>Sb)) (zNU _) (by kernel_rfl) (by kernel_rfl) (by kernel_rfl) (by intro e h;cases h) (by rintro⟨⟩ f ⟨g,i,⟨⟩⟩;kernel_rfl)
end
end Go.Ve
namespace Go.Ve
open Go Go.Proofs Go.Shelf Go.RowKit
theorem zTy(p1 p2 c k:Int)(v0:Value)(w:World)(C:World->Prop)(R:Value->World->Prop)(hk:Hid (k<0))
  (hcall:Calls Ab 172 #[v0,.agg #[.int .u32 p1,.int .i64 p2]] (w.alloc (.cells #[.int .u32 p1,.int .i64 p2,.int .i64 c] 133)) fun e w'=>e=.returned (.int .i64 k)/\C w')
  (hbox:Hid (∀w2,C w2->∀i,i<3->w2.cell? ⟨w.heap.size,i,Sb⟩= #[Ac .u32 p1,.int .i64 p2,.int .i64 c][i]?))
  (zNO:Hid (∀w2,C w2->∃u w4,(∀ty,(Ad #[130,130] ty #[v0,.slice (Sa ⟨w2.heap.size,0,Sb⟩) 1 1]).run Ab (w2.alloc (.cells #[.int .u32 p1,.int .i64 p2,.int .i64 c] 133))=.ok u w4)/\R u w4)):
  Calls Ab 111 #[v0,.agg #[.int .u32 p1,.int .i64 p2,.int .i64 c]] w fun e w'=>∃u,e=.returned u/\R u w':=by
 have hk':Hid (decide (k<0)=true):=decide_eq_true hk.out
 go_enter Tryz.func111,Tryz.ntmps111
 go_wp2_with (first|(go_at_call 172;refine hcall.mono ?_;rintro e w' ⟨rfl,hC⟩;have b0:w'.cell? ⟨w.heap.size,0,Sb⟩=Sa (.int .u32 p1):=hbox.out w' hC 0 (by omega);have b1:w'.cell? ⟨w.heap.size,1,Sb⟩=Sa (.int .i64 p2):=hbox.out w' hC 1 (by omega);have b2:w'.cell? ⟨w.heap.size,2,Sb⟩=Sa (.int .i64 c):=hbox.out w' hC 2 (by omega);obtain⟨u,w4,h1,h2⟩:=zNO.out w' hC;have HH:Hid (R u w4):=h2;clear h2)|(at_builtin;refine Lib.wpList_append_run _ rfl _ _ _ _ rfl _ _ rfl rfl _ _ (h1 _) ?_))
 .go_ret
  exact⟨u,rfl,HH.out⟩
 .rename_i h9 _ _;exact absurd hk.out (Int.not_lt.2 h9)
noncomputable def zUF:List (Ty.El zL)->ElA [.d zL]->Option (List (Ty.El zL)):=fun a x=>match x with
 |(e,())=>
  Aa (vE (a,e.1,())) fun(c:Int)=>
   bif decide (c< (0:Int))then Sb
   else
    Aa (idx a c) fun(h:Ty.El zL)=>
     Aa (atN a (Int.toNat c)) fun(f:Ty.El zL)=>
      Aa (idx a c) fun(i:Ty.El zL)=>
       Aa (atN a (Int.toNat c)) fun(g:Ty.El zL)=>
        Sa (List.set a (Int.toNat c) (g.1,if e.2.1<f.2.1 then e.2.1 else f.2.1,()))
theorem zVg:zGy U Ab G0 111 zL (uI [.d zL]) zUF:=
 zZn (fn:=Tryz.f111) (c:=kU Tryz.f111) (S:=qB6 [zPg]) (A:=fun _=>Sb) (zNU _) (by kernel_rfl) (by kernel_rfl) (by rintro⟨⟩ e ⟨f,⟨⟩⟩;kernel_rfl)
theorem qHH{w:World}{F:Blk->Prop}{v x y:Value}(h:Rd w F v (.agg [.val x,.val y])):v=.agg #[x,y]:=by
 cases h with
 |agg c g d h=>
  obtain⟨l⟩:=c
  match l,d with
  |[a,b],_=>have e:=Rd.eq_val (h 0 a _ rfl rfl);have f:=Rd.eq_val (h 1 b _ rfl rfl);subst e f;rfl
theorem qHG{w:World}{F:Blk->Prop}{v x y z:Value}(h:Rd w F v (.agg [.val x,.val y,.val z])):v=.agg #[x,y,z]:=by
 cases h with
 |agg d f e h=>
  obtain⟨l⟩:=d
  match l,e with
  |[a,b,c],_=>
   have g:=Rd.eq_val (h 0 a _ rfl rfl);have i:=Rd.eq_val (h 1 b _ rfl rfl);have j:=Rd.eq_val (h 2 c _ rfl rfl)
   grind
theorem zZg:(Tryz.prog.info? 133).map (fun i=>(i.zero.map (fun z=>z.cells.size),i.size,i.bytes))=Sa (Sa zL.size,zL.size,24):=by kernel_rfl
theorem zVZ{xs:List (Ty.El zL)}{a:Ty.El zL}{k:Int}(hf:vE (xs,a.1,())=Sa k)(hk:k<0)(b1:(2*(xs.length+1)+1024)*24<=0x800000000000){r:List V}
  (hx:uI [.d zL] r=Sa (a,())):zUH U Ab G0 111 () zL xs r () (xs++[a]) .bot:=by
 intro w F O b L Q S hG hF W ad a4 b2 a5;have ax:=zAJ [.d zL] r (a,()) hx;have b3:r.length=1:=ax.len
 obtain⟨vx,rfl⟩:∃vx,Q= #[L,vx]:=by
  obtain⟨l⟩:=Q;have hl:l.length=2:=by grind
  match l,hl with
  |[y,z],_=>
   grind
 have a6:Rd w F vx (zL.enc a):=ax.get 0 (r[0]'(by omega)) (zL.enc a) (by simp) rfl w F vx (a5 0 vx _ rfl (by simp));obtain rfl:=qHG a6;obtain⟨⟨G,H,u1⟩,c,u2⟩:=a;have b4:∀c,¬O c:=S.1;have ay:NoK F:=S.2;generalize J:Obj.cells #[Ac .u32 G,.int .i64 H,.int .i64 c] 133 (0,0)=f;have K:∀c,c<w.heap.size->(w.alloc f).heap[c]?=w.heap[c]? :=fun c B=>by show(w.heap.push f)[c]?=_;grind
 have bo:(w.alloc f).heap.size=w.heap.size+1:=ca ..
 have ag:(w.alloc f).heap[w.heap.size]?=Sa f:=zBi (w:=w);let β:Lay:=⟨fun _=>b,fun _=>b⟩
 let al:v6->Prop:=fun q=>q=.o 0/\xs≠[];let F1:Blk->Prop:=Fal F β al
 have b5:∀c:Nat,F1 c->c<w.heap.size:=by
  rintro c (B|⟨q,⟨rfl,C⟩,hq⟩)
  .exact(hF c B).1
  .have:b=c:=by cases hq;rfl
   grind
 have a0:NoK F1:=ay.of (fun x hx=>⟨fun h=>h.elim (fun h=>h) (fun⟨_,_,h⟩=>by subst h;cases hx),.inl⟩)
 have hT:zY (w.alloc f) F β al L (.ot 0 zL xs):=by
  rcases W with⟨I,M⟩|⟨I,_,an,M,h3⟩
  .exact .inl ⟨I,M⟩
  .have C:xs≠[]:=fun D=>I (by rw[D];rfl);exact .inr ⟨I,⟨rfl,C⟩,an,M,h3.mono (fun _ h=>h) (fun c B=>K c (hF c B).1) (K b (ad C).1)⟩
 have b6:Rd (w.alloc f) F1 L (.tl zL xs):=(zKm (Γ:=U) (e:=start 0 () []) (fun s cs _ D=>by cases D.1) hT rfl).1
 have a9:=zDd (w.alloc f) F1 (fun _=>False) () #[L,.agg #[.int .u32 G,.int .i64 H]] [.tl zL xs,zD.enc (G,H,())] () (RTy.res (.p tI) k) ⟨fun _ h=>h,a0⟩
  (fun g cs hg=>by cases hg) (fun c B=>⟨by grind,fun h=>h⟩) rfl
  (fun i x d E Y=>by
   match i with
   |0=>grind
   |1=>
    simp at E Y;subst E Y
    exact .agg _ _ rfl (fun i x d E Y=>by
     match i with
     |0=>simp at E Y;subst E;cases Y;exact .val _
     |1=>simp at E Y;subst E;cases Y;exact .val _
     |i+2=>simp at E)
   |i+2=>simp at E)
  (by
   have Y:zBv [(.sl zL),zD] [.tl zL xs,zD.enc (G,H,())]=Sa (xs,(G,H,()),()):=zBu [(.sl zL),zD] (xs,(G,H,()),())
   simp_all[vE,z7,qQ,vR])
 have hN:∀n,xC (fun _=>False) (w.alloc f) n->∀c,c<w.heap.size->(n.alloc f).heap[c]?=w.heap[c]? :=fun n A c B=>by
  have Z:c<n.heap.size:=by have:=A.size;omega
  show(n.heap.push f)[c]?=_;rw[cE Z,<-aD Z,A.block c (by omega) (fun h=>h)];exact K c B
 have bb:=zTy G H c k L w (fun n=>xC (fun _=>False) (w.alloc f) n)
  (fun u w4=>∃(F':Blk->Prop) (O':Nat->Prop),U.R () F' O' w4/\xC (fun c=>O c\/(xs≠[]/\c=b)) w w4/\(∀c,O' c->O c\/w.heap.size<=c)/\zFM w.heap.size F F'/\
   (∀c:Nat,F' c->(F c\/w.heap.size<=c)/\c<w4.heap.size/\¬O' c)/\zCt w.heap.size w4 F' O' b L zL xs (xs++[((G,H,u1),c,u2)]) u .bot) hk
  (by
   rw[J];refine a9.mono ?_;rintro e w' ⟨v,F',O',rfl,g1,g2,g3,g4,g5,g6⟩;have hv:v=.int .i64 k:=Rd.eq_val g6
   grind)
  (fun n A i E=>by
   have h5:n.heap[w.heap.size]?=Sa f:=(A.block _ (by omega) (fun h=>h)).trans ag
   grind[World.cell?])
  (fun n A=>by
   have cc:=A.size;have bs:(n.alloc f).heap.size=n.heap.size+1:=ca ..
   have ao:(n.alloc f).heap[n.heap.size]?=Sa f:=zBi (w:=n);let F2:Blk->Prop:=fun x=>F x\/x=.b n.heap.size;have ab:∀x:Blk,x.isB=false->(F2 x↔F x):=fun x hx=>⟨fun h=>h.elim (fun h=>h) (fun h=>by subst h;cases hx),.inl⟩
   have cf:∀(v:Value) (d:V),Rd w F v d->Rd (n.alloc f) F2 v d:=fun v d h=>h.mono (fun _ D=>.inl D) (fun c B=>hN n A c (hF c B).1)
   have ap:zB8 (n.alloc f) F2 ⟨fun _=>b,fun _=>b⟩ (fun _=>True) L 0 zL.size (xs.map zL.enc):=by
    rcases W with⟨I,M⟩|⟨I,M,an,h3,h4⟩
    .exact .inl ⟨I,M⟩
    .have C:xs≠[]:=fun D=>I (by rw[D];rfl);exact .inr ⟨I,M,an,h3,h4.mono (fun _ D=>.inl D) (fun c B=>hN n A c (hF c B).1) (hN n A b (ad C).1)⟩
   have a1:Rd (n.alloc f) F2 (.slice (Sa ⟨n.heap.size,0,Sb⟩) 1 1) (.tl zL [((G,H,u1),c,u2)]):=by
    refine .tl _ _ _ (Rd.sl n.heap.size 0 1 3 [zL.enc ((G,H,u1),c,u2)] (fun m=>(#[Ac .u32 G,.int .i64 H,.int .i64 c][m]?).getD undef) (.inr rfl) (ai _) ?_ ?_ ?_)
    .intro e he;rw[aM.1 he,wZ];rfl
    .intro m hm;have hm:m<3:=hm;have ch:(n.alloc f).heap[n.heap.size]?=Sa (.cells #[Ac .u32 G,.int .i64 H,.int .i64 c] 133 (0,0)):=ao.trans (congrArg Sa J.symm)
     grind[World.cell?]
    .intro i j e d E hj
     match i with
     |0=>
      cases E
      match j with
      |0=>cases hj;exact .val _
      |1=>cases hj;exact .val _
      |2=>cases hj;exact .val _
      |j+3=>simp[V.cells,Ty.enc,Ty.cells]at hj
     |i+1=>simp at E
   obtain⟨i0,z,bd,be,a2,b0,bk⟩:∃(i0:TypeInfo) (z:Value),Tryz.prog.info? 133=Sa i0/\i0.zero=Sa z/\i0.size=zL.size/\i0.bytes=24/\z.cells.size=zL.size:=by
    have h:=zZg
    cases E:Tryz.prog.info? 133 with
    |none=>grind
    |some i0=>simp_all
   have zNO:∀N,∃u w',(Ad #[130,130] N #[L,.slice (Sa ⟨n.heap.size,0,Sb⟩) 1 1]).run Ab (n.alloc f)=.ok u w'/\_:=fun N=>
    zZ0 (P:=Ab) (ts:= #[130,130]) (ty:=N) (t0:=130) (t1:=130) (el:=133) (el1:=133) rfl rfl (by kernel_rfl) (by kernel_rfl) bd be a2.symm (by omega) (by rw[bk,a2]) (by grind) ap
     (fun C=>⟨by grind,fun D=>D.elim (ad C).2.1 (fun D=>by grind)⟩)
     (fun c B=>B.elim (fun B=>by grind) (fun B=>by cases B;omega)) a1
   have bn:∀N,(Ad #[130,130] N #[L,.slice (Sa ⟨n.heap.size,0,Sb⟩) 1 1]).run Ab (n.alloc f)=(Ad #[130,130] 130 #[L,.slice (Sa ⟨n.heap.size,0,Sb⟩) 1 1]).run Ab (n.alloc f):=fun N=>rfl;obtain⟨u,w4,a3,t,b',cl,av⟩:=zNO 130;rw[J];refine⟨u,w4,fun N=>(bn N).trans a3,F2,fun _=>False,⟨fun _ h=>h,ay.of ab⟩,⟨?_,?_,?_,?_,?_,?_⟩,fun c h=>h.elim,.of_reg (fun x hx=>.inl hx) ab,?_,b',?_,av⟩
   .exact t.os.trans A.os
   .exact t.tape.trans A.tape
   .exact t.output.trans A.output
   .have:=t.size;omega
   .intro c B hn;rw[t.block c (by omega) (fun D=>hn (.inr D))]
    grind
   .have I:=t.drawn;have M:=A.drawn;exact aj M I
   .have I:=t.size
    grind
   grind)
 grind
theorem zJj:zGy U Ab G0 111 zL (uI [.d zL]) jC:=by
 intro s e r x g i c;obtain⟨a,⟨⟩⟩:=x;simp only[jC]at c
 cases j:vE (e,a.1,())with
 |none=>grind
 |some k=>
  rw[j]at c;by_cases h:k<0
  .have c:(bif decide (k<0)then app (24:Nat) e [a]else _)=Sa g:=c;rw[decide_eq_true h]at c;have c:app (24:Nat) e [a]=Sa g:=c;unfold app at c;split at c
   .rename_i m;cases c;exact .of (zKh _ r _ i) (zVZ j h (by simpa using m) i)
   .cases c
  .refine zVg s e r (a,()) g i ?_;have c:(bif decide (k<0)then app (24:Nat) e [a]else Aa (idx e k) fun y=>Sa (e.set k.toNat (y.1,(bif decide (a.2.1<y.2.1)then a.2.1 else y.2.1),())))=Sa g:=c;rw[decide_eq_false h]at c;have c:(Aa (idx e k) fun y=>Sa (e.set k.toNat (y.1,(bif decide (a.2.1<y.2.1)then a.2.1 else y.2.1),())))=Sa g:=c
   cases f:idx e k with
   |none=>grind
   |some y=>
    rw[f]at c
    have l:atN e k.toNat=Sa y:=by
     unfold idx at f;split at f
     .exact f
     .cases f
    simp only[zUF,j,af,decide_eq_false h,cond_false,f,l]
    grind
end Go.Ve
