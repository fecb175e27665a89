/-
  law31: functions of header, predicate and the laws' helpers, out of code.
  law31: contracts of these functions.
  law31: the sanity check and the laws on tables, out of code.
  law31: contracts of the sanity check and the laws on tables.
  law31: the checks of a router, rules of access lists, out of code.
  law31: contracts of the checks.
  law31: the laws on rules, out of code.
  law31: contracts of the laws on rules.
  law31, in plain Lean: what the operations on one manager come to, by what numbers denote.
-/
import Derived.Test.YtaidmnnejapafaaGreatDoorl22
import Derived.Test.YtaidmnnejapafaaGreatDoorl1
set_option linter.unusedVariables false
namespace Go.Ve
open Go Go.Proofs Go.Bd Go.Proofs.Bw
noncomputable def zBu:ElS [tI]→Option (RTy.El (.p tI)):=fun x=>match x with
 |(a1,())=>
  some (if (if (32:Int)<a1 then (32:Int) else a1)>(0:Int) then if (32:Int)<a1 then (32:Int) else a1 else (0:Int))
noncomputable def yW:ElS [tI]→Option (RTy.El (.p tU)):=fun x=>match x with
 |(a1,())=>
  Option.bind (zBu (a1,())) fun (y0:Int)=>
   bif decide ((0:Int)≤IntKind.wrap IntKind.i64 ((32:Int) -y0)) then
    some (IntKind.wrap IntKind.u32 ((4294967295:Int)*(2:Int)^min (Int.toNat (IntKind.wrap IntKind.i64 ((32:Int) -y0))) (IntKind.bits IntKind.u32)))
   else none
noncomputable def jZ:ElS [zI]→Option (RTy.El (.p .bool)):=fun x=>match x with
 |(a1,())=>
  Option.bind
   (bif decide (a1.2.1≥(0:Int)) then
    bif decide (a1.2.1≤(32:Int)) then
     Option.bind (yW (a1.2.1,())) fun (y2:Int)=>
      some (IntKind.wrap IntKind.u32 (↑(BitVec.toNat (BitVec.ofInt (IntKind.bits IntKind.u32) a1.1&&& ~~~BitVec.ofInt (IntKind.bits IntKind.u32) y2)):Int)==(0:Int))
    else some false
   else some false)
   fun (s3:Bool)=>some s3
noncomputable def jT:MSt→ElS [.hd,tI, .bool,zCj]→Option (MSt×RTy.El (.p tI)):=fun st0 x=>match x with
 |(a1,a2,a3,a4,())=>
  Option.bind (bif a2 !=(0:Int) then some (a2 !=(1:Int),st0) else some (false,st0)) fun (s0:Bool×MSt)=>
   bif s0.1 then some (s0.2,(-1:Int))
   else
    Option.bind
     (Option.bind (zN (a2,())) fun (y25:Int)=>
      zM
       (fun (s26:Int×Int×MSt)=>
        bif decide (s26.1≥(0:Int)) then
         Option.bind
          (Option.bind (zN (a2,())) fun (y27:Int)=>
           bif decide ((0:Int)≤IntKind.wrap IntKind.i64 (IntKind.wrap IntKind.i64 (y27- (1:Int)) -s26.1)) then
            bif
              IntKind.wrap IntKind.u32
                (↑(BitVec.toNat
                   (BitVec.ofInt (IntKind.bits IntKind.u32)
                     (Int.fdiv a4.2.1
                      ((2:Int)^
                        min (Int.toNat (IntKind.wrap IntKind.i64 (IntKind.wrap IntKind.i64 (y27- (1:Int)) -s26.1))) (IntKind.bits IntKind.u32)))&&&
                    BitVec.ofInt (IntKind.bits IntKind.u32) (1:Int))):
                 Int)==
               (1:Int) then
             some s26.2
            else
             Option.bind (jX (a2,s26.1,a3,())) fun (y28:Int)=>
              Option.bind (zEQ s26.2.2 (a1,y28,())) fun (y29:MSt×Int)=>
               Option.bind
                (bif decide ((0:Int)≤IntKind.wrap IntKind.i64 (IntKind.wrap IntKind.i64 (y27- (1:Int)) -s26.1)) then
                 bif
                   IntKind.wrap IntKind.u32
                     (↑(BitVec.toNat
                        (BitVec.ofInt (IntKind.bits IntKind.u32)
                          (Int.fdiv a4.1
                           ((2:Int)^
                             min (Int.toNat (IntKind.wrap IntKind.i64 (IntKind.wrap IntKind.i64 (y27- (1:Int)) -s26.1)))
                              (IntKind.bits IntKind.u32)))&&&
                         BitVec.ofInt (IntKind.bits IntKind.u32) (1:Int))):
                      Int)==
                    (0:Int) then
                  Option.bind (kR y29.1 (a1,y29.2,())) fun (y30:MSt×Int)=>some (y30.2,y30.1)
                 else some (y29.2,y29.1)
                else none)
                fun (s31:Int×MSt)=>Option.bind (qP s31.2 (a1,s31.1,s26.2.1,())) fun (y32:MSt×Int)=>some (y32.2,y32.1)
           else none)
          fun (s33:Int×MSt)=>some (Sum.inl (IntKind.wrap IntKind.i64 (s26.1- (1:Int)),s33))
        else some (Sum.inr s26.2))
       (IntKind.wrap IntKind.i64 (y25- (1:Int)),(1:Int),s0.2))
     fun (s34:Int×MSt)=>some (s34.2,s34.1)
noncomputable def jY:MSt→ElS [.hd,tI, .bool,zI]→Option (MSt×RTy.El (.p tI)):=fun st0 x=>match x with
 |(a1,a2,a3,a4,())=>
  Option.bind (jZ (a4,())) fun (y0:Bool)=>
   bif !y0 then some (st0,(-1:Int))
   else
    Option.bind (yW (a4.2.1,())) fun (y3:Int)=>
     Option.bind
      (jT st0
       (a1,a2,a3,
        (a4.1,
         IntKind.wrap IntKind.u32
          (↑(BitVec.toNat
             (BitVec.ofInt (IntKind.bits IntKind.u32) (if IntKind.signed IntKind.u32=true then (-1:Int) else IntKind.max IntKind.u32)^^^
              BitVec.ofInt (IntKind.bits IntKind.u32) y3)):
           Int),
         ()),
        ()))
      fun (y4:MSt×Int)=>some (y4.1,y4.2)
noncomputable def j5:ElA [.d tI, .pp (.sl zH)]→Option (RTy.El (.p .bool)):=fun x=>match x with
 |(a1,a2,())=>
  Option.bind (idx a2 a1) fun (y0:Ty.El zH)=>some y0.2.2.1
noncomputable def vH:MSt→ElA [.d .hd, .d (.sl zH), .clo 49 [(true,(.sl zH))]]→Option (MSt×RTy.El (.tu [tI,tI])):=fun st0 x=>match x with
 |(a1,a2,(a3,()),())=>
  Option.bind
   (zM
    (fun (s55:Int×Int×Int×MSt)=>
     bif decide (s55.1≥(0:Int)) then
      Option.bind
       (zM
        (fun (s56:Int×Int×Int×MSt)=>
         bif decide (s56.1< (↑(List.length a2):Int)) then
          Option.bind
           (Option.bind (idx a2 s56.1) fun (y57:Ty.El zH)=>
            bif y57.1.2.1 !=s55.1 then some s56.2
            else
             Option.bind (jY s56.2.2.2 (a1,(1:Int),false,y57.1,())) fun (y58:MSt×Int)=>
              Option.bind
               (Option.bind (j5 (s56.1,a3,())) fun (y59:Bool)=>
                bif y59 then
                 Option.bind (qP y58.1 (a1,s56.2.2.1,y58.2,())) fun (y60:MSt×Int)=>
                  Option.bind (xT y60.1 (a1,s56.2.1,y60.2,())) fun (y61:MSt×Int)=>some (y61.2,y61.1)
                else some (s56.2.1,y58.1))
               fun (s62:Int×MSt)=>
               Option.bind (kR s62.2 (a1,y58.2,())) fun (y63:MSt×Int)=>
                Option.bind (qP y63.1 (a1,s56.2.2.1,y63.2,())) fun (y64:MSt×Int)=>some (s62.1,y64.2,y64.1))
           fun (s65:Int×Int×MSt)=>some (Sum.inl (IntKind.wrap IntKind.i64 (s56.1+(1:Int)),s65))
         else some (Sum.inr s56.2))
        ((0:Int),s55.2))
       fun (s66:Int×Int×MSt)=>some (Sum.inl (IntKind.wrap IntKind.i64 (s55.1- (1:Int)),s66))
     else some (Sum.inr s55.2))
    ((32:Int),(0:Int),(1:Int),st0))
   fun (s67:Int×Int×MSt)=>some (s67.2.2,s67.1,s67.2.1,())
noncomputable def wN:ElA [.d tI, .pp (.sl zH)]→Option (RTy.El (.p .bool)):=fun x=>match x with
 |(a1,a2,())=>
  Option.bind
   (Option.bind (idx a2 a1) fun (y2:Ty.El zH)=>
    bif !y2.2.2.1 then Option.bind (idx a2 a1) fun (y3:Ty.El zH)=>some ((↑(List.length y3.2.1):Int)==(0:Int)) else some false)
   fun (s4:Bool)=>some s4
noncomputable def vG:MSt→ElA [.d .hd, .d (.sl zH), .clo 50 [(true,(.sl zH))]]→Option (MSt×RTy.El (.tu [tI,tI])):=fun st0 x=>match x with
 |(a1,a2,(a3,()),())=>
  Option.bind
   (zM
    (fun (s55:Int×Int×Int×MSt)=>
     bif decide (s55.1≥(0:Int)) then
      Option.bind
       (zM
        (fun (s56:Int×Int×Int×MSt)=>
         bif decide (s56.1< (↑(List.length a2):Int)) then
          Option.bind
           (Option.bind (idx a2 s56.1) fun (y57:Ty.El zH)=>
            bif y57.1.2.1 !=s55.1 then some s56.2
            else
             Option.bind (jY s56.2.2.2 (a1,(1:Int),false,y57.1,())) fun (y58:MSt×Int)=>
              Option.bind
               (Option.bind (wN (s56.1,a3,())) fun (y59:Bool)=>
                bif y59 then
                 Option.bind (qP y58.1 (a1,s56.2.2.1,y58.2,())) fun (y60:MSt×Int)=>
                  Option.bind (xT y60.1 (a1,s56.2.1,y60.2,())) fun (y61:MSt×Int)=>some (y61.2,y61.1)
                else some (s56.2.1,y58.1))
               fun (s62:Int×MSt)=>
               Option.bind (kR s62.2 (a1,y58.2,())) fun (y63:MSt×Int)=>
                Option.bind (qP y63.1 (a1,s56.2.2.1,y63.2,())) fun (y64:MSt×Int)=>some (s62.1,y64.2,y64.1))
           fun (s65:Int×Int×MSt)=>some (Sum.inl (IntKind.wrap IntKind.i64 (s56.1+(1:Int)),s65))
         else some (Sum.inr s56.2))
        ((0:Int),s55.2))
       fun (s66:Int×Int×MSt)=>some (Sum.inl (IntKind.wrap IntKind.i64 (s55.1- (1:Int)),s66))
     else some (Sum.inr s55.2))
    ((32:Int),(0:Int),(1:Int),st0))
   fun (s67:Int×Int×MSt)=>some (s67.2.2,s67.1,s67.2.1,())
noncomputable def uG:ElS [(.sl zAF),zAF]→Option (RTy.El (.p tI)):=fun x=>match x with
 |(a1,a2,())=>
  kI
   (zM
    (fun (s5:Int)=>
     bif decide (s5< (↑(List.length a1):Int)) then
      Option.bind (idx a1 s5) fun (y6:Ty.El zAF)=>
       bif a2.1==y6.1&&(a2.2.1==y6.2.1&&true) then some (Sum.inr (Sum.inr s5)) else some (Sum.inl (IntKind.wrap IntKind.i64 (s5+(1:Int))))
     else some (Sum.inr (Sum.inl ())))
    (0:Int))
   fun (s7:Unit)=>some (-1:Int)
noncomputable def vN:ElS [(.sl zAF),zAF]→Option (RTy.El (.p .bool)):=fun x=>match x with
 |(a1,a2,())=>
  Option.bind (uG (a1,a2,())) fun (y0:Int)=>some (decide (y0≥(0:Int)))
noncomputable def vO:ElA [.d tI, .pp (.sl zH), .pp zAF]→Option (RTy.El (.p .bool)):=fun x=>match x with
 |(a1,a2,a3,())=>
  Option.bind
   (Option.bind (idx a2 a1) fun (y6:Ty.El zH)=>
    bif !y6.2.2.1 then Option.bind (idx a2 a1) fun (y7:Ty.El zH)=>Option.bind (vN (y7.2.1,a3,())) fun (y8:Bool)=>some y8 else some false)
   fun (s9:Bool)=>some s9
noncomputable def vF:MSt→ElA [.d .hd, .d (.sl zH), .clo 45 [(true,(.sl zH)),(true,zAF)]]→Option (MSt×RTy.El (.tu [tI,tI])):=fun st0 x=>match x with
 |(a1,a2,(a3,a4,()),())=>
  Option.bind
   (zM
    (fun (s55:Int×Int×Int×MSt)=>
     bif decide (s55.1≥(0:Int)) then
      Option.bind
       (zM
        (fun (s56:Int×Int×Int×MSt)=>
         bif decide (s56.1< (↑(List.length a2):Int)) then
          Option.bind
           (Option.bind (idx a2 s56.1) fun (y57:Ty.El zH)=>
            bif y57.1.2.1 !=s55.1 then some s56.2
            else
             Option.bind (jY s56.2.2.2 (a1,(1:Int),false,y57.1,())) fun (y58:MSt×Int)=>
              Option.bind
               (Option.bind (vO (s56.1,a3,a4,())) fun (y59:Bool)=>
                bif y59 then
                 Option.bind (qP y58.1 (a1,s56.2.2.1,y58.2,())) fun (y60:MSt×Int)=>
                  Option.bind (xT y60.1 (a1,s56.2.1,y60.2,())) fun (y61:MSt×Int)=>some (y61.2,y61.1)
                else some (s56.2.1,y58.1))
               fun (s62:Int×MSt)=>
               Option.bind (kR s62.2 (a1,y58.2,())) fun (y63:MSt×Int)=>
                Option.bind (qP y63.1 (a1,s56.2.2.1,y63.2,())) fun (y64:MSt×Int)=>some (s62.1,y64.2,y64.1))
           fun (s65:Int×Int×MSt)=>some (Sum.inl (IntKind.wrap IntKind.i64 (s56.1+(1:Int)),s65))
         else some (Sum.inr s56.2))
        ((0:Int),s55.2))
       fun (s66:Int×Int×MSt)=>some (Sum.inl (IntKind.wrap IntKind.i64 (s55.1- (1:Int)),s66))
     else some (Sum.inr s55.2))
    ((32:Int),(0:Int),(1:Int),st0))
   fun (s67:Int×Int×MSt)=>some (s67.2.2,s67.1,s67.2.1,())
noncomputable def kE:MSt→ElS [.hd,(.sl zH),zAF]→Option (MSt×RTy.El (.p tI)):=fun st0 x=>match x with
 |(a1,a2,a3,())=>
  Option.bind (vF st0 (a1,a2,(a2,a3,()),())) fun (y0:MSt×Int×Int×Unit)=>some (y0.1,y0.2.1)
noncomputable def wO:MSt→ElS [.hd,(.sl zH)]→Option (MSt×RTy.El (.p tI)):=fun st0 x=>match x with
 |(a1,a2,())=>
  Option.bind (vH st0 (a1,a2,(a2,()),())) fun (y0:MSt×Int×Int×Unit)=>some (y0.1,y0.2.1)
noncomputable def wZ:MSt→ElS [.hd,(.sl zH)]→Option (MSt×RTy.El (.p tI)):=fun st0 x=>match x with
 |(a1,a2,())=>
  Option.bind (vG st0 (a1,a2,(a2,()),())) fun (y0:MSt×Int×Int×Unit)=>
   Option.bind (xT y0.1 (a1,y0.2.1,y0.2.2.1,())) fun (y1:MSt×Int)=>some (y1.1,y1.2)
noncomputable def xK:MSt→ElS [.hd,tI, .bool,tU,tU]→Option (MSt×RTy.El (.p tI)):=fun st0 x=>match x with
 |(a1,a2,a3,a4,a5,())=>
  Option.bind (zN (a2,())) fun (y0:Int)=>
   bif y0==(0:Int) then some (st0,(-1:Int))
   else
    bif decide ((0:Int)≤y0) then
     Option.bind
      (bif decide (a4>a5) then some (true,st0)
      else some (decide (a4>IntKind.wrap IntKind.u32 (IntKind.wrap IntKind.u32 ((1:Int)*(2:Int)^min (Int.toNat y0) (IntKind.bits IntKind.u32)) - (1:Int))),st0))
      fun (s1:Bool×MSt)=>
      bif s1.1 then some (s1.2,(0:Int))
      else
       Option.bind
        (zM
         (fun (s35:Int×Int×Int×MSt)=>
          bif decide (s35.1≥(0:Int)) then
           Option.bind
            (Option.bind (jX (a2,s35.1,a3,())) fun (y36:Int)=>
             Option.bind (zEQ s35.2.2.2 (a1,y36,())) fun (y37:MSt×Int)=>
              Option.bind
               (bif decide ((0:Int)≤IntKind.wrap IntKind.i64 (IntKind.wrap IntKind.i64 (y0- (1:Int)) -s35.1)) then
                bif
                  IntKind.wrap IntKind.u32
                    (↑(BitVec.toNat
                       (BitVec.ofInt (IntKind.bits IntKind.u32)
                         (Int.fdiv a4
                          ((2:Int)^
                            min (Int.toNat (IntKind.wrap IntKind.i64 (IntKind.wrap IntKind.i64 (y0- (1:Int)) -s35.1))) (IntKind.bits IntKind.u32)))&&&
                        BitVec.ofInt (IntKind.bits IntKind.u32) (1:Int))):
                     Int)==
                   (1:Int) then
                 Option.bind (qP y37.1 (a1,y37.2,s35.2.1,())) fun (y38:MSt×Int)=>some (y38.2,y38.1)
                else Option.bind (xT y37.1 (a1,y37.2,s35.2.1,())) fun (y39:MSt×Int)=>some (y39.2,y39.1)
               else none)
               fun (s40:Int×MSt)=>
               bif decide ((0:Int)≤IntKind.wrap IntKind.i64 (IntKind.wrap IntKind.i64 (y0- (1:Int)) -s35.1)) then
                bif
                  IntKind.wrap IntKind.u32
                    (↑(BitVec.toNat
                       (BitVec.ofInt (IntKind.bits IntKind.u32)
                         (Int.fdiv
                          (if
                            IntKind.wrap IntKind.u32
                              (IntKind.wrap IntKind.u32 ((1:Int)*(2:Int)^min (Int.toNat y0) (IntKind.bits IntKind.u32)) - (1:Int))<
                             a5 then
                           IntKind.wrap IntKind.u32
                            (IntKind.wrap IntKind.u32 ((1:Int)*(2:Int)^min (Int.toNat y0) (IntKind.bits IntKind.u32)) - (1:Int))
                          else a5)
                          ((2:Int)^
                            min (Int.toNat (IntKind.wrap IntKind.i64 (IntKind.wrap IntKind.i64 (y0- (1:Int)) -s35.1))) (IntKind.bits IntKind.u32)))&&&
                        BitVec.ofInt (IntKind.bits IntKind.u32) (1:Int))):
                     Int)==
                   (1:Int) then
                 Option.bind (kR s40.2 (a1,y37.2,())) fun (y41:MSt×Int)=>
                  Option.bind (xT y41.1 (a1,y41.2,s35.2.2.1,())) fun (y42:MSt×Int)=>some (s40.1,y42.2,y42.1)
                else
                 Option.bind (kR s40.2 (a1,y37.2,())) fun (y43:MSt×Int)=>
                  Option.bind (qP y43.1 (a1,y43.2,s35.2.2.1,())) fun (y44:MSt×Int)=>some (s40.1,y44.2,y44.1)
               else none)
            fun (s45:Int×Int×MSt)=>some (Sum.inl (IntKind.wrap IntKind.i64 (s35.1- (1:Int)),s45))
          else some (Sum.inr s35.2))
         (IntKind.wrap IntKind.i64 (y0- (1:Int)),(1:Int),(1:Int),s1.2))
        fun (s46:Int×Int×MSt)=>Option.bind (qP s46.2.2 (a1,s46.1,s46.2.1,())) fun (y47:MSt×Int)=>some (y47.1,y47.2)
    else none
noncomputable def jG:MSt→ElS [.hd,tI,tI,tI]→Option (MSt×RTy.El (.p tI)):=fun st0 x=>match x with
 |(a1,a2,a3,a4,())=>
  bif decide ((if (0:Int)>a3 then (0:Int) else a3)>if (65535:Int)<a4 then (65535:Int) else a4) then some (st0,(0:Int))
  else
   Option.bind
    (xK st0
     (a1,a2,false,IntKind.wrap IntKind.u32 (if (0:Int)>a3 then (0:Int) else a3),IntKind.wrap IntKind.u32 (if (65535:Int)<a4 then (65535:Int) else a4),()))
    fun (y0:MSt×Int)=>some (y0.1,y0.2)
noncomputable def wD:MSt→ElS [.hd,qY]→Option (MSt×RTy.El (.p tI)):=fun st0 x=>match x with
 |(a1,a2,())=>
  Option.bind (jT st0 (a1,(0:Int),false,a2.2.2.1,())) fun (y3:MSt×Int)=>
   Option.bind (jT y3.1 (a1,(1:Int),false,a2.2.2.2.1,())) fun (y4:MSt×Int)=>
    Option.bind (qP y4.1 (a1,y3.2,y4.2,())) fun (y5:MSt×Int)=>
     Option.bind
      (bif a2.2.1 !=(-1:Int) then
       Option.bind (jG y5.1 (a1,(2:Int),a2.2.1,a2.2.1,())) fun (y8:MSt×Int)=>
        Option.bind (qP y8.1 (a1,y5.2,y8.2,())) fun (y9:MSt×Int)=>some (y9.2,y9.1)
      else some (y5.2,y5.1))
      fun (s10:Int×MSt)=>
      Option.bind (jG s10.2 (a1,(3:Int),a2.2.2.2.2.1.1,a2.2.2.2.2.1.2.1,())) fun (y11:MSt×Int)=>
       Option.bind (qP y11.1 (a1,s10.1,y11.2,())) fun (y12:MSt×Int)=>
        Option.bind (jG y12.1 (a1,(4:Int),a2.2.2.2.2.2.1.1,a2.2.2.2.2.2.1.2.1,()))
         fun (y13:MSt×Int)=>Option.bind (qP y13.1 (a1,y12.2,y13.2,())) fun (y14:MSt×Int)=>some (y14.1,y14.2)
noncomputable def zD4:ElS [tI]→Option (RTy.El (.p tI)):=fun x=>match x with
 |(a1,())=>
  Option.bind (bif decide (a1< (0:Int)) then some true else some (decide (a1≥(12:Int)))) fun (s0:Bool)=>bif s0 then some (-1:Int) else some a1
noncomputable def zCb:ElS [qM]→Option (RTy.El (.p (.pair tU (.pair tU (.pair tU zCj))))):=fun x=>match x with
 |(a1,())=>
  some (a1.1,a1.2.1,IntKind.wrap IntKind.u32 a1.2.2.1,IntKind.wrap IntKind.u32 a1.2.2.2.1,IntKind.wrap IntKind.u32 a1.2.2.2.2.1,())
noncomputable def zBo:List (Ty.El .bool)→ElA [.d qM, .d .bool]→Option (List (Ty.El .bool)×RTy.El (.tu [])):=fun a0 x=>match x with
 |(a1,a2,())=>
  Option.bind (zCb (a1,())) fun (y0:Int×Int×Int×Ty.El zCj)=>
   Option.bind
    (Option.bind (zN ((0:Int),())) fun (y12:Int)=>
     zM
      (fun (s13:Int×List Bool)=>
       bif decide (s13.1<y12) then
        Option.bind (jX ((0:Int),s13.1,a2,())) fun (y14:Int)=>
         Option.bind (zN ((0:Int),())) fun (y15:Int)=>
          bif decide ((0:Int)≤IntKind.wrap IntKind.i64 (IntKind.wrap IntKind.i64 (y15- (1:Int)) -s13.1)) then
           Option.bind (idx s13.2 y14) fun (y16:Bool)=>
            Option.bind (atN s13.2 (Int.toNat y14)) fun (y17:Bool)=>
             some
              (Sum.inl
               (IntKind.wrap IntKind.i64 (s13.1+(1:Int)),
                List.set s13.2 (Int.toNat y14)
                 (IntKind.wrap IntKind.u32
                   (↑(BitVec.toNat
                      (BitVec.ofInt (IntKind.bits IntKind.u32)
                        (Int.fdiv y0.1
                         ((2:Int)^
                           min (Int.toNat (IntKind.wrap IntKind.i64 (IntKind.wrap IntKind.i64 (y15- (1:Int)) -s13.1))) (IntKind.bits IntKind.u32)))&&&
                       BitVec.ofInt (IntKind.bits IntKind.u32) (1:Int))):
                    Int)==
                  (1:Int))))
          else none
       else some (Sum.inr s13.2))
      ((0:Int),a0))
    fun (s18:List Bool)=>
    Option.bind
     (Option.bind (zN (IntKind.wrap IntKind.i64 ((0:Int)+(1:Int)),())) fun (y19:Int)=>
      zM
       (fun (s20:Int×List Bool)=>
        bif decide (s20.1<y19) then
         Option.bind (jX (IntKind.wrap IntKind.i64 ((0:Int)+(1:Int)),s20.1,a2,())) fun (y21:Int)=>
          Option.bind (zN (IntKind.wrap IntKind.i64 ((0:Int)+(1:Int)),())) fun (y22:Int)=>
           bif decide ((0:Int)≤IntKind.wrap IntKind.i64 (IntKind.wrap IntKind.i64 (y22- (1:Int)) -s20.1)) then
            Option.bind (idx s20.2 y21) fun (y23:Bool)=>
             Option.bind (atN s20.2 (Int.toNat y21)) fun (y24:Bool)=>
              some
               (Sum.inl
                (IntKind.wrap IntKind.i64 (s20.1+(1:Int)),
                 List.set s20.2 (Int.toNat y21)
                  (IntKind.wrap IntKind.u32
                    (↑(BitVec.toNat
                       (BitVec.ofInt (IntKind.bits IntKind.u32)
                         (Int.fdiv y0.2.1
                          ((2:Int)^
                            min (Int.toNat (IntKind.wrap IntKind.i64 (IntKind.wrap IntKind.i64 (y22- (1:Int)) -s20.1))) (IntKind.bits IntKind.u32)))&&&
                        BitVec.ofInt (IntKind.bits IntKind.u32) (1:Int))):
                     Int)==
                   (1:Int))))
           else none
        else some (Sum.inr s20.2))
       ((0:Int),s18))
     fun (s25:List Bool)=>
     Option.bind
      (Option.bind (zN (IntKind.wrap IntKind.i64 (IntKind.wrap IntKind.i64 ((0:Int)+(1:Int))+(1:Int)),())) fun (y26:Int)=>
       zM
        (fun (s27:Int×List Bool)=>
         bif decide (s27.1<y26) then
          Option.bind (jX (IntKind.wrap IntKind.i64 (IntKind.wrap IntKind.i64 ((0:Int)+(1:Int))+(1:Int)),s27.1,a2,())) fun (y28:Int)=>
           Option.bind (zN (IntKind.wrap IntKind.i64 (IntKind.wrap IntKind.i64 ((0:Int)+(1:Int))+(1:Int)),())) fun (y29:Int)=>
            bif decide ((0:Int)≤IntKind.wrap IntKind.i64 (IntKind.wrap IntKind.i64 (y29- (1:Int)) -s27.1)) then
             Option.bind (idx s27.2 y28) fun (y30:Bool)=>
              Option.bind (atN s27.2 (Int.toNat y28)) fun (y31:Bool)=>
               some
                (Sum.inl
                 (IntKind.wrap IntKind.i64 (s27.1+(1:Int)),
                  List.set s27.2 (Int.toNat y28)
                   (IntKind.wrap IntKind.u32
                     (↑(BitVec.toNat
                        (BitVec.ofInt (IntKind.bits IntKind.u32)
                          (Int.fdiv y0.2.2.1
                           ((2:Int)^
                             min (Int.toNat (IntKind.wrap IntKind.i64 (IntKind.wrap IntKind.i64 (y29- (1:Int)) -s27.1)))
                              (IntKind.bits IntKind.u32)))&&&
                         BitVec.ofInt (IntKind.bits IntKind.u32) (1:Int))):
                      Int)==
                    (1:Int))))
            else none
         else some (Sum.inr s27.2))
        ((0:Int),s25))
      fun (s32:List Bool)=>
      Option.bind
       (Option.bind (zN (IntKind.wrap IntKind.i64 (IntKind.wrap IntKind.i64 (IntKind.wrap IntKind.i64 ((0:Int)+(1:Int))+(1:Int))+(1:Int)),()))
        fun (y33:Int)=>
        zM
         (fun (s34:Int×List Bool)=>
          bif decide (s34.1<y33) then
           Option.bind
            (jX (IntKind.wrap IntKind.i64 (IntKind.wrap IntKind.i64 (IntKind.wrap IntKind.i64 ((0:Int)+(1:Int))+(1:Int))+(1:Int)),s34.1,a2,()))
            fun (y35:Int)=>
            Option.bind (zN (IntKind.wrap IntKind.i64 (IntKind.wrap IntKind.i64 (IntKind.wrap IntKind.i64 ((0:Int)+(1:Int))+(1:Int))+(1:Int)),()))
             fun (y36:Int)=>
             bif decide ((0:Int)≤IntKind.wrap IntKind.i64 (IntKind.wrap IntKind.i64 (y36- (1:Int)) -s34.1)) then
              Option.bind (idx s34.2 y35) fun (y37:Bool)=>
               Option.bind (atN s34.2 (Int.toNat y35)) fun (y38:Bool)=>
                some
                 (Sum.inl
                  (IntKind.wrap IntKind.i64 (s34.1+(1:Int)),
                   List.set s34.2 (Int.toNat y35)
                    (IntKind.wrap IntKind.u32
                      (↑(BitVec.toNat
                         (BitVec.ofInt (IntKind.bits IntKind.u32)
                           (Int.fdiv y0.2.2.2.1
                            ((2:Int)^
                              min (Int.toNat (IntKind.wrap IntKind.i64 (IntKind.wrap IntKind.i64 (y36- (1:Int)) -s34.1)))
                               (IntKind.bits IntKind.u32)))&&&
                          BitVec.ofInt (IntKind.bits IntKind.u32) (1:Int))):
                       Int)==
                     (1:Int))))
             else none
          else some (Sum.inr s34.2))
         ((0:Int),s32))
       fun (s39:List Bool)=>
       Option.bind
        (Option.bind
         (zN
          (IntKind.wrap IntKind.i64
            (IntKind.wrap IntKind.i64 (IntKind.wrap IntKind.i64 (IntKind.wrap IntKind.i64 ((0:Int)+(1:Int))+(1:Int))+(1:Int))+(1:Int)),
           ()))
         fun (y40:Int)=>
         zM
          (fun (s41:Int×List Bool)=>
           bif decide (s41.1<y40) then
            Option.bind
             (jX
              (IntKind.wrap IntKind.i64
                (IntKind.wrap IntKind.i64 (IntKind.wrap IntKind.i64 (IntKind.wrap IntKind.i64 ((0:Int)+(1:Int))+(1:Int))+(1:Int))+(1:Int)),
               s41.1,a2,()))
             fun (y42:Int)=>
             Option.bind
              (zN
               (IntKind.wrap IntKind.i64
                 (IntKind.wrap IntKind.i64 (IntKind.wrap IntKind.i64 (IntKind.wrap IntKind.i64 ((0:Int)+(1:Int))+(1:Int))+(1:Int))+(1:Int)),
                ()))
              fun (y43:Int)=>
              bif decide ((0:Int)≤IntKind.wrap IntKind.i64 (IntKind.wrap IntKind.i64 (y43- (1:Int)) -s41.1)) then
               Option.bind (idx s41.2 y42) fun (y44:Bool)=>
                Option.bind (atN s41.2 (Int.toNat y42)) fun (y45:Bool)=>
                 some
                  (Sum.inl
                   (IntKind.wrap IntKind.i64 (s41.1+(1:Int)),
                    List.set s41.2 (Int.toNat y42)
                     (IntKind.wrap IntKind.u32
                       (↑(BitVec.toNat
                          (BitVec.ofInt (IntKind.bits IntKind.u32)
                            (Int.fdiv y0.2.2.2.2.1
                             ((2:Int)^
                               min (Int.toNat (IntKind.wrap IntKind.i64 (IntKind.wrap IntKind.i64 (y43- (1:Int)) -s41.1)))
                                (IntKind.bits IntKind.u32)))&&&
                           BitVec.ofInt (IntKind.bits IntKind.u32) (1:Int))):
                        Int)==
                      (1:Int))))
              else none
           else some (Sum.inr s41.2))
          ((0:Int),s39))
        fun (s46:List Bool)=>bif Nat.beq (List.length s46) (List.length a0) then some (s46,()) else none
noncomputable def zAq:ElS [(.sl tI),qM,qM]→Option (RTy.El (.p (.sl .bool))):=fun x=>match x with
 |(a1,a2,a3,())=>
  Option.bind
   (zM
    (fun (s26:Int×List Bool)=>
     bif decide (s26.1< (↑(List.length a1):Int)) then
      Option.bind
       (Option.bind (idx a1 s26.1) fun (y27:Int)=>
        Option.bind (zD4 (y27,())) fun (y28:Int)=>
         bif decide (y28≥(0:Int)) then
          Option.bind (idx s26.2 y27) fun (y29:Bool)=>Option.bind (atN s26.2 (Int.toNat y27)) fun (y30:Bool)=>some (List.set s26.2 (Int.toNat y27) true)
         else some s26.2)
       fun (s31:List Bool)=>some (Sum.inl (IntKind.wrap IntKind.i64 (s26.1+(1:Int)),s31))
     else some (Sum.inr s26.2))
    ((0:Int),
      [false,false,false,false,false,false,false,false,false,false,false,false,false,false,false,false,false,false,false,false,false,false,false,false,
       false,false,false,false,false,false,false,false,false,false,false,false,false,false,false,false,false,false,false,false,false,false,false,false,
       false,false,false,false,false,false,false,false,false,false,false,false,false,false,false,false,false,false,false,false,false,false,false,false,
       false,false,false,false,false,false,false,false,false,false,false,false,false,false,false,false,false,false,false,false,false,false,false,false,
       false,false,false,false,false,false,false,false,false,false,false,false,false,false,false,false,false,false,false,false,false,false,false,false,
       false,false,false,false,false,false,false,false,false,false,false,false,false,false,false,false,false,false,false,false,false,false,false,false,
       false,false,false,false,false,false,false,false,false,false,false,false,false,false,false,false,false,false,false,false,false,false,false,false,
       false,false,false,false,false,false,false,false,false,false,false,false,false,false,false,false,false,false,false,false,false,false,false,false,
       false,false,false,false,false,false,false,false,false,false,false,false,false,false,false,false,false,false,false,false,false,false,false,false,
       false,false,false,false]))
   fun (s32:List Bool)=>
   bif Nat.beq (List.length s32) (List.length s32) then
    Option.bind (zBo s32 (a2,false,())) fun (y33:List Bool×Unit)=>
     bif Nat.beq (List.length y33.1) (List.length y33.1)&&Nat.beq (List.length y33.1) (List.length y33.1) then
      Option.bind (zBo y33.1 (a3,true,())) fun (y34:List Bool×Unit)=>some y34.1
     else none
   else none
noncomputable def zA2:MSt→ElS [.hd,tI,qM]→Option (MSt×RTy.El (.p .bool)):=fun st0 x=>match x with
 |(a1,a2,a3,())=>
  Option.bind (zAq ([],a3,((0:Int),(0:Int),(0:Int),(0:Int),(0:Int),()),())) fun (y0:List Bool)=>
   Option.bind
    (zJJ
     st0
     (a1,a2,y0,()))
    fun (y1:MSt×Bool)=>some (y1.1,y1.2)
noncomputable def yB:ElS [zI,tU]→Option (RTy.El (.p .bool)):=fun x=>match x with
 |(a1,a2,())=>
  Option.bind (yW (a1.2.1,())) fun (y1:Int)=>
   some (IntKind.wrap IntKind.u32 (↑(BitVec.toNat (BitVec.ofInt (IntKind.bits IntKind.u32) a2&&&BitVec.ofInt (IntKind.bits IntKind.u32) y1)):Int)==a1.1)
noncomputable def jO:ElS [zBj,tI]→Option (RTy.El (.p .bool)):=fun x=>match x with
 |(a1,a2,())=>
  Option.bind (bif decide (a1.1≤a2) then some (decide (a2≤a1.2.1)) else some false) fun (s0:Bool)=>some s0
noncomputable def yF:ElS [qM]→Option (RTy.El (.p .bool)):=fun x=>match x with
 |(a1,())=>
  Option.bind
   (bif decide ((0:Int)≤a1.2.2.1) then
    bif decide (a1.2.2.1≤(255:Int)) then
     Option.bind (jO (((0:Int),(65535:Int),()),a1.2.2.2.1,())) fun (y2:Bool)=>
      bif y2 then Option.bind (jO (((0:Int),(65535:Int),()),a1.2.2.2.2.1,())) fun (y3:Bool)=>some y3 else some false
    else some false
   else some false)
   fun (s4:Bool)=>some s4
noncomputable def zBP:ElS []→Option (RTy.El (.p zCj)):=fun x=>match x with
 |()=>
  some ((0:Int),(4294967295:Int),())
noncomputable def zED:ElS []→Option (RTy.El (.p zBj)):=fun x=>match x with
 |()=>
  some ((0:Int),(65535:Int),())
noncomputable def xL:MSt→ElS []→Option (MSt×RTy.El (.p .hd)):=fun st0 x=>match x with
 |()=>
  Option.bind (zKQ st0 ((220:Int),())) fun (y0:MSt×Nat)=>some (y0.1,y0.2)
end Go.Ve

namespace Go.Ve
open Go Go.Proofs Go.Bd Go.Proofs.Bw
set_option maxRecDepth 1000000
set_option maxHeartbeats 0
theorem zJ5:OkX 88 [tI] (.p tI) zBu:=fX [] (A:=fun _=>none) (fn:=Tryz.f88) (by kernel_rfl) (by kernel_rfl) (by rintro ⟨⟩ ⟨a1,⟨⟩⟩;kernel_rfl)
noncomputable def zGK:Ent:=jJ (by kernel_rfl) zJ5
theorem zGu:OkX 87 [tI] (.p tU) yW:=fX [zGK] (A:=fun _=>none) (fn:=Tryz.f87) (by kernel_rfl) (by kernel_rfl) (by rintro ⟨⟩ ⟨a1,⟨⟩⟩;kernel_rfl)
noncomputable def zEg:Ent:=jJ (by kernel_rfl) zGu
theorem zE9:OkX 60 [zI] (.p .bool) jZ:=fX [zEg] (A:=(jl [jj 6 366503875920 [] [.t 2 .bool]])) (fn:=Tryz.f60) (by kernel_rfl) (by kernel_rfl) (by rintro ⟨⟩ ⟨a1,⟨⟩⟩;kernel_rfl)
noncomputable def zA7:Ent:=jJ (by kernel_rfl) zE9
theorem zFy:OkH 42 [.hd,tI, .bool,zCj] (.p tI) jT:=
 fH [zBb,zBa,zKO,(zC8 (by kernel_rfl) (by kernel_rfl) zCa),(zC8 (by kernel_rfl) (by kernel_rfl) zAH)] (A:=[jj 6 91603599360 [] [.t 18 .bool, .st],jj 48 6760777410799738362560040140800 [] [.t 12 tI, .st],jj 24 1730765619511609208008965588516864 [] [.t 9 tI, .st],jj 21 1730765619511609209504301403340800 [] [.t 10 tI, .t 9 tI, .st],jj 52 1730765619511609209510073839386624 [] [.t 9 tI, .st]]) (fn:=Tryz.f42) (by kernel_rfl) (by kernel_rfl) (by kernel_rfl) (by rintro st0 ⟨a1,a2,a3,a4,⟨⟩⟩;kernel_rfl)
noncomputable def zBU:xX:=zBq (by kernel_rfl) zFy
theorem zHj:OkH 82 [.hd,tI, .bool,zI] (.p tI) jY:=
 fH [zBU,(zC8 (by kernel_rfl) (by kernel_rfl) zGu),(zC8 (by kernel_rfl) (by kernel_rfl) zE9)] (A:=[]) (fn:=Tryz.f82) (by kernel_rfl) (by kernel_rfl) (by kernel_rfl) (by rintro st0 ⟨a1,a2,a3,a4,⟨⟩⟩;kernel_rfl)
noncomputable def zAL:xX:=zBq (by kernel_rfl) zHj
theorem uR:OkA 49 [.d tI, .pp (.sl zH)] (.p .bool) j5:=fA [] (A:=fun _=>none) (fn:=Tryz.f49) (by kernel_rfl) (by kernel_rfl) (by rintro ⟨⟩ ⟨a1,a2,⟨⟩⟩;kernel_rfl)
theorem zBE:zTb 44 [.d .hd, .d (.sl zH), .clo 49 [(true,(.sl zH))]] (.tu [tI,tI]) vH:=
 fHA [(zC8 (by kernel_rfl) (by kernel_rfl) uR),zBa,zEf,zBb,zAL] (A:=[jj 48 6447598222363331028586496 [] [.t 6 tI, .st],jj 52 26409387504754778831351730176 [] [.t 6 tI, .t 7 tI, .st],jj 25 105637550019019116768493064192 [] [.t 18 tI, .t 6 tI, .t 7 tI, .st],jj 16 105637550019019116789967900672 [] [.t 6 tI, .t 7 tI, .st],jj 13 105637550019019116791394029568 [] [.t 8 tI, .t 6 tI, .t 7 tI, .st],jj 56 105637550019019116791394029568 [] [.t 6 tI, .t 7 tI, .st]]) (fn:=Tryz.f44) (by kernel_rfl) (by kernel_rfl) (by kernel_rfl) (by rintro st0 ⟨a1,a2,⟨a3,⟨⟩⟩,⟨⟩⟩;kernel_rfl)
noncomputable def vL:xX:=zBq (by kernel_rfl) zBE
theorem u6:OkA 50 [.d tI, .pp (.sl zH)] (.p .bool) wN:=fA [] (A:=(jl [jj 6 91625968960 [] [.t 3 .bool]])) (fn:=Tryz.f50) (by kernel_rfl) (by kernel_rfl) (by rintro ⟨⟩ ⟨a1,a2,⟨⟩⟩;kernel_rfl)
theorem zBD:zTb 44 [.d .hd, .d (.sl zH), .clo 50 [(true,(.sl zH))]] (.tu [tI,tI]) vG:=
 fHA [(zC8 (by kernel_rfl) (by kernel_rfl) u6),zBa,zEf,zBb,zAL] (A:=[jj 48 6447598222363331028586496 [] [.t 6 tI, .st],jj 52 26409387504754778831351730176 [] [.t 6 tI, .t 7 tI, .st],jj 25 105637550019019116768493064192 [] [.t 18 tI, .t 6 tI, .t 7 tI, .st],jj 16 105637550019019116789967900672 [] [.t 6 tI, .t 7 tI, .st],jj 13 105637550019019116791394029568 [] [.t 8 tI, .t 6 tI, .t 7 tI, .st],jj 56 105637550019019116791394029568 [] [.t 6 tI, .t 7 tI, .st]]) (fn:=Tryz.f44) (by kernel_rfl) (by kernel_rfl) (by kernel_rfl) (by rintro st0 ⟨a1,a2,⟨a3,⟨⟩⟩,⟨⟩⟩;kernel_rfl)
noncomputable def vK:xX:=zBq (by kernel_rfl) zBD
theorem zEV:OkX 83 [(.sl zAF),zAF] (.p tI) uG:=fX [] (A:=(jl [jj 9 91625948416 [] [.t 8 tI],jj 28 91625968896 [] []])) (fn:=Tryz.f83) (by kernel_rfl) (by kernel_rfl) (by rintro ⟨⟩ ⟨a1,a2,⟨⟩⟩;kernel_rfl)
noncomputable def zFN:Ent:=jJ (by kernel_rfl) zEV
theorem zCX:OkX 46 [(.sl zAF),zAF] (.p .bool) vN:=fX [zFN] (A:=fun _=>none) (fn:=Tryz.f46) (by kernel_rfl) (by kernel_rfl) (by rintro ⟨⟩ ⟨a1,a2,⟨⟩⟩;kernel_rfl)
noncomputable def zDK:Ent:=jJ (by kernel_rfl) zCX
theorem xH:OkA 45 [.d tI, .pp (.sl zH), .pp zAF] (.p .bool) vO:=fA [zDK] (A:=(jl [jj 6 366503875840 [] [.t 4 .bool]])) (fn:=Tryz.f45) (by kernel_rfl) (by kernel_rfl) (by rintro ⟨⟩ ⟨a1,a2,a3,⟨⟩⟩;kernel_rfl)
theorem zBC:zTb 44 [.d .hd, .d (.sl zH), .clo 45 [(true,(.sl zH)),(true,zAF)]] (.tu [tI,tI]) vF:=
 fHA [(zC8 (by kernel_rfl) (by kernel_rfl) xH),zBa,zEf,zBb,zAL] (A:=[jj 48 6447598222363331028586496 [] [.t 6 tI, .st],jj 52 26409387504754778831351730176 [] [.t 6 tI, .t 7 tI, .st],jj 25 105637550019019116768493064192 [] [.t 18 tI, .t 6 tI, .t 7 tI, .st],jj 16 105637550019019116789967900672 [] [.t 6 tI, .t 7 tI, .st],jj 13 105637550019019116791394029568 [] [.t 8 tI, .t 6 tI, .t 7 tI, .st],jj 56 105637550019019116791394029568 [] [.t 6 tI, .t 7 tI, .st]]) (fn:=Tryz.f44) (by kernel_rfl) (by kernel_rfl) (by kernel_rfl) (by rintro st0 ⟨a1,a2,⟨a3,a4,⟨⟩⟩,⟨⟩⟩;kernel_rfl)
noncomputable def vJ:xX:=zBq (by kernel_rfl) zBC
theorem zEX:OkH 16 [.hd,(.sl zH),zAF] (.p tI) kE:=
 fH [vJ,vK,vL,(zC8 (by kernel_rfl) (by kernel_rfl) xH)] (A:=[]) (fn:=Tryz.f16) (by kernel_rfl) (by kernel_rfl) (by kernel_rfl) (by rintro st0 ⟨a1,a2,a3,⟨⟩⟩;kernel_rfl)
noncomputable def zFP:xX:=zBq (by kernel_rfl) zEX
theorem zCY:OkH 18 [.hd,(.sl zH)] (.p tI) wO:=
 fH [vJ,vK,vL,(zC8 (by kernel_rfl) (by kernel_rfl) uR)] (A:=[]) (fn:=Tryz.f18) (by kernel_rfl) (by kernel_rfl) (by kernel_rfl) (by rintro st0 ⟨a1,a2,⟨⟩⟩;kernel_rfl)
noncomputable def zDL:xX:=zBq (by kernel_rfl) zCY
theorem zDD:OkH 20 [.hd,(.sl zH)] (.p tI) wZ:=
 fH [zEf,vJ,vK,vL,(zC8 (by kernel_rfl) (by kernel_rfl) u6)] (A:=[]) (fn:=Tryz.f20) (by kernel_rfl) (by kernel_rfl) (by kernel_rfl) (by rintro st0 ⟨a1,a2,⟨⟩⟩;kernel_rfl)
noncomputable def zEa:xX:=zBq (by kernel_rfl) zDD
theorem zH8:OkH 81 [.hd,tI, .bool,tU,tU] (.p tI) xK:=
 fH [zBa,zEf,zBb,zKO,(zC8 (by kernel_rfl) (by kernel_rfl) zCa),(zC8 (by kernel_rfl) (by kernel_rfl) zAH)] (A:=[jj 22 24595283464977121280 [] [.t 32 .bool, .st],jj 68 453709815800448083400609335260007628800 [] [.t 13 tI, .st],jj 44 7794675399098148897086312660215804826831185510400 [] [.t 13 tI, .t 14 tI, .st],jj 41 7794675399098148897086319082634221529549749878784 [] [.t 15 tI, .t 13 tI, .t 14 tI, .st],jj 80 7794675399098148897086319106246053943897975947264 [] [.t 13 tI, .t 14 tI, .st]]) (fn:=Tryz.f81) (by kernel_rfl) (by kernel_rfl) (by kernel_rfl) (by rintro st0 ⟨a1,a2,a3,a4,a5,⟨⟩⟩;kernel_rfl)
noncomputable def zJA:xX:=zBq (by kernel_rfl) zH8
theorem zEW:OkH 43 [.hd,tI,tI,tI] (.p tI) jG:=
 fH [zJA] (A:=[]) (fn:=Tryz.f43) (by kernel_rfl) (by kernel_rfl) (by kernel_rfl) (by rintro st0 ⟨a1,a2,a3,a4,⟨⟩⟩;kernel_rfl)
noncomputable def zFO:xX:=zBq (by kernel_rfl) zEW
theorem zBN:OkH 13 [.hd,qY] (.p tI) wD:=
 fH [zFO,zBb,zBU] (A:=[jj 16 24019196580987904 [] [.t 5 tI, .st]]) (fn:=Tryz.f13) (by kernel_rfl) (by kernel_rfl) (by kernel_rfl) (by rintro st0 ⟨a1,a2,⟨⟩⟩;kernel_rfl)
noncomputable def zHC:xX:=zBq (by kernel_rfl) zBN
theorem zGt:OkX 75 [tI] (.p tI) zD4:=fX [] (A:=(jl [jj 6 87360 [] [.t 8 .bool]])) (fn:=Tryz.f75) (by kernel_rfl) (by kernel_rfl) (by rintro ⟨⟩ ⟨a1,⟨⟩⟩;kernel_rfl)
noncomputable def zHE:Ent:=jJ (by kernel_rfl) zGt
theorem zHi:OkX 99 [qM] (.p (.pair tU (.pair tU (.pair tU zCj)))) zCb:=fX [] (A:=fun _=>none) (fn:=Tryz.f99) (by kernel_rfl) (by kernel_rfl) (by rintro ⟨⟩ ⟨a1,⟨⟩⟩;kernel_rfl)
def zLJ:Nat→Option JA:=fun k=>match k with
 |21=>some ⟨1574122160950821847040,[],[.t 17 tI, .o 0 1000000 .bool]⟩
 |36=>some ⟨1574122160956526120961,[],[.o 0 1000000 .bool]⟩
 |_=>none
theorem zJ3:zNj U Tryz.prog G0 76 .bool (zIl [.d qM, .d .bool]) (.tu []) zBo:=
 zNX (fn:=Tryz.f76) (c:=zDi Tryz.f76) (S:=((((zL.none U).add 99 (zAQ [qM] (.p (.pair tU (.pair tU (.pair tU zCj)))) zCb)).add 78 (zAQ [tI] (.p tI) zN)).add 80 (zAQ [tI,tI, .bool] (.p tI) jX))) (A:=zLJ) (xZ (xZ (xZ zDN (by kernel_rfl) zHi) (by kernel_rfl) zAH) (by kernel_rfl) zCa) (by kernel_rfl) (by kernel_rfl) (by kernel_rfl) (by intro ty h;cases h) (by rintro ⟨⟩ a0 ⟨a1,a2,⟨⟩⟩;kernel_rfl)
noncomputable def zLw:Ent:=zUF (by kernel_rfl) zJ3
theorem zHk:OkX 39 [(.sl tI),qM,qM] (.p (.sl .bool)) zAq:=fX [zLw,zHE] (A:=(jl [jj 28 23455890407424 [] [.o 7 10 .bool],jj 13 93824970145792 [] [.t 13 tI, .o 7 10 .bool],jj 32 93824991117312 [] [.o 7 10 .bool]])) (fn:=Tryz.f39) (by kernel_rfl) (by kernel_rfl) (by rintro ⟨⟩ ⟨a1,a2,a3,⟨⟩⟩;kernel_rfl)
theorem zJ2:OkH 11 [.hd,tI,qM] (.p .bool) zA2:=
 fH [zOh,(zC8 (by kernel_rfl) (by kernel_rfl) zHk)] (A:=[]) (fn:=Tryz.f11) (by kernel_rfl) (by kernel_rfl) (by kernel_rfl) (by rintro st0 ⟨a1,a2,a3,⟨⟩⟩;kernel_rfl)
noncomputable def zLv:xX:=zBq (by kernel_rfl) zJ2
theorem zHm:OkX 103 [zI,tU] (.p .bool) yB:=fX [zEg] (A:=fun _=>none) (fn:=Tryz.f103) (by kernel_rfl) (by kernel_rfl) (by rintro ⟨⟩ ⟨a1,a2,⟨⟩⟩;kernel_rfl)
noncomputable def zIj:Ent:=jJ (by kernel_rfl) zHm
theorem zJa:OkX 21 [zBj,tI] (.p .bool) jO:=fX [] (A:=(jl [jj 6 357913856 [] [.t 4 .bool]])) (fn:=Tryz.f21) (by kernel_rfl) (by kernel_rfl) (by rintro ⟨⟩ ⟨a1,a2,⟨⟩⟩;kernel_rfl)
noncomputable def zFc:Ent:=jJ (by kernel_rfl) zJa
theorem zFz:OkX 5 [qM] (.p .bool) yF:=fX [zFc] (A:=(jl [jj 10 375299968947216 [] [.t 2 .bool]])) (fn:=Tryz.f5) (by kernel_rfl) (by kernel_rfl) (by rintro ⟨⟩ ⟨a1,⟨⟩⟩;kernel_rfl)
theorem zI8:OkX 14 [] (.p zCj) zBP:=fX [] (A:=fun _=>none) (fn:=Tryz.f14) (by kernel_rfl) (by kernel_rfl) (by rintro ⟨⟩ ⟨⟩;kernel_rfl)
theorem zLg:OkX 15 [] (.p zBj) zED:=fX [] (A:=fun _=>none) (fn:=Tryz.f15) (by kernel_rfl) (by kernel_rfl) (by rintro ⟨⟩ ⟨⟩;kernel_rfl)
theorem zJ4:OkH 8 [] (.p .hd) xL:=
 fH [zP3] (A:=[]) (fn:=Tryz.f8) (by kernel_rfl) (by kernel_rfl) (by kernel_rfl) (by rintro st0 ⟨⟩;kernel_rfl)
noncomputable def zGJ:xX:=zBq (by kernel_rfl) zJ4
end Go.Ve

namespace Go.Ve
open Go Go.Proofs Go.Bd Go.Proofs.Bw
noncomputable def zAp:MSt→ElS []→Option (MSt×RTy.El (.p .bool)):=fun st0 x=>match x with
 |()=>
  Option.bind (xL st0 ()) fun (y0:MSt×Nat)=>
   Option.bind (zBP ()) fun (y1:Int×Int×Unit)=>
    Option.bind (zBP ()) fun (y2:Int×Int×Unit)=>
     Option.bind (zED ()) fun (y3:Int×Int×Unit)=>
      Option.bind (zED ()) fun (y4:Int×Int×Unit)=>
       Option.bind (wD y0.1 (y0.2,(true,(6:Int),y1,y2,y3,y4,()),())) fun (y5:MSt×Int)=>
        Option.bind
         (kE y5.1
          (y0.2,[(((0:Int),(0:Int),()),[],true,()),(((167772160:Int),(8:Int),()),[((0:Int),(0:Int),())],false,())],((0:Int),(0:Int),()),
           ()))
         fun (y6:MSt×Int)=>
         Option.bind
          (Option.bind (zDj y6.1 (y0.2,y5.2,())) fun (y12:MSt×Int)=>
           bif y12.2==(8:Int) then
            Option.bind (zDj y12.1 (y0.2,y6.2,())) fun (y13:MSt×Int)=>
             bif y13.2==(8:Int) then
              Option.bind
               (wO y13.1
                (y0.2,[(((0:Int),(0:Int),()),[],true,()),(((167772160:Int),(8:Int),()),[((0:Int),(0:Int),())],false,())],()))
               fun (y14:MSt×Int)=>
               Option.bind (kR y14.1 (y0.2,y6.2,())) fun (y15:MSt×Int)=>
                bif y14.2==y15.2 then
                 Option.bind
                  (wZ y15.1
                   (y0.2,[(((0:Int),(0:Int),()),[],true,()),(((167772160:Int),(8:Int),()),[((0:Int),(0:Int),())],false,())],()))
                  fun (y16:MSt×Int)=>some (y16.2==(0:Int),y16.1)
                else some (false,y15.1)
             else some (false,y13.1)
           else some (false,y12.1))
          fun (s17:Bool×MSt)=>some (s17.2,s17.1)
end Go.Ve

namespace Go.Ve
open Go Go.Proofs Go.Bd Go.Proofs.Bw
set_option maxRecDepth 1000000
set_option maxHeartbeats 0
theorem zI7:OkH 4 [] (.p .bool) zAp:=
 fH [zEa,zBa,zDL,zOg,zFP,zHC,(zC8 (by kernel_rfl) (by kernel_rfl) zLg),(zC8 (by kernel_rfl) (by kernel_rfl) zI8),zGJ] (A:=[jj 30 422550200076076091865598787585 [] [.t 0 .bool, .st]]) (fn:=Tryz.f4) (by kernel_rfl) (by kernel_rfl) (by kernel_rfl) (by rintro st0 ⟨⟩;kernel_rfl)
noncomputable def zJ8:xX:=zBq (by kernel_rfl) zI7
end Go.Ve

namespace Go.Ve
open Go Go.Proofs Go.Bd Go.Proofs.Bw
noncomputable def zAt:ElS [(.int .u8)]→Option (RTy.El (.p .bool)):=fun x=>match x with
 |(a1,())=>
  Option.bind
   (bif decide ((65:Int)≤a1) then bif decide (a1≤(90:Int)) then some true else bif decide ((97:Int)≤a1) then some (decide (a1≤(122:Int))) else some false
   else bif decide ((97:Int)≤a1) then some (decide (a1≤(122:Int))) else some false)
   fun (s0:Bool)=>some s0
noncomputable def scan_digit:ElS [(.int .u8)]→Option (RTy.El (.p .bool)):=fun x=>match x with
 |(a1,())=>
  Option.bind (bif decide ((48:Int)≤a1) then some (decide (a1≤(57:Int))) else some false) fun (s0:Bool)=>some s0
noncomputable def yN:ElS [.str]→Option (RTy.El (.p .bool)):=fun x=>match x with
 |(a1,())=>
  Option.bind
   (bif decide ((↑(ByteArray.size a1):Int)< (1:Int)) then some true
   else
    bif decide ((↑(ByteArray.size a1):Int)>(15:Int)) then some true
    else Option.bind (byteAt a1 (0:Int)) fun (y2:Int)=>Option.bind (zAt (y2,())) fun (y3:Bool)=>some !y3)
   fun (s4:Bool)=>
   bif s4 then some false
   else
    kI
     (zM
      (fun (s17:Int)=>
       bif decide (s17< (↑(ByteArray.size a1):Int)) then
        Option.bind (byteAt a1 s17) fun (y18:Int)=>
         Option.bind
          (Option.bind (zAt (y18,())) fun (y19:Bool)=>
           bif !y19 then
            Option.bind (scan_digit (y18,())) fun (y20:Bool)=>
             bif !y20 then
              bif y18 !=(45:Int) then bif y18 !=(95:Int) then bif y18 !=(47:Int) then some (y18 !=(46:Int)) else some false else some false else some false
             else some false
           else some false)
          fun (s21:Bool)=>bif s21 then some (Sum.inr (Sum.inr false)) else some (Sum.inl (IntKind.wrap IntKind.i64 (s17+(1:Int))))
       else some (Sum.inr (Sum.inl ())))
      (1:Int))
     fun (s22:Unit)=>some true
noncomputable def zF:ElS [tI,tI,tI]→Option (RTy.El (.p .bool)):=fun x=>match x with
 |(a1,a2,a3,())=>
  Option.bind (bif decide (a2≤a1) then some (decide (a1≤a3)) else some false) fun (s0:Bool)=>some s0
noncomputable def yJ:ElA [.d wU, .pp .str]→Option (RTy.El (.p .bool)):=fun x=>match x with
 |(a1,a2,())=>
  some (a1.1==a2)
noncomputable def jA:ElA [.d (.sl wU), .clo 85 [(true, .str)]]→Option (RTy.El (.p tI)):=fun x=>match x with
 |(a1,(a2,()),())=>
  kI
   (zM
    (fun (s6:Int)=>
     bif decide (s6< (↑(List.length a1):Int)) then
      Option.bind (idx a1 s6) fun (y7:Ty.El wU)=>
       Option.bind (yJ (y7,a2,())) fun (y8:Bool)=>bif y8 then some (Sum.inr (Sum.inr s6)) else some (Sum.inl (IntKind.wrap IntKind.i64 (s6+(1:Int))))
     else some (Sum.inr (Sum.inl ())))
    (0:Int))
   fun (s9:Unit)=>some (-1:Int)
noncomputable def vX:ElA [.d wU, .pp tU]→Option (RTy.El (.p .bool)):=fun x=>match x with
 |(a1,a2,())=>
  Option.bind (bif a1.2.2.1 !=(0:Int) then some (a1.2.1==a2) else some false) fun (s0:Bool)=>some s0
noncomputable def q9:ElA [.d (.sl wU), .clo 104 [(true,tU)]]→Option (RTy.El (.p tI)):=fun x=>match x with
 |(a1,(a2,()),())=>
  kI
   (zM
    (fun (s6:Int)=>
     bif decide (s6< (↑(List.length a1):Int)) then
      Option.bind (idx a1 s6) fun (y7:Ty.El wU)=>
       Option.bind (vX (y7,a2,())) fun (y8:Bool)=>bif y8 then some (Sum.inr (Sum.inr s6)) else some (Sum.inl (IntKind.wrap IntKind.i64 (s6+(1:Int))))
     else some (Sum.inr (Sum.inl ())))
    (0:Int))
   fun (s9:Unit)=>some (-1:Int)
noncomputable def wV:ElS [zD, .str]→Option (RTy.El (.p tI)):=fun x=>match x with
 |(a1,a2,())=>
  Option.bind (jA (a1.2.2.1,(a2,()),())) fun (y0:Int)=>some y0
noncomputable def w6:ElS [wU]→Option (RTy.El (.p .bool)):=fun x=>match x with
 |(a1,())=>
  Option.bind
   (Option.bind (zF (a1.2.2.1,(0:Int),(32:Int),())) fun (y3:Bool)=>
    bif !y3 then some true
    else
     Option.bind (zF (a1.2.2.2.1,(0:Int),(4094:Int),())) fun (y4:Bool)=>
      bif !y4 then some true else Option.bind (zF (a1.2.2.2.2.2.2.2.2.2.2.2.1,(0:Int),(2:Int),())) fun (y5:Bool)=>some !y5)
   fun (s6:Bool)=>
   bif s6 then some false
   else
    Option.bind
     (bif a1.2.2.1==(0:Int) then
      bif a1.2.1 !=(0:Int) then some true
      else
       bif a1.2.2.2.1 !=(0:Int) then some true
       else
        bif a1.2.2.2.2.2.2.2.2.2.2.2.1 !=(0:Int) then some true
        else
         bif a1.2.2.2.2.2.1 then some true
         else
          bif a1.2.2.2.2.2.2.2.2.1 then some true
          else bif a1.2.2.2.2.2.2.2.2.2.1 != { data:= #[] } then some true else some (a1.2.2.2.2.2.2.2.2.2.2.1 != { data:= #[] })
     else some false)
     fun (s7:Bool)=>
     bif s7 then some false
     else
      Option.bind (bif a1.2.2.1 !=(0:Int) then some (a1.2.1==(0:Int)) else some false) fun (s8:Bool)=>
       bif s8 then some false
       else
        bif a1.2.2.2.2.2.1 then
         Option.bind
          (Option.bind (zF (a1.2.2.2.2.2.2.1,(0:Int),(255:Int),())) fun (y11:Bool)=>
           bif y11 then Option.bind (zF (a1.2.2.2.2.2.2.2.1,(1:Int),(65535:Int),())) fun (y12:Bool)=>some y12 else some false)
          fun (s13:Bool)=>some s13
        else
         Option.bind (bif a1.2.2.2.2.2.2.1==(0:Int) then some (a1.2.2.2.2.2.2.2.1==(0:Int)) else some false) fun (s14:Bool)=>some s14
noncomputable def xU:ElS [tU,tI]→Option (RTy.El (.p zI)):=fun x=>match x with
 |(a1,a2,())=>
  Option.bind (yW (a2,())) fun (y0:Int)=>
   Option.bind (zBu (a2,())) fun (y1:Int)=>
    some (IntKind.wrap IntKind.u32 (↑(BitVec.toNat (BitVec.ofInt (IntKind.bits IntKind.u32) a1&&&BitVec.ofInt (IntKind.bits IntKind.u32) y0)):Int),y1,())
noncomputable def zAC:ElS [zI,zI]→Option (RTy.El (.p .bool)):=fun x=>match x with
 |(a1,a2,())=>
  Option.bind (bif decide (a1.2.1≤a2.2.1) then Option.bind (yB (a1,a2.1,())) fun (y1:Bool)=>some y1 else some false) fun (s2:Bool)=>some s2
noncomputable def yA:ElS [zI,zI]→Option (RTy.El (.p .bool)):=fun x=>match x with
 |(a1,a2,())=>
  Option.bind (Option.bind (zAC (a1,a2,())) fun (y2:Bool)=>bif y2 then some true else Option.bind (zAC (a2,a1,())) fun (y3:Bool)=>some y3)
   fun (s4:Bool)=>some s4
noncomputable def wQ:ElS [zD]→Option (RTy.El (.p tI)):=fun x=>match x with
 |(a1,())=>
  bif decide ((↑(List.length a1.2.2.1):Int)>(8:Int)) then some (7:Int)
  else
   kI
    (zM
     (fun (s49:Int)=>
      bif decide (s49< (↑(List.length a1.2.2.1):Int)) then
       kI
        (Option.bind (idx a1.2.2.1 s49) fun (y50:Ty.El wU)=>
         Option.bind (yN (y50.1,())) fun (y51:Bool)=>
          bif !y51 then some (Sum.inr (Sum.inr (Sum.inr (3:Int))))
          else
           Option.bind (wV (a1,y50.1,())) fun (y52:Int)=>
            bif decide (y52<s49) then some (Sum.inr (Sum.inr (Sum.inr (4:Int))))
            else
             Option.bind (w6 (y50,())) fun (y53:Bool)=>
              bif !y53 then some (Sum.inr (Sum.inr (Sum.inr (1:Int))))
              else
               Option.bind (sub a1.2.2.1 (0:Int) s49) fun (y54:List (Ty.El wU))=>
                zM
                 (fun (s55:Int)=>
                  bif decide (s55< (↑(List.length y54):Int)) then
                   Option.bind (idx y54 s55) fun (y56:Ty.El wU)=>
                    Option.bind
                     (bif y50.2.2.1 !=(0:Int) then
                      bif y56.2.2.1 !=(0:Int) then
                       Option.bind (xU (y50.2.1,y50.2.2.1,())) fun (y57:Int×Int×Unit)=>
                        Option.bind (xU (y56.2.1,y56.2.2.1,())) fun (y58:Int×Int×Unit)=>
                         Option.bind (yA (y57,y58,())) fun (y59:Bool)=>some y59
                      else some false
                     else some false)
                     fun (s60:Bool)=>
                     bif s60 then some (Sum.inr (Sum.inr (Sum.inr (Sum.inr (6:Int))))) else some (Sum.inl (IntKind.wrap IntKind.i64 (s55+(1:Int))))
                  else some (Sum.inr (Sum.inl ())))
                 (0:Int))
        fun (s61:Unit)=>some (Sum.inl (IntKind.wrap IntKind.i64 (s49+(1:Int))))
      else some (Sum.inr (Sum.inl ())))
     (0:Int))
    fun (s62:Unit)=>some (0:Int)
noncomputable def uV:ElA [.d zCO, .pp .str]→Option (RTy.El (.p .bool)):=fun x=>match x with
 |(a1,a2,())=>
  some (a1.1==a2)
noncomputable def qW:ElA [.d (.sl zCO), .clo 90 [(true, .str)]]→Option (RTy.El (.p tI)):=fun x=>match x with
 |(a1,(a2,()),())=>
  kI
   (zM
    (fun (s6:Int)=>
     bif decide (s6< (↑(List.length a1):Int)) then
      Option.bind (idx a1 s6) fun (y7:Ty.El zCO)=>
       Option.bind (uV (y7,a2,())) fun (y8:Bool)=>bif y8 then some (Sum.inr (Sum.inr s6)) else some (Sum.inl (IntKind.wrap IntKind.i64 (s6+(1:Int))))
     else some (Sum.inr (Sum.inl ())))
    (0:Int))
   fun (s9:Unit)=>some (-1:Int)
noncomputable def qN:ElS [zD, .str]→Option (RTy.El (.p tI)):=fun x=>match x with
 |(a1,a2,())=>
  Option.bind (qW (a1.2.2.2.1,(a2,()),())) fun (y0:Int)=>some y0
noncomputable def jW:ElS [tI,tI, .str,tI,tI]→Option (RTy.El (.p tI)):=fun x=>match x with
 |(a1,a2,a3,a4,a5,())=>
  Option.bind (yN (a3,())) fun (y0:Bool)=>
   bif !y0 then some (3:Int)
   else bif decide (a2<a1) then some (4:Int) else bif a4==(0:Int) then some (1:Int) else bif decide (a4>a5) then some (7:Int) else some (0:Int)
noncomputable def j7:ElS [zD]→Option (RTy.El (.p tI)):=fun x=>match x with
 |(a1,())=>
  bif decide ((↑(List.length a1.2.2.2.1):Int)>(8:Int)) then some (7:Int)
  else
   kI
    (zM
     (fun (s32:Int)=>
      bif decide (s32< (↑(List.length a1.2.2.2.1):Int)) then
       kI
        (Option.bind (idx a1.2.2.2.1 s32) fun (y33:Ty.El zCO)=>
         Option.bind (qN (a1,y33.1,())) fun (y34:Int)=>
          Option.bind (jW (s32,y34,y33.1,(↑(List.length y33.2.1):Int),(16:Int),())) fun (y35:Int)=>
           bif y35 !=(0:Int) then some (Sum.inr (Sum.inr (Sum.inr y35)))
           else
            zM
             (fun (s36:Int)=>
              bif decide (s36< (↑(List.length y33.2.1):Int)) then
               Option.bind (idx y33.2.1 s36) fun (y37:Ty.El zQC)=>
                Option.bind
                 (Option.bind (jZ (y37.2.1,())) fun (y38:Bool)=>
                  bif !y38 then some true
                  else
                   bif decide (y37.2.2.1<y37.2.1.2.1) then some true
                   else bif decide (y37.2.2.2.1<y37.2.2.1) then some true else some (decide (y37.2.2.2.1>(32:Int))))
                 fun (s39:Bool)=>
                 bif s39 then some (Sum.inr (Sum.inr (Sum.inr (Sum.inr (1:Int))))) else some (Sum.inl (IntKind.wrap IntKind.i64 (s36+(1:Int))))
              else some (Sum.inr (Sum.inl ())))
             (0:Int))
        fun (s40:Unit)=>some (Sum.inl (IntKind.wrap IntKind.i64 (s32+(1:Int))))
      else some (Sum.inr (Sum.inl ())))
     (0:Int))
    fun (s41:Unit)=>some (0:Int)
noncomputable def xJ:ElA [.d zGa, .pp .str]→Option (RTy.El (.p .bool)):=fun x=>match x with
 |(a1,a2,())=>
  some (a1.1==a2)
noncomputable def jE:ElA [.d (.sl zGa), .clo 92 [(true, .str)]]→Option (RTy.El (.p tI)):=fun x=>match x with
 |(a1,(a2,()),())=>
  kI
   (zM
    (fun (s6:Int)=>
     bif decide (s6< (↑(List.length a1):Int)) then
      Option.bind (idx a1 s6) fun (y7:Ty.El zGa)=>
       Option.bind (xJ (y7,a2,())) fun (y8:Bool)=>bif y8 then some (Sum.inr (Sum.inr s6)) else some (Sum.inl (IntKind.wrap IntKind.i64 (s6+(1:Int))))
     else some (Sum.inr (Sum.inl ())))
    (0:Int))
   fun (s9:Unit)=>some (-1:Int)
noncomputable def jB:ElS [zD, .str]→Option (RTy.El (.p tI)):=fun x=>match x with
 |(a1,a2,())=>
  Option.bind (jE (a1.2.2.2.2.1,(a2,()),())) fun (y0:Int)=>some y0
noncomputable def kX:ElS [zGb]→Option (RTy.El (.p .bool)):=fun x=>match x with
 |(a1,())=>
  Option.bind
   (Option.bind (zF (a1.2.2.1,(-1:Int),(65535:Int),())) fun (y5:Bool)=>
    bif y5 then
     Option.bind (zF (a1.2.2.2.1,(-1:Int),(16777215:Int),())) fun (y6:Bool)=>
      bif y6 then
       Option.bind (zF (a1.2.2.2.2.1,(-1:Int),(65535:Int),())) fun (y7:Bool)=>
        bif y7 then
         Option.bind (zF (a1.2.2.2.2.2.1,(-1:Int),(1000000:Int),())) fun (y8:Bool)=>
          bif y8 then Option.bind (zF (a1.2.2.2.2.2.2.1,(0:Int),(8:Int),())) fun (y9:Bool)=>some y9 else some false
        else some false
      else some false
    else some false)
   fun (s10:Bool)=>some s10
noncomputable def w7:ElS [zD]→Option (RTy.El (.p tI)):=fun x=>match x with
 |(a1,())=>
  bif decide ((↑(List.length a1.2.2.2.2.1):Int)>(8:Int)) then some (7:Int)
  else
   kI
    (zM
     (fun (s36:Int)=>
      bif decide (s36< (↑(List.length a1.2.2.2.2.1):Int)) then
       kI
        (Option.bind (idx a1.2.2.2.2.1 s36) fun (y37:Ty.El zGa)=>
         Option.bind (jB (a1,y37.1,())) fun (y38:Int)=>
          Option.bind (jW (s36,y38,y37.1,(↑(List.length y37.2.1):Int),(8:Int),())) fun (y39:Int)=>
           bif y39 !=(0:Int) then some (Sum.inr (Sum.inr (Sum.inr y39)))
           else
            zM
             (fun (s40:Int)=>
              bif decide (s40< (↑(List.length y37.2.1):Int)) then
               Option.bind (idx y37.2.1 s40) fun (y41:Ty.El zGb)=>
                Option.bind
                 (bif y41.2.1 != { data:= #[] } then Option.bind (qN (a1,y41.2.1,())) fun (y42:Int)=>some (decide (y42< (0:Int)))
                 else some false)
                 fun (s43:Bool)=>
                 bif s43 then some (Sum.inr (Sum.inr (Sum.inr (Sum.inr (5:Int)))))
                 else
                  Option.bind (kX (y41,())) fun (y44:Bool)=>
                   bif !y44 then some (Sum.inr (Sum.inr (Sum.inr (Sum.inr (1:Int))))) else some (Sum.inl (IntKind.wrap IntKind.i64 (s40+(1:Int))))
              else some (Sum.inr (Sum.inl ())))
             (0:Int))
        fun (s45:Unit)=>some (Sum.inl (IntKind.wrap IntKind.i64 (s36+(1:Int))))
      else some (Sum.inr (Sum.inl ())))
     (0:Int))
    fun (s46:Unit)=>some (0:Int)
noncomputable def zC1:ElA [.d uE, .pp .str]→Option (RTy.El (.p .bool)):=fun x=>match x with
 |(a1,a2,())=>
  some (a1.1==a2)
noncomputable def wH:ElA [.d (.sl uE), .clo 70 [(true, .str)]]→Option (RTy.El (.p tI)):=fun x=>match x with
 |(a1,(a2,()),())=>
  kI
   (zM
    (fun (s6:Int)=>
     bif decide (s6< (↑(List.length a1):Int)) then
      Option.bind (idx a1 s6) fun (y7:Ty.El uE)=>
       Option.bind (zC1 (y7,a2,())) fun (y8:Bool)=>bif y8 then some (Sum.inr (Sum.inr s6)) else some (Sum.inl (IntKind.wrap IntKind.i64 (s6+(1:Int))))
     else some (Sum.inr (Sum.inl ())))
    (0:Int))
   fun (s9:Unit)=>some (-1:Int)
noncomputable def wW:ElS [zD, .str]→Option (RTy.El (.p tI)):=fun x=>match x with
 |(a1,a2,())=>
  Option.bind (wH (a1.2.2.2.2.2.1,(a2,()),())) fun (y0:Int)=>some y0
noncomputable def vW:ElS [zBj]→Option (RTy.El (.p .bool)):=fun x=>match x with
 |(a1,())=>
  Option.bind (bif decide ((0:Int)≤a1.1) then bif decide (a1.1≤a1.2.1) then some (decide (a1.2.1≤(65535:Int))) else some false else some false)
   fun (s0:Bool)=>some s0
noncomputable def yD:ElS [qY]→Option (RTy.El (.p .bool)):=fun x=>match x with
 |(a1,())=>
  Option.bind
   (Option.bind (zF (a1.2.1,(-1:Int),(255:Int),())) fun (y1:Bool)=>
    bif !y1 then some true
    else
     bif
       IntKind.wrap IntKind.u32
         (↑(BitVec.toNat (BitVec.ofInt (IntKind.bits IntKind.u32) a1.2.2.1.1&&&BitVec.ofInt (IntKind.bits IntKind.u32) a1.2.2.1.2.1)):Int) !=
        (0:Int) then
      some true
     else
      some
       (IntKind.wrap IntKind.u32
         (↑(BitVec.toNat (BitVec.ofInt (IntKind.bits IntKind.u32) a1.2.2.2.1.1&&&BitVec.ofInt (IntKind.bits IntKind.u32) a1.2.2.2.1.2.1)):Int) !=
        (0:Int)))
   fun (s2:Bool)=>
   bif s2 then some false
   else
    Option.bind
     (Option.bind (vW (a1.2.2.2.2.1,())) fun (y5:Bool)=>
      bif !y5 then some true else Option.bind (vW (a1.2.2.2.2.2.1,())) fun (y6:Bool)=>some !y6)
     fun (s7:Bool)=>
     bif s7 then some false
     else
      Option.bind
       (bif a1.2.1==(6:Int) then some true
       else
        bif a1.2.1==(17:Int) then some true
        else
         bif a1.2.2.2.2.1.1==(0:Int)&&(a1.2.2.2.2.1.2.1==(65535:Int)&&true) then
          some (a1.2.2.2.2.2.1.1==(0:Int)&&(a1.2.2.2.2.2.1.2.1==(65535:Int)&&true))
         else some false)
       fun (s8:Bool)=>some s8
noncomputable def yE:ElS [zD]→Option (RTy.El (.p tI)):=fun x=>match x with
 |(a1,())=>
  bif decide ((↑(List.length a1.2.2.2.2.2.1):Int)>(8:Int)) then some (7:Int)
  else
   kI
    (zM
     (fun (s27:Int)=>
      bif decide (s27< (↑(List.length a1.2.2.2.2.2.1):Int)) then
       kI
        (Option.bind (idx a1.2.2.2.2.2.1 s27) fun (y28:Ty.El uE)=>
         Option.bind (wW (a1,y28.1,())) fun (y29:Int)=>
          Option.bind (jW (s27,y29,y28.1,(↑(List.length y28.2.1):Int),(16:Int),())) fun (y30:Int)=>
           bif y30 !=(0:Int) then some (Sum.inr (Sum.inr (Sum.inr y30)))
           else
            zM
             (fun (s31:Int)=>
              bif decide (s31< (↑(List.length y28.2.1):Int)) then
               Option.bind (idx y28.2.1 s31) fun (y32:Ty.El qY)=>
                Option.bind (yD (y32,())) fun (y33:Bool)=>
                 bif !y33 then some (Sum.inr (Sum.inr (Sum.inr (Sum.inr (1:Int))))) else some (Sum.inl (IntKind.wrap IntKind.i64 (s31+(1:Int))))
              else some (Sum.inr (Sum.inl ())))
             (0:Int))
        fun (s34:Unit)=>some (Sum.inl (IntKind.wrap IntKind.i64 (s27+(1:Int))))
      else some (Sum.inr (Sum.inl ())))
     (0:Int))
    fun (s35:Unit)=>some (0:Int)
noncomputable def j6:ElS [zQD]→Option (RTy.El (.p .bool)):=fun x=>match x with
 |(a1,())=>
  bif a1.1==(1:Int) then
   Option.bind
    (bif
      a1.1==a1.1&&
       (a1.2.1==a1.2.1&&
        (a1.2.2.1==a1.2.2.1&&
         (a1.2.2.2.1==(0:Int)&&
          (a1.2.2.2.2.1==(0:Int)&&
           (a1.2.2.2.2.2.1==(0:Int)&&
            (a1.2.2.2.2.2.2.1== { data:= #[] } &&
             (a1.2.2.2.2.2.2.2.1==(0:Int)&&(a1.2.2.2.2.2.2.2.2.1==(0:Int)&&true)))))))) then
     bif a1.2.1 !=(0:Int) then some (a1.2.2.1 !=(0:Int)) else some false
    else some false)
    fun (s0:Bool)=>some s0
  else
   bif a1.1==(2:Int) then
    Option.bind
     (bif
       a1.1==a1.1&&
        (a1.2.1==(0:Int)&&
         (a1.2.2.1==(0:Int)&&
          (a1.2.2.2.1==(0:Int)&&
           (a1.2.2.2.2.1==(0:Int)&&
            (a1.2.2.2.2.2.1==(0:Int)&&
             (a1.2.2.2.2.2.2.1==a1.2.2.2.2.2.2.1&&
              (a1.2.2.2.2.2.2.2.1==a1.2.2.2.2.2.2.2.1&&
               (a1.2.2.2.2.2.2.2.2.1==a1.2.2.2.2.2.2.2.2.1&&true)))))))) then
      bif a1.2.2.2.2.2.2.2.1 !=(0:Int) then
       bif decide (a1.2.2.2.2.2.2.2.1≤a1.2.2.2.2.2.2.2.2.1) then
        some (decide (IntKind.wrap IntKind.u32 (a1.2.2.2.2.2.2.2.2.1-a1.2.2.2.2.2.2.2.1)< (8:Int)))
       else some false
      else some false
     else some false)
     fun (s1:Bool)=>some s1
   else
    bif a1.1==(3:Int) then
     Option.bind
      (bif a1.2.1 !=(0:Int) then
       bif a1.2.2.1 !=(0:Int) then
        bif a1.2.2.2.1==(6:Int) then
         Option.bind (zF (a1.2.2.2.2.1,(0:Int),(65535:Int),())) fun (y6:Bool)=>
          bif y6 then
           Option.bind (zF (a1.2.2.2.2.2.1,(0:Int),(65535:Int),())) fun (y7:Bool)=>
            bif y7 then
             bif a1.2.2.2.2.2.2.1== { data:= #[] } then
              bif a1.2.2.2.2.2.2.2.1==(0:Int) then some (a1.2.2.2.2.2.2.2.2.1==(0:Int)) else some false
             else some false
            else some false
          else some false
        else
         bif a1.2.2.2.1==(17:Int) then
          Option.bind (zF (a1.2.2.2.2.1,(0:Int),(65535:Int),())) fun (y8:Bool)=>
           bif y8 then
            Option.bind (zF (a1.2.2.2.2.2.1,(0:Int),(65535:Int),())) fun (y9:Bool)=>
             bif y9 then
              bif a1.2.2.2.2.2.2.1== { data:= #[] } then
               bif a1.2.2.2.2.2.2.2.1==(0:Int) then some (a1.2.2.2.2.2.2.2.2.1==(0:Int)) else some false
              else some false
             else some false
           else some false
         else some false
       else some false
      else some false)
      fun (s10:Bool)=>some s10
    else some false
noncomputable def xI:ElS [zD]→Option (RTy.El (.p tI)):=fun x=>match x with
 |(a1,())=>
  bif decide ((↑(List.length a1.2.2.2.2.2.2.1):Int)>(8:Int)) then some (7:Int)
  else
   kI
    (zM
     (fun (s11:Int)=>
      bif decide (s11< (↑(List.length a1.2.2.2.2.2.2.1):Int)) then
       Option.bind (idx a1.2.2.2.2.2.2.1 s11) fun (y12:Ty.El zQD)=>
        Option.bind (j6 (y12,())) fun (y13:Bool)=>
         bif !y13 then some (Sum.inr (Sum.inr (1:Int)))
         else
          Option.bind
           (bif y12.1==(2:Int) then Option.bind (wW (a1,y12.2.2.2.2.2.2.1,())) fun (y14:Int)=>some (decide (y14< (0:Int)))
           else some false)
           fun (s15:Bool)=>bif s15 then some (Sum.inr (Sum.inr (5:Int))) else some (Sum.inl (IntKind.wrap IntKind.i64 (s11+(1:Int))))
      else some (Sum.inr (Sum.inl ())))
     (0:Int))
    fun (s16:Unit)=>some (0:Int)
noncomputable def kH:ElS [zD]→Option (RTy.El (.p tI)):=fun x=>match x with
 |(a1,())=>
  kI
   (zM
    (fun (s15:Int)=>
     bif decide (s15< (↑(List.length a1.2.2.1):Int)) then
      Option.bind (idx a1.2.2.1 s15) fun (y16:Ty.El wU)=>
       Option.bind
        (bif y16.2.2.2.2.2.2.2.2.2.1 != { data:= #[] } then
         Option.bind (wW (a1,y16.2.2.2.2.2.2.2.2.2.1,())) fun (y17:Int)=>
          bif decide (y17< (0:Int)) then some true
          else
           bif y16.2.2.2.2.2.2.2.2.2.2.1 != { data:= #[] } then
            Option.bind (wW (a1,y16.2.2.2.2.2.2.2.2.2.2.1,())) fun (y18:Int)=>some (decide (y18< (0:Int)))
           else some false
        else
         bif y16.2.2.2.2.2.2.2.2.2.2.1 != { data:= #[] } then
          Option.bind (wW (a1,y16.2.2.2.2.2.2.2.2.2.2.1,())) fun (y19:Int)=>some (decide (y19< (0:Int)))
         else some false)
        fun (s20:Bool)=>bif s20 then some (Sum.inr (Sum.inr (5:Int))) else some (Sum.inl (IntKind.wrap IntKind.i64 (s15+(1:Int))))
     else some (Sum.inr (Sum.inl ())))
    (0:Int))
   fun (s21:Unit)=>some (0:Int)
noncomputable def zAn:ElS [zD,tU]→Option (RTy.El (.p tI)):=fun x=>match x with
 |(a1,a2,())=>
  Option.bind (q9 (a1.2.2.1,(a2,()),())) fun (y0:Int)=>some y0
noncomputable def kW:ElS [zD,zCN]→Option (RTy.El (.p .bool)):=fun x=>match x with
 |(a1,a2,())=>
  Option.bind
   (zM
    (fun (s7:Int×Int)=>
     bif decide (s7.1< (↑(List.length [a2.2.1 !=(0:Int),a2.2.2.1 != { data:= #[] },a2.2.2.2.1]):Int)) then
      Option.bind
       (Option.bind (idx [a2.2.1 !=(0:Int),a2.2.2.1 != { data:= #[] },a2.2.2.2.1] s7.1) fun (y8:Bool)=>
        bif y8 then some (IntKind.wrap IntKind.i64 (s7.2+(1:Int))) else some s7.2)
       fun (s9:Int)=>some (Sum.inl (IntKind.wrap IntKind.i64 (s7.1+(1:Int)),s9))
     else some (Sum.inr s7.2))
    ((0:Int),(0:Int)))
   fun (s10:Int)=>
   Option.bind
    (Option.bind (jZ (a2.1,())) fun (y17:Bool)=>
     bif y17 then
      bif s10==(1:Int) then
       bif a2.2.1==(0:Int) then
        Option.bind (zF (a2.2.2.2.2.1,(1:Int),(255:Int),())) fun (y18:Bool)=>
         bif y18 then Option.bind (zF (a2.2.2.2.2.2.1,(0:Int),(65535:Int),())) fun (y19:Bool)=>some y19 else some false
       else
        Option.bind (zAn (a1,a2.2.1,())) fun (y20:Int)=>
         bif decide (y20< (0:Int)) then
          Option.bind (zF (a2.2.2.2.2.1,(1:Int),(255:Int),())) fun (y21:Bool)=>
           bif y21 then Option.bind (zF (a2.2.2.2.2.2.1,(0:Int),(65535:Int),())) fun (y22:Bool)=>some y22 else some false
         else some false
      else some false
     else some false)
    fun (s23:Bool)=>some s23
noncomputable def kF:ElS [zD]→Option (RTy.El (.p tI)):=fun x=>match x with
 |(a1,())=>
  bif decide ((↑(List.length a1.2.2.2.2.2.2.2.1):Int)>(16:Int)) then some (7:Int)
  else
   kI
    (zM
     (fun (s36:Int)=>
      bif decide (s36< (↑(List.length a1.2.2.2.2.2.2.2.1):Int)) then
       kI
        (Option.bind (idx a1.2.2.2.2.2.2.2.1 s36) fun (y37:Ty.El zCN)=>
         Option.bind (kW (a1,y37,())) fun (y38:Bool)=>
          bif !y38 then some (Sum.inr (Sum.inr (Sum.inr (1:Int))))
          else
           kI
            (bif y37.2.2.1 != { data:= #[] } then
             Option.bind (wV (a1,y37.2.2.1,())) fun (y39:Int)=>
              bif decide (y39< (0:Int)) then some (Sum.inr (Sum.inr (Sum.inr (Sum.inr (5:Int)))))
              else
               Option.bind (idx a1.2.2.1 y39) fun (y40:Ty.El wU)=>
                bif y40.2.2.1==(0:Int) then some (Sum.inr (Sum.inr (Sum.inr (Sum.inr (1:Int))))) else some (Sum.inl ())
            else some (Sum.inl ()))
            fun (s41:Unit)=>
            Option.bind (sub a1.2.2.2.2.2.2.2.1 (0:Int) s36) fun (y42:List (Ty.El zCN))=>
             zM
              (fun (s43:Int)=>
               bif decide (s43< (↑(List.length y42):Int)) then
                Option.bind (idx y42 s43) fun (y44:Ty.El zCN)=>
                 Option.bind
                  (bif y44.1.1==y37.1.1&&(y44.1.2.1==y37.1.2.1&&true) then some (y44.2.2.2.2.1==y37.2.2.2.2.1)
                  else some false)
                  fun (s45:Bool)=>
                  bif s45 then some (Sum.inr (Sum.inr (Sum.inr (Sum.inr (6:Int))))) else some (Sum.inl (IntKind.wrap IntKind.i64 (s43+(1:Int))))
               else some (Sum.inr (Sum.inl ())))
              (0:Int))
        fun (s46:Unit)=>some (Sum.inl (IntKind.wrap IntKind.i64 (s36+(1:Int))))
      else some (Sum.inr (Sum.inl ())))
     (0:Int))
    fun (s47:Unit)=>some (0:Int)
noncomputable def jS:ElS [zD,(.sl zAY),tI,tI,tI,tI]→Option (RTy.El (.p tI)):=fun x=>match x with
 |(a1,a2,a3,a4,a5,a6,())=>
  bif decide ((↑(List.length a2):Int)>(4:Int)) then some (7:Int)
  else
   kI
    (zM
     (fun (s44:Int)=>
      bif decide (s44< (↑(List.length a2):Int)) then
       kI
        (Option.bind (idx a2 s44) fun (y45:Ty.El zAY)=>
         Option.bind
          (Option.bind (zF (y45.1,(1:Int),(5:Int),())) fun (y46:Bool)=>
           bif !y46 then some true
           else
            bif y45.1==a3 then some true
            else
             Option.bind (zF (y45.2.1,a4,a5,())) fun (y47:Bool)=>
              bif !y47 then some true
              else
               Option.bind (zF (y45.2.2.1,(0:Int),(65535:Int),())) fun (y48:Bool)=>
                bif !y48 then some true
                else Option.bind (zF (y45.2.2.2.2.1,if a6< (1:Int) then a6 else (1:Int),a6,())) fun (y49:Bool)=>some !y49)
          fun (s50:Bool)=>
          bif s50 then some (Sum.inr (Sum.inr (Sum.inr (1:Int))))
          else
           Option.bind
            (bif y45.2.2.2.1 != { data:= #[] } then Option.bind (jB (a1,y45.2.2.2.1,())) fun (y51:Int)=>some (decide (y51< (0:Int)))
            else some false)
            fun (s52:Bool)=>
            bif s52 then some (Sum.inr (Sum.inr (Sum.inr (5:Int))))
            else
             Option.bind (sub a2 (0:Int) s44) fun (y53:List (Ty.El zAY))=>
              zM
               (fun (s54:Int)=>
                bif decide (s54< (↑(List.length y53):Int)) then
                 Option.bind (idx y53 s54) fun (y55:Ty.El zAY)=>
                  bif y55.1==y45.1 then some (Sum.inr (Sum.inr (Sum.inr (Sum.inr (4:Int))))) else some (Sum.inl (IntKind.wrap IntKind.i64 (s54+(1:Int))))
                else some (Sum.inr (Sum.inl ())))
               (0:Int))
        fun (s56:Unit)=>some (Sum.inl (IntKind.wrap IntKind.i64 (s44+(1:Int))))
      else some (Sum.inr (Sum.inl ())))
     (0:Int))
    fun (s57:Unit)=>some (0:Int)
noncomputable def w9:ElS [zD]→Option (RTy.El (.p tI)):=fun x=>match x with
 |(a1,())=>
  bif !a1.2.2.2.2.2.2.2.2.1.1 then
   Option.bind
    (bif a1.2.2.2.2.2.2.2.2.1.2.1 !=(0:Int) then some true
    else
     bif decide ((↑(List.length a1.2.2.2.2.2.2.2.2.1.2.2.1):Int)>(0:Int)) then some true
     else some (decide ((↑(List.length a1.2.2.2.2.2.2.2.2.1.2.2.2.1):Int)>(0:Int))))
    fun (s0:Bool)=>bif s0 then some (1:Int) else some (0:Int)
  else
   Option.bind (zF (a1.2.2.2.2.2.2.2.2.1.2.1,(1:Int),(255:Int),())) fun (y1:Bool)=>
    bif !y1 then some (1:Int)
    else
     bif decide ((↑(List.length a1.2.2.2.2.2.2.2.2.1.2.2.1):Int)>(4:Int)) then some (7:Int)
     else
      kI
       (zM
        (fun (s40:Int)=>
         bif decide (s40< (↑(List.length a1.2.2.2.2.2.2.2.2.1.2.2.1):Int)) then
          kI
           (Option.bind (idx a1.2.2.2.2.2.2.2.2.1.2.2.1 s40) fun (y41:Ty.El zIo)=>
            Option.bind
             (Option.bind (zF (y41.1,(0:Int),(255:Int),())) fun (y42:Bool)=>
              bif !y42 then some true else Option.bind (jZ (y41.2.1,())) fun (y43:Bool)=>some !y43)
             fun (s44:Bool)=>
             bif s44 then some (Sum.inr (Sum.inr (Sum.inr (1:Int))))
             else
              Option.bind (sub a1.2.2.2.2.2.2.2.2.1.2.2.1 (0:Int) s40) fun (y45:List (Ty.El zIo))=>
               zM
                (fun (s46:Int)=>
                 bif decide (s46< (↑(List.length y45):Int)) then
                  Option.bind (idx y45 s46) fun (y47:Ty.El zIo)=>
                   Option.bind (bif y47.1==y41.1 then Option.bind (yA (y47.2.1,y41.2.1,())) fun (y48:Bool)=>some y48 else some false)
                    fun (s49:Bool)=>
                    bif s49 then some (Sum.inr (Sum.inr (Sum.inr (Sum.inr (6:Int))))) else some (Sum.inl (IntKind.wrap IntKind.i64 (s46+(1:Int))))
                 else some (Sum.inr (Sum.inl ())))
                (0:Int))
           fun (s50:Unit)=>some (Sum.inl (IntKind.wrap IntKind.i64 (s40+(1:Int))))
         else some (Sum.inr (Sum.inl ())))
        (0:Int))
       fun (s51:Unit)=>
       Option.bind (jS (a1,a1.2.2.2.2.2.2.2.2.1.2.2.2.1,(3:Int),(0:Int),(16777215:Int),(2:Int),())) fun (y52:Int)=>
        some y52
noncomputable def jF:ElS [zD]→Option (RTy.El (.p tI)):=fun x=>match x with
 |(a1,())=>
  bif !a1.2.2.2.2.2.2.2.2.2.1.1 then
   Option.bind
    (bif a1.2.2.2.2.2.2.2.2.2.1.2.1 !=(0:Int) then some true
    else
     bif a1.2.2.2.2.2.2.2.2.2.1.2.2.1 != { data:= #[] } then some true
     else
      bif a1.2.2.2.2.2.2.2.2.2.1.2.2.2.1 != { data:= #[] } then some true
      else some (decide ((↑(List.length a1.2.2.2.2.2.2.2.2.2.1.2.2.2.2.1):Int)>(0:Int))))
    fun (s0:Bool)=>bif s0 then some (1:Int) else some (0:Int)
  else
   Option.bind (zF (a1.2.2.2.2.2.2.2.2.2.1.2.1,(1:Int),(255:Int),())) fun (y1:Bool)=>
    bif !y1 then some (1:Int)
    else
     Option.bind
      (bif a1.2.2.2.2.2.2.2.2.2.1.2.2.1 != { data:= #[] } then
       Option.bind (qN (a1,a1.2.2.2.2.2.2.2.2.2.1.2.2.1,())) fun (y5:Int)=>
        bif decide (y5< (0:Int)) then some true
        else
         bif a1.2.2.2.2.2.2.2.2.2.1.2.2.2.1 != { data:= #[] } then
          Option.bind (qN (a1,a1.2.2.2.2.2.2.2.2.2.1.2.2.2.1,())) fun (y6:Int)=>some (decide (y6< (0:Int)))
         else some false
      else
       bif a1.2.2.2.2.2.2.2.2.2.1.2.2.2.1 != { data:= #[] } then
        Option.bind (qN (a1,a1.2.2.2.2.2.2.2.2.2.1.2.2.2.1,())) fun (y7:Int)=>some (decide (y7< (0:Int)))
       else some false)
      fun (s8:Bool)=>
      bif s8 then some (5:Int)
      else
       Option.bind (jS (a1,a1.2.2.2.2.2.2.2.2.2.1.2.2.2.2.1,(4:Int),(1:Int),(15:Int),(0:Int),())) fun (y9:Int)=>
        some y9
noncomputable def w8:ElS [zD]→Option (RTy.El (.p tI)):=fun x=>match x with
 |(a1,())=>
  bif decide ((↑(List.length a1.2.2.2.2.2.2.2.2.2.2.1.2.2.2.1):Int)>(8:Int)) then some (7:Int)
  else
   kI
    (zM
     (fun (s40:Int)=>
      bif decide (s40< (↑(List.length a1.2.2.2.2.2.2.2.2.2.2.1.2.2.2.1):Int)) then
       kI
        (Option.bind (idx a1.2.2.2.2.2.2.2.2.2.2.1.2.2.2.1 s40) fun (y41:Ty.El zEu)=>
         Option.bind (bif y41.1==(0:Int) then some true else Option.bind (zF (y41.2.1,(1:Int),(65535:Int),())) fun (y42:Bool)=>some !y42)
          fun (s43:Bool)=>
          bif s43 then some (Sum.inr (Sum.inr (Sum.inr (1:Int))))
          else
           Option.bind
            (bif y41.2.2.1 != { data:= #[] } then
             Option.bind (jB (a1,y41.2.2.1,())) fun (y44:Int)=>
              bif decide (y44< (0:Int)) then some true
              else
               bif y41.2.2.2.1 != { data:= #[] } then
                Option.bind (jB (a1,y41.2.2.2.1,())) fun (y45:Int)=>some (decide (y45< (0:Int)))
               else some false
            else
             bif y41.2.2.2.1 != { data:= #[] } then Option.bind (jB (a1,y41.2.2.2.1,())) fun (y46:Int)=>some (decide (y46< (0:Int)))
             else some false)
            fun (s47:Bool)=>
            bif s47 then some (Sum.inr (Sum.inr (Sum.inr (5:Int))))
            else
             Option.bind (sub a1.2.2.2.2.2.2.2.2.2.2.1.2.2.2.1 (0:Int) s40) fun (y48:List (Ty.El zEu))=>
              zM
               (fun (s49:Int)=>
                bif decide (s49< (↑(List.length y48):Int)) then
                 Option.bind (idx y48 s49) fun (y50:Ty.El zEu)=>
                  bif y50.1==y41.1 then some (Sum.inr (Sum.inr (Sum.inr (Sum.inr (4:Int))))) else some (Sum.inl (IntKind.wrap IntKind.i64 (s49+(1:Int))))
                else some (Sum.inr (Sum.inl ())))
               (0:Int))
        fun (s51:Unit)=>some (Sum.inl (IntKind.wrap IntKind.i64 (s40+(1:Int))))
      else some (Sum.inr (Sum.inl ())))
     (0:Int))
    fun (s52:Unit)=>some (0:Int)
noncomputable def vM:ElS [(.sl zI),zI]→Option (RTy.El (.p tI)):=fun x=>match x with
 |(a1,a2,())=>
  kI
   (zM
    (fun (s5:Int)=>
     bif decide (s5< (↑(List.length a1):Int)) then
      Option.bind (idx a1 s5) fun (y6:Ty.El zI)=>
       bif a2.1==y6.1&&(a2.2.1==y6.2.1&&true) then some (Sum.inr (Sum.inr s5)) else some (Sum.inl (IntKind.wrap IntKind.i64 (s5+(1:Int))))
     else some (Sum.inr (Sum.inl ())))
    (0:Int))
   fun (s7:Unit)=>some (-1:Int)
noncomputable def j4:ElS [(.sl zI),zI]→Option (RTy.El (.p .bool)):=fun x=>match x with
 |(a1,a2,())=>
  Option.bind (vM (a1,a2,())) fun (y0:Int)=>some (decide (y0≥(0:Int)))
noncomputable def kG:ElS [tPV]→Option (RTy.El (.p tI)):=fun x=>match x with
 |(a1,())=>
  bif decide ((↑(List.length a1.2.2.2.2.1):Int)>(8:Int)) then some (7:Int)
  else
   kI
    (zM
     (fun (s12:Int)=>
      bif decide (s12< (↑(List.length a1.2.2.2.2.1):Int)) then
       Option.bind (idx a1.2.2.2.2.1 s12) fun (y13:Ty.El zI)=>
        Option.bind (jZ (y13,())) fun (y14:Bool)=>
         bif !y14 then some (Sum.inr (Sum.inr (1:Int)))
         else
          Option.bind (sub a1.2.2.2.2.1 (0:Int) s12) fun (y15:List (Ty.El zI))=>
           Option.bind (j4 (y15,y13,())) fun (y16:Bool)=>
            bif y16 then some (Sum.inr (Sum.inr (4:Int))) else some (Sum.inl (IntKind.wrap IntKind.i64 (s12+(1:Int))))
      else some (Sum.inr (Sum.inl ())))
     (0:Int))
    fun (s17:Unit)=>
    bif decide ((↑(List.length a1.2.2.2.2.2.1):Int)>(8:Int)) then some (7:Int)
    else
     kI
      (zM
       (fun (s39:Int)=>
        bif decide (s39< (↑(List.length a1.2.2.2.2.2.1):Int)) then
         kI
          (Option.bind (idx a1.2.2.2.2.2.1 s39) fun (y40:Ty.El zCQ)=>
           Option.bind (jZ (y40.1,())) fun (y41:Bool)=>
            bif !y41 then some (Sum.inr (Sum.inr (Sum.inr (1:Int))))
            else
             Option.bind (sub a1.2.2.2.2.2.1 (0:Int) s39) fun (y42:List (Ty.El zCQ))=>
              zM
               (fun (s43:Int)=>
                bif decide (s43< (↑(List.length y42):Int)) then
                 Option.bind (idx y42 s43) fun (y44:Ty.El zCQ)=>
                  bif y44.1.1==y40.1.1&&(y44.1.2.1==y40.1.2.1&&true) then some (Sum.inr (Sum.inr (Sum.inr (Sum.inr (4:Int)))))
                  else some (Sum.inl (IntKind.wrap IntKind.i64 (s43+(1:Int))))
                else some (Sum.inr (Sum.inl ())))
               (0:Int))
          fun (s45:Unit)=>some (Sum.inl (IntKind.wrap IntKind.i64 (s39+(1:Int))))
        else some (Sum.inr (Sum.inl ())))
       (0:Int))
      fun (s46:Unit)=>
      bif decide ((↑(List.length a1.2.2.2.2.2.2.1):Int)>(8:Int)) then some (7:Int)
      else
       kI
        (zM
         (fun (s76:Int)=>
          bif decide (s76< (↑(List.length a1.2.2.2.2.2.2.1):Int)) then
           kI
            (Option.bind (idx a1.2.2.2.2.2.2.1 s76) fun (y77:Ty.El zCP)=>
             Option.bind
              (Option.bind (jZ (y77.1,())) fun (y78:Bool)=>
               bif !y78 then some true else Option.bind (jZ (y77.2.1,())) fun (y79:Bool)=>some !y79)
              fun (s80:Bool)=>
              bif s80 then some (Sum.inr (Sum.inr (Sum.inr (1:Int))))
              else
               bif y77.1.1==y77.2.1.1&&(y77.1.2.1==y77.2.1.2.1&&true) then some (Sum.inr (Sum.inr (Sum.inr (6:Int))))
               else
                Option.bind (sub a1.2.2.2.2.2.2.1 (0:Int) s76) fun (y81:List (Ty.El zCP))=>
                 zM
                  (fun (s82:Int)=>
                   bif decide (s82< (↑(List.length y81):Int)) then
                    Option.bind (idx y81 s82) fun (y83:Ty.El zCP)=>
                     bif y83.1.1==y77.1.1&&(y83.1.2.1==y77.1.2.1&&true) then some (Sum.inr (Sum.inr (Sum.inr (Sum.inr (4:Int)))))
                     else some (Sum.inl (IntKind.wrap IntKind.i64 (s82+(1:Int))))
                   else some (Sum.inr (Sum.inl ())))
                  (0:Int))
            fun (s84:Unit)=>some (Sum.inl (IntKind.wrap IntKind.i64 (s76+(1:Int))))
          else some (Sum.inr (Sum.inl ())))
         (0:Int))
        fun (s85:Unit)=>some (0:Int)
noncomputable def wP:ElS [zD]→Option (RTy.El (.p tI)):=fun x=>match x with
 |(a1,())=>
  bif !a1.2.2.2.2.2.2.2.2.2.2.1.1 then
   Option.bind
    (bif a1.2.2.2.2.2.2.2.2.2.2.1.2.1 !=(0:Int) then some true
    else
     bif a1.2.2.2.2.2.2.2.2.2.2.1.2.2.1 !=(0:Int) then some true
     else
      bif decide ((↑(List.length a1.2.2.2.2.2.2.2.2.2.2.1.2.2.2.1):Int)>(0:Int)) then some true
      else
       bif decide ((↑(List.length a1.2.2.2.2.2.2.2.2.2.2.1.2.2.2.2.1):Int)>(0:Int)) then some true
       else
        bif decide ((↑(List.length a1.2.2.2.2.2.2.2.2.2.2.1.2.2.2.2.2.1):Int)>(0:Int)) then some true
        else
         bif decide ((↑(List.length a1.2.2.2.2.2.2.2.2.2.2.1.2.2.2.2.2.2.1):Int)>(0:Int)) then some true
         else some (decide ((↑(List.length a1.2.2.2.2.2.2.2.2.2.2.1.2.2.2.2.2.2.2.1):Int)>(0:Int))))
    fun (s0:Bool)=>bif s0 then some (1:Int) else some (0:Int)
  else
   Option.bind
    (bif a1.2.1==(0:Int) then some true
    else
     Option.bind (zF (a1.2.2.2.2.2.2.2.2.2.2.1.2.1,(1:Int),(255:Int),())) fun (y3:Bool)=>
      bif !y3 then some true else Option.bind (zF (a1.2.2.2.2.2.2.2.2.2.2.1.2.2.1,(1:Int),(255:Int),())) fun (y4:Bool)=>some !y4)
    fun (s5:Bool)=>
    bif s5 then some (1:Int)
    else
     Option.bind (w8 (a1,())) fun (y6:Int)=>
      bif y6 !=(0:Int) then some y6
      else
       Option.bind (kG (a1.2.2.2.2.2.2.2.2.2.2.1,())) fun (y7:Int)=>
        bif y7 !=(0:Int) then some y7
        else
         Option.bind
          (jS (a1,a1.2.2.2.2.2.2.2.2.2.2.1.2.2.2.2.2.2.2.1,(5:Int),(0:Int),(16777215:Int),(0:Int),()))
          fun (y8:Int)=>some y8
noncomputable def kY:ElS [zD]→Option (RTy.El (.p tI)):=fun x=>match x with
 |(a1,())=>
  Option.bind (yN (a1.1,())) fun (y0:Bool)=>
   bif !y0 then some (3:Int)
   else
    Option.bind (zF (a1.2.1,(0:Int),(65535:Int),())) fun (y1:Bool)=>
     bif !y1 then some (1:Int)
     else
      kI
       (Option.bind (wQ (a1,())) fun (y12:Int)=>
        bif y12 !=(0:Int) then some (Sum.inr y12)
        else
         Option.bind (j7 (a1,())) fun (y13:Int)=>
          bif y13 !=(0:Int) then some (Sum.inr y13)
          else
           Option.bind (w7 (a1,())) fun (y14:Int)=>
            bif y14 !=(0:Int) then some (Sum.inr y14)
            else
             Option.bind (yE (a1,())) fun (y15:Int)=>
              bif y15 !=(0:Int) then some (Sum.inr y15)
              else
               Option.bind (xI (a1,())) fun (y16:Int)=>
                bif y16 !=(0:Int) then some (Sum.inr y16)
                else
                 Option.bind (kH (a1,())) fun (y17:Int)=>
                  bif y17 !=(0:Int) then some (Sum.inr y17)
                  else
                   Option.bind (kF (a1,())) fun (y18:Int)=>
                    bif y18 !=(0:Int) then some (Sum.inr y18)
                    else
                     Option.bind (w9 (a1,())) fun (y19:Int)=>
                      bif y19 !=(0:Int) then some (Sum.inr y19)
                      else
                       Option.bind (jF (a1,())) fun (y20:Int)=>
                        bif y20 !=(0:Int) then some (Sum.inr y20)
                        else
                         Option.bind (wP (a1,())) fun (y21:Int)=>bif y21 !=(0:Int) then some (Sum.inr y21) else some (Sum.inl ()))
       fun (s22:Unit)=>some (0:Int)
noncomputable def qS:ElS [zCj,tU]→Option (RTy.El (.p .bool)):=fun x=>match x with
 |(a1,a2,())=>
  some
   (IntKind.wrap IntKind.u32
     (↑(BitVec.toNat
        (BitVec.ofInt (IntKind.bits IntKind.u32)
          (IntKind.wrap IntKind.u32 (↑(BitVec.toNat (BitVec.ofInt (IntKind.bits IntKind.u32) a2^^^BitVec.ofInt (IntKind.bits IntKind.u32) a1.1)):Int))&&&
         ~~~BitVec.ofInt (IntKind.bits IntKind.u32) a1.2.1)):
      Int)==
    (0:Int))
noncomputable def zBX:ElS [qY,qM]→Option (RTy.El (.p .bool)):=fun x=>match x with
 |(a1,a2,())=>
  Option.bind
   (bif a1.2.1==(-1:Int) then
    Option.bind (qS (a1.2.2.1,a2.1,())) fun (y8:Bool)=>
     bif y8 then
      Option.bind (qS (a1.2.2.2.1,a2.2.1,())) fun (y9:Bool)=>
       bif y9 then
        Option.bind (jO (a1.2.2.2.2.1,a2.2.2.2.1,())) fun (y10:Bool)=>
         bif y10 then Option.bind (jO (a1.2.2.2.2.2.1,a2.2.2.2.2.1,())) fun (y11:Bool)=>some y11 else some false
       else some false
     else some false
   else
    bif a1.2.1==a2.2.2.1 then
     Option.bind (qS (a1.2.2.1,a2.1,())) fun (y12:Bool)=>
      bif y12 then
       Option.bind (qS (a1.2.2.2.1,a2.2.1,())) fun (y13:Bool)=>
        bif y13 then
         Option.bind (jO (a1.2.2.2.2.1,a2.2.2.2.1,())) fun (y14:Bool)=>
          bif y14 then Option.bind (jO (a1.2.2.2.2.2.1,a2.2.2.2.2.1,())) fun (y15:Bool)=>some y15 else some false
        else some false
      else some false
    else some false)
   fun (s16:Bool)=>some s16
end Go.Ve

namespace Go.Ve
open Go Go.Proofs Go.Bd Go.Proofs.Bw
set_option maxRecDepth 1000000
set_option maxHeartbeats 0
theorem zI5:OkX 52 [(.int .u8)] (.p .bool) zAt:=fX [] (A:=(jl [jj 6 5726623056 [] [.t 2 .bool]])) (fn:=Tryz.f52) (by kernel_rfl) (by kernel_rfl) (by rintro ⟨⟩ ⟨a1,⟨⟩⟩;kernel_rfl)
noncomputable def zJ7:Ent:=jJ (by kernel_rfl) zI5
theorem zJ1:OkX 53 [(.int .u8)] (.p .bool) scan_digit:=fX [] (A:=(jl [jj 6 87376 [] [.t 2 .bool]])) (fn:=Tryz.f53) (by kernel_rfl) (by kernel_rfl) (by rintro ⟨⟩ ⟨a1,⟨⟩⟩;kernel_rfl)
noncomputable def zLu:Ent:=jJ (by kernel_rfl) zJ1
theorem zLf:OkX 22 [.str] (.p .bool) yN:=fX [zLu,zJ7] (A:=(jl [jj 6 91625968640 [] [.t 18 .bool],jj 30 6760803201217199455451071119360 [] [.t 51 .bool],jj 17 6760803201217223474557457793360 [] [.t 3 tI],jj 36 6760803201217223474557457793360 [] []])) (fn:=Tryz.f22) (by kernel_rfl) (by kernel_rfl) (by rintro ⟨⟩ ⟨a1,⟨⟩⟩;kernel_rfl)
noncomputable def zD9:Ent:=jJ (by kernel_rfl) zLf
theorem zH6:OkX 23 [tI,tI,tI] (.p .bool) zF:=fX [] (A:=(jl [jj 6 357912576 [] [.t 6 .bool]])) (fn:=Tryz.f23) (by kernel_rfl) (by kernel_rfl) (by rintro ⟨⟩ ⟨a1,a2,a3,⟨⟩⟩;kernel_rfl)
noncomputable def qJ:Ent:=jJ (by kernel_rfl) zH6
theorem zDH:OkA 85 [.d wU, .pp .str] (.p .bool) yJ:=fA [] (A:=fun _=>none) (fn:=Tryz.f85) (by kernel_rfl) (by kernel_rfl) (by rintro ⟨⟩ ⟨a1,a2,⟨⟩⟩;kernel_rfl)
noncomputable def zAy:Ent:=jJ (by kernel_rfl) zDH
theorem u5:OkA 84 [.d (.sl wU), .clo 85 [(true, .str)]] (.p tI) jA:=fA [zAy] (A:=(jl [jj 9 91625948416 [] [.t 8 tI],jj 28 91625968896 [] []])) (fn:=Tryz.f84) (by kernel_rfl) (by kernel_rfl) (by rintro ⟨⟩ ⟨a1,⟨a2,⟨⟩⟩,⟨⟩⟩;kernel_rfl)
noncomputable def wK:Ent:=jJ (by kernel_rfl) u5
theorem zE0:OkA 104 [.d wU, .pp tU] (.p .bool) vX:=fA [] (A:=(jl [jj 6 22369600 [] [.t 3 .bool]])) (fn:=Tryz.f104) (by kernel_rfl) (by kernel_rfl) (by rintro ⟨⟩ ⟨a1,a2,⟨⟩⟩;kernel_rfl)
noncomputable def zBr:Ent:=jJ (by kernel_rfl) zE0
theorem u4:OkA 84 [.d (.sl wU), .clo 104 [(true,tU)]] (.p tI) q9:=fA [zBr] (A:=(jl [jj 9 91625948416 [] [.t 8 tI],jj 28 91625968896 [] []])) (fn:=Tryz.f84) (by kernel_rfl) (by kernel_rfl) (by rintro ⟨⟩ ⟨a1,⟨a2,⟨⟩⟩,⟨⟩⟩;kernel_rfl)
noncomputable def wJ:Ent:=jJ (by kernel_rfl) u4
theorem zFx:OkX 54 [zD, .str] (.p tI) wV:=fX [wJ,wK,zAy] (A:=fun _=>none) (fn:=Tryz.f54) (by kernel_rfl) (by kernel_rfl) (by rintro ⟨⟩ ⟨a1,a2,⟨⟩⟩;kernel_rfl)
noncomputable def zBS:Ent:=jJ (by kernel_rfl) zFx
theorem zCp:OkX 55 [wU] (.p .bool) w6:=fX [qJ] (A:=(jl [jj 6 91625968960 [] [.t 18 .bool],jj 14 432691404877902302377449734799360 [] [.t 54 .bool],jj 22 28356431218673327386312173077953249280 [] [.t 62 .bool],jj 34 29733873221551602937429673197387906317025296 [] [.t 2 .bool],jj 38 1948639115447605850107391062664013828392568750096 [] [.t 2 .bool]])) (fn:=Tryz.f55) (by kernel_rfl) (by kernel_rfl) (by rintro ⟨⟩ ⟨a1,⟨⟩⟩;kernel_rfl)
noncomputable def zC9:Ent:=jJ (by kernel_rfl) zCp
theorem zH9:OkX 57 [tU,tI] (.p zI) xU:=fX [zGK,zEg] (A:=fun _=>none) (fn:=Tryz.f57) (by kernel_rfl) (by kernel_rfl) (by rintro ⟨⟩ ⟨a1,a2,⟨⟩⟩;kernel_rfl)
noncomputable def zJB:Ent:=jJ (by kernel_rfl) zH9
theorem zI9:OkX 86 [zI,zI] (.p .bool) zAC:=fX [zIj] (A:=(jl [jj 6 1431655680 [] [.t 4 .bool]])) (fn:=Tryz.f86) (by kernel_rfl) (by kernel_rfl) (by rintro ⟨⟩ ⟨a1,a2,⟨⟩⟩;kernel_rfl)
noncomputable def zJ9:Ent:=jJ (by kernel_rfl) zI9
theorem zHl:OkX 56 [zI,zI] (.p .bool) yA:=fX [zJ9] (A:=(jl [jj 6 22369536 [] [.t 4 .bool]])) (fn:=Tryz.f56) (by kernel_rfl) (by kernel_rfl) (by rintro ⟨⟩ ⟨a1,a2,⟨⟩⟩;kernel_rfl)
noncomputable def zDy:Ent:=jJ (by kernel_rfl) zHl
theorem zB9:OkX 24 [zD] (.p tI) wQ:=fX [zDy,zJB,zC9,zBS,zD9] (A:=(jl [jj 62 7089215977517939421060818149262229504 [] [.t 61 .bool],jj 53 28356863910078198992125906793120411664 [] [.t 37 tI],jj 72 28356863910078205288614550617882374992 [] [],jj 17 113427455640312821154458202477166605136 [] [.t 14 tI],jj 76 113427455640312821154458202477254685520 [] []])) (fn:=Tryz.f24) (by kernel_rfl) (by kernel_rfl) (by rintro ⟨⟩ ⟨a1,⟨⟩⟩;kernel_rfl)
noncomputable def zCD:Ent:=jJ (by kernel_rfl) zB9
theorem zCZ:OkA 90 [.d zCO, .pp .str] (.p .bool) uV:=fA [] (A:=fun _=>none) (fn:=Tryz.f90) (by kernel_rfl) (by kernel_rfl) (by rintro ⟨⟩ ⟨a1,a2,⟨⟩⟩;kernel_rfl)
noncomputable def xY:Ent:=jJ (by kernel_rfl) zCZ
theorem uU:OkA 89 [.d (.sl zCO), .clo 90 [(true, .str)]] (.p tI) qW:=fA [xY] (A:=(jl [jj 9 91625948416 [] [.t 8 tI],jj 28 91625968896 [] []])) (fn:=Tryz.f89) (by kernel_rfl) (by kernel_rfl) (by rintro ⟨⟩ ⟨a1,⟨a2,⟨⟩⟩,⟨⟩⟩;kernel_rfl)
noncomputable def u9:Ent:=jJ (by kernel_rfl) uU
theorem zEZ:OkX 59 [zD, .str] (.p tI) qN:=fX [u9,xY] (A:=fun _=>none) (fn:=Tryz.f59) (by kernel_rfl) (by kernel_rfl) (by rintro ⟨⟩ ⟨a1,a2,⟨⟩⟩;kernel_rfl)
noncomputable def yK:Ent:=jJ (by kernel_rfl) zEZ
theorem zFv:OkX 58 [tI,tI, .str,tI,tI] (.p tI) jW:=fX [zD9] (A:=fun _=>none) (fn:=Tryz.f58) (by kernel_rfl) (by kernel_rfl) (by rintro ⟨⟩ ⟨a1,a2,a3,a4,a5,⟨⟩⟩;kernel_rfl)
noncomputable def xP:Ent:=jJ (by kernel_rfl) zFv
theorem zBG:OkX 25 [zD] (.p tI) j7:=fX [zA7,xP,yK] (A:=(jl [jj 50 453709822561249672716739990403458007040 [] [.t 64 .bool],jj 41 1814839290245005132174842595809903558672 [] [.t 37 tI],jj 60 1814839290245005138397544263335532349264 [] [],jj 17 7259357160980020553885324958544030648144 [] [.t 15 tI],jj 64 7259357160980020553885324958544382969680 [] []])) (fn:=Tryz.f25) (by kernel_rfl) (by kernel_rfl) (by rintro ⟨⟩ ⟨a1,⟨⟩⟩;kernel_rfl)
noncomputable def zCe:Ent:=jJ (by kernel_rfl) zBG
theorem zDZ:OkA 92 [.d zGa, .pp .str] (.p .bool) xJ:=fA [] (A:=fun _=>none) (fn:=Tryz.f92) (by kernel_rfl) (by kernel_rfl) (by rintro ⟨⟩ ⟨a1,a2,⟨⟩⟩;kernel_rfl)
noncomputable def zAV:Ent:=jJ (by kernel_rfl) zDZ
theorem yI:OkA 91 [.d (.sl zGa), .clo 92 [(true, .str)]] (.p tI) jE:=fA [zAV] (A:=(jl [jj 9 91625948416 [] [.t 8 tI],jj 28 91625968896 [] []])) (fn:=Tryz.f91) (by kernel_rfl) (by kernel_rfl) (by rintro ⟨⟩ ⟨a1,⟨a2,⟨⟩⟩,⟨⟩⟩;kernel_rfl)
noncomputable def yX:Ent:=jJ (by kernel_rfl) yI
theorem zGr:OkX 61 [zD, .str] (.p tI) jB:=fX [yX,zAV] (A:=fun _=>none) (fn:=Tryz.f61) (by kernel_rfl) (by kernel_rfl) (by rintro ⟨⟩ ⟨a1,a2,⟨⟩⟩;kernel_rfl)
noncomputable def zAh:Ent:=jJ (by kernel_rfl) zGr
theorem zDX:OkX 62 [zGb] (.p .bool) kX:=fX [qJ] (A:=(jl [jj 6 1501199875790160 [] [.t 2 .bool]])) (fn:=Tryz.f62) (by kernel_rfl) (by kernel_rfl) (by rintro ⟨⟩ ⟨a1,⟨⟩⟩;kernel_rfl)
noncomputable def zE3:Ent:=jJ (by kernel_rfl) zDX
theorem zCq:OkX 26 [zD] (.p tI) w7:=fX [zE3,yK,xP,zAh] (A:=(jl [jj 50 1690199188403213049156704665600 [] [.t 50 .bool],jj 41 432691404871605813733715167199248 [] [.t 37 tI],jj 68 432691404877828515401240795989840 [] [],jj 17 1730765619511609209510165085210448 [] [.t 15 tI],jj 72 1730765619511609209510165437531984 [] []])) (fn:=Tryz.f26) (by kernel_rfl) (by kernel_rfl) (by rintro ⟨⟩ ⟨a1,⟨⟩⟩;kernel_rfl)
noncomputable def zDa:Ent:=jJ (by kernel_rfl) zCq
theorem zH7:OkA 70 [.d uE, .pp .str] (.p .bool) zC1:=fA [] (A:=fun _=>none) (fn:=Tryz.f70) (by kernel_rfl) (by kernel_rfl) (by rintro ⟨⟩ ⟨a1,a2,⟨⟩⟩;kernel_rfl)
noncomputable def zEe:Ent:=jJ (by kernel_rfl) zH7
theorem zAv:OkA 69 [.d (.sl uE), .clo 70 [(true, .str)]] (.p tI) wH:=fA [zEe] (A:=(jl [jj 9 91625948416 [] [.t 8 tI],jj 28 91625968896 [] []])) (fn:=Tryz.f69) (by kernel_rfl) (by kernel_rfl) (by rintro ⟨⟩ ⟨a1,⟨a2,⟨⟩⟩,⟨⟩⟩;kernel_rfl)
noncomputable def zAK:Ent:=jJ (by kernel_rfl) zAv
theorem zGs:OkX 35 [zD, .str] (.p tI) wW:=fX [zAK,zEe] (A:=fun _=>none) (fn:=Tryz.f35) (by kernel_rfl) (by kernel_rfl) (by rintro ⟨⟩ ⟨a1,a2,⟨⟩⟩;kernel_rfl)
noncomputable def zBT:Ent:=jJ (by kernel_rfl) zGs
theorem zEY:OkX 93 [zBj] (.p .bool) vW:=fX [] (A:=(jl [jj 6 22906492240 [] [.t 2 .bool]])) (fn:=Tryz.f93) (by kernel_rfl) (by kernel_rfl) (by rintro ⟨⟩ ⟨a1,⟨⟩⟩;kernel_rfl)
noncomputable def zFQ:Ent:=jJ (by kernel_rfl) zEY
theorem zFu:OkX 63 [qY] (.p .bool) yD:=fX [zFQ,qJ] (A:=(jl [jj 6 24019198012642560 [] [.t 27 .bool],jj 14 25185930556106761830400 [] [.t 37 .bool],jj 26 110768999648642245590349369258803216 [] [.t 2 .bool]])) (fn:=Tryz.f63) (by kernel_rfl) (by kernel_rfl) (by rintro ⟨⟩ ⟨a1,⟨⟩⟩;kernel_rfl)
noncomputable def zGH:Ent:=jJ (by kernel_rfl) zFu
theorem zFw:OkX 27 [zD] (.p tI) yE:=fX [zGH,xP,zBT] (A:=(jl [jj 41 412640383273149598772805648 [] [.t 37 tI],jj 60 412646605974817124401596240 [] [],jj 17 1650586719047173699507636048 [] [.t 15 tI],jj 64 1650586719047173699859957584 [] []])) (fn:=Tryz.f27) (by kernel_rfl) (by kernel_rfl) (by rintro ⟨⟩ ⟨a1,⟨⟩⟩;kernel_rfl)
noncomputable def zGI:Ent:=jJ (by kernel_rfl) zFw
theorem zBF:OkX 64 [zQD] (.p .bool) j6:=fX [qJ] (A:=(jl [jj 18 96076790618914832 [] [.t 2 .bool],jj 30 28356863910077802313341345742922448912 [] [.t 2 .bool],jj 38 35104097222852395565972675440846988211713747182350227175746043920 [] [.t 2 .bool]])) (fn:=Tryz.f64) (by kernel_rfl) (by kernel_rfl) (by rintro ⟨⟩ ⟨a1,⟨⟩⟩;kernel_rfl)
noncomputable def zCd:Ent:=jJ (by kernel_rfl) zBF
theorem zGq:OkX 28 [zD] (.p tI) xI:=fX [zBT,zCd] (A:=(jl [jj 34 96076700424601600 [] [.t 28 .bool],jj 17 384307168196690704 [] [.t 12 tI],jj 44 384307168202195728 [] []])) (fn:=Tryz.f28) (by kernel_rfl) (by kernel_rfl) (by rintro ⟨⟩ ⟨a1,⟨⟩⟩;kernel_rfl)
noncomputable def zHD:Ent:=jJ (by kernel_rfl) zGq
theorem zDG:OkX 29 [zD] (.p tI) kH:=fX [zBT] (A:=(jl [jj 18 98382635059778682880 [] [.t 33 .bool],jj 9 393530540239137080080 [] [.t 8 tI],jj 28 393530540239137101584 [] []])) (fn:=Tryz.f29) (by kernel_rfl) (by kernel_rfl) (by rintro ⟨⟩ ⟨a1,⟨⟩⟩;kernel_rfl)
noncomputable def zEd:Ent:=jJ (by kernel_rfl) zDG
theorem zHh:OkX 94 [zD,tU] (.p tI) zAn:=fX [wJ,wK,zBr] (A:=fun _=>none) (fn:=Tryz.f94) (by kernel_rfl) (by kernel_rfl) (by rintro ⟨⟩ ⟨a1,a2,⟨⟩⟩;kernel_rfl)
noncomputable def zIi:Ent:=jJ (by kernel_rfl) zHh
theorem zDW:OkX 65 [zD,zCN] (.p .bool) kW:=fX [qJ,zIi,zA7] (A:=(jl [jj 28 374933465089024 [] [.t 5 tI],jj 13 1501176969315328 [] [.t 18 tI, .t 5 tI],jj 32 1501199875785728 [] [.t 5 tI],jj 34 432691404877902300876341484978432 [] [.t 4 .bool]])) (fn:=Tryz.f65) (by kernel_rfl) (by kernel_rfl) (by rintro ⟨⟩ ⟨a1,a2,⟨⟩⟩;kernel_rfl)
noncomputable def zE2:Ent:=jJ (by kernel_rfl) zDW
theorem zDE:OkX 30 [zD] (.p tI) kF:=fX [zBS,zE2] (A:=(jl [jj 56 402975273111051399332864 [] [],jj 70 1772303888742337811519292622315192320 [] [.t 60 .bool],jj 61 7089215977106904642391844229862178832 [] [.t 45 tI],jj 80 7089215977519551322153637649101932368 [] [],jj 17 28356863910078205288614550618956154704 [] [.t 15 tI],jj 84 28356863910078205288614550619308476240 [] []])) (fn:=Tryz.f30) (by kernel_rfl) (by kernel_rfl) (by rintro ⟨⟩ ⟨a1,⟨⟩⟩;kernel_rfl)
noncomputable def zEb:Ent:=jJ (by kernel_rfl) zDE
theorem zDY:OkX 66 [zD,(.sl zAY),tI,tI,tI,tI] (.p tI) jS:=fX [zAh,qJ] (A:=(jl [jj 26 443075998594971957628597553923620864 [] [.t 59 .bool],jj 34 464598415226722720476703162744487437926400 [] [.t 69 .bool],jj 45 124714687448262656856724350867958696886057780117504 [] [.t 74 tI],jj 64 124714806385570382353381105725122817583495025524736 [] [],jj 17 498859225542281529413524422900491270703374686748672 [] [.t 22 tI],jj 68 498859225542281529413524422900491270708872244887552 [] []])) (fn:=Tryz.f66) (by kernel_rfl) (by kernel_rfl) (by rintro ⟨⟩ ⟨a1,a2,a3,a4,a5,a6,⟨⟩⟩;kernel_rfl)
noncomputable def uW:Ent:=jJ (by kernel_rfl) zDY
theorem zCs:OkX 31 [zD] (.p tI) w9:=fX [uW,zDy,zA7,qJ] (A:=(jl [jj 14 24019197990273024 [] [.t 27 .bool],jj 54 108172748057805635146029098598400 [] [.t 53 .bool],jj 74 475749202545122716941223367868614426146897920 [] [.t 74 .bool],jj 65 1902996923497177508428971636524009593487015952 [] [.t 59 tI],jj 84 1902996923607946508076102724839840676277439760 [] [],jj 45 7611987694431786032310757759912339508276808976 [] [.t 39 tI],jj 88 7611987694431786032310856929608479770826296592 [] []])) (fn:=Tryz.f31) (by kernel_rfl) (by kernel_rfl) (by rintro ⟨⟩ ⟨a1,⟨⟩⟩;kernel_rfl)
noncomputable def zDc:Ent:=jJ (by kernel_rfl) zCs
theorem zAG:OkX 32 [zD] (.p tI) jF:=fX [uW,yK,qJ] (A:=(jl [jj 14 24019198012555264 [] [.t 27 .bool],jj 34 108172851219469426679694103674880 [] [.t 53 .bool]])) (fn:=Tryz.f32) (by kernel_rfl) (by kernel_rfl) (by rintro ⟨⟩ ⟨a1,⟨⟩⟩;kernel_rfl)
noncomputable def zA6:Ent:=jJ (by kernel_rfl) zAG
theorem zCr:OkX 67 [zD] (.p tI) w8:=fX [zAh,qJ] (A:=(jl [jj 26 384305702186778624 [] [.t 29 .bool],jj 34 6760803201216839167480881479680 [] [.t 51 .bool],jj 45 29037400951670170029793947671530464882704 [] [.t 58 tI],jj 64 29037428643920082215541299834154647565136 [] [],jj 17 116149714575680328862165199336708784534352 [] [.t 16 tI],jj 68 116149714575680328862165199336710210597712 [] []])) (fn:=Tryz.f67) (by kernel_rfl) (by kernel_rfl) (by rintro ⟨⟩ ⟨a1,⟨⟩⟩;kernel_rfl)
noncomputable def zDb:Ent:=jJ (by kernel_rfl) zCr
theorem zCW:OkX 105 [(.sl zI),zI] (.p tI) vM:=fX [] (A:=(jl [jj 9 91625948416 [] [.t 8 tI],jj 28 91625968896 [] []])) (fn:=Tryz.f105) (by kernel_rfl) (by kernel_rfl) (by rintro ⟨⟩ ⟨a1,a2,⟨⟩⟩;kernel_rfl)
noncomputable def zDJ:Ent:=jJ (by kernel_rfl) zCW
theorem zBB:OkX 95 [(.sl zI),zI] (.p .bool) j4:=fX [zDJ] (A:=fun _=>none) (fn:=Tryz.f95) (by kernel_rfl) (by kernel_rfl) (by rintro ⟨⟩ ⟨a1,a2,⟨⟩⟩;kernel_rfl)
noncomputable def zCc:Ent:=jJ (by kernel_rfl) zBB
theorem zDF:OkX 68 [tPV] (.p tI) kG:=fX [zCc,zA7] (A:=(jl [jj 17 393530539872633226064 [] [.t 20 tI],jj 44 393530540233410478928 [] [],jj 77 1814837559479385626862121729470654251024 [] [.t 56 tI],jj 96 1814839290244901976801390791279855744016 [] [],jj 57 7259357160980014106280953680522123621392 [] [.t 42 tI],jj 100 7259357160980020453141506657325290828816 [] [],jj 122 127707839947020960621285735288789705611309955520921600 [] [.t 88 .bool],jj 141 140416254979905894014701075081386214661643250350482666439728693264 [] [.t 99 tI],jj 160 140416388891409582261987706654619296583782412574799488157291380752 [] [],jj 113 561665555565638329055443877005183475710685651638807802095013724176 [] [.t 74 tI],jj 164 561665555565638329055560955917475761482178714159739205992920121360 [] []])) (fn:=Tryz.f68) (by kernel_rfl) (by kernel_rfl) (by rintro ⟨⟩ ⟨a1,⟨⟩⟩;kernel_rfl)
noncomputable def zEc:Ent:=jJ (by kernel_rfl) zDF
theorem zB8:OkX 33 [zD] (.p tI) wP:=fX [uW,zEc,zDb,qJ] (A:=(jl [jj 14 105637550019019116791390535680 [] [.t 48 .bool],jj 26 113427455534675271135439085685864136704 [] [.t 63 .bool]])) (fn:=Tryz.f33) (by kernel_rfl) (by kernel_rfl) (by rintro ⟨⟩ ⟨a1,⟨⟩⟩;kernel_rfl)
noncomputable def zCC:Ent:=jJ (by kernel_rfl) zB8
theorem zD0:OkX 7 [zD] (.p tI) kY:=fX [zCC,zA6,zDc,zEb,zEd,zHD,zGI,zDa,zCe,zCD,qJ,zD9] (A:=(jl [jj 52 78062392109437952 [] []])) (fn:=Tryz.f7) (by kernel_rfl) (by kernel_rfl) (by rintro ⟨⟩ ⟨a1,⟨⟩⟩;kernel_rfl)
theorem zDI:OkX 100 [zCj,tU] (.p .bool) qS:=fX [] (A:=fun _=>none) (fn:=Tryz.f100) (by kernel_rfl) (by kernel_rfl) (by rintro ⟨⟩ ⟨a1,a2,⟨⟩⟩;kernel_rfl)
noncomputable def zEh:Ent:=jJ (by kernel_rfl) zDI
theorem zJc:OkX 77 [qY,qM] (.p .bool) zBX:=fX [zFc,zEh] (A:=(jl [jj 6 25790417485112089060398336 [] [.t 4 .bool]])) (fn:=Tryz.f77) (by kernel_rfl) (by kernel_rfl) (by rintro ⟨⟩ ⟨a1,a2,⟨⟩⟩;kernel_rfl)
noncomputable def zKa:Ent:=jJ (by kernel_rfl) zJc
end Go.Ve





namespace Go.Proofs.Bw
open Go Go.Proofs Go.Bd Go.Ve
abbrev lim:Nat:=5864062014000
structure POk (p:Pub):Prop where
 ok:zFf 220 p
 len:p.sh.length=p.S.ns.length+2
theorem zMt:POk zJe:=⟨zOV 220,rfl⟩
def Rp (p:Pub) (f:Int) (φ:(Nat→Bool)→Bool):Prop:= ∃k:Nat,f=k∧p.sh[k]? =some true∧ ∀a,den p.S.ns k a=φ a
theorem POk.lt {p:Pub} (hp:POk p) {k:Nat} (h:p.sh[k]? =some true):k<p.S.ns.length+2:=by
 have:=(List.getElem?_eq_some_iff.1 h).1
 have:=hp.len
 omega
structure Stp (p:Pub) (c:Nat) (p':Pub):Prop where
 ok:POk p'
 app: ∃e,p'.S.ns=p.S.ns++e
 sh: ∀i:Nat,p.sh[i]? =some true→p'.sh[i]? =some true
 cnt:p'.S.ns.length≤p.S.ns.length+c
theorem Stp.refl {p:Pub} (hp:POk p):Stp p 0 p:=⟨hp,⟨[],by simp⟩,fun _ h=>h,Nat.le_refl _⟩
theorem Stp.trans {p q r:Pub} {c d:Nat} (h:Stp p c q) (k:Stp q d r):Stp p (c+d) r:=by
 obtain ⟨e,he⟩:=h.app
 obtain ⟨e',he'⟩:=k.app
 exact ⟨k.ok,⟨e++e',by rw [he',he,List.append_assoc]⟩,fun i hi=>k.sh i (h.sh i hi),by have:=h.cnt;have:=k.cnt;omega⟩
theorem Stp.mono {p q:Pub} {c d:Nat} (h:Stp p c q) (hc:c≤d):Stp p d q:=⟨h.ok,h.app,h.sh,by have:=h.cnt;omega⟩
theorem Rp.step {p p':Pub} {c:Nat} {f:Int} {φ:(Nat→Bool)→Bool} (h:Rp p f φ) (hp:POk p) (k:Stp p c p'):Rp p' f φ:=by
 obtain ⟨m,rfl,h1,h2⟩:=h
 refine ⟨m,rfl,k.sh m h1,fun a=> ?_⟩
 obtain ⟨e,he⟩:=k.app
 have W:=hp.ok.ok.wf
 have W':=k.ok.ok.ok.wf
 rw [he] at W' ⊢
 rw [W.app W' (hp.lt h1),h2]
theorem Rp.congr {p:Pub} {f:Int} {φ ψ:(Nat→Bool)→Bool} (h:Rp p f φ) (he: ∀a,φ a=ψ a):Rp p f ψ:=by
 obtain ⟨m,h0,h1,h2⟩:=h
 exact ⟨m,h0,h1,fun a=>(h2 a).trans (he a)⟩
theorem Rp.eq {p:Pub} {f g:Int} {φ ψ:(Nat→Bool)→Bool} (hp:POk p) (h:Rp p f φ) (k:Rp p g ψ):f=g↔ ∀a,φ a=ψ a:=by
 obtain ⟨m,rfl,h1,h2⟩:=h
 obtain ⟨m',rfl,k1,k2⟩:=k
 constructor
 ·intro he
  have:m=m':=by omega
  subst this
  exact fun a=>(h2 a).symm.trans (k2 a)
 ·intro he
  have:=hp.ok.ok.wf.canon (hp.lt h1) (hp.lt k1) (fun a=>by rw [h2,k2,he])
  rw [this]
theorem Rp.f0 {p:Pub} (hp:POk p):Rp p 0 (fun _=>false):=⟨0,rfl,hp.ok.f0,fun a=>by rw [wT (by omega)];rfl⟩
theorem Rp.f1 {p:Pub} (hp:POk p):Rp p 1 (fun _=>true):=⟨1,rfl,hp.ok.f1,fun a=>by rw [wT (by omega)];rfl⟩
theorem Rp.val {p:Pub} {f:Int} {φ:(Nat→Bool)→Bool} (h:Rp p f φ):Bw.val p f=true:=by
 obtain ⟨m,rfl,h1,_⟩:=h
 simp only [Bw.val,Int.toNat_natCast,h1,Bool.and_eq_true,decide_eq_true_eq,beq_self_eq_true,and_true]
 omega
theorem zGB {sh:List Bool} {m k:Nat} (h:sh.length=m+2) (hk:m≤k):(grow sh k).length=k+2:=by
 rw [grow,List.length_append,List.length_replicate]
 omega
theorem zIq {p:Pub} (hp:POk p) {f g h:Int} {F G H:(Nat→Bool)→Bool} (hf:Rp p f F) (hg:Rp p g G) (hh:Rp p h H) {K:Nat} (hw:Wd K (fun a=>if F a then G a else H a)) (hr:p.S.ns.length+220*K≤lim)
  {nx i:Nat} (hi:i+1=nx): ∃p' y,zDr 220 (nx,some p) i f g h=some ((nx,some p'),y)∧Stp p (220*K) p'∧Rp p' y (fun a=>if F a then G a else H a):=by
 have vf:=hf.val
 have vg:=hg.val
 have vh:=hh.val
 obtain ⟨a,rfl,a1,a2⟩:=hf
 obtain ⟨b,rfl,b1,b2⟩:=hg
 obtain ⟨c,rfl,c1,c2⟩:=hh
 have I:=zFF (n:=220) 221 a b c 0 p.S hp.ok.ok (hp.lt a1) (hp.lt b1) (hp.lt c1) (Nat.zero_le _) (Nat.zero_le _) (Nat.zero_le _) (by omega)
 have hden: ∀x,den (jP 220 221 a b c p.S).2.ns (jP 220 221 a b c p.S).1 x=if F x then G x else H x:=by
  intro x
  rw [I.den,zAw]
  simp only [a2,b2,c2]
 obtain ⟨e,he⟩:=I.app
 have hle:p.S.ns.length≤(jP 220 221 a b c p.S).2.ns.length:=by rw [he,List.length_append];omega
 have hcnt:(jP 220 221 a b c p.S).2.ns.length≤p.S.ns.length+220*K:=
  zTK I.ok.wf I.lt (by rw [show den (jP 220 221 a b c p.S).2.ns (jP 220 221 a b c p.S).1=fun x=>if F x then G x else H x from funext hden];exact hw) hle I.new
 have hroom:room (jP 220 221 a b c p.S).2=true:=by
  simp only [room,decide_eq_true_eq]
  have:p.S.ns.length+220*K≤5864062014000:=hr
  omega
 refine ⟨(zIm 220 p a b c).2,(zIm 220 p a b c).1,?_,⟨⟨?_,?_⟩,⟨e,he⟩,?_,hcnt⟩,⟨(zIm 220 p a b c).1,rfl,?_,hden⟩⟩
 ·simp only [zDr,vf,vg,vh,hi,decide_true,Bool.true_and,Int.toNat_natCast,hroom,if_true]
 ·exact zGT hp.ok a1 b1 c1 hp.len
 ·show (zCl _ _).length=_
  rw [zCl,List.length_set]
  exact zGB hp.len hle
 ·intro j hj
  exact yM hj
 ·show ((grow p.sh (jP 220 221 a b c p.S).2.ns.length).set (jP 220 221 a b c p.S).1 true)[(jP 220 221 a b c p.S).1]? =some true
  rw [List.getElem?_set_self]
  rw [zGB hp.len hle]
  exact I.lt
theorem zSi {p:Pub} (hp:POk p) {v:Nat} (hv:v<220) (hr:p.S.ns.length+1≤lim) {nx i:Nat} (hi:i+1=nx):
  ∃p' y,zKj 220 (nx,some p) i v=some ((nx,some p'),y)∧Stp p 1 p'∧Rp p' y (fun a=>a v):=by
 have M:=zOW (n:=220) hp.ok.ok.wf (v:=v) (lo:=0) (hi:=1) hv (by omega) (by omega) (by rw [uH (by omega)];exact hv) (by rw [uH (by omega)];exact hv)
 obtain ⟨e,he,hel⟩:=M.app
 have hle:p.S.ns.length≤(mk p.S.ns v 0 1).2.length:=by rw [he,List.length_append];omega
 have hle2:(mk p.S.ns v 0 1).2.length≤p.S.ns.length+1:=by rw [he,List.length_append];omega
 have hroom:room ⟨(mk p.S.ns v 0 1).2,[]⟩=true:=by
  simp only [room,decide_eq_true_eq]
  have:p.S.ns.length+1≤5864062014000:=hr
  omega
 have hs:zKj 220 (nx,some p) i v=some ((nx,some (zKc p v).2),((zKc p v).1:Int)):=by
  simp only [zKj,hi,Int.toNat_natCast,hroom,decide_true,Bool.true_and,Bool.and_true,Bool.and_eq_true,decide_eq_true_eq]
  rw [if_pos ⟨by omega,hv⟩]
 refine ⟨(zKc p v).2,(zKc p v).1,hs,⟨⟨?_,?_⟩,⟨e,he⟩,?_,hle2⟩,⟨(zKc p v).1,rfl,?_,?_⟩⟩
 ·refine ⟨⟨M.wf,?_⟩,yM hp.ok.f0,yM hp.ok.f1⟩
  intro t ht
  obtain ⟨m1,m2,m3⟩:=hp.ok.ok.memo t ht
  have W':=M.wf
  simp only [zKc]
  rw [he] at W' ⊢
  exact ⟨m1.app,by simp only [List.length_append];omega,fun a=>by rw [hp.ok.ok.wf.app W' m2,zD3 hp.ok.ok.wf W' m1];exact m3 a⟩
 ·show (zCl _ _).length=_
  rw [zCl,List.length_set]
  exact zGB hp.len hle
 ·intro j hj
  exact yM hj
 ·show ((grow p.sh (mk p.S.ns v 0 1).2.length).set (mk p.S.ns v 0 1).1 true)[(mk p.S.ns v 0 1).1]? =some true
  rw [List.getElem?_set_self]
  rw [zGB hp.len hle]
  exact M.lt
 ·intro a
  show den (mk p.S.ns v 0 1).2 (mk p.S.ns v 0 1).1 a=a v
  rw [M.den,wT (by omega),wT (by omega)]
  cases a v<;>rfl
theorem zQv {p:Pub} {f:Int} {φ:(Nat→Bool)→Bool} (h:Rp p f φ) {nx i:Nat} (hi:i+1=nx):zGd (nx,some p) i f=some ((nx,some p),true):=by
 have hv:=h.val
 obtain ⟨m,rfl,h1,_⟩:=h
 simp only [zGd,hi,decide_true,Bool.true_and,hv]
 rw [if_pos (by simp)]
theorem zST {p:Pub} {f:Int} {φ:(Nat→Bool)→Bool} (h:Rp p f φ) {nx i:Nat} (hi:i+1=nx) {al:List Bool} (ha:0<al.length):zIN (nx,some p) i f al=some ((nx,some p),φ (fun v=>al.getD v false)):=by
 have hv:=h.val
 obtain ⟨m,rfl,h1,h2⟩:=h
 simp only [zIN,hi,decide_true,Bool.true_and,hv,ha,if_true,Int.toNat_natCast,h2]
end Go.Proofs.Bw
