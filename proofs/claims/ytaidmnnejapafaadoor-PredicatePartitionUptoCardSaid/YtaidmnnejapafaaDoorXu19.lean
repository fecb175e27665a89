/-
  law31: functions of header, predicate and the laws' helpers, out of code.
  law31: contracts of these functions.
  law31: the sanity check and the laws on tables, out of code.
  law31: contracts of the sanity check and the laws on tables.
  law31, in plain Lean: what the operations on one manager come to, by what numbers denote.
  law31, plain: masks, prefixes, bits.
  law31, plain: operations on sets of packets; wildcards and prefixes as sets.
  law31, plain: the longest match of a table as a set.
  law31, plain: the sets of entries, hops and decisions; forwarding tables.
-/
import Derived.Test.YtaidmnnejapafaaDoorXu18
import Derived.Test.YtaidmnnejapafaaDoorXu1
import Derived.Test.YtaidmnnejapafaaDoorXu10
set_option linter.unusedVariables false
namespace Go.Ve
open Go Go.Proofs Go.Bd Go.Proofs.Bw
noncomputable def xD:ElA [.d tI, .pp tI]→Option (RTy.El (.p .bool)):=fun x=>match x with
 |(a1,a2,())=>
  some (a1==a2)
noncomputable def zB8:ElS [tI]→Option (RTy.El (.p tI)):=fun x=>match x with
 |(a1,())=>
  some (if (if (32:Int)<a1 then (32:Int) else a1)>(0:Int) then if (32:Int)<a1 then (32:Int) else a1 else (0:Int))
noncomputable def xW:ElS [tI]→Option (RTy.El (.p tU)):=fun x=>match x with
 |(a1,())=>
  Option.bind (zB8 (a1,())) fun (y0:Int)=>
   bif decide ((0:Int)≤IntKind.wrap IntKind.i64 ((32:Int) -y0)) then
    some (IntKind.wrap IntKind.u32 ((4294967295:Int)*(2:Int)^min (Int.toNat (IntKind.wrap IntKind.i64 ((32:Int) -y0))) (IntKind.bits IntKind.u32)))
   else none
noncomputable def jW:ElS [zJ]→Option (RTy.El (.p .bool)):=fun x=>match x with
 |(a1,())=>
  Option.bind
   (bif decide (a1.2.1≥(0:Int)) then
    bif decide (a1.2.1≤(32:Int)) then
     Option.bind (xW (a1.2.1,())) fun (y2:Int)=>
      some (IntKind.wrap IntKind.u32 (↑(BitVec.toNat (BitVec.ofInt (IntKind.bits IntKind.u32) a1.1&&& ~~~BitVec.ofInt (IntKind.bits IntKind.u32) y2)):Int)==(0:Int))
    else some false
   else some false)
   fun (s3:Bool)=>some s3
noncomputable def wG:MSt→ElS [.hd,tI, .bool,zA2]→Option (MSt×RTy.El (.p tI)):=fun st0 x=>match x with
 |(a1,a2,a3,a4,())=>
  Option.bind (bif a2 !=(0:Int) then some (a2 !=(1:Int),st0) else some (false,st0)) fun (s0:Bool×MSt)=>
   bif s0.1 then some (s0.2,(-1:Int))
   else
    Option.bind
     (Option.bind (zN (a2,())) fun (y25:Int)=>
      zK
       (fun (s26:Int×Int×MSt)=>
        bif decide (s26.1≥(0:Int)) then
         Option.bind
          (Option.bind (zN (a2,())) fun (y27:Int)=>
           bif decide ((0:Int)≤IntKind.wrap IntKind.i64 (IntKind.wrap IntKind.i64 (y27- (1:Int)) -s26.1)) then
            bif
              IntKind.wrap IntKind.u32
                (↑(BitVec.toNat
                   (BitVec.ofInt (IntKind.bits IntKind.u32)
                     (Int.fdiv a4.2.1
                      ((2:Int)^
                        min (Int.toNat (IntKind.wrap IntKind.i64 (IntKind.wrap IntKind.i64 (y27- (1:Int)) -s26.1))) (IntKind.bits IntKind.u32)))&&&
                    BitVec.ofInt (IntKind.bits IntKind.u32) (1:Int))):
                 Int)==
               (1:Int) then
             some s26.2
            else
             Option.bind (wJ (a2,s26.1,a3,())) fun (y28:Int)=>
              Option.bind (zFL s26.2.2 (a1,y28,())) fun (y29:MSt×Int)=>
               Option.bind
                (bif decide ((0:Int)≤IntKind.wrap IntKind.i64 (IntKind.wrap IntKind.i64 (y27- (1:Int)) -s26.1)) then
                 bif
                   IntKind.wrap IntKind.u32
                     (↑(BitVec.toNat
                        (BitVec.ofInt (IntKind.bits IntKind.u32)
                          (Int.fdiv a4.1
                           ((2:Int)^
                             min (Int.toNat (IntKind.wrap IntKind.i64 (IntKind.wrap IntKind.i64 (y27- (1:Int)) -s26.1)))
                              (IntKind.bits IntKind.u32)))&&&
                         BitVec.ofInt (IntKind.bits IntKind.u32) (1:Int))):
                      Int)==
                    (0:Int) then
                  Option.bind (vK y29.1 (a1,y29.2,())) fun (y30:MSt×Int)=>some (y30.2,y30.1)
                 else some (y29.2,y29.1)
                else none)
                fun (s31:Int×MSt)=>Option.bind (zW s31.2 (a1,s31.1,s26.2.1,())) fun (y32:MSt×Int)=>some (y32.2,y32.1)
           else none)
          fun (s33:Int×MSt)=>some (Sum.inl (IntKind.wrap IntKind.i64 (s26.1- (1:Int)),s33))
        else some (Sum.inr s26.2))
       (IntKind.wrap IntKind.i64 (y25- (1:Int)),(1:Int),s0.2))
     fun (s34:Int×MSt)=>some (s34.2,s34.1)
noncomputable def jO:MSt→ElS [.hd,tI, .bool,zJ]→Option (MSt×RTy.El (.p tI)):=fun st0 x=>match x with
 |(a1,a2,a3,a4,())=>
  Option.bind (jW (a4,())) fun (y0:Bool)=>
   bif !y0 then some (st0,(-1:Int))
   else
    Option.bind (xW (a4.2.1,())) fun (y3:Int)=>
     Option.bind
      (wG st0
       (a1,a2,a3,
        (a4.1,
         IntKind.wrap IntKind.u32
          (↑(BitVec.toNat
             (BitVec.ofInt (IntKind.bits IntKind.u32) (if IntKind.signed IntKind.u32=true then (-1:Int) else IntKind.max IntKind.u32)^^^
              BitVec.ofInt (IntKind.bits IntKind.u32) y3)):
           Int),
         ()),
        ()))
      fun (y4:MSt×Int)=>some (y4.1,y4.2)
noncomputable def v5:MSt→ElA [.d .hd, .d (.sl zD), .clo 39 [(true,tI)]]→Option (MSt×RTy.El (.tu [tI,tI])):=fun st0 x=>match x with
 |(a1,a2,(a3,()),())=>
  Option.bind
   (zK
    (fun (s55:Int×Int×Int×MSt)=>
     bif decide (s55.1≥(0:Int)) then
      Option.bind
       (zK
        (fun (s56:Int×Int×Int×MSt)=>
         bif decide (s56.1< (↑(List.length a2):Int)) then
          Option.bind
           (Option.bind (idx a2 s56.1) fun (y57:Ty.El zD)=>
            bif y57.1.2.1 !=s55.1 then some s56.2
            else
             Option.bind (jO s56.2.2.2 (a1,(1:Int),false,y57.1,())) fun (y58:MSt×Int)=>
              Option.bind
               (Option.bind (xD (s56.1,a3,())) fun (y59:Bool)=>
                bif y59 then
                 Option.bind (zW y58.1 (a1,s56.2.2.1,y58.2,())) fun (y60:MSt×Int)=>
                  Option.bind (vX y60.1 (a1,s56.2.1,y60.2,())) fun (y61:MSt×Int)=>some (y61.2,y61.1)
                else some (s56.2.1,y58.1))
               fun (s62:Int×MSt)=>
               Option.bind (vK s62.2 (a1,y58.2,())) fun (y63:MSt×Int)=>
                Option.bind (zW y63.1 (a1,s56.2.2.1,y63.2,())) fun (y64:MSt×Int)=>some (s62.1,y64.2,y64.1))
           fun (s65:Int×Int×MSt)=>some (Sum.inl (IntKind.wrap IntKind.i64 (s56.1+(1:Int)),s65))
         else some (Sum.inr s56.2))
        ((0:Int),s55.2))
       fun (s66:Int×Int×MSt)=>some (Sum.inl (IntKind.wrap IntKind.i64 (s55.1- (1:Int)),s66))
     else some (Sum.inr s55.2))
    ((32:Int),(0:Int),(1:Int),st0))
   fun (s67:Int×Int×MSt)=>some (s67.2.2,s67.1,s67.2.1,())
noncomputable def wO:ElA [.d tI, .pp (.sl zD)]→Option (RTy.El (.p .bool)):=fun x=>match x with
 |(a1,a2,())=>
  Option.bind (idx a2 a1) fun (y0:Ty.El zD)=>some y0.2.2.1
noncomputable def v7:MSt→ElA [.d .hd, .d (.sl zD), .clo 37 [(true,(.sl zD))]]→Option (MSt×RTy.El (.tu [tI,tI])):=fun st0 x=>match x with
 |(a1,a2,(a3,()),())=>
  Option.bind
   (zK
    (fun (s55:Int×Int×Int×MSt)=>
     bif decide (s55.1≥(0:Int)) then
      Option.bind
       (zK
        (fun (s56:Int×Int×Int×MSt)=>
         bif decide (s56.1< (↑(List.length a2):Int)) then
          Option.bind
           (Option.bind (idx a2 s56.1) fun (y57:Ty.El zD)=>
            bif y57.1.2.1 !=s55.1 then some s56.2
            else
             Option.bind (jO s56.2.2.2 (a1,(1:Int),false,y57.1,())) fun (y58:MSt×Int)=>
              Option.bind
               (Option.bind (wO (s56.1,a3,())) fun (y59:Bool)=>
                bif y59 then
                 Option.bind (zW y58.1 (a1,s56.2.2.1,y58.2,())) fun (y60:MSt×Int)=>
                  Option.bind (vX y60.1 (a1,s56.2.1,y60.2,())) fun (y61:MSt×Int)=>some (y61.2,y61.1)
                else some (s56.2.1,y58.1))
               fun (s62:Int×MSt)=>
               Option.bind (vK s62.2 (a1,y58.2,())) fun (y63:MSt×Int)=>
                Option.bind (zW y63.1 (a1,s56.2.2.1,y63.2,())) fun (y64:MSt×Int)=>some (s62.1,y64.2,y64.1))
           fun (s65:Int×Int×MSt)=>some (Sum.inl (IntKind.wrap IntKind.i64 (s56.1+(1:Int)),s65))
         else some (Sum.inr s56.2))
        ((0:Int),s55.2))
       fun (s66:Int×Int×MSt)=>some (Sum.inl (IntKind.wrap IntKind.i64 (s55.1- (1:Int)),s66))
     else some (Sum.inr s55.2))
    ((32:Int),(0:Int),(1:Int),st0))
   fun (s67:Int×Int×MSt)=>some (s67.2.2,s67.1,s67.2.1,())
noncomputable def vC:ElA [.d tI, .pp (.sl zD)]→Option (RTy.El (.p .bool)):=fun x=>match x with
 |(a1,a2,())=>
  Option.bind
   (Option.bind (idx a2 a1) fun (y2:Ty.El zD)=>
    bif !y2.2.2.1 then Option.bind (idx a2 a1) fun (y3:Ty.El zD)=>some ((↑(List.length y3.2.1):Int)==(0:Int)) else some false)
   fun (s4:Bool)=>some s4
noncomputable def v6:MSt→ElA [.d .hd, .d (.sl zD), .clo 38 [(true,(.sl zD))]]→Option (MSt×RTy.El (.tu [tI,tI])):=fun st0 x=>match x with
 |(a1,a2,(a3,()),())=>
  Option.bind
   (zK
    (fun (s55:Int×Int×Int×MSt)=>
     bif decide (s55.1≥(0:Int)) then
      Option.bind
       (zK
        (fun (s56:Int×Int×Int×MSt)=>
         bif decide (s56.1< (↑(List.length a2):Int)) then
          Option.bind
           (Option.bind (idx a2 s56.1) fun (y57:Ty.El zD)=>
            bif y57.1.2.1 !=s55.1 then some s56.2
            else
             Option.bind (jO s56.2.2.2 (a1,(1:Int),false,y57.1,())) fun (y58:MSt×Int)=>
              Option.bind
               (Option.bind (vC (s56.1,a3,())) fun (y59:Bool)=>
                bif y59 then
                 Option.bind (zW y58.1 (a1,s56.2.2.1,y58.2,())) fun (y60:MSt×Int)=>
                  Option.bind (vX y60.1 (a1,s56.2.1,y60.2,())) fun (y61:MSt×Int)=>some (y61.2,y61.1)
                else some (s56.2.1,y58.1))
               fun (s62:Int×MSt)=>
               Option.bind (vK s62.2 (a1,y58.2,())) fun (y63:MSt×Int)=>
                Option.bind (zW y63.1 (a1,s56.2.2.1,y63.2,())) fun (y64:MSt×Int)=>some (s62.1,y64.2,y64.1))
           fun (s65:Int×Int×MSt)=>some (Sum.inl (IntKind.wrap IntKind.i64 (s56.1+(1:Int)),s65))
         else some (Sum.inr s56.2))
        ((0:Int),s55.2))
       fun (s66:Int×Int×MSt)=>some (Sum.inl (IntKind.wrap IntKind.i64 (s55.1- (1:Int)),s66))
     else some (Sum.inr s55.2))
    ((32:Int),(0:Int),(1:Int),st0))
   fun (s67:Int×Int×MSt)=>some (s67.2.2,s67.1,s67.2.1,())
noncomputable def u4:ElS [(.sl vL),vL]→Option (RTy.El (.p tI)):=fun x=>match x with
 |(a1,a2,())=>
  kB
   (zK
    (fun (s5:Int)=>
     bif decide (s5< (↑(List.length a1):Int)) then
      Option.bind (idx a1 s5) fun (y6:Ty.El vL)=>
       bif a2.1==y6.1&&(a2.2.1==y6.2.1&&true) then some (Sum.inr (Sum.inr s5)) else some (Sum.inl (IntKind.wrap IntKind.i64 (s5+(1:Int))))
     else some (Sum.inr (Sum.inl ())))
    (0:Int))
   fun (s7:Unit)=>some (-1:Int)
noncomputable def kD:ElS [(.sl vL),vL]→Option (RTy.El (.p .bool)):=fun x=>match x with
 |(a1,a2,())=>
  Option.bind (u4 (a1,a2,())) fun (y0:Int)=>some (decide (y0≥(0:Int)))
noncomputable def kE:ElA [.d tI, .pp (.sl zD), .pp vL]→Option (RTy.El (.p .bool)):=fun x=>match x with
 |(a1,a2,a3,())=>
  Option.bind
   (Option.bind (idx a2 a1) fun (y6:Ty.El zD)=>
    bif !y6.2.2.1 then Option.bind (idx a2 a1) fun (y7:Ty.El zD)=>Option.bind (kD (y7.2.1,a3,())) fun (y8:Bool)=>some y8 else some false)
   fun (s9:Bool)=>some s9
noncomputable def v4:MSt→ElA [.d .hd, .d (.sl zD), .clo 40 [(true,(.sl zD)),(true,vL)]]→Option (MSt×RTy.El (.tu [tI,tI])):=fun st0 x=>match x with
 |(a1,a2,(a3,a4,()),())=>
  Option.bind
   (zK
    (fun (s55:Int×Int×Int×MSt)=>
     bif decide (s55.1≥(0:Int)) then
      Option.bind
       (zK
        (fun (s56:Int×Int×Int×MSt)=>
         bif decide (s56.1< (↑(List.length a2):Int)) then
          Option.bind
           (Option.bind (idx a2 s56.1) fun (y57:Ty.El zD)=>
            bif y57.1.2.1 !=s55.1 then some s56.2
            else
             Option.bind (jO s56.2.2.2 (a1,(1:Int),false,y57.1,())) fun (y58:MSt×Int)=>
              Option.bind
               (Option.bind (kE (s56.1,a3,a4,())) fun (y59:Bool)=>
                bif y59 then
                 Option.bind (zW y58.1 (a1,s56.2.2.1,y58.2,())) fun (y60:MSt×Int)=>
                  Option.bind (vX y60.1 (a1,s56.2.1,y60.2,())) fun (y61:MSt×Int)=>some (y61.2,y61.1)
                else some (s56.2.1,y58.1))
               fun (s62:Int×MSt)=>
               Option.bind (vK s62.2 (a1,y58.2,())) fun (y63:MSt×Int)=>
                Option.bind (zW y63.1 (a1,s56.2.2.1,y63.2,())) fun (y64:MSt×Int)=>some (s62.1,y64.2,y64.1))
           fun (s65:Int×Int×MSt)=>some (Sum.inl (IntKind.wrap IntKind.i64 (s56.1+(1:Int)),s65))
         else some (Sum.inr s56.2))
        ((0:Int),s55.2))
       fun (s66:Int×Int×MSt)=>some (Sum.inl (IntKind.wrap IntKind.i64 (s55.1- (1:Int)),s66))
     else some (Sum.inr s55.2))
    ((32:Int),(0:Int),(1:Int),st0))
   fun (s67:Int×Int×MSt)=>some (s67.2.2,s67.1,s67.2.1,())
noncomputable def qK:MSt→ElS [.hd,(.sl zD),tI]→Option (MSt×RTy.El (.p tI)):=fun st0 x=>match x with
 |(a1,a2,a3,())=>
  Option.bind (v5 st0 (a1,a2,(a3,()),())) fun (y0:MSt×Int×Int×Unit)=>some (y0.1,y0.2.1)
noncomputable def jU:MSt→ElS [.hd,(.sl zD),vL]→Option (MSt×RTy.El (.p tI)):=fun st0 x=>match x with
 |(a1,a2,a3,())=>
  Option.bind (v4 st0 (a1,a2,(a2,a3,()),())) fun (y0:MSt×Int×Int×Unit)=>some (y0.1,y0.2.1)
noncomputable def qZ:MSt→ElS [.hd,(.sl zD)]→Option (MSt×RTy.El (.p tI)):=fun st0 x=>match x with
 |(a1,a2,())=>
  Option.bind (v7 st0 (a1,a2,(a2,()),())) fun (y0:MSt×Int×Int×Unit)=>some (y0.1,y0.2.1)
noncomputable def jC:MSt→ElS [.hd,(.sl zD)]→Option (MSt×RTy.El (.p tI)):=fun st0 x=>match x with
 |(a1,a2,())=>
  Option.bind (v6 st0 (a1,a2,(a2,()),())) fun (y0:MSt×Int×Int×Unit)=>
   Option.bind (vX y0.1 (a1,y0.2.1,y0.2.2.1,())) fun (y1:MSt×Int)=>some (y1.1,y1.2)
noncomputable def zAl:MSt→ElS [.hd,tI, .bool,tU,tU]→Option (MSt×RTy.El (.p tI)):=fun st0 x=>match x with
 |(a1,a2,a3,a4,a5,())=>
  Option.bind (zN (a2,())) fun (y0:Int)=>
   bif y0==(0:Int) then some (st0,(-1:Int))
   else
    bif decide ((0:Int)≤y0) then
     Option.bind
      (bif decide (a4>a5) then some (true,st0)
      else some (decide (a4>IntKind.wrap IntKind.u32 (IntKind.wrap IntKind.u32 ((1:Int)*(2:Int)^min (Int.toNat y0) (IntKind.bits IntKind.u32)) - (1:Int))),st0))
      fun (s1:Bool×MSt)=>
      bif s1.1 then some (s1.2,(0:Int))
      else
       Option.bind
        (zK
         (fun (s35:Int×Int×Int×MSt)=>
          bif decide (s35.1≥(0:Int)) then
           Option.bind
            (Option.bind (wJ (a2,s35.1,a3,())) fun (y36:Int)=>
             Option.bind (zFL s35.2.2.2 (a1,y36,())) fun (y37:MSt×Int)=>
              Option.bind
               (bif decide ((0:Int)≤IntKind.wrap IntKind.i64 (IntKind.wrap IntKind.i64 (y0- (1:Int)) -s35.1)) then
                bif
                  IntKind.wrap IntKind.u32
                    (↑(BitVec.toNat
                       (BitVec.ofInt (IntKind.bits IntKind.u32)
                         (Int.fdiv a4
                          ((2:Int)^
                            min (Int.toNat (IntKind.wrap IntKind.i64 (IntKind.wrap IntKind.i64 (y0- (1:Int)) -s35.1))) (IntKind.bits IntKind.u32)))&&&
                        BitVec.ofInt (IntKind.bits IntKind.u32) (1:Int))):
                     Int)==
                   (1:Int) then
                 Option.bind (zW y37.1 (a1,y37.2,s35.2.1,())) fun (y38:MSt×Int)=>some (y38.2,y38.1)
                else Option.bind (vX y37.1 (a1,y37.2,s35.2.1,())) fun (y39:MSt×Int)=>some (y39.2,y39.1)
               else none)
               fun (s40:Int×MSt)=>
               bif decide ((0:Int)≤IntKind.wrap IntKind.i64 (IntKind.wrap IntKind.i64 (y0- (1:Int)) -s35.1)) then
                bif
                  IntKind.wrap IntKind.u32
                    (↑(BitVec.toNat
                       (BitVec.ofInt (IntKind.bits IntKind.u32)
                         (Int.fdiv
                          (if
                            IntKind.wrap IntKind.u32
                              (IntKind.wrap IntKind.u32 ((1:Int)*(2:Int)^min (Int.toNat y0) (IntKind.bits IntKind.u32)) - (1:Int))<
                             a5 then
                           IntKind.wrap IntKind.u32
                            (IntKind.wrap IntKind.u32 ((1:Int)*(2:Int)^min (Int.toNat y0) (IntKind.bits IntKind.u32)) - (1:Int))
                          else a5)
                          ((2:Int)^
                            min (Int.toNat (IntKind.wrap IntKind.i64 (IntKind.wrap IntKind.i64 (y0- (1:Int)) -s35.1))) (IntKind.bits IntKind.u32)))&&&
                        BitVec.ofInt (IntKind.bits IntKind.u32) (1:Int))):
                     Int)==
                   (1:Int) then
                 Option.bind (vK s40.2 (a1,y37.2,())) fun (y41:MSt×Int)=>
                  Option.bind (vX y41.1 (a1,y41.2,s35.2.2.1,())) fun (y42:MSt×Int)=>some (s40.1,y42.2,y42.1)
                else
                 Option.bind (vK s40.2 (a1,y37.2,())) fun (y43:MSt×Int)=>
                  Option.bind (zW y43.1 (a1,y43.2,s35.2.2.1,())) fun (y44:MSt×Int)=>some (s40.1,y44.2,y44.1)
               else none)
            fun (s45:Int×Int×MSt)=>some (Sum.inl (IntKind.wrap IntKind.i64 (s35.1- (1:Int)),s45))
          else some (Sum.inr s35.2))
         (IntKind.wrap IntKind.i64 (y0- (1:Int)),(1:Int),(1:Int),s1.2))
        fun (s46:Int×Int×MSt)=>Option.bind (zW s46.2.2 (a1,s46.1,s46.2.1,())) fun (y47:MSt×Int)=>some (y47.1,y47.2)
    else none
noncomputable def jS:MSt→ElS [.hd,tI,tI,tI]→Option (MSt×RTy.El (.p tI)):=fun st0 x=>match x with
 |(a1,a2,a3,a4,())=>
  bif decide ((if (0:Int)>a3 then (0:Int) else a3)>if (65535:Int)<a4 then (65535:Int) else a4) then some (st0,(0:Int))
  else
   Option.bind
    (zAl st0
     (a1,a2,false,IntKind.wrap IntKind.u32 (if (0:Int)>a3 then (0:Int) else a3),IntKind.wrap IntKind.u32 (if (65535:Int)<a4 then (65535:Int) else a4),()))
    fun (y0:MSt×Int)=>some (y0.1,y0.2)
noncomputable def jT:MSt→ElS [.hd,qV]→Option (MSt×RTy.El (.p tI)):=fun st0 x=>match x with
 |(a1,a2,())=>
  Option.bind (wG st0 (a1,(0:Int),false,a2.2.2.1,())) fun (y3:MSt×Int)=>
   Option.bind (wG y3.1 (a1,(1:Int),false,a2.2.2.2.1,())) fun (y4:MSt×Int)=>
    Option.bind (zW y4.1 (a1,y3.2,y4.2,())) fun (y5:MSt×Int)=>
     Option.bind
      (bif a2.2.1 !=(-1:Int) then
       Option.bind (jS y5.1 (a1,(2:Int),a2.2.1,a2.2.1,())) fun (y8:MSt×Int)=>
        Option.bind (zW y8.1 (a1,y5.2,y8.2,())) fun (y9:MSt×Int)=>some (y9.2,y9.1)
      else some (y5.2,y5.1))
      fun (s10:Int×MSt)=>
      Option.bind (jS s10.2 (a1,(3:Int),a2.2.2.2.2.1.1,a2.2.2.2.2.1.2.1,())) fun (y11:MSt×Int)=>
       Option.bind (zW y11.1 (a1,s10.1,y11.2,())) fun (y12:MSt×Int)=>
        Option.bind (jS y12.1 (a1,(4:Int),a2.2.2.2.2.2.1.1,a2.2.2.2.2.2.1.2.1,()))
         fun (y13:MSt×Int)=>Option.bind (zW y13.1 (a1,y12.2,y13.2,())) fun (y14:MSt×Int)=>some (y14.1,y14.2)
noncomputable def zEW:ElS [tI]→Option (RTy.El (.p tI)):=fun x=>match x with
 |(a1,())=>
  Option.bind (bif decide (a1< (0:Int)) then some true else some (decide (a1≥(12:Int)))) fun (s0:Bool)=>bif s0 then some (-1:Int) else some a1
noncomputable def zCM:ElS [qG]→Option (RTy.El (.p (.pair tU (.pair tU (.pair tU zA2))))):=fun x=>match x with
 |(a1,())=>
  some (a1.1,a1.2.1,IntKind.wrap IntKind.u32 a1.2.2.1,IntKind.wrap IntKind.u32 a1.2.2.2.1,IntKind.wrap IntKind.u32 a1.2.2.2.2.1,())
noncomputable def zBY:List (Ty.El .bool)→ElA [.d qG, .d .bool]→Option (List (Ty.El .bool)×RTy.El (.tu [])):=fun a0 x=>match x with
 |(a1,a2,())=>
  Option.bind (zCM (a1,())) fun (y0:Int×Int×Int×Ty.El zA2)=>
   Option.bind
    (Option.bind (zN ((0:Int),())) fun (y12:Int)=>
     zK
      (fun (s13:Int×List Bool)=>
       bif decide (s13.1<y12) then
        Option.bind (wJ ((0:Int),s13.1,a2,())) fun (y14:Int)=>
         Option.bind (zN ((0:Int),())) fun (y15:Int)=>
          bif decide ((0:Int)≤IntKind.wrap IntKind.i64 (IntKind.wrap IntKind.i64 (y15- (1:Int)) -s13.1)) then
           Option.bind (idx s13.2 y14) fun (y16:Bool)=>
            Option.bind (atN s13.2 (Int.toNat y14)) fun (y17:Bool)=>
             some
              (Sum.inl
               (IntKind.wrap IntKind.i64 (s13.1+(1:Int)),
                List.set s13.2 (Int.toNat y14)
                 (IntKind.wrap IntKind.u32
                   (↑(BitVec.toNat
                      (BitVec.ofInt (IntKind.bits IntKind.u32)
                        (Int.fdiv y0.1
                         ((2:Int)^
                           min (Int.toNat (IntKind.wrap IntKind.i64 (IntKind.wrap IntKind.i64 (y15- (1:Int)) -s13.1))) (IntKind.bits IntKind.u32)))&&&
                       BitVec.ofInt (IntKind.bits IntKind.u32) (1:Int))):
                    Int)==
                  (1:Int))))
          else none
       else some (Sum.inr s13.2))
      ((0:Int),a0))
    fun (s18:List Bool)=>
    Option.bind
     (Option.bind (zN (IntKind.wrap IntKind.i64 ((0:Int)+(1:Int)),())) fun (y19:Int)=>
      zK
       (fun (s20:Int×List Bool)=>
        bif decide (s20.1<y19) then
         Option.bind (wJ (IntKind.wrap IntKind.i64 ((0:Int)+(1:Int)),s20.1,a2,())) fun (y21:Int)=>
          Option.bind (zN (IntKind.wrap IntKind.i64 ((0:Int)+(1:Int)),())) fun (y22:Int)=>
           bif decide ((0:Int)≤IntKind.wrap IntKind.i64 (IntKind.wrap IntKind.i64 (y22- (1:Int)) -s20.1)) then
            Option.bind (idx s20.2 y21) fun (y23:Bool)=>
             Option.bind (atN s20.2 (Int.toNat y21)) fun (y24:Bool)=>
              some
               (Sum.inl
                (IntKind.wrap IntKind.i64 (s20.1+(1:Int)),
                 List.set s20.2 (Int.toNat y21)
                  (IntKind.wrap IntKind.u32
                    (↑(BitVec.toNat
                       (BitVec.ofInt (IntKind.bits IntKind.u32)
                         (Int.fdiv y0.2.1
                          ((2:Int)^
                            min (Int.toNat (IntKind.wrap IntKind.i64 (IntKind.wrap IntKind.i64 (y22- (1:Int)) -s20.1))) (IntKind.bits IntKind.u32)))&&&
                        BitVec.ofInt (IntKind.bits IntKind.u32) (1:Int))):
                     Int)==
                   (1:Int))))
           else none
        else some (Sum.inr s20.2))
       ((0:Int),s18))
     fun (s25:List Bool)=>
     Option.bind
      (Option.bind (zN (IntKind.wrap IntKind.i64 (IntKind.wrap IntKind.i64 ((0:Int)+(1:Int))+(1:Int)),())) fun (y26:Int)=>
       zK
        (fun (s27:Int×List Bool)=>
         bif decide (s27.1<y26) then
          Option.bind (wJ (IntKind.wrap IntKind.i64 (IntKind.wrap IntKind.i64 ((0:Int)+(1:Int))+(1:Int)),s27.1,a2,())) fun (y28:Int)=>
           Option.bind (zN (IntKind.wrap IntKind.i64 (IntKind.wrap IntKind.i64 ((0:Int)+(1:Int))+(1:Int)),())) fun (y29:Int)=>
            bif decide ((0:Int)≤IntKind.wrap IntKind.i64 (IntKind.wrap IntKind.i64 (y29- (1:Int)) -s27.1)) then
             Option.bind (idx s27.2 y28) fun (y30:Bool)=>
              Option.bind (atN s27.2 (Int.toNat y28)) fun (y31:Bool)=>
               some
                (Sum.inl
                 (IntKind.wrap IntKind.i64 (s27.1+(1:Int)),
                  List.set s27.2 (Int.toNat y28)
                   (IntKind.wrap IntKind.u32
                     (↑(BitVec.toNat
                        (BitVec.ofInt (IntKind.bits IntKind.u32)
                          (Int.fdiv y0.2.2.1
                           ((2:Int)^
                             min (Int.toNat (IntKind.wrap IntKind.i64 (IntKind.wrap IntKind.i64 (y29- (1:Int)) -s27.1)))
                              (IntKind.bits IntKind.u32)))&&&
                         BitVec.ofInt (IntKind.bits IntKind.u32) (1:Int))):
                      Int)==
                    (1:Int))))
            else none
         else some (Sum.inr s27.2))
        ((0:Int),s25))
      fun (s32:List Bool)=>
      Option.bind
       (Option.bind (zN (IntKind.wrap IntKind.i64 (IntKind.wrap IntKind.i64 (IntKind.wrap IntKind.i64 ((0:Int)+(1:Int))+(1:Int))+(1:Int)),()))
        fun (y33:Int)=>
        zK
         (fun (s34:Int×List Bool)=>
          bif decide (s34.1<y33) then
           Option.bind
            (wJ (IntKind.wrap IntKind.i64 (IntKind.wrap IntKind.i64 (IntKind.wrap IntKind.i64 ((0:Int)+(1:Int))+(1:Int))+(1:Int)),s34.1,a2,()))
            fun (y35:Int)=>
            Option.bind (zN (IntKind.wrap IntKind.i64 (IntKind.wrap IntKind.i64 (IntKind.wrap IntKind.i64 ((0:Int)+(1:Int))+(1:Int))+(1:Int)),()))
             fun (y36:Int)=>
             bif decide ((0:Int)≤IntKind.wrap IntKind.i64 (IntKind.wrap IntKind.i64 (y36- (1:Int)) -s34.1)) then
              Option.bind (idx s34.2 y35) fun (y37:Bool)=>
               Option.bind (atN s34.2 (Int.toNat y35)) fun (y38:Bool)=>
                some
                 (Sum.inl
                  (IntKind.wrap IntKind.i64 (s34.1+(1:Int)),
                   List.set s34.2 (Int.toNat y35)
                    (IntKind.wrap IntKind.u32
                      (↑(BitVec.toNat
                         (BitVec.ofInt (IntKind.bits IntKind.u32)
                           (Int.fdiv y0.2.2.2.1
                            ((2:Int)^
                              min (Int.toNat (IntKind.wrap IntKind.i64 (IntKind.wrap IntKind.i64 (y36- (1:Int)) -s34.1)))
                               (IntKind.bits IntKind.u32)))&&&
                          BitVec.ofInt (IntKind.bits IntKind.u32) (1:Int))):
                       Int)==
                     (1:Int))))
             else none
          else some (Sum.inr s34.2))
         ((0:Int),s32))
       fun (s39:List Bool)=>
       Option.bind
        (Option.bind
         (zN
          (IntKind.wrap IntKind.i64
            (IntKind.wrap IntKind.i64 (IntKind.wrap IntKind.i64 (IntKind.wrap IntKind.i64 ((0:Int)+(1:Int))+(1:Int))+(1:Int))+(1:Int)),
           ()))
         fun (y40:Int)=>
         zK
          (fun (s41:Int×List Bool)=>
           bif decide (s41.1<y40) then
            Option.bind
             (wJ
              (IntKind.wrap IntKind.i64
                (IntKind.wrap IntKind.i64 (IntKind.wrap IntKind.i64 (IntKind.wrap IntKind.i64 ((0:Int)+(1:Int))+(1:Int))+(1:Int))+(1:Int)),
               s41.1,a2,()))
             fun (y42:Int)=>
             Option.bind
              (zN
               (IntKind.wrap IntKind.i64
                 (IntKind.wrap IntKind.i64 (IntKind.wrap IntKind.i64 (IntKind.wrap IntKind.i64 ((0:Int)+(1:Int))+(1:Int))+(1:Int))+(1:Int)),
                ()))
              fun (y43:Int)=>
              bif decide ((0:Int)≤IntKind.wrap IntKind.i64 (IntKind.wrap IntKind.i64 (y43- (1:Int)) -s41.1)) then
               Option.bind (idx s41.2 y42) fun (y44:Bool)=>
                Option.bind (atN s41.2 (Int.toNat y42)) fun (y45:Bool)=>
                 some
                  (Sum.inl
                   (IntKind.wrap IntKind.i64 (s41.1+(1:Int)),
                    List.set s41.2 (Int.toNat y42)
                     (IntKind.wrap IntKind.u32
                       (↑(BitVec.toNat
                          (BitVec.ofInt (IntKind.bits IntKind.u32)
                            (Int.fdiv y0.2.2.2.2.1
                             ((2:Int)^
                               min (Int.toNat (IntKind.wrap IntKind.i64 (IntKind.wrap IntKind.i64 (y43- (1:Int)) -s41.1)))
                                (IntKind.bits IntKind.u32)))&&&
                           BitVec.ofInt (IntKind.bits IntKind.u32) (1:Int))):
                        Int)==
                      (1:Int))))
              else none
           else some (Sum.inr s41.2))
          ((0:Int),s39))
        fun (s46:List Bool)=>bif Nat.beq (List.length s46) (List.length a0) then some (s46,()) else none
noncomputable def zAZ:ElS [(.sl tI),qG,qG]→Option (RTy.El (.p (.sl .bool))):=fun x=>match x with
 |(a1,a2,a3,())=>
  Option.bind
   (zK
    (fun (s26:Int×List Bool)=>
     bif decide (s26.1< (↑(List.length a1):Int)) then
      Option.bind
       (Option.bind (idx a1 s26.1) fun (y27:Int)=>
        Option.bind (zEW (y27,())) fun (y28:Int)=>
         bif decide (y28≥(0:Int)) then
          Option.bind (idx s26.2 y27) fun (y29:Bool)=>Option.bind (atN s26.2 (Int.toNat y27)) fun (y30:Bool)=>some (List.set s26.2 (Int.toNat y27) true)
         else some s26.2)
       fun (s31:List Bool)=>some (Sum.inl (IntKind.wrap IntKind.i64 (s26.1+(1:Int)),s31))
     else some (Sum.inr s26.2))
    ((0:Int),
      [false,false,false,false,false,false,false,false,false,false,false,false,false,false,false,false,false,false,false,false,false,false,false,false,
       false,false,false,false,false,false,false,false,false,false,false,false,false,false,false,false,false,false,false,false,false,false,false,false,
       false,false,false,false,false,false,false,false,false,false,false,false,false,false,false,false,false,false,false,false,false,false,false,false,
       false,false,false,false,false,false,false,false,false,false,false,false,false,false,false,false,false,false,false,false,false,false,false,false,
       false,false,false,false,false,false,false,false,false,false,false,false,false,false,false,false,false,false,false,false,false,false,false,false,
       false,false,false,false,false,false,false,false,false,false,false,false,false,false,false,false,false,false,false,false,false,false,false,false,
       false,false,false,false,false,false,false,false,false,false,false,false,false,false,false,false,false,false,false,false,false,false,false,false,
       false,false,false,false,false,false,false,false,false,false,false,false,false,false,false,false,false,false,false,false,false,false,false,false,
       false,false,false,false,false,false,false,false,false,false,false,false,false,false,false,false,false,false,false,false,false,false,false,false,
       false,false,false,false]))
   fun (s32:List Bool)=>
   bif Nat.beq (List.length s32) (List.length s32) then
    Option.bind (zBY s32 (a2,false,())) fun (y33:List Bool×Unit)=>
     bif Nat.beq (List.length y33.1) (List.length y33.1)&&Nat.beq (List.length y33.1) (List.length y33.1) then
      Option.bind (zBY y33.1 (a3,true,())) fun (y34:List Bool×Unit)=>some y34.1
     else none
   else none
noncomputable def jY:MSt→ElS [.hd,tI,qG]→Option (MSt×RTy.El (.p .bool)):=fun st0 x=>match x with
 |(a1,a2,a3,())=>
  Option.bind (zAZ ([],a3,((0:Int),(0:Int),(0:Int),(0:Int),(0:Int),()),())) fun (y0:List Bool)=>
   Option.bind
    (zKN
     st0
     (a1,a2,y0,()))
    fun (y1:MSt×Bool)=>some (y1.1,y1.2)
noncomputable def yD:ElS [tU]→Option (RTy.El (.p .bool)):=fun x=>match x with
 |(a1,())=>
  some (a1 !=a1)
noncomputable def uD:ElS [tU,tU]→Option (RTy.El (.p tI)):=fun x=>match x with
 |(a1,a2,())=>
  Option.bind (yD (a1,())) fun (y0:Bool)=>
   Option.bind (yD (a2,())) fun (y1:Bool)=>
    bif y0 then bif y1 then some (0:Int) else some (-1:Int)
    else bif y1 then some (1:Int) else bif decide (a1<a2) then some (-1:Int) else bif decide (a1>a2) then some (1:Int) else some (0:Int)
noncomputable def cmp_isNaN_int:ElS [tI]→Option (RTy.El (.p .bool)):=fun x=>match x with
 |(a1,())=>
  some (a1 !=a1)
noncomputable def cmp_Compare_int:ElS [tI,tI]→Option (RTy.El (.p tI)):=fun x=>match x with
 |(a1,a2,())=>
  Option.bind (cmp_isNaN_int (a1,())) fun (y0:Bool)=>
   Option.bind (cmp_isNaN_int (a2,())) fun (y1:Bool)=>
    bif y0 then bif y1 then some (0:Int) else some (-1:Int)
    else bif y1 then some (1:Int) else bif decide (a1<a2) then some (-1:Int) else bif decide (a1>a2) then some (1:Int) else some (0:Int)
noncomputable def zBE:ElS [zJ,zJ]→Option (RTy.El (.p tI)):=fun x=>match x with
 |(a1,a2,())=>
  Option.bind (uD (a1.1,a2.1,())) fun (y0:Int)=>
   bif y0 !=(0:Int) then some y0 else Option.bind (cmp_Compare_int (a1.2.1,a2.2.1,())) fun (y1:Int)=>some y1
noncomputable def zA7:ElS [(.sl zD)]→Option (RTy.El (.p .bool)):=fun x=>match x with
 |(a1,())=>
  bif decide ((↑(List.length a1):Int)>(12:Int)) then some false
  else
   kB
    (zK
     (fun (s28:Int)=>
      bif decide (s28< (↑(List.length a1):Int)) then
       Option.bind
        (Option.bind (idx a1 s28) fun (y29:Ty.El zD)=>
         Option.bind (jW (y29.1,())) fun (y30:Bool)=>
          bif !y30 then some true
          else
           Option.bind (idx a1 s28) fun (y31:Ty.El zD)=>
            bif decide ((↑(List.length y31.2.1):Int)>(4:Int)) then some true
            else
             bif decide (s28>(0:Int)) then
              Option.bind (idx a1 (IntKind.wrap IntKind.i64 (s28- (1:Int)))) fun (y32:Ty.El zD)=>
               Option.bind (idx a1 s28) fun (y33:Ty.El zD)=>
                Option.bind (zBE (y32.1,y33.1,())) fun (y34:Int)=>some (decide (y34≥(0:Int)))
             else some false)
        fun (s35:Bool)=>bif s35 then some (Sum.inr (Sum.inr false)) else some (Sum.inl (IntKind.wrap IntKind.i64 (s28+(1:Int))))
      else some (Sum.inr (Sum.inl ())))
     (0:Int))
    fun (s36:Unit)=>some true
noncomputable def zFx:ElS [zD,vL]→Option (RTy.El (.p .bool)):=fun x=>match x with
 |(a1,a2,())=>
  kB
   (zK
    (fun (s5:Int)=>
     bif decide (s5< (↑(List.length a1.2.1):Int)) then
      Option.bind (idx a1.2.1 s5) fun (y6:Ty.El vL)=>
       bif y6.1==a2.1&&(y6.2.1==a2.2.1&&true) then some (Sum.inr (Sum.inr true)) else some (Sum.inl (IntKind.wrap IntKind.i64 (s5+(1:Int))))
     else some (Sum.inr (Sum.inl ())))
    (0:Int))
   fun (s7:Unit)=>some false
noncomputable def uK:ElS [zJ,tU]→Option (RTy.El (.p .bool)):=fun x=>match x with
 |(a1,a2,())=>
  Option.bind (xW (a1.2.1,())) fun (y1:Int)=>
   some (IntKind.wrap IntKind.u32 (↑(BitVec.toNat (BitVec.ofInt (IntKind.bits IntKind.u32) a2&&&BitVec.ofInt (IntKind.bits IntKind.u32) y1)):Int)==a1.1)
noncomputable def zDP:ElS [(.sl zD),tU]→Option (RTy.El (.p tI)):=fun x=>match x with
 |(a1,a2,())=>
  Option.bind
   (zK
    (fun (s20:Int×Int)=>
     bif decide (s20.1< (↑(List.length a1):Int)) then
      Option.bind
       (Option.bind (idx a1 s20.1) fun (y21:Ty.El zD)=>
        Option.bind
         (Option.bind (uK (y21.1,a2,())) fun (y22:Bool)=>
          bif y22 then
           bif decide (s20.2< (0:Int)) then some true else Option.bind (idx a1 s20.2) fun (y23:Ty.El zD)=>some (decide (y21.1.2.1>y23.1.2.1))
          else some false)
         fun (s24:Bool)=>bif s24 then some s20.1 else some s20.2)
       fun (s25:Int)=>some (Sum.inl (IntKind.wrap IntKind.i64 (s20.1+(1:Int)),s25))
     else some (Sum.inr s20.2))
    ((0:Int),(-1:Int)))
   fun (s26:Int)=>some s26
noncomputable def j9:ElS [uM,tI]→Option (RTy.El (.p .bool)):=fun x=>match x with
 |(a1,a2,())=>
  Option.bind (bif decide (a1.1≤a2) then some (decide (a2≤a1.2.1)) else some false) fun (s0:Bool)=>some s0
noncomputable def uI:ElS [qG]→Option (RTy.El (.p .bool)):=fun x=>match x with
 |(a1,())=>
  Option.bind
   (bif decide ((0:Int)≤a1.2.2.1) then
    bif decide (a1.2.2.1≤(255:Int)) then
     Option.bind (j9 (((0:Int),(65535:Int),()),a1.2.2.2.1,())) fun (y2:Bool)=>
      bif y2 then Option.bind (j9 (((0:Int),(65535:Int),()),a1.2.2.2.2.1,())) fun (y3:Bool)=>some y3 else some false
    else some false
   else some false)
   fun (s4:Bool)=>some s4
noncomputable def zCq:ElS []→Option (RTy.El (.p zA2)):=fun x=>match x with
 |()=>
  some ((0:Int),(4294967295:Int),())
noncomputable def zFy:ElS []→Option (RTy.El (.p uM)):=fun x=>match x with
 |()=>
  some ((0:Int),(65535:Int),())
noncomputable def vT:MSt→ElS []→Option (MSt×RTy.El (.p .hd)):=fun st0 x=>match x with
 |()=>
  Option.bind (zLU st0 ((220:Int),())) fun (y0:MSt×Nat)=>some (y0.1,y0.2)
end Go.Ve

namespace Go.Ve
open Go Go.Proofs Go.Bd Go.Proofs.Bw
set_option maxRecDepth 1000000
set_option maxHeartbeats 0
theorem zAz:OkA 39 [.d tI, .pp tI] (.p .bool) xD:=fA [] (A:=fun _=>none) (fn:=Tryd.f39) (by kernel_rfl) (by kernel_rfl) (by rintro ⟨⟩ ⟨a1,a2,⟨⟩⟩;kernel_rfl)
theorem zK9:OkX 103 [tI] (.p tI) zB8:=fX [] (A:=fun _=>none) (fn:=Tryd.f103) (by kernel_rfl) (by kernel_rfl) (by rintro ⟨⟩ ⟨a1,⟨⟩⟩;kernel_rfl)
noncomputable def zHP:Ent:=jI (by kernel_rfl) zK9
theorem zHz:OkX 69 [tI] (.p tU) xW:=fX [zHP] (A:=fun _=>none) (fn:=Tryd.f69) (by kernel_rfl) (by kernel_rfl) (by rintro ⟨⟩ ⟨a1,⟨⟩⟩;kernel_rfl)
noncomputable def zE9:Ent:=jI (by kernel_rfl) zHz
theorem zF5:OkX 33 [zJ] (.p .bool) jW:=fX [zE9] (A:=(jl [jj 6 366503875920 [] [.t 2 .bool]])) (fn:=Tryd.f33) (by kernel_rfl) (by kernel_rfl) (by rintro ⟨⟩ ⟨a1,⟨⟩⟩;kernel_rfl)
noncomputable def zAr:Ent:=jI (by kernel_rfl) zF5
theorem zGw:OkH 58 [.hd,tI, .bool,zA2] (.p tI) wG:=
 fH [yA,xT,zLS,(zAL (by kernel_rfl) (by kernel_rfl) zCL),(zAL (by kernel_rfl) (by kernel_rfl) zBj)] (A:=[jj 6 91603599360 [] [.t 18 .bool, .st],jj 48 6760777410799738362560040140800 [] [.t 12 tI, .st],jj 24 1730765619511609208008965588516864 [] [.t 9 tI, .st],jj 21 1730765619511609209504301403340800 [] [.t 10 tI, .t 9 tI, .st],jj 52 1730765619511609209510073839386624 [] [.t 9 tI, .st]]) (fn:=Tryd.f58) (by kernel_rfl) (by kernel_rfl) (by kernel_rfl) (by rintro st0 ⟨a1,a2,a3,a4,⟨⟩⟩;kernel_rfl)
noncomputable def zCv:zAy:=zBB (by kernel_rfl) zGw
theorem zIj:OkH 72 [.hd,tI, .bool,zJ] (.p tI) jO:=
 fH [zCv,(zAL (by kernel_rfl) (by kernel_rfl) zHz),(zAL (by kernel_rfl) (by kernel_rfl) zF5)] (A:=[]) (fn:=Tryd.f72) (by kernel_rfl) (by kernel_rfl) (by kernel_rfl) (by rintro st0 ⟨a1,a2,a3,a4,⟨⟩⟩;kernel_rfl)
noncomputable def yY:zAy:=zBB (by kernel_rfl) zIj
theorem zCf:zST 36 [.d .hd, .d (.sl zD), .clo 39 [(true,tI)]] (.tu [tI,tI]) v5:=
 fHA [(zAL (by kernel_rfl) (by kernel_rfl) zAz),xT,zB2,yA,yY] (A:=[jj 48 6447598222363331028586496 [] [.t 6 tI, .st],jj 52 26409387504754778831351730176 [] [.t 6 tI, .t 7 tI, .st],jj 25 105637550019019116768493064192 [] [.t 18 tI, .t 6 tI, .t 7 tI, .st],jj 16 105637550019019116789967900672 [] [.t 6 tI, .t 7 tI, .st],jj 13 105637550019019116791394029568 [] [.t 8 tI, .t 6 tI, .t 7 tI, .st],jj 56 105637550019019116791394029568 [] [.t 6 tI, .t 7 tI, .st]]) (fn:=Tryd.f36) (by kernel_rfl) (by kernel_rfl) (by kernel_rfl) (by rintro st0 ⟨a1,a2,⟨a3,⟨⟩⟩,⟨⟩⟩;kernel_rfl)
noncomputable def j3:zAy:=zBB (by kernel_rfl) zCf
theorem yG:OkA 37 [.d tI, .pp (.sl zD)] (.p .bool) wO:=fA [] (A:=fun _=>none) (fn:=Tryd.f37) (by kernel_rfl) (by kernel_rfl) (by rintro ⟨⟩ ⟨a1,a2,⟨⟩⟩;kernel_rfl)
theorem zCh:zST 36 [.d .hd, .d (.sl zD), .clo 37 [(true,(.sl zD))]] (.tu [tI,tI]) v7:=
 fHA [(zAL (by kernel_rfl) (by kernel_rfl) yG),xT,zB2,yA,yY] (A:=[jj 48 6447598222363331028586496 [] [.t 6 tI, .st],jj 52 26409387504754778831351730176 [] [.t 6 tI, .t 7 tI, .st],jj 25 105637550019019116768493064192 [] [.t 18 tI, .t 6 tI, .t 7 tI, .st],jj 16 105637550019019116789967900672 [] [.t 6 tI, .t 7 tI, .st],jj 13 105637550019019116791394029568 [] [.t 8 tI, .t 6 tI, .t 7 tI, .st],jj 56 105637550019019116791394029568 [] [.t 6 tI, .t 7 tI, .st]]) (fn:=Tryd.f36) (by kernel_rfl) (by kernel_rfl) (by kernel_rfl) (by rintro st0 ⟨a1,a2,⟨a3,⟨⟩⟩,⟨⟩⟩;kernel_rfl)
noncomputable def j5:zAy:=zBB (by kernel_rfl) zCh
theorem yR:OkA 38 [.d tI, .pp (.sl zD)] (.p .bool) vC:=fA [] (A:=(jl [jj 6 91625968960 [] [.t 3 .bool]])) (fn:=Tryd.f38) (by kernel_rfl) (by kernel_rfl) (by rintro ⟨⟩ ⟨a1,a2,⟨⟩⟩;kernel_rfl)
theorem zCg:zST 36 [.d .hd, .d (.sl zD), .clo 38 [(true,(.sl zD))]] (.tu [tI,tI]) v6:=
 fHA [(zAL (by kernel_rfl) (by kernel_rfl) yR),xT,zB2,yA,yY] (A:=[jj 48 6447598222363331028586496 [] [.t 6 tI, .st],jj 52 26409387504754778831351730176 [] [.t 6 tI, .t 7 tI, .st],jj 25 105637550019019116768493064192 [] [.t 18 tI, .t 6 tI, .t 7 tI, .st],jj 16 105637550019019116789967900672 [] [.t 6 tI, .t 7 tI, .st],jj 13 105637550019019116791394029568 [] [.t 8 tI, .t 6 tI, .t 7 tI, .st],jj 56 105637550019019116791394029568 [] [.t 6 tI, .t 7 tI, .st]]) (fn:=Tryd.f36) (by kernel_rfl) (by kernel_rfl) (by kernel_rfl) (by rintro st0 ⟨a1,a2,⟨a3,⟨⟩⟩,⟨⟩⟩;kernel_rfl)
noncomputable def j4:zAy:=zBB (by kernel_rfl) zCg
theorem zFO:OkX 73 [(.sl vL),vL] (.p tI) u4:=fX [] (A:=(jl [jj 9 91625948416 [] [.t 8 tI],jj 28 91625968896 [] []])) (fn:=Tryd.f73) (by kernel_rfl) (by kernel_rfl) (by rintro ⟨⟩ ⟨a1,a2,⟨⟩⟩;kernel_rfl)
noncomputable def zGN:Ent:=jI (by kernel_rfl) zFO
theorem zDD:OkX 41 [(.sl vL),vL] (.p .bool) kD:=fX [zGN] (A:=fun _=>none) (fn:=Tryd.f41) (by kernel_rfl) (by kernel_rfl) (by rintro ⟨⟩ ⟨a1,a2,⟨⟩⟩;kernel_rfl)
noncomputable def zEx:Ent:=jI (by kernel_rfl) zDD
theorem zAi:OkA 40 [.d tI, .pp (.sl zD), .pp vL] (.p .bool) kE:=fA [zEx] (A:=(jl [jj 6 366503875840 [] [.t 4 .bool]])) (fn:=Tryd.f40) (by kernel_rfl) (by kernel_rfl) (by rintro ⟨⟩ ⟨a1,a2,a3,⟨⟩⟩;kernel_rfl)
theorem zCe:zST 36 [.d .hd, .d (.sl zD), .clo 40 [(true,(.sl zD)),(true,vL)]] (.tu [tI,tI]) v4:=
 fHA [(zAL (by kernel_rfl) (by kernel_rfl) zAi),xT,zB2,yA,yY] (A:=[jj 48 6447598222363331028586496 [] [.t 6 tI, .st],jj 52 26409387504754778831351730176 [] [.t 6 tI, .t 7 tI, .st],jj 25 105637550019019116768493064192 [] [.t 18 tI, .t 6 tI, .t 7 tI, .st],jj 16 105637550019019116789967900672 [] [.t 6 tI, .t 7 tI, .st],jj 13 105637550019019116791394029568 [] [.t 8 tI, .t 6 tI, .t 7 tI, .st],jj 56 105637550019019116791394029568 [] [.t 6 tI, .t 7 tI, .st]]) (fn:=Tryd.f36) (by kernel_rfl) (by kernel_rfl) (by kernel_rfl) (by rintro st0 ⟨a1,a2,⟨a3,a4,⟨⟩⟩,⟨⟩⟩;kernel_rfl)
noncomputable def jZ:zAy:=zBB (by kernel_rfl) zCe
theorem zGr:OkH 13 [.hd,(.sl zD),tI] (.p tI) qK:=
 fH [jZ,j4,j5,j3,(zAL (by kernel_rfl) (by kernel_rfl) zAz)] (A:=[]) (fn:=Tryd.f13) (by kernel_rfl) (by kernel_rfl) (by kernel_rfl) (by rintro st0 ⟨a1,a2,a3,⟨⟩⟩;kernel_rfl)
noncomputable def zCt:zAy:=zBB (by kernel_rfl) zGr
theorem zFQ:OkH 16 [.hd,(.sl zD),vL] (.p tI) jU:=
 fH [jZ,j4,j5,j3,(zAL (by kernel_rfl) (by kernel_rfl) zAi)] (A:=[]) (fn:=Tryd.f16) (by kernel_rfl) (by kernel_rfl) (by kernel_rfl) (by rintro st0 ⟨a1,a2,a3,⟨⟩⟩;kernel_rfl)
noncomputable def xG:zAy:=zBB (by kernel_rfl) zFQ
theorem zDE:OkH 11 [.hd,(.sl zD)] (.p tI) qZ:=
 fH [jZ,j4,j5,j3,(zAL (by kernel_rfl) (by kernel_rfl) yG)] (A:=[]) (fn:=Tryd.f11) (by kernel_rfl) (by kernel_rfl) (by kernel_rfl) (by rintro st0 ⟨a1,a2,⟨⟩⟩;kernel_rfl)
noncomputable def uN:zAy:=zBB (by kernel_rfl) zDE
theorem zEp:OkH 12 [.hd,(.sl zD)] (.p tI) jC:=
 fH [zB2,jZ,j4,j5,j3,(zAL (by kernel_rfl) (by kernel_rfl) yR)] (A:=[]) (fn:=Tryd.f12) (by kernel_rfl) (by kernel_rfl) (by kernel_rfl) (by rintro st0 ⟨a1,a2,⟨⟩⟩;kernel_rfl)
noncomputable def uW:zAy:=zBB (by kernel_rfl) zEp
theorem zJc:OkH 96 [.hd,tI, .bool,tU,tU] (.p tI) zAl:=
 fH [xT,zB2,yA,zLS,(zAL (by kernel_rfl) (by kernel_rfl) zCL),(zAL (by kernel_rfl) (by kernel_rfl) zBj)] (A:=[jj 22 24595283464977121280 [] [.t 32 .bool, .st],jj 68 453709815800448083400609335260007628800 [] [.t 13 tI, .st],jj 44 7794675399098148897086312660215804826831185510400 [] [.t 13 tI, .t 14 tI, .st],jj 41 7794675399098148897086319082634221529549749878784 [] [.t 15 tI, .t 13 tI, .t 14 tI, .st],jj 80 7794675399098148897086319106246053943897975947264 [] [.t 13 tI, .t 14 tI, .st]]) (fn:=Tryd.f96) (by kernel_rfl) (by kernel_rfl) (by kernel_rfl) (by rintro st0 ⟨a1,a2,a3,a4,a5,⟨⟩⟩;kernel_rfl)
noncomputable def zKD:zAy:=zBB (by kernel_rfl) zJc
theorem zFP:OkH 59 [.hd,tI,tI,tI] (.p tI) jS:=
 fH [zKD] (A:=[]) (fn:=Tryd.f59) (by kernel_rfl) (by kernel_rfl) (by kernel_rfl) (by rintro st0 ⟨a1,a2,a3,a4,⟨⟩⟩;kernel_rfl)
noncomputable def zGO:zAy:=zBB (by kernel_rfl) zFP
theorem zHv:OkH 22 [.hd,qV] (.p tI) jT:=
 fH [zGO,yA,zCv] (A:=[jj 16 24019196580987904 [] [.t 5 tI, .st]]) (fn:=Tryd.f22) (by kernel_rfl) (by kernel_rfl) (by kernel_rfl) (by rintro st0 ⟨a1,a2,⟨⟩⟩;kernel_rfl)
noncomputable def zAM:zAy:=zBB (by kernel_rfl) zHv
theorem zHy:OkX 75 [tI] (.p tI) zEW:=fX [] (A:=(jl [jj 6 87360 [] [.t 8 .bool]])) (fn:=Tryd.f75) (by kernel_rfl) (by kernel_rfl) (by rintro ⟨⟩ ⟨a1,⟨⟩⟩;kernel_rfl)
noncomputable def zIG:Ent:=jI (by kernel_rfl) zHy
theorem zIi:OkX 106 [qG] (.p (.pair tU (.pair tU (.pair tU zA2)))) zCM:=fX [] (A:=fun _=>none) (fn:=Tryd.f106) (by kernel_rfl) (by kernel_rfl) (by rintro ⟨⟩ ⟨a1,⟨⟩⟩;kernel_rfl)
def zMP:Nat→Option JA:=fun k=>match k with
 |21=>some ⟨1574122160950821847040,[],[.t 17 tI, .o 0 1000000 .bool]⟩
 |36=>some ⟨1574122160956526120961,[],[.o 0 1000000 .bool]⟩
 |_=>none
theorem zK6:zOm U Tryd.prog G0 76 .bool (zJp [.d qG, .d .bool]) (.tu []) zBY:=
 zOZ (fn:=Tryd.f76) (c:=zD2 Tryd.f76) (S:=((((zM.none U).add 106 (zAf [qG] (.p (.pair tU (.pair tU (.pair tU zA2)))) zCM)).add 93 (zAf [tI] (.p tI) zN)).add 95 (zAf [tI,tI, .bool] (.p tI) wJ))) (A:=zMP) (zAC (zAC (zAC zEA (by kernel_rfl) zIi) (by kernel_rfl) zBj) (by kernel_rfl) zCL) (by kernel_rfl) (by kernel_rfl) (by kernel_rfl) (by intro ty h;cases h) (by rintro ⟨⟩ a0 ⟨a1,a2,⟨⟩⟩;kernel_rfl)
noncomputable def zMC:Ent:=zU0 (by kernel_rfl) zK6
theorem zIk:OkX 45 [(.sl tI),qG,qG] (.p (.sl .bool)) zAZ:=fX [zMC,zIG] (A:=(jl [jj 28 23455890407424 [] [.o 7 10 .bool],jj 13 93824970145792 [] [.t 13 tI, .o 7 10 .bool],jj 32 93824991117312 [] [.o 7 10 .bool]])) (fn:=Tryd.f45) (by kernel_rfl) (by kernel_rfl) (by rintro ⟨⟩ ⟨a1,a2,a3,⟨⟩⟩;kernel_rfl)
theorem zK5:OkH 20 [.hd,tI,qG] (.p .bool) jY:=
 fH [zPk,(zAL (by kernel_rfl) (by kernel_rfl) zIk)] (A:=[]) (fn:=Tryd.f20) (by kernel_rfl) (by kernel_rfl) (by kernel_rfl) (by rintro st0 ⟨a1,a2,a3,⟨⟩⟩;kernel_rfl)
noncomputable def zHN:zAy:=zBB (by kernel_rfl) zK5
theorem zFU:OkX 104 [tU] (.p .bool) yD:=fX [] (A:=fun _=>none) (fn:=Tryd.f104) (by kernel_rfl) (by kernel_rfl) (by rintro ⟨⟩ ⟨a1,⟨⟩⟩;kernel_rfl)
noncomputable def zGQ:Ent:=jI (by kernel_rfl) zFU
theorem zEu:OkX 70 [tU,tU] (.p tI) uD:=fX [zGQ] (A:=fun _=>none) (fn:=Tryd.f70) (by kernel_rfl) (by kernel_rfl) (by rintro ⟨⟩ ⟨a1,a2,⟨⟩⟩;kernel_rfl)
noncomputable def zE8:Ent:=jI (by kernel_rfl) zEu
theorem zIl:OkX 105 [tI] (.p .bool) cmp_isNaN_int:=fX [] (A:=fun _=>none) (fn:=Tryd.f105) (by kernel_rfl) (by kernel_rfl) (by rintro ⟨⟩ ⟨a1,⟨⟩⟩;kernel_rfl)
noncomputable def zJn:Ent:=jI (by kernel_rfl) zIl
theorem zGx:OkX 71 [tI,tI] (.p tI) cmp_Compare_int:=fX [zJn] (A:=fun _=>none) (fn:=Tryd.f71) (by kernel_rfl) (by kernel_rfl) (by rintro ⟨⟩ ⟨a1,a2,⟨⟩⟩;kernel_rfl)
noncomputable def zHO:Ent:=jI (by kernel_rfl) zGx
theorem zJe:OkX 34 [zJ,zJ] (.p tI) zBE:=fX [zHO,zE8] (A:=fun _=>none) (fn:=Tryd.f34) (by kernel_rfl) (by kernel_rfl) (by rintro ⟨⟩ ⟨a1,a2,⟨⟩⟩;kernel_rfl)
noncomputable def zKF:Ent:=jI (by kernel_rfl) zJe
theorem zER:OkX 9 [(.sl zD)] (.p .bool) zA7:=fX [zKF,zAr] (A:=(jl [jj 26 26409387504754779197825613824 [] [.t 47 .bool],jj 17 26409387504754779197847978064 [] [.t 3 tI],jj 32 26409387504754779197847978064 [] []])) (fn:=Tryd.f9) (by kernel_rfl) (by kernel_rfl) (by rintro ⟨⟩ ⟨a1,⟨⟩⟩;kernel_rfl)
theorem zMk:OkX 19 [zD,vL] (.p .bool) zFx:=fX [] (A:=(jl [jj 9 366503875840 [] [.t 5 tI],jj 24 366503875840 [] []])) (fn:=Tryd.f19) (by kernel_rfl) (by kernel_rfl) (by rintro ⟨⟩ ⟨a1,a2,⟨⟩⟩;kernel_rfl)
theorem zIn:OkX 43 [zJ,tU] (.p .bool) uK:=fX [zE9] (A:=fun _=>none) (fn:=Tryd.f43) (by kernel_rfl) (by kernel_rfl) (by rintro ⟨⟩ ⟨a1,a2,⟨⟩⟩;kernel_rfl)
noncomputable def zEg:Ent:=jI (by kernel_rfl) zIn
theorem zK8:OkX 18 [(.sl zD),tU] (.p tI) zDP:=fX [zEg] (A:=(jl [jj 22 393530540238779187200 [] [.t 34 .bool],jj 28 1574122160956542866432 [] [.t 5 tI],jj 13 6296488643826193323008 [] [.t 10 tI, .t 5 tI],jj 32 6296488643826193650688 [] [.t 5 tI]])) (fn:=Tryd.f18) (by kernel_rfl) (by kernel_rfl) (by rintro ⟨⟩ ⟨a1,a2,⟨⟩⟩;kernel_rfl)
theorem zKf:OkX 42 [uM,tI] (.p .bool) j9:=fX [] (A:=(jl [jj 6 357913856 [] [.t 4 .bool]])) (fn:=Tryd.f42) (by kernel_rfl) (by kernel_rfl) (by rintro ⟨⟩ ⟨a1,a2,⟨⟩⟩;kernel_rfl)
noncomputable def zF8:Ent:=jI (by kernel_rfl) zKf
theorem zBT:OkX 17 [qG] (.p .bool) uI:=fX [zF8] (A:=(jl [jj 10 375299968947216 [] [.t 2 .bool]])) (fn:=Tryd.f17) (by kernel_rfl) (by kernel_rfl) (by rintro ⟨⟩ ⟨a1,⟨⟩⟩;kernel_rfl)
theorem zKd:OkX 30 [] (.p zA2) zCq:=fX [] (A:=fun _=>none) (fn:=Tryd.f30) (by kernel_rfl) (by kernel_rfl) (by rintro ⟨⟩ ⟨⟩;kernel_rfl)
theorem zMl:OkX 31 [] (.p uM) zFy:=fX [] (A:=fun _=>none) (fn:=Tryd.f31) (by kernel_rfl) (by kernel_rfl) (by rintro ⟨⟩ ⟨⟩;kernel_rfl)
theorem zK7:OkH 10 [] (.p .hd) vT:=
 fH [zQX] (A:=[]) (fn:=Tryd.f10) (by kernel_rfl) (by kernel_rfl) (by kernel_rfl) (by rintro st0 ⟨⟩;kernel_rfl)
noncomputable def zAq:zAy:=zBB (by kernel_rfl) zK7
end Go.Ve

namespace Go.Ve
open Go Go.Proofs Go.Bd Go.Proofs.Bw
noncomputable def v8:MSt→ElS []→Option (MSt×RTy.El (.p .bool)):=fun st0 x=>match x with
 |()=>
  Option.bind (vT st0 ()) fun (y0:MSt×Nat)=>
   Option.bind (zCq ()) fun (y1:Int×Int×Unit)=>
    Option.bind (zCq ()) fun (y2:Int×Int×Unit)=>
     Option.bind (zFy ()) fun (y3:Int×Int×Unit)=>
      Option.bind (zFy ()) fun (y4:Int×Int×Unit)=>
       Option.bind (jT y0.1 (y0.2,(true,(6:Int),y1,y2,y3,y4,()),())) fun (y5:MSt×Int)=>
        Option.bind
         (jU y5.1
          (y0.2,[(((0:Int),(0:Int),()),[],true,()),(((167772160:Int),(8:Int),()),[((0:Int),(0:Int),())],false,())],((0:Int),(0:Int),()),
           ()))
         fun (y6:MSt×Int)=>
         Option.bind
          (Option.bind (zD3 y6.1 (y0.2,y5.2,())) fun (y12:MSt×Int)=>
           bif y12.2==(8:Int) then
            Option.bind (zD3 y12.1 (y0.2,y6.2,())) fun (y13:MSt×Int)=>
             bif y13.2==(8:Int) then
              Option.bind
               (qZ y13.1
                (y0.2,[(((0:Int),(0:Int),()),[],true,()),(((167772160:Int),(8:Int),()),[((0:Int),(0:Int),())],false,())],()))
               fun (y14:MSt×Int)=>
               Option.bind (vK y14.1 (y0.2,y6.2,())) fun (y15:MSt×Int)=>
                bif y14.2==y15.2 then
                 Option.bind
                  (jC y15.1
                   (y0.2,[(((0:Int),(0:Int),()),[],true,()),(((167772160:Int),(8:Int),()),[((0:Int),(0:Int),())],false,())],()))
                  fun (y16:MSt×Int)=>some (y16.2==(0:Int),y16.1)
                else some (false,y15.1)
             else some (false,y13.1)
           else some (false,y12.1))
          fun (s17:Bool×MSt)=>some (s17.2,s17.1)
noncomputable def jM:MSt→ElS [(.sl zD)]→Option (MSt×RTy.El (.p .bool)):=fun st0 x=>match x with
 |(a1,())=>
  Option.bind (v8 st0 ()) fun (y0:MSt×Bool)=>
   bif !y0.2 then some (y0.1,false)
   else
    Option.bind (zA7 (a1,())) fun (y1:Bool)=>
     bif !y1 then some (y0.1,true)
     else
      Option.bind (vT y0.1 ()) fun (y2:MSt×Nat)=>
       Option.bind (qZ y2.1 (y2.2,a1,())) fun (y3:MSt×Int)=>
        Option.bind (jC y3.1 (y2.2,a1,())) fun (y4:MSt×Int)=>
         kB
          (zK
           (fun (s56:Int×Int×Int×MSt)=>
            bif decide (s56.1< (↑(List.length a1):Int)) then
             kB
              (Option.bind (qK s56.2.2.2 (y2.2,a1,s56.1,())) fun (y57:MSt×Int)=>
               Option.bind (zW y57.1 (y2.2,y57.2,s56.2.1,())) fun (y58:MSt×Int)=>
                bif y58.2 !=(0:Int) then some (Sum.inr (Sum.inr (Sum.inr (y58.1,false))))
                else
                 Option.bind (vX y58.1 (y2.2,s56.2.1,y57.2,())) fun (y59:MSt×Int)=>
                  zK
                   (fun (s60:Int×Int×MSt)=>
                    Option.bind (idx a1 s56.1) fun (y61:Ty.El zD)=>
                     bif decide (s60.1< (↑(List.length y61.2.1):Int)) then
                      Option.bind (idx a1 s56.1) fun (y62:Ty.El zD)=>
                       Option.bind (idx y62.2.1 s60.1) fun (y63:Ty.El vL)=>
                        Option.bind (jU s60.2.2 (y2.2,a1,y63,())) fun (y64:MSt×Int)=>
                         Option.bind
                          (Option.bind (zW y64.1 (y2.2,y64.2,y3.2,())) fun (y65:MSt×Int)=>
                           bif y65.2 !=(0:Int) then some (true,y65.1)
                           else
                            Option.bind (zW y65.1 (y2.2,y64.2,y4.2,())) fun (y66:MSt×Int)=>
                             some (y66.2 !=(0:Int),y66.1))
                          fun (s67:Bool×MSt)=>
                          bif s67.1 then some (Sum.inr (Sum.inr (Sum.inr (Sum.inr (s67.2,false)))))
                          else
                           Option.bind (vX s67.2 (y2.2,s60.2.1,y64.2,())) fun (y68:MSt×Int)=>
                            some (Sum.inl (IntKind.wrap IntKind.i64 (s60.1+(1:Int)),y68.2,y68.1))
                     else some (Sum.inr (Sum.inl (y59.2,s60.2))))
                   ((0:Int),s56.2.2.1,y59.1))
              fun (s69:Int×Int×MSt)=>some (Sum.inl (IntKind.wrap IntKind.i64 (s56.1+(1:Int)),s69))
            else some (Sum.inr (Sum.inl s56.2.2)))
           ((0:Int),(0:Int),(0:Int),y4.1))
          fun (s70:Int×MSt)=>
          Option.bind
           (Option.bind (zW s70.2 (y2.2,y3.2,y4.2,())) fun (y76:MSt×Int)=>
            bif y76.2==(0:Int) then
             Option.bind (vX y76.1 (y2.2,y3.2,y4.2,())) fun (y77:MSt×Int)=>
              Option.bind (vX y77.1 (y2.2,y77.2,s70.1,())) fun (y78:MSt×Int)=>
               bif y78.2==(1:Int) then
                Option.bind (qK y78.1 (y2.2,a1,(-1:Int),())) fun (y79:MSt×Int)=>
                 bif y79.2==(0:Int) then
                  Option.bind (qK y79.1 (y2.2,a1,(↑(List.length a1):Int),())) fun (y80:MSt×Int)=>
                   some (y80.2==(0:Int),y80.1)
                 else some (false,y79.1)
               else some (false,y78.1)
            else some (false,y76.1))
           fun (s81:Bool×MSt)=>some (s81.2,s81.1)
noncomputable def wE:MSt→ElS [(.sl zD),tI,vL,qG]→Option (MSt×RTy.El (.p .bool)):=fun st0 x=>match x with
 |(a1,a2,a3,a4,())=>
  Option.bind (v8 st0 ()) fun (y0:MSt×Bool)=>
   bif !y0.2 then some (y0.1,false)
   else
    Option.bind
     (Option.bind (uI (a4,())) fun (y3:Bool)=>bif !y3 then some (true,y0.1) else Option.bind (zA7 (a1,())) fun (y4:Bool)=>some (!y4,y0.1))
     fun (s5:Bool×MSt)=>
     bif s5.1 then some (s5.2,true)
     else
      Option.bind (vT s5.2 ()) fun (y6:MSt×Nat)=>
       Option.bind (zDP (a1,a4.2.1,())) fun (y7:Int)=>
        bif decide (y7≥(↑(List.length a1):Int)) then some (y6.1,false)
        else
         Option.bind
          (Option.bind
           (bif decide (y7≥(0:Int)) then
            Option.bind (idx a1 y7) fun (y17:Ty.El zD)=>
             bif decide ((↑(List.length y17.2.1):Int)>(0:Int)) then some (decide (a2≥(0:Int)),y6.1) else some (false,y6.1)
           else some (false,y6.1))
           fun (s18:Bool×MSt)=>
           bif s18.1 then
            Option.bind (idx a1 y7) fun (y19:Ty.El zD)=>
             Option.bind (idx a1 y7) fun (y20:Ty.El zD)=>
              bif (↑(List.length y20.2.1):Int) !=(0:Int) then
               Option.bind (idx y19.2.1 (Int.tmod a2 (↑(List.length y20.2.1):Int))) fun (y21:Ty.El vL)=>some (y21,s18.2)
              else none
           else some (a3,s18.2))
          fun (s22:Ty.El vL×MSt)=>
          Option.bind
           (bif decide (y7≥(0:Int)) then
            Option.bind (idx a1 y7) fun (y29:Ty.El zD)=>
             bif !y29.2.2.1 then
              Option.bind (idx a1 y7) fun (y30:Ty.El zD)=>Option.bind (zFx (y30,s22.1,())) fun (y31:Bool)=>some (y31,s22.2)
             else some (false,s22.2)
           else some (false,s22.2))
           fun (s32:Bool×MSt)=>
           Option.bind (bif decide (y7≥(0:Int)) then Option.bind (idx a1 y7) fun (y34:Ty.El zD)=>some (y34.2.2.1,s32.2) else some (false,s32.2))
            fun (s35:Bool×MSt)=>
            Option.bind
             (bif decide (y7< (0:Int)) then some (true,s35.2)
             else
              Option.bind (idx a1 y7) fun (y38:Ty.El zD)=>
               bif !y38.2.2.1 then Option.bind (idx a1 y7) fun (y39:Ty.El zD)=>some ((↑(List.length y39.2.1):Int)==(0:Int),s35.2)
               else some (false,s35.2))
             fun (s40:Bool×MSt)=>
             Option.bind
              (Option.bind (jU s40.2 (y6.2,a1,s22.1,())) fun (y53:MSt×Int)=>
               Option.bind (jY y53.1 (y6.2,y53.2,a4,())) fun (y54:MSt×Bool)=>
                bif !y54.2==s32.1 then some (true,y54.1)
                else
                 Option.bind (qZ y54.1 (y6.2,a1,())) fun (y55:MSt×Int)=>
                  Option.bind (jY y55.1 (y6.2,y55.2,a4,())) fun (y56:MSt×Bool)=>
                   bif !y56.2==s35.1 then some (true,y56.1)
                   else
                    Option.bind (jC y56.1 (y6.2,a1,())) fun (y57:MSt×Int)=>
                     Option.bind (jY y57.1 (y6.2,y57.2,a4,())) fun (y58:MSt×Bool)=>some (!y58.2==s40.1,y58.1))
              fun (s59:Bool×MSt)=>
              bif s59.1 then some (s59.2,false)
              else
               Option.bind
                (Option.bind (qK s59.2 (y6.2,a1,a2,())) fun (y72:MSt×Int)=>
                 Option.bind (jY y72.1 (y6.2,y72.2,a4,())) fun (y73:MSt×Bool)=>
                  bif decide (y7≥(0:Int)) then
                   bif y73.2==(a2==y7) then
                    bif decide (y7< (0:Int)) then some (true,y73.1)
                    else
                     Option.bind (qK y73.1 (y6.2,a1,y7,())) fun (y74:MSt×Int)=>
                      Option.bind (jY y74.1 (y6.2,y74.2,a4,())) fun (y75:MSt×Bool)=>some (y75.2,y75.1)
                   else some (false,y73.1)
                  else
                   bif y73.2==false then
                    bif decide (y7< (0:Int)) then some (true,y73.1)
                    else
                     Option.bind (qK y73.1 (y6.2,a1,y7,())) fun (y76:MSt×Int)=>
                      Option.bind (jY y76.1 (y6.2,y76.2,a4,())) fun (y77:MSt×Bool)=>some (y77.2,y77.1)
                   else some (false,y73.1))
                fun (s78:Bool×MSt)=>some (s78.2,s78.1)
end Go.Ve

namespace Go.Ve
open Go Go.Proofs Go.Bd Go.Proofs.Bw
set_option maxRecDepth 1000000
set_option maxHeartbeats 0
theorem zKc:OkH 8 [] (.p .bool) v8:=
 fH [uW,xT,uN,zPj,xG,zAM,(zAL (by kernel_rfl) (by kernel_rfl) zMl),(zAL (by kernel_rfl) (by kernel_rfl) zKd),zAq] (A:=[jj 30 422550200076076091865598787585 [] [.t 0 .bool, .st]]) (fn:=Tryd.f8) (by kernel_rfl) (by kernel_rfl) (by kernel_rfl) (by rintro st0 ⟨⟩;kernel_rfl)
noncomputable def zA0:zAy:=zBB (by kernel_rfl) zKc
theorem zBy:OkH 3 [(.sl zD)] (.p .bool) jM:=
 fH [xG,zB2,yA,zCt,uW,uN,zAq,(zAL (by kernel_rfl) (by kernel_rfl) zER),zA0] (A:=[jj 78 1902996810180490867764893471474457704587591680 [] [.t 75 .bool, .st],jj 65 487167212443634306067869153821275894462922362896 [] [.t 10 tI, .t 6 tI, .st],jj 40 487167212443634306067894944238376699383780757520 [] [.t 7 tI, .t 6 tI, .st],jj 37 487167212443634306067894944238760912726990868496 [] [.t 8 tI, .t 7 tI, .t 6 tI, .st],jj 88 487167212443634306067894944238760912726990868496 [] [.t 6 tI, .st],jj 90 140416388891409581776723491134592937023965182961971141787103789072 [] [.t 2 .bool, .st]]) (fn:=Tryd.f3) (by kernel_rfl) (by kernel_rfl) (by kernel_rfl) (by rintro st0 ⟨a1,⟨⟩⟩;kernel_rfl)
theorem zCJ:OkH 4 [(.sl zD),tI,vL,qG] (.p .bool) wE:=
 fH [zCt,uW,uN,zHN,xG,(zAL (by kernel_rfl) (by kernel_rfl) zMk),(zAL (by kernel_rfl) (by kernel_rfl) zK8),zAq,(zAL (by kernel_rfl) (by kernel_rfl) zER),(zAL (by kernel_rfl) (by kernel_rfl) zBT),zA0] (A:=[jj 14 93823560581120 [] [.t 23 .bool, .st],jj 38 26409387480159120432901914624 [] [.t 47 .bool, .st],jj 44 28356863910078205264018891854367956992 [] [.v 6 [.p vL], .st],jj 46 1948668849746180360361501571666429475588600233984 [] [.t 11 .bool, .st],jj 50 510829898286446511582224737470326106162220166167920640 [] [.t 12 .bool, .st],jj 54 140416388890898750416935407292107794082810024139525901965087211520 [] [.t 13 .bool, .st],jj 58 40472268588036022170405734167413728291159438902025663600885964668828357602693873664 [] [.t 137 .bool, .st],jj 66 2916334299710682525357734381454139509648769515700972693517551661627030639519742694737511627588960256 [] [.t 8 .bool, .st]]) (fn:=Tryd.f4) (by kernel_rfl) (by kernel_rfl) (by kernel_rfl) (by rintro st0 ⟨a1,a2,a3,a4,⟨⟩⟩;kernel_rfl)
end Go.Ve

namespace Go.Proofs.Bw
open Go Go.Proofs Go.Bd Go.Ve
abbrev lim:Nat:=5864062014000
structure POk (p:Pub):Prop where
 ok:zGb 220 p
 len:p.sh.length=p.S.ns.length+2
theorem zES:POk zC7:=⟨zPV 220,rfl⟩
def Rp (p:Pub) (f:Int) (φ:(Nat→Bool)→Bool):Prop:= ∃k:Nat,f=k∧p.sh[k]? =some true∧ ∀a,den p.S.ns k a=φ a
theorem POk.lt {p:Pub} (hp:POk p) {k:Nat} (h:p.sh[k]? =some true):k<p.S.ns.length+2:=by
 have:=(List.getElem?_eq_some_iff.1 h).1
 have:=hp.len
 omega
structure Stp (p:Pub) (c:Nat) (p':Pub):Prop where
 ok:POk p'
 app: ∃e,p'.S.ns=p.S.ns++e
 sh: ∀i:Nat,p.sh[i]? =some true→p'.sh[i]? =some true
 cnt:p'.S.ns.length≤p.S.ns.length+c
theorem Stp.refl {p:Pub} (hp:POk p):Stp p 0 p:=⟨hp,⟨[],by simp⟩,fun _ h=>h,Nat.le_refl _⟩
theorem Stp.trans {p q r:Pub} {c d:Nat} (h:Stp p c q) (k:Stp q d r):Stp p (c+d) r:=by
 obtain ⟨e,he⟩:=h.app
 obtain ⟨e',he'⟩:=k.app
 exact ⟨k.ok,⟨e++e',by rw [he',he,List.append_assoc]⟩,fun i hi=>k.sh i (h.sh i hi),by have:=h.cnt;have:=k.cnt;omega⟩
theorem Stp.mono {p q:Pub} {c d:Nat} (h:Stp p c q) (hc:c≤d):Stp p d q:=⟨h.ok,h.app,h.sh,by have:=h.cnt;omega⟩
theorem Rp.step {p p':Pub} {c:Nat} {f:Int} {φ:(Nat→Bool)→Bool} (h:Rp p f φ) (hp:POk p) (k:Stp p c p'):Rp p' f φ:=by
 obtain ⟨m,rfl,h1,h2⟩:=h
 refine ⟨m,rfl,k.sh m h1,fun a=> ?_⟩
 obtain ⟨e,he⟩:=k.app
 have W:=hp.ok.ok.wf
 have W':=k.ok.ok.ok.wf
 rw [he] at W' ⊢
 rw [W.app W' (hp.lt h1),h2]
theorem Rp.congr {p:Pub} {f:Int} {φ ψ:(Nat→Bool)→Bool} (h:Rp p f φ) (he: ∀a,φ a=ψ a):Rp p f ψ:=by
 obtain ⟨m,h0,h1,h2⟩:=h
 exact ⟨m,h0,h1,fun a=>(h2 a).trans (he a)⟩
theorem Rp.eq {p:Pub} {f g:Int} {φ ψ:(Nat→Bool)→Bool} (hp:POk p) (h:Rp p f φ) (k:Rp p g ψ):f=g↔ ∀a,φ a=ψ a:=by
 obtain ⟨m,rfl,h1,h2⟩:=h
 obtain ⟨m',rfl,k1,k2⟩:=k
 constructor
 ·intro he
  have:m=m':=by omega
  subst this
  exact fun a=>(h2 a).symm.trans (k2 a)
 ·intro he
  have:=hp.ok.ok.wf.canon (hp.lt h1) (hp.lt k1) (fun a=>by rw [h2,k2,he])
  rw [this]
theorem Rp.f0 {p:Pub} (hp:POk p):Rp p 0 (fun _=>false):=⟨0,rfl,hp.ok.f0,fun a=>by rw [vH (by omega)];rfl⟩
theorem Rp.f1 {p:Pub} (hp:POk p):Rp p 1 (fun _=>true):=⟨1,rfl,hp.ok.f1,fun a=>by rw [vH (by omega)];rfl⟩
theorem Rp.val {p:Pub} {f:Int} {φ:(Nat→Bool)→Bool} (h:Rp p f φ):Bw.val p f=true:=by
 obtain ⟨m,rfl,h1,_⟩:=h
 simp only [Bw.val,Int.toNat_natCast,h1,Bool.and_eq_true,decide_eq_true_eq,beq_self_eq_true,and_true]
 omega
theorem zHF {sh:List Bool} {m k:Nat} (h:sh.length=m+2) (hk:m≤k):(grow sh k).length=k+2:=by
 rw [grow,List.length_append,List.length_replicate]
 omega
theorem zMs {p:Pub} (hp:POk p) {f g h:Int} {F G H:(Nat→Bool)→Bool} (hf:Rp p f F) (hg:Rp p g G) (hh:Rp p h H) {K:Nat} (hw:Wd K (fun a=>if F a then G a else H a)) (hr:p.S.ns.length+220*K≤lim)
  {nx i:Nat} (hi:i+1=nx): ∃p' y,zF1 220 (nx,some p) i f g h=some ((nx,some p'),y)∧Stp p (220*K) p'∧Rp p' y (fun a=>if F a then G a else H a):=by
 have vf:=hf.val
 have vg:=hg.val
 have vh:=hh.val
 obtain ⟨a,rfl,a1,a2⟩:=hf
 obtain ⟨b,rfl,b1,b2⟩:=hg
 obtain ⟨c,rfl,c1,c2⟩:=hh
 have I:=zGD (n:=220) 221 a b c 0 p.S hp.ok.ok (hp.lt a1) (hp.lt b1) (hp.lt c1) (Nat.zero_le _) (Nat.zero_le _) (Nat.zero_le _) (by omega)
 have hden: ∀x,den (wA 220 221 a b c p.S).2.ns (wA 220 221 a b c p.S).1 x=if F x then G x else H x:=by
  intro x
  rw [I.den,zA8]
  simp only [a2,b2,c2]
 obtain ⟨e,he⟩:=I.app
 have hle:p.S.ns.length≤(wA 220 221 a b c p.S).2.ns.length:=by rw [he,List.length_append];omega
 have hcnt:(wA 220 221 a b c p.S).2.ns.length≤p.S.ns.length+220*K:=
  zUg I.ok.wf I.lt (by rw [show den (wA 220 221 a b c p.S).2.ns (wA 220 221 a b c p.S).1=fun x=>if F x then G x else H x from funext hden];exact hw) hle I.new
 have hroom:room (wA 220 221 a b c p.S).2=true:=by
  simp only [room,decide_eq_true_eq]
  have:p.S.ns.length+220*K≤5864062014000:=hr
  omega
 refine ⟨(zJr 220 p a b c).2,(zJr 220 p a b c).1,?_,⟨⟨?_,?_⟩,⟨e,he⟩,?_,hcnt⟩,⟨(zJr 220 p a b c).1,rfl,?_,hden⟩⟩
 ·simp only [zF1,vf,vg,vh,hi,decide_true,Bool.true_and,Int.toNat_natCast,hroom,if_true]
 ·exact zJF hp.ok a1 b1 c1 hp.len
 ·show (zCX _ _).length=_
  rw [zCX,List.length_set]
  exact zHF hp.len hle
 ·intro j hj
  exact xK hj
 ·show ((grow p.sh (wA 220 221 a b c p.S).2.ns.length).set (wA 220 221 a b c p.S).1 true)[(wA 220 221 a b c p.S).1]? =some true
  rw [List.getElem?_set_self]
  rw [zHF hp.len hle]
  exact I.lt
theorem zS1 {p:Pub} (hp:POk p) {v:Nat} (hv:v<220) (hr:p.S.ns.length+1≤lim) {nx i:Nat} (hi:i+1=nx):
  ∃p' y,zLm 220 (nx,some p) i v=some ((nx,some p'),y)∧Stp p 1 p'∧Rp p' y (fun a=>a v):=by
 have M:=zPW (n:=220) hp.ok.ok.wf (v:=v) (lo:=0) (hi:=1) hv (by omega) (by omega) (by rw [u6 (by omega)];exact hv) (by rw [u6 (by omega)];exact hv)
 obtain ⟨e,he,hel⟩:=M.app
 have hle:p.S.ns.length≤(mk p.S.ns v 0 1).2.length:=by rw [he,List.length_append];omega
 have hle2:(mk p.S.ns v 0 1).2.length≤p.S.ns.length+1:=by rw [he,List.length_append];omega
 have hroom:room ⟨(mk p.S.ns v 0 1).2,[]⟩=true:=by
  simp only [room,decide_eq_true_eq]
  have:p.S.ns.length+1≤5864062014000:=hr
  omega
 have hs:zLm 220 (nx,some p) i v=some ((nx,some (zLd p v).2),((zLd p v).1:Int)):=by
  simp only [zLm,hi,Int.toNat_natCast,hroom,decide_true,Bool.true_and,Bool.and_true,Bool.and_eq_true,decide_eq_true_eq]
  rw [if_pos ⟨by omega,hv⟩]
 refine ⟨(zLd p v).2,(zLd p v).1,hs,⟨⟨?_,?_⟩,⟨e,he⟩,?_,hle2⟩,⟨(zLd p v).1,rfl,?_,?_⟩⟩
 ·refine ⟨⟨M.wf,?_⟩,xK hp.ok.f0,xK hp.ok.f1⟩
  intro t ht
  obtain ⟨m1,m2,m3⟩:=hp.ok.ok.memo t ht
  have W':=M.wf
  simp only [zLd]
  rw [he] at W' ⊢
  exact ⟨m1.app,by simp only [List.length_append];omega,fun a=>by rw [hp.ok.ok.wf.app W' m2,zEV hp.ok.ok.wf W' m1];exact m3 a⟩
 ·show (zCX _ _).length=_
  rw [zCX,List.length_set]
  exact zHF hp.len hle
 ·intro j hj
  exact xK hj
 ·show ((grow p.sh (mk p.S.ns v 0 1).2.length).set (mk p.S.ns v 0 1).1 true)[(mk p.S.ns v 0 1).1]? =some true
  rw [List.getElem?_set_self]
  rw [zHF hp.len hle]
  exact M.lt
 ·intro a
  show den (mk p.S.ns v 0 1).2 (mk p.S.ns v 0 1).1 a=a v
  rw [M.den,vH (by omega),vH (by omega)]
  cases a v<;>rfl
theorem zM1 {p:Pub} {f:Int} {φ:(Nat→Bool)→Bool} (h:Rp p f φ) {nx i:Nat} (hi:i+1=nx):zHg (nx,some p) i f=some ((nx,some p),true):=by
 have hv:=h.val
 obtain ⟨m,rfl,h1,_⟩:=h
 simp only [zHg,hi,decide_true,Bool.true_and,hv]
 rw [if_pos (by simp)]
theorem zTz {p:Pub} {f:Int} {φ:(Nat→Bool)→Bool} (h:Rp p f φ) {nx i:Nat} (hi:i+1=nx) {al:List Bool} (ha:0<al.length):zJU (nx,some p) i f al=some ((nx,some p),φ (fun v=>al.getD v false)):=by
 have hv:=h.val
 obtain ⟨m,rfl,h1,h2⟩:=h
 simp only [zJU,hi,decide_true,Bool.true_and,hv,ha,if_true,Int.toNat_natCast,h2]
end Go.Proofs.Bw

namespace Go.Ve
open Go
set_option maxRecDepth 1000000
set_option maxHeartbeats 4000000
theorem zAB {α:Type} {m:Option α} {x:α} (h:Wp m (fun r=>r=x)):m=some x:=by
 obtain ⟨r,h1,rfl⟩:=h;exact h1
def zUb (a b c d:Int):Prop:=a<c∨(a=c∧b<d)
def plt (p q:Ty.El zJ):Prop:=zUb p.1 p.2.1 q.1 q.2.1
def zSE (a b c d:Int):Int:=if a<c then-1 else if c<a then 1 else if b<d then-1 else if d<b then 1 else 0
def zUy (p q:Ty.El zJ):Int:=zSE p.1 p.2.1 q.1 q.2.1
theorem zTG {a b c d:Int} :zSE a b c d<0↔zUb a b c d:=by
 unfold zSE zUb
 split
 ·omega
 ·split
  ·omega
  ·split
   ·omega
   ·split<;>omega
theorem zTF {p q:Ty.El zJ} :zUy p q<0↔plt p q:=zTG
theorem zOz (a b:Int):uD (a,b,())=some (if a<b then-1 else if b<a then 1 else 0):=by
 refine zAB ?_
 unfold uD yD
 simp only [Option.bind_some,bne_self_eq_false,cond_false]
 refine zI (fun h=>zB ?_) (fun h=>zI (fun h'=>zB ?_) (fun h'=>zB ?_))
 ·rw [if_pos h]
 ·rw [if_neg h,if_pos h']
 ·rw [if_neg h,if_neg h']
theorem zOA (a b:Int):cmp_Compare_int (a,b,())=some (if a<b then-1 else if b<a then 1 else 0):=by
 refine zAB ?_
 unfold cmp_Compare_int cmp_isNaN_int
 simp only [Option.bind_some,bne_self_eq_false,cond_false]
 refine zI (fun h=>zB ?_) (fun h=>zI (fun h'=>zB ?_) (fun h'=>zB ?_))
 ·rw [if_pos h]
 ·rw [if_neg h,if_pos h']
 ·rw [if_neg h,if_neg h']
theorem zP8 {a b c d:Int} :(if ((if a<c then (-1:Int) else if c<a then 1 else 0) !=0)=true then (if a<c then (-1:Int) else if c<a then 1 else 0) else (if b<d then (-1:Int) else if d<b then 1 else 0))=zSE a b c d:=by
 unfold zSE
 by_cases h1:a<c
 ·simp [h1]
 ·by_cases h2:c<a
  ·simp [h1,h2]
  ·simp [h1,h2]
theorem zHk (p q:Ty.El zJ):zBE (p,q,())=some (zUy p q):=by
 refine zAB ?_
 unfold zBE
 dsimp only
 refine zA (zT (zOz _ _) (zE (fun h=>zB ?_) (fun h=>zA (zT (zOA _ _) (zB ?_)))))
 ·have:=zP8 (a:=p.1) (b:=p.2.1) (c:=q.1) (d:=q.2.1)
  rw [if_pos h] at this
  exact this
 ·have:=zP8 (a:=p.1) (b:=p.2.1) (c:=q.1) (d:=q.2.1)
  rw [if_neg (by rw [h];simp)] at this
  exact this
def wK (n:Int):Nat:=min n.toNat 32
def uT (k:Nat):BitVec 32:=BitVec.allOnes 32<<< (32-k)
theorem zQ2 (n:Int):wK n≤32:=Nat.min_le_right _ _
theorem wrap_u32 {x:Int} (h0:0≤x) (h1:x<4294967296):IntKind.wrap .u32 x=x:=by
 have e1:((2:Int)^IntKind.bits .u32)=4294967296:=by decide
 simp only [IntKind.wrap,IntKind.signed,Bool.false_and,Bool.false_eq_true,if_false,e1]
 omega
theorem zFf (x:BitVec 32):IntKind.wrap .u32 (x.toNat:Int)=(x.toNat:Int):=wrap_u32 (by omega) (by have:=x.isLt;omega)
theorem zBU (x:BitVec 32):BitVec.ofInt 32 (x.toNat:Int)=x:=by
 rw [BitVec.ofInt_natCast,BitVec.ofNat_toNat,BitVec.setWidth_eq]
theorem zMM: ∀k,k<33→IntKind.wrap .u32 (4294967295*2^min (32-k) 32)=((uT k).toNat:Int):=by decide+kernel
theorem zSF (n:Int):(if (if (32:Int)<n then (32:Int) else n)>(0:Int) then if (32:Int)<n then (32:Int) else n else (0:Int))=(wK n:Int):=by
 unfold wK
 split<;>split<;>omega
theorem zAe (n:Int):xW (n,())=some ((uT (wK n)).toNat:Int):=by
 have hle:=zQ2 n
 unfold xW zB8
 simp only [zSF,Option.bind_some]
 rw [wrap_i64 (by omega) (by omega)]
 have h0:(0:Int)≤32- ((wK n:Nat):Int):=by omega
 simp only [h0,decide_true,cond_true]
 rw [show ((32:Int) - ((wK n:Nat):Int)).toNat=32-wK n by omega]
 exact congrArg some (zMM _ (by omega))
def zEh (p:Ty.El zJ) (a:Int):Bool:=(((BitVec.ofInt 32 a&&&uT (wK p.2.1)).toNat:Nat):Int)==p.1
theorem zUC (a:Int) (k:Nat):IntKind.wrap .u32 (((BitVec.ofInt (IntKind.bits .u32) a&&&BitVec.ofInt (IntKind.bits .u32) ((uT k).toNat:Int)).toNat:Nat):Int)=((BitVec.ofInt 32 a&&&uT k).toNat:Int):=by
 change IntKind.wrap .u32 (((BitVec.ofInt 32 a&&&BitVec.ofInt 32 ((uT k).toNat:Int)).toNat:Nat):Int)=_
 rw [zBU,zFf]
theorem zBP (p:Ty.El zJ) (a:Int):uK (p,a,())=some (zEh p a):=by
 refine zAB ?_
 unfold uK
 dsimp only
 refine zA (zT (zAe _) (zB ?_))
 rw [zUC]
 rfl
def zBK (p:Ty.El zJ):Bool:=decide (p.2.1≥0)&&(decide (p.2.1≤32)&&(BitVec.ofInt 32 p.1&&& ~~~ uT (wK p.2.1))==0#32)
theorem zBh (p:Ty.El zJ):jW (p,())=some (zBK p):=by
 refine zAB ?_
 unfold jW zBK
 dsimp only
 refine zA (zE (fun h=>zE (fun h'=>zA (zT (zAe _) (zB (zB ?_)))) (fun h'=>zB (zB ?_))) (fun h=>zB (zB ?_)))
 ·rw [h,h']
  simp only [Bool.true_and]
  change (IntKind.wrap .u32 (((BitVec.ofInt 32 p.1&&& ~~~ BitVec.ofInt 32 ((uT (wK p.2.1)).toNat:Int)).toNat:Nat):Int)==(0:Int))=_
  rw [zBU,zFf,Bool.eq_iff_iff,beq_iff_eq,beq_iff_eq]
  constructor
  ·intro h
   apply BitVec.eq_of_toNat_eq
   simp only [BitVec.toNat_ofNat]
   omega
  ·intro h
   rw [h];rfl
 ·rw [h,h'];rfl
 ·rw [h];rfl
def bt (x:Int) (k:Nat):Bool:=(BitVec.ofInt 32 x).getLsbD k
theorem zTC (x:Int) {k:Nat} (hk:k<32):(x%4294967296) / 2^k%2=x / 2^k%2:=by
 rcases (by omega:k=0∨k=1∨k=2∨k=3∨k=4∨k=5∨k=6∨k=7∨k=8∨k=9∨k=10∨k=11∨k=12∨k=13∨k=14∨k=15∨k=16∨k=17∨k=18∨k=19∨k=20∨k=21∨k=22∨k=23∨k=24∨k=25∨k=26∨k=27∨k=28∨k=29∨k=30∨k=31) with rfl|rfl|rfl|rfl|rfl|rfl|rfl|rfl|rfl|rfl|rfl|rfl|rfl|rfl|rfl|rfl|rfl|rfl|rfl|rfl|rfl|rfl|rfl|rfl|rfl|rfl|rfl|rfl|rfl|rfl|rfl|rfl<;>simp only [Int.reducePow,Nat.reducePow]<;>omega
theorem zT1 (x:Int) {k:Nat} (hk:k<32):bt x k=decide (x / 2^k%2=1):=by
 unfold bt
 rw [BitVec.getLsbD,Nat.testBit_eq_decide_div_mod_eq,BitVec.toNat_ofInt, ←zTC x hk,decide_eq_decide]
 have h0:(0:Int)≤x%4294967296:=Int.emod_nonneg _ (by omega)
 obtain ⟨m,hm⟩:=Int.eq_ofNat_of_zero_le h0
 have h1:(x%((2^32:Nat):Int))=(m:Int):=hm
 rw [h1,hm,Int.toNat_natCast]
 have h2:((m:Int) / 2^k)%2=((m / 2^k%2:Nat):Int):=by
  rw [Int.natCast_emod,Int.natCast_ediv,Int.natCast_pow];rfl
 rw [h2]
 omega
theorem zSs (x:Int) {k:Nat} (hk:k<32):(BitVec.ofInt 32 (Int.fdiv x (2^k)))&&&1#32=if bt x k then 1#32 else 0#32:=by
 rw [zT1 x hk]
 have hpos:(0:Int)≤2^k:=Int.le_of_lt (Int.pow_pos (by omega))
 rw [Int.fdiv_eq_ediv_of_nonneg _ hpos]
 generalize x / 2^k=y
 apply BitVec.eq_of_toNat_eq
 rw [BitVec.toNat_and,BitVec.toNat_ofInt,show (1#32).toNat=1 from rfl,Nat.and_one_is_mod]
 have h0:(0:Int)≤y%((2^32:Nat):Int):=Int.emod_nonneg _ (by omega)
 have h1:(y%((2^32:Nat):Int))%2=y%2:=by
  have:((2^32:Nat):Int)=4294967296:=rfl
  rw [this];omega
 split
 ·rename_i h
  simp only [decide_eq_true_eq] at h
  show _=1
  omega
 ·rename_i h
  simp only [decide_eq_true_eq] at h
  show _=0
  omega
theorem zKM (x:Int) {k:Nat} (hk:k<32):IntKind.wrap .u32 ((BitVec.toNat (BitVec.ofInt (IntKind.bits .u32) (Int.fdiv x (2^min k (IntKind.bits .u32)))&&&BitVec.ofInt (IntKind.bits .u32) 1):Nat):Int)=if bt x k then 1 else 0:=by
 change IntKind.wrap .u32 ((BitVec.toNat (BitVec.ofInt 32 (Int.fdiv x (2^min k 32))&&&1#32):Nat):Int)=_
 rw [zFf,Nat.min_eq_left (by omega),zSs x hk]
 split<;>rfl
end Go.Ve

namespace Go.Ve
open Go Go.Proofs Go.Bd Go.Proofs.Bw
set_option maxRecDepth 1000000
set_option maxHeartbeats 4000000
theorem zLY {γ:Type} {n:Nat} (hn:n<4611686018427387904) {g0:γ} {body:Int×γ→Option γ} {Q:γ→Prop} (J:Nat→γ→Prop) (h0:J n g0)
  (step: ∀j g,j<n→J (j+1) g→Wp (body ((j:Int),g)) (J j)) (fin: ∀g,J 0 g→Q g):
  Wp (zK (fun s:Int×γ=>bif decide (s.1≥(0:Int)) then Option.bind (body s) (fun g=>some (Sum.inl (IntKind.wrap IntKind.i64 (s.1- (1:Int)),g))) else some (Sum.inr s.2)) ((n:Int) -1,g0)) Q:=by
 refine wp_loop (fun (s:Int×γ)=> ∃j:Nat,s.1=(j:Int) -1∧j≤n∧J j s.2) (fun (s:Int×γ)=>(s.1+1).toNat) ⟨n,rfl,Nat.le_refl _,h0⟩ ?_
 rintro ⟨s,g⟩ ⟨j,hj,hle,hJ⟩
 simp only at hj
 subst hj
 refine zI ?_ ?_
 ·intro hc
  have hc:(j:Int) -1≥0:=hc
  obtain ⟨k,rfl⟩: ∃k,j=k+1:=⟨j-1,by omega⟩
  have e:(((k+1:Nat):Int) -1)=(k:Int):=by omega
  rw [e]
  refine zA ((step k g (by omega) hJ).mono ?_)
  intro g' hg'
  refine zB (e2l ⟨⟨k,?_,by omega,hg'⟩,?_⟩)
  ·dsimp only;rw [wrap_i64 (by omega) (by omega)]
  ·dsimp only;rw [wrap_i64 (by omega) (by omega)];omega
 ·intro hc
  have hc: ¬((j:Int) -1≥0):=hc
  have:j=0:=by omega
  subst this
  exact zB (e2r (fin _ hJ))
section
variable {p:Pub} {nx i:Nat} {f g h:Int} {F G H:(Nat→Bool)→Bool} {Q:MSt×Int→Prop}
theorem xB (hp:POk p) (hi:i+1=nx) (hf:Rp p f F) (hg:Rp p g G) (K:Nat) (hw:Wd K (fun a=>F a&&G a)) (hr:p.S.ns.length+220*K≤lim)
  (hq: ∀p' y,Stp p (220*K) p'→Rp p' y (fun a=>F a&&G a)→Q ((nx,some p'),y)):Wp (zW (nx,some p) (i,f,g,())) Q:=by
 have e:(fun a=>if F a then G a else false)=fun a=>F a&&G a:=by funext a;cases F a<;>rfl
 obtain ⟨p',y,h1,h2,h3⟩:=zMs hp hf hg (Rp.f0 hp) (K:=K) (by rw [e];exact hw) hr hi
 rw [e] at h3
 exact ⟨_,h1,hq p' y h2 h3⟩
theorem zIO (hp:POk p) (hi:i+1=nx) (hf:Rp p f F) (hg:Rp p g G) (K:Nat) (hw:Wd K (fun a=>F a||G a)) (hr:p.S.ns.length+220*K≤lim)
  (hq: ∀p' y,Stp p (220*K) p'→Rp p' y (fun a=>F a||G a)→Q ((nx,some p'),y)):Wp (vX (nx,some p) (i,f,g,())) Q:=by
 have e:(fun a=>if F a then true else G a)=fun a=>F a||G a:=by funext a;cases F a<;>rfl
 obtain ⟨p',y,h1,h2,h3⟩:=zMs hp hf (Rp.f1 hp) hg (K:=K) (by rw [e];exact hw) hr hi
 rw [e] at h3
 exact ⟨_,h1,hq p' y h2 h3⟩
theorem zH2 (hp:POk p) (hi:i+1=nx) (hf:Rp p f F) (K:Nat) (hw:Wd K (fun a=> !F a)) (hr:p.S.ns.length+220*K≤lim)
  (hq: ∀p' y,Stp p (220*K) p'→Rp p' y (fun a=> !F a)→Q ((nx,some p'),y)):Wp (vK (nx,some p) (i,f,())) Q:=by
 have e:(fun a=>if F a then false else true)=fun a=> !F a:=by funext a;cases F a<;>rfl
 obtain ⟨p',y,h1,h2,h3⟩:=zMs hp hf (Rp.f0 hp) (Rp.f1 hp) (K:=K) (by rw [e];exact hw) hr hi
 rw [e] at h3
 exact ⟨_,h1,hq p' y h2 h3⟩
theorem zRb {v:Nat} (hp:POk p) (hi:i+1=nx) (hv:v<220) (hr:p.S.ns.length+1≤lim)
  (hq: ∀p' y,Stp p 1 p'→Rp p' y (fun a=>a v)→Q ((nx,some p'),y)):Wp (zFL (nx,some p) (i,(v:Int),())) Q:=by
 obtain ⟨p',y,h1,h2,h3⟩:=zS1 hp hv hr hi
 exact ⟨_,h1,hq p' y h2 h3⟩
end
theorem Wd.var (v:Nat):Wd 2 (fun a=>a v):=
 ⟨fun u a=>if v<u then (a v).toNat else 0,fun u a=>by dsimp only;split<;>(cases a v<;>simp),fun u a b h=>by
  dsimp only
  split
  ·rename_i hv;rw [h v hv]
  ·rfl,fun u a b h hr=>by
  dsimp only at h
  split at h
  ·revert h;cases h1:a v<;>cases h2:b v<;>simp [h1,h2]
  ·rename_i hv;exact hr v (by omega)⟩
def fv (k i:Nat):Nat:=12+2*(ftF k+i)
theorem zRl {k i:Nat} (hk:k<5) (hi:i<wdF k):wJ ((k:Int),(i:Int),false,())=some ((fv k i:Nat):Int):=by
 show zMY k i false=_
 unfold zMY
 rw [if_pos ⟨⟨by omega,by omega⟩,by omega,by rw [Int.toNat_natCast];omega⟩]
 rfl
theorem zG5 {k:Nat} (hk:k<5):zN ((k:Int),())=some ((wdF k:Nat):Int):=by
 show zH4 k=_
 unfold zH4
 rw [if_pos ⟨by omega,by omega⟩]
 rfl
theorem zTX: ∀k,k<5→ ∀i,i<wdF k→fv k i<220:=by decide
theorem zIJ (q:Nat→Nat) (m:Nat) (a:Nat→Bool):Bd.bits q (m+1) a=a (q 0)::Bd.bits (fun i=>q (i+1)) m a:=by
 rw [Bd.bits,List.range_succ_eq_map,List.map_cons,List.map_map]
 rfl
def zMm (o:Option Bool) (b:Bool):Bool:=match o with
 |some c=>b==c
 |none=>true
theorem zLM (q:Nat→Option Bool) (b:Bool) (l:List Bool):fits q (b::l)=(zMm (q 0) b&&fits (fun i=>q (i+1)) l):=by
 have:=zCs q [b] l
 rw [List.singleton_append] at this
 rw [this]
 congr 1
 ·rw [fits]
  simp only [List.length_singleton,List.range_one,List.all_cons,List.all_nil,Bool.and_true,zMm]
  cases q 0 with
  |none=>rfl
  |some c=>simp
 ·simp only [List.length_singleton,Nat.add_comm]
def wq (A M:Int) (i:Nat):Option Bool:=if bt M (31-i) then none else some (bt A (31-i))
def uF (k:Nat) (A M:Int) (a:Nat→Bool):Bool:=fits (wq A M) (Bd.bits (fv k) 32 a)
theorem zPG (q:Nat→Option Bool) (k j m:Nat):Wd 2 (fun a=>fits q (Bd.bits (fun i=>fv k (i+j)) m a)):=
 (zPJ (c:=0) (d:=fv k (m+j)) q (fun i i' h h'=>by unfold fv;omega) (fun i hi=>by omega) (fun i hi=>by unfold fv;omega) (by omega)).wd
def Mk (p:Pub) (nx c:Nat) (φ:(Nat→Bool)→Bool) (r:MSt×Int):Prop:= ∃p',r.1=(nx,some p')∧Stp p c p'∧Rp p' r.2 φ
theorem zCF {p:Pub} {nx i:Nat} (hp:POk p) (hi:i+1=nx) {k:Nat} (hk:k<2) (A M:Int) (hr:p.S.ns.length+30000≤lim):
  Wp (wG (nx,some p) (i,(k:Int),false,(A,M,()),())) (Mk p nx 30000 (uF k A M)):=by
 have hk5:k<5:=by omega
 have hw:wdF k=32:=by
  have:k=0∨k=1:=by omega
  rcases this with rfl|rfl<;>rfl
 have hwid:zN ((k:Int),())=some (32:Int):=by rw [zG5 hk5,hw];rfl
 unfold wG
 dsimp only
 refine zA (Wp.mono (Q:=fun s=>s=(false,(nx,some p))) ?_ ?_)
 ·refine zE (fun h=>zB ?_) (fun h=>zB rfl)
  have:k=1:=by
   have h:(k:Int)≠0:=by simpa using h
   omega
  subst this
  rfl
 rintro _ rfl
 simp only [cond_false,hwid,Option.bind_some]
 rw [show IntKind.wrap IntKind.i64 ((32:Int) -1)=((32:Nat):Int) -1 from by rw [wrap_i64 (by omega) (by omega)];rfl]
 have key: ∀j:Nat,j<32→IntKind.wrap IntKind.i64 (((32:Nat):Int) -1- (j:Int))=((31-j:Nat):Int):=by
  intro j hj
  rw [wrap_i64 (by omega) (by omega)]
  omega
 refine zA (Wp.mono (zLY (n:=32) (by omega) (fun j (s:Int×MSt)=> ∃p',s.2=(nx,some p')∧Stp p ((32-j)*900) p'∧Rp p' s.1 (fun a=>fits (fun i=>wq A M (i+j)) (Bd.bits (fun i=>fv k (i+j)) (32-j) a)))
  ⟨p,rfl,Stp.refl hp,(Rp.f1 hp).congr (fun a=>rfl)⟩ ?_ (Q:=Mk p nx 30000 (uF k A M)∘Prod.swap) ?_) (fun s hs=>zB hs))
 ·rintro j ⟨f,st⟩ hj ⟨p',hst,hs,hf⟩
  simp only at hst hf
  subst hst
  dsimp only
  have hlen:=hs.cnt
  have hlim:p.S.ns.length+30000≤5864062014000:=hr
  have hcons: ∀a,fits (fun i=>wq A M (i+j)) (Bd.bits (fun i=>fv k (i+j)) (32-j) a)=(zMm (wq A M j) (a (fv k j))&&fits (fun i=>wq A M (i+(j+1))) (Bd.bits (fun i=>fv k (i+(j+1))) (32- (j+1)) a)):=by
   intro a
   rw [show 32-j=(32- (j+1))+1 by omega,zIJ,zLM]
   simp only [Nat.zero_add,show ∀x,x+1+j=x+(j+1) from fun x=>by omega]
  rw [key j hj]
  refine zI (fun _=> ?_) (fun h=>absurd (by omega) h)
  simp only [Int.toNat_natCast,zKM M (show 31-j<32 by omega)]
  refine zE (fun h=>zB ?_) (fun h=> ?_)
  ·have hb:bt M (31-j)=true:=by
    revert h;cases bt M (31-j)<;>simp
   refine ⟨p',rfl,hs.mono (by omega),hf.congr (fun a=> ?_)⟩
   rw [hcons a,wq,if_pos hb]
   rfl
  ·have hb:bt M (31-j)=false:=by
    revert h;cases bt M (31-j)<;>simp
   have hq0:wq A M j=some (bt A (31-j)):=by rw [wq,hb];rfl
   refine zA (zT (zRl hk5 (by rw [hw];exact hj)) ?_)
   refine zA (zRb hs.ok hi (zTX k hk5 j (by rw [hw];exact hj)) (by show _≤5864062014000;omega) ?_)
   intro p1 y1 hs1 hy1
   dsimp only
   have hlen1:=hs1.cnt
   refine zA (Wp.mono (Q:=Mk p1 nx 440 (fun a=>a (fv k j)==bt A (31-j))∘Prod.swap) ?_ ?_)
   ·refine zI (fun _=> ?_) (fun h=>absurd (by omega) h)
    simp only [zKM A (show 31-j<32 by omega)]
    refine zE (fun h'=> ?_) (fun h'=> ?_)
    ·have hb':bt A (31-j)=false:=by
      revert h';cases bt A (31-j)<;>simp
     refine zA (zH2 hs1.ok hi hy1 2 ((Wd.var _).comp not) (by show _≤5864062014000;omega) ?_)
     intro p2 y2 hs2 hy2
     exact zB ⟨p2,rfl,hs2,hy2.congr (fun a=>by rw [hb'];cases a (fv k j)<;>rfl)⟩
    ·have hb':bt A (31-j)=true:=by
      revert h';cases bt A (31-j)<;>simp
     exact zB ⟨p1,rfl,(Stp.refl hs1.ok).mono (by omega),hy1.congr (fun a=>by rw [hb'];cases a (fv k j)<;>rfl)⟩
   ·rintro ⟨y2,st2⟩ ⟨p2,hst2,hs2,hy2⟩
    simp only [Function.comp,Prod.swap] at hst2 hy2
    subst hst2
    have hlen2:=hs2.cnt
    have hf2:Rp p2 f (fun a=>fits (fun i=>wq A M (i+(j+1))) (Bd.bits (fun i=>fv k (i+(j+1))) (32- (j+1)) a)):=(hf.step hs.ok hs1).step hs1.ok hs2
    have hfun:(fun a=>(a (fv k j)==bt A (31-j))&&fits (fun i=>wq A M (i+(j+1))) (Bd.bits (fun i=>fv k (i+(j+1))) (32- (j+1)) a))=fun a=>fits (fun i=>wq A M (i+j)) (Bd.bits (fun i=>fv k (i+j)) (32-j) a):=by
     funext a
     rw [hcons a,hq0]
     rfl
    refine zA (xB hs2.ok hi hy2 hf2 2 (by rw [hfun];exact zPG _ k j _) (by show _≤5864062014000;omega) ?_)
    intro p3 y3 hs3 hy3
    rw [hfun] at hy3
    exact zB ⟨p3,rfl,((hs.trans hs1).trans hs2).trans hs3|>.mono (by omega),hy3⟩
 ·rintro ⟨f,st⟩ ⟨p',hst,hs,hf⟩
  simp only at hst
  subst hst
  exact ⟨p',rfl,hs.mono (by omega),hf⟩
def zEL (x:Ty.El zJ) (a:Nat→Bool):Bool:=uF 1 x.1 ((BitVec.allOnes 32^^^uT (wK x.2.1)).toNat:Int) a
theorem zNi {p:Pub} {nx i:Nat} (hp:POk p) (hi:i+1=nx) (x:Ty.El zJ) (hx:zBK x=true) (hr:p.S.ns.length+30000≤lim):
  Wp (jO (nx,some p) (i,(1:Int),false,x,())) (Mk p nx 30000 (zEL x)):=by
 unfold jO
 dsimp only
 refine zA (zT (zBh x) ?_)
 rw [hx]
 refine zA (zT (zAe _) ?_)
 have e:IntKind.wrap IntKind.u32 ((BitVec.toNat (BitVec.ofInt (IntKind.bits IntKind.u32) (if IntKind.signed IntKind.u32=true then (-1:Int) else IntKind.max IntKind.u32)^^^BitVec.ofInt (IntKind.bits IntKind.u32) ((uT (wK x.2.1)).toNat:Int)):Nat):Int)=((BitVec.allOnes 32^^^uT (wK x.2.1)).toNat:Int):=by
  change IntKind.wrap IntKind.u32 ((BitVec.toNat (BitVec.ofInt 32 (IntKind.max IntKind.u32)^^^BitVec.ofInt 32 ((uT (wK x.2.1)).toNat:Int)):Nat):Int)=_
  rw [zBU,zFf]
  rfl
 rw [e]
 refine zA ((zCF (k:=1) hp hi (by omega) x.1 _ hr).mono ?_)
 rintro ⟨st,y⟩ h
 exact zB h
end Go.Ve

namespace Go.Ve
open Go Go.Proofs Go.Bd Go.Proofs.Bw
set_option maxRecDepth 1000000
set_option maxHeartbeats 4000000
noncomputable def zLA (pick:Int→Option Bool) (st0:MSt) (a1:Nat) (a2:List (Ty.El zD)):Option (MSt×Int×Int×Unit):=
  Option.bind
   (zK
    (fun (s55:Int×Int×Int×MSt)=>
     bif decide (s55.1≥(0:Int)) then
      Option.bind
       (zK
        (fun (s56:Int×Int×Int×MSt)=>
         bif decide (s56.1< (↑(List.length a2):Int)) then
          Option.bind
           (Option.bind (idx a2 s56.1) fun (y57:Ty.El zD)=>
            bif y57.1.2.1 !=s55.1 then some s56.2
            else
             Option.bind (jO s56.2.2.2 (a1,(1:Int),false,y57.1,())) fun (y58:MSt×Int)=>
              Option.bind
               (Option.bind (pick s56.1) fun (y59:Bool)=>
                bif y59 then
                 Option.bind (zW y58.1 (a1,s56.2.2.1,y58.2,())) fun (y60:MSt×Int)=>
                  Option.bind (vX y60.1 (a1,s56.2.1,y60.2,())) fun (y61:MSt×Int)=>some (y61.2,y61.1)
                else some (s56.2.1,y58.1))
               fun (s62:Int×MSt)=>
               Option.bind (vK s62.2 (a1,y58.2,())) fun (y63:MSt×Int)=>
                Option.bind (zW y63.1 (a1,s56.2.2.1,y63.2,())) fun (y64:MSt×Int)=>some (s62.1,y64.2,y64.1))
           fun (s65:Int×Int×MSt)=>some (Sum.inl (IntKind.wrap IntKind.i64 (s56.1+(1:Int)),s65))
         else some (Sum.inr s56.2))
        ((0:Int),s55.2))
       fun (s66:Int×Int×MSt)=>some (Sum.inl (IntKind.wrap IntKind.i64 (s55.1- (1:Int)),s66))
     else some (Sum.inr s55.2))
    ((32:Int),(0:Int),(1:Int),st0))
   fun (s67:Int×Int×MSt)=>some (s67.2.2,s67.1,s67.2.1,())
theorem zUj (st:MSt) (h:Nat) (t:List (Ty.El zD)) (i:Int):v5 st (h,t,(i,()),())=zLA (fun j=>xD (j,i,())) st h t:=rfl
theorem zUl (st:MSt) (h:Nat) (t t':List (Ty.El zD)):v7 st (h,t,(t',()),())=zLA (fun j=>wO (j,t',())) st h t:=rfl
theorem zUk (st:MSt) (h:Nat) (t t':List (Ty.El zD)):v6 st (h,t,(t',()),())=zLA (fun j=>vC (j,t',())) st h t:=rfl
theorem zUi (st:MSt) (h:Nat) (t t':List (Ty.El zD)) (x:Ty.El vL):v4 st (h,t,(t',x,()),())=zLA (fun j=>kE (j,t',x,())) st h t:=rfl
def vec (t:List (Ty.El zD)) (a:Nat→Bool):List Bool:=t.map (fun x=>zEL x.1 a)
theorem zRe: ∀t:List (Ty.El zD),Wd (2^t.length) (vec t)
 |[]=>Wd.const _
 |x::t=>by
  have h1:Wd 2 (zEL x.1):=zPG _ 1 0 32
  have h2:=(h1.prod (zRe t)).comp (fun q=>q.1::q.2)
  rw [List.length_cons,Nat.pow_succ,Nat.mul_comm]
  exact h2
theorem zAa {t:List (Ty.El zD)} (ht:t.length≤12) (g:List Bool→Bool):Wd 4096 (fun a=>g (vec t a)):=
 ((zRe t).comp g).mono (Nat.pow_le_pow_right (n:=2) (by omega) ht)
def vN (L:List Nat) (v:List Bool):Bool:=(L.find? (fun j=>v.getD j false)).isNone
def zO (L:List Nat) (pk:Nat→Bool) (v:List Bool):Bool:=match L.find? (fun j=>v.getD j false) with
 |some j=>pk j
 |none=>false
theorem zOE (L:List Nat) (i:Nat) (v:List Bool):vN (L++[i]) v=(vN L v&& !v.getD i false):=by
 unfold vN
 rw [List.find?_append]
 cases h:L.find? (fun j=>v.getD j false) with
 |some j=>rfl
 |none=>
  cases h2:v.getD i false<;>simp only [List.find?,h2,Option.none_or]<;>rfl
theorem zJ8 (L:List Nat) (pk:Nat→Bool) (i:Nat) (v:List Bool):zO (L++[i]) pk v=(zO L pk v||(pk i&&(vN L v&&v.getD i false))):=by
 unfold zO vN
 rw [List.find?_append]
 cases h:L.find? (fun j=>v.getD j false) with
 |some j=>simp
 |none=>
  cases h2:v.getD i false<;>simp only [List.find?,h2,Option.none_or]<;>cases pk i<;>rfl
def zIq (t:List (Ty.El zD)) (n k:Nat):List Nat:=(List.range k).filter (fun i=>match t[i]? with
 |some x=>x.1.2.1==(n:Int)
 |none=>false)
theorem zQw (t:List (Ty.El zD)) (n k:Nat) {x:Ty.El zD} (hx:t[k]? =some x):zIq t n (k+1)=zIq t n k++(if (x.1.2.1==(n:Int))=true then [k] else []):=by
 unfold zIq
 rw [List.range_succ,List.filter_append]
 congr 1
 simp only [List.filter_cons,List.filter_nil,hx]
def jE (t:List (Ty.El zD)):Nat→List Nat
 |0=>[]
 |m+1=>jE t m++zIq t (32-m) t.length
theorem zRj (t:List (Ty.El zD)) {i:Nat} {x:Ty.El zD} (hx:t[i]? =some x) (a:Nat→Bool):(vec t a).getD i false=zEL x.1 a:=by
 simp only [vec,List.getD_eq_getElem?_getD,List.getElem?_map,hx,Option.map_some,Option.getD_some]
abbrev cL:Nat:=1465200000
def AtL (p:Pub) (nx:Nat) (t:List (Ty.El zD)) (pk:Nat→Bool) (c:Nat) (L:List Nat) (g:Int×Int×MSt):Prop:=
 ∃p',g.2.2=(nx,some p')∧Stp p c p'∧Rp p' g.1 (fun a=>zO L pk (vec t a))∧Rp p' g.2.1 (fun a=>vN L (vec t a))
theorem zFn {p:Pub} {nx i:Nat} (hp:POk p) (hi:i+1=nx) (t:List (Ty.El zD)) (ht: ∀x,x∈t→zBK x.1=true) (hl:t.length≤12) (pick:Int→Option Bool) (pk:Nat→Bool)
  (hpk: ∀ (j:Nat) (x:Ty.El zD),t[j]? =some x→pick j=some (pk j)) (hr:p.S.ns.length+cL≤lim):
  Wp (zLA pick (nx,some p) i t) (fun r=> ∃p',r.1=(nx,some p')∧Stp p cL p'∧Rp p' r.2.1 (fun a=>zO (jE t 33) pk (vec t a))∧Rp p' r.2.2.1 (fun a=>vN (jE t 33) (vec t a))):=by
 have hlim:p.S.ns.length+1465200000≤5864062014000:=hr
 obtain ⟨C,hC⟩: ∃C,C=3700000:=⟨_,rfl⟩
 unfold zLA
 have e0:((32:Int),(0:Int),(1:Int),((nx,some p):MSt))=(((33:Nat):Int) -1,(0:Int),(1:Int),((nx,some p):MSt)):=rfl
 rw [e0]
 refine zA (Wp.mono (zLY (n:=33) (by omega) (fun j (g:Int×Int×MSt)=>AtL p nx t pk ((33-j)*12*C) (jE t (33-j)) g)
  ⟨p,rfl,(Stp.refl hp).mono (Nat.zero_le _),(Rp.f0 hp).congr (fun a=>by rw [Nat.sub_self];rfl),(Rp.f1 hp).congr (fun a=>by rw [Nat.sub_self];rfl)⟩ ?_ (Q:=AtL p nx t pk cL (jE t 33)) ?_) ?_)
 ·rintro j g hj hJ
  have e1:33-j=(33- (j+1))+1:=by omega
  have e2:32- (33- (j+1))=j:=by omega
  obtain ⟨pj,hst,hs,h1,h2⟩:=hJ
  have hcnt:=hs.cnt
  refine Wp.mono (zLX (xs:=t) (by omega) (fun k (g:Int×Int×MSt)=>AtL p nx t pk ((33- (j+1))*12*C+k*C) (jE t (33- (j+1))++zIq t j k) g)
   ⟨pj,hst,hs.mono (Nat.le_add_right _ _),h1.congr (fun a=>by simp [zIq]),h2.congr (fun a=>by simp [zIq])⟩ ?_ (Q:=AtL p nx t pk ((33-j)*12*C) (jE t (33-j))) ?_) (fun g h=>h)
  ·rintro k x ⟨f,r,st⟩ hx ⟨p',hst',hs',hf,hrr⟩
   have hxm:=List.mem_of_getElem? hx
   have hk:k<t.length:=(List.getElem?_eq_some_iff.1 hx).1
   simp only at hst' hf hrr
   subst hst'
   have hc':=hs'.cnt
   have hb:(33- (j+1))*12*C+(k+1)*C≤1465200000:=by
    have h1:(33- (j+1))*12*C≤32*12*C:=Nat.mul_le_mul_right _ (Nat.mul_le_mul_right _ (by omega))
    have h2:(k+1)*C≤12*C:=Nat.mul_le_mul_right _ (by omega)
    generalize (33- (j+1))*12*C=x1 at*
    generalize (k+1)*C=x2 at*
    omega
   have hb':(33- (j+1))*12*C+k*C+C=(33- (j+1))*12*C+(k+1)*C:=by rw [Nat.succ_mul];omega
   have hroom:p'.S.ns.length+3700000≤5864062014000:=by
    generalize (33- (j+1))*12*C=x1 at*
    generalize (k+1)*C=x2 at*
    generalize k*C=x3 at*
    omega
   refine zA (zT (jB hx) ?_)
   dsimp only
   rw [zQw t j k hx]
   refine zE (fun h=>zB ?_) (fun h=> ?_)
   ·have hne:(x.1.2.1==(j:Int))=false:=by
     revert h;cases hh:x.1.2.1==(j:Int)<;>simp [bne,hh]
    rw [hne]
    exact ⟨p',rfl,hs'.mono (by rw [←hb'];exact Nat.le_add_right _ _),by simpa using hf,by simpa using hrr⟩
   ·have heq:(x.1.2.1==(j:Int))=true:=by
     revert h;cases hh:x.1.2.1==(j:Int)<;>simp [bne,hh]
    rw [heq,if_pos rfl, ←List.append_assoc]
    generalize hLL:jE t (33- (j+1))++zIq t j k=L at hf hrr ⊢
    refine zA ((zNi hs'.ok hi x.1 (ht x hxm) (by show _≤5864062014000;omega)).mono ?_)
    rintro ⟨st1,hit⟩ ⟨p1,hst1,hs1,hh1⟩
    simp only at hst1 hh1
    subst hst1
    have hc1:=hs1.cnt
    have hh1:Rp p1 hit (fun a=>(vec t a).getD k false):=hh1.congr (fun a=>(zRj t hx a).symm)
    have hf1:=hf.step hs'.ok hs1
    have hr1:=hrr.step hs'.ok hs1
    refine zA (Wp.mono (Q:=fun s:Int×MSt=> ∃p2,s.2=(nx,some p2)∧Stp p1 (2*(220*4096)) p2∧Rp p2 s.1 (fun a=>zO (L++[k]) pk (vec t a))) ?_ ?_)
    ·refine zA (zT (hpk k x hx) ?_)
     refine zE (fun hk1=> ?_) (fun hk1=> ?_)
     ·refine zA (xB hs1.ok hi hr1 hh1 4096 (zAa hl (fun v=>vN L v&&v.getD k false)) (by show _≤5864062014000;omega) ?_)
      intro p2 y2 hs2 hy2
      have hc2:=hs2.cnt
      have hfun:(fun a=>zO L pk (vec t a)||(vN L (vec t a)&&(vec t a).getD k false))=fun a=>zO (L++[k]) pk (vec t a):=by
       funext a;rw [zJ8,hk1,Bool.true_and]
      refine zA (zIO hs2.ok hi (hf1.step hs1.ok hs2) hy2 4096 (zAa hl (fun v=>zO L pk v||(vN L v&&v.getD k false))) (by show _≤5864062014000;omega) ?_)
      intro p3 y3 hs3 hy3
      rw [hfun] at hy3
      exact zB ⟨p3,rfl,(hs2.trans hs3).mono (by omega),hy3⟩
     ·exact zB ⟨p1,rfl,(Stp.refl hs1.ok).mono (by omega),hf1.congr (fun a=>by rw [zJ8,hk1,Bool.false_and,Bool.or_false])⟩
    ·rintro ⟨f2,st2⟩ ⟨p2,hst2,hs2,hf2⟩
     simp only at hst2 hf2
     subst hst2
     have hc2:=hs2.cnt
     dsimp only
     refine zA (zH2 hs2.ok hi (hh1.step hs1.ok hs2) 4096 (zAa hl (fun v=> !v.getD k false)) (by show _≤5864062014000;omega) ?_)
     intro p3 y3 hs3 hy3
     have hc3:=hs3.cnt
     have hfun:(fun a=>vN L (vec t a)&& !(vec t a).getD k false)=fun a=>vN (L++[k]) (vec t a):=by
      funext a;rw [zOE]
     refine zA (xB hs3.ok hi ((hr1.step hs1.ok hs2).step hs2.ok hs3) hy3 4096 (zAa hl (fun v=>vN L v&& !v.getD k false)) (by show _≤5864062014000;omega) ?_)
     intro p4 y4 hs4 hy4
     rw [hfun] at hy4
     refine zB ⟨p4,rfl,((((hs'.trans hs1).trans hs2).trans hs3).trans hs4).mono ?_,(hf2.step hs2.ok hs3).step hs3.ok hs4,hy4⟩
     rw [←hb']
     generalize (33- (j+1))*12*C+k*C=x1 at*
     omega
  ·rintro g ⟨p',hst',hs',hf,hrr⟩
   refine ⟨p',hst',hs'.mono ?_,?_,?_⟩
   ·rw [e1]
    have:t.length*C≤12*C:=Nat.mul_le_mul_right _ hl
    rw [Nat.succ_mul,Nat.add_mul]
    exact Nat.add_le_add_left this _
   ·rw [e1,jE,e2];exact hf
   ·rw [e1,jE,e2];exact hrr
 ·rintro g ⟨p',hst,hs,hf,hrr⟩
  rw [Nat.sub_zero] at hs hf hrr
  refine ⟨p',hst,hs.mono ?_,hf,hrr⟩
  rw [hC];show 33*12*3700000≤1465200000
  omega
 ·rintro ⟨f,r,st⟩ ⟨p',hst,hs,hf,hrr⟩
  exact zB ⟨p',hst,hs,hf,hrr⟩
end Go.Ve

namespace Go.Ve
open Go Go.Proofs Go.Bd Go.Proofs.Bw
set_option maxRecDepth 1000000
set_option maxHeartbeats 4000000
abbrev Fwd:=Ty.El zD
def zEM (t:List Fwd) (pk:Nat→Bool) (a:Nat→Bool):Bool:=zO (jE t 33) pk (vec t a)
def zQr (t:List Fwd) (a:Nat→Bool):Bool:=vN (jE t 33) (vec t a)
def zDc (l:List (Ty.El vL)) (h:Ty.El vL):Bool:=l.any (fun y=>h.1==y.1&&(h.2.1==y.2.1&&true))
def atE (t:List Fwd) (q:Fwd→Bool) (j:Nat):Bool:=match t[j]? with
 |some x=>q x
 |none=>false
theorem zAw {t:List Fwd} {q:Fwd→Bool} {j:Nat} {x:Fwd} (h:t[j]? =some x):atE t q j=q x:=by simp [atE,h]
abbrev qD (x:Fwd):Bool:=x.2.2.1
abbrev qU (x:Fwd):Bool:= !x.2.2.1&&x.2.1.isEmpty
abbrev qR (h:Ty.El vL) (x:Fwd):Bool:= !x.2.2.1&&zDc x.2.1 h
theorem zJY (l:List (Ty.El vL)) (h:Ty.El vL) (hl:l.length<4611686018427387904):Wp (u4 (l,h,())) (fun r=>decide (r≥0)=zDc l h):=by
 unfold u4
 dsimp only
 refine zG3 hl (fun i=> ∀j y,j<i→l[j]? =some y→(h.1==y.1&&(h.2.1==y.2.1&&true))=false) (fun j y hj=>by omega) ?_ ?_
 ·intro i x hx hJ
  refine zA (zT (jB hx) ?_)
  refine zE (fun hc=>zB (e2r (e2r ?_))) (fun hc=>zB (e2l ⟨rfl,?_⟩))
  ·have:zDc l h=true:=List.any_eq_true.2 ⟨x,List.mem_of_getElem? hx,hc⟩
   rw [this,decide_eq_true_eq]
   show (i:Int)≥0
   omega
  ·intro j y hj hy
   rcases Nat.lt_or_ge j i with h'|h'
   ·exact hJ j y h' hy
   ·have:j=i:=by omega
    subst this
    rw [hx] at hy
    cases hy
    exact hc
 ·intro hJ
  refine zB ?_
  have:zDc l h=false:=by
   rw [zDc,List.any_eq_false]
   intro x hx
   obtain ⟨j,hj,rfl⟩:=List.getElem_of_mem hx
   rw [hJ j _ hj (by simp [hj])]
   simp
  rw [this]
  rfl
theorem zHl (l:List (Ty.El vL)) (h:Ty.El vL) (hl:l.length<4611686018427387904):kD (l,h,())=some (zDc l h):=by
 refine zAB ?_
 unfold kD
 refine zA ((zJY l h hl).mono (fun r hr=>zB hr))
structure zEi (t:List Fwd):Prop where
 len:t.length≤12
 val: ∀x,x∈t→zBK x.1=true
 hops: ∀x,x∈t→x.2.1.length≤4
 so: ∀ (i:Nat) (x y:Fwd),t[i]? =some x→t[i+1]? =some y→plt x.1 y.1
section
variable {p:Pub} {nx i:Nat} {t:List Fwd} {Q:MSt×Int→Prop}
abbrev cD:Nat:=1467000000
theorem zEz (hp:POk p) (hi:i+1=nx) (T:zEi t) (k:Int) (hr:p.S.ns.length+cD≤lim)
  (hq: ∀p' y,Stp p cD p'→Rp p' y (zEM t (fun j=>(j:Int)==k))→Q ((nx,some p'),y)):Wp (qK (nx,some p) (i,t,k,())) Q:=by
 have hr':p.S.ns.length+1467000000≤5864062014000:=hr
 unfold qK
 dsimp only
 rw [zUj]
 refine zA ((zFn hp hi t T.val T.len _ (fun j=>(j:Int)==k) (fun j x _=>rfl) (by show _+1465200000≤5864062014000;omega)).mono ?_)
 rintro ⟨st,y,z,u⟩ ⟨p',hst,hs,hy,_⟩
 simp only at hst
 subst hst
 exact zB (hq p' y (hs.mono (by show 1465200000≤1467000000;omega)) hy)
theorem zLZ (hp:POk p) (hi:i+1=nx) (T:zEi t) (hr:p.S.ns.length+cD≤lim)
  (hq: ∀p' y,Stp p cD p'→Rp p' y (zEM t (atE t qD))→Q ((nx,some p'),y)):Wp (qZ (nx,some p) (i,t,())) Q:=by
 have hr':p.S.ns.length+1467000000≤5864062014000:=hr
 unfold qZ
 dsimp only
 rw [zUl]
 refine zA ((zFn hp hi t T.val T.len _ (atE t qD) (fun j x hx=> ?_) (by show _+1465200000≤5864062014000;omega)).mono ?_)
 ·unfold wO
  dsimp only
  rw [jB hx,Option.bind_some,zAw hx]
 rintro ⟨st,y,z,u⟩ ⟨p',hst,hs,hy,_⟩
 simp only at hst
 subst hst
 exact zB (hq p' y (hs.mono (by show 1465200000≤1467000000;omega)) hy)
theorem zH3 (hp:POk p) (hi:i+1=nx) (T:zEi t) (h:Ty.El vL) (hr:p.S.ns.length+cD≤lim)
  (hq: ∀p' y,Stp p cD p'→Rp p' y (zEM t (atE t (qR h)))→Q ((nx,some p'),y)):Wp (jU (nx,some p) (i,t,h,())) Q:=by
 have hr':p.S.ns.length+1467000000≤5864062014000:=hr
 unfold jU
 dsimp only
 rw [zUi]
 refine zA ((zFn hp hi t T.val T.len _ (atE t (qR h)) (fun j x hx=> ?_) (by show _+1465200000≤5864062014000;omega)).mono ?_)
 ·unfold kE
  dsimp only
  have h4:=T.hops x (List.mem_of_getElem? hx)
  simp only [jB hx,Option.bind_some,zAw hx,zHl x.2.1 h (by omega)]
  show Option.bind (bif !x.2.2.1 then some (zDc x.2.1 h) else some false) _=_
  simp only [qR]
  cases x.2.2.1<;>rfl
 rintro ⟨st,y,z,u⟩ ⟨p',hst,hs,hy,_⟩
 simp only at hst
 subst hst
 exact zB (hq p' y (hs.mono (by show 1465200000≤1467000000;omega)) hy)
theorem zOo (hp:POk p) (hi:i+1=nx) (T:zEi t) (hr:p.S.ns.length+cD≤lim)
  (hq: ∀p' y,Stp p cD p'→Rp p' y (fun a=>zEM t (atE t qU) a||zQr t a)→Q ((nx,some p'),y)):Wp (jC (nx,some p) (i,t,())) Q:=by
 have hr':p.S.ns.length+1467000000≤5864062014000:=hr
 unfold jC
 dsimp only
 rw [zUk]
 refine zA ((zFn hp hi t T.val T.len _ (atE t qU) (fun j x hx=> ?_) (by show _+1465200000≤5864062014000;omega)).mono ?_)
 ·unfold vC
  dsimp only
  have h4:=T.hops x (List.mem_of_getElem? hx)
  simp only [jB hx,Option.bind_some,zAw hx]
  show Option.bind (bif !x.2.2.1 then some ((x.2.1.length:Int)==0) else some false) _=_
  have e:((x.2.1.length:Int)==0)=x.2.1.isEmpty:=by
   cases x.2.1 with
   |nil=>rfl
   |cons z l=>
    rw [List.length_cons,List.isEmpty_cons,beq_eq_false_iff_ne]
    omega
  rw [e]
  simp only [qU]
  cases x.2.2.1<;>rfl
 rintro ⟨st,y,z,u⟩ ⟨p',hst,hs,hy,hz⟩
 simp only at hst hy hz
 subst hst
 have hc:=hs.cnt
 refine zA (zIO hs.ok hi hy hz 4096 (zAa T.len (fun v=>zO (jE t 33) (atE t qU) v||vN (jE t 33) v)) (by show _≤5864062014000;have:cL=1465200000:=rfl;omega) ?_)
 intro p2 y2 hs2 hy2
 refine zB (hq p2 y2 ((hs.trans hs2).mono (by show 1465200000+220*4096≤1467000000;omega)) hy2)
end
theorem zJV (t:List Fwd) (hl:t.length<4611686018427387904):Wp (zA7 (t,())) (fun b=>b=true→zEi t):=by
 unfold zA7
 dsimp only
 refine zI (fun _=>zB (fun h=>by cases h)) (fun h12=> ?_)
 have h12:t.length≤12:=by omega
 refine zG3 hl (fun i=> ∀j x,j<i→t[j]? =some x→zBK x.1=true∧x.2.1.length≤4∧ ∀y,0<j→t[j-1]? =some y→plt y.1 x.1) (fun j x hj=>by omega) ?_ ?_
 ·intro i x hx hJ
  have hil:=(List.getElem?_eq_some_iff.1 hx).1
  refine zA (Wp.mono (Q:=fun b:Bool=>b=false→(zBK x.1=true∧x.2.1.length≤4∧ ∀y,0<i→t[i-1]? =some y→plt y.1 x.1)) ?_ ?_)
  ·refine zA (zT (jB hx) ?_)
   refine zA (zT (zBh _) ?_)
   refine zE (fun hv=>zB (fun h=>by cases h)) (fun hv=> ?_)
   have hv:zBK x.1=true:=by simpa using hv
   refine zA (zT (jB hx) ?_)
   refine zI (fun h4=>zB (fun h=>by cases h)) (fun h4=> ?_)
   have h4:x.2.1.length≤4:=by
    have h4: ¬((x.2.1.length:Int)>4):=h4
    omega
   refine zI (fun h0=> ?_) (fun h0=>zB (fun _=>⟨hv,h4,fun y h=>absurd (by omega) h0⟩))
   have h0:0<i:=by omega
   rw [wrap_i64 (by omega) (by omega),show (i:Int) -1=((i-1:Nat):Int) by omega]
   have hx1:t[i-1]? =some (t[i-1]'(by omega)):=by simp [show i-1<t.length by omega]
   refine zA (zT (jB hx1) ?_)
   refine zA (zT (jB hx) ?_)
   refine zA (zT (zHk _ _) (zB ?_))
   intro hlt
   refine ⟨hv,h4,fun y _ hy=> ?_⟩
   rw [hx1] at hy
   cases hy
   have hlt: ¬(zUy (t[i-1]'(by omega)).1 x.1≥0):=by simpa using hlt
   exact zTF.1 (by omega)
  ·intro b hb
   refine zE (fun h=>zB (e2r (e2r (fun h=>by cases h)))) (fun h=>zB (e2l ⟨rfl,?_⟩))
   intro j y hj hy
   rcases Nat.lt_or_ge j i with h'|h'
   ·exact hJ j y h' hy
   ·have:j=i:=by omega
    subst this
    rw [hx] at hy
    cases hy
    exact hb h
 ·intro hJ
  refine zB (fun _=>⟨h12,fun x hx=> ?_,fun x hx=> ?_,fun j x y hx hy=> ?_⟩)
  ·obtain ⟨j,hj,rfl⟩:=List.getElem_of_mem hx
   exact (hJ j _ hj (by simp [hj])).1
  ·obtain ⟨j,hj,rfl⟩:=List.getElem_of_mem hx
   exact (hJ j _ hj (by simp [hj])).2.1
  ·exact (hJ (j+1) y (List.getElem?_eq_some_iff.1 hy).1 hy).2.2 x (by omega) hx
theorem zEF {s:MSt} :vT s ()=some ((s.1+1,some zC7),s.1):=by
 unfold vT
 show Option.bind (zLn 220 s 220) _=_
 rw [zLn,if_pos ⟨rfl,by omega,by omega⟩]
 rfl
end Go.Ve
