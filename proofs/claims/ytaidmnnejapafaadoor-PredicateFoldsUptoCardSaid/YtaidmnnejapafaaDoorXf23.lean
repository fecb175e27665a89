/-
  law31: functions of header, predicate and the laws' helpers, out of code.
  law31: contracts of these functions.
  law31: the sanity check and the laws on tables, out of code.
  law31: contracts of the sanity check and the laws on tables.
  law31: the checks of a router, rules of access lists, out of code.
  law31: contracts of the checks.
  law31: the laws on rules, out of code.
  law31: contracts of the laws on rules.
  law31, in plain Lean: what the operations on one manager come to, by what numbers denote.
  law31, plain: masks, prefixes, bits.
  law31, plain: operations on sets of packets; wildcards and prefixes as sets.
-/
import Derived.Test.YtaidmnnejapafaaDoorXf22
import Derived.Test.YtaidmnnejapafaaDoorXf1
import Derived.Test.YtaidmnnejapafaaDoorXf10
set_option linter.unusedVariables false
namespace Go.Ve
open Go Go.Proofs Go.Bd Go.Proofs.Bw
noncomputable def zA5:ElA [.d tI, .pp tI]→Option (RTy.El (.p .bool)):=fun x=>match x with
 |(a1,a2,())=>
  some (a1==a2)
noncomputable def zBb:ElS [tI]→Option (RTy.El (.p tI)):=fun x=>match x with
 |(a1,())=>
  some (if (if (32:Int)<a1 then (32:Int) else a1)>(0:Int) then if (32:Int)<a1 then (32:Int) else a1 else (0:Int))
noncomputable def yP:ElS [tI]→Option (RTy.El (.p tU)):=fun x=>match x with
 |(a1,())=>
  Option.bind (zBb (a1,())) fun (y0:Int)=>
   bif decide ((0:Int)≤IntKind.wrap IntKind.i64 ((32:Int) -y0)) then
    some (IntKind.wrap IntKind.u32 ((4294967295:Int)*(2:Int)^min (Int.toNat (IntKind.wrap IntKind.i64 ((32:Int) -y0))) (IntKind.bits IntKind.u32)))
   else none
noncomputable def jQ:ElS [zI]→Option (RTy.El (.p .bool)):=fun x=>match x with
 |(a1,())=>
  Option.bind
   (bif decide (a1.2.1≥(0:Int)) then
    bif decide (a1.2.1≤(32:Int)) then
     Option.bind (yP (a1.2.1,())) fun (y2:Int)=>
      some (IntKind.wrap IntKind.u32 (↑(BitVec.toNat (BitVec.ofInt (IntKind.bits IntKind.u32) a1.1&&& ~~~BitVec.ofInt (IntKind.bits IntKind.u32) y2)):Int)==(0:Int))
    else some false
   else some false)
   fun (s3:Bool)=>some s3
noncomputable def jO:MSt→ElS [.hd,tI, .bool,zJv]→Option (MSt×RTy.El (.p tI)):=fun st0 x=>match x with
 |(a1,a2,a3,a4,())=>
  Option.bind (bif a2 !=(0:Int) then some (a2 !=(1:Int),st0) else some (false,st0)) fun (s0:Bool×MSt)=>
   bif s0.1 then some (s0.2,(-1:Int))
   else
    Option.bind
     (Option.bind (uC (a2,())) fun (y25:Int)=>
      zO
       (fun (s26:Int×Int×MSt)=>
        bif decide (s26.1≥(0:Int)) then
         Option.bind
          (Option.bind (uC (a2,())) fun (y27:Int)=>
           bif decide ((0:Int)≤IntKind.wrap IntKind.i64 (IntKind.wrap IntKind.i64 (y27- (1:Int)) -s26.1)) then
            bif
              IntKind.wrap IntKind.u32
                (↑(BitVec.toNat
                   (BitVec.ofInt (IntKind.bits IntKind.u32)
                     (Int.fdiv a4.2.1
                      ((2:Int)^
                        min (Int.toNat (IntKind.wrap IntKind.i64 (IntKind.wrap IntKind.i64 (y27- (1:Int)) -s26.1))) (IntKind.bits IntKind.u32)))&&&
                    BitVec.ofInt (IntKind.bits IntKind.u32) (1:Int))):
                 Int)==
               (1:Int) then
             some s26.2
            else
             Option.bind (zCK (a2,s26.1,a3,())) fun (y28:Int)=>
              Option.bind (zEs s26.2.2 (a1,y28,())) fun (y29:MSt×Int)=>
               Option.bind
                (bif decide ((0:Int)≤IntKind.wrap IntKind.i64 (IntKind.wrap IntKind.i64 (y27- (1:Int)) -s26.1)) then
                 bif
                   IntKind.wrap IntKind.u32
                     (↑(BitVec.toNat
                        (BitVec.ofInt (IntKind.bits IntKind.u32)
                          (Int.fdiv a4.1
                           ((2:Int)^
                             min (Int.toNat (IntKind.wrap IntKind.i64 (IntKind.wrap IntKind.i64 (y27- (1:Int)) -s26.1)))
                              (IntKind.bits IntKind.u32)))&&&
                         BitVec.ofInt (IntKind.bits IntKind.u32) (1:Int))):
                      Int)==
                    (0:Int) then
                  Option.bind (vV y29.1 (a1,y29.2,())) fun (y30:MSt×Int)=>some (y30.2,y30.1)
                 else some (y29.2,y29.1)
                else none)
                fun (s31:Int×MSt)=>Option.bind (qG s31.2 (a1,s31.1,s26.2.1,())) fun (y32:MSt×Int)=>some (y32.2,y32.1)
           else none)
          fun (s33:Int×MSt)=>some (Sum.inl (IntKind.wrap IntKind.i64 (s26.1- (1:Int)),s33))
        else some (Sum.inr s26.2))
       (IntKind.wrap IntKind.i64 (y25- (1:Int)),(1:Int),s0.2))
     fun (s34:Int×MSt)=>some (s34.2,s34.1)
noncomputable def jA:MSt→ElS [.hd,tI, .bool,zI]→Option (MSt×RTy.El (.p tI)):=fun st0 x=>match x with
 |(a1,a2,a3,a4,())=>
  Option.bind (jQ (a4,())) fun (y0:Bool)=>
   bif !y0 then some (st0,(-1:Int))
   else
    Option.bind (yP (a4.2.1,())) fun (y3:Int)=>
     Option.bind
      (jO st0
       (a1,a2,a3,
        (a4.1,
         IntKind.wrap IntKind.u32
          (↑(BitVec.toNat
             (BitVec.ofInt (IntKind.bits IntKind.u32) (if IntKind.signed IntKind.u32=true then (-1:Int) else IntKind.max IntKind.u32)^^^
              BitVec.ofInt (IntKind.bits IntKind.u32) y3)):
           Int),
         ()),
        ()))
      fun (y4:MSt×Int)=>some (y4.1,y4.2)
noncomputable def zBP:MSt→ElA [.d .hd, .d (.sl zG), .clo 39 [(true,tI)]]→Option (MSt×RTy.El (.tu [tI,tI])):=fun st0 x=>match x with
 |(a1,a2,(a3,()),())=>
  Option.bind
   (zO
    (fun (s55:Int×Int×Int×MSt)=>
     bif decide (s55.1≥(0:Int)) then
      Option.bind
       (zO
        (fun (s56:Int×Int×Int×MSt)=>
         bif decide (s56.1< (↑(List.length a2):Int)) then
          Option.bind
           (Option.bind (idx a2 s56.1) fun (y57:Ty.El zG)=>
            bif y57.1.2.1 !=s55.1 then some s56.2
            else
             Option.bind (jA s56.2.2.2 (a1,(1:Int),false,y57.1,())) fun (y58:MSt×Int)=>
              Option.bind
               (Option.bind (zA5 (s56.1,a3,())) fun (y59:Bool)=>
                bif y59 then
                 Option.bind (qG y58.1 (a1,s56.2.2.1,y58.2,())) fun (y60:MSt×Int)=>
                  Option.bind (uX y60.1 (a1,s56.2.1,y60.2,())) fun (y61:MSt×Int)=>some (y61.2,y61.1)
                else some (s56.2.1,y58.1))
               fun (s62:Int×MSt)=>
               Option.bind (vV s62.2 (a1,y58.2,())) fun (y63:MSt×Int)=>
                Option.bind (qG y63.1 (a1,s56.2.2.1,y63.2,())) fun (y64:MSt×Int)=>some (s62.1,y64.2,y64.1))
           fun (s65:Int×Int×MSt)=>some (Sum.inl (IntKind.wrap IntKind.i64 (s56.1+(1:Int)),s65))
         else some (Sum.inr s56.2))
        ((0:Int),s55.2))
       fun (s66:Int×Int×MSt)=>some (Sum.inl (IntKind.wrap IntKind.i64 (s55.1- (1:Int)),s66))
     else some (Sum.inr s55.2))
    ((32:Int),(0:Int),(1:Int),st0))
   fun (s67:Int×Int×MSt)=>some (s67.2.2,s67.1,s67.2.1,())
noncomputable def jW:ElA [.d tI, .pp (.sl zG)]→Option (RTy.El (.p .bool)):=fun x=>match x with
 |(a1,a2,())=>
  Option.bind (idx a2 a1) fun (y0:Ty.El zG)=>some y0.2.2.1
noncomputable def w7:MSt→ElA [.d .hd, .d (.sl zG), .clo 37 [(true,(.sl zG))]]→Option (MSt×RTy.El (.tu [tI,tI])):=fun st0 x=>match x with
 |(a1,a2,(a3,()),())=>
  Option.bind
   (zO
    (fun (s55:Int×Int×Int×MSt)=>
     bif decide (s55.1≥(0:Int)) then
      Option.bind
       (zO
        (fun (s56:Int×Int×Int×MSt)=>
         bif decide (s56.1< (↑(List.length a2):Int)) then
          Option.bind
           (Option.bind (idx a2 s56.1) fun (y57:Ty.El zG)=>
            bif y57.1.2.1 !=s55.1 then some s56.2
            else
             Option.bind (jA s56.2.2.2 (a1,(1:Int),false,y57.1,())) fun (y58:MSt×Int)=>
              Option.bind
               (Option.bind (jW (s56.1,a3,())) fun (y59:Bool)=>
                bif y59 then
                 Option.bind (qG y58.1 (a1,s56.2.2.1,y58.2,())) fun (y60:MSt×Int)=>
                  Option.bind (uX y60.1 (a1,s56.2.1,y60.2,())) fun (y61:MSt×Int)=>some (y61.2,y61.1)
                else some (s56.2.1,y58.1))
               fun (s62:Int×MSt)=>
               Option.bind (vV s62.2 (a1,y58.2,())) fun (y63:MSt×Int)=>
                Option.bind (qG y63.1 (a1,s56.2.2.1,y63.2,())) fun (y64:MSt×Int)=>some (s62.1,y64.2,y64.1))
           fun (s65:Int×Int×MSt)=>some (Sum.inl (IntKind.wrap IntKind.i64 (s56.1+(1:Int)),s65))
         else some (Sum.inr s56.2))
        ((0:Int),s55.2))
       fun (s66:Int×Int×MSt)=>some (Sum.inl (IntKind.wrap IntKind.i64 (s55.1- (1:Int)),s66))
     else some (Sum.inr s55.2))
    ((32:Int),(0:Int),(1:Int),st0))
   fun (s67:Int×Int×MSt)=>some (s67.2.2,s67.1,s67.2.1,())
noncomputable def wF:ElA [.d tI, .pp (.sl zG)]→Option (RTy.El (.p .bool)):=fun x=>match x with
 |(a1,a2,())=>
  Option.bind
   (Option.bind (idx a2 a1) fun (y2:Ty.El zG)=>
    bif !y2.2.2.1 then Option.bind (idx a2 a1) fun (y3:Ty.El zG)=>some ((↑(List.length y3.2.1):Int)==(0:Int)) else some false)
   fun (s4:Bool)=>some s4
noncomputable def w6:MSt→ElA [.d .hd, .d (.sl zG), .clo 38 [(true,(.sl zG))]]→Option (MSt×RTy.El (.tu [tI,tI])):=fun st0 x=>match x with
 |(a1,a2,(a3,()),())=>
  Option.bind
   (zO
    (fun (s55:Int×Int×Int×MSt)=>
     bif decide (s55.1≥(0:Int)) then
      Option.bind
       (zO
        (fun (s56:Int×Int×Int×MSt)=>
         bif decide (s56.1< (↑(List.length a2):Int)) then
          Option.bind
           (Option.bind (idx a2 s56.1) fun (y57:Ty.El zG)=>
            bif y57.1.2.1 !=s55.1 then some s56.2
            else
             Option.bind (jA s56.2.2.2 (a1,(1:Int),false,y57.1,())) fun (y58:MSt×Int)=>
              Option.bind
               (Option.bind (wF (s56.1,a3,())) fun (y59:Bool)=>
                bif y59 then
                 Option.bind (qG y58.1 (a1,s56.2.2.1,y58.2,())) fun (y60:MSt×Int)=>
                  Option.bind (uX y60.1 (a1,s56.2.1,y60.2,())) fun (y61:MSt×Int)=>some (y61.2,y61.1)
                else some (s56.2.1,y58.1))
               fun (s62:Int×MSt)=>
               Option.bind (vV s62.2 (a1,y58.2,())) fun (y63:MSt×Int)=>
                Option.bind (qG y63.1 (a1,s56.2.2.1,y63.2,())) fun (y64:MSt×Int)=>some (s62.1,y64.2,y64.1))
           fun (s65:Int×Int×MSt)=>some (Sum.inl (IntKind.wrap IntKind.i64 (s56.1+(1:Int)),s65))
         else some (Sum.inr s56.2))
        ((0:Int),s55.2))
       fun (s66:Int×Int×MSt)=>some (Sum.inl (IntKind.wrap IntKind.i64 (s55.1- (1:Int)),s66))
     else some (Sum.inr s55.2))
    ((32:Int),(0:Int),(1:Int),st0))
   fun (s67:Int×Int×MSt)=>some (s67.2.2,s67.1,s67.2.1,())
noncomputable def kZ:ElS [(.sl zAx),zAx]→Option (RTy.El (.p tI)):=fun x=>match x with
 |(a1,a2,())=>
  kF
   (zO
    (fun (s5:Int)=>
     bif decide (s5< (↑(List.length a1):Int)) then
      Option.bind (idx a1 s5) fun (y6:Ty.El zAx)=>
       bif a2.1==y6.1&&(a2.2.1==y6.2.1&&true) then some (Sum.inr (Sum.inr s5)) else some (Sum.inl (IntKind.wrap IntKind.i64 (s5+(1:Int))))
     else some (Sum.inr (Sum.inl ())))
    (0:Int))
   fun (s7:Unit)=>some (-1:Int)
noncomputable def vG:ElS [(.sl zAx),zAx]→Option (RTy.El (.p .bool)):=fun x=>match x with
 |(a1,a2,())=>
  Option.bind (kZ (a1,a2,())) fun (y0:Int)=>some (decide (y0≥(0:Int)))
noncomputable def vH:ElA [.d tI, .pp (.sl zG), .pp zAx]→Option (RTy.El (.p .bool)):=fun x=>match x with
 |(a1,a2,a3,())=>
  Option.bind
   (Option.bind (idx a2 a1) fun (y6:Ty.El zG)=>
    bif !y6.2.2.1 then Option.bind (idx a2 a1) fun (y7:Ty.El zG)=>Option.bind (vG (y7.2.1,a3,())) fun (y8:Bool)=>some y8 else some false)
   fun (s9:Bool)=>some s9
noncomputable def wZ:MSt→ElA [.d .hd, .d (.sl zG), .clo 40 [(true,(.sl zG)),(true,zAx)]]→Option (MSt×RTy.El (.tu [tI,tI])):=fun st0 x=>match x with
 |(a1,a2,(a3,a4,()),())=>
  Option.bind
   (zO
    (fun (s55:Int×Int×Int×MSt)=>
     bif decide (s55.1≥(0:Int)) then
      Option.bind
       (zO
        (fun (s56:Int×Int×Int×MSt)=>
         bif decide (s56.1< (↑(List.length a2):Int)) then
          Option.bind
           (Option.bind (idx a2 s56.1) fun (y57:Ty.El zG)=>
            bif y57.1.2.1 !=s55.1 then some s56.2
            else
             Option.bind (jA s56.2.2.2 (a1,(1:Int),false,y57.1,())) fun (y58:MSt×Int)=>
              Option.bind
               (Option.bind (vH (s56.1,a3,a4,())) fun (y59:Bool)=>
                bif y59 then
                 Option.bind (qG y58.1 (a1,s56.2.2.1,y58.2,())) fun (y60:MSt×Int)=>
                  Option.bind (uX y60.1 (a1,s56.2.1,y60.2,())) fun (y61:MSt×Int)=>some (y61.2,y61.1)
                else some (s56.2.1,y58.1))
               fun (s62:Int×MSt)=>
               Option.bind (vV s62.2 (a1,y58.2,())) fun (y63:MSt×Int)=>
                Option.bind (qG y63.1 (a1,s56.2.2.1,y63.2,())) fun (y64:MSt×Int)=>some (s62.1,y64.2,y64.1))
           fun (s65:Int×Int×MSt)=>some (Sum.inl (IntKind.wrap IntKind.i64 (s56.1+(1:Int)),s65))
         else some (Sum.inr s56.2))
        ((0:Int),s55.2))
       fun (s66:Int×Int×MSt)=>some (Sum.inl (IntKind.wrap IntKind.i64 (s55.1- (1:Int)),s66))
     else some (Sum.inr s55.2))
    ((32:Int),(0:Int),(1:Int),st0))
   fun (s67:Int×Int×MSt)=>some (s67.2.2,s67.1,s67.2.1,())
noncomputable def vY:MSt→ElS [.hd,(.sl zG),zAx]→Option (MSt×RTy.El (.p tI)):=fun st0 x=>match x with
 |(a1,a2,a3,())=>
  Option.bind (wZ st0 (a1,a2,(a2,a3,()),())) fun (y0:MSt×Int×Int×Unit)=>some (y0.1,y0.2.1)
noncomputable def wG:MSt→ElS [.hd,(.sl zG)]→Option (MSt×RTy.El (.p tI)):=fun st0 x=>match x with
 |(a1,a2,())=>
  Option.bind (w7 st0 (a1,a2,(a2,()),())) fun (y0:MSt×Int×Int×Unit)=>some (y0.1,y0.2.1)
noncomputable def wO:MSt→ElS [.hd,(.sl zG)]→Option (MSt×RTy.El (.p tI)):=fun st0 x=>match x with
 |(a1,a2,())=>
  Option.bind (w6 st0 (a1,a2,(a2,()),())) fun (y0:MSt×Int×Int×Unit)=>
   Option.bind (uX y0.1 (a1,y0.2.1,y0.2.2.1,())) fun (y1:MSt×Int)=>some (y1.1,y1.2)
noncomputable def xE:MSt→ElS [.hd,tI, .bool,tU,tU]→Option (MSt×RTy.El (.p tI)):=fun st0 x=>match x with
 |(a1,a2,a3,a4,a5,())=>
  Option.bind (uC (a2,())) fun (y0:Int)=>
   bif y0==(0:Int) then some (st0,(-1:Int))
   else
    bif decide ((0:Int)≤y0) then
     Option.bind
      (bif decide (a4>a5) then some (true,st0)
      else some (decide (a4>IntKind.wrap IntKind.u32 (IntKind.wrap IntKind.u32 ((1:Int)*(2:Int)^min (Int.toNat y0) (IntKind.bits IntKind.u32)) - (1:Int))),st0))
      fun (s1:Bool×MSt)=>
      bif s1.1 then some (s1.2,(0:Int))
      else
       Option.bind
        (zO
         (fun (s35:Int×Int×Int×MSt)=>
          bif decide (s35.1≥(0:Int)) then
           Option.bind
            (Option.bind (zCK (a2,s35.1,a3,())) fun (y36:Int)=>
             Option.bind (zEs s35.2.2.2 (a1,y36,())) fun (y37:MSt×Int)=>
              Option.bind
               (bif decide ((0:Int)≤IntKind.wrap IntKind.i64 (IntKind.wrap IntKind.i64 (y0- (1:Int)) -s35.1)) then
                bif
                  IntKind.wrap IntKind.u32
                    (↑(BitVec.toNat
                       (BitVec.ofInt (IntKind.bits IntKind.u32)
                         (Int.fdiv a4
                          ((2:Int)^
                            min (Int.toNat (IntKind.wrap IntKind.i64 (IntKind.wrap IntKind.i64 (y0- (1:Int)) -s35.1))) (IntKind.bits IntKind.u32)))&&&
                        BitVec.ofInt (IntKind.bits IntKind.u32) (1:Int))):
                     Int)==
                   (1:Int) then
                 Option.bind (qG y37.1 (a1,y37.2,s35.2.1,())) fun (y38:MSt×Int)=>some (y38.2,y38.1)
                else Option.bind (uX y37.1 (a1,y37.2,s35.2.1,())) fun (y39:MSt×Int)=>some (y39.2,y39.1)
               else none)
               fun (s40:Int×MSt)=>
               bif decide ((0:Int)≤IntKind.wrap IntKind.i64 (IntKind.wrap IntKind.i64 (y0- (1:Int)) -s35.1)) then
                bif
                  IntKind.wrap IntKind.u32
                    (↑(BitVec.toNat
                       (BitVec.ofInt (IntKind.bits IntKind.u32)
                         (Int.fdiv
                          (if
                            IntKind.wrap IntKind.u32
                              (IntKind.wrap IntKind.u32 ((1:Int)*(2:Int)^min (Int.toNat y0) (IntKind.bits IntKind.u32)) - (1:Int))<
                             a5 then
                           IntKind.wrap IntKind.u32
                            (IntKind.wrap IntKind.u32 ((1:Int)*(2:Int)^min (Int.toNat y0) (IntKind.bits IntKind.u32)) - (1:Int))
                          else a5)
                          ((2:Int)^
                            min (Int.toNat (IntKind.wrap IntKind.i64 (IntKind.wrap IntKind.i64 (y0- (1:Int)) -s35.1))) (IntKind.bits IntKind.u32)))&&&
                        BitVec.ofInt (IntKind.bits IntKind.u32) (1:Int))):
                     Int)==
                   (1:Int) then
                 Option.bind (vV s40.2 (a1,y37.2,())) fun (y41:MSt×Int)=>
                  Option.bind (uX y41.1 (a1,y41.2,s35.2.2.1,())) fun (y42:MSt×Int)=>some (s40.1,y42.2,y42.1)
                else
                 Option.bind (vV s40.2 (a1,y37.2,())) fun (y43:MSt×Int)=>
                  Option.bind (qG y43.1 (a1,y43.2,s35.2.2.1,())) fun (y44:MSt×Int)=>some (s40.1,y44.2,y44.1)
               else none)
            fun (s45:Int×Int×MSt)=>some (Sum.inl (IntKind.wrap IntKind.i64 (s35.1- (1:Int)),s45))
          else some (Sum.inr s35.2))
         (IntKind.wrap IntKind.i64 (y0- (1:Int)),(1:Int),(1:Int),s1.2))
        fun (s46:Int×Int×MSt)=>Option.bind (qG s46.2.2 (a1,s46.1,s46.2.1,())) fun (y47:MSt×Int)=>some (y47.1,y47.2)
    else none
noncomputable def jE:MSt→ElS [.hd,tI,tI,tI]→Option (MSt×RTy.El (.p tI)):=fun st0 x=>match x with
 |(a1,a2,a3,a4,())=>
  bif decide ((if (0:Int)>a3 then (0:Int) else a3)>if (65535:Int)<a4 then (65535:Int) else a4) then some (st0,(0:Int))
  else
   Option.bind
    (xE st0
     (a1,a2,false,IntKind.wrap IntKind.u32 (if (0:Int)>a3 then (0:Int) else a3),IntKind.wrap IntKind.u32 (if (65535:Int)<a4 then (65535:Int) else a4),()))
    fun (y0:MSt×Int)=>some (y0.1,y0.2)
noncomputable def jF:MSt→ElS [.hd,qT]→Option (MSt×RTy.El (.p tI)):=fun st0 x=>match x with
 |(a1,a2,())=>
  Option.bind (jO st0 (a1,(0:Int),false,a2.2.2.1,())) fun (y3:MSt×Int)=>
   Option.bind (jO y3.1 (a1,(1:Int),false,a2.2.2.2.1,())) fun (y4:MSt×Int)=>
    Option.bind (qG y4.1 (a1,y3.2,y4.2,())) fun (y5:MSt×Int)=>
     Option.bind
      (bif a2.2.1 !=(-1:Int) then
       Option.bind (jE y5.1 (a1,(2:Int),a2.2.1,a2.2.1,())) fun (y8:MSt×Int)=>
        Option.bind (qG y8.1 (a1,y5.2,y8.2,())) fun (y9:MSt×Int)=>some (y9.2,y9.1)
      else some (y5.2,y5.1))
      fun (s10:Int×MSt)=>
      Option.bind (jE s10.2 (a1,(3:Int),a2.2.2.2.2.1.1,a2.2.2.2.2.1.2.1,())) fun (y11:MSt×Int)=>
       Option.bind (qG y11.1 (a1,s10.1,y11.2,())) fun (y12:MSt×Int)=>
        Option.bind (jE y12.1 (a1,(4:Int),a2.2.2.2.2.2.1.1,a2.2.2.2.2.2.1.2.1,()))
         fun (y13:MSt×Int)=>Option.bind (qG y13.1 (a1,y12.2,y13.2,())) fun (y14:MSt×Int)=>some (y14.1,y14.2)
noncomputable def uZ:ElS [zI,tU]→Option (RTy.El (.p .bool)):=fun x=>match x with
 |(a1,a2,())=>
  Option.bind (yP (a1.2.1,())) fun (y1:Int)=>
   some (IntKind.wrap IntKind.u32 (↑(BitVec.toNat (BitVec.ofInt (IntKind.bits IntKind.u32) a2&&&BitVec.ofInt (IntKind.bits IntKind.u32) y1)):Int)==a1.1)
noncomputable def zBz:ElS []→Option (RTy.El (.p zJv)):=fun x=>match x with
 |()=>
  some ((0:Int),(4294967295:Int),())
noncomputable def zEf:ElS []→Option (RTy.El (.p zET)):=fun x=>match x with
 |()=>
  some ((0:Int),(65535:Int),())
noncomputable def xF:MSt→ElS []→Option (MSt×RTy.El (.p .hd)):=fun st0 x=>match x with
 |()=>
  Option.bind (zJ5 st0 ((220:Int),())) fun (y0:MSt×Nat)=>some (y0.1,y0.2)
end Go.Ve

namespace Go.Ve
open Go Go.Proofs Go.Bd Go.Proofs.Bw
set_option maxRecDepth 1000000
set_option maxHeartbeats 0
theorem zDk:OkA 39 [.d tI, .pp tI] (.p .bool) zA5:=fA [] (A:=fun _=>none) (fn:=Tryd.f39) (by kernel_rfl) (by kernel_rfl) (by rintro ⟨⟩ ⟨a1,a2,⟨⟩⟩;kernel_rfl)
theorem zJj:OkX 103 [tI] (.p tI) zBb:=fX [] (A:=fun _=>none) (fn:=Tryd.f103) (by kernel_rfl) (by kernel_rfl) (by rintro ⟨⟩ ⟨a1,⟨⟩⟩;kernel_rfl)
noncomputable def zGf:Ent:=jT (by kernel_rfl) zJj
theorem zFX:OkX 69 [tI] (.p tU) yP:=fX [zGf] (A:=fun _=>none) (fn:=Tryd.f69) (by kernel_rfl) (by kernel_rfl) (by rintro ⟨⟩ ⟨a1,⟨⟩⟩;kernel_rfl)
noncomputable def zDT:Ent:=jT (by kernel_rfl) zFX
theorem zEJ:OkX 33 [zI] (.p .bool) jQ:=fX [zDT] (A:=(jl [jj 6 366503875920 [] [.t 2 .bool]])) (fn:=Tryd.f33) (by kernel_rfl) (by kernel_rfl) (by rintro ⟨⟩ ⟨a1,⟨⟩⟩;kernel_rfl)
noncomputable def zAS:Ent:=jT (by kernel_rfl) zEJ
theorem zE7:OkH 58 [.hd,tI, .bool,zJv] (.p tI) jO:=
 fH [zAb,zAa,zJ2,(zDK (by kernel_rfl) (by kernel_rfl) zEI),(zDK (by kernel_rfl) (by kernel_rfl) zDb)] (A:=[jj 6 91603599360 [] [.t 18 .bool, .st],jj 48 6760777410799738362560040140800 [] [.t 12 tI, .st],jj 24 1730765619511609208008965588516864 [] [.t 9 tI, .st],jj 21 1730765619511609209504301403340800 [] [.t 10 tI, .t 9 tI, .st],jj 52 1730765619511609209510073839386624 [] [.t 9 tI, .st]]) (fn:=Tryd.f58) (by kernel_rfl) (by kernel_rfl) (by kernel_rfl) (by rintro st0 ⟨a1,a2,a3,a4,⟨⟩⟩;kernel_rfl)
noncomputable def zBD:xR:=zBp (by kernel_rfl) zE7
theorem zGJ:OkH 72 [.hd,tI, .bool,zI] (.p tI) jA:=
 fH [zBD,(zDK (by kernel_rfl) (by kernel_rfl) zFX),(zDK (by kernel_rfl) (by kernel_rfl) zEJ)] (A:=[]) (fn:=Tryd.f72) (by kernel_rfl) (by kernel_rfl) (by kernel_rfl) (by rintro st0 ⟨a1,a2,a3,a4,⟨⟩⟩;kernel_rfl)
noncomputable def u6:xR:=zBp (by kernel_rfl) zGJ
theorem zBi:zQW 36 [.d .hd, .d (.sl zG), .clo 39 [(true,tI)]] (.tu [tI,tI]) zBP:=
 fHA [(zDK (by kernel_rfl) (by kernel_rfl) zDk),zAa,zCm,zAb,u6] (A:=[jj 48 6447598222363331028586496 [] [.t 6 tI, .st],jj 52 26409387504754778831351730176 [] [.t 6 tI, .t 7 tI, .st],jj 25 105637550019019116768493064192 [] [.t 18 tI, .t 6 tI, .t 7 tI, .st],jj 16 105637550019019116789967900672 [] [.t 6 tI, .t 7 tI, .st],jj 13 105637550019019116791394029568 [] [.t 8 tI, .t 6 tI, .t 7 tI, .st],jj 56 105637550019019116791394029568 [] [.t 6 tI, .t 7 tI, .st]]) (fn:=Tryd.f36) (by kernel_rfl) (by kernel_rfl) (by kernel_rfl) (by rintro st0 ⟨a1,a2,⟨a3,⟨⟩⟩,⟨⟩⟩;kernel_rfl)
noncomputable def vB:xR:=zBp (by kernel_rfl) zBi
theorem uJ:OkA 37 [.d tI, .pp (.sl zG)] (.p .bool) jW:=fA [] (A:=fun _=>none) (fn:=Tryd.f37) (by kernel_rfl) (by kernel_rfl) (by rintro ⟨⟩ ⟨a1,a2,⟨⟩⟩;kernel_rfl)
theorem zBk:zQW 36 [.d .hd, .d (.sl zG), .clo 37 [(true,(.sl zG))]] (.tu [tI,tI]) w7:=
 fHA [(zDK (by kernel_rfl) (by kernel_rfl) uJ),zAa,zCm,zAb,u6] (A:=[jj 48 6447598222363331028586496 [] [.t 6 tI, .st],jj 52 26409387504754778831351730176 [] [.t 6 tI, .t 7 tI, .st],jj 25 105637550019019116768493064192 [] [.t 18 tI, .t 6 tI, .t 7 tI, .st],jj 16 105637550019019116789967900672 [] [.t 6 tI, .t 7 tI, .st],jj 13 105637550019019116791394029568 [] [.t 8 tI, .t 6 tI, .t 7 tI, .st],jj 56 105637550019019116791394029568 [] [.t 6 tI, .t 7 tI, .st]]) (fn:=Tryd.f36) (by kernel_rfl) (by kernel_rfl) (by kernel_rfl) (by rintro st0 ⟨a1,a2,⟨a3,⟨⟩⟩,⟨⟩⟩;kernel_rfl)
noncomputable def vD:xR:=zBp (by kernel_rfl) zBk
theorem uT:OkA 38 [.d tI, .pp (.sl zG)] (.p .bool) wF:=fA [] (A:=(jl [jj 6 91625968960 [] [.t 3 .bool]])) (fn:=Tryd.f38) (by kernel_rfl) (by kernel_rfl) (by rintro ⟨⟩ ⟨a1,a2,⟨⟩⟩;kernel_rfl)
theorem zBj:zQW 36 [.d .hd, .d (.sl zG), .clo 38 [(true,(.sl zG))]] (.tu [tI,tI]) w6:=
 fHA [(zDK (by kernel_rfl) (by kernel_rfl) uT),zAa,zCm,zAb,u6] (A:=[jj 48 6447598222363331028586496 [] [.t 6 tI, .st],jj 52 26409387504754778831351730176 [] [.t 6 tI, .t 7 tI, .st],jj 25 105637550019019116768493064192 [] [.t 18 tI, .t 6 tI, .t 7 tI, .st],jj 16 105637550019019116789967900672 [] [.t 6 tI, .t 7 tI, .st],jj 13 105637550019019116791394029568 [] [.t 8 tI, .t 6 tI, .t 7 tI, .st],jj 56 105637550019019116791394029568 [] [.t 6 tI, .t 7 tI, .st]]) (fn:=Tryd.f36) (by kernel_rfl) (by kernel_rfl) (by kernel_rfl) (by rintro st0 ⟨a1,a2,⟨a3,⟨⟩⟩,⟨⟩⟩;kernel_rfl)
noncomputable def vC:xR:=zBp (by kernel_rfl) zBj
theorem zEv:OkX 73 [(.sl zAx),zAx] (.p tI) kZ:=fX [] (A:=(jl [jj 9 91625948416 [] [.t 8 tI],jj 28 91625968896 [] []])) (fn:=Tryd.f73) (by kernel_rfl) (by kernel_rfl) (by rintro ⟨⟩ ⟨a1,a2,⟨⟩⟩;kernel_rfl)
noncomputable def zFk:Ent:=jT (by kernel_rfl) zEv
theorem zCF:OkX 41 [(.sl zAx),zAx] (.p .bool) vG:=fX [zFk] (A:=fun _=>none) (fn:=Tryd.f41) (by kernel_rfl) (by kernel_rfl) (by rintro ⟨⟩ ⟨a1,a2,⟨⟩⟩;kernel_rfl)
noncomputable def zDq:Ent:=jT (by kernel_rfl) zCF
theorem xB:OkA 40 [.d tI, .pp (.sl zG), .pp zAx] (.p .bool) vH:=fA [zDq] (A:=(jl [jj 6 366503875840 [] [.t 4 .bool]])) (fn:=Tryd.f40) (by kernel_rfl) (by kernel_rfl) (by rintro ⟨⟩ ⟨a1,a2,a3,⟨⟩⟩;kernel_rfl)
theorem zBh:zQW 36 [.d .hd, .d (.sl zG), .clo 40 [(true,(.sl zG)),(true,zAx)]] (.tu [tI,tI]) wZ:=
 fHA [(zDK (by kernel_rfl) (by kernel_rfl) xB),zAa,zCm,zAb,u6] (A:=[jj 48 6447598222363331028586496 [] [.t 6 tI, .st],jj 52 26409387504754778831351730176 [] [.t 6 tI, .t 7 tI, .st],jj 25 105637550019019116768493064192 [] [.t 18 tI, .t 6 tI, .t 7 tI, .st],jj 16 105637550019019116789967900672 [] [.t 6 tI, .t 7 tI, .st],jj 13 105637550019019116791394029568 [] [.t 8 tI, .t 6 tI, .t 7 tI, .st],jj 56 105637550019019116791394029568 [] [.t 6 tI, .t 7 tI, .st]]) (fn:=Tryd.f36) (by kernel_rfl) (by kernel_rfl) (by kernel_rfl) (by rintro st0 ⟨a1,a2,⟨a3,a4,⟨⟩⟩,⟨⟩⟩;kernel_rfl)
noncomputable def vA:xR:=zBp (by kernel_rfl) zBh
theorem zEx:OkH 16 [.hd,(.sl zG),zAx] (.p tI) vY:=
 fH [vA,vC,vD,vB,(zDK (by kernel_rfl) (by kernel_rfl) xB)] (A:=[]) (fn:=Tryd.f16) (by kernel_rfl) (by kernel_rfl) (by kernel_rfl) (by rintro st0 ⟨a1,a2,a3,⟨⟩⟩;kernel_rfl)
noncomputable def zFm:xR:=zBp (by kernel_rfl) zEx
theorem zCG:OkH 11 [.hd,(.sl zG)] (.p tI) wG:=
 fH [vA,vC,vD,vB,(zDK (by kernel_rfl) (by kernel_rfl) uJ)] (A:=[]) (fn:=Tryd.f11) (by kernel_rfl) (by kernel_rfl) (by kernel_rfl) (by rintro st0 ⟨a1,a2,⟨⟩⟩;kernel_rfl)
noncomputable def zDr:xR:=zBp (by kernel_rfl) zCG
theorem zDj:OkH 12 [.hd,(.sl zG)] (.p tI) wO:=
 fH [zCm,vA,vC,vD,vB,(zDK (by kernel_rfl) (by kernel_rfl) uT)] (A:=[]) (fn:=Tryd.f12) (by kernel_rfl) (by kernel_rfl) (by kernel_rfl) (by rintro st0 ⟨a1,a2,⟨⟩⟩;kernel_rfl)
noncomputable def zDN:xR:=zBp (by kernel_rfl) zDj
theorem zHx:OkH 96 [.hd,tI, .bool,tU,tU] (.p tI) xE:=
 fH [zAa,zCm,zAb,zJ2,(zDK (by kernel_rfl) (by kernel_rfl) zEI),(zDK (by kernel_rfl) (by kernel_rfl) zDb)] (A:=[jj 22 24595283464977121280 [] [.t 32 .bool, .st],jj 68 453709815800448083400609335260007628800 [] [.t 13 tI, .st],jj 44 7794675399098148897086312660215804826831185510400 [] [.t 13 tI, .t 14 tI, .st],jj 41 7794675399098148897086319082634221529549749878784 [] [.t 15 tI, .t 13 tI, .t 14 tI, .st],jj 80 7794675399098148897086319106246053943897975947264 [] [.t 13 tI, .t 14 tI, .st]]) (fn:=Tryd.f96) (by kernel_rfl) (by kernel_rfl) (by kernel_rfl) (by rintro st0 ⟨a1,a2,a3,a4,a5,⟨⟩⟩;kernel_rfl)
noncomputable def zIT:xR:=zBp (by kernel_rfl) zHx
theorem zEw:OkH 59 [.hd,tI,tI,tI] (.p tI) jE:=
 fH [zIT] (A:=[]) (fn:=Tryd.f59) (by kernel_rfl) (by kernel_rfl) (by kernel_rfl) (by rintro st0 ⟨a1,a2,a3,a4,⟨⟩⟩;kernel_rfl)
noncomputable def zFl:xR:=zBp (by kernel_rfl) zEw
theorem zBx:OkH 22 [.hd,qT] (.p tI) jF:=
 fH [zFl,zAb,zBD] (A:=[jj 16 24019196580987904 [] [.t 5 tI, .st]]) (fn:=Tryd.f22) (by kernel_rfl) (by kernel_rfl) (by kernel_rfl) (by rintro st0 ⟨a1,a2,⟨⟩⟩;kernel_rfl)
noncomputable def zCj:xR:=zBp (by kernel_rfl) zBx
theorem zGL:OkX 43 [zI,tU] (.p .bool) uZ:=fX [zDT] (A:=fun _=>none) (fn:=Tryd.f43) (by kernel_rfl) (by kernel_rfl) (by rintro ⟨⟩ ⟨a1,a2,⟨⟩⟩;kernel_rfl)
noncomputable def zHI:Ent:=jT (by kernel_rfl) zGL
theorem zIx:OkX 30 [] (.p zJv) zBz:=fX [] (A:=fun _=>none) (fn:=Tryd.f30) (by kernel_rfl) (by kernel_rfl) (by rintro ⟨⟩ ⟨⟩;kernel_rfl)
theorem zKt:OkX 31 [] (.p zET) zEf:=fX [] (A:=fun _=>none) (fn:=Tryd.f31) (by kernel_rfl) (by kernel_rfl) (by rintro ⟨⟩ ⟨⟩;kernel_rfl)
theorem zJi:OkH 10 [] (.p .hd) xF:=
 fH [zOX] (A:=[]) (fn:=Tryd.f10) (by kernel_rfl) (by kernel_rfl) (by kernel_rfl) (by rintro st0 ⟨⟩;kernel_rfl)
noncomputable def zGe:xR:=zBp (by kernel_rfl) zJi
end Go.Ve

namespace Go.Ve
open Go Go.Proofs Go.Bd Go.Proofs.Bw
noncomputable def zAk:MSt→ElS []→Option (MSt×RTy.El (.p .bool)):=fun st0 x=>match x with
 |()=>
  Option.bind (xF st0 ()) fun (y0:MSt×Nat)=>
   Option.bind (zBz ()) fun (y1:Int×Int×Unit)=>
    Option.bind (zBz ()) fun (y2:Int×Int×Unit)=>
     Option.bind (zEf ()) fun (y3:Int×Int×Unit)=>
      Option.bind (zEf ()) fun (y4:Int×Int×Unit)=>
       Option.bind (jF y0.1 (y0.2,(true,(6:Int),y1,y2,y3,y4,()),())) fun (y5:MSt×Int)=>
        Option.bind
         (vY y5.1
          (y0.2,[(((0:Int),(0:Int),()),[],true,()),(((167772160:Int),(8:Int),()),[((0:Int),(0:Int),())],false,())],((0:Int),(0:Int),()),
           ()))
         fun (y6:MSt×Int)=>
         Option.bind
          (Option.bind (zCZ y6.1 (y0.2,y5.2,())) fun (y12:MSt×Int)=>
           bif y12.2==(8:Int) then
            Option.bind (zCZ y12.1 (y0.2,y6.2,())) fun (y13:MSt×Int)=>
             bif y13.2==(8:Int) then
              Option.bind
               (wG y13.1
                (y0.2,[(((0:Int),(0:Int),()),[],true,()),(((167772160:Int),(8:Int),()),[((0:Int),(0:Int),())],false,())],()))
               fun (y14:MSt×Int)=>
               Option.bind (vV y14.1 (y0.2,y6.2,())) fun (y15:MSt×Int)=>
                bif y14.2==y15.2 then
                 Option.bind
                  (wO y15.1
                   (y0.2,[(((0:Int),(0:Int),()),[],true,()),(((167772160:Int),(8:Int),()),[((0:Int),(0:Int),())],false,())],()))
                  fun (y16:MSt×Int)=>some (y16.2==(0:Int),y16.1)
                else some (false,y15.1)
             else some (false,y13.1)
           else some (false,y12.1))
          fun (s17:Bool×MSt)=>some (s17.2,s17.1)
end Go.Ve

namespace Go.Ve
open Go Go.Proofs Go.Bd Go.Proofs.Bw
set_option maxRecDepth 1000000
set_option maxHeartbeats 0
theorem zIw:OkH 8 [] (.p .bool) zAk:=
 fH [zDN,zAa,zDr,zNd,zFm,zCj,(zDK (by kernel_rfl) (by kernel_rfl) zKt),(zDK (by kernel_rfl) (by kernel_rfl) zIx),zGe] (A:=[jj 30 422550200076076091865598787585 [] [.t 0 .bool, .st]]) (fn:=Tryd.f8) (by kernel_rfl) (by kernel_rfl) (by kernel_rfl) (by rintro st0 ⟨⟩;kernel_rfl)
noncomputable def zJm:xR:=zBp (by kernel_rfl) zIw
end Go.Ve

namespace Go.Ve
open Go Go.Proofs Go.Bd Go.Proofs.Bw
noncomputable def zAn:ElS [(.int .u8)]→Option (RTy.El (.p .bool)):=fun x=>match x with
 |(a1,())=>
  Option.bind
   (bif decide ((65:Int)≤a1) then bif decide (a1≤(90:Int)) then some true else bif decide ((97:Int)≤a1) then some (decide (a1≤(122:Int))) else some false
   else bif decide ((97:Int)≤a1) then some (decide (a1≤(122:Int))) else some false)
   fun (s0:Bool)=>some s0
noncomputable def scan_digit:ElS [(.int .u8)]→Option (RTy.El (.p .bool)):=fun x=>match x with
 |(a1,())=>
  Option.bind (bif decide ((48:Int)≤a1) then some (decide (a1≤(57:Int))) else some false) fun (s0:Bool)=>some s0
noncomputable def j6:ElS [.str]→Option (RTy.El (.p .bool)):=fun x=>match x with
 |(a1,())=>
  Option.bind
   (bif decide ((↑(ByteArray.size a1):Int)< (1:Int)) then some true
   else
    bif decide ((↑(ByteArray.size a1):Int)>(15:Int)) then some true
    else Option.bind (byteAt a1 (0:Int)) fun (y2:Int)=>Option.bind (zAn (y2,())) fun (y3:Bool)=>some !y3)
   fun (s4:Bool)=>
   bif s4 then some false
   else
    kF
     (zO
      (fun (s17:Int)=>
       bif decide (s17< (↑(ByteArray.size a1):Int)) then
        Option.bind (byteAt a1 s17) fun (y18:Int)=>
         Option.bind
          (Option.bind (zAn (y18,())) fun (y19:Bool)=>
           bif !y19 then
            Option.bind (scan_digit (y18,())) fun (y20:Bool)=>
             bif !y20 then
              bif y18 !=(45:Int) then bif y18 !=(95:Int) then bif y18 !=(47:Int) then some (y18 !=(46:Int)) else some false else some false else some false
             else some false
           else some false)
          fun (s21:Bool)=>bif s21 then some (Sum.inr (Sum.inr false)) else some (Sum.inl (IntKind.wrap IntKind.i64 (s17+(1:Int))))
       else some (Sum.inr (Sum.inl ())))
      (1:Int))
     fun (s22:Unit)=>some true
noncomputable def zF:ElS [tI,tI,tI]→Option (RTy.El (.p .bool)):=fun x=>match x with
 |(a1,a2,a3,())=>
  Option.bind (bif decide (a2≤a1) then some (decide (a1≤a3)) else some false) fun (s0:Bool)=>some s0
noncomputable def yC:ElA [.d wK, .pp .str]→Option (RTy.El (.p .bool)):=fun x=>match x with
 |(a1,a2,())=>
  some (a1.1==a2)
noncomputable def qY:ElA [.d (.sl wK), .clo 108 [(true, .str)]]→Option (RTy.El (.p tI)):=fun x=>match x with
 |(a1,(a2,()),())=>
  kF
   (zO
    (fun (s6:Int)=>
     bif decide (s6< (↑(List.length a1):Int)) then
      Option.bind (idx a1 s6) fun (y7:Ty.El wK)=>
       Option.bind (yC (y7,a2,())) fun (y8:Bool)=>bif y8 then some (Sum.inr (Sum.inr s6)) else some (Sum.inl (IntKind.wrap IntKind.i64 (s6+(1:Int))))
     else some (Sum.inr (Sum.inl ())))
    (0:Int))
   fun (s9:Unit)=>some (-1:Int)
noncomputable def vP:ElA [.d wK, .pp tU]→Option (RTy.El (.p .bool)):=fun x=>match x with
 |(a1,a2,())=>
  Option.bind (bif a1.2.2.1 !=(0:Int) then some (a1.2.1==a2) else some false) fun (s0:Bool)=>some s0
noncomputable def qW:ElA [.d (.sl wK), .clo 119 [(true,tU)]]→Option (RTy.El (.p tI)):=fun x=>match x with
 |(a1,(a2,()),())=>
  kF
   (zO
    (fun (s6:Int)=>
     bif decide (s6< (↑(List.length a1):Int)) then
      Option.bind (idx a1 s6) fun (y7:Ty.El wK)=>
       Option.bind (vP (y7,a2,())) fun (y8:Bool)=>bif y8 then some (Sum.inr (Sum.inr s6)) else some (Sum.inl (IntKind.wrap IntKind.i64 (s6+(1:Int))))
     else some (Sum.inr (Sum.inl ())))
    (0:Int))
   fun (s9:Unit)=>some (-1:Int)
noncomputable def wM:ElS [zD, .str]→Option (RTy.El (.p tI)):=fun x=>match x with
 |(a1,a2,())=>
  Option.bind (qY (a1.2.2.1,(a2,()),())) fun (y0:Int)=>some y0
noncomputable def wP:ElS [wK]→Option (RTy.El (.p .bool)):=fun x=>match x with
 |(a1,())=>
  Option.bind
   (Option.bind (zF (a1.2.2.1,(0:Int),(32:Int),())) fun (y3:Bool)=>
    bif !y3 then some true
    else
     Option.bind (zF (a1.2.2.2.1,(0:Int),(4094:Int),())) fun (y4:Bool)=>
      bif !y4 then some true else Option.bind (zF (a1.2.2.2.2.2.2.2.2.2.2.2.1,(0:Int),(2:Int),())) fun (y5:Bool)=>some !y5)
   fun (s6:Bool)=>
   bif s6 then some false
   else
    Option.bind
     (bif a1.2.2.1==(0:Int) then
      bif a1.2.1 !=(0:Int) then some true
      else
       bif a1.2.2.2.1 !=(0:Int) then some true
       else
        bif a1.2.2.2.2.2.2.2.2.2.2.2.1 !=(0:Int) then some true
        else
         bif a1.2.2.2.2.2.1 then some true
         else
          bif a1.2.2.2.2.2.2.2.2.1 then some true
          else bif a1.2.2.2.2.2.2.2.2.2.1 != { data:= #[] } then some true else some (a1.2.2.2.2.2.2.2.2.2.2.1 != { data:= #[] })
     else some false)
     fun (s7:Bool)=>
     bif s7 then some false
     else
      Option.bind (bif a1.2.2.1 !=(0:Int) then some (a1.2.1==(0:Int)) else some false) fun (s8:Bool)=>
       bif s8 then some false
       else
        bif a1.2.2.2.2.2.1 then
         Option.bind
          (Option.bind (zF (a1.2.2.2.2.2.2.1,(0:Int),(255:Int),())) fun (y11:Bool)=>
           bif y11 then Option.bind (zF (a1.2.2.2.2.2.2.2.1,(1:Int),(65535:Int),())) fun (y12:Bool)=>some y12 else some false)
          fun (s13:Bool)=>some s13
        else
         Option.bind (bif a1.2.2.2.2.2.2.1==(0:Int) then some (a1.2.2.2.2.2.2.2.1==(0:Int)) else some false) fun (s14:Bool)=>some s14
noncomputable def xO:ElS [tU,tI]→Option (RTy.El (.p zI)):=fun x=>match x with
 |(a1,a2,())=>
  Option.bind (yP (a2,())) fun (y0:Int)=>
   Option.bind (zBb (a2,())) fun (y1:Int)=>
    some (IntKind.wrap IntKind.u32 (↑(BitVec.toNat (BitVec.ofInt (IntKind.bits IntKind.u32) a1&&&BitVec.ofInt (IntKind.bits IntKind.u32) y0)):Int),y1,())
noncomputable def zAu:ElS [zI,zI]→Option (RTy.El (.p .bool)):=fun x=>match x with
 |(a1,a2,())=>
  Option.bind (bif decide (a1.2.1≤a2.2.1) then Option.bind (uZ (a1,a2.1,())) fun (y1:Bool)=>some y1 else some false) fun (s2:Bool)=>some s2
noncomputable def uY:ElS [zI,zI]→Option (RTy.El (.p .bool)):=fun x=>match x with
 |(a1,a2,())=>
  Option.bind (Option.bind (zAu (a1,a2,())) fun (y2:Bool)=>bif y2 then some true else Option.bind (zAu (a2,a1,())) fun (y3:Bool)=>some y3)
   fun (s4:Bool)=>some s4
noncomputable def wI:ElS [zD]→Option (RTy.El (.p tI)):=fun x=>match x with
 |(a1,())=>
  bif decide ((↑(List.length a1.2.2.1):Int)>(8:Int)) then some (7:Int)
  else
   kF
    (zO
     (fun (s49:Int)=>
      bif decide (s49< (↑(List.length a1.2.2.1):Int)) then
       kF
        (Option.bind (idx a1.2.2.1 s49) fun (y50:Ty.El wK)=>
         Option.bind (j6 (y50.1,())) fun (y51:Bool)=>
          bif !y51 then some (Sum.inr (Sum.inr (Sum.inr (3:Int))))
          else
           Option.bind (wM (a1,y50.1,())) fun (y52:Int)=>
            bif decide (y52<s49) then some (Sum.inr (Sum.inr (Sum.inr (4:Int))))
            else
             Option.bind (wP (y50,())) fun (y53:Bool)=>
              bif !y53 then some (Sum.inr (Sum.inr (Sum.inr (1:Int))))
              else
               Option.bind (sub a1.2.2.1 (0:Int) s49) fun (y54:List (Ty.El wK))=>
                zO
                 (fun (s55:Int)=>
                  bif decide (s55< (↑(List.length y54):Int)) then
                   Option.bind (idx y54 s55) fun (y56:Ty.El wK)=>
                    Option.bind
                     (bif y50.2.2.1 !=(0:Int) then
                      bif y56.2.2.1 !=(0:Int) then
                       Option.bind (xO (y50.2.1,y50.2.2.1,())) fun (y57:Int×Int×Unit)=>
                        Option.bind (xO (y56.2.1,y56.2.2.1,())) fun (y58:Int×Int×Unit)=>
                         Option.bind (uY (y57,y58,())) fun (y59:Bool)=>some y59
                      else some false
                     else some false)
                     fun (s60:Bool)=>
                     bif s60 then some (Sum.inr (Sum.inr (Sum.inr (Sum.inr (6:Int))))) else some (Sum.inl (IntKind.wrap IntKind.i64 (s55+(1:Int))))
                  else some (Sum.inr (Sum.inl ())))
                 (0:Int))
        fun (s61:Unit)=>some (Sum.inl (IntKind.wrap IntKind.i64 (s49+(1:Int))))
      else some (Sum.inr (Sum.inl ())))
     (0:Int))
    fun (s62:Unit)=>some (0:Int)
noncomputable def uN:ElA [.d zCx, .pp .str]→Option (RTy.El (.p .bool)):=fun x=>match x with
 |(a1,a2,())=>
  some (a1.1==a2)
noncomputable def qS:ElA [.d (.sl zCx), .clo 111 [(true, .str)]]→Option (RTy.El (.p tI)):=fun x=>match x with
 |(a1,(a2,()),())=>
  kF
   (zO
    (fun (s6:Int)=>
     bif decide (s6< (↑(List.length a1):Int)) then
      Option.bind (idx a1 s6) fun (y7:Ty.El zCx)=>
       Option.bind (uN (y7,a2,())) fun (y8:Bool)=>bif y8 then some (Sum.inr (Sum.inr s6)) else some (Sum.inl (IntKind.wrap IntKind.i64 (s6+(1:Int))))
     else some (Sum.inr (Sum.inl ())))
    (0:Int))
   fun (s9:Unit)=>some (-1:Int)
noncomputable def qK:ElS [zD, .str]→Option (RTy.El (.p tI)):=fun x=>match x with
 |(a1,a2,())=>
  Option.bind (qS (a1.2.2.2.1,(a2,()),())) fun (y0:Int)=>some y0
noncomputable def jP:ElS [tI,tI, .str,tI,tI]→Option (RTy.El (.p tI)):=fun x=>match x with
 |(a1,a2,a3,a4,a5,())=>
  Option.bind (j6 (a3,())) fun (y0:Bool)=>
   bif !y0 then some (3:Int)
   else bif decide (a2<a1) then some (4:Int) else bif a4==(0:Int) then some (1:Int) else bif decide (a4>a5) then some (7:Int) else some (0:Int)
noncomputable def jY:ElS [zD]→Option (RTy.El (.p tI)):=fun x=>match x with
 |(a1,())=>
  bif decide ((↑(List.length a1.2.2.2.1):Int)>(8:Int)) then some (7:Int)
  else
   kF
    (zO
     (fun (s32:Int)=>
      bif decide (s32< (↑(List.length a1.2.2.2.1):Int)) then
       kF
        (Option.bind (idx a1.2.2.2.1 s32) fun (y33:Ty.El zCx)=>
         Option.bind (qK (a1,y33.1,())) fun (y34:Int)=>
          Option.bind (jP (s32,y34,y33.1,(↑(List.length y33.2.1):Int),(16:Int),())) fun (y35:Int)=>
           bif y35 !=(0:Int) then some (Sum.inr (Sum.inr (Sum.inr y35)))
           else
            zO
             (fun (s36:Int)=>
              bif decide (s36< (↑(List.length y33.2.1):Int)) then
               Option.bind (idx y33.2.1 s36) fun (y37:Ty.El zPu)=>
                Option.bind
                 (Option.bind (jQ (y37.2.1,())) fun (y38:Bool)=>
                  bif !y38 then some true
                  else
                   bif decide (y37.2.2.1<y37.2.1.2.1) then some true
                   else bif decide (y37.2.2.2.1<y37.2.2.1) then some true else some (decide (y37.2.2.2.1>(32:Int))))
                 fun (s39:Bool)=>
                 bif s39 then some (Sum.inr (Sum.inr (Sum.inr (Sum.inr (1:Int))))) else some (Sum.inl (IntKind.wrap IntKind.i64 (s36+(1:Int))))
              else some (Sum.inr (Sum.inl ())))
             (0:Int))
        fun (s40:Unit)=>some (Sum.inl (IntKind.wrap IntKind.i64 (s32+(1:Int))))
      else some (Sum.inr (Sum.inl ())))
     (0:Int))
    fun (s41:Unit)=>some (0:Int)
noncomputable def xD:ElA [.d zFG, .pp .str]→Option (RTy.El (.p .bool)):=fun x=>match x with
 |(a1,a2,())=>
  some (a1.1==a2)
noncomputable def jC:ElA [.d (.sl zFG), .clo 113 [(true, .str)]]→Option (RTy.El (.p tI)):=fun x=>match x with
 |(a1,(a2,()),())=>
  kF
   (zO
    (fun (s6:Int)=>
     bif decide (s6< (↑(List.length a1):Int)) then
      Option.bind (idx a1 s6) fun (y7:Ty.El zFG)=>
       Option.bind (xD (y7,a2,())) fun (y8:Bool)=>bif y8 then some (Sum.inr (Sum.inr s6)) else some (Sum.inl (IntKind.wrap IntKind.i64 (s6+(1:Int))))
     else some (Sum.inr (Sum.inl ())))
    (0:Int))
   fun (s9:Unit)=>some (-1:Int)
noncomputable def qZ:ElS [zD, .str]→Option (RTy.El (.p tI)):=fun x=>match x with
 |(a1,a2,())=>
  Option.bind (jC (a1.2.2.2.2.1,(a2,()),())) fun (y0:Int)=>some y0
noncomputable def kN:ElS [zFH]→Option (RTy.El (.p .bool)):=fun x=>match x with
 |(a1,())=>
  Option.bind
   (Option.bind (zF (a1.2.2.1,(-1:Int),(65535:Int),())) fun (y5:Bool)=>
    bif y5 then
     Option.bind (zF (a1.2.2.2.1,(-1:Int),(16777215:Int),())) fun (y6:Bool)=>
      bif y6 then
       Option.bind (zF (a1.2.2.2.2.1,(-1:Int),(65535:Int),())) fun (y7:Bool)=>
        bif y7 then
         Option.bind (zF (a1.2.2.2.2.2.1,(-1:Int),(1000000:Int),())) fun (y8:Bool)=>
          bif y8 then Option.bind (zF (a1.2.2.2.2.2.2.1,(0:Int),(8:Int),())) fun (y9:Bool)=>some y9 else some false
        else some false
      else some false
    else some false)
   fun (s10:Bool)=>some s10
noncomputable def wQ:ElS [zD]→Option (RTy.El (.p tI)):=fun x=>match x with
 |(a1,())=>
  bif decide ((↑(List.length a1.2.2.2.2.1):Int)>(8:Int)) then some (7:Int)
  else
   kF
    (zO
     (fun (s36:Int)=>
      bif decide (s36< (↑(List.length a1.2.2.2.2.1):Int)) then
       kF
        (Option.bind (idx a1.2.2.2.2.1 s36) fun (y37:Ty.El zFG)=>
         Option.bind (qZ (a1,y37.1,())) fun (y38:Int)=>
          Option.bind (jP (s36,y38,y37.1,(↑(List.length y37.2.1):Int),(8:Int),())) fun (y39:Int)=>
           bif y39 !=(0:Int) then some (Sum.inr (Sum.inr (Sum.inr y39)))
           else
            zO
             (fun (s40:Int)=>
              bif decide (s40< (↑(List.length y37.2.1):Int)) then
               Option.bind (idx y37.2.1 s40) fun (y41:Ty.El zFH)=>
                Option.bind
                 (bif y41.2.1 != { data:= #[] } then Option.bind (qK (a1,y41.2.1,())) fun (y42:Int)=>some (decide (y42< (0:Int)))
                 else some false)
                 fun (s43:Bool)=>
                 bif s43 then some (Sum.inr (Sum.inr (Sum.inr (Sum.inr (5:Int)))))
                 else
                  Option.bind (kN (y41,())) fun (y44:Bool)=>
                   bif !y44 then some (Sum.inr (Sum.inr (Sum.inr (Sum.inr (1:Int))))) else some (Sum.inl (IntKind.wrap IntKind.i64 (s40+(1:Int))))
              else some (Sum.inr (Sum.inl ())))
             (0:Int))
        fun (s45:Unit)=>some (Sum.inl (IntKind.wrap IntKind.i64 (s36+(1:Int))))
      else some (Sum.inr (Sum.inl ())))
     (0:Int))
    fun (s46:Unit)=>some (0:Int)
noncomputable def zCI:ElA [.d yA, .pp .str]→Option (RTy.El (.p .bool)):=fun x=>match x with
 |(a1,a2,())=>
  some (a1.1==a2)
noncomputable def wA:ElA [.d (.sl yA), .clo 98 [(true, .str)]]→Option (RTy.El (.p tI)):=fun x=>match x with
 |(a1,(a2,()),())=>
  kF
   (zO
    (fun (s6:Int)=>
     bif decide (s6< (↑(List.length a1):Int)) then
      Option.bind (idx a1 s6) fun (y7:Ty.El yA)=>
       Option.bind (zCI (y7,a2,())) fun (y8:Bool)=>bif y8 then some (Sum.inr (Sum.inr s6)) else some (Sum.inl (IntKind.wrap IntKind.i64 (s6+(1:Int))))
     else some (Sum.inr (Sum.inl ())))
    (0:Int))
   fun (s9:Unit)=>some (-1:Int)
noncomputable def vQ:ElS [zD, .str]→Option (RTy.El (.p tI)):=fun x=>match x with
 |(a1,a2,())=>
  Option.bind (wA (a1.2.2.2.2.2.1,(a2,()),())) fun (y0:Int)=>some y0
noncomputable def vO:ElS [zET]→Option (RTy.El (.p .bool)):=fun x=>match x with
 |(a1,())=>
  Option.bind (bif decide ((0:Int)≤a1.1) then bif decide (a1.1≤a1.2.1) then some (decide (a1.2.1≤(65535:Int))) else some false else some false)
   fun (s0:Bool)=>some s0
noncomputable def u4:ElS [qT]→Option (RTy.El (.p .bool)):=fun x=>match x with
 |(a1,())=>
  Option.bind
   (Option.bind (zF (a1.2.1,(-1:Int),(255:Int),())) fun (y1:Bool)=>
    bif !y1 then some true
    else
     bif
       IntKind.wrap IntKind.u32
         (↑(BitVec.toNat (BitVec.ofInt (IntKind.bits IntKind.u32) a1.2.2.1.1&&&BitVec.ofInt (IntKind.bits IntKind.u32) a1.2.2.1.2.1)):Int) !=
        (0:Int) then
      some true
     else
      some
       (IntKind.wrap IntKind.u32
         (↑(BitVec.toNat (BitVec.ofInt (IntKind.bits IntKind.u32) a1.2.2.2.1.1&&&BitVec.ofInt (IntKind.bits IntKind.u32) a1.2.2.2.1.2.1)):Int) !=
        (0:Int)))
   fun (s2:Bool)=>
   bif s2 then some false
   else
    Option.bind
     (Option.bind (vO (a1.2.2.2.2.1,())) fun (y5:Bool)=>
      bif !y5 then some true else Option.bind (vO (a1.2.2.2.2.2.1,())) fun (y6:Bool)=>some !y6)
     fun (s7:Bool)=>
     bif s7 then some false
     else
      Option.bind
       (bif a1.2.1==(6:Int) then some true
       else
        bif a1.2.1==(17:Int) then some true
        else
         bif a1.2.2.2.2.1.1==(0:Int)&&(a1.2.2.2.2.1.2.1==(65535:Int)&&true) then
          some (a1.2.2.2.2.2.1.1==(0:Int)&&(a1.2.2.2.2.2.1.2.1==(65535:Int)&&true))
         else some false)
       fun (s8:Bool)=>some s8
noncomputable def u5:ElS [zD]→Option (RTy.El (.p tI)):=fun x=>match x with
 |(a1,())=>
  bif decide ((↑(List.length a1.2.2.2.2.2.1):Int)>(8:Int)) then some (7:Int)
  else
   kF
    (zO
     (fun (s27:Int)=>
      bif decide (s27< (↑(List.length a1.2.2.2.2.2.1):Int)) then
       kF
        (Option.bind (idx a1.2.2.2.2.2.1 s27) fun (y28:Ty.El yA)=>
         Option.bind (vQ (a1,y28.1,())) fun (y29:Int)=>
          Option.bind (jP (s27,y29,y28.1,(↑(List.length y28.2.1):Int),(16:Int),())) fun (y30:Int)=>
           bif y30 !=(0:Int) then some (Sum.inr (Sum.inr (Sum.inr y30)))
           else
            zO
             (fun (s31:Int)=>
              bif decide (s31< (↑(List.length y28.2.1):Int)) then
               Option.bind (idx y28.2.1 s31) fun (y32:Ty.El qT)=>
                Option.bind (u4 (y32,())) fun (y33:Bool)=>
                 bif !y33 then some (Sum.inr (Sum.inr (Sum.inr (Sum.inr (1:Int))))) else some (Sum.inl (IntKind.wrap IntKind.i64 (s31+(1:Int))))
              else some (Sum.inr (Sum.inl ())))
             (0:Int))
        fun (s34:Unit)=>some (Sum.inl (IntKind.wrap IntKind.i64 (s27+(1:Int))))
      else some (Sum.inr (Sum.inl ())))
     (0:Int))
    fun (s35:Unit)=>some (0:Int)
noncomputable def jX:ElS [zPv]→Option (RTy.El (.p .bool)):=fun x=>match x with
 |(a1,())=>
  bif a1.1==(1:Int) then
   Option.bind
    (bif
      a1.1==a1.1&&
       (a1.2.1==a1.2.1&&
        (a1.2.2.1==a1.2.2.1&&
         (a1.2.2.2.1==(0:Int)&&
          (a1.2.2.2.2.1==(0:Int)&&
           (a1.2.2.2.2.2.1==(0:Int)&&
            (a1.2.2.2.2.2.2.1== { data:= #[] } &&
             (a1.2.2.2.2.2.2.2.1==(0:Int)&&(a1.2.2.2.2.2.2.2.2.1==(0:Int)&&true)))))))) then
     bif a1.2.1 !=(0:Int) then some (a1.2.2.1 !=(0:Int)) else some false
    else some false)
    fun (s0:Bool)=>some s0
  else
   bif a1.1==(2:Int) then
    Option.bind
     (bif
       a1.1==a1.1&&
        (a1.2.1==(0:Int)&&
         (a1.2.2.1==(0:Int)&&
          (a1.2.2.2.1==(0:Int)&&
           (a1.2.2.2.2.1==(0:Int)&&
            (a1.2.2.2.2.2.1==(0:Int)&&
             (a1.2.2.2.2.2.2.1==a1.2.2.2.2.2.2.1&&
              (a1.2.2.2.2.2.2.2.1==a1.2.2.2.2.2.2.2.1&&
               (a1.2.2.2.2.2.2.2.2.1==a1.2.2.2.2.2.2.2.2.1&&true)))))))) then
      bif a1.2.2.2.2.2.2.2.1 !=(0:Int) then
       bif decide (a1.2.2.2.2.2.2.2.1≤a1.2.2.2.2.2.2.2.2.1) then
        some (decide (IntKind.wrap IntKind.u32 (a1.2.2.2.2.2.2.2.2.1-a1.2.2.2.2.2.2.2.1)< (8:Int)))
       else some false
      else some false
     else some false)
     fun (s1:Bool)=>some s1
   else
    bif a1.1==(3:Int) then
     Option.bind
      (bif a1.2.1 !=(0:Int) then
       bif a1.2.2.1 !=(0:Int) then
        bif a1.2.2.2.1==(6:Int) then
         Option.bind (zF (a1.2.2.2.2.1,(0:Int),(65535:Int),())) fun (y6:Bool)=>
          bif y6 then
           Option.bind (zF (a1.2.2.2.2.2.1,(0:Int),(65535:Int),())) fun (y7:Bool)=>
            bif y7 then
             bif a1.2.2.2.2.2.2.1== { data:= #[] } then
              bif a1.2.2.2.2.2.2.2.1==(0:Int) then some (a1.2.2.2.2.2.2.2.2.1==(0:Int)) else some false
             else some false
            else some false
          else some false
        else
         bif a1.2.2.2.1==(17:Int) then
          Option.bind (zF (a1.2.2.2.2.1,(0:Int),(65535:Int),())) fun (y8:Bool)=>
           bif y8 then
            Option.bind (zF (a1.2.2.2.2.2.1,(0:Int),(65535:Int),())) fun (y9:Bool)=>
             bif y9 then
              bif a1.2.2.2.2.2.2.1== { data:= #[] } then
               bif a1.2.2.2.2.2.2.2.1==(0:Int) then some (a1.2.2.2.2.2.2.2.2.1==(0:Int)) else some false
              else some false
             else some false
           else some false
         else some false
       else some false
      else some false)
      fun (s10:Bool)=>some s10
    else some false
noncomputable def xC:ElS [zD]→Option (RTy.El (.p tI)):=fun x=>match x with
 |(a1,())=>
  bif decide ((↑(List.length a1.2.2.2.2.2.2.1):Int)>(8:Int)) then some (7:Int)
  else
   kF
    (zO
     (fun (s11:Int)=>
      bif decide (s11< (↑(List.length a1.2.2.2.2.2.2.1):Int)) then
       Option.bind (idx a1.2.2.2.2.2.2.1 s11) fun (y12:Ty.El zPv)=>
        Option.bind (jX (y12,())) fun (y13:Bool)=>
         bif !y13 then some (Sum.inr (Sum.inr (1:Int)))
         else
          Option.bind
           (bif y12.1==(2:Int) then Option.bind (vQ (a1,y12.2.2.2.2.2.2.1,())) fun (y14:Int)=>some (decide (y14< (0:Int)))
           else some false)
           fun (s15:Bool)=>bif s15 then some (Sum.inr (Sum.inr (5:Int))) else some (Sum.inl (IntKind.wrap IntKind.i64 (s11+(1:Int))))
      else some (Sum.inr (Sum.inl ())))
     (0:Int))
    fun (s16:Unit)=>some (0:Int)
noncomputable def kA:ElS [zD]→Option (RTy.El (.p tI)):=fun x=>match x with
 |(a1,())=>
  kF
   (zO
    (fun (s15:Int)=>
     bif decide (s15< (↑(List.length a1.2.2.1):Int)) then
      Option.bind (idx a1.2.2.1 s15) fun (y16:Ty.El wK)=>
       Option.bind
        (bif y16.2.2.2.2.2.2.2.2.2.1 != { data:= #[] } then
         Option.bind (vQ (a1,y16.2.2.2.2.2.2.2.2.2.1,())) fun (y17:Int)=>
          bif decide (y17< (0:Int)) then some true
          else
           bif y16.2.2.2.2.2.2.2.2.2.2.1 != { data:= #[] } then
            Option.bind (vQ (a1,y16.2.2.2.2.2.2.2.2.2.2.1,())) fun (y18:Int)=>some (decide (y18< (0:Int)))
           else some false
        else
         bif y16.2.2.2.2.2.2.2.2.2.2.1 != { data:= #[] } then
          Option.bind (vQ (a1,y16.2.2.2.2.2.2.2.2.2.2.1,())) fun (y19:Int)=>some (decide (y19< (0:Int)))
         else some false)
        fun (s20:Bool)=>bif s20 then some (Sum.inr (Sum.inr (5:Int))) else some (Sum.inl (IntKind.wrap IntKind.i64 (s15+(1:Int))))
     else some (Sum.inr (Sum.inl ())))
    (0:Int))
   fun (s21:Unit)=>some (0:Int)
noncomputable def zAi:ElS [zD,tU]→Option (RTy.El (.p tI)):=fun x=>match x with
 |(a1,a2,())=>
  Option.bind (qW (a1.2.2.1,(a2,()),())) fun (y0:Int)=>some y0
noncomputable def kM:ElS [zD,zCw]→Option (RTy.El (.p .bool)):=fun x=>match x with
 |(a1,a2,())=>
  Option.bind
   (zO
    (fun (s7:Int×Int)=>
     bif decide (s7.1< (↑(List.length [a2.2.1 !=(0:Int),a2.2.2.1 != { data:= #[] },a2.2.2.2.1]):Int)) then
      Option.bind
       (Option.bind (idx [a2.2.1 !=(0:Int),a2.2.2.1 != { data:= #[] },a2.2.2.2.1] s7.1) fun (y8:Bool)=>
        bif y8 then some (IntKind.wrap IntKind.i64 (s7.2+(1:Int))) else some s7.2)
       fun (s9:Int)=>some (Sum.inl (IntKind.wrap IntKind.i64 (s7.1+(1:Int)),s9))
     else some (Sum.inr s7.2))
    ((0:Int),(0:Int)))
   fun (s10:Int)=>
   Option.bind
    (Option.bind (jQ (a2.1,())) fun (y17:Bool)=>
     bif y17 then
      bif s10==(1:Int) then
       bif a2.2.1==(0:Int) then
        Option.bind (zF (a2.2.2.2.2.1,(1:Int),(255:Int),())) fun (y18:Bool)=>
         bif y18 then Option.bind (zF (a2.2.2.2.2.2.1,(0:Int),(65535:Int),())) fun (y19:Bool)=>some y19 else some false
       else
        Option.bind (zAi (a1,a2.2.1,())) fun (y20:Int)=>
         bif decide (y20< (0:Int)) then
          Option.bind (zF (a2.2.2.2.2.1,(1:Int),(255:Int),())) fun (y21:Bool)=>
           bif y21 then Option.bind (zF (a2.2.2.2.2.2.1,(0:Int),(65535:Int),())) fun (y22:Bool)=>some y22 else some false
         else some false
      else some false
     else some false)
    fun (s23:Bool)=>some s23
noncomputable def vZ:ElS [zD]→Option (RTy.El (.p tI)):=fun x=>match x with
 |(a1,())=>
  bif decide ((↑(List.length a1.2.2.2.2.2.2.2.1):Int)>(16:Int)) then some (7:Int)
  else
   kF
    (zO
     (fun (s36:Int)=>
      bif decide (s36< (↑(List.length a1.2.2.2.2.2.2.2.1):Int)) then
       kF
        (Option.bind (idx a1.2.2.2.2.2.2.2.1 s36) fun (y37:Ty.El zCw)=>
         Option.bind (kM (a1,y37,())) fun (y38:Bool)=>
          bif !y38 then some (Sum.inr (Sum.inr (Sum.inr (1:Int))))
          else
           kF
            (bif y37.2.2.1 != { data:= #[] } then
             Option.bind (wM (a1,y37.2.2.1,())) fun (y39:Int)=>
              bif decide (y39< (0:Int)) then some (Sum.inr (Sum.inr (Sum.inr (Sum.inr (5:Int)))))
              else
               Option.bind (idx a1.2.2.1 y39) fun (y40:Ty.El wK)=>
                bif y40.2.2.1==(0:Int) then some (Sum.inr (Sum.inr (Sum.inr (Sum.inr (1:Int))))) else some (Sum.inl ())
            else some (Sum.inl ()))
            fun (s41:Unit)=>
            Option.bind (sub a1.2.2.2.2.2.2.2.1 (0:Int) s36) fun (y42:List (Ty.El zCw))=>
             zO
              (fun (s43:Int)=>
               bif decide (s43< (↑(List.length y42):Int)) then
                Option.bind (idx y42 s43) fun (y44:Ty.El zCw)=>
                 Option.bind
                  (bif y44.1.1==y37.1.1&&(y44.1.2.1==y37.1.2.1&&true) then some (y44.2.2.2.2.1==y37.2.2.2.2.1)
                  else some false)
                  fun (s45:Bool)=>
                  bif s45 then some (Sum.inr (Sum.inr (Sum.inr (Sum.inr (6:Int))))) else some (Sum.inl (IntKind.wrap IntKind.i64 (s43+(1:Int))))
               else some (Sum.inr (Sum.inl ())))
              (0:Int))
        fun (s46:Unit)=>some (Sum.inl (IntKind.wrap IntKind.i64 (s36+(1:Int))))
      else some (Sum.inr (Sum.inl ())))
     (0:Int))
    fun (s47:Unit)=>some (0:Int)
noncomputable def jN:ElS [zD,(.sl zAM),tI,tI,tI,tI]→Option (RTy.El (.p tI)):=fun x=>match x with
 |(a1,a2,a3,a4,a5,a6,())=>
  bif decide ((↑(List.length a2):Int)>(4:Int)) then some (7:Int)
  else
   kF
    (zO
     (fun (s44:Int)=>
      bif decide (s44< (↑(List.length a2):Int)) then
       kF
        (Option.bind (idx a2 s44) fun (y45:Ty.El zAM)=>
         Option.bind
          (Option.bind (zF (y45.1,(1:Int),(5:Int),())) fun (y46:Bool)=>
           bif !y46 then some true
           else
            bif y45.1==a3 then some true
            else
             Option.bind (zF (y45.2.1,a4,a5,())) fun (y47:Bool)=>
              bif !y47 then some true
              else
               Option.bind (zF (y45.2.2.1,(0:Int),(65535:Int),())) fun (y48:Bool)=>
                bif !y48 then some true
                else Option.bind (zF (y45.2.2.2.2.1,if a6< (1:Int) then a6 else (1:Int),a6,())) fun (y49:Bool)=>some !y49)
          fun (s50:Bool)=>
          bif s50 then some (Sum.inr (Sum.inr (Sum.inr (1:Int))))
          else
           Option.bind
            (bif y45.2.2.2.1 != { data:= #[] } then Option.bind (qZ (a1,y45.2.2.2.1,())) fun (y51:Int)=>some (decide (y51< (0:Int)))
            else some false)
            fun (s52:Bool)=>
            bif s52 then some (Sum.inr (Sum.inr (Sum.inr (5:Int))))
            else
             Option.bind (sub a2 (0:Int) s44) fun (y53:List (Ty.El zAM))=>
              zO
               (fun (s54:Int)=>
                bif decide (s54< (↑(List.length y53):Int)) then
                 Option.bind (idx y53 s54) fun (y55:Ty.El zAM)=>
                  bif y55.1==y45.1 then some (Sum.inr (Sum.inr (Sum.inr (Sum.inr (4:Int))))) else some (Sum.inl (IntKind.wrap IntKind.i64 (s54+(1:Int))))
                else some (Sum.inr (Sum.inl ())))
               (0:Int))
        fun (s56:Unit)=>some (Sum.inl (IntKind.wrap IntKind.i64 (s44+(1:Int))))
      else some (Sum.inr (Sum.inl ())))
     (0:Int))
    fun (s57:Unit)=>some (0:Int)
noncomputable def wS:ElS [zD]→Option (RTy.El (.p tI)):=fun x=>match x with
 |(a1,())=>
  bif !a1.2.2.2.2.2.2.2.2.1.1 then
   Option.bind
    (bif a1.2.2.2.2.2.2.2.2.1.2.1 !=(0:Int) then some true
    else
     bif decide ((↑(List.length a1.2.2.2.2.2.2.2.2.1.2.2.1):Int)>(0:Int)) then some true
     else some (decide ((↑(List.length a1.2.2.2.2.2.2.2.2.1.2.2.2.1):Int)>(0:Int))))
    fun (s0:Bool)=>bif s0 then some (1:Int) else some (0:Int)
  else
   Option.bind (zF (a1.2.2.2.2.2.2.2.2.1.2.1,(1:Int),(255:Int),())) fun (y1:Bool)=>
    bif !y1 then some (1:Int)
    else
     bif decide ((↑(List.length a1.2.2.2.2.2.2.2.2.1.2.2.1):Int)>(4:Int)) then some (7:Int)
     else
      kF
       (zO
        (fun (s40:Int)=>
         bif decide (s40< (↑(List.length a1.2.2.2.2.2.2.2.2.1.2.2.1):Int)) then
          kF
           (Option.bind (idx a1.2.2.2.2.2.2.2.2.1.2.2.1 s40) fun (y41:Ty.El zHO)=>
            Option.bind
             (Option.bind (zF (y41.1,(0:Int),(255:Int),())) fun (y42:Bool)=>
              bif !y42 then some true else Option.bind (jQ (y41.2.1,())) fun (y43:Bool)=>some !y43)
             fun (s44:Bool)=>
             bif s44 then some (Sum.inr (Sum.inr (Sum.inr (1:Int))))
             else
              Option.bind (sub a1.2.2.2.2.2.2.2.2.1.2.2.1 (0:Int) s40) fun (y45:List (Ty.El zHO))=>
               zO
                (fun (s46:Int)=>
                 bif decide (s46< (↑(List.length y45):Int)) then
                  Option.bind (idx y45 s46) fun (y47:Ty.El zHO)=>
                   Option.bind (bif y47.1==y41.1 then Option.bind (uY (y47.2.1,y41.2.1,())) fun (y48:Bool)=>some y48 else some false)
                    fun (s49:Bool)=>
                    bif s49 then some (Sum.inr (Sum.inr (Sum.inr (Sum.inr (6:Int))))) else some (Sum.inl (IntKind.wrap IntKind.i64 (s46+(1:Int))))
                 else some (Sum.inr (Sum.inl ())))
                (0:Int))
           fun (s50:Unit)=>some (Sum.inl (IntKind.wrap IntKind.i64 (s40+(1:Int))))
         else some (Sum.inr (Sum.inl ())))
        (0:Int))
       fun (s51:Unit)=>
       Option.bind (jN (a1,a1.2.2.2.2.2.2.2.2.1.2.2.2.1,(3:Int),(0:Int),(16777215:Int),(2:Int),())) fun (y52:Int)=>
        some y52
noncomputable def jD:ElS [zD]→Option (RTy.El (.p tI)):=fun x=>match x with
 |(a1,())=>
  bif !a1.2.2.2.2.2.2.2.2.2.1.1 then
   Option.bind
    (bif a1.2.2.2.2.2.2.2.2.2.1.2.1 !=(0:Int) then some true
    else
     bif a1.2.2.2.2.2.2.2.2.2.1.2.2.1 != { data:= #[] } then some true
     else
      bif a1.2.2.2.2.2.2.2.2.2.1.2.2.2.1 != { data:= #[] } then some true
      else some (decide ((↑(List.length a1.2.2.2.2.2.2.2.2.2.1.2.2.2.2.1):Int)>(0:Int))))
    fun (s0:Bool)=>bif s0 then some (1:Int) else some (0:Int)
  else
   Option.bind (zF (a1.2.2.2.2.2.2.2.2.2.1.2.1,(1:Int),(255:Int),())) fun (y1:Bool)=>
    bif !y1 then some (1:Int)
    else
     Option.bind
      (bif a1.2.2.2.2.2.2.2.2.2.1.2.2.1 != { data:= #[] } then
       Option.bind (qK (a1,a1.2.2.2.2.2.2.2.2.2.1.2.2.1,())) fun (y5:Int)=>
        bif decide (y5< (0:Int)) then some true
        else
         bif a1.2.2.2.2.2.2.2.2.2.1.2.2.2.1 != { data:= #[] } then
          Option.bind (qK (a1,a1.2.2.2.2.2.2.2.2.2.1.2.2.2.1,())) fun (y6:Int)=>some (decide (y6< (0:Int)))
         else some false
      else
       bif a1.2.2.2.2.2.2.2.2.2.1.2.2.2.1 != { data:= #[] } then
        Option.bind (qK (a1,a1.2.2.2.2.2.2.2.2.2.1.2.2.2.1,())) fun (y7:Int)=>some (decide (y7< (0:Int)))
       else some false)
      fun (s8:Bool)=>
      bif s8 then some (5:Int)
      else
       Option.bind (jN (a1,a1.2.2.2.2.2.2.2.2.2.1.2.2.2.2.1,(4:Int),(1:Int),(15:Int),(0:Int),())) fun (y9:Int)=>
        some y9
noncomputable def wR:ElS [zD]→Option (RTy.El (.p tI)):=fun x=>match x with
 |(a1,())=>
  bif decide ((↑(List.length a1.2.2.2.2.2.2.2.2.2.2.1.2.2.2.1):Int)>(8:Int)) then some (7:Int)
  else
   kF
    (zO
     (fun (s40:Int)=>
      bif decide (s40< (↑(List.length a1.2.2.2.2.2.2.2.2.2.2.1.2.2.2.1):Int)) then
       kF
        (Option.bind (idx a1.2.2.2.2.2.2.2.2.2.2.1.2.2.2.1 s40) fun (y41:Ty.El zD7)=>
         Option.bind (bif y41.1==(0:Int) then some true else Option.bind (zF (y41.2.1,(1:Int),(65535:Int),())) fun (y42:Bool)=>some !y42)
          fun (s43:Bool)=>
          bif s43 then some (Sum.inr (Sum.inr (Sum.inr (1:Int))))
          else
           Option.bind
            (bif y41.2.2.1 != { data:= #[] } then
             Option.bind (qZ (a1,y41.2.2.1,())) fun (y44:Int)=>
              bif decide (y44< (0:Int)) then some true
              else
               bif y41.2.2.2.1 != { data:= #[] } then
                Option.bind (qZ (a1,y41.2.2.2.1,())) fun (y45:Int)=>some (decide (y45< (0:Int)))
               else some false
            else
             bif y41.2.2.2.1 != { data:= #[] } then Option.bind (qZ (a1,y41.2.2.2.1,())) fun (y46:Int)=>some (decide (y46< (0:Int)))
             else some false)
            fun (s47:Bool)=>
            bif s47 then some (Sum.inr (Sum.inr (Sum.inr (5:Int))))
            else
             Option.bind (sub a1.2.2.2.2.2.2.2.2.2.2.1.2.2.2.1 (0:Int) s40) fun (y48:List (Ty.El zD7))=>
              zO
               (fun (s49:Int)=>
                bif decide (s49< (↑(List.length y48):Int)) then
                 Option.bind (idx y48 s49) fun (y50:Ty.El zD7)=>
                  bif y50.1==y41.1 then some (Sum.inr (Sum.inr (Sum.inr (Sum.inr (4:Int))))) else some (Sum.inl (IntKind.wrap IntKind.i64 (s49+(1:Int))))
                else some (Sum.inr (Sum.inl ())))
               (0:Int))
        fun (s51:Unit)=>some (Sum.inl (IntKind.wrap IntKind.i64 (s40+(1:Int))))
      else some (Sum.inr (Sum.inl ())))
     (0:Int))
    fun (s52:Unit)=>some (0:Int)
noncomputable def vF:ElS [(.sl zI),zI]→Option (RTy.El (.p tI)):=fun x=>match x with
 |(a1,a2,())=>
  kF
   (zO
    (fun (s5:Int)=>
     bif decide (s5< (↑(List.length a1):Int)) then
      Option.bind (idx a1 s5) fun (y6:Ty.El zI)=>
       bif a2.1==y6.1&&(a2.2.1==y6.2.1&&true) then some (Sum.inr (Sum.inr s5)) else some (Sum.inl (IntKind.wrap IntKind.i64 (s5+(1:Int))))
     else some (Sum.inr (Sum.inl ())))
    (0:Int))
   fun (s7:Unit)=>some (-1:Int)
noncomputable def jV:ElS [(.sl zI),zI]→Option (RTy.El (.p .bool)):=fun x=>match x with
 |(a1,a2,())=>
  Option.bind (vF (a1,a2,())) fun (y0:Int)=>some (decide (y0≥(0:Int)))
noncomputable def v8:ElS [tPV]→Option (RTy.El (.p tI)):=fun x=>match x with
 |(a1,())=>
  bif decide ((↑(List.length a1.2.2.2.2.1):Int)>(8:Int)) then some (7:Int)
  else
   kF
    (zO
     (fun (s12:Int)=>
      bif decide (s12< (↑(List.length a1.2.2.2.2.1):Int)) then
       Option.bind (idx a1.2.2.2.2.1 s12) fun (y13:Ty.El zI)=>
        Option.bind (jQ (y13,())) fun (y14:Bool)=>
         bif !y14 then some (Sum.inr (Sum.inr (1:Int)))
         else
          Option.bind (sub a1.2.2.2.2.1 (0:Int) s12) fun (y15:List (Ty.El zI))=>
           Option.bind (jV (y15,y13,())) fun (y16:Bool)=>
            bif y16 then some (Sum.inr (Sum.inr (4:Int))) else some (Sum.inl (IntKind.wrap IntKind.i64 (s12+(1:Int))))
      else some (Sum.inr (Sum.inl ())))
     (0:Int))
    fun (s17:Unit)=>
    bif decide ((↑(List.length a1.2.2.2.2.2.1):Int)>(8:Int)) then some (7:Int)
    else
     kF
      (zO
       (fun (s39:Int)=>
        bif decide (s39< (↑(List.length a1.2.2.2.2.2.1):Int)) then
         kF
          (Option.bind (idx a1.2.2.2.2.2.1 s39) fun (y40:Ty.El zCz)=>
           Option.bind (jQ (y40.1,())) fun (y41:Bool)=>
            bif !y41 then some (Sum.inr (Sum.inr (Sum.inr (1:Int))))
            else
             Option.bind (sub a1.2.2.2.2.2.1 (0:Int) s39) fun (y42:List (Ty.El zCz))=>
              zO
               (fun (s43:Int)=>
                bif decide (s43< (↑(List.length y42):Int)) then
                 Option.bind (idx y42 s43) fun (y44:Ty.El zCz)=>
                  bif y44.1.1==y40.1.1&&(y44.1.2.1==y40.1.2.1&&true) then some (Sum.inr (Sum.inr (Sum.inr (Sum.inr (4:Int)))))
                  else some (Sum.inl (IntKind.wrap IntKind.i64 (s43+(1:Int))))
                else some (Sum.inr (Sum.inl ())))
               (0:Int))
          fun (s45:Unit)=>some (Sum.inl (IntKind.wrap IntKind.i64 (s39+(1:Int))))
        else some (Sum.inr (Sum.inl ())))
       (0:Int))
      fun (s46:Unit)=>
      bif decide ((↑(List.length a1.2.2.2.2.2.2.1):Int)>(8:Int)) then some (7:Int)
      else
       kF
        (zO
         (fun (s76:Int)=>
          bif decide (s76< (↑(List.length a1.2.2.2.2.2.2.1):Int)) then
           kF
            (Option.bind (idx a1.2.2.2.2.2.2.1 s76) fun (y77:Ty.El zCy)=>
             Option.bind
              (Option.bind (jQ (y77.1,())) fun (y78:Bool)=>
               bif !y78 then some true else Option.bind (jQ (y77.2.1,())) fun (y79:Bool)=>some !y79)
              fun (s80:Bool)=>
              bif s80 then some (Sum.inr (Sum.inr (Sum.inr (1:Int))))
              else
               bif y77.1.1==y77.2.1.1&&(y77.1.2.1==y77.2.1.2.1&&true) then some (Sum.inr (Sum.inr (Sum.inr (6:Int))))
               else
                Option.bind (sub a1.2.2.2.2.2.2.1 (0:Int) s76) fun (y81:List (Ty.El zCy))=>
                 zO
                  (fun (s82:Int)=>
                   bif decide (s82< (↑(List.length y81):Int)) then
                    Option.bind (idx y81 s82) fun (y83:Ty.El zCy)=>
                     bif y83.1.1==y77.1.1&&(y83.1.2.1==y77.1.2.1&&true) then some (Sum.inr (Sum.inr (Sum.inr (Sum.inr (4:Int)))))
                     else some (Sum.inl (IntKind.wrap IntKind.i64 (s82+(1:Int))))
                   else some (Sum.inr (Sum.inl ())))
                  (0:Int))
            fun (s84:Unit)=>some (Sum.inl (IntKind.wrap IntKind.i64 (s76+(1:Int))))
          else some (Sum.inr (Sum.inl ())))
         (0:Int))
        fun (s85:Unit)=>some (0:Int)
noncomputable def wH:ElS [zD]→Option (RTy.El (.p tI)):=fun x=>match x with
 |(a1,())=>
  bif !a1.2.2.2.2.2.2.2.2.2.2.1.1 then
   Option.bind
    (bif a1.2.2.2.2.2.2.2.2.2.2.1.2.1 !=(0:Int) then some true
    else
     bif a1.2.2.2.2.2.2.2.2.2.2.1.2.2.1 !=(0:Int) then some true
     else
      bif decide ((↑(List.length a1.2.2.2.2.2.2.2.2.2.2.1.2.2.2.1):Int)>(0:Int)) then some true
      else
       bif decide ((↑(List.length a1.2.2.2.2.2.2.2.2.2.2.1.2.2.2.2.1):Int)>(0:Int)) then some true
       else
        bif decide ((↑(List.length a1.2.2.2.2.2.2.2.2.2.2.1.2.2.2.2.2.1):Int)>(0:Int)) then some true
        else
         bif decide ((↑(List.length a1.2.2.2.2.2.2.2.2.2.2.1.2.2.2.2.2.2.1):Int)>(0:Int)) then some true
         else some (decide ((↑(List.length a1.2.2.2.2.2.2.2.2.2.2.1.2.2.2.2.2.2.2.1):Int)>(0:Int))))
    fun (s0:Bool)=>bif s0 then some (1:Int) else some (0:Int)
  else
   Option.bind
    (bif a1.2.1==(0:Int) then some true
    else
     Option.bind (zF (a1.2.2.2.2.2.2.2.2.2.2.1.2.1,(1:Int),(255:Int),())) fun (y3:Bool)=>
      bif !y3 then some true else Option.bind (zF (a1.2.2.2.2.2.2.2.2.2.2.1.2.2.1,(1:Int),(255:Int),())) fun (y4:Bool)=>some !y4)
    fun (s5:Bool)=>
    bif s5 then some (1:Int)
    else
     Option.bind (wR (a1,())) fun (y6:Int)=>
      bif y6 !=(0:Int) then some y6
      else
       Option.bind (v8 (a1.2.2.2.2.2.2.2.2.2.2.1,())) fun (y7:Int)=>
        bif y7 !=(0:Int) then some y7
        else
         Option.bind
          (jN (a1,a1.2.2.2.2.2.2.2.2.2.2.1.2.2.2.2.2.2.2.1,(5:Int),(0:Int),(16777215:Int),(0:Int),()))
          fun (y8:Int)=>some y8
noncomputable def kP:ElS [zD]→Option (RTy.El (.p tI)):=fun x=>match x with
 |(a1,())=>
  Option.bind (j6 (a1.1,())) fun (y0:Bool)=>
   bif !y0 then some (3:Int)
   else
    Option.bind (zF (a1.2.1,(0:Int),(65535:Int),())) fun (y1:Bool)=>
     bif !y1 then some (1:Int)
     else
      kF
       (Option.bind (wI (a1,())) fun (y12:Int)=>
        bif y12 !=(0:Int) then some (Sum.inr y12)
        else
         Option.bind (jY (a1,())) fun (y13:Int)=>
          bif y13 !=(0:Int) then some (Sum.inr y13)
          else
           Option.bind (wQ (a1,())) fun (y14:Int)=>
            bif y14 !=(0:Int) then some (Sum.inr y14)
            else
             Option.bind (u5 (a1,())) fun (y15:Int)=>
              bif y15 !=(0:Int) then some (Sum.inr y15)
              else
               Option.bind (xC (a1,())) fun (y16:Int)=>
                bif y16 !=(0:Int) then some (Sum.inr y16)
                else
                 Option.bind (kA (a1,())) fun (y17:Int)=>
                  bif y17 !=(0:Int) then some (Sum.inr y17)
                  else
                   Option.bind (vZ (a1,())) fun (y18:Int)=>
                    bif y18 !=(0:Int) then some (Sum.inr y18)
                    else
                     Option.bind (wS (a1,())) fun (y19:Int)=>
                      bif y19 !=(0:Int) then some (Sum.inr y19)
                      else
                       Option.bind (jD (a1,())) fun (y20:Int)=>
                        bif y20 !=(0:Int) then some (Sum.inr y20)
                        else
                         Option.bind (wH (a1,())) fun (y21:Int)=>bif y21 !=(0:Int) then some (Sum.inr y21) else some (Sum.inl ()))
       fun (s22:Unit)=>some (0:Int)
end Go.Ve

namespace Go.Ve
open Go Go.Proofs Go.Bd Go.Proofs.Bw
set_option maxRecDepth 1000000
set_option maxHeartbeats 0
theorem zIu:OkX 77 [(.int .u8)] (.p .bool) zAn:=fX [] (A:=(jl [jj 6 5726623056 [] [.t 2 .bool]])) (fn:=Tryd.f77) (by kernel_rfl) (by kernel_rfl) (by rintro ⟨⟩ ⟨a1,⟨⟩⟩;kernel_rfl)
noncomputable def zJl:Ent:=jT (by kernel_rfl) zIu
theorem zJh:OkX 78 [(.int .u8)] (.p .bool) scan_digit:=fX [] (A:=(jl [jj 6 87376 [] [.t 2 .bool]])) (fn:=Tryd.f78) (by kernel_rfl) (by kernel_rfl) (by rintro ⟨⟩ ⟨a1,⟨⟩⟩;kernel_rfl)
noncomputable def zKH:Ent:=jT (by kernel_rfl) zJh
theorem zKs:OkX 46 [.str] (.p .bool) j6:=fX [zKH,zJl] (A:=(jl [jj 6 91625968640 [] [.t 18 .bool],jj 30 6760803201217199455451071119360 [] [.t 51 .bool],jj 17 6760803201217223474557457793360 [] [.t 3 tI],jj 36 6760803201217223474557457793360 [] []])) (fn:=Tryd.f46) (by kernel_rfl) (by kernel_rfl) (by rintro ⟨⟩ ⟨a1,⟨⟩⟩;kernel_rfl)
noncomputable def zDM:Ent:=jT (by kernel_rfl) zKs
theorem zHv:OkX 47 [tI,tI,tI] (.p .bool) zF:=fX [] (A:=(jl [jj 6 357912576 [] [.t 6 .bool]])) (fn:=Tryd.f47) (by kernel_rfl) (by kernel_rfl) (by rintro ⟨⟩ ⟨a1,a2,a3,⟨⟩⟩;kernel_rfl)
noncomputable def qI:Ent:=jT (by kernel_rfl) zHv
theorem zDo:OkA 108 [.d wK, .pp .str] (.p .bool) yC:=fA [] (A:=fun _=>none) (fn:=Tryd.f108) (by kernel_rfl) (by kernel_rfl) (by rintro ⟨⟩ ⟨a1,a2,⟨⟩⟩;kernel_rfl)
noncomputable def zAr:Ent:=jT (by kernel_rfl) zDo
theorem uS:OkA 107 [.d (.sl wK), .clo 108 [(true, .str)]] (.p tI) qY:=fA [zAr] (A:=(jl [jj 9 91625948416 [] [.t 8 tI],jj 28 91625968896 [] []])) (fn:=Tryd.f107) (by kernel_rfl) (by kernel_rfl) (by rintro ⟨⟩ ⟨a1,⟨a2,⟨⟩⟩,⟨⟩⟩;kernel_rfl)
noncomputable def wD:Ent:=jT (by kernel_rfl) uS
theorem zEA:OkA 119 [.d wK, .pp tU] (.p .bool) vP:=fA [] (A:=(jl [jj 6 22369600 [] [.t 3 .bool]])) (fn:=Tryd.f119) (by kernel_rfl) (by kernel_rfl) (by rintro ⟨⟩ ⟨a1,a2,⟨⟩⟩;kernel_rfl)
noncomputable def zA8:Ent:=jT (by kernel_rfl) zEA
theorem uR:OkA 107 [.d (.sl wK), .clo 119 [(true,tU)]] (.p tI) qW:=fA [zA8] (A:=(jl [jj 9 91625948416 [] [.t 8 tI],jj 28 91625968896 [] []])) (fn:=Tryd.f107) (by kernel_rfl) (by kernel_rfl) (by rintro ⟨⟩ ⟨a1,⟨a2,⟨⟩⟩,⟨⟩⟩;kernel_rfl)
noncomputable def wC:Ent:=jT (by kernel_rfl) uR
theorem zE6:OkX 79 [zD, .str] (.p tI) wM:=fX [wC,wD,zAr] (A:=fun _=>none) (fn:=Tryd.f79) (by kernel_rfl) (by kernel_rfl) (by rintro ⟨⟩ ⟨a1,a2,⟨⟩⟩;kernel_rfl)
noncomputable def zBC:Ent:=jT (by kernel_rfl) zE6
theorem zB6:OkX 80 [wK] (.p .bool) wP:=fX [qI] (A:=(jl [jj 6 91625968960 [] [.t 18 .bool],jj 14 432691404877902302377449734799360 [] [.t 54 .bool],jj 22 28356431218673327386312173077953249280 [] [.t 62 .bool],jj 34 29733873221551602937429673197387906317025296 [] [.t 2 .bool],jj 38 1948639115447605850107391062664013828392568750096 [] [.t 2 .bool]])) (fn:=Tryd.f80) (by kernel_rfl) (by kernel_rfl) (by rintro ⟨⟩ ⟨a1,⟨⟩⟩;kernel_rfl)
noncomputable def zCR:Ent:=jT (by kernel_rfl) zB6
theorem zHy:OkX 82 [tU,tI] (.p zI) xO:=fX [zGf,zDT] (A:=fun _=>none) (fn:=Tryd.f82) (by kernel_rfl) (by kernel_rfl) (by rintro ⟨⟩ ⟨a1,a2,⟨⟩⟩;kernel_rfl)
noncomputable def zIU:Ent:=jT (by kernel_rfl) zHy
theorem zIy:OkX 109 [zI,zI] (.p .bool) zAu:=fX [zHI] (A:=(jl [jj 6 1431655680 [] [.t 4 .bool]])) (fn:=Tryd.f109) (by kernel_rfl) (by kernel_rfl) (by rintro ⟨⟩ ⟨a1,a2,⟨⟩⟩;kernel_rfl)
noncomputable def zJn:Ent:=jT (by kernel_rfl) zIy
theorem zGK:OkX 81 [zI,zI] (.p .bool) uY:=fX [zJn] (A:=(jl [jj 6 22369536 [] [.t 4 .bool]])) (fn:=Tryd.f81) (by kernel_rfl) (by kernel_rfl) (by rintro ⟨⟩ ⟨a1,a2,⟨⟩⟩;kernel_rfl)
noncomputable def zDe:Ent:=jT (by kernel_rfl) zGK
theorem zBR:OkX 48 [zD] (.p tI) wI:=fX [zDe,zIU,zCR,zBC,zDM] (A:=(jl [jj 62 7089215977517939421060818149262229504 [] [.t 61 .bool],jj 53 28356863910078198992125906793120411664 [] [.t 37 tI],jj 72 28356863910078205288614550617882374992 [] [],jj 17 113427455640312821154458202477166605136 [] [.t 14 tI],jj 76 113427455640312821154458202477254685520 [] []])) (fn:=Tryd.f48) (by kernel_rfl) (by kernel_rfl) (by rintro ⟨⟩ ⟨a1,⟨⟩⟩;kernel_rfl)
noncomputable def zCl:Ent:=jT (by kernel_rfl) zBR
theorem zCH:OkA 111 [.d zCx, .pp .str] (.p .bool) uN:=fA [] (A:=fun _=>none) (fn:=Tryd.f111) (by kernel_rfl) (by kernel_rfl) (by rintro ⟨⟩ ⟨a1,a2,⟨⟩⟩;kernel_rfl)
noncomputable def xT:Ent:=jT (by kernel_rfl) zCH
theorem uM:OkA 110 [.d (.sl zCx), .clo 111 [(true, .str)]] (.p tI) qS:=fA [xT] (A:=(jl [jj 9 91625948416 [] [.t 8 tI],jj 28 91625968896 [] []])) (fn:=Tryd.f110) (by kernel_rfl) (by kernel_rfl) (by rintro ⟨⟩ ⟨a1,⟨a2,⟨⟩⟩,⟨⟩⟩;kernel_rfl)
noncomputable def uV:Ent:=jT (by kernel_rfl) uM
theorem zEz:OkX 84 [zD, .str] (.p tI) qK:=fX [uV,xT] (A:=fun _=>none) (fn:=Tryd.f84) (by kernel_rfl) (by kernel_rfl) (by rintro ⟨⟩ ⟨a1,a2,⟨⟩⟩;kernel_rfl)
noncomputable def yD:Ent:=jT (by kernel_rfl) zEz
theorem zE4:OkX 83 [tI,tI, .str,tI,tI] (.p tI) jP:=fX [zDM] (A:=fun _=>none) (fn:=Tryd.f83) (by kernel_rfl) (by kernel_rfl) (by rintro ⟨⟩ ⟨a1,a2,a3,a4,a5,⟨⟩⟩;kernel_rfl)
noncomputable def xJ:Ent:=jT (by kernel_rfl) zE4
theorem zBm:OkX 49 [zD] (.p tI) jY:=fX [zAS,xJ,yD] (A:=(jl [jj 50 453709822561249672716739990403458007040 [] [.t 64 .bool],jj 41 1814839290245005132174842595809903558672 [] [.t 37 tI],jj 60 1814839290245005138397544263335532349264 [] [],jj 17 7259357160980020553885324958544030648144 [] [.t 15 tI],jj 64 7259357160980020553885324958544382969680 [] []])) (fn:=Tryd.f49) (by kernel_rfl) (by kernel_rfl) (by rintro ⟨⟩ ⟨a1,⟨⟩⟩;kernel_rfl)
noncomputable def zBU:Ent:=jT (by kernel_rfl) zBm
theorem zDC:OkA 113 [.d zFG, .pp .str] (.p .bool) xD:=fA [] (A:=fun _=>none) (fn:=Tryd.f113) (by kernel_rfl) (by kernel_rfl) (by rintro ⟨⟩ ⟨a1,a2,⟨⟩⟩;kernel_rfl)
noncomputable def zAK:Ent:=jT (by kernel_rfl) zDC
theorem yB:OkA 112 [.d (.sl zFG), .clo 113 [(true, .str)]] (.p tI) jC:=fA [zAK] (A:=(jl [jj 9 91625948416 [] [.t 8 tI],jj 28 91625968896 [] []])) (fn:=Tryd.f112) (by kernel_rfl) (by kernel_rfl) (by rintro ⟨⟩ ⟨a1,⟨a2,⟨⟩⟩,⟨⟩⟩;kernel_rfl)
noncomputable def yQ:Ent:=jT (by kernel_rfl) yB
theorem zFV:OkX 85 [zD, .str] (.p tI) qZ:=fX [yQ,zAK] (A:=fun _=>none) (fn:=Tryd.f85) (by kernel_rfl) (by kernel_rfl) (by rintro ⟨⟩ ⟨a1,a2,⟨⟩⟩;kernel_rfl)
noncomputable def xZ:Ent:=jT (by kernel_rfl) zFV
theorem zDA:OkX 86 [zFH] (.p .bool) kN:=fX [qI] (A:=(jl [jj 6 1501199875790160 [] [.t 2 .bool]])) (fn:=Tryd.f86) (by kernel_rfl) (by kernel_rfl) (by rintro ⟨⟩ ⟨a1,⟨⟩⟩;kernel_rfl)
noncomputable def zEC:Ent:=jT (by kernel_rfl) zDA
theorem zB7:OkX 50 [zD] (.p tI) wQ:=fX [zEC,yD,xJ,xZ] (A:=(jl [jj 50 1690199188403213049156704665600 [] [.t 50 .bool],jj 41 432691404871605813733715167199248 [] [.t 37 tI],jj 68 432691404877828515401240795989840 [] [],jj 17 1730765619511609209510165085210448 [] [.t 15 tI],jj 72 1730765619511609209510165437531984 [] []])) (fn:=Tryd.f50) (by kernel_rfl) (by kernel_rfl) (by rintro ⟨⟩ ⟨a1,⟨⟩⟩;kernel_rfl)
noncomputable def zCS:Ent:=jT (by kernel_rfl) zB7
theorem zHw:OkA 98 [.d yA, .pp .str] (.p .bool) zCI:=fA [] (A:=fun _=>none) (fn:=Tryd.f98) (by kernel_rfl) (by kernel_rfl) (by rintro ⟨⟩ ⟨a1,a2,⟨⟩⟩;kernel_rfl)
noncomputable def zDR:Ent:=jT (by kernel_rfl) zHw
theorem zAo:OkA 97 [.d (.sl yA), .clo 98 [(true, .str)]] (.p tI) wA:=fA [zDR] (A:=(jl [jj 9 91625948416 [] [.t 8 tI],jj 28 91625968896 [] []])) (fn:=Tryd.f97) (by kernel_rfl) (by kernel_rfl) (by rintro ⟨⟩ ⟨a1,⟨a2,⟨⟩⟩,⟨⟩⟩;kernel_rfl)
noncomputable def zAB:Ent:=jT (by kernel_rfl) zAo
theorem zFW:OkX 62 [zD, .str] (.p tI) vQ:=fX [zAB,zDR] (A:=fun _=>none) (fn:=Tryd.f62) (by kernel_rfl) (by kernel_rfl) (by rintro ⟨⟩ ⟨a1,a2,⟨⟩⟩;kernel_rfl)
noncomputable def zDS:Ent:=jT (by kernel_rfl) zFW
theorem zEy:OkX 114 [zET] (.p .bool) vO:=fX [] (A:=(jl [jj 6 22906492240 [] [.t 2 .bool]])) (fn:=Tryd.f114) (by kernel_rfl) (by kernel_rfl) (by rintro ⟨⟩ ⟨a1,⟨⟩⟩;kernel_rfl)
noncomputable def zFn:Ent:=jT (by kernel_rfl) zEy
theorem zE3:OkX 87 [qT] (.p .bool) u4:=fX [zFn,qI] (A:=(jl [jj 6 24019198012642560 [] [.t 27 .bool],jj 14 25185930556106761830400 [] [.t 37 .bool],jj 26 110768999648642245590349369258803216 [] [.t 2 .bool]])) (fn:=Tryd.f87) (by kernel_rfl) (by kernel_rfl) (by rintro ⟨⟩ ⟨a1,⟨⟩⟩;kernel_rfl)
noncomputable def zGc:Ent:=jT (by kernel_rfl) zE3
theorem zE5:OkX 51 [zD] (.p tI) u5:=fX [zGc,xJ,zDS] (A:=(jl [jj 41 412640383273149598772805648 [] [.t 37 tI],jj 60 412646605974817124401596240 [] [],jj 17 1650586719047173699507636048 [] [.t 15 tI],jj 64 1650586719047173699859957584 [] []])) (fn:=Tryd.f51) (by kernel_rfl) (by kernel_rfl) (by rintro ⟨⟩ ⟨a1,⟨⟩⟩;kernel_rfl)
noncomputable def zGd:Ent:=jT (by kernel_rfl) zE5
theorem zBl:OkX 88 [zPv] (.p .bool) jX:=fX [qI] (A:=(jl [jj 18 96076790618914832 [] [.t 2 .bool],jj 30 28356863910077802313341345742922448912 [] [.t 2 .bool],jj 38 35104097222852395565972675440846988211713747182350227175746043920 [] [.t 2 .bool]])) (fn:=Tryd.f88) (by kernel_rfl) (by kernel_rfl) (by rintro ⟨⟩ ⟨a1,⟨⟩⟩;kernel_rfl)
noncomputable def zBT:Ent:=jT (by kernel_rfl) zBl
theorem zFU:OkX 52 [zD] (.p tI) xC:=fX [zDS,zBT] (A:=(jl [jj 34 96076700424601600 [] [.t 28 .bool],jj 17 384307168196690704 [] [.t 12 tI],jj 44 384307168202195728 [] []])) (fn:=Tryd.f52) (by kernel_rfl) (by kernel_rfl) (by rintro ⟨⟩ ⟨a1,⟨⟩⟩;kernel_rfl)
noncomputable def zG1:Ent:=jT (by kernel_rfl) zFU
theorem zDn:OkX 53 [zD] (.p tI) kA:=fX [zDS] (A:=(jl [jj 18 98382635059778682880 [] [.t 33 .bool],jj 9 393530540239137080080 [] [.t 8 tI],jj 28 393530540239137101584 [] []])) (fn:=Tryd.f53) (by kernel_rfl) (by kernel_rfl) (by rintro ⟨⟩ ⟨a1,⟨⟩⟩;kernel_rfl)
noncomputable def zDQ:Ent:=jT (by kernel_rfl) zDn
theorem zGI:OkX 115 [zD,tU] (.p tI) zAi:=fX [wC,wD,zA8] (A:=fun _=>none) (fn:=Tryd.f115) (by kernel_rfl) (by kernel_rfl) (by rintro ⟨⟩ ⟨a1,a2,⟨⟩⟩;kernel_rfl)
noncomputable def zHH:Ent:=jT (by kernel_rfl) zGI
theorem zDz:OkX 89 [zD,zCw] (.p .bool) kM:=fX [qI,zHH,zAS] (A:=(jl [jj 28 374933465089024 [] [.t 5 tI],jj 13 1501176969315328 [] [.t 18 tI, .t 5 tI],jj 32 1501199875785728 [] [.t 5 tI],jj 34 432691404877902300876341484978432 [] [.t 4 .bool]])) (fn:=Tryd.f89) (by kernel_rfl) (by kernel_rfl) (by rintro ⟨⟩ ⟨a1,a2,⟨⟩⟩;kernel_rfl)
noncomputable def zEB:Ent:=jT (by kernel_rfl) zDz
theorem zDl:OkX 54 [zD] (.p tI) vZ:=fX [zBC,zEB] (A:=(jl [jj 56 402975273111051399332864 [] [],jj 70 1772303888742337811519292622315192320 [] [.t 60 .bool],jj 61 7089215977106904642391844229862178832 [] [.t 45 tI],jj 80 7089215977519551322153637649101932368 [] [],jj 17 28356863910078205288614550618956154704 [] [.t 15 tI],jj 84 28356863910078205288614550619308476240 [] []])) (fn:=Tryd.f54) (by kernel_rfl) (by kernel_rfl) (by rintro ⟨⟩ ⟨a1,⟨⟩⟩;kernel_rfl)
noncomputable def zDO:Ent:=jT (by kernel_rfl) zDl
theorem zDB:OkX 90 [zD,(.sl zAM),tI,tI,tI,tI] (.p tI) jN:=fX [xZ,qI] (A:=(jl [jj 26 443075998594971957628597553923620864 [] [.t 59 .bool],jj 34 464598415226722720476703162744487437926400 [] [.t 69 .bool],jj 45 124714687448262656856724350867958696886057780117504 [] [.t 74 tI],jj 64 124714806385570382353381105725122817583495025524736 [] [],jj 17 498859225542281529413524422900491270703374686748672 [] [.t 22 tI],jj 68 498859225542281529413524422900491270708872244887552 [] []])) (fn:=Tryd.f90) (by kernel_rfl) (by kernel_rfl) (by rintro ⟨⟩ ⟨a1,a2,a3,a4,a5,a6,⟨⟩⟩;kernel_rfl)
noncomputable def uO:Ent:=jT (by kernel_rfl) zDB
theorem zB9:OkX 55 [zD] (.p tI) wS:=fX [uO,zDe,zAS,qI] (A:=(jl [jj 14 24019197990273024 [] [.t 27 .bool],jj 54 108172748057805635146029098598400 [] [.t 53 .bool],jj 74 475749202545122716941223367868614426146897920 [] [.t 74 .bool],jj 65 1902996923497177508428971636524009593487015952 [] [.t 59 tI],jj 84 1902996923607946508076102724839840676277439760 [] [],jj 45 7611987694431786032310757759912339508276808976 [] [.t 39 tI],jj 88 7611987694431786032310856929608479770826296592 [] []])) (fn:=Tryd.f55) (by kernel_rfl) (by kernel_rfl) (by rintro ⟨⟩ ⟨a1,⟨⟩⟩;kernel_rfl)
noncomputable def zCU:Ent:=jT (by kernel_rfl) zB9
theorem zAy:OkX 56 [zD] (.p tI) jD:=fX [uO,yD,qI] (A:=(jl [jj 14 24019198012555264 [] [.t 27 .bool],jj 34 108172851219469426679694103674880 [] [.t 53 .bool]])) (fn:=Tryd.f56) (by kernel_rfl) (by kernel_rfl) (by rintro ⟨⟩ ⟨a1,⟨⟩⟩;kernel_rfl)
noncomputable def zAR:Ent:=jT (by kernel_rfl) zAy
theorem zB8:OkX 91 [zD] (.p tI) wR:=fX [xZ,qI] (A:=(jl [jj 26 384305702186778624 [] [.t 29 .bool],jj 34 6760803201216839167480881479680 [] [.t 51 .bool],jj 45 29037400951670170029793947671530464882704 [] [.t 58 tI],jj 64 29037428643920082215541299834154647565136 [] [],jj 17 116149714575680328862165199336708784534352 [] [.t 16 tI],jj 68 116149714575680328862165199336710210597712 [] []])) (fn:=Tryd.f91) (by kernel_rfl) (by kernel_rfl) (by rintro ⟨⟩ ⟨a1,⟨⟩⟩;kernel_rfl)
noncomputable def zCT:Ent:=jT (by kernel_rfl) zB8
theorem zCE:OkX 120 [(.sl zI),zI] (.p tI) vF:=fX [] (A:=(jl [jj 9 91625948416 [] [.t 8 tI],jj 28 91625968896 [] []])) (fn:=Tryd.f120) (by kernel_rfl) (by kernel_rfl) (by rintro ⟨⟩ ⟨a1,a2,⟨⟩⟩;kernel_rfl)
noncomputable def zDp:Ent:=jT (by kernel_rfl) zCE
theorem zBg:OkX 116 [(.sl zI),zI] (.p .bool) jV:=fX [zDp] (A:=fun _=>none) (fn:=Tryd.f116) (by kernel_rfl) (by kernel_rfl) (by rintro ⟨⟩ ⟨a1,a2,⟨⟩⟩;kernel_rfl)
noncomputable def zBS:Ent:=jT (by kernel_rfl) zBg
theorem zDm:OkX 92 [tPV] (.p tI) v8:=fX [zBS,zAS] (A:=(jl [jj 17 393530539872633226064 [] [.t 20 tI],jj 44 393530540233410478928 [] [],jj 77 1814837559479385626862121729470654251024 [] [.t 56 tI],jj 96 1814839290244901976801390791279855744016 [] [],jj 57 7259357160980014106280953680522123621392 [] [.t 42 tI],jj 100 7259357160980020453141506657325290828816 [] [],jj 122 127707839947020960621285735288789705611309955520921600 [] [.t 88 .bool],jj 141 140416254979905894014701075081386214661643250350482666439728693264 [] [.t 99 tI],jj 160 140416388891409582261987706654619296583782412574799488157291380752 [] [],jj 113 561665555565638329055443877005183475710685651638807802095013724176 [] [.t 74 tI],jj 164 561665555565638329055560955917475761482178714159739205992920121360 [] []])) (fn:=Tryd.f92) (by kernel_rfl) (by kernel_rfl) (by rintro ⟨⟩ ⟨a1,⟨⟩⟩;kernel_rfl)
noncomputable def zDP:Ent:=jT (by kernel_rfl) zDm
theorem zBQ:OkX 57 [zD] (.p tI) wH:=fX [uO,zDP,zCT,qI] (A:=(jl [jj 14 105637550019019116791390535680 [] [.t 48 .bool],jj 26 113427455534675271135439085685864136704 [] [.t 63 .bool]])) (fn:=Tryd.f57) (by kernel_rfl) (by kernel_rfl) (by rintro ⟨⟩ ⟨a1,⟨⟩⟩;kernel_rfl)
noncomputable def zCk:Ent:=jT (by kernel_rfl) zBQ
theorem zDD:OkX 21 [zD] (.p tI) kP:=fX [zCk,zAR,zCU,zDO,zDQ,zG1,zGd,zCS,zBU,zCl,qI,zDM] (A:=(jl [jj 52 78062392109437952 [] []])) (fn:=Tryd.f21) (by kernel_rfl) (by kernel_rfl) (by rintro ⟨⟩ ⟨a1,⟨⟩⟩;kernel_rfl)
end Go.Ve





namespace Go.Proofs.Bw
open Go Go.Proofs Go.Bd Go.Ve
abbrev lim:Nat:=5864062014000
structure POk (p:Pub):Prop where
 ok:zHs 220 p
 len:p.sh.length=p.S.ns.length+2
theorem zFZ:POk zF0:=⟨zNR 220,rfl⟩
def Rp (p:Pub) (f:Int) (φ:(Nat→Bool)→Bool):Prop:= ∃k:Nat,f=k∧p.sh[k]? =some true∧ ∀a,den p.S.ns k a=φ a
theorem POk.lt {p:Pub} (hp:POk p) {k:Nat} (h:p.sh[k]? =some true):k<p.S.ns.length+2:=by
 have:=(List.getElem?_eq_some_iff.1 h).1
 have:=hp.len
 omega
structure Stp (p:Pub) (c:Nat) (p':Pub):Prop where
 ok:POk p'
 app: ∃e,p'.S.ns=p.S.ns++e
 sh: ∀i:Nat,p.sh[i]? =some true→p'.sh[i]? =some true
 cnt:p'.S.ns.length≤p.S.ns.length+c
theorem Stp.refl {p:Pub} (hp:POk p):Stp p 0 p:=⟨hp,⟨[],by simp⟩,fun _ h=>h,Nat.le_refl _⟩
theorem Stp.trans {p q r:Pub} {c d:Nat} (h:Stp p c q) (k:Stp q d r):Stp p (c+d) r:=by
 obtain ⟨e,he⟩:=h.app
 obtain ⟨e',he'⟩:=k.app
 exact ⟨k.ok,⟨e++e',by rw [he',he,List.append_assoc]⟩,fun i hi=>k.sh i (h.sh i hi),by have:=h.cnt;have:=k.cnt;omega⟩
theorem Stp.mono {p q:Pub} {c d:Nat} (h:Stp p c q) (hc:c≤d):Stp p d q:=⟨h.ok,h.app,h.sh,by have:=h.cnt;omega⟩
theorem Rp.step {p p':Pub} {c:Nat} {f:Int} {φ:(Nat→Bool)→Bool} (h:Rp p f φ) (hp:POk p) (k:Stp p c p'):Rp p' f φ:=by
 obtain ⟨m,rfl,h1,h2⟩:=h
 refine ⟨m,rfl,k.sh m h1,fun a=> ?_⟩
 obtain ⟨e,he⟩:=k.app
 have W:=hp.ok.ok.wf
 have W':=k.ok.ok.ok.wf
 rw [he] at W' ⊢
 rw [W.app W' (hp.lt h1),h2]
theorem Rp.congr {p:Pub} {f:Int} {φ ψ:(Nat→Bool)→Bool} (h:Rp p f φ) (he: ∀a,φ a=ψ a):Rp p f ψ:=by
 obtain ⟨m,h0,h1,h2⟩:=h
 exact ⟨m,h0,h1,fun a=>(h2 a).trans (he a)⟩
theorem Rp.eq {p:Pub} {f g:Int} {φ ψ:(Nat→Bool)→Bool} (hp:POk p) (h:Rp p f φ) (k:Rp p g ψ):f=g↔ ∀a,φ a=ψ a:=by
 obtain ⟨m,rfl,h1,h2⟩:=h
 obtain ⟨m',rfl,k1,k2⟩:=k
 constructor
 ·intro he
  have:m=m':=by omega
  subst this
  exact fun a=>(h2 a).symm.trans (k2 a)
 ·intro he
  have:=hp.ok.ok.wf.canon (hp.lt h1) (hp.lt k1) (fun a=>by rw [h2,k2,he])
  rw [this]
theorem Rp.f0 {p:Pub} (hp:POk p):Rp p 0 (fun _=>false):=⟨0,rfl,hp.ok.f0,fun a=>by rw [vI (by omega)];rfl⟩
theorem Rp.f1 {p:Pub} (hp:POk p):Rp p 1 (fun _=>true):=⟨1,rfl,hp.ok.f1,fun a=>by rw [vI (by omega)];rfl⟩
theorem Rp.val {p:Pub} {f:Int} {φ:(Nat→Bool)→Bool} (h:Rp p f φ):Bw.val p f=true:=by
 obtain ⟨m,rfl,h1,_⟩:=h
 simp only [Bw.val,Int.toNat_natCast,h1,Bool.and_eq_true,decide_eq_true_eq,beq_self_eq_true,and_true]
 omega
theorem zF6 {sh:List Bool} {m k:Nat} (h:sh.length=m+2) (hk:m≤k):(grow sh k).length=k+2:=by
 rw [grow,List.length_append,List.length_replicate]
 omega
theorem zHS {p:Pub} (hp:POk p) {f g h:Int} {F G H:(Nat→Bool)→Bool} (hf:Rp p f F) (hg:Rp p g G) (hh:Rp p h H) {K:Nat} (hw:Wd K (fun a=>if F a then G a else H a)) (hr:p.S.ns.length+220*K≤lim)
  {nx i:Nat} (hi:i+1=nx): ∃p' y,zC6 220 (nx,some p) i f g h=some ((nx,some p'),y)∧Stp p (220*K) p'∧Rp p' y (fun a=>if F a then G a else H a):=by
 have vf:=hf.val
 have vg:=hg.val
 have vh:=hh.val
 obtain ⟨a,rfl,a1,a2⟩:=hf
 obtain ⟨b,rfl,b1,b2⟩:=hg
 obtain ⟨c,rfl,c1,c2⟩:=hh
 have I:=zFd (n:=220) 221 a b c 0 p.S hp.ok.ok (hp.lt a1) (hp.lt b1) (hp.lt c1) (Nat.zero_le _) (Nat.zero_le _) (Nat.zero_le _) (by omega)
 have hden: ∀x,den (jL 220 221 a b c p.S).2.ns (jL 220 221 a b c p.S).1 x=if F x then G x else H x:=by
  intro x
  rw [I.den,zAp]
  simp only [a2,b2,c2]
 obtain ⟨e,he⟩:=I.app
 have hle:p.S.ns.length≤(jL 220 221 a b c p.S).2.ns.length:=by rw [he,List.length_append];omega
 have hcnt:(jL 220 221 a b c p.S).2.ns.length≤p.S.ns.length+220*K:=
  zSt I.ok.wf I.lt (by rw [show den (jL 220 221 a b c p.S).2.ns (jL 220 221 a b c p.S).1=fun x=>if F x then G x else H x from funext hden];exact hw) hle I.new
 have hroom:room (jL 220 221 a b c p.S).2=true:=by
  simp only [room,decide_eq_true_eq]
  have:p.S.ns.length+220*K≤5864062014000:=hr
  omega
 refine ⟨(zHK 220 p a b c).2,(zHK 220 p a b c).1,?_,⟨⟨?_,?_⟩,⟨e,he⟩,?_,hcnt⟩,⟨(zHK 220 p a b c).1,rfl,?_,hden⟩⟩
 ·simp only [zC6,vf,vg,vh,hi,decide_true,Bool.true_and,Int.toNat_natCast,hroom,if_true]
 ·exact zGn hp.ok a1 b1 c1 hp.len
 ·show (zB2 _ _).length=_
  rw [zB2,List.length_set]
  exact zF6 hp.len hle
 ·intro j hj
  exact yG hj
 ·show ((grow p.sh (jL 220 221 a b c p.S).2.ns.length).set (jL 220 221 a b c p.S).1 true)[(jL 220 221 a b c p.S).1]? =some true
  rw [List.getElem?_set_self]
  rw [zF6 hp.len hle]
  exact I.lt
theorem zQ4 {p:Pub} (hp:POk p) {v:Nat} (hv:v<220) (hr:p.S.ns.length+1≤lim) {nx i:Nat} (hi:i+1=nx):
  ∃p' y,zJx 220 (nx,some p) i v=some ((nx,some p'),y)∧Stp p 1 p'∧Rp p' y (fun a=>a v):=by
 have M:=zNS (n:=220) hp.ok.ok.wf (v:=v) (lo:=0) (hi:=1) hv (by omega) (by omega) (by rw [uA (by omega)];exact hv) (by rw [uA (by omega)];exact hv)
 obtain ⟨e,he,hel⟩:=M.app
 have hle:p.S.ns.length≤(mk p.S.ns v 0 1).2.length:=by rw [he,List.length_append];omega
 have hle2:(mk p.S.ns v 0 1).2.length≤p.S.ns.length+1:=by rw [he,List.length_append];omega
 have hroom:room ⟨(mk p.S.ns v 0 1).2,[]⟩=true:=by
  simp only [room,decide_eq_true_eq]
  have:p.S.ns.length+1≤5864062014000:=hr
  omega
 have hs:zJx 220 (nx,some p) i v=some ((nx,some (zJo p v).2),((zJo p v).1:Int)):=by
  simp only [zJx,hi,Int.toNat_natCast,hroom,decide_true,Bool.true_and,Bool.and_true,Bool.and_eq_true,decide_eq_true_eq]
  rw [if_pos ⟨by omega,hv⟩]
 refine ⟨(zJo p v).2,(zJo p v).1,hs,⟨⟨?_,?_⟩,⟨e,he⟩,?_,hle2⟩,⟨(zJo p v).1,rfl,?_,?_⟩⟩
 ·refine ⟨⟨M.wf,?_⟩,yG hp.ok.f0,yG hp.ok.f1⟩
  intro t ht
  obtain ⟨m1,m2,m3⟩:=hp.ok.ok.memo t ht
  have W':=M.wf
  simp only [zJo]
  rw [he] at W' ⊢
  exact ⟨m1.app,by simp only [List.length_append];omega,fun a=>by rw [hp.ok.ok.wf.app W' m2,zDG hp.ok.ok.wf W' m1];exact m3 a⟩
 ·show (zB2 _ _).length=_
  rw [zB2,List.length_set]
  exact zF6 hp.len hle
 ·intro j hj
  exact yG hj
 ·show ((grow p.sh (mk p.S.ns v 0 1).2.length).set (mk p.S.ns v 0 1).1 true)[(mk p.S.ns v 0 1).1]? =some true
  rw [List.getElem?_set_self]
  rw [zF6 hp.len hle]
  exact M.lt
 ·intro a
  show den (mk p.S.ns v 0 1).2 (mk p.S.ns v 0 1).1 a=a v
  rw [M.den,vI (by omega),vI (by omega)]
  cases a v<;>rfl
end Go.Proofs.Bw

namespace Go.Ve
open Go
set_option maxRecDepth 1000000
set_option maxHeartbeats 4000000
theorem zJ8 {α:Type} {m:Option α} {x:α} (h:Wp m (fun r=>r=x)):m=some x:=by
 obtain ⟨r,h1,rfl⟩:=h;exact h1
def zTi (a b c d:Int):Prop:=a<c∨(a=c∧b<d)
def plt (p q:Ty.El zI):Prop:=zTi p.1 p.2.1 q.1 q.2.1
def kK (n:Int):Nat:=min n.toNat 32
def zAH (k:Nat):BitVec 32:=BitVec.allOnes 32<<< (32-k)
theorem zO2 (n:Int):kK n≤32:=Nat.min_le_right _ _
theorem wrap_u32 {x:Int} (h0:0≤x) (h1:x<4294967296):IntKind.wrap .u32 x=x:=by
 have e1:((2:Int)^IntKind.bits .u32)=4294967296:=by decide
 simp only [IntKind.wrap,IntKind.signed,Bool.false_and,Bool.false_eq_true,if_false,e1]
 omega
theorem zHL (x:BitVec 32):IntKind.wrap .u32 (x.toNat:Int)=(x.toNat:Int):=wrap_u32 (by omega) (by have:=x.isLt;omega)
theorem zIA (x:BitVec 32):BitVec.ofInt 32 (x.toNat:Int)=x:=by
 rw [BitVec.ofInt_natCast,BitVec.ofNat_toNat,BitVec.setWidth_eq]
theorem zKQ: ∀k,k<33→IntKind.wrap .u32 (4294967295*2^min (32-k) 32)=((zAH k).toNat:Int):=by decide+kernel
theorem zQI (n:Int):(if (if (32:Int)<n then (32:Int) else n)>(0:Int) then if (32:Int)<n then (32:Int) else n else (0:Int))=(kK n:Int):=by
 unfold kK
 split<;>split<;>omega
theorem yW (n:Int):yP (n,())=some ((zAH (kK n)).toNat:Int):=by
 have hle:=zO2 n
 unfold yP zBb
 simp only [zQI,Option.bind_some]
 rw [wrap_i64 (by omega) (by omega)]
 have h0:(0:Int)≤32- ((kK n:Nat):Int):=by omega
 simp only [h0,decide_true,cond_true]
 rw [show ((32:Int) - ((kK n:Nat):Int)).toNat=32-kK n by omega]
 exact congrArg some (zKQ _ (by omega))
def zS8 (p:Ty.El zI) (a:Int):Bool:=(((BitVec.ofInt 32 a&&&zAH (kK p.2.1)).toNat:Nat):Int)==p.1
theorem zST (a:Int) (k:Nat):IntKind.wrap .u32 (((BitVec.ofInt (IntKind.bits .u32) a&&&BitVec.ofInt (IntKind.bits .u32) ((zAH k).toNat:Int)).toNat:Nat):Int)=((BitVec.ofInt 32 a&&&zAH k).toNat:Int):=by
 change IntKind.wrap .u32 (((BitVec.ofInt 32 a&&&BitVec.ofInt 32 ((zAH k).toNat:Int)).toNat:Nat):Int)=_
 rw [zIA,zHL]
theorem zEV (p:Ty.El zI) (a:Int):uZ (p,a,())=some (zS8 p a):=by
 refine zJ8 ?_
 unfold uZ
 dsimp only
 refine zB (vJ (yW _) (zA ?_))
 rw [zST]
 rfl
def zH5 (p:Ty.El zI):Bool:=decide (p.2.1≥0)&&(decide (p.2.1≤32)&&(BitVec.ofInt 32 p.1&&& ~~~ zAH (kK p.2.1))==0#32)
theorem zC7 (p:Ty.El zI):jQ (p,())=some (zH5 p):=by
 refine zJ8 ?_
 unfold jQ zH5
 dsimp only
 refine zB (zH (fun h=>zH (fun h'=>zB (vJ (yW _) (zA (zA ?_)))) (fun h'=>zA (zA ?_))) (fun h=>zA (zA ?_)))
 ·rw [h,h']
  simp only [Bool.true_and]
  change (IntKind.wrap .u32 (((BitVec.ofInt 32 p.1&&& ~~~ BitVec.ofInt 32 ((zAH (kK p.2.1)).toNat:Int)).toNat:Nat):Int)==(0:Int))=_
  rw [zIA,zHL,Bool.eq_iff_iff,beq_iff_eq,beq_iff_eq]
  constructor
  ·intro h
   apply BitVec.eq_of_toNat_eq
   simp only [BitVec.toNat_ofNat]
   omega
  ·intro h
   rw [h];rfl
 ·rw [h,h'];rfl
 ·rw [h];rfl
def bt (x:Int) (k:Nat):Bool:=(BitVec.ofInt 32 x).getLsbD k
theorem zRH (x:Int) {k:Nat} (hk:k<32):(x%4294967296) / 2^k%2=x / 2^k%2:=by
 rcases (by omega:k=0∨k=1∨k=2∨k=3∨k=4∨k=5∨k=6∨k=7∨k=8∨k=9∨k=10∨k=11∨k=12∨k=13∨k=14∨k=15∨k=16∨k=17∨k=18∨k=19∨k=20∨k=21∨k=22∨k=23∨k=24∨k=25∨k=26∨k=27∨k=28∨k=29∨k=30∨k=31) with rfl|rfl|rfl|rfl|rfl|rfl|rfl|rfl|rfl|rfl|rfl|rfl|rfl|rfl|rfl|rfl|rfl|rfl|rfl|rfl|rfl|rfl|rfl|rfl|rfl|rfl|rfl|rfl|rfl|rfl|rfl|rfl<;>simp only [Int.reducePow,Nat.reducePow]<;>omega
theorem zSb (x:Int) {k:Nat} (hk:k<32):bt x k=decide (x / 2^k%2=1):=by
 unfold bt
 rw [BitVec.getLsbD,Nat.testBit_eq_decide_div_mod_eq,BitVec.toNat_ofInt, ←zRH x hk,decide_eq_decide]
 have h0:(0:Int)≤x%4294967296:=Int.emod_nonneg _ (by omega)
 obtain ⟨m,hm⟩:=Int.eq_ofNat_of_zero_le h0
 have h1:(x%((2^32:Nat):Int))=(m:Int):=hm
 rw [h1,hm,Int.toNat_natCast]
 have h2:((m:Int) / 2^k)%2=((m / 2^k%2:Nat):Int):=by
  rw [Int.natCast_emod,Int.natCast_ediv,Int.natCast_pow];rfl
 rw [h2]
 omega
theorem zQx (x:Int) {k:Nat} (hk:k<32):(BitVec.ofInt 32 (Int.fdiv x (2^k)))&&&1#32=if bt x k then 1#32 else 0#32:=by
 rw [zSb x hk]
 have hpos:(0:Int)≤2^k:=Int.le_of_lt (Int.pow_pos (by omega))
 rw [Int.fdiv_eq_ediv_of_nonneg _ hpos]
 generalize x / 2^k=y
 apply BitVec.eq_of_toNat_eq
 rw [BitVec.toNat_and,BitVec.toNat_ofInt,show (1#32).toNat=1 from rfl,Nat.and_one_is_mod]
 have h0:(0:Int)≤y%((2^32:Nat):Int):=Int.emod_nonneg _ (by omega)
 have h1:(y%((2^32:Nat):Int))%2=y%2:=by
  have:((2^32:Nat):Int)=4294967296:=rfl
  rw [this];omega
 split
 ·rename_i h
  simp only [decide_eq_true_eq] at h
  show _=1
  omega
 ·rename_i h
  simp only [decide_eq_true_eq] at h
  show _=0
  omega
theorem zKN (x:Int) {k:Nat} (hk:k<32):IntKind.wrap .u32 ((BitVec.toNat (BitVec.ofInt (IntKind.bits .u32) (Int.fdiv x (2^min k (IntKind.bits .u32)))&&&BitVec.ofInt (IntKind.bits .u32) 1):Nat):Int)=if bt x k then 1 else 0:=by
 change IntKind.wrap .u32 ((BitVec.toNat (BitVec.ofInt 32 (Int.fdiv x (2^min k 32))&&&1#32):Nat):Int)=_
 rw [zHL,Nat.min_eq_left (by omega),zQx x hk]
 split<;>rfl
end Go.Ve

namespace Go.Ve
open Go Go.Proofs Go.Bd Go.Proofs.Bw
set_option maxRecDepth 1000000
set_option maxHeartbeats 4000000
theorem zKa {γ:Type} {n:Nat} (hn:n<4611686018427387904) {g0:γ} {body:Int×γ→Option γ} {Q:γ→Prop} (J:Nat→γ→Prop) (h0:J n g0)
  (step: ∀j g,j<n→J (j+1) g→Wp (body ((j:Int),g)) (J j)) (fin: ∀g,J 0 g→Q g):
  Wp (zO (fun s:Int×γ=>bif decide (s.1≥(0:Int)) then Option.bind (body s) (fun g=>some (Sum.inl (IntKind.wrap IntKind.i64 (s.1- (1:Int)),g))) else some (Sum.inr s.2)) ((n:Int) -1,g0)) Q:=by
 refine wp_loop (fun (s:Int×γ)=> ∃j:Nat,s.1=(j:Int) -1∧j≤n∧J j s.2) (fun (s:Int×γ)=>(s.1+1).toNat) ⟨n,rfl,Nat.le_refl _,h0⟩ ?_
 rintro ⟨s,g⟩ ⟨j,hj,hle,hJ⟩
 simp only at hj
 subst hj
 refine zJ ?_ ?_
 ·intro hc
  have hc:(j:Int) -1≥0:=hc
  obtain ⟨k,rfl⟩: ∃k,j=k+1:=⟨j-1,by omega⟩
  have e:(((k+1:Nat):Int) -1)=(k:Int):=by omega
  rw [e]
  refine zB ((step k g (by omega) hJ).mono ?_)
  intro g' hg'
  refine zA (e2l ⟨⟨k,?_,by omega,hg'⟩,?_⟩)
  ·dsimp only;rw [wrap_i64 (by omega) (by omega)]
  ·dsimp only;rw [wrap_i64 (by omega) (by omega)];omega
 ·intro hc
  have hc: ¬((j:Int) -1≥0):=hc
  have:j=0:=by omega
  subst this
  exact zA (e2r (fin _ hJ))
section
variable {p:Pub} {nx i:Nat} {f g h:Int} {F G H:(Nat→Bool)→Bool} {Q:MSt×Int→Prop}
theorem zPf (hp:POk p) (hi:i+1=nx) (hf:Rp p f F) (hg:Rp p g G) (hh:Rp p h H) (K:Nat) (hw:Wd K (fun a=>if F a then G a else H a)) (hr:p.S.ns.length+220*K≤lim)
  (hq: ∀p' y,Stp p (220*K) p'→Rp p' y (fun a=>if F a then G a else H a)→Q ((nx,some p'),y)):Wp (zAW (nx,some p) (i,f,g,h,())) Q:=by
 obtain ⟨p',y,h1,h2,h3⟩:=zHS hp hf hg hh hw hr hi
 exact ⟨_,h1,hq p' y h2 h3⟩
theorem zBF (hp:POk p) (hi:i+1=nx) (hf:Rp p f F) (hg:Rp p g G) (K:Nat) (hw:Wd K (fun a=>F a&&G a)) (hr:p.S.ns.length+220*K≤lim)
  (hq: ∀p' y,Stp p (220*K) p'→Rp p' y (fun a=>F a&&G a)→Q ((nx,some p'),y)):Wp (qG (nx,some p) (i,f,g,())) Q:=by
 have e:(fun a=>if F a then G a else false)=fun a=>F a&&G a:=by funext a;cases F a<;>rfl
 obtain ⟨p',y,h1,h2,h3⟩:=zHS hp hf hg (Rp.f0 hp) (K:=K) (by rw [e];exact hw) hr hi
 rw [e] at h3
 exact ⟨_,h1,hq p' y h2 h3⟩
theorem zNy (hp:POk p) (hi:i+1=nx) (hf:Rp p f F) (hg:Rp p g G) (K:Nat) (hw:Wd K (fun a=>F a||G a)) (hr:p.S.ns.length+220*K≤lim)
  (hq: ∀p' y,Stp p (220*K) p'→Rp p' y (fun a=>F a||G a)→Q ((nx,some p'),y)):Wp (uX (nx,some p) (i,f,g,())) Q:=by
 have e:(fun a=>if F a then true else G a)=fun a=>F a||G a:=by funext a;cases F a<;>rfl
 obtain ⟨p',y,h1,h2,h3⟩:=zHS hp hf (Rp.f1 hp) hg (K:=K) (by rw [e];exact hw) hr hi
 rw [e] at h3
 exact ⟨_,h1,hq p' y h2 h3⟩
theorem zH2 (hp:POk p) (hi:i+1=nx) (hf:Rp p f F) (K:Nat) (hw:Wd K (fun a=> !F a)) (hr:p.S.ns.length+220*K≤lim)
  (hq: ∀p' y,Stp p (220*K) p'→Rp p' y (fun a=> !F a)→Q ((nx,some p'),y)):Wp (vV (nx,some p) (i,f,())) Q:=by
 have e:(fun a=>if F a then false else true)=fun a=> !F a:=by funext a;cases F a<;>rfl
 obtain ⟨p',y,h1,h2,h3⟩:=zHS hp hf (Rp.f0 hp) (Rp.f1 hp) (K:=K) (by rw [e];exact hw) hr hi
 rw [e] at h3
 exact ⟨_,h1,hq p' y h2 h3⟩
theorem zPe {v:Nat} (hp:POk p) (hi:i+1=nx) (hv:v<220) (hr:p.S.ns.length+1≤lim)
  (hq: ∀p' y,Stp p 1 p'→Rp p' y (fun a=>a v)→Q ((nx,some p'),y)):Wp (zEs (nx,some p) (i,(v:Int),())) Q:=by
 obtain ⟨p',y,h1,h2,h3⟩:=zQ4 hp hv hr hi
 exact ⟨_,h1,hq p' y h2 h3⟩
end
theorem Wd.var (v:Nat):Wd 2 (fun a=>a v):=
 ⟨fun u a=>if v<u then (a v).toNat else 0,fun u a=>by dsimp only;split<;>(cases a v<;>simp),fun u a b h=>by
  dsimp only
  split
  ·rename_i hv;rw [h v hv]
  ·rfl,fun u a b h hr=>by
  dsimp only at h
  split at h
  ·revert h;cases h1:a v<;>cases h2:b v<;>simp [h1,h2]
  ·rename_i hv;exact hr v (by omega)⟩
def fv (k i:Nat):Nat:=12+2*(ftF k+i)
theorem zPn {k i:Nat} (hk:k<5) (hi:i<wdF k):zCK ((k:Int),(i:Int),false,())=some ((fv k i:Nat):Int):=by
 show zOi k i false=_
 unfold zOi
 rw [if_pos ⟨⟨by omega,by omega⟩,by omega,by rw [Int.toNat_natCast];omega⟩]
 rfl
theorem zKY {k:Nat} (hk:k<5):uC ((k:Int),())=some ((wdF k:Nat):Int):=by
 show zGs k=_
 unfold zGs
 rw [if_pos ⟨by omega,by omega⟩]
 rfl
theorem zR6: ∀k,k<5→ ∀i,i<wdF k→fv k i<220:=by decide
theorem zG4 (q:Nat→Nat) (m:Nat) (a:Nat→Bool):Bd.bits q (m+1) a=a (q 0)::Bd.bits (fun i=>q (i+1)) m a:=by
 rw [Bd.bits,List.range_succ_eq_map,List.map_cons,List.map_map]
 rfl
def zSw (o:Option Bool) (b:Bool):Bool:=match o with
 |some c=>b==c
 |none=>true
theorem zJT (q:Nat→Option Bool) (b:Bool) (l:List Bool):fits q (b::l)=(zSw (q 0) b&&fits (fun i=>q (i+1)) l):=by
 have:=zBB q [b] l
 rw [List.singleton_append] at this
 rw [this]
 congr 1
 ·rw [fits]
  simp only [List.length_singleton,List.range_one,List.all_cons,List.all_nil,Bool.and_true,zSw]
  cases q 0 with
  |none=>rfl
  |some c=>simp
 ·simp only [List.length_singleton,Nat.add_comm]
def wq (A M:Int) (i:Nat):Option Bool:=if bt M (31-i) then none else some (bt A (31-i))
def yS (k:Nat) (A M:Int) (a:Nat→Bool):Bool:=fits (wq A M) (Bd.bits (fv k) 32 a)
theorem zNB (q:Nat→Option Bool) (k j m:Nat):Wd 2 (fun a=>fits q (Bd.bits (fun i=>fv k (i+j)) m a)):=
 (zNF (c:=0) (d:=fv k (m+j)) q (fun i i' h h'=>by unfold fv;omega) (fun i hi=>by omega) (fun i hi=>by unfold fv;omega) (by omega)).wd
def Mk (p:Pub) (nx c:Nat) (φ:(Nat→Bool)→Bool) (r:MSt×Int):Prop:= ∃p',r.1=(nx,some p')∧Stp p c p'∧Rp p' r.2 φ
theorem Mk.mono {p:Pub} {nx c d:Nat} {φ ψ:(Nat→Bool)→Bool} {r:MSt×Int} (h:Mk p nx c φ r) (hc:c≤d) (he: ∀a,φ a=ψ a):Mk p nx d ψ r:=by
 obtain ⟨p',h1,h2,h3⟩:=h
 exact ⟨p',h1,h2.mono hc,h3.congr he⟩
theorem zBN {p:Pub} {nx i:Nat} (hp:POk p) (hi:i+1=nx) {k:Nat} (hk:k<2) (A M:Int) (hr:p.S.ns.length+30000≤lim):
  Wp (jO (nx,some p) (i,(k:Int),false,(A,M,()),())) (Mk p nx 30000 (yS k A M)):=by
 have hk5:k<5:=by omega
 have hw:wdF k=32:=by
  have:k=0∨k=1:=by omega
  rcases this with rfl|rfl<;>rfl
 have hwid:uC ((k:Int),())=some (32:Int):=by rw [zKY hk5,hw];rfl
 unfold jO
 dsimp only
 refine zB (Wp.mono (Q:=fun s=>s=(false,(nx,some p))) ?_ ?_)
 ·refine zH (fun h=>zA ?_) (fun h=>zA rfl)
  have:k=1:=by
   have h:(k:Int)≠0:=by simpa using h
   omega
  subst this
  rfl
 rintro _ rfl
 simp only [cond_false,hwid,Option.bind_some]
 rw [show IntKind.wrap IntKind.i64 ((32:Int) -1)=((32:Nat):Int) -1 from by rw [wrap_i64 (by omega) (by omega)];rfl]
 have key: ∀j:Nat,j<32→IntKind.wrap IntKind.i64 (((32:Nat):Int) -1- (j:Int))=((31-j:Nat):Int):=by
  intro j hj
  rw [wrap_i64 (by omega) (by omega)]
  omega
 refine zB (Wp.mono (zKa (n:=32) (by omega) (fun j (s:Int×MSt)=> ∃p',s.2=(nx,some p')∧Stp p ((32-j)*900) p'∧Rp p' s.1 (fun a=>fits (fun i=>wq A M (i+j)) (Bd.bits (fun i=>fv k (i+j)) (32-j) a)))
  ⟨p,rfl,Stp.refl hp,(Rp.f1 hp).congr (fun a=>rfl)⟩ ?_ (Q:=Mk p nx 30000 (yS k A M)∘Prod.swap) ?_) (fun s hs=>zA hs))
 ·rintro j ⟨f,st⟩ hj ⟨p',hst,hs,hf⟩
  simp only at hst hf
  subst hst
  dsimp only
  have hlen:=hs.cnt
  have hlim:p.S.ns.length+30000≤5864062014000:=hr
  have hcons: ∀a,fits (fun i=>wq A M (i+j)) (Bd.bits (fun i=>fv k (i+j)) (32-j) a)=(zSw (wq A M j) (a (fv k j))&&fits (fun i=>wq A M (i+(j+1))) (Bd.bits (fun i=>fv k (i+(j+1))) (32- (j+1)) a)):=by
   intro a
   rw [show 32-j=(32- (j+1))+1 by omega,zG4,zJT]
   simp only [Nat.zero_add,show ∀x,x+1+j=x+(j+1) from fun x=>by omega]
  rw [key j hj]
  refine zJ (fun _=> ?_) (fun h=>absurd (by omega) h)
  simp only [Int.toNat_natCast,zKN M (show 31-j<32 by omega)]
  refine zH (fun h=>zA ?_) (fun h=> ?_)
  ·have hb:bt M (31-j)=true:=by
    revert h;cases bt M (31-j)<;>simp
   refine ⟨p',rfl,hs.mono (by omega),hf.congr (fun a=> ?_)⟩
   rw [hcons a,wq,if_pos hb]
   rfl
  ·have hb:bt M (31-j)=false:=by
    revert h;cases bt M (31-j)<;>simp
   have hq0:wq A M j=some (bt A (31-j)):=by rw [wq,hb];rfl
   refine zB (vJ (zPn hk5 (by rw [hw];exact hj)) ?_)
   refine zB (zPe hs.ok hi (zR6 k hk5 j (by rw [hw];exact hj)) (by show _≤5864062014000;omega) ?_)
   intro p1 y1 hs1 hy1
   dsimp only
   have hlen1:=hs1.cnt
   refine zB (Wp.mono (Q:=Mk p1 nx 440 (fun a=>a (fv k j)==bt A (31-j))∘Prod.swap) ?_ ?_)
   ·refine zJ (fun _=> ?_) (fun h=>absurd (by omega) h)
    simp only [zKN A (show 31-j<32 by omega)]
    refine zH (fun h'=> ?_) (fun h'=> ?_)
    ·have hb':bt A (31-j)=false:=by
      revert h';cases bt A (31-j)<;>simp
     refine zB (zH2 hs1.ok hi hy1 2 ((Wd.var _).comp not) (by show _≤5864062014000;omega) ?_)
     intro p2 y2 hs2 hy2
     exact zA ⟨p2,rfl,hs2,hy2.congr (fun a=>by rw [hb'];cases a (fv k j)<;>rfl)⟩
    ·have hb':bt A (31-j)=true:=by
      revert h';cases bt A (31-j)<;>simp
     exact zA ⟨p1,rfl,(Stp.refl hs1.ok).mono (by omega),hy1.congr (fun a=>by rw [hb'];cases a (fv k j)<;>rfl)⟩
   ·rintro ⟨y2,st2⟩ ⟨p2,hst2,hs2,hy2⟩
    simp only [Function.comp,Prod.swap] at hst2 hy2
    subst hst2
    have hlen2:=hs2.cnt
    have hf2:Rp p2 f (fun a=>fits (fun i=>wq A M (i+(j+1))) (Bd.bits (fun i=>fv k (i+(j+1))) (32- (j+1)) a)):=(hf.step hs.ok hs1).step hs1.ok hs2
    have hfun:(fun a=>(a (fv k j)==bt A (31-j))&&fits (fun i=>wq A M (i+(j+1))) (Bd.bits (fun i=>fv k (i+(j+1))) (32- (j+1)) a))=fun a=>fits (fun i=>wq A M (i+j)) (Bd.bits (fun i=>fv k (i+j)) (32-j) a):=by
     funext a
     rw [hcons a,hq0]
     rfl
    refine zB (zBF hs2.ok hi hy2 hf2 2 (by rw [hfun];exact zNB _ k j _) (by show _≤5864062014000;omega) ?_)
    intro p3 y3 hs3 hy3
    rw [hfun] at hy3
    exact zA ⟨p3,rfl,((hs.trans hs1).trans hs2).trans hs3|>.mono (by omega),hy3⟩
 ·rintro ⟨f,st⟩ ⟨p',hst,hs,hf⟩
  simp only at hst
  subst hst
  exact ⟨p',rfl,hs.mono (by omega),hf⟩
def zE1 (x:Ty.El zI) (a:Nat→Bool):Bool:=yS 1 x.1 ((BitVec.allOnes 32^^^zAH (kK x.2.1)).toNat:Int) a
theorem zLg {p:Pub} {nx i:Nat} (hp:POk p) (hi:i+1=nx) (x:Ty.El zI) (hx:zH5 x=true) (hr:p.S.ns.length+30000≤lim):
  Wp (jA (nx,some p) (i,(1:Int),false,x,())) (Mk p nx 30000 (zE1 x)):=by
 unfold jA
 dsimp only
 refine zB (vJ (zC7 x) ?_)
 rw [hx]
 refine zB (vJ (yW _) ?_)
 have e:IntKind.wrap IntKind.u32 ((BitVec.toNat (BitVec.ofInt (IntKind.bits IntKind.u32) (if IntKind.signed IntKind.u32=true then (-1:Int) else IntKind.max IntKind.u32)^^^BitVec.ofInt (IntKind.bits IntKind.u32) ((zAH (kK x.2.1)).toNat:Int)):Nat):Int)=((BitVec.allOnes 32^^^zAH (kK x.2.1)).toNat:Int):=by
  change IntKind.wrap IntKind.u32 ((BitVec.toNat (BitVec.ofInt 32 (IntKind.max IntKind.u32)^^^BitVec.ofInt 32 ((zAH (kK x.2.1)).toNat:Int)):Nat):Int)=_
  rw [zIA,zHL]
  rfl
 rw [e]
 refine zB ((zBN (k:=1) hp hi (by omega) x.1 _ hr).mono ?_)
 rintro ⟨st,y⟩ h
 exact zA h
end Go.Ve
