/-
  law31: the checks of a router, rules of access lists, out of code.
  law31: contracts of the checks.
  law31: the laws on rules, out of code.
  law31: contracts of the laws on rules.
  law31, plain: the checks of a router always answer.
  law31, plain: what a checked router's access lists are.
-/
import Derived.Test.YtaidmnnejapafaaDoorXu19
import Derived.Test.YtaidmnnejapafaaDoorXu20
set_option linter.unusedVariables false
namespace Go.Ve
open Go Go.Proofs Go.Bd Go.Proofs.Bw
noncomputable def zA3:ElS [(.int .u8)]→Option (RTy.El (.p .bool)):=fun x=>match x with
 |(a1,())=>
  Option.bind
   (bif decide ((65:Int)≤a1) then bif decide (a1≤(90:Int)) then some true else bif decide ((97:Int)≤a1) then some (decide (a1≤(122:Int))) else some false
   else bif decide ((97:Int)≤a1) then some (decide (a1≤(122:Int))) else some false)
   fun (s0:Bool)=>some s0
noncomputable def scan_digit:ElS [(.int .u8)]→Option (RTy.El (.p .bool)):=fun x=>match x with
 |(a1,())=>
  Option.bind (bif decide ((48:Int)≤a1) then some (decide (a1≤(57:Int))) else some false) fun (s0:Bool)=>some s0
noncomputable def xL:ElS [.str]→Option (RTy.El (.p .bool)):=fun x=>match x with
 |(a1,())=>
  Option.bind
   (bif decide ((↑(ByteArray.size a1):Int)< (1:Int)) then some true
   else
    bif decide ((↑(ByteArray.size a1):Int)>(15:Int)) then some true
    else Option.bind (byteAt a1 (0:Int)) fun (y2:Int)=>Option.bind (zA3 (y2,())) fun (y3:Bool)=>some !y3)
   fun (s4:Bool)=>
   bif s4 then some false
   else
    kB
     (zK
      (fun (s17:Int)=>
       bif decide (s17< (↑(ByteArray.size a1):Int)) then
        Option.bind (byteAt a1 s17) fun (y18:Int)=>
         Option.bind
          (Option.bind (zA3 (y18,())) fun (y19:Bool)=>
           bif !y19 then
            Option.bind (scan_digit (y18,())) fun (y20:Bool)=>
             bif !y20 then
              bif y18 !=(45:Int) then bif y18 !=(95:Int) then bif y18 !=(47:Int) then some (y18 !=(46:Int)) else some false else some false else some false
             else some false
           else some false)
          fun (s21:Bool)=>bif s21 then some (Sum.inr (Sum.inr false)) else some (Sum.inl (IntKind.wrap IntKind.i64 (s17+(1:Int))))
       else some (Sum.inr (Sum.inl ())))
      (1:Int))
     fun (s22:Unit)=>some true
noncomputable def zG:ElS [tI,tI,tI]→Option (RTy.El (.p .bool)):=fun x=>match x with
 |(a1,a2,a3,())=>
  Option.bind (bif decide (a2≤a1) then some (decide (a1≤a3)) else some false) fun (s0:Bool)=>some s0
noncomputable def xF:ElA [.d vI, .pp .str]→Option (RTy.El (.p .bool)):=fun x=>match x with
 |(a1,a2,())=>
  some (a1.1==a2)
noncomputable def jK:ElA [.d (.sl vI), .clo 108 [(true, .str)]]→Option (RTy.El (.p tI)):=fun x=>match x with
 |(a1,(a2,()),())=>
  kB
   (zK
    (fun (s6:Int)=>
     bif decide (s6< (↑(List.length a1):Int)) then
      Option.bind (idx a1 s6) fun (y7:Ty.El vI)=>
       Option.bind (xF (y7,a2,())) fun (y8:Bool)=>bif y8 then some (Sum.inr (Sum.inr s6)) else some (Sum.inl (IntKind.wrap IntKind.i64 (s6+(1:Int))))
     else some (Sum.inr (Sum.inl ())))
    (0:Int))
   fun (s9:Unit)=>some (-1:Int)
noncomputable def kN:ElA [.d vI, .pp tU]→Option (RTy.El (.p .bool)):=fun x=>match x with
 |(a1,a2,())=>
  Option.bind (bif a1.2.2.1 !=(0:Int) then some (a1.2.1==a2) else some false) fun (s0:Bool)=>some s0
noncomputable def jJ:ElA [.d (.sl vI), .clo 119 [(true,tU)]]→Option (RTy.El (.p tI)):=fun x=>match x with
 |(a1,(a2,()),())=>
  kB
   (zK
    (fun (s6:Int)=>
     bif decide (s6< (↑(List.length a1):Int)) then
      Option.bind (idx a1 s6) fun (y7:Ty.El vI)=>
       Option.bind (kN (y7,a2,())) fun (y8:Bool)=>bif y8 then some (Sum.inr (Sum.inr s6)) else some (Sum.inl (IntKind.wrap IntKind.i64 (s6+(1:Int))))
     else some (Sum.inr (Sum.inl ())))
    (0:Int))
   fun (s9:Unit)=>some (-1:Int)
noncomputable def vJ:ElS [zH, .str]→Option (RTy.El (.p tI)):=fun x=>match x with
 |(a1,a2,())=>
  Option.bind (jK (a1.2.2.1,(a2,()),())) fun (y0:Int)=>some y0
noncomputable def vO:ElS [vI]→Option (RTy.El (.p .bool)):=fun x=>match x with
 |(a1,())=>
  Option.bind
   (Option.bind (zG (a1.2.2.1,(0:Int),(32:Int),())) fun (y3:Bool)=>
    bif !y3 then some true
    else
     Option.bind (zG (a1.2.2.2.1,(0:Int),(4094:Int),())) fun (y4:Bool)=>
      bif !y4 then some true else Option.bind (zG (a1.2.2.2.2.2.2.2.2.2.2.2.1,(0:Int),(2:Int),())) fun (y5:Bool)=>some !y5)
   fun (s6:Bool)=>
   bif s6 then some false
   else
    Option.bind
     (bif a1.2.2.1==(0:Int) then
      bif a1.2.1 !=(0:Int) then some true
      else
       bif a1.2.2.2.1 !=(0:Int) then some true
       else
        bif a1.2.2.2.2.2.2.2.2.2.2.2.1 !=(0:Int) then some true
        else
         bif a1.2.2.2.2.2.1 then some true
         else
          bif a1.2.2.2.2.2.2.2.2.1 then some true
          else bif a1.2.2.2.2.2.2.2.2.2.1 != { data:= #[] } then some true else some (a1.2.2.2.2.2.2.2.2.2.2.1 != { data:= #[] })
     else some false)
     fun (s7:Bool)=>
     bif s7 then some false
     else
      Option.bind (bif a1.2.2.1 !=(0:Int) then some (a1.2.1==(0:Int)) else some false) fun (s8:Bool)=>
       bif s8 then some false
       else
        bif a1.2.2.2.2.2.1 then
         Option.bind
          (Option.bind (zG (a1.2.2.2.2.2.2.1,(0:Int),(255:Int),())) fun (y11:Bool)=>
           bif y11 then Option.bind (zG (a1.2.2.2.2.2.2.2.1,(1:Int),(65535:Int),())) fun (y12:Bool)=>some y12 else some false)
          fun (s13:Bool)=>some s13
        else
         Option.bind (bif a1.2.2.2.2.2.2.1==(0:Int) then some (a1.2.2.2.2.2.2.2.1==(0:Int)) else some false) fun (s14:Bool)=>some s14
noncomputable def zAx:ElS [tU,tI]→Option (RTy.El (.p zJ)):=fun x=>match x with
 |(a1,a2,())=>
  Option.bind (xW (a2,())) fun (y0:Int)=>
   Option.bind (zB8 (a2,())) fun (y1:Int)=>
    some (IntKind.wrap IntKind.u32 (↑(BitVec.toNat (BitVec.ofInt (IntKind.bits IntKind.u32) a1&&&BitVec.ofInt (IntKind.bits IntKind.u32) y0)):Int),y1,())
noncomputable def zBe:ElS [zJ,zJ]→Option (RTy.El (.p .bool)):=fun x=>match x with
 |(a1,a2,())=>
  Option.bind (bif decide (a1.2.1≤a2.2.1) then Option.bind (uK (a1,a2.1,())) fun (y1:Bool)=>some y1 else some false) fun (s2:Bool)=>some s2
noncomputable def yU:ElS [zJ,zJ]→Option (RTy.El (.p .bool)):=fun x=>match x with
 |(a1,a2,())=>
  Option.bind (Option.bind (zBe (a1,a2,())) fun (y2:Bool)=>bif y2 then some true else Option.bind (zBe (a2,a1,())) fun (y3:Bool)=>some y3)
   fun (s4:Bool)=>some s4
noncomputable def vE:ElS [zH]→Option (RTy.El (.p tI)):=fun x=>match x with
 |(a1,())=>
  bif decide ((↑(List.length a1.2.2.1):Int)>(8:Int)) then some (7:Int)
  else
   kB
    (zK
     (fun (s49:Int)=>
      bif decide (s49< (↑(List.length a1.2.2.1):Int)) then
       kB
        (Option.bind (idx a1.2.2.1 s49) fun (y50:Ty.El vI)=>
         Option.bind (xL (y50.1,())) fun (y51:Bool)=>
          bif !y51 then some (Sum.inr (Sum.inr (Sum.inr (3:Int))))
          else
           Option.bind (vJ (a1,y50.1,())) fun (y52:Int)=>
            bif decide (y52<s49) then some (Sum.inr (Sum.inr (Sum.inr (4:Int))))
            else
             Option.bind (vO (y50,())) fun (y53:Bool)=>
              bif !y53 then some (Sum.inr (Sum.inr (Sum.inr (1:Int))))
              else
               Option.bind (sub a1.2.2.1 (0:Int) s49) fun (y54:List (Ty.El vI))=>
                zK
                 (fun (s55:Int)=>
                  bif decide (s55< (↑(List.length y54):Int)) then
                   Option.bind (idx y54 s55) fun (y56:Ty.El vI)=>
                    Option.bind
                     (bif y50.2.2.1 !=(0:Int) then
                      bif y56.2.2.1 !=(0:Int) then
                       Option.bind (zAx (y50.2.1,y50.2.2.1,())) fun (y57:Int×Int×Unit)=>
                        Option.bind (zAx (y56.2.1,y56.2.2.1,())) fun (y58:Int×Int×Unit)=>
                         Option.bind (yU (y57,y58,())) fun (y59:Bool)=>some y59
                      else some false
                     else some false)
                     fun (s60:Bool)=>
                     bif s60 then some (Sum.inr (Sum.inr (Sum.inr (Sum.inr (6:Int))))) else some (Sum.inl (IntKind.wrap IntKind.i64 (s55+(1:Int))))
                  else some (Sum.inr (Sum.inl ())))
                 (0:Int))
        fun (s61:Unit)=>some (Sum.inl (IntKind.wrap IntKind.i64 (s49+(1:Int))))
      else some (Sum.inr (Sum.inl ())))
     (0:Int))
    fun (s62:Unit)=>some (0:Int)
noncomputable def yK:ElA [.d zDv, .pp .str]→Option (RTy.El (.p .bool)):=fun x=>match x with
 |(a1,a2,())=>
  some (a1.1==a2)
noncomputable def jG:ElA [.d (.sl zDv), .clo 111 [(true, .str)]]→Option (RTy.El (.p tI)):=fun x=>match x with
 |(a1,(a2,()),())=>
  kB
   (zK
    (fun (s6:Int)=>
     bif decide (s6< (↑(List.length a1):Int)) then
      Option.bind (idx a1 s6) fun (y7:Ty.El zDv)=>
       Option.bind (yK (y7,a2,())) fun (y8:Bool)=>bif y8 then some (Sum.inr (Sum.inr s6)) else some (Sum.inl (IntKind.wrap IntKind.i64 (s6+(1:Int))))
     else some (Sum.inr (Sum.inl ())))
    (0:Int))
   fun (s9:Unit)=>some (-1:Int)
noncomputable def qT:ElS [zH, .str]→Option (RTy.El (.p tI)):=fun x=>match x with
 |(a1,a2,())=>
  Option.bind (jG (a1.2.2.2.1,(a2,()),())) fun (y0:Int)=>some y0
noncomputable def wH:ElS [tI,tI, .str,tI,tI]→Option (RTy.El (.p tI)):=fun x=>match x with
 |(a1,a2,a3,a4,a5,())=>
  Option.bind (xL (a3,())) fun (y0:Bool)=>
   bif !y0 then some (3:Int)
   else bif decide (a2<a1) then some (4:Int) else bif a4==(0:Int) then some (1:Int) else bif decide (a4>a5) then some (7:Int) else some (0:Int)
noncomputable def wQ:ElS [zH]→Option (RTy.El (.p tI)):=fun x=>match x with
 |(a1,())=>
  bif decide ((↑(List.length a1.2.2.2.1):Int)>(8:Int)) then some (7:Int)
  else
   kB
    (zK
     (fun (s32:Int)=>
      bif decide (s32< (↑(List.length a1.2.2.2.1):Int)) then
       kB
        (Option.bind (idx a1.2.2.2.1 s32) fun (y33:Ty.El zDv)=>
         Option.bind (qT (a1,y33.1,())) fun (y34:Int)=>
          Option.bind (wH (s32,y34,y33.1,(↑(List.length y33.2.1):Int),(16:Int),())) fun (y35:Int)=>
           bif y35 !=(0:Int) then some (Sum.inr (Sum.inr (Sum.inr y35)))
           else
            zK
             (fun (s36:Int)=>
              bif decide (s36< (↑(List.length y33.2.1):Int)) then
               Option.bind (idx y33.2.1 s36) fun (y37:Ty.El zRt)=>
                Option.bind
                 (Option.bind (jW (y37.2.1,())) fun (y38:Bool)=>
                  bif !y38 then some true
                  else
                   bif decide (y37.2.2.1<y37.2.1.2.1) then some true
                   else bif decide (y37.2.2.2.1<y37.2.2.1) then some true else some (decide (y37.2.2.2.1>(32:Int))))
                 fun (s39:Bool)=>
                 bif s39 then some (Sum.inr (Sum.inr (Sum.inr (Sum.inr (1:Int))))) else some (Sum.inl (IntKind.wrap IntKind.i64 (s36+(1:Int))))
              else some (Sum.inr (Sum.inl ())))
             (0:Int))
        fun (s40:Unit)=>some (Sum.inl (IntKind.wrap IntKind.i64 (s32+(1:Int))))
      else some (Sum.inr (Sum.inl ())))
     (0:Int))
    fun (s41:Unit)=>some (0:Int)
noncomputable def zAk:ElA [.d zHd, .pp .str]→Option (RTy.El (.p .bool)):=fun x=>match x with
 |(a1,a2,())=>
  some (a1.1==a2)
noncomputable def jQ:ElA [.d (.sl zHd), .clo 113 [(true, .str)]]→Option (RTy.El (.p tI)):=fun x=>match x with
 |(a1,(a2,()),())=>
  kB
   (zK
    (fun (s6:Int)=>
     bif decide (s6< (↑(List.length a1):Int)) then
      Option.bind (idx a1 s6) fun (y7:Ty.El zHd)=>
       Option.bind (zAk (y7,a2,())) fun (y8:Bool)=>bif y8 then some (Sum.inr (Sum.inr s6)) else some (Sum.inl (IntKind.wrap IntKind.i64 (s6+(1:Int))))
     else some (Sum.inr (Sum.inl ())))
    (0:Int))
   fun (s9:Unit)=>some (-1:Int)
noncomputable def jL:ElS [zH, .str]→Option (RTy.El (.p tI)):=fun x=>match x with
 |(a1,a2,())=>
  Option.bind (jQ (a1.2.2.2.2.1,(a2,()),())) fun (y0:Int)=>some y0
noncomputable def uP:ElS [zHe]→Option (RTy.El (.p .bool)):=fun x=>match x with
 |(a1,())=>
  Option.bind
   (Option.bind (zG (a1.2.2.1,(-1:Int),(65535:Int),())) fun (y5:Bool)=>
    bif y5 then
     Option.bind (zG (a1.2.2.2.1,(-1:Int),(16777215:Int),())) fun (y6:Bool)=>
      bif y6 then
       Option.bind (zG (a1.2.2.2.2.1,(-1:Int),(65535:Int),())) fun (y7:Bool)=>
        bif y7 then
         Option.bind (zG (a1.2.2.2.2.2.1,(-1:Int),(1000000:Int),())) fun (y8:Bool)=>
          bif y8 then Option.bind (zG (a1.2.2.2.2.2.2.1,(0:Int),(8:Int),())) fun (y9:Bool)=>some y9 else some false
        else some false
      else some false
    else some false)
   fun (s10:Bool)=>some s10
noncomputable def vP:ElS [zH]→Option (RTy.El (.p tI)):=fun x=>match x with
 |(a1,())=>
  bif decide ((↑(List.length a1.2.2.2.2.1):Int)>(8:Int)) then some (7:Int)
  else
   kB
    (zK
     (fun (s36:Int)=>
      bif decide (s36< (↑(List.length a1.2.2.2.2.1):Int)) then
       kB
        (Option.bind (idx a1.2.2.2.2.1 s36) fun (y37:Ty.El zHd)=>
         Option.bind (jL (a1,y37.1,())) fun (y38:Int)=>
          Option.bind (wH (s36,y38,y37.1,(↑(List.length y37.2.1):Int),(8:Int),())) fun (y39:Int)=>
           bif y39 !=(0:Int) then some (Sum.inr (Sum.inr (Sum.inr y39)))
           else
            zK
             (fun (s40:Int)=>
              bif decide (s40< (↑(List.length y37.2.1):Int)) then
               Option.bind (idx y37.2.1 s40) fun (y41:Ty.El zHe)=>
                Option.bind
                 (bif y41.2.1 != { data:= #[] } then Option.bind (qT (a1,y41.2.1,())) fun (y42:Int)=>some (decide (y42< (0:Int)))
                 else some false)
                 fun (s43:Bool)=>
                 bif s43 then some (Sum.inr (Sum.inr (Sum.inr (Sum.inr (5:Int)))))
                 else
                  Option.bind (uP (y41,())) fun (y44:Bool)=>
                   bif !y44 then some (Sum.inr (Sum.inr (Sum.inr (Sum.inr (1:Int))))) else some (Sum.inl (IntKind.wrap IntKind.i64 (s40+(1:Int))))
              else some (Sum.inr (Sum.inl ())))
             (0:Int))
        fun (s45:Unit)=>some (Sum.inl (IntKind.wrap IntKind.i64 (s36+(1:Int))))
      else some (Sum.inr (Sum.inl ())))
     (0:Int))
    fun (s46:Unit)=>some (0:Int)
noncomputable def zDK:ElA [.d zI8, .pp .str]→Option (RTy.El (.p .bool)):=fun x=>match x with
 |(a1,a2,())=>
  some (a1.1==a2)
noncomputable def w7:ElA [.d (.sl zI8), .clo 98 [(true, .str)]]→Option (RTy.El (.p tI)):=fun x=>match x with
 |(a1,(a2,()),())=>
  kB
   (zK
    (fun (s6:Int)=>
     bif decide (s6< (↑(List.length a1):Int)) then
      Option.bind (idx a1 s6) fun (y7:Ty.El zI8)=>
       Option.bind (zDK (y7,a2,())) fun (y8:Bool)=>bif y8 then some (Sum.inr (Sum.inr s6)) else some (Sum.inl (IntKind.wrap IntKind.i64 (s6+(1:Int))))
     else some (Sum.inr (Sum.inl ())))
    (0:Int))
   fun (s9:Unit)=>some (-1:Int)
noncomputable def u5:ElS [zH, .str]→Option (RTy.El (.p tI)):=fun x=>match x with
 |(a1,a2,())=>
  Option.bind (w7 (a1.2.2.2.2.2.1,(a2,()),())) fun (y0:Int)=>some y0
noncomputable def kM:ElS [uM]→Option (RTy.El (.p .bool)):=fun x=>match x with
 |(a1,())=>
  Option.bind (bif decide ((0:Int)≤a1.1) then bif decide (a1.1≤a1.2.1) then some (decide (a1.2.1≤(65535:Int))) else some false else some false)
   fun (s0:Bool)=>some s0
noncomputable def yW:ElS [qV]→Option (RTy.El (.p .bool)):=fun x=>match x with
 |(a1,())=>
  Option.bind
   (Option.bind (zG (a1.2.1,(-1:Int),(255:Int),())) fun (y1:Bool)=>
    bif !y1 then some true
    else
     bif
       IntKind.wrap IntKind.u32
         (↑(BitVec.toNat (BitVec.ofInt (IntKind.bits IntKind.u32) a1.2.2.1.1&&&BitVec.ofInt (IntKind.bits IntKind.u32) a1.2.2.1.2.1)):Int) !=
        (0:Int) then
      some true
     else
      some
       (IntKind.wrap IntKind.u32
         (↑(BitVec.toNat (BitVec.ofInt (IntKind.bits IntKind.u32) a1.2.2.2.1.1&&&BitVec.ofInt (IntKind.bits IntKind.u32) a1.2.2.2.1.2.1)):Int) !=
        (0:Int)))
   fun (s2:Bool)=>
   bif s2 then some false
   else
    Option.bind
     (Option.bind (kM (a1.2.2.2.2.1,())) fun (y5:Bool)=>
      bif !y5 then some true else Option.bind (kM (a1.2.2.2.2.2.1,())) fun (y6:Bool)=>some !y6)
     fun (s7:Bool)=>
     bif s7 then some false
     else
      Option.bind
       (bif a1.2.1==(6:Int) then some true
       else
        bif a1.2.1==(17:Int) then some true
        else
         bif a1.2.2.2.2.1.1==(0:Int)&&(a1.2.2.2.2.1.2.1==(65535:Int)&&true) then
          some (a1.2.2.2.2.2.1.1==(0:Int)&&(a1.2.2.2.2.2.1.2.1==(65535:Int)&&true))
         else some false)
       fun (s8:Bool)=>some s8
noncomputable def yX:ElS [zH]→Option (RTy.El (.p tI)):=fun x=>match x with
 |(a1,())=>
  bif decide ((↑(List.length a1.2.2.2.2.2.1):Int)>(8:Int)) then some (7:Int)
  else
   kB
    (zK
     (fun (s27:Int)=>
      bif decide (s27< (↑(List.length a1.2.2.2.2.2.1):Int)) then
       kB
        (Option.bind (idx a1.2.2.2.2.2.1 s27) fun (y28:Ty.El zI8)=>
         Option.bind (u5 (a1,y28.1,())) fun (y29:Int)=>
          Option.bind (wH (s27,y29,y28.1,(↑(List.length y28.2.1):Int),(16:Int),())) fun (y30:Int)=>
           bif y30 !=(0:Int) then some (Sum.inr (Sum.inr (Sum.inr y30)))
           else
            zK
             (fun (s31:Int)=>
              bif decide (s31< (↑(List.length y28.2.1):Int)) then
               Option.bind (idx y28.2.1 s31) fun (y32:Ty.El qV)=>
                Option.bind (yW (y32,())) fun (y33:Bool)=>
                 bif !y33 then some (Sum.inr (Sum.inr (Sum.inr (Sum.inr (1:Int))))) else some (Sum.inl (IntKind.wrap IntKind.i64 (s31+(1:Int))))
              else some (Sum.inr (Sum.inl ())))
             (0:Int))
        fun (s34:Unit)=>some (Sum.inl (IntKind.wrap IntKind.i64 (s27+(1:Int))))
      else some (Sum.inr (Sum.inl ())))
     (0:Int))
    fun (s35:Unit)=>some (0:Int)
noncomputable def wP:ElS [zRu]→Option (RTy.El (.p .bool)):=fun x=>match x with
 |(a1,())=>
  bif a1.1==(1:Int) then
   Option.bind
    (bif
      a1.1==a1.1&&
       (a1.2.1==a1.2.1&&
        (a1.2.2.1==a1.2.2.1&&
         (a1.2.2.2.1==(0:Int)&&
          (a1.2.2.2.2.1==(0:Int)&&
           (a1.2.2.2.2.2.1==(0:Int)&&
            (a1.2.2.2.2.2.2.1== { data:= #[] } &&
             (a1.2.2.2.2.2.2.2.1==(0:Int)&&(a1.2.2.2.2.2.2.2.2.1==(0:Int)&&true)))))))) then
     bif a1.2.1 !=(0:Int) then some (a1.2.2.1 !=(0:Int)) else some false
    else some false)
    fun (s0:Bool)=>some s0
  else
   bif a1.1==(2:Int) then
    Option.bind
     (bif
       a1.1==a1.1&&
        (a1.2.1==(0:Int)&&
         (a1.2.2.1==(0:Int)&&
          (a1.2.2.2.1==(0:Int)&&
           (a1.2.2.2.2.1==(0:Int)&&
            (a1.2.2.2.2.2.1==(0:Int)&&
             (a1.2.2.2.2.2.2.1==a1.2.2.2.2.2.2.1&&
              (a1.2.2.2.2.2.2.2.1==a1.2.2.2.2.2.2.2.1&&
               (a1.2.2.2.2.2.2.2.2.1==a1.2.2.2.2.2.2.2.2.1&&true)))))))) then
      bif a1.2.2.2.2.2.2.2.1 !=(0:Int) then
       bif decide (a1.2.2.2.2.2.2.2.1≤a1.2.2.2.2.2.2.2.2.1) then
        some (decide (IntKind.wrap IntKind.u32 (a1.2.2.2.2.2.2.2.2.1-a1.2.2.2.2.2.2.2.1)< (8:Int)))
       else some false
      else some false
     else some false)
     fun (s1:Bool)=>some s1
   else
    bif a1.1==(3:Int) then
     Option.bind
      (bif a1.2.1 !=(0:Int) then
       bif a1.2.2.1 !=(0:Int) then
        bif a1.2.2.2.1==(6:Int) then
         Option.bind (zG (a1.2.2.2.2.1,(0:Int),(65535:Int),())) fun (y6:Bool)=>
          bif y6 then
           Option.bind (zG (a1.2.2.2.2.2.1,(0:Int),(65535:Int),())) fun (y7:Bool)=>
            bif y7 then
             bif a1.2.2.2.2.2.2.1== { data:= #[] } then
              bif a1.2.2.2.2.2.2.2.1==(0:Int) then some (a1.2.2.2.2.2.2.2.2.1==(0:Int)) else some false
             else some false
            else some false
          else some false
        else
         bif a1.2.2.2.1==(17:Int) then
          Option.bind (zG (a1.2.2.2.2.1,(0:Int),(65535:Int),())) fun (y8:Bool)=>
           bif y8 then
            Option.bind (zG (a1.2.2.2.2.2.1,(0:Int),(65535:Int),())) fun (y9:Bool)=>
             bif y9 then
              bif a1.2.2.2.2.2.2.1== { data:= #[] } then
               bif a1.2.2.2.2.2.2.2.1==(0:Int) then some (a1.2.2.2.2.2.2.2.2.1==(0:Int)) else some false
              else some false
             else some false
           else some false
         else some false
       else some false
      else some false)
      fun (s10:Bool)=>some s10
    else some false
noncomputable def zAj:ElS [zH]→Option (RTy.El (.p tI)):=fun x=>match x with
 |(a1,())=>
  bif decide ((↑(List.length a1.2.2.2.2.2.2.1):Int)>(8:Int)) then some (7:Int)
  else
   kB
    (zK
     (fun (s11:Int)=>
      bif decide (s11< (↑(List.length a1.2.2.2.2.2.2.1):Int)) then
       Option.bind (idx a1.2.2.2.2.2.2.1 s11) fun (y12:Ty.El zRu)=>
        Option.bind (wP (y12,())) fun (y13:Bool)=>
         bif !y13 then some (Sum.inr (Sum.inr (1:Int)))
         else
          Option.bind
           (bif y12.1==(2:Int) then Option.bind (u5 (a1,y12.2.2.2.2.2.2.1,())) fun (y14:Int)=>some (decide (y14< (0:Int)))
           else some false)
           fun (s15:Bool)=>bif s15 then some (Sum.inr (Sum.inr (5:Int))) else some (Sum.inl (IntKind.wrap IntKind.i64 (s11+(1:Int))))
      else some (Sum.inr (Sum.inl ())))
     (0:Int))
    fun (s16:Unit)=>some (0:Int)
noncomputable def uB:ElS [zH]→Option (RTy.El (.p tI)):=fun x=>match x with
 |(a1,())=>
  kB
   (zK
    (fun (s15:Int)=>
     bif decide (s15< (↑(List.length a1.2.2.1):Int)) then
      Option.bind (idx a1.2.2.1 s15) fun (y16:Ty.El vI)=>
       Option.bind
        (bif y16.2.2.2.2.2.2.2.2.2.1 != { data:= #[] } then
         Option.bind (u5 (a1,y16.2.2.2.2.2.2.2.2.2.1,())) fun (y17:Int)=>
          bif decide (y17< (0:Int)) then some true
          else
           bif y16.2.2.2.2.2.2.2.2.2.2.1 != { data:= #[] } then
            Option.bind (u5 (a1,y16.2.2.2.2.2.2.2.2.2.2.1,())) fun (y18:Int)=>some (decide (y18< (0:Int)))
           else some false
        else
         bif y16.2.2.2.2.2.2.2.2.2.2.1 != { data:= #[] } then
          Option.bind (u5 (a1,y16.2.2.2.2.2.2.2.2.2.2.1,())) fun (y19:Int)=>some (decide (y19< (0:Int)))
         else some false)
        fun (s20:Bool)=>bif s20 then some (Sum.inr (Sum.inr (5:Int))) else some (Sum.inl (IntKind.wrap IntKind.i64 (s15+(1:Int))))
     else some (Sum.inr (Sum.inl ())))
    (0:Int))
   fun (s21:Unit)=>some (0:Int)
noncomputable def zAW:ElS [zH,tU]→Option (RTy.El (.p tI)):=fun x=>match x with
 |(a1,a2,())=>
  Option.bind (jJ (a1.2.2.1,(a2,()),())) fun (y0:Int)=>some y0
noncomputable def uO:ElS [zH,zDu]→Option (RTy.El (.p .bool)):=fun x=>match x with
 |(a1,a2,())=>
  Option.bind
   (zK
    (fun (s7:Int×Int)=>
     bif decide (s7.1< (↑(List.length [a2.2.1 !=(0:Int),a2.2.2.1 != { data:= #[] },a2.2.2.2.1]):Int)) then
      Option.bind
       (Option.bind (idx [a2.2.1 !=(0:Int),a2.2.2.1 != { data:= #[] },a2.2.2.2.1] s7.1) fun (y8:Bool)=>
        bif y8 then some (IntKind.wrap IntKind.i64 (s7.2+(1:Int))) else some s7.2)
       fun (s9:Int)=>some (Sum.inl (IntKind.wrap IntKind.i64 (s7.1+(1:Int)),s9))
     else some (Sum.inr s7.2))
    ((0:Int),(0:Int)))
   fun (s10:Int)=>
   Option.bind
    (Option.bind (jW (a2.1,())) fun (y17:Bool)=>
     bif y17 then
      bif s10==(1:Int) then
       bif a2.2.1==(0:Int) then
        Option.bind (zG (a2.2.2.2.2.1,(1:Int),(255:Int),())) fun (y18:Bool)=>
         bif y18 then Option.bind (zG (a2.2.2.2.2.2.1,(0:Int),(65535:Int),())) fun (y19:Bool)=>some y19 else some false
       else
        Option.bind (zAW (a1,a2.2.1,())) fun (y20:Int)=>
         bif decide (y20< (0:Int)) then
          Option.bind (zG (a2.2.2.2.2.1,(1:Int),(255:Int),())) fun (y21:Bool)=>
           bif y21 then Option.bind (zG (a2.2.2.2.2.2.1,(0:Int),(65535:Int),())) fun (y22:Bool)=>some y22 else some false
         else some false
      else some false
     else some false)
    fun (s23:Bool)=>some s23
noncomputable def kZ:ElS [zH]→Option (RTy.El (.p tI)):=fun x=>match x with
 |(a1,())=>
  bif decide ((↑(List.length a1.2.2.2.2.2.2.2.1):Int)>(16:Int)) then some (7:Int)
  else
   kB
    (zK
     (fun (s36:Int)=>
      bif decide (s36< (↑(List.length a1.2.2.2.2.2.2.2.1):Int)) then
       kB
        (Option.bind (idx a1.2.2.2.2.2.2.2.1 s36) fun (y37:Ty.El zDu)=>
         Option.bind (uO (a1,y37,())) fun (y38:Bool)=>
          bif !y38 then some (Sum.inr (Sum.inr (Sum.inr (1:Int))))
          else
           kB
            (bif y37.2.2.1 != { data:= #[] } then
             Option.bind (vJ (a1,y37.2.2.1,())) fun (y39:Int)=>
              bif decide (y39< (0:Int)) then some (Sum.inr (Sum.inr (Sum.inr (Sum.inr (5:Int)))))
              else
               Option.bind (idx a1.2.2.1 y39) fun (y40:Ty.El vI)=>
                bif y40.2.2.1==(0:Int) then some (Sum.inr (Sum.inr (Sum.inr (Sum.inr (1:Int))))) else some (Sum.inl ())
            else some (Sum.inl ()))
            fun (s41:Unit)=>
            Option.bind (sub a1.2.2.2.2.2.2.2.1 (0:Int) s36) fun (y42:List (Ty.El zDu))=>
             zK
              (fun (s43:Int)=>
               bif decide (s43< (↑(List.length y42):Int)) then
                Option.bind (idx y42 s43) fun (y44:Ty.El zDu)=>
                 Option.bind
                  (bif y44.1.1==y37.1.1&&(y44.1.2.1==y37.1.2.1&&true) then some (y44.2.2.2.2.1==y37.2.2.2.2.1)
                  else some false)
                  fun (s45:Bool)=>
                  bif s45 then some (Sum.inr (Sum.inr (Sum.inr (Sum.inr (6:Int))))) else some (Sum.inl (IntKind.wrap IntKind.i64 (s43+(1:Int))))
               else some (Sum.inr (Sum.inl ())))
              (0:Int))
        fun (s46:Unit)=>some (Sum.inl (IntKind.wrap IntKind.i64 (s36+(1:Int))))
      else some (Sum.inr (Sum.inl ())))
     (0:Int))
    fun (s47:Unit)=>some (0:Int)
noncomputable def wC:ElS [zH,(.sl zBt),tI,tI,tI,tI]→Option (RTy.El (.p tI)):=fun x=>match x with
 |(a1,a2,a3,a4,a5,a6,())=>
  bif decide ((↑(List.length a2):Int)>(4:Int)) then some (7:Int)
  else
   kB
    (zK
     (fun (s44:Int)=>
      bif decide (s44< (↑(List.length a2):Int)) then
       kB
        (Option.bind (idx a2 s44) fun (y45:Ty.El zBt)=>
         Option.bind
          (Option.bind (zG (y45.1,(1:Int),(5:Int),())) fun (y46:Bool)=>
           bif !y46 then some true
           else
            bif y45.1==a3 then some true
            else
             Option.bind (zG (y45.2.1,a4,a5,())) fun (y47:Bool)=>
              bif !y47 then some true
              else
               Option.bind (zG (y45.2.2.1,(0:Int),(65535:Int),())) fun (y48:Bool)=>
                bif !y48 then some true
                else Option.bind (zG (y45.2.2.2.2.1,if a6< (1:Int) then a6 else (1:Int),a6,())) fun (y49:Bool)=>some !y49)
          fun (s50:Bool)=>
          bif s50 then some (Sum.inr (Sum.inr (Sum.inr (1:Int))))
          else
           Option.bind
            (bif y45.2.2.2.1 != { data:= #[] } then Option.bind (jL (a1,y45.2.2.2.1,())) fun (y51:Int)=>some (decide (y51< (0:Int)))
            else some false)
            fun (s52:Bool)=>
            bif s52 then some (Sum.inr (Sum.inr (Sum.inr (5:Int))))
            else
             Option.bind (sub a2 (0:Int) s44) fun (y53:List (Ty.El zBt))=>
              zK
               (fun (s54:Int)=>
                bif decide (s54< (↑(List.length y53):Int)) then
                 Option.bind (idx y53 s54) fun (y55:Ty.El zBt)=>
                  bif y55.1==y45.1 then some (Sum.inr (Sum.inr (Sum.inr (Sum.inr (4:Int))))) else some (Sum.inl (IntKind.wrap IntKind.i64 (s54+(1:Int))))
                else some (Sum.inr (Sum.inl ())))
               (0:Int))
        fun (s56:Unit)=>some (Sum.inl (IntKind.wrap IntKind.i64 (s44+(1:Int))))
      else some (Sum.inr (Sum.inl ())))
     (0:Int))
    fun (s57:Unit)=>some (0:Int)
noncomputable def vR:ElS [zH]→Option (RTy.El (.p tI)):=fun x=>match x with
 |(a1,())=>
  bif !a1.2.2.2.2.2.2.2.2.1.1 then
   Option.bind
    (bif a1.2.2.2.2.2.2.2.2.1.2.1 !=(0:Int) then some true
    else
     bif decide ((↑(List.length a1.2.2.2.2.2.2.2.2.1.2.2.1):Int)>(0:Int)) then some true
     else some (decide ((↑(List.length a1.2.2.2.2.2.2.2.2.1.2.2.2.1):Int)>(0:Int))))
    fun (s0:Bool)=>bif s0 then some (1:Int) else some (0:Int)
  else
   Option.bind (zG (a1.2.2.2.2.2.2.2.2.1.2.1,(1:Int),(255:Int),())) fun (y1:Bool)=>
    bif !y1 then some (1:Int)
    else
     bif decide ((↑(List.length a1.2.2.2.2.2.2.2.2.1.2.2.1):Int)>(4:Int)) then some (7:Int)
     else
      kB
       (zK
        (fun (s40:Int)=>
         bif decide (s40< (↑(List.length a1.2.2.2.2.2.2.2.2.1.2.2.1):Int)) then
          kB
           (Option.bind (idx a1.2.2.2.2.2.2.2.2.1.2.2.1 s40) fun (y41:Ty.El zJu)=>
            Option.bind
             (Option.bind (zG (y41.1,(0:Int),(255:Int),())) fun (y42:Bool)=>
              bif !y42 then some true else Option.bind (jW (y41.2.1,())) fun (y43:Bool)=>some !y43)
             fun (s44:Bool)=>
             bif s44 then some (Sum.inr (Sum.inr (Sum.inr (1:Int))))
             else
              Option.bind (sub a1.2.2.2.2.2.2.2.2.1.2.2.1 (0:Int) s40) fun (y45:List (Ty.El zJu))=>
               zK
                (fun (s46:Int)=>
                 bif decide (s46< (↑(List.length y45):Int)) then
                  Option.bind (idx y45 s46) fun (y47:Ty.El zJu)=>
                   Option.bind (bif y47.1==y41.1 then Option.bind (yU (y47.2.1,y41.2.1,())) fun (y48:Bool)=>some y48 else some false)
                    fun (s49:Bool)=>
                    bif s49 then some (Sum.inr (Sum.inr (Sum.inr (Sum.inr (6:Int))))) else some (Sum.inl (IntKind.wrap IntKind.i64 (s46+(1:Int))))
                 else some (Sum.inr (Sum.inl ())))
                (0:Int))
           fun (s50:Unit)=>some (Sum.inl (IntKind.wrap IntKind.i64 (s40+(1:Int))))
         else some (Sum.inr (Sum.inl ())))
        (0:Int))
       fun (s51:Unit)=>
       Option.bind (wC (a1,a1.2.2.2.2.2.2.2.2.1.2.2.2.1,(3:Int),(0:Int),(16777215:Int),(2:Int),())) fun (y52:Int)=>
        some y52
noncomputable def jR:ElS [zH]→Option (RTy.El (.p tI)):=fun x=>match x with
 |(a1,())=>
  bif !a1.2.2.2.2.2.2.2.2.2.1.1 then
   Option.bind
    (bif a1.2.2.2.2.2.2.2.2.2.1.2.1 !=(0:Int) then some true
    else
     bif a1.2.2.2.2.2.2.2.2.2.1.2.2.1 != { data:= #[] } then some true
     else
      bif a1.2.2.2.2.2.2.2.2.2.1.2.2.2.1 != { data:= #[] } then some true
      else some (decide ((↑(List.length a1.2.2.2.2.2.2.2.2.2.1.2.2.2.2.1):Int)>(0:Int))))
    fun (s0:Bool)=>bif s0 then some (1:Int) else some (0:Int)
  else
   Option.bind (zG (a1.2.2.2.2.2.2.2.2.2.1.2.1,(1:Int),(255:Int),())) fun (y1:Bool)=>
    bif !y1 then some (1:Int)
    else
     Option.bind
      (bif a1.2.2.2.2.2.2.2.2.2.1.2.2.1 != { data:= #[] } then
       Option.bind (qT (a1,a1.2.2.2.2.2.2.2.2.2.1.2.2.1,())) fun (y5:Int)=>
        bif decide (y5< (0:Int)) then some true
        else
         bif a1.2.2.2.2.2.2.2.2.2.1.2.2.2.1 != { data:= #[] } then
          Option.bind (qT (a1,a1.2.2.2.2.2.2.2.2.2.1.2.2.2.1,())) fun (y6:Int)=>some (decide (y6< (0:Int)))
         else some false
      else
       bif a1.2.2.2.2.2.2.2.2.2.1.2.2.2.1 != { data:= #[] } then
        Option.bind (qT (a1,a1.2.2.2.2.2.2.2.2.2.1.2.2.2.1,())) fun (y7:Int)=>some (decide (y7< (0:Int)))
       else some false)
      fun (s8:Bool)=>
      bif s8 then some (5:Int)
      else
       Option.bind (wC (a1,a1.2.2.2.2.2.2.2.2.2.1.2.2.2.2.1,(4:Int),(1:Int),(15:Int),(0:Int),())) fun (y9:Int)=>
        some y9
noncomputable def vQ:ElS [zH]→Option (RTy.El (.p tI)):=fun x=>match x with
 |(a1,())=>
  bif decide ((↑(List.length a1.2.2.2.2.2.2.2.2.2.2.1.2.2.2.1):Int)>(8:Int)) then some (7:Int)
  else
   kB
    (zK
     (fun (s40:Int)=>
      bif decide (s40< (↑(List.length a1.2.2.2.2.2.2.2.2.2.2.1.2.2.2.1):Int)) then
       kB
        (Option.bind (idx a1.2.2.2.2.2.2.2.2.2.2.1.2.2.2.1 s40) fun (y41:Ty.El zFm)=>
         Option.bind (bif y41.1==(0:Int) then some true else Option.bind (zG (y41.2.1,(1:Int),(65535:Int),())) fun (y42:Bool)=>some !y42)
          fun (s43:Bool)=>
          bif s43 then some (Sum.inr (Sum.inr (Sum.inr (1:Int))))
          else
           Option.bind
            (bif y41.2.2.1 != { data:= #[] } then
             Option.bind (jL (a1,y41.2.2.1,())) fun (y44:Int)=>
              bif decide (y44< (0:Int)) then some true
              else
               bif y41.2.2.2.1 != { data:= #[] } then
                Option.bind (jL (a1,y41.2.2.2.1,())) fun (y45:Int)=>some (decide (y45< (0:Int)))
               else some false
            else
             bif y41.2.2.2.1 != { data:= #[] } then Option.bind (jL (a1,y41.2.2.2.1,())) fun (y46:Int)=>some (decide (y46< (0:Int)))
             else some false)
            fun (s47:Bool)=>
            bif s47 then some (Sum.inr (Sum.inr (Sum.inr (5:Int))))
            else
             Option.bind (sub a1.2.2.2.2.2.2.2.2.2.2.1.2.2.2.1 (0:Int) s40) fun (y48:List (Ty.El zFm))=>
              zK
               (fun (s49:Int)=>
                bif decide (s49< (↑(List.length y48):Int)) then
                 Option.bind (idx y48 s49) fun (y50:Ty.El zFm)=>
                  bif y50.1==y41.1 then some (Sum.inr (Sum.inr (Sum.inr (Sum.inr (4:Int))))) else some (Sum.inl (IntKind.wrap IntKind.i64 (s49+(1:Int))))
                else some (Sum.inr (Sum.inl ())))
               (0:Int))
        fun (s51:Unit)=>some (Sum.inl (IntKind.wrap IntKind.i64 (s40+(1:Int))))
      else some (Sum.inr (Sum.inl ())))
     (0:Int))
    fun (s52:Unit)=>some (0:Int)
noncomputable def kC:ElS [(.sl zJ),zJ]→Option (RTy.El (.p tI)):=fun x=>match x with
 |(a1,a2,())=>
  kB
   (zK
    (fun (s5:Int)=>
     bif decide (s5< (↑(List.length a1):Int)) then
      Option.bind (idx a1 s5) fun (y6:Ty.El zJ)=>
       bif a2.1==y6.1&&(a2.2.1==y6.2.1&&true) then some (Sum.inr (Sum.inr s5)) else some (Sum.inl (IntKind.wrap IntKind.i64 (s5+(1:Int))))
     else some (Sum.inr (Sum.inl ())))
    (0:Int))
   fun (s7:Unit)=>some (-1:Int)
noncomputable def wN:ElS [(.sl zJ),zJ]→Option (RTy.El (.p .bool)):=fun x=>match x with
 |(a1,a2,())=>
  Option.bind (kC (a1,a2,())) fun (y0:Int)=>some (decide (y0≥(0:Int)))
noncomputable def uA:ElS [tPV]→Option (RTy.El (.p tI)):=fun x=>match x with
 |(a1,())=>
  bif decide ((↑(List.length a1.2.2.2.2.1):Int)>(8:Int)) then some (7:Int)
  else
   kB
    (zK
     (fun (s12:Int)=>
      bif decide (s12< (↑(List.length a1.2.2.2.2.1):Int)) then
       Option.bind (idx a1.2.2.2.2.1 s12) fun (y13:Ty.El zJ)=>
        Option.bind (jW (y13,())) fun (y14:Bool)=>
         bif !y14 then some (Sum.inr (Sum.inr (1:Int)))
         else
          Option.bind (sub a1.2.2.2.2.1 (0:Int) s12) fun (y15:List (Ty.El zJ))=>
           Option.bind (wN (y15,y13,())) fun (y16:Bool)=>
            bif y16 then some (Sum.inr (Sum.inr (4:Int))) else some (Sum.inl (IntKind.wrap IntKind.i64 (s12+(1:Int))))
      else some (Sum.inr (Sum.inl ())))
     (0:Int))
    fun (s17:Unit)=>
    bif decide ((↑(List.length a1.2.2.2.2.2.1):Int)>(8:Int)) then some (7:Int)
    else
     kB
      (zK
       (fun (s39:Int)=>
        bif decide (s39< (↑(List.length a1.2.2.2.2.2.1):Int)) then
         kB
          (Option.bind (idx a1.2.2.2.2.2.1 s39) fun (y40:Ty.El zDx)=>
           Option.bind (jW (y40.1,())) fun (y41:Bool)=>
            bif !y41 then some (Sum.inr (Sum.inr (Sum.inr (1:Int))))
            else
             Option.bind (sub a1.2.2.2.2.2.1 (0:Int) s39) fun (y42:List (Ty.El zDx))=>
              zK
               (fun (s43:Int)=>
                bif decide (s43< (↑(List.length y42):Int)) then
                 Option.bind (idx y42 s43) fun (y44:Ty.El zDx)=>
                  bif y44.1.1==y40.1.1&&(y44.1.2.1==y40.1.2.1&&true) then some (Sum.inr (Sum.inr (Sum.inr (Sum.inr (4:Int)))))
                  else some (Sum.inl (IntKind.wrap IntKind.i64 (s43+(1:Int))))
                else some (Sum.inr (Sum.inl ())))
               (0:Int))
          fun (s45:Unit)=>some (Sum.inl (IntKind.wrap IntKind.i64 (s39+(1:Int))))
        else some (Sum.inr (Sum.inl ())))
       (0:Int))
      fun (s46:Unit)=>
      bif decide ((↑(List.length a1.2.2.2.2.2.2.1):Int)>(8:Int)) then some (7:Int)
      else
       kB
        (zK
         (fun (s76:Int)=>
          bif decide (s76< (↑(List.length a1.2.2.2.2.2.2.1):Int)) then
           kB
            (Option.bind (idx a1.2.2.2.2.2.2.1 s76) fun (y77:Ty.El zDw)=>
             Option.bind
              (Option.bind (jW (y77.1,())) fun (y78:Bool)=>
               bif !y78 then some true else Option.bind (jW (y77.2.1,())) fun (y79:Bool)=>some !y79)
              fun (s80:Bool)=>
              bif s80 then some (Sum.inr (Sum.inr (Sum.inr (1:Int))))
              else
               bif y77.1.1==y77.2.1.1&&(y77.1.2.1==y77.2.1.2.1&&true) then some (Sum.inr (Sum.inr (Sum.inr (6:Int))))
               else
                Option.bind (sub a1.2.2.2.2.2.2.1 (0:Int) s76) fun (y81:List (Ty.El zDw))=>
                 zK
                  (fun (s82:Int)=>
                   bif decide (s82< (↑(List.length y81):Int)) then
                    Option.bind (idx y81 s82) fun (y83:Ty.El zDw)=>
                     bif y83.1.1==y77.1.1&&(y83.1.2.1==y77.1.2.1&&true) then some (Sum.inr (Sum.inr (Sum.inr (Sum.inr (4:Int)))))
                     else some (Sum.inl (IntKind.wrap IntKind.i64 (s82+(1:Int))))
                   else some (Sum.inr (Sum.inl ())))
                  (0:Int))
            fun (s84:Unit)=>some (Sum.inl (IntKind.wrap IntKind.i64 (s76+(1:Int))))
          else some (Sum.inr (Sum.inl ())))
         (0:Int))
        fun (s85:Unit)=>some (0:Int)
noncomputable def vD:ElS [zH]→Option (RTy.El (.p tI)):=fun x=>match x with
 |(a1,())=>
  bif !a1.2.2.2.2.2.2.2.2.2.2.1.1 then
   Option.bind
    (bif a1.2.2.2.2.2.2.2.2.2.2.1.2.1 !=(0:Int) then some true
    else
     bif a1.2.2.2.2.2.2.2.2.2.2.1.2.2.1 !=(0:Int) then some true
     else
      bif decide ((↑(List.length a1.2.2.2.2.2.2.2.2.2.2.1.2.2.2.1):Int)>(0:Int)) then some true
      else
       bif decide ((↑(List.length a1.2.2.2.2.2.2.2.2.2.2.1.2.2.2.2.1):Int)>(0:Int)) then some true
       else
        bif decide ((↑(List.length a1.2.2.2.2.2.2.2.2.2.2.1.2.2.2.2.2.1):Int)>(0:Int)) then some true
        else
         bif decide ((↑(List.length a1.2.2.2.2.2.2.2.2.2.2.1.2.2.2.2.2.2.1):Int)>(0:Int)) then some true
         else some (decide ((↑(List.length a1.2.2.2.2.2.2.2.2.2.2.1.2.2.2.2.2.2.2.1):Int)>(0:Int))))
    fun (s0:Bool)=>bif s0 then some (1:Int) else some (0:Int)
  else
   Option.bind
    (bif a1.2.1==(0:Int) then some true
    else
     Option.bind (zG (a1.2.2.2.2.2.2.2.2.2.2.1.2.1,(1:Int),(255:Int),())) fun (y3:Bool)=>
      bif !y3 then some true else Option.bind (zG (a1.2.2.2.2.2.2.2.2.2.2.1.2.2.1,(1:Int),(255:Int),())) fun (y4:Bool)=>some !y4)
    fun (s5:Bool)=>
    bif s5 then some (1:Int)
    else
     Option.bind (vQ (a1,())) fun (y6:Int)=>
      bif y6 !=(0:Int) then some y6
      else
       Option.bind (uA (a1.2.2.2.2.2.2.2.2.2.2.1,())) fun (y7:Int)=>
        bif y7 !=(0:Int) then some y7
        else
         Option.bind
          (wC (a1,a1.2.2.2.2.2.2.2.2.2.2.1.2.2.2.2.2.2.2.1,(5:Int),(0:Int),(16777215:Int),(0:Int),()))
          fun (y8:Int)=>some y8
noncomputable def wD:ElS [zH]→Option (RTy.El (.p tI)):=fun x=>match x with
 |(a1,())=>
  Option.bind (xL (a1.1,())) fun (y0:Bool)=>
   bif !y0 then some (3:Int)
   else
    Option.bind (zG (a1.2.1,(0:Int),(65535:Int),())) fun (y1:Bool)=>
     bif !y1 then some (1:Int)
     else
      kB
       (Option.bind (vE (a1,())) fun (y12:Int)=>
        bif y12 !=(0:Int) then some (Sum.inr y12)
        else
         Option.bind (wQ (a1,())) fun (y13:Int)=>
          bif y13 !=(0:Int) then some (Sum.inr y13)
          else
           Option.bind (vP (a1,())) fun (y14:Int)=>
            bif y14 !=(0:Int) then some (Sum.inr y14)
            else
             Option.bind (yX (a1,())) fun (y15:Int)=>
              bif y15 !=(0:Int) then some (Sum.inr y15)
              else
               Option.bind (zAj (a1,())) fun (y16:Int)=>
                bif y16 !=(0:Int) then some (Sum.inr y16)
                else
                 Option.bind (uB (a1,())) fun (y17:Int)=>
                  bif y17 !=(0:Int) then some (Sum.inr y17)
                  else
                   Option.bind (kZ (a1,())) fun (y18:Int)=>
                    bif y18 !=(0:Int) then some (Sum.inr y18)
                    else
                     Option.bind (vR (a1,())) fun (y19:Int)=>
                      bif y19 !=(0:Int) then some (Sum.inr y19)
                      else
                       Option.bind (jR (a1,())) fun (y20:Int)=>
                        bif y20 !=(0:Int) then some (Sum.inr y20)
                        else
                         Option.bind (vD (a1,())) fun (y21:Int)=>bif y21 !=(0:Int) then some (Sum.inr y21) else some (Sum.inl ()))
       fun (s22:Unit)=>some (0:Int)
noncomputable def qP:ElS [zA2,tU]→Option (RTy.El (.p .bool)):=fun x=>match x with
 |(a1,a2,())=>
  some
   (IntKind.wrap IntKind.u32
     (↑(BitVec.toNat
        (BitVec.ofInt (IntKind.bits IntKind.u32)
          (IntKind.wrap IntKind.u32 (↑(BitVec.toNat (BitVec.ofInt (IntKind.bits IntKind.u32) a2^^^BitVec.ofInt (IntKind.bits IntKind.u32) a1.1)):Int))&&&
         ~~~BitVec.ofInt (IntKind.bits IntKind.u32) a1.2.1)):
      Int)==
    (0:Int))
noncomputable def zCy:ElS [qV,qG]→Option (RTy.El (.p .bool)):=fun x=>match x with
 |(a1,a2,())=>
  Option.bind
   (bif a1.2.1==(-1:Int) then
    Option.bind (qP (a1.2.2.1,a2.1,())) fun (y8:Bool)=>
     bif y8 then
      Option.bind (qP (a1.2.2.2.1,a2.2.1,())) fun (y9:Bool)=>
       bif y9 then
        Option.bind (j9 (a1.2.2.2.2.1,a2.2.2.2.1,())) fun (y10:Bool)=>
         bif y10 then Option.bind (j9 (a1.2.2.2.2.2.1,a2.2.2.2.2.1,())) fun (y11:Bool)=>some y11 else some false
       else some false
     else some false
   else
    bif a1.2.1==a2.2.2.1 then
     Option.bind (qP (a1.2.2.1,a2.1,())) fun (y12:Bool)=>
      bif y12 then
       Option.bind (qP (a1.2.2.2.1,a2.2.1,())) fun (y13:Bool)=>
        bif y13 then
         Option.bind (j9 (a1.2.2.2.2.1,a2.2.2.2.1,())) fun (y14:Bool)=>
          bif y14 then Option.bind (j9 (a1.2.2.2.2.2.1,a2.2.2.2.2.1,())) fun (y15:Bool)=>some y15 else some false
        else some false
      else some false
    else some false)
   fun (s16:Bool)=>some s16
noncomputable def qW:ElS [zA2,zA2]→Option (RTy.El (.p .bool)):=fun x=>match x with
 |(a1,a2,())=>
  Option.bind
   (bif
     IntKind.wrap IntKind.u32 (↑(BitVec.toNat (BitVec.ofInt (IntKind.bits IntKind.u32) a2.2.1&&& ~~~BitVec.ofInt (IntKind.bits IntKind.u32) a1.2.1)):Int)==
      (0:Int) then
    Option.bind (qP (a1,a2.1,())) fun (y1:Bool)=>some y1
   else some false)
   fun (s2:Bool)=>some s2
noncomputable def wL:ElS [uM,uM]→Option (RTy.El (.p .bool)):=fun x=>match x with
 |(a1,a2,())=>
  Option.bind (bif decide (a1.1≤a2.1) then some (decide (a2.2.1≤a1.2.1)) else some false) fun (s0:Bool)=>some s0
noncomputable def zD7:ElS [qV,qV]→Option (RTy.El (.p .bool)):=fun x=>match x with
 |(a1,a2,())=>
  Option.bind
   (bif a1.2.1==(-1:Int) then
    Option.bind (qW (a1.2.2.1,a2.2.2.1,())) fun (y8:Bool)=>
     bif y8 then
      Option.bind (qW (a1.2.2.2.1,a2.2.2.2.1,())) fun (y9:Bool)=>
       bif y9 then
        Option.bind (wL (a1.2.2.2.2.1,a2.2.2.2.2.1,())) fun (y10:Bool)=>
         bif y10 then Option.bind (wL (a1.2.2.2.2.2.1,a2.2.2.2.2.2.1,())) fun (y11:Bool)=>some y11 else some false
       else some false
     else some false
   else
    bif a1.2.1==a2.2.1 then
     Option.bind (qW (a1.2.2.1,a2.2.2.1,())) fun (y12:Bool)=>
      bif y12 then
       Option.bind (qW (a1.2.2.2.1,a2.2.2.2.1,())) fun (y13:Bool)=>
        bif y13 then
         Option.bind (wL (a1.2.2.2.2.1,a2.2.2.2.2.1,())) fun (y14:Bool)=>
          bif y14 then Option.bind (wL (a1.2.2.2.2.2.1,a2.2.2.2.2.2.1,())) fun (y15:Bool)=>some y15 else some false
        else some false
      else some false
    else some false)
   fun (s16:Bool)=>some s16
end Go.Ve

namespace Go.Ve
open Go Go.Proofs Go.Bd Go.Proofs.Bw
set_option maxRecDepth 1000000
set_option maxHeartbeats 0
theorem zKb:OkX 77 [(.int .u8)] (.p .bool) zA3:=fX [] (A:=(jl [jj 6 5726623056 [] [.t 2 .bool]])) (fn:=Tryd.f77) (by kernel_rfl) (by kernel_rfl) (by rintro ⟨⟩ ⟨a1,⟨⟩⟩;kernel_rfl)
noncomputable def zLb:Ent:=jI (by kernel_rfl) zKb
theorem zK4:OkX 78 [(.int .u8)] (.p .bool) scan_digit:=fX [] (A:=(jl [jj 6 87376 [] [.t 2 .bool]])) (fn:=Tryd.f78) (by kernel_rfl) (by kernel_rfl) (by rintro ⟨⟩ ⟨a1,⟨⟩⟩;kernel_rfl)
noncomputable def zMB:Ent:=jI (by kernel_rfl) zK4
theorem zMi:OkX 46 [.str] (.p .bool) xL:=fX [zMB,zLb] (A:=(jl [jj 6 91625968640 [] [.t 18 .bool],jj 30 6760803201217199455451071119360 [] [.t 51 .bool],jj 17 6760803201217223474557457793360 [] [.t 3 tI],jj 36 6760803201217223474557457793360 [] []])) (fn:=Tryd.f46) (by kernel_rfl) (by kernel_rfl) (by rintro ⟨⟩ ⟨a1,⟨⟩⟩;kernel_rfl)
noncomputable def zE2:Ent:=jI (by kernel_rfl) zMi
theorem zJa:OkX 47 [tI,tI,tI] (.p .bool) zG:=fX [] (A:=(jl [jj 6 357912576 [] [.t 6 .bool]])) (fn:=Tryd.f47) (by kernel_rfl) (by kernel_rfl) (by rintro ⟨⟩ ⟨a1,a2,a3,⟨⟩⟩;kernel_rfl)
noncomputable def qN:Ent:=jI (by kernel_rfl) zJa
theorem zEt:OkA 108 [.d vI, .pp .str] (.p .bool) xF:=fA [] (A:=fun _=>none) (fn:=Tryd.f108) (by kernel_rfl) (by kernel_rfl) (by rintro ⟨⟩ ⟨a1,a2,⟨⟩⟩;kernel_rfl)
noncomputable def zBa:Ent:=jI (by kernel_rfl) zEt
theorem yQ:OkA 107 [.d (.sl vI), .clo 108 [(true, .str)]] (.p tI) jK:=fA [zBa] (A:=(jl [jj 9 91625948416 [] [.t 8 tI],jj 28 91625968896 [] []])) (fn:=Tryd.f107) (by kernel_rfl) (by kernel_rfl) (by rintro ⟨⟩ ⟨a1,⟨a2,⟨⟩⟩,⟨⟩⟩;kernel_rfl)
noncomputable def vA:Ent:=jI (by kernel_rfl) yQ
theorem zFT:OkA 119 [.d vI, .pp tU] (.p .bool) kN:=fA [] (A:=(jl [jj 6 22369600 [] [.t 3 .bool]])) (fn:=Tryd.f119) (by kernel_rfl) (by kernel_rfl) (by rintro ⟨⟩ ⟨a1,a2,⟨⟩⟩;kernel_rfl)
noncomputable def zB1:Ent:=jI (by kernel_rfl) zFT
theorem yP:OkA 107 [.d (.sl vI), .clo 119 [(true,tU)]] (.p tI) jJ:=fA [zB1] (A:=(jl [jj 9 91625948416 [] [.t 8 tI],jj 28 91625968896 [] []])) (fn:=Tryd.f107) (by kernel_rfl) (by kernel_rfl) (by rintro ⟨⟩ ⟨a1,⟨a2,⟨⟩⟩,⟨⟩⟩;kernel_rfl)
noncomputable def w9:Ent:=jI (by kernel_rfl) yP
theorem zGv:OkX 79 [zH, .str] (.p tI) vJ:=fX [w9,vA,zBa] (A:=fun _=>none) (fn:=Tryd.f79) (by kernel_rfl) (by kernel_rfl) (by rintro ⟨⟩ ⟨a1,a2,⟨⟩⟩;kernel_rfl)
noncomputable def zCu:Ent:=jI (by kernel_rfl) zGv
theorem zC2:OkX 80 [vI] (.p .bool) vO:=fX [qN] (A:=(jl [jj 6 91625968960 [] [.t 18 .bool],jj 14 432691404877902302377449734799360 [] [.t 54 .bool],jj 22 28356431218673327386312173077953249280 [] [.t 62 .bool],jj 34 29733873221551602937429673197387906317025296 [] [.t 2 .bool],jj 38 1948639115447605850107391062664013828392568750096 [] [.t 2 .bool]])) (fn:=Tryd.f80) (by kernel_rfl) (by kernel_rfl) (by rintro ⟨⟩ ⟨a1,⟨⟩⟩;kernel_rfl)
noncomputable def zDT:Ent:=jI (by kernel_rfl) zC2
theorem zJd:OkX 82 [tU,tI] (.p zJ) zAx:=fX [zHP,zE9] (A:=fun _=>none) (fn:=Tryd.f82) (by kernel_rfl) (by kernel_rfl) (by rintro ⟨⟩ ⟨a1,a2,⟨⟩⟩;kernel_rfl)
noncomputable def zKE:Ent:=jI (by kernel_rfl) zJd
theorem zKe:OkX 109 [zJ,zJ] (.p .bool) zBe:=fX [zEg] (A:=(jl [jj 6 1431655680 [] [.t 4 .bool]])) (fn:=Tryd.f109) (by kernel_rfl) (by kernel_rfl) (by rintro ⟨⟩ ⟨a1,a2,⟨⟩⟩;kernel_rfl)
noncomputable def zLc:Ent:=jI (by kernel_rfl) zKe
theorem zIm:OkX 81 [zJ,zJ] (.p .bool) yU:=fX [zLc] (A:=(jl [jj 6 22369536 [] [.t 4 .bool]])) (fn:=Tryd.f81) (by kernel_rfl) (by kernel_rfl) (by rintro ⟨⟩ ⟨a1,a2,⟨⟩⟩;kernel_rfl)
noncomputable def zEf:Ent:=jI (by kernel_rfl) zIm
theorem zCI:OkX 48 [zH] (.p tI) vE:=fX [zEf,zKE,zDT,zCu,zE2] (A:=(jl [jj 62 7089215977517939421060818149262229504 [] [.t 61 .bool],jj 53 28356863910078198992125906793120411664 [] [.t 37 tI],jj 72 28356863910078205288614550617882374992 [] [],jj 17 113427455640312821154458202477166605136 [] [.t 14 tI],jj 76 113427455640312821154458202477254685520 [] []])) (fn:=Tryd.f48) (by kernel_rfl) (by kernel_rfl) (by rintro ⟨⟩ ⟨a1,⟨⟩⟩;kernel_rfl)
noncomputable def zDk:Ent:=jI (by kernel_rfl) zCI
theorem zDF:OkA 111 [.d zDv, .pp .str] (.p .bool) yK:=fA [] (A:=fun _=>none) (fn:=Tryd.f111) (by kernel_rfl) (by kernel_rfl) (by rintro ⟨⟩ ⟨a1,a2,⟨⟩⟩;kernel_rfl)
noncomputable def zAA:Ent:=jI (by kernel_rfl) zDF
theorem yJ:OkA 110 [.d (.sl zDv), .clo 111 [(true, .str)]] (.p tI) jG:=fA [zAA] (A:=(jl [jj 9 91625948416 [] [.t 8 tI],jj 28 91625968896 [] []])) (fn:=Tryd.f110) (by kernel_rfl) (by kernel_rfl) (by rintro ⟨⟩ ⟨a1,⟨a2,⟨⟩⟩,⟨⟩⟩;kernel_rfl)
noncomputable def yT:Ent:=jI (by kernel_rfl) yJ
theorem zFS:OkX 84 [zH, .str] (.p tI) qT:=fX [yT,zAA] (A:=fun _=>none) (fn:=Tryd.f84) (by kernel_rfl) (by kernel_rfl) (by rintro ⟨⟩ ⟨a1,a2,⟨⟩⟩;kernel_rfl)
noncomputable def xH:Ent:=jI (by kernel_rfl) zFS
theorem zGt:OkX 83 [tI,tI, .str,tI,tI] (.p tI) wH:=fX [zE2] (A:=fun _=>none) (fn:=Tryd.f83) (by kernel_rfl) (by kernel_rfl) (by rintro ⟨⟩ ⟨a1,a2,a3,a4,a5,⟨⟩⟩;kernel_rfl)
noncomputable def zAp:Ent:=jI (by kernel_rfl) zGt
theorem zCj:OkX 49 [zH] (.p tI) wQ:=fX [zAr,zAp,xH] (A:=(jl [jj 50 453709822561249672716739990403458007040 [] [.t 64 .bool],jj 41 1814839290245005132174842595809903558672 [] [.t 37 tI],jj 60 1814839290245005138397544263335532349264 [] [],jj 17 7259357160980020553885324958544030648144 [] [.t 15 tI],jj 64 7259357160980020553885324958544382969680 [] []])) (fn:=Tryd.f49) (by kernel_rfl) (by kernel_rfl) (by rintro ⟨⟩ ⟨a1,⟨⟩⟩;kernel_rfl)
noncomputable def zCP:Ent:=jI (by kernel_rfl) zCj
theorem zEQ:OkA 113 [.d zHd, .pp .str] (.p .bool) zAk:=fA [] (A:=fun _=>none) (fn:=Tryd.f113) (by kernel_rfl) (by kernel_rfl) (by rintro ⟨⟩ ⟨a1,a2,⟨⟩⟩;kernel_rfl)
noncomputable def zBs:Ent:=jI (by kernel_rfl) zEQ
theorem xE:OkA 112 [.d (.sl zHd), .clo 113 [(true, .str)]] (.p tI) jQ:=fA [zBs] (A:=(jl [jj 9 91625948416 [] [.t 8 tI],jj 28 91625968896 [] []])) (fn:=Tryd.f112) (by kernel_rfl) (by kernel_rfl) (by rintro ⟨⟩ ⟨a1,⟨a2,⟨⟩⟩,⟨⟩⟩;kernel_rfl)
noncomputable def xY:Ent:=jI (by kernel_rfl) xE
theorem zHx:OkX 85 [zH, .str] (.p tI) jL:=fX [xY,zBs] (A:=fun _=>none) (fn:=Tryd.f85) (by kernel_rfl) (by kernel_rfl) (by rintro ⟨⟩ ⟨a1,a2,⟨⟩⟩;kernel_rfl)
noncomputable def zAN:Ent:=jI (by kernel_rfl) zHx
theorem zEO:OkX 86 [zHe] (.p .bool) uP:=fX [qN] (A:=(jl [jj 6 1501199875790160 [] [.t 2 .bool]])) (fn:=Tryd.f86) (by kernel_rfl) (by kernel_rfl) (by rintro ⟨⟩ ⟨a1,⟨⟩⟩;kernel_rfl)
noncomputable def zFX:Ent:=jI (by kernel_rfl) zEO
theorem zC3:OkX 50 [zH] (.p tI) vP:=fX [zFX,xH,zAp,zAN] (A:=(jl [jj 50 1690199188403213049156704665600 [] [.t 50 .bool],jj 41 432691404871605813733715167199248 [] [.t 37 tI],jj 68 432691404877828515401240795989840 [] [],jj 17 1730765619511609209510165085210448 [] [.t 15 tI],jj 72 1730765619511609209510165437531984 [] []])) (fn:=Tryd.f50) (by kernel_rfl) (by kernel_rfl) (by rintro ⟨⟩ ⟨a1,⟨⟩⟩;kernel_rfl)
noncomputable def zDU:Ent:=jI (by kernel_rfl) zC3
theorem zJb:OkA 98 [.d zI8, .pp .str] (.p .bool) zDK:=fA [] (A:=fun _=>none) (fn:=Tryd.f98) (by kernel_rfl) (by kernel_rfl) (by rintro ⟨⟩ ⟨a1,a2,⟨⟩⟩;kernel_rfl)
noncomputable def zE6:Ent:=jI (by kernel_rfl) zJb
theorem zA5:OkA 97 [.d (.sl zI8), .clo 98 [(true, .str)]] (.p tI) w7:=fA [zE6] (A:=(jl [jj 9 91625948416 [] [.t 8 tI],jj 28 91625968896 [] []])) (fn:=Tryd.f97) (by kernel_rfl) (by kernel_rfl) (by rintro ⟨⟩ ⟨a1,⟨a2,⟨⟩⟩,⟨⟩⟩;kernel_rfl)
noncomputable def zBl:Ent:=jI (by kernel_rfl) zA5
theorem zMj:OkX 62 [zH, .str] (.p tI) u5:=fX [zBl,zE6] (A:=fun _=>none) (fn:=Tryd.f62) (by kernel_rfl) (by kernel_rfl) (by rintro ⟨⟩ ⟨a1,a2,⟨⟩⟩;kernel_rfl)
noncomputable def zE7:Ent:=jI (by kernel_rfl) zMj
theorem zFR:OkX 114 [uM] (.p .bool) kM:=fX [] (A:=(jl [jj 6 22906492240 [] [.t 2 .bool]])) (fn:=Tryd.f114) (by kernel_rfl) (by kernel_rfl) (by rintro ⟨⟩ ⟨a1,⟨⟩⟩;kernel_rfl)
noncomputable def zGP:Ent:=jI (by kernel_rfl) zFR
theorem zGs:OkX 87 [qV] (.p .bool) yW:=fX [zGP,qN] (A:=(jl [jj 6 24019198012642560 [] [.t 27 .bool],jj 14 25185930556106761830400 [] [.t 37 .bool],jj 26 110768999648642245590349369258803216 [] [.t 2 .bool]])) (fn:=Tryd.f87) (by kernel_rfl) (by kernel_rfl) (by rintro ⟨⟩ ⟨a1,⟨⟩⟩;kernel_rfl)
noncomputable def zHL:Ent:=jI (by kernel_rfl) zGs
theorem zGu:OkX 51 [zH] (.p tI) yX:=fX [zHL,zAp,zE7] (A:=(jl [jj 41 412640383273149598772805648 [] [.t 37 tI],jj 60 412646605974817124401596240 [] [],jj 17 1650586719047173699507636048 [] [.t 15 tI],jj 64 1650586719047173699859957584 [] []])) (fn:=Tryd.f51) (by kernel_rfl) (by kernel_rfl) (by rintro ⟨⟩ ⟨a1,⟨⟩⟩;kernel_rfl)
noncomputable def zHM:Ent:=jI (by kernel_rfl) zGu
theorem zCi:OkX 88 [zRu] (.p .bool) wP:=fX [qN] (A:=(jl [jj 18 96076790618914832 [] [.t 2 .bool],jj 30 28356863910077802313341345742922448912 [] [.t 2 .bool],jj 38 35104097222852395565972675440846988211713747182350227175746043920 [] [.t 2 .bool]])) (fn:=Tryd.f88) (by kernel_rfl) (by kernel_rfl) (by rintro ⟨⟩ ⟨a1,⟨⟩⟩;kernel_rfl)
noncomputable def zCO:Ent:=jI (by kernel_rfl) zCi
theorem zHw:OkX 52 [zH] (.p tI) zAj:=fX [zE7,zCO] (A:=(jl [jj 34 96076700424601600 [] [.t 28 .bool],jj 17 384307168196690704 [] [.t 12 tI],jj 44 384307168202195728 [] []])) (fn:=Tryd.f52) (by kernel_rfl) (by kernel_rfl) (by rintro ⟨⟩ ⟨a1,⟨⟩⟩;kernel_rfl)
noncomputable def zIF:Ent:=jI (by kernel_rfl) zHw
theorem zEs:OkX 53 [zH] (.p tI) uB:=fX [zE7] (A:=(jl [jj 18 98382635059778682880 [] [.t 33 .bool],jj 9 393530540239137080080 [] [.t 8 tI],jj 28 393530540239137101584 [] []])) (fn:=Tryd.f53) (by kernel_rfl) (by kernel_rfl) (by rintro ⟨⟩ ⟨a1,⟨⟩⟩;kernel_rfl)
noncomputable def zE5:Ent:=jI (by kernel_rfl) zEs
theorem zIh:OkX 115 [zH,tU] (.p tI) zAW:=fX [w9,vA,zB1] (A:=fun _=>none) (fn:=Tryd.f115) (by kernel_rfl) (by kernel_rfl) (by rintro ⟨⟩ ⟨a1,a2,⟨⟩⟩;kernel_rfl)
noncomputable def zJm:Ent:=jI (by kernel_rfl) zIh
theorem zEN:OkX 89 [zH,zDu] (.p .bool) uO:=fX [qN,zJm,zAr] (A:=(jl [jj 28 374933465089024 [] [.t 5 tI],jj 13 1501176969315328 [] [.t 18 tI, .t 5 tI],jj 32 1501199875785728 [] [.t 5 tI],jj 34 432691404877902300876341484978432 [] [.t 4 .bool]])) (fn:=Tryd.f89) (by kernel_rfl) (by kernel_rfl) (by rintro ⟨⟩ ⟨a1,a2,⟨⟩⟩;kernel_rfl)
noncomputable def zFW:Ent:=jI (by kernel_rfl) zEN
theorem zEq:OkX 54 [zH] (.p tI) kZ:=fX [zCu,zFW] (A:=(jl [jj 56 402975273111051399332864 [] [],jj 70 1772303888742337811519292622315192320 [] [.t 60 .bool],jj 61 7089215977106904642391844229862178832 [] [.t 45 tI],jj 80 7089215977519551322153637649101932368 [] [],jj 17 28356863910078205288614550618956154704 [] [.t 15 tI],jj 84 28356863910078205288614550619308476240 [] []])) (fn:=Tryd.f54) (by kernel_rfl) (by kernel_rfl) (by rintro ⟨⟩ ⟨a1,⟨⟩⟩;kernel_rfl)
noncomputable def zE3:Ent:=jI (by kernel_rfl) zEq
theorem zEP:OkX 90 [zH,(.sl zBt),tI,tI,tI,tI] (.p tI) wC:=fX [zAN,qN] (A:=(jl [jj 26 443075998594971957628597553923620864 [] [.t 59 .bool],jj 34 464598415226722720476703162744487437926400 [] [.t 69 .bool],jj 45 124714687448262656856724350867958696886057780117504 [] [.t 74 tI],jj 64 124714806385570382353381105725122817583495025524736 [] [],jj 17 498859225542281529413524422900491270703374686748672 [] [.t 22 tI],jj 68 498859225542281529413524422900491270708872244887552 [] []])) (fn:=Tryd.f90) (by kernel_rfl) (by kernel_rfl) (by rintro ⟨⟩ ⟨a1,a2,a3,a4,a5,a6,⟨⟩⟩;kernel_rfl)
noncomputable def yL:Ent:=jI (by kernel_rfl) zEP
theorem zC5:OkX 55 [zH] (.p tI) vR:=fX [yL,zEf,zAr,qN] (A:=(jl [jj 14 24019197990273024 [] [.t 27 .bool],jj 54 108172748057805635146029098598400 [] [.t 53 .bool],jj 74 475749202545122716941223367868614426146897920 [] [.t 74 .bool],jj 65 1902996923497177508428971636524009593487015952 [] [.t 59 tI],jj 84 1902996923607946508076102724839840676277439760 [] [],jj 45 7611987694431786032310757759912339508276808976 [] [.t 39 tI],jj 88 7611987694431786032310856929608479770826296592 [] []])) (fn:=Tryd.f55) (by kernel_rfl) (by kernel_rfl) (by rintro ⟨⟩ ⟨a1,⟨⟩⟩;kernel_rfl)
noncomputable def zDW:Ent:=jI (by kernel_rfl) zC5
theorem zBi:OkX 56 [zH] (.p tI) jR:=fX [yL,xH,qN] (A:=(jl [jj 14 24019198012555264 [] [.t 27 .bool],jj 34 108172851219469426679694103674880 [] [.t 53 .bool]])) (fn:=Tryd.f56) (by kernel_rfl) (by kernel_rfl) (by rintro ⟨⟩ ⟨a1,⟨⟩⟩;kernel_rfl)
noncomputable def zBC:Ent:=jI (by kernel_rfl) zBi
theorem zC4:OkX 91 [zH] (.p tI) vQ:=fX [zAN,qN] (A:=(jl [jj 26 384305702186778624 [] [.t 29 .bool],jj 34 6760803201216839167480881479680 [] [.t 51 .bool],jj 45 29037400951670170029793947671530464882704 [] [.t 58 tI],jj 64 29037428643920082215541299834154647565136 [] [],jj 17 116149714575680328862165199336708784534352 [] [.t 16 tI],jj 68 116149714575680328862165199336710210597712 [] []])) (fn:=Tryd.f91) (by kernel_rfl) (by kernel_rfl) (by rintro ⟨⟩ ⟨a1,⟨⟩⟩;kernel_rfl)
noncomputable def zDV:Ent:=jI (by kernel_rfl) zC4
theorem zDC:OkX 120 [(.sl zJ),zJ] (.p tI) kC:=fX [] (A:=(jl [jj 9 91625948416 [] [.t 8 tI],jj 28 91625968896 [] []])) (fn:=Tryd.f120) (by kernel_rfl) (by kernel_rfl) (by rintro ⟨⟩ ⟨a1,a2,⟨⟩⟩;kernel_rfl)
noncomputable def zEw:Ent:=jI (by kernel_rfl) zDC
theorem zCd:OkX 116 [(.sl zJ),zJ] (.p .bool) wN:=fX [zEw] (A:=fun _=>none) (fn:=Tryd.f116) (by kernel_rfl) (by kernel_rfl) (by rintro ⟨⟩ ⟨a1,a2,⟨⟩⟩;kernel_rfl)
noncomputable def zCN:Ent:=jI (by kernel_rfl) zCd
theorem zEr:OkX 92 [tPV] (.p tI) uA:=fX [zCN,zAr] (A:=(jl [jj 17 393530539872633226064 [] [.t 20 tI],jj 44 393530540233410478928 [] [],jj 77 1814837559479385626862121729470654251024 [] [.t 56 tI],jj 96 1814839290244901976801390791279855744016 [] [],jj 57 7259357160980014106280953680522123621392 [] [.t 42 tI],jj 100 7259357160980020453141506657325290828816 [] [],jj 122 127707839947020960621285735288789705611309955520921600 [] [.t 88 .bool],jj 141 140416254979905894014701075081386214661643250350482666439728693264 [] [.t 99 tI],jj 160 140416388891409582261987706654619296583782412574799488157291380752 [] [],jj 113 561665555565638329055443877005183475710685651638807802095013724176 [] [.t 74 tI],jj 164 561665555565638329055560955917475761482178714159739205992920121360 [] []])) (fn:=Tryd.f92) (by kernel_rfl) (by kernel_rfl) (by rintro ⟨⟩ ⟨a1,⟨⟩⟩;kernel_rfl)
noncomputable def zE4:Ent:=jI (by kernel_rfl) zEr
theorem zCH:OkX 57 [zH] (.p tI) vD:=fX [yL,zE4,zDV,qN] (A:=(jl [jj 14 105637550019019116791390535680 [] [.t 48 .bool],jj 26 113427455534675271135439085685864136704 [] [.t 63 .bool]])) (fn:=Tryd.f57) (by kernel_rfl) (by kernel_rfl) (by rintro ⟨⟩ ⟨a1,⟨⟩⟩;kernel_rfl)
noncomputable def zDj:Ent:=jI (by kernel_rfl) zCH
theorem zA6:OkX 21 [zH] (.p tI) wD:=fX [zDj,zBC,zDW,zE3,zE5,zIF,zHM,zDU,zCP,zDk,qN,zE2] (A:=(jl [jj 52 78062392109437952 [] []])) (fn:=Tryd.f21) (by kernel_rfl) (by kernel_rfl) (by rintro ⟨⟩ ⟨a1,⟨⟩⟩;kernel_rfl)
theorem zEv:OkX 66 [zA2,tU] (.p .bool) qP:=fX [] (A:=fun _=>none) (fn:=Tryd.f66) (by kernel_rfl) (by kernel_rfl) (by rintro ⟨⟩ ⟨a1,a2,⟨⟩⟩;kernel_rfl)
noncomputable def zBb:Ent:=jI (by kernel_rfl) zEv
theorem zKg:OkX 29 [qV,qG] (.p .bool) zCy:=fX [zF8,zBb] (A:=(jl [jj 6 25790417485112089060398336 [] [.t 4 .bool]])) (fn:=Tryd.f29) (by kernel_rfl) (by kernel_rfl) (by rintro ⟨⟩ ⟨a1,a2,⟨⟩⟩;kernel_rfl)
theorem zDH:OkX 60 [zA2,zA2] (.p .bool) qW:=fX [zBb] (A:=(jl [jj 6 5726622976 [] [.t 4 .bool]])) (fn:=Tryd.f60) (by kernel_rfl) (by kernel_rfl) (by rintro ⟨⟩ ⟨a1,a2,⟨⟩⟩;kernel_rfl)
noncomputable def zEy:Ent:=jI (by kernel_rfl) zDH
theorem zGy:OkX 61 [uM,uM] (.p .bool) wL:=fX [] (A:=(jl [jj 6 5726622976 [] [.t 4 .bool]])) (fn:=Tryd.f61) (by kernel_rfl) (by kernel_rfl) (by rintro ⟨⟩ ⟨a1,a2,⟨⟩⟩;kernel_rfl)
noncomputable def zHQ:Ent:=jI (by kernel_rfl) zGy
theorem zLa:OkX 24 [qV,qV] (.p .bool) zD7:=fX [zHQ,zEy] (A:=(jl [jj 6 25790417485112089060398336 [] [.t 4 .bool]])) (fn:=Tryd.f24) (by kernel_rfl) (by kernel_rfl) (by rintro ⟨⟩ ⟨a1,a2,⟨⟩⟩;kernel_rfl)
end Go.Ve

namespace Go.Ve
open Go Go.Proofs Go.Bd Go.Proofs.Bw
noncomputable def wS:MSt→ElS [qV,qG]→Option (MSt×RTy.El (.p .bool)):=fun st0 x=>match x with
 |(a1,a2,())=>
  Option.bind (v8 st0 ()) fun (y0:MSt×Bool)=>
   bif !y0.2 then some (y0.1,false)
   else
    Option.bind
     (Option.bind (uI (a2,())) fun (y3:Bool)=>
      bif !y3 then some (true,y0.1)
      else
       Option.bind
        (wD
         (({ data:= #[(114:UInt8)] },(0:Int),[],[],[],[({ data:= #[(97:UInt8)] },[a1],())],[],[],(false,(0:Int),[],[],()),
           (false,(0:Int), { data:= #[] }, { data:= #[] },[],()),(false,(0:Int),(0:Int),[],[],[],[],[],()),()),
           ()))
        fun (y4:Int)=>some (y4 !=(0:Int),y0.1))
     fun (s5:Bool×MSt)=>
     bif s5.1 then some (s5.2,true)
     else
      Option.bind (vT s5.2 ()) fun (y6:MSt×Nat)=>
       Option.bind (jT y6.1 (y6.2,a1,())) fun (y7:MSt×Int)=>
        Option.bind
         (Option.bind (zFc y7.1 (y6.2,y7.2,())) fun (y14:MSt×Bool)=>
          bif y14.2 then
           Option.bind (jY y14.1 (y6.2,y7.2,a2,())) fun (y15:MSt×Bool)=>
            Option.bind (zCy (a1,a2,())) fun (y16:Bool)=>some (y15.2==y16,y15.1)
          else some (false,y14.1))
         fun (s17:Bool×MSt)=>some (s17.2,s17.1)
noncomputable def wF:MSt→ElS [qV,qV]→Option (MSt×RTy.El (.p .bool)):=fun st0 x=>match x with
 |(a1,a2,())=>
  Option.bind (v8 st0 ()) fun (y0:MSt×Bool)=>
   bif !y0.2 then some (y0.1,false)
   else
    Option.bind
     (wD
      (({ data:= #[(114:UInt8)] },(0:Int),[],[],[],[({ data:= #[(97:UInt8)] },[a1,a2],())],[],[],(false,(0:Int),[],[],()),
        (false,(0:Int), { data:= #[] }, { data:= #[] },[],()),(false,(0:Int),(0:Int),[],[],[],[],[],()),()),
        ()))
     fun (y1:Int)=>
     bif y1 !=(0:Int) then some (y0.1,true)
     else
      Option.bind (vT y0.1 ()) fun (y2:MSt×Nat)=>
       Option.bind (jT y2.1 (y2.2,a1,())) fun (y5:MSt×Int)=>
        Option.bind (jT y5.1 (y2.2,a2,())) fun (y6:MSt×Int)=>
         Option.bind
          (Option.bind (zFc y6.1 (y2.2,y5.2,())) fun (y11:MSt×Bool)=>
           bif y11.2 then
            Option.bind (zD7 (a1,a2,())) fun (y12:Bool)=>
             Option.bind (vK y11.1 (y2.2,y5.2,())) fun (y13:MSt×Int)=>
              Option.bind (zW y13.1 (y2.2,y6.2,y13.2,())) fun (y14:MSt×Int)=>some (y12==(y14.2==(0:Int)),y14.1)
           else some (false,y11.1))
          fun (s15:Bool×MSt)=>some (s15.2,s15.1)
end Go.Ve

namespace Go.Ve
open Go Go.Proofs Go.Bd Go.Proofs.Bw
set_option maxRecDepth 1000000
set_option maxHeartbeats 0
theorem zC6:OkH 7 [qV,qG] (.p .bool) wS:=
 fH [(zAL (by kernel_rfl) (by kernel_rfl) zKg),zHN,zI1,zAM,zAq,(zAL (by kernel_rfl) (by kernel_rfl) zA6),(zAL (by kernel_rfl) (by kernel_rfl) zBT),zA0] (A:=[jj 18 23455890145280 [] [.t 22 .bool, .st],jj 34 402975267200076888408320 [] [.t 4 .bool, .st]]) (fn:=Tryd.f7) (by kernel_rfl) (by kernel_rfl) (by kernel_rfl) (by rintro st0 ⟨a1,a2,⟨⟩⟩;kernel_rfl)
theorem zCK:OkH 5 [qV,qV] (.p .bool) wF:=
 fH [yA,xT,(zAL (by kernel_rfl) (by kernel_rfl) zLa),zI1,zAM,zAq,(zAL (by kernel_rfl) (by kernel_rfl) zA6),zA0] (A:=[jj 34 25790417479107289557238016 [] [.t 4 .bool, .st]]) (fn:=Tryd.f5) (by kernel_rfl) (by kernel_rfl) (by kernel_rfl) (by rintro st0 ⟨a1,a2,⟨⟩⟩;kernel_rfl)
end Go.Ve

namespace Go.Ve
open Go
set_option maxRecDepth 1000000
set_option maxHeartbeats 4000000
theorem zV {α:Type} {xs:List α} {i:Int} {Q:α→Prop} {B:α→Prop} (hB: ∀y,y∈xs→B y) (h0:0≤i) (h1:i<xs.length) (h: ∀y,xs[i.toNat]? =some y→B y→Q y):Wp (idx xs i) Q:=
 jP h0 h1 (fun y hm hy=>h y hy (hB y hm))
structure SmL (r:Ty.El zH):Prop where
 i1:List.length r.2.2.1≤1048576
 i2:List.length r.2.2.2.1≤1048576
 i3:List.length r.2.2.2.2.1≤1048576
 i4:List.length r.2.2.2.2.2.1≤1048576
 i5:List.length r.2.2.2.2.2.2.1≤1048576
 i6:List.length r.2.2.2.2.2.2.2.1≤1048576
 i7:List.length r.2.2.2.2.2.2.2.2.1.2.2.1≤1048576
 i8:List.length r.2.2.2.2.2.2.2.2.1.2.2.2.1≤1048576
 i9:List.length r.2.2.2.2.2.2.2.2.2.1.2.2.2.2.1≤1048576
 i10:List.length r.2.2.2.2.2.2.2.2.2.2.1.2.2.2.1≤1048576
 i11:List.length r.2.2.2.2.2.2.2.2.2.2.1.2.2.2.2.1≤1048576
 i12:List.length r.2.2.2.2.2.2.2.2.2.2.1.2.2.2.2.2.1≤1048576
 i13:List.length r.2.2.2.2.2.2.2.2.2.2.1.2.2.2.2.2.2.1≤1048576
 i14:List.length r.2.2.2.2.2.2.2.2.2.2.1.2.2.2.2.2.2.2.1≤1048576
 n1: ∀y,y∈r.2.2.2.1→List.length y.2.1≤1048576
 n2: ∀y,y∈r.2.2.2.2.1→List.length y.2.1≤1048576
 n3: ∀y,y∈r.2.2.2.2.2.1→List.length y.2.1≤1048576
structure zU1 (r:Ty.El tPV):Prop where
 i10:List.length r.2.2.2.1≤1048576
 i11:List.length r.2.2.2.2.1≤1048576
 i12:List.length r.2.2.2.2.2.1≤1048576
 i13:List.length r.2.2.2.2.2.2.1≤1048576
 i14:List.length r.2.2.2.2.2.2.2.1≤1048576
theorem zKX (a1:Int):Wp (xW (a1,())) (fun _=>True):=zT (zAe a1) trivial
theorem zAb (a1:Ty.El zJ):Wp (jW (a1,())) (fun _=>True):=zT (zBh a1) trivial
theorem zHa (a1:Ty.El zJ) (a2:Int):Wp (uK (a1,a2,())) (fun _=>True):=zT (zBP a1 a2) trivial
theorem zJO (a1:Int):Wp (zB8 (a1,())) (fun _=>True):=zB trivial
theorem j6 {α:Type} {xs:List α} {a b:Int} {Q:List α→Prop} (h0:0≤a) (h1:a≤b) (h2:b≤(xs.length:Int)) (h: ∀ys:List α,ys.length≤xs.length→(∀y,y∈ys→y∈xs)→Q ys):Wp (sub xs a b) Q:=by
 refine ⟨(xs.take b.toNat).drop a.toNat,?_,h _ ?_ (fun y hy=>List.mem_of_mem_take (List.mem_of_mem_drop hy))⟩
 ·unfold sub
  rw [if_pos (by omega)]
 ·rw [List.length_drop,List.length_take];omega
theorem zEX {α:Type} (p:α→Bool) (xs:List α): -1≤zEY p xs∧zEY p xs< (xs.length:Int):=by
 rcases zO6 p xs with ⟨h,_⟩|⟨i,x,h,hx,_⟩
 ·rw [h];exact ⟨by omega,by omega⟩
 ·have:=(List.getElem?_eq_some_iff.1 hx).1
  rw [h];exact ⟨by omega,by omega⟩
theorem zED (r:Ty.El zH) (s:ByteArray) (h:r.2.2.1.length≤1048576):Wp (vJ (r,s,())) (fun k=>k=zEY (fun x:Ty.El vI=>x.1==s) r.2.2.1):=by
 unfold vJ jK
 refine zA (zG4 (p:=fun x:Ty.El vI=>x.1==s) (Nat.lt_of_le_of_lt h (by omega)) (fun i x hx=> ?_) (zB rfl))
 rw [jB hx,Option.bind_some]
 unfold xF
 dsimp only
 rw [Option.bind_some]
 cases x.1==s<;>rfl
theorem zBp (a1:Ty.El zH) (a2:Ty.El .str) (h0:SmL a1):Wp (vJ (a1,a2,())) (fun (r:Int)=> -1≤r∧r< (List.length a1.2.2.1:Int)):=by
 refine (zED a1 a2 (by cases h0;assumption)).mono ?_
 rintro _ rfl
 exact zEX _ _
theorem zEo (r:Ty.El zH) (s:ByteArray) (h:r.2.2.2.1.length≤1048576):Wp (qT (r,s,())) (fun k=>k=zEY (fun x:Ty.El zDv=>x.1==s) r.2.2.2.1):=by
 unfold qT jG
 refine zA (zG4 (p:=fun x:Ty.El zDv=>x.1==s) (Nat.lt_of_le_of_lt h (by omega)) (fun i x hx=> ?_) (zB rfl))
 rw [jB hx,Option.bind_some]
 unfold yK
 dsimp only
 rw [Option.bind_some]
 cases x.1==s<;>rfl
theorem uQ (a1:Ty.El zH) (a2:Ty.El .str) (h0:SmL a1):Wp (qT (a1,a2,())) (fun (r:Int)=> -1≤r∧r< (List.length a1.2.2.2.1:Int)):=by
 refine (zEo a1 a2 (by cases h0;assumption)).mono ?_
 rintro _ rfl
 exact zEX _ _
theorem zFN (r:Ty.El zH) (s:ByteArray) (h:r.2.2.2.2.1.length≤1048576):Wp (jL (r,s,())) (fun k=>k=zEY (fun x:Ty.El zHd=>x.1==s) r.2.2.2.2.1):=by
 unfold jL jQ
 refine zA (zG4 (p:=fun x:Ty.El zHd=>x.1==s) (Nat.lt_of_le_of_lt h (by omega)) (fun i x hx=> ?_) (zB rfl))
 rw [jB hx,Option.bind_some]
 unfold zAk
 dsimp only
 rw [Option.bind_some]
 cases x.1==s<;>rfl
theorem xC (a1:Ty.El zH) (a2:Ty.El .str) (h0:SmL a1):Wp (jL (a1,a2,())) (fun (r:Int)=> -1≤r∧r< (List.length a1.2.2.2.2.1:Int)):=by
 refine (zFN a1 a2 (by cases h0;assumption)).mono ?_
 rintro _ rfl
 exact zEX _ _
theorem zEE (r:Ty.El zH) (s:ByteArray) (h:r.2.2.2.2.2.1.length≤1048576):Wp (u5 (r,s,())) (fun k=>k=zEY (fun x:Ty.El zI8=>x.1==s) r.2.2.2.2.2.1):=by
 unfold u5 w7
 refine zA (zG4 (p:=fun x:Ty.El zI8=>x.1==s) (Nat.lt_of_le_of_lt h (by omega)) (fun i x hx=> ?_) (zB rfl))
 rw [jB hx,Option.bind_some]
 unfold zDK
 dsimp only
 rw [Option.bind_some]
 cases x.1==s<;>rfl
theorem zF0 (a1:Ty.El zH) (a2:Ty.El .str) (h0:SmL a1):Wp (u5 (a1,a2,())) (fun (r:Int)=> -1≤r∧r< (List.length a1.2.2.2.2.2.1:Int)):=by
 refine (zEE a1 a2 (by cases h0;assumption)).mono ?_
 rintro _ rfl
 exact zEX _ _
theorem zG9 (a1:Ty.El zH) (a2:Ty.El tU) (h0:SmL a1):Wp (zAW (a1,a2,())) (fun (r:Int)=> -1≤r∧r< (List.length a1.2.2.1:Int)):=by
 unfold zAW jJ
 refine zA (zG4 (p:=fun x:Ty.El vI=>(kN (x,a2,())).getD false) (Nat.lt_of_le_of_lt h0.i1 (by omega)) (fun i x hx=> ?_) (zB (zEX _ _)))
 rw [jB hx,Option.bind_some]
 have hc:Wp (kN (x,a2,())) (fun _=>True):=by
  unfold kN
  exact zA (zE (fun _=>zB (zB trivial)) (fun _=>zB (zB trivial)))
 obtain ⟨b,hb,_⟩:=hc
 rw [hb,Option.bind_some,Option.getD_some]
 cases b<;>rfl
theorem zI6 (a1:Ty.El (.int .u8))  :Wp (zA3 (a1,())) (fun _=>True):=by
 unfold zA3
 try dsimp only
 repeat' (first
  |with_reducible exact trivial
  |assumption
  |contradiction
  |with_reducible refine zB ?_
  |with_reducible refine zR ?_ ?_ (fun y _ _=> ?_)
  |with_reducible refine j6 ?_ ?_ ?_ (fun ys _ _=> ?_)
  |with_reducible refine jP ?_ ?_ (fun y _ _=> ?_)
  |with_reducible refine wp_bifn (fun _=> ?_) (fun _=> ?_)
  |with_reducible refine zI (fun _=> ?_) (fun _=> ?_)
  |with_reducible refine zE (fun _=> ?_) (fun _=> ?_)
  |with_reducible refine z9 ?_
  |with_reducible refine j7 (fun s _ _=> ?_) (fun s _ _=> ?_)
  |simp only [idx_of ‹_[_]? =some _›,Option.bind_some]
  |with_reducible refine wp_map ?_
  |with_reducible refine zA ?_
  |with_reducible refine e2l ?_
  |with_reducible refine e2r ?_
  |exact wrap_i64 (by omega) (by omega)
  |omega
  |(rw [wrap_i64 (by omega) (by omega)];omega)
  |(simp only [beq_iff_eq] at*;omega)
  |(simp only [List.length_cons,List.length_nil] at*;exact wrap_i64 (by omega) (by omega)))
theorem zJN (a1:Ty.El (.int .u8))  :Wp (scan_digit (a1,())) (fun _=>True):=by
 unfold scan_digit
 try dsimp only
 repeat' (first
  |with_reducible exact trivial
  |assumption
  |contradiction
  |with_reducible refine zB ?_
  |with_reducible refine zR ?_ ?_ (fun y _ _=> ?_)
  |with_reducible refine j6 ?_ ?_ ?_ (fun ys _ _=> ?_)
  |with_reducible refine jP ?_ ?_ (fun y _ _=> ?_)
  |with_reducible refine wp_bifn (fun _=> ?_) (fun _=> ?_)
  |with_reducible refine zI (fun _=> ?_) (fun _=> ?_)
  |with_reducible refine zE (fun _=> ?_) (fun _=> ?_)
  |with_reducible refine z9 ?_
  |with_reducible refine j7 (fun s _ _=> ?_) (fun s _ _=> ?_)
  |simp only [idx_of ‹_[_]? =some _›,Option.bind_some]
  |with_reducible refine wp_map ?_
  |with_reducible refine zA ?_
  |with_reducible refine e2l ?_
  |with_reducible refine e2r ?_
  |exact wrap_i64 (by omega) (by omega)
  |omega
  |(rw [wrap_i64 (by omega) (by omega)];omega)
  |(simp only [beq_iff_eq] at*;omega)
  |(simp only [List.length_cons,List.length_nil] at*;exact wrap_i64 (by omega) (by omega)))
theorem zAV (a1:Ty.El (.str))  :Wp (xL (a1,())) (fun _=>True):=by
 unfold xL
 try dsimp only
 repeat' (first
  |with_reducible exact trivial
  |assumption
  |contradiction
  |with_reducible refine zB ?_
  |with_reducible refine (zI6 _).mono (fun r _=> ?_)
  |with_reducible refine (zJN _).mono (fun r _=> ?_)
  |with_reducible refine zR ?_ ?_ (fun y _ _=> ?_)
  |with_reducible refine j6 ?_ ?_ ?_ (fun ys _ _=> ?_)
  |with_reducible refine jP ?_ ?_ (fun y _ _=> ?_)
  |with_reducible refine wp_bifn (fun _=> ?_) (fun _=> ?_)
  |with_reducible refine zI (fun _=> ?_) (fun _=> ?_)
  |with_reducible refine zE (fun _=> ?_) (fun _=> ?_)
  |with_reducible refine z9 ?_
  |with_reducible refine j7 (fun s _ _=> ?_) (fun s _ _=> ?_)
  |simp only [idx_of ‹_[_]? =some _›,Option.bind_some]
  |with_reducible refine wp_map ?_
  |with_reducible refine zA ?_
  |with_reducible refine e2l ?_
  |with_reducible refine e2r ?_
  |exact wrap_i64 (by omega) (by omega)
  |omega
  |(rw [wrap_i64 (by omega) (by omega)];omega)
  |(simp only [beq_iff_eq] at*;omega)
  |(simp only [List.length_cons,List.length_nil] at*;exact wrap_i64 (by omega) (by omega)))
theorem qS (a1:Ty.El (tI)) (a2:Ty.El (tI)) (a3:Ty.El (tI))  :Wp (zG (a1,a2,a3,())) (fun _=>True):=by
 unfold zG
 try dsimp only
 repeat' (first
  |with_reducible exact trivial
  |assumption
  |contradiction
  |with_reducible refine zB ?_
  |with_reducible refine zR ?_ ?_ (fun y _ _=> ?_)
  |with_reducible refine j6 ?_ ?_ ?_ (fun ys _ _=> ?_)
  |with_reducible refine jP ?_ ?_ (fun y _ _=> ?_)
  |with_reducible refine wp_bifn (fun _=> ?_) (fun _=> ?_)
  |with_reducible refine zI (fun _=> ?_) (fun _=> ?_)
  |with_reducible refine zE (fun _=> ?_) (fun _=> ?_)
  |with_reducible refine z9 ?_
  |with_reducible refine j7 (fun s _ _=> ?_) (fun s _ _=> ?_)
  |simp only [idx_of ‹_[_]? =some _›,Option.bind_some]
  |with_reducible refine wp_map ?_
  |with_reducible refine zA ?_
  |with_reducible refine e2l ?_
  |with_reducible refine e2r ?_
  |exact wrap_i64 (by omega) (by omega)
  |omega
  |(rw [wrap_i64 (by omega) (by omega)];omega)
  |(simp only [beq_iff_eq] at*;omega)
  |(simp only [List.length_cons,List.length_nil] at*;exact wrap_i64 (by omega) (by omega)))
theorem zCB (a1:Ty.El (vI))  :Wp (vO (a1,())) (fun _=>True):=by
 unfold vO
 try dsimp only
 repeat' (first
  |with_reducible exact trivial
  |assumption
  |contradiction
  |with_reducible refine zB ?_
  |with_reducible refine (qS _ _ _).mono (fun r _=> ?_)
  |with_reducible refine zR ?_ ?_ (fun y _ _=> ?_)
  |with_reducible refine j6 ?_ ?_ ?_ (fun ys _ _=> ?_)
  |with_reducible refine jP ?_ ?_ (fun y _ _=> ?_)
  |with_reducible refine wp_bifn (fun _=> ?_) (fun _=> ?_)
  |with_reducible refine zI (fun _=> ?_) (fun _=> ?_)
  |with_reducible refine zE (fun _=> ?_) (fun _=> ?_)
  |with_reducible refine z9 ?_
  |with_reducible refine j7 (fun s _ _=> ?_) (fun s _ _=> ?_)
  |simp only [idx_of ‹_[_]? =some _›,Option.bind_some]
  |with_reducible refine wp_map ?_
  |with_reducible refine zA ?_
  |with_reducible refine e2l ?_
  |with_reducible refine e2r ?_
  |exact wrap_i64 (by omega) (by omega)
  |omega
  |(rw [wrap_i64 (by omega) (by omega)];omega)
  |(simp only [beq_iff_eq] at*;omega)
  |(simp only [List.length_cons,List.length_nil] at*;exact wrap_i64 (by omega) (by omega)))
theorem zH5 (a1:Ty.El (tU)) (a2:Ty.El (tI))  :Wp (zAx (a1,a2,())) (fun _=>True):=by
 unfold zAx
 try dsimp only
 repeat' (first
  |with_reducible exact trivial
  |assumption
  |contradiction
  |with_reducible refine zB ?_
  |with_reducible refine (zKX _).mono (fun r _=> ?_)
  |with_reducible refine (zJO _).mono (fun r _=> ?_)
  |with_reducible refine zR ?_ ?_ (fun y _ _=> ?_)
  |with_reducible refine j6 ?_ ?_ ?_ (fun ys _ _=> ?_)
  |with_reducible refine jP ?_ ?_ (fun y _ _=> ?_)
  |with_reducible refine wp_bifn (fun _=> ?_) (fun _=> ?_)
  |with_reducible refine zI (fun _=> ?_) (fun _=> ?_)
  |with_reducible refine zE (fun _=> ?_) (fun _=> ?_)
  |with_reducible refine z9 ?_
  |with_reducible refine j7 (fun s _ _=> ?_) (fun s _ _=> ?_)
  |simp only [idx_of ‹_[_]? =some _›,Option.bind_some]
  |with_reducible refine wp_map ?_
  |with_reducible refine zA ?_
  |with_reducible refine e2l ?_
  |with_reducible refine e2r ?_
  |exact wrap_i64 (by omega) (by omega)
  |omega
  |(rw [wrap_i64 (by omega) (by omega)];omega)
  |(simp only [beq_iff_eq] at*;omega)
  |(simp only [List.length_cons,List.length_nil] at*;exact wrap_i64 (by omega) (by omega)))
theorem zI7 (a1:Ty.El (zJ)) (a2:Ty.El (zJ))  :Wp (zBe (a1,a2,())) (fun _=>True):=by
 unfold zBe
 try dsimp only
 repeat' (first
  |with_reducible exact trivial
  |assumption
  |contradiction
  |with_reducible refine zB ?_
  |with_reducible refine (zHa _ _).mono (fun r _=> ?_)
  |with_reducible refine zR ?_ ?_ (fun y _ _=> ?_)
  |with_reducible refine j6 ?_ ?_ ?_ (fun ys _ _=> ?_)
  |with_reducible refine jP ?_ ?_ (fun y _ _=> ?_)
  |with_reducible refine wp_bifn (fun _=> ?_) (fun _=> ?_)
  |with_reducible refine zI (fun _=> ?_) (fun _=> ?_)
  |with_reducible refine zE (fun _=> ?_) (fun _=> ?_)
  |with_reducible refine z9 ?_
  |with_reducible refine j7 (fun s _ _=> ?_) (fun s _ _=> ?_)
  |simp only [idx_of ‹_[_]? =some _›,Option.bind_some]
  |with_reducible refine wp_map ?_
  |with_reducible refine zA ?_
  |with_reducible refine e2l ?_
  |with_reducible refine e2r ?_
  |exact wrap_i64 (by omega) (by omega)
  |omega
  |(rw [wrap_i64 (by omega) (by omega)];omega)
  |(simp only [beq_iff_eq] at*;omega)
  |(simp only [List.length_cons,List.length_nil] at*;exact wrap_i64 (by omega) (by omega)))
theorem zCl (a1:Ty.El (zJ)) (a2:Ty.El (zJ))  :Wp (yU (a1,a2,())) (fun _=>True):=by
 unfold yU
 try dsimp only
 repeat' (first
  |with_reducible exact trivial
  |assumption
  |contradiction
  |with_reducible refine zB ?_
  |with_reducible refine (zI7 _ _).mono (fun r _=> ?_)
  |with_reducible refine zR ?_ ?_ (fun y _ _=> ?_)
  |with_reducible refine j6 ?_ ?_ ?_ (fun ys _ _=> ?_)
  |with_reducible refine jP ?_ ?_ (fun y _ _=> ?_)
  |with_reducible refine wp_bifn (fun _=> ?_) (fun _=> ?_)
  |with_reducible refine zI (fun _=> ?_) (fun _=> ?_)
  |with_reducible refine zE (fun _=> ?_) (fun _=> ?_)
  |with_reducible refine z9 ?_
  |with_reducible refine j7 (fun s _ _=> ?_) (fun s _ _=> ?_)
  |simp only [idx_of ‹_[_]? =some _›,Option.bind_some]
  |with_reducible refine wp_map ?_
  |with_reducible refine zA ?_
  |with_reducible refine e2l ?_
  |with_reducible refine e2r ?_
  |exact wrap_i64 (by omega) (by omega)
  |omega
  |(rw [wrap_i64 (by omega) (by omega)];omega)
  |(simp only [beq_iff_eq] at*;omega)
  |(simp only [List.length_cons,List.length_nil] at*;exact wrap_i64 (by omega) (by omega)))
theorem zCc (a1:Ty.El (zH)) (h0:SmL a1):Wp (vE (a1,())) (fun _=>True):=by
 have hh0:=h0
 obtain ⟨i1,i2,i3,i4,i5,i6,i7,i8,i9,i10,i11,i12,i13,i14,n1,n2,n3⟩:=hh0
 unfold vE
 try dsimp only
 repeat' (first
  |with_reducible exact trivial
  |exact ⟨i10,i11,i12,i13,i14⟩
  |assumption
  |contradiction
  |with_reducible refine zB ?_
  |with_reducible refine (zAV _).mono (fun r _=> ?_)
  |with_reducible refine (zBp _ _ ?_).mono (fun r _=> ?_)
  |with_reducible refine (zCB _).mono (fun r _=> ?_)
  |with_reducible refine (zH5 _ _).mono (fun r _=> ?_)
  |with_reducible refine (zCl _ _).mono (fun r _=> ?_)
  |with_reducible refine zR ?_ ?_ (fun y _ _=> ?_)
  |with_reducible refine zV n1 ?_ ?_ (fun y _ _=> ?_)
  |with_reducible refine zV n2 ?_ ?_ (fun y _ _=> ?_)
  |with_reducible refine zV n3 ?_ ?_ (fun y _ _=> ?_)
  |with_reducible refine j6 ?_ ?_ ?_ (fun ys _ _=> ?_)
  |with_reducible refine jP ?_ ?_ (fun y _ _=> ?_)
  |with_reducible refine wp_bifn (fun _=> ?_) (fun _=> ?_)
  |with_reducible refine zI (fun _=> ?_) (fun _=> ?_)
  |with_reducible refine zE (fun _=> ?_) (fun _=> ?_)
  |with_reducible refine z9 ?_
  |with_reducible refine j7 (fun s _ _=> ?_) (fun s _ _=> ?_)
  |simp only [idx_of ‹_[_]? =some _›,Option.bind_some]
  |with_reducible refine wp_map ?_
  |with_reducible refine zA ?_
  |with_reducible refine e2l ?_
  |with_reducible refine e2r ?_
  |exact wrap_i64 (by omega) (by omega)
  |omega
  |(rw [wrap_i64 (by omega) (by omega)];omega)
  |(simp only [beq_iff_eq] at*;omega)
  |(simp only [List.length_cons,List.length_nil] at*;exact wrap_i64 (by omega) (by omega)))
theorem zBo (a1:Ty.El (tI)) (a2:Ty.El (tI)) (a3:Ty.El (.str)) (a4:Ty.El (tI)) (a5:Ty.El (tI))  :Wp (wH (a1,a2,a3,a4,a5,())) (fun _=>True):=by
 unfold wH
 try dsimp only
 repeat' (first
  |with_reducible exact trivial
  |assumption
  |contradiction
  |with_reducible refine zB ?_
  |with_reducible refine (zAV _).mono (fun r _=> ?_)
  |with_reducible refine zR ?_ ?_ (fun y _ _=> ?_)
  |with_reducible refine j6 ?_ ?_ ?_ (fun ys _ _=> ?_)
  |with_reducible refine jP ?_ ?_ (fun y _ _=> ?_)
  |with_reducible refine wp_bifn (fun _=> ?_) (fun _=> ?_)
  |with_reducible refine zI (fun _=> ?_) (fun _=> ?_)
  |with_reducible refine zE (fun _=> ?_) (fun _=> ?_)
  |with_reducible refine z9 ?_
  |with_reducible refine j7 (fun s _ _=> ?_) (fun s _ _=> ?_)
  |simp only [idx_of ‹_[_]? =some _›,Option.bind_some]
  |with_reducible refine wp_map ?_
  |with_reducible refine zA ?_
  |with_reducible refine e2l ?_
  |with_reducible refine e2r ?_
  |exact wrap_i64 (by omega) (by omega)
  |omega
  |(rw [wrap_i64 (by omega) (by omega)];omega)
  |(simp only [beq_iff_eq] at*;omega)
  |(simp only [List.length_cons,List.length_nil] at*;exact wrap_i64 (by omega) (by omega)))
theorem zBN (a1:Ty.El (zH)) (h0:SmL a1):Wp (wQ (a1,())) (fun _=>True):=by
 have hh0:=h0
 obtain ⟨i1,i2,i3,i4,i5,i6,i7,i8,i9,i10,i11,i12,i13,i14,n1,n2,n3⟩:=hh0
 unfold wQ
 try dsimp only
 repeat' (first
  |with_reducible exact trivial
  |exact ⟨i10,i11,i12,i13,i14⟩
  |assumption
  |contradiction
  |with_reducible refine zB ?_
  |with_reducible refine (uQ _ _ ?_).mono (fun r _=> ?_)
  |with_reducible refine (zBo _ _ _ _ _).mono (fun r _=> ?_)
  |with_reducible refine (zAb _).mono (fun r _=> ?_)
  |with_reducible refine zR ?_ ?_ (fun y _ _=> ?_)
  |with_reducible refine zV n1 ?_ ?_ (fun y _ _=> ?_)
  |with_reducible refine zV n2 ?_ ?_ (fun y _ _=> ?_)
  |with_reducible refine zV n3 ?_ ?_ (fun y _ _=> ?_)
  |with_reducible refine j6 ?_ ?_ ?_ (fun ys _ _=> ?_)
  |with_reducible refine jP ?_ ?_ (fun y _ _=> ?_)
  |with_reducible refine wp_bifn (fun _=> ?_) (fun _=> ?_)
  |with_reducible refine zI (fun _=> ?_) (fun _=> ?_)
  |with_reducible refine zE (fun _=> ?_) (fun _=> ?_)
  |with_reducible refine z9 ?_
  |with_reducible refine j7 (fun s _ _=> ?_) (fun s _ _=> ?_)
  |simp only [idx_of ‹_[_]? =some _›,Option.bind_some]
  |with_reducible refine wp_map ?_
  |with_reducible refine zA ?_
  |with_reducible refine e2l ?_
  |with_reducible refine e2r ?_
  |exact wrap_i64 (by omega) (by omega)
  |omega
  |(rw [wrap_i64 (by omega) (by omega)];omega)
  |(simp only [beq_iff_eq] at*;omega)
  |(simp only [List.length_cons,List.length_nil] at*;exact wrap_i64 (by omega) (by omega)))
theorem zEn (a1:Ty.El (zHe))  :Wp (uP (a1,())) (fun _=>True):=by
 unfold uP
 try dsimp only
 repeat' (first
  |with_reducible exact trivial
  |assumption
  |contradiction
  |with_reducible refine zB ?_
  |with_reducible refine (qS _ _ _).mono (fun r _=> ?_)
  |with_reducible refine zR ?_ ?_ (fun y _ _=> ?_)
  |with_reducible refine j6 ?_ ?_ ?_ (fun ys _ _=> ?_)
  |with_reducible refine jP ?_ ?_ (fun y _ _=> ?_)
  |with_reducible refine wp_bifn (fun _=> ?_) (fun _=> ?_)
  |with_reducible refine zI (fun _=> ?_) (fun _=> ?_)
  |with_reducible refine zE (fun _=> ?_) (fun _=> ?_)
  |with_reducible refine z9 ?_
  |with_reducible refine j7 (fun s _ _=> ?_) (fun s _ _=> ?_)
  |simp only [idx_of ‹_[_]? =some _›,Option.bind_some]
  |with_reducible refine wp_map ?_
  |with_reducible refine zA ?_
  |with_reducible refine e2l ?_
  |with_reducible refine e2r ?_
  |exact wrap_i64 (by omega) (by omega)
  |omega
  |(rw [wrap_i64 (by omega) (by omega)];omega)
  |(simp only [beq_iff_eq] at*;omega)
  |(simp only [List.length_cons,List.length_nil] at*;exact wrap_i64 (by omega) (by omega)))
theorem zCC (a1:Ty.El (zH)) (h0:SmL a1):Wp (vP (a1,())) (fun _=>True):=by
 have hh0:=h0
 obtain ⟨i1,i2,i3,i4,i5,i6,i7,i8,i9,i10,i11,i12,i13,i14,n1,n2,n3⟩:=hh0
 unfold vP
 try dsimp only
 repeat' (first
  |with_reducible exact trivial
  |exact ⟨i10,i11,i12,i13,i14⟩
  |assumption
  |contradiction
  |with_reducible refine zB ?_
  |with_reducible refine (xC _ _ ?_).mono (fun r _=> ?_)
  |with_reducible refine (zBo _ _ _ _ _).mono (fun r _=> ?_)
  |with_reducible refine (uQ _ _ ?_).mono (fun r _=> ?_)
  |with_reducible refine (zEn _).mono (fun r _=> ?_)
  |with_reducible refine zR ?_ ?_ (fun y _ _=> ?_)
  |with_reducible refine zV n1 ?_ ?_ (fun y _ _=> ?_)
  |with_reducible refine zV n2 ?_ ?_ (fun y _ _=> ?_)
  |with_reducible refine zV n3 ?_ ?_ (fun y _ _=> ?_)
  |with_reducible refine j6 ?_ ?_ ?_ (fun ys _ _=> ?_)
  |with_reducible refine jP ?_ ?_ (fun y _ _=> ?_)
  |with_reducible refine wp_bifn (fun _=> ?_) (fun _=> ?_)
  |with_reducible refine zI (fun _=> ?_) (fun _=> ?_)
  |with_reducible refine zE (fun _=> ?_) (fun _=> ?_)
  |with_reducible refine z9 ?_
  |with_reducible refine j7 (fun s _ _=> ?_) (fun s _ _=> ?_)
  |simp only [idx_of ‹_[_]? =some _›,Option.bind_some]
  |with_reducible refine wp_map ?_
  |with_reducible refine zA ?_
  |with_reducible refine e2l ?_
  |with_reducible refine e2r ?_
  |exact wrap_i64 (by omega) (by omega)
  |omega
  |(rw [wrap_i64 (by omega) (by omega)];omega)
  |(simp only [beq_iff_eq] at*;omega)
  |(simp only [List.length_cons,List.length_nil] at*;exact wrap_i64 (by omega) (by omega)))
theorem zBM (a1:Ty.El (zRu))  :Wp (wP (a1,())) (fun _=>True):=by
 unfold wP
 try dsimp only
 repeat' (first
  |with_reducible exact trivial
  |assumption
  |contradiction
  |with_reducible refine zB ?_
  |with_reducible refine (qS _ _ _).mono (fun r _=> ?_)
  |with_reducible refine zR ?_ ?_ (fun y _ _=> ?_)
  |with_reducible refine j6 ?_ ?_ ?_ (fun ys _ _=> ?_)
  |with_reducible refine jP ?_ ?_ (fun y _ _=> ?_)
  |with_reducible refine wp_bifn (fun _=> ?_) (fun _=> ?_)
  |with_reducible refine zI (fun _=> ?_) (fun _=> ?_)
  |with_reducible refine zE (fun _=> ?_) (fun _=> ?_)
  |with_reducible refine z9 ?_
  |with_reducible refine j7 (fun s _ _=> ?_) (fun s _ _=> ?_)
  |simp only [idx_of ‹_[_]? =some _›,Option.bind_some]
  |with_reducible refine wp_map ?_
  |with_reducible refine zA ?_
  |with_reducible refine e2l ?_
  |with_reducible refine e2r ?_
  |exact wrap_i64 (by omega) (by omega)
  |omega
  |(rw [wrap_i64 (by omega) (by omega)];omega)
  |(simp only [beq_iff_eq] at*;omega)
  |(simp only [List.length_cons,List.length_nil] at*;exact wrap_i64 (by omega) (by omega)))
theorem zGh (a1:Ty.El (zH)) (h0:SmL a1):Wp (zAj (a1,())) (fun _=>True):=by
 have hh0:=h0
 obtain ⟨i1,i2,i3,i4,i5,i6,i7,i8,i9,i10,i11,i12,i13,i14,n1,n2,n3⟩:=hh0
 unfold zAj
 try dsimp only
 repeat' (first
  |with_reducible exact trivial
  |exact ⟨i10,i11,i12,i13,i14⟩
  |assumption
  |contradiction
  |with_reducible refine zB ?_
  |with_reducible refine (zBM _).mono (fun r _=> ?_)
  |with_reducible refine (zF0 _ _ ?_).mono (fun r _=> ?_)
  |with_reducible refine zR ?_ ?_ (fun y _ _=> ?_)
  |with_reducible refine zV n1 ?_ ?_ (fun y _ _=> ?_)
  |with_reducible refine zV n2 ?_ ?_ (fun y _ _=> ?_)
  |with_reducible refine zV n3 ?_ ?_ (fun y _ _=> ?_)
  |with_reducible refine j6 ?_ ?_ ?_ (fun ys _ _=> ?_)
  |with_reducible refine jP ?_ ?_ (fun y _ _=> ?_)
  |with_reducible refine wp_bifn (fun _=> ?_) (fun _=> ?_)
  |with_reducible refine zI (fun _=> ?_) (fun _=> ?_)
  |with_reducible refine zE (fun _=> ?_) (fun _=> ?_)
  |with_reducible refine z9 ?_
  |with_reducible refine j7 (fun s _ _=> ?_) (fun s _ _=> ?_)
  |simp only [idx_of ‹_[_]? =some _›,Option.bind_some]
  |with_reducible refine wp_map ?_
  |with_reducible refine zA ?_
  |with_reducible refine e2l ?_
  |with_reducible refine e2r ?_
  |exact wrap_i64 (by omega) (by omega)
  |omega
  |(rw [wrap_i64 (by omega) (by omega)];omega)
  |(simp only [beq_iff_eq] at*;omega)
  |(simp only [List.length_cons,List.length_nil] at*;exact wrap_i64 (by omega) (by omega)))
theorem zDt (a1:Ty.El (zH)) (h0:SmL a1):Wp (uB (a1,())) (fun _=>True):=by
 have hh0:=h0
 obtain ⟨i1,i2,i3,i4,i5,i6,i7,i8,i9,i10,i11,i12,i13,i14,n1,n2,n3⟩:=hh0
 unfold uB
 try dsimp only
 repeat' (first
  |with_reducible exact trivial
  |exact ⟨i10,i11,i12,i13,i14⟩
  |assumption
  |contradiction
  |with_reducible refine zB ?_
  |with_reducible refine (zF0 _ _ ?_).mono (fun r _=> ?_)
  |with_reducible refine zR ?_ ?_ (fun y _ _=> ?_)
  |with_reducible refine zV n1 ?_ ?_ (fun y _ _=> ?_)
  |with_reducible refine zV n2 ?_ ?_ (fun y _ _=> ?_)
  |with_reducible refine zV n3 ?_ ?_ (fun y _ _=> ?_)
  |with_reducible refine j6 ?_ ?_ ?_ (fun ys _ _=> ?_)
  |with_reducible refine jP ?_ ?_ (fun y _ _=> ?_)
  |with_reducible refine wp_bifn (fun _=> ?_) (fun _=> ?_)
  |with_reducible refine zI (fun _=> ?_) (fun _=> ?_)
  |with_reducible refine zE (fun _=> ?_) (fun _=> ?_)
  |with_reducible refine z9 ?_
  |with_reducible refine j7 (fun s _ _=> ?_) (fun s _ _=> ?_)
  |simp only [idx_of ‹_[_]? =some _›,Option.bind_some]
  |with_reducible refine wp_map ?_
  |with_reducible refine zA ?_
  |with_reducible refine e2l ?_
  |with_reducible refine e2r ?_
  |exact wrap_i64 (by omega) (by omega)
  |omega
  |(rw [wrap_i64 (by omega) (by omega)];omega)
  |(simp only [beq_iff_eq] at*;omega)
  |(simp only [List.length_cons,List.length_nil] at*;exact wrap_i64 (by omega) (by omega)))
theorem zEm (a1:Ty.El (zH)) (a2:Ty.El (zDu)) (h0:SmL a1):Wp (uO (a1,a2,())) (fun _=>True):=by
 have hh0:=h0
 obtain ⟨i1,i2,i3,i4,i5,i6,i7,i8,i9,i10,i11,i12,i13,i14,n1,n2,n3⟩:=hh0
 unfold uO
 try dsimp only
 refine zA (zLX (by simp) (fun _ _=>True) trivial (fun i x g hx _=>zA (zT (jB hx) (zE (fun _=>zB trivial) (fun _=>zB trivial)))) (fun g _=> ?_))
 repeat' (first
  |with_reducible exact trivial
  |exact ⟨i10,i11,i12,i13,i14⟩
  |assumption
  |contradiction
  |with_reducible refine zB ?_
  |with_reducible refine (zAb _).mono (fun r _=> ?_)
  |with_reducible refine (zG9 _ _ ?_).mono (fun r _=> ?_)
  |with_reducible refine (qS _ _ _).mono (fun r _=> ?_)
  |with_reducible refine zR ?_ ?_ (fun y _ _=> ?_)
  |with_reducible refine zV n1 ?_ ?_ (fun y _ _=> ?_)
  |with_reducible refine zV n2 ?_ ?_ (fun y _ _=> ?_)
  |with_reducible refine zV n3 ?_ ?_ (fun y _ _=> ?_)
  |with_reducible refine j6 ?_ ?_ ?_ (fun ys _ _=> ?_)
  |with_reducible refine jP ?_ ?_ (fun y _ _=> ?_)
  |with_reducible refine wp_bifn (fun _=> ?_) (fun _=> ?_)
  |with_reducible refine zI (fun _=> ?_) (fun _=> ?_)
  |with_reducible refine zE (fun _=> ?_) (fun _=> ?_)
  |with_reducible refine z9 ?_
  |with_reducible refine j7 (fun s _ _=> ?_) (fun s _ _=> ?_)
  |simp only [idx_of ‹_[_]? =some _›,Option.bind_some]
  |with_reducible refine wp_map ?_
  |with_reducible refine zA ?_
  |with_reducible refine e2l ?_
  |with_reducible refine e2r ?_
  |exact wrap_i64 (by omega) (by omega)
  |omega
  |(rw [wrap_i64 (by omega) (by omega)];omega)
  |(simp only [beq_iff_eq] at*;omega)
  |(simp only [List.length_cons,List.length_nil] at*;exact wrap_i64 (by omega) (by omega)))
theorem zDr (a1:Ty.El (zH)) (h0:SmL a1):Wp (kZ (a1,())) (fun _=>True):=by
 have hh0:=h0
 obtain ⟨i1,i2,i3,i4,i5,i6,i7,i8,i9,i10,i11,i12,i13,i14,n1,n2,n3⟩:=hh0
 unfold kZ
 try dsimp only
 repeat' (first
  |with_reducible exact trivial
  |exact ⟨i10,i11,i12,i13,i14⟩
  |assumption
  |contradiction
  |with_reducible refine zB ?_
  |with_reducible refine (zEm _ _ ?_).mono (fun r _=> ?_)
  |with_reducible refine (zBp _ _ ?_).mono (fun r _=> ?_)
  |with_reducible refine zR ?_ ?_ (fun y _ _=> ?_)
  |with_reducible refine zV n1 ?_ ?_ (fun y _ _=> ?_)
  |with_reducible refine zV n2 ?_ ?_ (fun y _ _=> ?_)
  |with_reducible refine zV n3 ?_ ?_ (fun y _ _=> ?_)
  |with_reducible refine j6 ?_ ?_ ?_ (fun ys _ _=> ?_)
  |with_reducible refine jP ?_ ?_ (fun y _ _=> ?_)
  |with_reducible refine wp_bifn (fun _=> ?_) (fun _=> ?_)
  |with_reducible refine zI (fun _=> ?_) (fun _=> ?_)
  |with_reducible refine zE (fun _=> ?_) (fun _=> ?_)
  |with_reducible refine z9 ?_
  |with_reducible refine j7 (fun s _ _=> ?_) (fun s _ _=> ?_)
  |simp only [idx_of ‹_[_]? =some _›,Option.bind_some]
  |with_reducible refine wp_map ?_
  |with_reducible refine zA ?_
  |with_reducible refine e2l ?_
  |with_reducible refine e2r ?_
  |exact wrap_i64 (by omega) (by omega)
  |omega
  |(rw [wrap_i64 (by omega) (by omega)];omega)
  |(simp only [beq_iff_eq] at*;omega)
  |(simp only [List.length_cons,List.length_nil] at*;exact wrap_i64 (by omega) (by omega)))
theorem uL (a1:Ty.El (zH)) (a2:Ty.El (.sl zBt)) (a3:Ty.El (tI)) (a4:Ty.El (tI)) (a5:Ty.El (tI)) (a6:Ty.El (tI)) (h0:SmL a1) (h1:List.length a2≤1048576):Wp (wC (a1,a2,a3,a4,a5,a6,())) (fun _=>True):=by
 have hh0:=h0
 obtain ⟨i1,i2,i3,i4,i5,i6,i7,i8,i9,i10,i11,i12,i13,i14,n1,n2,n3⟩:=hh0
 unfold wC
 try dsimp only
 repeat' (first
  |with_reducible exact trivial
  |exact ⟨i10,i11,i12,i13,i14⟩
  |assumption
  |contradiction
  |with_reducible refine zB ?_
  |with_reducible refine (qS _ _ _).mono (fun r _=> ?_)
  |with_reducible refine (xC _ _ ?_).mono (fun r _=> ?_)
  |with_reducible refine zR ?_ ?_ (fun y _ _=> ?_)
  |with_reducible refine zV n1 ?_ ?_ (fun y _ _=> ?_)
  |with_reducible refine zV n2 ?_ ?_ (fun y _ _=> ?_)
  |with_reducible refine zV n3 ?_ ?_ (fun y _ _=> ?_)
  |with_reducible refine j6 ?_ ?_ ?_ (fun ys _ _=> ?_)
  |with_reducible refine jP ?_ ?_ (fun y _ _=> ?_)
  |with_reducible refine wp_bifn (fun _=> ?_) (fun _=> ?_)
  |with_reducible refine zI (fun _=> ?_) (fun _=> ?_)
  |with_reducible refine zE (fun _=> ?_) (fun _=> ?_)
  |with_reducible refine z9 ?_
  |with_reducible refine j7 (fun s _ _=> ?_) (fun s _ _=> ?_)
  |simp only [idx_of ‹_[_]? =some _›,Option.bind_some]
  |with_reducible refine wp_map ?_
  |with_reducible refine zA ?_
  |with_reducible refine e2l ?_
  |with_reducible refine e2r ?_
  |exact wrap_i64 (by omega) (by omega)
  |omega
  |(rw [wrap_i64 (by omega) (by omega)];omega)
  |(simp only [beq_iff_eq] at*;omega)
  |(simp only [List.length_cons,List.length_nil] at*;exact wrap_i64 (by omega) (by omega)))
theorem zCE (a1:Ty.El (zH)) (h0:SmL a1):Wp (vR (a1,())) (fun _=>True):=by
 have hh0:=h0
 obtain ⟨i1,i2,i3,i4,i5,i6,i7,i8,i9,i10,i11,i12,i13,i14,n1,n2,n3⟩:=hh0
 unfold vR
 try dsimp only
 repeat' (first
  |with_reducible exact trivial
  |exact ⟨i10,i11,i12,i13,i14⟩
  |assumption
  |contradiction
  |with_reducible refine zB ?_
  |with_reducible refine (qS _ _ _).mono (fun r _=> ?_)
  |with_reducible refine (zAb _).mono (fun r _=> ?_)
  |with_reducible refine (zCl _ _).mono (fun r _=> ?_)
  |with_reducible refine (uL _ _ _ _ _ _ ?_ ?_).mono (fun r _=> ?_)
  |with_reducible refine zR ?_ ?_ (fun y _ _=> ?_)
  |with_reducible refine zV n1 ?_ ?_ (fun y _ _=> ?_)
  |with_reducible refine zV n2 ?_ ?_ (fun y _ _=> ?_)
  |with_reducible refine zV n3 ?_ ?_ (fun y _ _=> ?_)
  |with_reducible refine j6 ?_ ?_ ?_ (fun ys _ _=> ?_)
  |with_reducible refine jP ?_ ?_ (fun y _ _=> ?_)
  |with_reducible refine wp_bifn (fun _=> ?_) (fun _=> ?_)
  |with_reducible refine zI (fun _=> ?_) (fun _=> ?_)
  |with_reducible refine zE (fun _=> ?_) (fun _=> ?_)
  |with_reducible refine z9 ?_
  |with_reducible refine j7 (fun s _ _=> ?_) (fun s _ _=> ?_)
  |simp only [idx_of ‹_[_]? =some _›,Option.bind_some]
  |with_reducible refine wp_map ?_
  |with_reducible refine zA ?_
  |with_reducible refine e2l ?_
  |with_reducible refine e2r ?_
  |exact wrap_i64 (by omega) (by omega)
  |omega
  |(rw [wrap_i64 (by omega) (by omega)];omega)
  |(simp only [beq_iff_eq] at*;omega)
  |(simp only [List.length_cons,List.length_nil] at*;exact wrap_i64 (by omega) (by omega)))
theorem zA1 (a1:Ty.El (zH)) (h0:SmL a1):Wp (jR (a1,())) (fun _=>True):=by
 have hh0:=h0
 obtain ⟨i1,i2,i3,i4,i5,i6,i7,i8,i9,i10,i11,i12,i13,i14,n1,n2,n3⟩:=hh0
 unfold jR
 try dsimp only
 repeat' (first
  |with_reducible exact trivial
  |exact ⟨i10,i11,i12,i13,i14⟩
  |assumption
  |contradiction
  |with_reducible refine zB ?_
  |with_reducible refine (qS _ _ _).mono (fun r _=> ?_)
  |with_reducible refine (uQ _ _ ?_).mono (fun r _=> ?_)
  |with_reducible refine (uL _ _ _ _ _ _ ?_ ?_).mono (fun r _=> ?_)
  |with_reducible refine zR ?_ ?_ (fun y _ _=> ?_)
  |with_reducible refine zV n1 ?_ ?_ (fun y _ _=> ?_)
  |with_reducible refine zV n2 ?_ ?_ (fun y _ _=> ?_)
  |with_reducible refine zV n3 ?_ ?_ (fun y _ _=> ?_)
  |with_reducible refine j6 ?_ ?_ ?_ (fun ys _ _=> ?_)
  |with_reducible refine jP ?_ ?_ (fun y _ _=> ?_)
  |with_reducible refine wp_bifn (fun _=> ?_) (fun _=> ?_)
  |with_reducible refine zI (fun _=> ?_) (fun _=> ?_)
  |with_reducible refine zE (fun _=> ?_) (fun _=> ?_)
  |with_reducible refine z9 ?_
  |with_reducible refine j7 (fun s _ _=> ?_) (fun s _ _=> ?_)
  |simp only [idx_of ‹_[_]? =some _›,Option.bind_some]
  |with_reducible refine wp_map ?_
  |with_reducible refine zA ?_
  |with_reducible refine e2l ?_
  |with_reducible refine e2r ?_
  |exact wrap_i64 (by omega) (by omega)
  |omega
  |(rw [wrap_i64 (by omega) (by omega)];omega)
  |(simp only [beq_iff_eq] at*;omega)
  |(simp only [List.length_cons,List.length_nil] at*;exact wrap_i64 (by omega) (by omega)))
theorem zCD (a1:Ty.El (zH)) (h0:SmL a1):Wp (vQ (a1,())) (fun _=>True):=by
 have hh0:=h0
 obtain ⟨i1,i2,i3,i4,i5,i6,i7,i8,i9,i10,i11,i12,i13,i14,n1,n2,n3⟩:=hh0
 unfold vQ
 try dsimp only
 repeat' (first
  |with_reducible exact trivial
  |exact ⟨i10,i11,i12,i13,i14⟩
  |assumption
  |contradiction
  |with_reducible refine zB ?_
  |with_reducible refine (qS _ _ _).mono (fun r _=> ?_)
  |with_reducible refine (xC _ _ ?_).mono (fun r _=> ?_)
  |with_reducible refine zR ?_ ?_ (fun y _ _=> ?_)
  |with_reducible refine zV n1 ?_ ?_ (fun y _ _=> ?_)
  |with_reducible refine zV n2 ?_ ?_ (fun y _ _=> ?_)
  |with_reducible refine zV n3 ?_ ?_ (fun y _ _=> ?_)
  |with_reducible refine j6 ?_ ?_ ?_ (fun ys _ _=> ?_)
  |with_reducible refine jP ?_ ?_ (fun y _ _=> ?_)
  |with_reducible refine wp_bifn (fun _=> ?_) (fun _=> ?_)
  |with_reducible refine zI (fun _=> ?_) (fun _=> ?_)
  |with_reducible refine zE (fun _=> ?_) (fun _=> ?_)
  |with_reducible refine z9 ?_
  |with_reducible refine j7 (fun s _ _=> ?_) (fun s _ _=> ?_)
  |simp only [idx_of ‹_[_]? =some _›,Option.bind_some]
  |with_reducible refine wp_map ?_
  |with_reducible refine zA ?_
  |with_reducible refine e2l ?_
  |with_reducible refine e2r ?_
  |exact wrap_i64 (by omega) (by omega)
  |omega
  |(rw [wrap_i64 (by omega) (by omega)];omega)
  |(simp only [beq_iff_eq] at*;omega)
  |(simp only [List.length_cons,List.length_nil] at*;exact wrap_i64 (by omega) (by omega)))
theorem zCS (a1:Ty.El (.sl zJ)) (a2:Ty.El (zJ)) (h0:List.length a1≤1048576):Wp (kC (a1,a2,())) (fun _=>True):=by
 unfold kC
 try dsimp only
 repeat' (first
  |with_reducible exact trivial
  |assumption
  |contradiction
  |with_reducible refine zB ?_
  |with_reducible refine zR ?_ ?_ (fun y _ _=> ?_)
  |with_reducible refine j6 ?_ ?_ ?_ (fun ys _ _=> ?_)
  |with_reducible refine jP ?_ ?_ (fun y _ _=> ?_)
  |with_reducible refine wp_bifn (fun _=> ?_) (fun _=> ?_)
  |with_reducible refine zI (fun _=> ?_) (fun _=> ?_)
  |with_reducible refine zE (fun _=> ?_) (fun _=> ?_)
  |with_reducible refine z9 ?_
  |with_reducible refine j7 (fun s _ _=> ?_) (fun s _ _=> ?_)
  |simp only [idx_of ‹_[_]? =some _›,Option.bind_some]
  |with_reducible refine wp_map ?_
  |with_reducible refine zA ?_
  |with_reducible refine e2l ?_
  |with_reducible refine e2r ?_
  |exact wrap_i64 (by omega) (by omega)
  |omega
  |(rw [wrap_i64 (by omega) (by omega)];omega)
  |(simp only [beq_iff_eq] at*;omega)
  |(simp only [List.length_cons,List.length_nil] at*;exact wrap_i64 (by omega) (by omega)))
theorem zBL (a1:Ty.El (.sl zJ)) (a2:Ty.El (zJ)) (h0:List.length a1≤1048576):Wp (wN (a1,a2,())) (fun _=>True):=by
 unfold wN
 try dsimp only
 repeat' (first
  |with_reducible exact trivial
  |assumption
  |contradiction
  |with_reducible refine zB ?_
  |with_reducible refine (zCS _ _ ?_).mono (fun r _=> ?_)
  |with_reducible refine zR ?_ ?_ (fun y _ _=> ?_)
  |with_reducible refine j6 ?_ ?_ ?_ (fun ys _ _=> ?_)
  |with_reducible refine jP ?_ ?_ (fun y _ _=> ?_)
  |with_reducible refine wp_bifn (fun _=> ?_) (fun _=> ?_)
  |with_reducible refine zI (fun _=> ?_) (fun _=> ?_)
  |with_reducible refine zE (fun _=> ?_) (fun _=> ?_)
  |with_reducible refine z9 ?_
  |with_reducible refine j7 (fun s _ _=> ?_) (fun s _ _=> ?_)
  |simp only [idx_of ‹_[_]? =some _›,Option.bind_some]
  |with_reducible refine wp_map ?_
  |with_reducible refine zA ?_
  |with_reducible refine e2l ?_
  |with_reducible refine e2r ?_
  |exact wrap_i64 (by omega) (by omega)
  |omega
  |(rw [wrap_i64 (by omega) (by omega)];omega)
  |(simp only [beq_iff_eq] at*;omega)
  |(simp only [List.length_cons,List.length_nil] at*;exact wrap_i64 (by omega) (by omega)))
theorem zDs (a1:Ty.El (tPV)) (h0:zU1 a1):Wp (uA (a1,())) (fun _=>True):=by
 have hh0:=h0
 obtain ⟨i10,i11,i12,i13,i14⟩:=hh0
 unfold uA
 try dsimp only
 repeat' (first
  |with_reducible exact trivial
  |assumption
  |contradiction
  |with_reducible refine zB ?_
  |with_reducible refine (zAb _).mono (fun r _=> ?_)
  |with_reducible refine (zBL _ _ ?_).mono (fun r _=> ?_)
  |with_reducible refine zR ?_ ?_ (fun y _ _=> ?_)
  |with_reducible refine j6 ?_ ?_ ?_ (fun ys _ _=> ?_)
  |with_reducible refine jP ?_ ?_ (fun y _ _=> ?_)
  |with_reducible refine wp_bifn (fun _=> ?_) (fun _=> ?_)
  |with_reducible refine zI (fun _=> ?_) (fun _=> ?_)
  |with_reducible refine zE (fun _=> ?_) (fun _=> ?_)
  |with_reducible refine z9 ?_
  |with_reducible refine j7 (fun s _ _=> ?_) (fun s _ _=> ?_)
  |simp only [idx_of ‹_[_]? =some _›,Option.bind_some]
  |with_reducible refine wp_map ?_
  |with_reducible refine zA ?_
  |with_reducible refine e2l ?_
  |with_reducible refine e2r ?_
  |exact wrap_i64 (by omega) (by omega)
  |omega
  |(rw [wrap_i64 (by omega) (by omega)];omega)
  |(simp only [beq_iff_eq] at*;omega)
  |(simp only [List.length_cons,List.length_nil] at*;exact wrap_i64 (by omega) (by omega)))
theorem zCb (a1:Ty.El (zH)) (h0:SmL a1):Wp (vD (a1,())) (fun _=>True):=by
 have hh0:=h0
 obtain ⟨i1,i2,i3,i4,i5,i6,i7,i8,i9,i10,i11,i12,i13,i14,n1,n2,n3⟩:=hh0
 unfold vD
 try dsimp only
 repeat' (first
  |with_reducible exact trivial
  |exact ⟨i10,i11,i12,i13,i14⟩
  |assumption
  |contradiction
  |with_reducible refine zB ?_
  |with_reducible refine (qS _ _ _).mono (fun r _=> ?_)
  |with_reducible refine (zCD _ ?_).mono (fun r _=> ?_)
  |with_reducible refine (zDs _ ?_).mono (fun r _=> ?_)
  |with_reducible refine (uL _ _ _ _ _ _ ?_ ?_).mono (fun r _=> ?_)
  |with_reducible refine zR ?_ ?_ (fun y _ _=> ?_)
  |with_reducible refine zV n1 ?_ ?_ (fun y _ _=> ?_)
  |with_reducible refine zV n2 ?_ ?_ (fun y _ _=> ?_)
  |with_reducible refine zV n3 ?_ ?_ (fun y _ _=> ?_)
  |with_reducible refine j6 ?_ ?_ ?_ (fun ys _ _=> ?_)
  |with_reducible refine jP ?_ ?_ (fun y _ _=> ?_)
  |with_reducible refine wp_bifn (fun _=> ?_) (fun _=> ?_)
  |with_reducible refine zI (fun _=> ?_) (fun _=> ?_)
  |with_reducible refine zE (fun _=> ?_) (fun _=> ?_)
  |with_reducible refine z9 ?_
  |with_reducible refine j7 (fun s _ _=> ?_) (fun s _ _=> ?_)
  |simp only [idx_of ‹_[_]? =some _›,Option.bind_some]
  |with_reducible refine wp_map ?_
  |with_reducible refine zA ?_
  |with_reducible refine e2l ?_
  |with_reducible refine e2r ?_
  |exact wrap_i64 (by omega) (by omega)
  |omega
  |(rw [wrap_i64 (by omega) (by omega)];omega)
  |(simp only [beq_iff_eq] at*;omega)
  |(simp only [List.length_cons,List.length_nil] at*;exact wrap_i64 (by omega) (by omega)))
end Go.Ve

namespace Go.Ve
open Go Go.Proofs Go.Bd Go.Proofs.Bw
set_option maxRecDepth 1000000
set_option maxHeartbeats 4000000
theorem zLf (n lo hi:Int):zG (n,lo,hi,())=some (decide (lo≤n)&&decide (n≤hi)):=by
 unfold zG
 dsimp only
 by_cases h:lo≤n<;>simp [h]
theorem zNw (x:Ty.El uM):kM (x,())=some (decide ((0:Int)≤x.1)&&(decide (x.1≤x.2.1)&&decide (x.2.1≤(65535:Int)))):=by
 refine zAB ?_
 unfold kM
 dsimp only
 refine zA (zE (fun h=>zE (fun h'=>zB (zB ?_)) (fun h'=>zB (zB ?_))) (fun h=>zB (zB ?_)))
 ·rw [h,h'];rfl
 ·rw [h,h'];rfl
 ·rw [h];rfl
theorem zJW (x:Ty.El qV):Wp (yW (x,())) (fun b=>b=true→xJ x):=by
 unfold yW
 dsimp only
 refine zA (Wp.mono (Q:=fun b:Bool=>b=false→(-1:Int)≤x.2.1∧ @LE.le Int _ x.2.1 255) ?_ ?_)
 ·refine zA (zT (zLf _ _ _) ?_)
  refine zE (fun _=>zB (fun h=>by cases h)) (fun h=> ?_)
  have h:(-1:Int)≤x.2.1∧ @LE.le Int _ x.2.1 255:=by
   have:(decide ((-1:Int)≤x.2.1)&&decide (@LE.le Int _ x.2.1 255))=true:=by
    revert h
    cases (decide ((-1:Int)≤x.2.1)&&decide (@LE.le Int _ x.2.1 255))<;>simp
   simpa using this
  exact zE (fun _=>zB (fun h=>by cases h)) (fun _=>zB (fun _=>h))
 ·intro b hb
  refine zE (fun _=>zB (fun h=>by cases h)) (fun hb0=> ?_)
  obtain ⟨p0,p1⟩:=hb hb0
  refine zA (Wp.mono (Q:=fun b:Bool=>b=false→((0:Int)≤x.2.2.2.2.1.1∧ @LE.le Int _ x.2.2.2.2.1.1 x.2.2.2.2.1.2.1∧ @LE.le Int _ x.2.2.2.2.1.2.1 65535)∧(0:Int)≤x.2.2.2.2.2.1.1∧ @LE.le Int _ x.2.2.2.2.2.1.1 x.2.2.2.2.2.1.2.1∧ @LE.le Int _ x.2.2.2.2.2.1.2.1 65535) ?_ ?_)
  ·refine zA (zT (zNw _) ?_)
   refine zE (fun _=>zB (fun h=>by cases h)) (fun h=> ?_)
   have h1:(0:Int)≤x.2.2.2.2.1.1∧ @LE.le Int _ x.2.2.2.2.1.1 x.2.2.2.2.1.2.1∧ @LE.le Int _ x.2.2.2.2.1.2.1 65535:=by
    have:(decide ((0:Int)≤x.2.2.2.2.1.1)&&(decide (@LE.le Int _ x.2.2.2.2.1.1 x.2.2.2.2.1.2.1)&&decide (@LE.le Int _ x.2.2.2.2.1.2.1 65535)))=true:=by
     revert h
     cases (decide ((0:Int)≤x.2.2.2.2.1.1)&&(decide (@LE.le Int _ x.2.2.2.2.1.1 x.2.2.2.2.1.2.1)&&decide (@LE.le Int _ x.2.2.2.2.1.2.1 65535)))<;>simp
    simpa using this
   refine zA (zT (zNw _) (zB (fun h=>⟨h1,?_⟩)))
   have:(decide ((0:Int)≤x.2.2.2.2.2.1.1)&&(decide (@LE.le Int _ x.2.2.2.2.2.1.1 x.2.2.2.2.2.1.2.1)&&decide (@LE.le Int _ x.2.2.2.2.2.1.2.1 65535)))=true:=by
    revert h
    cases (decide ((0:Int)≤x.2.2.2.2.2.1.1)&&(decide (@LE.le Int _ x.2.2.2.2.2.1.1 x.2.2.2.2.2.1.2.1)&&decide (@LE.le Int _ x.2.2.2.2.2.1.2.1 65535)))<;>simp
   simpa using this
  ·intro b2 hb2
   refine zE (fun _=>zB (fun h=>by cases h)) (fun hb0=> ?_)
   obtain ⟨⟨s0,s1,s2⟩,d0,d1,d2⟩:=hb2 hb0
   have H:xJ x:=⟨p0,p1,s0,s1,s2,d0,d1,d2⟩
   refine zA (Wp.mono (Q:=fun _=>True) ?_ (fun b _=>zB (fun _=>H)))
   exact zE (fun _=>zB trivial) (fun _=>zE (fun _=>zB trivial) (fun _=>zE (fun _=>zB trivial) (fun _=>zB trivial)))
structure zSY (r:Ty.El zH) (i:Nat) (l:Ty.El zI8):Prop where
 name:Wp (xL (l.1,())) (fun b=>b=true)
 first:(i:Int)≤zEY (fun x:Ty.El zI8=>x.1==l.1) r.2.2.2.2.2.1
 len:l.2.1.length≤16
 rules: ∀x,x∈l.2.1→xJ x
theorem zJX (r:Ty.El zH) (h:SmL r):Wp (yX (r,())) (fun (c:Int)=>c=0→ ∀ (i:Nat) l,r.2.2.2.2.2.1[i]? =some l→zSY r i l):=by
 have hl:=h.i5
 unfold yX
 dsimp only
 refine zI (fun _=>zB (fun h=>by cases h)) (fun h8=> ?_)
 refine zG3 (Nat.lt_of_le_of_lt h.i4 (by omega)) (fun i=> ∀j l,j<i→r.2.2.2.2.2.1[j]? =some l→zSY r j l) (fun j l hj=>by omega) ?_ (fun hJ=>zB (fun _ i l hi=>hJ i l (List.getElem?_eq_some_iff.1 hi).1 hi))
 intro i l hl hJ
 have hn:=h.n3 l (List.mem_of_getElem? hl)
 refine z9 ?_
 refine zA (zT (jB hl) ?_)
 refine zA ((zEE r l.1 h.i4).mono ?_)
 rintro _ rfl
 refine zA (Wp.mono (Q:=fun (c:Int)=>c=0→Wp (xL (l.1,())) (fun b=>b=true)∧(i:Int)≤zEY (fun x:Ty.El zI8=>x.1==l.1) r.2.2.2.2.2.1∧l.2.1.length≤16) ?_ ?_)
 ·unfold wH
  dsimp only
  obtain ⟨b,hb,_⟩:=zAV l.1
  refine zA (zT hb ?_)
  refine zE (fun _=>zB (fun h=>by cases h)) (fun hbn=> ?_)
  have hbt:b=true:=by simpa using hbn
  refine zI (fun _=>zB (fun h=>by cases h)) (fun hf=> ?_)
  refine zE (fun _=>zB (fun h=>by cases h)) (fun _=> ?_)
  refine zI (fun _=>zB (fun h=>by cases h)) (fun h16=>zB (fun _=>⟨⟨b,hb,hbt⟩,?_,?_⟩))
  ·exact Int.not_lt.1 hf
  ·have h16: ¬((l.2.1.length:Int)>16):=h16
   omega
 ·intro c hc
  refine zE (fun h0=>zB (e2r (e2r (e2r (fun h=> ?_))))) (fun h0=> ?_)
  ·have h0: ¬(@Eq Int c 0):=by simpa [bne] using h0
   exact absurd h h0
  ·have h0: @Eq Int c 0:=by simpa [bne] using h0
   obtain ⟨a1,a2,a3⟩:=hc h0
   refine zSZ (P:=fun x=>xJ x) (Nat.lt_of_le_of_lt hn (by omega)) (fun j x hx=> ?_) (fun hall=>e2l ?_)
   ·refine zA (zT (jB hx) ?_)
    refine zA ((zJW x).mono ?_)
    intro b hb
    refine zE (fun _=>zB (e2r ⟨(fun u h=>by cases h),e2r (e2r (e2r (fun h=>by cases h)))⟩)) (fun hbn=>zB (e2l ⟨rfl,hb (by simpa using hbn)⟩))
   ·refine zB (e2l ⟨rfl,?_⟩)
    intro j l' hj hl'
    rcases Nat.lt_or_ge j i with h'|h'
    ·exact hJ j l' h' hl'
    ·have:j=i:=by omega
     subst this
     rw [hl] at hl'
     cases hl'
     exact ⟨a1,a2,a3,hall⟩
theorem zIa (r:Ty.El zH) (h:SmL r):Wp (wD (r,())) (fun (c:Int)=>c=0→ ∀ (i:Nat) l,r.2.2.2.2.2.1[i]? =some l→zSY r i l):=by
 unfold wD
 dsimp only
 refine zA ((zAV _).mono (fun b _=> ?_))
 refine zE (fun _=>zB (fun h=>by cases h)) (fun _=> ?_)
 refine zA (zT (zLf _ _ _) ?_)
 refine zE (fun _=>zB (fun h=>by cases h)) (fun _=> ?_)
 refine z9 ?_
 have no: ∀ (c:Int) (P:Prop),(c !=0)=true→(c=0→P):=fun c P h1 h2=>by subst h2;simp at h1
 refine zA ((zCc r h).mono (fun c1 _=> ?_))
 refine zE (fun hc=>zB (e2r (no _ _ hc))) (fun _=> ?_)
 refine zA ((zBN r h).mono (fun c2 _=> ?_))
 refine zE (fun hc=>zB (e2r (no _ _ hc))) (fun _=> ?_)
 refine zA ((zCC r h).mono (fun c3 _=> ?_))
 refine zE (fun hc=>zB (e2r (no _ _ hc))) (fun _=> ?_)
 refine zA ((zJX r h).mono (fun c4 hA=> ?_))
 refine zE (fun hc=>zB (e2r (no _ _ hc))) (fun hc4=> ?_)
 have hA:=hA (by simpa [bne] using hc4)
 refine zA ((zGh r h).mono (fun c5 _=> ?_))
 refine zE (fun hc=>zB (e2r (no _ _ hc))) (fun _=> ?_)
 refine zA ((zDt r h).mono (fun c6 _=> ?_))
 refine zE (fun hc=>zB (e2r (no _ _ hc))) (fun _=> ?_)
 refine zA ((zDr r h).mono (fun c7 _=> ?_))
 refine zE (fun hc=>zB (e2r (no _ _ hc))) (fun _=> ?_)
 refine zA ((zCE r h).mono (fun c8 _=> ?_))
 refine zE (fun hc=>zB (e2r (no _ _ hc))) (fun _=> ?_)
 refine zA ((zA1 r h).mono (fun c9 _=> ?_))
 refine zE (fun hc=>zB (e2r (no _ _ hc))) (fun _=> ?_)
 refine zA ((zCb r h).mono (fun c10 _=> ?_))
 refine zE (fun hc=>zB (e2r (no _ _ hc))) (fun _=>zB (e2l ?_))
 exact zB (fun _=>hA)
abbrev zUK (l:List (Ty.El qV)):Ty.El zH:=({ data:= #[(114:UInt8)] },(0:Int),[],[],[],[({ data:= #[(97:UInt8)] },l,())],[],[],(false,(0:Int),[],[],()),
 (false,(0:Int), { data:= #[] }, { data:= #[] },[],()),(false,(0:Int),(0:Int),[],[],[],[],[],()),())
theorem zTe (l:List (Ty.El qV)) (hl:l.length≤1048576):SmL (zUK l) where
 i1:=Nat.zero_le _
 i2:=Nat.zero_le _
 i3:=Nat.zero_le _
 i4:=by show 1≤1048576;omega
 i5:=Nat.zero_le _
 i6:=Nat.zero_le _
 i7:=Nat.zero_le _
 i8:=Nat.zero_le _
 i9:=Nat.zero_le _
 i10:=Nat.zero_le _
 i11:=Nat.zero_le _
 i12:=Nat.zero_le _
 i13:=Nat.zero_le _
 i14:=Nat.zero_le _
 n1 y hy:=by cases hy
 n2 y hy:=by cases hy
 n3 y hy:=by
  rcases List.mem_cons.1 hy with rfl|hy
  ·exact hl
  ·cases hy
theorem zLo (l:List (Ty.El qV)) (hl:l.length≤1048576):Wp (wD (zUK l,())) (fun (c:Int)=>c=0→ ∀x,x∈l→xJ x):=
 (zIa _ (zTe l hl)).mono (fun c hc h0 x hx=>((hc h0) 0 _ rfl).rules x hx)
end Go.Ve
