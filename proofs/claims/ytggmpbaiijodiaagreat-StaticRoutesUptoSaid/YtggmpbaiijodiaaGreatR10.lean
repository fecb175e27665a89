/-
  Functions out of code: the checks of a network.
  Plain laws: the checks of a network always answer.
  Functions out of code, part 6: contracts of functions to which a list is lent.
-/
import Derived.Test.YtggmpbaiijodiaaGreatR9
set_option linter.unusedVariables false
namespace Go.Ve
open Go
set_option maxRecDepth 1000000
noncomputable def ref4_letter : ElS [(.int .u8)] → Option (RTy.El (.p .bool)) := fun x => match x with | (a1, ()) => Option.bind (bif decide (a1 ≥ (97 : Int)) then bif decide (a1 ≤ (122 : Int)) then some true else bif decide (a1 ≥ (65 : Int)) then some (decide (a1 ≤ (90 : Int))) else some false else bif decide (a1 ≥ (65 : Int)) then some (decide (a1 ≤ (90 : Int))) else some false) fun (s0 : Bool) => some s0
noncomputable def ref4_Name : ElS [.str] → Option (RTy.El (.p .bool)) := fun x => match x with | (a1, ()) => Option.bind (bif decide ((↑(ByteArray.size a1) : Int) < (1 : Int)) then some true else bif decide ((↑(ByteArray.size a1) : Int) > (15 : Int)) then some true else Option.bind (byteAt a1 (0 : Int)) fun (y2 : Int) => Option.bind (ref4_letter (y2, ())) fun (y3 : Bool) => some !y3) fun (s4 : Bool) => bif s4 then some false else cut2 (loopX (fun (s14 : Int) => bif decide (s14 < (↑(ByteArray.size a1) : Int)) then Option.bind (byteAt a1 s14) fun (y15 : Int) => Option.bind (Option.bind (ref4_letter (y15, ())) fun (y16 : Bool) => bif !y16 then bif decide (y15 ≥ (48 : Int)) then bif !decide (y15 ≤ (57 : Int)) then bif y15 != (45 : Int) then bif y15 != (95 : Int) then bif y15 != (47 : Int) then some (y15 != (46 : Int)) else some false else some false else some false else some false else bif y15 != (45 : Int) then bif y15 != (95 : Int) then bif y15 != (47 : Int) then some (y15 != (46 : Int)) else some false else some false else some false else some false) fun (s17 : Bool) => bif s17 then some (Sum.inr (Sum.inr false)) else some (Sum.inl (IntKind.wrap IntKind.i64 (s14 + (1 : Int)))) else some (Sum.inr (Sum.inl ()))) (1 : Int)) fun (s18 : Unit) => some true
noncomputable def ref8_within : ElS [tI, tI, tI] → Option (RTy.El (.p .bool)) := fun x => match x with | (a1, a2, a3, ()) => Option.bind (bif decide (a2 ≤ a1) then some (decide (a1 ≤ a3)) else some false) fun (s0 : Bool) => some s0
noncomputable def ref4_Mask : ElS [tI] → Option (RTy.El (.p tU)) := fun x => match x with | (a1, ()) => Option.bind (loopX (fun (s4 : Int × Int) => bif decide (s4.fst < (32 : Int)) then Option.bind (bif decide (s4.fst < a1) then bif decide ((0 : Int) ≤ IntKind.wrap IntKind.u64 (IntKind.wrap IntKind.i64 ((31 : Int) - s4.fst))) then some (IntKind.wrap IntKind.u32 (↑(BitVec.toNat (BitVec.ofInt (IntKind.bits IntKind.u32) s4.snd ||| BitVec.ofInt (IntKind.bits IntKind.u32) (IntKind.wrap IntKind.u32 ((1 : Int) * (2 : Int) ^ min (Int.toNat (IntKind.wrap IntKind.u64 (IntKind.wrap IntKind.i64 ((31 : Int) - s4.fst)))) (IntKind.bits IntKind.u32))))) : Int)) else none else some s4.snd) fun (s5 : Int) => some (Sum.inl (IntKind.wrap IntKind.i64 (s4.fst + (1 : Int)), s5)) else some (Sum.inr s4.snd)) ((0 : Int), (0 : Int))) fun (s6 : Int) => some s6
noncomputable def ref4_Network : ElS [tU, tI] → Option (RTy.El (.p tPrefix)) := fun x => match x with | (a1, a2, ()) => Option.bind (ref4_Mask (if (0 : Int) > if (32 : Int) < a2 then (32 : Int) else a2 then (0 : Int) else if (32 : Int) < a2 then (32 : Int) else a2, ())) fun (y0 : Int) => some (IntKind.wrap IntKind.u32 (↑(BitVec.toNat (BitVec.ofInt (IntKind.bits IntKind.u32) a1 &&& BitVec.ofInt (IntKind.bits IntKind.u32) y0)) : Int), if (0 : Int) > if (32 : Int) < a2 then (32 : Int) else a2 then (0 : Int) else if (32 : Int) < a2 then (32 : Int) else a2, ())
noncomputable def ref4_Contains : ElS [tPrefix, tU] → Option (RTy.El (.p .bool)) := fun x => match x with | (a1, a2, ()) => Option.bind (ref4_Mask (a1.snd.fst, ())) fun (y1 : Int) => some (IntKind.wrap IntKind.u32 (↑(BitVec.toNat (BitVec.ofInt (IntKind.bits IntKind.u32) a2 &&& BitVec.ofInt (IntKind.bits IntKind.u32) y1)) : Int) == a1.fst)
noncomputable def ref4_Covers : ElS [tPrefix, tPrefix] → Option (RTy.El (.p .bool)) := fun x => match x with | (a1, a2, ()) => Option.bind (bif decide (a1.snd.fst ≤ a2.snd.fst) then Option.bind (ref4_Contains (a1, a2.fst, ())) fun (y1 : Bool) => some y1 else some false) fun (s2 : Bool) => some s2
noncomputable def ref4_Overlaps : ElS [tPrefix, tPrefix] → Option (RTy.El (.p .bool)) := fun x => match x with | (a1, a2, ()) => Option.bind (Option.bind (ref4_Covers (a1, a2, ())) fun (y2 : Bool) => bif y2 then some true else Option.bind (ref4_Covers (a2, a1, ())) fun (y3 : Bool) => some y3) fun (s4 : Bool) => some s4
noncomputable def ref8_interfaces : ElS [(.sl tIface)] → Option (RTy.El (.p tI)) := fun x => match x with | (a1, ()) => bif decide ((↑(List.length a1) : Int) > (8 : Int)) then some (7 : Int) else cut2 (loopX (fun (s164 : Int) => bif decide (s164 < (↑(List.length a1) : Int)) then cut2 (Option.bind (idx a1 s164) fun (y165 : Ty.El tIface) => Option.bind (ref4_Name (y165.fst, ())) fun (y166 : Bool) => bif !y166 then some (Sum.inr (Sum.inr (Sum.inr (3 : Int)))) else cut2 (loopX (fun (s167 : Int) => bif decide (s167 < s164) then Option.bind (idx a1 s167) fun (y168 : Ty.El tIface) => bif y168.fst == y165.fst then some (Sum.inr (Sum.inr (Sum.inr (Sum.inr (Sum.inr (4 : Int)))))) else some (Sum.inl (IntKind.wrap IntKind.i64 (s167 + (1 : Int)))) else some (Sum.inr (Sum.inl ()))) (0 : Int)) fun (s169 : Unit) => Option.bind (Option.bind (ref8_within (y165.snd.snd.fst, (0 : Int), (32 : Int), ())) fun (y170 : Bool) => bif !y170 then some true else Option.bind (ref8_within (y165.snd.snd.snd.fst, (0 : Int), (4094 : Int), ())) fun (y171 : Bool) => bif !y171 then some true else Option.bind (ref8_within (y165.snd.snd.snd.snd.snd.snd.snd.snd.snd.snd.snd.fst, (0 : Int), (2 : Int), ())) fun (y172 : Bool) => some !y172) fun (s173 : Bool) => bif s173 then some (Sum.inr (Sum.inr (Sum.inr (1 : Int)))) else Option.bind (bif y165.snd.snd.fst == (0 : Int) then bif y165.snd.fst != (0 : Int) then some true else bif y165.snd.snd.snd.fst != (0 : Int) then some true else bif y165.snd.snd.snd.snd.snd.snd.snd.snd.snd.snd.snd.fst != (0 : Int) then some true else bif y165.snd.snd.snd.snd.snd.fst then some true else bif y165.snd.snd.snd.snd.snd.snd.snd.snd.fst then some true else bif y165.snd.snd.snd.snd.snd.snd.snd.snd.snd.fst != { data := #[] } then some true else bif y165.snd.snd.snd.snd.snd.snd.snd.snd.snd.snd.fst != { data := #[] } then some true else bif y165.snd.snd.fst != (0 : Int) then some (y165.snd.fst == (0 : Int)) else some false else bif y165.snd.snd.fst != (0 : Int) then some (y165.snd.fst == (0 : Int)) else some false) fun (s174 : Bool) => bif s174 then some (Sum.inr (Sum.inr (Sum.inr (1 : Int)))) else Option.bind (bif y165.snd.snd.snd.snd.snd.fst then Option.bind (ref8_within (y165.snd.snd.snd.snd.snd.snd.fst, (0 : Int), (255 : Int), ())) fun (y175 : Bool) => bif !y175 then some true else Option.bind (ref8_within (y165.snd.snd.snd.snd.snd.snd.snd.fst, (1 : Int), (65535 : Int), ())) fun (y176 : Bool) => bif !y176 then some true else bif !y165.snd.snd.snd.snd.snd.fst then bif y165.snd.snd.snd.snd.snd.snd.fst != (0 : Int) then some true else some (y165.snd.snd.snd.snd.snd.snd.snd.fst != (0 : Int)) else some false else bif !y165.snd.snd.snd.snd.snd.fst then bif y165.snd.snd.snd.snd.snd.snd.fst != (0 : Int) then some true else some (y165.snd.snd.snd.snd.snd.snd.snd.fst != (0 : Int)) else some false) fun (s177 : Bool) => bif s177 then some (Sum.inr (Sum.inr (Sum.inr (1 : Int)))) else loopX (fun (s178 : Int) => bif decide (s178 < s164) then Option.bind (bif y165.snd.snd.fst != (0 : Int) then Option.bind (idx a1 s178) fun (y179 : Ty.El tIface) => bif y179.snd.snd.fst != (0 : Int) then Option.bind (ref4_Network (y165.snd.fst, y165.snd.snd.fst, ())) fun (y180 : Int × Int × Unit) => Option.bind (idx a1 s178) fun (y181 : Ty.El tIface) => Option.bind (idx a1 s178) fun (y182 : Ty.El tIface) => Option.bind (ref4_Network (y181.snd.fst, y182.snd.snd.fst, ())) fun (y183 : Int × Int × Unit) => Option.bind (ref4_Overlaps (y180, y183, ())) fun (y184 : Bool) => some y184 else some false else some false) fun (s185 : Bool) => bif s185 then some (Sum.inr (Sum.inr (Sum.inr (Sum.inr (6 : Int))))) else some (Sum.inl (IntKind.wrap IntKind.i64 (s178 + (1 : Int)))) else some (Sum.inr (Sum.inl ()))) (0 : Int)) fun (s186 : Unit) => some (Sum.inl (IntKind.wrap IntKind.i64 (s164 + (1 : Int)))) else some (Sum.inr (Sum.inl ()))) (0 : Int)) fun (s187 : Unit) => some (0 : Int)
noncomputable def ref4_Valid : ElS [tPrefix] → Option (RTy.El (.p .bool)) := fun x => match x with | (a1, ()) => Option.bind (bif decide (a1.snd.fst ≥ (0 : Int)) then bif decide (a1.snd.fst ≤ (32 : Int)) then Option.bind (ref4_Mask (a1.snd.fst, ())) fun (y2 : Int) => some (IntKind.wrap IntKind.u32 (↑(BitVec.toNat (BitVec.ofInt (IntKind.bits IntKind.u32) a1.fst &&& ~~~BitVec.ofInt (IntKind.bits IntKind.u32) y2)) : Int) == (0 : Int)) else some false else some false) fun (s3 : Bool) => some s3
noncomputable def ref8_ValidPrefixRule : ElS [tPRule] → Option (RTy.El (.p .bool)) := fun x => match x with | (a1, ()) => Option.bind (Option.bind (ref4_Valid (a1.snd.fst, ())) fun (y1 : Bool) => bif y1 then bif decide (a1.snd.fst.snd.fst ≤ a1.snd.snd.fst) then bif decide (a1.snd.snd.fst ≤ a1.snd.snd.snd.fst) then some (decide (a1.snd.snd.snd.fst ≤ (32 : Int))) else some false else some false else some false) fun (s2 : Bool) => some s2
noncomputable def ref8_prefixLists : ElS [(.sl tPList)] → Option (RTy.El (.p tI)) := fun x => match x with | (a1, ()) => bif decide ((↑(List.length a1) : Int) > (8 : Int)) then some (7 : Int) else cut2 (loopX (fun (s56 : Int) => bif decide (s56 < (↑(List.length a1) : Int)) then cut2 (Option.bind (idx a1 s56) fun (y57 : Ty.El tPList) => Option.bind (ref4_Name (y57.fst, ())) fun (y58 : Bool) => bif !y58 then some (Sum.inr (Sum.inr (Sum.inr (3 : Int)))) else cut2 (loopX (fun (s59 : Int) => bif decide (s59 < s56) then Option.bind (idx a1 s59) fun (y60 : Ty.El tPList) => Option.bind (idx a1 s56) fun (y61 : Ty.El tPList) => bif y60.fst == y61.fst then some (Sum.inr (Sum.inr (Sum.inr (Sum.inr (Sum.inr (4 : Int)))))) else some (Sum.inl (IntKind.wrap IntKind.i64 (s59 + (1 : Int)))) else some (Sum.inr (Sum.inl ()))) (0 : Int)) fun (s62 : Unit) => Option.bind (idx a1 s56) fun (y63 : Ty.El tPList) => bif (↑(List.length y63.snd.fst) : Int) == (0 : Int) then some (Sum.inr (Sum.inr (Sum.inr (1 : Int)))) else Option.bind (idx a1 s56) fun (y64 : Ty.El tPList) => bif decide ((↑(List.length y64.snd.fst) : Int) > (16 : Int)) then some (Sum.inr (Sum.inr (Sum.inr (7 : Int)))) else loopX (fun (s65 : Int) => Option.bind (idx a1 s56) fun (y66 : Ty.El tPList) => bif decide (s65 < (↑(List.length y66.snd.fst) : Int)) then Option.bind (idx a1 s56) fun (y67 : Ty.El tPList) => Option.bind (idx y67.snd.fst s65) fun (y68 : Ty.El tPRule) => Option.bind (ref8_ValidPrefixRule (y68, ())) fun (y69 : Bool) => bif !y69 then some (Sum.inr (Sum.inr (Sum.inr (Sum.inr (1 : Int))))) else some (Sum.inl (IntKind.wrap IntKind.i64 (s65 + (1 : Int)))) else some (Sum.inr (Sum.inl ()))) (0 : Int)) fun (s70 : Unit) => some (Sum.inl (IntKind.wrap IntKind.i64 (s56 + (1 : Int)))) else some (Sum.inr (Sum.inl ()))) (0 : Int)) fun (s71 : Unit) => some (0 : Int)
noncomputable def ref8_PrefixList : ElS [tRouter, .str] → Option (RTy.El (.p tI)) := fun x => match x with | (a1, a2, ()) => cut2 (loopX (fun (s4 : Int) => bif decide (s4 < (↑(List.length a1.snd.snd.snd.fst) : Int)) then Option.bind (idx a1.snd.snd.snd.fst s4) fun (y5 : Ty.El tPList) => bif y5.fst == a2 then some (Sum.inr (Sum.inr s4)) else some (Sum.inl (IntKind.wrap IntKind.i64 (s4 + (1 : Int)))) else some (Sum.inr (Sum.inl ()))) (0 : Int)) fun (s6 : Unit) => some (-1 : Int)
noncomputable def ref8_routeMaps : ElS [tRouter] → Option (RTy.El (.p tI)) := fun x => match x with | (a1, ()) => bif decide ((↑(List.length a1.snd.snd.snd.snd.fst) : Int) > (8 : Int)) then some (7 : Int) else cut2 (loopX (fun (s192 : Int) => bif decide (s192 < (↑(List.length a1.snd.snd.snd.snd.fst) : Int)) then cut2 (Option.bind (idx a1.snd.snd.snd.snd.fst s192) fun (y193 : Ty.El tRMap) => Option.bind (ref4_Name (y193.fst, ())) fun (y194 : Bool) => bif !y194 then some (Sum.inr (Sum.inr (Sum.inr (3 : Int)))) else cut2 (loopX (fun (s195 : Int) => bif decide (s195 < s192) then Option.bind (idx a1.snd.snd.snd.snd.fst s195) fun (y196 : Ty.El tRMap) => Option.bind (idx a1.snd.snd.snd.snd.fst s192) fun (y197 : Ty.El tRMap) => bif y196.fst == y197.fst then some (Sum.inr (Sum.inr (Sum.inr (Sum.inr (Sum.inr (4 : Int)))))) else some (Sum.inl (IntKind.wrap IntKind.i64 (s195 + (1 : Int)))) else some (Sum.inr (Sum.inl ()))) (0 : Int)) fun (s198 : Unit) => Option.bind (idx a1.snd.snd.snd.snd.fst s192) fun (y199 : Ty.El tRMap) => bif (↑(List.length y199.snd.fst) : Int) == (0 : Int) then some (Sum.inr (Sum.inr (Sum.inr (1 : Int)))) else Option.bind (idx a1.snd.snd.snd.snd.fst s192) fun (y200 : Ty.El tRMap) => bif decide ((↑(List.length y200.snd.fst) : Int) > (8 : Int)) then some (Sum.inr (Sum.inr (Sum.inr (7 : Int)))) else loopX (fun (s201 : Int) => Option.bind (idx a1.snd.snd.snd.snd.fst s192) fun (y202 : Ty.El tRMap) => bif decide (s201 < (↑(List.length y202.snd.fst) : Int)) then Option.bind (idx a1.snd.snd.snd.snd.fst s192) fun (y203 : Ty.El tRMap) => Option.bind (idx y203.snd.fst s201) fun (y204 : Ty.El tClause) => Option.bind (bif y204.snd.fst != { data := #[] } then Option.bind (ref8_PrefixList (a1, y204.snd.fst, ())) fun (y205 : Int) => some (decide (y205 < (0 : Int))) else some false) fun (s206 : Bool) => bif s206 then some (Sum.inr (Sum.inr (Sum.inr (Sum.inr (5 : Int))))) else Option.bind (Option.bind (ref8_within (y204.snd.snd.fst, (-1 : Int), (65535 : Int), ())) fun (y207 : Bool) => bif !y207 then some true else Option.bind (ref8_within (y204.snd.snd.snd.snd.fst, (-1 : Int), (65535 : Int), ())) fun (y208 : Bool) => bif !y208 then some true else Option.bind (ref8_within (y204.snd.snd.snd.fst, (-1 : Int), (16777215 : Int), ())) fun (y209 : Bool) => bif !y209 then some true else Option.bind (ref8_within (y204.snd.snd.snd.snd.snd.fst, (-1 : Int), (1000000 : Int), ())) fun (y210 : Bool) => bif !y210 then some true else Option.bind (ref8_within (y204.snd.snd.snd.snd.snd.snd.fst, (0 : Int), (8 : Int), ())) fun (y211 : Bool) => some !y211) fun (s212 : Bool) => bif s212 then some (Sum.inr (Sum.inr (Sum.inr (Sum.inr (1 : Int))))) else some (Sum.inl (IntKind.wrap IntKind.i64 (s201 + (1 : Int)))) else some (Sum.inr (Sum.inl ()))) (0 : Int)) fun (s213 : Unit) => some (Sum.inl (IntKind.wrap IntKind.i64 (s192 + (1 : Int)))) else some (Sum.inr (Sum.inl ()))) (0 : Int)) fun (s214 : Unit) => some (0 : Int)
noncomputable def ref8_ports : ElS [tPorts] → Option (RTy.El (.p .bool)) := fun x => match x with | (a1, ()) => Option.bind (bif decide ((0 : Int) ≤ a1.fst) then bif decide (a1.fst ≤ a1.snd.fst) then some (decide (a1.snd.fst ≤ (65535 : Int))) else some false else some false) fun (s0 : Bool) => some s0
noncomputable def ref8_all : ElS [tPorts] → Option (RTy.El (.p .bool)) := fun x => match x with | (a1, ()) => some (a1.fst == (0 : Int) && (a1.snd.fst == (65535 : Int) && true))
noncomputable def ref8_ValidRule : ElS [tRule] → Option (RTy.El (.p .bool)) := fun x => match x with | (a1, ()) => Option.bind (Option.bind (ref8_within (a1.snd.fst, (-1 : Int), (255 : Int), ())) fun (y3 : Bool) => bif !y3 then some true else bif IntKind.wrap IntKind.u32 (↑(BitVec.toNat (BitVec.ofInt (IntKind.bits IntKind.u32) a1.snd.snd.fst.fst &&& BitVec.ofInt (IntKind.bits IntKind.u32) a1.snd.snd.fst.snd.fst)) : Int) != (0 : Int) then some true else bif IntKind.wrap IntKind.u32 (↑(BitVec.toNat (BitVec.ofInt (IntKind.bits IntKind.u32) a1.snd.snd.snd.fst.fst &&& BitVec.ofInt (IntKind.bits IntKind.u32) a1.snd.snd.snd.fst.snd.fst)) : Int) != (0 : Int) then some true else Option.bind (ref8_ports (a1.snd.snd.snd.snd.fst, ())) fun (y4 : Bool) => bif !y4 then some true else Option.bind (ref8_ports (a1.snd.snd.snd.snd.snd.fst, ())) fun (y5 : Bool) => some !y5) fun (s6 : Bool) => bif s6 then some false else Option.bind (bif a1.snd.fst == (6 : Int) then some true else bif a1.snd.fst == (17 : Int) then some true else Option.bind (ref8_all (a1.snd.snd.snd.snd.fst, ())) fun (y9 : Bool) => bif y9 then Option.bind (ref8_all (a1.snd.snd.snd.snd.snd.fst, ())) fun (y10 : Bool) => some y10 else some false) fun (s11 : Bool) => some s11
noncomputable def ref8_accessLists : ElS [(.sl tACL)] → Option (RTy.El (.p tI)) := fun x => match x with | (a1, ()) => bif decide ((↑(List.length a1) : Int) > (8 : Int)) then some (7 : Int) else cut2 (loopX (fun (s56 : Int) => bif decide (s56 < (↑(List.length a1) : Int)) then cut2 (Option.bind (idx a1 s56) fun (y57 : Ty.El tACL) => Option.bind (ref4_Name (y57.fst, ())) fun (y58 : Bool) => bif !y58 then some (Sum.inr (Sum.inr (Sum.inr (3 : Int)))) else cut2 (loopX (fun (s59 : Int) => bif decide (s59 < s56) then Option.bind (idx a1 s59) fun (y60 : Ty.El tACL) => Option.bind (idx a1 s56) fun (y61 : Ty.El tACL) => bif y60.fst == y61.fst then some (Sum.inr (Sum.inr (Sum.inr (Sum.inr (Sum.inr (4 : Int)))))) else some (Sum.inl (IntKind.wrap IntKind.i64 (s59 + (1 : Int)))) else some (Sum.inr (Sum.inl ()))) (0 : Int)) fun (s62 : Unit) => Option.bind (idx a1 s56) fun (y63 : Ty.El tACL) => bif (↑(List.length y63.snd.fst) : Int) == (0 : Int) then some (Sum.inr (Sum.inr (Sum.inr (1 : Int)))) else Option.bind (idx a1 s56) fun (y64 : Ty.El tACL) => bif decide ((↑(List.length y64.snd.fst) : Int) > (16 : Int)) then some (Sum.inr (Sum.inr (Sum.inr (7 : Int)))) else loopX (fun (s65 : Int) => Option.bind (idx a1 s56) fun (y66 : Ty.El tACL) => bif decide (s65 < (↑(List.length y66.snd.fst) : Int)) then Option.bind (idx a1 s56) fun (y67 : Ty.El tACL) => Option.bind (idx y67.snd.fst s65) fun (y68 : Ty.El tRule) => Option.bind (ref8_ValidRule (y68, ())) fun (y69 : Bool) => bif !y69 then some (Sum.inr (Sum.inr (Sum.inr (Sum.inr (1 : Int))))) else some (Sum.inl (IntKind.wrap IntKind.i64 (s65 + (1 : Int)))) else some (Sum.inr (Sum.inl ()))) (0 : Int)) fun (s70 : Unit) => some (Sum.inl (IntKind.wrap IntKind.i64 (s56 + (1 : Int)))) else some (Sum.inr (Sum.inl ()))) (0 : Int)) fun (s71 : Unit) => some (0 : Int)
noncomputable def ref8_ACL : ElS [tRouter, .str] → Option (RTy.El (.p tI)) := fun x => match x with | (a1, a2, ()) => cut2 (loopX (fun (s4 : Int) => bif decide (s4 < (↑(List.length a1.snd.snd.snd.snd.snd.fst) : Int)) then Option.bind (idx a1.snd.snd.snd.snd.snd.fst s4) fun (y5 : Ty.El tACL) => bif y5.fst == a2 then some (Sum.inr (Sum.inr s4)) else some (Sum.inl (IntKind.wrap IntKind.i64 (s4 + (1 : Int)))) else some (Sum.inr (Sum.inl ()))) (0 : Int)) fun (s6 : Unit) => some (-1 : Int)
noncomputable def ref8_translations : ElS [tRouter] → Option (RTy.El (.p tI)) := fun x => match x with | (a1, ()) => bif decide ((↑(List.length a1.snd.snd.snd.snd.snd.snd.fst) : Int) > (8 : Int)) then some (7 : Int) else cut2 (loopX (fun (s60 : Int) => bif decide (s60 < (↑(List.length a1.snd.snd.snd.snd.snd.snd.fst) : Int)) then Option.bind (idx a1.snd.snd.snd.snd.snd.snd.fst s60) fun (y61 : Ty.El tNat) => Option.bind (bif y61.fst == (1 : Int) then Option.bind (bif y61.snd.fst != (0 : Int) then bif y61.snd.snd.fst != (0 : Int) then some (y61.fst == y61.fst && (y61.snd.fst == y61.snd.fst && (y61.snd.snd.fst == y61.snd.snd.fst && (y61.snd.snd.snd.fst == (0 : Int) && (y61.snd.snd.snd.snd.fst == (0 : Int) && (y61.snd.snd.snd.snd.snd.fst == (0 : Int) && (y61.snd.snd.snd.snd.snd.snd.fst == { data := #[] } && (y61.snd.snd.snd.snd.snd.snd.snd.fst == (0 : Int) && (y61.snd.snd.snd.snd.snd.snd.snd.snd.fst == (0 : Int) && true))))))))) else some false else some false) fun (s62 : Bool) => some s62 else bif y61.fst == (2 : Int) then Option.bind (bif y61.snd.snd.snd.snd.snd.snd.snd.fst != (0 : Int) then bif decide (y61.snd.snd.snd.snd.snd.snd.snd.fst ≤ y61.snd.snd.snd.snd.snd.snd.snd.snd.fst) then bif decide (IntKind.wrap IntKind.u32 (y61.snd.snd.snd.snd.snd.snd.snd.snd.fst - y61.snd.snd.snd.snd.snd.snd.snd.fst) < (8 : Int)) then some (y61.fst == y61.fst && (y61.snd.fst == (0 : Int) && (y61.snd.snd.fst == (0 : Int) && (y61.snd.snd.snd.fst == (0 : Int) && (y61.snd.snd.snd.snd.fst == (0 : Int) && (y61.snd.snd.snd.snd.snd.fst == (0 : Int) && (y61.snd.snd.snd.snd.snd.snd.fst == y61.snd.snd.snd.snd.snd.snd.fst && (y61.snd.snd.snd.snd.snd.snd.snd.fst == y61.snd.snd.snd.snd.snd.snd.snd.fst && (y61.snd.snd.snd.snd.snd.snd.snd.snd.fst == y61.snd.snd.snd.snd.snd.snd.snd.snd.fst && true))))))))) else some false else some false else some false) fun (s63 : Bool) => some s63 else bif y61.fst == (3 : Int) then Option.bind (bif y61.snd.fst != (0 : Int) then bif y61.snd.snd.fst != (0 : Int) then bif y61.snd.snd.snd.fst == (6 : Int) then Option.bind (ref8_within (y61.snd.snd.snd.snd.fst, (0 : Int), (65535 : Int), ())) fun (y64 : Bool) => bif y64 then Option.bind (ref8_within (y61.snd.snd.snd.snd.snd.fst, (0 : Int), (65535 : Int), ())) fun (y65 : Bool) => bif y65 then bif y61.snd.snd.snd.snd.snd.snd.fst == { data := #[] } then bif y61.snd.snd.snd.snd.snd.snd.snd.fst == (0 : Int) then some (y61.snd.snd.snd.snd.snd.snd.snd.snd.fst == (0 : Int)) else some false else some false else some false else some false else bif y61.snd.snd.snd.fst == (17 : Int) then Option.bind (ref8_within (y61.snd.snd.snd.snd.fst, (0 : Int), (65535 : Int), ())) fun (y66 : Bool) => bif y66 then Option.bind (ref8_within (y61.snd.snd.snd.snd.snd.fst, (0 : Int), (65535 : Int), ())) fun (y67 : Bool) => bif y67 then bif y61.snd.snd.snd.snd.snd.snd.fst == { data := #[] } then bif y61.snd.snd.snd.snd.snd.snd.snd.fst == (0 : Int) then some (y61.snd.snd.snd.snd.snd.snd.snd.snd.fst == (0 : Int)) else some false else some false else some false else some false else some false else some false else some false) fun (s68 : Bool) => some s68 else some false) fun (s69 : Bool) => bif !s69 then some (Sum.inr (Sum.inr (1 : Int))) else Option.bind (bif y61.fst == (2 : Int) then Option.bind (ref8_ACL (a1, y61.snd.snd.snd.snd.snd.snd.fst, ())) fun (y70 : Int) => some (decide (y70 < (0 : Int))) else some false) fun (s71 : Bool) => bif s71 then some (Sum.inr (Sum.inr (5 : Int))) else some (Sum.inl (IntKind.wrap IntKind.i64 (s60 + (1 : Int)))) else some (Sum.inr (Sum.inl ()))) (0 : Int)) fun (s72 : Unit) => some (0 : Int)
noncomputable def ref8_filters : ElS [tRouter] → Option (RTy.El (.p tI)) := fun x => match x with | (a1, ()) => cut2 (loopX (fun (s24 : Int) => bif decide (s24 < (↑(List.length a1.snd.snd.fst) : Int)) then Option.bind (idx a1.snd.snd.fst s24) fun (y25 : Ty.El tIface) => Option.bind (bif y25.snd.snd.snd.snd.snd.snd.snd.snd.snd.fst != { data := #[] } then Option.bind (ref8_ACL (a1, y25.snd.snd.snd.snd.snd.snd.snd.snd.snd.fst, ())) fun (y26 : Int) => bif decide (y26 < (0 : Int)) then some true else bif y25.snd.snd.snd.snd.snd.snd.snd.snd.snd.snd.fst != { data := #[] } then Option.bind (ref8_ACL (a1, y25.snd.snd.snd.snd.snd.snd.snd.snd.snd.snd.fst, ())) fun (y27 : Int) => some (decide (y27 < (0 : Int))) else some false else bif y25.snd.snd.snd.snd.snd.snd.snd.snd.snd.snd.fst != { data := #[] } then Option.bind (ref8_ACL (a1, y25.snd.snd.snd.snd.snd.snd.snd.snd.snd.snd.fst, ())) fun (y28 : Int) => some (decide (y28 < (0 : Int))) else some false) fun (s29 : Bool) => bif s29 then some (Sum.inr (Sum.inr (5 : Int))) else some (Sum.inl (IntKind.wrap IntKind.i64 (s24 + (1 : Int)))) else some (Sum.inr (Sum.inl ()))) (0 : Int)) fun (s30 : Unit) => some (0 : Int)
noncomputable def ref8_Address : ElS [tRouter, tU] → Option (RTy.El (.p tI)) := fun x => match x with | (a1, a2, ()) => cut2 (loopX (fun (s10 : Int) => bif decide (s10 < (↑(List.length a1.snd.snd.fst) : Int)) then Option.bind (Option.bind (idx a1.snd.snd.fst s10) fun (y11 : Ty.El tIface) => bif y11.snd.snd.fst != (0 : Int) then Option.bind (idx a1.snd.snd.fst s10) fun (y12 : Ty.El tIface) => some (y12.snd.fst == a2) else some false) fun (s13 : Bool) => bif s13 then some (Sum.inr (Sum.inr s10)) else some (Sum.inl (IntKind.wrap IntKind.i64 (s10 + (1 : Int)))) else some (Sum.inr (Sum.inl ()))) (0 : Int)) fun (s14 : Unit) => some (-1 : Int)
noncomputable def ref8_Interface : ElS [tRouter, .str] → Option (RTy.El (.p tI)) := fun x => match x with | (a1, a2, ()) => cut2 (loopX (fun (s4 : Int) => bif decide (s4 < (↑(List.length a1.snd.snd.fst) : Int)) then Option.bind (idx a1.snd.snd.fst s4) fun (y5 : Ty.El tIface) => bif y5.fst == a2 then some (Sum.inr (Sum.inr s4)) else some (Sum.inl (IntKind.wrap IntKind.i64 (s4 + (1 : Int)))) else some (Sum.inr (Sum.inl ()))) (0 : Int)) fun (s6 : Unit) => some (-1 : Int)
noncomputable def ref8_statics : ElS [tRouter] → Option (RTy.El (.p tI)) := fun x => match x with | (a1, ()) => bif decide ((↑(List.length a1.snd.snd.snd.snd.snd.snd.snd.fst) : Int) > (16 : Int)) then some (7 : Int) else cut2 (loopX (fun (s126 : Int) => bif decide (s126 < (↑(List.length a1.snd.snd.snd.snd.snd.snd.snd.fst) : Int)) then cut2 (Option.bind (idx a1.snd.snd.snd.snd.snd.snd.snd.fst s126) fun (y127 : Ty.El tStatic) => Option.bind (bif y127.snd.fst != (0 : Int) then some (IntKind.wrap IntKind.i64 ((0 : Int) + (1 : Int))) else some (0 : Int)) fun (s128 : Int) => Option.bind (bif y127.snd.snd.fst != { data := #[] } then some (IntKind.wrap IntKind.i64 (s128 + (1 : Int))) else some s128) fun (s129 : Int) => Option.bind (bif y127.snd.snd.snd.fst then some (IntKind.wrap IntKind.i64 (s129 + (1 : Int))) else some s129) fun (s130 : Int) => Option.bind (Option.bind (ref4_Valid (y127.fst, ())) fun (y131 : Bool) => bif !y131 then some true else bif s130 != (1 : Int) then some true else bif y127.snd.fst != (0 : Int) then Option.bind (ref8_Address (a1, y127.snd.fst, ())) fun (y132 : Int) => bif decide (y132 ≥ (0 : Int)) then some true else Option.bind (ref8_within (y127.snd.snd.snd.snd.fst, (1 : Int), (255 : Int), ())) fun (y133 : Bool) => bif !y133 then some true else Option.bind (ref8_within (y127.snd.snd.snd.snd.snd.fst, (0 : Int), (65535 : Int), ())) fun (y134 : Bool) => some !y134 else Option.bind (ref8_within (y127.snd.snd.snd.snd.fst, (1 : Int), (255 : Int), ())) fun (y135 : Bool) => bif !y135 then some true else Option.bind (ref8_within (y127.snd.snd.snd.snd.snd.fst, (0 : Int), (65535 : Int), ())) fun (y136 : Bool) => some !y136) fun (s137 : Bool) => bif s137 then some (Sum.inr (Sum.inr (Sum.inr (1 : Int)))) else cut2 (bif y127.snd.snd.fst != { data := #[] } then Option.bind (ref8_Interface (a1, y127.snd.snd.fst, ())) fun (y138 : Int) => bif decide (y138 < (0 : Int)) then some (Sum.inr (Sum.inr (Sum.inr (Sum.inr (5 : Int))))) else Option.bind (idx a1.snd.snd.fst y138) fun (y139 : Ty.El tIface) => bif y139.snd.snd.fst == (0 : Int) then some (Sum.inr (Sum.inr (Sum.inr (Sum.inr (1 : Int))))) else some (Sum.inl ()) else some (Sum.inl ())) fun (s140 : Unit) => loopX (fun (s141 : Int) => bif decide (s141 < s126) then Option.bind (Option.bind (idx a1.snd.snd.snd.snd.snd.snd.snd.fst s141) fun (y142 : Ty.El tStatic) => bif y142.fst.fst == y127.fst.fst && (y142.fst.snd.fst == y127.fst.snd.fst && true) then Option.bind (idx a1.snd.snd.snd.snd.snd.snd.snd.fst s141) fun (y143 : Ty.El tStatic) => some (y143.snd.snd.snd.snd.fst == y127.snd.snd.snd.snd.fst) else some false) fun (s144 : Bool) => bif s144 then some (Sum.inr (Sum.inr (Sum.inr (Sum.inr (6 : Int))))) else some (Sum.inl (IntKind.wrap IntKind.i64 (s141 + (1 : Int)))) else some (Sum.inr (Sum.inl ()))) (0 : Int)) fun (s145 : Unit) => some (Sum.inl (IntKind.wrap IntKind.i64 (s126 + (1 : Int)))) else some (Sum.inr (Sum.inl ()))) (0 : Int)) fun (s146 : Unit) => some (0 : Int)
noncomputable def ref8_RouteMap : ElS [tRouter, .str] → Option (RTy.El (.p tI)) := fun x => match x with | (a1, a2, ()) => cut2 (loopX (fun (s4 : Int) => bif decide (s4 < (↑(List.length a1.snd.snd.snd.snd.fst) : Int)) then Option.bind (idx a1.snd.snd.snd.snd.fst s4) fun (y5 : Ty.El tRMap) => bif y5.fst == a2 then some (Sum.inr (Sum.inr s4)) else some (Sum.inl (IntKind.wrap IntKind.i64 (s4 + (1 : Int)))) else some (Sum.inr (Sum.inl ()))) (0 : Int)) fun (s6 : Unit) => some (-1 : Int)
noncomputable def ref8_redistributions : ElS [tRouter, (.sl tRedist), tI, tI, tI] → Option (RTy.El (.p tI)) := fun x => match x with | (a1, a2, a3, a4, a5, ()) => bif decide ((↑(List.length a2) : Int) > (4 : Int)) then some (7 : Int) else cut2 (loopX (fun (s69 : Int) => bif decide (s69 < (↑(List.length a2) : Int)) then cut2 (Option.bind (idx a2 s69) fun (y70 : Ty.El tRedist) => Option.bind (Option.bind (ref8_within (y70.fst, (1 : Int), (5 : Int), ())) fun (y71 : Bool) => bif !y71 then some true else bif y70.fst == a3 then some true else Option.bind (ref8_within (y70.snd.fst, a4, a5, ())) fun (y72 : Bool) => bif !y72 then some true else Option.bind (ref8_within (y70.snd.snd.fst, (0 : Int), (65535 : Int), ())) fun (y73 : Bool) => some !y73) fun (s74 : Bool) => bif s74 then some (Sum.inr (Sum.inr (Sum.inr (1 : Int)))) else Option.bind (bif a3 == (3 : Int) then bif y70.snd.snd.snd.snd.fst != (1 : Int) then bif y70.snd.snd.snd.snd.fst != (2 : Int) then some true else bif a3 != (3 : Int) then some (y70.snd.snd.snd.snd.fst != (0 : Int)) else some false else bif a3 != (3 : Int) then some (y70.snd.snd.snd.snd.fst != (0 : Int)) else some false else bif a3 != (3 : Int) then some (y70.snd.snd.snd.snd.fst != (0 : Int)) else some false) fun (s75 : Bool) => bif s75 then some (Sum.inr (Sum.inr (Sum.inr (1 : Int)))) else Option.bind (bif y70.snd.snd.snd.fst != { data := #[] } then Option.bind (ref8_RouteMap (a1, y70.snd.snd.snd.fst, ())) fun (y76 : Int) => some (decide (y76 < (0 : Int))) else some false) fun (s77 : Bool) => bif s77 then some (Sum.inr (Sum.inr (Sum.inr (5 : Int)))) else loopX (fun (s78 : Int) => bif decide (s78 < s69) then Option.bind (idx a2 s78) fun (y79 : Ty.El tRedist) => bif y79.fst == y70.fst then some (Sum.inr (Sum.inr (Sum.inr (Sum.inr (4 : Int))))) else some (Sum.inl (IntKind.wrap IntKind.i64 (s78 + (1 : Int)))) else some (Sum.inr (Sum.inl ()))) (0 : Int)) fun (s80 : Unit) => some (Sum.inl (IntKind.wrap IntKind.i64 (s69 + (1 : Int)))) else some (Sum.inr (Sum.inl ()))) (0 : Int)) fun (s81 : Unit) => some (0 : Int)
noncomputable def ref8_linkState : ElS [tRouter] → Option (RTy.El (.p tI)) := fun x => match x with | (a1, ()) => bif !a1.snd.snd.snd.snd.snd.snd.snd.snd.fst.fst then Option.bind (bif a1.snd.snd.snd.snd.snd.snd.snd.snd.fst.snd.fst != (0 : Int) then some true else bif decide ((↑(List.length a1.snd.snd.snd.snd.snd.snd.snd.snd.fst.snd.snd.fst) : Int) > (0 : Int)) then some true else some (decide ((↑(List.length a1.snd.snd.snd.snd.snd.snd.snd.snd.fst.snd.snd.snd.fst) : Int) > (0 : Int)))) fun (s0 : Bool) => bif s0 then some (1 : Int) else some (0 : Int) else Option.bind (ref8_within (a1.snd.snd.snd.snd.snd.snd.snd.snd.fst.snd.fst, (1 : Int), (255 : Int), ())) fun (y1 : Bool) => bif !y1 then some (1 : Int) else bif decide ((↑(List.length a1.snd.snd.snd.snd.snd.snd.snd.snd.fst.snd.snd.fst) : Int) > (4 : Int)) then some (7 : Int) else cut2 (loopX (fun (s63 : Int) => bif decide (s63 < (↑(List.length a1.snd.snd.snd.snd.snd.snd.snd.snd.fst.snd.snd.fst) : Int)) then cut2 (Option.bind (Option.bind (idx a1.snd.snd.snd.snd.snd.snd.snd.snd.fst.snd.snd.fst s63) fun (y64 : Ty.El tARange) => Option.bind (ref8_within (y64.fst, (0 : Int), (255 : Int), ())) fun (y65 : Bool) => bif !y65 then some true else Option.bind (idx a1.snd.snd.snd.snd.snd.snd.snd.snd.fst.snd.snd.fst s63) fun (y66 : Ty.El tARange) => Option.bind (ref4_Valid (y66.snd.fst, ())) fun (y67 : Bool) => some !y67) fun (s68 : Bool) => bif s68 then some (Sum.inr (Sum.inr (Sum.inr (1 : Int)))) else loopX (fun (s69 : Int) => bif decide (s69 < s63) then Option.bind (Option.bind (idx a1.snd.snd.snd.snd.snd.snd.snd.snd.fst.snd.snd.fst s69) fun (y70 : Ty.El tARange) => Option.bind (idx a1.snd.snd.snd.snd.snd.snd.snd.snd.fst.snd.snd.fst s63) fun (y71 : Ty.El tARange) => bif y70.fst == y71.fst then Option.bind (idx a1.snd.snd.snd.snd.snd.snd.snd.snd.fst.snd.snd.fst s69) fun (y72 : Ty.El tARange) => Option.bind (idx a1.snd.snd.snd.snd.snd.snd.snd.snd.fst.snd.snd.fst s63) fun (y73 : Ty.El tARange) => Option.bind (ref4_Overlaps (y72.snd.fst, y73.snd.fst, ())) fun (y74 : Bool) => some y74 else some false) fun (s75 : Bool) => bif s75 then some (Sum.inr (Sum.inr (Sum.inr (Sum.inr (6 : Int))))) else some (Sum.inl (IntKind.wrap IntKind.i64 (s69 + (1 : Int)))) else some (Sum.inr (Sum.inl ()))) (0 : Int)) fun (s76 : Unit) => some (Sum.inl (IntKind.wrap IntKind.i64 (s63 + (1 : Int)))) else some (Sum.inr (Sum.inl ()))) (0 : Int)) fun (s77 : Unit) => Option.bind (ref8_redistributions (a1, a1.snd.snd.snd.snd.snd.snd.snd.snd.fst.snd.snd.snd.fst, (3 : Int), (0 : Int), (16777215 : Int), ())) fun (y78 : Int) => some y78
noncomputable def ref8_distance : ElS [tRouter] → Option (RTy.El (.p tI)) := fun x => match x with | (a1, ()) => bif !a1.snd.snd.snd.snd.snd.snd.snd.snd.snd.fst.fst then Option.bind (bif a1.snd.snd.snd.snd.snd.snd.snd.snd.snd.fst.snd.fst != (0 : Int) then some true else bif a1.snd.snd.snd.snd.snd.snd.snd.snd.snd.fst.snd.snd.fst != { data := #[] } then some true else bif a1.snd.snd.snd.snd.snd.snd.snd.snd.snd.fst.snd.snd.snd.fst != { data := #[] } then some true else some (decide ((↑(List.length a1.snd.snd.snd.snd.snd.snd.snd.snd.snd.fst.snd.snd.snd.snd.fst) : Int) > (0 : Int)))) fun (s0 : Bool) => bif s0 then some (1 : Int) else some (0 : Int) else Option.bind (ref8_within (a1.snd.snd.snd.snd.snd.snd.snd.snd.snd.fst.snd.fst, (1 : Int), (255 : Int), ())) fun (y1 : Bool) => bif !y1 then some (1 : Int) else Option.bind (bif a1.snd.snd.snd.snd.snd.snd.snd.snd.snd.fst.snd.snd.fst != { data := #[] } then Option.bind (ref8_PrefixList (a1, a1.snd.snd.snd.snd.snd.snd.snd.snd.snd.fst.snd.snd.fst, ())) fun (y5 : Int) => bif decide (y5 < (0 : Int)) then some true else bif a1.snd.snd.snd.snd.snd.snd.snd.snd.snd.fst.snd.snd.snd.fst != { data := #[] } then Option.bind (ref8_PrefixList (a1, a1.snd.snd.snd.snd.snd.snd.snd.snd.snd.fst.snd.snd.snd.fst, ())) fun (y6 : Int) => some (decide (y6 < (0 : Int))) else some false else bif a1.snd.snd.snd.snd.snd.snd.snd.snd.snd.fst.snd.snd.snd.fst != { data := #[] } then Option.bind (ref8_PrefixList (a1, a1.snd.snd.snd.snd.snd.snd.snd.snd.snd.fst.snd.snd.snd.fst, ())) fun (y7 : Int) => some (decide (y7 < (0 : Int))) else some false) fun (s8 : Bool) => bif s8 then some (5 : Int) else Option.bind (ref8_redistributions (a1, a1.snd.snd.snd.snd.snd.snd.snd.snd.snd.fst.snd.snd.snd.snd.fst, (4 : Int), (1 : Int), (15 : Int), ())) fun (y9 : Int) => some y9
noncomputable def ref8_neighbors : ElS [tRouter] → Option (RTy.El (.p tI)) := fun x => match x with | (a1, ()) => bif decide ((↑(List.length a1.snd.snd.snd.snd.snd.snd.snd.snd.snd.snd.fst.snd.snd.snd.fst) : Int) > (8 : Int)) then some (7 : Int) else cut2 (loopX (fun (s81 : Int) => bif decide (s81 < (↑(List.length a1.snd.snd.snd.snd.snd.snd.snd.snd.snd.snd.fst.snd.snd.snd.fst) : Int)) then cut2 (Option.bind (Option.bind (idx a1.snd.snd.snd.snd.snd.snd.snd.snd.snd.snd.fst.snd.snd.snd.fst s81) fun (y82 : Ty.El tNeighbor) => bif y82.fst == (0 : Int) then some true else Option.bind (idx a1.snd.snd.snd.snd.snd.snd.snd.snd.snd.snd.fst.snd.snd.snd.fst s81) fun (y83 : Ty.El tNeighbor) => Option.bind (ref8_within (y83.snd.fst, (1 : Int), (65535 : Int), ())) fun (y84 : Bool) => some !y84) fun (s85 : Bool) => bif s85 then some (Sum.inr (Sum.inr (Sum.inr (1 : Int)))) else Option.bind (Option.bind (idx a1.snd.snd.snd.snd.snd.snd.snd.snd.snd.snd.fst.snd.snd.snd.fst s81) fun (y86 : Ty.El tNeighbor) => bif y86.snd.snd.fst != { data := #[] } then Option.bind (idx a1.snd.snd.snd.snd.snd.snd.snd.snd.snd.snd.fst.snd.snd.snd.fst s81) fun (y87 : Ty.El tNeighbor) => Option.bind (ref8_RouteMap (a1, y87.snd.snd.fst, ())) fun (y88 : Int) => bif decide (y88 < (0 : Int)) then some true else Option.bind (idx a1.snd.snd.snd.snd.snd.snd.snd.snd.snd.snd.fst.snd.snd.snd.fst s81) fun (y89 : Ty.El tNeighbor) => bif y89.snd.snd.snd.fst != { data := #[] } then Option.bind (idx a1.snd.snd.snd.snd.snd.snd.snd.snd.snd.snd.fst.snd.snd.snd.fst s81) fun (y90 : Ty.El tNeighbor) => Option.bind (ref8_RouteMap (a1, y90.snd.snd.snd.fst, ())) fun (y91 : Int) => some (decide (y91 < (0 : Int))) else some false else Option.bind (idx a1.snd.snd.snd.snd.snd.snd.snd.snd.snd.snd.fst.snd.snd.snd.fst s81) fun (y92 : Ty.El tNeighbor) => bif y92.snd.snd.snd.fst != { data := #[] } then Option.bind (idx a1.snd.snd.snd.snd.snd.snd.snd.snd.snd.snd.fst.snd.snd.snd.fst s81) fun (y93 : Ty.El tNeighbor) => Option.bind (ref8_RouteMap (a1, y93.snd.snd.snd.fst, ())) fun (y94 : Int) => some (decide (y94 < (0 : Int))) else some false) fun (s95 : Bool) => bif s95 then some (Sum.inr (Sum.inr (Sum.inr (5 : Int)))) else loopX (fun (s96 : Int) => bif decide (s96 < s81) then Option.bind (idx a1.snd.snd.snd.snd.snd.snd.snd.snd.snd.snd.fst.snd.snd.snd.fst s96) fun (y97 : Ty.El tNeighbor) => Option.bind (idx a1.snd.snd.snd.snd.snd.snd.snd.snd.snd.snd.fst.snd.snd.snd.fst s81) fun (y98 : Ty.El tNeighbor) => bif y97.fst == y98.fst then some (Sum.inr (Sum.inr (Sum.inr (Sum.inr (4 : Int))))) else some (Sum.inl (IntKind.wrap IntKind.i64 (s96 + (1 : Int)))) else some (Sum.inr (Sum.inl ()))) (0 : Int)) fun (s99 : Unit) => some (Sum.inl (IntKind.wrap IntKind.i64 (s81 + (1 : Int)))) else some (Sum.inr (Sum.inl ()))) (0 : Int)) fun (s100 : Unit) => some (0 : Int)
noncomputable def ref8_originations : ElS [tPV] → Option (RTy.El (.p tI)) := fun x => match x with | (a1, ()) => bif decide ((↑(List.length a1.snd.snd.snd.snd.fst) : Int) > (8 : Int)) then some (7 : Int) else cut2 (loopX (fun (s24 : Int) => bif decide (s24 < (↑(List.length a1.snd.snd.snd.snd.fst) : Int)) then cut2 (Option.bind (idx a1.snd.snd.snd.snd.fst s24) fun (y25 : Ty.El tPrefix) => Option.bind (ref4_Valid (y25, ())) fun (y26 : Bool) => bif !y26 then some (Sum.inr (Sum.inr (Sum.inr (1 : Int)))) else loopX (fun (s27 : Int) => bif decide (s27 < s24) then Option.bind (idx a1.snd.snd.snd.snd.fst s27) fun (y28 : Ty.El tPrefix) => Option.bind (idx a1.snd.snd.snd.snd.fst s24) fun (y29 : Ty.El tPrefix) => bif y28.fst == y29.fst && (y28.snd.fst == y29.snd.fst && true) then some (Sum.inr (Sum.inr (Sum.inr (Sum.inr (4 : Int))))) else some (Sum.inl (IntKind.wrap IntKind.i64 (s27 + (1 : Int)))) else some (Sum.inr (Sum.inl ()))) (0 : Int)) fun (s30 : Unit) => some (Sum.inl (IntKind.wrap IntKind.i64 (s24 + (1 : Int)))) else some (Sum.inr (Sum.inl ()))) (0 : Int)) fun (s31 : Unit) => bif decide ((↑(List.length a1.snd.snd.snd.snd.snd.fst) : Int) > (8 : Int)) then some (7 : Int) else cut2 (loopX (fun (s56 : Int) => bif decide (s56 < (↑(List.length a1.snd.snd.snd.snd.snd.fst) : Int)) then cut2 (Option.bind (idx a1.snd.snd.snd.snd.snd.fst s56) fun (y57 : Ty.El tAggregate) => Option.bind (ref4_Valid (y57.fst, ())) fun (y58 : Bool) => bif !y58 then some (Sum.inr (Sum.inr (Sum.inr (1 : Int)))) else loopX (fun (s59 : Int) => bif decide (s59 < s56) then Option.bind (idx a1.snd.snd.snd.snd.snd.fst s59) fun (y60 : Ty.El tAggregate) => Option.bind (idx a1.snd.snd.snd.snd.snd.fst s56) fun (y61 : Ty.El tAggregate) => bif y60.fst.fst == y61.fst.fst && (y60.fst.snd.fst == y61.fst.snd.fst && true) then some (Sum.inr (Sum.inr (Sum.inr (Sum.inr (4 : Int))))) else some (Sum.inl (IntKind.wrap IntKind.i64 (s59 + (1 : Int)))) else some (Sum.inr (Sum.inl ()))) (0 : Int)) fun (s62 : Unit) => some (Sum.inl (IntKind.wrap IntKind.i64 (s56 + (1 : Int)))) else some (Sum.inr (Sum.inl ()))) (0 : Int)) fun (s63 : Unit) => bif decide ((↑(List.length a1.snd.snd.snd.snd.snd.snd.fst) : Int) > (8 : Int)) then some (7 : Int) else cut2 (loopX (fun (s109 : Int) => bif decide (s109 < (↑(List.length a1.snd.snd.snd.snd.snd.snd.fst) : Int)) then cut2 (Option.bind (idx a1.snd.snd.snd.snd.snd.snd.fst s109) fun (y110 : Ty.El tCondition) => Option.bind (Option.bind (ref4_Valid (y110.fst, ())) fun (y111 : Bool) => bif !y111 then some true else Option.bind (ref4_Valid (y110.snd.fst, ())) fun (y112 : Bool) => some !y112) fun (s113 : Bool) => bif s113 then some (Sum.inr (Sum.inr (Sum.inr (1 : Int)))) else bif y110.fst.fst == y110.snd.fst.fst && (y110.fst.snd.fst == y110.snd.fst.snd.fst && true) then some (Sum.inr (Sum.inr (Sum.inr (6 : Int)))) else loopX (fun (s114 : Int) => bif decide (s114 < s109) then Option.bind (idx a1.snd.snd.snd.snd.snd.snd.fst s114) fun (y115 : Ty.El tCondition) => bif y115.fst.fst == y110.fst.fst && (y115.fst.snd.fst == y110.fst.snd.fst && true) then some (Sum.inr (Sum.inr (Sum.inr (Sum.inr (4 : Int))))) else some (Sum.inl (IntKind.wrap IntKind.i64 (s114 + (1 : Int)))) else some (Sum.inr (Sum.inl ()))) (0 : Int)) fun (s116 : Unit) => some (Sum.inl (IntKind.wrap IntKind.i64 (s109 + (1 : Int)))) else some (Sum.inr (Sum.inl ()))) (0 : Int)) fun (s117 : Unit) => some (0 : Int)
noncomputable def ref8_pathVector : ElS [tRouter] → Option (RTy.El (.p tI)) := fun x => match x with | (a1, ()) => bif !a1.snd.snd.snd.snd.snd.snd.snd.snd.snd.snd.fst.fst then Option.bind (bif a1.snd.snd.snd.snd.snd.snd.snd.snd.snd.snd.fst.snd.fst != (0 : Int) then some true else bif a1.snd.snd.snd.snd.snd.snd.snd.snd.snd.snd.fst.snd.snd.fst != (0 : Int) then some true else some (decide (IntKind.wrap IntKind.i64 (IntKind.wrap IntKind.i64 (IntKind.wrap IntKind.i64 (IntKind.wrap IntKind.i64 ((↑(List.length a1.snd.snd.snd.snd.snd.snd.snd.snd.snd.snd.fst.snd.snd.snd.fst) : Int) + (↑(List.length a1.snd.snd.snd.snd.snd.snd.snd.snd.snd.snd.fst.snd.snd.snd.snd.fst) : Int)) + (↑(List.length a1.snd.snd.snd.snd.snd.snd.snd.snd.snd.snd.fst.snd.snd.snd.snd.snd.fst) : Int)) + (↑(List.length a1.snd.snd.snd.snd.snd.snd.snd.snd.snd.snd.fst.snd.snd.snd.snd.snd.snd.fst) : Int)) + (↑(List.length a1.snd.snd.snd.snd.snd.snd.snd.snd.snd.snd.fst.snd.snd.snd.snd.snd.snd.snd.fst) : Int)) > (0 : Int)))) fun (s0 : Bool) => bif s0 then some (1 : Int) else some (0 : Int) else Option.bind (bif a1.snd.fst == (0 : Int) then some true else Option.bind (ref8_within (a1.snd.snd.snd.snd.snd.snd.snd.snd.snd.snd.fst.snd.fst, (1 : Int), (255 : Int), ())) fun (y3 : Bool) => bif !y3 then some true else Option.bind (ref8_within (a1.snd.snd.snd.snd.snd.snd.snd.snd.snd.snd.fst.snd.snd.fst, (1 : Int), (255 : Int), ())) fun (y4 : Bool) => some !y4) fun (s5 : Bool) => bif s5 then some (1 : Int) else Option.bind (ref8_neighbors (a1, ())) fun (y6 : Int) => bif y6 != (0 : Int) then some y6 else Option.bind (ref8_originations (a1.snd.snd.snd.snd.snd.snd.snd.snd.snd.snd.fst, ())) fun (y7 : Int) => bif y7 != (0 : Int) then some y7 else Option.bind (ref8_redistributions (a1, a1.snd.snd.snd.snd.snd.snd.snd.snd.snd.snd.fst.snd.snd.snd.snd.snd.snd.snd.fst, (5 : Int), (0 : Int), (16777215 : Int), ())) fun (y8 : Int) => some y8
noncomputable def ref8_CheckRouter : ElS [tRouter] → Option (RTy.El (.p tI)) := fun x => match x with | (a1, ()) => Option.bind (ref4_Name (a1.fst, ())) fun (y0 : Bool) => bif !y0 then some (3 : Int) else Option.bind (ref8_within (a1.snd.fst, (0 : Int), (65535 : Int), ())) fun (y1 : Bool) => bif !y1 then some (1 : Int) else Option.bind (ref8_interfaces (a1.snd.snd.fst, ())) fun (y12 : Int) => Option.bind (ref8_prefixLists (a1.snd.snd.snd.fst, ())) fun (y13 : Int) => Option.bind (ref8_routeMaps (a1, ())) fun (y14 : Int) => Option.bind (ref8_accessLists (a1.snd.snd.snd.snd.snd.fst, ())) fun (y15 : Int) => Option.bind (ref8_translations (a1, ())) fun (y16 : Int) => Option.bind (ref8_filters (a1, ())) fun (y17 : Int) => Option.bind (ref8_statics (a1, ())) fun (y18 : Int) => Option.bind (ref8_linkState (a1, ())) fun (y19 : Int) => Option.bind (ref8_distance (a1, ())) fun (y20 : Int) => Option.bind (ref8_pathVector (a1, ())) fun (y21 : Int) => cut2 (loopX (fun (s28 : Int) => bif decide (s28 < (↑(List.length [y12, y13, y14, y15, y16, y17, y18, y19, y20, y21]) : Int)) then Option.bind (idx [y12, y13, y14, y15, y16, y17, y18, y19, y20, y21] s28) fun (y29 : Int) => bif y29 != (0 : Int) then Option.bind (idx [y12, y13, y14, y15, y16, y17, y18, y19, y20, y21] s28) fun (y30 : Int) => some (Sum.inr (Sum.inr y30)) else some (Sum.inl (IntKind.wrap IntKind.i64 (s28 + (1 : Int)))) else some (Sum.inr (Sum.inl ()))) (0 : Int)) fun (s31 : Unit) => some (0 : Int)
noncomputable def ref8_Check : ElS [tNetwork] → Option (RTy.El (.p tI)) := fun x => match x with | (a1, ()) => bif decide ((↑(List.length a1.fst) : Int) > (8 : Int)) then some (7 : Int) else cut2 (loopX (fun (s181 : Int) => bif decide (s181 < (↑(List.length a1.fst) : Int)) then cut2 (Option.bind (idx a1.fst s181) fun (y182 : Ty.El tRouter) => Option.bind (ref8_CheckRouter (y182, ())) fun (y183 : Int) => bif y183 != (0 : Int) then some (Sum.inr (Sum.inr (Sum.inr y183))) else cut2 (loopX (fun (s184 : Int) => bif decide (s184 < s181) then Option.bind (idx a1.fst s184) fun (y185 : Ty.El tRouter) => Option.bind (idx a1.fst s181) fun (y186 : Ty.El tRouter) => bif y185.fst == y186.fst then some (Sum.inr (Sum.inr (Sum.inr (Sum.inr (Sum.inr (4 : Int)))))) else some (Sum.inl (IntKind.wrap IntKind.i64 (s184 + (1 : Int)))) else some (Sum.inr (Sum.inl ()))) (0 : Int)) fun (s187 : Unit) => loopX (fun (s188 : Int) => Option.bind (idx a1.fst s181) fun (y189 : Ty.El tRouter) => bif decide (s188 < (↑(List.length y189.snd.snd.fst) : Int)) then cut2 (Option.bind (idx a1.fst s181) fun (y190 : Ty.El tRouter) => Option.bind (idx y190.snd.snd.fst s188) fun (y191 : Ty.El tIface) => loopX (fun (s192 : Int) => bif decide (s192 < s181) then Option.bind (bif y191.snd.snd.fst != (0 : Int) then Option.bind (idx a1.fst s192) fun (y193 : Ty.El tRouter) => Option.bind (ref8_Address (y193, y191.snd.fst, ())) fun (y194 : Int) => some (decide (y194 ≥ (0 : Int))) else some false) fun (s195 : Bool) => bif s195 then some (Sum.inr (Sum.inr (Sum.inr (Sum.inr (Sum.inr (Sum.inr (4 : Int))))))) else some (Sum.inl (IntKind.wrap IntKind.i64 (s192 + (1 : Int)))) else some (Sum.inr (Sum.inl ()))) (0 : Int)) fun (s196 : Unit) => some (Sum.inl (IntKind.wrap IntKind.i64 (s188 + (1 : Int)))) else some (Sum.inr (Sum.inl ()))) (0 : Int)) fun (s197 : Unit) => some (Sum.inl (IntKind.wrap IntKind.i64 (s181 + (1 : Int)))) else some (Sum.inr (Sum.inl ()))) (0 : Int)) fun (s198 : Unit) => some (0 : Int)
end Go.Ve

namespace Go.Ve
open Go
set_option maxRecDepth 1000000
set_option maxHeartbeats 4000000

theorem idx_of {α : Type} {xs : List α} {i : Int} {y : α} (h : xs[i.toNat]? = some y) (h0 : 0 ≤ i := by omega) : idx xs i = some y := by
  rw [idx, if_pos h0]; exact h

theorem wp_idxA {α : Type} {xs : List α} {i : Int} {Q : α → Prop} {B : α → Prop} (hB : ∀ y, y ∈ xs → B y) (h0 : 0 ≤ i) (h1 : i < xs.length) (h : ∀ y, xs[i.toNat]? = some y → B y → Q y) : Wp (idx xs i) Q :=
  wp_idx h0 h1 (fun y hm hy => h y hy (hB y hm))

/-- A router whose lists are short. -/
structure SmR (r : Ty.El tRouter) : Prop where
  i1 : List.length r.snd.snd.fst ≤ 20
  i2 : List.length r.snd.snd.snd.fst ≤ 20
  i3 : List.length r.snd.snd.snd.snd.fst ≤ 20
  i4 : List.length r.snd.snd.snd.snd.snd.fst ≤ 20
  i5 : List.length r.snd.snd.snd.snd.snd.snd.fst ≤ 20
  i6 : List.length r.snd.snd.snd.snd.snd.snd.snd.fst ≤ 20
  i7 : List.length r.snd.snd.snd.snd.snd.snd.snd.snd.fst.snd.snd.fst ≤ 20
  i8 : List.length r.snd.snd.snd.snd.snd.snd.snd.snd.fst.snd.snd.snd.fst ≤ 20
  i9 : List.length r.snd.snd.snd.snd.snd.snd.snd.snd.snd.fst.snd.snd.snd.snd.fst ≤ 20
  i10 : List.length r.snd.snd.snd.snd.snd.snd.snd.snd.snd.snd.fst.snd.snd.snd.fst ≤ 20
  i11 : List.length r.snd.snd.snd.snd.snd.snd.snd.snd.snd.snd.fst.snd.snd.snd.snd.fst ≤ 20
  i12 : List.length r.snd.snd.snd.snd.snd.snd.snd.snd.snd.snd.fst.snd.snd.snd.snd.snd.fst ≤ 20
  i13 : List.length r.snd.snd.snd.snd.snd.snd.snd.snd.snd.snd.fst.snd.snd.snd.snd.snd.snd.fst ≤ 20
  i14 : List.length r.snd.snd.snd.snd.snd.snd.snd.snd.snd.snd.fst.snd.snd.snd.snd.snd.snd.snd.fst ≤ 20
  n1 : ∀ y, y ∈ r.snd.snd.snd.fst → List.length y.snd.fst ≤ 20
  n2 : ∀ y, y ∈ r.snd.snd.snd.snd.fst → List.length y.snd.fst ≤ 20
  n3 : ∀ y, y ∈ r.snd.snd.snd.snd.snd.fst → List.length y.snd.fst ≤ 20

structure SmPV (r : Ty.El tPV) : Prop where
  i10 : List.length r.snd.snd.snd.fst ≤ 20
  i11 : List.length r.snd.snd.snd.snd.fst ≤ 20
  i12 : List.length r.snd.snd.snd.snd.snd.fst ≤ 20
  i13 : List.length r.snd.snd.snd.snd.snd.snd.fst ≤ 20
  i14 : List.length r.snd.snd.snd.snd.snd.snd.snd.fst ≤ 20

theorem tot_ref4_Mask (a1 : Int) : Wp (ref4_Mask (a1, ())) (fun _ => True) := by
  unfold ref4_Mask
  refine wp_bind ?_
  refine wp_for2 (fun _ _ => True) trivial (fun s g h1 h2 _ => ?_) (fun s g _ _ _ => wp_some (e2r (wp_some trivial)))
  refine wp_bind ?_
  refine wp_bifd (fun _ => ?_) (fun _ => ?_)
  · refine wp_bifd (fun _ => ?_) (fun hn => ?_)
    · exact wp_some (wp_some (e2l ⟨wrap_i64 (by simp only; omega) (by simp only; omega), trivial⟩))
    · exfalso
      apply hn
      simp only
      rw [wrap_i64 (by omega) (by omega), wrap_u64 (by omega) (by omega)]
      omega
  · exact wp_some (wp_some (e2l ⟨wrap_i64 (by simp only; omega) (by simp only; omega), trivial⟩))

theorem tot_ref4_letter (a1 : Ty.El (.int .u8))  : Wp (ref4_letter (a1, ())) (fun _ => True) := by
  unfold ref4_letter
  try dsimp only
  repeat' (first
    | with_reducible exact trivial
    | assumption
    | contradiction
    | with_reducible refine wp_some ?_
    | with_reducible refine wp_byteAt ?_ ?_ (fun y _ _ => ?_)
    | with_reducible refine wp_idx ?_ ?_ (fun y _ _ => ?_)
    | with_reducible refine wp_bifn (fun _ => ?_) (fun _ => ?_)
    | with_reducible refine wp_bifd (fun _ => ?_) (fun _ => ?_)
    | with_reducible refine wp_bif (fun _ => ?_) (fun _ => ?_)
    | with_reducible refine wp_cut2 ?_
    | with_reducible refine wp_for (fun s _ _ => ?_) (fun s _ _ => ?_)
    | simp only [idx_of ‹_[_]? = some _›, Option.bind_some]
    | with_reducible refine wp_map ?_
    | with_reducible refine wp_bind ?_
    | with_reducible refine e2l ?_
    | with_reducible refine e2r ?_
    | exact wrap_i64 (by omega) (by omega)
    | omega
    | (simp only [List.length_cons, List.length_nil] at *; exact wrap_i64 (by omega) (by omega)))

theorem tot_ref4_Name (a1 : Ty.El (.str))  : Wp (ref4_Name (a1, ())) (fun _ => True) := by
  unfold ref4_Name
  try dsimp only
  repeat' (first
    | with_reducible exact trivial
    | assumption
    | contradiction
    | with_reducible refine wp_some ?_
    | with_reducible refine (tot_ref4_letter _).mono (fun r _ => ?_)
    | with_reducible refine wp_byteAt ?_ ?_ (fun y _ _ => ?_)
    | with_reducible refine wp_idx ?_ ?_ (fun y _ _ => ?_)
    | with_reducible refine wp_bifn (fun _ => ?_) (fun _ => ?_)
    | with_reducible refine wp_bifd (fun _ => ?_) (fun _ => ?_)
    | with_reducible refine wp_bif (fun _ => ?_) (fun _ => ?_)
    | with_reducible refine wp_cut2 ?_
    | with_reducible refine wp_for (fun s _ _ => ?_) (fun s _ _ => ?_)
    | simp only [idx_of ‹_[_]? = some _›, Option.bind_some]
    | with_reducible refine wp_map ?_
    | with_reducible refine wp_bind ?_
    | with_reducible refine e2l ?_
    | with_reducible refine e2r ?_
    | exact wrap_i64 (by omega) (by omega)
    | omega
    | (simp only [List.length_cons, List.length_nil] at *; exact wrap_i64 (by omega) (by omega)))

theorem tot_ref8_within (a1 : Ty.El (tI)) (a2 : Ty.El (tI)) (a3 : Ty.El (tI))  : Wp (ref8_within (a1, a2, a3, ())) (fun _ => True) := by
  unfold ref8_within
  try dsimp only
  repeat' (first
    | with_reducible exact trivial
    | assumption
    | contradiction
    | with_reducible refine wp_some ?_
    | with_reducible refine wp_byteAt ?_ ?_ (fun y _ _ => ?_)
    | with_reducible refine wp_idx ?_ ?_ (fun y _ _ => ?_)
    | with_reducible refine wp_bifn (fun _ => ?_) (fun _ => ?_)
    | with_reducible refine wp_bifd (fun _ => ?_) (fun _ => ?_)
    | with_reducible refine wp_bif (fun _ => ?_) (fun _ => ?_)
    | with_reducible refine wp_cut2 ?_
    | with_reducible refine wp_for (fun s _ _ => ?_) (fun s _ _ => ?_)
    | simp only [idx_of ‹_[_]? = some _›, Option.bind_some]
    | with_reducible refine wp_map ?_
    | with_reducible refine wp_bind ?_
    | with_reducible refine e2l ?_
    | with_reducible refine e2r ?_
    | exact wrap_i64 (by omega) (by omega)
    | omega
    | (simp only [List.length_cons, List.length_nil] at *; exact wrap_i64 (by omega) (by omega)))

theorem tot_ref4_Network (a1 : Ty.El (tU)) (a2 : Ty.El (tI))  : Wp (ref4_Network (a1, a2, ())) (fun _ => True) := by
  unfold ref4_Network
  try dsimp only
  repeat' (first
    | with_reducible exact trivial
    | assumption
    | contradiction
    | with_reducible refine wp_some ?_
    | with_reducible refine (tot_ref4_Mask _).mono (fun r _ => ?_)
    | with_reducible refine wp_byteAt ?_ ?_ (fun y _ _ => ?_)
    | with_reducible refine wp_idx ?_ ?_ (fun y _ _ => ?_)
    | with_reducible refine wp_bifn (fun _ => ?_) (fun _ => ?_)
    | with_reducible refine wp_bifd (fun _ => ?_) (fun _ => ?_)
    | with_reducible refine wp_bif (fun _ => ?_) (fun _ => ?_)
    | with_reducible refine wp_cut2 ?_
    | with_reducible refine wp_for (fun s _ _ => ?_) (fun s _ _ => ?_)
    | simp only [idx_of ‹_[_]? = some _›, Option.bind_some]
    | with_reducible refine wp_map ?_
    | with_reducible refine wp_bind ?_
    | with_reducible refine e2l ?_
    | with_reducible refine e2r ?_
    | exact wrap_i64 (by omega) (by omega)
    | omega
    | (simp only [List.length_cons, List.length_nil] at *; exact wrap_i64 (by omega) (by omega)))

theorem tot_ref4_Contains (a1 : Ty.El (tPrefix)) (a2 : Ty.El (tU))  : Wp (ref4_Contains (a1, a2, ())) (fun _ => True) := by
  unfold ref4_Contains
  try dsimp only
  repeat' (first
    | with_reducible exact trivial
    | assumption
    | contradiction
    | with_reducible refine wp_some ?_
    | with_reducible refine (tot_ref4_Mask _).mono (fun r _ => ?_)
    | with_reducible refine wp_byteAt ?_ ?_ (fun y _ _ => ?_)
    | with_reducible refine wp_idx ?_ ?_ (fun y _ _ => ?_)
    | with_reducible refine wp_bifn (fun _ => ?_) (fun _ => ?_)
    | with_reducible refine wp_bifd (fun _ => ?_) (fun _ => ?_)
    | with_reducible refine wp_bif (fun _ => ?_) (fun _ => ?_)
    | with_reducible refine wp_cut2 ?_
    | with_reducible refine wp_for (fun s _ _ => ?_) (fun s _ _ => ?_)
    | simp only [idx_of ‹_[_]? = some _›, Option.bind_some]
    | with_reducible refine wp_map ?_
    | with_reducible refine wp_bind ?_
    | with_reducible refine e2l ?_
    | with_reducible refine e2r ?_
    | exact wrap_i64 (by omega) (by omega)
    | omega
    | (simp only [List.length_cons, List.length_nil] at *; exact wrap_i64 (by omega) (by omega)))

theorem tot_ref4_Covers (a1 : Ty.El (tPrefix)) (a2 : Ty.El (tPrefix))  : Wp (ref4_Covers (a1, a2, ())) (fun _ => True) := by
  unfold ref4_Covers
  try dsimp only
  repeat' (first
    | with_reducible exact trivial
    | assumption
    | contradiction
    | with_reducible refine wp_some ?_
    | with_reducible refine (tot_ref4_Contains _ _).mono (fun r _ => ?_)
    | with_reducible refine wp_byteAt ?_ ?_ (fun y _ _ => ?_)
    | with_reducible refine wp_idx ?_ ?_ (fun y _ _ => ?_)
    | with_reducible refine wp_bifn (fun _ => ?_) (fun _ => ?_)
    | with_reducible refine wp_bifd (fun _ => ?_) (fun _ => ?_)
    | with_reducible refine wp_bif (fun _ => ?_) (fun _ => ?_)
    | with_reducible refine wp_cut2 ?_
    | with_reducible refine wp_for (fun s _ _ => ?_) (fun s _ _ => ?_)
    | simp only [idx_of ‹_[_]? = some _›, Option.bind_some]
    | with_reducible refine wp_map ?_
    | with_reducible refine wp_bind ?_
    | with_reducible refine e2l ?_
    | with_reducible refine e2r ?_
    | exact wrap_i64 (by omega) (by omega)
    | omega
    | (simp only [List.length_cons, List.length_nil] at *; exact wrap_i64 (by omega) (by omega)))

theorem tot_ref4_Overlaps (a1 : Ty.El (tPrefix)) (a2 : Ty.El (tPrefix))  : Wp (ref4_Overlaps (a1, a2, ())) (fun _ => True) := by
  unfold ref4_Overlaps
  try dsimp only
  repeat' (first
    | with_reducible exact trivial
    | assumption
    | contradiction
    | with_reducible refine wp_some ?_
    | with_reducible refine (tot_ref4_Covers _ _).mono (fun r _ => ?_)
    | with_reducible refine wp_byteAt ?_ ?_ (fun y _ _ => ?_)
    | with_reducible refine wp_idx ?_ ?_ (fun y _ _ => ?_)
    | with_reducible refine wp_bifn (fun _ => ?_) (fun _ => ?_)
    | with_reducible refine wp_bifd (fun _ => ?_) (fun _ => ?_)
    | with_reducible refine wp_bif (fun _ => ?_) (fun _ => ?_)
    | with_reducible refine wp_cut2 ?_
    | with_reducible refine wp_for (fun s _ _ => ?_) (fun s _ _ => ?_)
    | simp only [idx_of ‹_[_]? = some _›, Option.bind_some]
    | with_reducible refine wp_map ?_
    | with_reducible refine wp_bind ?_
    | with_reducible refine e2l ?_
    | with_reducible refine e2r ?_
    | exact wrap_i64 (by omega) (by omega)
    | omega
    | (simp only [List.length_cons, List.length_nil] at *; exact wrap_i64 (by omega) (by omega)))

theorem tot_ref8_interfaces (a1 : Ty.El (.sl tIface)) (h0 : List.length a1 ≤ 20) : Wp (ref8_interfaces (a1, ())) (fun _ => True) := by
  unfold ref8_interfaces
  try dsimp only
  repeat' (first
    | with_reducible exact trivial
    | assumption
    | contradiction
    | with_reducible refine wp_some ?_
    | with_reducible refine (tot_ref4_Name _).mono (fun r _ => ?_)
    | with_reducible refine (tot_ref8_within _ _ _).mono (fun r _ => ?_)
    | with_reducible refine (tot_ref4_Network _ _).mono (fun r _ => ?_)
    | with_reducible refine (tot_ref4_Overlaps _ _).mono (fun r _ => ?_)
    | with_reducible refine wp_byteAt ?_ ?_ (fun y _ _ => ?_)
    | with_reducible refine wp_idx ?_ ?_ (fun y _ _ => ?_)
    | with_reducible refine wp_bifn (fun _ => ?_) (fun _ => ?_)
    | with_reducible refine wp_bifd (fun _ => ?_) (fun _ => ?_)
    | with_reducible refine wp_bif (fun _ => ?_) (fun _ => ?_)
    | with_reducible refine wp_cut2 ?_
    | with_reducible refine wp_for (fun s _ _ => ?_) (fun s _ _ => ?_)
    | simp only [idx_of ‹_[_]? = some _›, Option.bind_some]
    | with_reducible refine wp_map ?_
    | with_reducible refine wp_bind ?_
    | with_reducible refine e2l ?_
    | with_reducible refine e2r ?_
    | exact wrap_i64 (by omega) (by omega)
    | omega
    | (simp only [List.length_cons, List.length_nil] at *; exact wrap_i64 (by omega) (by omega)))

theorem tot_ref4_Valid (a1 : Ty.El (tPrefix))  : Wp (ref4_Valid (a1, ())) (fun _ => True) := by
  unfold ref4_Valid
  try dsimp only
  repeat' (first
    | with_reducible exact trivial
    | assumption
    | contradiction
    | with_reducible refine wp_some ?_
    | with_reducible refine (tot_ref4_Mask _).mono (fun r _ => ?_)
    | with_reducible refine wp_byteAt ?_ ?_ (fun y _ _ => ?_)
    | with_reducible refine wp_idx ?_ ?_ (fun y _ _ => ?_)
    | with_reducible refine wp_bifn (fun _ => ?_) (fun _ => ?_)
    | with_reducible refine wp_bifd (fun _ => ?_) (fun _ => ?_)
    | with_reducible refine wp_bif (fun _ => ?_) (fun _ => ?_)
    | with_reducible refine wp_cut2 ?_
    | with_reducible refine wp_for (fun s _ _ => ?_) (fun s _ _ => ?_)
    | simp only [idx_of ‹_[_]? = some _›, Option.bind_some]
    | with_reducible refine wp_map ?_
    | with_reducible refine wp_bind ?_
    | with_reducible refine e2l ?_
    | with_reducible refine e2r ?_
    | exact wrap_i64 (by omega) (by omega)
    | omega
    | (simp only [List.length_cons, List.length_nil] at *; exact wrap_i64 (by omega) (by omega)))

theorem tot_ref8_ValidPrefixRule (a1 : Ty.El (tPRule))  : Wp (ref8_ValidPrefixRule (a1, ())) (fun _ => True) := by
  unfold ref8_ValidPrefixRule
  try dsimp only
  repeat' (first
    | with_reducible exact trivial
    | assumption
    | contradiction
    | with_reducible refine wp_some ?_
    | with_reducible refine (tot_ref4_Valid _).mono (fun r _ => ?_)
    | with_reducible refine wp_byteAt ?_ ?_ (fun y _ _ => ?_)
    | with_reducible refine wp_idx ?_ ?_ (fun y _ _ => ?_)
    | with_reducible refine wp_bifn (fun _ => ?_) (fun _ => ?_)
    | with_reducible refine wp_bifd (fun _ => ?_) (fun _ => ?_)
    | with_reducible refine wp_bif (fun _ => ?_) (fun _ => ?_)
    | with_reducible refine wp_cut2 ?_
    | with_reducible refine wp_for (fun s _ _ => ?_) (fun s _ _ => ?_)
    | simp only [idx_of ‹_[_]? = some _›, Option.bind_some]
    | with_reducible refine wp_map ?_
    | with_reducible refine wp_bind ?_
    | with_reducible refine e2l ?_
    | with_reducible refine e2r ?_
    | exact wrap_i64 (by omega) (by omega)
    | omega
    | (simp only [List.length_cons, List.length_nil] at *; exact wrap_i64 (by omega) (by omega)))

theorem tot_ref8_prefixLists (a1 : Ty.El (.sl tPList)) (h0 : List.length a1 ≤ 20) (h1 : ∀ y, y ∈ a1 → List.length y.snd.fst ≤ 20) : Wp (ref8_prefixLists (a1, ())) (fun _ => True) := by
  unfold ref8_prefixLists
  try dsimp only
  repeat' (first
    | with_reducible exact trivial
    | assumption
    | contradiction
    | with_reducible refine wp_some ?_
    | with_reducible refine (tot_ref4_Name _).mono (fun r _ => ?_)
    | with_reducible refine (tot_ref8_ValidPrefixRule _).mono (fun r _ => ?_)
    | with_reducible refine wp_byteAt ?_ ?_ (fun y _ _ => ?_)
    | with_reducible refine wp_idxA h1 ?_ ?_ (fun y _ _ => ?_)
    | with_reducible refine wp_idx ?_ ?_ (fun y _ _ => ?_)
    | with_reducible refine wp_bifn (fun _ => ?_) (fun _ => ?_)
    | with_reducible refine wp_bifd (fun _ => ?_) (fun _ => ?_)
    | with_reducible refine wp_bif (fun _ => ?_) (fun _ => ?_)
    | with_reducible refine wp_cut2 ?_
    | with_reducible refine wp_for (fun s _ _ => ?_) (fun s _ _ => ?_)
    | simp only [idx_of ‹_[_]? = some _›, Option.bind_some]
    | with_reducible refine wp_map ?_
    | with_reducible refine wp_bind ?_
    | with_reducible refine e2l ?_
    | with_reducible refine e2r ?_
    | exact wrap_i64 (by omega) (by omega)
    | omega
    | (simp only [List.length_cons, List.length_nil] at *; exact wrap_i64 (by omega) (by omega)))

theorem tot_ref8_PrefixList (a1 : Ty.El (tRouter)) (a2 : Ty.El (.str)) (h0 : SmR a1) : Wp (ref8_PrefixList (a1, a2, ())) (fun (r : Int) => -1 ≤ r ∧ r < (List.length a1.snd.snd.snd.fst : Int)) := by
  have hh0 := h0
  obtain ⟨i1, i2, i3, i4, i5, i6, i7, i8, i9, i10, i11, i12, i13, i14, n1, n2, n3⟩ := hh0
  unfold ref8_PrefixList
  try dsimp only
  repeat' (first
    | with_reducible exact trivial
    | exact ⟨i10, i11, i12, i13, i14⟩
    | assumption
    | contradiction
    | with_reducible refine wp_some ?_
    | with_reducible refine wp_byteAt ?_ ?_ (fun y _ _ => ?_)
    | with_reducible refine wp_idxA n1 ?_ ?_ (fun y _ _ => ?_)
    | with_reducible refine wp_idxA n2 ?_ ?_ (fun y _ _ => ?_)
    | with_reducible refine wp_idxA n3 ?_ ?_ (fun y _ _ => ?_)
    | with_reducible refine wp_idx ?_ ?_ (fun y _ _ => ?_)
    | with_reducible refine wp_bifn (fun _ => ?_) (fun _ => ?_)
    | with_reducible refine wp_bifd (fun _ => ?_) (fun _ => ?_)
    | with_reducible refine wp_bif (fun _ => ?_) (fun _ => ?_)
    | with_reducible refine wp_cut2 ?_
    | with_reducible refine wp_for (fun s _ _ => ?_) (fun s _ _ => ?_)
    | simp only [idx_of ‹_[_]? = some _›, Option.bind_some]
    | with_reducible refine wp_map ?_
    | with_reducible refine wp_bind ?_
    | with_reducible refine e2l ?_
    | with_reducible refine e2r ?_
    | exact wrap_i64 (by omega) (by omega)
    | omega
    | (simp only [List.length_cons, List.length_nil] at *; exact wrap_i64 (by omega) (by omega))
    | exact ⟨by omega, by omega⟩)

theorem tot_ref8_routeMaps (a1 : Ty.El (tRouter)) (h0 : SmR a1) : Wp (ref8_routeMaps (a1, ())) (fun _ => True) := by
  have hh0 := h0
  obtain ⟨i1, i2, i3, i4, i5, i6, i7, i8, i9, i10, i11, i12, i13, i14, n1, n2, n3⟩ := hh0
  unfold ref8_routeMaps
  try dsimp only
  repeat' (first
    | with_reducible exact trivial
    | exact ⟨i10, i11, i12, i13, i14⟩
    | assumption
    | contradiction
    | with_reducible refine wp_some ?_
    | with_reducible refine (tot_ref4_Name _).mono (fun r _ => ?_)
    | with_reducible refine (tot_ref8_PrefixList _ _ ?_).mono (fun r _ => ?_)
    | with_reducible refine (tot_ref8_within _ _ _).mono (fun r _ => ?_)
    | with_reducible refine wp_byteAt ?_ ?_ (fun y _ _ => ?_)
    | with_reducible refine wp_idxA n1 ?_ ?_ (fun y _ _ => ?_)
    | with_reducible refine wp_idxA n2 ?_ ?_ (fun y _ _ => ?_)
    | with_reducible refine wp_idxA n3 ?_ ?_ (fun y _ _ => ?_)
    | with_reducible refine wp_idx ?_ ?_ (fun y _ _ => ?_)
    | with_reducible refine wp_bifn (fun _ => ?_) (fun _ => ?_)
    | with_reducible refine wp_bifd (fun _ => ?_) (fun _ => ?_)
    | with_reducible refine wp_bif (fun _ => ?_) (fun _ => ?_)
    | with_reducible refine wp_cut2 ?_
    | with_reducible refine wp_for (fun s _ _ => ?_) (fun s _ _ => ?_)
    | simp only [idx_of ‹_[_]? = some _›, Option.bind_some]
    | with_reducible refine wp_map ?_
    | with_reducible refine wp_bind ?_
    | with_reducible refine e2l ?_
    | with_reducible refine e2r ?_
    | exact wrap_i64 (by omega) (by omega)
    | omega
    | (simp only [List.length_cons, List.length_nil] at *; exact wrap_i64 (by omega) (by omega)))

theorem tot_ref8_ports (a1 : Ty.El (tPorts))  : Wp (ref8_ports (a1, ())) (fun _ => True) := by
  unfold ref8_ports
  try dsimp only
  repeat' (first
    | with_reducible exact trivial
    | assumption
    | contradiction
    | with_reducible refine wp_some ?_
    | with_reducible refine wp_byteAt ?_ ?_ (fun y _ _ => ?_)
    | with_reducible refine wp_idx ?_ ?_ (fun y _ _ => ?_)
    | with_reducible refine wp_bifn (fun _ => ?_) (fun _ => ?_)
    | with_reducible refine wp_bifd (fun _ => ?_) (fun _ => ?_)
    | with_reducible refine wp_bif (fun _ => ?_) (fun _ => ?_)
    | with_reducible refine wp_cut2 ?_
    | with_reducible refine wp_for (fun s _ _ => ?_) (fun s _ _ => ?_)
    | simp only [idx_of ‹_[_]? = some _›, Option.bind_some]
    | with_reducible refine wp_map ?_
    | with_reducible refine wp_bind ?_
    | with_reducible refine e2l ?_
    | with_reducible refine e2r ?_
    | exact wrap_i64 (by omega) (by omega)
    | omega
    | (simp only [List.length_cons, List.length_nil] at *; exact wrap_i64 (by omega) (by omega)))

theorem tot_ref8_all (a1 : Ty.El (tPorts))  : Wp (ref8_all (a1, ())) (fun _ => True) := by
  unfold ref8_all
  try dsimp only
  repeat' (first
    | with_reducible exact trivial
    | assumption
    | contradiction
    | with_reducible refine wp_some ?_
    | with_reducible refine wp_byteAt ?_ ?_ (fun y _ _ => ?_)
    | with_reducible refine wp_idx ?_ ?_ (fun y _ _ => ?_)
    | with_reducible refine wp_bifn (fun _ => ?_) (fun _ => ?_)
    | with_reducible refine wp_bifd (fun _ => ?_) (fun _ => ?_)
    | with_reducible refine wp_bif (fun _ => ?_) (fun _ => ?_)
    | with_reducible refine wp_cut2 ?_
    | with_reducible refine wp_for (fun s _ _ => ?_) (fun s _ _ => ?_)
    | simp only [idx_of ‹_[_]? = some _›, Option.bind_some]
    | with_reducible refine wp_map ?_
    | with_reducible refine wp_bind ?_
    | with_reducible refine e2l ?_
    | with_reducible refine e2r ?_
    | exact wrap_i64 (by omega) (by omega)
    | omega
    | (simp only [List.length_cons, List.length_nil] at *; exact wrap_i64 (by omega) (by omega)))

theorem tot_ref8_ValidRule (a1 : Ty.El (tRule))  : Wp (ref8_ValidRule (a1, ())) (fun _ => True) := by
  unfold ref8_ValidRule
  try dsimp only
  repeat' (first
    | with_reducible exact trivial
    | assumption
    | contradiction
    | with_reducible refine wp_some ?_
    | with_reducible refine (tot_ref8_within _ _ _).mono (fun r _ => ?_)
    | with_reducible refine (tot_ref8_ports _).mono (fun r _ => ?_)
    | with_reducible refine (tot_ref8_all _).mono (fun r _ => ?_)
    | with_reducible refine wp_byteAt ?_ ?_ (fun y _ _ => ?_)
    | with_reducible refine wp_idx ?_ ?_ (fun y _ _ => ?_)
    | with_reducible refine wp_bifn (fun _ => ?_) (fun _ => ?_)
    | with_reducible refine wp_bifd (fun _ => ?_) (fun _ => ?_)
    | with_reducible refine wp_bif (fun _ => ?_) (fun _ => ?_)
    | with_reducible refine wp_cut2 ?_
    | with_reducible refine wp_for (fun s _ _ => ?_) (fun s _ _ => ?_)
    | simp only [idx_of ‹_[_]? = some _›, Option.bind_some]
    | with_reducible refine wp_map ?_
    | with_reducible refine wp_bind ?_
    | with_reducible refine e2l ?_
    | with_reducible refine e2r ?_
    | exact wrap_i64 (by omega) (by omega)
    | omega
    | (simp only [List.length_cons, List.length_nil] at *; exact wrap_i64 (by omega) (by omega)))

theorem tot_ref8_accessLists (a1 : Ty.El (.sl tACL)) (h0 : List.length a1 ≤ 20) (h1 : ∀ y, y ∈ a1 → List.length y.snd.fst ≤ 20) : Wp (ref8_accessLists (a1, ())) (fun _ => True) := by
  unfold ref8_accessLists
  try dsimp only
  repeat' (first
    | with_reducible exact trivial
    | assumption
    | contradiction
    | with_reducible refine wp_some ?_
    | with_reducible refine (tot_ref4_Name _).mono (fun r _ => ?_)
    | with_reducible refine (tot_ref8_ValidRule _).mono (fun r _ => ?_)
    | with_reducible refine wp_byteAt ?_ ?_ (fun y _ _ => ?_)
    | with_reducible refine wp_idxA h1 ?_ ?_ (fun y _ _ => ?_)
    | with_reducible refine wp_idx ?_ ?_ (fun y _ _ => ?_)
    | with_reducible refine wp_bifn (fun _ => ?_) (fun _ => ?_)
    | with_reducible refine wp_bifd (fun _ => ?_) (fun _ => ?_)
    | with_reducible refine wp_bif (fun _ => ?_) (fun _ => ?_)
    | with_reducible refine wp_cut2 ?_
    | with_reducible refine wp_for (fun s _ _ => ?_) (fun s _ _ => ?_)
    | simp only [idx_of ‹_[_]? = some _›, Option.bind_some]
    | with_reducible refine wp_map ?_
    | with_reducible refine wp_bind ?_
    | with_reducible refine e2l ?_
    | with_reducible refine e2r ?_
    | exact wrap_i64 (by omega) (by omega)
    | omega
    | (simp only [List.length_cons, List.length_nil] at *; exact wrap_i64 (by omega) (by omega)))

theorem tot_ref8_ACL (a1 : Ty.El (tRouter)) (a2 : Ty.El (.str)) (h0 : SmR a1) : Wp (ref8_ACL (a1, a2, ())) (fun (r : Int) => -1 ≤ r ∧ r < (List.length a1.snd.snd.snd.snd.snd.fst : Int)) := by
  have hh0 := h0
  obtain ⟨i1, i2, i3, i4, i5, i6, i7, i8, i9, i10, i11, i12, i13, i14, n1, n2, n3⟩ := hh0
  unfold ref8_ACL
  try dsimp only
  repeat' (first
    | with_reducible exact trivial
    | exact ⟨i10, i11, i12, i13, i14⟩
    | assumption
    | contradiction
    | with_reducible refine wp_some ?_
    | with_reducible refine wp_byteAt ?_ ?_ (fun y _ _ => ?_)
    | with_reducible refine wp_idxA n1 ?_ ?_ (fun y _ _ => ?_)
    | with_reducible refine wp_idxA n2 ?_ ?_ (fun y _ _ => ?_)
    | with_reducible refine wp_idxA n3 ?_ ?_ (fun y _ _ => ?_)
    | with_reducible refine wp_idx ?_ ?_ (fun y _ _ => ?_)
    | with_reducible refine wp_bifn (fun _ => ?_) (fun _ => ?_)
    | with_reducible refine wp_bifd (fun _ => ?_) (fun _ => ?_)
    | with_reducible refine wp_bif (fun _ => ?_) (fun _ => ?_)
    | with_reducible refine wp_cut2 ?_
    | with_reducible refine wp_for (fun s _ _ => ?_) (fun s _ _ => ?_)
    | simp only [idx_of ‹_[_]? = some _›, Option.bind_some]
    | with_reducible refine wp_map ?_
    | with_reducible refine wp_bind ?_
    | with_reducible refine e2l ?_
    | with_reducible refine e2r ?_
    | exact wrap_i64 (by omega) (by omega)
    | omega
    | (simp only [List.length_cons, List.length_nil] at *; exact wrap_i64 (by omega) (by omega))
    | exact ⟨by omega, by omega⟩)

theorem tot_ref8_translations (a1 : Ty.El (tRouter)) (h0 : SmR a1) : Wp (ref8_translations (a1, ())) (fun _ => True) := by
  have hh0 := h0
  obtain ⟨i1, i2, i3, i4, i5, i6, i7, i8, i9, i10, i11, i12, i13, i14, n1, n2, n3⟩ := hh0
  unfold ref8_translations
  try dsimp only
  repeat' (first
    | with_reducible exact trivial
    | exact ⟨i10, i11, i12, i13, i14⟩
    | assumption
    | contradiction
    | with_reducible refine wp_some ?_
    | with_reducible refine (tot_ref8_within _ _ _).mono (fun r _ => ?_)
    | with_reducible refine (tot_ref8_ACL _ _ ?_).mono (fun r _ => ?_)
    | with_reducible refine wp_byteAt ?_ ?_ (fun y _ _ => ?_)
    | with_reducible refine wp_idxA n1 ?_ ?_ (fun y _ _ => ?_)
    | with_reducible refine wp_idxA n2 ?_ ?_ (fun y _ _ => ?_)
    | with_reducible refine wp_idxA n3 ?_ ?_ (fun y _ _ => ?_)
    | with_reducible refine wp_idx ?_ ?_ (fun y _ _ => ?_)
    | with_reducible refine wp_bifn (fun _ => ?_) (fun _ => ?_)
    | with_reducible refine wp_bifd (fun _ => ?_) (fun _ => ?_)
    | with_reducible refine wp_bif (fun _ => ?_) (fun _ => ?_)
    | with_reducible refine wp_cut2 ?_
    | with_reducible refine wp_for (fun s _ _ => ?_) (fun s _ _ => ?_)
    | simp only [idx_of ‹_[_]? = some _›, Option.bind_some]
    | with_reducible refine wp_map ?_
    | with_reducible refine wp_bind ?_
    | with_reducible refine e2l ?_
    | with_reducible refine e2r ?_
    | exact wrap_i64 (by omega) (by omega)
    | omega
    | (simp only [List.length_cons, List.length_nil] at *; exact wrap_i64 (by omega) (by omega)))

theorem tot_ref8_filters (a1 : Ty.El (tRouter)) (h0 : SmR a1) : Wp (ref8_filters (a1, ())) (fun _ => True) := by
  have hh0 := h0
  obtain ⟨i1, i2, i3, i4, i5, i6, i7, i8, i9, i10, i11, i12, i13, i14, n1, n2, n3⟩ := hh0
  unfold ref8_filters
  try dsimp only
  repeat' (first
    | with_reducible exact trivial
    | exact ⟨i10, i11, i12, i13, i14⟩
    | assumption
    | contradiction
    | with_reducible refine wp_some ?_
    | with_reducible refine (tot_ref8_ACL _ _ ?_).mono (fun r _ => ?_)
    | with_reducible refine wp_byteAt ?_ ?_ (fun y _ _ => ?_)
    | with_reducible refine wp_idxA n1 ?_ ?_ (fun y _ _ => ?_)
    | with_reducible refine wp_idxA n2 ?_ ?_ (fun y _ _ => ?_)
    | with_reducible refine wp_idxA n3 ?_ ?_ (fun y _ _ => ?_)
    | with_reducible refine wp_idx ?_ ?_ (fun y _ _ => ?_)
    | with_reducible refine wp_bifn (fun _ => ?_) (fun _ => ?_)
    | with_reducible refine wp_bifd (fun _ => ?_) (fun _ => ?_)
    | with_reducible refine wp_bif (fun _ => ?_) (fun _ => ?_)
    | with_reducible refine wp_cut2 ?_
    | with_reducible refine wp_for (fun s _ _ => ?_) (fun s _ _ => ?_)
    | simp only [idx_of ‹_[_]? = some _›, Option.bind_some]
    | with_reducible refine wp_map ?_
    | with_reducible refine wp_bind ?_
    | with_reducible refine e2l ?_
    | with_reducible refine e2r ?_
    | exact wrap_i64 (by omega) (by omega)
    | omega
    | (simp only [List.length_cons, List.length_nil] at *; exact wrap_i64 (by omega) (by omega)))

theorem tot_ref8_Address (a1 : Ty.El (tRouter)) (a2 : Ty.El (tU)) (h0 : SmR a1) : Wp (ref8_Address (a1, a2, ())) (fun (r : Int) => -1 ≤ r ∧ r < (List.length a1.snd.snd.fst : Int)) := by
  have hh0 := h0
  obtain ⟨i1, i2, i3, i4, i5, i6, i7, i8, i9, i10, i11, i12, i13, i14, n1, n2, n3⟩ := hh0
  unfold ref8_Address
  try dsimp only
  repeat' (first
    | with_reducible exact trivial
    | exact ⟨i10, i11, i12, i13, i14⟩
    | assumption
    | contradiction
    | with_reducible refine wp_some ?_
    | with_reducible refine wp_byteAt ?_ ?_ (fun y _ _ => ?_)
    | with_reducible refine wp_idxA n1 ?_ ?_ (fun y _ _ => ?_)
    | with_reducible refine wp_idxA n2 ?_ ?_ (fun y _ _ => ?_)
    | with_reducible refine wp_idxA n3 ?_ ?_ (fun y _ _ => ?_)
    | with_reducible refine wp_idx ?_ ?_ (fun y _ _ => ?_)
    | with_reducible refine wp_bifn (fun _ => ?_) (fun _ => ?_)
    | with_reducible refine wp_bifd (fun _ => ?_) (fun _ => ?_)
    | with_reducible refine wp_bif (fun _ => ?_) (fun _ => ?_)
    | with_reducible refine wp_cut2 ?_
    | with_reducible refine wp_for (fun s _ _ => ?_) (fun s _ _ => ?_)
    | simp only [idx_of ‹_[_]? = some _›, Option.bind_some]
    | with_reducible refine wp_map ?_
    | with_reducible refine wp_bind ?_
    | with_reducible refine e2l ?_
    | with_reducible refine e2r ?_
    | exact wrap_i64 (by omega) (by omega)
    | omega
    | (simp only [List.length_cons, List.length_nil] at *; exact wrap_i64 (by omega) (by omega))
    | exact ⟨by omega, by omega⟩)

theorem tot_ref8_Interface (a1 : Ty.El (tRouter)) (a2 : Ty.El (.str)) (h0 : SmR a1) : Wp (ref8_Interface (a1, a2, ())) (fun (r : Int) => -1 ≤ r ∧ r < (List.length a1.snd.snd.fst : Int)) := by
  have hh0 := h0
  obtain ⟨i1, i2, i3, i4, i5, i6, i7, i8, i9, i10, i11, i12, i13, i14, n1, n2, n3⟩ := hh0
  unfold ref8_Interface
  try dsimp only
  repeat' (first
    | with_reducible exact trivial
    | exact ⟨i10, i11, i12, i13, i14⟩
    | assumption
    | contradiction
    | with_reducible refine wp_some ?_
    | with_reducible refine wp_byteAt ?_ ?_ (fun y _ _ => ?_)
    | with_reducible refine wp_idxA n1 ?_ ?_ (fun y _ _ => ?_)
    | with_reducible refine wp_idxA n2 ?_ ?_ (fun y _ _ => ?_)
    | with_reducible refine wp_idxA n3 ?_ ?_ (fun y _ _ => ?_)
    | with_reducible refine wp_idx ?_ ?_ (fun y _ _ => ?_)
    | with_reducible refine wp_bifn (fun _ => ?_) (fun _ => ?_)
    | with_reducible refine wp_bifd (fun _ => ?_) (fun _ => ?_)
    | with_reducible refine wp_bif (fun _ => ?_) (fun _ => ?_)
    | with_reducible refine wp_cut2 ?_
    | with_reducible refine wp_for (fun s _ _ => ?_) (fun s _ _ => ?_)
    | simp only [idx_of ‹_[_]? = some _›, Option.bind_some]
    | with_reducible refine wp_map ?_
    | with_reducible refine wp_bind ?_
    | with_reducible refine e2l ?_
    | with_reducible refine e2r ?_
    | exact wrap_i64 (by omega) (by omega)
    | omega
    | (simp only [List.length_cons, List.length_nil] at *; exact wrap_i64 (by omega) (by omega))
    | exact ⟨by omega, by omega⟩)

theorem tot_ref8_statics (a1 : Ty.El (tRouter)) (h0 : SmR a1) : Wp (ref8_statics (a1, ())) (fun _ => True) := by
  have hh0 := h0
  obtain ⟨i1, i2, i3, i4, i5, i6, i7, i8, i9, i10, i11, i12, i13, i14, n1, n2, n3⟩ := hh0
  unfold ref8_statics
  try dsimp only
  repeat' (first
    | with_reducible exact trivial
    | exact ⟨i10, i11, i12, i13, i14⟩
    | assumption
    | contradiction
    | with_reducible refine wp_some ?_
    | with_reducible refine (tot_ref4_Valid _).mono (fun r _ => ?_)
    | with_reducible refine (tot_ref8_Address _ _ ?_).mono (fun r _ => ?_)
    | with_reducible refine (tot_ref8_within _ _ _).mono (fun r _ => ?_)
    | with_reducible refine (tot_ref8_Interface _ _ ?_).mono (fun r _ => ?_)
    | with_reducible refine wp_byteAt ?_ ?_ (fun y _ _ => ?_)
    | with_reducible refine wp_idxA n1 ?_ ?_ (fun y _ _ => ?_)
    | with_reducible refine wp_idxA n2 ?_ ?_ (fun y _ _ => ?_)
    | with_reducible refine wp_idxA n3 ?_ ?_ (fun y _ _ => ?_)
    | with_reducible refine wp_idx ?_ ?_ (fun y _ _ => ?_)
    | with_reducible refine wp_bifn (fun _ => ?_) (fun _ => ?_)
    | with_reducible refine wp_bifd (fun _ => ?_) (fun _ => ?_)
    | with_reducible refine wp_bif (fun _ => ?_) (fun _ => ?_)
    | with_reducible refine wp_cut2 ?_
    | with_reducible refine wp_for (fun s _ _ => ?_) (fun s _ _ => ?_)
    | simp only [idx_of ‹_[_]? = some _›, Option.bind_some]
    | with_reducible refine wp_map ?_
    | with_reducible refine wp_bind ?_
    | with_reducible refine e2l ?_
    | with_reducible refine e2r ?_
    | exact wrap_i64 (by omega) (by omega)
    | omega
    | (simp only [List.length_cons, List.length_nil] at *; exact wrap_i64 (by omega) (by omega)))

theorem tot_ref8_RouteMap (a1 : Ty.El (tRouter)) (a2 : Ty.El (.str)) (h0 : SmR a1) : Wp (ref8_RouteMap (a1, a2, ())) (fun (r : Int) => -1 ≤ r ∧ r < (List.length a1.snd.snd.snd.snd.fst : Int)) := by
  have hh0 := h0
  obtain ⟨i1, i2, i3, i4, i5, i6, i7, i8, i9, i10, i11, i12, i13, i14, n1, n2, n3⟩ := hh0
  unfold ref8_RouteMap
  try dsimp only
  repeat' (first
    | with_reducible exact trivial
    | exact ⟨i10, i11, i12, i13, i14⟩
    | assumption
    | contradiction
    | with_reducible refine wp_some ?_
    | with_reducible refine wp_byteAt ?_ ?_ (fun y _ _ => ?_)
    | with_reducible refine wp_idxA n1 ?_ ?_ (fun y _ _ => ?_)
    | with_reducible refine wp_idxA n2 ?_ ?_ (fun y _ _ => ?_)
    | with_reducible refine wp_idxA n3 ?_ ?_ (fun y _ _ => ?_)
    | with_reducible refine wp_idx ?_ ?_ (fun y _ _ => ?_)
    | with_reducible refine wp_bifn (fun _ => ?_) (fun _ => ?_)
    | with_reducible refine wp_bifd (fun _ => ?_) (fun _ => ?_)
    | with_reducible refine wp_bif (fun _ => ?_) (fun _ => ?_)
    | with_reducible refine wp_cut2 ?_
    | with_reducible refine wp_for (fun s _ _ => ?_) (fun s _ _ => ?_)
    | simp only [idx_of ‹_[_]? = some _›, Option.bind_some]
    | with_reducible refine wp_map ?_
    | with_reducible refine wp_bind ?_
    | with_reducible refine e2l ?_
    | with_reducible refine e2r ?_
    | exact wrap_i64 (by omega) (by omega)
    | omega
    | (simp only [List.length_cons, List.length_nil] at *; exact wrap_i64 (by omega) (by omega))
    | exact ⟨by omega, by omega⟩)

theorem tot_ref8_redistributions (a1 : Ty.El (tRouter)) (a2 : Ty.El (.sl tRedist)) (a3 : Ty.El (tI)) (a4 : Ty.El (tI)) (a5 : Ty.El (tI)) (h0 : SmR a1) (h1 : List.length a2 ≤ 20) : Wp (ref8_redistributions (a1, a2, a3, a4, a5, ())) (fun _ => True) := by
  have hh0 := h0
  obtain ⟨i1, i2, i3, i4, i5, i6, i7, i8, i9, i10, i11, i12, i13, i14, n1, n2, n3⟩ := hh0
  unfold ref8_redistributions
  try dsimp only
  repeat' (first
    | with_reducible exact trivial
    | exact ⟨i10, i11, i12, i13, i14⟩
    | assumption
    | contradiction
    | with_reducible refine wp_some ?_
    | with_reducible refine (tot_ref8_within _ _ _).mono (fun r _ => ?_)
    | with_reducible refine (tot_ref8_RouteMap _ _ ?_).mono (fun r _ => ?_)
    | with_reducible refine wp_byteAt ?_ ?_ (fun y _ _ => ?_)
    | with_reducible refine wp_idxA n1 ?_ ?_ (fun y _ _ => ?_)
    | with_reducible refine wp_idxA n2 ?_ ?_ (fun y _ _ => ?_)
    | with_reducible refine wp_idxA n3 ?_ ?_ (fun y _ _ => ?_)
    | with_reducible refine wp_idx ?_ ?_ (fun y _ _ => ?_)
    | with_reducible refine wp_bifn (fun _ => ?_) (fun _ => ?_)
    | with_reducible refine wp_bifd (fun _ => ?_) (fun _ => ?_)
    | with_reducible refine wp_bif (fun _ => ?_) (fun _ => ?_)
    | with_reducible refine wp_cut2 ?_
    | with_reducible refine wp_for (fun s _ _ => ?_) (fun s _ _ => ?_)
    | simp only [idx_of ‹_[_]? = some _›, Option.bind_some]
    | with_reducible refine wp_map ?_
    | with_reducible refine wp_bind ?_
    | with_reducible refine e2l ?_
    | with_reducible refine e2r ?_
    | exact wrap_i64 (by omega) (by omega)
    | omega
    | (simp only [List.length_cons, List.length_nil] at *; exact wrap_i64 (by omega) (by omega)))

theorem tot_ref8_linkState (a1 : Ty.El (tRouter)) (h0 : SmR a1) : Wp (ref8_linkState (a1, ())) (fun _ => True) := by
  have hh0 := h0
  obtain ⟨i1, i2, i3, i4, i5, i6, i7, i8, i9, i10, i11, i12, i13, i14, n1, n2, n3⟩ := hh0
  unfold ref8_linkState
  try dsimp only
  repeat' (first
    | with_reducible exact trivial
    | exact ⟨i10, i11, i12, i13, i14⟩
    | assumption
    | contradiction
    | with_reducible refine wp_some ?_
    | with_reducible refine (tot_ref8_within _ _ _).mono (fun r _ => ?_)
    | with_reducible refine (tot_ref4_Valid _).mono (fun r _ => ?_)
    | with_reducible refine (tot_ref4_Overlaps _ _).mono (fun r _ => ?_)
    | with_reducible refine (tot_ref8_redistributions _ _ _ _ _ ?_ ?_).mono (fun r _ => ?_)
    | with_reducible refine wp_byteAt ?_ ?_ (fun y _ _ => ?_)
    | with_reducible refine wp_idxA n1 ?_ ?_ (fun y _ _ => ?_)
    | with_reducible refine wp_idxA n2 ?_ ?_ (fun y _ _ => ?_)
    | with_reducible refine wp_idxA n3 ?_ ?_ (fun y _ _ => ?_)
    | with_reducible refine wp_idx ?_ ?_ (fun y _ _ => ?_)
    | with_reducible refine wp_bifn (fun _ => ?_) (fun _ => ?_)
    | with_reducible refine wp_bifd (fun _ => ?_) (fun _ => ?_)
    | with_reducible refine wp_bif (fun _ => ?_) (fun _ => ?_)
    | with_reducible refine wp_cut2 ?_
    | with_reducible refine wp_for (fun s _ _ => ?_) (fun s _ _ => ?_)
    | simp only [idx_of ‹_[_]? = some _›, Option.bind_some]
    | with_reducible refine wp_map ?_
    | with_reducible refine wp_bind ?_
    | with_reducible refine e2l ?_
    | with_reducible refine e2r ?_
    | exact wrap_i64 (by omega) (by omega)
    | omega
    | (simp only [List.length_cons, List.length_nil] at *; exact wrap_i64 (by omega) (by omega)))

theorem tot_ref8_distance (a1 : Ty.El (tRouter)) (h0 : SmR a1) : Wp (ref8_distance (a1, ())) (fun _ => True) := by
  have hh0 := h0
  obtain ⟨i1, i2, i3, i4, i5, i6, i7, i8, i9, i10, i11, i12, i13, i14, n1, n2, n3⟩ := hh0
  unfold ref8_distance
  try dsimp only
  repeat' (first
    | with_reducible exact trivial
    | exact ⟨i10, i11, i12, i13, i14⟩
    | assumption
    | contradiction
    | with_reducible refine wp_some ?_
    | with_reducible refine (tot_ref8_within _ _ _).mono (fun r _ => ?_)
    | with_reducible refine (tot_ref8_PrefixList _ _ ?_).mono (fun r _ => ?_)
    | with_reducible refine (tot_ref8_redistributions _ _ _ _ _ ?_ ?_).mono (fun r _ => ?_)
    | with_reducible refine wp_byteAt ?_ ?_ (fun y _ _ => ?_)
    | with_reducible refine wp_idxA n1 ?_ ?_ (fun y _ _ => ?_)
    | with_reducible refine wp_idxA n2 ?_ ?_ (fun y _ _ => ?_)
    | with_reducible refine wp_idxA n3 ?_ ?_ (fun y _ _ => ?_)
    | with_reducible refine wp_idx ?_ ?_ (fun y _ _ => ?_)
    | with_reducible refine wp_bifn (fun _ => ?_) (fun _ => ?_)
    | with_reducible refine wp_bifd (fun _ => ?_) (fun _ => ?_)
    | with_reducible refine wp_bif (fun _ => ?_) (fun _ => ?_)
    | with_reducible refine wp_cut2 ?_
    | with_reducible refine wp_for (fun s _ _ => ?_) (fun s _ _ => ?_)
    | simp only [idx_of ‹_[_]? = some _›, Option.bind_some]
    | with_reducible refine wp_map ?_
    | with_reducible refine wp_bind ?_
    | with_reducible refine e2l ?_
    | with_reducible refine e2r ?_
    | exact wrap_i64 (by omega) (by omega)
    | omega
    | (simp only [List.length_cons, List.length_nil] at *; exact wrap_i64 (by omega) (by omega)))

theorem tot_ref8_neighbors (a1 : Ty.El (tRouter)) (h0 : SmR a1) : Wp (ref8_neighbors (a1, ())) (fun _ => True) := by
  have hh0 := h0
  obtain ⟨i1, i2, i3, i4, i5, i6, i7, i8, i9, i10, i11, i12, i13, i14, n1, n2, n3⟩ := hh0
  unfold ref8_neighbors
  try dsimp only
  repeat' (first
    | with_reducible exact trivial
    | exact ⟨i10, i11, i12, i13, i14⟩
    | assumption
    | contradiction
    | with_reducible refine wp_some ?_
    | with_reducible refine (tot_ref8_within _ _ _).mono (fun r _ => ?_)
    | with_reducible refine (tot_ref8_RouteMap _ _ ?_).mono (fun r _ => ?_)
    | with_reducible refine wp_byteAt ?_ ?_ (fun y _ _ => ?_)
    | with_reducible refine wp_idxA n1 ?_ ?_ (fun y _ _ => ?_)
    | with_reducible refine wp_idxA n2 ?_ ?_ (fun y _ _ => ?_)
    | with_reducible refine wp_idxA n3 ?_ ?_ (fun y _ _ => ?_)
    | with_reducible refine wp_idx ?_ ?_ (fun y _ _ => ?_)
    | with_reducible refine wp_bifn (fun _ => ?_) (fun _ => ?_)
    | with_reducible refine wp_bifd (fun _ => ?_) (fun _ => ?_)
    | with_reducible refine wp_bif (fun _ => ?_) (fun _ => ?_)
    | with_reducible refine wp_cut2 ?_
    | with_reducible refine wp_for (fun s _ _ => ?_) (fun s _ _ => ?_)
    | simp only [idx_of ‹_[_]? = some _›, Option.bind_some]
    | with_reducible refine wp_map ?_
    | with_reducible refine wp_bind ?_
    | with_reducible refine e2l ?_
    | with_reducible refine e2r ?_
    | exact wrap_i64 (by omega) (by omega)
    | omega
    | (simp only [List.length_cons, List.length_nil] at *; exact wrap_i64 (by omega) (by omega)))

theorem tot_ref8_originations (a1 : Ty.El (tPV)) (h0 : SmPV a1) : Wp (ref8_originations (a1, ())) (fun _ => True) := by
  have hh0 := h0
  obtain ⟨i10, i11, i12, i13, i14⟩ := hh0
  unfold ref8_originations
  try dsimp only
  repeat' (first
    | with_reducible exact trivial
    | assumption
    | contradiction
    | with_reducible refine wp_some ?_
    | with_reducible refine (tot_ref4_Valid _).mono (fun r _ => ?_)
    | with_reducible refine wp_byteAt ?_ ?_ (fun y _ _ => ?_)
    | with_reducible refine wp_idx ?_ ?_ (fun y _ _ => ?_)
    | with_reducible refine wp_bifn (fun _ => ?_) (fun _ => ?_)
    | with_reducible refine wp_bifd (fun _ => ?_) (fun _ => ?_)
    | with_reducible refine wp_bif (fun _ => ?_) (fun _ => ?_)
    | with_reducible refine wp_cut2 ?_
    | with_reducible refine wp_for (fun s _ _ => ?_) (fun s _ _ => ?_)
    | simp only [idx_of ‹_[_]? = some _›, Option.bind_some]
    | with_reducible refine wp_map ?_
    | with_reducible refine wp_bind ?_
    | with_reducible refine e2l ?_
    | with_reducible refine e2r ?_
    | exact wrap_i64 (by omega) (by omega)
    | omega
    | (simp only [List.length_cons, List.length_nil] at *; exact wrap_i64 (by omega) (by omega)))

theorem tot_ref8_pathVector (a1 : Ty.El (tRouter)) (h0 : SmR a1) : Wp (ref8_pathVector (a1, ())) (fun _ => True) := by
  have hh0 := h0
  obtain ⟨i1, i2, i3, i4, i5, i6, i7, i8, i9, i10, i11, i12, i13, i14, n1, n2, n3⟩ := hh0
  unfold ref8_pathVector
  try dsimp only
  repeat' (first
    | with_reducible exact trivial
    | exact ⟨i10, i11, i12, i13, i14⟩
    | assumption
    | contradiction
    | with_reducible refine wp_some ?_
    | with_reducible refine (tot_ref8_within _ _ _).mono (fun r _ => ?_)
    | with_reducible refine (tot_ref8_neighbors _ ?_).mono (fun r _ => ?_)
    | with_reducible refine (tot_ref8_originations _ ?_).mono (fun r _ => ?_)
    | with_reducible refine (tot_ref8_redistributions _ _ _ _ _ ?_ ?_).mono (fun r _ => ?_)
    | with_reducible refine wp_byteAt ?_ ?_ (fun y _ _ => ?_)
    | with_reducible refine wp_idxA n1 ?_ ?_ (fun y _ _ => ?_)
    | with_reducible refine wp_idxA n2 ?_ ?_ (fun y _ _ => ?_)
    | with_reducible refine wp_idxA n3 ?_ ?_ (fun y _ _ => ?_)
    | with_reducible refine wp_idx ?_ ?_ (fun y _ _ => ?_)
    | with_reducible refine wp_bifn (fun _ => ?_) (fun _ => ?_)
    | with_reducible refine wp_bifd (fun _ => ?_) (fun _ => ?_)
    | with_reducible refine wp_bif (fun _ => ?_) (fun _ => ?_)
    | with_reducible refine wp_cut2 ?_
    | with_reducible refine wp_for (fun s _ _ => ?_) (fun s _ _ => ?_)
    | simp only [idx_of ‹_[_]? = some _›, Option.bind_some]
    | with_reducible refine wp_map ?_
    | with_reducible refine wp_bind ?_
    | with_reducible refine e2l ?_
    | with_reducible refine e2r ?_
    | exact wrap_i64 (by omega) (by omega)
    | omega
    | (simp only [List.length_cons, List.length_nil] at *; exact wrap_i64 (by omega) (by omega)))

theorem tot_ref8_CheckRouter (a1 : Ty.El (tRouter)) (h0 : SmR a1) : Wp (ref8_CheckRouter (a1, ())) (fun _ => True) := by
  have hh0 := h0
  obtain ⟨i1, i2, i3, i4, i5, i6, i7, i8, i9, i10, i11, i12, i13, i14, n1, n2, n3⟩ := hh0
  unfold ref8_CheckRouter
  try dsimp only
  repeat' (first
    | with_reducible exact trivial
    | exact ⟨i10, i11, i12, i13, i14⟩
    | assumption
    | contradiction
    | with_reducible refine wp_some ?_
    | with_reducible refine (tot_ref4_Name _).mono (fun r _ => ?_)
    | with_reducible refine (tot_ref8_within _ _ _).mono (fun r _ => ?_)
    | with_reducible refine (tot_ref8_interfaces _ ?_).mono (fun r _ => ?_)
    | with_reducible refine (tot_ref8_prefixLists _ ?_ ?_).mono (fun r _ => ?_)
    | with_reducible refine (tot_ref8_routeMaps _ ?_).mono (fun r _ => ?_)
    | with_reducible refine (tot_ref8_accessLists _ ?_ ?_).mono (fun r _ => ?_)
    | with_reducible refine (tot_ref8_translations _ ?_).mono (fun r _ => ?_)
    | with_reducible refine (tot_ref8_filters _ ?_).mono (fun r _ => ?_)
    | with_reducible refine (tot_ref8_statics _ ?_).mono (fun r _ => ?_)
    | with_reducible refine (tot_ref8_linkState _ ?_).mono (fun r _ => ?_)
    | with_reducible refine (tot_ref8_distance _ ?_).mono (fun r _ => ?_)
    | with_reducible refine (tot_ref8_pathVector _ ?_).mono (fun r _ => ?_)
    | with_reducible refine wp_byteAt ?_ ?_ (fun y _ _ => ?_)
    | with_reducible refine wp_idxA n1 ?_ ?_ (fun y _ _ => ?_)
    | with_reducible refine wp_idxA n2 ?_ ?_ (fun y _ _ => ?_)
    | with_reducible refine wp_idxA n3 ?_ ?_ (fun y _ _ => ?_)
    | with_reducible refine wp_idx ?_ ?_ (fun y _ _ => ?_)
    | with_reducible refine wp_bifn (fun _ => ?_) (fun _ => ?_)
    | with_reducible refine wp_bifd (fun _ => ?_) (fun _ => ?_)
    | with_reducible refine wp_bif (fun _ => ?_) (fun _ => ?_)
    | with_reducible refine wp_cut2 ?_
    | with_reducible refine wp_for (fun s _ _ => ?_) (fun s _ _ => ?_)
    | simp only [idx_of ‹_[_]? = some _›, Option.bind_some]
    | with_reducible refine wp_map ?_
    | with_reducible refine wp_bind ?_
    | with_reducible refine e2l ?_
    | with_reducible refine e2r ?_
    | exact wrap_i64 (by omega) (by omega)
    | omega
    | (simp only [List.length_cons, List.length_nil] at *; exact wrap_i64 (by omega) (by omega)))

theorem tot_ref8_Check (a1 : Ty.El (tNetwork)) (h0 : ∀ y, y ∈ a1.fst → SmR y) : Wp (ref8_Check (a1, ())) (fun _ => True) := by
  unfold ref8_Check
  try dsimp only
  repeat' (first
    | with_reducible exact trivial
    | assumption
    | contradiction
    | with_reducible refine wp_some ?_
    | with_reducible refine (tot_ref8_CheckRouter _ ?_).mono (fun r _ => ?_)
    | with_reducible refine (tot_ref8_Address _ _ ?_).mono (fun r _ => ?_)
    | with_reducible refine wp_byteAt ?_ ?_ (fun y _ _ => ?_)
    | with_reducible refine wp_idxA h0 ?_ ?_ (fun y _ _ => ?_)
    | with_reducible refine wp_idx ?_ ?_ (fun y _ _ => ?_)
    | with_reducible refine wp_bifn (fun _ => ?_) (fun _ => ?_)
    | with_reducible refine wp_bifd (fun _ => ?_) (fun _ => ?_)
    | with_reducible refine wp_bif (fun _ => ?_) (fun _ => ?_)
    | with_reducible refine wp_cut2 ?_
    | with_reducible refine wp_for (fun s _ _ => ?_) (fun s _ _ => ?_)
    | simp only [idx_of ‹_[_]? = some _›, Option.bind_some]
    | with_reducible refine wp_map ?_
    | with_reducible refine wp_bind ?_
    | with_reducible refine e2l ?_
    | with_reducible refine e2r ?_
    | exact wrap_i64 (by omega) (by omega)
    | omega
    | (simp only [List.length_cons, List.length_nil] at *; exact wrap_i64 (by omega) (by omega))
    | exact wrap_i64 (by omega) (by have := SmR.i1 ‹SmR _›; omega))

end Go.Ve

namespace Go.Ve
open Go

def startTmB (n : Nat) (t : Ty) (xs : List t.El) (ds : List V) : List T := .ot lentId t xs :: (ds.map .p ++ List.replicate (n - (ds.length + 1)) (.p (.val undef)))

def startB {St : Type} (n : Nat) (s : St) (t : Ty) (xs : List t.El) (ds : List V) : Env St := { tm := startTmB n t xs ds, vars := List.replicate n none, st := s }

def lentOf {St : Type} (e : Env St) (t : Ty) : Option (List t.El) :=
  match e.get 0 with
  | .ot id t' ys => match Nat.beq id lentId with
    | true => castL t' t ys
    | false => none
  | _ => none

def RTy.getP : (R : RTy) → RV → Option R.El
  | .p ty, .p d => ty.dec d
  | .tu tys, .p (.tup ds) => decS tys ds
  | _, _ => none

section
variable {Γ : Sig} {P : Program} {G : Nat → Option (List V)}

/-- What a body comes to, over a list that is lent and typed data. -/
noncomputable def exFB (L : Look) (G : Nat → Option (List V)) (S : SpecsX Γ) (A : Nat → Option JA) (fn : Func) (c : Code) (t : Ty) (R : RTy) (s : Γ.St) (xs : List t.El) (ds : List V) : Option (List t.El × R.El) :=
  kEnv (startB fn.ntmps s t xs ds) (fun e => exC L G S A c (List t.El × R.El) (fun k e1 _ => match k with
    | .exit _ => none
    | _ => match lentOf e1 t with
      | some ys => match evRet L e1 fn with
        | some r => match R.getP r with
          | some y => need (Nat.beq ys.length xs.length) (some (ys, y))
          | none => none
        | none => none
      | none => none) e 0)

theorem flat_toVal1 (t : Ty) (x : t.El) (h : t.flat = true) : ∃ u, (t.enc x).toVal1 = some u := by
  have hp := flat_plain t [x] h
  simp only [RV.plain, List.map_cons, List.map_nil, List.all_cons, List.all_nil, Bool.and_true] at hp
  exact Option.isSome_iff_exists.1 hp

theorem toVal_of1 {d : V} {u : Value} (h : d.toVal1 = some u) : ∃ u', d.toVal = some u' := by
  cases d <;> first | exact ⟨u, h⟩ | (simp [V.toVal1] at h)

theorem flatS_all : ∀ (ts : List Ty) (x : ElS ts), ts.all Ty.flat = true → (encS ts x).all (fun d => d.toVal1.isSome) = true
  | [], _, _ => rfl
  | t :: ts, x, h => by
    simp only [List.all_cons, Bool.and_eq_true] at h
    simp only [encS, List.all_cons, Bool.and_eq_true]
    obtain ⟨u, hu⟩ := flat_toVal1 t x.1 h.1
    exact ⟨by rw [hu]; rfl, flatS_all ts x.2 h.2⟩

theorem val_flat {R : RTy} (h : R.pl = true) (hno : ∀ ty, R ≠ .o ty) (y : R.El) : ∃ u, (R.val y).toVal = some u := by
  cases R with
  | p ty => obtain ⟨u, hu⟩ := flat_toVal1 ty y h; exact toVal_of1 hu
  | o ty => exact absurd rfl (hno ty)
  | tu tys =>
    have := flatS_all tys y h
    exact ⟨_, by simp only [RTy.val, V.toVal]; rw [if_pos this]⟩

theorem getP_sound {w : World} {F : Blk → Prop} {v : Value} {R : RTy} {d : V} {y : R.El} (h : R.getP (.p d) = some y) (hr : Rd w F v d) : Rd w F v (R.val y) := by
  cases R with
  | p ty => exact dec_sound (t := ty) (x := y) h _ _ _ hr
  | o ty => simp [RTy.getP] at h
  | tu tys =>
    cases d with
    | tup ds => exact WkV.tup (decS_sound _ _ _ h) _ _ _ hr
    | _ => simp [RTy.getP] at h

/-- What is handed back, read in whatever way. -/
theorem evRet_run {w0 : World} {F0 : Blk → Prop} {O0 : Lent} {a : Act} {w : World} {e : Env Γ.St} (hi : Inv Γ G w0 F0 O0 a w e) {fn : Func} {d : V} (h : evRet P e fn = some (.p d)) :
    ∃ v F', (results fn a.tmps).run P w = .ok v w ∧ Rd w F' v d := by
  obtain ⟨F, O, β, hc, hG, hsz, hdf, ht, hv⟩ := hi
  have hvars : ∀ s cs, e.var s = some cs → alive e (.v s) → VarRel w F β (alive e) (β.vb s) cs := fun s cs hcs _ => hv s cs hcs
  have hrun : ∀ us, (fn.results.toList.mapM (resFn a.tmps)).run P w = .ok us w →
      (results fn a.tmps).run P w = .ok (if h : us.length = 1 then us[0] else .tuple us.toArray) w := by
    intro us hus
    rw [results_eq, Array.mapM_eq_mapM_toList]
    simp only [Sem.run_bind, Sem.run_map, hus, Result.andThen_ok, Sem.run_pure]
    rfl
  have hone : ∀ r0, fn.results.toList = [r0] → ∀ d, resV P e r0 = some d → ∃ v F', (results fn a.tmps).run P w = .ok v w ∧ Rd w F' v d := by
    intro r0 hr d hd
    obtain ⟨us, h1, h2, h3⟩ := resVs_sim (P := P) hvars ht [r0] [d] (by simp [resVs, hd])
    cases us with
    | nil => simp at h2
    | cons u us =>
      cases us with
      | cons _ _ => simp at h2
      | nil =>
        have := hrun [u] (by rw [hr]; exact h1)
        exact ⟨u, _, by simpa using this, h3 0 u d rfl rfl⟩
  unfold evRet at h
  split at h
  · rename_i t hres
    split at h
    · cases h
    · rename_i id k hx
      have hT := ht t
      rw [hx] at hT
      obtain ⟨ha, cap, hvv, hrow⟩ := hT
      simp only [Option.some.injEq, RV.p.injEq] at h; subst h
      have hrun1 : (results fn a.tmps).run P w = .ok (a.tmps.getD t undef) w := by
        have := hrun [a.tmps.getD t undef] (by rw [hres]; rfl)
        simpa using this
      exact ⟨_, F, hrun1, by rw [hvv]; exact .slemp _ _⟩
    · cases h
    · cases h
    · simp only [Option.map_eq_some_iff] at h
      obtain ⟨d', hd, heq⟩ := h
      cases heq
      exact hone _ hres d hd
  · rename_i r0 _ hres
    simp only [Option.map_eq_some_iff] at h
    obtain ⟨d', hd, heq⟩ := h
    cases heq
    exact hone _ hres d hd
  · rename_i hn1 hn2
    simp only [Option.map_eq_some_iff] at h
    obtain ⟨ds, hds, heq⟩ := h
    cases heq
    obtain ⟨us, h1, h2, h3⟩ := resVs_sim (P := P) hvars ht _ ds hds
    have hrun2 := hrun us h1
    have hne : us.length ≠ 1 := by
      intro hl
      have hlen : ∀ (l : List ResultVar) (ds : List V), resVs P e l = some ds → ds.length = l.length := by
        intro l
        induction l with
        | nil => intro ds h; simp [resVs] at h; subst h; rfl
        | cons r l ih =>
          intro ds h
          simp only [resVs] at h
          split at h
          · rename_i d ds' hd hds
            simp only [Option.some.injEq] at h; subst h
            simp [ih ds' hds]
          · cases h
      have := hlen _ ds hds
      match hl' : fn.results.toList with
      | [] => rw [hl'] at this; simp only [List.length_nil] at this; omega
      | [r0] => exact hn2 r0 hl'
      | _ :: _ :: _ => rw [hl'] at this; simp only [List.length_cons] at this; omega
    rw [dif_neg hne] at hrun2
    exact ⟨_, _, hrun2, .tup _ ds (by simpa using h2) (fun i x d hi hd => h3 i x d (by simpa using hi) hd)⟩

theorem fnOk_exB [hsub : Subsingleton Γ.St] {S : SpecsX Γ} {A : Nat → Option JA} (hmix : P.follows .mixedOrders = true) (hS : Table Γ P G S.toS) {f : FuncId} {fn : Func} {c : Code} (hf : P.funcs[f]? = some fn) (hb : fn.body = some c)
    {t : Ty} {X : Type} {dec : List V → Option X} {enc : X → List V} (hdec : ∀ ds x, dec ds = some x → WkVs ds (enc x)) {R : RTy} (hpl : R.pl = true) (hno : ∀ ty, R ≠ .o ty) {g : List t.El → X → Option (List t.El × R.El)}
    (h : ∀ s xs x, exFB (Γ := Γ) P G S A fn c t R s xs (enc x) = g xs x) : FnOkB Γ P G f t dec R g := by
  intro s xs r x ys y hx hy w F O b v0 args hsig hG hF hown hb0 hsize ha0 hrd
  have hwk := hdec r x hx
  have hlen' : args.size = (enc x).length + 1 := hsize.trans (by rw [hwk.len])
  have hrd' : ∀ (i : Nat) (u : Value) (d : V), args[i + 1]? = some u → (enc x)[i]? = some d → Rd w F u d := by
    intro i u d hu hd
    have hlt : i < r.length := by rw [hwk.len]; exact (List.getElem?_eq_some_iff.1 hd).1
    exact hwk.get i r[i] d (by simp [hlt]) hd w F u (hrd i u r[i] hu (by simp [hlt]))
  have hex := h s xs x
  rw [hy] at hex
  unfold exFB at hex
  rw [kEnv_eq] at hex
  obtain ⟨k, e', d, hok, _, hend⟩ := exC_sound (fun _ _ _ => .inl hsub) hmix hS c _ _ _ _ _ hex
  have hk : (k = .normal ∨ k = .ret) ∧ (match lentOf e' t with
      | some ys => match evRet (Look.of P) e' fn with
        | some r => match R.getP r with
          | some y => need (Nat.beq ys.length xs.length) (some (ys, y))
          | none => none
        | none => none
      | none => none) = some (ys, y) := by
    cases k with
    | normal => exact ⟨.inl rfl, hend⟩
    | ret => exact ⟨.inr rfl, hend⟩
    | exit id => cases hend
  obtain ⟨hk, hend⟩ := hk
  split at hend
  · rename_i ys' hys
    split at hend
    · rename_i rv hrv
      split at hend
      · rename_i y' hy'
        obtain ⟨hlen0, hend⟩ := need_some.1 hend
        have hlen0 := Nat.eq_of_beq_eq_true hlen0
        simp only [Option.some.injEq, Prod.mk.injEq] at hend
        obtain ⟨rfl, rfl⟩ := hend
        refine calls_of_wp hf hb ?_
        have hcap : ∃ cap, xs ≠ [] → v0 = .slice (some ⟨b, 0, none⟩) xs.length cap ∧ xs.length ≤ cap ∧ ∃ (c : Array Value) (et : TypeId) (fl : Nat × Nat), w.heap[b]? = some (.cells c et fl) ∧ c.size = cap * t.size := by
          rcases hown with ⟨h1, _⟩ | ⟨h1, _, cap, h2, c, et, h3, h4, h5, _⟩
          · exact ⟨0, fun h => absurd (by simpa using h1) h⟩
          · exact ⟨cap, fun _ => ⟨by simpa using h2, by simpa using h5, c, et, (0, 0), h3, h4⟩⟩
        obtain ⟨cap, hcap⟩ := hcap
        let β : Lay := ⟨fun _ => 0, fun _ => b⟩
        let al : Site → Prop := fun q => q = .o lentId ∧ xs ≠ []
        let O0 : Lent := ⟨O, if xs = [] then none else some (b, cap * t.size)⟩
        have h0T : TRel w F β al v0 (.ot lentId t xs) := by
          rcases hown with ⟨h1, h2⟩ | ⟨h1, _, h2⟩
          · exact .inl ⟨h1, h2⟩
          · exact .inr ⟨h1, ⟨rfl, fun hh => h1 (by rw [hh]; rfl)⟩, h2⟩
        have hget : ∀ q, TRel w F β al ((args ++ Array.replicate (fn.ntmps - args.size) undef).getD q undef) ((startB fn.ntmps s t xs (enc x)).get q) := by
          intro q
          simp only [startB, startTmB, Env.get, List.getD_eq_getElem?_getD, Array.getD_eq_getD_getElem?]
          cases q with
          | zero =>
            rw [Array.getElem?_append_left (by omega), ha0]
            exact h0T
          | succ q =>
            rw [List.getElem?_cons_succ]
            by_cases ht : q < (enc x).length
            · rw [List.getElem?_append_left (by simpa using ht), Array.getElem?_append_left (by omega)]
              rw [List.getElem?_map, List.getElem?_eq_getElem ht, Array.getElem?_eq_getElem (by omega)]
              exact hrd' q _ _ (by simp [show q + 1 < args.size by omega]) (by simp [ht])
            · rw [List.getElem?_append_right (by simpa using Nat.le_of_not_lt ht), Array.getElem?_append_right (by omega), hlen']
              simp only [List.length_map]
              by_cases h2 : q - (enc x).length < fn.ntmps - ((enc x).length + 1)
              · rw [List.getElem?_replicate, if_pos h2, Array.getElem?_replicate, if_pos (by omega)]
                exact Rd.val _
              · rw [List.getElem?_replicate, if_neg h2]
                trivial
        have hnovar : ∀ s0, (startB fn.ntmps s t xs (enc x)).var s0 = none := by
          intro s0
          simp only [startB, Env.var, List.getElem?_replicate]
          split <;> rfl
        have hl : xs ≠ [] → O0.l = some (b, cap * t.size) := fun hh => by simp [O0, hh]
        have hinv : Inv Γ G w F O0 { tmps := args ++ Array.replicate (fn.ntmps - args.size) undef, defers := [] } w (startB fn.ntmps s t xs (enc x)) := by
          refine Inv.of (F := F) (O := O) (β := β) (al := al) ⟨Keep.refl _ w, hsig, fun b hb => .inl hb, fun b hb => ⟨.inl hb, hF b hb⟩, fun b hb => hb, ?_, ?_, ?_⟩ hG ?_ rfl hget ?_ ?_
          · rintro q ⟨rfl, hne⟩
            exact ⟨.inr ⟨rfl, _, hl hne⟩, hb0 hne⟩
          · rintro q q' ⟨rfl, _⟩ ⟨rfl, _⟩ _; rfl
          · intro b' n hb'
            by_cases hx0 : xs = []
            · simp [O0, hx0] at hb'
            · rw [hl hx0] at hb'
              simp only [Option.some.injEq, Prod.mk.injEq] at hb'
              obtain ⟨rfl, rfl⟩ := hb'
              obtain ⟨_, _, c, et, fl, h1, h2⟩ := hcap hx0
              exact ⟨(hb0 hx0).1, (hb0 hx0).2.2, (hb0 hx0).2.1, c, et, fl, h1, h2⟩
          · simp [startB, startTmB, hlen']; omega
          · intro s0 cs hcs; rw [hnovar] at hcs; cases hcs
          · rintro s0 ⟨hh, _⟩; cases hh
        refine wp_mono (hok w F O0 _ w hinv) ?_
        rintro ex a' w' ⟨rfl, hi'⟩
        have hdf : a'.defers = [] := by obtain ⟨_, _, _, _, _, _, hdf, _⟩ := hi'; exact hdf
        have hpd : ∃ d0, rv = .p d0 := by
          cases rv with
          | p d0 => exact ⟨d0, rfl⟩
          | own es => cases R <;> simp [RTy.getP] at hy'
          | ownT t0 xs0 => cases R <;> simp [RTy.getP] at hy'
        obtain ⟨d0, rfl⟩ := hpd
        obtain ⟨v, F1, h1, h2⟩ := evRet_run hi' hrv
        have h3 := getP_sound hy' h2
        obtain ⟨u, hu⟩ := val_flat hpl hno y'
        obtain ⟨F', O', β', hc', hG', hsz', _, ht', hv'⟩ := hi'
        have hrow := ht' 0
        have hkeep : Keep (fun c => O c ∨ (xs ≠ [] ∧ c = b)) w w' := by
          refine ⟨hc'.keep.os, hc'.keep.tape, hc'.keep.output, hc'.keep.size, fun c hc ho => hc'.keep.block c hc ?_⟩
          rintro (hh | ⟨n, hh⟩)
          · exact ho (.inl hh)
          · by_cases hx0 : xs = []
            · simp [O0, hx0] at hh
            · rw [hl hx0] at hh
              simp only [Option.some.injEq, Prod.mk.injEq] at hh
              exact ho (.inr ⟨hx0, hh.1.symm⟩)
        have hrow' : OwnR w' F' ⟨fun _ => b, fun _ => b⟩ (fun _ => True) v0 0 t.size (ys'.map t.enc) := by
          unfold lentOf at hys
          split at hys
          · rename_i id t' zs hg
            split at hys
            · rename_i hid
              have hid := Nat.eq_of_beq_eq_true hid
              subst hid
              obtain ⟨htt, hz⟩ := fitL_sound (castL_sound hys)
              subst htt
              subst hz
              rw [hg] at hrow
              by_cases hx0 : xs = []
              · subst hx0
                have hz : zs = [] := List.eq_nil_of_length_eq_zero hlen0
                subst hz
                rcases hown with ⟨_, h2⟩ | ⟨h1, _⟩
                · exact .inl ⟨rfl, h2⟩
                · exact absurd rfl h1
              · have hne : zs ≠ [] := fun hh => hx0 (List.eq_nil_of_length_eq_zero (by rw [← hlen0, hh]; rfl))
                rcases hrow with ⟨h1, _⟩ | ⟨h1, hal, cap', _, c1, et1, q1, q2, q3, q4, q5⟩
                · exact absurd (by simpa using h1) hne
                · rcases (hc'.place _ hal).1 with ⟨hh, _⟩ | ⟨_, n, hh⟩
                  · exact absurd rfl hh
                  · rw [hl hx0] at hh
                    simp only [Option.some.injEq, Prod.mk.injEq] at hh
                    have hbb : β'.ob lentId = b := hh.1.symm
                    rw [hbb] at q1
                    obtain ⟨_, _, _, c2, et2, fl2, k1, k2⟩ := hc'.lent b _ (hl hx0)
                    rw [q1] at k1
                    simp only [Option.some.injEq, Obj.cells.injEq] at k1
                    obtain ⟨rfl, _, _⟩ := k1
                    obtain ⟨hv0, hle, _⟩ := hcap hx0
                    refine .inr ⟨h1, trivial, cap, by rw [hv0]; simp [hlen0], c1, et1, q1, k2, by rw [List.length_map, hlen0]; exact hle, q4, q5⟩
            · cases hys
          · cases hys
        have hst : e'.st = s := Subsingleton.elim _ _
        rcases hk with rfl | rfl
        · exact ⟨hdf, v, h1, v, F', O', rfl, by rw [← hst]; exact hc'.sig, hkeep, hc'.oin, hc'.f0, hc'.fin, hrow', h3.of_flat hu⟩
        · exact ⟨hdf, v, h1, v, F', O', rfl, by rw [← hst]; exact hc'.sig, hkeep, hc'.oin, hc'.f0, hc'.fin, hrow', h3.of_flat hu⟩
      · cases hend
    · cases hend
  · cases hend
end
end Go.Ve
