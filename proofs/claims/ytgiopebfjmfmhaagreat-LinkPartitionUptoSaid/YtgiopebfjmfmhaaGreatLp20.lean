/- law16 -/
import Derived.Test.YtgiopebfjmfmhaaGreatLp14
import Derived.Test.YtgiopebfjmfmhaaGreatLp17
set_option linter.unusedVariables false
open Option renaming some->J,none->I
open Go.Proofs.Tryz renaming prog->Aa,f114->Ab
set_option maxRecDepth 1000000
set_option maxHeartbeats 0
namespace Go.Ve
noncomputable section
open Go Go.Proofs
theorem zTj:OkX 148 [(.sl tI)] (.p tI) zBw:=fX [] [jj 13 5726602256 [] [.t 8 tI],jj 32 5726622736 [] []]
def zFD:Ent:=j9 zTj
def zKr:Nat->Option JA:=fun k=>match k with|12=>J ⟨336,[],[.t 0 (.sl zC)]⟩|_=>I
theorem zJg:jJ U Aa G0 114 (z7 (qQ [(.sl zC)] (.o zC) zAC)):=zXw (t:=zC) (bytes:=136) (zAG (fn:=Ab) (c:=kU Ab) (S:=zU.none U) (A:=fun _=>I) jE (by kernel_rfl) (by kernel_rfl) (enc:=fun q=>[.tl zC (q.1::q.2)]) (fun _ _ h=>zKg h) (by rintro⟨⟩ ⟨y,r⟩;kernel_rfl)) (fun c=>zAG (fn:=Ab) (c:=kU Ab) (S:=zU.none U) (A:=fun _=>I) jE (by kernel_rfl) (by kernel_rfl) (enc:=fun _=>[.val (.slice I 0 c)]) (fun _ _ h=>zCF h) (by rintro⟨⟩ _;kernel_rfl)) (fun a c=>zAG (fn:=Ab) (c:=kU Ab) (S:=zU.none U) (A:=zKr) jE (by kernel_rfl) (by kernel_rfl) (enc:=fun _=>[.val (.slice (J a) 0 c)]) (fun _ _ h=>zCF h) (by rintro⟨⟩ _;kernel_rfl))
def zKb:Ent:=j9 zJg
theorem wW:OkX 116 [zC,zC] (.p tI) z8:=fX [zSA]
def zJo:Ent:=j9 wW
def zB9:Nat->Option JA:=fun k=>match k with|18=>J ⟨0x155555555000000000,[],[.t 34 .bool,.o 0 1000000 zC]⟩|17=>J ⟨0x155555555555555555000040001,[],[.t 9 tI,.o 0 1000000 zC]⟩|8=>J ⟨0x155555555555555555400040001,[],[.o 0 1000000 zC]⟩|5=>J ⟨0x155555555555555555555050001,[],[.t 8 tI,.o 0 1000000 zC]⟩|27=>J ⟨0,[(229376,28,0)],[]⟩|_=>I
theorem zBX:zCK U Aa G0 226 zC (uI [.d tI,.d tI,.clo 116 []]) (.tu []) jS:=zBp (fn:=Tryz.f226) (c:=kU Tryz.f226) (S:=((zU.none U).add 116 (qQ [zC,zC] (.p tI) z8))) (A:=zB9) (vQ jE (by kernel_rfl) wW) (by kernel_rfl) (by kernel_rfl) (by kernel_rfl) (by intro e h;cases h) (by rintro⟨⟩ f ⟨g,i,⟨⟩,⟨⟩⟩;kernel_rfl)
def zDK:Nat->Option JA:=fun k=>match k with|5=>J ⟨0x5555555555555500000,[],[.t 10 tI,.o 0 1000000 zC]⟩|15=>J ⟨0,[(14680064,240,0)],[]⟩|_=>I
theorem zDb:zCK U Aa G0 314 zC (uI [.d tI,.d tI,.d tI,.clo 116 []]) (.tu []) wM:=zBp (fn:=Tryz.f314) (c:=kU Tryz.f314) (S:=((zU.none U).add 116 (qQ [zC,zC] (.p tI) z8))) (A:=zDK) (vQ jE (by kernel_rfl) wW) (by kernel_rfl) (by kernel_rfl) (by kernel_rfl) (by intro e h;cases h) (by rintro⟨⟩ f ⟨g,i,j,⟨⟩,⟨⟩⟩;kernel_rfl)
def zFd:Nat->Option JA:=fun k=>match k with|9=>J ⟨0x5555555555555555000500000,[],[.t 10 tI,.t 11 tI,.o 0 1000000 zC]⟩|32=>J ⟨0x5555555555555555000500001,[],[.o 0 1000000 zC,.t 10 tI]⟩|_=>I
theorem zEs:zCK U Aa G0 272 zC (uI [.d tI,.d tI,.d tI,.clo 116 []]) (.tu []) yS:=zBp (fn:=Tryz.f272) (c:=kU Tryz.f272) (S:=(((zU.none U).addB 314 (zAB zC (uI [.d tI,.d tI,.d tI,.clo 116 []]) (.tu []) wM)).add 116 (qQ [zC,zC] (.p tI) z8))) (A:=zFd) (vQ (zAx jE (by kernel_rfl) zDb) (by kernel_rfl) wW) (by kernel_rfl) (by kernel_rfl) (by kernel_rfl) (by intro e h;cases h) (by rintro⟨⟩ f ⟨g,i,j,⟨⟩,⟨⟩⟩;kernel_rfl)
def zEi:Nat->Option JA:=fun k=>match k with|13=>J ⟨0x555555555554000000001500000,[],[.t 10 tI,.t 11 tI,.o 0 1000000 zC]⟩|32=>J ⟨0x555555555554000000001500001,[],[.t 10 tI,.o 0 1000000 zC]⟩|37=>J ⟨0x155555555554000000000000000000004000000,[],[.t 13 tI,.o 0 1000000 zC]⟩|48=>J ⟨95701492081623040,[],[.o 0 1000000 zC]⟩|61=>J ⟨0x155555555555400000000000000000000000000000000150000000,[],[.t 14 tI,.t 15 tI,.o 0 1000000 zC]⟩|80=>J ⟨0x155555555555400000000000000000000000000000000150000001,[],[.t 14 tI,.o 0 1000000 zC]⟩|85=>J ⟨0x15555555555000000000000000000000000000000000000000000000400000000,[],[.t 17 tI,.o 0 1000000 zC]⟩|96=>J ⟨0x15400000000000000000000000000000000000000,[],[.o 0 1000000 zC]⟩|128=>J ⟨0x15555000000000000000000000000000000000000000000000000000000000050000000000,[],[.t 20 tI,.t 21 tI,.o 0 1000000 zC]⟩|133=>J ⟨0x1555555555555400000000000000000000000000000000000000000000000000000000000000450000000000,[],[.t 20 tI,.t 21 tI,.o 0 1000000 zC]⟩|152=>J ⟨0x1555555555555400000000000000000000000000000000000000000000000000000000000000450000000001,[],[.t 20 tI,.o 0 1000000 zC]⟩|158=>J ⟨0x555500000000000000000000000000000000000000000000000000000000000000000000000000000000000000000,[],[.t 185 .bool,.o 0 1000000 zC]⟩|164=>J ⟨0x555555500000000000000000000000000000000000000000000000000000000000000000000000000000000000000001,[],[.o 0 1000000 zC]⟩|166=>J ⟨0x5555000000000000000000000000000000000000000000000000000000000000000000000000000000000000000000000000,[],[.t 199 .bool,.o 0 1000000 zC]⟩|172=>J ⟨0x5555555000000000000000000000000000000000000000000000000000000000000000000000000000000000000000000000001,[],[.o 0 1000000 zC]⟩|174=>J ⟨0x55550000000000000000000000000000000000000000000000000000000000000000000000000000000000000000000000000000000,[],[.t 213 .bool,.o 0 1000000 zC]⟩|95=>J ⟨0,[(229376,28,0)],[]⟩|47=>J ⟨0,[(229376,28,0)],[]⟩|_=>I
theorem zDe:∀n,zCK U Aa G0 227 zC (uI [.d tI,.d tI,.d tI,.clo 116 []]) (.tu []) (jK n):=by
 intro n
 induction n with
 |zero=>exact fun _ _ _ _ _ _ _ h=>by cases h
 |succ n a=>exact zBp (fn:=Tryz.f227) (c:=kU Tryz.f227) (S:=((((zU.none U).addB 272 (zAB zC (uI [.d tI,.d tI,.d tI,.clo 116 []]) (.tu []) yS)).add 116 (qQ [zC,zC] (.p tI) z8)).addB 227 (zAB zC (uI [.d tI,.d tI,.d tI,.clo 116 []]) (.tu []) (jK n)))) (A:=zEi) (zAx (vQ (zAx jE (by kernel_rfl) zEs) (by kernel_rfl) wW) (by kernel_rfl) a) (by kernel_rfl) (by kernel_rfl) (by kernel_rfl) (by intro f h;cases h) (by rintro⟨⟩ g ⟨i,j,k,⟨⟩,⟨⟩⟩;kernel_rfl)
theorem zDA:zCK U Aa G0 227 zC (uI [.d tI,.d tI,.d tI,.clo 116 []]) (.tu []) vD:=zDe _
def zFc:Nat->Option JA:=fun k=>match k with|9=>J ⟨23456246743040,[],[.t 8 tI,.o 0 1000000 zC,.t 7 tI]⟩|24=>J ⟨23456246743041,[],[.o 0 1000000 zC,.t 7 tI]⟩|37=>J ⟨0x1555555540000000000014000,[],[.t 8 tI,.o 0 1000000 zC,.t 7 tI]⟩|52=>J ⟨0x1555555540000000000014001,[],[.t 7 tI,.o 0 1000000 zC]⟩|64=>J ⟨0x1555554000000000000000000040000,[],[.o 0 1000000 zC]⟩|29=>J ⟨0x15555555555555555500000000055001,[],[.t 6 tI,.o 0 1000000 zC]⟩|_=>I
theorem zEr:zCK U Aa G0 173 zC (uI [.d tI,.clo 116 []]) (.tu []) vT:=zBp (fn:=Tryz.f173) (c:=kU Tryz.f173) (S:=((((zU.none U).addB 226 (zAB zC (uI [.d tI,.d tI,.clo 116 []]) (.tu []) jS)).addB 227 (zAB zC (uI [.d tI,.d tI,.d tI,.clo 116 []]) (.tu []) vD)).add 116 (qQ [zC,zC] (.p tI) z8))) (A:=zFc) (vQ (zAx (zAx jE (by kernel_rfl) zBX) (by kernel_rfl) zDA) (by kernel_rfl) wW) (by kernel_rfl) (by kernel_rfl) (by kernel_rfl) (by intro e h;cases h) (by rintro⟨⟩ f ⟨g,⟨⟩,⟨⟩⟩;kernel_rfl)
def zEP:Nat->Option JA:=fun _=>I
theorem zAm:zCK U Aa G0 115 zC (uI [.clo 116 []]) (.tu []) vL:=zBp (fn:=Tryz.f115) (c:=kU Tryz.f115) (S:=(((zU.none U).addB 173 (zAB zC (uI [.d tI,.clo 116 []]) (.tu []) vT)).add 116 (qQ [zC,zC] (.p tI) z8))) (A:=zEP) (vQ (zAx jE (by kernel_rfl) zEr) (by kernel_rfl) wW) (by kernel_rfl) (by kernel_rfl) (by kernel_rfl) (by intro e h;cases h) (by rintro⟨⟩ f ⟨⟨⟩,⟨⟩⟩;kernel_rfl)
def zEG:Ent:=qEj zAm
theorem zQj:OkX 229 [zC] (.p tI) zIn:=fX []
def zSu:Ent:=j9 zQj
theorem zQk:OkX 175 [zC,zC] (.p tI) zAE:=fX [uV,zSu,zFD,xP] [jj 16 344064 [] [.t 7 .bool]]
def zSv:Ent:=j9 zQk
theorem zEt:OkX 177 [zQ,zQ] (.p tI) v7:=fX [zFD,uV,xP]
def zLc:Ent:=j9 zEt
theorem zCL:zCK U Aa G0 115 zC (uI [.clo 116 []]) (.tu []) uN:=zAm
def zDn:Ent:=qEj zCL
end
end Go.Ve
