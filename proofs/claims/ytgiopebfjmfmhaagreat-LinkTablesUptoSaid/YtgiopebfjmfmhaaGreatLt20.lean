/- law16 -/
import Derived.Test.YtgiopebfjmfmhaaGreatLt14
import Derived.Test.YtgiopebfjmfmhaaGreatLt17
set_option linter.unusedVariables false
open Option renaming some->J,none->I
open Go.Proofs.Tryz renaming prog->Aa,f114->Ab
set_option maxRecDepth 1000000
set_option maxHeartbeats 0
namespace Go.Ve
noncomputable section
open Go Go.Proofs
theorem zTW:OkX 148 [(.sl tI)] (.p tI) zBC:=fX [] [jj 13 5726602256 [] [.t 8 tI],jj 32 5726622736 [] []]
def zFP:Ent:=jJ zTW
def zKP:Nat->Option JA:=fun k=>match k with|12=>J ⟨336,[],[.t 0 (.sl zC)]⟩|_=>I
theorem zJA:jK U Aa G0 114 (z6 (qQ [(.sl zC)] (.o zC) zAN)):=zX9 (t:=zC) (bytes:=136) (zAQ (fn:=Ab) (c:=kX Ab) (S:=zU.none U) (A:=fun _=>I) jE (by kernel_rfl) (by kernel_rfl) (enc:=fun q=>[.tl zC (q.1::q.2)]) (fun _ _ h=>zKE h) (by rintro⟨⟩ ⟨y,r⟩;kernel_rfl)) (fun c=>zAQ (fn:=Ab) (c:=kX Ab) (S:=zU.none U) (A:=fun _=>I) jE (by kernel_rfl) (by kernel_rfl) (enc:=fun _=>[.val (.slice I 0 c)]) (fun _ _ h=>zCP h) (by rintro⟨⟩ _;kernel_rfl)) (fun a c=>zAQ (fn:=Ab) (c:=kX Ab) (S:=zU.none U) (A:=zKP) jE (by kernel_rfl) (by kernel_rfl) (enc:=fun _=>[.val (.slice (J a) 0 c)]) (fun _ _ h=>zCP h) (by rintro⟨⟩ _;kernel_rfl))
def zKA:Ent:=jJ zJA
theorem wZ:OkX 116 [zC,zC] (.p tI) z7:=fX [zTb]
def zJI:Ent:=jJ wZ
def zCh:Nat->Option JA:=fun k=>match k with|18=>J ⟨0x155555555000000000,[],[.t 34 .bool,.o 0 1000000 zC]⟩|17=>J ⟨0x155555555555555555000040001,[],[.t 9 tI,.o 0 1000000 zC]⟩|8=>J ⟨0x155555555555555555400040001,[],[.o 0 1000000 zC]⟩|5=>J ⟨0x155555555555555555555050001,[],[.t 8 tI,.o 0 1000000 zC]⟩|27=>J ⟨0,[(229376,28,0)],[]⟩|_=>I
theorem zB4:zCU U Aa G0 226 zC (uM [.d tI,.d tI,.clo 116 []]) (.tu []) jT:=zBv (fn:=Tryz.f226) (c:=kX Tryz.f226) (S:=((zU.none U).add 116 (qQ [zC,zC] (.p tI) z7))) (A:=zCh) (vR jE (by kernel_rfl) wZ) (by kernel_rfl) (by kernel_rfl) (by kernel_rfl) (by intro e h;cases h) (by rintro⟨⟩ f ⟨g,i,⟨⟩,⟨⟩⟩;kernel_rfl)
def zDV:Nat->Option JA:=fun k=>match k with|5=>J ⟨0x5555555555555500000,[],[.t 10 tI,.o 0 1000000 zC]⟩|15=>J ⟨0,[(14680064,240,0)],[]⟩|_=>I
theorem zDk:zCU U Aa G0 314 zC (uM [.d tI,.d tI,.d tI,.clo 116 []]) (.tu []) wO:=zBv (fn:=Tryz.f314) (c:=kX Tryz.f314) (S:=((zU.none U).add 116 (qQ [zC,zC] (.p tI) z7))) (A:=zDV) (vR jE (by kernel_rfl) wZ) (by kernel_rfl) (by kernel_rfl) (by kernel_rfl) (by intro e h;cases h) (by rintro⟨⟩ f ⟨g,i,j,⟨⟩,⟨⟩⟩;kernel_rfl)
def zFp:Nat->Option JA:=fun k=>match k with|9=>J ⟨0x5555555555555555000500000,[],[.t 10 tI,.t 11 tI,.o 0 1000000 zC]⟩|32=>J ⟨0x5555555555555555000500001,[],[.o 0 1000000 zC,.t 10 tI]⟩|_=>I
theorem zEG:zCU U Aa G0 272 zC (uM [.d tI,.d tI,.d tI,.clo 116 []]) (.tu []) yT:=zBv (fn:=Tryz.f272) (c:=kX Tryz.f272) (S:=(((zU.none U).addB 314 (zAM zC (uM [.d tI,.d tI,.d tI,.clo 116 []]) (.tu []) wO)).add 116 (qQ [zC,zC] (.p tI) z7))) (A:=zFp) (vR (zAH jE (by kernel_rfl) zDk) (by kernel_rfl) wZ) (by kernel_rfl) (by kernel_rfl) (by kernel_rfl) (by intro e h;cases h) (by rintro⟨⟩ f ⟨g,i,j,⟨⟩,⟨⟩⟩;kernel_rfl)
def zEs:Nat->Option JA:=fun k=>match k with|13=>J ⟨0x555555555554000000001500000,[],[.t 10 tI,.t 11 tI,.o 0 1000000 zC]⟩|32=>J ⟨0x555555555554000000001500001,[],[.t 10 tI,.o 0 1000000 zC]⟩|37=>J ⟨0x155555555554000000000000000000004000000,[],[.t 13 tI,.o 0 1000000 zC]⟩|48=>J ⟨95701492081623040,[],[.o 0 1000000 zC]⟩|61=>J ⟨0x155555555555400000000000000000000000000000000150000000,[],[.t 14 tI,.t 15 tI,.o 0 1000000 zC]⟩|80=>J ⟨0x155555555555400000000000000000000000000000000150000001,[],[.t 14 tI,.o 0 1000000 zC]⟩|85=>J ⟨0x15555555555000000000000000000000000000000000000000000000400000000,[],[.t 17 tI,.o 0 1000000 zC]⟩|96=>J ⟨0x15400000000000000000000000000000000000000,[],[.o 0 1000000 zC]⟩|128=>J ⟨0x15555000000000000000000000000000000000000000000000000000000000050000000000,[],[.t 20 tI,.t 21 tI,.o 0 1000000 zC]⟩|133=>J ⟨0x1555555555555400000000000000000000000000000000000000000000000000000000000000450000000000,[],[.t 20 tI,.t 21 tI,.o 0 1000000 zC]⟩|152=>J ⟨0x1555555555555400000000000000000000000000000000000000000000000000000000000000450000000001,[],[.t 20 tI,.o 0 1000000 zC]⟩|158=>J ⟨0x555500000000000000000000000000000000000000000000000000000000000000000000000000000000000000000,[],[.t 185 .bool,.o 0 1000000 zC]⟩|164=>J ⟨0x555555500000000000000000000000000000000000000000000000000000000000000000000000000000000000000001,[],[.o 0 1000000 zC]⟩|166=>J ⟨0x5555000000000000000000000000000000000000000000000000000000000000000000000000000000000000000000000000,[],[.t 199 .bool,.o 0 1000000 zC]⟩|172=>J ⟨0x5555555000000000000000000000000000000000000000000000000000000000000000000000000000000000000000000000001,[],[.o 0 1000000 zC]⟩|174=>J ⟨0x55550000000000000000000000000000000000000000000000000000000000000000000000000000000000000000000000000000000,[],[.t 213 .bool,.o 0 1000000 zC]⟩|95=>J ⟨0,[(229376,28,0)],[]⟩|47=>J ⟨0,[(229376,28,0)],[]⟩|_=>I
theorem zDn:∀n,zCU U Aa G0 227 zC (uM [.d tI,.d tI,.d tI,.clo 116 []]) (.tu []) (jL n):=by
 intro n
 induction n with
 |zero=>exact fun _ _ _ _ _ _ _ h=>by cases h
 |succ n a=>exact zBv (fn:=Tryz.f227) (c:=kX Tryz.f227) (S:=((((zU.none U).addB 272 (zAM zC (uM [.d tI,.d tI,.d tI,.clo 116 []]) (.tu []) yT)).add 116 (qQ [zC,zC] (.p tI) z7)).addB 227 (zAM zC (uM [.d tI,.d tI,.d tI,.clo 116 []]) (.tu []) (jL n)))) (A:=zEs) (zAH (vR (zAH jE (by kernel_rfl) zEG) (by kernel_rfl) wZ) (by kernel_rfl) a) (by kernel_rfl) (by kernel_rfl) (by kernel_rfl) (by intro f h;cases h) (by rintro⟨⟩ g ⟨i,j,k,⟨⟩,⟨⟩⟩;kernel_rfl)
theorem zDL:zCU U Aa G0 227 zC (uM [.d tI,.d tI,.d tI,.clo 116 []]) (.tu []) vE:=zDn _
def zFo:Nat->Option JA:=fun k=>match k with|9=>J ⟨23456246743040,[],[.t 8 tI,.o 0 1000000 zC,.t 7 tI]⟩|24=>J ⟨23456246743041,[],[.o 0 1000000 zC,.t 7 tI]⟩|37=>J ⟨0x1555555540000000000014000,[],[.t 8 tI,.o 0 1000000 zC,.t 7 tI]⟩|52=>J ⟨0x1555555540000000000014001,[],[.t 7 tI,.o 0 1000000 zC]⟩|64=>J ⟨0x1555554000000000000000000040000,[],[.o 0 1000000 zC]⟩|29=>J ⟨0x15555555555555555500000000055001,[],[.t 6 tI,.o 0 1000000 zC]⟩|_=>I
theorem zEF:zCU U Aa G0 173 zC (uM [.d tI,.clo 116 []]) (.tu []) vU:=zBv (fn:=Tryz.f173) (c:=kX Tryz.f173) (S:=((((zU.none U).addB 226 (zAM zC (uM [.d tI,.d tI,.clo 116 []]) (.tu []) jT)).addB 227 (zAM zC (uM [.d tI,.d tI,.d tI,.clo 116 []]) (.tu []) vE)).add 116 (qQ [zC,zC] (.p tI) z7))) (A:=zFo) (vR (zAH (zAH jE (by kernel_rfl) zB4) (by kernel_rfl) zDL) (by kernel_rfl) wZ) (by kernel_rfl) (by kernel_rfl) (by kernel_rfl) (by intro e h;cases h) (by rintro⟨⟩ f ⟨g,⟨⟩,⟨⟩⟩;kernel_rfl)
def zE2:Nat->Option JA:=fun _=>I
theorem zAw:zCU U Aa G0 115 zC (uM [.clo 116 []]) (.tu []) vL:=zBv (fn:=Tryz.f115) (c:=kX Tryz.f115) (S:=(((zU.none U).addB 173 (zAM zC (uM [.d tI,.clo 116 []]) (.tu []) vU)).add 116 (qQ [zC,zC] (.p tI) z7))) (A:=zE2) (vR (zAH jE (by kernel_rfl) zEF) (by kernel_rfl) wZ) (by kernel_rfl) (by kernel_rfl) (by kernel_rfl) (by intro e h;cases h) (by rintro⟨⟩ f ⟨⟨⟩,⟨⟩⟩;kernel_rfl)
def zET:Ent:=qEY zAw
theorem zQQ:OkX 229 [zC] (.p tI) zIC:=fX []
def zS3:Ent:=jJ zQQ
theorem zQR:OkX 175 [zC,zC] (.p tI) zAO:=fX [uZ,zS3,zFP,xW] [jj 16 344064 [] [.t 7 .bool]]
def zS4:Ent:=jJ zQR
theorem zEH:OkX 177 [zP,zP] (.p tI) kA:=fX [zFP,uZ,xW]
def zLB:Ent:=jJ zEH
theorem zCV:zCU U Aa G0 115 zC (uM [.clo 116 []]) (.tu []) uS:=zAw
def zDw:Ent:=qEY zCV
end
end Go.Ve
