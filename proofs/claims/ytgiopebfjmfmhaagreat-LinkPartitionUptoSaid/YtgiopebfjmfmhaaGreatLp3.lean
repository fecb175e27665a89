/- law16 -/
import Derived.Shelf.SlicesE.Compact
import Derived.Shelf.SlicesQ.Reverse
import Derived.Shelf.SlicesQ.Equal
import Derived.Test.YtgiopebfjmfmhaaGreatLp1
set_option linter.unusedVariables false
open Option renaming none->J
open Array renaming replicate->Aa,length_toList->Ah
open List renaming replicate->Ab
open Go.Sort renaming ahead->Ac
open Go.Builtin renaming zeroCells->Ad,clear_->Ag
open Go.World renaming drewN_drewN->Ae
open Go.Sem renaming run->Af
namespace Go.Ve
open Go Go.Proofs Go.Shelf Go.RowKit Go.Lib Go.Sort
structure qAf(P:Program)(ρ:Ren):Prop where
 mixed:P.follows .mixedOrders=true
 f43:Bears P (ρ.f 43) (SlBodyN.n43 ρ)
 t0:P.underlying (ρ.t 0)=some (TypeDesc.tuple #[])
 a0:∀w,(isAgg (ρ.t 0)).run P w=.ok false w
 z0:∀w,(Go.sizeOf (ρ.t 0)).run P w=.ok 1 w
 v0:∀w,(zeroValue (ρ.t 0)).run P w=.ok (Value.tuple #[]) w
 t3:P.underlying (ρ.t 3)=some (TypeDesc.int IntKind.i64)
 a3:∀w,(isAgg (ρ.t 3)).run P w=.ok false w
 z3:∀w,(Go.sizeOf (ρ.t 3)).run P w=.ok 1 w
 v3:∀w,(zeroValue (ρ.t 3)).run P w=.ok (Value.int IntKind.i64 0) w
 t4:P.underlying (ρ.t 4)=some (TypeDesc.bool)
 a4:∀w,(isAgg (ρ.t 4)).run P w=.ok false w
 z4:∀w,(Go.sizeOf (ρ.t 4)).run P w=.ok 1 w
 v4:∀w,(zeroValue (ρ.t 4)).run P w=.ok (Value.bool false) w
 t22:P.underlying (ρ.t 22)=some (TypeDesc.slice (ρ.t 23))
 a22:∀w,(isAgg (ρ.t 22)).run P w=.ok false w
 z22:∀w,(Go.sizeOf (ρ.t 22)).run P w=.ok 1 w
 v22:∀w,(zeroValue (ρ.t 22)).run P w=.ok (Value.slice J 0 0) w
section
variable {α:Type}[Inhabited α]
theorem zWS{n i k:Nat}(h:i<n):i*k+k<=n*k:=by have:=aq k (show i+1<=n from h);grind
theorem zWH(enc:α->List Value)(k:Nat)(e:∀x,(enc x).length=k)(d:Array α)(i:Nat)(x:α)(hi:i<d.size):
  setMany (flatK enc k d) (i*k) (enc x)=flatK enc k (d.setIfInBounds i x):=by
 refine ext_get! (by simp) fun t f=>?_;have c:t<d.size*k:=by simpa using f
 have g:0<k:=by
  grind
 rw[get_setMany _ _ _ t (by simpa using c),get_flatK _ _ _ t c,get_flatK _ _ _ t (by simpa using c),e];by_cases a:t / k=i;all_goals simp_all[blk_iff,Nat.mod_eq_sub_div_mul,getElem!_set_other]
theorem zWG(enc:α->List Value)(k:Nat)(d:Array α)(i n:Nat)(z:α)(hi:i+n<=d.size):
  setMany (flatK enc k d) (i*k) (flatK enc k (Aa n z)).toList=flatK enc k (lay d i (Ab n z)):=by
 have g:(lay d i (Ab n z)).size=d.size:=by
  have:∀(f:List α) (d:Array α) (i:Nat),(lay d i f).size=d.size:=by
   intro f
   induction f with
   |nil=>intro d i;rfl
   |cons x f u=>grind[lay]
  exact this _ _ _
 refine ext_get! (by simp[g]) fun t h=>?_;have c:t<d.size*k:=by simpa using h
 have j:0<k:=by
  grind
 have y:t / k<d.size:=by simp_all[cn]
 rw[get_setMany _ _ _ t (by simpa using c),get_flatK _ _ _ t c,get_flatK _ _ _ t (by grind)];have l:(flatK enc k (Aa n z)).toList.length=n*k:=by simp
 rw[l];have vA:=lay_get? (Ab n z) d i (t / k) (by simpa using hi);rw[cK]at vA
 have e:(lay d i (Ab n z))[t / k]! =if i<=t / k/\t / k<i+n then z else d[t / k]! :=by
  grind
 rw[e];by_cases a:i<=t / k/\t / k<i+n
 .have m:i*k<=t:=by have:=aq k a.1;have p:=Nat.div_mul_le_self t k;omega
  have q:t<i*k+n*k:=by
   have r:t / k+1<=i+n:=a.2;have p:=aq k r;have A:=Nat.lt_mul_div_succ t j
   grind
  rw[if_pos ⟨m,q⟩,if_pos a]
  grind[get_flatK,Nat.div_lt_iff_lt_mul,Nat.mul_comm,Nat.sub_mul_mod,flatK,Aa]
 simp_all[if_neg,Nat.le_div_iff_mul_le,cn,bF]
theorem zQ2(enc:α->List Value)(k:Nat)(a:∀x,(enc x).length=k)(n:Nat)(z:α):Ad (enc z).toArray n=flatK enc k (Aa n z):=by
 refine ext_get! (by simp[Ad,a]) fun t c=>?_
 grind[Nat.eq_zero_or_pos,Nat.div_lt_iff_lt_mul,get_flatK,Ad,Aa]
theorem zWM{P:Program}(w:World)(t e ty:TypeId)(enc:α->List Value)(k:Nat)(g:∀x,(enc x).length=k)(q:∀x,∀v∈enc x,v.oneCell'=true)(z:α)(h:P.underlying t=some (.slice e))(f:∀w,(zeroValue e).run P w=.ok (.agg (enc z).toArray) w)
  (blk off cap i n:Nat) (d:Array α) (r:0<n) (hi:i+n<=d.size) (j:HoldsK enc k w blk off d):
  (Ag #[t] ty #[.slice (some ⟨blk,off+i*k,J⟩) n cap]).run P w=.ok (.tuple #[]) (w.setCells blk (off+i*k) (flatK enc k (Aa n z)).toList):=by
 have c:i*k+n*k<=d.size*k:=by rw[<-bF];exact aq k hi
 have a:∀v,v∈(flatK enc k (Aa n z)).toList->v.oneCell'=true:=by
  intro v f;obtain⟨t,h,rfl⟩:=aC f
  grind[Nat.eq_zero_or_pos,get_flatK,Nat.mod_lt,List.getElem_mem,flatK,Aa]
 have l:=stores_of_holds P j (i*k) (flatK enc k (Aa n z)).toList (by simpa using c) a;obtain⟨m,rfl⟩:∃m,n=m+1:=⟨n-1,by omega⟩
 have p:(Ad (Value.agg (enc z).toArray).cells (m+1))=flatK enc k (Aa (m+1) z):=zQ2 enc k g (m+1) z;simp_all[run_underlying,Ag]
theorem zSV(enc:α->List Value)(k:Nat)(d:∀x,(enc x).length=k){w wr:World}{n q blk off:Nat}{a:Array α}{i:Nat}(hi:i<a.size)(c:wr=putRowK enc k (Ac w n) blk off a)(x:α):
  (wr.drewN q).setCells blk (off+i*k) (enc x)=putRowK enc k (Ac w (n+q)) blk off (a.setIfInBounds i x):=by
 grind[putRowK_drewN,setCells_putRow,size_flatK,zWS,zWH,putRowK]
end
end Go.Ve
namespace Go.Ve
open Go Go.Proofs Go.Shelf Go.RowKit Go.Lib Go.Sort
variable {P:Program}{ρ:Ren}{α:Type}[Inhabited α][DecidableEq α]
theorem zTB{a:Nat}(e:1<=a)(f:a<=0x7fffffffffffffff):IntKind.wrap .i64 ((a:Int) -1)=((a-1:Nat):Int):=by
 have c:((2:Int)^IntKind.bits .i64)=0x10000000000000000:=by decide
 have d:((2:Int)^(IntKind.bits .i64-1))=0x8000000000000000:=by decide
 simp only[IntKind.wrap,IntKind.signed,bR,decide_eq_true_eq,c,d];split<;>omega
set_option maxHeartbeats 4000000 in
set_option maxRecDepth 1000000 in
theorem zQh(L:qAf P ρ)(k:Nat)(aE:∀w,(isAgg (ρ.t 23)).run P w=.ok true w)(zE:∀w,(Go.sizeOf (ρ.t 23)).run P w=.ok k w)(enc:α->List Value)(hk:∀x,(enc x).length=k)(h1:∀x,∀v∈enc x,v.oneCell'=true)
  (heq:EqlAt P (ρ.t 23) (fun x=>.agg (enc x).toArray) (fun x y=>decide (x=y))) (hne:NeqAt P (ρ.t 23) (fun x=>.agg (enc x).toArray) (fun x y=>decide (x=y))) (zr:α) (v23:∀w,(zeroValue (ρ.t 23)).run P w=.ok (.agg (enc zr).toArray) w)
  (blk off cap:Nat) (d:Array α) (w:World) (hH:HoldsK enc k w blk off d) (hsz:d.size<=0x7fffffffffffffff) (hcap:d.size<=cap):
  Calls P (ρ.f 43) #[.slice (some ⟨blk,off,J⟩) d.size cap] w fun e w'=>e=.returned (.slice (some ⟨blk,off,J⟩) (compactUpTo d d.size).length cap)/\∃q,w'=putRowK enc k (Ac w q) blk off (compactUpTo d d.size++Ab (d.size- (compactUpTo d d.size).length) zr).toArray:=by
 have mixed:=L.mixed;have t0:=L.t0;have a0:=L.a0;have z0:=L.z0;have v0:=L.v0;have t3:=L.t3;have a3:=L.a3;have z3:=L.z3;have v3:=L.v3;have t4:=L.t4;have a4:=L.a4;have z4:=L.z4;have v4:=L.v4;have t22:=L.t22;have a22:=L.a22;have z22:=L.z22;have v22:=L.v22;have heq':∀(x y:α) (w:World),Af P (binOp .eql (ρ.t 23) (.agg (enc x).toArray) (.agg (enc y).toArray)) w=.ok (.bool (decide (x=y))) w:=heq.1;have hne':∀(x y:α) (w:World),Af P (binOp .neq (ρ.t 23) (.agg (enc x).toArray) (.agg (enc y).toArray)) w=.ok (.bool (!decide (x=y))) w:=hne.1;have hgd':∀(op:BinOp) (a b:Operand) (x y:α) (w:World),Af P (eqGuard op (ρ.t 23) a b (.agg (enc x).toArray) (.agg (enc y).toArray)) w=.ok () w:=hne.2
 have same:∀q,(∀j,j<d.size->keeps d j=true)->(compactUpTo d d.size).length=d.size/\w.drewN q=putRowK enc k (Ac w q) blk off (compactUpTo d d.size++Ab (d.size- (compactUpTo d d.size).length) zr).toArray:=by
  intro q hall;have e:compactUpTo d d.size=d.toList:=by rw[compactUpTo_all d _ hall,range_map_get]
  rw[e];refine⟨by simp,?_⟩;simp only[Ah,Nat.sub_self,List.replicate_zero,cw,Array.toArray_toList];exact(putRowK_self enc k (Ac w q) blk off d (holdsK_ahead enc k w q blk off d hH)).symm
 have HS:Aside (∀q,(∀j,j<d.size->keeps d j=true)->(compactUpTo d d.size).length=d.size/\w.drewN q=putRowK enc k (Ac w q) blk off (compactUpTo d d.size++Ab (d.size- (compactUpTo d d.size).length) zr).toArray):=same;have HK:Hid (∀x,(enc x).length=k):=hk;have H1:Hid (∀x,∀v∈enc x,v.oneCell'=true):=h1;have HH:Aside (HoldsK enc k w blk off d):=hH;clear same h1 hk hH
 have HL:Aside (∀j,j<d.size->∀q,Af P (loadCellsFrom ⟨blk,off+j*k,J⟩ 0 k #[]) (w.drewN q)=.ok (enc d[j]!).toArray (w.drewN q)):=fun j hj q=>
  run_loadCellsFrom_list P _ _ _ k (HK.out _) (HoldsK.cells (holdsK_ahead enc k w q blk off d HH.out) HK.out hj)
 by_cases h2:d.size<2
 .obtain⟨_,_,FG⟩:=L.f43
  go_enter FG,SlBodyN.n43_ntmps ρ
  go_wp2
  go_ret
  obtain⟨e1,e2⟩:=HS.out 0 (fun j hj=>keeps_lt_one d j (by omega));exact⟨by rw[e1];rfl,0,e2⟩
 .obtain⟨_,_,FG⟩:=L.f43
  go_enter FG,SlBodyN.n43_ntmps ρ
  go_wp2
  go_loopg [3] d.size (fun g s3 wr=>∃kk q:Nat,1<=kk/\kk<=d.size/\d.size-kk<=g/\s3=.int .i64 kk/\wr=w.drewN q/\Aside (∀j,j<kk->keeps d j=true))
  case atStart=>exact⟨1,0,ai _,by omega,by omega,rfl,rfl,keeps_lt_one d⟩
  case round=>
   obtain⟨kk,q,hk1,hkk,hg,rfl,rfl,A⟩:=hrel;by_cases hlt:kk<d.size
   .have g1:∀m,Af P (loadCellsFrom ⟨blk,off+kk*k,J⟩ 0 k #[]) ((w.drewN q).drewN m)=.ok (enc d[kk]!).toArray ((w.drewN q).drewN m):=fun m=>by rw[Ae];exact HL.out kk hlt _
    have g2:∀m,Af P (loadCellsFrom ⟨blk,off+(kk-1)*k,J⟩ 0 k #[]) ((w.drewN q).drewN m)=.ok (enc d[kk-1]!).toArray ((w.drewN q).drewN m):=fun m=>by rw[Ae];exact HL.out (kk-1) (by omega) _
    generalize hx:d[kk]! =x at g1;generalize hy:d[kk-1]! =y at g2;have B:Aside (d[kk]! =x/\d[kk-1]! =y):=⟨hx,hy⟩
    clear hx hy;generalize hwq:w.drewN q=wq at g1 g2 ⊢;have hwr:=zTB hk1 (by omega:kk<=0x7fffffffffffffff);have hb:kk-1<d.size:=by omega
    have hb':((kk-1:Nat):Int)< (d.size:Int):=by omega
    by_cases hdup:x=y
    .subst hdup
     go_wp2_with fail
     go_quiet_o (fail)
     go_wp2
     clear g1 g2 hwr hb hb'
     go_loopg [3,5] d.size (fun g s3 s5 wr=>∃(kc k2 q2:Nat) (dk:Array α),s3=.int .i64 kc/\s5=.int .i64 k2/\1<=k2/\kk+k2<=d.size/\d.size- (kk+k2)<=g/\wr=putRowK enc k (Ac w q2) blk off dk/\CompInv d (kk+k2) kc dk)
     case atStart=>
      exact⟨kk,1,q+nq,d,rfl,rfl,ai _,by omega,by omega,by rw[<-hwq,Ae];exact(putRowK_self enc k (Ac w (q+nq)) blk off d (holdsK_ahead enc k w (q+nq) blk off d HH.out)).symm,
       CompInv.start A.out (keeps_neg (by omega) (by rw[B.out.1,B.out.2]))⟩
     case round=>
      obtain⟨kc,k2,q2,dk,rfl,rfl,hk2,hle,hg2,hwr2,hI⟩:=hrel;have hkc:=hI.lt;have hds:=hI.size;have hHk:∀m,HoldsK enc k (wr.drewN m) blk off dk:=fun m=>by rw[hwr2,putRowK_drewN];exact holdsK_putRowK enc k _ blk off d dk (holdsK_ahead enc k w (q2+m) blk off d HH.out) hds
      have W2:Aside (wr=putRowK enc k (Ac w q2) blk off dk):=hwr2;have I2:Aside (CompInv d (kk+k2) kc dk):=hI;clear hwr2;by_cases hlt2:kk+k2<d.size
      .have G1:∀m,Af P (loadCellsFrom ⟨blk,off+kk*k+k2*k,J⟩ 0 k #[]) (wr.drewN m)=.ok (enc d[kk+k2]!).toArray (wr.drewN m):=fun m=>by rw[bx,<-bF,<-hI.high (kk+k2) (by omega)];exact run_loadCellsFrom_list P _ _ _ k (HK.out _) (HoldsK.cells (hHk m) HK.out (by omega))
       have G2:∀m,Af P (loadCellsFrom ⟨blk,off+kk*k+(k2-1)*k,J⟩ 0 k #[]) (wr.drewN m)=.ok (enc d[kk+k2-1]!).toArray (wr.drewN m):=fun m=>by rw[bx,<-bF,<-hI.high (kk+k2-1) (by omega),show kk+(k2-1)=kk+k2-1 by omega];exact run_loadCellsFrom_list P _ _ _ k (HK.out _) (HoldsK.cells (hHk m) HK.out (by omega))
       have G3:∀m (x:α),Af P (storeCells ⟨blk,off+kc*k,J⟩ (enc x) 0) (wr.drewN m)=.ok () ((wr.drewN m).setCells blk (off+kc*k) (enc x)):=fun m x=>
        stores_of_holds P (hHk m) (kc*k) _ (by rw[HK.out,size_flatK];exact zWS (by omega)) (H1.out _)
       have hwr:=zTB hk2 (by omega:k2<=0x7fffffffffffffff);have hb1:k2<d.size-kk:=by omega
       have hb2:k2-1<d.size-kk:=by omega
       have hb3:kc<d.size:=by omega
       clear hHk hI;generalize hu:d[kk+k2]! =u at G1;generalize hv:d[kk+k2-1]! =v at G2;have C:Aside (d[kk+k2]! =u/\d[kk+k2-1]! =v):=⟨hu,hv⟩
       clear hu hv;by_cases huv:u=v
       .subst huv
        go_wp2_with fail
        go_quiet_o (fail)
        go_wp2
        go_roundg (d.size- (kk+(k2+1)))
        case measure=>omega
        case rel=>exact⟨kc,k2+1,q2+nq,dk,rfl,by go_num,by omega,by omega,ai _,by rw[W2.out,putRowK_drewN],I2.out.skip (keeps_neg (by omega) (by rw[C.out.1,C.out.2]))⟩
       .have hul:(enc u).length=k:=HK.out u
        go_wp2_with fail
        go_quiet_o (fail)
        go_wp2
        go_roundg (d.size- (kk+(k2+1)))
        case measure=>omega
        case rel=>exact⟨kc+1,k2+1,q2+nq,dk.setIfInBounds kc u,by go_num,by go_num,by omega,by omega,ai _,zSV enc k HK.out (by omega) W2.out u,by have:=I2.out.keep hlt2 (keeps_pos (by rw[C.out.1,C.out.2];exact huv));rwa [C.out.1]at this⟩
      .have hend:kk+k2=d.size:=by omega
       have hcl:∀ty,(Ag #[ρ.t 22] ty #[.slice (some ⟨blk,off+kc*k,J⟩) (d.size-kc) (cap-kc)]).run P wr=.ok (.tuple #[]) (wr.setCells blk (off+kc*k) (flatK enc k (Aa (d.size-kc) zr)).toList):=
        fun ty=>zWM wr _ _ ty enc k HK.out H1.out zr t22 v23 blk off _ kc (d.size-kc) dk (by omega) (by omega) (hHk 0)
       clear hHk hI
       go_wp2
       go_ret
       have hI:=I2.out;rw[hend]at hI;refine⟨by rw[hI.len];rfl,q2,?_⟩;rw[hI.len,<-hI.done zr,W2.out];unfold putRowK;rw[setCells_putRow _ _ _ _ _ _ (by simp only[Ah,size_flatK,Array.size_replicate];rw[<-bF];exact aq _ (by omega)),zWG enc k dk kc (d.size-kc) zr (by omega)]
    .go_wp2_with fail
     go_quiet_o (fail)
     go_wp2
     go_roundg (d.size- (kk+1))
     case measure=>omega
     case rel=>
      refine⟨kk+1,q+nq,by omega,by omega,ai _,by go_num,by rw[<-hwq,Ae],(show Aside _ from fun j hj=>?_)⟩;by_cases e:j=kk
      .subst e;exact keeps_pos (by rw[B.out.1,B.out.2];exact hdup)
      .exact A.out j (by omega)
   .have:kk=d.size:=by omega
    subst this
    go_wp2
    go_ret
    obtain⟨e1,e2⟩:=HS.out q A.out;exact⟨by rw[e1];rfl,q,e2⟩
end Go.Ve
