/- law16 -/
import Derived.Deep.AppendLies
import Derived.OwnWalk
set_option linter.unusedVariables false
open Option renaming some->Sa
namespace Go.Bd
open Go
variable {P:Program}{w:World}
theorem zVU(x:Nat)(t ty e:TypeId)(i:TypeInfo)(z:Value)(size bytes:Nat)(D:P.underlying t=Sa (.slice e))(hi:P.info? e=Sa i)(I:i.zero=Sa z)
  (p:i.size=size) (E:i.bytes=bytes)
  (v:Value) (n:Nat) (xs:List Value) (f:w.ownsRow x e size v n xs)
  (a:Addr) (m c:Nat) (zBk:List Value) (B:zBk.length=m*size) (d:∀j u,zBk[j]?=Sa u->w.cell? (a.add j)=Sa u) (J:∀u∈zBk,u.oneCell'=true)
  (S:0<m) (K:n+m<=maxLen) (l:(n+m)*bytes<=0x800000000000) {L:Value} {w':World}
  (F:(Builtin.append_ #[t,t] ty #[v,.slice (Sa a) m c]).run P w=.ok L w'):w.drawn<=w'.drawn:=by
 subst p;subst E;have C:n+m<=0x7fffffffffffffff:=by grind[maxLen]
 rcases f.2 with⟨rfl,rfl⟩|⟨g,q,y,rfl,M,N,O,Q,G,H⟩
 .have h:=run_append_nil (P:=P) w t ty e i z D hi I a m c zBk B d (by omega) (by omega) (by grind);rw[F]at h;simp_all
 .by_cases k:n+m<=q
  .have A:n*i.size+zBk.length<=y.size:=by rw[B,G,<-Nat.add_mul];exact Nat.mul_le_mul_right _ k
   have h:=run_append_room (P:=P) w t ty e i D hi g n q y N a m c zBk B d J k A;rw[F]at h;simp_all
  .have r:∀j u,xs[j]?=Sa u->w.cell? ((⟨g,0,none⟩:Addr).add j)=Sa u:=f.cells (g:=g) rfl;have h:=run_append_grow (P:=P) w t ty e i z D hi I ⟨g,0,none⟩ n q xs f.1 r a m c zBk B d (by omega) (by omega) (growslice_fits (by omega) l);rw[F]at h;simp_all
variable {j:Act->World->Prop}{i:Exit->Act->World->Prop}{g:Oper}
theorem zPu{a:Act}(s x:Operand)(t:TypeId)(L:g.op=.call { callee:=.builtin .append,args:= #[s,x],argTypes:= #[t,t] })(d:Nat)(e:TypeId)(Q:TypeInfo)(z:Value)(size bytes:Nat)(D:P.underlying t=Sa (.slice e))(hi:P.info? e=Sa Q)(E:Q.zero=Sa z)(k:Q.size=size)(r:Q.bytes=bytes)(B:z.cells.size=size)(C:0<size)(v:Value)(n:Nat)(xs:List Value)(M:a.eval s=v)(p:w.ownsRow d e size v n xs)(A:Addr)(m c:Nat)(zBk:List Value)(N:a.eval x=.slice (Sa A) m c)(F:zBk.length=m*size)(l:∀K u,zBk[K]?=Sa u->w.cell? (A.add K)=Sa u)(G:∀u∈zBk,u.oneCell'=true)(I:0<m)(y:n+m<=maxLen)(f:(n+m)*bytes<=0x800000000000)(q:d<=w.heap.size)(H:Nat)(O:w.heap.size=H)(h:∀o cap w',w'.ownsRow d e size (.slice (Sa ⟨o,0,none⟩) (n+m) cap) (n+m) (xs++zBk)->w.grownBy w' v.ownBlock/\w.drawn<=w'.drawn->(v.ownBlock=Sa o\/o=H)->o<w'.heap.size->j (a.put g.dst (.slice (Sa ⟨o,0,none⟩) (n+m) cap)) w'):g.wp P a w j i:=by
 obtain⟨o,cap,w',J,S,W,Y,Z⟩:=run_append_lies (P:=P) w t g.type d e Q z size bytes D hi E k r B C v n xs p A m c zBk F l G I y f q H O;have hd:=zVU d t g.type e Q z size bytes D hi E k r v n xs p A m c zBk F l G I y f J;unfold Oper.wp execOp;simp[L,resolve,invoke,builtin,M,N,J];exact h o cap w' S ⟨W,hd⟩ Y Z
theorem wpList_append_d{ops:Array Oper}{rest:List Oper}{a:Act}(r:g.guard=none)(s x:Operand)(t:TypeId)(E:g.op=.call { callee:=.builtin .append,args:= #[s,x],argTypes:= #[t,t] })(d:Nat)(e:TypeId)(Q:TypeInfo)(z:Value)(size bytes:Nat)(F:P.underlying t=Sa (.slice e))(hi:P.info? e=Sa Q)(G:Q.zero=Sa z)(k:Q.size=size)(y:Q.bytes=bytes)(A:z.cells.size=size)(B:0<size)(v:Value)(n:Nat)(xs:List Value)(I:a.eval s=v)(q:w.ownsRow d e size v n xs)(C:Addr)(m c:Nat)(zBk:List Value)(J:a.eval x=.slice (Sa C) m c)(K:zBk.length=m*size)(l:∀j u,zBk[j]?=Sa u->w.cell? (C.add j)=Sa u)(L:∀u∈zBk,u.oneCell'=true)(M:0<m)(D:n+m<=maxLen)(f:(n+m)*bytes<=0x800000000000)(p:d<=w.heap.size)(H:Nat)(N:w.heap.size=H)(h:∀o cap w',w'.ownsRow d e size (.slice (Sa ⟨o,0,none⟩) (n+m) cap) (n+m) (xs++zBk)->w.grownBy w' v.ownBlock/\w.drawn<=w'.drawn->(v.ownBlock=Sa o\/o=H)->o<w'.heap.size->wpList P ops i rest (a.put g.dst (.slice (Sa ⟨o,0,none⟩) (n+m) cap)) w'):wpList P ops i (g::rest) a w:=
 wpList_plain r fun _ O=>zPu s x t E d e Q z size bytes F hi G k y A B v n xs I q C m c zBk J K l L M D f p H N fun o cap w' S W Y Z=>O _ _ (h o cap w' S W Y Z)
theorem step_append_d{ops:Array Oper}{a:Act}{E:Prop}(r:g.guard=none)(s x:Operand)(t:TypeId)(F:g.op=.call { callee:=.builtin .append,args:= #[s,x],argTypes:= #[t,t] })(d:Nat)(e:TypeId)(Q:TypeInfo)(z:Value)(size bytes:Nat)(G:P.underlying t=Sa (.slice e))(hi:P.info? e=Sa Q)(I:Q.zero=Sa z)(k:Q.size=size)(y:Q.bytes=bytes)(A:z.cells.size=size)(B:0<size)(v:Value)(n:Nat)(xs:List Value)(J:a.eval s=v)(q:w.ownsRow d e size v n xs)(C:Addr)(m c:Nat)(zBk:List Value)(L:a.eval x=.slice (Sa C) m c)(M:zBk.length=m*size)(l:∀K u,zBk[K]?=Sa u->w.cell? (C.add K)=Sa u)(N:∀u∈zBk,u.oneCell'=true)(O:0<m)(D:n+m<=maxLen)(f:(n+m)*bytes<=0x800000000000)(p:d<=w.heap.size)(H:Nat)(S:w.heap.size=H)(h:∀o cap w',w'.ownsRow d e size (.slice (Sa ⟨o,0,none⟩) (n+m) cap) (n+m) (xs++zBk)->w.grownBy w' v.ownBlock/\w.drawn<=w'.drawn->(v.ownBlock=Sa o\/o=H)->o<w'.heap.size->j (a.put g.dst (.slice (Sa ⟨o,0,none⟩) (n+m) cap)) w'):
  if Region.wanted g (yielded ops a.tmps)=true then Oper.wp P g a w j i else E:=by
 have W:Region.wanted g (yielded ops a.tmps)=true:=by simp[Region.wanted,r]
 rw[if_pos W];exact zPu s x t F d e Q z size bytes G hi I k y A B v n xs J q C m c zBk L M l N O D f p H S h
end Go.Bd
