/- Conditions: as stated. -/
import Derived.Test.YtlhkojcmcmkmaaaGreatCAlc
namespace Go.Proofs.YtlhkojcmcmkmaaaGreat
open Go.Proofs.Tryz
open Go.RowKit
structure aP(C F:World->Prop) where
 w':World
 h:C w'
 f:F w'
section
variable {P:Program}{ops:Array Oper}{C:World->Prop}
theorem aP.call{F:World->Prop}{f:FuncId}{args:Array Value}{v:Value}(n:gH C)(hF:gH F)(p:aP C F)(h:Calls P f args p.w' fun e w'=>e=.returned v/\Below p.w'.heap.size p.w' w'):
  Calls P f args p.w' fun e j=>e=.returned v/\∃q:aP C F,j=q.w':=
 h.mono fun _ j ⟨r,l⟩=>⟨r,⟨j,n _ _ p.h l,hF _ _ p.f l⟩,rfl⟩
theorem IJ{z:Act}(M:gH C){W:World}(I:C W):∀(l:List Oper) (a:Act),kq a.tmps.size l=true->(∀F:World->Prop,gH F->Inhabited (aP C F)->wpQuiet P ops (fun w'=>∃p:aP C F,w'=p.w') (fun a'=>a'=z) l a)->
  E8 P ops C z (BV z) l a
 |[],a,_,H=>H (fun _=>True) (fun _ _ _ _=>trivial) ⟨⟨W,I,trivial⟩⟩
 |o::l,a,hd,H=>by
  have S:=hd;simp only[kq,aub]at hd;obtain⟨J,N⟩:=hd;obtain⟨d,D⟩:=avC.1 (I2 S o (by simp));rw[D]at J;simp only[aub,auc]at J;have T:=I2 N;have E:∀v,kq (a.put o.dst v).tmps.size l=true:=fun v=>by rw[OC];exact N
  have B:∀(C:World->Prop) (v:Value),wpQuiet P ops C (fun a'=>a'=z) l (a.put o.dst v)->BV z o=v:=fun C v h=>by have y:=Kh (d:=d) l _ J.2 T h;rw[D,Vn J.1]at y;unfold BV;rw[D];simp[y]
  by_cases K:Region.wanted o (yielded ops a.tmps)=true
  ·have G:∀F:World->Prop,gH F->Inhabited (aP C F)->(∀w,(∃p:aP C F,w=p.w')->o.quietAt P a (fun w'=>∃p:aP C F,w'=p.w') w (BV z o))/\wpQuiet P ops (fun w'=>∃p:aP C F,w'=p.w') (fun a'=>a'=z) l (a.put o.dst (BV z o)):=by
    intro F hF j;have h:=H F hF j;unfold wpQuiet at h;rw[atP K]at h;obtain⟨v,y,O⟩:=h;rw[B _ v O];exact⟨y,O⟩
   refine⟨.inl ⟨K,fun w Q=>?_⟩,IJ M I l _ (E _) (fun F hF j=>(G F hF j).2)⟩;have y:=(G (fun w'=>Below w.heap.size w w') (fun w1 w2 R U=>R.trans (U.mono R.size)) ⟨⟨w,Q,atS _ _⟩⟩).1 w ⟨⟨w,Q,atS _ _⟩,rfl⟩;unfold Oper.quietAt at*;generalize (execOp a.eval o).run P w=r at*;cases r with
   |ok n w'=>
    cases n<;>simp only[Oper.quietUpon]at y|-
    case value u=>exact y
    case skip=>exact y
    case enter f args=>exact⟨y.1,y.2.mono fun e V ⟨X,p,Y⟩=>⟨X,by rw[Y];exact⟨p.h,p.f⟩⟩⟩
   |halt x w'=>simp only[Oper.quietUpon]at y
  ·have L:Region.wanted o (yielded ops a.tmps)=false:=(by simpa using K);have G:∀F:World->Prop,gH F->Inhabited (aP C F)->wpQuiet P ops (fun w'=>∃p:aP C F,w'=p.w') (fun a'=>a'=z) l (a.put o.dst undef):=by
    intro F hF j;have h:=H F hF j;unfold wpQuiet at h;rw[atO K]at h;exact h
   have Z:=B _ undef (G (fun _=>True) (fun _ _ _ _=>trivial) ⟨⟨W,I,trivial⟩⟩);rw[E8,Z];exact⟨.inr ⟨L,rfl⟩,IJ M I l _ (E _) G⟩
theorem anw(n:gH C){id:Nat}{Q:Exit->Act->World->Prop}{a aE:Act}{W:World}(u:C W){l r:List Oper}{m:Nat}(z:P.follows .mixedOrders=true)(B:Region.noSelect (l++r).toArray=true)(D:m=r.length)
  (E:Mg .any (l++r).toArray l.length 0 (Array.replicate (l++r).length false)=true) (hd:kq a.tmps.size l=true)
  (H:∀F:World->Prop,gH F->Inhabited (aP C F)->wpQuiet P (l++r).toArray (fun w'=>∃p:aP C F,w'=p.w') (fun a'=>a'=aE) l a)
  (M:cS P .any (l++r).toArray C (fun a w=>Q .normal a w) m (OB l.length 0 (Array.replicate (l++r).length false)) aE W):(Code.region id (l++r).toArray true).wp P Q a W:=by
 refine wp_region_any z ?_;have G:=Zm (md:=.any) B l 0 (Array.replicate (l++r).length false) a (fun j I=>by simp[avk I]) E (IJ n u l a hd H) M;have y:=I1 (Q':=Q) (fun _ _ h=>h) _ _ _ {W with drawn:=W.drawn+1} (n _ _ u (show Below W.heap.size W {W with drawn:=W.drawn+1}from below_drewN (atS _ _) 1)) (Ef G (below_drewN (atS W.heap.size W) 1));have e:m+l.length=(l++r).length:=by rw[D];simp;omega
 rw[e]at y;simpa using y
theorem anx(u:gH C){id:Nat}{Q:Exit->Act->World->Prop}{a aE:Act}{W:World}(y:C W){L:List Oper}(n m:Nat)(z:P.follows .mixedOrders=true)(B:Region.noSelect L.toArray=true)(G:n+m=L.length)
  (D:Mg .any L.toArray n 0 (Array.replicate L.length false)=true) (hd:kq a.tmps.size (L.take n)=true)
  (H:∀F:World->Prop,gH F->Inhabited (aP C F)->wpQuiet P L.toArray (fun w'=>∃p:aP C F,w'=p.w') (fun a'=>a'=aE) (L.take n) a)
  (M:∀j:Act->World->Prop,(∀a w,Q .normal a w->j a w)->cS P .any L.toArray C j m (OB n 0 (Array.replicate L.length false)) aE W):(Code.region id L.toArray true).wp P Q a W:=by
 have e:=avd n L;have el:(L.take n).length=n:=by simp;omega
 have E:m=(L.drop n).length:=by simp;omega
 have h:=anw u (id:=id) (Q:=Q) (a:=a) (aE:=aE) (W:=W) y (l:=L.take n) (r:=L.drop n) (m:=m) z;rw[e,el]at h;exact h B E D hd H (M _ fun _ _ h=>h)
theorem nW{J:Type}{j:J->List Value}{k:Nat}{e:TypeId}{W:World}{base B:Nat}{v:Value}{D ys:List J}{A:Option Addr}{m:Nat}{o:Oper}{a:Act}{K:Act->World->Prop}{i:Nat}(s x:Operand)(t:TypeId)(c bytes:Nat)(z:Value)
  (L:(P.info? e).map (fun i=>(i.zero,i.size,i.bytes))=some (some z,k,bytes)) (M:P.underlying t=some (.slice e))
  (n:Own j k e W base v D) (N:ai j k W B A ys) (O:∀x,(j x).length=k) (Q:0<k) (E:z.cells.size=k) (R:∀y,∀u∈j y,u.oneCell'=true)
  (p:D.length+ys.length<=4294967296) (F:bytes<=1024) (l:base<=W.heap.size)
  (G:ops[i]?=some o) (I:o.guard=none) (S:o.op=.call {callee:=.builtin .append,args:=#[s,x],argTypes:=#[t,t]})
  (T:a.eval s=v) (U:a.eval x=.slice A m c) (V:m=ys.length)
  (h:∀r w',Own j k e w' base r (D++ys)->W.grownBy w' v.ownBlock->K (a.put o.dst r) w'):iW P ops C i K a W:=by
 obtain⟨r,w',X,Y,Z⟩:=adh (P:=P) t o.type c bytes z L M n N O Q E R p F l V;refine bH r w' G (by simp[Region.wanted,I]) ?_ (h r w' Y Z);unfold execOp;simp only[S,resolve,invoke,builtin,Sem.run_bind,Sem.run_pure,Result.andThen_ok,List.map_toArray,auW,List.map_nil,T,U,X]
end
theorem jk(B:Nat)(W:World)(j:B<=W.heap.size):gH (fun w'=>Below B W w'):=fun _ _ e l=>e.trans (l.mono (at7 j e.size))
namespace M3
section
variable {P:Program}{ops:Array Oper}{md:Region.Mode}{C:World->Prop}
def oC(P:Program)(ops:Array Oper)(C:World->Prop)(o:Oper)(v:Value)(a:Act):Prop:=
 (Region.wanted o (yielded ops a.tmps)=true/\∀w,C w->o.quietAt P a (fun e=>C e/\Below w.heap.size w e) w v)\/
 (Region.wanted o (yielded ops a.tmps)=false/\v=undef)
theorem oC.of_same{o:Oper}{v:Value}{a a':Act}(hy:oC P ops C o v a)(e:execOp a'.eval o=execOp a.eval o)
  (j:Region.wanted o (yielded ops a'.tmps)=Region.wanted o (yielded ops a.tmps)):oC P ops C o v a':=by
 unfold oC Oper.quietAt at*;rw[e,j];exact hy
def De(P:Program)(o:Oper)(a:Act)(K:Act->World->Prop):Result Next->Prop
 |.ok (.value v) w'=>K (a.put o.dst v) w'
 |.ok .skip w'=>K (a.put o.dst undef) w'
 |.ok (.enter f args) w'=>Calls P f args w' fun e j=>∃v,e=.returned v/\K (a.put o.dst v) j
 |_=>False
def Gc(P:Program)(ops:Array Oper)(i:Nat)(K:Act->World->Prop)(a:Act)(w:World):Prop:=
 match ops[i]?with
 |none=>K a w
 |some o=>if Region.wanted o (yielded ops a.tmps)then De P o a K ((execOp a.eval o).run P w)else K (a.put o.dst undef) w
def iW(P:Program)(ops:Array Oper)(C:World->Prop)(i:Nat)(K:Act->World->Prop)(a:Act)(w:World):Prop:=
 (∃o v,ops[i]?=some o/\oC P ops C o v a/\∀e,C e->Below w.heap.size w e->K (a.put o.dst v) e)\/Gc P ops i K a w
theorem Kc{i:Nat}{a:Act}{w:World}{K y:Act->World->Prop}(h:∀a w,K a w->y a w)(hh:iW P ops C i K a w):iW P ops C i y a w:=by
 rcases hh with⟨o,v,z,B,D⟩|hh
 ·exact .inl ⟨o,v,z,B,fun j c b=>h _ _ (D j c b)⟩
 ·right;unfold Gc at*;split
  ·rename_i l;simp only[l]at hh;exact h _ _ hh
  ·rename_i o l;simp only[l]at hh;split
   ·rename_i p;simp only[p,aup]at hh;generalize (execOp a.eval o).run P w=r at*;cases r with
    |ok n w'=>
     cases n<;>simp only[De]at hh|-
     case value u=>exact h _ _ hh
     case skip=>exact h _ _ hh
     case enter f args=>exact hh.mono fun e j ⟨v,E,F⟩=>⟨v,E,h _ _ F⟩
    |halt x w'=>simp only[De]at hh
   ·rename_i p;simp only[p]at hh;exact h _ _ hh
theorem Vl{i:Nat}{a:Act}{w:World}{K:Act->World->Prop}{Q:Exit->Act->World->Prop}(z:C w)(hh:iW P ops C i K a w):wpOp P ops Q i K a w:=by
 rcases hh with⟨o,v,I,J,B⟩|hh
 ·unfold wpOp;simp only[I];rcases J with⟨l,hy⟩|⟨l,rfl⟩
  ·simp only[l,aup];left;have p:=hy w z;unfold Oper.quietAt at p;unfold Oper.wp;generalize (execOp a.eval o).run P w=r at*;cases r with
   |ok n w'=>
    cases n<;>simp only[Oper.quietUpon]at p<;>simp only[Oper.upon]
    case value u=>obtain⟨y,D⟩:=p;rw[y,D];exact B _ z (atS _ _)
    case skip=>obtain⟨y,D⟩:=p;rw[y,<-D];exact B _ z (atS _ _)
    case enter f args=>obtain⟨y,L⟩:=p;rw[y];exact L.mono fun e E ⟨F,j⟩=>by subst F;exact B _ j.1 j.2
   |halt x w'=>simp only[Oper.quietUpon]at p
  ·simp only[l,auT,auw];exact B _ z (atS _ _)
 ·unfold Gc at hh;unfold wpOp;split
  ·rename_i G;simp only[G]at hh;exact hh
  ·rename_i o G;simp only[G]at hh;split
   ·rename_i l;simp only[l,aup]at hh;left;unfold Oper.wp;generalize (execOp a.eval o).run P w=r at*;cases r with
    |ok n w'=>
     cases n<;>simp only[De]at hh<;>simp only[Oper.upon]
     case value u=>exact hh
     case skip=>exact hh
     case enter f args=>exact hh.mono fun e E ⟨v,F,M⟩=>by subst F;exact M
    |halt x w'=>simp only[De]at hh
   ·rename_i l;simp only[l]at hh;exact hh
theorem Vm{j:Nat}{l p:Oper}{v:Value}(F:ops[j]?=some p)(G:l.apart ops p=true)
  (M:∀I b,l.op≠.select I b) (y:∀I b,p.op≠.select I b) {K:Act->World->Prop} {a:Act} {w:World}
  (hy:oC P ops C l v a) (h:iW P ops C j K (a.put l.dst v) w):
  iW P ops C j (fun a' w'=>oC P ops C l v a'/\K (a'.put l.dst v) w') a w:=by
 obtain⟨D,z,L⟩:=Oper.apart_spec G;have keep:∀u,oC P ops C l v (a.put p.dst u):=fun u=>hy.of_same (execOp_put l M a p.dst u L) (wanted_put l a p.dst u L);rcases h with⟨o,u,E,N,O⟩|h
 ·rw[F]at E;injection E with E
  subst E;refine .inl ⟨p,u,F,N.of_same (execOp_put p y a l.dst v D).symm (wanted_put p a l.dst v D).symm,fun B c b=>⟨keep u,?_⟩⟩;rw[<-au7 a v u z];exact O B c b
 ·right;unfold Gc at*;simp only[F]at*;rw[wanted_put p a l.dst v D]at h;split
  ·rename_i J;simp only[J,aup]at h;rw[execOp_put p y a l.dst v D]at h;generalize (execOp a.eval p).run P w=r at*;cases r with
   |ok n w'=>
    cases n<;>simp only[De]at h|-
    case value u=>exact⟨keep _,by rw[<-au7 a v _ z];exact h⟩
    case skip=>exact⟨keep _,by rw[<-au7 a v _ z];exact h⟩
    case enter f args=>exact h.mono fun e B ⟨u,Q,R⟩=>⟨u,Q,keep _,by rw[<-au7 a v _ z];exact R⟩
   |halt x w'=>simp only[De]at h
  ·rename_i J;simp only[J]at h;exact⟨keep _,by rw[<-au7 a v undef z];exact h⟩
def cS(P:Program)(md:Region.Mode)(ops:Array Oper)(C:World->Prop)(Q:Act->World->Prop):Nat->Array Bool->Act->World->Prop
 |0,e,a,w=>∀w',C w'->Below w.heap.size w w'->Region.ready md ops e=[]/\Q a w'
 |fuel+1,e,a,w=>∀w',C w'->Below w.heap.size w w'->
  (Region.ready md ops e=[]->Q a w')/\
  ∀i∈Region.ready md ops e,iW P ops C i (fun l j=>C j/\cS P md ops C Q fuel (e.setIfInBounds i true) l j) a w'
theorem Ef{Q:Act->World->Prop}:∀{n:Nat} {e:Array Bool} {a:Act} {w l:World},cS P md ops C Q n e a w->Below w.heap.size w l->cS P md ops C Q n e a l
 |0,_,_,_,_,h,j=>fun w' c b=>h w' c (j.trans (b.mono j.size))
 |_+1,_,_,_,_,h,j=>fun w' c b=>h w' c (j.trans (b.mono j.size))
theorem I1{Q:Act->World->Prop}{Q':Exit->Act->World->Prop}(l:∀a w,Q a w->Q' .normal a w):∀(fuel:Nat) (e:Array Bool) (a:Act) (w:World),C w->cS P md ops C Q fuel e a w->wpAny P md ops Q' fuel e a w
 |0,_,_,w,j,h=>⟨(h w j (atS _ _)).1,l _ _ (h w j (atS _ _)).2⟩
 |fuel+1,_,_,w,j,h=>⟨fun p=>l _ _ ((h w j (atS _ _)).1 p),fun i hi=>Vl j (Kc (fun a' w' n=>I1 l fuel _ a' w' n.1 n.2) ((h w j (atS _ _)).2 i hi))⟩
theorem Oz{Q:Act->World->Prop}{i:Nat}{r:Oper}{v:Value}(hi:ops[i]?=some r)(O:∀(j:Nat) (o:Oper) D b,ops[j]?=some o->o.op≠.select D b):
  ∀(n:Nat) (l:Array Bool) (a:Act) (w:World),
   (∀j y,ops[j]?=some y->j≠i->l.getD j true=false->(∀e∈y.after,Region.binds md e=true->e.on≠i)->r.apart ops y=true)->
   i∈Region.ready md ops l->oC P ops C r v a->
   cS P md ops C Q n (l.setIfInBounds i true) (a.put r.dst v) w->cS P md ops C Q (n+1) l a w:=by
 intro n
 induction n with
 |zero=>
  intro l a w _ z hy H w' I p;refine⟨fun h=>(by rw[h]at z;cases z),fun j G=>?_⟩;by_cases u:j=i
  ·subst u;exact .inl ⟨r,v,hi,hy,fun J c b=>⟨c,Ef H (p.trans (b.mono p.size))⟩⟩
  ·have:=ready_mono G u;rw[(H w' I p).1]at this;cases this
 |succ n V=>
  intro l a w R z hy H w' I p;refine⟨fun h=>(by rw[h]at z;cases z),fun j G=>?_⟩;by_cases u:j=i
  ·subst u;exact .inl ⟨r,v,hi,hy,fun J c b=>⟨c,Ef H (p.trans (b.mono p.size))⟩⟩
  ·have B:=(H w' I p).2 j (ready_mono G u);obtain⟨S,y,K,E⟩:=mem_ready.1 G;have X:∀e∈y.after,Region.binds md e=true->e.on≠i:=fun e Y p L=>by
    have B:=E e Y p;have T:=(mem_ready.1 z).1;rw[L]at B;rcases at6 i l.size with h'|h'
    ·simp[h']at T B;rw[T]at B;cases B
    ·simp[avf h']at B
   have Z:=Vm K (R j y K u S X) (fun D b=>O i r D b hi) (fun D b=>O j y D b K) hy B;have Rf:∀k ok,ops[k]?=some ok->k≠i->(l.setIfInBounds j true).getD k true=false->
     (∀e∈ok.after,Region.binds md e=true->e.on≠i)->r.apart ops ok=true:=fun k ok hk fL U M=>by
    refine R k ok hk fL ?_ M;by_cases F:j=k
    ·subst F;exact S
    ·rw[getD_set_ne true F]at U;exact U
   refine Kc (fun a' w1 N=>⟨N.2.1,V (l.setIfInBounds j true) a' w1 Rf (ready_mono z (Ne.symm u)) N.1 ?_⟩) Z;rw[Array.setIfInBounds_comm _ _ u];exact N.2.2
def CD(md:Region.Mode)(ops:Array Oper):List Nat->Array Bool->Bool
 |[],_=>true
 |k::r,e=>(Region.ready md ops e).contains k&&Region.free md ops e k&&CD md ops r (e.setIfInBounds k true)
def mq:List Nat->Array Bool->Array Bool
 |[],e=>e
 |k::r,e=>mq r (e.setIfInBounds k true)
def E8(P:Program)(ops:Array Oper)(C:World->Prop)(e:Act)(val:Oper->Value):List Oper->Act->Prop
 |[],a=>a=e
 |o::r,a=>oC P ops C o (val o) a/\E8 P ops C e val r (a.put o.dst (val o))
def cL(ops:Array Oper):List Nat->List Oper
 |[]=>[]
 |k::r=>match ops[k]?with
  |some o=>o::cL ops r
  |none=>[]
theorem NN{Q:Act->World->Prop}{u:Act}{val:Oper->Value}(y:Region.noSelect ops=true){m:Nat}{w:World}:∀(j:List Nat) (e:Array Bool) (a:Act),j.all (fun i=>decide (i<ops.size))=true->
  CD md ops j e=true->E8 P ops C u val (cL ops j) a->cS P md ops C Q m (mq j e) u w->cS P md ops C Q (m+j.length) e a w
 |[],_,_,_,_,h,n=>by cases h;exact n
 |k::r,e,a,l,z,h,n=>by
  simp only[List.all_cons,aub,auc]at l;have p:ops[k]?=some (ops[k]'l.1):=au8 l.1
  simp only[CD,aub]at z;obtain⟨⟨B,D⟩,E⟩:=z;simp only[cL,p]at h;exact Oz p (Region.noSelect_spec y) (m+r.length) e a w (Region.free_spec p D) (by simpa using B) h.1
   (NN y r _ _ l.2 E h.2 n)
end
def BV(e:Act)(o:Oper):Value:=(o.dst.bind (e.tmps[·]?)).getD undef
def kq(n:Nat):List Oper->Bool
 |[]=>true
 |o::r=>(match o.dst with|some d=>decide (d<n)&&r.all (fun e=>e.dst !=some d)|none=>false)&&kq n r
section
variable {P:Program}{ops:Array Oper}
theorem Rh{a:Act}{d e:Nat}{v:Value}(h:e≠d):(a.put (some e) v).tmps[d]?=a.tmps[d]?:=by show(a.tmps.setIfInBounds e v)[d]?=_;rw[Array.getElem?_setIfInBounds_ne h]
theorem Vn{a:Act}{d:Nat}{v:Value}(h:d<a.tmps.size):(a.put (some d) v).tmps[d]?=some v:=by show(a.tmps.setIfInBounds d v)[d]?=_;rw[Array.getElem?_setIfInBounds_self_of_lt h]
theorem OC(a:Act)(d:Option Nat)(v:Value):(a.put d v).tmps.size=a.tmps.size:=by
 cases d with
 |none=>rfl
 |some d=>show(a.tmps.setIfInBounds d v).size=_;simp
theorem Kh{C:World->Prop}{j:Act}{d:Nat}:∀(l:List Oper) (a:Act),l.all (fun y=>y.dst !=some d)=true->(∀o∈l,o.dst≠none)->wpQuiet P ops C (fun a'=>a'=j) l a->j.tmps[d]?=a.tmps[d]?
 |[],a,_,_,h=>by rw[show a=j from h]
 |o::l,a,hd,n,h=>by
  simp only[List.all_cons,aub,bne_iff_ne,ne_eq]at hd;obtain⟨e,p⟩:=avC.1 (n o (by simp));have u:e≠d:=fun x=>hd.1 (by rw[p,x]);unfold wpQuiet at h;split at h
  ·obtain⟨v,_,z⟩:=h;rw[Kh l _ hd.2 (fun o r=>n o (by simp[r])) z,p,Rh u]
  ·rw[Kh l _ hd.2 (fun o r=>n o (by simp[r])) h,p,Rh u]
theorem I2{n:Nat}:∀{l:List Oper},kq n l=true->∀o∈l,o.dst≠none
 |[],_,o,j=>by cases j
 |x::r,h,o,j=>by
  simp only[kq,aub]at h;rcases auf.1 j with e|e
  ·subst e;intro p;rw[p]at h;cases h.1
  ·exact I2 h.2 o e
theorem bQ{md:Region.Mode}{C:World->Prop}{Q:Act->World->Prop}{n:Nat}{j:Array Bool}{a:Act}{w:World}(l:List Nat)(u:Region.ready md ops j=l)(p:l≠[])
  (h:∀w',C w'->Below w.heap.size w w'->∀i∈l,iW P ops C i (fun y r=>C r/\cS P md ops C Q n (j.setIfInBounds i true) y r) a w'):cS P md ops C Q (n+1) j a w:=by
 subst u;exact fun w' c b=>⟨fun e=>absurd e p,h w' c b⟩
theorem kI{md:Region.Mode}{C:World->Prop}{Q:Act->World->Prop}{e:Array Bool}{a:Act}{w:World}(j:Region.ready md ops e=[])(h:∀w',C w'->Below w.heap.size w w'->Q a w'):cS P md ops C Q 0 e a w:=
 fun w' c b=>⟨j,h w' c b⟩
theorem OD{C:World->Prop}{i:Nat}{o:Oper}{K:Act->World->Prop}{a:Act}{w:World}(e:ops[i]?=some o)(j:Region.wanted o (yielded ops a.tmps)=true)(h:De P o a K ((execOp a.eval o).run P w)):iW P ops C i K a w:=by right;unfold Gc;simp only[e,j,aup];exact h
theorem bH{C:World->Prop}{i:Nat}{o:Oper}{K:Act->World->Prop}{a:Act}{w:World}(v:Value)(j:World)(l:ops[i]?=some o)(n:Region.wanted o (yielded ops a.tmps)=true)(e:(execOp a.eval o).run P w=.ok (.value v) j)(h:K (a.put o.dst v) j):iW P ops C i K a w:=
 OD l n (by rw[e];exact h)
theorem fw{C:World->Prop}{i:Nat}{o:Oper}{K:Act->World->Prop}{a:Act}{w:World}(j:World)(l:ops[i]?=some o)(n:Region.wanted o (yielded ops a.tmps)=true)(e:(execOp a.eval o).run P w=.ok .skip j)(h:K (a.put o.dst undef) j):iW P ops C i K a w:=
 OD l n (by rw[e];exact h)
end
section
variable {P:Program}{ops:Array Oper}{C:World->Prop}
theorem IJ{z:Act}(M:gH C){W:World}(I:C W):∀(l:List Oper) (a:Act),kq a.tmps.size l=true->(∀F:World->Prop,gH F->Inhabited (aP C F)->wpQuiet P ops (fun w'=>∃p:aP C F,w'=p.w') (fun a'=>a'=z) l a)->
  E8 P ops C z (BV z) l a
 |[],a,_,H=>H (fun _=>True) (fun _ _ _ _=>trivial) ⟨⟨W,I,trivial⟩⟩
 |o::l,a,hd,H=>by
  have S:=hd;simp only[kq,aub]at hd;obtain⟨J,N⟩:=hd;obtain⟨d,D⟩:=avC.1 (I2 S o (by simp));rw[D]at J;simp only[aub,auc]at J;have T:=I2 N;have E:∀v,kq (a.put o.dst v).tmps.size l=true:=fun v=>by rw[OC];exact N
  have B:∀(C:World->Prop) (v:Value),wpQuiet P ops C (fun a'=>a'=z) l (a.put o.dst v)->BV z o=v:=fun C v h=>by have y:=Kh (d:=d) l _ J.2 T h;rw[D,Vn J.1]at y;unfold BV;rw[D];simp[y]
  by_cases K:Region.wanted o (yielded ops a.tmps)=true
  ·have G:∀F:World->Prop,gH F->Inhabited (aP C F)->(∀w,(∃p:aP C F,w=p.w')->o.quietAt P a (fun w'=>∃p:aP C F,w'=p.w') w (BV z o))/\wpQuiet P ops (fun w'=>∃p:aP C F,w'=p.w') (fun a'=>a'=z) l (a.put o.dst (BV z o)):=by
    intro F hF j;have h:=H F hF j;unfold wpQuiet at h;rw[atP K]at h;obtain⟨v,y,O⟩:=h;rw[B _ v O];exact⟨y,O⟩
   refine⟨.inl ⟨K,fun w Q=>?_⟩,IJ M I l _ (E _) (fun F hF j=>(G F hF j).2)⟩;have y:=(G (fun w'=>Below w.heap.size w w') (fun w1 w2 R U=>R.trans (U.mono R.size)) ⟨⟨w,Q,atS _ _⟩⟩).1 w ⟨⟨w,Q,atS _ _⟩,rfl⟩;unfold Oper.quietAt at*;generalize (execOp a.eval o).run P w=r at*;cases r with
   |ok n w'=>
    cases n<;>simp only[Oper.quietUpon]at y|-
    case value u=>exact y
    case skip=>exact y
    case enter f args=>exact⟨y.1,y.2.mono fun e V ⟨X,p,Y⟩=>⟨X,by rw[Y];exact⟨p.h,p.f⟩⟩⟩
   |halt x w'=>simp only[Oper.quietUpon]at y
  ·have L:Region.wanted o (yielded ops a.tmps)=false:=(by simpa using K);have G:∀F:World->Prop,gH F->Inhabited (aP C F)->wpQuiet P ops (fun w'=>∃p:aP C F,w'=p.w') (fun a'=>a'=z) l (a.put o.dst undef):=by
    intro F hF j;have h:=H F hF j;unfold wpQuiet at h;rw[atO K]at h;exact h
   have Z:=B _ undef (G (fun _=>True) (fun _ _ _ _=>trivial) ⟨⟨W,I,trivial⟩⟩);rw[E8,Z];exact⟨.inr ⟨L,rfl⟩,IJ M I l _ (E _) G⟩
theorem iN(j:gH C){id:Nat}{Q:Exit->Act->World->Prop}{a aE:Act}{W:World}(l:C W){L:List Oper}(e:List Nat)(m:Nat)(u:P.follows .mixedOrders=true)(y:Region.noSelect L.toArray=true)(z:m+e.length=L.length)
  (hi:e.all (fun i=>decide (i<L.toArray.size))=true) (B:CD .any L.toArray e (Array.replicate L.length false)=true) (hd:kq a.tmps.size (cL L.toArray e)=true)
  (H:∀F:World->Prop,gH F->Inhabited (aP C F)->wpQuiet P L.toArray (fun w'=>∃p:aP C F,w'=p.w') (fun a'=>a'=aE) (cL L.toArray e) a)
  (M:∀n:Act->World->Prop,(∀a w,Q .normal a w->n a w)->cS P .any L.toArray C n m (mq e (Array.replicate L.length false)) aE W):(Code.region id L.toArray true).wp P Q a W:=by
 refine wp_region_any u ?_;have D:=NN (md:=.any) y e (Array.replicate L.length false) a hi B (IJ j l _ a hd H) (M _ fun _ _ h=>h);have r:=I1 (Q':=Q) (fun _ _ h=>h) _ _ _ {W with drawn:=W.drawn+1} (j _ _ l (show Below W.heap.size W {W with drawn:=W.drawn+1}from below_drewN (atS _ _) 1)) (Ef D (below_drewN (atS W.heap.size W) 1));rw[z]at r;simpa using r
theorem iY{i:Nat}{o:Oper}{K:Act->World->Prop}{a:Act}{w:World}(f:FuncId)(args:Array Value)(n:ops[i]?=some o)(p:Region.wanted o (yielded ops a.tmps)=true)(j:(execOp a.eval o).run P w=.ok (.enter f args) w)
  (h:Calls P f args w fun e l=>∃v,e=.returned v/\K (a.put o.dst v) l):iW P ops C i K a w:=
 OD n p (by rw[j];exact h)
theorem nW{J:Type}{j:J->List Value}{k:Nat}{e:TypeId}{W:World}{base B:Nat}{v:Value}{D ys:List J}{A:Option Addr}{m:Nat}{o:Oper}{a:Act}{K:Act->World->Prop}{i:Nat}(s x:Operand)(t:TypeId)(c bytes:Nat)(z:Value)
  (L:(P.info? e).map (fun i=>(i.zero,i.size,i.bytes))=some (some z,k,bytes)) (M:P.underlying t=some (.slice e))
  (n:Own j k e W base v D) (N:ai j k W B A ys) (O:∀x,(j x).length=k) (Q:0<k) (E:z.cells.size=k) (R:∀y,∀u∈j y,u.oneCell'=true)
  (p:D.length+ys.length<=4294967296) (F:bytes<=1024) (l:base<=W.heap.size)
  (G:ops[i]?=some o) (I:o.guard=none) (S:o.op=.call {callee:=.builtin .append,args:=#[s,x],argTypes:=#[t,t]})
  (T:a.eval s=v) (U:a.eval x=.slice A m c) (V:m=ys.length)
  (h:∀r w',Own j k e w' base r (D++ys)->W.grownBy w' v.ownBlock->K (a.put o.dst r) w'):iW P ops C i K a W:=by
 obtain⟨r,w',X,Y,Z⟩:=adh (P:=P) t o.type c bytes z L M n N O Q E R p F l V;refine bH r w' G (by simp[Region.wanted,I]) ?_ (h r w' Y Z);unfold execOp;simp only[S,resolve,invoke,builtin,Sem.run_bind,Sem.run_pure,Result.andThen_ok,List.map_toArray,auW,List.map_nil,T,U,X]
end
end M3
