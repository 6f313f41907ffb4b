/- Conditions: as stated. -/
import Derived.Test.YtlhkojcmcmkmaaaGreatSAlc
namespace Go.Proofs.YtlhkojcmcmkmaaaGreat
open Go.Proofs.Tryz
open Go.RowKit
structure aP(C F:World->Prop) where
 w':World
 h:C w'
 f:F w'
section
variable {P:Program}{ops:Array Oper}{C:World->Prop}
theorem aP.call{F:World->Prop}{f:FuncId}{args:Array Value}{v:Value}(n:gu C)(hF:gu F)(p:aP C F)(h:Calls P f args p.w' fun e w'=>e=.returned v/\Below p.w'.heap.size p.w' w'):
  Calls P f args p.w' fun e j=>e=.returned v/\∃q:aP C F,j=q.w':=
 h.mono fun _ j ⟨r,l⟩=>⟨r,⟨j,n _ _ p.h l,hF _ _ p.f l⟩,rfl⟩
theorem GL{aE:Act}(L:gu C){W:World}(G:C W):∀(l:List Oper) (a:Act),kj a.tmps.size l=true->(∀F:World->Prop,gu F->Inhabited (aP C F)->wpQuiet P ops (fun w'=>∃p:aP C F,w'=p.w') (fun a'=>a'=aE) l a)->
  EZ P ops C aE (BX aE) l a
 |[],a,_,H=>H (fun _=>True) (fun _ _ _ _=>trivial) ⟨⟨W,G,trivial⟩⟩
 |o::l,a,hd,H=>by
  have R:=hd;simp only[kj,ar5]at hd;obtain⟨I,M⟩:=hd;obtain⟨d,B⟩:=atv.1 (IA R o (by simp));rw[B]at I;simp only[ar5,ar7]at I;have S:=IA M;have D:∀v,kj (a.put o.dst v).tmps.size l=true:=fun v=>by rw[NY];exact M
  have z:∀(C:World->Prop) (v:Value),wpQuiet P ops C (fun a'=>a'=aE) l (a.put o.dst v)->BX aE o=v:=fun C v h=>by have y:=J2 (d:=d) l _ I.2 S h;rw[B,Ux I.1]at y;unfold BX;rw[B];simp[y]
  by_cases J:Region.wanted o (yielded ops a.tmps)=true
  ·have E:∀F:World->Prop,gu F->Inhabited (aP C F)->(∀w,(∃p:aP C F,w=p.w')->o.quietAt P a (fun w'=>∃p:aP C F,w'=p.w') w (BX aE o))/\wpQuiet P ops (fun w'=>∃p:aP C F,w'=p.w') (fun a'=>a'=aE) l (a.put o.dst (BX aE o)):=by
    intro F hF j;have h:=H F hF j;unfold wpQuiet at h;rw[arK J]at h;obtain⟨v,y,N⟩:=h;rw[z _ v N];exact⟨y,N⟩
   refine⟨.inl ⟨J,fun w O=>?_⟩,GL L G l _ (D _) (fun F hF j=>(E F hF j).2)⟩;have y:=(E (fun w'=>Below w.heap.size w w') (fun Z w2 Q T=>Q.trans (T.mono Q.size)) ⟨⟨w,O,arM _ _⟩⟩).1 w ⟨⟨w,O,arM _ _⟩,rfl⟩;unfold Oper.quietAt at*;generalize (execOp a.eval o).run P w=r at*;cases r with
   |ok n w'=>
    cases n<;>simp only[Oper.quietUpon]at y|-
    case value u=>exact y
    case skip=>exact y
    case enter f args=>exact⟨y.1,y.2.mono fun e U ⟨V,p,X⟩=>⟨V,by rw[X];exact⟨p.h,p.f⟩⟩⟩
   |halt x w'=>simp only[Oper.quietUpon]at y
  ·have K:Region.wanted o (yielded ops a.tmps)=false:=(by simpa using J);have E:∀F:World->Prop,gu F->Inhabited (aP C F)->wpQuiet P ops (fun w'=>∃p:aP C F,w'=p.w') (fun a'=>a'=aE) l (a.put o.dst undef):=by
    intro F hF j;have h:=H F hF j;unfold wpQuiet at h;rw[arJ J]at h;exact h
   have Y:=z _ undef (E (fun _=>True) (fun _ _ _ _=>trivial) ⟨⟨W,G,trivial⟩⟩);rw[EZ,Y];exact⟨.inr ⟨K,rfl⟩,GL L G l _ (D _) E⟩
theorem amB(n:gu C){id:Nat}{Q:Exit->Act->World->Prop}{a aE:Act}{W:World}(u:C W){l r:List Oper}{m:Nat}(z:P.follows .mixedOrders=true)(B:Region.noSelect (l++r).toArray=true)(D:m=r.length)
  (E:LQ .any (l++r).toArray l.length 0 (Array.replicate (l++r).length false)=true) (hd:kj a.tmps.size l=true)
  (H:∀F:World->Prop,gu F->Inhabited (aP C F)->wpQuiet P (l++r).toArray (fun w'=>∃p:aP C F,w'=p.w') (fun a'=>a'=aE) l a)
  (M:cM P .any (l++r).toArray C (fun a w=>Q .normal a w) m (NX l.length 0 (Array.replicate (l++r).length false)) aE W):(Code.region id (l++r).toArray true).wp P Q a W:=by
 refine wp_region_any z ?_;have G:=Ym (md:=.any) B l 0 (Array.replicate (l++r).length false) a (fun j I=>by simp[ati I]) E (GL n u l a hd H) M;have y:=Iz (Q':=Q) (fun _ _ h=>h) _ _ _ {W with drawn:=W.drawn+1} (n _ _ u (show Below W.heap.size W {W with drawn:=W.drawn+1}from below_drewN (arM _ _) 1)) (Ea G (below_drewN (arM W.heap.size W) 1));have e:m+l.length=(l++r).length:=by rw[D];simp;omega
 rw[e]at y;simpa using y
theorem amC(u:gu C){id:Nat}{Q:Exit->Act->World->Prop}{a aE:Act}{W:World}(y:C W){L:List Oper}(n m:Nat)(z:P.follows .mixedOrders=true)(B:Region.noSelect L.toArray=true)(G:n+m=L.length)
  (D:LQ .any L.toArray n 0 (Array.replicate L.length false)=true) (hd:kj a.tmps.size (L.take n)=true)
  (H:∀F:World->Prop,gu F->Inhabited (aP C F)->wpQuiet P L.toArray (fun w'=>∃p:aP C F,w'=p.w') (fun a'=>a'=aE) (L.take n) a)
  (M:∀j:Act->World->Prop,(∀a w,Q .normal a w->j a w)->cM P .any L.toArray C j m (NX n 0 (Array.replicate L.length false)) aE W):(Code.region id L.toArray true).wp P Q a W:=by
 have e:=atn n L;have el:(L.take n).length=n:=by simp;omega
 have E:m=(L.drop n).length:=by simp;omega
 have h:=amB u (id:=id) (Q:=Q) (a:=a) (aE:=aE) (W:=W) y (l:=L.take n) (r:=L.drop n) (m:=m) z;rw[e,el]at h;exact h B E D hd H (M _ fun _ _ h=>h)
theorem oq{L:Type}{j:L->List Value}{k:Nat}{e:TypeId}{W:World}{base B:Nat}{v:Value}{E D:List L}{A:Option Addr}{m:Nat}{o:Oper}{a:Act}{K:Act->World->Prop}{i:Nat}(s x:Operand)(t:TypeId)(c bytes:Nat)(z:Value)
  (M:(P.info? e).map (fun i=>(i.zero,i.size,i.bytes))=some (some z,k,bytes)) (N:P.underlying t=some (.slice e))
  (n:Own j k e W base v E) (O:aj j k W B A D) (Q:∀x,(j x).length=k) (R:0<k) (F:z.cells.size=k) (S:∀y,∀u∈j y,u.oneCell'=true)
  (p:E.length+D.length<=4294967296) (G:bytes<=1024) (l:base<=W.heap.size)
  (I:ops[i]?=some o) (J:o.guard=none) (T:o.op=.call {callee:=.builtin .append,args:=#[s,x],argTypes:=#[t,t]})
  (U:a.eval s=v) (V:a.eval x=.slice A m c) (X:m=D.length)
  (h:∀r w',Own j k e w' base r (E++D)->W.grownBy w' v.ownBlock->K (a.put o.dst r) w'):iJ P ops C i K a W:=by
 obtain⟨r,w',Y,Z,h3⟩:=ab8 (P:=P) t o.type c bytes z M N n O Q R F S p G l X;refine bw r w' I (by simp[Region.wanted,J]) ?_ (h r w' Z h3);unfold execOp;simp only[T,resolve,invoke,builtin,Sem.run_bind,as6,ata,List.map_toArray,asS,List.map_nil,U,V,Y]
end
theorem iM(B:Nat)(W:World)(j:B<=W.heap.size):gu (fun w'=>Below B W w'):=fun _ _ e l=>e.trans (l.mono (ar0 j e.size))
namespace M3
section
variable {P:Program}{ops:Array Oper}{md:Region.Mode}{C:World->Prop}
def nY(P:Program)(ops:Array Oper)(C:World->Prop)(o:Oper)(v:Value)(a:Act):Prop:=
 (Region.wanted o (yielded ops a.tmps)=true/\∀w,C w->o.quietAt P a (fun e=>C e/\Below w.heap.size w e) w v)\/
 (Region.wanted o (yielded ops a.tmps)=false/\v=undef)
theorem nY.of_same{o:Oper}{v:Value}{a a':Act}(hy:nY P ops C o v a)(e:execOp a'.eval o=execOp a.eval o)
  (j:Region.wanted o (yielded ops a'.tmps)=Region.wanted o (yielded ops a.tmps)):nY P ops C o v a':=by
 unfold nY Oper.quietAt at*;rw[e,j];exact hy
def C6(P:Program)(o:Oper)(a:Act)(K:Act->World->Prop):Result Next->Prop
 |.ok (.value v) w'=>K (a.put o.dst v) w'
 |.ok .skip w'=>K (a.put o.dst undef) w'
 |.ok (.enter f args) w'=>Calls P f args w' fun e j=>∃v,e=.returned v/\K (a.put o.dst v) j
 |_=>False
def F3(P:Program)(ops:Array Oper)(i:Nat)(K:Act->World->Prop)(a:Act)(w:World):Prop:=
 match ops[i]?with
 |none=>K a w
 |some o=>if Region.wanted o (yielded ops a.tmps)then C6 P o a K ((execOp a.eval o).run P w)else K (a.put o.dst undef) w
def iJ(P:Program)(ops:Array Oper)(C:World->Prop)(i:Nat)(K:Act->World->Prop)(a:Act)(w:World):Prop:=
 (∃o v,ops[i]?=some o/\nY P ops C o v a/\∀e,C e->Below w.heap.size w e->K (a.put o.dst v) e)\/F3 P ops i K a w
theorem JW{i:Nat}{a:Act}{w:World}{K y:Act->World->Prop}(h:∀a w,K a w->y a w)(hh:iJ P ops C i K a w):iJ P ops C i y a w:=by
 rcases hh with⟨o,v,z,B,D⟩|hh
 ·exact .inl ⟨o,v,z,B,fun j c b=>h _ _ (D j c b)⟩
 ·right;unfold F3 at*;split
  ·rename_i l;simp only[l]at hh;exact h _ _ hh
  ·rename_i o l;simp only[l]at hh;split
   ·rename_i p;simp only[p,ash]at hh;generalize (execOp a.eval o).run P w=r at*;cases r with
    |ok n w'=>
     cases n<;>simp only[C6]at hh|-
     case value u=>exact h _ _ hh
     case skip=>exact h _ _ hh
     case enter f args=>exact hh.mono fun e j ⟨v,E,F⟩=>⟨v,E,h _ _ F⟩
    |halt x w'=>simp only[C6]at hh
   ·rename_i p;simp only[p]at hh;exact h _ _ hh
theorem Uv{i:Nat}{a:Act}{w:World}{K:Act->World->Prop}{Q:Exit->Act->World->Prop}(z:C w)(hh:iJ P ops C i K a w):wpOp P ops Q i K a w:=by
 rcases hh with⟨o,v,I,J,B⟩|hh
 ·unfold wpOp;simp only[I];rcases J with⟨l,hy⟩|⟨l,rfl⟩
  ·simp only[l,ash];left;have p:=hy w z;unfold Oper.quietAt at p;unfold Oper.wp;generalize (execOp a.eval o).run P w=r at*;cases r with
   |ok n w'=>
    cases n<;>simp only[Oper.quietUpon]at p<;>simp only[Oper.upon]
    case value u=>obtain⟨y,D⟩:=p;rw[y,D];exact B _ z (arM _ _)
    case skip=>obtain⟨y,D⟩:=p;rw[y,<-D];exact B _ z (arM _ _)
    case enter f args=>obtain⟨y,L⟩:=p;rw[y];exact L.mono fun e E ⟨F,j⟩=>by subst F;exact B _ j.1 j.2
   |halt x w'=>simp only[Oper.quietUpon]at p
  ·simp only[l,asC,asj];exact B _ z (arM _ _)
 ·unfold F3 at hh;unfold wpOp;split
  ·rename_i G;simp only[G]at hh;exact hh
  ·rename_i o G;simp only[G]at hh;split
   ·rename_i l;simp only[l,ash]at hh;left;unfold Oper.wp;generalize (execOp a.eval o).run P w=r at*;cases r with
    |ok n w'=>
     cases n<;>simp only[C6]at hh<;>simp only[Oper.upon]
     case value u=>exact hh
     case skip=>exact hh
     case enter f args=>exact hh.mono fun e E ⟨v,F,M⟩=>by subst F;exact M
    |halt x w'=>simp only[C6]at hh
   ·rename_i l;simp only[l]at hh;exact hh
theorem Uw{j:Nat}{l p:Oper}{v:Value}(F:ops[j]?=some p)(G:l.apart ops p=true)
  (M:∀I b,l.op≠.select I b) (y:∀I b,p.op≠.select I b) {K:Act->World->Prop} {a:Act} {w:World}
  (hy:nY P ops C l v a) (h:iJ P ops C j K (a.put l.dst v) w):
  iJ P ops C j (fun a' w'=>nY P ops C l v a'/\K (a'.put l.dst v) w') a w:=by
 obtain⟨D,z,L⟩:=Oper.apart_spec G;have keep:∀u,nY P ops C l v (a.put p.dst u):=fun u=>hy.of_same (execOp_put l M a p.dst u L) (wanted_put l a p.dst u L);rcases h with⟨o,u,E,N,O⟩|h
 ·rw[F]at E;injection E with E
  subst E;refine .inl ⟨p,u,F,N.of_same (execOp_put p y a l.dst v D).symm (wanted_put p a l.dst v D).symm,fun B c b=>⟨keep u,?_⟩⟩;rw[<-as4 a v u z];exact O B c b
 ·right;unfold F3 at*;simp only[F]at*;rw[wanted_put p a l.dst v D]at h;split
  ·rename_i J;simp only[J,ash]at h;rw[execOp_put p y a l.dst v D]at h;generalize (execOp a.eval p).run P w=r at*;cases r with
   |ok n w'=>
    cases n<;>simp only[C6]at h|-
    case value u=>exact⟨keep _,by rw[<-as4 a v _ z];exact h⟩
    case skip=>exact⟨keep _,by rw[<-as4 a v _ z];exact h⟩
    case enter f args=>exact h.mono fun e B ⟨u,Q,R⟩=>⟨u,Q,keep _,by rw[<-as4 a v _ z];exact R⟩
   |halt x w'=>simp only[C6]at h
  ·rename_i J;simp only[J]at h;exact⟨keep _,by rw[<-as4 a v undef z];exact h⟩
def cM(P:Program)(md:Region.Mode)(ops:Array Oper)(C:World->Prop)(Q:Act->World->Prop):Nat->Array Bool->Act->World->Prop
 |0,e,a,w=>∀w',C w'->Below w.heap.size w w'->Region.ready md ops e=[]/\Q a w'
 |fuel+1,e,a,w=>∀w',C w'->Below w.heap.size w w'->
  (Region.ready md ops e=[]->Q a w')/\
  ∀i∈Region.ready md ops e,iJ P ops C i (fun l j=>C j/\cM P md ops C Q fuel (e.setIfInBounds i true) l j) a w'
theorem Ea{Q:Act->World->Prop}:∀{n:Nat} {e:Array Bool} {a:Act} {w l:World},cM P md ops C Q n e a w->Below w.heap.size w l->cM P md ops C Q n e a l
 |0,_,_,_,_,h,j=>fun w' c b=>h w' c (j.trans (b.mono j.size))
 |_+1,_,_,_,_,h,j=>fun w' c b=>h w' c (j.trans (b.mono j.size))
theorem Iz{Q:Act->World->Prop}{Q':Exit->Act->World->Prop}(l:∀a w,Q a w->Q' .normal a w):∀(fuel:Nat) (e:Array Bool) (a:Act) (w:World),C w->cM P md ops C Q fuel e a w->wpAny P md ops Q' fuel e a w
 |0,_,_,w,j,h=>⟨(h w j (arM _ _)).1,l _ _ (h w j (arM _ _)).2⟩
 |fuel+1,_,_,w,j,h=>⟨fun p=>l _ _ ((h w j (arM _ _)).1 p),fun i hi=>Uv j (JW (fun a' w' n=>Iz l fuel _ a' w' n.1 n.2) ((h w j (arM _ _)).2 i hi))⟩
theorem NV{Q:Act->World->Prop}{i:Nat}{r:Oper}{v:Value}(hi:ops[i]?=some r)(O:∀(j:Nat) (o:Oper) D b,ops[j]?=some o->o.op≠.select D b):
  ∀(n:Nat) (l:Array Bool) (a:Act) (w:World),
   (∀j y,ops[j]?=some y->j≠i->l.getD j true=false->(∀e∈y.after,Region.binds md e=true->e.on≠i)->r.apart ops y=true)->
   i∈Region.ready md ops l->nY P ops C r v a->
   cM P md ops C Q n (l.setIfInBounds i true) (a.put r.dst v) w->cM P md ops C Q (n+1) l a w:=by
 intro n
 induction n with
 |zero=>
  intro l a w _ z hy H w' I p;refine⟨fun h=>(by rw[h]at z;cases z),fun j G=>?_⟩;by_cases u:j=i
  ·subst u;exact .inl ⟨r,v,hi,hy,fun J c b=>⟨c,Ea H (p.trans (b.mono p.size))⟩⟩
  ·have:=ready_mono G u;rw[(H w' I p).1]at this;cases this
 |succ n V=>
  intro l a w R z hy H w' I p;refine⟨fun h=>(by rw[h]at z;cases z),fun j G=>?_⟩;by_cases u:j=i
  ·subst u;exact .inl ⟨r,v,hi,hy,fun J c b=>⟨c,Ea H (p.trans (b.mono p.size))⟩⟩
  ·have B:=(H w' I p).2 j (ready_mono G u);obtain⟨S,y,K,E⟩:=mem_ready.1 G;have X:∀e∈y.after,Region.binds md e=true->e.on≠i:=fun e Y p L=>by
    have B:=E e Y p;have T:=(mem_ready.1 z).1;rw[L]at B;rcases arY i l.size with h'|h'
    ·simp[h']at T B;rw[T]at B;cases B
    ·simp[atp h']at B
   have Z:=Uw K (R j y K u S X) (fun D b=>O i r D b hi) (fun D b=>O j y D b K) hy B;have Qt:∀k ok,ops[k]?=some ok->k≠i->(l.setIfInBounds j true).getD k true=false->
     (∀e∈ok.after,Region.binds md e=true->e.on≠i)->r.apart ops ok=true:=fun k ok hk eC U M=>by
    refine R k ok hk eC ?_ M;by_cases F:j=k
    ·subst F;exact S
    ·rw[getD_set_ne true F]at U;exact U
   refine JW (fun a' w1 N=>⟨N.2.1,V (l.setIfInBounds j true) a' w1 Qt (ready_mono z (Ne.symm u)) N.1 ?_⟩) Z;rw[Array.setIfInBounds_comm _ _ u];exact N.2.2
def Cz(md:Region.Mode)(ops:Array Oper):List Nat->Array Bool->Bool
 |[],_=>true
 |k::r,e=>(Region.ready md ops e).contains k&&Region.free md ops e k&&Cz md ops r (e.setIfInBounds k true)
def lX:List Nat->Array Bool->Array Bool
 |[],e=>e
 |k::r,e=>lX r (e.setIfInBounds k true)
def EZ(P:Program)(ops:Array Oper)(C:World->Prop)(e:Act)(val:Oper->Value):List Oper->Act->Prop
 |[],a=>a=e
 |o::r,a=>nY P ops C o (val o) a/\EZ P ops C e val r (a.put o.dst (val o))
def cD(ops:Array Oper):List Nat->List Oper
 |[]=>[]
 |k::r=>match ops[k]?with
  |some o=>o::cD ops r
  |none=>[]
theorem Lm{Q:Act->World->Prop}{aE:Act}{val:Oper->Value}(u:Region.noSelect ops=true){m:Nat}{w:World}:∀(j:List Nat) (e:Array Bool) (a:Act),j.all (fun i=>decide (i<ops.size))=true->
  Cz md ops j e=true->EZ P ops C aE val (cD ops j) a->cM P md ops C Q m (lX j e) aE w->cM P md ops C Q (m+j.length) e a w
 |[],_,_,_,_,h,n=>by cases h;exact n
 |k::r,e,a,l,y,h,n=>by
  simp only[List.all_cons,ar5,ar7]at l;have p:ops[k]?=some (ops[k]'l.1):=atl l.1
  simp only[Cz,ar5]at y;obtain⟨⟨hr,z⟩,B⟩:=y;simp only[cD,p]at h;exact NV p (Region.noSelect_spec u) (m+r.length) e a w (Region.free_spec p z) (by simpa using hr) h.1
   (Lm u r _ _ l.2 B h.2 n)
end
def BX(e:Act)(o:Oper):Value:=(o.dst.bind (e.tmps[·]?)).getD undef
def kj(n:Nat):List Oper->Bool
 |[]=>true
 |o::r=>(match o.dst with|some d=>decide (d<n)&&r.all (fun e=>e.dst !=some d)|none=>false)&&kj n r
section
variable {P:Program}{ops:Array Oper}
theorem Qv{a:Act}{d e:Nat}{v:Value}(h:e≠d):(a.put (some e) v).tmps[d]?=a.tmps[d]?:=by show(a.tmps.setIfInBounds e v)[d]?=_;rw[Array.getElem?_setIfInBounds_ne h]
theorem Ux{a:Act}{d:Nat}{v:Value}(h:d<a.tmps.size):(a.put (some d) v).tmps[d]?=some v:=by show(a.tmps.setIfInBounds d v)[d]?=_;rw[Array.getElem?_setIfInBounds_self_of_lt h]
theorem NY(a:Act)(d:Option Nat)(v:Value):(a.put d v).tmps.size=a.tmps.size:=by
 cases d with
 |none=>rfl
 |some d=>show(a.tmps.setIfInBounds d v).size=_;simp
theorem J2{C:World->Prop}{j:Act}{d:Nat}:∀(l:List Oper) (a:Act),l.all (fun y=>y.dst !=some d)=true->(∀o∈l,o.dst≠none)->wpQuiet P ops C (fun a'=>a'=j) l a->j.tmps[d]?=a.tmps[d]?
 |[],a,_,_,h=>by rw[show a=j from h]
 |o::l,a,hd,n,h=>by
  simp only[List.all_cons,ar5,bne_iff_ne,ne_eq]at hd;obtain⟨e,p⟩:=atv.1 (n o (by simp));have u:e≠d:=fun x=>hd.1 (by rw[p,x]);unfold wpQuiet at h;split at h
  ·obtain⟨v,_,z⟩:=h;rw[J2 l _ hd.2 (fun o r=>n o (by simp[r])) z,p,Qv u]
  ·rw[J2 l _ hd.2 (fun o r=>n o (by simp[r])) h,p,Qv u]
theorem IA{n:Nat}:∀{l:List Oper},kj n l=true->∀o∈l,o.dst≠none
 |[],_,o,j=>by cases j
 |x::r,h,o,j=>by
  simp only[kj,ar5]at h;rcases asb.1 j with e|e
  ·subst e;intro p;rw[p]at h;cases h.1
  ·exact IA h.2 o e
theorem bG{md:Region.Mode}{C:World->Prop}{Q:Act->World->Prop}{n:Nat}{j:Array Bool}{a:Act}{w:World}(l:List Nat)(hr:Region.ready md ops j=l)(p:l≠[])
  (h:∀w',C w'->Below w.heap.size w w'->∀i∈l,iJ P ops C i (fun u r=>C r/\cM P md ops C Q n (j.setIfInBounds i true) u r) a w'):cM P md ops C Q (n+1) j a w:=by
 subst hr;exact fun w' c b=>⟨fun e=>absurd e p,h w' c b⟩
theorem jZ{md:Region.Mode}{C:World->Prop}{Q:Act->World->Prop}{e:Array Bool}{a:Act}{w:World}(hr:Region.ready md ops e=[])(h:∀w',C w'->Below w.heap.size w w'->Q a w'):cM P md ops C Q 0 e a w:=
 fun w' c b=>⟨hr,h w' c b⟩
theorem NZ{C:World->Prop}{i:Nat}{o:Oper}{K:Act->World->Prop}{a:Act}{w:World}(e:ops[i]?=some o)(j:Region.wanted o (yielded ops a.tmps)=true)(h:C6 P o a K ((execOp a.eval o).run P w)):iJ P ops C i K a w:=by right;unfold F3;simp only[e,j,ash];exact h
theorem bw{C:World->Prop}{i:Nat}{o:Oper}{K:Act->World->Prop}{a:Act}{w:World}(v:Value)(j:World)(l:ops[i]?=some o)(n:Region.wanted o (yielded ops a.tmps)=true)(e:(execOp a.eval o).run P w=.ok (.value v) j)(h:K (a.put o.dst v) j):iJ P ops C i K a w:=
 NZ l n (by rw[e];exact h)
theorem eF{C:World->Prop}{i:Nat}{o:Oper}{K:Act->World->Prop}{a:Act}{w:World}(j:World)(l:ops[i]?=some o)(n:Region.wanted o (yielded ops a.tmps)=true)(e:(execOp a.eval o).run P w=.ok .skip j)(h:K (a.put o.dst undef) j):iJ P ops C i K a w:=
 NZ l n (by rw[e];exact h)
end
section
variable {P:Program}{ops:Array Oper}{C:World->Prop}
theorem GL{aE:Act}(L:gu C){W:World}(G:C W):∀(l:List Oper) (a:Act),kj a.tmps.size l=true->(∀F:World->Prop,gu F->Inhabited (aP C F)->wpQuiet P ops (fun w'=>∃p:aP C F,w'=p.w') (fun a'=>a'=aE) l a)->
  EZ P ops C aE (BX aE) l a
 |[],a,_,H=>H (fun _=>True) (fun _ _ _ _=>trivial) ⟨⟨W,G,trivial⟩⟩
 |o::l,a,hd,H=>by
  have R:=hd;simp only[kj,ar5]at hd;obtain⟨I,M⟩:=hd;obtain⟨d,B⟩:=atv.1 (IA R o (by simp));rw[B]at I;simp only[ar5,ar7]at I;have S:=IA M;have D:∀v,kj (a.put o.dst v).tmps.size l=true:=fun v=>by rw[NY];exact M
  have z:∀(C:World->Prop) (v:Value),wpQuiet P ops C (fun a'=>a'=aE) l (a.put o.dst v)->BX aE o=v:=fun C v h=>by have y:=J2 (d:=d) l _ I.2 S h;rw[B,Ux I.1]at y;unfold BX;rw[B];simp[y]
  by_cases J:Region.wanted o (yielded ops a.tmps)=true
  ·have E:∀F:World->Prop,gu F->Inhabited (aP C F)->(∀w,(∃p:aP C F,w=p.w')->o.quietAt P a (fun w'=>∃p:aP C F,w'=p.w') w (BX aE o))/\wpQuiet P ops (fun w'=>∃p:aP C F,w'=p.w') (fun a'=>a'=aE) l (a.put o.dst (BX aE o)):=by
    intro F hF j;have h:=H F hF j;unfold wpQuiet at h;rw[arK J]at h;obtain⟨v,y,N⟩:=h;rw[z _ v N];exact⟨y,N⟩
   refine⟨.inl ⟨J,fun w O=>?_⟩,GL L G l _ (D _) (fun F hF j=>(E F hF j).2)⟩;have y:=(E (fun w'=>Below w.heap.size w w') (fun Z w2 Q T=>Q.trans (T.mono Q.size)) ⟨⟨w,O,arM _ _⟩⟩).1 w ⟨⟨w,O,arM _ _⟩,rfl⟩;unfold Oper.quietAt at*;generalize (execOp a.eval o).run P w=r at*;cases r with
   |ok n w'=>
    cases n<;>simp only[Oper.quietUpon]at y|-
    case value u=>exact y
    case skip=>exact y
    case enter f args=>exact⟨y.1,y.2.mono fun e U ⟨V,p,X⟩=>⟨V,by rw[X];exact⟨p.h,p.f⟩⟩⟩
   |halt x w'=>simp only[Oper.quietUpon]at y
  ·have K:Region.wanted o (yielded ops a.tmps)=false:=(by simpa using J);have E:∀F:World->Prop,gu F->Inhabited (aP C F)->wpQuiet P ops (fun w'=>∃p:aP C F,w'=p.w') (fun a'=>a'=aE) l (a.put o.dst undef):=by
    intro F hF j;have h:=H F hF j;unfold wpQuiet at h;rw[arJ J]at h;exact h
   have Y:=z _ undef (E (fun _=>True) (fun _ _ _ _=>trivial) ⟨⟨W,G,trivial⟩⟩);rw[EZ,Y];exact⟨.inr ⟨K,rfl⟩,GL L G l _ (D _) E⟩
theorem iq(j:gu C){id:Nat}{Q:Exit->Act->World->Prop}{a aE:Act}{W:World}(l:C W){L:List Oper}(e:List Nat)(m:Nat)(u:P.follows .mixedOrders=true)(y:Region.noSelect L.toArray=true)(z:m+e.length=L.length)
  (hi:e.all (fun i=>decide (i<L.toArray.size))=true) (B:Cz .any L.toArray e (Array.replicate L.length false)=true) (hd:kj a.tmps.size (cD L.toArray e)=true)
  (H:∀F:World->Prop,gu F->Inhabited (aP C F)->wpQuiet P L.toArray (fun w'=>∃p:aP C F,w'=p.w') (fun a'=>a'=aE) (cD L.toArray e) a)
  (M:∀n:Act->World->Prop,(∀a w,Q .normal a w->n a w)->cM P .any L.toArray C n m (lX e (Array.replicate L.length false)) aE W):(Code.region id L.toArray true).wp P Q a W:=by
 refine wp_region_any u ?_;have D:=Lm (md:=.any) y e (Array.replicate L.length false) a hi B (GL j l _ a hd H) (M _ fun _ _ h=>h);have r:=Iz (Q':=Q) (fun _ _ h=>h) _ _ _ {W with drawn:=W.drawn+1} (j _ _ l (show Below W.heap.size W {W with drawn:=W.drawn+1}from below_drewN (arM _ _) 1)) (Ea D (below_drewN (arM W.heap.size W) 1));rw[z]at r;simpa using r
theorem iw{i:Nat}{o:Oper}{K:Act->World->Prop}{a:Act}{w:World}(f:FuncId)(args:Array Value)(n:ops[i]?=some o)(p:Region.wanted o (yielded ops a.tmps)=true)(j:(execOp a.eval o).run P w=.ok (.enter f args) w)
  (h:Calls P f args w fun e l=>∃v,e=.returned v/\K (a.put o.dst v) l):iJ P ops C i K a w:=
 NZ n p (by rw[j];exact h)
theorem oq{L:Type}{j:L->List Value}{k:Nat}{e:TypeId}{W:World}{base B:Nat}{v:Value}{E D:List L}{A:Option Addr}{m:Nat}{o:Oper}{a:Act}{K:Act->World->Prop}{i:Nat}(s x:Operand)(t:TypeId)(c bytes:Nat)(z:Value)
  (M:(P.info? e).map (fun i=>(i.zero,i.size,i.bytes))=some (some z,k,bytes)) (N:P.underlying t=some (.slice e))
  (n:Own j k e W base v E) (O:aj j k W B A D) (Q:∀x,(j x).length=k) (R:0<k) (F:z.cells.size=k) (S:∀y,∀u∈j y,u.oneCell'=true)
  (p:E.length+D.length<=4294967296) (G:bytes<=1024) (l:base<=W.heap.size)
  (I:ops[i]?=some o) (J:o.guard=none) (T:o.op=.call {callee:=.builtin .append,args:=#[s,x],argTypes:=#[t,t]})
  (U:a.eval s=v) (V:a.eval x=.slice A m c) (X:m=D.length)
  (h:∀r w',Own j k e w' base r (E++D)->W.grownBy w' v.ownBlock->K (a.put o.dst r) w'):iJ P ops C i K a W:=by
 obtain⟨r,w',Y,Z,h3⟩:=ab8 (P:=P) t o.type c bytes z M N n O Q R F S p G l X;refine bw r w' I (by simp[Region.wanted,J]) ?_ (h r w' Z h3);unfold execOp;simp only[T,resolve,invoke,builtin,Sem.run_bind,as6,ata,List.map_toArray,asS,List.map_nil,U,V,Y]
end
end M3
