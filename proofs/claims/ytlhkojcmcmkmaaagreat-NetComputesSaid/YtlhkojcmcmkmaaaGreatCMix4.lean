/- Conditions: as stated. -/
import Derived.StillTailTactics
import Derived.Test.YtlhkojcmcmkmaaaGreatCDedV
import Derived.Test.YtlhkojcmcmkmaaaGreatCMix2
set_option maxRecDepth 100000
set_option maxHeartbeats 4000000
namespace Go.Proofs.YtlhkojcmcmkmaaaGreat
open Go.Proofs.Tryz
open Go.RowKit
namespace M5
section
variable {P:Program}{ops:Array Oper}{md:Region.Mode}{C:World->Prop}{s:Nat}
def cS(P:Program)(md:Region.Mode)(ops:Array Oper)(C:World->Prop)(s:Nat)(Q:Act->World->Prop):Nat->Array Bool->Act->World->Prop
 |0,e,a,w=>∀w',C w'->Below w.heap.size w w'->Region.ready md ops e=[]/\Q a w'
 |fuel+1,e,a,w=>∀w',C w'->Below w.heap.size w w'->
  (Region.ready md ops e=[]->Q a w')/\
  ∀i∈Region.ready md ops e,M3.iW P ops C i (fun l j=>if i=s then Region.ready md ops (e.setIfInBounds i true)=[]/\Q l j else C j/\cS P md ops C s Q fuel (e.setIfInBounds i true) l j) a w'
theorem Ef{Q:Act->World->Prop}:∀{n:Nat} {e:Array Bool} {a:Act} {w l:World},cS P md ops C s Q n e a w->Below w.heap.size w l->cS P md ops C s Q n e a l
 |0,_,_,_,_,h,j=>fun w' c b=>h w' c (j.trans (b.mono j.size))
 |_+1,_,_,_,_,h,j=>fun w' c b=>h w' c (j.trans (b.mono j.size))
theorem wpAny_done{Q':Exit->Act->World->Prop}:∀(j:Nat) {e:Array Bool} {a:Act} {w:World},Region.ready md ops e=[]->Q' .normal a w->wpAny P md ops Q' j e a w
 |0,_,_,_,h,q=>⟨h,q⟩
 |_+1,_,_,_,h,q=>⟨fun _=>q,fun i hi=>by rw[h]at hi;cases hi⟩
theorem I1{Q:Act->World->Prop}{Q':Exit->Act->World->Prop}(n:∀a w,Q a w->Q' .normal a w):∀(fuel:Nat) (e:Array Bool) (a:Act) (w:World),C w->cS P md ops C s Q fuel e a w->wpAny P md ops Q' fuel e a w
 |0,_,_,w,j,h=>⟨(h w j (atS _ _)).1,n _ _ (h w j (atS _ _)).2⟩
 |fuel+1,e,_,w,j,h=>⟨fun r=>n _ _ ((h w j (atS _ _)).1 r),fun i hi=>M3.Vl j (M3.Kc (fun a' w' l=>by
  by_cases p:i=s
  ·rw[atP p]at l;exact wpAny_done fuel l.1 (n _ _ l.2)
  ·rw[atO p]at l;exact I1 n fuel _ a' w' l.1 l.2) ((h w j (atS _ _)).2 i hi))⟩
theorem Oz{Q:Act->World->Prop}{i:Nat}{y os:Oper}{v:Value}(hi:ops[i]?=some y)(Z:∀(j:Nat) (o:Oper) G b,ops[j]?=some o->o.op≠.select G b)
  (CZ:ops[s]?=some os) (br:∃e∈os.after,Region.binds md e=true/\e.on=i):
  ∀(n:Nat) (l:Array Bool) (a:Act) (w:World),
   (∀j D,ops[j]?=some D->j≠i->l.getD j true=false->(∀e∈D.after,Region.binds md e=true->e.on≠i)->y.apart ops D=true)->i≠s->
   i∈Region.ready md ops l->M3.oC P ops C y v a->
   cS P md ops C s Q n (l.setIfInBounds i true) (a.put y.dst v) w->cS P md ops C s Q (n+1) l a w:=by
 intro n
 induction n with
 |zero=>
  intro l a w _ L E hy H w' N u;refine⟨fun h=>(by rw[h]at E;cases E),fun j M=>?_⟩;by_cases z:j=i
  ·subst z;rw[show(fun r p=>if j=s then Region.ready md ops (l.setIfInBounds j true)=[]/\Q r p else C p/\cS P md ops C s Q 0 (l.setIfInBounds j true) r p)=(fun r p=>C p/\cS P md ops C s Q 0 (l.setIfInBounds j true) r p)from by funext r p;rw[atO L]];exact .inl ⟨y,v,hi,hy,fun O c b=>⟨c,Ef H (u.trans (b.mono u.size))⟩⟩
  ·have:=ready_mono M z;rw[(H w' N u).1]at this;cases this
 |succ n ih=>
  intro l a w Ke L E hy H w' N u;refine⟨fun h=>(by rw[h]at E;cases E),fun j M=>?_⟩;by_cases z:j=i
  ·subst z;rw[show(fun r p=>if j=s then Region.ready md ops (l.setIfInBounds j true)=[]/\Q r p else C p/\cS P md ops C s Q (n+1) (l.setIfInBounds j true) r p)=(fun r p=>C p/\cS P md ops C s Q (n+1) (l.setIfInBounds j true) r p)from by funext r p;rw[atO L]];exact .inl ⟨y,v,hi,hy,fun O c b=>⟨c,Ef H (u.trans (b.mono u.size))⟩⟩
  ·have B:=(H w' N u).2 j (ready_mono M z);obtain⟨Kf,D,F,J⟩:=mem_ready.1 M;have OA:∀e∈D.after,Region.binds md e=true->e.on≠i:=fun e R u S=>by
    have B:=J e R u;have h0:=(mem_ready.1 E).1;rw[S]at B;rcases at6 i l.size with h'|h'
    ·simp[h']at h0 B;rw[h0]at B;cases B
    ·simp[avf h']at B
   have T:¬j=s:=fun e=>by
    subst e;rw[CZ]at F;injection F with F
    subst F;obtain⟨e,R,U,V⟩:=br;exact OA e R U V
   simp only[atO T]at B|-;have h2:=M3.Vm F (Ke j D F z Kf OA) (fun G b=>Z i y G b hi) (fun G b=>Z j D G b F) hy B;have Rf:∀k ok,ops[k]?=some ok->k≠i->(l.setIfInBounds j true).getD k true=false->
     (∀e∈ok.after,Region.binds md e=true->e.on≠i)->y.apart ops ok=true:=fun k ok hk fL Kg X=>by
    refine Ke k ok hk fL ?_ X;by_cases K:j=k
    ·subst K;exact Kf
    ·rw[getD_set_ne true K]at Kg;exact Kg
   refine M3.Kc (fun a' p Y=>⟨Y.2.1,ih (l.setIfInBounds j true) a' p Rf L (ready_mono E (Ne.symm z)) Y.1 ?_⟩) h2;rw[Array.setIfInBounds_comm _ _ z];exact Y.2.2
def Mu(md:Region.Mode)(ops:Array Oper)(s k:Nat):Bool:=decide (k≠s)&&match ops[s]?with
 |some os=>os.after.any (fun e=>Region.binds md e&&e.on==k)
 |none=>false
theorem agv{k:Nat}(h:Mu md ops s k=true):k≠s/\∃os,ops[s]?=some os/\∃e∈os.after,Region.binds md e=true/\e.on=k:=by
 unfold Mu at h;rw[aub]at h;refine⟨au9 h.1,?_⟩;have j:=h.2;split at j
 ·rename_i os n;obtain⟨e,p,l⟩:=Array.any_eq_true'.1 j;simp only[aub,beq_iff_eq]at l;exact⟨os,n,e,p,l.1,l.2⟩
 ·cases j
theorem NN{Q:Act->World->Prop}{z:Act}{val:Oper->Value}(B:Region.noSelect ops=true){m:Nat}{w:World}:∀(j:List Nat) (e:Array Bool) (a:Act),j.all (fun i=>decide (i<ops.size))=true->j.all (Mu md ops s)=true->
  M3.CD md ops j e=true->M3.E8 P ops C z val (M3.cL ops j) a->cS P md ops C s Q m (M3.mq j e) z w->cS P md ops C s Q (m+j.length) e a w
 |[],_,_,_,_,_,h,n=>by cases h;exact n
 |k::r,e,a,l,p,D,h,n=>by
  simp only[List.all_cons,aub,auc]at l p;have u:ops[k]?=some (ops[k]'l.1):=au8 l.1
  simp only[M3.CD,aub]at D;obtain⟨⟨E,F⟩,G⟩:=D;simp only[M3.cL,u]at h;obtain⟨y,os,J,K⟩:=agv p.1;exact Oz u (Region.noSelect_spec B) J K (m+r.length) e a w (Region.free_spec u F) y (by simpa using E) h.1
   (NN B r _ _ l.2 p.2 G h.2 n)
theorem dH{Q:Act->World->Prop}{n:Nat}{listed:Array Bool}{a:Act}{w:World}(i:Nat)(p:Region.ready md ops listed=[i])(l:¬i=s)
  (h:∀w',C w'->Below w.heap.size w w'->M3.iW P ops C i (fun y r=>C r/\cS P md ops C s Q n (listed.setIfInBounds i true) y r) a w'):cS P md ops C s Q (n+1) listed a w:=by
 intro w' c b;refine⟨fun e=>(by rw[p]at e;cases e),fun j u=>?_⟩;rw[p,auB]at u;subst u;simp only[atO l];exact h w' c b
theorem ZY{Q:Act->World->Prop}{n:Nat}{l:Array Bool}{a:Act}{w:World}(r:List Nat)(D:Region.ready md ops l=r)(p:r.contains s=false)(y:r.isEmpty=false)
  (h:∀w',C w'->Below w.heap.size w w'->∀i∈r,M3.iW P ops C i (fun E z=>C z/\cS P md ops C s Q n (l.setIfInBounds i true) E z) a w'):cS P md ops C s Q (n+1) l a w:=by
 subst D;intro w' c b;refine⟨fun e=>(by rw[e]at y;cases y),fun j B=>?_⟩;have u:¬j=s:=fun e=>by
  subst e;have:(Region.ready md ops l).contains j=true:=by simpa using B
  rw[this]at p;cases p
 simp only[atO u];exact h w' c b j B
theorem oI{Q:Act->World->Prop}{n:Nat}{listed:Array Bool}{a:Act}{w:World}(p:Region.ready md ops listed=[s])(l:Region.ready md ops (listed.setIfInBounds s true)=[])
  (h:∀w',C w'->Below w.heap.size w w'->M3.iW P ops C s Q a w'):cS P md ops C s Q (n+1) listed a w:=by
 intro w' c b;refine⟨fun e=>(by rw[p]at e;cases e),fun j r=>?_⟩;rw[p,auB]at r;subst r;simp only[aup];exact M3.Kc (fun u y q=>⟨l,q⟩) (h w' c b)
theorem Gn{Q:Act->World->Prop}{n:Nat}{listed:Array Bool}{a:Act}{w:World}(i:Nat){o:Oper}(v:Value)(r:Region.noSelect ops=true)(l:ops[i]?=some o)
  (p:((Region.ready md ops listed).contains i&&Region.free md ops listed i&&Mu md ops s i)=true) (u:Region.wanted o (yielded ops a.tmps)=true) (e:∀w',(execOp a.eval o).run P w'=.ok (.value v) w')
  (h:cS P md ops C s Q n (listed.setIfInBounds i true) (a.put o.dst v) w):cS P md ops C s Q (n+1) listed a w:=by
 simp only[aub]at p;obtain⟨⟨y,z⟩,B⟩:=p;obtain⟨j,os,D,E⟩:=agv B;refine Oz l (Region.noSelect_spec r) D E n listed a w (Region.free_spec l z) j (by simpa using y) (.inl ⟨u,fun w' _=>?_⟩) h;unfold Oper.quietAt;rw[e];exact⟨rfl,rfl⟩
end
section
variable {P:Program}{C:World->Prop}
theorem iN(j:gH C){id:Nat}{Q:Exit->Act->World->Prop}{a aE:Act}{W:World}(l:C W){L:List Oper}(e:List Nat)(m s:Nat)(u:P.follows .mixedOrders=true)(y:Region.noSelect L.toArray=true)(z:m+e.length=L.length)
  (hi:(e.all (fun i=>decide (i<L.toArray.size))&&e.all (Mu .any L.toArray s)&&M3.CD .any L.toArray e (Array.replicate L.length false))=true) (hd:M3.kq a.tmps.size (M3.cL L.toArray e)=true)
  (H:∀F:World->Prop,gH F->Inhabited (aP C F)->wpQuiet P L.toArray (fun w'=>∃p:aP C F,w'=p.w') (fun a'=>a'=aE) (M3.cL L.toArray e) a)
  (M:∀n:Act->World->Prop,(∀a w,Q .normal a w->n a w)->cS P .any L.toArray C s n m (M3.mq e (Array.replicate L.length false)) aE W):(Code.region id L.toArray true).wp P Q a W:=by
 simp only[aub]at hi;refine wp_region_any u ?_;have B:=NN (md:=.any) y e (Array.replicate L.length false) a hi.1.1 hi.1.2 hi.2 (M3.IJ j l _ a hd H) (M _ fun _ _ h=>h);have r:=I1 (Q':=Q) (fun _ _ h=>h) _ _ _ {W with drawn:=W.drawn+1} (j _ _ l (show Below W.heap.size W {W with drawn:=W.drawn+1}from below_drewN (atS _ _) 1)) (Ef B (below_drewN (atS W.heap.size W) 1));rw[z]at r;simpa using r
end
def ck(W:World)(e:Value)(w':World):Prop:=Below W.heap.size W w'/\w'.cell? ⟨W.heap.size,6,none⟩=some e/\W.heap.size<w'.heap.size
theorem ck.jw(W:World)(n:Value):gH (ck W n):=fun _ _ ⟨j,p,l⟩ e=>⟨j.trans (e.mono j.size),(e.cell l).trans p,auD l e.size⟩
theorem ck.of{W w':World}{j a b c d e f:Value}{t:TypeId}(h:Below W.heap.size W w')(hS:ah w' W.heap.size t #[a,b,c,d,e,f,j]):ck W j w':=⟨h,(hS.cell 6).trans rfl,hS.lt⟩
end M5
def P6(e:List dr)(x:Elem):Int:=if iB e x=true then 1 else 2
def kU(e:List dr)(l:List Elem):List cH:=(l.filter nz).map fun x=>⟨P6 e x,x.code,x.amount⟩
theorem agw(e:List dr)(l m:List Elem):kU e (l++m)=kU e l++kU e m:=by simp[kU]
theorem RO(k:Int)(l m:List Elem):ag k (l++m)=ag k l++ag k m:=by simp[ag]
theorem anz(j:List dr)(l:List Elem):(kU j l).Perm (ag 1 (l.filter (iB j))++ag 2 (l.filter fun x=>!iB j x)):=by
 induction l with
 |nil=>exact List.Perm.refl _
 |cons x l p=>
  rw[show x::l=[x]++l from rfl,agw,auE,auE,RO,RO];cases n:iB j x with
  |true=>
   rw[show[x].filter (iB j)=[x]by simp[n],show([x].filter fun x=>!iB j x)=[]by simp[n]];have e:kU j [x]=ag 1 [x]:=by
    unfold kU ag;refine List.map_congr_left fun y hy=>?_;obtain rfl:y=x:=by simpa using CJ hy
    rw[P6,atP n]
   rw[e,auG];exact List.Perm.append_left _ p
  |false=>
   rw[show[x].filter (iB j)=[]by simp[n],show([x].filter fun x=>!iB j x)=[x]by simp[n]];have e:kU j [x]=ag 2 [x]:=by
    unfold kU ag;refine List.map_congr_left fun y hy=>?_;obtain rfl:y=x:=by simpa using CJ hy
    rw[P6,atO (by simp[n])]
   rw[e,show ag 1 []++ag 1 (l.filter (iB j))=ag 1 (l.filter (iB j))from rfl];refine(List.Perm.append_left _ p).trans ?_;rw[<-auG,<-auG];exact List.Perm.append_right _ List.perm_append_comm
namespace bf
variable (I:bf)
def zO(l:List dx):List cH:=l.flatMap fun s=>ag 4 [⟨s.code,(I.fS s).aD⟩]++ag 5 [⟨s.code,(I.fS s).aV⟩]
theorem abm(l:List dx):(I.zO l).Perm (ag 4 (I.gw l)++ag 5 (I.iu l)):=by
 induction l with
 |nil=>exact List.Perm.refl _
 |cons s l e=>rw[show I.gw (s::l)=[⟨s.code,(I.fS s).aD⟩]++I.gw l from rfl,show I.iu (s::l)=[⟨s.code,(I.fS s).aV⟩]++I.iu l from rfl,RO,RO];unfold zO at e|-;rw[auI,auG,auG];refine List.Perm.append_left _ ?_;refine(List.Perm.append_left _ e).trans ?_;rw[<-auG,<-auG];exact List.Perm.append_right _ List.perm_append_comm
def made:List cH:=kU I.r.fZ I.merged++ag 3 I.before++I.zO I.r.bF++ag 6 [⟨⟨#[]⟩,I.aw⟩]++ag 7 I.dc++ag 8 I.after++(if 0<I.iF then ag 9 [⟨⟨#[]⟩,I.iF⟩]else ag 10 [⟨⟨#[]⟩,-I.iF⟩])
theorem anA:I.made.Perm I.lines:=by
 unfold made lines cD cG;have j:=anz I.r.fZ I.merged;have l:=I.abm I.r.bF;have n:(if 0<I.iF then ag 9 [⟨⟨#[]⟩,I.iF⟩]else ag 10 [⟨⟨#[]⟩,-I.iF⟩])=ag 9 [⟨⟨#[]⟩,max I.iF 0⟩]++ag 10 [⟨⟨#[]⟩,max (-I.iF) 0⟩]:=by
  split
  ·rename_i h;rw[show max I.iF 0=I.iF by omega,show max (-I.iF) 0=0 by omega];simp[ag,nz]
  ·rename_i h;rw[show max I.iF 0=0 by omega,show max (-I.iF) 0=-I.iF by omega];simp[ag,nz]
 rw[n];have e:=((((((j.append_right (ag 3 I.before)).append l).append_right (ag 6 [⟨⟨#[]⟩,I.aw⟩])).append_right (ag 7 I.dc)).append_right (ag 8 I.after)).append_right (ag 9 [⟨⟨#[]⟩,max I.iF 0⟩]++ag 10 [⟨⟨#[]⟩,max (-I.iF) 0⟩]))
 simpa only[auG]using e
end bf
theorem sorted_perm{l p:List cH}(r:RL.Mq l)(y:p.Perm l)(B:p.Pairwise (fun a b=>Dh b a=false)):p=l:=by
 refine y.eq_of_pairwise (le:=fun a b=>Dh b a=false) ?_ B (r.imp fun{a b} h=>?_)
 ·intro a b D E F G;have u:=y.mem_iff.1 D;rcases aun.1 u with⟨i,hi,rfl⟩
  rcases aun.1 E with⟨j,z,rfl⟩
  rcases Nat.lt_trichotomy i j with h|h|h
  ·have:=auz.1 r i j hi z h;have n:Dh l[i] l[j]=true:=this;rw[G]at n;cases n
  ·subst h;rfl
  ·have:=auz.1 r j i z hi h;have n:Dh l[j] l[i]=true:=this;rw[F]at n;cases n
 ·have J:Dh a b=true:=h;cases e:Dh b a with
  |false=>rfl
  |true=>have:=TI.trans _ _ _ J e;rw[TI.irrefl]at this;cases this
theorem Ma{l:List bN}(h:gF l=true):l.length<=16/\∀x∈l,x.code.size<=maxLen:=⟨(Ip.1 h).1,fun x e=>Fa ((Ip.1 h).2.1 x e).name⟩
theorem qB{l:List Elem}(h:fE l=true):l.length<=128/\∀x∈l,x.code.size<=maxLen:=by obtain⟨e,j,_⟩:=BQ.1 h;exact⟨e,fun x n=>Fa (j x n).1⟩
theorem anB(m:fB)(w:World)(h:m.In w)(n:TJ m.t):Calls prog 127 #[m.val] w fun e w'=>e=.returned (.bool true)/\Below w.heap.size w w':=by
 have d0:0<=m.deps:=n.d0;have d1:m.deps<=20:=n.d1;have iP:m.es.length<=7:=by have:=n.Py;simpa[fB.t]using this
 have G:∀e∈m.es,e.v∈m.t.others:=fun e r=>aue.2 ⟨e,r,rfl⟩;have HE:Hid (∀e∈m.es,(0<=e.base/\e.base<=1000000000)/\e.l.length<=53/\∀x∈e.l,0<=x/\x<=1000000000):=fun e r=>⟨n.base _ (G e r),n.lens _ (G e r),n.earlier _ (G e r)⟩
 have hd:gF m.ds=true:=n.kN;obtain⟨ab,X⟩:=Ma hd;have Y:Hid (∀W,Below w.heap.size w W->Calls prog 132 #[.slice m.Ad m.ds.length m.cd] W fun e w'=>e=.returned (.bool true)/\Below W.heap.size W w'):=fun W J=>by
  have:=aaC m.Ad m.cd m.ds W (h.ds.aa J) X (by omega)
  rwa [hd]at this
 have Z:Hid (∀W,Below w.heap.size w W->Calls prog 148 #[.slice m.Ao m.os.length m.co] W fun e w'=>e=.returned (.bool true)/\Below W.heap.size W w'):=fun W J=>aai m.Ao m.co m.os W (h.os.aa J) n.orders;clear n hd X G;unfold fB.val;go_enter func127,ntmps127;have K:=ah.new w 50 #[.int .i64 m.deps,.slice m.Ad m.ds.length m.cd,.slice m.Ao m.os.length m.co,.slice m.Ae m.es.length m.ce];have L:=bC w (.cells #[.int .i64 m.deps,.slice m.Ad m.ds.length m.cd,.slice m.Ao m.os.length m.co,.slice m.Ae m.es.length m.ce] 50);go_upto_region 1 with fail
 generalize w.alloc (Obj.cells _ _)=W at K L|-;obtain⟨M,N,O,z⟩:=K.cz4;go_wp2_with fail;refine(Nd d0 d1 _).mono ?_;rintro e w' ⟨rfl,rfl⟩;go_wp2_with fail;refine(Y.out _ L).mono ?_;rintro e w1 ⟨rfl,u⟩;have Q:=K.aa u;have R:=aA L u;clear K L u M N O z;obtain⟨M,N,O,z⟩:=Q.cz4;go_wp2_with fail;refine(Z.out _ R).mono ?_;rintro e w2 ⟨rfl,p⟩;have S:=Q.aa p;have T:=aA R p;clear Q R p M N O z;have z:=S.cell 3;simp only[aq,ar,au]at z;have U:=h.es.aa T;have pw:Hid (∀e∈m.es,ai encI 1 w2 w2.heap.size e.A e.l):=fun e r=>(h.ins e r).aa T;have SG:=S.lt;clear h Y Z S;go_wp2_with fail
 go_loop [3] (fun i=>∃k:Nat,k<=m.es.length/\i=.int .i64 k) (fun i=>m.es.length-(intOf i).toNat)
 case atStart=>exact⟨0,by omega,rfl⟩
 case round=>
  obtain⟨k,hk,rfl⟩:=hrel;by_cases y:k<m.es.length
  ·obtain⟨b,off,hA,J,V⟩:=U.at_ y;have c0:=V 0 _ rfl;have c1:=V 1 _ rfl;simp only[atQ]at c0;have fL:(k:Int)<(m.es.length:Int):=(by omega);clear V;rw[hA]at z;clear hA;obtain⟨⟨b0,b1⟩,lI,D⟩:=HE.out _ (atT y);have P7:=atM D;have jh:=pw.out _ (atT y);clear D;go_wp2_with fail;refine(Nd b0 b1 _).mono ?_;rintro e w' ⟨rfl,rfl⟩;go_wp2_with fail
   go_loop [4] (fun i=>∃j:Nat,j<=m.es[k].l.length/\i=.int .i64 j) (fun i=>m.es[k].l.length-(intOf i).toNat)
   case atStart=>exact⟨0,by omega,rfl⟩
   case round=>
    obtain⟨j,hj,rfl⟩:=hrel;by_cases BK:j<m.es[k].l.length
    ·obtain⟨b2,Ep,dE,p,E⟩:=jh.at_ BK;have O8:=E 0 _ rfl;simp only[atQ,auo]at O8;have jM:(j:Int)<(m.es[k].l.length:Int):=(by omega);clear E;rw[dE]at c0;clear dE;obtain⟨x0,x1⟩:=P7.out _ (atT BK);go_wp2_with fail;refine(Nd x0 x1 _).mono ?_;rintro e w' ⟨rfl,rfl⟩;go_wp2;go_round
     case rel=>
      have B:∃F:Nat,F<=m.es[k].l.length/\Value.int .i64 ((j:Int)+1)=.int .i64 F:=⟨j+1,by omega,by go_num⟩
      first|exact B|(refine⟨trivial,?_⟩;(repeat apply Exists.intro);exact⟨B,rfl⟩)|((repeat apply Exists.intro);exact⟨B,rfl⟩)
     case measure=>simp[intOf];omega
    ·go_wp2;go_round
     case rel=>
      have B:∃F:Nat,F<=m.es.length/\Value.int .i64 ((k:Int)+1)=.int .i64 F:=⟨k+1,by omega,by go_num⟩
      first|exact B|exact⟨k+1,by omega,by omega⟩|((repeat apply Exists.intro);exact⟨B,rfl⟩)
     case measure=>simp[intOf];omega
  ·go_wp2;go_ret;exact⟨rfl,T⟩
theorem anC(m:fC)(w:World)(h:m.In w)(hY:TK m.t):Calls prog 128 #[m.val] w fun e w'=>e=.returned (.bool true)/\Below w.heap.size w w':=by
 obtain⟨u,ay,E,O,Q,l,At,y,j⟩:=m;obtain⟨R,S,n,F,T,U,w0,Ds,z⟩:=hY;simp only[fC.t]at R S n F T U w0 Ds z;obtain⟨G,J⟩:=h;simp only at G J;have K:=atM F;obtain⟨ab,V⟩:=qB z;have X:Hid (∀W,Below w.heap.size w W->Calls prog 129 #[.slice At j.length y] W fun e w'=>e=.returned (.bool true)/\Below W.heap.size W w'):=fun W Y=>by
  have:=VE At y j W (J.aa Y) V (by omega)
  rwa [z]at this
 have ad:l.length<=53:=by omega
 have af:((l.length:Int)!=u)=false:=by simp[n]
 have kT:=atM n;clear F z V n J;unfold fC.val;simp only;go_enter func128,ntmps128;have B:=ah.new w 53 #[.int .i64 u,.int .i64 ay,.int .i64 E,.slice O l.length Q,.slice At j.length y];have D:=bC w (.cells #[.int .i64 u,.int .i64 ay,.int .i64 E,.slice O l.length Q,.slice At j.length y] 53);go_upto_region 1 with fail
 generalize w.alloc (Obj.cells _ _)=W at B D|-;obtain⟨z0,z1,z2,L,z4⟩:=B.cz5;go_wp2_with fail;refine(Nd R S _).mono ?_;rintro e w' ⟨rfl,rfl⟩;go_wp2_with fail;refine(Nd T U _).mono ?_;rintro e w' ⟨rfl,rfl⟩;have aj:-u*1000000000<=E:=by omega
 go_wp2_with fail;refine(X.out _ D).mono ?_;rintro e w1 ⟨rfl,p⟩;have M:=B.aa p;have Z:=aA D p;clear B D p z0 z1 z2 L z4;have L:=M.cell 3;simp only[aq,ar,au]at L;have N:=G.aa Z;have SG:=M.lt;clear M G X;go_wp2_with fail
 go_loop [3] (fun i=>∃k:Nat,k<=l.length/\i=.int .i64 k) (fun i=>l.length-(intOf i).toNat)
 case atStart=>exact⟨0,by omega,rfl⟩
 case round=>
  obtain⟨k,hk,rfl⟩:=hrel;by_cases r:k<l.length
  ·obtain⟨b,off,rfl,Y,hc⟩:=N.at_ r;have c0:=hc 0 _ rfl;simp only[atQ,auo]at c0;have fL:(k:Int)<(l.length:Int):=(by omega);clear hc;obtain⟨x0,x1⟩:=K.out _ (atT r);go_wp2_with fail;refine(Nd x0 x1 _).mono ?_;rintro e w' ⟨rfl,rfl⟩;go_wp2;go_round
   case rel=>exact⟨k+1,by omega,by go_num⟩
   case measure=>simp[intOf];omega
  ·go_wp2;go_ret;exact⟨rfl,Z⟩
def pY(j e:Int):Int:=if e<=j then 3 else 0
theorem alJ(r:gJ)(p:fB)(y:fC)(K:Option Addr)(V:Nat)(kept:List Elem)(w:World)(hr:r.In w)(X:p.In w)(hy:y.In w)(Y:ai aN 2 w w.heap.size K kept)
  (N:PI r.t) (Z:TJ p.t) (O:TK y.t) (hK:OP kept) (hS:∀e∈p.es,(e.l.length:Int)=y.az):
  Calls prog 86 #[r.val,p.val,y.val,.slice K kept.length V] w fun e w'=>e=.returned (.int .i64 (pY y.az r.count))/\Below w.heap.size w w':=by
 have HV:Hid (∀W,Below w.heap.size w W->Calls prog 122 #[.agg #[.slice r.Aw r.ws.length r.cw,.slice r.As r.ss.length r.cs,.int .i64 r.tm.t.method,.slice r.tm.Ab r.tm.t.aR.length r.tm.cb,.int .i64 r.tm.t.bJ,.int .i64 r.tm.t.bK,.int .i64 r.tm.t.unit,.int .i64 r.tm.t.mode,.slice r.tm.Ar r.tm.t.rows.length r.tm.cr,.int .i64 r.count,.int .i64 r.sh.fixed,.int .i64 r.sh.bO,.int .i64 r.sh.lower,.int .i64 r.sh.share,.int .i64 r.sh.top,.int .i64 r.recover]] W fun e w'=>e=.returned (.bool true)/\Below W.heap.size W w'):=fun W D=>al3 r W (hr.aa D) N;have HP:Hid (∀W,Below w.heap.size w W->Calls prog 127 #[.agg #[.int .i64 p.deps,.slice p.Ad p.ds.length p.cd,.slice p.Ao p.os.length p.co,.slice p.Ae p.es.length p.ce]] W fun e w'=>e=.returned (.bool true)/\Below W.heap.size W w'):=fun W D=>anB p W (X.aa D) Z;have HY:Hid (∀W,Below w.heap.size w W->Calls prog 128 #[.agg #[.int .i64 y.az,.int .i64 y.ay,.int .i64 y.aQ,.slice y.Ai y.ins.length y.ci,.slice y.At y.taken.length y.ct]] W fun e w'=>e=.returned (.bool true)/\Below W.heap.size W w'):=fun W D=>anC y W (hy.aa D) O;obtain⟨NQ,E4,TM⟩:=hK;obtain⟨_,TN⟩:=qB NQ;have HK:Hid (∀W,Below w.heap.size w W->Calls prog 129 #[.slice K kept.length V] W fun e w'=>e=.returned (.bool true)/\Below W.heap.size W w'):=fun W D=>by
  have:=VE K V kept W (Y.aa D) TN (by omega)
  rwa [NQ]at this
 have ab:=atM TM;have HS:=atM hS;have iP:p.es.length<=7:=by have:=Z.Py;simpa[fB.t]using this
 have y0:0<=y.az:=O.p0;have y1:y.az<=53:=O.p1;have r0:1<=r.count:=N.c0;have r1:r.count<=53:=N.c1;clear N Z O NQ TN TM hS hr hy;unfold gJ.val fB.val fC.val;go_enter func86,ntmps86;have Q:=((ah.new w 45 #[.slice r.Aw r.ws.length r.cw,.slice r.As r.ss.length r.cs,.int .i64 r.tm.t.method,.slice r.tm.Ab r.tm.t.aR.length r.tm.cb,.int .i64 r.tm.t.bJ,.int .i64 r.tm.t.bK,.int .i64 r.tm.t.unit,.int .i64 r.tm.t.mode,.slice r.tm.Ar r.tm.t.rows.length r.tm.cr,.int .i64 r.count,.int .i64 r.sh.fixed,.int .i64 r.sh.bO,.int .i64 r.sh.lower,.int .i64 r.sh.share,.int .i64 r.sh.top,.int .i64 r.recover]).alloc (.cells #[.int .i64 p.deps,.slice p.Ad p.ds.length p.cd,.slice p.Ao p.os.length p.co,.slice p.Ae p.es.length p.ce] 50)).alloc (.cells #[.int .i64 y.az,.int .i64 y.ay,.int .i64 y.aQ,.slice y.Ai y.ins.length y.ci,.slice y.At y.taken.length y.ct] 53);have R:=(ah.new (w.alloc (.cells #[.slice r.Aw r.ws.length r.cw,.slice r.As r.ss.length r.cs,.int .i64 r.tm.t.method,.slice r.tm.Ab r.tm.t.aR.length r.tm.cb,.int .i64 r.tm.t.bJ,.int .i64 r.tm.t.bK,.int .i64 r.tm.t.unit,.int .i64 r.tm.t.mode,.slice r.tm.Ar r.tm.t.rows.length r.tm.cr,.int .i64 r.count,.int .i64 r.sh.fixed,.int .i64 r.sh.bO,.int .i64 r.sh.lower,.int .i64 r.sh.share,.int .i64 r.sh.top,.int .i64 r.recover] 45)) 50 #[.int .i64 p.deps,.slice p.Ad p.ds.length p.cd,.slice p.Ao p.os.length p.co,.slice p.Ae p.es.length p.ce]).alloc (.cells #[.int .i64 y.az,.int .i64 y.ay,.int .i64 y.aQ,.slice y.Ai y.ins.length y.ci,.slice y.At y.taken.length y.ct] 53);have S:=ah.new ((w.alloc (.cells #[.slice r.Aw r.ws.length r.cw,.slice r.As r.ss.length r.cs,.int .i64 r.tm.t.method,.slice r.tm.Ab r.tm.t.aR.length r.tm.cb,.int .i64 r.tm.t.bJ,.int .i64 r.tm.t.bK,.int .i64 r.tm.t.unit,.int .i64 r.tm.t.mode,.slice r.tm.Ar r.tm.t.rows.length r.tm.cr,.int .i64 r.count,.int .i64 r.sh.fixed,.int .i64 r.sh.bO,.int .i64 r.sh.lower,.int .i64 r.sh.share,.int .i64 r.sh.top,.int .i64 r.recover] 45)).alloc (.cells #[.int .i64 p.deps,.slice p.Ad p.ds.length p.cd,.slice p.Ao p.os.length p.co,.slice p.Ae p.es.length p.ce] 50)) 53 #[.int .i64 y.az,.int .i64 y.ay,.int .i64 y.aQ,.slice y.Ai y.ins.length y.ci,.slice y.At y.taken.length y.ct];have T:=eP (eP (bC w (.cells #[.slice r.Aw r.ws.length r.cw,.slice r.As r.ss.length r.cs,.int .i64 r.tm.t.method,.slice r.tm.Ab r.tm.t.aR.length r.tm.cb,.int .i64 r.tm.t.bJ,.int .i64 r.tm.t.bK,.int .i64 r.tm.t.unit,.int .i64 r.tm.t.mode,.slice r.tm.Ar r.tm.t.rows.length r.tm.cr,.int .i64 r.count,.int .i64 r.sh.fixed,.int .i64 r.sh.bO,.int .i64 r.sh.lower,.int .i64 r.sh.share,.int .i64 r.sh.top,.int .i64 r.recover] 45)) (.cells #[.int .i64 p.deps,.slice p.Ad p.ds.length p.cd,.slice p.Ao p.os.length p.co,.slice p.Ae p.es.length p.ce] 50)) (.cells #[.int .i64 y.az,.int .i64 y.ay,.int .i64 y.aQ,.slice y.Ai y.ins.length y.ci,.slice y.At y.taken.length y.ct] 53);simp only[at2]at R S;go_upto_region 1 with fail
 generalize World.alloc _ (Obj.cells #[.int .i64 y.az,.int .i64 y.ay,.int .i64 y.aQ,.slice y.Ai y.ins.length y.ci,.slice y.At y.taken.length y.ct] 53)=W at Q R S T|-;obtain⟨G,J,L,E,z4,z5,z6,z7,z8,z9,lh,lj,ad,ll,lx,lz⟩:=Q.cz16;go_wp2_with fail;refine(HV.out _ T).mono ?_;rintro e w1 ⟨rfl,j⟩;have CO:=Q.aa j;have nC:=R.aa j;have BB:=S.aa j;have aS:=aA T j;clear Q R S T j G J L E z4 z5 z6 z7 z8 z9 lh lj ad ll lx lz;obtain⟨G,J,L,E⟩:=nC.cz4;go_wp2_with fail;refine(HP.out _ aS).mono ?_;rintro e w2 ⟨rfl,n⟩;have kR:=CO.aa n;have zS:=nC.aa n;have Bx:=BB.aa n;have bm:=aA aS n;clear CO nC BB aS n G J L E;obtain⟨G,J,L,E,z4⟩:=Bx.cz5;go_wp2_with fail;refine(HY.out _ bm).mono ?_;rintro e w3 ⟨rfl,u⟩;have TP:=kR.aa u;have Jo:=zS.aa u;have Jp:=Bx.aa u;have cT:=aA bm u;clear kR zS Bx bm u G J L E z4;go_wp2_with fail;refine(HK.out _ cT).mono ?_;rintro e w4 ⟨rfl,z⟩;have BL:=TP.aa z;have TQ:=Jo.aa z;have KO:=Jp.aa z;have U:=aA cT z;clear TP Jo Jp cT z;have z9:=BL.cell 9;have E:=TQ.cell 3;have TR:=KO.cell 0;simp only[aq,ar,au]at z9 E TR;have af:=Y.aa U;have aj:=X.es.aa U;have am:=BL.lt;have an:=TQ.lt;have ao:=KO.lt;clear BL TQ KO HV HP HY HK Y X;go_wp2_with fail
 go_loop [9] (fun i=>∃k:Nat,k<=kept.length/\i=.int .i64 k) (fun i=>kept.length-(intOf i).toNat)
 case atStart=>exact⟨0,by omega,rfl⟩
 case round=>
  obtain⟨k,Ga,rfl⟩:=hrel;by_cases B:k<kept.length
  ·obtain⟨b,off,rfl,D,F⟩:=af.at_ B;have c0:=F 0 _ rfl;have c1:=F 1 _ rfl;simp only[atQ]at c0;have fL:(k:Int)<(kept.length:Int):=(by omega);clear F;have ap:=ab.out _ (atT B);go_wp2;go_round
   case rel=>exact⟨k+1,by omega,by go_num⟩
   case measure=>simp[intOf];omega
  ·by_cases oH:r.count<=y.az
   ·have HE:Hid (pY y.az r.count=3):=(by rw[Hid,pY,atP oH]);go_wp2;go_ret;exact⟨by rw[HE.out];rfl,U⟩
   ·have HE:Hid (pY y.az r.count=0):=(by rw[Hid,pY,atO oH]);go_wp2_with fail
    go_loopw [10] (fun i wr=>∃k q:Nat,k<=p.es.length/\i=.int .i64 k/\Hid (wr=w4.drewN q)) (fun i _=>p.es.length-(intOf i).toNat)
    case atStart=>exact⟨0,0,by omega,rfl,rfl⟩
    case round=>
     obtain⟨k,q,Ga,rfl,M⟩:=hrel;have ak:wr.cell? ⟨w.heap.size+1,3,none⟩=some (.slice p.Ae p.es.length p.ce):=(by rw[M.out];exact E);have av:wr.cell? ⟨w.heap.size+1+1,0,none⟩=some (.int .i64 y.az):=(by rw[M.out];exact TR);have al:ai pS 2 wr w4.heap.size p.Ae p.es:=(by rw[M.out];exact aj);by_cases B:k<p.es.length
     ·obtain⟨b,off,hA,D,F⟩:=al.at_ B;have c0:=F 0 _ rfl;have c1:=F 1 _ rfl;simp only[atQ]at c0;have fL:(k:Int)<(p.es.length:Int):=(by omega);clear F;rw[hA]at ak;clear hA;have aC:((p.es[k].l.length:Int)!=y.az)=false:=(by rw[HS.out _ (atT B)];simp);go_wp2;go_quiet(fail);go_wp2;go_roundw
      case rel=>exact⟨k+1,q+nq,by omega,by go_num,by show wr.drewN nq=w4.drewN (q+nq);rw[M.out,World.drewN_drewN]⟩
      case measure=>simp[intOf];omega
     ·go_wp2;go_ret;exact⟨by rw[HE.out];rfl,by rw[M.out];exact below_drewN U q⟩
theorem anF{kind:Int}{l:List Elem}{k:Nat}(h:k<l.length):ag kind (l.take (k+1))=ag kind (l.take k)++(if l[k].amount=0 then[]else[⟨kind,l[k].code,l[k].amount⟩]):=by
 unfold ag;rw[aud h,auE,auK];by_cases e:l[k].amount=0
 ·have j:nz l[k]=false:=by simp[nz,e]
  rw[atP e,auM,j];simp
 ·have j:nz l[k]=true:=by simp[nz,e]
  rw[atO e,auM,j];simp
theorem Dq(kind:Int)(A:Option Addr)(K:Nat)(l:List Elem)(w:World)(h:ai aN 2 w w.heap.size A l)(hl:l.length<=1000000):
  Calls prog 95 #[.int .i64 kind,.slice A l.length K] w fun e w'=>∃v,e=.returned v/\Own fV 3 30 w' w.heap.size v (ag kind l)/\Below w.heap.size w w':=by
 go_enter func95,ntmps95;go_wp2
 go_loopw [5,6] (fun v i wr=>∃k:Nat,k<=l.length/\i=.int .i64 k/\Own fV 3 30 wr w.heap.size v (ag kind (l.take k))/\Below w.heap.size w wr) (fun _ i _=>l.length-(intOf i).toNat)
 case atStart=>exact⟨0,by omega,rfl,Own.cC _ _,atS _ _⟩
 case round=>
  obtain⟨k,hk,rfl,j,E⟩:=hrel;have O:=E.size;by_cases G:k<l.length
  ·obtain⟨b,off,rfl,Q,L⟩:=(h.below E).at_ G;have eJ:b<wr.heap.size:=(by omega);have R:=L 0 _ rfl;have c1:=L 1 _ rfl;simp only[atQ]at R;have fL:(k:Int)<(l.length:Int):=(by omega);clear L;have B:=anF (kind:=kind) G;by_cases D:l[k].amount=0
   ·have Gu:(l[k].amount !=0)=false:=(by simp[D]);rw[atP D,avl]at B;have N:=atM B;clear B D;go_wp2;go_roundw
    case rel=>exact⟨k+1,by omega,by go_num,by rw[N.out];exact j,E⟩
    case measure=>simp[intOf];omega
   ·have Gu:(l[k].amount !=0)=true:=(by simp[D]);rw[atO D]at B;have N:=atM B;have lV:=fun q hq=>(j.bR (g:=q) hq).1;have lI:(ag kind (l.take k)).length<=1000000:=by
     have:=mM kind (l.take k);have h2:(l.take k).length<=l.length:=(by simp;omega);omega
    clear B D;go_wp2;refine anx (C:=fun w'=>Below w.heap.size wr w') (jk _ _ O) (atS _ _) (aE:=?aE) 13 3 (by kernel_rfl) (by kernel_rfl) rfl (by kernel_rfl) (by rfl) ?H ?M
    case H=>
     intro F hF S;simp only[avg,List.take_zero];have e0:∀p:aP (fun w'=>Below w.heap.size wr w') F,p.w'.cell? ⟨b,off+k*2,none⟩=some (.string l[k].code):=fun p=>(p.h.cell (p:=⟨b,off+k*2,none⟩) Q).trans R;have e1:∀p:aP (fun w'=>Below w.heap.size wr w') F,p.w'.cell? ⟨b,off+k*2+1,none⟩=some (.int .i64 l[k].amount):=fun p=>(p.h.cell (p:=⟨b,off+k*2+1,none⟩) Q).trans c1
     repeat(first|go_big_quiet_step(fail))
     refine wpQuiet_nil ?_;rfl
    case M=>
     intro Q0 bS;refine bQ [13] (by kernel_rfl) (by simp) ?_;intro J T y i hi;simp only[bY,bZ,atU]at hi;subst hi;refine bH (.slice (some ⟨J.heap.size,0,none⟩) 1 1) (J.alloc (.cells #[.int .i64 kind,.string l[k].code,.int .i64 l[k].amount] 30)) rfl rfl (by go_simp) ⟨T.alloc (at7 O y.size) _,?_⟩;have z:=ai.new eD J [⟨kind,l[k].code,l[k].amount⟩] _ 30 rfl;rw[<-at2 J (.cells #[.int .i64 kind,.string l[k].code,.int .i64 l[k].amount] 30)]at z;have n:=(j.aa y).alloc (.cells #[.int .i64 kind,.string l[k].code,.int .i64 l[k].amount] 30);have U:w.heap.size<=(J.alloc (.cells #[.int .i64 kind,.string l[k].code,.int .i64 l[k].amount] 30)).heap.size:=(by rw[at2];have:=y.size;omega);refine bQ [14] (by kernel_rfl) (by simp) ?_;intro w2 V u i hi;simp only[bY,bZ,atU]at hi;subst hi;have r:=n.aa u;have X:=z.aa u;refine nW (.tmp 19) (.tmp 32) 25 1 32 _ B0 underlying25 r X eD (by omega) rfl AP (by simp;omega) (by omega) (at7 U u.size) rfl rfl rfl rfl rfl rfl ?_;intro Y w5 Z aZ;have aM:Below w.heap.size wr w5:=V.trans (ib aZ (at7 U u.size) lV);refine⟨aM,?_⟩;refine bQ [15] (by kernel_rfl) (by simp) ?_;intro w6 fM bu i hi;simp only[bY,bZ,atU]at hi;subst hi;refine bH Y w6 rfl rfl rfl ⟨fM,?_⟩;refine kI (by kernel_rfl) ?_;intro w7 cM bB;refine bS _ _ ?_;have cN:=(Z.aa bu).aa bB;have P8:=E.trans cM;clear j n r Z z X aZ bu bB aM T V fM;go_wp2;go_roundw
     case rel=>
      have aj:∃k':Nat,k'<=l.length/\Value.int .i64 ((k:Int)+1)=.int .i64 k'/\Own fV 3 30 w7 w.heap.size Y (ag kind (l.take k'))/\Below w.heap.size w w7:=⟨k+1,by omega,by go_num,by rw[N.out];exact cN,P8⟩
      first|exact aj|((repeat apply Exists.intro);exact⟨aj,rfl⟩)
     case measure=>simp[intOf];omega
  ·go_wp2;go_ret;refine⟨_,rfl,?_,E⟩;rw[aut (by omega)]at j;exact j
