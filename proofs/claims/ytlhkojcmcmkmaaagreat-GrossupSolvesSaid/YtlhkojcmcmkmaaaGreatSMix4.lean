/- Conditions: as stated. -/
import Derived.StillTailTactics
import Derived.Test.YtlhkojcmcmkmaaaGreatSDedV
import Derived.Test.YtlhkojcmcmkmaaaGreatSMix2
set_option maxRecDepth 100000
set_option maxHeartbeats 4000000
namespace Go.Proofs.YtlhkojcmcmkmaaaGreat
open Go.Proofs.Tryz
open Go.RowKit
namespace M5
section
variable {P:Program}{ops:Array Oper}{md:Region.Mode}{C:World->Prop}{s:Nat}
def cM(P:Program)(md:Region.Mode)(ops:Array Oper)(C:World->Prop)(s:Nat)(Q:Act->World->Prop):Nat->Array Bool->Act->World->Prop
 |0,e,a,w=>∀w',C w'->Below w.heap.size w w'->Region.ready md ops e=[]/\Q a w'
 |fuel+1,e,a,w=>∀w',C w'->Below w.heap.size w w'->
  (Region.ready md ops e=[]->Q a w')/\
  ∀i∈Region.ready md ops e,M3.iJ P ops C i (fun l j=>if i=s then Region.ready md ops (e.setIfInBounds i true)=[]/\Q l j else C j/\cM P md ops C s Q fuel (e.setIfInBounds i true) l j) a w'
theorem Ea{Q:Act->World->Prop}:∀{n:Nat} {e:Array Bool} {a:Act} {w l:World},cM P md ops C s Q n e a w->Below w.heap.size w l->cM P md ops C s Q n e a l
 |0,_,_,_,_,h,j=>fun w' c b=>h w' c (j.trans (b.mono j.size))
 |_+1,_,_,_,_,h,j=>fun w' c b=>h w' c (j.trans (b.mono j.size))
theorem wpAny_done{Q':Exit->Act->World->Prop}:∀(j:Nat) {e:Array Bool} {a:Act} {w:World},Region.ready md ops e=[]->Q' .normal a w->wpAny P md ops Q' j e a w
 |0,_,_,_,h,q=>⟨h,q⟩
 |_+1,_,_,_,h,q=>⟨fun _=>q,fun i hi=>by rw[h]at hi;cases hi⟩
theorem Iz{Q:Act->World->Prop}{Q':Exit->Act->World->Prop}(n:∀a w,Q a w->Q' .normal a w):∀(fuel:Nat) (e:Array Bool) (a:Act) (w:World),C w->cM P md ops C s Q fuel e a w->wpAny P md ops Q' fuel e a w
 |0,_,_,w,j,h=>⟨(h w j (arM _ _)).1,n _ _ (h w j (arM _ _)).2⟩
 |fuel+1,e,_,w,j,h=>⟨fun r=>n _ _ ((h w j (arM _ _)).1 r),fun i hi=>M3.Uv j (M3.JW (fun a' w' l=>by
  by_cases p:i=s
  ·rw[arK p]at l;exact wpAny_done fuel l.1 (n _ _ l.2)
  ·rw[arJ p]at l;exact Iz n fuel _ a' w' l.1 l.2) ((h w j (arM _ _)).2 i hi))⟩
theorem NV{Q:Act->World->Prop}{i:Nat}{y os:Oper}{v:Value}(hi:ops[i]?=some y)(Z:∀(j:Nat) (o:Oper) G b,ops[j]?=some o->o.op≠.select G b)
  (FI:ops[s]?=some os) (bA:∃e∈os.after,Region.binds md e=true/\e.on=i):
  ∀(n:Nat) (l:Array Bool) (a:Act) (w:World),
   (∀j D,ops[j]?=some D->j≠i->l.getD j true=false->(∀e∈D.after,Region.binds md e=true->e.on≠i)->y.apart ops D=true)->i≠s->
   i∈Region.ready md ops l->M3.nY P ops C y v a->
   cM P md ops C s Q n (l.setIfInBounds i true) (a.put y.dst v) w->cM P md ops C s Q (n+1) l a w:=by
 intro n
 induction n with
 |zero=>
  intro l a w _ L E hy H w' N u;refine⟨fun h=>(by rw[h]at E;cases E),fun j M=>?_⟩;by_cases z:j=i
  ·subst z;rw[show(fun r p=>if j=s then Region.ready md ops (l.setIfInBounds j true)=[]/\Q r p else C p/\cM P md ops C s Q 0 (l.setIfInBounds j true) r p)=(fun r p=>C p/\cM P md ops C s Q 0 (l.setIfInBounds j true) r p)from by funext r p;rw[arJ L]];exact .inl ⟨y,v,hi,hy,fun O c b=>⟨c,Ea H (u.trans (b.mono u.size))⟩⟩
  ·have:=ready_mono M z;rw[(H w' N u).1]at this;cases this
 |succ n ih=>
  intro l a w JY L E hy H w' N u;refine⟨fun h=>(by rw[h]at E;cases E),fun j M=>?_⟩;by_cases z:j=i
  ·subst z;rw[show(fun r p=>if j=s then Region.ready md ops (l.setIfInBounds j true)=[]/\Q r p else C p/\cM P md ops C s Q (n+1) (l.setIfInBounds j true) r p)=(fun r p=>C p/\cM P md ops C s Q (n+1) (l.setIfInBounds j true) r p)from by funext r p;rw[arJ L]];exact .inl ⟨y,v,hi,hy,fun O c b=>⟨c,Ea H (u.trans (b.mono u.size))⟩⟩
  ·have B:=(H w' N u).2 j (ready_mono M z);obtain⟨JZ,D,F,J⟩:=mem_ready.1 M;have NW:∀e∈D.after,Region.binds md e=true->e.on≠i:=fun e R u S=>by
    have B:=J e R u;have h0:=(mem_ready.1 E).1;rw[S]at B;rcases arY i l.size with h'|h'
    ·simp[h']at h0 B;rw[h0]at B;cases B
    ·simp[atp h']at B
   have T:¬j=s:=fun e=>by
    subst e;rw[FI]at F;injection F with F
    subst F;obtain⟨e,R,U,V⟩:=bA;exact NW e R U V
   simp only[arJ T]at B|-;have h2:=M3.Uw F (JY j D F z JZ NW) (fun G b=>Z i y G b hi) (fun G b=>Z j D G b F) hy B;have Qt:∀k ok,ops[k]?=some ok->k≠i->(l.setIfInBounds j true).getD k true=false->
     (∀e∈ok.after,Region.binds md e=true->e.on≠i)->y.apart ops ok=true:=fun k ok hk eC J0 X=>by
    refine JY k ok hk eC ?_ X;by_cases K:j=k
    ·subst K;exact JZ
    ·rw[getD_set_ne true K]at J0;exact J0
   refine M3.JW (fun a' p Y=>⟨Y.2.1,ih (l.setIfInBounds j true) a' p Qt L (ready_mono E (Ne.symm z)) Y.1 ?_⟩) h2;rw[Array.setIfInBounds_comm _ _ z];exact Y.2.2
def L3(md:Region.Mode)(ops:Array Oper)(s k:Nat):Bool:=decide (k≠s)&&match ops[s]?with
 |some os=>os.after.any (fun e=>Region.binds md e&&e.on==k)
 |none=>false
theorem afv{k:Nat}(h:L3 md ops s k=true):k≠s/\∃os,ops[s]?=some os/\∃e∈os.after,Region.binds md e=true/\e.on=k:=by
 unfold L3 at h;rw[ar5]at h;refine⟨as7 h.1,?_⟩;have j:=h.2;split at j
 ·rename_i os n;obtain⟨e,p,l⟩:=Array.any_eq_true'.1 j;simp only[ar5,beq_iff_eq]at l;exact⟨os,n,e,p,l.1,l.2⟩
 ·cases j
theorem Lm{Q:Act->World->Prop}{aE:Act}{val:Oper->Value}(z:Region.noSelect ops=true){m:Nat}{w:World}:∀(j:List Nat) (e:Array Bool) (a:Act),j.all (fun i=>decide (i<ops.size))=true->j.all (L3 md ops s)=true->
  M3.Cz md ops j e=true->M3.EZ P ops C aE val (M3.cD ops j) a->cM P md ops C s Q m (M3.lX j e) aE w->cM P md ops C s Q (m+j.length) e a w
 |[],_,_,_,_,_,h,n=>by cases h;exact n
 |k::r,e,a,l,p,B,h,n=>by
  simp only[List.all_cons,ar5,ar7]at l p;have u:ops[k]?=some (ops[k]'l.1):=atl l.1
  simp only[M3.Cz,ar5]at B;obtain⟨⟨hr,D⟩,E⟩:=B;simp only[M3.cD,u]at h;obtain⟨y,os,F,G⟩:=afv p.1;exact NV u (Region.noSelect_spec z) F G (m+r.length) e a w (Region.free_spec u D) y (by simpa using hr) h.1
   (Lm z r _ _ l.2 p.2 E h.2 n)
theorem dG{Q:Act->World->Prop}{n:Nat}{listed:Array Bool}{a:Act}{w:World}(i:Nat)(p:Region.ready md ops listed=[i])(l:¬i=s)
  (h:∀w',C w'->Below w.heap.size w w'->M3.iJ P ops C i (fun y r=>C r/\cM P md ops C s Q n (listed.setIfInBounds i true) y r) a w'):cM P md ops C s Q (n+1) listed a w:=by
 intro w' c b;refine⟨fun e=>(by rw[p]at e;cases e),fun j u=>?_⟩;rw[p,asv]at u;subst u;simp only[arJ l];exact h w' c b
theorem YS{Q:Act->World->Prop}{n:Nat}{l:Array Bool}{a:Act}{w:World}(r:List Nat)(D:Region.ready md ops l=r)(p:r.contains s=false)(y:r.isEmpty=false)
  (h:∀w',C w'->Below w.heap.size w w'->∀i∈r,M3.iJ P ops C i (fun E z=>C z/\cM P md ops C s Q n (l.setIfInBounds i true) E z) a w'):cM P md ops C s Q (n+1) l a w:=by
 subst D;intro w' c b;refine⟨fun e=>(by rw[e]at y;cases y),fun j B=>?_⟩;have u:¬j=s:=fun e=>by
  subst e;have:(Region.ready md ops l).contains j=true:=by simpa using B
  rw[this]at p;cases p
 simp only[arJ u];exact h w' c b j B
theorem nZ{Q:Act->World->Prop}{n:Nat}{listed:Array Bool}{a:Act}{w:World}(p:Region.ready md ops listed=[s])(l:Region.ready md ops (listed.setIfInBounds s true)=[])
  (h:∀w',C w'->Below w.heap.size w w'->M3.iJ P ops C s Q a w'):cM P md ops C s Q (n+1) listed a w:=by
 intro w' c b;refine⟨fun e=>(by rw[p]at e;cases e),fun j r=>?_⟩;rw[p,asv]at r;subst r;simp only[ash];exact M3.JW (fun u y q=>⟨l,q⟩) (h w' c b)
theorem F8{Q:Act->World->Prop}{n:Nat}{listed:Array Bool}{a:Act}{w:World}(i:Nat){o:Oper}(v:Value)(r:Region.noSelect ops=true)(l:ops[i]?=some o)
  (p:((Region.ready md ops listed).contains i&&Region.free md ops listed i&&L3 md ops s i)=true) (u:Region.wanted o (yielded ops a.tmps)=true) (e:∀w',(execOp a.eval o).run P w'=.ok (.value v) w')
  (h:cM P md ops C s Q n (listed.setIfInBounds i true) (a.put o.dst v) w):cM P md ops C s Q (n+1) listed a w:=by
 simp only[ar5]at p;obtain⟨⟨y,z⟩,B⟩:=p;obtain⟨j,os,D,E⟩:=afv B;refine NV l (Region.noSelect_spec r) D E n listed a w (Region.free_spec l z) j (by simpa using y) (.inl ⟨u,fun w' _=>?_⟩) h;unfold Oper.quietAt;rw[e];exact⟨rfl,rfl⟩
end
section
variable {P:Program}{C:World->Prop}
theorem iq(j:gu C){id:Nat}{Q:Exit->Act->World->Prop}{a aE:Act}{W:World}(l:C W){L:List Oper}(e:List Nat)(m s:Nat)(u:P.follows .mixedOrders=true)(y:Region.noSelect L.toArray=true)(z:m+e.length=L.length)
  (hi:(e.all (fun i=>decide (i<L.toArray.size))&&e.all (L3 .any L.toArray s)&&M3.Cz .any L.toArray e (Array.replicate L.length false))=true) (hd:M3.kj a.tmps.size (M3.cD L.toArray e)=true)
  (H:∀F:World->Prop,gu F->Inhabited (aP C F)->wpQuiet P L.toArray (fun w'=>∃p:aP C F,w'=p.w') (fun a'=>a'=aE) (M3.cD L.toArray e) a)
  (M:∀n:Act->World->Prop,(∀a w,Q .normal a w->n a w)->cM P .any L.toArray C s n m (M3.lX e (Array.replicate L.length false)) aE W):(Code.region id L.toArray true).wp P Q a W:=by
 simp only[ar5]at hi;refine wp_region_any u ?_;have B:=Lm (md:=.any) y e (Array.replicate L.length false) a hi.1.1 hi.1.2 hi.2 (M3.GL j l _ a hd H) (M _ fun _ _ h=>h);have r:=Iz (Q':=Q) (fun _ _ h=>h) _ _ _ {W with drawn:=W.drawn+1} (j _ _ l (show Below W.heap.size W {W with drawn:=W.drawn+1}from below_drewN (arM _ _) 1)) (Ea B (below_drewN (arM W.heap.size W) 1));rw[z]at r;simpa using r
end
def bZ(W:World)(e:Value)(w':World):Prop:=Below W.heap.size W w'/\w'.cell? ⟨W.heap.size,6,none⟩=some e/\W.heap.size<w'.heap.size
theorem bZ.j5(W:World)(n:Value):gu (bZ W n):=fun _ _ ⟨j,p,l⟩ e=>⟨j.trans (e.mono j.size),(e.cell l).trans p,asy l e.size⟩
theorem bZ.of{W w':World}{j a b c d e f:Value}{t:TypeId}(h:Below W.heap.size W w')(hS:ah w' W.heap.size t #[a,b,c,d,e,f,j]):bZ W j w':=⟨h,(hS.cell 6).trans rfl,hS.lt⟩
end M5
def Pw(e:List cO)(x:Elem):Int:=if iA e x=true then 1 else 2
def kL(e:List cO)(l:List Elem):List dH:=(l.filter nz).map fun x=>⟨Pw e x,x.code,x.amount⟩
theorem afu(e:List cO)(l m:List Elem):kL e (l++m)=kL e l++kL e m:=by simp[kL]
theorem QI(k:Int)(l m:List Elem):ag k (l++m)=ag k l++ag k m:=by simp[ag]
theorem amD(j:List cO)(l:List Elem):(kL j l).Perm (ag 1 (l.filter (iA j))++ag 2 (l.filter fun x=>!iA j x)):=by
 induction l with
 |nil=>exact List.Perm.refl _
 |cons x l p=>
  rw[show x::l=[x]++l from rfl,afu,asO,asO,QI,QI];cases n:iA j x with
  |true=>
   rw[show[x].filter (iA j)=[x]by simp[n],show([x].filter fun x=>!iA j x)=[]by simp[n]];have e:kL j [x]=ag 1 [x]:=by
    unfold kL ag;refine List.map_congr_left fun y hy=>?_;obtain rfl:y=x:=by simpa using DL hy
    rw[Pw,arK n]
   rw[e,asH];exact List.Perm.append_left _ p
  |false=>
   rw[show[x].filter (iA j)=[]by simp[n],show([x].filter fun x=>!iA j x)=[x]by simp[n]];have e:kL j [x]=ag 2 [x]:=by
    unfold kL ag;refine List.map_congr_left fun y hy=>?_;obtain rfl:y=x:=by simpa using DL hy
    rw[Pw,arJ (by simp[n])]
   rw[e,show ag 1 []++ag 1 (l.filter (iA j))=ag 1 (l.filter (iA j))from rfl];refine(List.Perm.append_left _ p).trans ?_;rw[<-asH,<-asH];exact List.Perm.append_right _ List.perm_append_comm
namespace aY
variable (I:aY)
def zT(l:List bR):List dH:=l.flatMap fun s=>ag 4 [⟨s.code,(I.dK s).aA⟩]++ag 5 [⟨s.code,(I.dK s).aT⟩]
theorem aaS(l:List bR):(I.zT l).Perm (ag 4 (I.gX l)++ag 5 (I.iE l)):=by
 induction l with
 |nil=>exact List.Perm.refl _
 |cons s l e=>rw[show I.gX (s::l)=[⟨s.code,(I.dK s).aA⟩]++I.gX l from rfl,show I.iE (s::l)=[⟨s.code,(I.dK s).aT⟩]++I.iE l from rfl,QI,QI];unfold zT at e|-;rw[asL,asH,asH];refine List.Perm.append_left _ ?_;refine(List.Perm.append_left _ e).trans ?_;rw[<-asH,<-asH];exact List.Perm.append_right _ List.perm_append_comm
def made:List dH:=kL I.r.cB I.merged++ag 3 I.before++I.zT I.r.aV++ag 6 [⟨⟨#[]⟩,I.aw⟩]++ag 7 I.dp++ag 8 I.after++(if 0<I.kD then ag 9 [⟨⟨#[]⟩,I.kD⟩]else ag 10 [⟨⟨#[]⟩,-I.kD⟩])
theorem amE:I.made.Perm I.lines:=by
 unfold made lines cN cR;have j:=amD I.r.cB I.merged;have l:=I.aaS I.r.aV;have n:(if 0<I.kD then ag 9 [⟨⟨#[]⟩,I.kD⟩]else ag 10 [⟨⟨#[]⟩,-I.kD⟩])=ag 9 [⟨⟨#[]⟩,max I.kD 0⟩]++ag 10 [⟨⟨#[]⟩,max (-I.kD) 0⟩]:=by
  split
  ·rename_i h;rw[show max I.kD 0=I.kD by omega,show max (-I.kD) 0=0 by omega];simp[ag,nz]
  ·rename_i h;rw[show max I.kD 0=0 by omega,show max (-I.kD) 0=-I.kD by omega];simp[ag,nz]
 rw[n];have e:=((((((j.append_right (ag 3 I.before)).append l).append_right (ag 6 [⟨⟨#[]⟩,I.aw⟩])).append_right (ag 7 I.dp)).append_right (ag 8 I.after)).append_right (ag 9 [⟨⟨#[]⟩,max I.kD 0⟩]++ag 10 [⟨⟨#[]⟩,max (-I.kD) 0⟩]))
 simpa only[asH]using e
end aY
theorem sorted_perm{l p:List dH}(r:RL.Py l)(y:p.Perm l)(B:p.Pairwise (fun a b=>GM b a=false)):p=l:=by
 refine y.eq_of_pairwise (le:=fun a b=>GM b a=false) ?_ B (r.imp fun{a b} h=>?_)
 ·intro a b D E F G;have u:=y.mem_iff.1 D;rcases aso.1 u with⟨i,hi,rfl⟩
  rcases aso.1 E with⟨j,z,rfl⟩
  rcases Nat.lt_trichotomy i j with h|h|h
  ·have:=asz.1 r i j hi z h;have n:GM l[i] l[j]=true:=this;rw[G]at n;cases n
  ·subst h;rfl
  ·have:=asz.1 r j i z hi h;have n:GM l[j] l[i]=true:=this;rw[F]at n;cases n
 ·have J:GM a b=true:=h;cases e:GM b a with
  |false=>rfl
  |true=>have:=S3.trans _ _ _ J e;rw[S3.irrefl]at this;cases this
theorem LH{l:List bP}(h:gl l=true):l.length<=16/\∀x∈l,x.code.size<=maxLen:=⟨(IM.1 h).1,fun x e=>Hl ((IM.1 h).2.1 x e).name⟩
theorem AD{l:List Elem}(h:eP l=true):l.length<=128/\∀x∈l,x.code.size<=maxLen:=by obtain⟨e,j,_⟩:=pZ.1 h;exact⟨e,fun x n=>Hl (j x n).1⟩
theorem amF(m:jw)(w:World)(h:m.In w)(n:N9 m.t):Calls prog 127 #[m.val] w fun e w'=>e=.returned (.bool true)/\Below w.heap.size w w':=by
 have d0:0<=m.deps:=n.d0;have d1:m.deps<=20:=n.d1;have Dn:m.es.length<=7:=by have:=n.OP;simpa[jw.t]using this
 have G:∀e∈m.es,e.v∈m.t.others:=fun e r=>ar8.2 ⟨e,r,rfl⟩;have HE:Hid (∀e∈m.es,(0<=e.base/\e.base<=1000000000)/\e.l.length<=53/\∀x∈e.l,0<=x/\x<=1000000000):=fun e r=>⟨n.base _ (G e r),n.lens _ (G e r),n.earlier _ (G e r)⟩
 have hd:gl m.ds=true:=n.j9;obtain⟨ab,X⟩:=LH hd;have Y:Hid (∀W,Below w.heap.size w W->Calls prog 132 #[.slice m.Ad m.ds.length m.cd] W fun e w'=>e=.returned (.bool true)/\Below W.heap.size W w'):=fun W J=>by
  have:=Z0 m.Ad m.cd m.ds W (h.ds.aa J) X (by omega)
  rwa [hd]at this
 have Z:Hid (∀W,Below w.heap.size w W->Calls prog 148 #[.slice m.Ao m.os.length m.co] W fun e w'=>e=.returned (.bool true)/\Below W.heap.size W w'):=fun W J=>Y5 m.Ao m.co m.os W (h.os.aa J) n.orders;clear n hd X G;unfold jw.val;go_enter func127,ntmps127;have K:=ah.new w 50 #[.int .i64 m.deps,.slice m.Ad m.ds.length m.cd,.slice m.Ao m.os.length m.co,.slice m.Ae m.es.length m.ce];have L:=bD w (.cells #[.int .i64 m.deps,.slice m.Ad m.ds.length m.cd,.slice m.Ao m.os.length m.co,.slice m.Ae m.es.length m.ce] 50);go_upto_region 1 with fail
 generalize w.alloc (Obj.cells _ _)=W at K L|-;obtain⟨M,N,O,z⟩:=K.cz4;go_wp2_with fail;refine(MD d0 d1 _).mono ?_;rintro e w' ⟨rfl,rfl⟩;go_wp2_with fail;refine(Y.out _ L).mono ?_;rintro e w1 ⟨rfl,u⟩;have Q:=K.aa u;have R:=aB L u;clear K L u M N O z;obtain⟨M,N,O,z⟩:=Q.cz4;go_wp2_with fail;refine(Z.out _ R).mono ?_;rintro e w2 ⟨rfl,p⟩;have S:=Q.aa p;have T:=aB R p;clear Q R p M N O z;have z:=S.cell 3;simp only[ak,aq,ar]at z;have U:=h.es.aa T;have oK:Hid (∀e∈m.es,aj encI 1 w2 w2.heap.size e.A e.l):=fun e r=>(h.ins e r).aa T;have Ru:=S.lt;clear h Y Z S;go_wp2_with fail
 go_loop [3] (fun i=>∃k:Nat,k<=m.es.length/\i=.int .i64 k) (fun i=>m.es.length-(intOf i).toNat)
 case atStart=>exact⟨0,by omega,rfl⟩
 case round=>
  obtain⟨k,hk,rfl⟩:=hrel;by_cases y:k<m.es.length
  ·obtain⟨b,ad,hA,J,V⟩:=U.at_ y;have c0:=V 0 _ rfl;have c1:=V 1 _ rfl;simp only[arL]at c0;have eC:(k:Int)<(m.es.length:Int):=(by omega);clear V;rw[hA]at z;clear hA;obtain⟨⟨b0,b1⟩,lz,D⟩:=HE.out _ (arO y);have Pz:=arH D;have jg:=oK.out _ (arO y);clear D;go_wp2_with fail;refine(MD b0 b1 _).mono ?_;rintro e w' ⟨rfl,rfl⟩;go_wp2_with fail
   go_loop [4] (fun i=>∃j:Nat,j<=m.es[k].l.length/\i=.int .i64 j) (fun i=>m.es[k].l.length-(intOf i).toNat)
   case atStart=>exact⟨0,by omega,rfl⟩
   case round=>
    obtain⟨j,hj,rfl⟩:=hrel;by_cases o7:j<m.es[k].l.length
    ·obtain⟨b2,Ge,dP,p,E⟩:=jg.at_ o7;have Sv:=E 0 _ rfl;simp only[arL,ast]at Sv;have kz:(j:Int)<(m.es[k].l.length:Int):=(by omega);clear E;rw[dP]at c0;clear dP;obtain⟨x0,x1⟩:=Pz.out _ (arO o7);go_wp2_with fail;refine(MD x0 x1 _).mono ?_;rintro e w' ⟨rfl,rfl⟩;go_wp2;go_round
     case rel=>
      have B:∃F:Nat,F<=m.es[k].l.length/\Value.int .i64 ((j:Int)+1)=.int .i64 F:=⟨j+1,by omega,by go_num⟩
      first|exact B|(refine⟨trivial,?_⟩;(repeat apply Exists.intro);exact⟨B,rfl⟩)|((repeat apply Exists.intro);exact⟨B,rfl⟩)
     case measure=>simp[intOf];omega
    ·go_wp2;go_round
     case rel=>
      have B:∃F:Nat,F<=m.es.length/\Value.int .i64 ((k:Int)+1)=.int .i64 F:=⟨k+1,by omega,by go_num⟩
      first|exact B|exact⟨k+1,by omega,by omega⟩|((repeat apply Exists.intro);exact⟨B,rfl⟩)
     case measure=>simp[intOf];omega
  ·go_wp2;go_ret;exact⟨rfl,T⟩
theorem amG(m:dD)(w:World)(h:m.In w)(hY:Kw m.t):Calls prog 128 #[m.val] w fun e w'=>e=.returned (.bool true)/\Below w.heap.size w w':=by
 obtain⟨u,ax,E,O,Q,l,At,y,j⟩:=m;obtain⟨R,S,n,F,T,U,w0,En,z⟩:=hY;simp only[dD.t]at R S n F T U w0 En z;obtain⟨G,J⟩:=h;simp only at G J;have K:=arH F;obtain⟨ab,V⟩:=AD z;have X:Hid (∀W,Below w.heap.size w W->Calls prog 129 #[.slice At j.length y] W fun e w'=>e=.returned (.bool true)/\Below W.heap.size W w'):=fun W Y=>by
  have:=UR At y j W (J.aa Y) V (by omega)
  rwa [z]at this
 have ad:l.length<=53:=by omega
 have af:((l.length:Int)!=u)=false:=by simp[n]
 have mD:=arH n;clear F z V n J;unfold dD.val;simp only;go_enter func128,ntmps128;have B:=ah.new w 53 #[.int .i64 u,.int .i64 ax,.int .i64 E,.slice O l.length Q,.slice At j.length y];have D:=bD w (.cells #[.int .i64 u,.int .i64 ax,.int .i64 E,.slice O l.length Q,.slice At j.length y] 53);go_upto_region 1 with fail
 generalize w.alloc (Obj.cells _ _)=W at B D|-;obtain⟨z0,z1,z2,L,z4⟩:=B.cz5;go_wp2_with fail;refine(MD R S _).mono ?_;rintro e w' ⟨rfl,rfl⟩;go_wp2_with fail;refine(MD T U _).mono ?_;rintro e w' ⟨rfl,rfl⟩;have al:-u*1000000000<=E:=by omega
 go_wp2_with fail;refine(X.out _ D).mono ?_;rintro e w1 ⟨rfl,p⟩;have M:=B.aa p;have Z:=aB D p;clear B D p z0 z1 z2 L z4;have L:=M.cell 3;simp only[ak,aq,ar]at L;have N:=G.aa Z;have Ru:=M.lt;clear M G X;go_wp2_with fail
 go_loop [3] (fun i=>∃k:Nat,k<=l.length/\i=.int .i64 k) (fun i=>l.length-(intOf i).toNat)
 case atStart=>exact⟨0,by omega,rfl⟩
 case round=>
  obtain⟨k,hk,rfl⟩:=hrel;by_cases r:k<l.length
  ·obtain⟨b,am,rfl,Y,hc⟩:=N.at_ r;have c0:=hc 0 _ rfl;simp only[arL,ast]at c0;have eC:(k:Int)<(l.length:Int):=(by omega);clear hc;obtain⟨x0,x1⟩:=K.out _ (arO r);go_wp2_with fail;refine(MD x0 x1 _).mono ?_;rintro e w' ⟨rfl,rfl⟩;go_wp2;go_round
   case rel=>exact⟨k+1,by omega,by go_num⟩
   case measure=>simp[intOf];omega
  ·go_wp2;go_ret;exact⟨rfl,Z⟩
def pk(j e:Int):Int:=if e<=j then 3 else 0
theorem ajU(r:cY)(p:jw)(y:dD)(K:Option Addr)(V:Nat)(kept:List Elem)(w:World)(hr:r.In w)(X:p.In w)(hy:y.In w)(Y:aj aQ 2 w w.heap.size K kept)
  (N:AU r.t) (Z:N9 p.t) (O:Kw y.t) (hK:WB kept) (hS:∀e∈p.es,(e.l.length:Int)=y.az):
  Calls prog 86 #[r.val,p.val,y.val,.slice K kept.length V] w fun e w'=>e=.returned (.int .i64 (pk y.az r.count))/\Below w.heap.size w w':=by
 have HV:Hid (∀W,Below w.heap.size w W->Calls prog 122 #[.agg #[.slice r.Aw r.ws.length r.cw,.slice r.As r.ss.length r.cs,.int .i64 r.tm.t.method,.slice r.tm.Ab r.tm.t.au.length r.tm.cb,.int .i64 r.tm.t.aZ,.int .i64 r.tm.t.bf,.int .i64 r.tm.t.unit,.int .i64 r.tm.t.mode,.slice r.tm.Ar r.tm.t.rows.length r.tm.cr,.int .i64 r.count,.int .i64 r.sh.fixed,.int .i64 r.sh.bn,.int .i64 r.sh.lower,.int .i64 r.sh.share,.int .i64 r.sh.top,.int .i64 r.recover]] W fun e w'=>e=.returned (.bool true)/\Below W.heap.size W w'):=fun W D=>ad5 r W (hr.aa D) N;have HP:Hid (∀W,Below w.heap.size w W->Calls prog 127 #[.agg #[.int .i64 p.deps,.slice p.Ad p.ds.length p.cd,.slice p.Ao p.os.length p.co,.slice p.Ae p.es.length p.ce]] W fun e w'=>e=.returned (.bool true)/\Below W.heap.size W w'):=fun W D=>amF p W (X.aa D) Z;have HY:Hid (∀W,Below w.heap.size w W->Calls prog 128 #[.agg #[.int .i64 y.az,.int .i64 y.ax,.int .i64 y.aN,.slice y.Ai y.ins.length y.ci,.slice y.At y.taken.length y.ct]] W fun e w'=>e=.returned (.bool true)/\Below W.heap.size W w'):=fun W D=>amG y W (hy.aa D) O;obtain⟨Ni,Ye,S5⟩:=hK;obtain⟨_,S6⟩:=AD Ni;have HK:Hid (∀W,Below w.heap.size w W->Calls prog 129 #[.slice K kept.length V] W fun e w'=>e=.returned (.bool true)/\Below W.heap.size W w'):=fun W D=>by
  have:=UR K V kept W (Y.aa D) S6 (by omega)
  rwa [Ni]at this
 have ab:=arH S5;have HS:=arH hS;have Dn:p.es.length<=7:=by have:=Z.OP;simpa[jw.t]using this
 have y0:0<=y.az:=O.p0;have y1:y.az<=53:=O.p1;have r0:1<=r.count:=N.c0;have r1:r.count<=53:=N.c1;clear N Z O Ni S6 S5 hS hr hy;unfold cY.val jw.val dD.val;go_enter func86,ntmps86;have Q:=((ah.new w 45 #[.slice r.Aw r.ws.length r.cw,.slice r.As r.ss.length r.cs,.int .i64 r.tm.t.method,.slice r.tm.Ab r.tm.t.au.length r.tm.cb,.int .i64 r.tm.t.aZ,.int .i64 r.tm.t.bf,.int .i64 r.tm.t.unit,.int .i64 r.tm.t.mode,.slice r.tm.Ar r.tm.t.rows.length r.tm.cr,.int .i64 r.count,.int .i64 r.sh.fixed,.int .i64 r.sh.bn,.int .i64 r.sh.lower,.int .i64 r.sh.share,.int .i64 r.sh.top,.int .i64 r.recover]).alloc (.cells #[.int .i64 p.deps,.slice p.Ad p.ds.length p.cd,.slice p.Ao p.os.length p.co,.slice p.Ae p.es.length p.ce] 50)).alloc (.cells #[.int .i64 y.az,.int .i64 y.ax,.int .i64 y.aN,.slice y.Ai y.ins.length y.ci,.slice y.At y.taken.length y.ct] 53);have R:=(ah.new (w.alloc (.cells #[.slice r.Aw r.ws.length r.cw,.slice r.As r.ss.length r.cs,.int .i64 r.tm.t.method,.slice r.tm.Ab r.tm.t.au.length r.tm.cb,.int .i64 r.tm.t.aZ,.int .i64 r.tm.t.bf,.int .i64 r.tm.t.unit,.int .i64 r.tm.t.mode,.slice r.tm.Ar r.tm.t.rows.length r.tm.cr,.int .i64 r.count,.int .i64 r.sh.fixed,.int .i64 r.sh.bn,.int .i64 r.sh.lower,.int .i64 r.sh.share,.int .i64 r.sh.top,.int .i64 r.recover] 45)) 50 #[.int .i64 p.deps,.slice p.Ad p.ds.length p.cd,.slice p.Ao p.os.length p.co,.slice p.Ae p.es.length p.ce]).alloc (.cells #[.int .i64 y.az,.int .i64 y.ax,.int .i64 y.aN,.slice y.Ai y.ins.length y.ci,.slice y.At y.taken.length y.ct] 53);have S:=ah.new ((w.alloc (.cells #[.slice r.Aw r.ws.length r.cw,.slice r.As r.ss.length r.cs,.int .i64 r.tm.t.method,.slice r.tm.Ab r.tm.t.au.length r.tm.cb,.int .i64 r.tm.t.aZ,.int .i64 r.tm.t.bf,.int .i64 r.tm.t.unit,.int .i64 r.tm.t.mode,.slice r.tm.Ar r.tm.t.rows.length r.tm.cr,.int .i64 r.count,.int .i64 r.sh.fixed,.int .i64 r.sh.bn,.int .i64 r.sh.lower,.int .i64 r.sh.share,.int .i64 r.sh.top,.int .i64 r.recover] 45)).alloc (.cells #[.int .i64 p.deps,.slice p.Ad p.ds.length p.cd,.slice p.Ao p.os.length p.co,.slice p.Ae p.es.length p.ce] 50)) 53 #[.int .i64 y.az,.int .i64 y.ax,.int .i64 y.aN,.slice y.Ai y.ins.length y.ci,.slice y.At y.taken.length y.ct];have T:=ej (ej (bD w (.cells #[.slice r.Aw r.ws.length r.cw,.slice r.As r.ss.length r.cs,.int .i64 r.tm.t.method,.slice r.tm.Ab r.tm.t.au.length r.tm.cb,.int .i64 r.tm.t.aZ,.int .i64 r.tm.t.bf,.int .i64 r.tm.t.unit,.int .i64 r.tm.t.mode,.slice r.tm.Ar r.tm.t.rows.length r.tm.cr,.int .i64 r.count,.int .i64 r.sh.fixed,.int .i64 r.sh.bn,.int .i64 r.sh.lower,.int .i64 r.sh.share,.int .i64 r.sh.top,.int .i64 r.recover] 45)) (.cells #[.int .i64 p.deps,.slice p.Ad p.ds.length p.cd,.slice p.Ao p.os.length p.co,.slice p.Ae p.es.length p.ce] 50)) (.cells #[.int .i64 y.az,.int .i64 y.ax,.int .i64 y.aN,.slice y.Ai y.ins.length y.ci,.slice y.At y.taken.length y.ct] 53);simp only[arU]at R S;go_upto_region 1 with fail
 generalize World.alloc _ (Obj.cells #[.int .i64 y.az,.int .i64 y.ax,.int .i64 y.aN,.slice y.Ai y.ins.length y.ci,.slice y.At y.taken.length y.ct] 53)=W at Q R S T|-;obtain⟨G,J,L,E,z4,z5,z6,z7,z8,z9,kX,kY,ad,kZ,k6,k7⟩:=Q.cz16;go_wp2_with fail;refine(HV.out _ T).mono ?_;rintro e w1 ⟨rfl,j⟩;have CE:=Q.aa j;have nc:=R.aa j;have BF:=S.aa j;have aS:=aB T j;clear Q R S T j G J L E z4 z5 z6 z7 z8 z9 kX kY ad kZ k6 k7;obtain⟨G,J,L,E⟩:=nc.cz4;go_wp2_with fail;refine(HP.out _ aS).mono ?_;rintro e w2 ⟨rfl,n⟩;have kH:=CE.aa n;have zV:=nc.aa n;have o9:=BF.aa n;have bB:=aB aS n;clear CE nc BF aS n G J L E;obtain⟨G,J,L,E,z4⟩:=o9.cz5;go_wp2_with fail;refine(HY.out _ bB).mono ?_;rintro e w3 ⟨rfl,u⟩;have S7:=kH.aa u;have Jb:=zV.aa u;have Fl:=o9.aa u;have cX:=aB bB u;clear kH zV o9 bB u G J L E z4;go_wp2_with fail;refine(HK.out _ cX).mono ?_;rintro e w4 ⟨rfl,z⟩;have BP:=S7.aa z;have S8:=Jb.aa z;have Gi:=Fl.aa z;have U:=aB cX z;clear S7 Jb Fl cX z;have z9:=BP.cell 9;have E:=S8.cell 3;have Ln:=Gi.cell 0;simp only[ak,aq,ar]at z9 E Ln;have af:=Y.aa U;have ai:=X.es.aa U;have ao:=BP.lt;have ap:=S8.lt;have av:=Gi.lt;clear BP S8 Gi HV HP HY HK Y X;go_wp2_with fail
 go_loop [9] (fun i=>∃k:Nat,k<=kept.length/\i=.int .i64 k) (fun i=>kept.length-(intOf i).toNat)
 case atStart=>exact⟨0,by omega,rfl⟩
 case round=>
  obtain⟨k,D7,rfl⟩:=hrel;by_cases B:k<kept.length
  ·obtain⟨b,al,rfl,D,F⟩:=af.at_ B;have c0:=F 0 _ rfl;have c1:=F 1 _ rfl;simp only[arL]at c0;have eC:(k:Int)<(kept.length:Int):=(by omega);clear F;have ay:=ab.out _ (arO B);go_wp2;go_round
   case rel=>exact⟨k+1,by omega,by go_num⟩
   case measure=>simp[intOf];omega
  ·by_cases nA:r.count<=y.az
   ·have HE:Hid (pk y.az r.count=3):=(by rw[Hid,pk,arK nA]);go_wp2;go_ret;exact⟨by rw[HE.out];rfl,U⟩
   ·have HE:Hid (pk y.az r.count=0):=(by rw[Hid,pk,arJ nA]);go_wp2_with fail
    go_loopw [10] (fun i wr=>∃k q:Nat,k<=p.es.length/\i=.int .i64 k/\Hid (wr=w4.drewN q)) (fun i _=>p.es.length-(intOf i).toNat)
    case atStart=>exact⟨0,0,by omega,rfl,rfl⟩
    case round=>
     obtain⟨k,q,D7,rfl,M⟩:=hrel;have am:wr.cell? ⟨w.heap.size+1,3,none⟩=some (.slice p.Ae p.es.length p.ce):=(by rw[M.out];exact E);have aA:wr.cell? ⟨w.heap.size+1+1,0,none⟩=some (.int .i64 y.az):=(by rw[M.out];exact Ln);have an:aj Ce 2 wr w4.heap.size p.Ae p.es:=(by rw[M.out];exact ai);by_cases B:k<p.es.length
     ·obtain⟨b,al,hA,D,F⟩:=an.at_ B;have c0:=F 0 _ rfl;have c1:=F 1 _ rfl;simp only[arL]at c0;have eC:(k:Int)<(p.es.length:Int):=(by omega);clear F;rw[hA]at am;clear hA;have aE:((p.es[k].l.length:Int)!=y.az)=false:=(by rw[HS.out _ (arO B)];simp);go_wp2;go_quiet(fail);go_wp2;go_roundw
      case rel=>exact⟨k+1,q+nq,by omega,by go_num,by show wr.drewN nq=w4.drewN (q+nq);rw[M.out,World.drewN_drewN]⟩
      case measure=>simp[intOf];omega
     ·go_wp2;go_ret;exact⟨by rw[HE.out];rfl,by rw[M.out];exact below_drewN U q⟩
theorem amJ{kind:Int}{l:List Elem}{k:Nat}(h:k<l.length):ag kind (l.take (k+1))=ag kind (l.take k)++(if l[k].amount=0 then[]else[⟨kind,l[k].code,l[k].amount⟩]):=by
 unfold ag;rw[ar9 h,asO,asW];by_cases e:l[k].amount=0
 ·have j:nz l[k]=false:=by simp[nz,e]
  rw[arK e,as0,j];simp
 ·have j:nz l[k]=true:=by simp[nz,e]
  rw[arJ e,as0,j];simp
theorem Dh(kind:Int)(A:Option Addr)(L:Nat)(l:List Elem)(w:World)(h:aj aQ 2 w w.heap.size A l)(hl:l.length<=1000000):
  Calls prog 95 #[.int .i64 kind,.slice A l.length L] w fun e w'=>∃v,e=.returned v/\Own iZ 3 30 w' w.heap.size v (ag kind l)/\Below w.heap.size w w':=by
 go_enter func95,ntmps95;go_wp2
 go_loopw [5,6] (fun v i wr=>∃k:Nat,k<=l.length/\i=.int .i64 k/\Own iZ 3 30 wr w.heap.size v (ag kind (l.take k))/\Below w.heap.size w wr) (fun _ i _=>l.length-(intOf i).toNat)
 case atStart=>exact⟨0,by omega,rfl,Own.cL _ _,arM _ _⟩
 case round=>
  obtain⟨k,hk,rfl,j,G⟩:=hrel;have Q:=G.size;by_cases J:k<l.length
  ·obtain⟨b,u,rfl,R,N⟩:=(h.below G).at_ J;have gY:b<wr.heap.size:=(by omega);have S:=N 0 _ rfl;have c1:=N 1 _ rfl;simp only[arL]at S;have eC:(k:Int)<(l.length:Int):=(by omega);clear N;have D:=amJ (kind:=kind) J;by_cases E:l[k].amount=0
   ·have Mj:(l[k].amount !=0)=false:=(by simp[E]);rw[arK E,List.append_nil]at D;have O:=arH D;clear D E;go_wp2;go_roundw
    case rel=>exact⟨k+1,by omega,by go_num,by rw[O.out];exact j,G⟩
    case measure=>simp[intOf];omega
   ·have Mj:(l[k].amount !=0)=true:=(by simp[E]);rw[arJ E]at D;have O:=arH D;have og:=fun q hq=>(j.cm (g:=q) hq).1;have lz:(ag kind (l.take k)).length<=1000000:=by
     have:=mA kind (l.take k);have h2:(l.take k).length<=l.length:=(by simp;omega);omega
    clear D E;go_wp2;refine amC (C:=fun w'=>Below w.heap.size wr w') (iM _ _ Q) (arM _ _) (aE:=?aE) 13 3 (by kernel_rfl) (by kernel_rfl) rfl (by kernel_rfl) (by rfl) ?H ?M
    case H=>
     intro F hF T;simp only[List.take_succ_cons,List.take_zero];have e0:∀p:aP (fun w'=>Below w.heap.size wr w') F,p.w'.cell? ⟨b,u+k*2,none⟩=some (.string l[k].code):=fun p=>(p.h.cell (p:=⟨b,u+k*2,none⟩) R).trans S;have e1:∀p:aP (fun w'=>Below w.heap.size wr w') F,p.w'.cell? ⟨b,u+k*2+1,none⟩=some (.int .i64 l[k].amount):=fun p=>(p.h.cell (p:=⟨b,u+k*2+1,none⟩) R).trans c1
     repeat(first|go_big_quiet_step(fail))
     refine wpQuiet_nil ?_;rfl
    case M=>
     intro Q0 bO;refine bG [13] (by kernel_rfl) (by simp) ?_;intro K U z i hi;simp only[bM,bN,arN]at hi;subst hi;refine bw (.slice (some ⟨K.heap.size,0,none⟩) 1 1) (K.alloc (.cells #[.int .i64 kind,.string l[k].code,.int .i64 l[k].amount] 30)) rfl rfl (by go_simp) ⟨U.alloc (ar0 Q z.size) _,?_⟩;have B:=aj.new eG K [⟨kind,l[k].code,l[k].amount⟩] _ 30 rfl;rw[<-arU K (.cells #[.int .i64 kind,.string l[k].code,.int .i64 l[k].amount] 30)]at B;have n:=(j.aa z).alloc (.cells #[.int .i64 kind,.string l[k].code,.int .i64 l[k].amount] 30);have V:w.heap.size<=(K.alloc (.cells #[.int .i64 kind,.string l[k].code,.int .i64 l[k].amount] 30)).heap.size:=(by rw[arU];have:=z.size;omega);refine bG [14] (by kernel_rfl) (by simp) ?_;intro w2 X y i hi;simp only[bM,bN,arN]at hi;subst hi;have r:=n.aa y;have Y:=B.aa y;refine oq (.tmp 19) (.tmp 32) 25 1 32 _ B1 underlying25 r Y eG (by omega) rfl AK (by simp;omega) (by omega) (ar0 V y.size) rfl rfl rfl rfl rfl rfl ?_;intro Z w5 dy bp;have aO:Below w.heap.size wr w5:=X.trans (gU bp (ar0 V y.size) og);refine⟨aO,?_⟩;refine bG [15] (by kernel_rfl) (by simp) ?_;intro w6 ft bL i hi;simp only[bM,bN,arN]at hi;subst hi;refine bw Z w6 rfl rfl rfl ⟨ft,?_⟩;refine jZ (by kernel_rfl) ?_;intro w7 cC bk;refine bO _ _ ?_;have dc:=(dy.aa bL).aa bk;have PA:=G.trans cC;clear j n r dy B Y bp bL bk aO U X ft;go_wp2;go_roundw
     case rel=>
      have ay:∃k':Nat,k'<=l.length/\Value.int .i64 ((k:Int)+1)=.int .i64 k'/\Own iZ 3 30 w7 w.heap.size Z (ag kind (l.take k'))/\Below w.heap.size w w7:=⟨k+1,by omega,by go_num,by rw[O.out];exact dc,PA⟩
      first|exact ay|((repeat apply Exists.intro);exact⟨ay,rfl⟩)
     case measure=>simp[intOf];omega
  ·go_wp2;go_ret;refine⟨_,rfl,?_,G⟩;rw[asB (by omega)]at j;exact j
