/- Conditions: as stated. -/
import Derived.StillTailTactics
import Derived.Test.YtlhkojcmcmkmaaaGreatKDedV
import Derived.Test.YtlhkojcmcmkmaaaGreatKMix2
set_option maxRecDepth 100000
set_option maxHeartbeats 4000000
namespace Go.Proofs.YtlhkojcmcmkmaaaGreat
open Go.Proofs.Tryz
open Go.RowKit
namespace M5
section
variable {P:Program}{ops:Array Oper}{md:Region.Mode}{C:World->Prop}{s:Nat}
def cG(P:Program)(md:Region.Mode)(ops:Array Oper)(C:World->Prop)(s:Nat)(Q:Act->World->Prop):Nat->Array Bool->Act->World->Prop
 |0,e,a,w=>∀w',C w'->Below w.heap.size w w'->Region.ready md ops e=[]/\Q a w'
 |fuel+1,e,a,w=>∀w',C w'->Below w.heap.size w w'->
  (Region.ready md ops e=[]->Q a w')/\
  ∀i∈Region.ready md ops e,M3.im P ops C i (fun l j=>if i=s then Region.ready md ops (e.setIfInBounds i true)=[]/\Q l j else C j/\cG P md ops C s Q fuel (e.setIfInBounds i true) l j) a w'
theorem Dx{Q:Act->World->Prop}:∀{n:Nat} {e:Array Bool} {a:Act} {w l:World},cG P md ops C s Q n e a w->Below w.heap.size w l->cG P md ops C s Q n e a l
 |0,_,_,_,_,h,j=>fun w' c b=>h w' c (j.trans (b.mono j.size))
 |_+1,_,_,_,_,h,j=>fun w' c b=>h w' c (j.trans (b.mono j.size))
theorem wpAny_done{Q':Exit->Act->World->Prop}:∀(j:Nat) {e:Array Bool} {a:Act} {w:World},Region.ready md ops e=[]->Q' .normal a w->wpAny P md ops Q' j e a w
 |0,_,_,_,h,q=>⟨h,q⟩
 |_+1,_,_,_,h,q=>⟨fun _=>q,fun i hi=>by rw[h]at hi;cases hi⟩
theorem Hu{Q:Act->World->Prop}{Q':Exit->Act->World->Prop}(n:∀a w,Q a w->Q' .normal a w):∀(fuel:Nat) (e:Array Bool) (a:Act) (w:World),C w->cG P md ops C s Q fuel e a w->wpAny P md ops Q' fuel e a w
 |0,_,_,w,j,h=>⟨(h w j (arb _ _)).1,n _ _ (h w j (arb _ _)).2⟩
 |fuel+1,e,_,w,j,h=>⟨fun r=>n _ _ ((h w j (arb _ _)).1 r),fun i hi=>M3.T1 j (M3.JA (fun a' w' l=>by
  by_cases p:i=s
  ·rw[aq9 p]at l;exact wpAny_done fuel l.1 (n _ _ l.2)
  ·rw[aq8 p]at l;exact Hu n fuel _ a' w' l.1 l.2) ((h w j (arb _ _)).2 i hi))⟩
theorem Nu{Q:Act->World->Prop}{i:Nat}{y os:Oper}{v:Value}(hi:ops[i]?=some y)(Z:∀(j:Nat) (o:Oper) G b,ops[j]?=some o->o.op≠.select G b)
  (E4:ops[s]?=some os) (br:∃e∈os.after,Region.binds md e=true/\e.on=i):
  ∀(n:Nat) (l:Array Bool) (a:Act) (w:World),
   (∀j D,ops[j]?=some D->j≠i->l.getD j true=false->(∀e∈D.after,Region.binds md e=true->e.on≠i)->y.apart ops D=true)->i≠s->
   i∈Region.ready md ops l->M3.nE P ops C y v a->
   cG P md ops C s Q n (l.setIfInBounds i true) (a.put y.dst v) w->cG P md ops C s Q (n+1) l a w:=by
 intro n
 induction n with
 |zero=>
  intro l a w _ L E hy H w' N u;refine⟨fun h=>(by rw[h]at E;cases E),fun j M=>?_⟩;by_cases z:j=i
  ·subst z;rw[show(fun r p=>if j=s then Region.ready md ops (l.setIfInBounds j true)=[]/\Q r p else C p/\cG P md ops C s Q 0 (l.setIfInBounds j true) r p)=(fun r p=>C p/\cG P md ops C s Q 0 (l.setIfInBounds j true) r p)from by funext r p;rw[aq8 L]];exact .inl ⟨y,v,hi,hy,fun O c b=>⟨c,Dx H (u.trans (b.mono u.size))⟩⟩
  ·have:=ready_mono M z;rw[(H w' N u).1]at this;cases this
 |succ n ih=>
  intro l a w JC L E hy H w' N u;refine⟨fun h=>(by rw[h]at E;cases E),fun j M=>?_⟩;by_cases z:j=i
  ·subst z;rw[show(fun r p=>if j=s then Region.ready md ops (l.setIfInBounds j true)=[]/\Q r p else C p/\cG P md ops C s Q (n+1) (l.setIfInBounds j true) r p)=(fun r p=>C p/\cG P md ops C s Q (n+1) (l.setIfInBounds j true) r p)from by funext r p;rw[aq8 L]];exact .inl ⟨y,v,hi,hy,fun O c b=>⟨c,Dx H (u.trans (b.mono u.size))⟩⟩
  ·have B:=(H w' N u).2 j (ready_mono M z);obtain⟨JD,D,F,J⟩:=mem_ready.1 M;have Nv:∀e∈D.after,Region.binds md e=true->e.on≠i:=fun e R u S=>by
    have B:=J e R u;have h0:=(mem_ready.1 E).1;rw[S]at B;rcases arp i l.size with h'|h'
    ·simp[h']at h0 B;rw[h0]at B;cases B
    ·simp[asR h']at B
   have T:¬j=s:=fun e=>by
    subst e;rw[E4]at F;injection F with F
    subst F;obtain⟨e,R,U,V⟩:=br;exact Nv e R U V
   simp only[aq8 T]at B|-;have h2:=M3.T3 F (JC j D F z JD Nv) (fun G b=>Z i y G b hi) (fun G b=>Z j D G b F) hy B;have P3:∀k ok,ops[k]?=some ok->k≠i->(l.setIfInBounds j true).getD k true=false->
     (∀e∈ok.after,Region.binds md e=true->e.on≠i)->y.apart ops ok=true:=fun k ok hk gK JE X=>by
    refine JC k ok hk gK ?_ X;by_cases K:j=k
    ·subst K;exact JD
    ·rw[getD_set_ne true K]at JE;exact JE
   refine M3.JA (fun a' p Y=>⟨Y.2.1,ih (l.setIfInBounds j true) a' p P3 L (ready_mono E (Ne.symm z)) Y.1 ?_⟩) h2;rw[Array.setIfInBounds_comm _ _ z];exact Y.2.2
def Lv(md:Region.Mode)(ops:Array Oper)(s k:Nat):Bool:=decide (k≠s)&&match ops[s]?with
 |some os=>os.after.any (fun e=>Region.binds md e&&e.on==k)
 |none=>false
theorem aff{k:Nat}(h:Lv md ops s k=true):k≠s/\∃os,ops[s]?=some os/\∃e∈os.after,Region.binds md e=true/\e.on=k:=by
 unfold Lv at h;rw[arw]at h;refine⟨asr h.1,?_⟩;have j:=h.2;split at j
 ·rename_i os n;obtain⟨e,p,l⟩:=Array.any_eq_true'.1 j;simp only[arw,beq_iff_eq]at l;exact⟨os,n,e,p,l.1,l.2⟩
 ·cases j
theorem KV{Q:Act->World->Prop}{aE:Act}{val:Oper->Value}(z:Region.noSelect ops=true){m:Nat}{w:World}:∀(j:List Nat) (e:Array Bool) (a:Act),j.all (fun i=>decide (i<ops.size))=true->j.all (Lv md ops s)=true->
  M3.BZ md ops j e=true->M3.Er P ops C aE val (M3.cL ops j) a->cG P md ops C s Q m (M3.lH j e) aE w->cG P md ops C s Q (m+j.length) e a w
 |[],_,_,_,_,_,h,n=>by cases h;exact n
 |k::r,e,a,l,p,B,h,n=>by
  simp only[List.all_cons,arw,arz]at l p;have u:ops[k]?=some (ops[k]'l.1):=asN l.1
  simp only[M3.BZ,arw]at B;obtain⟨⟨hr,D⟩,E⟩:=B;simp only[M3.cL,u]at h;obtain⟨y,os,F,G⟩:=aff p.1;exact Nu u (Region.noSelect_spec z) F G (m+r.length) e a w (Region.free_spec u D) y (by simpa using hr) h.1
   (KV z r _ _ l.2 p.2 E h.2 n)
theorem dD{Q:Act->World->Prop}{n:Nat}{listed:Array Bool}{a:Act}{w:World}(i:Nat)(p:Region.ready md ops listed=[i])(l:¬i=s)
  (h:∀w',C w'->Below w.heap.size w w'->M3.im P ops C i (fun y r=>C r/\cG P md ops C s Q n (listed.setIfInBounds i true) y r) a w'):cG P md ops C s Q (n+1) listed a w:=by
 intro w' c b;refine⟨fun e=>(by rw[p]at e;cases e),fun j u=>?_⟩;rw[p,arQ]at u;subst u;simp only[aq8 l];exact h w' c b
theorem Yk{Q:Act->World->Prop}{n:Nat}{l:Array Bool}{a:Act}{w:World}(r:List Nat)(D:Region.ready md ops l=r)(p:r.contains s=false)(y:r.isEmpty=false)
  (h:∀w',C w'->Below w.heap.size w w'->∀i∈r,M3.im P ops C i (fun E z=>C z/\cG P md ops C s Q n (l.setIfInBounds i true) E z) a w'):cG P md ops C s Q (n+1) l a w:=by
 subst D;intro w' c b;refine⟨fun e=>(by rw[e]at y;cases y),fun j B=>?_⟩;have u:¬j=s:=fun e=>by
  subst e;have:(Region.ready md ops l).contains j=true:=by simpa using B
  rw[this]at p;cases p
 simp only[aq8 u];exact h w' c b j B
theorem nG{Q:Act->World->Prop}{n:Nat}{listed:Array Bool}{a:Act}{w:World}(p:Region.ready md ops listed=[s])(l:Region.ready md ops (listed.setIfInBounds s true)=[])
  (h:∀w',C w'->Below w.heap.size w w'->M3.im P ops C s Q a w'):cG P md ops C s Q (n+1) listed a w:=by
 intro w' c b;refine⟨fun e=>(by rw[p]at e;cases e),fun j r=>?_⟩;rw[p,arQ]at r;subst r;simp only[arI];exact M3.JA (fun u y q=>⟨l,q⟩) (h w' c b)
theorem Fy{Q:Act->World->Prop}{n:Nat}{listed:Array Bool}{a:Act}{w:World}(i:Nat){o:Oper}(v:Value)(r:Region.noSelect ops=true)(l:ops[i]?=some o)
  (p:((Region.ready md ops listed).contains i&&Region.free md ops listed i&&Lv md ops s i)=true) (u:Region.wanted o (yielded ops a.tmps)=true) (e:∀w',(execOp a.eval o).run P w'=.ok (.value v) w')
  (h:cG P md ops C s Q n (listed.setIfInBounds i true) (a.put o.dst v) w):cG P md ops C s Q (n+1) listed a w:=by
 simp only[arw]at p;obtain⟨⟨y,z⟩,B⟩:=p;obtain⟨j,os,D,E⟩:=aff B;refine Nu l (Region.noSelect_spec r) D E n listed a w (Region.free_spec l z) j (by simpa using y) (.inl ⟨u,fun w' _=>?_⟩) h;unfold Oper.quietAt;rw[e];exact⟨rfl,rfl⟩
end
section
variable {P:Program}{C:World->Prop}
theorem iu(j:fW C){id:Nat}{Q:Exit->Act->World->Prop}{a aE:Act}{W:World}(l:C W){L:List Oper}(e:List Nat)(m s:Nat)(u:P.follows .mixedOrders=true)(y:Region.noSelect L.toArray=true)(z:m+e.length=L.length)
  (hi:(e.all (fun i=>decide (i<L.toArray.size))&&e.all (Lv .any L.toArray s)&&M3.BZ .any L.toArray e (Array.replicate L.length false))=true) (hd:M3.j0 a.tmps.size (M3.cL L.toArray e)=true)
  (H:∀F:World->Prop,fW F->Inhabited (aR C F)->wpQuiet P L.toArray (fun w'=>∃p:aR C F,w'=p.w') (fun a'=>a'=aE) (M3.cL L.toArray e) a)
  (M:∀n:Act->World->Prop,(∀a w,Q .normal a w->n a w)->cG P .any L.toArray C s n m (M3.lH e (Array.replicate L.length false)) aE W):(Code.region id L.toArray true).wp P Q a W:=by
 simp only[arw]at hi;refine wp_region_any u ?_;have B:=KV (md:=.any) y e (Array.replicate L.length false) a hi.1.1 hi.1.2 hi.2 (M3.Gh j l _ a hd H) (M _ fun _ _ h=>h);have r:=Hu (Q':=Q) (fun _ _ h=>h) _ _ _ {W with drawn:=W.drawn+1} (j _ _ l (show Below W.heap.size W {W with drawn:=W.drawn+1}from below_drewN (arb _ _) 1)) (Dx B (below_drewN (arb W.heap.size W) 1));rw[z]at r;simpa using r
end
def bY(W:World)(e:Value)(w':World):Prop:=Below W.heap.size W w'/\w'.cell? ⟨W.heap.size,6,none⟩=some e/\W.heap.size<w'.heap.size
theorem bY.jQ(W:World)(n:Value):fW (bY W n):=fun _ _ ⟨j,p,l⟩ e=>⟨j.trans (e.mono j.size),(e.cell l).trans p,arY l e.size⟩
theorem bY.of{W w':World}{j a b c d e f:Value}{t:TypeId}(h:Below W.heap.size W w')(hS:ah w' W.heap.size t #[a,b,c,d,e,f,j]):bY W j w':=⟨h,(hS.cell 6).trans rfl,hS.lt⟩
end M5
def O3(e:List cI)(x:Elem):Int:=if gX e x=true then 1 else 2
def kD(e:List cI)(l:List Elem):List dE:=(l.filter nz).map fun x=>⟨O3 e x,x.code,x.amount⟩
theorem afe(e:List cI)(l m:List Elem):kD e (l++m)=kD e l++kD e m:=by simp[kD]
theorem Qi(k:Int)(l m:List Elem):ag k (l++m)=ag k l++ag k m:=by simp[ag]
theorem amf(j:List cI)(l:List Elem):(kD j l).Perm (ag 1 (l.filter (gX j))++ag 2 (l.filter fun x=>!gX j x)):=by
 induction l with
 |nil=>exact List.Perm.refl _
 |cons x l p=>
  rw[show x::l=[x]++l from rfl,afe,asf,asf,Qi,Qi];cases n:gX j x with
  |true=>
   rw[show[x].filter (gX j)=[x]by simp[n],show([x].filter fun x=>!gX j x)=[]by simp[n]];have e:kD j [x]=ag 1 [x]:=by
    unfold kD ag;refine List.map_congr_left fun y hy=>?_;obtain rfl:y=x:=by simpa using Dc hy
    rw[O3,aq9 n]
   rw[e,ar6];exact List.Perm.append_left _ p
  |false=>
   rw[show[x].filter (gX j)=[]by simp[n],show([x].filter fun x=>!gX j x)=[x]by simp[n]];have e:kD j [x]=ag 2 [x]:=by
    unfold kD ag;refine List.map_congr_left fun y hy=>?_;obtain rfl:y=x:=by simpa using Dc hy
    rw[O3,aq8 (by simp[n])]
   rw[e,show ag 1 []++ag 1 (l.filter (gX j))=ag 1 (l.filter (gX j))from rfl];refine(List.Perm.append_left _ p).trans ?_;rw[<-ar6,<-ar6];exact List.Perm.append_right _ List.perm_append_comm
namespace aY
variable (I:aY)
def zf(l:List cm):List dE:=l.flatMap fun s=>ag 4 [⟨s.code,(I.dH s).az⟩]++ag 5 [⟨s.code,(I.dH s).aS⟩]
theorem aaw(l:List cm):(I.zf l).Perm (ag 4 (I.gL l)++ag 5 (I.gZ l)):=by
 induction l with
 |nil=>exact List.Perm.refl _
 |cons s l e=>rw[show I.gL (s::l)=[⟨s.code,(I.dH s).az⟩]++I.gL l from rfl,show I.gZ (s::l)=[⟨s.code,(I.dH s).aS⟩]++I.gZ l from rfl,Qi,Qi];unfold zf at e|-;rw[ar9,ar6,ar6];refine List.Perm.append_left _ ?_;refine(List.Perm.append_left _ e).trans ?_;rw[<-ar6,<-ar6];exact List.Perm.append_right _ List.perm_append_comm
def made:List dE:=kD I.r.cN I.merged++ag 3 I.before++I.zf I.r.aW++ag 6 [⟨⟨#[]⟩,I.au⟩]++ag 7 I.di++ag 8 I.after++(if 0<I.kt then ag 9 [⟨⟨#[]⟩,I.kt⟩]else ag 10 [⟨⟨#[]⟩,-I.kt⟩])
theorem amg:I.made.Perm I.lines:=by
 unfold made lines cH cQ;have j:=amf I.r.cN I.merged;have l:=I.aaw I.r.aW;have n:(if 0<I.kt then ag 9 [⟨⟨#[]⟩,I.kt⟩]else ag 10 [⟨⟨#[]⟩,-I.kt⟩])=ag 9 [⟨⟨#[]⟩,max I.kt 0⟩]++ag 10 [⟨⟨#[]⟩,max (-I.kt) 0⟩]:=by
  split
  ·rename_i h;rw[show max I.kt 0=I.kt by omega,show max (-I.kt) 0=0 by omega];simp[ag,nz]
  ·rename_i h;rw[show max I.kt 0=0 by omega,show max (-I.kt) 0=-I.kt by omega];simp[ag,nz]
 rw[n];have e:=((((((j.append_right (ag 3 I.before)).append l).append_right (ag 6 [⟨⟨#[]⟩,I.au⟩])).append_right (ag 7 I.di)).append_right (ag 8 I.after)).append_right (ag 9 [⟨⟨#[]⟩,max I.kt 0⟩]++ag 10 [⟨⟨#[]⟩,max (-I.kt) 0⟩]))
 simpa only[ar6]using e
end aY
theorem sorted_perm{l p:List dE}(r:RL.O5 l)(y:p.Perm l)(B:p.Pairwise (fun a b=>Gi b a=false)):p=l:=by
 refine y.eq_of_pairwise (le:=fun a b=>Gi b a=false) ?_ B (r.imp fun{a b} h=>?_)
 ·intro a b D E F G;have u:=y.mem_iff.1 D;rcases arN.1 u with⟨i,hi,rfl⟩
  rcases arN.1 E with⟨j,z,rfl⟩
  rcases Nat.lt_trichotomy i j with h|h|h
  ·have:=arZ.1 r i j hi z h;have n:Gi l[i] l[j]=true:=this;rw[G]at n;cases n
  ·subst h;rfl
  ·have:=arZ.1 r j i z hi h;have n:Gi l[j] l[i]=true:=this;rw[F]at n;cases n
 ·have J:Gi a b=true:=h;cases e:Gi b a with
  |false=>rfl
  |true=>have:=Sg.trans _ _ _ J e;rw[Sg.irrefl]at this;cases this
theorem Ld{l:List bK}(h:fV l=true):l.length<=16/\∀x∈l,x.code.size<=maxLen:=⟨(Ik.1 h).1,fun x e=>GW ((Ik.1 h).2.1 x e).name⟩
theorem zH{l:List Elem}(h:eJ l=true):l.length<=128/\∀x∈l,x.code.size<=maxLen:=by obtain⟨e,j,_⟩:=pz.1 h;exact⟨e,fun x n=>GW (j x n).1⟩
theorem amh(m:iL)(w:World)(h:m.In w)(n:NI m.t):Calls prog 127 #[m.val] w fun e w'=>e=.returned (.bool true)/\Below w.heap.size w w':=by
 have d0:0<=m.deps:=n.d0;have d1:m.deps<=20:=n.d1;have EM:m.es.length<=7:=by have:=n.Oi;simpa[iL.t]using this
 have G:∀e∈m.es,e.v∈m.t.others:=fun e r=>arB.2 ⟨e,r,rfl⟩;have HE:Hid (∀e∈m.es,(0<=e.base/\e.base<=1000000000)/\e.l.length<=53/\∀x∈e.l,0<=x/\x<=1000000000):=fun e r=>⟨n.base _ (G e r),n.lens _ (G e r),n.earlier _ (G e r)⟩
 have hd:fV m.ds=true:=n.jU;obtain⟨ab,X⟩:=Ld hd;have Y:Hid (∀W,Below w.heap.size w W->Calls prog 132 #[.slice m.Ad m.ds.length m.cd] W fun e w'=>e=.returned (.bool true)/\Below W.heap.size W w'):=fun W J=>by
  have:=Zp m.Ad m.cd m.ds W (h.ds.aa J) X (by omega)
  rwa [hd]at this
 have Z:Hid (∀W,Below w.heap.size w W->Calls prog 148 #[.slice m.Ao m.os.length m.co] W fun e w'=>e=.returned (.bool true)/\Below W.heap.size W w'):=fun W J=>Yx m.Ao m.co m.os W (h.os.aa J) n.orders;clear n hd X G;unfold iL.val;go_enter func127,ntmps127;have K:=ah.new w 50 #[.int .i64 m.deps,.slice m.Ad m.ds.length m.cd,.slice m.Ao m.os.length m.co,.slice m.Ae m.es.length m.ce];have L:=bF w (.cells #[.int .i64 m.deps,.slice m.Ad m.ds.length m.cd,.slice m.Ao m.os.length m.co,.slice m.Ae m.es.length m.ce] 50);go_upto_region 1 with fail
 generalize w.alloc (Obj.cells _ _)=W at K L|-;obtain⟨M,N,O,z⟩:=K.cz4;go_wp2_with fail;refine(Mb d0 d1 _).mono ?_;rintro e w' ⟨rfl,rfl⟩;go_wp2_with fail;refine(Y.out _ L).mono ?_;rintro e w1 ⟨rfl,u⟩;have Q:=K.aa u;have R:=aB L u;clear K L u M N O z;obtain⟨M,N,O,z⟩:=Q.cz4;go_wp2_with fail;refine(Z.out _ R).mono ?_;rintro e w2 ⟨rfl,p⟩;have S:=Q.aa p;have T:=aB R p;clear Q R p M N O z;have z:=S.cell 3;simp only[ak,aq,ar]at z;have U:=h.es.aa T;have oq:Hid (∀e∈m.es,aj encI 1 w2 w2.heap.size e.A e.l):=fun e r=>(h.ins e r).aa T;have Q1:=S.lt;clear h Y Z S;go_wp2_with fail
 go_loop [3] (fun i=>∃k:Nat,k<=m.es.length/\i=.int .i64 k) (fun i=>m.es.length-(intOf i).toNat)
 case atStart=>exact⟨0,by omega,rfl⟩
 case round=>
  obtain⟨k,hk,rfl⟩:=hrel;by_cases y:k<m.es.length
  ·obtain⟨b,ad,hA,J,V⟩:=U.at_ y;have c0:=V 0 _ rfl;have c1:=V 1 _ rfl;simp only[ara]at c0;have gK:(k:Int)<(m.es.length:Int):=(by omega);clear V;rw[hA]at z;clear hA;obtain⟨⟨b0,b1⟩,kX,D⟩:=HE.out _ (arc y);have O6:=aq6 D;have iR:=oq.out _ (arc y);clear D;go_wp2_with fail;refine(Mb b0 b1 _).mono ?_;rintro e w' ⟨rfl,rfl⟩;go_wp2_with fail
   go_loop [4] (fun i=>∃j:Nat,j<=m.es[k].l.length/\i=.int .i64 j) (fun i=>m.es[k].l.length-(intOf i).toNat)
   case atStart=>exact⟨0,by omega,rfl⟩
   case round=>
    obtain⟨j,hj,rfl⟩:=hrel;by_cases o9:j<m.es[k].l.length
    ·obtain⟨b2,FH,dK,p,E⟩:=iR.at_ o9;have RJ:=E 0 _ rfl;simp only[ara,arU]at RJ;have ko:(j:Int)<(m.es[k].l.length:Int):=(by omega);clear E;rw[dK]at c0;clear dK;obtain⟨x0,x1⟩:=O6.out _ (arc o9);go_wp2_with fail;refine(Mb x0 x1 _).mono ?_;rintro e w' ⟨rfl,rfl⟩;go_wp2;go_round
     case rel=>
      have B:∃F:Nat,F<=m.es[k].l.length/\Value.int .i64 ((j:Int)+1)=.int .i64 F:=⟨j+1,by omega,by go_num⟩
      first|exact B|(refine⟨trivial,?_⟩;(repeat apply Exists.intro);exact⟨B,rfl⟩)|((repeat apply Exists.intro);exact⟨B,rfl⟩)
     case measure=>simp[intOf];omega
    ·go_wp2;go_round
     case rel=>
      have B:∃F:Nat,F<=m.es.length/\Value.int .i64 ((k:Int)+1)=.int .i64 F:=⟨k+1,by omega,by go_num⟩
      first|exact B|exact⟨k+1,by omega,by omega⟩|((repeat apply Exists.intro);exact⟨B,rfl⟩)
     case measure=>simp[intOf];omega
  ·go_wp2;go_ret;exact⟨rfl,T⟩
theorem ami(m:dR)(w:World)(h:m.In w)(hY:J7 m.t):Calls prog 128 #[m.val] w fun e w'=>e=.returned (.bool true)/\Below w.heap.size w w':=by
 obtain⟨u,aw,E,O,Q,l,At,y,j⟩:=m;obtain⟨R,S,n,F,T,U,w0,DN,z⟩:=hY;simp only[dR.t]at R S n F T U w0 DN z;obtain⟨G,J⟩:=h;simp only at G J;have K:=aq6 F;obtain⟨ab,V⟩:=zH z;have X:Hid (∀W,Below w.heap.size w W->Calls prog 129 #[.slice At j.length y] W fun e w'=>e=.returned (.bool true)/\Below W.heap.size W w'):=fun W Y=>by
  have:=Un At y j W (J.aa Y) V (by omega)
  rwa [z]at this
 have ad:l.length<=53:=by omega
 have af:((l.length:Int)!=u)=false:=by simp[n]
 have k9:=aq6 n;clear F z V n J;unfold dR.val;simp only;go_enter func128,ntmps128;have B:=ah.new w 53 #[.int .i64 u,.int .i64 aw,.int .i64 E,.slice O l.length Q,.slice At j.length y];have D:=bF w (.cells #[.int .i64 u,.int .i64 aw,.int .i64 E,.slice O l.length Q,.slice At j.length y] 53);go_upto_region 1 with fail
 generalize w.alloc (Obj.cells _ _)=W at B D|-;obtain⟨z0,z1,z2,L,z4⟩:=B.cz5;go_wp2_with fail;refine(Mb R S _).mono ?_;rintro e w' ⟨rfl,rfl⟩;go_wp2_with fail;refine(Mb T U _).mono ?_;rintro e w' ⟨rfl,rfl⟩;have al:-u*1000000000<=E:=by omega
 go_wp2_with fail;refine(X.out _ D).mono ?_;rintro e w1 ⟨rfl,p⟩;have M:=B.aa p;have Z:=aB D p;clear B D p z0 z1 z2 L z4;have L:=M.cell 3;simp only[ak,aq,ar]at L;have N:=G.aa Z;have Q1:=M.lt;clear M G X;go_wp2_with fail
 go_loop [3] (fun i=>∃k:Nat,k<=l.length/\i=.int .i64 k) (fun i=>l.length-(intOf i).toNat)
 case atStart=>exact⟨0,by omega,rfl⟩
 case round=>
  obtain⟨k,hk,rfl⟩:=hrel;by_cases r:k<l.length
  ·obtain⟨b,am,rfl,Y,hc⟩:=N.at_ r;have c0:=hc 0 _ rfl;simp only[ara,arU]at c0;have gK:(k:Int)<(l.length:Int):=(by omega);clear hc;obtain⟨x0,x1⟩:=K.out _ (arc r);go_wp2_with fail;refine(Mb x0 x1 _).mono ?_;rintro e w' ⟨rfl,rfl⟩;go_wp2;go_round
   case rel=>exact⟨k+1,by omega,by go_num⟩
   case measure=>simp[intOf];omega
  ·go_wp2;go_ret;exact⟨rfl,Z⟩
def oQ(j e:Int):Int:=if e<=j then 3 else 0
theorem ajE(r:dN)(p:iL)(y:dR)(K:Option Addr)(V:Nat)(kept:List Elem)(w:World)(hr:r.In w)(X:p.In w)(hy:y.In w)(Y:aj aN 2 w w.heap.size K kept)
  (N:CC r.t) (Z:NI p.t) (O:J7 y.t) (hK:VZ kept) (hS:∀e∈p.es,(e.l.length:Int)=y.ay):
  Calls prog 86 #[r.val,p.val,y.val,.slice K kept.length V] w fun e w'=>e=.returned (.int .i64 (oQ y.ay r.count))/\Below w.heap.size w w':=by
 have HV:Hid (∀W,Below w.heap.size w W->Calls prog 122 #[.agg #[.slice r.Aw r.ws.length r.cw,.slice r.As r.ss.length r.cs,.int .i64 r.tm.t.method,.slice r.tm.Ab r.tm.t.aA.length r.tm.cb,.int .i64 r.tm.t.bg,.int .i64 r.tm.t.bh,.int .i64 r.tm.t.unit,.int .i64 r.tm.t.mode,.slice r.tm.Ar r.tm.t.rows.length r.tm.cr,.int .i64 r.count,.int .i64 r.sh.fixed,.int .i64 r.sh.bE,.int .i64 r.sh.lower,.int .i64 r.sh.share,.int .i64 r.sh.top,.int .i64 r.recover]] W fun e w'=>e=.returned (.bool true)/\Below W.heap.size W w'):=fun W D=>ajW r W (hr.aa D) N;have HP:Hid (∀W,Below w.heap.size w W->Calls prog 127 #[.agg #[.int .i64 p.deps,.slice p.Ad p.ds.length p.cd,.slice p.Ao p.os.length p.co,.slice p.Ae p.es.length p.ce]] W fun e w'=>e=.returned (.bool true)/\Below W.heap.size W w'):=fun W D=>amh p W (X.aa D) Z;have HY:Hid (∀W,Below w.heap.size w W->Calls prog 128 #[.agg #[.int .i64 y.ay,.int .i64 y.aw,.int .i64 y.aO,.slice y.Ai y.ins.length y.ci,.slice y.At y.taken.length y.ct]] W fun e w'=>e=.returned (.bool true)/\Below W.heap.size W w'):=fun W D=>ami y W (hy.aa D) O;obtain⟨MH,XH,Si⟩:=hK;obtain⟨_,Sj⟩:=zH MH;have HK:Hid (∀W,Below w.heap.size w W->Calls prog 129 #[.slice K kept.length V] W fun e w'=>e=.returned (.bool true)/\Below W.heap.size W w'):=fun W D=>by
  have:=Un K V kept W (Y.aa D) Sj (by omega)
  rwa [MH]at this
 have ab:=aq6 Si;have HS:=aq6 hS;have EM:p.es.length<=7:=by have:=Z.Oi;simpa[iL.t]using this
 have y0:0<=y.ay:=O.p0;have y1:y.ay<=53:=O.p1;have r0:1<=r.count:=N.c0;have r1:r.count<=53:=N.c1;clear N Z O MH Sj Si hS hr hy;unfold dN.val iL.val dR.val;go_enter func86,ntmps86;have Q:=((ah.new w 45 #[.slice r.Aw r.ws.length r.cw,.slice r.As r.ss.length r.cs,.int .i64 r.tm.t.method,.slice r.tm.Ab r.tm.t.aA.length r.tm.cb,.int .i64 r.tm.t.bg,.int .i64 r.tm.t.bh,.int .i64 r.tm.t.unit,.int .i64 r.tm.t.mode,.slice r.tm.Ar r.tm.t.rows.length r.tm.cr,.int .i64 r.count,.int .i64 r.sh.fixed,.int .i64 r.sh.bE,.int .i64 r.sh.lower,.int .i64 r.sh.share,.int .i64 r.sh.top,.int .i64 r.recover]).alloc (.cells #[.int .i64 p.deps,.slice p.Ad p.ds.length p.cd,.slice p.Ao p.os.length p.co,.slice p.Ae p.es.length p.ce] 50)).alloc (.cells #[.int .i64 y.ay,.int .i64 y.aw,.int .i64 y.aO,.slice y.Ai y.ins.length y.ci,.slice y.At y.taken.length y.ct] 53);have R:=(ah.new (w.alloc (.cells #[.slice r.Aw r.ws.length r.cw,.slice r.As r.ss.length r.cs,.int .i64 r.tm.t.method,.slice r.tm.Ab r.tm.t.aA.length r.tm.cb,.int .i64 r.tm.t.bg,.int .i64 r.tm.t.bh,.int .i64 r.tm.t.unit,.int .i64 r.tm.t.mode,.slice r.tm.Ar r.tm.t.rows.length r.tm.cr,.int .i64 r.count,.int .i64 r.sh.fixed,.int .i64 r.sh.bE,.int .i64 r.sh.lower,.int .i64 r.sh.share,.int .i64 r.sh.top,.int .i64 r.recover] 45)) 50 #[.int .i64 p.deps,.slice p.Ad p.ds.length p.cd,.slice p.Ao p.os.length p.co,.slice p.Ae p.es.length p.ce]).alloc (.cells #[.int .i64 y.ay,.int .i64 y.aw,.int .i64 y.aO,.slice y.Ai y.ins.length y.ci,.slice y.At y.taken.length y.ct] 53);have S:=ah.new ((w.alloc (.cells #[.slice r.Aw r.ws.length r.cw,.slice r.As r.ss.length r.cs,.int .i64 r.tm.t.method,.slice r.tm.Ab r.tm.t.aA.length r.tm.cb,.int .i64 r.tm.t.bg,.int .i64 r.tm.t.bh,.int .i64 r.tm.t.unit,.int .i64 r.tm.t.mode,.slice r.tm.Ar r.tm.t.rows.length r.tm.cr,.int .i64 r.count,.int .i64 r.sh.fixed,.int .i64 r.sh.bE,.int .i64 r.sh.lower,.int .i64 r.sh.share,.int .i64 r.sh.top,.int .i64 r.recover] 45)).alloc (.cells #[.int .i64 p.deps,.slice p.Ad p.ds.length p.cd,.slice p.Ao p.os.length p.co,.slice p.Ae p.es.length p.ce] 50)) 53 #[.int .i64 y.ay,.int .i64 y.aw,.int .i64 y.aO,.slice y.Ai y.ins.length y.ci,.slice y.At y.taken.length y.ct];have T:=ew (ew (bF w (.cells #[.slice r.Aw r.ws.length r.cw,.slice r.As r.ss.length r.cs,.int .i64 r.tm.t.method,.slice r.tm.Ab r.tm.t.aA.length r.tm.cb,.int .i64 r.tm.t.bg,.int .i64 r.tm.t.bh,.int .i64 r.tm.t.unit,.int .i64 r.tm.t.mode,.slice r.tm.Ar r.tm.t.rows.length r.tm.cr,.int .i64 r.count,.int .i64 r.sh.fixed,.int .i64 r.sh.bE,.int .i64 r.sh.lower,.int .i64 r.sh.share,.int .i64 r.sh.top,.int .i64 r.recover] 45)) (.cells #[.int .i64 p.deps,.slice p.Ad p.ds.length p.cd,.slice p.Ao p.os.length p.co,.slice p.Ae p.es.length p.ce] 50)) (.cells #[.int .i64 y.ay,.int .i64 y.aw,.int .i64 y.aO,.slice y.Ai y.ins.length y.ci,.slice y.At y.taken.length y.ct] 53);simp only[arn]at R S;go_upto_region 1 with fail
 generalize World.alloc _ (Obj.cells #[.int .i64 y.ay,.int .i64 y.aw,.int .i64 y.aO,.slice y.Ai y.ins.length y.ci,.slice y.At y.taken.length y.ct] 53)=W at Q R S T|-;obtain⟨G,J,L,E,z4,z5,z6,z7,z8,z9,kN,kO,ad,kP,kQ,kR⟩:=Q.cz16;go_wp2_with fail;refine(HV.out _ T).mono ?_;rintro e w1 ⟨rfl,j⟩;have B4:=Q.aa j;have mH:=R.aa j;have AU:=S.aa j;have aT:=aB T j;clear Q R S T j G J L E z4 z5 z6 z7 z8 z9 kN kO ad kP kQ kR;obtain⟨G,J,L,E⟩:=mH.cz4;go_wp2_with fail;refine(HP.out _ aT).mono ?_;rintro e w2 ⟨rfl,n⟩;have kz:=B4.aa n;have zh:=mH.aa n;have oM:=AU.aa n;have bu:=aB aT n;clear B4 mH AU aT n G J L E;obtain⟨G,J,L,E,z4⟩:=oM.cz5;go_wp2_with fail;refine(HY.out _ bu).mono ?_;rintro e w3 ⟨rfl,u⟩;have Sk:=kz.aa u;have IK:=zh.aa u;have EK:=oM.aa u;have cW:=aB bu u;clear kz zh oM bu u G J L E z4;go_wp2_with fail;refine(HK.out _ cW).mono ?_;rintro e w4 ⟨rfl,z⟩;have Be:=Sk.aa z;have Sl:=IK.aa z;have FK:=EK.aa z;have U:=aB cW z;clear Sk IK EK cW z;have z9:=Be.cell 9;have E:=Sl.cell 3;have KW:=FK.cell 0;simp only[ak,aq,ar]at z9 E KW;have af:=Y.aa U;have ai:=X.es.aa U;have ao:=Be.lt;have ap:=Sl.lt;have av:=FK.lt;clear Be Sl FK HV HP HY HK Y X;go_wp2_with fail
 go_loop [9] (fun i=>∃k:Nat,k<=kept.length/\i=.int .i64 k) (fun i=>kept.length-(intOf i).toNat)
 case atStart=>exact⟨0,by omega,rfl⟩
 case round=>
  obtain⟨k,Fo,rfl⟩:=hrel;by_cases B:k<kept.length
  ·obtain⟨b,al,rfl,D,F⟩:=af.at_ B;have c0:=F 0 _ rfl;have c1:=F 1 _ rfl;simp only[ara]at c0;have gK:(k:Int)<(kept.length:Int):=(by omega);clear F;have ax:=ab.out _ (arc B);go_wp2;go_round
   case rel=>exact⟨k+1,by omega,by go_num⟩
   case measure=>simp[intOf];omega
  ·by_cases og:r.count<=y.ay
   ·have HE:Hid (oQ y.ay r.count=3):=(by rw[Hid,oQ,aq9 og]);go_wp2;go_ret;exact⟨by rw[HE.out];rfl,U⟩
   ·have HE:Hid (oQ y.ay r.count=0):=(by rw[Hid,oQ,aq8 og]);go_wp2_with fail
    go_loopw [10] (fun i wr=>∃k q:Nat,k<=p.es.length/\i=.int .i64 k/\Hid (wr=w4.drewN q)) (fun i _=>p.es.length-(intOf i).toNat)
    case atStart=>exact⟨0,0,by omega,rfl,rfl⟩
    case round=>
     obtain⟨k,q,Fo,rfl,M⟩:=hrel;have am:wr.cell? ⟨w.heap.size+1,3,none⟩=some (.slice p.Ae p.es.length p.ce):=(by rw[M.out];exact E);have az:wr.cell? ⟨w.heap.size+1+1,0,none⟩=some (.int .i64 y.ay):=(by rw[M.out];exact KW);have an:aj AL 2 wr w4.heap.size p.Ae p.es:=(by rw[M.out];exact ai);by_cases B:k<p.es.length
     ·obtain⟨b,al,hA,D,F⟩:=an.at_ B;have c0:=F 0 _ rfl;have c1:=F 1 _ rfl;simp only[ara]at c0;have gK:(k:Int)<(p.es.length:Int):=(by omega);clear F;rw[hA]at am;clear hA;have aD:((p.es[k].l.length:Int)!=y.ay)=false:=(by rw[HS.out _ (arc B)];simp);go_wp2;go_quiet(fail);go_wp2;go_roundw
      case rel=>exact⟨k+1,q+nq,by omega,by go_num,by show wr.drewN nq=w4.drewN (q+nq);rw[M.out,World.drewN_drewN]⟩
      case measure=>simp[intOf];omega
     ·go_wp2;go_ret;exact⟨by rw[HE.out];rfl,by rw[M.out];exact below_drewN U q⟩
theorem aml{kind:Int}{l:List Elem}{k:Nat}(h:k<l.length):ag kind (l.take (k+1))=ag kind (l.take k)++(if l[k].amount=0 then[]else[⟨kind,l[k].code,l[k].amount⟩]):=by
 unfold ag;rw[arA h,asf,aso];by_cases e:l[k].amount=0
 ·have j:nz l[k]=false:=by simp[nz,e]
  rw[aq9 e,asu,j];simp
 ·have j:nz l[k]=true:=by simp[nz,e]
  rw[aq8 e,asu,j];simp
theorem CG(kind:Int)(A:Option Addr)(L:Nat)(l:List Elem)(w:World)(h:aj aN 2 w w.heap.size A l)(hl:l.length<=1000000):
  Calls prog 95 #[.int .i64 kind,.slice A l.length L] w fun e w'=>∃v,e=.returned v/\Own iM 3 30 w' w.heap.size v (ag kind l)/\Below w.heap.size w w':=by
 go_enter func95,ntmps95;go_wp2
 go_loopw [5,6] (fun v i wr=>∃k:Nat,k<=l.length/\i=.int .i64 k/\Own iM 3 30 wr w.heap.size v (ag kind (l.take k))/\Below w.heap.size w wr) (fun _ i _=>l.length-(intOf i).toNat)
 case atStart=>exact⟨0,by omega,rfl,Own.cK _ _,arb _ _⟩
 case round=>
  obtain⟨k,hk,rfl,j,G⟩:=hrel;have Q:=G.size;by_cases J:k<l.length
  ·obtain⟨b,u,rfl,R,N⟩:=(h.below G).at_ J;have jr:b<wr.heap.size:=(by omega);have S:=N 0 _ rfl;have c1:=N 1 _ rfl;simp only[ara]at S;have gK:(k:Int)<(l.length:Int):=(by omega);clear N;have D:=aml (kind:=kind) J;by_cases E:l[k].amount=0
   ·have JR:(l[k].amount !=0)=false:=(by simp[E]);rw[aq9 E,List.append_nil]at D;have O:=aq6 D;clear D E;go_wp2;go_roundw
    case rel=>exact⟨k+1,by omega,by go_num,by rw[O.out];exact j,G⟩
    case measure=>simp[intOf];omega
   ·have JR:(l[k].amount !=0)=true:=(by simp[E]);rw[aq8 E]at D;have O:=aq6 D;have nH:=fun q hq=>(j.cg (g:=q) hq).1;have kX:(ag kind (l.take k)).length<=1000000:=by
     have:=lY kind (l.take k);have h2:(l.take k).length<=l.length:=(by simp;omega);omega
    clear D E;go_wp2;refine ame (C:=fun w'=>Below w.heap.size wr w') (iw _ _ Q) (arb _ _) (aE:=?aE) 13 3 (by kernel_rfl) (by kernel_rfl) rfl (by kernel_rfl) (by rfl) ?H ?M
    case H=>
     intro F hF T;simp only[List.take_succ_cons,List.take_zero];have e0:∀p:aR (fun w'=>Below w.heap.size wr w') F,p.w'.cell? ⟨b,u+k*2,none⟩=some (.string l[k].code):=fun p=>(p.h.cell (p:=⟨b,u+k*2,none⟩) R).trans S;have e1:∀p:aR (fun w'=>Below w.heap.size wr w') F,p.w'.cell? ⟨b,u+k*2+1,none⟩=some (.int .i64 l[k].amount):=fun p=>(p.h.cell (p:=⟨b,u+k*2+1,none⟩) R).trans c1
     repeat(first|go_big_quiet_step(fail))
     refine wpQuiet_nil ?_;rfl
    case M=>
     intro Q0 bM;refine bL [13] (by kernel_rfl) (by simp) ?_;intro K U z i hi;simp only[bS,bT,ard]at hi;subst hi;refine bD (.slice (some ⟨K.heap.size,0,none⟩) 1 1) (K.alloc (.cells #[.int .i64 kind,.string l[k].code,.int .i64 l[k].amount] 30)) rfl rfl (by go_simp) ⟨U.alloc (arq Q z.size) _,?_⟩;have B:=aj.new ey K [⟨kind,l[k].code,l[k].amount⟩] _ 30 rfl;rw[<-arn K (.cells #[.int .i64 kind,.string l[k].code,.int .i64 l[k].amount] 30)]at B;have n:=(j.aa z).alloc (.cells #[.int .i64 kind,.string l[k].code,.int .i64 l[k].amount] 30);have V:w.heap.size<=(K.alloc (.cells #[.int .i64 kind,.string l[k].code,.int .i64 l[k].amount] 30)).heap.size:=(by rw[arn];have:=z.size;omega);refine bL [14] (by kernel_rfl) (by simp) ?_;intro w2 X y i hi;simp only[bS,bT,ard]at hi;subst hi;have r:=n.aa y;have Y:=B.aa y;refine nL (.tmp 19) (.tmp 32) 25 1 32 _ Bq underlying25 r Y ey (by omega) rfl zL (by simp;omega) (by omega) (arq V y.size) rfl rfl rfl rfl rfl rfl ?_;intro Z w5 dA bw;have aP:Below w.heap.size wr w5:=X.trans (gI bw (arq V y.size) nH);refine⟨aP,?_⟩;refine bL [15] (by kernel_rfl) (by simp) ?_;intro w6 fX bN i hi;simp only[bS,bT,ard]at hi;subst hi;refine bD Z w6 rfl rfl rfl ⟨fX,?_⟩;refine kp (by kernel_rfl) ?_;intro w7 cF bp;refine bM _ _ ?_;have cY:=(dA.aa bN).aa bp;have O7:=G.trans cF;clear j n r dA B Y bw bN bp aP U X fX;go_wp2;go_roundw
     case rel=>
      have ax:∃k':Nat,k'<=l.length/\Value.int .i64 ((k:Int)+1)=.int .i64 k'/\Own iM 3 30 w7 w.heap.size Z (ag kind (l.take k'))/\Below w.heap.size w w7:=⟨k+1,by omega,by go_num,by rw[O.out];exact cY,O7⟩
      first|exact ax|((repeat apply Exists.intro);exact⟨ax,rfl⟩)
     case measure=>simp[intOf];omega
  ·go_wp2;go_ret;refine⟨_,rfl,?_,G⟩;rw[ar0 (by omega)]at j;exact j
