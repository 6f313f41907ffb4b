/- Conditions: as stated. -/
import Derived.Test.YtlhkojcmcmkmaaaGreatCDedV
import Derived.Test.YtlhkojcmcmkmaaaGreatCStabP
set_option maxRecDepth 100000
set_option maxHeartbeats 4000000
namespace Go.Proofs.YtlhkojcmcmkmaaaGreat
open Go.Proofs.Tryz
open Go.RowKit
theorem apb(m r d n:Int)(w:World)(z:0<=m)(F:m<=1000000000000)(G:0<=r)(I:r<=1000000000000)(B:0<=n)(C:n<=6):
  Calls prog 256 #[.int .i64 m,.int .i64 r,.int .i64 d,.int .i64 n] w fun e w'=>e=.returned (.bool (Qk m r d n))/\w=w':=by
 have p:Hid (Qk m r d n=if r=0 then false else if n=1\/n=3 then true else if n=4 then decide (d<=2*r)else if n=5 then decide (d<2*r)else if n=6 then decide (d<2*r)||(decide (2*r=d)&&decide (m%2=1))else false):=rfl;have u:m.tmod 2=m%2:=avs z;have y:=atM u;clear u;have D:n=0\/n=1\/n=2\/n=3\/n=4\/n=5\/n=6:=by omega
 clear B C;rcases D with rfl|rfl|rfl|rfl|rfl|rfl|rfl
 all_goals
  go_enter func256,ntmps256;go_wp2
  all_goals
   go_ret;refine⟨?_,rfl⟩;rw[p.out];have E:=y.out;simp only[E,beq_iff_eq,auj,ne_eq]at*;clear p y
   first|(simp_all;done)|(simp_all;rfl)
theorem apc(A:Option Addr)(u:Nat)(t:List dv)(inc unit mode:Int)(w:World)(h:ai ik 2 w w.heap.size A t)(E:ji t)(F:0<=inc)(Q:inc<=1000000000000)(u0:1<=unit)(u1:unit<=1000000)(G:0<=mode)(I:mode<=6):
  Calls prog 228 #[.slice A t.length u,.int .i64 inc,.int .i64 unit,.int .i64 mode] w fun e w'=>e=.returned (.tuple #[.int .i64 (EJ t inc unit mode),.int .i64 0])/\Below w.heap.size w w':=by
 obtain⟨y,J⟩:=NS (inc:=inc) E F (atN _);have K:qw t inc t.length=DX t inc:=rfl;rw[K]at y J;have Z:DX t inc<=1000000000000000000:=by omega
 have R:Hid (EJ t inc unit mode=(DX t inc/(1000000*unit)+if Qk (DX t inc/(1000000*unit)) (DX t inc%(1000000*unit)) (1000000*unit) mode=true then 1 else 0)*unit):=by show EJ t inc unit mode=_;rw[EJ,apd y (by omega) G I]
 have L:=ape A u t inc w h E F Q;clear K J;generalize DX t inc=n at*;have e1:n.tdiv (1000000*unit)=n/(1000000*unit):=avb y;have e2:n.tmod (1000000*unit)=n%(1000000*unit):=avs y;have S:=auY n (show 1000000*unit≠0 by omega);have r1:=au2 n (show 0<1000000*unit by omega);have B:0<=n/(1000000*unit):=au5 y (by omega);have T:=Int.ediv_mul_le n (show(1000000*unit)≠0 by omega);have U:n/(1000000*unit)*(1000000*unit)=1000000*(n/(1000000*unit)*unit):=by rw[<-avj,auZ _ 1000000,avj]
 have p0:0<=n/(1000000*unit)*unit:=aur B (by omega);have p1:n/(1000000*unit)*unit<=1000000000000:=by omega
 have V:(n/(1000000*unit)+1)*unit=n/(1000000*unit)*unit+unit:=by rw[auN,Int.one_mul]
 have p3:0<=(n/(1000000*unit)+1)*unit:=by omega
 have p4:(n/(1000000*unit)+1)*unit<=1000001000000:=by omega
 have X:n/(1000000*unit)<=1000000000000:=by have:n/(1000000*unit)*1<=n/(1000000*unit)*unit:=auF u0 B;omega
 have M:=fun w=>apb (n/(1000000*unit)) (n%(1000000*unit)) (1000000*unit) mode w B X S (by omega) G I;have N:=atM L;have O:=atM M;have Y:1000000*unit<=1000000000000:=by omega
 have eZ:((1000000*unit:Int)==0)=false:=by rw[auj];omega
 clear T U V L M;go_enter func228,ntmps228;go_wp2_with fail;refine atV N.out ?_;rintro e w1 ⟨rfl,C⟩;clear N;go_wp2;go_quiet(fail);generalize n/(1000000*unit)=q at*;generalize n%(1000000*unit)=r at*;cases p:Qk q r (1000000*unit) mode
 all_goals have z:=R.out;rw[p]at z;simp only[aup,auw,auT,Int.add_zero]at z;have D:=atM z;clear z;go_wp2_with fail;refine atV (O.out _) ?_;rintro e w2 ⟨rfl,rfl⟩;rw[p];clear p O;go_wp2;go_ret2;exact⟨by rw[D.out];rfl,below_drewN C _⟩
theorem apf{z:Type}{e:z->List Value}(D:∀x,(e x).length=2)(y:z)(a b:Value)(hy:e y=[a,b]):∀(n:List z) (j:Nat),j<n.length->(n.set j y).flatMap e=((n.flatMap e).set (j*2) a).set (j*2+1) b:=by
 intro n
 induction n with
 |nil=>intro j B;simp at B
 |cons x r E=>
  intro j B;obtain⟨p,u,C⟩:∃p u,e x=[p,u]:=by
   have:=D x
   match C:e x,this with
   |[p,u],_=>exact⟨p,u,rfl⟩
  cases j with
  |zero=>simp[hy,C]
  |succ j=>rw[at8,auI,auI,E j (by simpa using B),C];rw[show(j+1)*2=j*2+2 by omega,show j*2+2+1=j*2+1+2 by omega];simp
theorem Own.apg{r:Type}{p:r->List Value}{e:TypeId}{w:World}{base g cap:Nat}{ys:List r}(u:∀x,(p x).length=2){n:Nat}(z:n=ys.length)(h:Own p 2 e w base (.slice (some ⟨g,0,none⟩) n cap) ys){j:Nat}(B:j<ys.length)(y:r)(a b:Value)(hy:p y=[a,b]):
  Own p 2 e ((w.setCell ⟨g,j*2,none⟩ a).setCell ⟨g,j*2+1,none⟩ b) base (.slice (some ⟨g,0,none⟩) n cap) (ys.set j y):=by
 subst z;unfold Own;rw[apf u y a b hy ys j B,List.length_set];exact Rs (Rs h _ _) _ _
theorem Own.known{r:Type}{n:r->List Value}{k:Nat}{e:TypeId}{w:World}{base:Nat}{v:Value}{xs:List r}(h:Own n k e w base v xs)(p:xs≠[]):∃g cap,v=.slice (some ⟨g,0,none⟩) xs.length cap/\base<=g/\g<w.heap.size/\(∀i,w.frozen? ⟨g,i,none⟩=false)/\xs.length<=cap:=by
 rcases h.2 with⟨_,y⟩|⟨g,cap,z,B,C,u,D,_,_,_⟩
 ·exact absurd (avo y) p
 ·exact⟨g,cap,B,C,(ava.1 u).1,fun i=>by simp[World.frozen?,u],D⟩
theorem aph(A:Option Addr)(z:Nat)(t:List dv)(num den:Int)(w:World)(h:ai ik 2 w w.heap.size A t)(T:ji t)(hn:0<=num)(hd:1<=den)(EK:num<=den)(bP:den<=53):
  Calls prog 229 #[.slice A t.length z,.int .i64 num,.int .i64 den] w fun e w'=>∃v,e=.returned (.tuple #[v,.int .i64 0])/\Own ik 2 127 w' w.heap.size v (qx t num den)/\Below w.heap.size w w':=by
 have U:=atM T;have hl:=T.len;have HC:=atM (XP A z t w h T);have eZ:(den==0)=false:=by rw[auj];omega
 clear T;go_enter func229,ntmps229;go_wp2_with fail;refine atV HC.out ?_;rintro e K ⟨rfl,aS⟩;have ab:ai ik 2 K K.heap.size A t:=h.aa aS;have px:=aS.size;clear HC h;go_wp2
 go_loopw [8,32] (fun v i wr=>∃k:Nat,k<=t.length/\i=.int .i64 k/\Own ik 2 127 wr K.heap.size v (oQ t num den k)/\Below K.heap.size K wr) (fun _ i _=>t.length-(intOf i).toNat)
 case atStart=>exact⟨0,by omega,rfl,Own.cC _ _,atS _ _⟩
 case round=>
  obtain⟨k,hk,rfl,r,L⟩:=hrel;have kO:=ab.aa L;have br:=L.size;by_cases p:k<t.length
  ·obtain⟨b,off,rfl,hb,hc⟩:=kO.at_ p;have c0:=hc 0 _ rfl;have c1:=hc 1 _ rfl;simp only[atQ]at c0;have h4:=U.out.JM p;have h5:=U.out.hi k p;have NU:jz t num den k=t[k].cg*num/den:=(by rw[jz,ke p]);rw[ke p]at h4 h5;have p0:0<=t[k].cg*num:=aur h4 hn;have p1:t[k].cg*num<=1000000000000*53:=auS h5 (by omega) hn (by omega);have e1:(t[k].cg*num).tdiv den=t[k].cg*num/den:=avb p0;obtain⟨s0,s1⟩:=Xq (t:=t) U.out hn hd EK p;rw[NU]at s0 s1;rw[ke p]at s1;have fL:(k:Int)<(t.length:Int):=(by omega);have V:=atM NU;have B:=api (t:=t) (num:=num) (den:=den) k;clear hc NU;generalize hq:t[k].cg*num/den=C at*;clear hq;go_upto_region 10 with fail
   have X:=ah.new wr 127 #[.int .i64 C,.int .i64 t[k].cB];have Y:=eP L (.cells #[.int .i64 C,.int .i64 t[k].cB] 127);have n:=r.alloc (.cells #[.int .i64 C,.int .i64 t[k].cB] 127);have ad:=X.lt;have Z:=fun q hq=>(r.bR (g:=q) hq)
   generalize wr.alloc (.cells #[.int .i64 C,.int .i64 t[k].cB] 127)=W at X Y n ad|-;generalize wr.heap.size=gb at*;clear r L kO c0 c1;obtain⟨z0,z1⟩:=X.cz2;clear X;rcases k with _|m
   ·have HP:Hid (oQ t num den 1=[⟨C,t[0].cB⟩]):=(by rw[Hid,<-V.out,<-ke p];rfl);simp only[oQ]at n B;have hv:u8=.slice none 0 0\/∃g z,u8=.slice (some ⟨g,0,none⟩) 0 z/\z<=maxLen:=by
     rcases n.2 with⟨h1,_⟩|⟨g,M,af,h1,_,_,_,hm,_⟩
     ·exact .inl h1
     ·exact .inr ⟨g,M,h1,hm⟩
    clear V B;rcases hv with rfl|⟨g,cp,rfl,_⟩
    all_goals
     go_wp2;go_quiet(fail);go_wp2_with(at_builtin;(refine lD _ _ 38 ⟨C,t[0].cB⟩ _ 16 _ PR underlying38 (n.drewN _) Di (by omega) rfl (PS _) (by simp) (by omega) (by simp;omega) (by rfl) (by rfl) (by rfl) (by rfl) (by simp) (by rfl) ?_);intro v2 w6 cA cE);go_roundw
     case rel=>exact⟨1,by omega,by go_num,by rw[HP.out];exact cA,kH (below_drewN Y _) cE (fun g hg=>(Z g hg).1)⟩
     case measure=>simp[intOf];omega
   ·obtain⟨D,I⟩:=apk t num den m;have mX:m<t.length:=(by omega);have hS:=apl (num:=num) (den:=den) p;have N:=apm (t:=t) (num:=num) (den:=den) (k:=m);rw[V.out,ke p]at hS N;clear V;generalize oQ t num den (m+1)=J at*;obtain⟨j,O⟩:∃j,J.length=j+1:=⟨J.length-1,by omega⟩
    have BK:j<J.length:=(by omega);rw[O,Nat.add_sub_cancel]at I hS;rw[atW BK]at I;injection I with I
    have E:J[j].cg=jz t num den m:=(by rw[I]);obtain⟨g,cp,hv,aj,kM,oX,Fm⟩:=n.known (fun e=>by rw[e]at D;simp at D);obtain⟨A',c',Q,LU,_,_⟩:=n.form Di;rw[hv]at Q;injection Q with R4 _ R5
    subst R4 R5 hv;obtain⟨b3,ak,R,al,F⟩:=LU.at_ BK;injection R with R
    injection R with R gv
    subst R gv;have d0:=F 0 _ rfl;simp only[atX,atQ]at d0;rw[E]at d0;have f0:=oX (j*2);have f1:=oX (j*2+1);have d1:=F 1 _ rfl;simp only[atX]at d1;have am:g≠gb:=(by have:=Z g rfl;omega);have an:j<24:=(by omega);have ao:j<cp:=(by omega);rw[<-E]at hS N d0;clear oX F LU E I D mX;generalize J[j]=y at*;rw[O]at n;have S:=atM n;have G:=atM Z;have HJ:=atM O;rw[O];clear n Z O BK Fm B;by_cases u:C=y.cg
    ·have HS:=atM (hS u);have Xt:(y.cg==C)=true:=(by simp[u]);clear hS N u;go_wp2;go_quiet(fail);go_wp2;go_roundw
     case rel=>exact⟨m+2,by omega,by go_num,by rw[HS.out];exact Own.apg (ys:=J) Di HJ.out.symm (S.out.drewN _) (j:=j) (by have:=HJ.out;omega) _ _ _ rfl,(iL (iL (below_drewN Y _) (G.out _ rfl).1 _ _) (G.out _ rfl).1 _ _)⟩
     case measure=>simp[intOf];omega
    ·have HS:=atM (N u);have Xt:(y.cg==C)=false:=(by rw[auj];exact fun e=>u e.symm);clear hS N u;go_wp2;go_quiet(fail);go_wp2_with(at_builtin;(refine lD _ _ 38 ⟨C,t[m+1].cB⟩ _ 16 _ PR underlying38 (S.out.drewN _) Di (by omega) rfl (PS _) (by have:=HJ.out;omega) (by omega) (by simp;omega) (by rfl) (by rfl) (by rfl) (by rfl) (by simp) (by rfl) ?_);intro v2 w6 cA cE);go_roundw
     case rel=>exact⟨m+2,by omega,by go_num,by rw[HS.out];exact cA,kH (below_drewN Y _) cE (fun g hg=>(G.out g hg).1)⟩
     case measure=>simp[intOf];omega
  ·obtain rfl:k=t.length:=by omega
   have BG:Hid (qx t num den=oQ t num den t.length):=(apn U.out.ne).symm;go_wp2;go_ret2;exact⟨_,rfl,by rw[BG.out];exact r.weaken (by omega),aA aS L⟩
theorem abZ(r:List Int):∀(k j:Nat),j<=k->r.getD j 0<r.getD (k7 r k) 0\/(r.getD j 0=r.getD (k7 r k) 0/\k7 r k<=j)
 |0,j,h=>by
  obtain rfl:j=0:=by omega
  exact .inr ⟨rfl,atN _⟩
 |k+1,j,h=>by
  have p:=Vk r k;rw[k7];split
  ·rename_i n;by_cases e:j=k+1
   ·subst e;exact .inr ⟨rfl,atN _⟩
   ·rcases abZ r k j (by omega)with h1|h1<;>exact .inl (by omega)
  ·rename_i n;by_cases e:j=k+1
   ·subst e;by_cases u:r.getD (k+1) 0=r.getD (k7 r k) 0
    ·exact .inr ⟨u,by omega⟩
    ·exact .inl (by omega)
   ·exact abZ r k j (by omega)
theorem apo(r:List Int)(i:Nat)(hi:i<r.length)(h:∀j,j<r.length->r.getD j 0<r.getD i 0\/(r.getD j 0=r.getD i 0/\i<=j)):dM r=i:=by have e:=Q5 (r:=r) (by omega);have n:=h (dM r) e;have p:=abZ r (r.length-1) i (by omega);unfold dM at*;omega
def nh(P:List Int)(l:List Nat):List Int:=l.foldl (fun P i=>P.set i (P.getD i 0+1)) P
theorem apq(P:List Int)(l:List Nat):(nh P l).length=P.length:=by
 unfold nh
 induction l generalizing P with
 |nil=>rfl
 |cons i l e=>rw[au1,e];simp
theorem apr(P:List Int)(l:List Nat)(i:Nat):nh P (l++[i])=(nh P l).set i ((nh P l).getD i 0+1):=by simp[nh]
def LW(R:List Int)(a b:Nat):Prop:=R.getD b 0<R.getD a 0\/(R.getD a 0=R.getD b 0/\a<b)
theorem ahl:∀(m:Nat) (n:List Nat) (P R:List Int),m<=n.length->(∀i∈n,i<R.length/\0<=R.getD i 0)->(∀j,j<R.length->j∉n->R.getD j 0<0)->n.Pairwise (LW R)->Dd m P R=nh P (n.take m)
 |0,n,P,R,_,_,_,_=>rfl
 |m+1,[],P,R,y,_,_,_=>by simp at y
 |m+1,i::n,P,R,y,C,D,F=>by
  obtain⟨E,G⟩:=aus.1 F;obtain⟨hi,K⟩:=C i (by simp);have z:dM R=i:=apo R i hi fun j B=>by
   by_cases e:j∈i::n
   ·rcases auf.1 e with rfl|e
    ·exact .inr ⟨rfl,atN _⟩
    ·have:=E j e;unfold LW at this;omega
   ·have:=D j B e;exact .inl (by omega)
  have p:∀k∈n,k≠i:=fun k r e=>by subst e;have:=E k r;unfold LW at this;omega
  have u:∀k,(R.set i (-1)).getD k 0=if k=i then-1 else R.getD k 0:=fun k=>by
   rw[atZ,List.getElem?_set,atZ];by_cases e:i=k
   ·subst e;simp[hi]
   ·rw[atO e,atO (fun h=>e h.symm)]
  rw[Dd,z];refine(ahl m n _ _ (by simp at y;omega) (fun k r=>?_) (fun j B I=>?_) ?_).trans (by simp[nh])
  ·rw[u,atO (p k r),List.length_set];exact C k (by simp[r])
  ·rw[u];split
   ·omega
   ·rename_i e;exact D j (by simpa using B) (by simp[e,I])
  ·refine G.imp_of_mem fun{a b} J z h=>?_;unfold LW at h|-;rw[u,u,atO (p a J),atO (p b z)];exact h
theorem ahm{total:Int}{n:List Int}(p:0<ax n):0<=nS total n/\nS total n<=n.length:=by
 have key:∀(l:List Int) (s:Int),0<s->s*ax (l.map fun x=>total*x/s)+ax (l.map fun x=>total*x%s)=total*ax l/\ax (l.map fun x=>total*x%s)<=l.length*s:=by
  intro l s p
  induction l with
  |nil=>simp[ax]
  |cons a l y=>have:=Int.mul_ediv_add_emod (total*a) s;have z:=au2 (total*a) p;simp only[auW,ax,Int.mul_add,at4];rw[show((l.length+1:Nat):Int)*s=l.length*s+s by rw[Int.natCast_add,auN];omega];omega
 obtain⟨B,r⟩:=key n (ax n) p;have C:=Ox (total:=total) p;refine⟨by unfold nS;omega,?_⟩;have e:ax n*nS total n=ax (n.map fun x=>total*x%ax n):=by unfold nS cW;rw[Int.mul_sub,auZ (ax n) total];omega
 have u:nS total n*ax n<=n.length*ax n:=by rw[auZ,e];exact r
 exact Int.le_of_mul_le_mul_right u p
theorem aps{total:Int}{e:List Int}(u:0<ax e)(n:List Nat)(p:n.Perm (List.range e.length))(hy:n.Pairwise (LW (k6 total e))):
  en total e=nh (cW total e) (n.take (nS total e).toNat):=by
 have E:=ahm (total:=total) u;have z:=p.length_eq;rw[List.length_range]at z;have r:(k6 total e).length=e.length:=by simp[k6]
 refine ahl _ n _ _ (by omega) (fun i hi=>?_) (fun j F B=>?_) hy
 ·have C:=p.mem_iff.1 hi;rw[List.mem_range]at C;refine⟨by omega,IY (fun x D=>?_) i⟩;obtain⟨y,_,rfl⟩:=aue.1 D;exact auY _ (by omega)
 ·exact absurd (p.mem_iff.2 (List.mem_range.2 (by omega))) B
def kA(l:List bn)(aU:Bool)(last:Int×Int)(k:Nat):Int×Int:=(l.take k).foldl (C6 aU last) (10,0)
theorem akQ{l:List bn}{aU:Bool}{last:Int×Int}{k:Nat}(h:k<l.length):kA l aU last (k+1)=C6 aU last (kA l aU last k) l[k]:=by rw[kA,aud h,List.foldl_append];rfl
theorem akS(l:List bn)(aU:Bool)(last:Int×Int):kA l aU last l.length=gS l aU last:=by rw[kA,auv];rfl
theorem VH{aU:Bool}{last p:Int×Int}{o:bn}(h:mP aU o=true)(e:dR last (o.aT,o.day))(n:dR (o.aT,o.day) p):C6 aU last p o=(o.aT,o.day):=by rw[C6,atP ⟨h,e,n⟩]
theorem MF{aU:Bool}{last p:Int×Int}{o:bn}(h:mP aU o=false\/¬dR last (o.aT,o.day)\/¬dR (o.aT,o.day) p):C6 aU last p o=p:=by
 rw[C6,atO];rintro⟨a,b,c⟩;rcases h with h|h|h
 ·rw[h]at a;cases a
 ·exact h b
 ·exact h c
def jy(l:List bn)(key:Int×Int)(k:Nat):List bn:=(l.take k).filter (fY key)
theorem aaa{l:List bn}{key:Int×Int}{k:Nat}(h:k<l.length)(e:fY key l[k]=true):jy l key (k+1)=jy l key k++[l[k]]:=by rw[jy,aud h,auE,jy];simp[e]
theorem aeA{l:List bn}{key:Int×Int}{k:Nat}(h:k<l.length)(e:fY key l[k]=false):jy l key (k+1)=jy l key k:=by rw[jy,aud h,auE,jy];simp[e]
theorem aac(l:List bn)(key:Int×Int):jy l key l.length=l.filter (fY key):=by rw[jy,auv]
theorem aey(l:List bn)(key:Int×Int)(k:Nat):(jy l key k).length<=(l.filter (fY key)).length:=by have e:=congrArg (List.filter (fY key)) (avd k l);rw[auE]at e;have:=congrArg List.length e;rw[at3]at this;unfold jy;omega
theorem apt{l:List bn}{key:Int×Int}{k:Nat}(h:k<l.length)(n:fY key l[k]=true):(jy l key k).length<(l.filter (fY key)).length:=by have e:=aey l key (k+1);rw[aaa h n]at e;simp at e;omega
theorem ahn(o:bn)(p:Int):∀(os:List bn) (e:List Int) (out:List Elem),os.length=e.length->Ah out (os++[o]) (e++[p])=o9 (Ah out os e) o p
 |[],[],out,_=>rfl
 |[],_::_,_,h=>by simp at h
 |_::_,[],_,h=>by simp at h
 |x::os,q::e,out,h=>by rw[List.cons_append,List.cons_append,Ah,Ah];exact ahn o p os e _ (by simpa using h)
structure zN(l:List bn)(S0 jC:Int)(out:List Elem)(left taken:Int):Prop where
 pos:∀x∈out,0<=x.amount
 code:∀x∈out,∃o∈l,x.code=o.id
 sorted:jb out
 sum:aB out=S0+taken
 tl:taken+left=jC
 t0:0<=taken
 l0:0<=left
theorem zN.step{l:List bn}{e n:Int}{out:List Elem}{left taken:Int}(h:zN l e n out left taken){o:bn}(u:o∈l){p:Int}(y:0<=p)(B:p<=left):zN l e n (o9 out o p) (left-p) (taken+p):=by
 have z:IK l out.length out:=⟨h.pos,h.code,atN _⟩
 have r:=z.o9 u p;have C:=h.sum;have D:=h.tl;have E:=h.t0;exact⟨r.pos,r.code,aho h.sorted o p,by rw[agG _ _ y];omega,by omega,by omega,by omega⟩
theorem zN.len{l:List bn}{e n:Int}{out:List Elem}{left taken:Int}(h:zN l e n out left taken)(p:l.length<=16):out.length<=16:=at7 (V1 h.sorted h.code) p
theorem zN.MH{l:List bn}{e n:Int}{out:List Elem}{left taken:Int}(h:zN l e n out left taken)(hS:e<=1000000000)(r:n<=1000000000):∀x∈out,-1000000000000000<=x.amount/\x.amount<=1000000000000000:=fun x p=>by have u:=h.pos x p;have y:=(ahp h.pos).2 x p;have z:=h.sum;have B:=h.tl;have C:=h.l0;omega
theorem apu(P:List Int)(j:Nat)(h:j<P.length):P.take (j+1)=P.take j++[P.getD j 0]:=by rw[aud h,atZ,atW h];rfl
theorem ahq{P:List Int}(h:∀x∈P,0<=x)(j:Nat):0<=ax (P.take j)/\ax (P.take j)<=ax P:=by have key:∀Q:List Int,(∀x∈Q,0<=x)->0<=ax Q:=fun Q p=>(nv (l:=Q) (B:=ax Q) (fun x n=>⟨p x n,EZ p n⟩)).1;have e:=congrArg ax (avd j P);rw[F9]at e;have r:=key (P.take j) (fun x n=>h x (auh n));have u:=key (P.drop j) (fun x n=>h x (ave n));omega
def SlI(wr:World)(v:Value)(m:List Int):Prop:=∃A c,v=.slice A m.length c/\ai encI 1 wr wr.heap.size A m
structure qm(l:List bn)(key:Int×Int)(P:List Int)(out:List Elem)(left taken:Int)(k j:Nat)(o:List Elem)(lf tk:Int):Prop where
 hj:j=(jy l key k).length
 ho:o=Ah out (jy l key k) (P.take j)
 XQ:lf=left-ax (P.take j)
 mR:tk=taken+ax (P.take j)
section
variable {l:List bn}{key:Int×Int}{P:List Int}{out o:List Elem}{left taken lf tk:Int}{k j:Nat}
theorem qm.start:qm l key P out left taken 0 0 out left taken:=⟨rfl,by cases P<;>rfl,by simp[ax],by simp[ax]⟩
theorem qm.no(h:qm l key P out left taken k j o lf tk)(n:k<l.length)(p:fY key l[k]=false):qm l key P out left taken (k+1) j o lf tk:=by have e:=aeA n p;exact⟨by rw[e];exact h.hj,by rw[e];exact h.ho,h.XQ,h.mR⟩
theorem qm.lt(h:qm l key P out left taken k j o lf tk)(e:P.length=(l.filter (fY key)).length)(n:k<l.length)(p:fY key l[k]=true):j<P.length:=by rw[e,h.hj];exact apt n p
theorem qm.yes(h:qm l key P out left taken k j o lf tk)(u:P.length=(l.filter (fY key)).length)(n:k<l.length)(p:fY key l[k]=true):
  qm l key P out left taken (k+1) (j+1) (o9 o l[k] (P.getD j 0)) (lf-P.getD j 0) (tk+P.getD j 0):=by
 have r:=h.lt u n p;have e:=aaa n p;have s:=Q2 P j r;have y:(P.take j).length=j:=by rw[auH];omega
 refine⟨by rw[e,at3,<-h.hj];rfl,?_,by rw[s];have:=h.XQ;omega,by rw[s];have:=h.mR;omega⟩;rw[e,apu P j r,ahn _ _ _ _ _ (by rw[y];exact h.hj.symm),<-h.ho]
theorem qm.bd(h:qm l key P out left taken k j o lf tk)(e:∀x∈P,0<=x)(r:ax P<=left)(n:j<P.length):0<=P.getD j 0/\P.getD j 0<=lf:=by have p:=ahq e (j+1);rw[Q2 P j n]at p;have:=h.XQ;exact⟨IY e j,by omega⟩
theorem qm.done(h:qm l key P out left taken l.length j o lf tk)(y:P.length=(l.filter (fY key)).length):o=Ah out (l.filter (fY key)) P/\lf=left-ax P/\tk=taken+ax P:=by
 have p:=h.hj;rw[aac,<-y]at p;have e:P.take j=P:=by rw[p,auv]
 have n:=h.ho;have r:=h.XQ;have u:=h.mR;rw[e]at n r u;rw[aac]at n;exact⟨n,r,u⟩
end
def gj:bn:=⟨⟨#[]⟩,0,0,0,0⟩
def dV(l:List bn)(i:Nat):Int×Int:=((l.getD i gj).aT,(l.getD i gj).day)
def kt(T:List Int):List Nat->List Int->List Int
 |i::g,p::P=>kt (T.set i p) g P
 |_,_=>T
def kV:List bn->List Int->List Elem
 |o::l,t::T=>if 0<t then⟨o.id,t⟩::kV l T else kV l T
 |_,_=>[]
def Av(left:Int)(cs:List Int):List Int:=if left<ax cs then en left cs else cs
def FZ(l:List bn)(i j:Nat):Bool:=decide (dV l j=dV l i)
def kf(l:List bn)(i:Nat)(r:List Nat):List Nat:=(i::r).takeWhile (FZ l i)
def im(l:List bn)(g:List Nat):List Int:=g.map fun j=>iZ (l.getD j gj)
def kg(l:List bn):Nat->List Nat->Int->List Int->List Int
 |0,_,_,T=>T
 |_+1,[],_,T=>T
 |n+1,i::r,left,T=>kg l n ((i::r).drop (kf l i r).length) (left-ax (Av left (im l (kf l i r)))) (kt T (kf l i r) (Av left (im l (kf l i r))))
theorem ahr(l:List bn)(n:Nat)(left:Int)(T:List Int):kg l n [] left T=T:=by cases n<;>rfl
theorem XR:∀(g:List Nat) (P T:List Int),(kt T g P).length=T.length
 |[],P,T=>by cases P<;>rfl
 |i::g,[],T=>rfl
 |i::g,p::P,T=>by rw[kt,XR g P];simp
theorem ab0(T:List Int)(i j:Nat)(v:Int):(T.set i v).getD j 0=if i=j/\i<T.length then v else T.getD j 0:=by
 rw[atZ,List.getElem?_set,atZ];by_cases e:i=j
 ·subst e;by_cases h:i<T.length
  ·simp[h]
  ·simp[h]
 ·simp[e]
theorem ab1{j:Nat}:∀(g:List Nat) (P T:List Int),j∉g->(kt T g P).getD j 0=T.getD j 0
 |[],P,T,_=>by cases P<;>rfl
 |i::g,[],T,_=>rfl
 |i::g,p::P,T,h=>by rw[kt,ab1 g P _ (fun e=>h (by simp[e])),ab0,atO (fun e=>h (by simp[e.1]))]
theorem ab2:∀(g:List Nat) (P T:List Int),(∀x∈P,0<=x)->(∀x∈T,0<=x)->∀x∈kt T g P,0<=x
 |[],P,T,_,h=>by cases P<;>exact h
 |i::g,[],T,_,h=>h
 |i::g,p::P,T,r,h=>by
  refine ab2 g P _ (fun x n=>r x (by simp[n])) (fun x n=>?_);rcases avB n with e|e
  ·exact h x e
  ·rw[e];exact r p (by simp)
theorem ahs:∀(g:List Nat) (P T:List Int),g.length=P.length->g.Pairwise (·≠·)->(∀i∈g,i<T.length/\T.getD i 0=0)->ax (kt T g P)=ax T+ax P
 |[],[],T,_,_,_=>by simp[kt,ax]
 |[],p::P,T,h,_,_=>by simp at h
 |i::g,[],T,h,_,_=>by simp at h
 |i::g,p::P,T,h,u,n=>by
  obtain⟨y,z⟩:=aus.1 u;obtain⟨B,C⟩:=n i (by simp);rw[kt,ahs g P _ (by simpa using h) z (fun j r=>?_),Zd _ _ _ B,C,ax]
  ·omega
  ·obtain⟨D,E⟩:=n j (by simp[r]);refine⟨by simpa using D,?_⟩;rw[ab0,atO (fun e=>y j r e.1),E]
theorem ab3:∀(l:List bn) (T:List Int),∀x∈kV l T,∃o∈l,x.code=o.id
 |[],T,x,h=>by cases T<;>cases h
 |o::l,[],x,h=>by cases h
 |o::l,t::T,x,h=>by
  rw[kV]at h;split at h
  ·rcases auf.1 h with e|e
   ·exact⟨o,by simp,by rw[e]⟩
   ·obtain⟨n,p,r⟩:=ab3 l T x e;exact⟨n,by simp[p],r⟩
  ·obtain⟨n,p,r⟩:=ab3 l T x h;exact⟨n,by simp[p],r⟩
theorem apv(l:List bn)(n:Nat):kV l (List.replicate n 0)=[]:=by
 induction l generalizing n with
 |nil=>cases n<;>rfl
 |cons o l e=>cases n with
  |zero=>rfl
  |succ n=>rw[auV,kV,atO (by omega),e]
theorem aht:∀(l:List bn) (T:List Int) (i:Nat) (p:Int),l.Pairwise (fun a b=>Op.bytesLess a.id.toList b.id.toList=true)->T.length=l.length->i<l.length->T.getD i 0=0->o9 (kV l T) (l.getD i gj) p=kV l (T.set i p)
 |[],_,i,_,_,_,h,_=>by simp at h
 |o::l,[],_,_,_,h,_,_=>by simp at h
 |o::l,t::T,0,p,B,E,_,C=>by
  obtain⟨D,F⟩:=aus.1 B;obtain rfl:t=0:=by simpa using C
  rw[at9,kV,kV,atO (by omega),List.getD_cons_zero,o9];split
  ·have I:=ab3 l T;cases e:kV l T with
   |nil=>rfl
   |cons x r=>
    obtain⟨J,K,L⟩:=I x (by rw[e];simp);have M:=D J K;have n:ij ⟨o.id,p⟩ x=true:=(by unfold ij;rw[L];exact M);have u:ij x ⟨o.id,p⟩=false:=by
     cases N:ij x ⟨o.id,p⟩with
     |false=>rfl
     |true=>have:=aaR n N;rw[aft]at this;cases this
    have O:(x.code.toList==o.id.toList)=false:=by apply Bool.eq_false_iff.2;intro G;rw[beq_iff_eq]at G;unfold ij at n u;rw[show Elem.code ⟨o.id,p⟩=o.id from rfl]at n u;rw[G]at n u;rw[n]at u;cases u
    rw[put,u,O];rfl
  ·rfl
 |o::l,t::T,i+1,p,B,E,hi,C=>by
  obtain⟨D,F⟩:=aus.1 B;have Q:=aht l T i p F (by simpa using E) (by simpa using hi) (by simpa using C);have R:l.getD i gj∈l:=by have y:i<l.length:=(by simpa using hi);rw[atZ,atW y];exact atT y
  rw[at8,kV,kV,List.getD_cons_succ,<-Q];unfold o9;by_cases z:0<p
  ·rw[atP z,atP z];split
   ·have n:ij ⟨o.id,t⟩ ⟨(l.getD i gj).id,p⟩=true:=D _ R;rw[put,n];rfl
   ·rfl
  ·rw[atO z,atO z]
theorem ahu{l:List bn}(n:l.Pairwise (fun a b=>Op.bytesLess a.id.toList b.id.toList=true)):∀(g:List Nat) (P T:List Int),T.length=l.length->g.Pairwise (·≠·)->(∀i∈g,i<l.length/\T.getD i 0=0)->Ah (kV l T) (g.map fun j=>l.getD j gj) P=kV l (kt T g P)
 |[],P,T,_,_,_=>by cases P<;>rfl
 |i::g,[],T,_,_,_=>rfl
 |i::g,p::P,T,r,z,u=>by obtain⟨B,C⟩:=aus.1 z;obtain⟨D,E⟩:=u i (by simp);rw[auW,Ah,aht l T i p n r D E,kt];refine ahu n g P _ (by simpa using r) C (fun j y=>?_);obtain⟨F,G⟩:=u j (by simp[y]);exact⟨F,by rw[ab0,atO (fun e=>B j y e.1),G]⟩
theorem apw{l:List bn}{aU:Bool}{n:Int×Int}(C:∀o∈l,EM o){o:bn}(z:o∈l)(D:mP aU o=true)(E:dR n (o.aT,o.day)):¬dR (o.aT,o.day) (gS l aU n)/\(gS l aU n).1≠10:=by
 have mono:∀(m:List bn) (p k:Int×Int),¬dR k p->¬dR k (m.foldl (C6 aU n) p):=by
  intro m
  induction m with
  |nil=>intro p k h;exact h
  |cons a m r=>
   intro p k h;refine r _ _ ?_;unfold C6;split
   ·rename_i u;intro y;exact h (Qb y u.2.2)
   ·exact h
 have key:∀(m:List bn) (p:Int×Int),o∈m->¬dR (o.aT,o.day) (m.foldl (C6 aU n) p):=by
  intro m
  induction m with
  |nil=>intro p h;cases h
  |cons a m r=>
   intro p h;rw[au1];rcases auf.1 h with e|e
   ·subst e;refine mono m _ _ ?_;unfold C6;split
    ·exact LP _
    ·rename_i u;intro y;exact u ⟨D,E,y⟩
   ·exact r _ e
 have B:=key l (10,0) z;refine⟨B,fun e=>B ?_⟩;have:=(C o z).r1;unfold dR;left;show o.aT<(gS l aU n).1;omega
def NZ(l:List bn)(a b:Nat):Prop:=dR (dV l a) (dV l b)\/(dV l a=dV l b/\a<b)
theorem ahv:∀{a b:List Nat},a.Pairwise (·<·)->b.Pairwise (·<·)->(∀x,x∈a↔x∈b)->a=b
 |[],[],_,_,_=>rfl
 |[],y::b,_,_,h=>by have:=(h y).2 (by simp);cases this
 |x::a,[],_,_,h=>by have:=(h x).1 (by simp);cases this
 |x::a,y::b,B,C,h=>by
  obtain⟨r,D⟩:=aus.1 B;obtain⟨u,E⟩:=aus.1 C;have e:x=y:=by
   rcases auf.1 ((h x).1 (by simp))with e|e
   ·exact e
   ·rcases auf.1 ((h y).2 (by simp))with e'|e'
    ·exact e'.symm
    ·have:=u x e;have:=r y e';omega
  subst e;rw[ahv D E (fun z=>?_)];have p:=h z;simp only[auf]at p;constructor
  ·intro n;rcases p.1 (.inr n)with e|e
   ·have:=r z n;omega
   ·exact e
  ·intro n;rcases p.2 (.inr n)with e|e
   ·have:=u z n;omega
   ·exact e
theorem apx(l:List bn)(p:bn->Bool):((List.range l.length).filter fun j=>p (l.getD j gj)).map (fun j=>l.getD j gj)=l.filter p:=by
 have h:l=(List.range l.length).map fun j=>l.getD j gj:=by
  apply List.ext_getElem
  ·simp
  ·intro i e n;simp[atW e]
 conv=>rhs;rw[h]
 rw[List.filter_map];rfl
section
variable {l:List bn}{aU:Bool}
structure Rest(l:List bn)(aU:Bool)(last:Int×Int)(ys:List Nat):Prop where
 mem:∀i,i∈ys↔(i<l.length/\mP aU (l.getD i gj)=true/\dR last (dV l i))
 jr:ys.Pairwise (NZ l)
theorem Ql{l:List bn}{i:Nat}(hi:i<l.length):l.getD i gj∈l:=by rw[atZ,atW hi];exact atT hi
theorem Rest.none{last:Int×Int}(h:Rest l aU last []):(gS l aU last).1=10:=avx fun n=>by
 obtain⟨o,r,u,y,_⟩:=abv n;obtain⟨i,hi,e⟩:=aun.1 r;have p:l.getD i gj=o:=by rw[atZ,atW hi];exact e
 have:=(h.mem i).2 ⟨hi,by rw[p];exact u,by unfold dV;rw[p];exact y⟩;cases this
theorem Rest.next{n:Int×Int}{i:Nat}{r:List Nat}(D:∀o∈l,EM o)(h:Rest l aU n (i::r)):(gS l aU n).1≠10/\gS l aU n=dV l i:=by
 obtain⟨hi,E,F⟩:=(h.mem i).1 (by simp);obtain⟨z,B⟩:=apw D (Ql hi) E F;refine⟨B,?_⟩;obtain⟨o,G,I,J,K⟩:=abv B;obtain⟨j,C,e⟩:=aun.1 G;have p:l.getD j gj=o:=by rw[atZ,atW C];exact e
 have u:=(h.mem j).2 ⟨C,by rw[p];exact I,by unfold dV;rw[p];exact J⟩;have y:gS l aU n=dV l j:=by rw[K,<-p];rfl
 rcases auf.1 u with rfl|hm
 ·exact y
 ·have h5:=(aus.1 h.jr).1 j hm;rcases h5 with h5|h5
  ·rw[y]at z;exact absurd h5 z
  ·rw[y,h5.1]
theorem takeWhile_filter{z:Type}{p:z->Bool}:∀{e:List z},e.Pairwise (fun a b=>p a=false->p b=false)->e.takeWhile p=e.filter p/\e.drop (e.takeWhile p).length=e.filter (fun x=>!p x)
 |[],_=>⟨rfl,rfl⟩
 |a::e,h=>by
  obtain⟨C,D⟩:=aus.1 h;by_cases r:p a=true
  ·obtain⟨B,E⟩:=takeWhile_filter D;rw[avz r,List.filter_cons_of_pos r,List.filter_cons_of_neg (by simp[r]),B];refine⟨rfl,?_⟩;rw[at4,avw,<-B,E]
  ·have u:p a=false:=(by simpa using r);have n:∀x∈e,p x=false:=fun x y=>C x y u;rw[List.takeWhile_cons_of_neg r,List.filter_cons_of_neg r,List.filter_cons_of_pos (by simp[u])];refine⟨(List.filter_eq_nil_iff.2 fun x y=>by simp[n x y]).symm,?_⟩;rw[aug,List.drop_zero,List.filter_eq_self.2 fun x y=>by simp[n x y]]
theorem apy(a b:Int×Int)(e:¬dR a b)(n:¬dR b a):a=b:=by unfold dR at*;ext<;>omega
theorem Rest.grp{n:Int×Int}{i:Nat}{r:List Nat}(h:Rest l aU n (i::r)):(kf l i r).Pairwise (·<·)/\(∀j,j∈kf l i r↔(j<l.length/\dV l j=dV l i))/\Rest l aU (dV l i) ((i::r).drop (kf l i r).length):=by
 obtain⟨hi,B,C⟩:=(h.mem i).1 (by simp);have p:∀j∈i::r,j=i\/NZ l i j:=fun j F=>by
  rcases auf.1 F with e|e
  ·exact .inl e
  ·exact .inr ((aus.1 h.jr).1 j e)
 have G:(i::r).Pairwise (fun a b=>FZ l i a=false->FZ l i b=false):=by
  refine h.jr.imp_of_mem fun{a b} y D hab u=>?_;unfold FZ at*;rw[auA]at*;intro E;rcases p a y with rfl|N0
  ·exact u rfl
  ·rcases N0 with N0|N0
   ·rcases hab with hab|hab
    ·rw[E]at hab;exact LP _ (Qb N0 hab)
    ·rw[hab.1,E]at N0;exact LP _ N0
   ·exact u N0.1.symm
 obtain⟨t1,t2⟩:=takeWhile_filter G;unfold kf;rw[t2,t1];have z:∀j,j∈(i::r).filter (FZ l i)↔(j<l.length/\dV l j=dV l i):=fun j=>by
  rw[auR,h.mem];unfold FZ;rw[auc];constructor
  ·rintro⟨⟨a,_,_⟩,b⟩;exact⟨a,b⟩
  ·rintro⟨a,b⟩;refine⟨⟨a,?_,by rw[b];exact C⟩,b⟩;have e:(l.getD j gj).aT=(l.getD i gj).aT:=congrArg Prod.fst b;unfold mP at B|-;rw[e];exact B
 refine⟨?_,z,fun j=>?_,?_⟩
 ·refine(h.jr.filter _).imp_of_mem fun{a b} y D hab=>?_;have I:=((z a).1 y).2;have J:=((z b).1 D).2;rcases hab with hab|hab
  ·rw[I,J]at hab;exact absurd hab (LP _)
  ·exact hab.2
 ·rw[auR,h.mem];unfold FZ;constructor
  ·rintro⟨⟨a,b,c⟩,d⟩;refine⟨a,b,?_⟩;have K:=(h.mem j).2 ⟨a,b,c⟩;have d':¬dV l j=dV l i:=(by simpa using d);rcases p j K with e|e
   ·exact absurd (by rw[e]) d'
   ·rcases e with e|e
    ·exact e
    ·exact absurd e.1.symm d'
  ·rintro⟨a,b,c⟩;refine⟨⟨a,b,Qb C c⟩,?_⟩;have:¬dV l j=dV l i:=fun e=>by rw[e]at c;exact LP _ c
   simpa using this
 ·exact h.jr.filter _
theorem Rest.clm{e:Int×Int}{i:Nat}{r:List Nat}(h:Rest l aU e (i::r)):l.filter (fY (dV l i))=(kf l i r).map fun j=>l.getD j gj:=by
 obtain⟨n,p,_⟩:=h.grp;rw[<-apx l (fY (dV l i))];congr 1;refine ahv (List.pairwise_lt_range.filter _) n fun j=>?_;rw[auR,List.mem_range,p];constructor
 ·rintro⟨a,b⟩;refine⟨a,?_⟩;simp only[fY,aub,auc]at b;exact Prod.ext b.1 b.2
 ·rintro⟨a,b⟩;refine⟨a,?_⟩;have u:=congrArg Prod.fst b;have y:=congrArg Prod.snd b;simp only[fY,aub,auc];exact⟨u,y⟩
structure XS(l:List bn)(T:List Int)(ys:List Nat):Prop where
 len:T.length=l.length
 pos:∀x∈T,0<=x
 zero:∀i∈ys,T.getD i 0=0
theorem ab4(D:Bq l):∀(n:Nat) (u:List Nat) (e:Int×Int) (left taken:Int) (T:List Int),u.length<=n->0<=left->Rest l aU e u->XS l T u->
  nX l aU (o8 l aU e) e left (kV l T) taken=(kV l (kg l n u left T),taken+(ax (kg l n u left T)-ax T))/\(kg l n u left T).length=l.length/\(∀x∈kg l n u left T,0<=x)/\∀j,j∉u->(kg l n u left T).getD j 0=T.getD j 0
 |n,[],e,left,taken,T,_,_,B,y=>by rw[ahr,O2 _ B.none];exact⟨by rw[Int.sub_self,Int.add_zero],y.len,y.pos,fun _ _=>rfl⟩
 |0,i::r,e,left,taken,T,h,_,_,_=>by simp at h
 |n+1,i::r,e,left,taken,T,hn,N,B,y=>by
  obtain⟨O,Q⟩:=B.next D.ok;obtain⟨R,E,J⟩:=B.grp;have F:=B.clm;have S:JN l (dV l i)=im l (kf l i r):=by rw[JN,F,im,List.map_map];rfl
  have K:ql l (dV l i) left=Av left (im l (kf l i r)):=by rw[ql,S];rfl
  obtain⟨L,U,V⟩:=aae (k:=dV l i) D.ok N;have z:=aad l (dV l i) left;rw[K]at L U V z;rw[F,auq]at z;have M:∀j∈kf l i r,j∈i::r:=fun j p=>(List.takeWhile_sublist _).subset p;have C:(kf l i r).Pairwise (·≠·):=R.imp fun h=>by omega
  have G:∀j∈kf l i r,j<l.length/\T.getD j 0=0:=fun j p=>⟨((E j).1 p).1,y.zero j (M j p)⟩
  have X:0<(kf l i r).length:=by have:i∈kf l i r:=(E i).2 ⟨((B.mem i).1 (by simp)).1,rfl⟩;exact List.length_pos_of_mem this
  have I:∀j∈(i::r).drop (kf l i r).length,j∉kf l i r:=fun j p Y=>by have a:=((J.mem j).1 p).2.2;rw[((E j).1 Y).2]at a;exact LP _ a
  rw[aew O,Q,K,F,ahu D.jr _ _ _ y.len C G,kg];obtain⟨Z,q2,q3,q4⟩:=ab4 D n ((i::r).drop (kf l i r).length) (dV l i) (left-ax (Av left (im l (kf l i r)))) (taken+ax (Av left (im l (kf l i r)))) (kt T (kf l i r) (Av left (im l (kf l i r))))
   (by rw[List.length_drop];omega) (by omega) J ⟨by rw[XR];exact y.len,ab2 _ _ _ L y.pos,fun j p=>by rw[ab1 _ _ _ (I j p)];exact y.zero j (ave p)⟩
  refine⟨?_,q2,q3,fun j p=>?_⟩
  ·rw[Z,ahs _ _ _ z.symm C (fun j p=>⟨by rw[y.len];exact(G j p).1,(G j p).2⟩)];congr 1;omega
  ·rw[q4 j (fun h=>p (ave h)),ab1 _ _ _ (fun h=>p (M j h))]
end
theorem apA{l:List bn}{aU:Bool}(n:∀o∈l,EM o){e:List Nat}(p:e.Perm ((List.range l.length).filter fun i=>mP aU (l.getD i gj)))(h:e.Pairwise (NZ l)):Rest l aU (-1,-1) e:=by
 refine⟨fun i=>?_,h⟩;rw[p.mem_iff,auR,List.mem_range];constructor
 ·rintro⟨a,b⟩;have:=(n _ (Ql a)).r0;exact⟨a,b,.inl (by show(-1:Int)<(l.getD i gj).aT;omega)⟩
 ·rintro⟨a,b,_⟩;exact⟨a,b⟩
theorem apB{s:kB}{net deps:Int}{l:List bn}(B:Bq l)(ys p:List Nat)
  (hy:Rest l true (-1,-1) ys) (C:Rest l false (-1,-1) p) (e:List Int) (D:e=kg l l.length ys (net-iH s net deps) (List.replicate l.length 0)) (G:ys.length<=l.length) (u:p.length<=l.length):
  B6 s net deps l=kV l (kg l l.length p (max (net-ny s net deps-ax e) 0) e)/\XS l e p/\XS l (kg l l.length p (max (net-ny s net deps-ax e) 0) e) []/\0<=net-iH s net deps:=by
 have I:iH s net deps<=net:=by unfold iH;omega
 have J:ax (List.replicate l.length 0)=0:=by
  generalize l.length=n
  induction n with
  |zero=>rfl
  |succ n K=>rw[auV,ax,K];rfl
 obtain⟨E,L,M,N⟩:=ab4 B l.length ys (-1,-1) (net-iH s net deps) 0 (List.replicate l.length 0) G (by omega) hy ⟨by simp,by simp,fun i _=>by rw[atZ,avh];split<;>rfl⟩
 rw[<-D,apv,J]at E;have F:XS l e p:=by
  rw[D];refine⟨L,M,fun j O=>?_⟩;rw[N j,atZ,avh]
  ·split<;>rfl
  ·intro y;have z:=((C.mem j).1 O).2.1;have r:=((hy.mem j).1 y).2.1;unfold mP at z r;rw[beq_iff_eq]at z r;rw[z]at r;cases r
 obtain⟨Q,R,S,_⟩:=ab4 B l.length p (-1,-1) (max (net-ny s net deps-ax e) 0) 0 e u (by omega) C F;refine⟨?_,F,⟨R,S,by simp⟩,by omega⟩;unfold B6 jn;rw[E];simp only[Int.zero_add,Int.sub_zero];rw[Q]
