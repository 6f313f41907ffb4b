/- Conditions: as stated. -/
import Derived.Test.YtlhkojcmcmkmaaaGreatKDedV
import Derived.Test.YtlhkojcmcmkmaaaGreatKStabP
set_option maxRecDepth 100000
set_option maxHeartbeats 4000000
namespace Go.Proofs.YtlhkojcmcmkmaaaGreat
open Go.Proofs.Tryz
open Go.RowKit
theorem anD(m r d n:Int)(w:World)(z:0<=m)(F:m<=1000000000000)(G:0<=r)(I:r<=1000000000000)(B:0<=n)(C:n<=6):
  Calls prog 256 #[.int .i64 m,.int .i64 r,.int .i64 d,.int .i64 n] w fun e w'=>e=.returned (.bool (Pn m r d n))/\w=w':=by
 have p:Hid (Pn m r d n=if r=0 then false else if n=1\/n=3 then true else if n=4 then decide (d<=2*r)else if n=5 then decide (d<2*r)else if n=6 then decide (d<2*r)||(decide (2*r=d)&&decide (m%2=1))else false):=rfl;have u:m.tmod 2=m%2:=asO z;have y:=aq6 u;clear u;have D:n=0\/n=1\/n=2\/n=3\/n=4\/n=5\/n=6:=by omega
 clear B C;rcases D with rfl|rfl|rfl|rfl|rfl|rfl|rfl
 all_goals
  go_enter func256,ntmps256;go_wp2
  all_goals
   go_ret;refine⟨?_,rfl⟩;rw[p.out];have E:=y.out;simp only[E,beq_iff_eq,arS,ne_eq]at*;clear p y
   first|(simp_all;done)|(simp_all;rfl)
theorem anE(A:Option Addr)(u:Nat)(t:List cB)(inc unit mode:Int)(w:World)(h:aj gG 2 w w.heap.size A t)(E:gY t)(F:0<=inc)(Q:inc<=1000000000000)(u0:1<=unit)(u1:unit<=1000000)(G:0<=mode)(I:mode<=6):
  Calls prog 228 #[.slice A t.length u,.int .i64 inc,.int .i64 unit,.int .i64 mode] w fun e w'=>e=.returned (.tuple #[.int .i64 (Ce t inc unit mode),.int .i64 0])/\Below w.heap.size w w':=by
 obtain⟨y,J⟩:=ML (inc:=inc) E F (aq7 _);have K:py t inc t.length=nh t inc:=rfl;rw[K]at y J;have Z:nh t inc<=1000000000000000000:=by omega
 have R:Hid (Ce t inc unit mode=(nh t inc/(1000000*unit)+if Pn (nh t inc/(1000000*unit)) (nh t inc%(1000000*unit)) (1000000*unit) mode=true then 1 else 0)*unit):=by show Ce t inc unit mode=_;rw[Ce,anF y (by omega) G I]
 have L:=anG A u t inc w h E F Q;clear K J;generalize nh t inc=n at*;have e1:n.tdiv (1000000*unit)=n/(1000000*unit):=asn y;have e2:n.tmod (1000000*unit)=n%(1000000*unit):=asO y;have S:=asg n (show 1000000*unit≠0 by omega);have r1:=ash n (show 0<1000000*unit by omega);have B:0<=n/(1000000*unit):=ar5 y (by omega);have T:=Int.ediv_mul_le n (show(1000000*unit)≠0 by omega);have U:n/(1000000*unit)*(1000000*unit)=1000000*(n/(1000000*unit)*unit):=by rw[<-arM,arO _ 1000000,arM]
 have p0:0<=n/(1000000*unit)*unit:=arH B (by omega);have p1:n/(1000000*unit)*unit<=1000000000000:=by omega
 have V:(n/(1000000*unit)+1)*unit=n/(1000000*unit)*unit+unit:=by rw[ar2,Int.one_mul]
 have p3:0<=(n/(1000000*unit)+1)*unit:=by omega
 have p4:(n/(1000000*unit)+1)*unit<=1000001000000:=by omega
 have X:n/(1000000*unit)<=1000000000000:=by have:n/(1000000*unit)*1<=n/(1000000*unit)*unit:=arP u0 B;omega
 have M:=fun w=>anD (n/(1000000*unit)) (n%(1000000*unit)) (1000000*unit) mode w B X S (by omega) G I;have N:=aq6 L;have O:=aq6 M;have Y:1000000*unit<=1000000000000:=by omega
 have eQ:((1000000*unit:Int)==0)=false:=by rw[arS];omega
 clear T U V L M;go_enter func228,ntmps228;go_wp2_with fail;refine arf N.out ?_;rintro e w1 ⟨rfl,C⟩;clear N;go_wp2;go_quiet(fail);generalize n/(1000000*unit)=q at*;generalize n%(1000000*unit)=r at*;cases p:Pn q r (1000000*unit) mode
 all_goals have z:=R.out;rw[p]at z;simp only[arI,arK,ar1,Int.add_zero]at z;have D:=aq6 z;clear z;go_wp2_with fail;refine arf (O.out _) ?_;rintro e w2 ⟨rfl,rfl⟩;rw[p];clear p O;go_wp2;go_ret2;exact⟨by rw[D.out];rfl,below_drewN C _⟩
theorem anH{z:Type}{e:z->List Value}(D:∀x,(e x).length=2)(y:z)(a b:Value)(hy:e y=[a,b]):∀(n:List z) (j:Nat),j<n.length->(n.set j y).flatMap e=((n.flatMap e).set (j*2) a).set (j*2+1) b:=by
 intro n
 induction n with
 |nil=>intro j B;simp at B
 |cons x r E=>
  intro j B;obtain⟨p,u,C⟩:∃p u,e x=[p,u]:=by
   have:=D x
   match C:e x,this with
   |[p,u],_=>exact⟨p,u,rfl⟩
  cases j with
  |zero=>simp[hy,C]
  |succ j=>rw[arv,ar9,ar9,E j (by simpa using B),C];rw[show(j+1)*2=j*2+2 by omega,show j*2+2+1=j*2+1+2 by omega];simp
theorem Own.anI{r:Type}{p:r->List Value}{e:TypeId}{w:World}{base g cap:Nat}{ys:List r}(u:∀x,(p x).length=2){n:Nat}(z:n=ys.length)(h:Own p 2 e w base (.slice (some ⟨g,0,none⟩) n cap) ys){j:Nat}(B:j<ys.length)(y:r)(a b:Value)(hy:p y=[a,b]):
  Own p 2 e ((w.setCell ⟨g,j*2,none⟩ a).setCell ⟨g,j*2+1,none⟩ b) base (.slice (some ⟨g,0,none⟩) n cap) (ys.set j y):=by
 subst z;unfold Own;rw[anH u y a b hy ys j B,List.length_set];exact Qe (Qe h _ _) _ _
theorem Own.known{r:Type}{n:r->List Value}{k:Nat}{e:TypeId}{w:World}{base:Nat}{v:Value}{xs:List r}(h:Own n k e w base v xs)(p:xs≠[]):∃g cap,v=.slice (some ⟨g,0,none⟩) xs.length cap/\base<=g/\g<w.heap.size/\(∀i,w.frozen? ⟨g,i,none⟩=false)/\xs.length<=cap:=by
 rcases h.2 with⟨_,y⟩|⟨g,cap,z,B,C,u,D,_,_,_⟩
 ·exact absurd (asD y) p
 ·exact⟨g,cap,B,C,(asv.1 u).1,fun i=>by simp[World.frozen?,u],D⟩
theorem anJ(A:Option Addr)(z:Nat)(t:List cB)(num den:Int)(w:World)(h:aj gG 2 w w.heap.size A t)(S:gY t)(hn:0<=num)(hd:1<=den)(Eg:num<=den)(bP:den<=53):
  Calls prog 229 #[.slice A t.length z,.int .i64 num,.int .i64 den] w fun e w'=>∃v,e=.returned (.tuple #[v,.int .i64 0])/\Own gG 2 127 w' w.heap.size v (nQ t num den)/\Below w.heap.size w w':=by
 have T:=aq6 S;have hl:=S.len;have HC:=aq6 (Wn A z t w h S);have eQ:(den==0)=false:=by rw[arS];omega
 clear S;go_enter func229,ntmps229;go_wp2_with fail;refine arf HC.out ?_;rintro e J ⟨rfl,aT⟩;have ab:aj gG 2 J J.heap.size A t:=h.aa aT;have pd:=aT.size;clear HC h;go_wp2
 go_loopw [8,32] (fun v i wr=>∃k:Nat,k<=t.length/\i=.int .i64 k/\Own gG 2 127 wr J.heap.size v (nU t num den k)/\Below J.heap.size J wr) (fun _ i _=>t.length-(intOf i).toNat)
 case atStart=>exact⟨0,by omega,rfl,Own.cK _ _,arb _ _⟩
 case round=>
  obtain⟨k,hk,rfl,r,K⟩:=hrel;have kr:=ab.aa K;have br:=K.size;by_cases p:k<t.length
  ·obtain⟨b,al,rfl,hb,hc⟩:=kr.at_ p;have c0:=hc 0 _ rfl;have c1:=hc 1 _ rfl;simp only[ara]at c0;have h4:=T.out.I9 p;have h5:=T.out.hi k p;have MO:jk t num den k=t[k].bW*num/den:=(by rw[jk,jX p]);rw[jX p]at h4 h5;have p0:0<=t[k].bW*num:=arH h4 hn;have p1:t[k].bW*num<=1000000000000*53:=asm h5 (by omega) hn (by omega);have e1:(t[k].bW*num).tdiv den=t[k].bW*num/den:=asn p0;obtain⟨s0,s1⟩:=V2 (t:=t) T.out hn hd Eg p;rw[MO]at s0 s1;rw[jX p]at s1;have gK:(k:Int)<(t.length:Int):=(by omega);have U:=aq6 MO;have B:=anK (t:=t) (num:=num) (den:=den) k;clear hc MO;generalize hq:t[k].bW*num/den=C at*;clear hq;go_upto_region 10 with fail
   have V:=ah.new wr 127 #[.int .i64 C,.int .i64 t[k].bJ];have X:=ew K (.cells #[.int .i64 C,.int .i64 t[k].bJ] 127);have n:=r.alloc (.cells #[.int .i64 C,.int .i64 t[k].bJ] 127);have ad:=V.lt;have Y:=fun q hq=>(r.cg (g:=q) hq)
   generalize wr.alloc (.cells #[.int .i64 C,.int .i64 t[k].bJ] 127)=W at V X n ad|-;generalize wr.heap.size=gb at*;clear r K kr c0 c1;obtain⟨z0,z1⟩:=V.cz2;clear V;rcases k with _|m
   ·have HP:Hid (nU t num den 1=[⟨C,t[0].bJ⟩]):=(by rw[Hid,<-U.out,<-jX p];rfl);simp only[nU]at n B;have Z:u8=.slice none 0 0\/∃g z,u8=.slice (some ⟨g,0,none⟩) 0 z/\z<=maxLen:=by
     rcases n.2 with⟨h1,_⟩|⟨g,L,am,h1,_,_,_,hm,_⟩
     ·exact .inl h1
     ·exact .inr ⟨g,L,h1,hm⟩
    clear U B;rcases Z with rfl|⟨g,cp,rfl,_⟩
    all_goals
     go_wp2;go_quiet(fail);go_wp2_with(at_builtin;(refine my _ _ 38 ⟨C,t[0].bJ⟩ _ 16 _ OS underlying38 (n.drewN _) CS (by omega) rfl (OT _) (by simp) (by omega) (by simp;omega) (by rfl) (by rfl) (by rfl) (by rfl) (by simp) (by rfl) ?_);intro v2 w6 cE dW);go_roundw
     case rel=>exact⟨1,by omega,by go_num,by rw[HP.out];exact cE,jN (below_drewN X _) dW (fun g hg=>(Y g hg).1)⟩
     case measure=>simp[intOf];omega
   ·obtain⟨D,G⟩:=anM t num den m;have lK:m<t.length:=(by omega);have hS:=anN (num:=num) (den:=den) p;have M:=anO (t:=t) (num:=num) (den:=den) (k:=m);rw[U.out,jX p]at hS M;clear U;generalize nU t num den (m+1)=I at*;obtain⟨j,N⟩:∃j,I.length=j+1:=⟨I.length-1,by omega⟩
    have o9:j<I.length:=(by omega);rw[N,Nat.add_sub_cancel]at G hS;rw[aro o9]at G;injection G with G
    have Po:I[j].bW=jk t num den m:=(by rw[G]);obtain⟨g,cp,Z,an,kY,nZ,IP⟩:=n.known (fun e=>by rw[e]at D;simp at D);obtain⟨A',c',O,K1,_,_⟩:=n.form CS;rw[Z]at O;injection O with af _ ai
    subst af ai Z;obtain⟨b3,ao,Q,ap,E⟩:=K1.at_ o9;injection Q with Q
    injection Q with Q fQ
    subst Q fQ;have d0:=E 0 _ rfl;simp only[ark,ara]at d0;rw[Po]at d0;have f0:=nZ (j*2);have f1:=nZ (j*2+1);have d1:=E 1 _ rfl;simp only[ark]at d1;have av:g≠gb:=(by have:=Y g rfl;omega);have ax:j<24:=(by omega);have ay:j<cp:=(by omega);rw[<-Po]at hS M d0;clear nZ E K1 Po G D lK;generalize I[j]=y at*;rw[N]at n;have R:=aq6 n;have F:=aq6 Y;have HJ:=aq6 N;rw[N];clear n Y N o9 IP B;by_cases u:C=y.bW
    ·have HS:=aq6 (hS u);have V5:(y.bW==C)=true:=(by simp[u]);clear hS M u;go_wp2;go_quiet(fail);go_wp2;go_roundw
     case rel=>exact⟨m+2,by omega,by go_num,by rw[HS.out];exact Own.anI (ys:=I) CS HJ.out.symm (R.out.drewN _) (j:=j) (by have:=HJ.out;omega) _ _ _ rfl,(iJ (iJ (below_drewN X _) (F.out _ rfl).1 _ _) (F.out _ rfl).1 _ _)⟩
     case measure=>simp[intOf];omega
    ·have HS:=aq6 (M u);have V5:(y.bW==C)=false:=(by rw[arS];exact fun e=>u e.symm);clear hS M u;go_wp2;go_quiet(fail);go_wp2_with(at_builtin;(refine my _ _ 38 ⟨C,t[m+1].bJ⟩ _ 16 _ OS underlying38 (R.out.drewN _) CS (by omega) rfl (OT _) (by have:=HJ.out;omega) (by omega) (by simp;omega) (by rfl) (by rfl) (by rfl) (by rfl) (by simp) (by rfl) ?_);intro v2 w6 cE dW);go_roundw
     case rel=>exact⟨m+2,by omega,by go_num,by rw[HS.out];exact cE,jN (below_drewN X _) dW (fun g hg=>(F.out g hg).1)⟩
     case measure=>simp[intOf];omega
  ·obtain rfl:k=t.length:=by omega
   have EN:Hid (nQ t num den=nU t num den t.length):=(anP T.out.ne).symm;go_wp2;go_ret2;exact⟨_,rfl,by rw[EN.out];exact r.weaken (by omega),aB aT K⟩
theorem aaR(r:List Int):∀(k j:Nat),j<=k->r.getD j 0<r.getD (kI r k) 0\/(r.getD j 0=r.getD (kI r k) 0/\kI r k<=j)
 |0,j,h=>by
  obtain rfl:j=0:=by omega
  exact .inr ⟨rfl,aq7 _⟩
 |k+1,j,h=>by
  have p:=TZ r k;rw[kI];split
  ·rename_i n;by_cases e:j=k+1
   ·subst e;exact .inr ⟨rfl,aq7 _⟩
   ·rcases aaR r k j (by omega)with h1|h1<;>exact .inl (by omega)
  ·rename_i n;by_cases e:j=k+1
   ·subst e;by_cases u:r.getD (k+1) 0=r.getD (kI r k) 0
    ·exact .inr ⟨u,by omega⟩
    ·exact .inl (by omega)
   ·exact aaR r k j (by omega)
theorem anQ(r:List Int)(i:Nat)(hi:i<r.length)(h:∀j,j<r.length->r.getD j 0<r.getD i 0\/(r.getD j 0=r.getD i 0/\i<=j)):dJ r=i:=by have e:=PT (r:=r) (by omega);have n:=h (dJ r) e;have p:=aaR r (r.length-1) i (by omega);unfold dJ at*;omega
def mn(P:List Int)(l:List Nat):List Int:=l.foldl (fun P i=>P.set i (P.getD i 0+1)) P
theorem anR(P:List Int)(l:List Nat):(mn P l).length=P.length:=by
 unfold mn
 induction l generalizing P with
 |nil=>rfl
 |cons i l e=>rw[asq,e];simp
theorem anS(P:List Int)(l:List Nat)(i:Nat):mn P (l++[i])=(mn P l).set i ((mn P l).getD i 0+1):=by simp[mn]
def K3(R:List Int)(a b:Nat):Prop:=R.getD b 0<R.getD a 0\/(R.getD a 0=R.getD b 0/\a<b)
theorem af1:∀(m:Nat) (n:List Nat) (P R:List Int),m<=n.length->(∀i∈n,i<R.length/\0<=R.getD i 0)->(∀j,j<R.length->j∉n->R.getD j 0<0)->n.Pairwise (K3 R)->Cr m P R=mn P (n.take m)
 |0,n,P,R,_,_,_,_=>rfl
 |m+1,[],P,R,y,_,_,_=>by simp at y
 |m+1,i::n,P,R,y,C,D,F=>by
  obtain⟨E,G⟩:=ar8.1 F;obtain⟨hi,K⟩:=C i (by simp);have z:dJ R=i:=anQ R i hi fun j B=>by
   by_cases e:j∈i::n
   ·rcases arF.1 e with rfl|e
    ·exact .inr ⟨rfl,aq7 _⟩
    ·have:=E j e;unfold K3 at this;omega
   ·have:=D j B e;exact .inl (by omega)
  have p:∀k∈n,k≠i:=fun k r e=>by subst e;have:=E k r;unfold K3 at this;omega
  have u:∀k,(R.set i (-1)).getD k 0=if k=i then-1 else R.getD k 0:=fun k=>by
   rw[aru,List.getElem?_set,aru];by_cases e:i=k
   ·subst e;simp[hi]
   ·rw[aq8 e,aq8 (fun h=>e h.symm)]
  rw[Cr,z];refine(af1 m n _ _ (by simp at y;omega) (fun k r=>?_) (fun j B I=>?_) ?_).trans (by simp[mn])
  ·rw[u,aq8 (p k r),List.length_set];exact C k (by simp[r])
  ·rw[u];split
   ·omega
   ·rename_i e;exact D j (by simpa using B) (by simp[e,I])
  ·refine G.imp_of_mem fun{a b} J z h=>?_;unfold K3 at h|-;rw[u,u,aq8 (p a J),aq8 (p b z)];exact h
theorem af2{total:Int}{n:List Int}(p:0<aC n):0<=mR total n/\mR total n<=n.length:=by
 have key:∀(l:List Int) (s:Int),0<s->s*aC (l.map fun x=>total*x/s)+aC (l.map fun x=>total*x%s)=total*aC l/\aC (l.map fun x=>total*x%s)<=l.length*s:=by
  intro l s p
  induction l with
  |nil=>simp[aC]
  |cons a l y=>have:=Int.mul_ediv_add_emod (total*a) s;have z:=ash (total*a) p;simp only[asi,aC,ast,ars];rw[show((l.length+1:Nat):Int)*s=l.length*s+s by rw[asL,ar2];omega];omega
 obtain⟨B,r⟩:=key n (aC n) p;have C:=Ns (total:=total) p;refine⟨by unfold mR;omega,?_⟩;have e:aC n*mR total n=aC (n.map fun x=>total*x%aC n):=by unfold mR cR;rw[Int.mul_sub,arO (aC n) total];omega
 have u:mR total n*aC n<=n.length*aC n:=by rw[arO,e];exact r
 exact Int.le_of_mul_le_mul_right u p
theorem anT{total:Int}{e:List Int}(u:0<aC e)(n:List Nat)(p:n.Perm (List.range e.length))(hy:n.Pairwise (K3 (kH total e))):
  eu total e=mn (cR total e) (n.take (mR total e).toNat):=by
 have E:=af2 (total:=total) u;have z:=p.length_eq;rw[List.length_range]at z;have r:(kH total e).length=e.length:=by simp[kH]
 refine af1 _ n _ _ (by omega) (fun i hi=>?_) (fun j F B=>?_) hy
 ·have C:=p.mem_iff.1 hi;rw[List.mem_range]at C;refine⟨by omega,Jz (fun x D=>?_) i⟩;obtain⟨y,_,rfl⟩:=arB.1 D;exact asg _ (by omega)
 ·exact absurd (p.mem_iff.2 (List.mem_range.2 (by omega))) B
structure Qr(l:List eP)(S0 AB:Int)(out:List Elem)(left taken:Int):Prop where
 pos:∀x∈out,0<=x.amount
 code:∀x∈out,∃o∈l,x.code=o.id
 sorted:iO out
 sum:aQ out=S0+taken
 tl:taken+left=AB
 t0:0<=taken
 l0:0<=left
theorem anU{P:List Int}(h:∀x∈P,0<=x)(j:Nat):0<=aC (P.take j)/\aC (P.take j)<=aC P:=by have key:∀Q:List Int,(∀x∈Q,0<=x)->0<=aC Q:=fun Q p=>(kV (l:=Q) (B:=aC Q) (fun x n=>⟨p x n,En p n⟩)).1;have e:=congrArg aC (asP j P);rw[Hq]at e;have r:=key (P.take j) (fun x n=>h x (arD n));have u:=key (P.drop j) (fun x n=>h x (List.mem_of_mem_drop n));omega
section
variable {l:List eP}{key:Int×Int}{P:List Int}{out o:List Elem}{left taken lf tk:Int}{k j:Nat}
end
section
variable {l:List eP}{iN:Bool}
end
