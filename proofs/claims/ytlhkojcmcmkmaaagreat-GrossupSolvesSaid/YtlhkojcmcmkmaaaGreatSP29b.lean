/- Conditions: as stated. -/
import Derived.Test.YtlhkojcmcmkmaaaGreatSDedV
import Derived.Test.YtlhkojcmcmkmaaaGreatSStabP
set_option maxRecDepth 100000
set_option maxHeartbeats 4000000
namespace Go.Proofs.YtlhkojcmcmkmaaaGreat
open Go.Proofs.Tryz
open Go.RowKit
theorem anY(m r d n:Int)(w:World)(z:0<=m)(F:m<=1000000000000)(G:0<=r)(I:r<=1000000000000)(B:0<=n)(C:n<=6):
  Calls prog 256 #[.int .i64 m,.int .i64 r,.int .i64 d,.int .i64 n] w fun e w'=>e=.returned (.bool (PM m r d n))/\w=w':=by
 have p:Hid (PM m r d n=if r=0 then false else if n=1\/n=3 then true else if n=4 then decide (d<=2*r)else if n=5 then decide (d<2*r)else if n=6 then decide (d<2*r)||(decide (2*r=d)&&decide (m%2=1))else false):=rfl;have u:m.tmod 2=m%2:=atm z;have y:=arH u;clear u;have D:n=0\/n=1\/n=2\/n=3\/n=4\/n=5\/n=6:=by omega
 clear B C;rcases D with rfl|rfl|rfl|rfl|rfl|rfl|rfl
 all_goals
  go_enter func256,ntmps256;go_wp2
  all_goals
   go_ret;refine⟨?_,rfl⟩;rw[p.out];have E:=y.out;simp only[E,beq_iff_eq,ass,ne_eq]at*;clear p y
   first|(simp_all;done)|(simp_all;rfl)
theorem anZ(A:Option Addr)(u:Nat)(t:List cv)(inc unit mode:Int)(w:World)(h:aj gQ 2 w w.heap.size A t)(E:ig t)(F:0<=inc)(Q:inc<=1000000000000)(u0:1<=unit)(u1:unit<=1000000)(G:0<=mode)(I:mode<=6):
  Calls prog 228 #[.slice A t.length u,.int .i64 inc,.int .i64 unit,.int .i64 mode] w fun e w'=>e=.returned (.tuple #[.int .i64 (CL t inc unit mode),.int .i64 0])/\Below w.heap.size w w':=by
 obtain⟨y,J⟩:=Nk (inc:=inc) E F (arI _);have K:pW t inc t.length=nL t inc:=rfl;rw[K]at y J;have Z:nL t inc<=1000000000000000000:=by omega
 have R:Hid (CL t inc unit mode=(nL t inc/(1000000*unit)+if PM (nL t inc/(1000000*unit)) (nL t inc%(1000000*unit)) (1000000*unit) mode=true then 1 else 0)*unit):=by show CL t inc unit mode=_;rw[CL,an0 y (by omega) G I]
 have L:=an1 A u t inc w h E F Q;clear K J;generalize nL t inc=n at*;have e1:n.tdiv (1000000*unit)=n/(1000000*unit):=asK y;have e2:n.tmod (1000000*unit)=n%(1000000*unit):=atm y;have S:=asP n (show 1000000*unit≠0 by omega);have r1:=asQ n (show 0<1000000*unit by omega);have B:0<=n/(1000000*unit):=asG y (by omega);have T:=Int.ediv_mul_le n (show(1000000*unit)≠0 by omega);have U:n/(1000000*unit)*(1000000*unit)=1000000*(n/(1000000*unit)*unit):=by rw[<-asm,asn _ 1000000,asm]
 have p0:0<=n/(1000000*unit)*unit:=asg B (by omega);have p1:n/(1000000*unit)*unit<=1000000000000:=by omega
 have V:(n/(1000000*unit)+1)*unit=n/(1000000*unit)*unit+unit:=by rw[asD,Int.one_mul]
 have p3:0<=(n/(1000000*unit)+1)*unit:=by omega
 have p4:(n/(1000000*unit)+1)*unit<=1000001000000:=by omega
 have X:n/(1000000*unit)<=1000000000000:=by have:n/(1000000*unit)*1<=n/(1000000*unit)*unit:=asq u0 B;omega
 have M:=fun w=>anY (n/(1000000*unit)) (n%(1000000*unit)) (1000000*unit) mode w B X S (by omega) G I;have N:=arH L;have O:=arH M;have Y:1000000*unit<=1000000000000:=by omega
 have eY:((1000000*unit:Int)==0)=false:=by rw[ass];omega
 clear T U V L M;go_enter func228,ntmps228;go_wp2_with fail;refine arP N.out ?_;rintro e w1 ⟨rfl,C⟩;clear N;go_wp2;go_quiet(fail);generalize n/(1000000*unit)=q at*;generalize n%(1000000*unit)=r at*;cases p:PM q r (1000000*unit) mode
 all_goals have z:=R.out;rw[p]at z;simp only[ash,asj,asC,Int.add_zero]at z;have D:=arH z;clear z;go_wp2_with fail;refine arP (O.out _) ?_;rintro e w2 ⟨rfl,rfl⟩;rw[p];clear p O;go_wp2;go_ret2;exact⟨by rw[D.out];rfl,below_drewN C _⟩
theorem an2{z:Type}{e:z->List Value}(D:∀x,(e x).length=2)(y:z)(a b:Value)(hy:e y=[a,b]):∀(n:List z) (j:Nat),j<n.length->(n.set j y).flatMap e=((n.flatMap e).set (j*2) a).set (j*2+1) b:=by
 intro n
 induction n with
 |nil=>intro j B;simp at B
 |cons x r E=>
  intro j B;obtain⟨p,u,C⟩:∃p u,e x=[p,u]:=by
   have:=D x
   match C:e x,this with
   |[p,u],_=>exact⟨p,u,rfl⟩
  cases j with
  |zero=>simp[hy,C]
  |succ j=>rw[ar2,asL,asL,E j (by simpa using B),C];rw[show(j+1)*2=j*2+2 by omega,show j*2+2+1=j*2+1+2 by omega];simp
theorem Own.an3{r:Type}{p:r->List Value}{e:TypeId}{w:World}{base g cap:Nat}{ys:List r}(u:∀x,(p x).length=2){n:Nat}(z:n=ys.length)(h:Own p 2 e w base (.slice (some ⟨g,0,none⟩) n cap) ys){j:Nat}(B:j<ys.length)(y:r)(a b:Value)(hy:p y=[a,b]):
  Own p 2 e ((w.setCell ⟨g,j*2,none⟩ a).setCell ⟨g,j*2+1,none⟩ b) base (.slice (some ⟨g,0,none⟩) n cap) (ys.set j y):=by
 subst z;unfold Own;rw[an2 u y a b hy ys j B,List.length_set];exact QE (QE h _ _) _ _
theorem Own.known{r:Type}{n:r->List Value}{k:Nat}{e:TypeId}{w:World}{base:Nat}{v:Value}{xs:List r}(h:Own n k e w base v xs)(p:xs≠[]):∃g cap,v=.slice (some ⟨g,0,none⟩) xs.length cap/\base<=g/\g<w.heap.size/\(∀i,w.frozen? ⟨g,i,none⟩=false)/\xs.length<=cap:=by
 rcases h.2 with⟨_,y⟩|⟨g,cap,z,B,C,u,D,_,_,_⟩
 ·exact absurd (atb y) p
 ·exact⟨g,cap,B,C,(as1.1 u).1,fun i=>by simp[World.frozen?,u],D⟩
theorem an4(A:Option Addr)(z:Nat)(t:List cv)(num den:Int)(w:World)(h:aj gQ 2 w w.heap.size A t)(S:ig t)(hn:0<=num)(hd:1<=den)(EM:num<=den)(bS:den<=53):
  Calls prog 229 #[.slice A t.length z,.int .i64 num,.int .i64 den] w fun e w'=>∃v,e=.returned (.tuple #[v,.int .i64 0])/\Own gQ 2 127 w' w.heap.size v (ou t num den)/\Below w.heap.size w w':=by
 have T:=arH S;have hl:=S.len;have HC:=arH (Xa A z t w h S);have eY:(den==0)=false:=by rw[ass];omega
 clear S;go_enter func229,ntmps229;go_wp2_with fail;refine arP HC.out ?_;rintro e J ⟨rfl,aS⟩;have ab:aj gQ 2 J J.heap.size A t:=h.aa aS;have pK:=aS.size;clear HC h;go_wp2
 go_loopw [8,32] (fun v i wr=>∃k:Nat,k<=t.length/\i=.int .i64 k/\Own gQ 2 127 wr J.heap.size v (oB t num den k)/\Below J.heap.size J wr) (fun _ i _=>t.length-(intOf i).toNat)
 case atStart=>exact⟨0,by omega,rfl,Own.cL _ _,arM _ _⟩
 case round=>
  obtain⟨k,hk,rfl,r,K⟩:=hrel;have kC:=ab.aa K;have bA:=K.size;by_cases p:k<t.length
  ·obtain⟨b,al,rfl,hb,hc⟩:=kC.at_ p;have c0:=hc 0 _ rfl;have c1:=hc 1 _ rfl;simp only[arL]at c0;have h4:=T.out.Jz p;have h5:=T.out.hi k p;have Np:jA t num den k=t[k].bX*num/den:=(by rw[jA,kh p]);rw[kh p]at h4 h5;have p0:0<=t[k].bX*num:=asg h4 hn;have p1:t[k].bX*num<=1000000000000*53:=asV h5 (by omega) hn (by omega);have e1:(t[k].bX*num).tdiv den=t[k].bX*num/den:=asK p0;obtain⟨s0,s1⟩:=WC (t:=t) T.out hn hd EM p;rw[Np]at s0 s1;rw[kh p]at s1;have eC:(k:Int)<(t.length:Int):=(by omega);have U:=arH Np;have B:=an5 (t:=t) (num:=num) (den:=den) k;clear hc Np;generalize hq:t[k].bX*num/den=C at*;clear hq;go_upto_region 10 with fail
   have V:=ah.new wr 127 #[.int .i64 C,.int .i64 t[k].bH];have X:=ej K (.cells #[.int .i64 C,.int .i64 t[k].bH] 127);have n:=r.alloc (.cells #[.int .i64 C,.int .i64 t[k].bH] 127);have ad:=V.lt;have Y:=fun q hq=>(r.cm (g:=q) hq)
   generalize wr.alloc (.cells #[.int .i64 C,.int .i64 t[k].bH] 127)=W at V X n ad|-;generalize wr.heap.size=gb at*;clear r K kC c0 c1;obtain⟨z0,z1⟩:=V.cz2;clear V;rcases k with _|m
   ·have HP:Hid (oB t num den 1=[⟨C,t[0].bH⟩]):=(by rw[Hid,<-U.out,<-kh p];rfl);simp only[oB]at n B;have Z:u8=.slice none 0 0\/∃g z,u8=.slice (some ⟨g,0,none⟩) 0 z/\z<=maxLen:=by
     rcases n.2 with⟨h1,_⟩|⟨g,L,am,h1,_,_,_,hm,_⟩
     ·exact .inl h1
     ·exact .inr ⟨g,L,h1,hm⟩
    clear U B;rcases Z with rfl|⟨g,cp,rfl,_⟩
    all_goals
     go_wp2;go_quiet(fail);go_wp2_with(at_builtin;(refine mQ _ _ 38 ⟨C,t[0].bH⟩ _ 16 _ Pl underlying38 (n.drewN _) CK (by omega) rfl (Pm _) (by simp) (by omega) (by simp;omega) (by rfl) (by rfl) (by rfl) (by rfl) (by simp) (by rfl) ?_);intro v2 w6 cI dS);go_roundw
     case rel=>exact⟨1,by omega,by go_num,by rw[HP.out];exact cI,kN (below_drewN X _) dS (fun g hg=>(Y g hg).1)⟩
     case measure=>simp[intOf];omega
   ·obtain⟨D,G⟩:=an7 t num den m;have mE:m<t.length:=(by omega);have hS:=an8 (num:=num) (den:=den) p;have M:=an9 (t:=t) (num:=num) (den:=den) (k:=m);rw[U.out,kh p]at hS M;clear U;generalize oB t num den (m+1)=I at*;obtain⟨j,N⟩:∃j,I.length=j+1:=⟨I.length-1,by omega⟩
    have o7:j<I.length:=(by omega);rw[N,Nat.add_sub_cancel]at G hS;rw[arW o7]at G;injection G with G
    have Jp:I[j].bX=jA t num den m:=(by rw[G]);obtain⟨g,cp,Z,an,lC,oH,Jd⟩:=n.known (fun e=>by rw[e]at D;simp at D);obtain⟨A',c',O,Lt,_,_⟩:=n.form CK;rw[Z]at O;injection O with af _ ai
    subst af ai Z;obtain⟨b3,ao,Q,ap,E⟩:=Lt.at_ o7;injection Q with Q
    injection Q with Q fY
    subst Q fY;have d0:=E 0 _ rfl;simp only[arT,arL]at d0;rw[Jp]at d0;have f0:=oH (j*2);have f1:=oH (j*2+1);have d1:=E 1 _ rfl;simp only[arT]at d1;have au:g≠gb:=(by have:=Y g rfl;omega);have av:j<24:=(by omega);have ay:j<cp:=(by omega);rw[<-Jp]at hS M d0;clear oH E Lt Jp G D mE;generalize I[j]=y at*;rw[N]at n;have R:=arH n;have F:=arH Y;have HJ:=arH N;rw[N];clear n Y N o7 Jd B;by_cases u:C=y.bX
    ·have HS:=arH (hS u);have WG:(y.bX==C)=true:=(by simp[u]);clear hS M u;go_wp2;go_quiet(fail);go_wp2;go_roundw
     case rel=>exact⟨m+2,by omega,by go_num,by rw[HS.out];exact Own.an3 (ys:=I) CK HJ.out.symm (R.out.drewN _) (j:=j) (by have:=HJ.out;omega) _ _ _ rfl,(iX (iX (below_drewN X _) (F.out _ rfl).1 _ _) (F.out _ rfl).1 _ _)⟩
     case measure=>simp[intOf];omega
    ·have HS:=arH (M u);have WG:(y.bX==C)=false:=(by rw[ass];exact fun e=>u e.symm);clear hS M u;go_wp2;go_quiet(fail);go_wp2_with(at_builtin;(refine mQ _ _ 38 ⟨C,t[m+1].bH⟩ _ 16 _ Pl underlying38 (R.out.drewN _) CK (by omega) rfl (Pm _) (by have:=HJ.out;omega) (by omega) (by simp;omega) (by rfl) (by rfl) (by rfl) (by rfl) (by simp) (by rfl) ?_);intro v2 w6 cI dS);go_roundw
     case rel=>exact⟨m+2,by omega,by go_num,by rw[HS.out];exact cI,kN (below_drewN X _) dS (fun g hg=>(F.out g hg).1)⟩
     case measure=>simp[intOf];omega
  ·obtain rfl:k=t.length:=by omega
   have Fo:Hid (ou t num den=oB t num den t.length):=(aoa T.out.ne).symm;go_wp2;go_ret2;exact⟨_,rfl,by rw[Fo.out];exact r.weaken (by omega),aB aS K⟩
theorem abe(r:List Int):∀(k j:Nat),j<=k->r.getD j 0<r.getD (kS r k) 0\/(r.getD j 0=r.getD (kS r k) 0/\kS r k<=j)
 |0,j,h=>by
  obtain rfl:j=0:=by omega
  exact .inr ⟨rfl,arI _⟩
 |k+1,j,h=>by
  have p:=Uu r k;rw[kS];split
  ·rename_i n;by_cases e:j=k+1
   ·subst e;exact .inr ⟨rfl,arI _⟩
   ·rcases abe r k j (by omega)with h1|h1<;>exact .inl (by omega)
  ·rename_i n;by_cases e:j=k+1
   ·subst e;by_cases u:r.getD (k+1) 0=r.getD (kS r k) 0
    ·exact .inr ⟨u,by omega⟩
    ·exact .inl (by omega)
   ·exact abe r k j (by omega)
theorem aob(r:List Int)(i:Nat)(hi:i<r.length)(h:∀j,j<r.length->r.getD j 0<r.getD i 0\/(r.getD j 0=r.getD i 0/\i<=j)):dN r=i:=by have e:=Qk (r:=r) (by omega);have n:=h (dN r) e;have p:=abe r (r.length-1) i (by omega);unfold dN at*;omega
def mO(P:List Int)(l:List Nat):List Int:=l.foldl (fun P i=>P.set i (P.getD i 0+1)) P
theorem aoc(P:List Int)(l:List Nat):(mO P l).length=P.length:=by
 unfold mO
 induction l generalizing P with
 |nil=>rfl
 |cons i l e=>rw[asR,e];simp
theorem aod(P:List Int)(l:List Nat)(i:Nat):mO P (l++[i])=(mO P l).set i ((mO P l).getD i 0+1):=by simp[mO]
def Lv(R:List Int)(a b:Nat):Prop:=R.getD b 0<R.getD a 0\/(R.getD a 0=R.getD b 0/\a<b)
theorem age:∀(m:Nat) (n:List Nat) (P R:List Int),m<=n.length->(∀i∈n,i<R.length/\0<=R.getD i 0)->(∀j,j<R.length->j∉n->R.getD j 0<0)->n.Pairwise (Lv R)->CY m P R=mO P (n.take m)
 |0,n,P,R,_,_,_,_=>rfl
 |m+1,[],P,R,y,_,_,_=>by simp at y
 |m+1,i::n,P,R,y,C,D,F=>by
  obtain⟨E,G⟩:=asJ.1 F;obtain⟨hi,K⟩:=C i (by simp);have z:dN R=i:=aob R i hi fun j B=>by
   by_cases e:j∈i::n
   ·rcases asb.1 e with rfl|e
    ·exact .inr ⟨rfl,arI _⟩
    ·have:=E j e;unfold Lv at this;omega
   ·have:=D j B e;exact .inl (by omega)
  have p:∀k∈n,k≠i:=fun k r e=>by subst e;have:=E k r;unfold Lv at this;omega
  have u:∀k,(R.set i (-1)).getD k 0=if k=i then-1 else R.getD k 0:=fun k=>by
   rw[ar1,List.getElem?_set,ar1];by_cases e:i=k
   ·subst e;simp[hi]
   ·rw[arJ e,arJ (fun h=>e h.symm)]
  rw[CY,z];refine(age m n _ _ (by simp at y;omega) (fun k r=>?_) (fun j B I=>?_) ?_).trans (by simp[mO])
  ·rw[u,arJ (p k r),List.length_set];exact C k (by simp[r])
  ·rw[u];split
   ·omega
   ·rename_i e;exact D j (by simpa using B) (by simp[e,I])
  ·refine G.imp_of_mem fun{a b} J z h=>?_;unfold Lv at h|-;rw[u,u,arJ (p a J),arJ (p b z)];exact h
theorem agf{total:Int}{n:List Int}(p:0<aL n):0<=ny total n/\ny total n<=n.length:=by
 have key:∀(l:List Int) (s:Int),0<s->s*aL (l.map fun x=>total*x/s)+aL (l.map fun x=>total*x%s)=total*aL l/\aL (l.map fun x=>total*x%s)<=l.length*s:=by
  intro l s p
  induction l with
  |nil=>simp[aL]
  |cons a l y=>have:=Int.mul_ediv_add_emod (total*a) s;have z:=asQ (total*a) p;simp only[asS,aL,asZ,arZ];rw[show((l.length+1:Nat):Int)*s=l.length*s+s by rw[atj,asD];omega];omega
 obtain⟨B,r⟩:=key n (aL n) p;have C:=NT (total:=total) p;refine⟨by unfold ny;omega,?_⟩;have e:aL n*ny total n=aL (n.map fun x=>total*x%aL n):=by unfold ny cT;rw[Int.mul_sub,asn (aL n) total];omega
 have u:ny total n*aL n<=n.length*aL n:=by rw[asn,e];exact r
 exact Int.le_of_mul_le_mul_right u p
theorem aoe{total:Int}{e:List Int}(u:0<aL e)(n:List Nat)(p:n.Perm (List.range e.length))(hy:n.Pairwise (Lv (kQ total e))):
  eB total e=mO (cT total e) (n.take (ny total e).toNat):=by
 have E:=agf (total:=total) u;have z:=p.length_eq;rw[List.length_range]at z;have r:(kQ total e).length=e.length:=by simp[kQ]
 refine age _ n _ _ (by omega) (fun i hi=>?_) (fun j F B=>?_) hy
 ·have C:=p.mem_iff.1 hi;rw[List.mem_range]at C;refine⟨by omega,JV (fun x D=>?_) i⟩;obtain⟨y,_,rfl⟩:=ar8.1 D;exact asP _ (by omega)
 ·exact absurd (p.mem_iff.2 (List.mem_range.2 (by omega))) B
structure QR(l:List eX)(S0 Br:Int)(out:List Elem)(left taken:Int):Prop where
 pos:∀x∈out,0<=x.amount
 code:∀x∈out,∃o∈l,x.code=o.id
 sorted:jc out
 sum:aR out=S0+taken
 tl:taken+left=Br
 t0:0<=taken
 l0:0<=left
theorem aof{P:List Int}(h:∀x∈P,0<=x)(j:Nat):0<=aL (P.take j)/\aL (P.take j)<=aL P:=by have key:∀Q:List Int,(∀x∈Q,0<=x)->0<=aL Q:=fun Q p=>(kR (l:=Q) (B:=aL Q) (fun x n=>⟨p x n,EU p n⟩)).1;have e:=congrArg aL (atn j P);rw[Iw]at e;have r:=key (P.take j) (fun x n=>h x (ar6 n));have u:=key (P.drop j) (fun x n=>h x (List.mem_of_mem_drop n));omega
section
variable {l:List eX}{key:Int×Int}{P:List Int}{out o:List Elem}{left taken lf tk:Int}{k j:Nat}
end
section
variable {l:List eX}{jb:Bool}
end
