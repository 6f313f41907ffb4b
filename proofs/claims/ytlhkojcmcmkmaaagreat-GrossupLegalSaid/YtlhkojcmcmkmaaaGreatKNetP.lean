/- Conditions: as stated. -/
import Derived.Test.YtlhkojcmcmkmaaaGreatKNetT
set_option maxRecDepth 100000
set_option maxHeartbeats 4000000
namespace Go.Proofs.YtlhkojcmcmkmaaaGreat
open Go.Proofs.Tryz
open Go.RowKit
theorem Dc{e:Type}{p:e->Bool}{x:e}{l:List e}(h:x∈l.filter p):x∈l:=(ass.1 h).1
theorem Vg(num den e:Int):num/den<=eR num den e:=by
 unfold eR;split
 ·omega
 ·split<;>omega
theorem Vh(num den e:Int):eR num den e<=num/den+1:=by
 unfold eR;split
 ·omega
 ·split<;>omega
theorem amw{a b d m:Int}(hd:0<d)(l:0<=a)(e:a<=b):eR a d m<=eR b d m:=by
 have n:a/d<=b/d:=Int.ediv_le_ediv hd e;rcases Int.lt_or_eq_of_le n with h2|h2
 ·have:=Vh a d m;have:=Vg b d m;omega
 ·have p:=asA a d;have C:=asA b d;rw[h2]at p;have D:a%d<=b%d:=by omega
  have E:=asg a (show d≠0 by omega);by_cases j:a%d=0
  ·have:eR a d m=a/d:=(by rw[eR,aq9 j]);have:=Vg b d m;omega
  ·have r:¬b%d=0:=(by omega);have u:0<a:=by
    rcases Int.lt_or_eq_of_le l with h|h
    ·exact h
    ·subst h;simp at j
   have y:0<b:=(by omega);rw[eR,eR,aq8 j,aq8 r,h2,ase u,ase y];have z:CP (b/d) (mS (a%d) (d-a%d)) true m=true->CP (b/d) (mS (b%d) (d-b%d)) true m=true:=by
    simp only[CP,mS]
    repeat' split
    all_goals first|exact id|(intro h;simp at h|-;done)|(exfalso;omega)|(intro _;rfl)|(intro h;simp at h)|skip
    all_goals(try(intro h;simp_all;done))
    all_goals(try(intro h;simp at h|-;omega))
   split
   ·rename_i B;rw[aq9 (z B)];exact asa _
   ·split<;>omega
theorem afk{a d m:Int}(hd:0<d)(e:0<=a):0<=eR a d m:=by have:=Vg a d m;have:=ar5 e (show 0<=d by omega);omega
theorem T5{m:Int}(e:0<=m)(j:m<=6):D6 m=true:=by simp[D6,e,j]
theorem IZ{a num unit mode:Int}(l:0<=a)(E:a<=500000000000)(n:0<=num)(p:num<=1000000)(F:1<=unit)(G:unit<=100)(u:0<=mode)(y:mode<=6):
  l9 a num 1000000 unit mode=0/\gF a num 1000000 unit mode=l8 a num 1000000 unit mode/\0<=l8 a num 1000000 unit mode/\l8 a num 1000000 unit mode<=a+unit:=by
 have z:IX a num 1000000 unit mode=true:=(MK ..).2 ⟨⟨by omega,by omega,n,p,by omega,by omega,by omega,by omega⟩,T5 u y⟩;have B:0<=a*num:=arH l n;have I:a*num<=a*1000000:=arP p l;have e:0<=l8 a num 1000000 unit mode:=arH (afk (by omega) B) (by omega);have j:l8 a num 1000000 unit mode<=a+unit:=by
  unfold l8;have C:=Vh (a*num) (1000000*unit) mode;have D:eR (a*num) (1000000*unit) mode*unit<=(a*num/(1000000*unit)+1)*unit:=ar3 C (by omega);rw[ar2,Int.one_mul]at D;have J:=Int.ediv_mul_le (a*num) (show(1000000*unit)≠0 by omega);have K:a*num/(1000000*unit)*(1000000*unit)=1000000*(a*num/(1000000*unit)*unit):=by rw[<-arM,arO _ 1000000,arM]
  omega
 have r:l9 a num 1000000 unit mode=0:=by rw[l9,aq8 (by simp[z]),aq8];simp only[BF];simp;omega
 exact⟨r,by rw[gF,aq9 r],e,j⟩
theorem afl{a b num j l:Int}(r:0<=a)(n:a<=b)(p:0<=num)(u:1<=j):l8 a num 1000000 j l<=l8 b num 1000000 j l:=by have e:a*num<=b*num:=ar3 n p;have:=amw (d:=1000000*j) (m:=l) (by omega) (arH r p) e;exact ar3 this (by omega)
theorem ZK(s:cm)(l m:List Int):kJ s (l++m)=kJ s l+kJ s m:=by simp[kJ,Hq]
theorem XS{s:cm}{l:List Int}(h:∀x∈l,0<=x):0<=kJ s l:=by
 unfold kJ
 induction l with
 |nil=>simp[aC]
 |cons a l e=>
  have p:=h a (by simp);have j:=e (fun x n=>h x (by simp[n]));rw[asu];split
  ·simp only[aC];omega
  ·exact j
theorem abT(s:cm)(l:List Int)(k:Nat)(h:k<l.length):kJ s (l.take (k+1))=kJ s (l.take k)+if s.floor<=l[k]then l[k]else 0:=by
 rw[arA h,ZK];congr 1;by_cases e:s.floor<=l[k]
 ·simp[kJ,e,aC]
 ·simp[kJ,e,aC]
theorem XT{s:cm}{l:List Int}(h:∀x∈l,0<=x):kJ s l<=aC l:=by
 unfold kJ
 induction l with
 |nil=>simp[aC]
 |cons a l e=>have n:=h a (by simp);have p:=e (fun x j=>h x (by simp[j]));rw[asu];split<;>simp only[aC]<;>omega
theorem Hx{s:cm}{l:List Int}(e:mA s)(h:∀x∈l,0<=x)(n:l.length<=54):0<=cP s l/\cP s l<=54000000000:=by have p:=XS (s:=s) h;have r:=e.c0;have j:=e.c1;have u:0<=(l.length:Int)*s.dw:=arH (by omega) (by omega);have y:(l.length:Int)*s.dw<=54*1000000000:=asm (by omega) j (by omega) (by omega);unfold cP;omega
theorem acp{s:cm}{l:List Int}(p:mA s)(h:∀x∈l,0<=x)(j:l≠[]):cP s l.dropLast<=cP s l/\cP s l<=cP s l.dropLast+max (l.getLast j) s.dw:=by
 have e:=List.dropLast_concat_getLast j;have y:=p.c0;have z:=h (l.getLast j) (List.getLast_mem j);have r:kJ s l=kJ s l.dropLast+if s.floor<=l.getLast j then l.getLast j else 0:=by
  conv=>lhs;rw[<-e,ZK]
  congr 1;by_cases n:s.floor<=l.getLast j
  ·simp[kJ,n,aC]
  ·simp[kJ,n,aC]
 have u:(l.length:Int)=l.dropLast.length+1:=by have:0<l.length:=asW.2 j;rw[List.length_dropLast];omega
 unfold cP;rw[r,u,ar2];split<;>omega
theorem Hy{s:cm}{b:Int}(e:mA s)(j:0<=b)(l:b<=500000000000):
  l9 b s.az 1000000 s.unit s.mode=0/\l9 b s.aS 1000000 s.unit s.mode=0/\(bA s b).base=b/\0<=(bA s b).az/\(bA s b).az<=b+100/\0<=(bA s b).aS/\(bA s b).aS<=b+100:=by
 have n:=e.u0;have p:=e.u1;obtain⟨r,y,z,B⟩:=IZ j l e.e0 e.e1 n p e.m0 e.m1;obtain⟨u,C,D,E⟩:=IZ j l e.r0 e.r1 n p e.m0 e.m1;refine⟨r,u,rfl,?_,?_,?_,?_⟩<;>simp only[bA]<;>omega
theorem amx{s:cm}{a b:Int}(e:mA s)(n:0<=a)(l:a<=b)(r:b<=500000000000):(bA s a).az<=(bA s b).az/\(bA s a).aS<=(bA s b).aS:=by have j:=e.u0;have p:=e.u1;obtain⟨_,u,_,_⟩:=IZ n (by omega:a<=500000000000) e.e0 e.e1 j p e.m0 e.m1;obtain⟨_,y,_,_⟩:=IZ (by omega:0<=b) r e.e0 e.e1 j p e.m0 e.m1;obtain⟨_,z,_,_⟩:=IZ n (by omega:a<=500000000000) e.r0 e.r1 j p e.m0 e.m1;obtain⟨_,B,_,_⟩:=IZ (by omega:0<=b) r e.r0 e.r1 j p e.m0 e.m1;simp only[bA,u,y,z,B];exact⟨afl n l e.e0 j,afl n l e.r0 j⟩
theorem amy{s:cm}{l:List Int}(e:mA s)(h:∀x∈l,0<=x)(n:l.length<=54)(j:l≠[]):
  0<=(jB s l).base/\0<=(jB s l).az/\0<=(jB s l).aS/\(jB s l).base<=54000000000/\(jB s l).az<=54000000100/\(jB s l).aS<=54000000100:=by
 obtain⟨p,B⟩:=Hx e h n;have r:∀x∈l.dropLast,0<=x:=fun x u=>h x ((asS l).subset u);obtain⟨d0,d1⟩:=Hx e r (by simp;omega);obtain⟨y,_⟩:=acp e h j;obtain⟨_,_,f1,f2,f3,f4,f5⟩:=Hy e p (by omega:cP s l<=500000000000);obtain⟨_,_,z,C,D,E,F⟩:=Hy e d0 (by omega:cP s l.dropLast<=500000000000);obtain⟨G,I⟩:=amx e d0 y (by omega);simp only[jB,Ic,f1,z];omega
theorem ZI{f g:Nat->Int}(n:Nat)(h:∀i,i<n->f i<=g i):sumTo f n<=sumTo g n:=by
 induction n with
 |zero=>exact asa _
 |succ n e=>have:=e (fun i hi=>h i (by omega));have:=h n (by omega);simp only[sumTo];omega
theorem afm{f:Nat->Int}(n:Nat)(h:∀i,i<n->0<=f i):0<=sumTo f n:=by
 induction n with
 |zero=>exact asa _
 |succ n e=>have:=e (fun i hi=>h i (by omega));have:=h n (by omega);simp only[sumTo];omega
theorem aea(f:Nat->Int)(c:Int)(n:Nat):sumTo (fun i=>f i*c) n=sumTo f n*c:=by
 induction n with
 |zero=>simp[sumTo]
 |succ n e=>simp only[sumTo,e,ar2]
theorem gY.mono{t:List cB}(h:gY t):∀(d i:Nat),i+d<t.length->(t.getD i gH).bW+d<=(t.getD (i+d) gH).bW:=by
 intro d
 induction d with
 |zero=>intro i _;simp
 |succ d e=>intro i hi;have j:=e i (by omega);have l:=h.lh (i+d) (by omega);rw[show i+(d+1)=i+d+1 by omega];omega
theorem gY.I9{t:List cB}(h:gY t){i:Nat}(hi:i<t.length):0<=(t.getD i gH).bW:=by have:=h.mono i 0 (by omega);rw[h.zero]at this;simp only[ark]at this;omega
theorem Sn{t:List cB}{inc:Int}(i:Nat):0<=fN t inc i:=by unfold fN;omega
theorem afn{t:List cB}{inc:Int}(h:gY t)(e:0<=inc){i:Nat}(hi:i<t.length):fN t inc i<=inc:=by have:=h.I9 hi;unfold fN IY;split<;>omega
theorem ZJ{t:List cB}{j:Int}(h:gY t)(r:0<=j):∀k,(k<t.length->sumTo (fN t j) k=min j (t.getD k gH).bW)/\(k=t.length->sumTo (fN t j) k=j):=by
 intro k
 induction k with
 |zero=>
  refine⟨fun _=>?_,fun e=>?_⟩
  ·rw[h.zero];simp only[sumTo];omega
  ·have:=h.ne;omega
 |succ k p=>
  have l:=p.1;refine⟨fun n=>?_,fun n=>?_⟩
  ·have:=h.lh k n;simp only[sumTo,l (by omega),fN,IY,aq9 n];omega
  ·simp only[sumTo,l (by omega),fN,IY];rw[aq8 (by omega)];omega
theorem amz{t:List cB}{j:Int}(h:gY t)(l:0<=j){k:Nat}(n:k<=t.length):0<=sumTo (fN t j) k/\sumTo (fN t j) k<=j:=by
 refine⟨afm _ (fun i _=>Sn i),?_⟩;obtain⟨p,r⟩:=ZJ h l k;rcases Nat.lt_or_eq_of_le n with e|e
 ·rw[p e];omega
 ·rw[r e];exact asa _
def py(t:List cB)(inc:Int)(k:Nat):Int:=sumTo (fun i=>fN t inc i*(t.getD i gH).bJ) k
theorem ML{t:List cB}{inc:Int}(h:gY t)(e:0<=inc){k:Nat}(j:k<=t.length):0<=py t inc k/\py t inc k<=inc*1000000:=by refine⟨afm _ (fun i hi=>arH (Sn i) (h.r0 i (by omega))),?_⟩;have l:py t inc k<=sumTo (fun i=>fN t inc i*1000000) k:=ZI _ (fun i hi=>arP (h.r1 i (by omega)) (Sn i));rw[aea]at l;have:=(amz h e j).2;omega
theorem aay{t:List cB}{inc unit mode:Int}(h:gY t)(j:0<=inc)(p:1<=unit):0<=Ce t inc unit mode/\Ce t inc unit mode<=inc+unit:=by
 obtain⟨a,b⟩:=ML (inc:=inc) h j (aq7 _);have e:nh t inc=py t inc t.length:=rfl;unfold Ce;rw[e];generalize py t inc t.length=x at a b;refine⟨arH (afk (by omega) a) (by omega),?_⟩;have l:=Vh x (1000000*unit) mode;have n:eR x (1000000*unit) mode*unit<=(x/(1000000*unit)+1)*unit:=ar3 l (by omega);rw[ar2,Int.one_mul]at n;have r:=Int.ediv_mul_le x (show(1000000*unit)≠0 by omega);have u:x/(1000000*unit)*(1000000*unit)=1000000*(x/(1000000*unit)*unit):=by rw[<-arM,arO _ 1000000,arM]
 omega
section
variable {t:List cB}{num den:Int}
theorem V2(h:gY t)(j:0<=num)(hd:1<=den)(l:num<=den){i:Nat}(hi:i<t.length):0<=jk t num den i/\jk t num den i<=(t.getD i gH).bW:=by have e:=h.I9 hi;unfold jk;refine⟨ar5 (arH e j) (by omega),?_⟩;refine Int.ediv_le_of_le_mul (by omega) ?_;exact arP l e
theorem amA(h:gY t)(e:0<=num)(hd:1<=den){i:Nat}(hi:i+1<t.length):jk t num den i<=jk t num den (i+1):=by unfold jk;refine Int.ediv_le_ediv (by omega) ?_;have:=h.lh i hi;exact ar3 (by omega) e
theorem amB(h:gY t):jk t num den 0=0:=by unfold jk;rw[h.zero];simp
structure amC(t:List cB)(num den:Int)(k:Nat)(l:List cB):Prop where
 lh:l.Pairwise (fun a b=>a.bW<b.bW)
 lt:k<t.length->∀x∈l,x.bW<jk t num den k
 ok:∀x∈l,0<=x.bW/\x.bW<=1000000000000/\0<=x.bJ/\x.bJ<=1000000
 len:l.length<=k
 hd:l=[]/\(k<t.length->jk t num den k=0)\/∃x r,l=x::r/\x.bW=0
theorem afo(h:gY t)(z:0<=num)(hd:1<=den)(B:num<=den):∀k,k<=t.length->amC t num den k (lL t num den k):=by
 intro k
 induction k with
 |zero=>intro _;exact⟨List.Pairwise.nil,fun _ x l=>(by cases l),fun x l=>(by cases l),by simp[lL],.inl ⟨rfl,fun _=>amB h⟩⟩
 |succ k C=>
  intro E;have I:=C (by omega);have D:=V2 h z hd B (show k<t.length by omega);have F:=h.hi k (by omega);simp only[lL];split
  ·rename_i n;simp only[E9,arw,arz]at n;refine⟨I.lh,fun j x l=>?_,I.ok,by have:=I.len;omega,?_⟩
   ·rw[n.2];exact I.lt (by omega) x l
   ·rcases I.hd with⟨h1,p⟩|h1
    ·exact .inl ⟨h1,fun _=>by rw[n.2];exact p (by omega)⟩
    ·exact .inr h1
  ·rename_i n;have u:k+1<t.length->jk t num den k<jk t num den (k+1):=by
    intro j;have h1:=amA h z hd j;simp only[E9,arw,arz]at n;have p:¬jk t num den (k+1)=jk t num den k:=fun e=>n ⟨j,e⟩;omega
   refine⟨?_,fun j x l=>?_,fun x l=>?_,by have:=I.len;simp;omega,?_⟩
   ·rw[List.pairwise_append];refine⟨I.lh,by simp,fun x l y hy=>?_⟩;simp at hy;subst hy;exact I.lt (by omega) x l
   ·rcases arE.1 l with h1|h1
    ·have:=I.lt (by omega) x h1;have:=u j;omega
    ·simp at h1;subst h1;exact u j
   ·rcases arE.1 l with h1|h1
    ·exact I.ok x h1
    ·simp at h1;subst h1;exact⟨D.1,by show jk t num den k<=_;omega,h.r0 k (by omega),h.r1 k (by omega)⟩
   ·rcases I.hd with⟨h1,p⟩|⟨x,r,h1,p⟩
    ·rw[h1];exact .inr ⟨_,[],rfl,p (by omega)⟩
    ·rw[h1];exact .inr ⟨x,_,rfl,p⟩
theorem Ra(h:gY t)(j:0<=num)(hd:1<=den)(y:num<=den):gY (nQ t num den):=by
 have I:=afo h j hd y t.length (aq7 _);have z:=h.ne;have C:=h.len;have p:lL t num den t.length≠[]:=by
  obtain⟨n,j⟩:∃n,t.length=n+1:=⟨t.length-1,by omega⟩
  rw[j];simp only[lL];rw[aq8 (by simp[E9];omega)];simp
 unfold nQ;generalize lL t num den t.length=l at I p;have e:∀i,(hi:i<l.length)->l.getD i gH=l[i]:=fun i hi=>by rw[aru,aro hi];rfl
 refine⟨asW.2 p,by have:=I.len;omega,?_,fun i hi=>?_,fun i hi=>?_,fun i hi=>?_,fun i hi=>?_⟩
 ·rcases I.hd with⟨u,_⟩|⟨x,r,u,B⟩
  ·exact absurd u p
  ·subst u;exact B
 ·rw[e i (by omega),e (i+1) hi];exact arZ.1 I.lh i (i+1) (by omega) hi (by omega)
 ·rw[e i hi];exact(I.ok _ (arc hi)).2.1
 ·rw[e i hi];exact(I.ok _ (arc hi)).2.2.1
 ·rw[e i hi];exact(I.ok _ (arc hi)).2.2.2
end
theorem Vo{t:zS}{l:List cB}{al cr inc:Int}(h:gY l)(e:1<=t.unit)(j:t.unit<=100)(n:0<=al)(p:0<=cr)(hi:0<=inc):0<=ma t l al cr inc/\ma t l al cr inc<=inc+100:=by have:=aay (mode:=t.mode) (inc:=max (inc-al) 0) h (by omega) e;unfold ma;omega
theorem amD{o:eP}(h:Sp o):0<=V3 o/\V3 o<=1000000000:=by have:=h.a0;have:=h.t0;have:=h.t1;unfold V3;split<;>omega
theorem amE{l:List eP}{k:Int×Int}(h:∀o∈l,Sp o):∀x∈MM l k,0<=x/\x<=1000000000:=by intro x e;obtain⟨o,j,rfl⟩:=arB.1 e;exact amD (h o (Dc j))
theorem amF(l:List eP)(k:Int×Int)(left:Int):(Eh l k left).length=(l.filter (Sq k)).length:=by
 unfold Eh;split
 ·rw[N2];simp[MM]
 ·simp[MM]
theorem amG{l:List eP}{k:Int×Int}{left:Int}(h:∀o∈l,Sp o)(p:0<=left):(∀x∈Eh l k left,0<=x)/\aC (Eh l k left)<=left/\0<=aC (Eh l k left):=by
 have e:=amE (k:=k) h;unfold Eh;split
 ·rename_i r;have j:0<aC (MM l k):=by omega
  exact⟨afp p (fun x n=>(e x n).1) j,by rw[Vm j];exact asa _,by rw[Vm j];exact p⟩
 ·rename_i r;exact⟨fun x n=>(e x n).1,by omega,(kV e).1⟩
theorem amH(out:List Elem)(o:eP){p:Int}(h:0<=p):aQ (Ja out o p)=aQ out+p:=by
 unfold Ja;split
 ·rw[afq]
 ·omega
theorem afr:∀(os:List eP) (e:List Int) (out:List Elem),os.length=e.length->(∀x∈e,0<=x)->aQ (Jb out os e)=aQ out+aC e
 |[],[],out,_,_=>by simp[Jb,aC]
 |[],_::_,_,h,_=>by simp at h
 |_::_,[],_,h,_=>by simp at h
 |o::r,p::e,out,h,j=>by rw[Jb,afr r e _ (by simpa using h) (fun x l=>j x (by simp[l])),amH _ _ (j p (by simp))];simp only[aC];omega
structure Jc(l:List eP)(n:Nat)(out:List Elem):Prop where
 pos:∀x∈out,0<=x.amount
 code:∀x∈out,∃o∈l,x.code=o.id
 len:out.length<=n
theorem amI{l:List Elem}{e:Elem}(h:∀x∈l,0<=x.amount)(j:0<=e.amount):∀x∈put l e,0<=x.amount:=by
 induction l with
 |nil=>intro x hx;simp[put]at hx;subst hx;exact j
 |cons a l p=>
  have r:=h a (by simp);have n:∀x∈l,0<=x.amount:=fun x hx=>h x (by simp[hx]);intro x hx;rw[put]at hx;split at hx
  ·rcases arF.1 hx with rfl|hx
   ·exact r
   ·exact p n x hx
  ·split at hx
   ·rcases arF.1 hx with rfl|hx
    ·show 0<=e.amount+a.amount;omega
    ·exact n x hx
   ·rcases arF.1 hx with rfl|hx
    ·exact j
    ·exact h x hx
theorem Jc.Ja{l:List eP}{n:Nat}{out:List Elem}(h:Jc l n out){o:eP}(r:o∈l)(p:Int):Jc l (n+1) (Ja out o p):=by
 unfold Go.Proofs.YtlhkojcmcmkmaaaGreat.Ja;split
 ·refine⟨amI h.pos (by show 0<=p;omega),fun x u=>?_,by have:=Zw out ⟨o.id,p⟩;have:=h.len;omega⟩;rcases Zx _ _ x u with e|⟨y,hy,e⟩
  ·exact⟨o,r,e⟩
  ·obtain⟨z,j,B⟩:=h.code y hy;exact⟨z,j,by rw[<-e,B]⟩
 ·exact⟨h.pos,h.code,by have:=h.len;omega⟩
theorem Jc.afs{l:List eP}:∀(os:List eP) (e:List Int) {n:Nat} {out:List Elem},Jc l n out->(∀o∈os,o∈l)->Jc l (n+os.length) (Jb out os e)
 |[],e,n,out,h,_=>by cases e<;>exact h
 |o::r,[],n,out,h,_=>by exact⟨h.pos,h.code,by have:=h.len;show out.length<=_;omega⟩
 |o::r,p::e,n,out,h,j=>by rw[Jb];have:=Jc.afs r e (h.Ja (j o (by simp)) p) (fun o u=>j o (by simp[u]));rw[ars,show n+(r.length+1)=n+1+r.length by omega];exact this
def iq(w:World)(g:Nat)(i:Nat):List Value->World
 |[]=>w
 |v::r=>iq (w.setCell ⟨g,i,none⟩ v) g (i+1) r
theorem ah.aft{g:Nat}{t:TypeId}:∀(vs:List Value) {w:World} {cs:Array Value} (i:Nat),ah w g t cs->i+vs.length<=cs.size->ah (iq w g i vs) g t (cs.toList.take i++vs++cs.toList.drop (i+vs.length)).toArray
 |[],w,cs,i,h,j=>by simp only[arC,ara,List.append_nil,asP];exact h
 |v::r,w,cs,i,h,j=>by
  have l:i<cs.size:=by simp at j;omega
  have n:=ah.aft r (i+1) (h.ez i v) (by simp at j|-;omega);rw[iq];have e:(cs.setIfInBounds i v).toList.take (i+1)++r++(cs.setIfInBounds i v).toList.drop (i+1+r.length)=cs.toList.take i++(v::r)++cs.toList.drop (i+(v::r).length):=by rw[Array.toList_setIfInBounds];have p:i<(cs.toList.set i v).length:=(by simpa using l);rw[arA p,List.getElem_set_self,List.take_set_of_le (aq7 _),List.drop_set_of_lt (by omega),ars];simp[Nat.add_assoc,Nat.add_comm 1]
  rw[e]at n;exact n
theorem ah.fill{w:World}{g:Nat}{t:TypeId}{cs:Array Value}(h:ah w g t cs)(vs:List Value)(e:vs.length=cs.size):ah (iq w g 0 vs) g t vs.toArray:=by have:=ah.aft vs 0 h (by omega);rw[List.drop_of_length_le (by simp;omega)]at this;simpa using this
theorem Ls{B:Nat}{a:World}{g:Nat}(e:B<=g):∀(j:List Value) {w:World} (i:Nat),Below B a w->Below B a (iq w g i j)
 |[],_,_,h=>h
 |v::r,_,i,h=>Ls e r (i+1) (h.setCell (p:=⟨g,i,none⟩) e v)
theorem ah.Lq{g g':Nat}{t:TypeId}{cs:Array Value}(e:g≠g'):∀(vs:List Value) {w:World} (i:Nat),ah w g t cs->ah (iq w g' i vs) g t cs
 |[],_,_,h=>h
 |v::r,_,i,h=>ah.Lq e r (i+1) (h.far (p:=⟨g',i,none⟩) e v)
theorem acz{a:World}{g:Nat}:∀(e:List Value) {w:World} (i:Nat),a.grownBy w (some g)->a.grownBy (iq w g i e) (some g)
 |[],_,_,h=>h
 |v::r,_,i,h=>acz r (i+1) (bk (p:=⟨g,i,none⟩) h (.inl rfl) v)
theorem jX{t:List cB}{k:Nat}(h:k<t.length):t.getD k gH=t[k]:=by rw[aru,aro h];rfl
theorem aaz(A:Option Addr)(D:Nat)(t:List cB)(w:World)(B:Nat)(h:aj gG 2 w B A t)(n:gY t):
  Calls prog 183 #[.slice A t.length D] w fun e w'=>e=.returned (.bool true)/\∃q,w'=w.drewN q:=by
 have z:=aq6 n;have p:=n.ne;have X:=n.len;have E:=n.zero;rw[jX p]at E;have L:((t.length:Int)==0)=false:=by rw[arS];omega
 obtain⟨b,F,rfl,Y,G⟩:=h.at_ p;have d0:=G 0 _ rfl;simp only[ara,arT]at d0;rw[E]at d0;have Z:(0:Int)<(t.length:Int):=by omega
 clear E G n;go_enter func183,ntmps183;go_wp2
 go_loopw [3] (fun i wr=>∃k q:Nat,k<=t.length/\i=.int .i64 k/\Hid (wr=w.drewN q)) (fun i _=>t.length-(intOf i).toNat)
 case atStart=>exact⟨0,0,by omega,rfl,rfl⟩
 case round=>
  obtain⟨k,q,hk,rfl,C⟩:=hrel;by_cases j:k<t.length
  ·have I:aj gG 2 wr B (some ⟨b,F,none⟩) t:=(by rw[C.out];exact h);have M:=z.out.hi k j;have N:=z.out.r0 k j;have O:=z.out.r1 k j;rw[jX j]at M N O;obtain⟨b1,EE,r,P,l⟩:=I.at_ j;injection r with r
   injection r with r Q
   subst r Q;have J:=l 0 _ rfl;have R:=l 1 _ rfl;simp only[ara]at J;have gK:(k:Int)<(t.length:Int):=(by omega);have g1:decide (1000000000000<t[k].bW)=false:=(by simp;omega);have g2:decide (t[k].bJ<0)=false:=(by simp;omega);have g3:decide (1000000<t[k].bJ)=false:=(by simp;omega);clear l;rcases k with _|m
   ·have fM:(0:Int)<(t.length:Int):=(by omega);simp only[arT,ara]at J R;go_wp2;go_quiet(fail);go_wp2;go_roundw
    case rel=>exact⟨1,q+nq,by omega,by go_num,by show wr.drewN nq=w.drewN (q+nq);rw[C.out,World.drewN_drewN]⟩
    case measure=>simp[intOf];omega
   ·have K:m<t.length:=(by omega);have S:=z.out.lh m j;rw[jX K,jX j]at S;obtain⟨b2,FH,u,T,y⟩:=I.at_ K;injection u with u
    injection u with u U
    subst u U;have V:=y 0 _ rfl;simp only[ara]at V;clear y;have g0:decide (t[m+1].bW<=t[m].bW)=false:=(by simp;omega);have Ca:(m:Int)<(t.length:Int):=(by omega);have Mc:(m:Int)+1<(t.length:Int):=(by omega);have hp:decide ((0:Int)<(m:Int)+1)=true:=(by rw[arz];omega);go_wp2;go_quiet(fail);go_wp2;go_roundw
    case rel=>exact⟨m+2,q+nq,by omega,by go_num,by show wr.drewN nq=w.drewN (q+nq);rw[C.out,World.drewN_drewN]⟩
    case measure=>simp[intOf];omega
  ·go_wp2;go_ret;exact⟨rfl,q,C.out⟩
theorem amJ(A:Option Addr)(j:Nat)(t:List cB)(inc:Int)(w:World)(B:Nat)(h:aj gG 2 w B A t)(l:gY t)(n:0<=inc)(p:inc<=1000000000000):
  Calls prog 270 #[.slice A t.length j,.int .i64 inc] w fun e w'=>e=.returned (.int .i64 0)/\∃q,w'=w.drewN q:=by
 go_enter func270,ntmps270;go_wp2_with fail;refine(aaz A j t w B h l).mono ?_;rintro e r ⟨rfl,q,rfl⟩;go_wp2;go_ret;exact⟨rfl,q,rfl⟩
theorem aaA(t:List cB)(inc:Int):(KX t inc).length=t.length:=by simp[KX]
theorem aaB(t:List cB)(inc:Int){k:Nat}(h:k<t.length):(KX t inc).getD k 0=fN t inc k:=by simp[KX,List.getElem?_range h]
theorem afu{t:List cB}{inc:Int}{k:Nat}(h:k+1<t.length):fN t inc k=max (min inc t[k+1].bW-t[k].bW) 0:=by rw[fN,IY,aq9 h,jX h,jX (show k<t.length by omega)]
theorem afv{t:List cB}{inc:Int}{k:Nat}(e:k<t.length)(h:¬k+1<t.length):fN t inc k=max (inc-t[k].bW) 0:=by rw[fN,IY,aq8 h,jX e]
def Bf(t:List cB)(inc:Int)(k i:Nat):Value:=.int .i64 (if i<k then fN t inc i else 0)
theorem aaC{w:World}{g m k:Nat}{t:List cB}{inc v:Int}(h:w.rowIs g 3 m (Bf t inc k))(l:v=fN t inc k):(w.setCell ⟨g,k,none⟩ (.int .i64 v)).rowIs g 3 m (Bf t inc (k+1)):=by
 subst l;refine(h.set k _).congr fun i _=>?_;by_cases e:i=k
 ·subst e;rw[aq9 rfl];simp[Bf]
 ·rw[aq8 e];unfold Bf;by_cases j:i<k
  ·rw[aq9 j,aq9 (by omega)]
  ·rw[aq8 j,aq8 (by omega)]
theorem afw{w:World}{g:Nat}{t:List cB}{inc:Int}(h:w.rowIs g 3 t.length (Bf t inc t.length)):RowI w g (KX t inc):=by unfold RowI;rw[aaA];refine h.congr fun i hi=>?_;rw[aaB t inc hi,Bf,aq9 hi]
theorem amK(A:Option Addr)(B:Nat)(t:List cB)(inc:Int)(w:World)(h:aj gG 2 w w.heap.size A t)(F:gY t)(h0:0<=inc)(h1:inc<=1000000000000):
  Calls prog 263 #[.slice A t.length B,.int .i64 inc] w fun e w'=>∃g,e=.returned (.tuple #[.slice (some ⟨g,0,none⟩) t.length t.length,.int .i64 0])/\w.heap.size<=g/\RowI w' g (KX t inc)/\Below w.heap.size w w':=by
 have hl:=F.len;have C:=aq6 F;have Ds:=Nt t.length (by omega);have u:=amJ A B t inc w _ h F h0 h1;have R:=aq6 u;clear u F;go_enter func263,ntmps263;go_wp2_with fail;refine arf R.out ?_;rintro e l ⟨rfl,q,S⟩;have K:Below w.heap.size w l:=by rw[S];exact below_drewN (arb _ _) q
 have y:aj gG 2 l l.heap.size A t:=h.aa K;obtain⟨b,ab,rfl,hb,L⟩:=y.at_ C.out.ne;clear S R h L;go_upto_region 5 with fail
 have G:=RowI.made l t.length;have I:=bF l (.cells (madeCells #[.int .i64 0] t.length) 3);have T:=y.aa I;have U:=aB K I;have j:(l.alloc (.cells (madeCells #[.int .i64 0] t.length) 3)).rowIs l.heap.size 3 t.length (Bf t inc 0):=by have M:=G;unfold RowI at M;rw[List.length_replicate]at M;refine M.congr fun i hi=>?_;simp[Bf,asT];split<;>rfl
 generalize l.alloc (.cells (madeCells #[.int .i64 0] t.length) 3)=W at G I T U j|-;have kY:=G.lt;have pd:=K.size;clear G I y;go_wp2
 go_loopw [8] (fun i wr=>∃k:Nat,k<=t.length/\i=.int .i64 k/\wr.rowIs l.heap.size 3 t.length (Bf t inc k)/\W.grownBy wr (some l.heap.size)) (fun i _=>t.length-(intOf i).toNat)
 case atStart=>exact⟨0,by omega,rfl,j,ft _ _⟩
 case round=>
  clear j;obtain⟨k,hk,rfl,j,J⟩:=hrel;have V:=T.GS J (fun a N=>by injection N with N;subst N;simp only;omega);have jr:Below w.heap.size w wr:=jN U J (fun g e=>by injection e;omega);by_cases n:k<t.length
  ·have h4:=C.out.I9 n;have h5:=C.out.hi k n;rw[jX n]at h4 h5;obtain⟨b1,EE,p,ad,r⟩:=V.at_ n;injection p with p
   injection p with p O
   subst p O;have c0:=r 0 _ rfl;simp only[ara]at c0;have gK:(k:Int)<(t.length:Int):=(by omega);have f0:=j.frozen k;have z0:=j.cell (i:=k) n;have ae:b≠l.heap.size:=(by omega);have X:=aq6 j;have Y:=aq6 J;generalize Bf t inc k k=zz at z0;clear r j J;by_cases z:k+1<t.length
   ·have D:=aq6 (afu (inc:=inc) z);have h6:=C.out.I9 z;have h7:=C.out.hi (k+1) z;rw[jX z]at h6 h7;obtain⟨b1,EE,p,af,r⟩:=V.at_ z;injection p with p
    injection p with p O
    subst p O;have c2:=r 0 _ rfl;simp only[ara]at c2;have Sr:(k:Int)+1<(t.length:Int):=(by omega);clear r;go_wp2
    all_goals
     go_roundw
     case rel=>
      have E:∀(v:Int),v=fN t inc k->∃k':Nat,k'<=t.length/\Value.int .i64 ((k:Int)+1)=.int .i64 k'/\(wr.setCell ⟨l.heap.size,k,none⟩ (.int .i64 v)).rowIs l.heap.size 3 t.length (Bf t inc k')/\W.grownBy (wr.setCell ⟨l.heap.size,k,none⟩ (.int .i64 v)) (some l.heap.size):=fun v P=>⟨k+1,by omega,by go_num,aaC X.out P,bk Y.out (.inl rfl) _⟩
      first|exact E _ (by rw[D.out];omega)|((repeat apply Exists.intro);exact⟨E _ (by rw[D.out];omega),rfl⟩)
     case measure=>simp[intOf];omega
   ·have D:=aq6 (afv (inc:=inc) n z);have Sr:¬(k:Int)+1<(t.length:Int):=(by omega);go_wp2
    all_goals
     go_roundw
     case rel=>
      have E:∀(v:Int),v=fN t inc k->∃k':Nat,k'<=t.length/\Value.int .i64 ((k:Int)+1)=.int .i64 k'/\(wr.setCell ⟨l.heap.size,k,none⟩ (.int .i64 v)).rowIs l.heap.size 3 t.length (Bf t inc k')/\W.grownBy (wr.setCell ⟨l.heap.size,k,none⟩ (.int .i64 v)) (some l.heap.size):=fun v P=>⟨k+1,by omega,by go_num,aaC X.out P,bk Y.out (.inl rfl) _⟩
      first|exact E _ (by rw[D.out];omega)|((repeat apply Exists.intro);exact⟨E _ (by rw[D.out];omega),rfl⟩)
     case measure=>simp[intOf];omega
  ·obtain rfl:k=t.length:=by omega
   have Z:=afw j;have Q:=aq6 Z;clear j Z;go_wp2;go_ret2;exact⟨l.heap.size,rfl,pd,Q.out,jr⟩
theorem afx(t:List cB)(inc:Int)(k:Nat):py t inc (k+1)=py t inc k+fN t inc k*(t.getD k gH).bJ:=rfl
theorem amL(A:Option Addr)(p:Nat)(t:List cB)(inc:Int)(w:World)(h:aj gG 2 w w.heap.size A t)(z:gY t)(B:0<=inc)(L:inc<=1000000000000):
  Calls prog 244 #[.slice A t.length p,.int .i64 inc] w fun e w'=>e=.returned (.tuple #[.int .i64 (nh t inc),.int .i64 0])/\Below w.heap.size w w':=by
 have r:=aq6 z;have Z:=z.len;have l:=amK A p t inc w h z B L;have G:=aq6 l;clear l z;go_enter func244,ntmps244;go_wp2_with fail;refine arf G.out ?_;rintro e I ⟨g,rfl,hg,M,u⟩;have D:=h.aa u;clear G h;go_wp2
 go_loopw [8,9] (fun n i wr=>∃k q:Nat,k<=t.length/\i=.int .i64 k/\n=.int .i64 (py t inc k)/\Hid (wr=I.drewN q)) (fun _ i _=>t.length-(intOf i).toNat)
 case atStart=>exact⟨0,0,by omega,rfl,rfl,rfl⟩
 case round=>
  obtain⟨k,q,N,rfl,rfl,C⟩:=hrel;have O:aj gG 2 wr wr.heap.size A t:=by rw[C.out];exact D.Uy q
  have P:RowI wr g (KX t inc):=by rw[C.out];exact M.drewN q
  have Q:Below w.heap.size w wr:=by rw[C.out];exact below_drewN u q
  obtain⟨x0,R⟩:=ML (inc:=inc) r.out B N;have x2:py t inc k<=1000000000000000000:=by omega
  by_cases j:k<t.length
  ·obtain⟨b1,EE,rfl,S,y⟩:=O.at_ j;have c1:=y 1 _ rfl;have T:=P.cell (i:=k) (by rw[aaA];exact j);rw[aaB t inc j]at T;have E:=aq6 (afx t inc k);rw[jX j]at E;obtain⟨U,J⟩:=ML (inc:=inc) r.out B (show k+1<=t.length by omega);rw[E.out]at U J;have V:=Sn (t:=t) (inc:=inc) k;have s1:=afn r.out B j;have K:=r.out.r0 k j;have X:=r.out.r1 k j;rw[jX j]at K X;have m0:0<=fN t inc k*t[k].bJ:=arH V K;have m1:fN t inc k*t[k].bJ<=1000000000000000000:=(by omega);have m2:py t inc k+fN t inc k*t[k].bJ<=1000000000000000000:=(by omega);clear y R J;generalize fN t inc k=sp at*;generalize F:py t inc k=ex at*;clear F;go_wp2;go_quiet(fail);go_wp2;go_roundw
   case rel=>exact⟨k+1,q+nq,by omega,by go_num,by rw[E.out],by show wr.drewN nq=I.drewN (q+nq);rw[C.out,World.drewN_drewN]⟩
   case measure=>simp[intOf];omega
  ·obtain rfl:k=t.length:=by omega
   have Y:Hid (nh t inc=py t inc t.length):=rfl;go_wp2;go_ret2;exact⟨by rw[Y.out];rfl,Q⟩
theorem amM(n j l:Int)(w:World)(u:0<=n)(I:n<=1000000000000000000)(u0:1<=j)(u1:j<=1000000)(J:0<=l)(K:l<=6):
  Calls prog 245 #[.int .i64 n,.int .i64 j,.int .i64 l] w fun e w'=>e=.returned (.int .i64 (eR n (1000000*j) l*j))/\∃q,w'=w.drewN q:=by
 have L:n.tdiv (1000000*j)=n/(1000000*j):=asn u;have M:n.tmod (1000000*j)=n%(1000000*j):=asO u;have D:eR n (1000000*j) l=if n%(1000000*j)=0 then n/(1000000*j)else if CP (n/(1000000*j)) (mS (n%(1000000*j)) (1000000*j-n%(1000000*j))) (decide (0<n)) l then n/(1000000*j)+1 else n/(1000000*j):=rfl
 have Z:=asg n (show 1000000*j≠0 by omega);have r1:=ash n (show 0<1000000*j by omega);have y:0<=n/(1000000*j):=ar5 u (by omega);have N:=Int.ediv_mul_le n (show(1000000*j)≠0 by omega);have O:n/(1000000*j)*(1000000*j)=1000000*(n/(1000000*j)*j):=by rw[<-arM,arO _ 1000000,arM]
 have P:0<=n/(1000000*j)*j:=arH y (by omega);have Q:n/(1000000*j)*j<=1000000000000:=by omega
 have R:(n/(1000000*j)+1)*j=n/(1000000*j)*j+j:=by rw[ar2,Int.one_mul]
 have S:0<=(n/(1000000*j)+1)*j:=by omega
 have T:(n/(1000000*j)+1)*j<=1000001000000:=by omega
 have q1:n/(1000000*j)<=1000000000000:=by have:n/(1000000*j)*1<=n/(1000000*j)*j:=arP u0 y;omega
 have E:n%(1000000*j)≠0->0<n:=fun U=>by
  rcases Int.lt_or_eq_of_le u with h|h
  ·exact h
  ·subst h;simp at U
 have V:(n/(1000000*j)).tmod 2=n/(1000000*j)%2:=asO y;have p:=aq6 V;have F:=aq6 E;have G:=aq6 D;have z:1000000*j<=1000000000000:=by omega
 have X:((1000000*j:Int)==0)=false:=by rw[arS];omega
 clear D N O R E;have Y:l=0\/l=1\/l=2\/l=3\/l=4\/l=5\/l=6:=by omega
 clear J K;rcases Y with rfl|rfl|rfl|rfl|rfl|rfl|rfl
 all_goals
  go_enter func245,ntmps245;go_wp2;go_quiet(fail);go_wp2
  all_goals
   go_ret;refine⟨?_,nq,rfl⟩;rw[G.out];have KY:=F.out;have B:=p.out;generalize n%(1000000*j)=r at*;generalize n/(1000000*j)=q at*;simp only[CP,mS,beq_iff_eq,arS,ne_eq,B]at*;clear G p F L M P Q S T I X z
   repeat' split
   all_goals first|rfl|(exfalso;omega)|(exfalso;rename_i C;simp at C;omega)|(exfalso;rename_i C;simp at C)
theorem amN(A:Option Addr)(j:Nat)(t:List cB)(inc unit mode:Int)(w:World)(h:aj gG 2 w w.heap.size A t)(n:gY t)(p:0<=inc)(B:inc<=1000000000000)(u0:1<=unit)(u1:unit<=1000000)(r:0<=mode)(u:mode<=6):
  Calls prog 222 #[.slice A t.length j,.int .i64 inc,.int .i64 unit,.int .i64 mode] w fun e w'=>e=.returned (.tuple #[.int .i64 (Ce t inc unit mode),.int .i64 0])/\Below w.heap.size w w':=by
 obtain⟨y,z⟩:=ML (inc:=inc) n p (aq7 _);have C:py t inc t.length=nh t inc:=rfl;rw[C]at y z;have D:nh t inc<=1000000000000000000:=by omega
 have E:=T5 r u;go_enter func222,ntmps222;go_wp2_with fail;refine(amL A j t inc w h n p B).mono ?_;rintro e F ⟨rfl,l⟩;clear z;go_wp2_with fail;refine(BX _ _).mono ?_;rintro e w' ⟨rfl,rfl⟩;rw[E];go_wp2_with fail;refine(amM _ _ _ _ y D u0 u1 r u).mono ?_;rintro e G ⟨rfl,q,rfl⟩;go_wp2;go_ret2;exact⟨rfl,below_drewN l q⟩
theorem amO{t:List cB}{num den:Int}{k:Nat}(h:E9 t num den k=true):lL t num den (k+1)=lL t num den k:=by rw[lL,aq9 h]
theorem afy{t:List cB}{num den:Int}{k:Nat}(h:E9 t num den k=false):lL t num den (k+1)=lL t num den k++[⟨jk t num den k,(t.getD k gH).bJ⟩]:=by rw[lL,aq8 (by simp[h])]
theorem amP(A:Option Addr)(F:Nat)(t:List cB)(num den:Int)(w:World)(h:aj gG 2 w w.heap.size A t)(J:gY t)(u:0<=num)(hd:1<=den)(M:num<=den)(bP:den<=53):
  Calls prog 223 #[.slice A t.length F,.int .i64 num,.int .i64 den] w fun e w'=>∃v,e=.returned (.tuple #[v,.int .i64 0])/\Own gG 2 127 w' w.heap.size v (nQ t num den)/\Below w.heap.size w w':=by
 have y:=aq6 J;have hl:=J.len;have r:=aaz A F t w _ h J;have T:=aq6 r;have eQ:(den==0)=false:=by rw[arS];omega
 clear r J;go_enter func223,ntmps223;go_wp2_with fail;refine arf T.out ?_;rintro e D ⟨rfl,q,U⟩;have N:Below w.heap.size w D:=by rw[U];exact below_drewN (arb _ _) q
 have O:aj gG 2 D D.heap.size A t:=h.aa N;have pd:=N.size;clear U T h;go_wp2
 go_loopw [8,9] (fun v i wr=>∃k:Nat,k<=t.length/\i=.int .i64 k/\Own gG 2 127 wr D.heap.size v (lL t num den k)/\Below D.heap.size D wr) (fun _ i _=>t.length-(intOf i).toNat)
 case atStart=>exact⟨0,by omega,rfl,Own.cK _ _,arb _ _⟩
 case round=>
  obtain⟨k,hk,rfl,l,E⟩:=hrel;have V:=O.aa E;have X:=E.size;by_cases j:k<t.length
  ·obtain⟨b,ad,rfl,hb,P⟩:=V.at_ j;have c0:=P 0 _ rfl;have c1:=P 1 _ rfl;simp only[ara]at c0;have Y:=y.out.I9 j;have Z:=y.out.hi k j;have Q:jk t num den k=t[k].bW*num/den:=(by rw[jk,jX j]);rw[jX j]at Y Z;have p0:0<=t[k].bW*num:=arH Y u;have p1:t[k].bW*num<=1000000000000*53:=asm Z (by omega) u (by omega);have e1:(t[k].bW*num).tdiv den=t[k].bW*num/den:=asn p0;obtain⟨s0,s1⟩:=V2 (t:=t) y.out u hd M j;rw[Q]at s0 s1;rw[jX j]at s1;have gK:(k:Int)<(t.length:Int):=(by omega);have z:=aq6 Q;have nH:=fun q hq=>(l.cg (g:=q) hq).1;have ab:(lL t num den k).length<=24:=(by have:=(afo y.out u hd M k hk).len;omega);clear P Q;by_cases p:k+1<t.length
   ·obtain⟨b1,EE,G,af,I⟩:=V.at_ p;injection G with G
    injection G with G dK
    subst G dK;have c2:=I 0 _ rfl;simp only[ara]at c2;have h6:=y.out.I9 p;have h7:=y.out.hi (k+1) p;have B:jk t num den (k+1)=t[k+1].bW*num/den:=(by rw[jk,jX p]);obtain⟨s2,s3⟩:=V2 (t:=t) y.out u hd M p;rw[B]at s2 s3;rw[jX p]at h6 h7 s3;have p2:0<=t[k+1].bW*num:=arH h6 u;have p3:t[k+1].bW*num<=1000000000000*53:=asm h7 (by omega) u (by omega);have e2:(t[k+1].bW*num).tdiv den=t[k+1].bW*num/den:=asn p2;have Sr:(k:Int)+1<(t.length:Int):=(by omega);have K:=aq6 B;clear I B;by_cases n:t[k+1].bW*num/den=t[k].bW*num/den
    ·have V5:(t[k+1].bW*num/den==t[k].bW*num/den)=true:=(by simp[n]);have C:=aq6 (amO (t:=t) (num:=num) (den:=den) (k:=k) (by simp[E9,p,z.out,K.out,n]));rw[n]at e2;clear n V5 K z;generalize t[k].bW*num/den=L at*;go_wp2;go_roundw
     case rel=>exact⟨k+1,by omega,by go_num,by rw[C.out];exact l,E⟩
     case measure=>simp[intOf];omega
    ·have V5:(t[k+1].bW*num/den==t[k].bW*num/den)=false:=(by rw[arS];exact n);have C:=aq6 (afy (t:=t) (num:=num) (den:=den) (k:=k) (by simp[E9,p,z.out,K.out,n]));rw[z.out,jX j]at C;clear n K z;generalize t[k].bW*num/den=L at*;generalize t[k+1].bW*num/den=ai at*;go_wp2_with(at_builtin;(refine my _ _ 38 ⟨L,t[k].bJ⟩ _ 16 _ OS underlying38 l CS (by omega) rfl (OT _) (by omega) (by omega) X (by rfl) (by rfl) (by rfl) (by rfl) (by simp) (by rfl) ?_);intro v2 w6 R S);go_roundw
     case rel=>exact⟨k+1,by omega,by go_num,by rw[C.out];exact R,jN E S nH⟩
     case measure=>simp[intOf];omega
   ·have Sr:¬(k:Int)+1<(t.length:Int):=(by omega);have C:=aq6 (afy (t:=t) (num:=num) (den:=den) (k:=k) (by simp[E9,p]));rw[z.out,jX j]at C;clear z;generalize t[k].bW*num/den=L at*;go_wp2_with(at_builtin;(refine my _ _ 38 ⟨L,t[k].bJ⟩ _ 16 _ OS underlying38 l CS (by omega) rfl (OT _) (by omega) (by omega) X (by rfl) (by rfl) (by rfl) (by rfl) (by simp) (by rfl) ?_);intro v2 w6 R S);go_roundw
    case rel=>exact⟨k+1,by omega,by go_num,by rw[C.out];exact R,jN E S nH⟩
    case measure=>simp[intOf];omega
  ·obtain rfl:k=t.length:=by omega
   have EN:Hid (nQ t num den=lL t num den t.length):=rfl;go_wp2;go_ret2;exact⟨_,rfl,by rw[EN.out];exact l.weaken (by omega),aB N E⟩
theorem Hh{t:List mj}{k:Nat}(h:k<t.length):t.getD k lR=t[k]:=by rw[aru,aro h];rfl
structure iD where
 t:zS
 Ab:Option Addr
 cb:Nat
 Ar:Option Addr
 cr:Nat
def iD.val(m:iD):Value:=.agg #[.int .i64 m.t.method,.slice m.Ab m.t.aA.length m.cb,.int .i64 m.t.bg,.int .i64 m.t.bh,.int .i64 m.t.unit,.int .i64 m.t.mode,.slice m.Ar m.t.rows.length m.cr]
structure iD.In(m:iD)(w:World):Prop where
 aA:aj gG 2 w w.heap.size m.Ab m.t.aA
 rows:aj oB 2 w w.heap.size m.Ar m.t.rows
theorem iD.In.aa{m:iD}{w w':World}(h:m.In w)(e:Below w.heap.size w w'):m.In w':=⟨h.aA.aa e,h.rows.aa e⟩
theorem Jd(n m:Int)(w:World):Calls prog 143 #[.int .i64 n,.int .i64 m] w fun e w'=>e=.returned (.bool (bG n m))/\w=w':=by
 by_cases l:0<=n<;>by_cases p:n<=m
 all_goals
  have j:bG n m=(decide (0<=n)&&decide (n<=m)):=by simp[bG]
  have r:=aq6 j;clear j;go_enter func143,ntmps143;go_wp2;go_ret;exact⟨by rw[r.out];simp[l,p],rfl⟩
theorem afz(A:Option Addr)(F:Nat)(t:List mj)(w:World)(B:Nat)(h:aj oB 2 w B A t)(p:My t):
  Calls prog 184 #[.slice A t.length F] w fun e w'=>e=.returned (.bool true)/\∃q,w'=w.drewN q:=by
 have D:=aq6 p;have r:=p.ne;have Y:=p.len;have G:=p.zero;rw[Hh r]at G;have P:((t.length:Int)==0)=false:=by rw[arS];omega
 obtain⟨b,I,rfl,Z,J⟩:=h.at_ r;have d0:=J 0 _ rfl;simp only[ara,arT]at d0;rw[G]at d0;have MN:(0:Int)<(t.length:Int):=by omega
 clear G J p;go_enter func184,ntmps184;go_wp2
 go_loopw [3] (fun i wr=>∃k q:Nat,k<=t.length/\i=.int .i64 k/\Hid (wr=w.drewN q)) (fun i _=>t.length-(intOf i).toNat)
 case atStart=>exact⟨0,0,by omega,rfl,rfl⟩
 case round=>
  obtain⟨k,q,hk,rfl,E⟩:=hrel;by_cases j:k<t.length
  ·have K:aj oB 2 wr B (some ⟨b,I,none⟩) t:=(by rw[E.out];exact h);have u:=D.out.hi k j;have n:=D.out.t0 k j;have L:=D.out.t1 k j;rw[Hh j]at u n L;obtain⟨b1,EE,y,Q,l⟩:=K.at_ j;injection y with y
   injection y with y R
   subst y R;have M:=l 0 _ rfl;have S:=l 1 _ rfl;simp only[ara]at M;have gK:(k:Int)<(t.length:Int):=(by omega);have g1:decide (1000000000<t[k].bW)=false:=(by simp;omega);have N:bG t[k].au 1000000000=true:=gT.2 ⟨n,L⟩;clear l;rcases k with _|m
   ·have fM:(0:Int)<(t.length:Int):=(by omega);simp only[arT,ara]at M S;go_wp2;go_quiet((go_at_call 143;exact Calls.quiet_of_same ((Jd _ _ _).mono fun e w' ⟨u,n⟩=>⟨u,n.symm⟩)));rw[N];go_wp2;go_roundw
    case rel=>exact⟨1,q+nq,by omega,by go_num,by show wr.drewN nq=w.drewN (q+nq);rw[E.out,World.drewN_drewN]⟩
    case measure=>simp[intOf];omega
   ·have O:m<t.length:=(by omega);have T:=D.out.lh m j;rw[Hh O,Hh j]at T;obtain⟨b2,FH,z,U,C⟩:=K.at_ O;injection z with z
    injection z with z V
    subst z V;have X:=C 0 _ rfl;simp only[ara]at X;clear C;have g0:decide (t[m+1].bW<=t[m].bW)=false:=(by simp;omega);have Ca:(m:Int)<(t.length:Int):=(by omega);have Mc:(m:Int)+1<(t.length:Int):=(by omega);have hp:decide ((0:Int)<(m:Int)+1)=true:=(by rw[arz];omega);go_wp2;go_quiet((go_at_call 143;exact Calls.quiet_of_same ((Jd _ _ _).mono fun e w' ⟨u,n⟩=>⟨u,n.symm⟩)));rw[N];go_wp2;go_roundw
    case rel=>exact⟨m+2,q+nq,by omega,by go_num,by show wr.drewN nq=w.drewN (q+nq);rw[E.out,World.drewN_drewN]⟩
    case measure=>simp[intOf];omega
  ·go_wp2;go_ret;exact⟨rfl,q,E.out⟩
theorem U7(m:iD)(w:World)(h:m.In w)(hT:nP m.t):Calls prog 142 #[m.val] w fun e w'=>e=.returned (.bool true)/\Below w.heap.size w w':=by
 obtain⟨⟨method,u,y,z,n,p,l⟩,B,cb,C,D⟩:=m;obtain⟨N,O⟩:=h;obtain⟨m0,m1,r,P,Q,R,S,u0,u1,T,U,I,j⟩:=hT;simp only at N O m0 m1 r P Q R S u0 u1 T U I j;unfold iD.val;simp only;have hm:=T5 T U;have Ej:bG y 1000000000=true:=gT.2 ⟨P,Q⟩;have DC:bG z 1000000000=true:=gT.2 ⟨R,S⟩;have I6:=aq6 r;have Mr:=aq6 I;have gl:=aq6 j;clear r I j;go_enter func142,ntmps142;have E:=ah.new w 41 #[.int .i64 method,.slice B u.length cb,.int .i64 y,.int .i64 z,.int .i64 n,.int .i64 p,.slice C l.length D];have F:=bF w (.cells #[.int .i64 method,.slice B u.length cb,.int .i64 y,.int .i64 z,.int .i64 n,.int .i64 p,.slice C l.length D] 41);go_upto_region 1 with fail
 generalize w.alloc (Obj.cells _ _)=W at E F|-;obtain⟨V,X,Y,Z,z4,z5,J⟩:=E.cz7;go_wp2_with fail;refine(aaz B cb u W _ (N.aa F) I6.out).mono ?_;rintro e w1 ⟨rfl,q1,K⟩;have ai:ah w1 w.heap.size 41 #[.int .i64 method,.slice B u.length cb,.int .i64 y,.int .i64 z,.int .i64 n,.int .i64 p,.slice C l.length D]:=by rw[K];exact E.drewN q1
 have L:Below w.heap.size w w1:=by rw[K];exact below_drewN F q1
 clear K E F V X Y Z z4 z5 J;obtain⟨V,X,Y,Z,z4,z5,J⟩:=ai.cz7;go_wp2_with fail;refine(Jd _ _ _).mono ?_;rintro e w' ⟨rfl,rfl⟩;rw[Ej];go_wp2_with fail;refine(Jd _ _ _).mono ?_;rintro e w' ⟨rfl,rfl⟩;rw[DC];go_wp2_with fail;refine(BX _ _).mono ?_;rintro e w' ⟨rfl,rfl⟩;rw[hm];by_cases G:method=1
 ·have M:(method==1)=true:=by simp[G]
  go_wp2_with fail;refine(afz C D l _ _ (O.aa L) (Mr.out G)).mono ?_;rintro e w2 ⟨rfl,q2,rfl⟩;go_wp2;go_ret;exact⟨rfl,below_drewN L q2⟩
 ·have M:(method==1)=false:=by rw[arS];exact G
  have B1:=gl.out G;subst B1;simp only[arC]at J;go_wp2;go_ret;exact⟨rfl,L⟩
