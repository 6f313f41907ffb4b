/- Conditions: as stated. -/
import Derived.Test.YtlhkojcmcmkmaaaGreatCNetT
set_option maxRecDepth 100000
set_option maxHeartbeats 4000000
namespace Go.Proofs.YtlhkojcmcmkmaaaGreat
open Go.Proofs.Tryz
open Go.RowKit
theorem CJ{e:Type}{p:e->Bool}{x:e}{l:List e}(h:x∈l.filter p):x∈l:=(auR.1 h).1
theorem abp(num den e:Int):num/den<=gY num den e:=by
 unfold gY;split
 ·omega
 ·split<;>omega
theorem abq(num den e:Int):gY num den e<=num/den+1:=by
 unfold gY;split
 ·omega
 ·split<;>omega
theorem anN{a b d m:Int}(hd:0<d)(l:0<=a)(e:a<=b):gY a d m<=gY b d m:=by
 have n:a/d<=b/d:=Int.ediv_le_ediv hd e;rcases Int.lt_or_eq_of_le n with h2|h2
 ·have:=abq a d m;have:=abp b d m;omega
 ·have p:=avy a d;have C:=avy b d;rw[h2]at p;have D:a%d<=b%d:=by omega
  have E:=auY a (show d≠0 by omega);by_cases j:a%d=0
  ·have:gY a d m=a/d:=(by rw[gY,atP j]);have:=abp b d m;omega
  ·have r:¬b%d=0:=(by omega);have u:0<a:=by
    rcases Int.lt_or_eq_of_le l with h|h
    ·exact h
    ·subst h;simp at j
   have y:0<b:=(by omega);rw[gY,gY,atO j,atO r,h2,auL u,auL y];have z:DC (b/d) (kG (a%d) (d-a%d)) true m=true->DC (b/d) (kG (b%d) (d-b%d)) true m=true:=by
    simp only[DC,kG]
    repeat' split
    all_goals first|exact id|(intro h;simp at h|-;done)|(exfalso;omega)|(intro _;rfl)|(intro h;simp at h)|skip
    all_goals(try(intro h;simp_all;done))
    all_goals(try(intro h;simp at h|-;omega))
   split
   ·rename_i B;rw[atP (z B)];exact auJ _
   ·split<;>omega
theorem agz{a d m:Int}(hd:0<d)(e:0<=a):0<=gY a d m:=by have:=abp a d m;have:=au5 e (show 0<=d by omega);omega
theorem Vo{m:Int}(e:0<=m)(j:m<=6):EC m=true:=by simp[EC,e,j]
theorem LL{a num unit mode:Int}(l:0<=a)(E:a<=500000000000)(n:0<=num)(p:num<=1000000)(F:1<=unit)(G:unit<=100)(u:0<=mode)(y:mode<=6):
  mY a num 1000000 unit mode=0/\gW a num 1000000 unit mode=pA a num 1000000 unit mode/\0<=pA a num 1000000 unit mode/\pA a num 1000000 unit mode<=a+unit:=by
 have z:Jw a num 1000000 unit mode=true:=(NR ..).2 ⟨⟨by omega,by omega,n,p,by omega,by omega,by omega,by omega⟩,Vo u y⟩;have B:0<=a*num:=aur l n;have I:a*num<=a*1000000:=auF p l;have e:0<=pA a num 1000000 unit mode:=aur (agz (by omega) B) (by omega);have j:pA a num 1000000 unit mode<=a+unit:=by
  unfold pA;have C:=abq (a*num) (1000000*unit) mode;have D:gY (a*num) (1000000*unit) mode*unit<=(a*num/(1000000*unit)+1)*unit:=au4 C (by omega);rw[auN,Int.one_mul]at D;have J:=Int.ediv_mul_le (a*num) (show(1000000*unit)≠0 by omega);have K:a*num/(1000000*unit)*(1000000*unit)=1000000*(a*num/(1000000*unit)*unit):=by rw[<-avj,auZ _ 1000000,avj]
  omega
 have r:mY a num 1000000 unit mode=0:=by rw[mY,atO (by simp[z]),atO];simp only[Cf];simp;omega
 exact⟨r,by rw[gW,atP r],e,j⟩
theorem agA{a b num j l:Int}(r:0<=a)(n:a<=b)(p:0<=num)(u:1<=j):pA a num 1000000 j l<=pA b num 1000000 j l:=by have e:a*num<=b*num:=au4 n p;have:=anN (d:=1000000*j) (m:=l) (by omega) (aur r p) e;exact au4 this (by omega)
theorem agB(s:dx)(l m:List Int):mH s (l++m)=mH s l+mH s m:=by simp[mH,F9]
theorem Zp{s:dx}{l:List Int}(h:∀x∈l,0<=x):0<=mH s l:=by
 unfold mH
 induction l with
 |nil=>simp[ax]
 |cons a l e=>
  have p:=h a (by simp);have j:=e (fun x n=>h x (by simp[n]));rw[auM];split
  ·simp only[ax];omega
  ·exact j
theorem adm(s:dx)(l:List Int)(k:Nat)(h:k<l.length):mH s (l.take (k+1))=mH s (l.take k)+if s.floor<=l[k]then l[k]else 0:=by
 rw[aud h,agB];congr 1;by_cases e:s.floor<=l[k]
 ·simp[mH,e,ax]
 ·simp[mH,e,ax]
theorem adl{s:dx}{l:List Int}(h:∀x∈l,0<=x):mH s l<=ax l:=by
 unfold mH
 induction l with
 |nil=>simp[ax]
 |cons a l e=>have n:=h a (by simp);have p:=e (fun x j=>h x (by simp[j]));rw[auM];split<;>simp only[ax]<;>omega
theorem OE{s:dx}{l:List Int}(e:oD s)(h:∀x∈l,0<=x)(n:l.length<=54):0<=dU s l/\dU s l<=54000000000:=by have p:=Zp (s:=s) h;have r:=e.c0;have j:=e.c1;have u:0<=(l.length:Int)*s.dO:=aur (by omega) (by omega);have y:(l.length:Int)*s.dO<=54*1000000000:=auS (by omega) j (by omega) (by omega);unfold dU;omega
theorem anO{s:dx}{l:List Int}(p:oD s)(h:∀x∈l,0<=x)(j:l≠[]):dU s l.dropLast<=dU s l/\dU s l<=dU s l.dropLast+max (l.getLast j) s.dO:=by
 have e:=List.dropLast_concat_getLast j;have y:=p.c0;have z:=h (l.getLast j) (List.getLast_mem j);have r:mH s l=mH s l.dropLast+if s.floor<=l.getLast j then l.getLast j else 0:=by
  conv=>lhs;rw[<-e,agB]
  congr 1;by_cases n:s.floor<=l.getLast j
  ·simp[mH,n,ax]
  ·simp[mH,n,ax]
 have u:(l.length:Int)=l.dropLast.length+1:=by have:0<l.length:=avm.2 j;rw[List.length_dropLast];omega
 unfold dU;rw[r,u,auN];split<;>omega
theorem Mh{s:dx}{b:Int}(e:oD s)(j:0<=b)(l:b<=500000000000):
  mY b s.aD 1000000 s.unit s.mode=0/\mY b s.aV 1000000 s.unit s.mode=0/\(bE s b).base=b/\0<=(bE s b).aD/\(bE s b).aD<=b+100/\0<=(bE s b).aV/\(bE s b).aV<=b+100:=by
 have n:=e.u0;have p:=e.u1;obtain⟨r,y,z,B⟩:=LL j l e.e0 e.e1 n p e.m0 e.m1;obtain⟨u,C,D,E⟩:=LL j l e.r0 e.r1 n p e.m0 e.m1;refine⟨r,u,rfl,?_,?_,?_,?_⟩<;>simp only[bE]<;>omega
theorem anP{s:dx}{a b:Int}(e:oD s)(n:0<=a)(l:a<=b)(r:b<=500000000000):(bE s a).aD<=(bE s b).aD/\(bE s a).aV<=(bE s b).aV:=by have j:=e.u0;have p:=e.u1;obtain⟨_,u,_,_⟩:=LL n (by omega:a<=500000000000) e.e0 e.e1 j p e.m0 e.m1;obtain⟨_,y,_,_⟩:=LL (by omega:0<=b) r e.e0 e.e1 j p e.m0 e.m1;obtain⟨_,z,_,_⟩:=LL n (by omega:a<=500000000000) e.r0 e.r1 j p e.m0 e.m1;obtain⟨_,B,_,_⟩:=LL (by omega:0<=b) r e.r0 e.r1 j p e.m0 e.m1;simp only[bE,u,y,z,B];exact⟨agA n l e.e0 j,agA n l e.r0 j⟩
theorem anQ{s:dx}{l:List Int}(e:oD s)(h:∀x∈l,0<=x)(n:l.length<=54)(j:l≠[]):
  0<=(lF s l).base/\0<=(lF s l).aD/\0<=(lF s l).aV/\(lF s l).base<=54000000000/\(lF s l).aD<=54000000100/\(lF s l).aV<=54000000100:=by
 obtain⟨p,B⟩:=OE e h n;have r:∀x∈l.dropLast,0<=x:=fun x u=>h x ((List.dropLast_sublist l).subset u);obtain⟨d0,d1⟩:=OE e r (by simp;omega);obtain⟨y,_⟩:=anO e h j;obtain⟨_,_,f1,f2,f3,f4,f5⟩:=Mh e p (by omega:dU s l<=500000000000);obtain⟨_,_,z,C,D,E,F⟩:=Mh e d0 (by omega:dU s l.dropLast<=500000000000);obtain⟨G,I⟩:=anP e d0 y (by omega);simp only[lF,Mp,f1,z];omega
theorem anR{f g:Nat->Int}(n:Nat)(h:∀i,i<n->f i<=g i):sumTo f n<=sumTo g n:=by
 induction n with
 |zero=>exact auJ _
 |succ n e=>have:=e (fun i hi=>h i (by omega));have:=h n (by omega);simp only[sumTo];omega
theorem agC{f:Nat->Int}(n:Nat)(h:∀i,i<n->0<=f i):0<=sumTo f n:=by
 induction n with
 |zero=>exact auJ _
 |succ n e=>have:=e (fun i hi=>h i (by omega));have:=h n (by omega);simp only[sumTo];omega
theorem anS(f:Nat->Int)(c:Int)(n:Nat):sumTo (fun i=>f i*c) n=sumTo f n*c:=by
 induction n with
 |zero=>simp[sumTo]
 |succ n e=>simp only[sumTo,e,auN]
theorem ji.mono{t:List dv}(h:ji t):∀(d i:Nat),i+d<t.length->(t.getD i jc).cg+d<=(t.getD (i+d) jc).cg:=by
 intro d
 induction d with
 |zero=>intro i _;simp
 |succ d e=>intro i hi;have j:=e i (by omega);have l:=h.jr (i+d) (by omega);rw[show i+(d+1)=i+d+1 by omega];omega
theorem ji.JM{t:List dv}(h:ji t){i:Nat}(hi:i<t.length):0<=(t.getD i jc).cg:=by have:=h.mono i 0 (by omega);rw[h.zero]at this;simp only[atX]at this;omega
theorem TS{t:List dv}{inc:Int}(i:Nat):0<=jK t inc i:=by unfold jK;omega
theorem agD{t:List dv}{inc:Int}(h:ji t)(e:0<=inc){i:Nat}(hi:i<t.length):jK t inc i<=inc:=by have:=h.JM hi;unfold jK Qa;split<;>omega
theorem anT{t:List dv}{j:Int}(h:ji t)(r:0<=j):∀k,(k<t.length->sumTo (jK t j) k=min j (t.getD k jc).cg)/\(k=t.length->sumTo (jK t j) k=j):=by
 intro k
 induction k with
 |zero=>
  refine⟨fun _=>?_,fun e=>?_⟩
  ·rw[h.zero];simp only[sumTo];omega
  ·have:=h.ne;omega
 |succ k p=>
  have l:=p.1;refine⟨fun n=>?_,fun n=>?_⟩
  ·have:=h.jr k n;simp only[sumTo,l (by omega),jK,Qa,atP n];omega
  ·simp only[sumTo,l (by omega),jK,Qa];rw[atO (by omega)];omega
theorem anU{t:List dv}{j:Int}(h:ji t)(l:0<=j){k:Nat}(n:k<=t.length):0<=sumTo (jK t j) k/\sumTo (jK t j) k<=j:=by
 refine⟨agC _ (fun i _=>TS i),?_⟩;obtain⟨p,r⟩:=anT h l k;rcases Nat.lt_or_eq_of_le n with e|e
 ·rw[p e];omega
 ·rw[r e];exact auJ _
def qw(t:List dv)(inc:Int)(k:Nat):Int:=sumTo (fun i=>jK t inc i*(t.getD i jc).cB) k
theorem NS{t:List dv}{inc:Int}(h:ji t)(e:0<=inc){k:Nat}(j:k<=t.length):0<=qw t inc k/\qw t inc k<=inc*1000000:=by refine⟨agC _ (fun i hi=>aur (TS i) (h.r0 i (by omega))),?_⟩;have l:qw t inc k<=sumTo (fun i=>jK t inc i*1000000) k:=anR _ (fun i hi=>auF (h.r1 i (by omega)) (TS i));rw[anS]at l;have:=(anU h e j).2;omega
theorem abr{t:List dv}{inc unit mode:Int}(h:ji t)(j:0<=inc)(p:1<=unit):0<=EJ t inc unit mode/\EJ t inc unit mode<=inc+unit:=by
 obtain⟨a,b⟩:=NS (inc:=inc) h j (atN _);have e:DX t inc=qw t inc t.length:=rfl;unfold EJ;rw[e];generalize qw t inc t.length=x at a b;refine⟨aur (agz (by omega) a) (by omega),?_⟩;have l:=abq x (1000000*unit) mode;have n:gY x (1000000*unit) mode*unit<=(x/(1000000*unit)+1)*unit:=au4 l (by omega);rw[auN,Int.one_mul]at n;have r:=Int.ediv_mul_le x (show(1000000*unit)≠0 by omega);have u:x/(1000000*unit)*(1000000*unit)=1000000*(x/(1000000*unit)*unit):=by rw[<-avj,auZ _ 1000000,avj]
 omega
section
variable {t:List dv}{num den:Int}
theorem Xq(h:ji t)(j:0<=num)(hd:1<=den)(l:num<=den){i:Nat}(hi:i<t.length):0<=jz t num den i/\jz t num den i<=(t.getD i jc).cg:=by have e:=h.JM hi;unfold jz;refine⟨au5 (aur e j) (by omega),?_⟩;refine Int.ediv_le_of_le_mul (by omega) ?_;exact auF l e
theorem anV(h:ji t)(e:0<=num)(hd:1<=den){i:Nat}(hi:i+1<t.length):jz t num den i<=jz t num den (i+1):=by unfold jz;refine Int.ediv_le_ediv (by omega) ?_;have:=h.jr i hi;exact au4 (by omega) e
theorem anW(h:ji t):jz t num den 0=0:=by unfold jz;rw[h.zero];simp
structure anX(t:List dv)(num den:Int)(k:Nat)(l:List dv):Prop where
 jr:l.Pairwise (fun a b=>a.cg<b.cg)
 lt:k<t.length->∀x∈l,x.cg<jz t num den k
 ok:∀x∈l,0<=x.cg/\x.cg<=1000000000000/\0<=x.cB/\x.cB<=1000000
 len:l.length<=k
 hd:l=[]/\(k<t.length->jz t num den k=0)\/∃x r,l=x::r/\x.cg=0
theorem agE(h:ji t)(z:0<=num)(hd:1<=den)(B:num<=den):∀k,k<=t.length->anX t num den k (nL t num den k):=by
 intro k
 induction k with
 |zero=>intro _;exact⟨List.Pairwise.nil,fun _ x l=>(by cases l),fun x l=>(by cases l),by simp[nL],.inl ⟨rfl,fun _=>anW h⟩⟩
 |succ k C=>
  intro E;have I:=C (by omega);have D:=Xq h z hd B (show k<t.length by omega);have F:=h.hi k (by omega);simp only[nL];split
  ·rename_i n;simp only[FR,aub,auc]at n;refine⟨I.jr,fun j x l=>?_,I.ok,by have:=I.len;omega,?_⟩
   ·rw[n.2];exact I.lt (by omega) x l
   ·rcases I.hd with⟨h1,p⟩|h1
    ·exact .inl ⟨h1,fun _=>by rw[n.2];exact p (by omega)⟩
    ·exact .inr h1
  ·rename_i n;have u:k+1<t.length->jz t num den k<jz t num den (k+1):=by
    intro j;have h1:=anV h z hd j;simp only[FR,aub,auc]at n;have p:¬jz t num den (k+1)=jz t num den k:=fun e=>n ⟨j,e⟩;omega
   refine⟨?_,fun j x l=>?_,fun x l=>?_,by have:=I.len;simp;omega,?_⟩
   ·rw[avr];refine⟨I.jr,by simp,fun x l y hy=>?_⟩;simp at hy;subst hy;exact I.lt (by omega) x l
   ·rcases aul.1 l with h1|h1
    ·have:=I.lt (by omega) x h1;have:=u j;omega
    ·simp at h1;subst h1;exact u j
   ·rcases aul.1 l with h1|h1
    ·exact I.ok x h1
    ·simp at h1;subst h1;exact⟨D.1,by show jz t num den k<=_;omega,h.r0 k (by omega),h.r1 k (by omega)⟩
   ·rcases I.hd with⟨h1,p⟩|⟨x,r,h1,p⟩
    ·rw[h1];exact .inr ⟨_,[],rfl,p (by omega)⟩
    ·rw[h1];exact .inr ⟨x,_,rfl,p⟩
theorem abt(h:ji t)(j:0<=num)(hd:1<=den)(y:num<=den):ji (qx t num den):=by
 have I:=agE h j hd y t.length (atN _);have z:=h.ne;have C:=h.len;have p:nL t num den t.length≠[]:=by
  obtain⟨n,j⟩:∃n,t.length=n+1:=⟨t.length-1,by omega⟩
  rw[j];simp only[nL];rw[atO (by simp[FR];omega)];simp
 unfold qx;generalize nL t num den t.length=l at I p;have e:∀i,(hi:i<l.length)->l.getD i jc=l[i]:=fun i hi=>by rw[atZ,atW hi];rfl
 refine⟨avm.2 p,by have:=I.len;omega,?_,fun i hi=>?_,fun i hi=>?_,fun i hi=>?_,fun i hi=>?_⟩
 ·rcases I.hd with⟨u,_⟩|⟨x,r,u,B⟩
  ·exact absurd u p
  ·subst u;exact B
 ·rw[e i (by omega),e (i+1) hi];exact auz.1 I.jr i (i+1) (by omega) hi (by omega)
 ·rw[e i hi];exact(I.ok _ (atT hi)).2.1
 ·rw[e i hi];exact(I.ok _ (atT hi)).2.2.1
 ·rw[e i hi];exact(I.ok _ (atT hi)).2.2.2
end
theorem agF{t:Ek}{l:List dv}{al cr inc:Int}(h:ji l)(e:1<=t.unit)(j:t.unit<=100)(n:0<=al)(p:0<=cr)(hi:0<=inc):0<=Cm t l al cr inc/\Cm t l al cr inc<=inc+100:=by have:=abr (mode:=t.mode) (inc:=max (inc-al) 0) h (by omega) e;unfold Cm;omega
theorem O3{o:bn}(h:EM o):0<=iZ o/\iZ o<=1000000000:=by have:=h.a0;have:=h.t0;have:=h.t1;unfold iZ;split<;>omega
theorem aex{l:List bn}{k:Int×Int}(h:∀o∈l,EM o):∀x∈JN l k,0<=x/\x<=1000000000:=by intro x e;obtain⟨o,j,rfl⟩:=aue.1 e;exact O3 (h o (CJ j))
theorem aad(l:List bn)(k:Int×Int)(left:Int):(ql l k left).length=(l.filter (fY k)).length:=by
 unfold ql;split
 ·rw[Pf];simp[JN]
 ·simp[JN]
theorem aae{l:List bn}{k:Int×Int}{left:Int}(h:∀o∈l,EM o)(p:0<=left):(∀x∈ql l k left,0<=x)/\ax (ql l k left)<=left/\0<=ax (ql l k left):=by
 have e:=aex (k:=k) h;unfold ql;split
 ·rename_i r;have j:0<ax (JN l k):=by omega
  exact⟨abu p (fun x n=>(e x n).1) j,by rw[TT j];exact auJ _,by rw[TT j];exact p⟩
 ·rename_i r;exact⟨fun x n=>(e x n).1,by omega,(nv e).1⟩
theorem agG(out:List Elem)(o:bn){p:Int}(h:0<=p):aB (o9 out o p)=aB out+p:=by
 unfold o9;split
 ·rw[agH]
 ·omega
theorem agI:∀(os:List bn) (e:List Int) (out:List Elem),os.length=e.length->(∀x∈e,0<=x)->aB (Ah out os e)=aB out+ax e
 |[],[],out,_,_=>by simp[Ah,ax]
 |[],_::_,_,h,_=>by simp at h
 |_::_,[],_,h,_=>by simp at h
 |o::r,p::e,out,h,j=>by rw[Ah,agI r e _ (by simpa using h) (fun x l=>j x (by simp[l])),agG _ _ (j p (by simp))];simp only[ax];omega
structure IK(l:List bn)(n:Nat)(out:List Elem):Prop where
 pos:∀x∈out,0<=x.amount
 code:∀x∈out,∃o∈l,x.code=o.id
 len:out.length<=n
theorem anY{l:List Elem}{e:Elem}(h:∀x∈l,0<=x.amount)(j:0<=e.amount):∀x∈put l e,0<=x.amount:=by
 induction l with
 |nil=>intro x hx;simp[put]at hx;subst hx;exact j
 |cons a l p=>
  have r:=h a (by simp);have n:∀x∈l,0<=x.amount:=fun x hx=>h x (by simp[hx]);intro x hx;rw[put]at hx;split at hx
  ·rcases auf.1 hx with rfl|hx
   ·exact r
   ·exact p n x hx
  ·split at hx
   ·rcases auf.1 hx with rfl|hx
    ·show 0<=e.amount+a.amount;omega
    ·exact n x hx
   ·rcases auf.1 hx with rfl|hx
    ·exact j
    ·exact h x hx
theorem IK.o9{l:List bn}{n:Nat}{out:List Elem}(h:IK l n out){o:bn}(r:o∈l)(p:Int):IK l (n+1) (o9 out o p):=by
 unfold Go.Proofs.YtlhkojcmcmkmaaaGreat.o9;split
 ·refine⟨anY h.pos (by show 0<=p;omega),fun x u=>?_,by have:=aaP out ⟨o.id,p⟩;have:=h.len;omega⟩;rcases aaQ _ _ x u with e|⟨y,hy,e⟩
  ·exact⟨o,r,e⟩
  ·obtain⟨z,j,B⟩:=h.code y hy;exact⟨z,j,by rw[<-e,B]⟩
 ·exact⟨h.pos,h.code,by have:=h.len;omega⟩
theorem IK.agJ{l:List bn}:∀(os:List bn) (e:List Int) {n:Nat} {out:List Elem},IK l n out->(∀o∈os,o∈l)->IK l (n+os.length) (Ah out os e)
 |[],e,n,out,h,_=>by cases e<;>exact h
 |o::r,[],n,out,h,_=>by exact⟨h.pos,h.code,by have:=h.len;show out.length<=_;omega⟩
 |o::r,p::e,n,out,h,j=>by rw[Ah];have:=IK.agJ r e (h.o9 (j o (by simp)) p) (fun o u=>j o (by simp[u]));rw[at4,show n+(r.length+1)=n+1+r.length by omega];exact this
theorem abv{l:List bn}{n:Bool}{j:Int×Int}:(gS l n j).1≠10->∃o∈l,mP n o=true/\dR j (o.aT,o.day)/\gS l n j=(o.aT,o.day):=by
 have key:∀(m:List bn) (p:Int×Int),(m.foldl (C6 n j) p=p)\/∃o∈m,mP n o=true/\dR j (o.aT,o.day)/\m.foldl (C6 n j) p=(o.aT,o.day):=by
  intro m
  induction m with
  |nil=>intro p;exact .inl rfl
  |cons o m y=>
   intro p;rw[au1];rcases y (C6 n j p o)with h|⟨z,r,B,C,D⟩
   ·rw[h];unfold C6;split
    ·rename_i u;exact .inr ⟨o,by simp,u.1,u.2.1,rfl⟩
    ·exact .inl rfl
   ·exact .inr ⟨z,by simp[r],B,C,D⟩
 intro h;rcases key l (10,0)with e|e
 ·exact absurd (by unfold gS;rw[e]) h
 ·exact e
theorem Qb{a b c:Int×Int}(e:dR a b)(j:dR b c):dR a c:=by unfold dR at*;omega
theorem LP(a:Int×Int):¬dR a a:=by unfold dR;omega
theorem VI{l:List bn}{aU:Bool}{last:Int×Int}(h:(gS l aU last).1≠10):o8 l aU (gS l aU last)<o8 l aU last:=by
 obtain⟨o,z,B,p,C⟩:=abv h;rw[C];unfold o8;have D:∀(m:List bn),o∈m->(m.filter fun j=>mP aU j&&decide (dR (o.aT,o.day) (j.aT,j.day))).length<(m.filter fun j=>mP aU j&&decide (dR last (j.aT,j.day))).length:=by
  have r:∀(m:List bn),(m.filter fun j=>mP aU j&&decide (dR (o.aT,o.day) (j.aT,j.day))).length<=(m.filter fun j=>mP aU j&&decide (dR last (j.aT,j.day))).length:=by intro m;rw[<-List.countP_eq_length_filter,<-List.countP_eq_length_filter];refine List.countP_mono_left (fun x _ n=>?_);simp only[aub,auc]at n|-;exact⟨n.1,Qb p n.2⟩
  intro m
  induction m with
  |nil=>intro h;cases h
  |cons a m E=>
   intro F;rcases auf.1 F with e|e
   ·subst e;rw[auM,auM,atO (by simp;intro _;exact LP _),atP (by simp[B,p])];have:=r m;simp;omega
   ·have y:=E e;rw[auM,auM];by_cases n:(mP aU a&&decide (dR (o.aT,o.day) (a.aT,a.day)))=true
    ·rw[atP n];have u:(mP aU a&&decide (dR last (a.aT,a.day)))=true:=by
      simp only[aub,auc]at n|-;exact⟨n.1,Qb p n.2⟩
     rw[atP u];simpa using y
    ·rw[atO n];split
     ·simp;omega
     ·exact y
 exact D l z
theorem O2{l:List bn}{aU:Bool}{last:Int×Int}{left taken:Int}{out:List Elem}(n:Nat)(h:(gS l aU last).1=10):nX l aU n last left out taken=(out,taken):=by
 cases n with
 |zero=>rfl
 |succ n=>rw[nX,atP h]
theorem anZ{l:List bn}{r:Bool}:∀(n m:Nat) {e:Int×Int} {left j:Int} {out:List Elem},o8 l r e<=n->o8 l r e<=m->nX l r n e left out j=nX l r m e left out j:=by
 intro n
 induction n with
 |zero=>
  intro m e left j out h _;have p:(gS l r e).1=10:=avx fun p=>by have:=VI p;omega
  rw[O2 _ p,O2 _ p]
 |succ n u=>
  intro m e left j out h y;by_cases p:(gS l r e).1=10
  ·rw[O2 _ p,O2 _ p]
  ·have z:=VI p;obtain⟨q,rfl⟩:∃q,m=q+1:=⟨m-1,by omega⟩
   rw[nX,atO p,nX,atO p];exact u q (by omega) (by omega)
theorem aew{l:List bn}{aU:Bool}{last:Int×Int}{left taken:Int}{out:List Elem}(h:(gS l aU last).1≠10):
  nX l aU (o8 l aU last) last left out taken=nX l aU (o8 l aU (gS l aU last)) (gS l aU last) (left-ax (ql l (gS l aU last) left)) (Ah out (l.filter (fY (gS l aU last))) (ql l (gS l aU last) left)) (taken+ax (ql l (gS l aU last) left)):=by
 have j:=VI h;obtain⟨m,e⟩:∃m,o8 l aU last=m+1:=⟨o8 l aU last-1,by omega⟩
 rw[e,nX,atO h];exact anZ _ _ (by omega) (atN _)
def ir(w:World)(g:Nat)(i:Nat):List Value->World
 |[]=>w
 |v::r=>ir (w.setCell ⟨g,i,none⟩ v) g (i+1) r
theorem ah.agK{g:Nat}{t:TypeId}:∀(vs:List Value) {w:World} {cs:Array Value} (i:Nat),ah w g t cs->i+vs.length<=cs.size->ah (ir w g i vs) g t (cs.toList.take i++vs++cs.toList.drop (i+vs.length)).toArray
 |[],w,cs,i,h,j=>by simp only[aug,atQ,avl,avd];exact h
 |v::r,w,cs,i,h,j=>by
  have l:i<cs.size:=by simp at j;omega
  have n:=ah.agK r (i+1) (h.eh i v) (by simp at j|-;omega);rw[ir];have e:(cs.setIfInBounds i v).toList.take (i+1)++r++(cs.setIfInBounds i v).toList.drop (i+1+r.length)=cs.toList.take i++(v::r)++cs.toList.drop (i+(v::r).length):=by rw[Array.toList_setIfInBounds];have p:i<(cs.toList.set i v).length:=(by simpa using l);rw[aud p,List.getElem_set_self,List.take_set_of_le (atN _),List.drop_set_of_lt (by omega),at4];simp[au6,Nat.add_comm 1]
  rw[e]at n;exact n
theorem ah.fill{w:World}{g:Nat}{t:TypeId}{cs:Array Value}(h:ah w g t cs)(vs:List Value)(e:vs.length=cs.size):ah (ir w g 0 vs) g t vs.toArray:=by have:=ah.agK vs 0 h (by omega);rw[List.drop_of_length_le (by simp;omega)]at this;simpa using this
theorem Mo{B:Nat}{a:World}{g:Nat}(e:B<=g):∀(j:List Value) {w:World} (i:Nat),Below B a w->Below B a (ir w g i j)
 |[],_,_,h=>h
 |v::r,_,i,h=>Mo e r (i+1) (h.setCell (p:=⟨g,i,none⟩) e v)
theorem ah.Mm{g g':Nat}{t:TypeId}{cs:Array Value}(e:g≠g'):∀(vs:List Value) {w:World} (i:Nat),ah w g t cs->ah (ir w g' i vs) g t cs
 |[],_,_,h=>h
 |v::r,_,i,h=>ah.Mm e r (i+1) (h.far (p:=⟨g',i,none⟩) e v)
theorem adY{a:World}{g:Nat}:∀(e:List Value) {w:World} (i:Nat),a.grownBy w (some g)->a.grownBy (ir w g i e) (some g)
 |[],_,_,h=>h
 |v::r,_,i,h=>adY r (i+1) (bg (p:=⟨g,i,none⟩) h (.inl rfl) v)
theorem ke{t:List dv}{k:Nat}(h:k<t.length):t.getD k jc=t[k]:=by rw[atZ,atW h];rfl
theorem abw(A:Option Addr)(D:Nat)(t:List dv)(w:World)(B:Nat)(h:ai ik 2 w B A t)(n:ji t):
  Calls prog 183 #[.slice A t.length D] w fun e w'=>e=.returned (.bool true)/\∃q,w'=w.drewN q:=by
 have z:=atM n;have p:=n.ne;have V:=n.len;have E:=n.zero;rw[ke p]at E;have K:((t.length:Int)==0)=false:=by rw[auj];omega
 obtain⟨b,off,rfl,X,F⟩:=h.at_ p;have d0:=F 0 _ rfl;simp only[atQ,auu]at d0;rw[E]at d0;have Y:(0:Int)<(t.length:Int):=by omega
 clear E F n;go_enter func183,ntmps183;go_wp2
 go_loopw [3] (fun i wr=>∃k q:Nat,k<=t.length/\i=.int .i64 k/\Hid (wr=w.drewN q)) (fun i _=>t.length-(intOf i).toNat)
 case atStart=>exact⟨0,0,by omega,rfl,rfl⟩
 case round=>
  obtain⟨k,q,Z,rfl,C⟩:=hrel;by_cases j:k<t.length
  ·have G:ai ik 2 wr B (some ⟨b,off,none⟩) t:=(by rw[C.out];exact h);have L:=z.out.hi k j;have M:=z.out.r0 k j;have N:=z.out.r1 k j;rw[ke j]at L M N;obtain⟨b1,Du,r,O,l⟩:=G.at_ j;injection r with r
   injection r with r P
   subst r P;have I:=l 0 _ rfl;have Q:=l 1 _ rfl;simp only[atQ]at I;have fL:(k:Int)<(t.length:Int):=(by omega);have g1:decide (1000000000000<t[k].cg)=false:=(by simp;omega);have g2:decide (t[k].cB<0)=false:=(by simp;omega);have g3:decide (1000000<t[k].cB)=false:=(by simp;omega);clear l;rcases k with _|m
   ·have fK:(0:Int)<(t.length:Int):=(by omega);simp only[auu,atQ]at I Q;go_wp2;go_quiet(fail);go_wp2;go_roundw
    case rel=>exact⟨1,q+nq,by omega,by go_num,by show wr.drewN nq=w.drewN (q+nq);rw[C.out,World.drewN_drewN]⟩
    case measure=>simp[intOf];omega
   ·have J:m<t.length:=(by omega);have R:=z.out.jr m j;rw[ke J,ke j]at R;obtain⟨b2,Ep,u,S,y⟩:=G.at_ J;injection u with u
    injection u with u T
    subst u T;have U:=y 0 _ rfl;simp only[atQ]at U;clear y;have g0:decide (t[m+1].cg<=t[m].cg)=false:=(by simp;omega);have qh:(m:Int)<(t.length:Int):=(by omega);have Nf:(m:Int)+1<(t.length:Int):=(by omega);have hp:decide ((0:Int)<(m:Int)+1)=true:=(by rw[auc];omega);go_wp2;go_quiet(fail);go_wp2;go_roundw
    case rel=>exact⟨m+2,q+nq,by omega,by go_num,by show wr.drewN nq=w.drewN (q+nq);rw[C.out,World.drewN_drewN]⟩
    case measure=>simp[intOf];omega
  ·go_wp2;go_ret;exact⟨rfl,q,C.out⟩
theorem an0(A:Option Addr)(j:Nat)(t:List dv)(inc:Int)(w:World)(B:Nat)(h:ai ik 2 w B A t)(l:ji t)(n:0<=inc)(p:inc<=1000000000000):
  Calls prog 270 #[.slice A t.length j,.int .i64 inc] w fun e w'=>e=.returned (.int .i64 0)/\∃q,w'=w.drewN q:=by
 go_enter func270,ntmps270;go_wp2_with fail;refine(abw A j t w B h l).mono ?_;rintro e r ⟨rfl,q,rfl⟩;go_wp2;go_ret;exact⟨rfl,q,rfl⟩
theorem abx(t:List dv)(inc:Int):(LQ t inc).length=t.length:=by simp[LQ]
theorem aby(t:List dv)(inc:Int){k:Nat}(h:k<t.length):(LQ t inc).getD k 0=jK t inc k:=by simp[LQ,List.getElem?_range h]
theorem agL{t:List dv}{inc:Int}{k:Nat}(h:k+1<t.length):jK t inc k=max (min inc t[k+1].cg-t[k].cg) 0:=by rw[jK,Qa,atP h,ke h,ke (show k<t.length by omega)]
theorem agM{t:List dv}{inc:Int}{k:Nat}(e:k<t.length)(h:¬k+1<t.length):jK t inc k=max (inc-t[k].cg) 0:=by rw[jK,Qa,atO h,ke e]
def BM(t:List dv)(inc:Int)(k i:Nat):Value:=.int .i64 (if i<k then jK t inc i else 0)
theorem abz{w:World}{g m k:Nat}{t:List dv}{inc v:Int}(h:w.rowIs g 3 m (BM t inc k))(l:v=jK t inc k):(w.setCell ⟨g,k,none⟩ (.int .i64 v)).rowIs g 3 m (BM t inc (k+1)):=by
 subst l;refine(h.set k _).congr fun i _=>?_;by_cases e:i=k
 ·subst e;rw[atP rfl];simp[BM]
 ·rw[atO e];unfold BM;by_cases j:i<k
  ·rw[atP j,atP (by omega)]
  ·rw[atO j,atO (by omega)]
theorem agN{w:World}{g:Nat}{t:List dv}{inc:Int}(h:w.rowIs g 3 t.length (BM t inc t.length)):RowI w g (LQ t inc):=by unfold RowI;rw[abx];refine h.congr fun i hi=>?_;rw[aby t inc hi,BM,atP hi]
theorem an1(A:Option Addr)(B:Nat)(t:List dv)(inc:Int)(w:World)(h:ai ik 2 w w.heap.size A t)(F:ji t)(h0:0<=inc)(h1:inc<=1000000000000):
  Calls prog 263 #[.slice A t.length B,.int .i64 inc] w fun e w'=>∃g,e=.returned (.tuple #[.slice (some ⟨g,0,none⟩) t.length t.length,.int .i64 0])/\w.heap.size<=g/\RowI w' g (LQ t inc)/\Below w.heap.size w w':=by
 have hl:=F.len;have C:=atM F;have Cw:=Oy t.length (by omega);have u:=an0 A B t inc w _ h F h0 h1;have R:=atM u;clear u F;go_enter func263,ntmps263;go_wp2_with fail;refine atV R.out ?_;rintro e l ⟨rfl,q,S⟩;have K:Below w.heap.size w l:=by rw[S];exact below_drewN (atS _ _) q
 have y:ai ik 2 l l.heap.size A t:=h.aa K;obtain⟨b,off,rfl,hb,L⟩:=y.at_ C.out.ne;clear S R h L;go_upto_region 5 with fail
 have G:=RowI.made l t.length;have I:=bC l (.cells (madeCells #[.int .i64 0] t.length) 3);have T:=y.aa I;have U:=aA K I;have j:(l.alloc (.cells (madeCells #[.int .i64 0] t.length) 3)).rowIs l.heap.size 3 t.length (BM t inc 0):=by have M:=G;unfold RowI at M;rw[List.length_replicate]at M;refine M.congr fun i hi=>?_;simp[BM,avh];split<;>rfl
 generalize l.alloc (.cells (madeCells #[.int .i64 0] t.length) 3)=W at G I T U j|-;have kM:=G.lt;have px:=K.size;clear G I y;go_wp2
 go_loopw [8] (fun i wr=>∃k:Nat,k<=t.length/\i=.int .i64 k/\wr.rowIs l.heap.size 3 t.length (BM t inc k)/\W.grownBy wr (some l.heap.size)) (fun i _=>t.length-(intOf i).toNat)
 case atStart=>exact⟨0,by omega,rfl,j,dX _ _⟩
 case round=>
  clear j;obtain⟨k,hk,rfl,j,J⟩:=hrel;have V:=T.pQ J (fun a N=>by injection N with N;subst N;simp only;omega);have eJ:Below w.heap.size w wr:=kH U J (fun g e=>by injection e;omega);by_cases n:k<t.length
  ·have h4:=C.out.JM n;have h5:=C.out.hi k n;rw[ke n]at h4 h5;obtain⟨b1,Du,p,ab,r⟩:=V.at_ n;injection p with p
   injection p with p O
   subst p O;have c0:=r 0 _ rfl;simp only[atQ]at c0;have fL:(k:Int)<(t.length:Int):=(by omega);have f0:=j.frozen k;have z0:=j.cell (i:=k) n;have ad:b≠l.heap.size:=(by omega);have X:=atM j;have Y:=atM J;generalize BM t inc k k=zz at z0;clear r j J;by_cases z:k+1<t.length
   ·have D:=atM (agL (inc:=inc) z);have h6:=C.out.JM z;have h7:=C.out.hi (k+1) z;rw[ke z]at h6 h7;obtain⟨b1,Du,p,ae,r⟩:=V.at_ z;injection p with p
    injection p with p O
    subst p O;have c2:=r 0 _ rfl;simp only[atQ]at c2;have TU:(k:Int)+1<(t.length:Int):=(by omega);clear r;go_wp2
    all_goals
     go_roundw
     case rel=>
      have E:∀(v:Int),v=jK t inc k->∃k':Nat,k'<=t.length/\Value.int .i64 ((k:Int)+1)=.int .i64 k'/\(wr.setCell ⟨l.heap.size,k,none⟩ (.int .i64 v)).rowIs l.heap.size 3 t.length (BM t inc k')/\W.grownBy (wr.setCell ⟨l.heap.size,k,none⟩ (.int .i64 v)) (some l.heap.size):=fun v P=>⟨k+1,by omega,by go_num,abz X.out P,bg Y.out (.inl rfl) _⟩
      first|exact E _ (by rw[D.out];omega)|((repeat apply Exists.intro);exact⟨E _ (by rw[D.out];omega),rfl⟩)
     case measure=>simp[intOf];omega
   ·have D:=atM (agM (inc:=inc) n z);have TU:¬(k:Int)+1<(t.length:Int):=(by omega);go_wp2
    all_goals
     go_roundw
     case rel=>
      have E:∀(v:Int),v=jK t inc k->∃k':Nat,k'<=t.length/\Value.int .i64 ((k:Int)+1)=.int .i64 k'/\(wr.setCell ⟨l.heap.size,k,none⟩ (.int .i64 v)).rowIs l.heap.size 3 t.length (BM t inc k')/\W.grownBy (wr.setCell ⟨l.heap.size,k,none⟩ (.int .i64 v)) (some l.heap.size):=fun v P=>⟨k+1,by omega,by go_num,abz X.out P,bg Y.out (.inl rfl) _⟩
      first|exact E _ (by rw[D.out];omega)|((repeat apply Exists.intro);exact⟨E _ (by rw[D.out];omega),rfl⟩)
     case measure=>simp[intOf];omega
  ·obtain rfl:k=t.length:=by omega
   have Z:=agN j;have Q:=atM Z;clear j Z;go_wp2;go_ret2;exact⟨l.heap.size,rfl,px,Q.out,eJ⟩
theorem agO(t:List dv)(inc:Int)(k:Nat):qw t inc (k+1)=qw t inc k+jK t inc k*(t.getD k jc).cB:=rfl
theorem an2(A:Option Addr)(p:Nat)(t:List dv)(inc:Int)(w:World)(h:ai ik 2 w w.heap.size A t)(z:ji t)(B:0<=inc)(L:inc<=1000000000000):
  Calls prog 244 #[.slice A t.length p,.int .i64 inc] w fun e w'=>e=.returned (.tuple #[.int .i64 (DX t inc),.int .i64 0])/\Below w.heap.size w w':=by
 have r:=atM z;have Z:=z.len;have l:=an1 A p t inc w h z B L;have G:=atM l;clear l z;go_enter func244,ntmps244;go_wp2_with fail;refine atV G.out ?_;rintro e I ⟨g,rfl,hg,M,u⟩;have D:=h.aa u;clear G h;go_wp2
 go_loopw [8,9] (fun n i wr=>∃k q:Nat,k<=t.length/\i=.int .i64 k/\n=.int .i64 (qw t inc k)/\Hid (wr=I.drewN q)) (fun _ i _=>t.length-(intOf i).toNat)
 case atStart=>exact⟨0,0,by omega,rfl,rfl,rfl⟩
 case round=>
  obtain⟨k,q,N,rfl,rfl,C⟩:=hrel;have O:ai ik 2 wr wr.heap.size A t:=by rw[C.out];exact D.R2 q
  have P:RowI wr g (LQ t inc):=by rw[C.out];exact M.drewN q
  have Q:Below w.heap.size w wr:=by rw[C.out];exact below_drewN u q
  obtain⟨x0,R⟩:=NS (inc:=inc) r.out B N;have x2:qw t inc k<=1000000000000000000:=by omega
  by_cases j:k<t.length
  ·obtain⟨b1,Du,rfl,S,y⟩:=O.at_ j;have c1:=y 1 _ rfl;have T:=P.cell (i:=k) (by rw[abx];exact j);rw[aby t inc j]at T;have E:=atM (agO t inc k);rw[ke j]at E;obtain⟨U,J⟩:=NS (inc:=inc) r.out B (show k+1<=t.length by omega);rw[E.out]at U J;have V:=TS (t:=t) (inc:=inc) k;have s1:=agD r.out B j;have K:=r.out.r0 k j;have X:=r.out.r1 k j;rw[ke j]at K X;have m0:0<=jK t inc k*t[k].cB:=aur V K;have m1:jK t inc k*t[k].cB<=1000000000000000000:=(by omega);have m2:qw t inc k+jK t inc k*t[k].cB<=1000000000000000000:=(by omega);clear y R J;generalize jK t inc k=sp at*;generalize F:qw t inc k=ex at*;clear F;go_wp2;go_quiet(fail);go_wp2;go_roundw
   case rel=>exact⟨k+1,q+nq,by omega,by go_num,by rw[E.out],by show wr.drewN nq=I.drewN (q+nq);rw[C.out,World.drewN_drewN]⟩
   case measure=>simp[intOf];omega
  ·obtain rfl:k=t.length:=by omega
   have Y:Hid (DX t inc=qw t inc t.length):=rfl;go_wp2;go_ret2;exact⟨by rw[Y.out];rfl,Q⟩
theorem an3(n j l:Int)(w:World)(u:0<=n)(I:n<=1000000000000000000)(u0:1<=j)(u1:j<=1000000)(J:0<=l)(K:l<=6):
  Calls prog 245 #[.int .i64 n,.int .i64 j,.int .i64 l] w fun e w'=>e=.returned (.int .i64 (gY n (1000000*j) l*j))/\∃q,w'=w.drewN q:=by
 have L:n.tdiv (1000000*j)=n/(1000000*j):=avb u;have M:n.tmod (1000000*j)=n%(1000000*j):=avs u;have D:gY n (1000000*j) l=if n%(1000000*j)=0 then n/(1000000*j)else if DC (n/(1000000*j)) (kG (n%(1000000*j)) (1000000*j-n%(1000000*j))) (decide (0<n)) l then n/(1000000*j)+1 else n/(1000000*j):=rfl
 have Z:=auY n (show 1000000*j≠0 by omega);have r1:=au2 n (show 0<1000000*j by omega);have y:0<=n/(1000000*j):=au5 u (by omega);have N:=Int.ediv_mul_le n (show(1000000*j)≠0 by omega);have O:n/(1000000*j)*(1000000*j)=1000000*(n/(1000000*j)*j):=by rw[<-avj,auZ _ 1000000,avj]
 have P:0<=n/(1000000*j)*j:=aur y (by omega);have Q:n/(1000000*j)*j<=1000000000000:=by omega
 have R:(n/(1000000*j)+1)*j=n/(1000000*j)*j+j:=by rw[auN,Int.one_mul]
 have S:0<=(n/(1000000*j)+1)*j:=by omega
 have T:(n/(1000000*j)+1)*j<=1000001000000:=by omega
 have q1:n/(1000000*j)<=1000000000000:=by have:n/(1000000*j)*1<=n/(1000000*j)*j:=auF u0 y;omega
 have E:n%(1000000*j)≠0->0<n:=fun U=>by
  rcases Int.lt_or_eq_of_le u with h|h
  ·exact h
  ·subst h;simp at U
 have V:(n/(1000000*j)).tmod 2=n/(1000000*j)%2:=avs y;have p:=atM V;have F:=atM E;have G:=atM D;have z:1000000*j<=1000000000000:=by omega
 have X:((1000000*j:Int)==0)=false:=by rw[auj];omega
 clear D N O R E;have Y:l=0\/l=1\/l=2\/l=3\/l=4\/l=5\/l=6:=by omega
 clear J K;rcases Y with rfl|rfl|rfl|rfl|rfl|rfl|rfl
 all_goals
  go_enter func245,ntmps245;go_wp2;go_quiet(fail);go_wp2
  all_goals
   go_ret;refine⟨?_,nq,rfl⟩;rw[G.out];have LR:=F.out;have B:=p.out;generalize n%(1000000*j)=r at*;generalize n/(1000000*j)=q at*;simp only[DC,kG,beq_iff_eq,auj,ne_eq,B]at*;clear G p F L M P Q S T I X z
   repeat' split
   all_goals first|rfl|(exfalso;omega)|(exfalso;rename_i C;simp at C;omega)|(exfalso;rename_i C;simp at C)
theorem an4(A:Option Addr)(j:Nat)(t:List dv)(inc unit mode:Int)(w:World)(h:ai ik 2 w w.heap.size A t)(n:ji t)(p:0<=inc)(B:inc<=1000000000000)(u0:1<=unit)(u1:unit<=1000000)(r:0<=mode)(u:mode<=6):
  Calls prog 222 #[.slice A t.length j,.int .i64 inc,.int .i64 unit,.int .i64 mode] w fun e w'=>e=.returned (.tuple #[.int .i64 (EJ t inc unit mode),.int .i64 0])/\Below w.heap.size w w':=by
 obtain⟨y,z⟩:=NS (inc:=inc) n p (atN _);have C:qw t inc t.length=DX t inc:=rfl;rw[C]at y z;have D:DX t inc<=1000000000000000000:=by omega
 have E:=Vo r u;go_enter func222,ntmps222;go_wp2_with fail;refine(an2 A j t inc w h n p B).mono ?_;rintro e F ⟨rfl,l⟩;clear z;go_wp2_with fail;refine(CB _ _).mono ?_;rintro e w' ⟨rfl,rfl⟩;rw[E];go_wp2_with fail;refine(an3 _ _ _ _ y D u0 u1 r u).mono ?_;rintro e G ⟨rfl,q,rfl⟩;go_wp2;go_ret2;exact⟨rfl,below_drewN l q⟩
theorem an5{t:List dv}{num den:Int}{k:Nat}(h:FR t num den k=true):nL t num den (k+1)=nL t num den k:=by rw[nL,atP h]
theorem agP{t:List dv}{num den:Int}{k:Nat}(h:FR t num den k=false):nL t num den (k+1)=nL t num den k++[⟨jz t num den k,(t.getD k jc).cB⟩]:=by rw[nL,atO (by simp[h])]
theorem an6(A:Option Addr)(F:Nat)(t:List dv)(num den:Int)(w:World)(h:ai ik 2 w w.heap.size A t)(J:ji t)(u:0<=num)(hd:1<=den)(M:num<=den)(bP:den<=53):
  Calls prog 223 #[.slice A t.length F,.int .i64 num,.int .i64 den] w fun e w'=>∃v,e=.returned (.tuple #[v,.int .i64 0])/\Own ik 2 127 w' w.heap.size v (qx t num den)/\Below w.heap.size w w':=by
 have y:=atM J;have hl:=J.len;have r:=abw A F t w _ h J;have T:=atM r;have eZ:(den==0)=false:=by rw[auj];omega
 clear r J;go_enter func223,ntmps223;go_wp2_with fail;refine atV T.out ?_;rintro e D ⟨rfl,q,U⟩;have N:Below w.heap.size w D:=by rw[U];exact below_drewN (atS _ _) q
 have O:ai ik 2 D D.heap.size A t:=h.aa N;have px:=N.size;clear U T h;go_wp2
 go_loopw [8,9] (fun v i wr=>∃k:Nat,k<=t.length/\i=.int .i64 k/\Own ik 2 127 wr D.heap.size v (nL t num den k)/\Below D.heap.size D wr) (fun _ i _=>t.length-(intOf i).toNat)
 case atStart=>exact⟨0,by omega,rfl,Own.cC _ _,atS _ _⟩
 case round=>
  obtain⟨k,hk,rfl,l,E⟩:=hrel;have V:=O.aa E;have X:=E.size;by_cases j:k<t.length
  ·obtain⟨b,off,rfl,hb,P⟩:=V.at_ j;have c0:=P 0 _ rfl;have c1:=P 1 _ rfl;simp only[atQ]at c0;have Y:=y.out.JM j;have Z:=y.out.hi k j;have Q:jz t num den k=t[k].cg*num/den:=(by rw[jz,ke j]);rw[ke j]at Y Z;have p0:0<=t[k].cg*num:=aur Y u;have p1:t[k].cg*num<=1000000000000*53:=auS Z (by omega) u (by omega);have e1:(t[k].cg*num).tdiv den=t[k].cg*num/den:=avb p0;obtain⟨s0,s1⟩:=Xq (t:=t) y.out u hd M j;rw[Q]at s0 s1;rw[ke j]at s1;have fL:(k:Int)<(t.length:Int):=(by omega);have z:=atM Q;have lV:=fun q hq=>(l.bR (g:=q) hq).1;have ab:(nL t num den k).length<=24:=(by have:=(agE y.out u hd M k hk).len;omega);clear P Q;by_cases p:k+1<t.length
   ·obtain⟨b1,Du,G,ad,I⟩:=V.at_ p;injection G with G
    injection G with G dE
    subst G dE;have c2:=I 0 _ rfl;simp only[atQ]at c2;have h6:=y.out.JM p;have h7:=y.out.hi (k+1) p;have B:jz t num den (k+1)=t[k+1].cg*num/den:=(by rw[jz,ke p]);obtain⟨s2,s3⟩:=Xq (t:=t) y.out u hd M p;rw[B]at s2 s3;rw[ke p]at h6 h7 s3;have p2:0<=t[k+1].cg*num:=aur h6 u;have p3:t[k+1].cg*num<=1000000000000*53:=auS h7 (by omega) u (by omega);have e2:(t[k+1].cg*num).tdiv den=t[k+1].cg*num/den:=avb p2;have TU:(k:Int)+1<(t.length:Int):=(by omega);have K:=atM B;clear I B;by_cases n:t[k+1].cg*num/den=t[k].cg*num/den
    ·have Xt:(t[k+1].cg*num/den==t[k].cg*num/den)=true:=(by simp[n]);have C:=atM (an5 (t:=t) (num:=num) (den:=den) (k:=k) (by simp[FR,p,z.out,K.out,n]));rw[n]at e2;clear n Xt K z;generalize t[k].cg*num/den=L at*;go_wp2;go_roundw
     case rel=>exact⟨k+1,by omega,by go_num,by rw[C.out];exact l,E⟩
     case measure=>simp[intOf];omega
    ·have Xt:(t[k+1].cg*num/den==t[k].cg*num/den)=false:=(by rw[auj];exact n);have C:=atM (agP (t:=t) (num:=num) (den:=den) (k:=k) (by simp[FR,p,z.out,K.out,n]));rw[z.out,ke j]at C;clear n K z;generalize t[k].cg*num/den=L at*;generalize t[k+1].cg*num/den=af at*;go_wp2_with(at_builtin;(refine lD _ _ 38 ⟨L,t[k].cB⟩ _ 16 _ PR underlying38 l Di (by omega) rfl (PS _) (by omega) (by omega) X (by rfl) (by rfl) (by rfl) (by rfl) (by simp) (by rfl) ?_);intro v2 w6 R S);go_roundw
     case rel=>exact⟨k+1,by omega,by go_num,by rw[C.out];exact R,kH E S lV⟩
     case measure=>simp[intOf];omega
   ·have TU:¬(k:Int)+1<(t.length:Int):=(by omega);have C:=atM (agP (t:=t) (num:=num) (den:=den) (k:=k) (by simp[FR,p]));rw[z.out,ke j]at C;clear z;generalize t[k].cg*num/den=L at*;go_wp2_with(at_builtin;(refine lD _ _ 38 ⟨L,t[k].cB⟩ _ 16 _ PR underlying38 l Di (by omega) rfl (PS _) (by omega) (by omega) X (by rfl) (by rfl) (by rfl) (by rfl) (by simp) (by rfl) ?_);intro v2 w6 R S);go_roundw
    case rel=>exact⟨k+1,by omega,by go_num,by rw[C.out];exact R,kH E S lV⟩
    case measure=>simp[intOf];omega
  ·obtain rfl:k=t.length:=by omega
   have BG:Hid (qx t num den=nL t num den t.length):=rfl;go_wp2;go_ret2;exact⟨_,rfl,by rw[BG.out];exact l.weaken (by omega),aA N E⟩
theorem IL{t:List nd}{k:Nat}(h:k<t.length):t.getD k mE=t[k]:=by rw[atZ,atW h];rfl
structure iU where
 t:Ek
 Ab:Option Addr
 cb:Nat
 Ar:Option Addr
 cr:Nat
def iU.val(m:iU):Value:=.agg #[.int .i64 m.t.method,.slice m.Ab m.t.aR.length m.cb,.int .i64 m.t.bJ,.int .i64 m.t.bK,.int .i64 m.t.unit,.int .i64 m.t.mode,.slice m.Ar m.t.rows.length m.cr]
structure iU.In(m:iU)(w:World):Prop where
 aR:ai ik 2 w w.heap.size m.Ab m.t.aR
 rows:ai oO 2 w w.heap.size m.Ar m.t.rows
theorem iU.In.aa{m:iU}{w w':World}(h:m.In w)(e:Below w.heap.size w w'):m.In w':=⟨h.aR.aa e,h.rows.aa e⟩
theorem JO(n m:Int)(w:World):Calls prog 143 #[.int .i64 n,.int .i64 m] w fun e w'=>e=.returned (.bool (bM n m))/\w=w':=by
 by_cases l:0<=n<;>by_cases p:n<=m
 all_goals
  have j:bM n m=(decide (0<=n)&&decide (n<=m)):=by simp[bM]
  have r:=atM j;clear j;go_enter func143,ntmps143;go_wp2;go_ret;exact⟨by rw[r.out];simp[l,p],rfl⟩
theorem agQ(A:Option Addr)(F:Nat)(t:List nd)(w:World)(B:Nat)(h:ai oO 2 w B A t)(p:NG t):
  Calls prog 184 #[.slice A t.length F] w fun e w'=>e=.returned (.bool true)/\∃q,w'=w.drewN q:=by
 have D:=atM p;have r:=p.ne;have X:=p.len;have G:=p.zero;rw[IL r]at G;have O:((t.length:Int)==0)=false:=by rw[auj];omega
 obtain⟨b,off,rfl,Y,I⟩:=h.at_ r;have d0:=I 0 _ rfl;simp only[atQ,auu]at d0;rw[G]at d0;have Z:(0:Int)<(t.length:Int):=by omega
 clear G I p;go_enter func184,ntmps184;go_wp2
 go_loopw [3] (fun i wr=>∃k q:Nat,k<=t.length/\i=.int .i64 k/\Hid (wr=w.drewN q)) (fun i _=>t.length-(intOf i).toNat)
 case atStart=>exact⟨0,0,by omega,rfl,rfl⟩
 case round=>
  obtain⟨k,q,hk,rfl,E⟩:=hrel;by_cases j:k<t.length
  ·have J:ai oO 2 wr B (some ⟨b,off,none⟩) t:=(by rw[E.out];exact h);have u:=D.out.hi k j;have n:=D.out.t0 k j;have K:=D.out.t1 k j;rw[IL j]at u n K;obtain⟨b1,Du,y,P,l⟩:=J.at_ j;injection y with y
   injection y with y Q
   subst y Q;have L:=l 0 _ rfl;have R:=l 1 _ rfl;simp only[atQ]at L;have fL:(k:Int)<(t.length:Int):=(by omega);have g1:decide (1000000000<t[k].cg)=false:=(by simp;omega);have M:bM t[k].aw 1000000000=true:=iK.2 ⟨n,K⟩;clear l;rcases k with _|m
   ·have fK:(0:Int)<(t.length:Int):=(by omega);simp only[auu,atQ]at L R;go_wp2;go_quiet((go_at_call 143;exact Calls.quiet_of_same ((JO _ _ _).mono fun e w' ⟨u,n⟩=>⟨u,n.symm⟩)));rw[M];go_wp2;go_roundw
    case rel=>exact⟨1,q+nq,by omega,by go_num,by show wr.drewN nq=w.drewN (q+nq);rw[E.out,World.drewN_drewN]⟩
    case measure=>simp[intOf];omega
   ·have N:m<t.length:=(by omega);have S:=D.out.jr m j;rw[IL N,IL j]at S;obtain⟨b2,Ep,z,T,C⟩:=J.at_ N;injection z with z
    injection z with z U
    subst z U;have V:=C 0 _ rfl;simp only[atQ]at V;clear C;have g0:decide (t[m+1].cg<=t[m].cg)=false:=(by simp;omega);have qh:(m:Int)<(t.length:Int):=(by omega);have Nf:(m:Int)+1<(t.length:Int):=(by omega);have hp:decide ((0:Int)<(m:Int)+1)=true:=(by rw[auc];omega);go_wp2;go_quiet((go_at_call 143;exact Calls.quiet_of_same ((JO _ _ _).mono fun e w' ⟨u,n⟩=>⟨u,n.symm⟩)));rw[M];go_wp2;go_roundw
    case rel=>exact⟨m+2,q+nq,by omega,by go_num,by show wr.drewN nq=w.drewN (q+nq);rw[E.out,World.drewN_drewN]⟩
    case measure=>simp[intOf];omega
  ·go_wp2;go_ret;exact⟨rfl,q,E.out⟩
theorem Wy(m:iU)(w:World)(h:m.In w)(hT:pP m.t):Calls prog 142 #[m.val] w fun e w'=>e=.returned (.bool true)/\Below w.heap.size w w':=by
 obtain⟨⟨method,u,y,z,n,p,l⟩,B,C,D,E⟩:=m;obtain⟨O,P⟩:=h;obtain⟨m0,m1,r,Q,R,S,T,u0,u1,U,V,J,j⟩:=hT;simp only at O P m0 m1 r Q R S T u0 u1 U V J j;unfold iU.val;simp only;have hm:=Vo U V;have EO:bM y 1000000000=true:=iK.2 ⟨Q,R⟩;have Gj:bM z 1000000000=true:=iK.2 ⟨S,T⟩;have JL:=atM r;have Nv:=atM J;have fl:=atM j;clear r J j;go_enter func142,ntmps142;have F:=ah.new w 41 #[.int .i64 method,.slice B u.length C,.int .i64 y,.int .i64 z,.int .i64 n,.int .i64 p,.slice D l.length E];have G:=bC w (.cells #[.int .i64 method,.slice B u.length C,.int .i64 y,.int .i64 z,.int .i64 n,.int .i64 p,.slice D l.length E] 41);go_upto_region 1 with fail
 generalize w.alloc (Obj.cells _ _)=W at F G|-;obtain⟨X,Y,Z,z3,z4,z5,K⟩:=F.cz7;go_wp2_with fail;refine(abw B C u W _ (O.aa G) JL.out).mono ?_;rintro e w1 ⟨rfl,q1,L⟩;have ak:ah w1 w.heap.size 41 #[.int .i64 method,.slice B u.length C,.int .i64 y,.int .i64 z,.int .i64 n,.int .i64 p,.slice D l.length E]:=by rw[L];exact F.drewN q1
 have M:Below w.heap.size w w1:=by rw[L];exact below_drewN G q1
 clear L F G X Y Z z3 z4 z5 K;obtain⟨X,Y,Z,z3,z4,z5,K⟩:=ak.cz7;go_wp2_with fail;refine(JO _ _ _).mono ?_;rintro e w' ⟨rfl,rfl⟩;rw[EO];go_wp2_with fail;refine(JO _ _ _).mono ?_;rintro e w' ⟨rfl,rfl⟩;rw[Gj];go_wp2_with fail;refine(CB _ _).mono ?_;rintro e w' ⟨rfl,rfl⟩;rw[hm];by_cases I:method=1
 ·have N:(method==1)=true:=by simp[I]
  go_wp2_with fail;refine(agQ D E l _ _ (P.aa M) (Nv.out I)).mono ?_;rintro e w2 ⟨rfl,q2,rfl⟩;go_wp2;go_ret;exact⟨rfl,below_drewN M q2⟩
 ·have N:(method==1)=false:=by rw[auj];exact I
  have Fz:=fl.out I;subst Fz;simp only[aug]at K;go_wp2;go_ret;exact⟨rfl,M⟩
