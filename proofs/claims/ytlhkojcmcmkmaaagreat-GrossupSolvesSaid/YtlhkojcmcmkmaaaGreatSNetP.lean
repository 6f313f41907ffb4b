/- Conditions: as stated. -/
import Derived.Test.YtlhkojcmcmkmaaaGreatSNetT
set_option maxRecDepth 100000
set_option maxHeartbeats 4000000
namespace Go.Proofs.YtlhkojcmcmkmaaaGreat
open Go.Proofs.Tryz
open Go.RowKit
theorem DL{e:Type}{p:e->Bool}{x:e}{l:List e}(h:x∈l.filter p):x∈l:=(asY.1 h).1
theorem VK(num den e:Int):num/den<=eZ num den e:=by
 unfold eZ;split
 ·omega
 ·split<;>omega
theorem VL(num den e:Int):eZ num den e<=num/den+1:=by
 unfold eZ;split
 ·omega
 ·split<;>omega
theorem amR{a b d m:Int}(hd:0<d)(l:0<=a)(e:a<=b):eZ a d m<=eZ b d m:=by
 have n:a/d<=b/d:=Int.ediv_le_ediv hd e;rcases Int.lt_or_eq_of_le n with h2|h2
 ·have:=VL a d m;have:=VK b d m;omega
 ·have p:=as8 a d;have C:=as8 b d;rw[h2]at p;have D:a%d<=b%d:=by omega
  have E:=asP a (show d≠0 by omega);by_cases j:a%d=0
  ·have:eZ a d m=a/d:=(by rw[eZ,arK j]);have:=VK b d m;omega
  ·have r:¬b%d=0:=(by omega);have u:0<a:=by
    rcases Int.lt_or_eq_of_le l with h|h
    ·exact h
    ·subst h;simp at j
   have y:0<b:=(by omega);rw[eZ,eZ,arJ j,arJ r,h2,asN u,asN y];have z:Dr (b/d) (nB (a%d) (d-a%d)) true m=true->Dr (b/d) (nB (b%d) (d-b%d)) true m=true:=by
    simp only[Dr,nB]
    repeat' split
    all_goals first|exact id|(intro h;simp at h|-;done)|(exfalso;omega)|(intro _;rfl)|(intro h;simp at h)|skip
    all_goals(try(intro h;simp_all;done))
    all_goals(try(intro h;simp at h|-;omega))
   split
   ·rename_i B;rw[arK (z B)];exact asI _
   ·split<;>omega
theorem afx{a d m:Int}(hd:0<d)(e:0<=a):0<=eZ a d m:=by have:=VK a d m;have:=asG e (show 0<=d by omega);omega
theorem Uy{m:Int}(e:0<=m)(j:m<=6):ED m=true:=by simp[ED,e,j]
theorem Jj{a num unit mode:Int}(l:0<=a)(E:a<=500000000000)(n:0<=num)(p:num<=1000000)(F:1<=unit)(G:unit<=100)(u:0<=mode)(y:mode<=6):
  mG a num 1000000 unit mode=0/\gM a num 1000000 unit mode=mF a num 1000000 unit mode/\0<=mF a num 1000000 unit mode/\mF a num 1000000 unit mode<=a+unit:=by
 have z:Jh a num 1000000 unit mode=true:=(Nj ..).2 ⟨⟨by omega,by omega,n,p,by omega,by omega,by omega,by omega⟩,Uy u y⟩;have B:0<=a*num:=asg l n;have I:a*num<=a*1000000:=asq p l;have e:0<=mF a num 1000000 unit mode:=asg (afx (by omega) B) (by omega);have j:mF a num 1000000 unit mode<=a+unit:=by
  unfold mF;have C:=VL (a*num) (1000000*unit) mode;have D:eZ (a*num) (1000000*unit) mode*unit<=(a*num/(1000000*unit)+1)*unit:=asE C (by omega);rw[asD,Int.one_mul]at D;have J:=Int.ediv_mul_le (a*num) (show(1000000*unit)≠0 by omega);have K:a*num/(1000000*unit)*(1000000*unit)=1000000*(a*num/(1000000*unit)*unit):=by rw[<-asm,asn _ 1000000,asm]
  omega
 have r:mG a num 1000000 unit mode=0:=by rw[mG,arJ (by simp[z]),arJ];simp only[Cj];simp;omega
 exact⟨r,by rw[gM,arK r],e,j⟩
theorem afy{a b num j l:Int}(r:0<=a)(n:a<=b)(p:0<=num)(u:1<=j):mF a num 1000000 j l<=mF b num 1000000 j l:=by have e:a*num<=b*num:=asE n p;have:=amR (d:=1000000*j) (m:=l) (by omega) (asg r p) e;exact asE this (by omega)
theorem aah(s:bR)(l m:List Int):kT s (l++m)=kT s l+kT s m:=by simp[kT,Iw]
theorem Yp{s:bR}{l:List Int}(h:∀x∈l,0<=x):0<=kT s l:=by
 unfold kT
 induction l with
 |nil=>simp[aL]
 |cons a l e=>
  have p:=h a (by simp);have j:=e (fun x n=>h x (by simp[n]));rw[as0];split
  ·simp only[aL];omega
  ·exact j
theorem acb(s:bR)(l:List Int)(k:Nat)(h:k<l.length):kT s (l.take (k+1))=kT s (l.take k)+if s.floor<=l[k]then l[k]else 0:=by
 rw[ar9 h,aah];congr 1;by_cases e:s.floor<=l[k]
 ·simp[kT,e,aL]
 ·simp[kT,e,aL]
theorem Yq{s:bR}{l:List Int}(h:∀x∈l,0<=x):kT s l<=aL l:=by
 unfold kT
 induction l with
 |nil=>simp[aL]
 |cons a l e=>have n:=h a (by simp);have p:=e (fun x j=>h x (by simp[j]));rw[as0];split<;>simp only[aL]<;>omega
theorem IC{s:bR}{l:List Int}(e:mS s)(h:∀x∈l,0<=x)(n:l.length<=54):0<=cQ s l/\cQ s l<=54000000000:=by have p:=Yp (s:=s) h;have r:=e.c0;have j:=e.c1;have u:0<=(l.length:Int)*s.dt:=asg (by omega) (by omega);have y:(l.length:Int)*s.dt<=54*1000000000:=asV (by omega) j (by omega) (by omega);unfold cQ;omega
theorem acG{s:bR}{l:List Int}(p:mS s)(h:∀x∈l,0<=x)(j:l≠[]):cQ s l.dropLast<=cQ s l/\cQ s l<=cQ s l.dropLast+max (l.getLast j) s.dt:=by
 have e:=List.dropLast_concat_getLast j;have y:=p.c0;have z:=h (l.getLast j) (List.getLast_mem j);have r:kT s l=kT s l.dropLast+if s.floor<=l.getLast j then l.getLast j else 0:=by
  conv=>lhs;rw[<-e,aah]
  congr 1;by_cases n:s.floor<=l.getLast j
  ·simp[kT,n,aL]
  ·simp[kT,n,aL]
 have u:(l.length:Int)=l.dropLast.length+1:=by have:0<l.length:=atg.2 j;rw[List.length_dropLast];omega
 unfold cQ;rw[r,u,asD];split<;>omega
theorem ID{s:bR}{b:Int}(e:mS s)(j:0<=b)(l:b<=500000000000):
  mG b s.aA 1000000 s.unit s.mode=0/\mG b s.aT 1000000 s.unit s.mode=0/\(bC s b).base=b/\0<=(bC s b).aA/\(bC s b).aA<=b+100/\0<=(bC s b).aT/\(bC s b).aT<=b+100:=by
 have n:=e.u0;have p:=e.u1;obtain⟨r,y,z,B⟩:=Jj j l e.e0 e.e1 n p e.m0 e.m1;obtain⟨u,C,D,E⟩:=Jj j l e.r0 e.r1 n p e.m0 e.m1;refine⟨r,u,rfl,?_,?_,?_,?_⟩<;>simp only[bC]<;>omega
theorem amS{s:bR}{a b:Int}(e:mS s)(n:0<=a)(l:a<=b)(r:b<=500000000000):(bC s a).aA<=(bC s b).aA/\(bC s a).aT<=(bC s b).aT:=by have j:=e.u0;have p:=e.u1;obtain⟨_,u,_,_⟩:=Jj n (by omega:a<=500000000000) e.e0 e.e1 j p e.m0 e.m1;obtain⟨_,y,_,_⟩:=Jj (by omega:0<=b) r e.e0 e.e1 j p e.m0 e.m1;obtain⟨_,z,_,_⟩:=Jj n (by omega:a<=500000000000) e.r0 e.r1 j p e.m0 e.m1;obtain⟨_,B,_,_⟩:=Jj (by omega:0<=b) r e.r0 e.r1 j p e.m0 e.m1;simp only[bC,u,y,z,B];exact⟨afy n l e.e0 j,afy n l e.r0 j⟩
theorem amT{s:bR}{l:List Int}(e:mS s)(h:∀x∈l,0<=x)(n:l.length<=54)(j:l≠[]):
  0<=(jO s l).base/\0<=(jO s l).aA/\0<=(jO s l).aT/\(jO s l).base<=54000000000/\(jO s l).aA<=54000000100/\(jO s l).aT<=54000000100:=by
 obtain⟨p,B⟩:=IC e h n;have r:∀x∈l.dropLast,0<=x:=fun x u=>h x ((atq l).subset u);obtain⟨d0,d1⟩:=IC e r (by simp;omega);obtain⟨y,_⟩:=acG e h j;obtain⟨_,_,f1,f2,f3,f4,f5⟩:=ID e p (by omega:cQ s l<=500000000000);obtain⟨_,_,z,C,D,E,F⟩:=ID e d0 (by omega:cQ s l.dropLast<=500000000000);obtain⟨G,I⟩:=amS e d0 y (by omega);simp only[jO,IH,f1,z];omega
theorem aae{f g:Nat->Int}(n:Nat)(h:∀i,i<n->f i<=g i):sumTo f n<=sumTo g n:=by
 induction n with
 |zero=>exact asI _
 |succ n e=>have:=e (fun i hi=>h i (by omega));have:=h n (by omega);simp only[sumTo];omega
theorem afz{f:Nat->Int}(n:Nat)(h:∀i,i<n->0<=f i):0<=sumTo f n:=by
 induction n with
 |zero=>exact asI _
 |succ n e=>have:=e (fun i hi=>h i (by omega));have:=h n (by omega);simp only[sumTo];omega
theorem aen(f:Nat->Int)(c:Int)(n:Nat):sumTo (fun i=>f i*c) n=sumTo f n*c:=by
 induction n with
 |zero=>simp[sumTo]
 |succ n e=>simp only[sumTo,e,asD]
theorem ig.mono{t:List cv}(h:ig t):∀(d i:Nat),i+d<t.length->(t.getD i gS).bX+d<=(t.getD (i+d) gS).bX:=by
 intro d
 induction d with
 |zero=>intro i _;simp
 |succ d e=>intro i hi;have j:=e i (by omega);have l:=h.lK (i+d) (by omega);rw[show i+(d+1)=i+d+1 by omega];omega
theorem ig.Jz{t:List cv}(h:ig t){i:Nat}(hi:i<t.length):0<=(t.getD i gS).bX:=by have:=h.mono i 0 (by omega);rw[h.zero]at this;simp only[arT]at this;omega
theorem S9{t:List cv}{inc:Int}(i:Nat):0<=fU t inc i:=by unfold fU;omega
theorem afA{t:List cv}{inc:Int}(h:ig t)(e:0<=inc){i:Nat}(hi:i<t.length):fU t inc i<=inc:=by have:=h.Jz hi;unfold fU Ji;split<;>omega
theorem aaf{t:List cv}{j:Int}(h:ig t)(r:0<=j):∀k,(k<t.length->sumTo (fU t j) k=min j (t.getD k gS).bX)/\(k=t.length->sumTo (fU t j) k=j):=by
 intro k
 induction k with
 |zero=>
  refine⟨fun _=>?_,fun e=>?_⟩
  ·rw[h.zero];simp only[sumTo];omega
  ·have:=h.ne;omega
 |succ k p=>
  have l:=p.1;refine⟨fun n=>?_,fun n=>?_⟩
  ·have:=h.lK k n;simp only[sumTo,l (by omega),fU,Ji,arK n];omega
  ·simp only[sumTo,l (by omega),fU,Ji];rw[arJ (by omega)];omega
theorem amU{t:List cv}{j:Int}(h:ig t)(l:0<=j){k:Nat}(n:k<=t.length):0<=sumTo (fU t j) k/\sumTo (fU t j) k<=j:=by
 refine⟨afz _ (fun i _=>S9 i),?_⟩;obtain⟨p,r⟩:=aaf h l k;rcases Nat.lt_or_eq_of_le n with e|e
 ·rw[p e];omega
 ·rw[r e];exact asI _
def pW(t:List cv)(inc:Int)(k:Nat):Int:=sumTo (fun i=>fU t inc i*(t.getD i gS).bH) k
theorem Nk{t:List cv}{inc:Int}(h:ig t)(e:0<=inc){k:Nat}(j:k<=t.length):0<=pW t inc k/\pW t inc k<=inc*1000000:=by refine⟨afz _ (fun i hi=>asg (S9 i) (h.r0 i (by omega))),?_⟩;have l:pW t inc k<=sumTo (fun i=>fU t inc i*1000000) k:=aae _ (fun i hi=>asq (h.r1 i (by omega)) (S9 i));rw[aen]at l;have:=(amU h e j).2;omega
theorem aaU{t:List cv}{inc unit mode:Int}(h:ig t)(j:0<=inc)(p:1<=unit):0<=CL t inc unit mode/\CL t inc unit mode<=inc+unit:=by
 obtain⟨a,b⟩:=Nk (inc:=inc) h j (arI _);have e:nL t inc=pW t inc t.length:=rfl;unfold CL;rw[e];generalize pW t inc t.length=x at a b;refine⟨asg (afx (by omega) a) (by omega),?_⟩;have l:=VL x (1000000*unit) mode;have n:eZ x (1000000*unit) mode*unit<=(x/(1000000*unit)+1)*unit:=asE l (by omega);rw[asD,Int.one_mul]at n;have r:=Int.ediv_mul_le x (show(1000000*unit)≠0 by omega);have u:x/(1000000*unit)*(1000000*unit)=1000000*(x/(1000000*unit)*unit):=by rw[<-asm,asn _ 1000000,asm]
 omega
section
variable {t:List cv}{num den:Int}
theorem WC(h:ig t)(j:0<=num)(hd:1<=den)(l:num<=den){i:Nat}(hi:i<t.length):0<=jA t num den i/\jA t num den i<=(t.getD i gS).bX:=by have e:=h.Jz hi;unfold jA;refine⟨asG (asg e j) (by omega),?_⟩;refine Int.ediv_le_of_le_mul (by omega) ?_;exact asq l e
theorem amV(h:ig t)(e:0<=num)(hd:1<=den){i:Nat}(hi:i+1<t.length):jA t num den i<=jA t num den (i+1):=by unfold jA;refine Int.ediv_le_ediv (by omega) ?_;have:=h.lK i hi;exact asE (by omega) e
theorem amW(h:ig t):jA t num den 0=0:=by unfold jA;rw[h.zero];simp
structure amX(t:List cv)(num den:Int)(k:Nat)(l:List cv):Prop where
 lK:l.Pairwise (fun a b=>a.bX<b.bX)
 lt:k<t.length->∀x∈l,x.bX<jA t num den k
 ok:∀x∈l,0<=x.bX/\x.bX<=1000000000000/\0<=x.bH/\x.bH<=1000000
 len:l.length<=k
 hd:l=[]/\(k<t.length->jA t num den k=0)\/∃x r,l=x::r/\x.bX=0
theorem afB(h:ig t)(z:0<=num)(hd:1<=den)(B:num<=den):∀k,k<=t.length->amX t num den k (ma t num den k):=by
 intro k
 induction k with
 |zero=>intro _;exact⟨List.Pairwise.nil,fun _ x l=>(by cases l),fun x l=>(by cases l),by simp[ma],.inl ⟨rfl,fun _=>amW h⟩⟩
 |succ k C=>
  intro E;have I:=C (by omega);have D:=WC h z hd B (show k<t.length by omega);have F:=h.hi k (by omega);simp only[ma];split
  ·rename_i n;simp only[FN,ar5,ar7]at n;refine⟨I.lK,fun j x l=>?_,I.ok,by have:=I.len;omega,?_⟩
   ·rw[n.2];exact I.lt (by omega) x l
   ·rcases I.hd with⟨h1,p⟩|h1
    ·exact .inl ⟨h1,fun _=>by rw[n.2];exact p (by omega)⟩
    ·exact .inr h1
  ·rename_i n;have u:k+1<t.length->jA t num den k<jA t num den (k+1):=by
    intro j;have h1:=amV h z hd j;simp only[FN,ar5,ar7]at n;have p:¬jA t num den (k+1)=jA t num den k:=fun e=>n ⟨j,e⟩;omega
   refine⟨?_,fun j x l=>?_,fun x l=>?_,by have:=I.len;simp;omega,?_⟩
   ·rw[List.pairwise_append];refine⟨I.lK,by simp,fun x l y hy=>?_⟩;simp at hy;subst hy;exact I.lt (by omega) x l
   ·rcases asf.1 l with h1|h1
    ·have:=I.lt (by omega) x h1;have:=u j;omega
    ·simp at h1;subst h1;exact u j
   ·rcases asf.1 l with h1|h1
    ·exact I.ok x h1
    ·simp at h1;subst h1;exact⟨D.1,by show jA t num den k<=_;omega,h.r0 k (by omega),h.r1 k (by omega)⟩
   ·rcases I.hd with⟨h1,p⟩|⟨x,r,h1,p⟩
    ·rw[h1];exact .inr ⟨_,[],rfl,p (by omega)⟩
    ·rw[h1];exact .inr ⟨x,_,rfl,p⟩
theorem RF(h:ig t)(j:0<=num)(hd:1<=den)(y:num<=den):ig (ou t num den):=by
 have I:=afB h j hd y t.length (arI _);have z:=h.ne;have C:=h.len;have p:ma t num den t.length≠[]:=by
  obtain⟨n,j⟩:∃n,t.length=n+1:=⟨t.length-1,by omega⟩
  rw[j];simp only[ma];rw[arJ (by simp[FN];omega)];simp
 unfold ou;generalize ma t num den t.length=l at I p;have e:∀i,(hi:i<l.length)->l.getD i gS=l[i]:=fun i hi=>by rw[ar1,arW hi];rfl
 refine⟨atg.2 p,by have:=I.len;omega,?_,fun i hi=>?_,fun i hi=>?_,fun i hi=>?_,fun i hi=>?_⟩
 ·rcases I.hd with⟨u,_⟩|⟨x,r,u,B⟩
  ·exact absurd u p
  ·subst u;exact B
 ·rw[e i (by omega),e (i+1) hi];exact asz.1 I.lK i (i+1) (by omega) hi (by omega)
 ·rw[e i hi];exact(I.ok _ (arO hi)).2.1
 ·rw[e i hi];exact(I.ok _ (arO hi)).2.2.1
 ·rw[e i hi];exact(I.ok _ (arO hi)).2.2.2
end
theorem VR{t:AQ}{l:List cv}{al cr inc:Int}(h:ig l)(e:1<=t.unit)(j:t.unit<=100)(n:0<=al)(p:0<=cr)(hi:0<=inc):0<=mH t l al cr inc/\mH t l al cr inc<=inc+100:=by have:=aaU (mode:=t.mode) (inc:=max (inc-al) 0) h (by omega) e;unfold mH;omega
theorem amY{o:eX}(h:Tc o):0<=WD o/\WD o<=1000000000:=by have:=h.a0;have:=h.t0;have:=h.t1;unfold WD;split<;>omega
theorem amZ{l:List eX}{k:Int×Int}(h:∀o∈l,Tc o):∀x∈Nl l k,0<=x/\x<=1000000000:=by intro x e;obtain⟨o,j,rfl⟩:=ar8.1 e;exact amY (h o (DL j))
theorem am0(l:List eX)(k:Int×Int)(left:Int):(EN l k left).length=(l.filter (Td k)).length:=by
 unfold EN;split
 ·rw[Ox];simp[Nl]
 ·simp[Nl]
theorem am1{l:List eX}{k:Int×Int}{left:Int}(h:∀o∈l,Tc o)(p:0<=left):(∀x∈EN l k left,0<=x)/\aL (EN l k left)<=left/\0<=aL (EN l k left):=by
 have e:=amZ (k:=k) h;unfold EN;split
 ·rename_i r;have j:0<aL (Nl l k):=by omega
  exact⟨afC p (fun x n=>(e x n).1) j,by rw[VP j];exact asI _,by rw[VP j];exact p⟩
 ·rename_i r;exact⟨fun x n=>(e x n).1,by omega,(kR e).1⟩
theorem am2(out:List Elem)(o:eX){p:Int}(h:0<=p):aR (JA out o p)=aR out+p:=by
 unfold JA;split
 ·rw[afD]
 ·omega
theorem afE:∀(os:List eX) (e:List Int) (out:List Elem),os.length=e.length->(∀x∈e,0<=x)->aR (JB out os e)=aR out+aL e
 |[],[],out,_,_=>by simp[JB,aL]
 |[],_::_,_,h,_=>by simp at h
 |_::_,[],_,h,_=>by simp at h
 |o::r,p::e,out,h,j=>by rw[JB,afE r e _ (by simpa using h) (fun x l=>j x (by simp[l])),am2 _ _ (j p (by simp))];simp only[aL];omega
structure JC(l:List eX)(n:Nat)(out:List Elem):Prop where
 pos:∀x∈out,0<=x.amount
 code:∀x∈out,∃o∈l,x.code=o.id
 len:out.length<=n
theorem am3{l:List Elem}{e:Elem}(h:∀x∈l,0<=x.amount)(j:0<=e.amount):∀x∈put l e,0<=x.amount:=by
 induction l with
 |nil=>intro x hx;simp[put]at hx;subst hx;exact j
 |cons a l p=>
  have r:=h a (by simp);have n:∀x∈l,0<=x.amount:=fun x hx=>h x (by simp[hx]);intro x hx;rw[put]at hx;split at hx
  ·rcases asb.1 hx with rfl|hx
   ·exact r
   ·exact p n x hx
  ·split at hx
   ·rcases asb.1 hx with rfl|hx
    ·show 0<=e.amount+a.amount;omega
    ·exact n x hx
   ·rcases asb.1 hx with rfl|hx
    ·exact j
    ·exact h x hx
theorem JC.JA{l:List eX}{n:Nat}{out:List Elem}(h:JC l n out){o:eX}(r:o∈l)(p:Int):JC l (n+1) (JA out o p):=by
 unfold Go.Proofs.YtlhkojcmcmkmaaaGreat.JA;split
 ·refine⟨am3 h.pos (by show 0<=p;omega),fun x u=>?_,by have:=Z7 out ⟨o.id,p⟩;have:=h.len;omega⟩;rcases Z8 _ _ x u with e|⟨y,hy,e⟩
  ·exact⟨o,r,e⟩
  ·obtain⟨z,j,B⟩:=h.code y hy;exact⟨z,j,by rw[<-e,B]⟩
 ·exact⟨h.pos,h.code,by have:=h.len;omega⟩
theorem JC.afF{l:List eX}:∀(os:List eX) (e:List Int) {n:Nat} {out:List Elem},JC l n out->(∀o∈os,o∈l)->JC l (n+os.length) (JB out os e)
 |[],e,n,out,h,_=>by cases e<;>exact h
 |o::r,[],n,out,h,_=>by exact⟨h.pos,h.code,by have:=h.len;show out.length<=_;omega⟩
 |o::r,p::e,n,out,h,j=>by rw[JB];have:=JC.afF r e (h.JA (j o (by simp)) p) (fun o u=>j o (by simp[u]));rw[arZ,show n+(r.length+1)=n+1+r.length by omega];exact this
def iK(w:World)(g:Nat)(i:Nat):List Value->World
 |[]=>w
 |v::r=>iK (w.setCell ⟨g,i,none⟩ v) g (i+1) r
theorem ah.afG{g:Nat}{t:TypeId}:∀(vs:List Value) {w:World} {cs:Array Value} (i:Nat),ah w g t cs->i+vs.length<=cs.size->ah (iK w g i vs) g t (cs.toList.take i++vs++cs.toList.drop (i+vs.length)).toArray
 |[],w,cs,i,h,j=>by simp only[asa,arL,List.append_nil,atn];exact h
 |v::r,w,cs,i,h,j=>by
  have l:i<cs.size:=by simp at j;omega
  have n:=ah.afG r (i+1) (h.eu i v) (by simp at j|-;omega);rw[iK];have e:(cs.setIfInBounds i v).toList.take (i+1)++r++(cs.setIfInBounds i v).toList.drop (i+1+r.length)=cs.toList.take i++(v::r)++cs.toList.drop (i+(v::r).length):=by rw[Array.toList_setIfInBounds];have p:i<(cs.toList.set i v).length:=(by simpa using l);rw[ar9 p,List.getElem_set_self,List.take_set_of_le (arI _),List.drop_set_of_lt (by omega),arZ];simp[Nat.add_assoc,Nat.add_comm 1]
  rw[e]at n;exact n
theorem ah.fill{w:World}{g:Nat}{t:TypeId}{cs:Array Value}(h:ah w g t cs)(vs:List Value)(e:vs.length=cs.size):ah (iK w g 0 vs) g t vs.toArray:=by have:=ah.afG vs 0 h (by omega);rw[List.drop_of_length_le (by simp;omega)]at this;simpa using this
theorem LZ{B:Nat}{a:World}{g:Nat}(e:B<=g):∀(j:List Value) {w:World} (i:Nat),Below B a w->Below B a (iK w g i j)
 |[],_,_,h=>h
 |v::r,_,i,h=>LZ e r (i+1) (h.setCell (p:=⟨g,i,none⟩) e v)
theorem ah.LX{g g':Nat}{t:TypeId}{cs:Array Value}(e:g≠g'):∀(vs:List Value) {w:World} (i:Nat),ah w g t cs->ah (iK w g' i vs) g t cs
 |[],_,_,h=>h
 |v::r,_,i,h=>ah.LX e r (i+1) (h.far (p:=⟨g',i,none⟩) e v)
theorem acO{a:World}{g:Nat}:∀(e:List Value) {w:World} (i:Nat),a.grownBy w (some g)->a.grownBy (iK w g i e) (some g)
 |[],_,_,h=>h
 |v::r,_,i,h=>acO r (i+1) (bm (p:=⟨g,i,none⟩) h (.inl rfl) v)
theorem kh{t:List cv}{k:Nat}(h:k<t.length):t.getD k gS=t[k]:=by rw[ar1,arW h];rfl
theorem aaV(A:Option Addr)(D:Nat)(t:List cv)(w:World)(B:Nat)(h:aj gQ 2 w B A t)(n:ig t):
  Calls prog 183 #[.slice A t.length D] w fun e w'=>e=.returned (.bool true)/\∃q,w'=w.drewN q:=by
 have z:=arH n;have p:=n.ne;have X:=n.len;have E:=n.zero;rw[kh p]at E;have L:((t.length:Int)==0)=false:=by rw[ass];omega
 obtain⟨b,F,rfl,Y,G⟩:=h.at_ p;have d0:=G 0 _ rfl;simp only[arL,asw]at d0;rw[E]at d0;have Z:(0:Int)<(t.length:Int):=by omega
 clear E G n;go_enter func183,ntmps183;go_wp2
 go_loopw [3] (fun i wr=>∃k q:Nat,k<=t.length/\i=.int .i64 k/\Hid (wr=w.drewN q)) (fun i _=>t.length-(intOf i).toNat)
 case atStart=>exact⟨0,0,by omega,rfl,rfl⟩
 case round=>
  obtain⟨k,q,hk,rfl,C⟩:=hrel;by_cases j:k<t.length
  ·have I:aj gQ 2 wr B (some ⟨b,F,none⟩) t:=(by rw[C.out];exact h);have M:=z.out.hi k j;have N:=z.out.r0 k j;have O:=z.out.r1 k j;rw[kh j]at M N O;obtain⟨b1,Ff,r,P,l⟩:=I.at_ j;injection r with r
   injection r with r Q
   subst r Q;have J:=l 0 _ rfl;have R:=l 1 _ rfl;simp only[arL]at J;have eC:(k:Int)<(t.length:Int):=(by omega);have g1:decide (1000000000000<t[k].bX)=false:=(by simp;omega);have g2:decide (t[k].bH<0)=false:=(by simp;omega);have g3:decide (1000000<t[k].bH)=false:=(by simp;omega);clear l;rcases k with _|m
   ·have fS:(0:Int)<(t.length:Int):=(by omega);simp only[asw,arL]at J R;go_wp2;go_quiet(fail);go_wp2;go_roundw
    case rel=>exact⟨1,q+nq,by omega,by go_num,by show wr.drewN nq=w.drewN (q+nq);rw[C.out,World.drewN_drewN]⟩
    case measure=>simp[intOf];omega
   ·have K:m<t.length:=(by omega);have S:=z.out.lK m j;rw[kh K,kh j]at S;obtain⟨b2,Ge,u,T,y⟩:=I.at_ K;injection u with u
    injection u with u U
    subst u U;have V:=y 0 _ rfl;simp only[arL]at V;clear y;have g0:decide (t[m+1].bX<=t[m].bX)=false:=(by simp;omega);have Af:(m:Int)<(t.length:Int):=(by omega);have ME:(m:Int)+1<(t.length:Int):=(by omega);have hp:decide ((0:Int)<(m:Int)+1)=true:=(by rw[ar7];omega);go_wp2;go_quiet(fail);go_wp2;go_roundw
    case rel=>exact⟨m+2,q+nq,by omega,by go_num,by show wr.drewN nq=w.drewN (q+nq);rw[C.out,World.drewN_drewN]⟩
    case measure=>simp[intOf];omega
  ·go_wp2;go_ret;exact⟨rfl,q,C.out⟩
theorem am4(A:Option Addr)(j:Nat)(t:List cv)(inc:Int)(w:World)(B:Nat)(h:aj gQ 2 w B A t)(l:ig t)(n:0<=inc)(p:inc<=1000000000000):
  Calls prog 270 #[.slice A t.length j,.int .i64 inc] w fun e w'=>e=.returned (.int .i64 0)/\∃q,w'=w.drewN q:=by
 go_enter func270,ntmps270;go_wp2_with fail;refine(aaV A j t w B h l).mono ?_;rintro e r ⟨rfl,q,rfl⟩;go_wp2;go_ret;exact⟨rfl,q,rfl⟩
theorem aaW(t:List cv)(inc:Int):(Lp t inc).length=t.length:=by simp[Lp]
theorem aaX(t:List cv)(inc:Int){k:Nat}(h:k<t.length):(Lp t inc).getD k 0=fU t inc k:=by simp[Lp,List.getElem?_range h]
theorem afH{t:List cv}{inc:Int}{k:Nat}(h:k+1<t.length):fU t inc k=max (min inc t[k+1].bX-t[k].bX) 0:=by rw[fU,Ji,arK h,kh h,kh (show k<t.length by omega)]
theorem afI{t:List cv}{inc:Int}{k:Nat}(e:k<t.length)(h:¬k+1<t.length):fU t inc k=max (inc-t[k].bX) 0:=by rw[fU,Ji,arJ h,kh e]
def BQ(t:List cv)(inc:Int)(k i:Nat):Value:=.int .i64 (if i<k then fU t inc i else 0)
theorem aaY{w:World}{g m k:Nat}{t:List cv}{inc v:Int}(h:w.rowIs g 3 m (BQ t inc k))(l:v=fU t inc k):(w.setCell ⟨g,k,none⟩ (.int .i64 v)).rowIs g 3 m (BQ t inc (k+1)):=by
 subst l;refine(h.set k _).congr fun i _=>?_;by_cases e:i=k
 ·subst e;rw[arK rfl];simp[BQ]
 ·rw[arJ e];unfold BQ;by_cases j:i<k
  ·rw[arK j,arK (by omega)]
  ·rw[arJ j,arJ (by omega)]
theorem afJ{w:World}{g:Nat}{t:List cv}{inc:Int}(h:w.rowIs g 3 t.length (BQ t inc t.length)):RowI w g (Lp t inc):=by unfold RowI;rw[aaW];refine h.congr fun i hi=>?_;rw[aaX t inc hi,BQ,arK hi]
theorem am5(A:Option Addr)(B:Nat)(t:List cv)(inc:Int)(w:World)(h:aj gQ 2 w w.heap.size A t)(F:ig t)(h0:0<=inc)(h1:inc<=1000000000000):
  Calls prog 263 #[.slice A t.length B,.int .i64 inc] w fun e w'=>∃g,e=.returned (.tuple #[.slice (some ⟨g,0,none⟩) t.length t.length,.int .i64 0])/\w.heap.size<=g/\RowI w' g (Lp t inc)/\Below w.heap.size w w':=by
 have hl:=F.len;have C:=arH F;have D5:=NU t.length (by omega);have u:=am4 A B t inc w _ h F h0 h1;have R:=arH u;clear u F;go_enter func263,ntmps263;go_wp2_with fail;refine arP R.out ?_;rintro e l ⟨rfl,q,S⟩;have K:Below w.heap.size w l:=by rw[S];exact below_drewN (arM _ _) q
 have y:aj gQ 2 l l.heap.size A t:=h.aa K;obtain⟨b,ab,rfl,hb,L⟩:=y.at_ C.out.ne;clear S R h L;go_upto_region 5 with fail
 have G:=RowI.made l t.length;have I:=bD l (.cells (madeCells #[.int .i64 0] t.length) 3);have T:=y.aa I;have U:=aB K I;have j:(l.alloc (.cells (madeCells #[.int .i64 0] t.length) 3)).rowIs l.heap.size 3 t.length (BQ t inc 0):=by have M:=G;unfold RowI at M;rw[List.length_replicate]at M;refine M.congr fun i hi=>?_;simp[BQ,atr];split<;>rfl
 generalize l.alloc (.cells (madeCells #[.int .i64 0] t.length) 3)=W at G I T U j|-;have lC:=G.lt;have pK:=K.size;clear G I y;go_wp2
 go_loopw [8] (fun i wr=>∃k:Nat,k<=t.length/\i=.int .i64 k/\wr.rowIs l.heap.size 3 t.length (BQ t inc k)/\W.grownBy wr (some l.heap.size)) (fun i _=>t.length-(intOf i).toNat)
 case atStart=>exact⟨0,by omega,rfl,j,fe _ _⟩
 case round=>
  clear j;obtain⟨k,hk,rfl,j,J⟩:=hrel;have V:=T.Hi J (fun a N=>by injection N with N;subst N;simp only;omega);have gY:Below w.heap.size w wr:=kN U J (fun g e=>by injection e;omega);by_cases n:k<t.length
  ·have h4:=C.out.Jz n;have h5:=C.out.hi k n;rw[kh n]at h4 h5;obtain⟨b1,Ff,p,ad,r⟩:=V.at_ n;injection p with p
   injection p with p O
   subst p O;have c0:=r 0 _ rfl;simp only[arL]at c0;have eC:(k:Int)<(t.length:Int):=(by omega);have f0:=j.frozen k;have z0:=j.cell (i:=k) n;have ae:b≠l.heap.size:=(by omega);have X:=arH j;have Y:=arH J;generalize BQ t inc k k=zz at z0;clear r j J;by_cases z:k+1<t.length
   ·have D:=arH (afH (inc:=inc) z);have h6:=C.out.Jz z;have h7:=C.out.hi (k+1) z;rw[kh z]at h6 h7;obtain⟨b1,Ff,p,af,r⟩:=V.at_ z;injection p with p
    injection p with p O
    subst p O;have c2:=r 0 _ rfl;simp only[arL]at c2;have Te:(k:Int)+1<(t.length:Int):=(by omega);clear r;go_wp2
    all_goals
     go_roundw
     case rel=>
      have E:∀(v:Int),v=fU t inc k->∃k':Nat,k'<=t.length/\Value.int .i64 ((k:Int)+1)=.int .i64 k'/\(wr.setCell ⟨l.heap.size,k,none⟩ (.int .i64 v)).rowIs l.heap.size 3 t.length (BQ t inc k')/\W.grownBy (wr.setCell ⟨l.heap.size,k,none⟩ (.int .i64 v)) (some l.heap.size):=fun v P=>⟨k+1,by omega,by go_num,aaY X.out P,bm Y.out (.inl rfl) _⟩
      first|exact E _ (by rw[D.out];omega)|((repeat apply Exists.intro);exact⟨E _ (by rw[D.out];omega),rfl⟩)
     case measure=>simp[intOf];omega
   ·have D:=arH (afI (inc:=inc) n z);have Te:¬(k:Int)+1<(t.length:Int):=(by omega);go_wp2
    all_goals
     go_roundw
     case rel=>
      have E:∀(v:Int),v=fU t inc k->∃k':Nat,k'<=t.length/\Value.int .i64 ((k:Int)+1)=.int .i64 k'/\(wr.setCell ⟨l.heap.size,k,none⟩ (.int .i64 v)).rowIs l.heap.size 3 t.length (BQ t inc k')/\W.grownBy (wr.setCell ⟨l.heap.size,k,none⟩ (.int .i64 v)) (some l.heap.size):=fun v P=>⟨k+1,by omega,by go_num,aaY X.out P,bm Y.out (.inl rfl) _⟩
      first|exact E _ (by rw[D.out];omega)|((repeat apply Exists.intro);exact⟨E _ (by rw[D.out];omega),rfl⟩)
     case measure=>simp[intOf];omega
  ·obtain rfl:k=t.length:=by omega
   have Z:=afJ j;have Q:=arH Z;clear j Z;go_wp2;go_ret2;exact⟨l.heap.size,rfl,pK,Q.out,gY⟩
theorem afK(t:List cv)(inc:Int)(k:Nat):pW t inc (k+1)=pW t inc k+fU t inc k*(t.getD k gS).bH:=rfl
theorem am6(A:Option Addr)(p:Nat)(t:List cv)(inc:Int)(w:World)(h:aj gQ 2 w w.heap.size A t)(z:ig t)(B:0<=inc)(L:inc<=1000000000000):
  Calls prog 244 #[.slice A t.length p,.int .i64 inc] w fun e w'=>e=.returned (.tuple #[.int .i64 (nL t inc),.int .i64 0])/\Below w.heap.size w w':=by
 have r:=arH z;have Z:=z.len;have l:=am5 A p t inc w h z B L;have G:=arH l;clear l z;go_enter func244,ntmps244;go_wp2_with fail;refine arP G.out ?_;rintro e I ⟨g,rfl,hg,M,u⟩;have D:=h.aa u;clear G h;go_wp2
 go_loopw [8,9] (fun n i wr=>∃k q:Nat,k<=t.length/\i=.int .i64 k/\n=.int .i64 (pW t inc k)/\Hid (wr=I.drewN q)) (fun _ i _=>t.length-(intOf i).toNat)
 case atStart=>exact⟨0,0,by omega,rfl,rfl,rfl⟩
 case round=>
  obtain⟨k,q,N,rfl,rfl,C⟩:=hrel;have O:aj gQ 2 wr wr.heap.size A t:=by rw[C.out];exact D.U4 q
  have P:RowI wr g (Lp t inc):=by rw[C.out];exact M.drewN q
  have Q:Below w.heap.size w wr:=by rw[C.out];exact below_drewN u q
  obtain⟨x0,R⟩:=Nk (inc:=inc) r.out B N;have x2:pW t inc k<=1000000000000000000:=by omega
  by_cases j:k<t.length
  ·obtain⟨b1,Ff,rfl,S,y⟩:=O.at_ j;have c1:=y 1 _ rfl;have T:=P.cell (i:=k) (by rw[aaW];exact j);rw[aaX t inc j]at T;have E:=arH (afK t inc k);rw[kh j]at E;obtain⟨U,J⟩:=Nk (inc:=inc) r.out B (show k+1<=t.length by omega);rw[E.out]at U J;have V:=S9 (t:=t) (inc:=inc) k;have s1:=afA r.out B j;have K:=r.out.r0 k j;have X:=r.out.r1 k j;rw[kh j]at K X;have m0:0<=fU t inc k*t[k].bH:=asg V K;have m1:fU t inc k*t[k].bH<=1000000000000000000:=(by omega);have m2:pW t inc k+fU t inc k*t[k].bH<=1000000000000000000:=(by omega);clear y R J;generalize fU t inc k=sp at*;generalize F:pW t inc k=ex at*;clear F;go_wp2;go_quiet(fail);go_wp2;go_roundw
   case rel=>exact⟨k+1,q+nq,by omega,by go_num,by rw[E.out],by show wr.drewN nq=I.drewN (q+nq);rw[C.out,World.drewN_drewN]⟩
   case measure=>simp[intOf];omega
  ·obtain rfl:k=t.length:=by omega
   have Y:Hid (nL t inc=pW t inc t.length):=rfl;go_wp2;go_ret2;exact⟨by rw[Y.out];rfl,Q⟩
theorem am7(n j l:Int)(w:World)(u:0<=n)(I:n<=1000000000000000000)(u0:1<=j)(u1:j<=1000000)(J:0<=l)(K:l<=6):
  Calls prog 245 #[.int .i64 n,.int .i64 j,.int .i64 l] w fun e w'=>e=.returned (.int .i64 (eZ n (1000000*j) l*j))/\∃q,w'=w.drewN q:=by
 have L:n.tdiv (1000000*j)=n/(1000000*j):=asK u;have M:n.tmod (1000000*j)=n%(1000000*j):=atm u;have D:eZ n (1000000*j) l=if n%(1000000*j)=0 then n/(1000000*j)else if Dr (n/(1000000*j)) (nB (n%(1000000*j)) (1000000*j-n%(1000000*j))) (decide (0<n)) l then n/(1000000*j)+1 else n/(1000000*j):=rfl
 have Z:=asP n (show 1000000*j≠0 by omega);have r1:=asQ n (show 0<1000000*j by omega);have y:0<=n/(1000000*j):=asG u (by omega);have N:=Int.ediv_mul_le n (show(1000000*j)≠0 by omega);have O:n/(1000000*j)*(1000000*j)=1000000*(n/(1000000*j)*j):=by rw[<-asm,asn _ 1000000,asm]
 have P:0<=n/(1000000*j)*j:=asg y (by omega);have Q:n/(1000000*j)*j<=1000000000000:=by omega
 have R:(n/(1000000*j)+1)*j=n/(1000000*j)*j+j:=by rw[asD,Int.one_mul]
 have S:0<=(n/(1000000*j)+1)*j:=by omega
 have T:(n/(1000000*j)+1)*j<=1000001000000:=by omega
 have q1:n/(1000000*j)<=1000000000000:=by have:n/(1000000*j)*1<=n/(1000000*j)*j:=asq u0 y;omega
 have E:n%(1000000*j)≠0->0<n:=fun U=>by
  rcases Int.lt_or_eq_of_le u with h|h
  ·exact h
  ·subst h;simp at U
 have V:(n/(1000000*j)).tmod 2=n/(1000000*j)%2:=atm y;have p:=arH V;have F:=arH E;have G:=arH D;have z:1000000*j<=1000000000000:=by omega
 have X:((1000000*j:Int)==0)=false:=by rw[ass];omega
 clear D N O R E;have Y:l=0\/l=1\/l=2\/l=3\/l=4\/l=5\/l=6:=by omega
 clear J K;rcases Y with rfl|rfl|rfl|rfl|rfl|rfl|rfl
 all_goals
  go_enter func245,ntmps245;go_wp2;go_quiet(fail);go_wp2
  all_goals
   go_ret;refine⟨?_,nq,rfl⟩;rw[G.out];have Lq:=F.out;have B:=p.out;generalize n%(1000000*j)=r at*;generalize n/(1000000*j)=q at*;simp only[Dr,nB,beq_iff_eq,ass,ne_eq,B]at*;clear G p F L M P Q S T I X z
   repeat' split
   all_goals first|rfl|(exfalso;omega)|(exfalso;rename_i C;simp at C;omega)|(exfalso;rename_i C;simp at C)
theorem am8(A:Option Addr)(j:Nat)(t:List cv)(inc unit mode:Int)(w:World)(h:aj gQ 2 w w.heap.size A t)(n:ig t)(p:0<=inc)(B:inc<=1000000000000)(u0:1<=unit)(u1:unit<=1000000)(r:0<=mode)(u:mode<=6):
  Calls prog 222 #[.slice A t.length j,.int .i64 inc,.int .i64 unit,.int .i64 mode] w fun e w'=>e=.returned (.tuple #[.int .i64 (CL t inc unit mode),.int .i64 0])/\Below w.heap.size w w':=by
 obtain⟨y,z⟩:=Nk (inc:=inc) n p (arI _);have C:pW t inc t.length=nL t inc:=rfl;rw[C]at y z;have D:nL t inc<=1000000000000000000:=by omega
 have E:=Uy r u;go_enter func222,ntmps222;go_wp2_with fail;refine(am6 A j t inc w h n p B).mono ?_;rintro e F ⟨rfl,l⟩;clear z;go_wp2_with fail;refine(Cy _ _).mono ?_;rintro e w' ⟨rfl,rfl⟩;rw[E];go_wp2_with fail;refine(am7 _ _ _ _ y D u0 u1 r u).mono ?_;rintro e G ⟨rfl,q,rfl⟩;go_wp2;go_ret2;exact⟨rfl,below_drewN l q⟩
theorem am9{t:List cv}{num den:Int}{k:Nat}(h:FN t num den k=true):ma t num den (k+1)=ma t num den k:=by rw[ma,arK h]
theorem afL{t:List cv}{num den:Int}{k:Nat}(h:FN t num den k=false):ma t num den (k+1)=ma t num den k++[⟨jA t num den k,(t.getD k gS).bH⟩]:=by rw[ma,arJ (by simp[h])]
theorem ana(A:Option Addr)(F:Nat)(t:List cv)(num den:Int)(w:World)(h:aj gQ 2 w w.heap.size A t)(J:ig t)(u:0<=num)(hd:1<=den)(M:num<=den)(bS:den<=53):
  Calls prog 223 #[.slice A t.length F,.int .i64 num,.int .i64 den] w fun e w'=>∃v,e=.returned (.tuple #[v,.int .i64 0])/\Own gQ 2 127 w' w.heap.size v (ou t num den)/\Below w.heap.size w w':=by
 have y:=arH J;have hl:=J.len;have r:=aaV A F t w _ h J;have T:=arH r;have eY:(den==0)=false:=by rw[ass];omega
 clear r J;go_enter func223,ntmps223;go_wp2_with fail;refine arP T.out ?_;rintro e D ⟨rfl,q,U⟩;have N:Below w.heap.size w D:=by rw[U];exact below_drewN (arM _ _) q
 have O:aj gQ 2 D D.heap.size A t:=h.aa N;have pK:=N.size;clear U T h;go_wp2
 go_loopw [8,9] (fun v i wr=>∃k:Nat,k<=t.length/\i=.int .i64 k/\Own gQ 2 127 wr D.heap.size v (ma t num den k)/\Below D.heap.size D wr) (fun _ i _=>t.length-(intOf i).toNat)
 case atStart=>exact⟨0,by omega,rfl,Own.cL _ _,arM _ _⟩
 case round=>
  obtain⟨k,hk,rfl,l,E⟩:=hrel;have V:=O.aa E;have X:=E.size;by_cases j:k<t.length
  ·obtain⟨b,ad,rfl,hb,P⟩:=V.at_ j;have c0:=P 0 _ rfl;have c1:=P 1 _ rfl;simp only[arL]at c0;have Y:=y.out.Jz j;have Z:=y.out.hi k j;have Q:jA t num den k=t[k].bX*num/den:=(by rw[jA,kh j]);rw[kh j]at Y Z;have p0:0<=t[k].bX*num:=asg Y u;have p1:t[k].bX*num<=1000000000000*53:=asV Z (by omega) u (by omega);have e1:(t[k].bX*num).tdiv den=t[k].bX*num/den:=asK p0;obtain⟨s0,s1⟩:=WC (t:=t) y.out u hd M j;rw[Q]at s0 s1;rw[kh j]at s1;have eC:(k:Int)<(t.length:Int):=(by omega);have z:=arH Q;have og:=fun q hq=>(l.cm (g:=q) hq).1;have ab:(ma t num den k).length<=24:=(by have:=(afB y.out u hd M k hk).len;omega);clear P Q;by_cases p:k+1<t.length
   ·obtain⟨b1,Ff,G,af,I⟩:=V.at_ p;injection G with G
    injection G with G dP
    subst G dP;have c2:=I 0 _ rfl;simp only[arL]at c2;have h6:=y.out.Jz p;have h7:=y.out.hi (k+1) p;have B:jA t num den (k+1)=t[k+1].bX*num/den:=(by rw[jA,kh p]);obtain⟨s2,s3⟩:=WC (t:=t) y.out u hd M p;rw[B]at s2 s3;rw[kh p]at h6 h7 s3;have p2:0<=t[k+1].bX*num:=asg h6 u;have p3:t[k+1].bX*num<=1000000000000*53:=asV h7 (by omega) u (by omega);have e2:(t[k+1].bX*num).tdiv den=t[k+1].bX*num/den:=asK p2;have Te:(k:Int)+1<(t.length:Int):=(by omega);have K:=arH B;clear I B;by_cases n:t[k+1].bX*num/den=t[k].bX*num/den
    ·have WG:(t[k+1].bX*num/den==t[k].bX*num/den)=true:=(by simp[n]);have C:=arH (am9 (t:=t) (num:=num) (den:=den) (k:=k) (by simp[FN,p,z.out,K.out,n]));rw[n]at e2;clear n WG K z;generalize t[k].bX*num/den=L at*;go_wp2;go_roundw
     case rel=>exact⟨k+1,by omega,by go_num,by rw[C.out];exact l,E⟩
     case measure=>simp[intOf];omega
    ·have WG:(t[k+1].bX*num/den==t[k].bX*num/den)=false:=(by rw[ass];exact n);have C:=arH (afL (t:=t) (num:=num) (den:=den) (k:=k) (by simp[FN,p,z.out,K.out,n]));rw[z.out,kh j]at C;clear n K z;generalize t[k].bX*num/den=L at*;generalize t[k+1].bX*num/den=ai at*;go_wp2_with(at_builtin;(refine mQ _ _ 38 ⟨L,t[k].bH⟩ _ 16 _ Pl underlying38 l CK (by omega) rfl (Pm _) (by omega) (by omega) X (by rfl) (by rfl) (by rfl) (by rfl) (by simp) (by rfl) ?_);intro v2 w6 R S);go_roundw
     case rel=>exact⟨k+1,by omega,by go_num,by rw[C.out];exact R,kN E S og⟩
     case measure=>simp[intOf];omega
   ·have Te:¬(k:Int)+1<(t.length:Int):=(by omega);have C:=arH (afL (t:=t) (num:=num) (den:=den) (k:=k) (by simp[FN,p]));rw[z.out,kh j]at C;clear z;generalize t[k].bX*num/den=L at*;go_wp2_with(at_builtin;(refine mQ _ _ 38 ⟨L,t[k].bH⟩ _ 16 _ Pl underlying38 l CK (by omega) rfl (Pm _) (by omega) (by omega) X (by rfl) (by rfl) (by rfl) (by rfl) (by simp) (by rfl) ?_);intro v2 w6 R S);go_roundw
    case rel=>exact⟨k+1,by omega,by go_num,by rw[C.out];exact R,kN E S og⟩
    case measure=>simp[intOf];omega
  ·obtain rfl:k=t.length:=by omega
   have Fo:Hid (ou t num den=ma t num den t.length):=rfl;go_wp2;go_ret2;exact⟨_,rfl,by rw[Fo.out];exact l.weaken (by omega),aB N E⟩
theorem Ik{t:List mM}{k:Nat}(h:k<t.length):t.getD k ml=t[k]:=by rw[ar1,arW h];rfl
structure iP where
 t:AQ
 Ab:Option Addr
 cb:Nat
 Ar:Option Addr
 cr:Nat
def iP.val(m:iP):Value:=.agg #[.int .i64 m.t.method,.slice m.Ab m.t.au.length m.cb,.int .i64 m.t.aZ,.int .i64 m.t.bf,.int .i64 m.t.unit,.int .i64 m.t.mode,.slice m.Ar m.t.rows.length m.cr]
structure iP.In(m:iP)(w:World):Prop where
 au:aj gQ 2 w w.heap.size m.Ab m.t.au
 rows:aj nO 2 w w.heap.size m.Ar m.t.rows
theorem iP.In.aa{m:iP}{w w':World}(h:m.In w)(e:Below w.heap.size w w'):m.In w':=⟨h.au.aa e,h.rows.aa e⟩
theorem JD(n m:Int)(w:World):Calls prog 143 #[.int .i64 n,.int .i64 m] w fun e w'=>e=.returned (.bool (bJ n m))/\w=w':=by
 by_cases l:0<=n<;>by_cases p:n<=m
 all_goals
  have j:bJ n m=(decide (0<=n)&&decide (n<=m)):=by simp[bJ]
  have r:=arH j;clear j;go_enter func143,ntmps143;go_wp2;go_ret;exact⟨by rw[r.out];simp[l,p],rfl⟩
theorem afM(A:Option Addr)(F:Nat)(t:List mM)(w:World)(B:Nat)(h:aj nO 2 w B A t)(p:Na t):
  Calls prog 184 #[.slice A t.length F] w fun e w'=>e=.returned (.bool true)/\∃q,w'=w.drewN q:=by
 have D:=arH p;have r:=p.ne;have Y:=p.len;have G:=p.zero;rw[Ik r]at G;have P:((t.length:Int)==0)=false:=by rw[ass];omega
 obtain⟨b,I,rfl,Z,J⟩:=h.at_ r;have d0:=J 0 _ rfl;simp only[arL,asw]at d0;rw[G]at d0;have Nn:(0:Int)<(t.length:Int):=by omega
 clear G J p;go_enter func184,ntmps184;go_wp2
 go_loopw [3] (fun i wr=>∃k q:Nat,k<=t.length/\i=.int .i64 k/\Hid (wr=w.drewN q)) (fun i _=>t.length-(intOf i).toNat)
 case atStart=>exact⟨0,0,by omega,rfl,rfl⟩
 case round=>
  obtain⟨k,q,hk,rfl,E⟩:=hrel;by_cases j:k<t.length
  ·have K:aj nO 2 wr B (some ⟨b,I,none⟩) t:=(by rw[E.out];exact h);have u:=D.out.hi k j;have n:=D.out.t0 k j;have L:=D.out.t1 k j;rw[Ik j]at u n L;obtain⟨b1,Ff,y,Q,l⟩:=K.at_ j;injection y with y
   injection y with y R
   subst y R;have M:=l 0 _ rfl;have S:=l 1 _ rfl;simp only[arL]at M;have eC:(k:Int)<(t.length:Int):=(by omega);have g1:decide (1000000000<t[k].bX)=false:=(by simp;omega);have N:bJ t[k].aw 1000000000=true:=im.2 ⟨n,L⟩;clear l;rcases k with _|m
   ·have fS:(0:Int)<(t.length:Int):=(by omega);simp only[asw,arL]at M S;go_wp2;go_quiet((go_at_call 143;exact Calls.quiet_of_same ((JD _ _ _).mono fun e w' ⟨u,n⟩=>⟨u,n.symm⟩)));rw[N];go_wp2;go_roundw
    case rel=>exact⟨1,q+nq,by omega,by go_num,by show wr.drewN nq=w.drewN (q+nq);rw[E.out,World.drewN_drewN]⟩
    case measure=>simp[intOf];omega
   ·have O:m<t.length:=(by omega);have T:=D.out.lK m j;rw[Ik O,Ik j]at T;obtain⟨b2,Ge,z,U,C⟩:=K.at_ O;injection z with z
    injection z with z V
    subst z V;have X:=C 0 _ rfl;simp only[arL]at X;clear C;have g0:decide (t[m+1].bX<=t[m].bX)=false:=(by simp;omega);have Af:(m:Int)<(t.length:Int):=(by omega);have ME:(m:Int)+1<(t.length:Int):=(by omega);have hp:decide ((0:Int)<(m:Int)+1)=true:=(by rw[ar7];omega);go_wp2;go_quiet((go_at_call 143;exact Calls.quiet_of_same ((JD _ _ _).mono fun e w' ⟨u,n⟩=>⟨u,n.symm⟩)));rw[N];go_wp2;go_roundw
    case rel=>exact⟨m+2,q+nq,by omega,by go_num,by show wr.drewN nq=w.drewN (q+nq);rw[E.out,World.drewN_drewN]⟩
    case measure=>simp[intOf];omega
  ·go_wp2;go_ret;exact⟨rfl,q,E.out⟩
theorem VB(m:iP)(w:World)(h:m.In w)(hT:nK m.t):Calls prog 142 #[m.val] w fun e w'=>e=.returned (.bool true)/\Below w.heap.size w w':=by
 obtain⟨⟨method,u,y,z,n,p,l⟩,B,cb,C,D⟩:=m;obtain⟨N,O⟩:=h;obtain⟨m0,m1,r,P,Q,R,S,u0,u1,T,U,I,j⟩:=hT;simp only at N O m0 m1 r P Q R S u0 u1 T U I j;unfold iP.val;simp only;have hm:=Uy T U;have EP:bJ y 1000000000=true:=im.2 ⟨P,Q⟩;have Ef:bJ z 1000000000=true:=im.2 ⟨R,S⟩;have FB:=arH r;have MW:=arH I;have gF:=arH j;clear r I j;go_enter func142,ntmps142;have E:=ah.new w 41 #[.int .i64 method,.slice B u.length cb,.int .i64 y,.int .i64 z,.int .i64 n,.int .i64 p,.slice C l.length D];have F:=bD w (.cells #[.int .i64 method,.slice B u.length cb,.int .i64 y,.int .i64 z,.int .i64 n,.int .i64 p,.slice C l.length D] 41);go_upto_region 1 with fail
 generalize w.alloc (Obj.cells _ _)=W at E F|-;obtain⟨V,X,Y,Z,z4,z5,J⟩:=E.cz7;go_wp2_with fail;refine(aaV B cb u W _ (N.aa F) FB.out).mono ?_;rintro e w1 ⟨rfl,q1,K⟩;have ai:ah w1 w.heap.size 41 #[.int .i64 method,.slice B u.length cb,.int .i64 y,.int .i64 z,.int .i64 n,.int .i64 p,.slice C l.length D]:=by rw[K];exact E.drewN q1
 have L:Below w.heap.size w w1:=by rw[K];exact below_drewN F q1
 clear K E F V X Y Z z4 z5 J;obtain⟨V,X,Y,Z,z4,z5,J⟩:=ai.cz7;go_wp2_with fail;refine(JD _ _ _).mono ?_;rintro e w' ⟨rfl,rfl⟩;rw[EP];go_wp2_with fail;refine(JD _ _ _).mono ?_;rintro e w' ⟨rfl,rfl⟩;rw[Ef];go_wp2_with fail;refine(Cy _ _).mono ?_;rintro e w' ⟨rfl,rfl⟩;rw[hm];by_cases G:method=1
 ·have M:(method==1)=true:=by simp[G]
  go_wp2_with fail;refine(afM C D l _ _ (O.aa L) (MW.out G)).mono ?_;rintro e w2 ⟨rfl,q2,rfl⟩;go_wp2;go_ret;exact⟨rfl,below_drewN L q2⟩
 ·have M:(method==1)=false:=by rw[ass];exact G
  have qh:=gF.out G;subst qh;simp only[asa]at J;go_wp2;go_ret;exact⟨rfl,L⟩
