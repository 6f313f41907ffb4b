/- Conditions: as stated. -/
import Derived.Test.YtlhkojcmcmkmaaaGreatSRec
namespace Go.Proofs.YtlhkojcmcmkmaaaGreat
open Go.Proofs.Tryz
open Go.RowKit
def sgL(k:Int):Int:=if k=1 then 1 else if k=3 then-1 else if k=4 then-1 else if k=6 then-1 else if k=7 then-1 else if k=8 then-1 else if k=9 then-1 else if k=10 then 1 else 0
def Il:List dH->Int
 |[]=>0
 |x::r=>sgL x.kind*x.amount+Il r
theorem anc(l m:List dH):Il (l++m)=Il l+Il m:=by
 induction l with
 |nil=>simp[Il]
 |cons a l e=>simp[Il,e];omega
theorem ane(k:Int)(l:List Elem):Il (ag k l)=sgL k*aR l:=by
 rw[<-afN,ag]
 induction l.filter nz with
 |nil=>simp[Il,aR]
 |cons a l e=>simp only[asS,Il,aR,e,asZ]
theorem anf(e:List cO)(l:List Elem):(fI e l).c=aR (l.filter (iA e)):=by
 have key:∀(l:List Elem) (b:fF),(l.foldl (Jy e) b).c=b.c+aR (l.filter (iA e)):=by
  intro l
  induction l with
  |nil=>intro b;simp[aR]
  |cons a l n=>
   intro b;rw[asR,n,as0];by_cases h:iA e a=true
   ·have j:((dJ e a.code).getD nd).kind=1:=(by simpa[iA]using h);rw[arK h];simp only[Jy,Au,arK j,aR];omega
   ·have j:¬((dJ e a.code).getD nd).kind=1:=(by simpa[iA]using h);rw[arJ h];simp only[Jy,Au,arJ j];omega
 have:=key l ew;simpa[fI,ew]using this
theorem ang(p:Elem->Bool)(l:List Elem):aR ((l.filter nz).filter p)=aR (l.filter p):=by rw[List.filter_filter];rw[show(fun a=>p a&&nz a)=(fun a=>nz a&&p a)from by funext a;exact Bool.and_comm _ _,<-List.filter_filter,afN]
structure PC(k:Int)(l:List dH):Prop where
 sorted:RL.Py l
 kind:∀x∈l,x.kind<=k
theorem PC.cL(k:Int):PC k []:=⟨List.Pairwise.nil,by simp⟩
theorem PD{k:Int}{l:List Elem}{x:dH}(h:x∈ag k l):x.kind=k/\∃y∈l,y.amount≠0/\x=⟨k,y.code,y.amount⟩:=by obtain⟨y,hy,rfl⟩:=ar8.1 h;obtain⟨e,j⟩:=asY.1 hy;exact⟨rfl,y,e,by simpa[nz]using j,rfl⟩
theorem anh(k:Int){l:List Elem}(h:jc l):RL.Py (ag k l):=by unfold Rec.Py ag;rw[ath];refine(h.filter nz).imp ?_;intro a b e;rw[Fp]at e;simp only[RL,PE,Bool.or_eq_true,ar5,ar7];exact .inr ⟨trivial,e⟩
theorem PC.more{k k':Int}{l:List dH}(h:PC k l)(p:k<k'){e:List Elem}(n:jc e):PC k' (l++ag k' e):=by
 refine⟨?_,fun x j=>?_⟩
 ·unfold Rec.Py;rw[List.pairwise_append];refine⟨h.sorted,anh k' n,fun x j y hy=>?_⟩;have h1:=h.kind x j;have r:=(PD hy).1;simp only[RL,PE,Bool.or_eq_true,ar7];exact .inl (by omega)
 ·rcases asf.1 j with h1|h1
  ·have:=h.kind x h1;omega
  ·rw[(PD h1).1];exact asI _
theorem aaZ(x:Elem):jc [x]:=by simp[jc]
theorem mA(k:Int)(l:List Elem):(ag k l).length<=l.length:=by simp[ag];exact asi _ _
structure GQ(e:List Elem):Prop where
 sorted:jc e
 name:∀x∈e,bK x.code=true
 lo:∀x∈e,-100000000000<=x.amount
 hi:∀x∈e,x.amount<=100000000000
theorem GQ.filter{e:List Elem}(h:GQ e)(p:Elem->Bool):GQ (e.filter p):=
 ⟨List.Pairwise.filter _ h.sorted,fun x j=>h.name x (DL j),fun x j=>h.lo x (DL j),fun x j=>h.hi x (DL j)⟩
structure PF(x:dH):Prop where
 form:aa0 x=true
 lo:-100000000000<=x.amount
 hi:x.amount<=100000000000
theorem Nq{k:Int}{e:List Elem}(h:GQ e)(j:1<=k)(l:k<=10)(n:aa1 k=false):∀x∈ag k e,PF x:=by
 intro x p;obtain⟨_,y,hy,r,rfl⟩:=PD p;have a:=h.lo y hy;have b:=h.hi y hy;refine⟨?_,a,b⟩;have u:Cj y.amount=true:=by simp[Cj];omega
 simp[aa0,aa2,j,l,u,aa3,n,h.name y hy,r]
theorem aa4{k n:Int}(j:1<=k)(l:k<=10)(p:aa1 k=true)(a:-100000000000<=n)(b:n<=100000000000):∀x∈ag k [⟨⟨#[]⟩,n⟩],PF x:=by
 intro x r;obtain⟨_,y,hy,e,rfl⟩:=PD r;simp at hy;subst hy;refine⟨?_,a,b⟩;have u:Cj n=true:=by simp[Cj];omega
 simp only at e;simp[aa0,aa2,j,l,u,aa3,p,e];rfl
theorem X5{a b:List Elem}(h:eA a b=0):eP a=true/\b.all nW=true/\eP (mn a b)=true/\lj a b=mn a b:=by
 rw[Ti]at h;split at h
 ·cases h
 ·split at h
  ·cases h
  ·split at h
   ·cases h
   ·split at h
    ·cases h
    ·split at h
     ·cases h
     ·rename_i n p E F r;have u:eP a=true:=(by simpa using n);have B:b.all nW=true:=(by simpa using p);refine⟨u,B,?_,by rw[lj,Ti,arJ n,arJ p,arJ E,arJ F,arJ r,arK rfl]⟩;obtain⟨M,C,r3⟩:=pZ.1 u;refine pZ.2 ⟨by omega,fun x D=>?_,XW b r3⟩;obtain⟨G,J,N⟩:=(abT r3 x).1 D;have j:∀y∈a++b,bK y.code=true/\0<=y.amount:=fun y hy=>by
       rcases asf.1 hy with g|g
       ·exact⟨(C y g).1,(C y g).2.1⟩
       ·have:=(Uf y).1 (List.all_eq_true.1 B y g);exact⟨this.1,this.2.1⟩
      obtain⟨y,hy,e⟩:=asx.1 G;have K:y.code=x.code:=by apply afO;simpa using e
      refine⟨by rw[<-K];exact(j y hy).1,?_,?_⟩
      ·rw[J];exact(afP (fun z L=>(j z L).2) _).1
      ·have l:mP (mn a b)=false:=(by simpa using r);have:=(asr.1 l) x D;simp only[big,ar7]at this;omega
section
variable {I:aY}
theorem aY.afQ(h:I.err=0):I.y.az<I.r.count/\dV I.r.cB I.e (bF I.e)=0/\eK I.p.j9 I.base (max I.b.c 0) I.y.taken=0/\I.Ep=false/\cy I.aw=true/\¬(I.first=true/\1000000000<I.net)/\eA I.y.taken I.before=0/\eK I.p.j9 I.base (max I.ee 0) I.iy=0/\eA I.iy I.after=0:=by
 unfold aY.err at h;split at h
 ·cases h
 ·split at h
  ·rename_i j;exact absurd h j
  ·split at h
   ·rename_i j;exact absurd h j
   ·split at h
    ·cases h
    ·split at h
     ·cases h
     ·split at h
      ·cases h
      ·split at h
       ·rename_i j;exact absurd h j
       ·split at h
        ·rename_i j;exact absurd h j
        ·rename_i a b c d e f g i;exact⟨by omega,by simpa using b,by simpa using c,by simpa using d,by simpa using e,f,by simpa using g,by simpa using i,h⟩
theorem ani(I:aY){l:List bR}(h:l.Pairwise (fun a b=>Op.bytesLess a.code.toList b.code.toList=true)):jc (I.gX l)/\jc (I.iE l):=by unfold aY.gX aY.iE jc;rw[ath,ath];exact⟨h,h⟩
theorem anj(I:aY)(l:List bR):aR (I.gX l)=I.jS l:=by
 unfold aY.gX aY.jS
 induction l with
 |nil=>rfl
 |cons a l e=>simp only[asS,aR,aL,e]
structure afR(ws:List cO)(l:List dH):Prop where
 sorted:RL.Py l
 ln:∀x∈l,PF x
 len:l.length<=256
 bal:Il l=0
 code:∀x∈l,x.kind=1->(dJ ws x.code).isSome=true
structure aa5(I:aY):Prop where
 merged:GQ I.merged
 ank:I.merged.length<=128
 before:GQ I.before
 anl:I.before.length<=16
 aq8:∀x∈I.before,0<=x.amount
 anm:0<=aR I.before/\aR I.before<=max I.b.c 0
 own:GQ (I.gX I.r.aV)
 aq9:∀x∈I.gX I.r.aV,0<=x.amount
 fG:GQ (I.iE I.r.aV)
 ara:∀x∈I.iE I.r.aV,0<=x.amount
 bj:0<=I.bj/\I.bj<=12000000000
 aw:-1000000000<=I.aw/\I.aw<=1000000000
 gD:GQ I.dp
 arb:∀x∈I.dp,0<=x.amount
 ann:I.dp.length<=16
 ano:0<=aR I.dp/\aR I.dp<=16000000000
 after:GQ I.after
 arc:∀x∈I.after,0<=x.amount
 anp:I.after.length<=16
 anq:0<=aR I.after/\aR I.after<=1000000000
 anr:I.b.c=aR I.cN
 cbd:-1000000000<=I.b.c/\I.b.c<=1000000000
theorem ZE{R:List Elem}{l:List eX}(n:jc R)(p:∀x∈R,∃o∈l,x.code=o.id):R.length<=l.length:=by
 have r:(R.map (·.code)).Nodup:=by rw[List.Nodup,ath];exact abS n
 have u:∀c∈R.map (·.code),c∈l.map (·.id):=fun c j=>by obtain⟨x,y,rfl⟩:=ar8.1 j;obtain⟨o,z,e⟩:=p x y;exact ar8.2 ⟨o,z,e.symm⟩
 have:=aa6 r u;simpa using this
theorem ans{l:List Elem}(h:dU l=0):∀x∈l,bK x.code=true:=by
 have e:¬128<l.length:=by intro e;rw[dU,arK e]at h;cases h
 rw[dU,arJ e]at h;split at h
 ·cases h
 ·rename_i j;intro x n;simp only[Bool.not_eq_true,asr]at j;simpa using j x n
theorem ant{l:List bR}{f:bR->Int}(h:∀s∈l,0<=f s/\f s<=1000000000)(n:l.length<=12):0<=aL (l.map f)/\aL (l.map f)<=12000000000:=by have:=kR (l:=l.map f) (B:=1000000000) (fun x e=>by obtain⟨s,j,rfl⟩:=ar8.1 e;exact h s j);rw[asu]at this;omega
theorem oL.parts(h:oL I)(M:I.err=0):aa5 I:=by
 obtain⟨N,O,P,Q,R,D,S,u,T⟩:=aY.afQ M;obtain⟨_,G,Wy,U⟩:=Ho O;obtain⟨_,⟨V,X⟩,⟨t0,t1⟩,⟨i0,i1⟩,_⟩:=Ms U;have E:I.b=fI I.r.cB (bF I.e):=rfl;obtain⟨J,Y⟩:=WA G;have Z:I.aM<=1000000000:=by unfold aY.aM;rw[E];omega
 have n:∀s∈I.r.aV,(0<=(I.dK s).aA/\(I.dK s).aA<=1000000000)/\0<=(I.dK s).aT/\(I.dK s).aT<=1000000000:=fun s l=>
  h.Re N Z l (by have:=asr.1 Q s l;simpa using this)
 obtain⟨b1,z,b3,b4,b5⟩:=FY (before:=true) P;obtain⟨f1,f2,f3,f4,f5⟩:=FY (before:=false) u;obtain⟨_,_,_,g4,g5⟩:=afS u;have K:=ani I h.r.lK;have hA:afT 1000000000 I.p.orders I.dp\/(I.first=false/\I.dp=I.kept):=by
  cases F:I.first
  ·exact .inr ⟨rfl,by unfold aY.dp;rw[F];rfl⟩
  ·left;have hn:I.net<=1000000000:=by
    apply Decidable.byContradiction;intro hh;exact D ⟨F,by omega⟩
   obtain⟨a,_⟩:=UY h.r.sh h.p.orders (net:=I.net) (by unfold aY.net;omega) hn h.p.d0 h.p.d1;have e:I.dp=Fa I.r.sh I.net I.p.deps I.p.orders:=(by unfold aY.dp;rw[F];rfl);rw[e];exact⟨a.pos,fun x j=>by have:=a.hi x j;omega,a.name,a.code,a.sorted,a.lo,by have:=a.sum;omega⟩
 have B:GQ I.dp/\(∀x∈I.dp,0<=x.amount)/\I.dp.length<=16/\0<=aR I.dp/\aR I.dp<=16000000000:=by
  rcases hA with a|⟨_,a⟩
  ·refine⟨⟨a.sorted,a.name,fun x j=>by have:=a.pos x j;omega,fun x j=>by have:=a.hi x j;omega⟩,a.pos,?_,a.lo,by have:=a.sum;omega⟩;have:=ZE a.sorted a.code;have:=h.p.orders.len;omega
  ·rw[a];obtain⟨k1,C,k3⟩:=pZ.1 h.kept.ZC;have L:=h.kept.hi;have k5:=h.kept.len;have:=N3 I.kept 1000000000 (fun x j=>⟨(C x j).2.1,L x j⟩);refine⟨⟨k3,fun x j=>(C x j).1,fun x j=>by have:=(C x j).2.1;omega,fun x j=>by have:=L x j;omega⟩,fun x j=>(C x j).2.1,k5,this.1,?_⟩;omega
 have Nr:∀x∈bF I.e,bK x.code=true:=fun x j=>by obtain⟨y,hy,e⟩:=VC j;rw[<-e];exact ans G y hy
 refine⟨⟨List.Pairwise.filter _ (Jg _),fun x j=>Nr x (DL j),fun x j=>?_,fun x j=>?_⟩,?_,⟨b1,fun x j=>(z x j).1,fun x j=>?_,fun x j=>?_⟩,b5,fun x j=>(z x j).2.1,⟨b3,b4⟩,⟨K.1,?_,?_,?_⟩,?_,⟨K.2,?_,?_,?_⟩,?_,?_,Q9.1 R,B.1,B.2.1,B.2.2.1,B.2.2.2,⟨f1,fun x j=>(f2 x j).1,fun x j=>?_,fun x j=>?_⟩,fun x j=>(f2 x j).2.1,f5,⟨f3,?_⟩,?_,?_⟩
 ·have:=J x (DL j);omega
 ·have:=J x (DL j);omega
 ·exact ar0 (asi _ _) Y
 ·have:=(z x j).2.1;omega
 ·have:=(z x j).2.2;omega
 ·intro x j;obtain⟨s,l,rfl⟩:=ar8.1 j;exact(h.r.l9 s l).name
 ·intro x j;obtain⟨s,l,rfl⟩:=ar8.1 j;have:=n s l;show _<=(I.dK s).aA;omega
 ·intro x j;obtain⟨s,l,rfl⟩:=ar8.1 j;have:=n s l;show(I.dK s).aA<=_;omega
 ·intro x j;obtain⟨s,l,rfl⟩:=ar8.1 j;exact(n s l).1.1
 ·intro x j;obtain⟨s,l,rfl⟩:=ar8.1 j;exact(h.r.l9 s l).name
 ·intro x j;obtain⟨s,l,rfl⟩:=ar8.1 j;have:=n s l;show _<=(I.dK s).aT;omega
 ·intro x j;obtain⟨s,l,rfl⟩:=ar8.1 j;have:=n s l;show(I.dK s).aT<=_;omega
 ·intro x j;obtain⟨s,l,rfl⟩:=ar8.1 j;exact(n s l).2.1
 ·exact ant (fun s l=>(n s l).1) h.r.Cg
 ·have:=(f2 x j).2.1;omega
 ·have:=(f2 x j).2.2;omega
 ·show aR I.after<=_;have:aR I.after<=max I.ee 0:=f4;omega
 ·rw[E,anf];exact(ang _ _).symm
 ·rw[E];exact⟨V,X⟩
theorem aa5.aa7(P:aa5 I)(z:missing I.r.cB (bF I.e)=false)(K:I.r.aV.length<=12):afR I.r.cB I.lines:=by
 have p:=P.merged.filter (iA I.r.cB);have u:=P.merged.filter fun x=>!iA I.r.cB x;have c:=P.cbd;have L:-100000000000<=I.kD/\I.kD<=100000000000:=by have:=P.anm;have:=P.bj;have:=P.aw;have:=P.ano;have:=P.anq;unfold aY.kD aY.ee aY.BA aY.Mu aY.Hn;omega
 have j:∀x∈ag 9 [⟨⟨#[]⟩,max I.kD 0⟩],PF x:=aa4 (by omega) (by omega) rfl (by omega) (by omega);have n:∀x∈ag 10 [⟨⟨#[]⟩,max (-I.kD) 0⟩],PF x:=aa4 (by omega) (by omega) rfl (by omega) (by omega);have B:∀x∈ag 6 [⟨⟨#[]⟩,I.aw⟩],PF x:=aa4 (by omega) (by omega) rfl (by have:=P.aw;omega) (by have:=P.aw;omega);refine⟨?_,?_,?_,?_,?_⟩
 ·have C:=(PC.cL 0).more (k':=1) (by omega) p.sorted;exact((((((((((C.more (k':=2) (by omega) u.sorted).more (k':=3) (by omega) P.before.sorted).more (k':=4) (by omega) P.own.sorted).more (k':=5) (by omega) P.fG.sorted).more (k':=6) (by omega) (aaZ _)).more (k':=7) (by omega) P.gD.sorted).more (k':=8) (by omega) P.after.sorted).more (k':=9) (by omega) (aaZ _)).more (k':=10) (by omega) (aaZ _))).sorted
 ·intro x hx;simp only[aY.lines,asf]at hx;rcases hx with((((((((hx|hx)|hx)|hx)|hx)|hx)|hx)|hx)|hx)|hx
  ·exact Nq p (by omega) (by omega) rfl x hx
  ·exact Nq u (by omega) (by omega) rfl x hx
  ·exact Nq P.before (by omega) (by omega) rfl x hx
  ·exact Nq P.own (by omega) (by omega) rfl x hx
  ·exact Nq P.fG (by omega) (by omega) rfl x hx
  ·exact B x hx
  ·exact Nq P.gD (by omega) (by omega) rfl x hx
  ·exact Nq P.after (by omega) (by omega) rfl x hx
  ·exact j x hx
  ·exact n x hx
 ·have M:I.cN.length+I.cR.length=I.merged.length:=by
   unfold aY.cN aY.cR
   induction I.merged with
   |nil=>rfl
   |cons a l N=>rw[as0,as0];cases iA I.r.cB a<;>simp<;>omega
  have O:=mA 1 I.cN;have Q:=mA 2 I.cR;have R:=mA 3 I.before;have S:=mA 4 (I.gX I.r.aV);have T:=mA 5 (I.iE I.r.aV);have D:=mA 6 [⟨⟨#[]⟩,I.aw⟩];have U:=mA 7 I.dp;have V:=mA 8 I.after;have E:=mA 9 [⟨⟨#[]⟩,max I.kD 0⟩];have F:=mA 10 [⟨⟨#[]⟩,max (-I.kD) 0⟩];have X:=P.ank;have Y:=P.anl;have Z:=P.ann;have b4:=P.anp;have b5:(I.gX I.r.aV).length=I.r.aV.length:=by simp[aY.gX]
  have b6:(I.iE I.r.aV).length=I.r.aV.length:=by simp[aY.iE]
  simp only[atd]at D E F;simp only[aY.lines,arV];omega
 ·simp only[aY.lines,anc,ane,anj];have e:=P.anr;simp only[sgL,aR];unfold aY.kD aY.ee aY.BA aY.Mu aY.Hn aY.bj;simp;omega
 ·intro x hx hk;simp only[aY.lines,asf]at hx;rcases hx with((((((((hx|hx)|hx)|hx)|hx)|hx)|hx)|hx)|hx)|hx
  ·obtain⟨_,y,hy,_,rfl⟩:=PD hx;have G:y∈bF I.e:=DL (DL hy);have:=asr.1 z y G;cases J:dJ I.r.cB y.code
   ·simp[J]at this
   ·rfl
  all_goals(have h9:=(PD hx).1;omega)
theorem oL.aa7(h:oL I)(e:I.err=0):afR I.r.cB I.lines:=
 (h.parts e).aa7 (Ho (aY.afQ e).2.1).2.2.1 h.r.Cg
end
