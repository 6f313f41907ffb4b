/- Conditions: as stated. -/
import Derived.Test.YtlhkojcmcmkmaaaGreatKRec
namespace Go.Proofs.YtlhkojcmcmkmaaaGreat
open Go.Proofs.Tryz
open Go.RowKit
def sgL(k:Int):Int:=if k=1 then 1 else if k=3 then-1 else if k=4 then-1 else if k=6 then-1 else if k=7 then-1 else if k=8 then-1 else if k=9 then-1 else if k=10 then 1 else 0
def Hi:List dE->Int
 |[]=>0
 |x::r=>sgL x.kind*x.amount+Hi r
theorem amR(l m:List dE):Hi (l++m)=Hi l+Hi m:=by
 induction l with
 |nil=>simp[Hi]
 |cons a l e=>simp[Hi,e];omega
theorem amS(k:Int)(l:List Elem):Hi (ag k l)=sgL k*aQ l:=by
 rw[<-afA,ag]
 induction l.filter nz with
 |nil=>simp[Hi,aQ]
 |cons a l e=>simp only[asi,Hi,aQ,e,ast]
theorem amT(e:List cI)(l:List Elem):(fC e l).c=aQ (l.filter (gX e)):=by
 have key:∀(l:List Elem) (b:fA),(l.foldl (I8 e) b).c=b.c+aQ (l.filter (gX e)):=by
  intro l
  induction l with
  |nil=>intro b;simp[aQ]
  |cons a l n=>
   intro b;rw[asq,n,asu];by_cases h:gX e a=true
   ·have j:((ee e a.code).getD mI).kind=1:=(by simpa[gX]using h);rw[aq9 h];simp only[I8,zy,aq9 j,aQ];omega
   ·have j:¬((ee e a.code).getD mI).kind=1:=(by simpa[gX]using h);rw[aq8 h];simp only[I8,zy,aq8 j];omega
 have:=key l eo;simpa[fC,eo]using this
theorem amU(p:Elem->Bool)(l:List Elem):aQ ((l.filter nz).filter p)=aQ (l.filter p):=by rw[List.filter_filter];rw[show(fun a=>p a&&nz a)=(fun a=>nz a&&p a)from by funext a;exact Bool.and_comm _ _,<-List.filter_filter,afA]
structure Pb(k:Int)(l:List dE):Prop where
 sorted:RL.O5 l
 kind:∀x∈l,x.kind<=k
theorem Pb.cK(k:Int):Pb k []:=⟨List.Pairwise.nil,by simp⟩
theorem Pc{k:Int}{l:List Elem}{x:dE}(h:x∈ag k l):x.kind=k/\∃y∈l,y.amount≠0/\x=⟨k,y.code,y.amount⟩:=by obtain⟨y,hy,rfl⟩:=arB.1 h;obtain⟨e,j⟩:=ass.1 hy;exact⟨rfl,y,e,by simpa[nz]using j,rfl⟩
theorem amV(k:Int){l:List Elem}(h:iO l):RL.O5 (ag k l):=by unfold Rec.O5 ag;rw[asI];refine(h.filter nz).imp ?_;intro a b e;rw[EP]at e;simp only[RL,Pf,Bool.or_eq_true,arw,arz];exact .inr ⟨trivial,e⟩
theorem Pb.more{k k':Int}{l:List dE}(h:Pb k l)(p:k<k'){e:List Elem}(n:iO e):Pb k' (l++ag k' e):=by
 refine⟨?_,fun x j=>?_⟩
 ·unfold Rec.O5;rw[List.pairwise_append];refine⟨h.sorted,amV k' n,fun x j y hy=>?_⟩;have h1:=h.kind x j;have r:=(Pc hy).1;simp only[RL,Pf,Bool.or_eq_true,arz];exact .inl (by omega)
 ·rcases arE.1 j with h1|h1
  ·have:=h.kind x h1;omega
  ·rw[(Pc h1).1];exact asa _
theorem aaD(x:Elem):iO [x]:=by simp[iO]
theorem lY(k:Int)(l:List Elem):(ag k l).length<=l.length:=by simp[ag];exact arJ _ _
structure Gp(e:List Elem):Prop where
 sorted:iO e
 name:∀x∈e,bI x.code=true
 lo:∀x∈e,-100000000000<=x.amount
 hi:∀x∈e,x.amount<=100000000000
theorem Gp.filter{e:List Elem}(h:Gp e)(p:Elem->Bool):Gp (e.filter p):=
 ⟨List.Pairwise.filter _ h.sorted,fun x j=>h.name x (Dc j),fun x j=>h.lo x (Dc j),fun x j=>h.hi x (Dc j)⟩
structure Pg(x:dE):Prop where
 form:aaE x=true
 lo:-100000000000<=x.amount
 hi:x.amount<=100000000000
theorem MP{k:Int}{e:List Elem}(h:Gp e)(j:1<=k)(l:k<=10)(n:aaF k=false):∀x∈ag k e,Pg x:=by
 intro x p;obtain⟨_,y,hy,r,rfl⟩:=Pc p;have a:=h.lo y hy;have b:=h.hi y hy;refine⟨?_,a,b⟩;have u:BF y.amount=true:=by simp[BF];omega
 simp[aaE,aaG,j,l,u,aaH,n,h.name y hy,r]
theorem aaI{k n:Int}(j:1<=k)(l:k<=10)(p:aaF k=true)(a:-100000000000<=n)(b:n<=100000000000):∀x∈ag k [⟨⟨#[]⟩,n⟩],Pg x:=by
 intro x r;obtain⟨_,y,hy,e,rfl⟩:=Pc r;simp at hy;subst hy;refine⟨?_,a,b⟩;have u:BF n=true:=by simp[BF];omega
 simp only at e;simp[aaE,aaG,j,l,u,aaH,p,e];rfl
theorem Xy{a b:List Elem}(h:ep a b=0):eJ a=true/\b.all nC=true/\eJ (lT a b)=true/\kU a b=lT a b:=by
 rw[Sw]at h;split at h
 ·cases h
 ·split at h
  ·cases h
  ·split at h
   ·cases h
   ·split at h
    ·cases h
    ·split at h
     ·cases h
     ·rename_i n p E F r;have u:eJ a=true:=(by simpa using n);have B:b.all nC=true:=(by simpa using p);refine⟨u,B,?_,by rw[kU,Sw,aq8 n,aq8 p,aq8 E,aq8 F,aq8 r,aq9 rfl]⟩;obtain⟨M,C,r3⟩:=pz.1 u;refine pz.2 ⟨by omega,fun x D=>?_,Xp b r3⟩;obtain⟨G,J,N⟩:=(abB r3 x).1 D;have j:∀y∈a++b,bI y.code=true/\0<=y.amount:=fun y hy=>by
       rcases arE.1 hy with g|g
       ·exact⟨(C y g).1,(C y g).2.1⟩
       ·have:=(TJ y).1 (List.all_eq_true.1 B y g);exact⟨this.1,this.2.1⟩
      obtain⟨y,hy,e⟩:=arX.1 G;have K:y.code=x.code:=by apply afB;simpa using e
      refine⟨by rw[<-K];exact(j y hy).1,?_,?_⟩
      ·rw[J];exact(afC (fun z L=>(j z L).2) _).1
      ·have l:mr (lT a b)=false:=(by simpa using r);have:=(arR.1 l) x D;simp only[big,arz]at this;omega
section
variable {I:aY}
theorem aY.afD(h:I.err=0):I.y.ay<I.r.count/\dQ I.r.cN I.e (bB I.e)=0/\eC I.p.jU I.base (max I.b.c 0) I.y.taken=0/\I.DR=false/\cx I.au=true/\¬(I.first=true/\1000000000<I.net)/\ep I.y.taken I.before=0/\eC I.p.jU I.base (max I.dZ 0) I.gW=0/\ep I.gW I.after=0:=by
 unfold aY.err at h;split at h
 ·cases h
 ·split at h
  ·rename_i j;exact absurd h j
  ·split at h
   ·rename_i j;exact absurd h j
   ·split at h
    ·cases h
    ·split at h
     ·cases h
     ·split at h
      ·cases h
      ·split at h
       ·rename_i j;exact absurd h j
       ·split at h
        ·rename_i j;exact absurd h j
        ·rename_i a b c d e f g i;exact⟨by omega,by simpa using b,by simpa using c,by simpa using d,by simpa using e,f,by simpa using g,by simpa using i,h⟩
theorem amW(I:aY){l:List cm}(h:l.Pairwise (fun a b=>Op.bytesLess a.code.toList b.code.toList=true)):iO (I.gL l)/\iO (I.gZ l):=by unfold aY.gL aY.gZ iO;rw[asI,asI];exact⟨h,h⟩
theorem amX(I:aY)(l:List cm):aQ (I.gL l)=I.jG l:=by
 unfold aY.gL aY.jG
 induction l with
 |nil=>rfl
 |cons a l e=>simp only[asi,aQ,aC,e]
structure afE(ws:List cI)(l:List dE):Prop where
 sorted:RL.O5 l
 ln:∀x∈l,Pg x
 len:l.length<=256
 bal:Hi l=0
 code:∀x∈l,x.kind=1->(ee ws x.code).isSome=true
structure aaJ(I:aY):Prop where
 merged:Gp I.merged
 amY:I.merged.length<=128
 before:Gp I.before
 amZ:I.before.length<=16
 aqE:∀x∈I.before,0<=x.amount
 am0:0<=aQ I.before/\aQ I.before<=max I.b.c 0
 own:Gp (I.gL I.r.aW)
 aqF:∀x∈I.gL I.r.aW,0<=x.amount
 fB:Gp (I.gZ I.r.aW)
 aqG:∀x∈I.gZ I.r.aW,0<=x.amount
 bj:0<=I.bj/\I.bj<=12000000000
 au:-1000000000<=I.au/\I.au<=1000000000
 gj:Gp I.di
 aqH:∀x∈I.di,0<=x.amount
 am1:I.di.length<=16
 am2:0<=aQ I.di/\aQ I.di<=16000000000
 after:Gp I.after
 aqI:∀x∈I.after,0<=x.amount
 am3:I.after.length<=16
 am4:0<=aQ I.after/\aQ I.after<=1000000000
 am5:I.b.c=aQ I.cH
 cbd:-1000000000<=I.b.c/\I.b.c<=1000000000
theorem Y5{R:List Elem}{l:List eP}(n:iO R)(p:∀x∈R,∃o∈l,x.code=o.id):R.length<=l.length:=by
 have r:(R.map (·.code)).Nodup:=by rw[List.Nodup,asI];exact abA n
 have u:∀c∈R.map (·.code),c∈l.map (·.id):=fun c j=>by obtain⟨x,y,rfl⟩:=arB.1 j;obtain⟨o,z,e⟩:=p x y;exact arB.2 ⟨o,z,e.symm⟩
 have:=aaK r u;simpa using this
theorem am6{l:List Elem}(h:dP l=0):∀x∈l,bI x.code=true:=by
 have e:¬128<l.length:=by intro e;rw[dP,aq9 e]at h;cases h
 rw[dP,aq8 e]at h;split at h
 ·cases h
 ·rename_i j;intro x n;simp only[Bool.not_eq_true,arR]at j;simpa using j x n
theorem am7{l:List cm}{f:cm->Int}(h:∀s∈l,0<=f s/\f s<=1000000000)(n:l.length<=12):0<=aC (l.map f)/\aC (l.map f)<=12000000000:=by have:=kV (l:=l.map f) (B:=1000000000) (fun x e=>by obtain⟨s,j,rfl⟩:=arB.1 e;exact h s j);rw[arV]at this;omega
theorem nN.parts(h:nN I)(M:I.err=0):aaJ I:=by
 obtain⟨N,O,P,Q,R,D,S,u,T⟩:=aY.afD M;obtain⟨_,G,VW,U⟩:=GZ O;obtain⟨_,⟨V,X⟩,⟨t0,t1⟩,⟨i0,i1⟩,_⟩:=L0 U;have E:I.b=fC I.r.cN (bB I.e):=rfl;obtain⟨J,Y⟩:=VY G;have Z:I.aF<=1000000000:=by unfold aY.aF;rw[E];omega
 have n:∀s∈I.r.aW,(0<=(I.dH s).az/\(I.dH s).az<=1000000000)/\0<=(I.dH s).aS/\(I.dH s).aS<=1000000000:=fun s l=>
  h.QM N Z l (by have:=arR.1 Q s l;simpa using this)
 obtain⟨b1,z,b3,b4,b5⟩:=Fk (before:=true) P;obtain⟨f1,f2,f3,f4,f5⟩:=Fk (before:=false) u;obtain⟨_,_,_,g4,g5⟩:=afF u;have K:=amW I h.r.lh;have hA:afG 1000000000 I.p.orders I.di\/(I.first=false/\I.di=I.kept):=by
  cases F:I.first
  ·exact .inr ⟨rfl,by unfold aY.di;rw[F];rfl⟩
  ·left;have hn:I.net<=1000000000:=by
    apply Decidable.byContradiction;intro hh;exact D ⟨F,by omega⟩
   obtain⟨a,_⟩:=Us h.r.sh h.p.orders (net:=I.net) (by unfold aY.net;omega) hn h.p.d0 h.p.d1;have e:I.di=EA I.r.sh I.net I.p.deps I.p.orders:=(by unfold aY.di;rw[F];rfl);rw[e];exact⟨a.pos,fun x j=>by have:=a.hi x j;omega,a.name,a.code,a.sorted,a.lo,by have:=a.sum;omega⟩
 have B:Gp I.di/\(∀x∈I.di,0<=x.amount)/\I.di.length<=16/\0<=aQ I.di/\aQ I.di<=16000000000:=by
  rcases hA with a|⟨_,a⟩
  ·refine⟨⟨a.sorted,a.name,fun x j=>by have:=a.pos x j;omega,fun x j=>by have:=a.hi x j;omega⟩,a.pos,?_,a.lo,by have:=a.sum;omega⟩;have:=Y5 a.sorted a.code;have:=h.p.orders.len;omega
  ·rw[a];obtain⟨k1,C,k3⟩:=pz.1 h.kept.Y4;have L:=h.kept.hi;have k5:=h.kept.len;have:=NB I.kept 1000000000 (fun x j=>⟨(C x j).2.1,L x j⟩);refine⟨⟨k3,fun x j=>(C x j).1,fun x j=>by have:=(C x j).2.1;omega,fun x j=>by have:=L x j;omega⟩,fun x j=>(C x j).2.1,k5,this.1,?_⟩;omega
 have MQ:∀x∈bB I.e,bI x.code=true:=fun x j=>by obtain⟨y,hy,e⟩:=U8 j;rw[<-e];exact am6 G y hy
 refine⟨⟨List.Pairwise.filter _ (IW _),fun x j=>MQ x (Dc j),fun x j=>?_,fun x j=>?_⟩,?_,⟨b1,fun x j=>(z x j).1,fun x j=>?_,fun x j=>?_⟩,b5,fun x j=>(z x j).2.1,⟨b3,b4⟩,⟨K.1,?_,?_,?_⟩,?_,⟨K.2,?_,?_,?_⟩,?_,?_,QI.1 R,B.1,B.2.1,B.2.2.1,B.2.2.2,⟨f1,fun x j=>(f2 x j).1,fun x j=>?_,fun x j=>?_⟩,fun x j=>(f2 x j).2.1,f5,⟨f3,?_⟩,?_,?_⟩
 ·have:=J x (Dc j);omega
 ·have:=J x (Dc j);omega
 ·exact arq (arJ _ _) Y
 ·have:=(z x j).2.1;omega
 ·have:=(z x j).2.2;omega
 ·intro x j;obtain⟨s,l,rfl⟩:=arB.1 j;exact(h.r.nO s l).name
 ·intro x j;obtain⟨s,l,rfl⟩:=arB.1 j;have:=n s l;show _<=(I.dH s).az;omega
 ·intro x j;obtain⟨s,l,rfl⟩:=arB.1 j;have:=n s l;show(I.dH s).az<=_;omega
 ·intro x j;obtain⟨s,l,rfl⟩:=arB.1 j;exact(n s l).1.1
 ·intro x j;obtain⟨s,l,rfl⟩:=arB.1 j;exact(h.r.nO s l).name
 ·intro x j;obtain⟨s,l,rfl⟩:=arB.1 j;have:=n s l;show _<=(I.dH s).aS;omega
 ·intro x j;obtain⟨s,l,rfl⟩:=arB.1 j;have:=n s l;show(I.dH s).aS<=_;omega
 ·intro x j;obtain⟨s,l,rfl⟩:=arB.1 j;exact(n s l).2.1
 ·exact am7 (fun s l=>(n s l).1) h.r.CK
 ·have:=(f2 x j).2.1;omega
 ·have:=(f2 x j).2.2;omega
 ·show aQ I.after<=_;have:aQ I.after<=max I.dZ 0:=f4;omega
 ·rw[E,amT];exact(amU _ _).symm
 ·rw[E];exact⟨V,X⟩
theorem aaJ.aaL(P:aaJ I)(z:missing I.r.cN (bB I.e)=false)(K:I.r.aW.length<=12):afE I.r.cN I.lines:=by
 have p:=P.merged.filter (gX I.r.cN);have u:=P.merged.filter fun x=>!gX I.r.cN x;have c:=P.cbd;have L:-100000000000<=I.kt/\I.kt<=100000000000:=by have:=P.am0;have:=P.bj;have:=P.au;have:=P.am2;have:=P.am4;unfold aY.kt aY.dZ aY.AP aY.L3 aY.GY;omega
 have j:∀x∈ag 9 [⟨⟨#[]⟩,max I.kt 0⟩],Pg x:=aaI (by omega) (by omega) rfl (by omega) (by omega);have n:∀x∈ag 10 [⟨⟨#[]⟩,max (-I.kt) 0⟩],Pg x:=aaI (by omega) (by omega) rfl (by omega) (by omega);have B:∀x∈ag 6 [⟨⟨#[]⟩,I.au⟩],Pg x:=aaI (by omega) (by omega) rfl (by have:=P.au;omega) (by have:=P.au;omega);refine⟨?_,?_,?_,?_,?_⟩
 ·have C:=(Pb.cK 0).more (k':=1) (by omega) p.sorted;exact((((((((((C.more (k':=2) (by omega) u.sorted).more (k':=3) (by omega) P.before.sorted).more (k':=4) (by omega) P.own.sorted).more (k':=5) (by omega) P.fB.sorted).more (k':=6) (by omega) (aaD _)).more (k':=7) (by omega) P.gj.sorted).more (k':=8) (by omega) P.after.sorted).more (k':=9) (by omega) (aaD _)).more (k':=10) (by omega) (aaD _))).sorted
 ·intro x hx;simp only[aY.lines,arE]at hx;rcases hx with((((((((hx|hx)|hx)|hx)|hx)|hx)|hx)|hx)|hx)|hx
  ·exact MP p (by omega) (by omega) rfl x hx
  ·exact MP u (by omega) (by omega) rfl x hx
  ·exact MP P.before (by omega) (by omega) rfl x hx
  ·exact MP P.own (by omega) (by omega) rfl x hx
  ·exact MP P.fB (by omega) (by omega) rfl x hx
  ·exact B x hx
  ·exact MP P.gj (by omega) (by omega) rfl x hx
  ·exact MP P.after (by omega) (by omega) rfl x hx
  ·exact j x hx
  ·exact n x hx
 ·have M:I.cH.length+I.cQ.length=I.merged.length:=by
   unfold aY.cH aY.cQ
   induction I.merged with
   |nil=>rfl
   |cons a l N=>rw[asu,asu];cases gX I.r.cN a<;>simp<;>omega
  have O:=lY 1 I.cH;have Q:=lY 2 I.cQ;have R:=lY 3 I.before;have S:=lY 4 (I.gL I.r.aW);have T:=lY 5 (I.gZ I.r.aW);have D:=lY 6 [⟨⟨#[]⟩,I.au⟩];have U:=lY 7 I.di;have V:=lY 8 I.after;have E:=lY 9 [⟨⟨#[]⟩,max I.kt 0⟩];have F:=lY 10 [⟨⟨#[]⟩,max (-I.kt) 0⟩];have X:=P.amY;have Y:=P.amZ;have Z:=P.am1;have b4:=P.am3;have b5:(I.gL I.r.aW).length=I.r.aW.length:=by simp[aY.gL]
  have b6:(I.gZ I.r.aW).length=I.r.aW.length:=by simp[aY.gZ]
  simp only[asF]at D E F;simp only[aY.lines,arl];omega
 ·simp only[aY.lines,amR,amS,amX];have e:=P.am5;simp only[sgL,aQ];unfold aY.kt aY.dZ aY.AP aY.L3 aY.GY aY.bj;simp;omega
 ·intro x hx hk;simp only[aY.lines,arE]at hx;rcases hx with((((((((hx|hx)|hx)|hx)|hx)|hx)|hx)|hx)|hx)|hx
  ·obtain⟨_,y,hy,_,rfl⟩:=Pc hx;have G:y∈bB I.e:=Dc (Dc hy);have:=arR.1 z y G;cases J:ee I.r.cN y.code
   ·simp[J]at this
   ·rfl
  all_goals(have h9:=(Pc hx).1;omega)
theorem nN.aaL(h:nN I)(e:I.err=0):afE I.r.cN I.lines:=
 (h.parts e).aaL (GZ (aY.afD e).2.1).2.2.1 h.r.CK
end
