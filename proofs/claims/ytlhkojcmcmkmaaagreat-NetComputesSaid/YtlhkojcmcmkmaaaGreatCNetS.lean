/- Conditions: as stated. -/
import Derived.Test.YtlhkojcmcmkmaaaGreatCRec
namespace Go.Proofs.YtlhkojcmcmkmaaaGreat
open Go.Proofs.Tryz
open Go.RowKit
def sgL(k:Int):Int:=if k=1 then 1 else if k=3 then-1 else if k=4 then-1 else if k=6 then-1 else if k=7 then-1 else if k=8 then-1 else if k=9 then-1 else if k=10 then 1 else 0
def IM:List cH->Int
 |[]=>0
 |x::r=>sgL x.kind*x.amount+IM r
theorem an8(l m:List cH):IM (l++m)=IM l+IM m:=by
 induction l with
 |nil=>simp[IM]
 |cons a l e=>simp[IM,e];omega
theorem an9(k:Int)(l:List Elem):IM (ag k l)=sgL k*aB l:=by
 rw[<-Vt,ag]
 induction l.filter nz with
 |nil=>simp[IM,aB]
 |cons a l e=>simp only[auW,IM,aB,e,Int.mul_add]
theorem aoa(e:List dr)(l:List Elem):(fN e l).c=aB (l.filter (iB e)):=by
 have key:∀(l:List Elem) (b:eU),(l.foldl (JP e) b).c=b.c+aB (l.filter (iB e)):=by
  intro l
  induction l with
  |nil=>intro b;simp[aB]
  |cons a l n=>
   intro b;rw[au1,n,auM];by_cases h:iB e a=true
   ·have j:((iA e a.code).getD nD).kind=1:=(by simpa[iB]using h);rw[atP h];simp only[JP,Am,atP j,aB];omega
   ·have j:¬((iA e a.code).getD nD).kind=1:=(by simpa[iB]using h);rw[atO h];simp only[JP,Am,atO j];omega
 have:=key l ez;simpa[fN,ez]using this
theorem aob(p:Elem->Bool)(l:List Elem):aB ((l.filter nz).filter p)=aB (l.filter p):=by rw[List.filter_filter];rw[show(fun a=>p a&&nz a)=(fun a=>nz a&&p a)from by funext a;exact Bool.and_comm _ _,<-List.filter_filter,Vt]
structure Qc(k:Int)(l:List cH):Prop where
 sorted:RL.Mq l
 kind:∀x∈l,x.kind<=k
theorem Qc.cC(k:Int):Qc k []:=⟨List.Pairwise.nil,by simp⟩
theorem I6{k:Int}{l:List Elem}{x:cH}(h:x∈ag k l):x.kind=k/\∃y∈l,y.amount≠0/\x=⟨k,y.code,y.amount⟩:=by obtain⟨y,hy,rfl⟩:=aue.1 h;obtain⟨e,j⟩:=auR.1 hy;exact⟨rfl,y,e,by simpa[nz]using j,rfl⟩
theorem aoc(k:Int){l:List Elem}(h:jb l):RL.Mq (ag k l):=by unfold Rec.Mq ag;rw[au3];refine(h.filter nz).imp ?_;intro a b e;rw[FB]at e;simp only[RL,Qd,avn,aub,auc];exact .inr ⟨trivial,e⟩
theorem Qc.more{k k':Int}{l:List cH}(h:Qc k l)(p:k<k'){e:List Elem}(n:jb e):Qc k' (l++ag k' e):=by
 refine⟨?_,fun x j=>?_⟩
 ·unfold Rec.Mq;rw[avr];refine⟨h.sorted,aoc k' n,fun x j y hy=>?_⟩;have h1:=h.kind x j;have r:=(I6 hy).1;simp only[RL,Qd,avn,auc];exact .inl (by omega)
 ·rcases aul.1 j with h1|h1
  ·have:=h.kind x h1;omega
  ·rw[(I6 h1).1];exact auJ _
theorem abA(x:Elem):jb [x]:=by simp[jb]
theorem mM(k:Int)(l:List Elem):(ag k l).length<=l.length:=by simp[ag];exact auk _ _
structure Ej(e:List Elem):Prop where
 sorted:jb e
 name:∀x∈e,bI x.code=true
 lo:∀x∈e,-100000000000<=x.amount
 hi:∀x∈e,x.amount<=100000000000
theorem Ej.filter{e:List Elem}(h:Ej e)(p:Elem->Bool):Ej (e.filter p):=
 ⟨List.Pairwise.filter _ h.sorted,fun x j=>h.name x (CJ j),fun x j=>h.lo x (CJ j),fun x j=>h.hi x (CJ j)⟩
structure Qe(x:cH):Prop where
 form:abB x=true
 lo:-100000000000<=x.amount
 hi:x.amount<=100000000000
theorem NV{k:Int}{e:List Elem}(h:Ej e)(j:1<=k)(l:k<=10)(n:abC k=false):∀x∈ag k e,Qe x:=by
 intro x p;obtain⟨_,y,hy,r,rfl⟩:=I6 p;have a:=h.lo y hy;have b:=h.hi y hy;refine⟨?_,a,b⟩;have u:Cf y.amount=true:=by simp[Cf];omega
 simp[abB,abD,j,l,u,abE,n,h.name y hy,r]
theorem abF{k n:Int}(j:1<=k)(l:k<=10)(p:abC k=true)(a:-100000000000<=n)(b:n<=100000000000):∀x∈ag k [⟨⟨#[]⟩,n⟩],Qe x:=by
 intro x r;obtain⟨_,y,hy,e,rfl⟩:=I6 r;simp at hy;subst hy;refine⟨?_,a,b⟩;have u:Cf n=true:=by simp[Cf];omega
 simp only at e;simp[abB,abD,j,l,u,abE,p,e];rfl
theorem Vf{a b:List Elem}(h:fh a b=0):fE a=true/\b.all oT=true/\fE (nN a b)=true/\nj a b=nN a b:=by
 rw[TY]at h;split at h
 ·cases h
 ·split at h
  ·cases h
  ·split at h
   ·cases h
   ·split at h
    ·cases h
    ·split at h
     ·cases h
     ·rename_i l n E F p;have r:fE a=true:=(by simpa using l);have u:b.all oT=true:=(by simpa using n);refine⟨r,u,?_,by rw[nj,TY,atO l,atO n,atO E,atO F,atO p,atP rfl]⟩;obtain⟨N,B,C⟩:=BQ.1 r;refine BQ.2 ⟨by omega,fun x D=>?_,YY b C⟩;obtain⟨G,J,O⟩:=(ac1 C x).1 D;have j:∀y∈a++b,bI y.code=true/\0<=y.amount:=fun y hy=>by
       rcases aul.1 hy with g|g
       ·exact⟨(B y g).1,(B y g).2.1⟩
       ·have:=(U3 y).1 (List.all_eq_true.1 u y g);exact⟨this.1,this.2.1⟩
      obtain⟨y,hy,e⟩:=auy.1 G;have K:y.code=x.code:=by apply agR;simpa using e
      refine⟨by rw[<-K];exact(j y hy).1,?_,?_⟩
      ·rw[J];exact(agS (fun z L=>(j z L).2) _).1
      ·have M:nk (nN a b)=false:=(by simpa using p);have:=(auC.1 M) x D;simp only[big,auc]at this;omega
section
variable {I:bf}
theorem bf.abG(h:I.err=0):I.y.az<I.r.count/\eL I.r.fZ I.e (bG I.e)=0/\fj I.p.kN I.base (max I.b.c 0) I.y.taken=0/\I.Em=false/\cQ I.aw=true/\¬(I.first=true/\1000000000<I.net)/\fh I.y.taken I.before=0/\fj I.p.kN I.base (max I.eu 0) I.iR=0/\fh I.iR I.after=0:=by
 unfold bf.err at h;split at h
 ·cases h
 ·split at h
  ·rename_i j;exact absurd h j
  ·split at h
   ·rename_i j;exact absurd h j
   ·split at h
    ·cases h
    ·split at h
     ·cases h
     ·split at h
      ·cases h
      ·split at h
       ·rename_i j;exact absurd h j
       ·split at h
        ·rename_i j;exact absurd h j
        ·rename_i a b c d e f g i;exact⟨by omega,by simpa using b,by simpa using c,by simpa using d,by simpa using e,f,by simpa using g,by simpa using i,h⟩
theorem aod(I:bf){l:List dx}(h:l.Pairwise (fun a b=>Op.bytesLess a.code.toList b.code.toList=true)):jb (I.gw l)/\jb (I.iu l):=by unfold bf.gw bf.iu jb;rw[au3,au3];exact⟨h,h⟩
theorem adH(I:bf)(l:List dx):aB (I.gw l)=I.jP l:=by
 unfold bf.gw bf.jP
 induction l with
 |nil=>rfl
 |cons a l e=>simp only[auW,aB,ax,e]
structure agT(ws:List dr)(l:List cH):Prop where
 sorted:RL.Mq l
 ln:∀x∈l,Qe x
 len:l.length<=256
 bal:IM l=0
 code:∀x∈l,x.kind=1->(iA ws x.code).isSome=true
structure abH(I:bf):Prop where
 merged:Ej I.merged
 aoe:I.merged.length<=128
 before:Ej I.before
 aof:I.before.length<=16
 aj6:∀x∈I.before,0<=x.amount
 adI:0<=aB I.before/\aB I.before<=max I.b.c 0
 own:Ej (I.gw I.r.bF)
 aj7:∀x∈I.gw I.r.bF,0<=x.amount
 fA:Ej (I.iu I.r.bF)
 aj8:∀x∈I.iu I.r.bF,0<=x.amount
 bj:0<=I.bj/\I.bj<=12000000000
 aw:-1000000000<=I.aw/\I.aw<=1000000000
 gB:Ej I.dc
 aj9:∀x∈I.dc,0<=x.amount
 aog:I.dc.length<=16
 adJ:0<=aB I.dc/\aB I.dc<=16000000000
 after:Ej I.after
 aka:∀x∈I.after,0<=x.amount
 aoh:I.after.length<=16
 adK:0<=aB I.after/\aB I.after<=1000000000
 adG:I.b.c=aB I.cD
 cbd:-1000000000<=I.b.c/\I.b.c<=1000000000
theorem V1{R:List Elem}{l:List bn}(n:jb R)(p:∀x∈R,∃o∈l,x.code=o.id):R.length<=l.length:=by
 have r:(R.map (·.code)).Nodup:=by rw[List.Nodup,au3];exact ac0 n
 have u:∀c∈R.map (·.code),c∈l.map (·.id):=fun c j=>by obtain⟨x,y,rfl⟩:=aue.1 j;obtain⟨o,z,e⟩:=p x y;exact aue.2 ⟨o,z,e.symm⟩
 have:=abI r u;simpa using this
theorem aoi{l:List Elem}(h:ey l=0):∀x∈l,bI x.code=true:=by
 have e:¬128<l.length:=by intro e;rw[ey,atP e]at h;cases h
 rw[ey,atO e]at h;split at h
 ·cases h
 ·rename_i j;intro x n;simp only[Bool.not_eq_true,auC]at j;simpa using j x n
theorem aoj{l:List dx}{f:dx->Int}(h:∀s∈l,0<=f s/\f s<=1000000000)(n:l.length<=12):0<=ax (l.map f)/\ax (l.map f)<=12000000000:=by have:=nv (l:=l.map f) (B:=1000000000) (fun x e=>by obtain⟨s,j,rfl⟩:=aue.1 e;exact h s j);rw[auq]at this;omega
theorem mJ.parts(h:mJ I)(O:I.err=0):abH I:=by
 obtain⟨P,Q,D,R,E,F,S,u,T⟩:=bf.abG O;obtain⟨_,K,Xw,U⟩:=Ik Q;obtain⟨_,⟨V,X⟩,⟨t0,t1⟩,⟨i0,i1⟩,_⟩:=MP U;have G:I.b=fN I.r.fZ (bG I.e):=rfl;obtain⟨L,Y⟩:=Xy K;have Z:I.aO<=1000000000:=by unfold bf.aO;rw[G];omega
 have n:∀s∈I.r.bF,(0<=(I.fS s).aD/\(I.fS s).aD<=1000000000)/\0<=(I.fS s).aV/\(I.fS s).aV<=1000000000:=fun s l=>
  h.V5 P Z l (by have:=auC.1 R s l;simpa using this)
 obtain⟨b1,z,b3,b4,b5⟩:=F5 (before:=true) D;obtain⟨f1,f2,f3,f4,f5⟩:=F5 (before:=false) u;obtain⟨_,_,_,g4,g5⟩:=agU u;have M:=aod I h.r.jr;have hA:agV 1000000000 I.p.orders I.dc\/(I.first=false/\I.dc=I.kept):=by
  cases J:I.first
  ·exact .inr ⟨rfl,by unfold bf.dc;rw[J];rfl⟩
  ·left;have hn:I.net<=1000000000:=by
    apply avx;intro hh;exact F ⟨J,by omega⟩
   obtain⟨a,_⟩:=VM h.r.sh h.p.orders (net:=I.net) (by unfold bf.net;omega) hn h.p.d0 h.p.d1;have e:I.dc=B6 I.r.sh I.net I.p.deps I.p.orders:=(by unfold bf.dc;rw[J];rfl);rw[e];exact⟨a.pos,fun x j=>by have:=a.hi x j;omega,a.name,a.code,a.sorted,a.lo,by have:=a.sum;omega⟩
 have B:Ej I.dc/\(∀x∈I.dc,0<=x.amount)/\I.dc.length<=16/\0<=aB I.dc/\aB I.dc<=16000000000:=by
  rcases hA with a|⟨_,a⟩
  ·refine⟨⟨a.sorted,a.name,fun x j=>by have:=a.pos x j;omega,fun x j=>by have:=a.hi x j;omega⟩,a.pos,?_,a.lo,by have:=a.sum;omega⟩;have:=V1 a.sorted a.code;have:=h.p.orders.len;omega
  ·rw[a];obtain⟨k1,C,k3⟩:=BQ.1 h.kept.aav;have N:=h.kept.hi;have k5:=h.kept.len;have:=OM I.kept 1000000000 (fun x j=>⟨(C x j).2.1,N x j⟩);refine⟨⟨k3,fun x j=>(C x j).1,fun x j=>by have:=(C x j).2.1;omega,fun x j=>by have:=N x j;omega⟩,fun x j=>(C x j).2.1,k5,this.1,?_⟩;omega
 have NW:∀x∈bG I.e,bI x.code=true:=fun x j=>by obtain⟨y,hy,e⟩:=Wz j;rw[<-e];exact aoi K y hy
 refine⟨⟨List.Pairwise.filter _ (Jv _),fun x j=>NW x (CJ j),fun x j=>?_,fun x j=>?_⟩,?_,⟨b1,fun x j=>(z x j).1,fun x j=>?_,fun x j=>?_⟩,b5,fun x j=>(z x j).2.1,⟨b3,b4⟩,⟨M.1,?_,?_,?_⟩,?_,⟨M.2,?_,?_,?_⟩,?_,?_,V2.1 E,B.1,B.2.1,B.2.2.1,B.2.2.2,⟨f1,fun x j=>(f2 x j).1,fun x j=>?_,fun x j=>?_⟩,fun x j=>(f2 x j).2.1,f5,⟨f3,?_⟩,?_,?_⟩
 ·have:=L x (CJ j);omega
 ·have:=L x (CJ j);omega
 ·exact at7 (auk _ _) Y
 ·have:=(z x j).2.1;omega
 ·have:=(z x j).2.2;omega
 ·intro x j;obtain⟨s,l,rfl⟩:=aue.1 j;exact(h.r.MV s l).name
 ·intro x j;obtain⟨s,l,rfl⟩:=aue.1 j;have:=n s l;show _<=(I.fS s).aD;omega
 ·intro x j;obtain⟨s,l,rfl⟩:=aue.1 j;have:=n s l;show(I.fS s).aD<=_;omega
 ·intro x j;obtain⟨s,l,rfl⟩:=aue.1 j;exact(n s l).1.1
 ·intro x j;obtain⟨s,l,rfl⟩:=aue.1 j;exact(h.r.MV s l).name
 ·intro x j;obtain⟨s,l,rfl⟩:=aue.1 j;have:=n s l;show _<=(I.fS s).aV;omega
 ·intro x j;obtain⟨s,l,rfl⟩:=aue.1 j;have:=n s l;show(I.fS s).aV<=_;omega
 ·intro x j;obtain⟨s,l,rfl⟩:=aue.1 j;exact(n s l).2.1
 ·exact aoj (fun s l=>(n s l).1) h.r.Jk
 ·have:=(f2 x j).2.1;omega
 ·have:=(f2 x j).2.2;omega
 ·show aB I.after<=_;have:aB I.after<=max I.eu 0:=f4;omega
 ·rw[G,aoa];exact(aob _ _).symm
 ·rw[G];exact⟨V,X⟩
theorem abH.RD(P:abH I)(z:missing I.r.fZ (bG I.e)=false)(K:I.r.bF.length<=12):agT I.r.fZ I.lines:=by
 have p:=P.merged.filter (iB I.r.fZ);have u:=P.merged.filter fun x=>!iB I.r.fZ x;have c:=P.cbd;have L:-100000000000<=I.iF/\I.iF<=100000000000:=by have:=P.adI;have:=P.bj;have:=P.aw;have:=P.adJ;have:=P.adK;unfold bf.iF bf.eu bf.Es bf.MT bf.Ij;omega
 have j:∀x∈ag 9 [⟨⟨#[]⟩,max I.iF 0⟩],Qe x:=abF (by omega) (by omega) rfl (by omega) (by omega);have n:∀x∈ag 10 [⟨⟨#[]⟩,max (-I.iF) 0⟩],Qe x:=abF (by omega) (by omega) rfl (by omega) (by omega);have B:∀x∈ag 6 [⟨⟨#[]⟩,I.aw⟩],Qe x:=abF (by omega) (by omega) rfl (by have:=P.aw;omega) (by have:=P.aw;omega);refine⟨?_,?_,?_,?_,?_⟩
 ·have C:=(Qc.cC 0).more (k':=1) (by omega) p.sorted;exact((((((((((C.more (k':=2) (by omega) u.sorted).more (k':=3) (by omega) P.before.sorted).more (k':=4) (by omega) P.own.sorted).more (k':=5) (by omega) P.fA.sorted).more (k':=6) (by omega) (abA _)).more (k':=7) (by omega) P.gB.sorted).more (k':=8) (by omega) P.after.sorted).more (k':=9) (by omega) (abA _)).more (k':=10) (by omega) (abA _))).sorted
 ·intro x hx;simp only[bf.lines,aul]at hx;rcases hx with((((((((hx|hx)|hx)|hx)|hx)|hx)|hx)|hx)|hx)|hx
  ·exact NV p (by omega) (by omega) rfl x hx
  ·exact NV u (by omega) (by omega) rfl x hx
  ·exact NV P.before (by omega) (by omega) rfl x hx
  ·exact NV P.own (by omega) (by omega) rfl x hx
  ·exact NV P.fA (by omega) (by omega) rfl x hx
  ·exact B x hx
  ·exact NV P.gB (by omega) (by omega) rfl x hx
  ·exact NV P.after (by omega) (by omega) rfl x hx
  ·exact j x hx
  ·exact n x hx
 ·have M:I.cD.length+I.cG.length=I.merged.length:=by
   unfold bf.cD bf.cG
   induction I.merged with
   |nil=>rfl
   |cons a l N=>rw[auM,auM];cases iB I.r.fZ a<;>simp<;>omega
  have O:=mM 1 I.cD;have Q:=mM 2 I.cG;have R:=mM 3 I.before;have S:=mM 4 (I.gw I.r.bF);have T:=mM 5 (I.iu I.r.bF);have D:=mM 6 [⟨⟨#[]⟩,I.aw⟩];have U:=mM 7 I.dc;have V:=mM 8 I.after;have E:=mM 9 [⟨⟨#[]⟩,max I.iF 0⟩];have F:=mM 10 [⟨⟨#[]⟩,max (-I.iF) 0⟩];have X:=P.aoe;have Y:=P.aof;have Z:=P.aog;have b4:=P.aoh;have b5:(I.gw I.r.bF).length=I.r.bF.length:=by simp[bf.gw]
  have b6:(I.iu I.r.bF).length=I.r.bF.length:=by simp[bf.iu]
  simp only[List.length_singleton]at D E F;simp only[bf.lines,at3];omega
 ·simp only[bf.lines,an8,an9,adH];have e:=P.adG;simp only[sgL,aB];unfold bf.iF bf.eu bf.Es bf.MT bf.Ij bf.bj;simp;omega
 ·intro x hx hk;simp only[bf.lines,aul]at hx;rcases hx with((((((((hx|hx)|hx)|hx)|hx)|hx)|hx)|hx)|hx)|hx
  ·obtain⟨_,y,hy,_,rfl⟩:=I6 hx;have G:y∈bG I.e:=CJ (CJ hy);have:=auC.1 z y G;cases J:iA I.r.fZ y.code
   ·simp[J]at this
   ·rfl
  all_goals(have h9:=(I6 hx).1;omega)
theorem mJ.RD(h:mJ I)(e:I.err=0):agT I.r.fZ I.lines:=
 (h.parts e).RD (Ik (bf.abG e).2.1).2.2.1 h.r.Jk
end
