/- Conditions: as stated. -/
import Derived.Test.YtlhkojcmcmkmaaaGreatKR30b
set_option maxRecDepth 100000
set_option maxHeartbeats 4000000
namespace Go.Proofs.YtlhkojcmcmkmaaaGreat
open Go.Proofs.Tryz
structure Rec(α κ:Type) where
 key:α->κ
 Qs:α->Int
 set:α->Int->α
 lt:κ->κ->Bool
structure Rec.Law{α κ:Type}(R:Rec α κ):Prop where
 ao9:∀x n,R.key (R.set x n)=R.key x
 apa:∀x n,R.Qs (R.set x n)=n
 ext:∀x y,R.key x=R.key y->R.Qs x=R.Qs y->x=y
 irrefl:∀a,R.lt a a=false
 trans:∀a b c,R.lt a b=true->R.lt b c=true->R.lt a c=true
 total:∀a b,R.lt a b=false->R.lt b a=false->a=b
section
variable {α κ:Type}[DecidableEq κ](R:Rec α κ)
def Rec.O5(l:List α):Prop:=l.Pairwise (fun a b=>R.lt (R.key a) (R.key b)=true)
variable {R}
end
section
variable {α κ:Type}{R:Rec α κ}
end
section
variable {α κ:Type}[DecidableEq κ]{R:Rec α κ}
end
section
variable {α κ:Type}{R:Rec α κ}
end
section
variable {α κ:Type}[DecidableEq κ]{R:Rec α κ}
end
open Go.RowKit
structure dE where
 kind:Int
 code:ByteArray
 amount:Int
deriving DecidableEq
def iM(x:dE):List Value:=[.int .i64 x.kind,.string x.code,.int .i64 x.amount]
theorem ey(x:dE):(iM x).length=3:=rfl
theorem zL(x:dE):∀u∈iM x,u.oneCell'=true:=by intro u hu;simp[iM]at hu;rcases hu with rfl|rfl|rfl<;>rfl
theorem Bq:(Tryz.prog.info? 30).map (fun i=>(i.zero,i.size,i.bytes))=some (some (.agg #[.int .i64 0,.string ⟨#[]⟩,.int .i64 0]),3,32):=by kernel_rfl
def aaF(k:Int):Bool:=k==6||k==9||k==10
def aaH(x:dE):Bool:=if aaF x.kind then decide (x.code.size=0)else bI x.code
def aaG(x:dE):Bool:=decide (1<=x.kind)&&decide (x.kind<=10)&&BF x.amount&&aaH x
def Pf(a b:Int×List UInt8):Bool:=decide (a.1<b.1)||(decide (a.1=b.1)&&decide (a.2<b.2))
def RL:Rec dE (Int×List UInt8):=⟨fun x=>(x.kind,x.code.data.toList),(·.amount),fun x n=>⟨x.kind,x.code,n⟩,Pf⟩
theorem afB{a b:ByteArray}(h:a.data.toList=b.data.toList):a=b:=by obtain⟨⟨l⟩⟩:=a;obtain⟨⟨m⟩⟩:=b;simp at h;rw[h]
theorem Sg:RL.Law where
 ao9 _ _:=rfl
 apa _ _:=rfl
 ext x y j e:=by obtain⟨a,b,c⟩:=x;obtain⟨a',r,u⟩:=y;simp only[RL,Prod.mk.injEq]at j e;obtain⟨rfl,j⟩:=j;rw[afB j,e]
 irrefl a:=by simp[RL,Pf,asG]
 trans a b c j e:=by
  simp only[RL,Pf,Bool.or_eq_true,arw,arz]at*;rcases j with j|⟨j,l⟩
  ·rcases e with e|⟨e,n⟩
   ·left;omega
   ·left;omega
  ·rcases e with e|⟨e,n⟩
   ·left;omega
   ·exact .inr ⟨by omega,List.lt_trans l n⟩
 total a b j e:=by
  simp only[RL,Pf,Bool.or_eq_false_iff,asV,ar4]at*;have l:a.1=b.1:=by omega
  have n:¬a.2<b.2:=j.2.resolve_left (fun h=>h l);have p:¬b.2<a.2:=e.2.resolve_left (fun h=>h l.symm);exact Prod.ext l (List.le_antisymm (asb.1 p) (asb.1 n))
structure pF where
 cN:List cI
 aW:List cm
 je:zS
 count:Int
 sh:kL
 recover:Int
structure Uj where
 deps:Int
 jU:List bK
 orders:List eP
 others:List (List Int×Int)
structure Bv where
 ay:Int
 aw:Int
 aO:Int
 aF:List Int
 taken:List Elem
structure aY where
 r:pF
 p:Uj
 y:Bv
 kept:List Elem
 first:Bool
 e:List Elem
def ag(kind:Int)(l:List Elem):List dE:=(l.filter nz).map fun x=>⟨kind,x.code,x.amount⟩
def gX(e:List cI)(x:Elem):Bool:=decide (((ee e x.code).getD mI).kind=1)
namespace aY
variable (I:aY)
def b:fA:=fC I.r.cN (bB I.e)
def merged:List Elem:=(bB I.e).filter nz
def cH:List Elem:=I.merged.filter (gX I.r.cN)
def cQ:List Elem:=I.merged.filter fun x=>!gX I.r.cN x
def base:Int:=max I.b.c 0
def before:List Elem:=il I.p.jU true I.base (max I.b.c 0) I.y.taken
def GY:Int:=I.b.c-aQ I.before
def aF:Int:=max I.b.i 0
def ed:List (List Int×Int):=(I.y.aF,I.aF)::I.p.others
def dH(s:cm):fY:=(DB s I.y.aF.length I.ed).getD 0 jb
def DR:Bool:=I.r.aW.any fun s=>fG (gw s I.y.aF.length I.ed)
def gL(l:List cm):List Elem:=l.map fun s=>⟨s.code,(I.dH s).az⟩
def gZ(l:List cm):List Elem:=l.map fun s=>⟨s.code,(I.dH s).aS⟩
def jG(l:List cm):Int:=aC (l.map fun s=>(I.dH s).az)
def jH(l:List cm):Int:=aC (l.map fun s=>if s.cA then(I.dH s).az else 0)
def bj:Int:=I.jG I.r.aW
def aw:Int:=max (I.b.t-aQ I.before-I.jH I.r.aW) 0
def L3:Int:=I.GY-I.bj
def au:Int:=ky I.r.je I.r.count I.y.ay I.y.aw I.y.aO I.aw
def AP:Int:=I.L3-I.au
def net:Int:=max (I.AP-max (I.b.c-I.b.a) 0) 0
def di:List Elem:=if I.first then EA I.r.sh I.net I.p.deps I.p.orders else I.kept
def dZ:Int:=I.AP-aQ I.di
def gW:List Elem:=kU I.y.taken I.before
def after:List Elem:=il I.p.jU false I.base (max I.dZ 0) I.gW
def kt:Int:=I.dZ-aQ I.after
def GX:List Elem:=kU I.gW I.after
def DJ:Int:=I.b.c-I.bj-I.au
def lines:List dE:=ag 1 I.cH++ag 2 I.cQ++ag 3 I.before++ag 4 (I.gL I.r.aW)++ag 5 (I.gZ I.r.aW)++ag 6 [⟨⟨#[]⟩,I.au⟩]++ag 7 I.di++ag 8 I.after++ag 9 [⟨⟨#[]⟩,max I.kt 0⟩]++ag 10 [⟨⟨#[]⟩,max (-I.kt) 0⟩]
def next:Bv:=⟨I.y.ay+1,I.y.aw+I.aw,I.y.aO+I.au,I.y.aF++[I.aF],I.GX⟩
def err:Int:=
 if I.r.count<=I.y.ay then 3
 else if dQ I.r.cN I.e (bB I.e)≠0 then dQ I.r.cN I.e (bB I.e)
 else if eC I.p.jU I.base (max I.b.c 0) I.y.taken≠0 then eC I.p.jU I.base (max I.b.c 0) I.y.taken
 else if I.DR=true then 4
 else if cx I.au=false then 4
 else if I.first=true/\1000000000<I.net then 2
 else if ep I.y.taken I.before≠0 then ep I.y.taken I.before
 else if eC I.p.jU I.base (max I.dZ 0) I.gW≠0 then eC I.p.jU I.base (max I.dZ 0) I.gW
 else ep I.gW I.after
end aY
structure CC(r:pF):Prop where
 cN:jV r.cN=true
 CK:r.aW.length<=12
 nO:∀s∈r.aW,mA s
 lh:r.aW.Pairwise (fun a b=>Op.bytesLess a.code.toList b.code.toList=true)
 je:nP r.je
 c0:1<=r.count
 c1:r.count<=53
 sh:nM r.sh
 v0:0<=r.recover
 v1:r.recover<=1000000
structure NI(p:Uj):Prop where
 d0:0<=p.deps
 d1:p.deps<=20
 jU:fV p.jU=true
 orders:Ey p.orders
 Oi:p.others.length<=7
 base:∀e∈p.others,0<=e.2/\e.2<=1000000000
 lens:∀e∈p.others,e.1.length<=53
 earlier:∀e∈p.others,∀x∈e.1,0<=x/\x<=1000000000
structure J7(y:Bv):Prop where
 p0:0<=y.ay
 p1:y.ay<=53
 len:(y.aF.length:Int)=y.ay
 ins:∀x∈y.aF,0<=x/\x<=1000000000
 i0:0<=y.aw
 i1:y.aw<=y.ay*1000000000
 w0:-(y.ay*1000000000)<=y.aO
 w1:y.aO<=y.ay*1000000000
 taken:eJ y.taken=true
structure VZ(k:List Elem):Prop where
 Y4:eJ k=true
 len:k.length<=16
 hi:∀x∈k,x.amount<=1000000000
structure nN(I:aY):Prop where
 r:CC I.r
 p:NI I.p
 y:J7 I.y
 kept:VZ I.kept
 same:∀e∈I.p.others,(e.1.length:Int)=I.y.ay
 size:∀x∈I.e,x.code.size<=maxLen
def Gi(x y:dE):Bool:=RL.lt (RL.key x) (RL.key y)
theorem ag5:∀(x y:List UInt8),Op.bytesLess x y=decide (x<y)
 |[],[]=>by simp[Op.bytesLess]
 |_::_,[]=>by simp[Op.bytesLess]
 |[],_::_=>by simp[Op.bytesLess]
 |a::x,b::y=>by rw[Op.bytesLess,ag5 x y];simp only[List.cons_lt_cons_iff];by_cases e:a<b<;>by_cases j:a=b<;>by_cases l:x<y<;>simp[e,j,l]
theorem aoa(x y:dE):Gi x y=(decide (x.kind<y.kind)||(decide (x.kind=y.kind)&&Op.bytesLess x.code.toList y.code.toList)):=by rw[ag5,ByteArray.toList_eq,ByteArray.toList_eq];rfl
def aaE(x:dE):Bool:=aaG x&&(x.amount !=0)
theorem aaK{α:Type}[DecidableEq α]:∀{l m:List α},l.Pairwise (·≠·)->(∀x∈l,x∈m)->l.length<=m.length
 |[],m,_,_=>by simp
 |a::l,m,h,j=>by obtain⟨r,u⟩:=ar8.1 h;have n:=j a (by simp);have y:=aaK (m:=m.erase a) u (fun x p=>(List.mem_erase_of_ne (fun e=>r x p e.symm)).2 (j x (by simp[p])));rw[List.length_erase_of_mem n]at y;have:=List.length_pos_of_mem n;simp only[ars];omega
theorem afF{l:List bK}{base e:Int}{year:List Elem}(h:eC l base e year=0):fV l=true/\eJ year=true/\(0<=base/\base<=1000000000)/\0<=e/\e<=1000000000:=by
 unfold eC at h;split at h
 ·cases h
 ·split at h
  ·cases h
  ·split at h
   ·cases h
   ·split at h
    ·cases h
    ·rename_i a b c d;exact⟨by simpa using a,by simpa using b,gT.1 (by simpa using c),gT.1 (by simpa using d)⟩
theorem apb{c:ByteArray}(h:bI c=true):c.size<=24:=by simp only[bI,arw,arz]at h;exact h.1.1.2
theorem GW{c:ByteArray}(h:bI c=true):c.size<=maxLen:=arq (apb h) (by unfold maxLen;omega)
theorem Fk{l:List bK}{before:Bool}{base j:Int}{year:List Elem}(h:eC l base j year=0):
  iO (il l before base j year)/\(∀x∈il l before base j year,bI x.code=true/\0<=x.amount/\x.amount<=1000000000)/\0<=aQ (il l before base j year)/\aQ (il l before base j year)<=j/\(il l before base j year).length<=16:=by
 obtain⟨F,O,⟨r,u⟩,z,P⟩:=afF h;obtain⟨Q,B,G⟩:=Ik.1 F;have p:∀x∈Dg l,zN x:=fun x n=>B x ((Sy B x).1 n);rw[X9 h];have D:=afJ (before:=before) (year:=year) p r u j z;have E:=afK (before:=before) (year:=year) (Dg l) p r u j z;have J:=Uh (before:=before) (year:=year) p r u j z;have K:∀x∈tk before base year (Dg l) j,0<=x.amount:=fun x n=>by have:=(D x n).2.1;omega
 refine⟨IW _,fun x n=>?_,?_,?_,?_⟩
 ·obtain⟨y,hy,e⟩:=U8 n;obtain⟨⟨d,hd,L⟩,_⟩:=D y hy;have M:=ag3 K n;exact⟨by rw[<-e,L];exact(p d hd).name,M.1,by omega⟩
 ·rw[afL,E];omega
 ·rw[afL,E];omega
 ·refine arq (adR _ _ _ _ _) ?_;have N:(Dg l).Nodup:=(aaM G).imp (fun{a b} C e=>by subst e;exact pD.DG _ C);have:(Dg l).length<=l.length:=aaK N (fun x n=>(Sy B x).1 n);omega
theorem apc{out:List Elem}(h:iO out)(o:eP)(p:Int):iO (Ja out o p):=by
 unfold Ja;split
 ·exact sorted_put h _
 ·exact h
theorem ag6:∀(os:List eP) (e:List Int) {out:List Elem},iO out->iO (Jb out os e)
 |[],e,out,h=>by cases e<;>exact h
 |o::r,[],out,h=>h
 |o::r,p::e,out,h=>by rw[Jb];exact ag6 r e (apc h o p)
structure Uq(l:List eP)(left:Int)(out:List Elem)(taken:Int)(R:List Elem×Int):Prop where
 pos:∀x∈R.1,0<=x.amount
 code:∀x∈R.1,∃o∈l,x.code=o.id
 sorted:iO R.1
 sum:aQ R.1-aQ out=R.2-taken
 lo:taken<=R.2
 hi:R.2-taken<=left
theorem ag7{l:List eP}{iN:Bool}(B:∀o∈l,Sp o):∀(n:Nat) (e:Int×Int) (left:Int) (out:List Elem) (j:Int),0<=left->(∀x∈out,0<=x.amount)->(∀x∈out,∃o∈l,x.code=o.id)->iO out->Uq l left out j (Hj l iN n e left out j):=by
 intro n
 induction n with
 |zero=>intro e left out j p r u y;exact⟨r,u,y,by simp[Hj],by simp[Hj],by simp[Hj];exact p⟩
 |succ n C=>
  intro e left out j p r u y;rw[Hj];split
  ·exact⟨r,u,y,by simp,by simp,by simp;exact p⟩
  ·obtain⟨D,J,K⟩:=amG (k:=Df l iN e) B p;have E:Jc l out.length out:=⟨r,u,aq7 _⟩
   have z:=Jc.afs (l.filter (Sq (Df l iN e))) (Eh l (Df l iN e) left) E (fun o F=>Dc F);have I:=C (Df l iN e) (left-aC (Eh l (Df l iN e) left)) _ (j+aC (Eh l (Df l iN e) left)) (by omega) z.pos z.code (ag6 _ _ y);have G:=afr (l.filter (Sq (Df l iN e))) (Eh l (Df l iN e) left) out (amF _ _ _).symm D;refine⟨I.pos,I.code,I.sorted,?_,?_,?_⟩
   ·have:=I.sum;rw[G]at this;omega
   ·have:=I.lo;omega
   ·have:=I.hi;omega
theorem LR{s:kL}{net e:Int}(h:nM s)(r:0<=net)(u:net<=1000000000)(hd:0<=e)(l:e<=20):
  (0<=ml s e/\ml s e<=21000000000)/\(0<=oL s net e/\oL s net e<=net)/\(0<=jF s net e/\jF s net e<=net)/\(0<=s.bE*e/\s.bE*e<=20000000000):=by
 have y:0<=s.bE*e:=arH h.d0 hd;have z:s.bE*e<=1000000000*20:=asm h.d1 l hd (by omega);have f0:=h.f0;have f1:=h.f1;have B:=h.l0;have n:0<=ml s e/\ml s e<=21000000000:=by unfold ml;omega
 refine⟨n,?_,by unfold jF;omega,by omega⟩;unfold oL;split
 ·omega
 ·rename_i p;have j:0<=min net (max s.top (ml s e))-ml s e:=by omega
  obtain⟨_,C,D,_⟩:=IZ (unit:=1) (mode:=3) j (by omega) h.s0 h.s1 (by omega) (by omega) (by omega) (by omega);have:=abk (min net (max s.top (ml s e))-ml s e) s.share 3 j (by omega) h.s0 h.s1 (by decide);omega
structure afG(net:Int)(l:List eP)(R:List Elem):Prop where
 pos:∀x∈R,0<=x.amount
 hi:∀x∈R,x.amount<=net
 name:∀x∈R,bI x.code=true
 code:∀x∈R,∃o∈l,x.code=o.id
 sorted:iO R
 lo:0<=aQ R
 sum:aQ R<=net
theorem apd{l:List Elem}(h:∀x∈l,0<=x.amount):0<=aQ l/\∀x∈l,x.amount<=aQ l:=by
 induction l with
 |nil=>exact⟨by simp[aQ],by simp⟩
 |cons a l n=>
  obtain⟨r,p⟩:=n (fun x j=>h x (by simp[j]));have u:=h a (by simp);refine⟨by simp only[aQ];omega,fun x j=>?_⟩;simp only[aQ];rcases arF.1 j with e|e
  ·subst e;omega
  ·have:=p x e;omega
theorem Us{s:kL}{net j:Int}{l:List eP}(h:nM s)(n:Ey l)(y:0<=net)(z:net<=1000000000)(hd:0<=j)(B:j<=20):
  afG net l (EA s net j l)/\Uq l (net-jF s net j) [] 0 (jg [] l true (net-jF s net j)):=by
 obtain⟨_,⟨M,N⟩,⟨O,P⟩,_⟩:=LR h y z hd B;have I:=ag7 (iN:=true) n.ok (Ph l true (-1,-1)) (-1,-1) (net-jF s net j) [] 0 (by omega) (by simp) (by simp) List.Pairwise.nil;have J:=ag7 (iN:=false) n.ok (Ph l false (-1,-1)) (-1,-1) (max (net-oL s net j-(jg [] l true (net-jF s net j)).2) 0) (jg [] l true (net-jF s net j)).1 0 (by omega) I.pos I.code I.sorted;refine⟨?_,I⟩;have C:=I.sum;have Q:=I.lo;have S:=I.hi;have D:=J.sum;have T:=J.lo;have E:=J.hi;have e:EA s net j l=(jg (jg [] l true (net-jF s net j)).1 l false (max (net-oL s net j-(jg [] l true (net-jF s net j)).2) 0)).1:=rfl;rw[e];simp only[aQ]at C;have u:aQ (jg (jg [] l true (net-jF s net j)).1 l false (max (net-oL s net j-(jg [] l true (net-jF s net j)).2) 0)).1<=net:=by have F:(jg [] l true (net-jF s net j))=Hj l true (Ph l true (-1,-1)) (-1,-1) (net-jF s net j) [] 0:=rfl;have p:(jg (jg [] l true (net-jF s net j)).1 l false (max (net-oL s net j-(jg [] l true (net-jF s net j)).2) 0))=Hj l false (Ph l false (-1,-1)) (-1,-1) (max (net-oL s net j-(jg [] l true (net-jF s net j)).2) 0) (jg [] l true (net-jF s net j)).1 0:=rfl;rw[p];rw[F]at D E|-;omega
 obtain⟨G,K⟩:=apd J.pos;refine⟨J.pos,fun x r=>?_,fun x r=>?_,J.code,J.sorted,G,u⟩
 ·have:=K x r;have p:(jg (jg [] l true (net-jF s net j)).1 l false (max (net-oL s net j-(jg [] l true (net-jF s net j)).2) 0))=Hj l false (Ph l false (-1,-1)) (-1,-1) (max (net-oL s net j-(jg [] l true (net-jF s net j)).2) 0) (jg [] l true (net-jF s net j)).1 0:=rfl;rw[p]at u;omega
 ·obtain⟨o,L,e⟩:=J.code x r;rw[e];exact(n.ok o L).name
theorem ab3(a b:List Int):(Dz a b).length=min a.length b.length:=by simp[Dz]
theorem abY{n:Nat}(p:List (List Int×Int))(u:∀e∈p,e.1.length=n)(y:∀e∈p,0<=e.2)(z:∀e∈p,∀x∈e.1,0<=x):∀j:List Int,j.length=n+1->(∀x∈j,0<=x)->
  (p.foldl (fun j e=>Dz j (e.1++[e.2])) j).length=n+1/\∀x∈p.foldl (fun j e=>Dz j (e.1++[e.2])) j,0<=x:=by
 induction p with
 |nil=>intro j B r;exact⟨B,r⟩
 |cons e p C=>
  intro j B r;have E:=u e (by simp);refine C (fun x l=>u x (by simp[l])) (fun x l=>y x (by simp[l])) (fun x l=>z x (by simp[l])) _ (by rw[ab3];simp;omega) (fun x l=>?_);unfold Dz at l;obtain⟨i,hi,rfl⟩:=arN.1 l;rw[List.getElem_zipWith];simp only[List.length_zipWith,arl,asF]at hi;have F:=r _ (arc (show i<j.length by omega));have G:0<=(e.1++[e.2])[i]'(by simp;omega):=by
   have D:(e.1++[e.2])[i]'(by simp;omega)∈e.1++[e.2]:=arc _
   rcases arE.1 D with h|h
   ·exact z e (by simp) _ h
   ·simp at h;rw[h];exact y e (by simp)
  omega
theorem ape{n:Nat}{j:List (List Int×Int)}(h:DA n j):(o6 n j).length=n+1/\∀x∈o6 n j,0<=x:=
 abY j h.lens (fun e l=>(h.base e l).1) (fun e l x p=>(h.earlier e l x p).1) _ (by simp) (by intro x p;rw[List.eq_of_mem_replicate p];omega)
theorem YK{s:cm}{n:Nat}{j:List (List Int×Int)}(p:mA s)(h:DA n j):
  0<=(gw s n j).base/\0<=(gw s n j).az/\0<=(gw s n j).aS/\(gw s n j).base<=54000000000/\(gw s n j).az<=54000000100/\(gw s n j).aS<=54000000100:=by
 obtain⟨l,r⟩:=ape h;have:=h.nn;exact amy p r (by omega) (by intro e;rw[e]at l;simp at l)
theorem YL{n:Nat}{j:List (List Int×Int)}(h:DA n j):∀x∈lV j,0<=x/\x<=1000000000:=by intro x l;obtain⟨e,p,rfl⟩:=arB.1 l;exact h.base e p
theorem ag8{l:List Int}(h:∀x∈l,0<=x)(i:Nat):l.getD i 0<=aC l:=by
 rw[aru];cases e:l[i]?with
 |none=>simp;have:=kV (l:=l) (B:=aC l) (fun x j=>⟨h x j,En h j⟩);omega
 |some v=>exact En h (List.mem_of_getElem? e)
theorem Iw(v:fY)(e:List Int):(lG v e).length=e.length:=by unfold lG;split<;>simp
theorem apf{v:fY}{l:List Int}(n:∀x∈l,0<=x/\x<=1000000000)(u:0<=v.base)(y:0<=v.az)(z:0<=v.aS):∀x∈lG v l,(0<=x.base/\x.base<=v.base)/\(0<=x.az/\x.az<=v.az)/\(0<=x.aS/\x.aS<=v.aS):=by
 intro x j;unfold lG at j;split at j
 ·rcases List.mem_or_eq_of_mem_set j with e|e
  ·rw[List.eq_of_mem_replicate e];simp only[jb];omega
  ·subst e;omega
 ·rename_i B;have p:0<aC l:=by have:=(kV n).1;omega
  obtain⟨i,_,rfl⟩:=arB.1 j;have key:∀t:Int,0<=t->0<=(eu t l).getD i 0/\(eu t l).getD i 0<=t:=fun t C=>by have r:=afp C (fun x j=>(n x j).1) p;have:=ag8 r i;rw[Vm p]at this;exact⟨Jz r i,this⟩
  exact⟨key _ u,key _ y,key _ z⟩
theorem adp{v:fY}(h:fG v=false):v.base<=1000000000/\v.az<=1000000000/\v.aS<=1000000000:=by simp only[fG,Bool.or_eq_false_iff,ar4]at h;omega
theorem apg{s:cm}{n:Nat}{e:List (List Int×Int)}(j:mA s)(h:DA n e)(l:fG (gw s n e)=false):∀x∈DB s n e,(0<=x.az/\x.az<=1000000000)/\0<=x.aS/\x.aS<=1000000000:=by intro x p;obtain⟨a,b,c,_⟩:=YK j h;obtain⟨r,u,y⟩:=adp l;have:=apf (YL h) a b c x p;omega
section
variable {I:aY}
theorem nN.Y8(h:nN I)(l:I.y.ay<I.r.count)(hi:I.aF<=1000000000):DA I.y.aF.length I.ed:=by
 have e:=h.y.len;have n:=h.r.c1;have u:=h.p.Oi;refine⟨by simp[aY.ed],by simp[aY.ed];omega,by omega,fun x j=>?_,fun x j=>?_,fun x j=>?_⟩
 ·rcases arF.1 j with r|r
  ·subst r;rfl
  ·have:=h.same x r;omega
 ·rcases arF.1 j with r|r
  ·subst r;exact⟨by show 0<=max _ _;omega,hi⟩
  ·exact h.p.base x r
 ·rcases arF.1 j with r|r
  ·subst r;exact h.y.ins
  ·exact h.p.earlier x r
theorem GZ{e:List cI}{l m:List Elem}(h:dQ e l m=0):jV e=true/\dP l=0/\missing e m=false/\nR (fC e m)=true:=by
 unfold dQ at h;split at h
 ·cases h
 ·split at h
  ·rename_i j;exact absurd h j
  ·split at h
   ·cases h
   ·split at h
    ·cases h
    ·rename_i a b c d;exact⟨by simpa using a,by simpa using b,by simpa using c,by simpa using d⟩
theorem QI{n:Int}:cx n=true↔-1000000000<=n/\n<=1000000000:=by simp[cx]
theorem L0{b:fA}(h:nR b=true):(-1000000000<=b.g/\b.g<=1000000000)/\(-1000000000<=b.c/\b.c<=1000000000)/\(-1000000000<=b.t/\b.t<=1000000000)/\(-1000000000<=b.i/\b.i<=1000000000)/\(-1000000000<=b.a/\b.a<=1000000000):=by simp only[nR,arw,QI]at h;obtain⟨⟨⟨⟨a,b⟩,c⟩,d⟩,e⟩:=h;exact⟨a,b,c,d,e⟩
theorem nN.adz(h:nN I)(j:dQ I.r.cN I.e (bB I.e)=0):eC I.p.jU I.base (max I.b.c 0) I.y.taken=0:=by
 obtain⟨_,⟨l,n⟩,_⟩:=L0 (GZ j).2.2.2;have e:I.b.c=(fC I.r.cN (bB I.e)).c:=rfl;refine X8 h.p.jU h.y.taken (gT.2 ?_) (gT.2 ?_)
 ·unfold aY.base;omega
 ·omega
theorem nN.QM(h:nN I)(j:I.y.ay<I.r.count)(hi:I.aF<=1000000000){s:cm}(l:s∈I.r.aW)(n:fG (gw s I.y.aF.length I.ed)=false):
  (0<=(I.dH s).az/\(I.dH s).az<=1000000000)/\0<=(I.dH s).aS/\(I.dH s).aS<=1000000000:=by
 have p:=apg (h.r.nO s l) (h.Y8 j hi) n;unfold aY.dH;rw[aru];cases e:(DB s I.y.aF.length I.ed)[0]?with
 |none=>simp[jb]
 |some v=>exact p v (List.mem_of_getElem? e)
end
def CH(s:kL):Value:=.agg #[.int .i64 s.fixed,.int .i64 s.bE,.int .i64 s.lower,.int .i64 s.share,.int .i64 s.top]
theorem WY(n m:Int)(w:World):Calls prog 187 #[.int .i64 n,.int .i64 m] w fun e w'=>e=.returned (.bool (bG n m))/\w=w':=by
 by_cases l:0<=n<;>by_cases p:n<=m
 all_goals
  have j:bG n m=(decide (0<=n)&&decide (n<=m)):=by simp[bG]
  have r:=aq6 j;clear j;go_enter func187,ntmps187;go_wp2;go_ret;exact⟨by rw[r.out];simp[l,p],rfl⟩
theorem Ur(s:kL)(w:World)(h:nM s):Calls prog 147 #[CH s] w fun e w'=>e=.returned (.bool true)/\Below w.heap.size w w':=by have j:bG s.fixed 1000000000=true:=gT.2 ⟨h.f0,h.f1⟩;have l:bG s.bE 1000000000=true:=gT.2 ⟨h.d0,h.d1⟩;have n:bG s.lower s.fixed=true:=gT.2 ⟨h.l0,h.l1⟩;have p:bG s.top 1000000000=true:=gT.2 ⟨h.t0,h.t1⟩;have r:bG s.share 1000000=true:=gT.2 ⟨h.s0,h.s1⟩;clear h;unfold CH;go_enter func147,ntmps147;go_wp2_with(go_at_call 187;refine(WY _ _ _).mono ?_;rintro e w' ⟨rfl,rfl⟩;(first|rw[j]|rw[l]|rw[n]|rw[p]|rw[r]));go_ret;exact⟨rfl,bF _ _⟩
theorem Yw(s:kL)(net j:Int)(w:World)(h:nM s)(z:0<=net)(d0:0<=j)(d1:j<=20):Calls prog 188 #[CH s,.int .i64 net,.int .i64 j] w fun e w'=>e=.returned (.int .i64 (if net<=1000000000 then 0 else 2))/\Below w.heap.size w w':=by
 have y:bG j 20=true:=gT.2 ⟨d0,d1⟩;have l:=Ur s;unfold CH at l|-;by_cases p:net<=1000000000
 ·have r:bG net 1000000000=true:=gT.2 ⟨z,p⟩;rw[aq9 p];go_enter func188,ntmps188;go_wp2_with fail;refine(l _ h).mono ?_;rintro e B ⟨rfl,n⟩;have u:=aB (bF w _) n;go_wp2_with(go_at_call 187;refine(WY _ _ _).mono ?_;rintro e w' ⟨rfl,rfl⟩;(first|rw[r]|rw[y]));go_ret;exact⟨rfl,u⟩
 ·have r:bG net 1000000000=false:=Ij.2 (.inr (by omega));rw[aq8 p];go_enter func188,ntmps188;go_wp2_with fail;refine(l _ h).mono ?_;rintro e B ⟨rfl,n⟩;have u:=aB (bF w _) n;go_wp2_with(go_at_call 187;refine(WY _ _ _).mono ?_;rintro e w' ⟨rfl,rfl⟩;(first|rw[r]|rw[y]));go_ret;exact⟨rfl,u⟩
theorem aiW(s:kL)(net j:Int)(w:World)(h:nM s)(u:0<=net)(y:net<=1000000000)(d0:0<=j)(d1:j<=20):Calls prog 149 #[CH s,.int .i64 net,.int .i64 j] w fun e w'=>e=.returned (.tuple #[.int .i64 (jF s net j),.int .i64 0])/\Below w.heap.size w w':=by
 obtain⟨_,_,_,M,N⟩:=LR h u y d0 d1;have O:=h.l0;have P:=h.l1;have f1:=h.f1;have J:Hid (jF s net j=min net (s.lower+s.bE*j)):=rfl;have l:=fun w=>Yw s net j w h u d0 d1;rw[aq9 y]at l;have z:=aq6 l;clear l h;have r:=ah.new w 43 #[.int .i64 s.fixed,.int .i64 s.bE,.int .i64 s.lower,.int .i64 s.share,.int .i64 s.top];have B:=bF w (.cells #[.int .i64 s.fixed,.int .i64 s.bE,.int .i64 s.lower,.int .i64 s.share,.int .i64 s.top] 43);unfold CH at z|-;go_enter func149,ntmps149;go_upto_region 1 with fail
 generalize w.alloc (Obj.cells _ _)=W at r B|-;obtain⟨C,D,E,F,G⟩:=r.cz5;go_wp2_with fail;refine arf (z.out _) ?_;rintro e Q ⟨rfl,p⟩;have K:=r.aa p;have L:=aB B p;clear r p C D E F G;obtain⟨C,D,E,F,G⟩:=K.cz5;go_wp2
 all_goals go_ret2;refine⟨?_,L⟩;rw[J.out];exact congrArg (fun n:Int=>Ending.returned (.tuple #[.int .i64 n,.int .i64 0])) (by omega)
theorem aiX(s:kL)(net j:Int)(w:World)(h:nM s)(T:0<=net)(U:net<=1000000000)(d0:0<=j)(d1:j<=20):Calls prog 150 #[CH s,.int .i64 net,.int .i64 j] w fun e w'=>e=.returned (.tuple #[.int .i64 (oL s net j),.int .i64 0])/\Below w.heap.size w w':=by
 obtain⟨⟨p0,p1⟩,⟨r0,r1⟩,_,q0,q1⟩:=LR h T U d0 d1;have f0:=h.f0;have f1:=h.f1;have t0:=h.t0;have t1:=h.t1;have J:=h.s0;have K:=h.s1;have F:Hid (oL s net j=if net<=ml s j then net else ml s j+gF (min net (max s.top (ml s j))-ml s j) s.share 1000000 1 3):=rfl;have Ol:s.fixed+s.bE*j=ml s j:=rfl;have n:=fun w=>Yw s net j w h T d0 d1;rw[aq9 U]at n;have L:=aq6 n;have Wq:=aq6 Ol;clear n h;have r:=ah.new w 43 #[.int .i64 s.fixed,.int .i64 s.bE,.int .i64 s.lower,.int .i64 s.share,.int .i64 s.top];have G:=bF w (.cells #[.int .i64 s.fixed,.int .i64 s.bE,.int .i64 s.lower,.int .i64 s.share,.int .i64 s.top] 43);unfold CH at L|-;generalize ml s j=u at*;generalize V:oL s net j=X at*;have Rh:=aq6 V;clear V;by_cases y:net<=u
 ·have M:Hid (X=net):=by rw[Hid,F.out,aq9 y]
  clear F;go_enter func150,ntmps150;go_upto_region 1 with fail
  generalize w.alloc (Obj.cells _ _)=W at r G|-;obtain⟨z,B,C,D,E⟩:=r.cz5;go_wp2_with fail;refine arf (L.out _) ?_;rintro e w1 ⟨rfl,l⟩;have N:=r.aa l;have O:=aB G l;clear r l z B C D E;obtain⟨z,B,C,D,E⟩:=N.cz5;go_wp2;go_ret2;refine⟨?_,O⟩;rw[M.out];rfl
 ·have P:∃p,p=min net (max s.top u)-u/\(net<=s.top/\p=net-u\/s.top<net/\u<=s.top/\p=s.top-u\/s.top<u/\p=0):=⟨_,rfl,by omega⟩
  obtain⟨p,Y,Q⟩:=P;have M:Hid (X=u+gF p s.share 1000000 1 3):=by rw[Hid,F.out,aq8 y,Y]
  have S:0<=gF p s.share 1000000 1 3/\gF p s.share 1000000 1 3<=1000000000:=by have:=abk p s.share 3 (by omega) (by omega) J K (by decide);omega
  obtain⟨b0,b1⟩:=S;clear F Y;rcases Q with⟨Z,rfl⟩|⟨Z,k2,rfl⟩|⟨Z,rfl⟩
  all_goals
   go_enter func150,ntmps150;go_upto_region 1 with fail
   generalize w.alloc (Obj.cells _ _)=W at r G|-;obtain⟨z,B,C,D,E⟩:=r.cz5;go_wp2_with fail;refine arf (L.out _) ?_;rintro e w1 ⟨rfl,l⟩;have N:=r.aa l;have O:=aB G l;clear r l z B C D E;obtain⟨z,B,C,D,E⟩:=N.cz5;go_wp2_with fail;refine(XR _ _ _ _ _ _).mono ?_;rintro e w' ⟨rfl,rfl⟩;go_wp2;go_ret2;refine⟨?_,O⟩;rw[M.out];rfl
theorem Yx(A:Option Addr)(M:Nat)(l:List eP)(w:World)(h:aj Iu 5 w w.heap.size A l)(N:Ey l):
  Calls prog 148 #[.slice A l.length M] w fun e w'=>e=.returned (.bool true)/\Below w.heap.size w w':=by
 have hl:=N.len;have Z:=aq6 N;clear N;go_enter func148,ntmps148;go_wp2
 go_loopw [3] (fun i wr=>∃k:Nat,k<=l.length/\i=.int .i64 k/\Below w.heap.size w wr) (fun i _=>l.length-(intOf i).toNat)
 case atStart=>exact⟨0,by omega,rfl,arb _ _⟩
 case round=>
  obtain⟨k,hk,rfl,B⟩:=hrel;have br:=B.size;by_cases r:k<l.length
  ·have n:=Z.out.ok _ (arc r);have O:=GW n.name;have MQ:∀W:World,Calls prog 152 #[.string l[k].id] W fun e w'=>e=.returned (.bool true)/\Below W.heap.size W w':=fun W=>by
    have:=Bo l[k].id W O;rw[n.name]at this;exact this
   have SK:=aq6 MQ;have D:∀(x m:Int),0<=x->x<=m->∀W:World,Calls prog 187 #[.int .i64 x,.int .i64 m] W fun e w'=>e=.returned (.bool true)/\W=w':=fun x m h0 h1 W=>by have:=WY x m W;rw[gT.2 ⟨h0,h1⟩]at this;exact this
   have j1:=D l[k].bX 9 n.r0 n.r1;have j2:=D l[k].day 84005 n.d0 n.d1;have j3:=D l[k].amount 1000000000 n.a0 n.a1;have j4:=D l[k].total 1000000000 n.t0 n.t1;clear D MQ n;obtain⟨b,E,rfl,hb,C⟩:=(h.aa B).at_ r;have L:=C 0 _ rfl;have P:=C 1 _ rfl;have Q:=C 2 _ rfl;have S:=C 3 _ rfl;have T:=C 4 _ rfl;simp only[ara]at L;have gK:(k:Int)<(l.length:Int):=(by omega);clear C;rcases k with _|m
   ·have fM:(0:Int)<(l.length:Int):=(by omega);simp only[arT,ara]at L P Q S T;go_wp2_with fail;have F:(wr.alloc (Obj.cells #[.string l[0].id,.int .i64 l[0].bX,.int .i64 l[0].day,.int .i64 l[0].amount,.int .i64 l[0].total] 67)).heap.size=wr.heap.size+1:=(by simp);have G:Below w.heap.size w (wr.alloc (Obj.cells #[.string l[0].id,.int .i64 l[0].bX,.int .i64 l[0].day,.int .i64 l[0].amount,.int .i64 l[0].total] 67)):=B.alloc br _;have j:=ah.new wr 67 #[.string l[0].id,.int .i64 l[0].bX,.int .i64 l[0].day,.int .i64 l[0].amount,.int .i64 l[0].total];generalize wr.alloc (Obj.cells _ _)=W at F G j|-;have e0:=Bw.cell (w:=W) (a:=⟨wr.heap.size,0,none⟩) (by show wr.heap.size<W.heap.size;omega) (j.cell 0);have e1:=Bw.cell (w:=W) (a:=⟨wr.heap.size,1,none⟩) (by show wr.heap.size<W.heap.size;omega) (j.cell 1);have e2:=Bw.cell (w:=W) (a:=⟨wr.heap.size,2,none⟩) (by show wr.heap.size<W.heap.size;omega) (j.cell 2);have e3:=Bw.cell (w:=W) (a:=⟨wr.heap.size,3,none⟩) (by show wr.heap.size<W.heap.size;omega) (j.cell 3);have e4:=Bw.cell (w:=W) (a:=⟨wr.heap.size,4,none⟩) (by show wr.heap.size<W.heap.size;omega) (j.cell 4);have U:Hid (w.heap.size<=W.heap.size):=(by show w.heap.size<=W.heap.size;omega);clear F j L P Q S T;refine pE (by kernel_rfl) (by kernel_rfl) ?_
    repeat(first|go_big_quiet_step((first|exact Bw.call _ (SK.out _)|with_reducible exact Bw.zt _ (j1 _)|with_reducible exact Bw.zt _ (j2 _)|with_reducible exact Bw.zt _ (j3 _)|with_reducible exact Bw.zt _ (j4 _))))
    refine wpQuiet_nil ?_;intro V u;obtain⟨⟨W9,y⟩,p⟩:=u;subst p;have z:Below w.heap.size w V:=G.trans (y.mono U.out);go_wp2;go_roundw
    case rel=>exact⟨0+1,by omega,by go_num,z⟩
    case measure=>simp[intOf];omega
   ·have lK:m<l.length:=(by omega);obtain⟨b2,FH,J,ab,K⟩:=(h.aa B).at_ lK;injection J with J
    injection J with J fQ
    subst J fQ;have X:=K 0 _ rfl;simp only[ara]at X;clear K;have B9:=arZ.1 Z.out.lh m (m+1) lK r (by omega);have IU:b<wr.heap.size:=hb;have Ca:(m:Int)<(l.length:Int):=(by omega);have Mc:(m:Int)+1<(l.length:Int):=(by omega);have hp:decide ((0:Int)<(m:Int)+1)=true:=(by rw[arz];omega);go_wp2_with fail;have F:(wr.alloc (Obj.cells #[.string l[m+1].id,.int .i64 l[m+1].bX,.int .i64 l[m+1].day,.int .i64 l[m+1].amount,.int .i64 l[m+1].total] 67)).heap.size=wr.heap.size+1:=(by simp);have G:Below w.heap.size w (wr.alloc (Obj.cells #[.string l[m+1].id,.int .i64 l[m+1].bX,.int .i64 l[m+1].day,.int .i64 l[m+1].amount,.int .i64 l[m+1].total] 67)):=B.alloc br _;have j:=ah.new wr 67 #[.string l[m+1].id,.int .i64 l[m+1].bX,.int .i64 l[m+1].day,.int .i64 l[m+1].amount,.int .i64 l[m+1].total];have Y:=(World.cell?_alloc_past (w:=wr) (Obj.cells #[.string l[m+1].id,.int .i64 l[m+1].bX,.int .i64 l[m+1].day,.int .i64 l[m+1].amount,.int .i64 l[m+1].total] 67) b (E+m*5) IU).trans X;generalize wr.alloc (Obj.cells _ _)=W at F G j Y|-;have e0:=Bw.cell (w:=W) (a:=⟨wr.heap.size,0,none⟩) (by show wr.heap.size<W.heap.size;omega) (j.cell 0);have e1:=Bw.cell (w:=W) (a:=⟨wr.heap.size,1,none⟩) (by show wr.heap.size<W.heap.size;omega) (j.cell 1);have e2:=Bw.cell (w:=W) (a:=⟨wr.heap.size,2,none⟩) (by show wr.heap.size<W.heap.size;omega) (j.cell 2);have e3:=Bw.cell (w:=W) (a:=⟨wr.heap.size,3,none⟩) (by show wr.heap.size<W.heap.size;omega) (j.cell 3);have e4:=Bw.cell (w:=W) (a:=⟨wr.heap.size,4,none⟩) (by show wr.heap.size<W.heap.size;omega) (j.cell 4);have ad:=Bw.cell (w:=W) (a:=⟨b,E+m*5,none⟩) (by show b<W.heap.size;omega) Y;clear Y X;have U:Hid (w.heap.size<=W.heap.size):=(by show w.heap.size<=W.heap.size;omega);clear F j L P Q S T;refine pE (by kernel_rfl) (by kernel_rfl) ?_
    repeat(first|go_big_quiet_step((first|exact Bw.call _ (SK.out _)|with_reducible exact Bw.zt _ (j1 _)|with_reducible exact Bw.zt _ (j2 _)|with_reducible exact Bw.zt _ (j3 _)|with_reducible exact Bw.zt _ (j4 _))))
    refine wpQuiet_nil ?_;intro V u;obtain⟨⟨W9,y⟩,p⟩:=u;subst p;have z:Below w.heap.size w V:=G.trans (y.mono U.out);go_wp2;go_roundw
    case rel=>exact⟨m+1+1,by omega,by go_num,z⟩
    case measure=>simp[intOf];omega
  ·go_wp2;go_ret;exact⟨rfl,B⟩
