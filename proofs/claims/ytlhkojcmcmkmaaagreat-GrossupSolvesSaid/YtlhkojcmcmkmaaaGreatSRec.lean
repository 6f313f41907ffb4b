/- Conditions: as stated. -/
import Derived.Test.YtlhkojcmcmkmaaaGreatSR30b
set_option maxRecDepth 100000
set_option maxHeartbeats 4000000
namespace Go.Proofs.YtlhkojcmcmkmaaaGreat
open Go.Proofs.Tryz
structure Rec(α κ:Type) where
 key:α->κ
 QS:α->Int
 set:α->Int->α
 lt:κ->κ->Bool
structure Rec.Law{α κ:Type}(R:Rec α κ):Prop where
 apD:∀x n,R.key (R.set x n)=R.key x
 apE:∀x n,R.QS (R.set x n)=n
 ext:∀x y,R.key x=R.key y->R.QS x=R.QS y->x=y
 irrefl:∀a,R.lt a a=false
 trans:∀a b c,R.lt a b=true->R.lt b c=true->R.lt a c=true
 total:∀a b,R.lt a b=false->R.lt b a=false->a=b
section
variable {α κ:Type}[DecidableEq κ](R:Rec α κ)
def Rec.Py(l:List α):Prop:=l.Pairwise (fun a b=>R.lt (R.key a) (R.key b)=true)
variable {R}
end
section
variable {α κ:Type}{R:Rec α κ}
end
section
variable {α κ:Type}[DecidableEq κ]{R:Rec α κ}
end
section
variable {α κ:Type}{R:Rec α κ}
end
section
variable {α κ:Type}[DecidableEq κ]{R:Rec α κ}
end
open Go.RowKit
structure dH where
 kind:Int
 code:ByteArray
 amount:Int
deriving DecidableEq
def iZ(x:dH):List Value:=[.int .i64 x.kind,.string x.code,.int .i64 x.amount]
theorem eG(x:dH):(iZ x).length=3:=rfl
theorem AK(x:dH):∀u∈iZ x,u.oneCell'=true:=by intro u hu;simp[iZ]at hu;rcases hu with rfl|rfl|rfl<;>rfl
theorem B1:(Tryz.prog.info? 30).map (fun i=>(i.zero,i.size,i.bytes))=some (some (.agg #[.int .i64 0,.string ⟨#[]⟩,.int .i64 0]),3,32):=by kernel_rfl
def aa1(k:Int):Bool:=k==6||k==9||k==10
def aa3(x:dH):Bool:=if aa1 x.kind then decide (x.code.size=0)else bK x.code
def aa2(x:dH):Bool:=decide (1<=x.kind)&&decide (x.kind<=10)&&Cj x.amount&&aa3 x
def PE(a b:Int×List UInt8):Bool:=decide (a.1<b.1)||(decide (a.1=b.1)&&decide (a.2<b.2))
def RL:Rec dH (Int×List UInt8):=⟨fun x=>(x.kind,x.code.data.toList),(·.amount),fun x n=>⟨x.kind,x.code,n⟩,PE⟩
theorem afO{a b:ByteArray}(h:a.data.toList=b.data.toList):a=b:=by obtain⟨⟨l⟩⟩:=a;obtain⟨⟨m⟩⟩:=b;simp at h;rw[h]
theorem S3:RL.Law where
 apD _ _:=rfl
 apE _ _:=rfl
 ext x y j e:=by obtain⟨a,b,c⟩:=x;obtain⟨a',r,u⟩:=y;simp only[RL,Prod.mk.injEq]at j e;obtain⟨rfl,j⟩:=j;rw[afO j,e]
 irrefl a:=by simp[RL,PE,ate]
 trans a b c j e:=by
  simp only[RL,PE,Bool.or_eq_true,ar5,ar7]at*;rcases j with j|⟨j,l⟩
  ·rcases e with e|⟨e,n⟩
   ·left;omega
   ·left;omega
  ·rcases e with e|⟨e,n⟩
   ·left;omega
   ·exact .inr ⟨by omega,List.lt_trans l n⟩
 total a b j e:=by
  simp only[RL,PE,Bool.or_eq_false_iff,Bool.and_eq_false_iff,asF]at*;have l:a.1=b.1:=by omega
  have n:¬a.2<b.2:=j.2.resolve_left (fun h=>h l);have p:¬b.2<a.2:=e.2.resolve_left (fun h=>h l.symm);exact Prod.ext l (List.le_antisymm (asM.1 p) (asM.1 n))
structure pH where
 cB:List cO
 aV:List bR
 fT:AQ
 count:Int
 sh:kV
 recover:Int
structure UM where
 deps:Int
 j9:List bP
 orders:List eX
 others:List (List Int×Int)
structure AR where
 az:Int
 ax:Int
 aN:Int
 aM:List Int
 taken:List Elem
structure aY where
 r:pH
 p:UM
 y:AR
 kept:List Elem
 first:Bool
 e:List Elem
def ag(kind:Int)(l:List Elem):List dH:=(l.filter nz).map fun x=>⟨kind,x.code,x.amount⟩
def iA(e:List cO)(x:Elem):Bool:=decide (((dJ e x.code).getD nd).kind=1)
namespace aY
variable (I:aY)
def b:fF:=fI I.r.cB (bF I.e)
def merged:List Elem:=(bF I.e).filter nz
def cN:List Elem:=I.merged.filter (iA I.r.cB)
def cR:List Elem:=I.merged.filter fun x=>!iA I.r.cB x
def base:Int:=max I.b.c 0
def before:List Elem:=iI I.p.j9 true I.base (max I.b.c 0) I.y.taken
def Hn:Int:=I.b.c-aR I.before
def aM:Int:=max I.b.i 0
def eh:List (List Int×Int):=(I.y.aM,I.aM)::I.p.others
def dK(s:bR):gv:=(Ee s I.y.aM.length I.eh).getD 0 jt
def Ep:Bool:=I.r.aV.any fun s=>fO (gI s I.y.aM.length I.eh)
def gX(l:List bR):List Elem:=l.map fun s=>⟨s.code,(I.dK s).aA⟩
def iE(l:List bR):List Elem:=l.map fun s=>⟨s.code,(I.dK s).aT⟩
def jS(l:List bR):Int:=aL (l.map fun s=>(I.dK s).aA)
def jT(l:List bR):Int:=aL (l.map fun s=>if s.cA then(I.dK s).aA else 0)
def bj:Int:=I.jS I.r.aV
def ax:Int:=max (I.b.t-aR I.before-I.jT I.r.aV) 0
def Mu:Int:=I.Hn-I.bj
def aw:Int:=kG I.r.fT I.r.count I.y.az I.y.ax I.y.aN I.ax
def BA:Int:=I.Mu-I.aw
def net:Int:=max (I.BA-max (I.b.c-I.b.a) 0) 0
def dp:List Elem:=if I.first then Fa I.r.sh I.net I.p.deps I.p.orders else I.kept
def ee:Int:=I.BA-aR I.dp
def iy:List Elem:=lj I.y.taken I.before
def after:List Elem:=iI I.p.j9 false I.base (max I.ee 0) I.iy
def kD:Int:=I.ee-aR I.after
def Hm:List Elem:=lj I.iy I.after
def El:Int:=I.b.c-I.bj-I.aw
def lines:List dH:=ag 1 I.cN++ag 2 I.cR++ag 3 I.before++ag 4 (I.gX I.r.aV)++ag 5 (I.iE I.r.aV)++ag 6 [⟨⟨#[]⟩,I.aw⟩]++ag 7 I.dp++ag 8 I.after++ag 9 [⟨⟨#[]⟩,max I.kD 0⟩]++ag 10 [⟨⟨#[]⟩,max (-I.kD) 0⟩]
def next:AR:=⟨I.y.az+1,I.y.ax+I.ax,I.y.aN+I.aw,I.y.aM++[I.aM],I.Hm⟩
def err:Int:=
 if I.r.count<=I.y.az then 3
 else if dV I.r.cB I.e (bF I.e)≠0 then dV I.r.cB I.e (bF I.e)
 else if eK I.p.j9 I.base (max I.b.c 0) I.y.taken≠0 then eK I.p.j9 I.base (max I.b.c 0) I.y.taken
 else if I.Ep=true then 4
 else if cy I.aw=false then 4
 else if I.first=true/\1000000000<I.net then 2
 else if eA I.y.taken I.before≠0 then eA I.y.taken I.before
 else if eK I.p.j9 I.base (max I.ee 0) I.iy≠0 then eK I.p.j9 I.base (max I.ee 0) I.iy
 else eA I.iy I.after
end aY
structure AU(r:pH):Prop where
 cB:kf r.cB=true
 Cg:r.aV.length<=12
 l9:∀s∈r.aV,mS s
 lK:r.aV.Pairwise (fun a b=>Op.bytesLess a.code.toList b.code.toList=true)
 fT:nK r.fT
 c0:1<=r.count
 c1:r.count<=53
 sh:ot r.sh
 v0:0<=r.recover
 v1:r.recover<=1000000
structure N9(p:UM):Prop where
 d0:0<=p.deps
 d1:p.deps<=20
 j9:gl p.j9=true
 orders:E8 p.orders
 OP:p.others.length<=7
 base:∀e∈p.others,0<=e.2/\e.2<=1000000000
 lens:∀e∈p.others,e.1.length<=53
 earlier:∀e∈p.others,∀x∈e.1,0<=x/\x<=1000000000
structure Kw(y:AR):Prop where
 p0:0<=y.az
 p1:y.az<=53
 len:(y.aM.length:Int)=y.az
 ins:∀x∈y.aM,0<=x/\x<=1000000000
 i0:0<=y.ax
 i1:y.ax<=y.az*1000000000
 w0:-(y.az*1000000000)<=y.aN
 w1:y.aN<=y.az*1000000000
 taken:eP y.taken=true
structure WB(k:List Elem):Prop where
 ZC:eP k=true
 len:k.length<=16
 hi:∀x∈k,x.amount<=1000000000
structure oL(I:aY):Prop where
 r:AU I.r
 p:N9 I.p
 y:Kw I.y
 kept:WB I.kept
 same:∀e∈I.p.others,(e.1.length:Int)=I.y.az
 size:∀x∈I.e,x.code.size<=maxLen
def GM(x y:dH):Bool:=RL.lt (RL.key x) (RL.key y)
theorem ahl:∀(x y:List UInt8),Op.bytesLess x y=decide (x<y)
 |[],[]=>by simp[Op.bytesLess]
 |_::_,[]=>by simp[Op.bytesLess]
 |[],_::_=>by simp[Op.bytesLess]
 |a::x,b::y=>by rw[Op.bytesLess,ahl x y];simp only[List.cons_lt_cons_iff];by_cases e:a<b<;>by_cases j:a=b<;>by_cases l:x<y<;>simp[e,j,l]
theorem aov(x y:dH):GM x y=(decide (x.kind<y.kind)||(decide (x.kind=y.kind)&&Op.bytesLess x.code.toList y.code.toList)):=by rw[ahl,ByteArray.toList_eq,ByteArray.toList_eq];rfl
def aa0(x:dH):Bool:=aa2 x&&(x.amount !=0)
theorem aa6{α:Type}[DecidableEq α]:∀{l m:List α},l.Pairwise (·≠·)->(∀x∈l,x∈m)->l.length<=m.length
 |[],m,_,_=>by simp
 |a::l,m,h,j=>by obtain⟨r,u⟩:=asJ.1 h;have n:=j a (by simp);have y:=aa6 (m:=m.erase a) u (fun x p=>(List.mem_erase_of_ne (fun e=>r x p e.symm)).2 (j x (by simp[p])));rw[List.length_erase_of_mem n]at y;have:=List.length_pos_of_mem n;simp only[arZ];omega
theorem afS{l:List bP}{base e:Int}{year:List Elem}(h:eK l base e year=0):gl l=true/\eP year=true/\(0<=base/\base<=1000000000)/\0<=e/\e<=1000000000:=by
 unfold eK at h;split at h
 ·cases h
 ·split at h
  ·cases h
  ·split at h
   ·cases h
   ·split at h
    ·cases h
    ·rename_i a b c d;exact⟨by simpa using a,by simpa using b,im.1 (by simpa using c),im.1 (by simpa using d)⟩
theorem apF{c:ByteArray}(h:bK c=true):c.size<=24:=by simp only[bK,ar5,ar7]at h;exact h.1.1.2
theorem Hl{c:ByteArray}(h:bK c=true):c.size<=maxLen:=ar0 (apF h) (by unfold maxLen;omega)
theorem FY{l:List bP}{before:Bool}{base j:Int}{year:List Elem}(h:eK l base j year=0):
  jc (iI l before base j year)/\(∀x∈iI l before base j year,bK x.code=true/\0<=x.amount/\x.amount<=1000000000)/\0<=aR (iI l before base j year)/\aR (iI l before base j year)<=j/\(iI l before base j year).length<=16:=by
 obtain⟨F,O,⟨r,u⟩,z,P⟩:=afS h;obtain⟨Q,B,G⟩:=IM.1 F;have p:∀x∈DR l,AO x:=fun x n=>B x ((Tk B x).1 n);rw[YG h];have D:=afW (before:=before) (year:=year) p r u j z;have E:=afX (before:=before) (year:=year) (DR l) p r u j z;have J:=UK (before:=before) (year:=year) p r u j z;have K:∀x∈tk before base year (DR l) j,0<=x.amount:=fun x n=>by have:=(D x n).2.1;omega
 refine⟨Jg _,fun x n=>?_,?_,?_,?_⟩
 ·obtain⟨y,hy,e⟩:=VC n;obtain⟨⟨d,hd,L⟩,_⟩:=D y hy;have M:=ahg K n;exact⟨by rw[<-e,L];exact(p d hd).name,M.1,by omega⟩
 ·rw[afY,E];omega
 ·rw[afY,E];omega
 ·refine ar0 (ad4 _ _ _ _ _) ?_;have N:(DR l).Nodup:=(aa8 G).imp (fun{a b} C e=>by subst e;exact qg.Ej _ C);have:(DR l).length<=l.length:=aa6 N (fun x n=>(Tk B x).1 n);omega
theorem apG{out:List Elem}(h:jc out)(o:eX)(p:Int):jc (JA out o p):=by
 unfold JA;split
 ·exact sorted_put h _
 ·exact h
theorem ahm:∀(os:List eX) (e:List Int) {out:List Elem},jc out->jc (JB out os e)
 |[],e,out,h=>by cases e<;>exact h
 |o::r,[],out,h=>h
 |o::r,p::e,out,h=>by rw[JB];exact ahm r e (apG h o p)
structure UW(l:List eX)(left:Int)(out:List Elem)(taken:Int)(R:List Elem×Int):Prop where
 pos:∀x∈R.1,0<=x.amount
 code:∀x∈R.1,∃o∈l,x.code=o.id
 sorted:jc R.1
 sum:aR R.1-aR out=R.2-taken
 lo:taken<=R.2
 hi:R.2-taken<=left
theorem ahn{l:List eX}{jb:Bool}(B:∀o∈l,Tc o):∀(n:Nat) (e:Int×Int) (left:Int) (out:List Elem) (j:Int),0<=left->(∀x∈out,0<=x.amount)->(∀x∈out,∃o∈l,x.code=o.id)->jc out->UW l left out j (Im l jb n e left out j):=by
 intro n
 induction n with
 |zero=>intro e left out j p r u y;exact⟨r,u,y,by simp[Im],by simp[Im],by simp[Im];exact p⟩
 |succ n C=>
  intro e left out j p r u y;rw[Im];split
  ·exact⟨r,u,y,by simp,by simp,by simp;exact p⟩
  ·obtain⟨D,J,K⟩:=am1 (k:=DO l jb e) B p;have E:JC l out.length out:=⟨r,u,arI _⟩
   have z:=JC.afF (l.filter (Td (DO l jb e))) (EN l (DO l jb e) left) E (fun o F=>DL F);have I:=C (DO l jb e) (left-aL (EN l (DO l jb e) left)) _ (j+aL (EN l (DO l jb e) left)) (by omega) z.pos z.code (ahm _ _ y);have G:=afE (l.filter (Td (DO l jb e))) (EN l (DO l jb e) left) out (am0 _ _ _).symm D;refine⟨I.pos,I.code,I.sorted,?_,?_,?_⟩
   ·have:=I.sum;rw[G]at this;omega
   ·have:=I.lo;omega
   ·have:=I.hi;omega
theorem Ml{s:kV}{net e:Int}(h:ot s)(r:0<=net)(u:net<=1000000000)(hd:0<=e)(l:e<=20):
  (0<=mN s e/\mN s e<=21000000000)/\(0<=o8 s net e/\o8 s net e<=net)/\(0<=jR s net e/\jR s net e<=net)/\(0<=s.bn*e/\s.bn*e<=20000000000):=by
 have y:0<=s.bn*e:=asg h.d0 hd;have z:s.bn*e<=1000000000*20:=asV h.d1 l hd (by omega);have f0:=h.f0;have f1:=h.f1;have B:=h.l0;have n:0<=mN s e/\mN s e<=21000000000:=by unfold mN;omega
 refine⟨n,?_,by unfold jR;omega,by omega⟩;unfold o8;split
 ·omega
 ·rename_i p;have j:0<=min net (max s.top (mN s e))-mN s e:=by omega
  obtain⟨_,C,D,_⟩:=Jj (unit:=1) (mode:=3) j (by omega) h.s0 h.s1 (by omega) (by omega) (by omega) (by omega);have:=abE (min net (max s.top (mN s e))-mN s e) s.share 3 j (by omega) h.s0 h.s1 (by decide);omega
structure afT(net:Int)(l:List eX)(R:List Elem):Prop where
 pos:∀x∈R,0<=x.amount
 hi:∀x∈R,x.amount<=net
 name:∀x∈R,bK x.code=true
 code:∀x∈R,∃o∈l,x.code=o.id
 sorted:jc R
 lo:0<=aR R
 sum:aR R<=net
theorem apH{l:List Elem}(h:∀x∈l,0<=x.amount):0<=aR l/\∀x∈l,x.amount<=aR l:=by
 induction l with
 |nil=>exact⟨by simp[aR],by simp⟩
 |cons a l n=>
  obtain⟨r,p⟩:=n (fun x j=>h x (by simp[j]));have u:=h a (by simp);refine⟨by simp only[aR];omega,fun x j=>?_⟩;simp only[aR];rcases asb.1 j with e|e
  ·subst e;omega
  ·have:=p x e;omega
theorem UY{s:kV}{net j:Int}{l:List eX}(h:ot s)(n:E8 l)(y:0<=net)(z:net<=1000000000)(hd:0<=j)(B:j<=20):
  afT net l (Fa s net j l)/\UW l (net-jR s net j) [] 0 (jx [] l true (net-jR s net j)):=by
 obtain⟨_,⟨M,N⟩,⟨O,P⟩,_⟩:=Ml h y z hd B;have I:=ahn (jb:=true) n.ok (PG l true (-1,-1)) (-1,-1) (net-jR s net j) [] 0 (by omega) (by simp) (by simp) List.Pairwise.nil;have J:=ahn (jb:=false) n.ok (PG l false (-1,-1)) (-1,-1) (max (net-o8 s net j-(jx [] l true (net-jR s net j)).2) 0) (jx [] l true (net-jR s net j)).1 0 (by omega) I.pos I.code I.sorted;refine⟨?_,I⟩;have C:=I.sum;have Q:=I.lo;have S:=I.hi;have D:=J.sum;have T:=J.lo;have E:=J.hi;have e:Fa s net j l=(jx (jx [] l true (net-jR s net j)).1 l false (max (net-o8 s net j-(jx [] l true (net-jR s net j)).2) 0)).1:=rfl;rw[e];simp only[aR]at C;have u:aR (jx (jx [] l true (net-jR s net j)).1 l false (max (net-o8 s net j-(jx [] l true (net-jR s net j)).2) 0)).1<=net:=by have F:(jx [] l true (net-jR s net j))=Im l true (PG l true (-1,-1)) (-1,-1) (net-jR s net j) [] 0:=rfl;have p:(jx (jx [] l true (net-jR s net j)).1 l false (max (net-o8 s net j-(jx [] l true (net-jR s net j)).2) 0))=Im l false (PG l false (-1,-1)) (-1,-1) (max (net-o8 s net j-(jx [] l true (net-jR s net j)).2) 0) (jx [] l true (net-jR s net j)).1 0:=rfl;rw[p];rw[F]at D E|-;omega
 obtain⟨G,K⟩:=apH J.pos;refine⟨J.pos,fun x r=>?_,fun x r=>?_,J.code,J.sorted,G,u⟩
 ·have:=K x r;have p:(jx (jx [] l true (net-jR s net j)).1 l false (max (net-o8 s net j-(jx [] l true (net-jR s net j)).2) 0))=Im l false (PG l false (-1,-1)) (-1,-1) (max (net-o8 s net j-(jx [] l true (net-jR s net j)).2) 0) (jx [] l true (net-jR s net j)).1 0:=rfl;rw[p]at u;omega
 ·obtain⟨o,L,e⟩:=J.code x r;rw[e];exact(n.ok o L).name
theorem acn(a b:List Int):(Ec a b).length=min a.length b.length:=by simp[Ec]
theorem ach{n:Nat}(p:List (List Int×Int))(u:∀e∈p,e.1.length=n)(y:∀e∈p,0<=e.2)(z:∀e∈p,∀x∈e.1,0<=x):∀j:List Int,j.length=n+1->(∀x∈j,0<=x)->
  (p.foldl (fun j e=>Ec j (e.1++[e.2])) j).length=n+1/\∀x∈p.foldl (fun j e=>Ec j (e.1++[e.2])) j,0<=x:=by
 induction p with
 |nil=>intro j B r;exact⟨B,r⟩
 |cons e p C=>
  intro j B r;have E:=u e (by simp);refine C (fun x l=>u x (by simp[l])) (fun x l=>y x (by simp[l])) (fun x l=>z x (by simp[l])) _ (by rw[acn];simp;omega) (fun x l=>?_);unfold Ec at l;obtain⟨i,hi,rfl⟩:=aso.1 l;rw[List.getElem_zipWith];simp only[List.length_zipWith,arV,atd]at hi;have F:=r _ (arO (show i<j.length by omega));have G:0<=(e.1++[e.2])[i]'(by simp;omega):=by
   have D:(e.1++[e.2])[i]'(by simp;omega)∈e.1++[e.2]:=arO _
   rcases asf.1 D with h|h
   ·exact z e (by simp) _ h
   ·simp at h;rw[h];exact y e (by simp)
  omega
theorem apI{n:Nat}{j:List (List Int×Int)}(h:Ed n j):(pE n j).length=n+1/\∀x∈pE n j,0<=x:=
 ach j h.lens (fun e l=>(h.base e l).1) (fun e l x p=>(h.earlier e l x p).1) _ (by simp) (by intro x p;rw[List.eq_of_mem_replicate p];omega)
theorem Zi{s:bR}{n:Nat}{j:List (List Int×Int)}(p:mS s)(h:Ed n j):
  0<=(gI s n j).base/\0<=(gI s n j).aA/\0<=(gI s n j).aT/\(gI s n j).base<=54000000000/\(gI s n j).aA<=54000000100/\(gI s n j).aT<=54000000100:=by
 obtain⟨l,r⟩:=apI h;have:=h.nn;exact amT p r (by omega) (by intro e;rw[e]at l;simp at l)
theorem Zj{n:Nat}{j:List (List Int×Int)}(h:Ed n j):∀x∈mr j,0<=x/\x<=1000000000:=by intro x l;obtain⟨e,p,rfl⟩:=ar8.1 l;exact h.base e p
theorem aho{l:List Int}(h:∀x∈l,0<=x)(i:Nat):l.getD i 0<=aL l:=by
 rw[ar1];cases e:l[i]?with
 |none=>simp;have:=kR (l:=l) (B:=aL l) (fun x j=>⟨h x j,EU h j⟩);omega
 |some v=>exact EU h (List.mem_of_getElem? e)
theorem IZ(v:gv)(e:List Int):(lW v e).length=e.length:=by unfold lW;split<;>simp
theorem apJ{v:gv}{l:List Int}(n:∀x∈l,0<=x/\x<=1000000000)(u:0<=v.base)(y:0<=v.aA)(z:0<=v.aT):∀x∈lW v l,(0<=x.base/\x.base<=v.base)/\(0<=x.aA/\x.aA<=v.aA)/\(0<=x.aT/\x.aT<=v.aT):=by
 intro x j;unfold lW at j;split at j
 ·rcases List.mem_or_eq_of_mem_set j with e|e
  ·rw[List.eq_of_mem_replicate e];simp only[jt];omega
  ·subst e;omega
 ·rename_i B;have p:0<aL l:=by have:=(kR n).1;omega
  obtain⟨i,_,rfl⟩:=ar8.1 j;have key:∀t:Int,0<=t->0<=(eB t l).getD i 0/\(eB t l).getD i 0<=t:=fun t C=>by have r:=afC C (fun x j=>(n x j).1) p;have:=aho r i;rw[VP p]at this;exact⟨JV r i,this⟩
  exact⟨key _ u,key _ y,key _ z⟩
theorem adF{v:gv}(h:fO v=false):v.base<=1000000000/\v.aA<=1000000000/\v.aT<=1000000000:=by simp only[fO,Bool.or_eq_false_iff,asF]at h;omega
theorem apK{s:bR}{n:Nat}{e:List (List Int×Int)}(j:mS s)(h:Ed n e)(l:fO (gI s n e)=false):∀x∈Ee s n e,(0<=x.aA/\x.aA<=1000000000)/\0<=x.aT/\x.aT<=1000000000:=by intro x p;obtain⟨a,b,c,_⟩:=Zi j h;obtain⟨r,u,y⟩:=adF l;have:=apJ (Zj h) a b c x p;omega
section
variable {I:aY}
theorem oL.ZH(h:oL I)(l:I.y.az<I.r.count)(hi:I.aM<=1000000000):Ed I.y.aM.length I.eh:=by
 have e:=h.y.len;have n:=h.r.c1;have u:=h.p.OP;refine⟨by simp[aY.eh],by simp[aY.eh];omega,by omega,fun x j=>?_,fun x j=>?_,fun x j=>?_⟩
 ·rcases asb.1 j with r|r
  ·subst r;rfl
  ·have:=h.same x r;omega
 ·rcases asb.1 j with r|r
  ·subst r;exact⟨by show 0<=max _ _;omega,hi⟩
  ·exact h.p.base x r
 ·rcases asb.1 j with r|r
  ·subst r;exact h.y.ins
  ·exact h.p.earlier x r
theorem Ho{e:List cO}{l m:List Elem}(h:dV e l m=0):kf e=true/\dU l=0/\missing e m=false/\ow (fI e m)=true:=by
 unfold dV at h;split at h
 ·cases h
 ·split at h
  ·rename_i j;exact absurd h j
  ·split at h
   ·cases h
   ·split at h
    ·cases h
    ·rename_i a b c d;exact⟨by simpa using a,by simpa using b,by simpa using c,by simpa using d⟩
theorem Q9{n:Int}:cy n=true↔-1000000000<=n/\n<=1000000000:=by simp[cy]
theorem Ms{b:fF}(h:ow b=true):(-1000000000<=b.g/\b.g<=1000000000)/\(-1000000000<=b.c/\b.c<=1000000000)/\(-1000000000<=b.t/\b.t<=1000000000)/\(-1000000000<=b.i/\b.i<=1000000000)/\(-1000000000<=b.a/\b.a<=1000000000):=by simp only[ow,ar5,Q9]at h;obtain⟨⟨⟨⟨a,b⟩,c⟩,d⟩,e⟩:=h;exact⟨a,b,c,d,e⟩
theorem oL.adN(h:oL I)(j:dV I.r.cB I.e (bF I.e)=0):eK I.p.j9 I.base (max I.b.c 0) I.y.taken=0:=by
 obtain⟨_,⟨l,n⟩,_⟩:=Ms (Ho j).2.2.2;have e:I.b.c=(fI I.r.cB (bF I.e)).c:=rfl;refine YF h.p.j9 h.y.taken (im.2 ?_) (im.2 ?_)
 ·unfold aY.base;omega
 ·omega
theorem oL.Re(h:oL I)(j:I.y.az<I.r.count)(hi:I.aM<=1000000000){s:bR}(l:s∈I.r.aV)(n:fO (gI s I.y.aM.length I.eh)=false):
  (0<=(I.dK s).aA/\(I.dK s).aA<=1000000000)/\0<=(I.dK s).aT/\(I.dK s).aT<=1000000000:=by
 have p:=apK (h.r.l9 s l) (h.ZH j hi) n;unfold aY.dK;rw[ar1];cases e:(Ee s I.y.aM.length I.eh)[0]?with
 |none=>simp[jt]
 |some v=>exact p v (List.mem_of_getElem? e)
end
def Di(s:kV):Value:=.agg #[.int .i64 s.fixed,.int .i64 s.bn,.int .i64 s.lower,.int .i64 s.share,.int .i64 s.top]
theorem XG(n m:Int)(w:World):Calls prog 187 #[.int .i64 n,.int .i64 m] w fun e w'=>e=.returned (.bool (bJ n m))/\w=w':=by
 by_cases l:0<=n<;>by_cases p:n<=m
 all_goals
  have j:bJ n m=(decide (0<=n)&&decide (n<=m)):=by simp[bJ]
  have r:=arH j;clear j;go_enter func187,ntmps187;go_wp2;go_ret;exact⟨by rw[r.out];simp[l,p],rfl⟩
theorem UX(s:kV)(w:World)(h:ot s):Calls prog 147 #[Di s] w fun e w'=>e=.returned (.bool true)/\Below w.heap.size w w':=by have j:bJ s.fixed 1000000000=true:=im.2 ⟨h.f0,h.f1⟩;have l:bJ s.bn 1000000000=true:=im.2 ⟨h.d0,h.d1⟩;have n:bJ s.lower s.fixed=true:=im.2 ⟨h.l0,h.l1⟩;have p:bJ s.top 1000000000=true:=im.2 ⟨h.t0,h.t1⟩;have r:bJ s.share 1000000=true:=im.2 ⟨h.s0,h.s1⟩;clear h;unfold Di;go_enter func147,ntmps147;go_wp2_with(go_at_call 187;refine(XG _ _ _).mono ?_;rintro e w' ⟨rfl,rfl⟩;(first|rw[j]|rw[l]|rw[n]|rw[p]|rw[r]));go_ret;exact⟨rfl,bD _ _⟩
theorem Y4(s:kV)(net j:Int)(w:World)(h:ot s)(z:0<=net)(d0:0<=j)(d1:j<=20):Calls prog 188 #[Di s,.int .i64 net,.int .i64 j] w fun e w'=>e=.returned (.int .i64 (if net<=1000000000 then 0 else 2))/\Below w.heap.size w w':=by
 have y:bJ j 20=true:=im.2 ⟨d0,d1⟩;have l:=UX s;unfold Di at l|-;by_cases p:net<=1000000000
 ·have r:bJ net 1000000000=true:=im.2 ⟨z,p⟩;rw[arK p];go_enter func188,ntmps188;go_wp2_with fail;refine(l _ h).mono ?_;rintro e B ⟨rfl,n⟩;have u:=aB (bD w _) n;go_wp2_with(go_at_call 187;refine(XG _ _ _).mono ?_;rintro e w' ⟨rfl,rfl⟩;(first|rw[r]|rw[y]));go_ret;exact⟨rfl,u⟩
 ·have r:bJ net 1000000000=false:=IL.2 (.inr (by omega));rw[arJ p];go_enter func188,ntmps188;go_wp2_with fail;refine(l _ h).mono ?_;rintro e B ⟨rfl,n⟩;have u:=aB (bD w _) n;go_wp2_with(go_at_call 187;refine(XG _ _ _).mono ?_;rintro e w' ⟨rfl,rfl⟩;(first|rw[r]|rw[y]));go_ret;exact⟨rfl,u⟩
theorem ajc(s:kV)(net j:Int)(w:World)(h:ot s)(u:0<=net)(y:net<=1000000000)(d0:0<=j)(d1:j<=20):Calls prog 149 #[Di s,.int .i64 net,.int .i64 j] w fun e w'=>e=.returned (.tuple #[.int .i64 (jR s net j),.int .i64 0])/\Below w.heap.size w w':=by
 obtain⟨_,_,_,M,N⟩:=Ml h u y d0 d1;have O:=h.l0;have P:=h.l1;have f1:=h.f1;have J:Hid (jR s net j=min net (s.lower+s.bn*j)):=rfl;have l:=fun w=>Y4 s net j w h u d0 d1;rw[arK y]at l;have z:=arH l;clear l h;have r:=ah.new w 43 #[.int .i64 s.fixed,.int .i64 s.bn,.int .i64 s.lower,.int .i64 s.share,.int .i64 s.top];have B:=bD w (.cells #[.int .i64 s.fixed,.int .i64 s.bn,.int .i64 s.lower,.int .i64 s.share,.int .i64 s.top] 43);unfold Di at z|-;go_enter func149,ntmps149;go_upto_region 1 with fail
 generalize w.alloc (Obj.cells _ _)=W at r B|-;obtain⟨C,D,E,F,G⟩:=r.cz5;go_wp2_with fail;refine arP (z.out _) ?_;rintro e Q ⟨rfl,p⟩;have K:=r.aa p;have L:=aB B p;clear r p C D E F G;obtain⟨C,D,E,F,G⟩:=K.cz5;go_wp2
 all_goals go_ret2;refine⟨?_,L⟩;rw[J.out];exact congrArg (fun n:Int=>Ending.returned (.tuple #[.int .i64 n,.int .i64 0])) (by omega)
theorem ajd(s:kV)(net j:Int)(w:World)(h:ot s)(T:0<=net)(U:net<=1000000000)(d0:0<=j)(d1:j<=20):Calls prog 150 #[Di s,.int .i64 net,.int .i64 j] w fun e w'=>e=.returned (.tuple #[.int .i64 (o8 s net j),.int .i64 0])/\Below w.heap.size w w':=by
 obtain⟨⟨p0,p1⟩,⟨r0,r1⟩,_,q0,q1⟩:=Ml h T U d0 d1;have f0:=h.f0;have f1:=h.f1;have t0:=h.t0;have t1:=h.t1;have J:=h.s0;have K:=h.s1;have F:Hid (o8 s net j=if net<=mN s j then net else mN s j+gM (min net (max s.top (mN s j))-mN s j) s.share 1000000 1 3):=rfl;have OS:s.fixed+s.bn*j=mN s j:=rfl;have n:=fun w=>Y4 s net j w h T d0 d1;rw[arK U]at n;have L:=arH n;have Xd:=arH OS;clear n h;have r:=ah.new w 43 #[.int .i64 s.fixed,.int .i64 s.bn,.int .i64 s.lower,.int .i64 s.share,.int .i64 s.top];have G:=bD w (.cells #[.int .i64 s.fixed,.int .i64 s.bn,.int .i64 s.lower,.int .i64 s.share,.int .i64 s.top] 43);unfold Di at L|-;generalize mN s j=u at*;generalize V:o8 s net j=X at*;have RP:=arH V;clear V;by_cases y:net<=u
 ·have M:Hid (X=net):=by rw[Hid,F.out,arK y]
  clear F;go_enter func150,ntmps150;go_upto_region 1 with fail
  generalize w.alloc (Obj.cells _ _)=W at r G|-;obtain⟨z,B,C,D,E⟩:=r.cz5;go_wp2_with fail;refine arP (L.out _) ?_;rintro e w1 ⟨rfl,l⟩;have N:=r.aa l;have O:=aB G l;clear r l z B C D E;obtain⟨z,B,C,D,E⟩:=N.cz5;go_wp2;go_ret2;refine⟨?_,O⟩;rw[M.out];rfl
 ·have P:∃p,p=min net (max s.top u)-u/\(net<=s.top/\p=net-u\/s.top<net/\u<=s.top/\p=s.top-u\/s.top<u/\p=0):=⟨_,rfl,by omega⟩
  obtain⟨p,Y,Q⟩:=P;have M:Hid (X=u+gM p s.share 1000000 1 3):=by rw[Hid,F.out,arJ y,Y]
  have S:0<=gM p s.share 1000000 1 3/\gM p s.share 1000000 1 3<=1000000000:=by have:=abE p s.share 3 (by omega) (by omega) J K (by decide);omega
  obtain⟨b0,b1⟩:=S;clear F Y;rcases Q with⟨Z,rfl⟩|⟨Z,k2,rfl⟩|⟨Z,rfl⟩
  all_goals
   go_enter func150,ntmps150;go_upto_region 1 with fail
   generalize w.alloc (Obj.cells _ _)=W at r G|-;obtain⟨z,B,C,D,E⟩:=r.cz5;go_wp2_with fail;refine arP (L.out _) ?_;rintro e w1 ⟨rfl,l⟩;have N:=r.aa l;have O:=aB G l;clear r l z B C D E;obtain⟨z,B,C,D,E⟩:=N.cz5;go_wp2_with fail;refine(Yo _ _ _ _ _ _).mono ?_;rintro e w' ⟨rfl,rfl⟩;go_wp2;go_ret2;refine⟨?_,O⟩;rw[M.out];rfl
theorem Y5(A:Option Addr)(M:Nat)(l:List eX)(w:World)(h:aj Ke 5 w w.heap.size A l)(N:E8 l):
  Calls prog 148 #[.slice A l.length M] w fun e w'=>e=.returned (.bool true)/\Below w.heap.size w w':=by
 have hl:=N.len;have Z:=arH N;clear N;go_enter func148,ntmps148;go_wp2
 go_loopw [3] (fun i wr=>∃k:Nat,k<=l.length/\i=.int .i64 k/\Below w.heap.size w wr) (fun i _=>l.length-(intOf i).toNat)
 case atStart=>exact⟨0,by omega,rfl,arM _ _⟩
 case round=>
  obtain⟨k,hk,rfl,B⟩:=hrel;have bA:=B.size;by_cases r:k<l.length
  ·have n:=Z.out.ok _ (arO r);have O:=Hl n.name;have Nr:∀W:World,Calls prog 152 #[.string l[k].id] W fun e w'=>e=.returned (.bool true)/\Below W.heap.size W w':=fun W=>by
    have:=BZ l[k].id W O;rw[n.name]at this;exact this
   have Ty:=arH Nr;have D:∀(x m:Int),0<=x->x<=m->∀W:World,Calls prog 187 #[.int .i64 x,.int .i64 m] W fun e w'=>e=.returned (.bool true)/\W=w':=fun x m h0 h1 W=>by have:=XG x m W;rw[im.2 ⟨h0,h1⟩]at this;exact this
   have j1:=D l[k].bY 9 n.r0 n.r1;have j2:=D l[k].day 84005 n.d0 n.d1;have j3:=D l[k].amount 1000000000 n.a0 n.a1;have j4:=D l[k].total 1000000000 n.t0 n.t1;clear D Nr n;obtain⟨b,E,rfl,hb,C⟩:=(h.aa B).at_ r;have L:=C 0 _ rfl;have P:=C 1 _ rfl;have Q:=C 2 _ rfl;have S:=C 3 _ rfl;have T:=C 4 _ rfl;simp only[arL]at L;have eC:(k:Int)<(l.length:Int):=(by omega);clear C;rcases k with _|m
   ·have fS:(0:Int)<(l.length:Int):=(by omega);simp only[asw,arL]at L P Q S T;go_wp2_with fail;have F:(wr.alloc (Obj.cells #[.string l[0].id,.int .i64 l[0].bY,.int .i64 l[0].day,.int .i64 l[0].amount,.int .i64 l[0].total] 67)).heap.size=wr.heap.size+1:=(by simp);have G:Below w.heap.size w (wr.alloc (Obj.cells #[.string l[0].id,.int .i64 l[0].bY,.int .i64 l[0].day,.int .i64 l[0].amount,.int .i64 l[0].total] 67)):=B.alloc bA _;have j:=ah.new wr 67 #[.string l[0].id,.int .i64 l[0].bY,.int .i64 l[0].day,.int .i64 l[0].amount,.int .i64 l[0].total];generalize wr.alloc (Obj.cells _ _)=W at F G j|-;have e0:=Bw.cell (w:=W) (a:=⟨wr.heap.size,0,none⟩) (by show wr.heap.size<W.heap.size;omega) (j.cell 0);have e1:=Bw.cell (w:=W) (a:=⟨wr.heap.size,1,none⟩) (by show wr.heap.size<W.heap.size;omega) (j.cell 1);have e2:=Bw.cell (w:=W) (a:=⟨wr.heap.size,2,none⟩) (by show wr.heap.size<W.heap.size;omega) (j.cell 2);have e3:=Bw.cell (w:=W) (a:=⟨wr.heap.size,3,none⟩) (by show wr.heap.size<W.heap.size;omega) (j.cell 3);have e4:=Bw.cell (w:=W) (a:=⟨wr.heap.size,4,none⟩) (by show wr.heap.size<W.heap.size;omega) (j.cell 4);have U:Hid (w.heap.size<=W.heap.size):=(by show w.heap.size<=W.heap.size;omega);clear F j L P Q S T;refine qi (by kernel_rfl) (by kernel_rfl) ?_
    repeat(first|go_big_quiet_step((first|exact Bw.call _ (Ty.out _)|with_reducible exact Bw.Ac _ (j1 _)|with_reducible exact Bw.Ac _ (j2 _)|with_reducible exact Bw.Ac _ (j3 _)|with_reducible exact Bw.Ac _ (j4 _))))
    refine wpQuiet_nil ?_;intro V u;obtain⟨⟨W9,y⟩,p⟩:=u;subst p;have z:Below w.heap.size w V:=G.trans (y.mono U.out);go_wp2;go_roundw
    case rel=>exact⟨0+1,by omega,by go_num,z⟩
    case measure=>simp[intOf];omega
   ·have mE:m<l.length:=(by omega);obtain⟨b2,Ge,J,ab,K⟩:=(h.aa B).at_ mE;injection J with J
    injection J with J fY
    subst J fY;have X:=K 0 _ rfl;simp only[arL]at X;clear K;have CI:=asz.1 Z.out.lK m (m+1) mE r (by omega);have Jf:b<wr.heap.size:=hb;have Af:(m:Int)<(l.length:Int):=(by omega);have ME:(m:Int)+1<(l.length:Int):=(by omega);have hp:decide ((0:Int)<(m:Int)+1)=true:=(by rw[ar7];omega);go_wp2_with fail;have F:(wr.alloc (Obj.cells #[.string l[m+1].id,.int .i64 l[m+1].bY,.int .i64 l[m+1].day,.int .i64 l[m+1].amount,.int .i64 l[m+1].total] 67)).heap.size=wr.heap.size+1:=(by simp);have G:Below w.heap.size w (wr.alloc (Obj.cells #[.string l[m+1].id,.int .i64 l[m+1].bY,.int .i64 l[m+1].day,.int .i64 l[m+1].amount,.int .i64 l[m+1].total] 67)):=B.alloc bA _;have j:=ah.new wr 67 #[.string l[m+1].id,.int .i64 l[m+1].bY,.int .i64 l[m+1].day,.int .i64 l[m+1].amount,.int .i64 l[m+1].total];have Y:=(World.cell?_alloc_past (w:=wr) (Obj.cells #[.string l[m+1].id,.int .i64 l[m+1].bY,.int .i64 l[m+1].day,.int .i64 l[m+1].amount,.int .i64 l[m+1].total] 67) b (E+m*5) Jf).trans X;generalize wr.alloc (Obj.cells _ _)=W at F G j Y|-;have e0:=Bw.cell (w:=W) (a:=⟨wr.heap.size,0,none⟩) (by show wr.heap.size<W.heap.size;omega) (j.cell 0);have e1:=Bw.cell (w:=W) (a:=⟨wr.heap.size,1,none⟩) (by show wr.heap.size<W.heap.size;omega) (j.cell 1);have e2:=Bw.cell (w:=W) (a:=⟨wr.heap.size,2,none⟩) (by show wr.heap.size<W.heap.size;omega) (j.cell 2);have e3:=Bw.cell (w:=W) (a:=⟨wr.heap.size,3,none⟩) (by show wr.heap.size<W.heap.size;omega) (j.cell 3);have e4:=Bw.cell (w:=W) (a:=⟨wr.heap.size,4,none⟩) (by show wr.heap.size<W.heap.size;omega) (j.cell 4);have ad:=Bw.cell (w:=W) (a:=⟨b,E+m*5,none⟩) (by show b<W.heap.size;omega) Y;clear Y X;have U:Hid (w.heap.size<=W.heap.size):=(by show w.heap.size<=W.heap.size;omega);clear F j L P Q S T;refine qi (by kernel_rfl) (by kernel_rfl) ?_
    repeat(first|go_big_quiet_step((first|exact Bw.call _ (Ty.out _)|with_reducible exact Bw.Ac _ (j1 _)|with_reducible exact Bw.Ac _ (j2 _)|with_reducible exact Bw.Ac _ (j3 _)|with_reducible exact Bw.Ac _ (j4 _))))
    refine wpQuiet_nil ?_;intro V u;obtain⟨⟨W9,y⟩,p⟩:=u;subst p;have z:Below w.heap.size w V:=G.trans (y.mono U.out);go_wp2;go_roundw
    case rel=>exact⟨m+1+1,by omega,by go_num,z⟩
    case measure=>simp[intOf];omega
  ·go_wp2;go_ret;exact⟨rfl,B⟩
