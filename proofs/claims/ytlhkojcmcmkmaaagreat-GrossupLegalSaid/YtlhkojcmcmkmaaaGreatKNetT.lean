/- Conditions: as stated. -/
import Derived.Test.YtlhkojcmcmkmaaaGreatKRound2
namespace Go.Proofs.YtlhkojcmcmkmaaaGreat
open Go.Proofs.Tryz
open Go.RowKit
structure cm where
 code:ByteArray
 az:Int
 aS:Int
 floor:Int
 dw:Int
 unit:Int
 mode:Int
 cA:Bool
deriving DecidableEq
def EO(x:cm):List Value:=[.string x.code,.int .i64 x.az,.int .i64 x.aS,.int .i64 x.floor,.int .i64 x.dw,.int .i64 x.unit,.int .i64 x.mode,.bool x.cA]
theorem ZF(x:cm):(EO x).length=8:=rfl
theorem alv(x:cm):∀u∈EO x,u.oneCell'=true:=by intro u hu;simp[EO]at hu;rcases hu with rfl|rfl|rfl|rfl|rfl|rfl|rfl|rfl<;>rfl
def Dy(x:cm):Value:=.agg #[.string x.code,.int .i64 x.az,.int .i64 x.aS,.int .i64 x.floor,.int .i64 x.dw,.int .i64 x.unit,.int .i64 x.mode,.bool x.cA]
theorem alu:(Tryz.prog.info? 123).map (fun i=>(i.zero,i.size,i.bytes))=some (some (.agg #[.string ⟨#[]⟩,.int .i64 0,.int .i64 0,.int .i64 0,.int .i64 0,.int .i64 0,.int .i64 0,.bool false]),8,72):=by kernel_rfl
structure fY where
 base:Int
 az:Int
 aS:Int
deriving DecidableEq
def dO(x:fY):List Value:=[.int .i64 x.base,.int .i64 x.az,.int .i64 x.aS]
theorem JT(x:fY):(dO x).length=3:=rfl
def Hw(x:fY):Value:=.agg #[.int .i64 x.base,.int .i64 x.az,.int .i64 x.aS]
theorem ahT:(Tryz.prog.info? 142).map (fun i=>(i.zero,i.size,i.bytes))=some (some (.agg #[.int .i64 0,.int .i64 0,.int .i64 0]),3,24):=by kernel_rfl
structure cB where
 bW:Int
 bJ:Int
deriving DecidableEq
def gG(x:cB):List Value:=[.int .i64 x.bW,.int .i64 x.bJ]
theorem CS(x:cB):(gG x).length=2:=rfl
theorem OT(x:cB):∀u∈gG x,u.oneCell'=true:=by intro u hu;simp[gG]at hu;rcases hu with rfl|rfl<;>rfl
theorem OS:(Tryz.prog.info? 127).map (fun i=>(i.zero,i.size,i.bytes))=some (some (.agg #[.int .i64 0,.int .i64 0]),2,16):=by kernel_rfl
structure mj where
 bW:Int
 au:Int
deriving DecidableEq
def oB(x:mj):List Value:=[.int .i64 x.bW,.int .i64 x.au]
theorem Hc(x:mj):(oB x).length=2:=rfl
theorem aah(x:mj):∀u∈oB x,u.oneCell'=true:=by intro u hu;simp[oB]at hu;rcases hu with rfl|rfl<;>rfl
theorem aag:(Tryz.prog.info? 93).map (fun i=>(i.zero,i.size,i.bytes))=some (some (.agg #[.int .i64 0,.int .i64 0]),2,16):=by kernel_rfl
structure eP where
 id:ByteArray
 bX:Int
 day:Int
 amount:Int
 total:Int
deriving DecidableEq
def Iu(x:eP):List Value:=[.string x.id,.int .i64 x.bX,.int .i64 x.day,.int .i64 x.amount,.int .i64 x.total]
structure cM where
 A:Option Addr
 cap:Nat
 l:List Int
 base:Int
def cM.v(x:cM):List Int×Int:=(x.l,x.base)
def AL(x:cM):List Value:=[.slice x.A x.l.length x.cap,.int .i64 x.base]
theorem Oh(x:cM):(AL x).length=2:=rfl
theorem adC(x:cM):∀u∈AL x,u.oneCell'=true:=by intro u hu;simp[AL]at hu;rcases hu with rfl|rfl<;>rfl
theorem adB:(Tryz.prog.info? 137).map (fun i=>(i.zero,i.size,i.bytes))=some (some (.agg #[.slice none 0 0,.int .i64 0]),2,32):=by kernel_rfl
def aC:List Int->Int
 |[]=>0
 |x::r=>x+aC r
theorem Hq(l m:List Int):aC (l++m)=aC l+aC m:=by
 induction l with
 |nil=>simp[aC]
 |cons a l e=>simp[aC,e];omega
theorem PR(l:List Int)(k:Nat)(h:k<l.length):aC (l.take (k+1))=aC (l.take k)+l[k]:=by rw[arA h,Hq];simp[aC]
theorem kV{l:List Int}{B:Int}(h:∀x∈l,0<=x/\x<=B):0<=aC l/\aC l<=l.length*B:=by
 induction l with
 |nil=>simp[aC]
 |cons a l e=>have n:=h a (by simp);have p:=e (fun x j=>h x (by simp[j]));simp only[aC,ars];rw[show((l.length+1:Nat):Int)*B=l.length*B+B by rw[asL,ar2];omega];omega
theorem En{l:List Int}(h:∀x∈l,0<=x){y:Int}(hy:y∈l):y<=aC l:=by
 induction l with
 |nil=>cases hy
 |cons a l p=>
  have r:=h a (by simp);have u:0<=aC l:=by
   clear p hy
   induction l with
   |nil=>simp[aC]
   |cons b l n=>have:=h b (by simp);have:=n (fun x j=>h x (by simp at j|-;rcases j with e|e;exact .inl e;exact .inr (.inr e)));simp only[aC];omega
  simp only[aC];rcases arF.1 hy with e|e
  ·omega
  ·have:=p (fun x j=>h x (by simp[j])) e;omega
def cR(total:Int)(ws:List Int):List Int:=ws.map fun x=>total*x/aC ws
def kH(total:Int)(ws:List Int):List Int:=ws.map fun x=>total*x%aC ws
def kI(r:List Int):Nat->Nat
 |0=>0
 |k+1=>if r.getD (kI r k) 0<r.getD (k+1) 0 then k+1 else kI r k
def dJ(r:List Int):Nat:=kI r (r.length-1)
def Cr:Nat->List Int->List Int->List Int
 |0,p,_=>p
 |m+1,p,r=>Cr m (p.set (dJ r) (p.getD (dJ r) 0+1)) (r.set (dJ r) (-1))
def mR(total:Int)(ws:List Int):Int:=total-aC (cR total ws)
def eu(total:Int)(ws:List Int):List Int:=Cr (mR total ws).toNat (cR total ws) (kH total ws)
theorem TZ(r:List Int)(k:Nat):kI r k<=k:=by
 induction k with
 |zero=>exact aq7 _
 |succ k e=>rw[kI];split<;>omega
theorem PT{r:List Int}(h:0<r.length):dJ r<r.length:=by have:=TZ r (r.length-1);unfold dJ;omega
theorem am9:∀(m:Nat) (p r:List Int),(Cr m p r).length=p.length:=by
 intro m
 induction m with
 |zero=>intro p r;rfl
 |succ m e=>intro p r;rw[Cr,e];simp
theorem abO(p:List Int)(i:Nat)(x:Int)(h:i<p.length):aC (p.set i x)=aC p-p.getD i 0+x:=by
 induction p generalizing i with
 |nil=>simp at h
 |cons a p e=>
  cases i with
  |zero=>simp[aC];omega
  |succ i=>simp only[arv,aC,e i (by simpa using h),List.getD_cons_succ];omega
theorem ana:∀(m:Nat) (p r:List Int),0<p.length->r.length=p.length->aC (Cr m p r)=aC p+m:=by
 intro m
 induction m with
 |zero=>intro p r _ _;simp[Cr]
 |succ m e=>intro p r j l;have n:=PT (r:=r) (by omega);rw[Cr,e _ _ (by simpa using j) (by simpa using l),abO _ _ _ (by omega)];omega
theorem Jz{p:List Int}(h:∀x∈p,0<=x)(i:Nat):0<=p.getD i 0:=by
 rw[aru];cases e:p[i]?with
 |none=>simp
 |some v=>exact h v (List.mem_of_getElem? e)
theorem anb:∀(m:Nat) (p r:List Int),(∀x∈p,0<=x)->∀x∈Cr m p r,0<=x:=by
 intro m
 induction m with
 |zero=>intro p r h;exact h
 |succ m j=>
  intro p r h;refine j _ _ (fun x l=>?_);rcases List.mem_or_eq_of_mem_set l with e|e
  ·exact h x e
  ·have:=Jz h (dJ r);omega
theorem PS{total:Int}{ws:List Int}(e:0<=total)(j:∀x∈ws,0<=x)(n:0<aC ws):∀x∈cR total ws,0<=x:=by intro x l;obtain⟨y,hy,rfl⟩:=arB.1 l;exact ar5 (arH e (j y hy)) (by omega)
theorem Ns{total:Int}{ws:List Int}(j:0<aC ws):aC (cR total ws)<=total:=by
 have key:∀(l:List Int) (s:Int),0<s->aC (l.map fun x=>total*x/s)*s<=total*aC l:=by
  intro l s j
  induction l with
  |nil=>simp[aC]
  |cons a l p=>have:=asA (total*a) s;have r:=asg (total*a) (show s≠0 by omega);simp only[asi,aC,ar2,ast];have e:s*(total*a/s)=total*a/s*s:=arO _ _;omega
 have n:=key ws (aC ws) j;unfold cR;exact Int.le_of_mul_le_mul_right n j
theorem N2(total:Int)(e:List Int):(eu total e).length=e.length:=by rw[eu,am9,cR,arV]
theorem afp{e:Int}{j:List Int}(l:0<=e)(n:∀x∈j,0<=x)(p:0<aC j):∀x∈eu e j,0<=x:=
 anb _ _ _ (PS l n p)
theorem XG{ws:List Int}(e:0<aC ws):0<ws.length:=by
 cases ws with
 |nil=>simp[aC]at e
 |cons a l=>simp
theorem Vm{total:Int}{e:List Int}(j:0<aC e):aC (eu total e)=total:=by have n:=Ns (total:=total) j;have l:=XG j;rw[eu,ana _ _ _ (by simp[cR];exact l) (by simp[cR,kH]),mR];omega
structure mA(s:cm):Prop where
 name:bI s.code=true
 e0:0<=s.az
 e1:s.az<=1000000
 r0:0<=s.aS
 r1:s.aS<=1000000
 c0:1<=s.dw
 c1:s.dw<=1000000000
 f0:0<=s.floor
 f1:s.floor<=s.dw
 u0:1<=s.unit
 u1:s.unit<=100
 m0:0<=s.mode
 m1:s.mode<=6
def bA(s:cm)(b:Int):fY:=⟨b,gF b s.az 1000000 s.unit s.mode,gF b s.aS 1000000 s.unit s.mode⟩
def kJ(s:cm)(l:List Int):Int:=aC (l.filter fun x=>decide (s.floor<=x))
def cP(s:cm)(l:List Int):Int:=min (kJ s l) (l.length*s.dw)
def Ic(a b:fY):fY:=⟨a.base-b.base,a.az-b.az,a.aS-b.aS⟩
def jB(s:cm)(l:List Int):fY:=Ic (bA s (cP s l)) (bA s (cP s l.dropLast))
def jb:fY:=⟨0,0,0⟩
def lG(v:fY)(e:List Int):List fY:=
 if aC e=0 then(List.replicate e.length jb).set 0 v
 else(List.range e.length).map fun i=>⟨(eu v.base e).getD i 0,(eu v.az e).getD i 0,(eu v.aS e).getD i 0⟩
def Dz(a b:List Int):List Int:=List.zipWith (·+·) a b
def o6(n:Nat)(l:List (List Int×Int)):List Int:=l.foldl (fun j e=>Dz j (e.1++[e.2])) (List.replicate (n+1) 0)
def lV(e:List (List Int×Int)):List Int:=e.map (·.2)
structure DA(n:Nat)(es:List (List Int×Int)):Prop where
 ne:0<es.length
 len:es.length<=8
 nn:n<=52
 lens:∀e∈es,e.1.length=n
 base:∀e∈es,0<=e.2/\e.2<=1000000000
 earlier:∀e∈es,∀x∈e.1,0<=x/\x<=1000000000
def gw(s:cm)(n:Nat)(e:List (List Int×Int)):fY:=jB s (o6 n e)
def DB(s:cm)(n:Nat)(e:List (List Int×Int)):List fY:=lG (gw s n e) (lV e)
def fG(v:fY):Bool:=decide (1000000000<v.base)||decide (1000000000<v.az)||decide (1000000000<v.aS)
def gH:cB:=⟨0,0⟩
def sumTo(f:Nat->Int):Nat->Int
 |0=>0
 |n+1=>sumTo f n+f n
structure gY(t:List cB):Prop where
 ne:0<t.length
 len:t.length<=24
 zero:(t.getD 0 gH).bW=0
 lh:∀i,i+1<t.length->(t.getD i gH).bW<(t.getD (i+1) gH).bW
 hi:∀i,i<t.length->(t.getD i gH).bW<=1000000000000
 r0:∀i,i<t.length->0<=(t.getD i gH).bJ
 r1:∀i,i<t.length->(t.getD i gH).bJ<=1000000
def IY(t:List cB)(e:Int)(i:Nat):Int:=if i+1<t.length then min e (t.getD (i+1) gH).bW else e
def fN(t:List cB)(inc:Int)(i:Nat):Int:=max (IY t inc i-(t.getD i gH).bW) 0
def KX(t:List cB)(inc:Int):List Int:=(List.range t.length).map (fN t inc)
def nh(t:List cB)(inc:Int):Int:=sumTo (fun i=>fN t inc i*(t.getD i gH).bJ) t.length
def Ce(t:List cB)(inc unit mode:Int):Int:=eR (nh t inc) (1000000*unit) mode*unit
def jk(t:List cB)(num den:Int)(i:Nat):Int:=(t.getD i gH).bW*num/den
def E9(t:List cB)(num den:Int)(i:Nat):Bool:=decide (i+1<t.length)&&decide (jk t num den (i+1)=jk t num den i)
def lL(t:List cB)(num den:Int):Nat->List cB
 |0=>[]
 |k+1=>if E9 t num den k then lL t num den k else lL t num den k++[⟨jk t num den k,(t.getD k gH).bJ⟩]
def nQ(t:List cB)(num den:Int):List cB:=lL t num den t.length
structure zS where
 method:Int
 aA:List cB
 bg:Int
 bh:Int
 unit:Int
 mode:Int
 rows:List mj
def lR:mj:=⟨0,0⟩
structure My(t:List mj):Prop where
 ne:0<t.length
 len:t.length<=256
 zero:(t.getD 0 lR).bW=0
 lh:∀i,i+1<t.length->(t.getD i lR).bW<(t.getD (i+1) lR).bW
 hi:∀i,i<t.length->(t.getD i lR).bW<=1000000000
 t0:∀i,i<t.length->0<=(t.getD i lR).au
 t1:∀i,i<t.length->(t.getD i lR).au<=1000000000
structure nP(t:zS):Prop where
 m0:1<=t.method
 m1:t.method<=3
 aA:gY t.aA
 a0:0<=t.bg
 a1:t.bg<=1000000000
 c0:0<=t.bh
 c1:t.bh<=1000000000
 u0:1<=t.unit
 u1:t.unit<=100
 Gm:0<=t.mode
 Gn:t.mode<=6
 rows:t.method=1->My t.rows
 none:t.method≠1->t.rows=[]
def ma(t:zS)(l:List cB)(al cr inc:Int):Int:=max (Ce l (max (inc-al) 0) t.unit t.mode-cr) 0
def Fb(t:zS)(j e:Int):Int:=ma t t.aA t.bg t.bh (j*e)/e
def De(l:List mj)(e:Int):Nat->Int
 |0=>0
 |k+1=>if(l.getD k lR).bW<=e then(l.getD k lR).au else De l e k
def Jf(l:List mj)(e:Int):Int:=De l e l.length
def mV(t:zS)(e k j:Int):Int:=ma t (nQ t.aA k e) (t.bg*k/e) (t.bh*k/e) j
def ky(t:zS)(e j l n inc:Int):Int:=
 if t.method=1 then Jf t.rows inc else if t.method=2 then Fb t inc e else mV t e (j+1) (l+inc)-n
structure kL where
 fixed:Int
 bE:Int
 lower:Int
 share:Int
 top:Int
structure nM(s:kL):Prop where
 f0:0<=s.fixed
 f1:s.fixed<=1000000000
 d0:0<=s.bE
 d1:s.bE<=1000000000
 l0:0<=s.lower
 l1:s.lower<=s.fixed
 s0:0<=s.share
 s1:s.share<=1000000
 t0:0<=s.top
 t1:s.top<=1000000000
structure Sp(o:eP):Prop where
 name:bI o.id=true
 r0:0<=o.bX
 r1:o.bX<=9
 d0:0<=o.day
 d1:o.day<=84005
 a0:0<=o.amount
 a1:o.amount<=1000000000
 t0:0<=o.total
 t1:o.total<=1000000000
structure Ey(l:List eP):Prop where
 len:l.length<=16
 ok:∀o∈l,Sp o
 lh:l.Pairwise (fun a b=>Op.bytesLess a.id.toList b.id.toList=true)
 nil:l=[]
def V3(o:eP):Int:=if o.amount=0 then o.total else min o.amount o.total
def ml(s:kL)(e:Int):Int:=s.fixed+s.bE*e
def oL(s:kL)(net e:Int):Int:=if net<=ml s e then net else ml s e+gF (min net (max s.top (ml s e))-ml s e) s.share 1000000 1 3
def jF(s:kL)(net e:Int):Int:=min net (s.lower+s.bE*e)
def Sx(a b:Int×Int):Prop:=a.1<b.1\/a.1=b.1/\a.2<b.2
instance (a b:Int×Int):Decidable (Sx a b):=by unfold Sx;infer_instance
def afH(e:Bool)(o:eP):Bool:=decide (o.bX=0)==e
def anc(j:Bool)(e p:Int×Int)(o:eP):Int×Int:=if afH j o=true/\Sx e (o.bX,o.day)/\Sx (o.bX,o.day) p then(o.bX,o.day)else p
def Df(l:List eP)(j:Bool)(e:Int×Int):Int×Int:=l.foldl (anc j e) (10,0)
def Sq(k:Int×Int)(o:eP):Bool:=decide (o.bX=k.1)&&decide (o.day=k.2)
def MM(l:List eP)(k:Int×Int):List Int:=(l.filter (Sq k)).map V3
def Eh(l:List eP)(k:Int×Int)(left:Int):List Int:=if left<aC (MM l k)then eu left (MM l k)else MM l k
def Ja(out:List Elem)(o:eP)(p:Int):List Elem:=if 0<p then put out ⟨o.id,p⟩else out
def Jb(out:List Elem):List eP->List Int->List Elem
 |o::r,p::e=>Jb (Ja out o p) r e
 |_,_=>out
def Hj(l:List eP)(iN:Bool):Nat->(Int×Int)->Int->List Elem->Int->List Elem×Int
 |0,_,_,out,j=>(out,j)
 |n+1,e,left,out,j=>
  if(Df l iN e).1=10 then(out,j)
  else Hj l iN n (Df l iN e) (left-aC (Eh l (Df l iN e) left)) (Jb out (l.filter (Sq (Df l iN e))) (Eh l (Df l iN e) left)) (j+aC (Eh l (Df l iN e) left))
def Ph(l:List eP)(iN:Bool)(e:Int×Int):Nat:=(l.filter fun o=>afH iN o&&decide (Sx e (o.bX,o.day))).length
def jg(out:List Elem)(l:List eP)(iN:Bool)(left:Int):List Elem×Int:=Hj l iN (Ph l iN (-1,-1)) (-1,-1) left out 0
def EA(s:kL)(net e:Int)(l:List eP):List Elem:=
 (jg (jg [] l true (net-jF s net e)).1 l false (max (net-oL s net e-(jg [] l true (net-jF s net e)).2) 0)).1
theorem afI{n:Type}{lt:n->n->Prop}(DG:∀x,¬lt x x)(tr:∀x y z,lt x y->lt y z->lt x z):∀{l m:List n},l.Pairwise lt->m.Pairwise lt->(∀x,x∈l↔x∈m)->l=m
 |[],[],_,_,_=>rfl
 |[],b::s,_,_,h=>by have:=(h b).2 (by simp);simp at this
 |a::r,[],_,_,h=>by have:=(h a).1 (by simp);simp at this
 |a::r,b::s,D,E,h=>by
  obtain⟨B,F⟩:=ar8.1 D;obtain⟨C,G⟩:=ar8.1 E;have u:a=b:=by
   rcases arF.1 ((h a).1 (by simp))with e|ha
   ·exact e
   ·rcases arF.1 ((h b).2 (by simp))with e|hb
    ·exact e.symm
    ·exact absurd (tr _ _ _ (B b hb) (C a ha)) (DG _)
  subst u;rw[afI DG tr F G (fun p=>⟨fun j=>by
   rcases arF.1 ((h p).1 (by simp[j]))with e|Me
   ·subst e;exact absurd (B _ j) (DG _)
   ·exact Me,fun j=>by
   rcases arF.1 ((h p).2 (by simp[j]))with e|Me
   ·subst e;exact absurd (C _ j) (DG _)
   ·exact Me⟩)]
def pD(a b:bK):Prop:=a.bX<b.bX\/a.bX=b.bX/\a.code.data.toList<b.code.data.toList
theorem pD.DG(x:bK):¬pD x x:=by
 rintro(h|⟨_,h⟩)
 ·omega
 ·exact asG _ h
theorem pD.tr(x y z:bK)(e:pD x y)(j:pD y z):pD x z:=by
 rcases e with e|⟨e,l⟩<;>rcases j with j|⟨j,n⟩
 ·exact .inl (by omega)
 ·exact .inl (by omega)
 ·exact .inl (by omega)
 ·exact .inr ⟨by omega,List.lt_trans l n⟩
theorem Sy{l:List bK}(h:∀x∈l,zN x)(x:bK):x∈Dg l↔x∈l:=by
 unfold Dg;simp only[List.mem_flatMap,List.mem_range,ass,arz];constructor
 ·rintro⟨r,_,j,_⟩;exact j
 ·intro e;have n:=(h x e).r0;have j:=(h x e).r1;exact⟨x.bX.toNat,by omega,e,by omega⟩
theorem aaM{l:List bK}(h:l.Pairwise (fun a b=>Op.bytesLess a.code.toList b.code.toList=true)):(Dg l).Pairwise pD:=by
 unfold Dg;rw[List.pairwise_flatMap];refine⟨fun r _=>?_,?_⟩
 ·rw[List.pairwise_filter];refine h.imp ?_;intro a b e j p;rw[Br,ByteArray.toList_eq,ByteArray.toList_eq]at e;simp only[arz]at j p e;exact .inr ⟨by omega,e⟩
 ·refine(List.pairwise_lt_range (n:=100)).imp ?_;intro r s z x u y hy;simp only[ass,arz]at u hy;exact .inl (by omega)
theorem aii{l n:List bK}(z:fV l=true)(u:n.Perm l)(B:n.Pairwise (fun a b=>¬pD b a)):n=Dg l:=by
 obtain⟨_,C,y⟩:=Ik.1 z;refine afI pD.DG pD.tr ?_ (aaM y) (fun x=>by rw[Sy C,u.mem_iff]);have p:l.Pairwise (fun a b=>a.code.data.toList≠b.code.data.toList):=y.imp (by intro a b j e;rw[Br,ByteArray.toList_eq,ByteArray.toList_eq,e]at j;exact asG _ (asr j))
 have D:=p.perm u.symm (fun h e=>h e.symm);refine(B.and D).imp ?_;rintro a b ⟨j,E⟩;rcases asE a.bX b.bX with h|h|h
 ·exact .inl h
 ·refine .inr ⟨h,?_⟩;apply Decidable.byContradiction;intro r;have F:b.code.data.toList<=a.code.data.toList:=asb.1 r;have G:¬b.code.data.toList<a.code.data.toList:=fun I=>j (.inr ⟨h.symm,I⟩);exact E (List.le_antisymm (asb.1 G) F)
 ·exact absurd (.inl h) j
theorem aij{l:List bK}(D:fV l=true):(Dg l).Pairwise (fun a b=>a.code≠b.code):=by
 obtain⟨_,y,z⟩:=Ik.1 D;refine List.Pairwise.imp_of_mem ?_ (aaM z);intro a b E F n B;have p:=(Sy y a).1 E;have r:=(Sy y b).1 F;have u:a≠b:=fun e=>pD.DG a (by subst e;exact n);obtain⟨i,hi,rfl⟩:=arN.1 p;obtain⟨j,C,rfl⟩:=arN.1 r;have G:i≠j:=fun e=>u (by subst e;rfl);have P:=arZ.1 z;rcases Nat.lt_or_gt_of_ne G with h|h
 ·have:=P i j hi C h;rw[B,Br]at this;exact asG _ (asr this)
 ·have:=P j i C hi h;rw[B,Br]at this;exact asG _ (asr this)
section
variable {before:Bool}{base:Int}{year:List Elem}
theorem ane(P Q:List bK):∀a,tk before base year (P++Q) a=tk before base year P a++tk before base year Q (j7 before base year P a):=by
 induction P with
 |nil=>intro a;rfl
 |cons d r e=>intro a;simp only[List.cons_append,tk,j7,e,ar6]
theorem anf(P Q:List bK):∀a,j7 before base year (P++Q) a=j7 before base year Q (j7 before base year P a):=by
 induction P with
 |nil=>intro a;rfl
 |cons d r e=>intro a;simp only[List.cons_append,j7,e]
theorem Ya(P:List bK):∀a,(tk before base year P a).length<=P.length:=by
 induction P with
 |nil=>intro a;simp[tk]
 |cons d r e=>intro a;simp only[tk,arl,ars];have:=e (a-lW before base year d a);split<;>simp<;>omega
theorem aaN{d:bK}{left:Int}(h:zN d)(e:0<=base)(j:base<=1000000000)(l:0<=left):0<=lW before base year d left/\lW before base year d left<=left/\lW before base year d left<=1000000000:=by have:=Yc (taken:=mU year d.code) h e j;unfold lW;split<;>omega
theorem Uh{P:List bK}(j:∀x∈P,zN x)(l:0<=base)(n:base<=1000000000):∀a,0<=a->0<=j7 before base year P a/\j7 before base year P a<=a:=by
 induction P with
 |nil=>intro a e;exact⟨e,asa _⟩
 |cons d r p=>intro a e;have y:=aaN (before:=before) (year:=year) (left:=a) (j d (by simp)) l n e;have:=p (fun x u=>j x (by simp[u])) (a-lW before base year d a) (by omega);simp only[j7];omega
theorem afJ{P:List bK}(j:∀x∈P,zN x)(p:0<=base)(u:base<=1000000000):∀a,0<=a->∀x∈tk before base year P a,(∃d∈P,x.code=d.code)/\0<x.amount/\x.amount<=a/\x.amount<=1000000000:=by
 induction P with
 |nil=>intro a l x hx;simp[tk]at hx
 |cons d r y=>
  intro a l x hx;have n:=aaN (before:=before) (year:=year) (left:=a) (j d (by simp)) p u l;simp only[tk,arE]at hx;rcases hx with hx|hx
  ·split at hx
   ·rename_i z;simp at hx;subst hx;exact⟨⟨d,by simp,rfl⟩,z,n.2.1,n.2.2⟩
   ·simp at hx
  ·obtain⟨⟨e,B,C⟩,D,F,E⟩:=y (fun x hx=>j x (by simp[hx])) _ (by omega) x hx;exact⟨⟨e,by simp[B],C⟩,D,by omega,E⟩
theorem aio{P:List bK}(p:P.Pairwise (fun a b=>a.code≠b.code)):∀a,(tk before base year P a).Pairwise (fun a b=>a.code≠b.code):=by
 have u:∀(P:List bK) a x,x∈tk before base year P a->∃d∈P,x.code=d.code:=by
  intro P
  induction P with
  |nil=>intro a x hx;simp[tk]at hx
  |cons d r j=>
   intro a x hx;simp only[tk,arE]at hx;rcases hx with hx|hx
   ·split at hx
    ·simp at hx;subst hx;exact⟨d,by simp,rfl⟩
    ·simp at hx
   ·obtain⟨e,l,n⟩:=j _ x hx;exact⟨e,by simp[l],n⟩
 induction P with
 |nil=>intro a;exact List.Pairwise.nil
 |cons d r j=>
  intro a;obtain⟨z,B⟩:=ar8.1 p;simp only[tk];rw[List.pairwise_append];refine⟨by split<;>simp,j B _,fun x hx y hy=>?_⟩;split at hx
  ·simp at hx;subst hx;obtain⟨e,l,n⟩:=u r _ y hy;rw[n];exact z e l
  ·simp at hx
theorem afK(P:List bK)(e:∀x∈P,zN x)(j:0<=base)(l:base<=1000000000):∀a,0<=a->aQ (tk before base year P a)=a-j7 before base year P a:=by
 induction P with
 |nil=>intro a _;simp[tk,j7,aQ]
 |cons d r n=>
  intro a p;have y:=aaN (before:=before) (year:=year) (left:=a) (e d (by simp)) j l p;simp only[tk,j7,adN,n (fun x u=>e x (by simp[u])) _ (show 0<=a-lW before base year d a by omega)];split
  ·simp only[aQ];omega
  ·simp only[aQ];omega
end
theorem afq(l:List Elem)(e:Elem):aQ (put l e)=aQ l+e.amount:=by
 induction l with
 |nil=>simp[put,aQ]
 |cons a l j=>
  rw[put];split
  ·simp only[aQ,j];omega
  ·split
   ·simp only[aQ];omega
   ·simp only[aQ];omega
theorem ang(l:List Elem):∀e,aQ (l.foldl put e)=aQ e+aQ l:=by
 induction l with
 |nil=>intro e;simp[aQ]
 |cons a l j=>intro e;rw[asq,j,afq];simp only[aQ];omega
theorem afL(l:List Elem):aQ (bB l)=aQ l:=by have:=ang l [];simpa[bB,aQ]using this
theorem afA(l:List Elem):aQ (l.filter nz)=aQ l:=by
 induction l with
 |nil=>rfl
 |cons a l e=>
  rw[asu];split
  ·simp only[aQ,e]
  ·rename_i h;have:a.amount=0:=(by simpa[nz]using h);simp only[aQ,e];omega
theorem anh{l m:List Elem}(h:l.Perm m)(c:List UInt8):cC l c=cC m c:=by
 induction h with
 |nil=>rfl
 |cons a _ e=>simp only[cC,e]
 |swap a b l=>simp only[cC];omega
 |trans _ _ j n=>rw[j,n]
theorem ani{l m:List Elem}(h:l.Perm m)(c:List UInt8):fF l c=fF m c:=by rw[Bool.eq_iff_iff];simp only[fF,arX];exact⟨fun⟨x,j,e⟩=>⟨x,h.mem_iff.1 j,e⟩,fun⟨x,j,e⟩=>⟨x,h.mem_iff.2 j,e⟩⟩
theorem aip{e j:List Elem}(l:j.Perm e)(n:iO j):j=bB e:=
 TN n (IW e) (fun x=>by rw[mem_sorted n,mem_sorted (IW e),Q5,Q4,anh l,ani l])
