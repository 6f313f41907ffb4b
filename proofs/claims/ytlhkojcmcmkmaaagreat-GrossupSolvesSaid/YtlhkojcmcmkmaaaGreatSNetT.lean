/- Conditions: as stated. -/
import Derived.Test.YtlhkojcmcmkmaaaGreatSRound2
namespace Go.Proofs.YtlhkojcmcmkmaaaGreat
open Go.Proofs.Tryz
open Go.RowKit
structure bR where
 code:ByteArray
 aA:Int
 aT:Int
 floor:Int
 dt:Int
 unit:Int
 mode:Int
 cA:Bool
deriving DecidableEq
def po(x:bR):List Value:=[.string x.code,.int .i64 x.aA,.int .i64 x.aT,.int .i64 x.floor,.int .i64 x.dt,.int .i64 x.unit,.int .i64 x.mode,.bool x.cA]
theorem MJ(x:bR):(po x).length=8:=rfl
theorem alQ(x:bR):∀u∈po x,u.oneCell'=true:=by intro u hu;simp[po]at hu;rcases hu with rfl|rfl|rfl|rfl|rfl|rfl|rfl|rfl<;>rfl
def Eb(x:bR):Value:=.agg #[.string x.code,.int .i64 x.aA,.int .i64 x.aT,.int .i64 x.floor,.int .i64 x.dt,.int .i64 x.unit,.int .i64 x.mode,.bool x.cA]
theorem alP:(Tryz.prog.info? 123).map (fun i=>(i.zero,i.size,i.bytes))=some (some (.agg #[.string ⟨#[]⟩,.int .i64 0,.int .i64 0,.int .i64 0,.int .i64 0,.int .i64 0,.int .i64 0,.bool false]),8,72):=by kernel_rfl
structure gv where
 base:Int
 aA:Int
 aT:Int
deriving DecidableEq
def dT(x:gv):List Value:=[.int .i64 x.base,.int .i64 x.aA,.int .i64 x.aT]
theorem Kg(x:gv):(dT x).length=3:=rfl
def IB(x:gv):Value:=.agg #[.int .i64 x.base,.int .i64 x.aA,.int .i64 x.aT]
theorem ah7:(Tryz.prog.info? 142).map (fun i=>(i.zero,i.size,i.bytes))=some (some (.agg #[.int .i64 0,.int .i64 0,.int .i64 0]),3,24):=by kernel_rfl
structure cv where
 bX:Int
 bH:Int
deriving DecidableEq
def gQ(x:cv):List Value:=[.int .i64 x.bX,.int .i64 x.bH]
theorem CK(x:cv):(gQ x).length=2:=rfl
theorem Pm(x:cv):∀u∈gQ x,u.oneCell'=true:=by intro u hu;simp[gQ]at hu;rcases hu with rfl|rfl<;>rfl
theorem Pl:(Tryz.prog.info? 127).map (fun i=>(i.zero,i.size,i.bytes))=some (some (.agg #[.int .i64 0,.int .i64 0]),2,16):=by kernel_rfl
structure mM where
 bX:Int
 aw:Int
deriving DecidableEq
def nO(x:mM):List Value:=[.int .i64 x.bX,.int .i64 x.aw]
theorem Ic(x:mM):(nO x).length=2:=rfl
theorem aaD(x:mM):∀u∈nO x,u.oneCell'=true:=by intro u hu;simp[nO]at hu;rcases hu with rfl|rfl<;>rfl
theorem aaC:(Tryz.prog.info? 93).map (fun i=>(i.zero,i.size,i.bytes))=some (some (.agg #[.int .i64 0,.int .i64 0]),2,16):=by kernel_rfl
structure eX where
 id:ByteArray
 bY:Int
 day:Int
 amount:Int
 total:Int
deriving DecidableEq
def Ke(x:eX):List Value:=[.string x.id,.int .i64 x.bY,.int .i64 x.day,.int .i64 x.amount,.int .i64 x.total]
structure cS where
 A:Option Addr
 cap:Nat
 l:List Int
 base:Int
def cS.v(x:cS):List Int×Int:=(x.l,x.base)
def Ce(x:cS):List Value:=[.slice x.A x.l.length x.cap,.int .i64 x.base]
theorem OO(x:cS):(Ce x).length=2:=rfl
theorem adQ(x:cS):∀u∈Ce x,u.oneCell'=true:=by intro u hu;simp[Ce]at hu;rcases hu with rfl|rfl<;>rfl
theorem adP:(Tryz.prog.info? 137).map (fun i=>(i.zero,i.size,i.bytes))=some (some (.agg #[.slice none 0 0,.int .i64 0]),2,32):=by kernel_rfl
def aL:List Int->Int
 |[]=>0
 |x::r=>x+aL r
theorem Iw(l m:List Int):aL (l++m)=aL l+aL m:=by
 induction l with
 |nil=>simp[aL]
 |cons a l e=>simp[aL,e];omega
theorem Qi(l:List Int)(k:Nat)(h:k<l.length):aL (l.take (k+1))=aL (l.take k)+l[k]:=by rw[ar9 h,Iw];simp[aL]
theorem kR{l:List Int}{B:Int}(h:∀x∈l,0<=x/\x<=B):0<=aL l/\aL l<=l.length*B:=by
 induction l with
 |nil=>simp[aL]
 |cons a l e=>have n:=h a (by simp);have p:=e (fun x j=>h x (by simp[j]));simp only[aL,arZ];rw[show((l.length+1:Nat):Int)*B=l.length*B+B by rw[atj,asD];omega];omega
theorem EU{l:List Int}(h:∀x∈l,0<=x){y:Int}(hy:y∈l):y<=aL l:=by
 induction l with
 |nil=>cases hy
 |cons a l p=>
  have r:=h a (by simp);have u:0<=aL l:=by
   clear p hy
   induction l with
   |nil=>simp[aL]
   |cons b l n=>have:=h b (by simp);have:=n (fun x j=>h x (by simp at j|-;rcases j with e|e;exact .inl e;exact .inr (.inr e)));simp only[aL];omega
  simp only[aL];rcases asb.1 hy with e|e
  ·omega
  ·have:=p (fun x j=>h x (by simp[j])) e;omega
def cT(total:Int)(ws:List Int):List Int:=ws.map fun x=>total*x/aL ws
def kQ(total:Int)(ws:List Int):List Int:=ws.map fun x=>total*x%aL ws
def kS(r:List Int):Nat->Nat
 |0=>0
 |k+1=>if r.getD (kS r k) 0<r.getD (k+1) 0 then k+1 else kS r k
def dN(r:List Int):Nat:=kS r (r.length-1)
def CY:Nat->List Int->List Int->List Int
 |0,p,_=>p
 |m+1,p,r=>CY m (p.set (dN r) (p.getD (dN r) 0+1)) (r.set (dN r) (-1))
def ny(total:Int)(ws:List Int):Int:=total-aL (cT total ws)
def eB(total:Int)(ws:List Int):List Int:=CY (ny total ws).toNat (cT total ws) (kQ total ws)
theorem Uu(r:List Int)(k:Nat):kS r k<=k:=by
 induction k with
 |zero=>exact arI _
 |succ k e=>rw[kS];split<;>omega
theorem Qk{r:List Int}(h:0<r.length):dN r<r.length:=by have:=Uu r (r.length-1);unfold dN;omega
theorem anv:∀(m:Nat) (p r:List Int),(CY m p r).length=p.length:=by
 intro m
 induction m with
 |zero=>intro p r;rfl
 |succ m e=>intro p r;rw[CY,e];simp
theorem ab6(p:List Int)(i:Nat)(x:Int)(h:i<p.length):aL (p.set i x)=aL p-p.getD i 0+x:=by
 induction p generalizing i with
 |nil=>simp at h
 |cons a p e=>
  cases i with
  |zero=>simp[aL];omega
  |succ i=>simp only[ar2,aL,e i (by simpa using h),List.getD_cons_succ];omega
theorem anw:∀(m:Nat) (p r:List Int),0<p.length->r.length=p.length->aL (CY m p r)=aL p+m:=by
 intro m
 induction m with
 |zero=>intro p r _ _;simp[CY]
 |succ m e=>intro p r j l;have n:=Qk (r:=r) (by omega);rw[CY,e _ _ (by simpa using j) (by simpa using l),ab6 _ _ _ (by omega)];omega
theorem JV{p:List Int}(h:∀x∈p,0<=x)(i:Nat):0<=p.getD i 0:=by
 rw[ar1];cases e:p[i]?with
 |none=>simp
 |some v=>exact h v (List.mem_of_getElem? e)
theorem anx:∀(m:Nat) (p r:List Int),(∀x∈p,0<=x)->∀x∈CY m p r,0<=x:=by
 intro m
 induction m with
 |zero=>intro p r h;exact h
 |succ m j=>
  intro p r h;refine j _ _ (fun x l=>?_);rcases List.mem_or_eq_of_mem_set l with e|e
  ·exact h x e
  ·have:=JV h (dN r);omega
theorem Qj{total:Int}{ws:List Int}(e:0<=total)(j:∀x∈ws,0<=x)(n:0<aL ws):∀x∈cT total ws,0<=x:=by intro x l;obtain⟨y,hy,rfl⟩:=ar8.1 l;exact asG (asg e (j y hy)) (by omega)
theorem NT{total:Int}{ws:List Int}(j:0<aL ws):aL (cT total ws)<=total:=by
 have key:∀(l:List Int) (s:Int),0<s->aL (l.map fun x=>total*x/s)*s<=total*aL l:=by
  intro l s j
  induction l with
  |nil=>simp[aL]
  |cons a l p=>have:=as8 (total*a) s;have r:=asP (total*a) (show s≠0 by omega);simp only[asS,aL,asD,asZ];have e:s*(total*a/s)=total*a/s*s:=asn _ _;omega
 have n:=key ws (aL ws) j;unfold cT;exact Int.le_of_mul_le_mul_right n j
theorem Ox(total:Int)(e:List Int):(eB total e).length=e.length:=by rw[eB,anv,cT,asu]
theorem afC{e:Int}{j:List Int}(l:0<=e)(n:∀x∈j,0<=x)(p:0<aL j):∀x∈eB e j,0<=x:=
 anx _ _ _ (Qj l n p)
theorem Yd{ws:List Int}(e:0<aL ws):0<ws.length:=by
 cases ws with
 |nil=>simp[aL]at e
 |cons a l=>simp
theorem VP{total:Int}{e:List Int}(j:0<aL e):aL (eB total e)=total:=by have n:=NT (total:=total) j;have l:=Yd j;rw[eB,anw _ _ _ (by simp[cT];exact l) (by simp[cT,kQ]),ny];omega
structure mS(s:bR):Prop where
 name:bK s.code=true
 e0:0<=s.aA
 e1:s.aA<=1000000
 r0:0<=s.aT
 r1:s.aT<=1000000
 c0:1<=s.dt
 c1:s.dt<=1000000000
 f0:0<=s.floor
 f1:s.floor<=s.dt
 u0:1<=s.unit
 u1:s.unit<=100
 m0:0<=s.mode
 m1:s.mode<=6
def bC(s:bR)(b:Int):gv:=⟨b,gM b s.aA 1000000 s.unit s.mode,gM b s.aT 1000000 s.unit s.mode⟩
def kT(s:bR)(l:List Int):Int:=aL (l.filter fun x=>decide (s.floor<=x))
def cQ(s:bR)(l:List Int):Int:=min (kT s l) (l.length*s.dt)
def IH(a b:gv):gv:=⟨a.base-b.base,a.aA-b.aA,a.aT-b.aT⟩
def jO(s:bR)(l:List Int):gv:=IH (bC s (cQ s l)) (bC s (cQ s l.dropLast))
def jt:gv:=⟨0,0,0⟩
def lW(v:gv)(e:List Int):List gv:=
 if aL e=0 then(List.replicate e.length jt).set 0 v
 else(List.range e.length).map fun i=>⟨(eB v.base e).getD i 0,(eB v.aA e).getD i 0,(eB v.aT e).getD i 0⟩
def Ec(a b:List Int):List Int:=List.zipWith (·+·) a b
def pE(n:Nat)(l:List (List Int×Int)):List Int:=l.foldl (fun j e=>Ec j (e.1++[e.2])) (List.replicate (n+1) 0)
def mr(e:List (List Int×Int)):List Int:=e.map (·.2)
structure Ed(n:Nat)(es:List (List Int×Int)):Prop where
 ne:0<es.length
 len:es.length<=8
 nn:n<=52
 lens:∀e∈es,e.1.length=n
 base:∀e∈es,0<=e.2/\e.2<=1000000000
 earlier:∀e∈es,∀x∈e.1,0<=x/\x<=1000000000
def gI(s:bR)(n:Nat)(e:List (List Int×Int)):gv:=jO s (pE n e)
def Ee(s:bR)(n:Nat)(e:List (List Int×Int)):List gv:=lW (gI s n e) (mr e)
def fO(v:gv):Bool:=decide (1000000000<v.base)||decide (1000000000<v.aA)||decide (1000000000<v.aT)
def gS:cv:=⟨0,0⟩
def sumTo(f:Nat->Int):Nat->Int
 |0=>0
 |n+1=>sumTo f n+f n
structure ig(t:List cv):Prop where
 ne:0<t.length
 len:t.length<=24
 zero:(t.getD 0 gS).bX=0
 lK:∀i,i+1<t.length->(t.getD i gS).bX<(t.getD (i+1) gS).bX
 hi:∀i,i<t.length->(t.getD i gS).bX<=1000000000000
 r0:∀i,i<t.length->0<=(t.getD i gS).bH
 r1:∀i,i<t.length->(t.getD i gS).bH<=1000000
def Ji(t:List cv)(e:Int)(i:Nat):Int:=if i+1<t.length then min e (t.getD (i+1) gS).bX else e
def fU(t:List cv)(inc:Int)(i:Nat):Int:=max (Ji t inc i-(t.getD i gS).bX) 0
def Lp(t:List cv)(inc:Int):List Int:=(List.range t.length).map (fU t inc)
def nL(t:List cv)(inc:Int):Int:=sumTo (fun i=>fU t inc i*(t.getD i gS).bH) t.length
def CL(t:List cv)(inc unit mode:Int):Int:=eZ (nL t inc) (1000000*unit) mode*unit
def jA(t:List cv)(num den:Int)(i:Nat):Int:=(t.getD i gS).bX*num/den
def FN(t:List cv)(num den:Int)(i:Nat):Bool:=decide (i+1<t.length)&&decide (jA t num den (i+1)=jA t num den i)
def ma(t:List cv)(num den:Int):Nat->List cv
 |0=>[]
 |k+1=>if FN t num den k then ma t num den k else ma t num den k++[⟨jA t num den k,(t.getD k gS).bH⟩]
def ou(t:List cv)(num den:Int):List cv:=ma t num den t.length
structure AQ where
 method:Int
 au:List cv
 aZ:Int
 bf:Int
 unit:Int
 mode:Int
 rows:List mM
def ml:mM:=⟨0,0⟩
structure Na(t:List mM):Prop where
 ne:0<t.length
 len:t.length<=256
 zero:(t.getD 0 ml).bX=0
 lK:∀i,i+1<t.length->(t.getD i ml).bX<(t.getD (i+1) ml).bX
 hi:∀i,i<t.length->(t.getD i ml).bX<=1000000000
 t0:∀i,i<t.length->0<=(t.getD i ml).aw
 t1:∀i,i<t.length->(t.getD i ml).aw<=1000000000
structure nK(t:AQ):Prop where
 m0:1<=t.method
 m1:t.method<=3
 au:ig t.au
 a0:0<=t.aZ
 a1:t.aZ<=1000000000
 c0:0<=t.bf
 c1:t.bf<=1000000000
 u0:1<=t.unit
 u1:t.unit<=100
 Fz:0<=t.mode
 FA:t.mode<=6
 rows:t.method=1->Na t.rows
 none:t.method≠1->t.rows=[]
def mH(t:AQ)(l:List cv)(al cr inc:Int):Int:=max (CL l (max (inc-al) 0) t.unit t.mode-cr) 0
def FP(t:AQ)(j e:Int):Int:=mH t t.au t.aZ t.bf (j*e)/e
def DN(l:List mM)(e:Int):Nat->Int
 |0=>0
 |k+1=>if(l.getD k ml).bX<=e then(l.getD k ml).aw else DN l e k
def JF(l:List mM)(e:Int):Int:=DN l e l.length
def nD(t:AQ)(e k j:Int):Int:=mH t (ou t.au k e) (t.aZ*k/e) (t.bf*k/e) j
def kG(t:AQ)(e j l n inc:Int):Int:=
 if t.method=1 then JF t.rows inc else if t.method=2 then FP t inc e else nD t e (j+1) (l+inc)-n
structure kV where
 fixed:Int
 bn:Int
 lower:Int
 share:Int
 top:Int
structure ot(s:kV):Prop where
 f0:0<=s.fixed
 f1:s.fixed<=1000000000
 d0:0<=s.bn
 d1:s.bn<=1000000000
 l0:0<=s.lower
 l1:s.lower<=s.fixed
 s0:0<=s.share
 s1:s.share<=1000000
 t0:0<=s.top
 t1:s.top<=1000000000
structure Tc(o:eX):Prop where
 name:bK o.id=true
 r0:0<=o.bY
 r1:o.bY<=9
 d0:0<=o.day
 d1:o.day<=84005
 a0:0<=o.amount
 a1:o.amount<=1000000000
 t0:0<=o.total
 t1:o.total<=1000000000
structure E8(l:List eX):Prop where
 len:l.length<=16
 ok:∀o∈l,Tc o
 lK:l.Pairwise (fun a b=>Op.bytesLess a.id.toList b.id.toList=true)
 nil:l=[]
def WD(o:eX):Int:=if o.amount=0 then o.total else min o.amount o.total
def mN(s:kV)(e:Int):Int:=s.fixed+s.bn*e
def o8(s:kV)(net e:Int):Int:=if net<=mN s e then net else mN s e+gM (min net (max s.top (mN s e))-mN s e) s.share 1000000 1 3
def jR(s:kV)(net e:Int):Int:=min net (s.lower+s.bn*e)
def Tj(a b:Int×Int):Prop:=a.1<b.1\/a.1=b.1/\a.2<b.2
instance (a b:Int×Int):Decidable (Tj a b):=by unfold Tj;infer_instance
def afU(e:Bool)(o:eX):Bool:=decide (o.bY=0)==e
def anz(j:Bool)(e p:Int×Int)(o:eX):Int×Int:=if afU j o=true/\Tj e (o.bY,o.day)/\Tj (o.bY,o.day) p then(o.bY,o.day)else p
def DO(l:List eX)(j:Bool)(e:Int×Int):Int×Int:=l.foldl (anz j e) (10,0)
def Td(k:Int×Int)(o:eX):Bool:=decide (o.bY=k.1)&&decide (o.day=k.2)
def Nl(l:List eX)(k:Int×Int):List Int:=(l.filter (Td k)).map WD
def EN(l:List eX)(k:Int×Int)(left:Int):List Int:=if left<aL (Nl l k)then eB left (Nl l k)else Nl l k
def JA(out:List Elem)(o:eX)(p:Int):List Elem:=if 0<p then put out ⟨o.id,p⟩else out
def JB(out:List Elem):List eX->List Int->List Elem
 |o::r,p::e=>JB (JA out o p) r e
 |_,_=>out
def Im(l:List eX)(jb:Bool):Nat->(Int×Int)->Int->List Elem->Int->List Elem×Int
 |0,_,_,out,j=>(out,j)
 |n+1,e,left,out,j=>
  if(DO l jb e).1=10 then(out,j)
  else Im l jb n (DO l jb e) (left-aL (EN l (DO l jb e) left)) (JB out (l.filter (Td (DO l jb e))) (EN l (DO l jb e) left)) (j+aL (EN l (DO l jb e) left))
def PG(l:List eX)(jb:Bool)(e:Int×Int):Nat:=(l.filter fun o=>afU jb o&&decide (Tj e (o.bY,o.day))).length
def jx(out:List Elem)(l:List eX)(jb:Bool)(left:Int):List Elem×Int:=Im l jb (PG l jb (-1,-1)) (-1,-1) left out 0
def Fa(s:kV)(net e:Int)(l:List eX):List Elem:=
 (jx (jx [] l true (net-jR s net e)).1 l false (max (net-o8 s net e-(jx [] l true (net-jR s net e)).2) 0)).1
theorem afV{n:Type}{lt:n->n->Prop}(Ej:∀x,¬lt x x)(tr:∀x y z,lt x y->lt y z->lt x z):∀{l m:List n},l.Pairwise lt->m.Pairwise lt->(∀x,x∈l↔x∈m)->l=m
 |[],[],_,_,_=>rfl
 |[],b::s,_,_,h=>by have:=(h b).2 (by simp);simp at this
 |a::r,[],_,_,h=>by have:=(h a).1 (by simp);simp at this
 |a::r,b::s,D,E,h=>by
  obtain⟨B,F⟩:=asJ.1 D;obtain⟨C,G⟩:=asJ.1 E;have u:a=b:=by
   rcases asb.1 ((h a).1 (by simp))with e|ha
   ·exact e
   ·rcases asb.1 ((h b).2 (by simp))with e|hb
    ·exact e.symm
    ·exact absurd (tr _ _ _ (B b hb) (C a ha)) (Ej _)
  subst u;rw[afV Ej tr F G (fun p=>⟨fun j=>by
   rcases asb.1 ((h p).1 (by simp[j]))with e|MG
   ·subst e;exact absurd (B _ j) (Ej _)
   ·exact MG,fun j=>by
   rcases asb.1 ((h p).2 (by simp[j]))with e|MG
   ·subst e;exact absurd (C _ j) (Ej _)
   ·exact MG⟩)]
def qg(a b:bP):Prop:=a.bY<b.bY\/a.bY=b.bY/\a.code.data.toList<b.code.data.toList
theorem qg.Ej(x:bP):¬qg x x:=by
 rintro(h|⟨_,h⟩)
 ·omega
 ·exact ate _ h
theorem qg.tr(x y z:bP)(e:qg x y)(j:qg y z):qg x z:=by
 rcases e with e|⟨e,l⟩<;>rcases j with j|⟨j,n⟩
 ·exact .inl (by omega)
 ·exact .inl (by omega)
 ·exact .inl (by omega)
 ·exact .inr ⟨by omega,List.lt_trans l n⟩
theorem Tk{l:List bP}(h:∀x∈l,AO x)(x:bP):x∈DR l↔x∈l:=by
 unfold DR;simp only[List.mem_flatMap,List.mem_range,asY,ar7];constructor
 ·rintro⟨r,_,j,_⟩;exact j
 ·intro e;have n:=(h x e).r0;have j:=(h x e).r1;exact⟨x.bY.toNat,by omega,e,by omega⟩
theorem aa8{l:List bP}(h:l.Pairwise (fun a b=>Op.bytesLess a.code.toList b.code.toList=true)):(DR l).Pairwise qg:=by
 unfold DR;rw[List.pairwise_flatMap];refine⟨fun r _=>?_,?_⟩
 ·rw[List.pairwise_filter];refine h.imp ?_;intro a b e j p;rw[B2,ByteArray.toList_eq,ByteArray.toList_eq]at e;simp only[ar7]at j p e;exact .inr ⟨by omega,e⟩
 ·refine(List.pairwise_lt_range (n:=100)).imp ?_;intro r s z x u y hy;simp only[asY,ar7]at u hy;exact .inl (by omega)
theorem aiw{l n:List bP}(z:gl l=true)(u:n.Perm l)(B:n.Pairwise (fun a b=>¬qg b a)):n=DR l:=by
 obtain⟨_,C,y⟩:=IM.1 z;refine afV qg.Ej qg.tr ?_ (aa8 y) (fun x=>by rw[Tk C,u.mem_iff]);have p:l.Pairwise (fun a b=>a.code.data.toList≠b.code.data.toList):=y.imp (by intro a b j e;rw[B2,ByteArray.toList_eq,ByteArray.toList_eq,e]at j;exact ate _ (as7 j))
 have D:=p.perm u.symm (fun h e=>h e.symm);refine(B.and D).imp ?_;rintro a b ⟨j,E⟩;rcases atc a.bY b.bY with h|h|h
 ·exact .inl h
 ·refine .inr ⟨h,?_⟩;apply Decidable.byContradiction;intro r;have F:b.code.data.toList<=a.code.data.toList:=asM.1 r;have G:¬b.code.data.toList<a.code.data.toList:=fun I=>j (.inr ⟨h.symm,I⟩);exact E (List.le_antisymm (asM.1 G) F)
 ·exact absurd (.inl h) j
theorem aix{l:List bP}(D:gl l=true):(DR l).Pairwise (fun a b=>a.code≠b.code):=by
 obtain⟨_,y,z⟩:=IM.1 D;refine List.Pairwise.imp_of_mem ?_ (aa8 z);intro a b E F n B;have p:=(Tk y a).1 E;have r:=(Tk y b).1 F;have u:a≠b:=fun e=>qg.Ej a (by subst e;exact n);obtain⟨i,hi,rfl⟩:=aso.1 p;obtain⟨j,C,rfl⟩:=aso.1 r;have G:i≠j:=fun e=>u (by subst e;rfl);have P:=asz.1 z;rcases Nat.lt_or_gt_of_ne G with h|h
 ·have:=P i j hi C h;rw[B,B2]at this;exact ate _ (as7 this)
 ·have:=P j i C hi h;rw[B,B2]at this;exact ate _ (as7 this)
section
variable {before:Bool}{base:Int}{year:List Elem}
theorem anA(P Q:List bP):∀a,tk before base year (P++Q) a=tk before base year P a++tk before base year Q (km before base year P a):=by
 induction P with
 |nil=>intro a;rfl
 |cons d r e=>intro a;simp only[List.cons_append,tk,km,e,asH]
theorem anB(P Q:List bP):∀a,km before base year (P++Q) a=km before base year Q (km before base year P a):=by
 induction P with
 |nil=>intro a;rfl
 |cons d r e=>intro a;simp only[List.cons_append,km,e]
theorem YH(P:List bP):∀a,(tk before base year P a).length<=P.length:=by
 induction P with
 |nil=>intro a;simp[tk]
 |cons d r e=>intro a;simp only[tk,arV,arZ];have:=e (a-my before base year d a);split<;>simp<;>omega
theorem aa9{d:bP}{left:Int}(h:AO d)(e:0<=base)(j:base<=1000000000)(l:0<=left):0<=my before base year d left/\my before base year d left<=left/\my before base year d left<=1000000000:=by have:=YJ (taken:=nC year d.code) h e j;unfold my;split<;>omega
theorem UK{P:List bP}(j:∀x∈P,AO x)(l:0<=base)(n:base<=1000000000):∀a,0<=a->0<=km before base year P a/\km before base year P a<=a:=by
 induction P with
 |nil=>intro a e;exact⟨e,asI _⟩
 |cons d r p=>intro a e;have y:=aa9 (before:=before) (year:=year) (left:=a) (j d (by simp)) l n e;have:=p (fun x u=>j x (by simp[u])) (a-my before base year d a) (by omega);simp only[km];omega
theorem afW{P:List bP}(j:∀x∈P,AO x)(p:0<=base)(u:base<=1000000000):∀a,0<=a->∀x∈tk before base year P a,(∃d∈P,x.code=d.code)/\0<x.amount/\x.amount<=a/\x.amount<=1000000000:=by
 induction P with
 |nil=>intro a l x hx;simp[tk]at hx
 |cons d r y=>
  intro a l x hx;have n:=aa9 (before:=before) (year:=year) (left:=a) (j d (by simp)) p u l;simp only[tk,asf]at hx;rcases hx with hx|hx
  ·split at hx
   ·rename_i z;simp at hx;subst hx;exact⟨⟨d,by simp,rfl⟩,z,n.2.1,n.2.2⟩
   ·simp at hx
  ·obtain⟨⟨e,B,C⟩,D,F,E⟩:=y (fun x hx=>j x (by simp[hx])) _ (by omega) x hx;exact⟨⟨e,by simp[B],C⟩,D,by omega,E⟩
theorem aiC{P:List bP}(p:P.Pairwise (fun a b=>a.code≠b.code)):∀a,(tk before base year P a).Pairwise (fun a b=>a.code≠b.code):=by
 have u:∀(P:List bP) a x,x∈tk before base year P a->∃d∈P,x.code=d.code:=by
  intro P
  induction P with
  |nil=>intro a x hx;simp[tk]at hx
  |cons d r j=>
   intro a x hx;simp only[tk,asf]at hx;rcases hx with hx|hx
   ·split at hx
    ·simp at hx;subst hx;exact⟨d,by simp,rfl⟩
    ·simp at hx
   ·obtain⟨e,l,n⟩:=j _ x hx;exact⟨e,by simp[l],n⟩
 induction P with
 |nil=>intro a;exact List.Pairwise.nil
 |cons d r j=>
  intro a;obtain⟨z,B⟩:=asJ.1 p;simp only[tk];rw[List.pairwise_append];refine⟨by split<;>simp,j B _,fun x hx y hy=>?_⟩;split at hx
  ·simp at hx;subst hx;obtain⟨e,l,n⟩:=u r _ y hy;rw[n];exact z e l
  ·simp at hx
theorem afX(P:List bP)(e:∀x∈P,AO x)(j:0<=base)(l:base<=1000000000):∀a,0<=a->aR (tk before base year P a)=a-km before base year P a:=by
 induction P with
 |nil=>intro a _;simp[tk,km,aR]
 |cons d r n=>
  intro a p;have y:=aa9 (before:=before) (year:=year) (left:=a) (e d (by simp)) j l p;simp only[tk,km,ad0,n (fun x u=>e x (by simp[u])) _ (show 0<=a-my before base year d a by omega)];split
  ·simp only[aR];omega
  ·simp only[aR];omega
end
theorem afD(l:List Elem)(e:Elem):aR (put l e)=aR l+e.amount:=by
 induction l with
 |nil=>simp[put,aR]
 |cons a l j=>
  rw[put];split
  ·simp only[aR,j];omega
  ·split
   ·simp only[aR];omega
   ·simp only[aR];omega
theorem anC(l:List Elem):∀e,aR (l.foldl put e)=aR e+aR l:=by
 induction l with
 |nil=>intro e;simp[aR]
 |cons a l j=>intro e;rw[asR,j,afD];simp only[aR];omega
theorem afY(l:List Elem):aR (bF l)=aR l:=by have:=anC l [];simpa[bF,aR]using this
theorem afN(l:List Elem):aR (l.filter nz)=aR l:=by
 induction l with
 |nil=>rfl
 |cons a l e=>
  rw[as0];split
  ·simp only[aR,e]
  ·rename_i h;have:a.amount=0:=(by simpa[nz]using h);simp only[aR,e];omega
theorem anD{l m:List Elem}(h:l.Perm m)(c:List UInt8):cE l c=cE m c:=by
 induction h with
 |nil=>rfl
 |cons a _ e=>simp only[cE,e]
 |swap a b l=>simp only[cE];omega
 |trans _ _ j n=>rw[j,n]
theorem anE{l m:List Elem}(h:l.Perm m)(c:List UInt8):fN l c=fN m c:=by rw[Bool.eq_iff_iff];simp only[fN,asx];exact⟨fun⟨x,j,e⟩=>⟨x,h.mem_iff.1 j,e⟩,fun⟨x,j,e⟩=>⟨x,h.mem_iff.2 j,e⟩⟩
theorem aiD{e j:List Elem}(l:j.Perm e)(n:jc j):j=bF e:=
 Uj n (Jg e) (fun x=>by rw[mem_sorted n,mem_sorted (Jg e),Ry,Rx,anD l,anE l])
