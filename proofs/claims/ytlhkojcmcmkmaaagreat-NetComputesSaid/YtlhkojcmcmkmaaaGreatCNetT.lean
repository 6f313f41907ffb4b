/- Conditions: as stated. -/
import Derived.Test.YtlhkojcmcmkmaaaGreatCRound2
namespace Go.Proofs.YtlhkojcmcmkmaaaGreat
open Go.Proofs.Tryz
open Go.RowKit
structure dx where
 code:ByteArray
 aD:Int
 aV:Int
 floor:Int
 dO:Int
 unit:Int
 mode:Int
 ep:Bool
deriving DecidableEq
def Ir(x:dx):List Value:=[.string x.code,.int .i64 x.aD,.int .i64 x.aV,.int .i64 x.floor,.int .i64 x.dO,.int .i64 x.unit,.int .i64 x.mode,.bool x.ep]
theorem ZL(x:dx):(Ir x).length=8:=rfl
theorem am7(x:dx):∀u∈Ir x,u.oneCell'=true:=by intro u hu;simp[Ir]at hu;rcases hu with rfl|rfl|rfl|rfl|rfl|rfl|rfl|rfl<;>rfl
def Eg(x:dx):Value:=.agg #[.string x.code,.int .i64 x.aD,.int .i64 x.aV,.int .i64 x.floor,.int .i64 x.dO,.int .i64 x.unit,.int .i64 x.mode,.bool x.ep]
theorem am6:(Tryz.prog.info? 123).map (fun i=>(i.zero,i.size,i.bytes))=some (some (.agg #[.string ⟨#[]⟩,.int .i64 0,.int .i64 0,.int .i64 0,.int .i64 0,.int .i64 0,.int .i64 0,.bool false]),8,72):=by kernel_rfl
structure gM where
 base:Int
 aD:Int
 aV:Int
deriving DecidableEq
def dY(x:gM):List Value:=[.int .i64 x.base,.int .i64 x.aD,.int .i64 x.aV]
theorem KI(x:gM):(dY x).length=3:=rfl
def I3(x:gM):Value:=.agg #[.int .i64 x.base,.int .i64 x.aD,.int .i64 x.aV]
theorem ajO:(Tryz.prog.info? 142).map (fun i=>(i.zero,i.size,i.bytes))=some (some (.agg #[.int .i64 0,.int .i64 0,.int .i64 0]),3,24):=by kernel_rfl
structure dv where
 cg:Int
 cB:Int
deriving DecidableEq
def ik(x:dv):List Value:=[.int .i64 x.cg,.int .i64 x.cB]
theorem Di(x:dv):(ik x).length=2:=rfl
theorem PS(x:dv):∀u∈ik x,u.oneCell'=true:=by intro u hu;simp[ik]at hu;rcases hu with rfl|rfl<;>rfl
theorem PR:(Tryz.prog.info? 127).map (fun i=>(i.zero,i.size,i.bytes))=some (some (.agg #[.int .i64 0,.int .i64 0]),2,16):=by kernel_rfl
structure nd where
 cg:Int
 aw:Int
deriving DecidableEq
def oO(x:nd):List Value:=[.int .i64 x.cg,.int .i64 x.aw]
theorem Iz(x:nd):(oO x).length=2:=rfl
theorem abh(x:nd):∀u∈oO x,u.oneCell'=true:=by intro u hu;simp[oO]at hu;rcases hu with rfl|rfl<;>rfl
theorem abg:(Tryz.prog.info? 93).map (fun i=>(i.zero,i.size,i.bytes))=some (some (.agg #[.int .i64 0,.int .i64 0]),2,16):=by kernel_rfl
structure bn where
 id:ByteArray
 aT:Int
 day:Int
 amount:Int
 total:Int
deriving DecidableEq
def mO(x:bn):List Value:=[.string x.id,.int .i64 x.aT,.int .i64 x.day,.int .i64 x.amount,.int .i64 x.total]
theorem afY(x:bn):(mO x).length=5:=rfl
theorem amS(x:bn):∀u∈mO x,u.oneCell'=true:=by intro u hu;simp[mO]at hu;rcases hu with rfl|rfl|rfl|rfl|rfl<;>rfl
def aab(x:bn):Value:=.agg #[.string x.id,.int .i64 x.aT,.int .i64 x.day,.int .i64 x.amount,.int .i64 x.total]
theorem amR:(Tryz.prog.info? 67).map (fun i=>(i.zero,i.size,i.bytes))=some (some (.agg #[.string ⟨#[]⟩,.int .i64 0,.int .i64 0,.int .i64 0,.int .i64 0]),5,48):=by kernel_rfl
structure cI where
 A:Option Addr
 cap:Nat
 l:List Int
 base:Int
def cI.v(x:cI):List Int×Int:=(x.l,x.base)
def pS(x:cI):List Value:=[.slice x.A x.l.length x.cap,.int .i64 x.base]
theorem KT(x:cI):(pS x).length=2:=rfl
theorem aaz(x:cI):∀u∈pS x,u.oneCell'=true:=by intro u hu;simp[pS]at hu;rcases hu with rfl|rfl<;>rfl
theorem aay:(Tryz.prog.info? 137).map (fun i=>(i.zero,i.size,i.bytes))=some (some (.agg #[.slice none 0 0,.int .i64 0]),2,32):=by kernel_rfl
def ax:List Int->Int
 |[]=>0
 |x::r=>x+ax r
theorem F9(l m:List Int):ax (l++m)=ax l+ax m:=by
 induction l with
 |nil=>simp[ax]
 |cons a l e=>simp[ax,e];omega
theorem Q3(l:List Int)(k:Nat)(h:k<l.length):ax (l.take (k+1))=ax (l.take k)+l[k]:=by rw[aud h,F9];simp[ax]
theorem nv{l:List Int}{B:Int}(h:∀x∈l,0<=x/\x<=B):0<=ax l/\ax l<=l.length*B:=by
 induction l with
 |nil=>simp[ax]
 |cons a l e=>have n:=h a (by simp);have p:=e (fun x j=>h x (by simp[j]));simp only[ax,at4];rw[show((l.length+1:Nat):Int)*B=l.length*B+B by rw[Int.natCast_add,auN];omega];omega
theorem EZ{l:List Int}(h:∀x∈l,0<=x){y:Int}(hy:y∈l):y<=ax l:=by
 induction l with
 |nil=>cases hy
 |cons a l p=>
  have r:=h a (by simp);have u:0<=ax l:=by
   clear p hy
   induction l with
   |nil=>simp[ax]
   |cons b l n=>have:=h b (by simp);have:=n (fun x j=>h x (by simp at j|-;rcases j with e|e;exact .inl e;exact .inr (.inr e)));simp only[ax];omega
  simp only[ax];rcases auf.1 hy with e|e
  ·omega
  ·have:=p (fun x j=>h x (by simp[j])) e;omega
def cW(total:Int)(ws:List Int):List Int:=ws.map fun x=>total*x/ax ws
def k6(total:Int)(ws:List Int):List Int:=ws.map fun x=>total*x%ax ws
def k7(r:List Int):Nat->Nat
 |0=>0
 |k+1=>if r.getD (k7 r k) 0<r.getD (k+1) 0 then k+1 else k7 r k
def dM(r:List Int):Nat:=k7 r (r.length-1)
def Dd:Nat->List Int->List Int->List Int
 |0,p,_=>p
 |m+1,p,r=>Dd m (p.set (dM r) (p.getD (dM r) 0+1)) (r.set (dM r) (-1))
def nS(total:Int)(ws:List Int):Int:=total-ax (cW total ws)
def en(total:Int)(ws:List Int):List Int:=Dd (nS total ws).toNat (cW total ws) (k6 total ws)
theorem Vk(r:List Int)(k:Nat):k7 r k<=k:=by
 induction k with
 |zero=>exact atN _
 |succ k e=>rw[k7];split<;>omega
theorem Q5{r:List Int}(h:0<r.length):dM r<r.length:=by have:=Vk r (r.length-1);unfold dM;omega
theorem aol:∀(m:Nat) (p r:List Int),(Dd m p r).length=p.length:=by
 intro m
 induction m with
 |zero=>intro p r;rfl
 |succ m e=>intro p r;rw[Dd,e];simp
theorem Zd(p:List Int)(i:Nat)(x:Int)(h:i<p.length):ax (p.set i x)=ax p-p.getD i 0+x:=by
 induction p generalizing i with
 |nil=>simp at h
 |cons a p e=>
  cases i with
  |zero=>simp[ax];omega
  |succ i=>simp only[at8,ax,e i (by simpa using h),List.getD_cons_succ];omega
theorem aom:∀(m:Nat) (p r:List Int),0<p.length->r.length=p.length->ax (Dd m p r)=ax p+m:=by
 intro m
 induction m with
 |zero=>intro p r _ _;simp[Dd]
 |succ m e=>intro p r j l;have n:=Q5 (r:=r) (by omega);rw[Dd,e _ _ (by simpa using j) (by simpa using l),Zd _ _ _ (by omega)];omega
theorem IY{p:List Int}(h:∀x∈p,0<=x)(i:Nat):0<=p.getD i 0:=by
 rw[atZ];cases e:p[i]?with
 |none=>simp
 |some v=>exact h v (List.mem_of_getElem? e)
theorem aon:∀(m:Nat) (p r:List Int),(∀x∈p,0<=x)->∀x∈Dd m p r,0<=x:=by
 intro m
 induction m with
 |zero=>intro p r h;exact h
 |succ m j=>
  intro p r h;refine j _ _ (fun x l=>?_);rcases avB l with e|e
  ·exact h x e
  ·have:=IY h (dM r);omega
theorem Q4{total:Int}{ws:List Int}(e:0<=total)(j:∀x∈ws,0<=x)(n:0<ax ws):∀x∈cW total ws,0<=x:=by intro x l;obtain⟨y,hy,rfl⟩:=aue.1 l;exact au5 (aur e (j y hy)) (by omega)
theorem Ox{total:Int}{ws:List Int}(j:0<ax ws):ax (cW total ws)<=total:=by
 have key:∀(l:List Int) (s:Int),0<s->ax (l.map fun x=>total*x/s)*s<=total*ax l:=by
  intro l s j
  induction l with
  |nil=>simp[ax]
  |cons a l p=>have:=avy (total*a) s;have r:=auY (total*a) (show s≠0 by omega);simp only[auW,ax,auN,Int.mul_add];have e:s*(total*a/s)=total*a/s*s:=auZ _ _;omega
 have n:=key ws (ax ws) j;unfold cW;exact Int.le_of_mul_le_mul_right n j
theorem Pf(e:Int)(j:List Int):(en e j).length=j.length:=by rw[en,aol,cW,auq]
theorem abu{e:Int}{j:List Int}(l:0<=e)(n:∀x∈j,0<=x)(p:0<ax j):∀x∈en e j,0<=x:=
 aon _ _ _ (Q4 l n p)
theorem Ze{ws:List Int}(e:0<ax ws):0<ws.length:=by
 cases ws with
 |nil=>simp[ax]at e
 |cons a l=>simp
theorem TT{total:Int}{e:List Int}(j:0<ax e):ax (en total e)=total:=by have n:=Ox (total:=total) j;have l:=Ze j;rw[en,aom _ _ _ (by simp[cW];exact l) (by simp[cW,k6]),nS];omega
structure oD(s:dx):Prop where
 name:bI s.code=true
 e0:0<=s.aD
 e1:s.aD<=1000000
 r0:0<=s.aV
 r1:s.aV<=1000000
 c0:1<=s.dO
 c1:s.dO<=1000000000
 f0:0<=s.floor
 f1:s.floor<=s.dO
 u0:1<=s.unit
 u1:s.unit<=100
 m0:0<=s.mode
 m1:s.mode<=6
def bE(s:dx)(b:Int):gM:=⟨b,gW b s.aD 1000000 s.unit s.mode,gW b s.aV 1000000 s.unit s.mode⟩
def mH(s:dx)(l:List Int):Int:=ax (l.filter fun x=>decide (s.floor<=x))
def dU(s:dx)(l:List Int):Int:=min (mH s l) (l.length*s.dO)
def Mp(a b:gM):gM:=⟨a.base-b.base,a.aD-b.aD,a.aV-b.aV⟩
def lF(s:dx)(l:List Int):gM:=Mp (bE s (dU s l)) (bE s (dU s l.dropLast))
def jN:gM:=⟨0,0,0⟩
def nT(v:gM)(e:List Int):List gM:=
 if ax e=0 then(List.replicate e.length jN).set 0 v
 else(List.range e.length).map fun i=>⟨(en v.base e).getD i 0,(en v.aD e).getD i 0,(en v.aV e).getD i 0⟩
def Gf(a b:List Int):List Int:=List.zipWith (·+·) a b
def qD(n:Nat)(l:List (List Int×Int)):List Int:=l.foldl (fun j e=>Gf j (e.1++[e.2])) (List.replicate (n+1) 0)
def nU(e:List (List Int×Int)):List Int:=e.map (·.2)
structure Eh(n:Nat)(es:List (List Int×Int)):Prop where
 ne:0<es.length
 len:es.length<=8
 nn:n<=52
 lens:∀e∈es,e.1.length=n
 base:∀e∈es,0<=e.2/\e.2<=1000000000
 earlier:∀e∈es,∀x∈e.1,0<=x/\x<=1000000000
def iE(s:dx)(n:Nat)(e:List (List Int×Int)):gM:=lF s (qD n e)
def E9(s:dx)(n:Nat)(e:List (List Int×Int)):List gM:=nT (iE s n e) (nU e)
def gI(v:gM):Bool:=decide (1000000000<v.base)||decide (1000000000<v.aD)||decide (1000000000<v.aV)
def jc:dv:=⟨0,0⟩
def sumTo(f:Nat->Int):Nat->Int
 |0=>0
 |n+1=>sumTo f n+f n
structure ji(t:List dv):Prop where
 ne:0<t.length
 len:t.length<=24
 zero:(t.getD 0 jc).cg=0
 jr:∀i,i+1<t.length->(t.getD i jc).cg<(t.getD (i+1) jc).cg
 hi:∀i,i<t.length->(t.getD i jc).cg<=1000000000000
 r0:∀i,i<t.length->0<=(t.getD i jc).cB
 r1:∀i,i<t.length->(t.getD i jc).cB<=1000000
def Qa(t:List dv)(e:Int)(i:Nat):Int:=if i+1<t.length then min e (t.getD (i+1) jc).cg else e
def jK(t:List dv)(inc:Int)(i:Nat):Int:=max (Qa t inc i-(t.getD i jc).cg) 0
def LQ(t:List dv)(inc:Int):List Int:=(List.range t.length).map (jK t inc)
def DX(t:List dv)(inc:Int):Int:=sumTo (fun i=>jK t inc i*(t.getD i jc).cB) t.length
def EJ(t:List dv)(inc unit mode:Int):Int:=gY (DX t inc) (1000000*unit) mode*unit
def jz(t:List dv)(num den:Int)(i:Nat):Int:=(t.getD i jc).cg*num/den
def FR(t:List dv)(num den:Int)(i:Nat):Bool:=decide (i+1<t.length)&&decide (jz t num den (i+1)=jz t num den i)
def nL(t:List dv)(num den:Int):Nat->List dv
 |0=>[]
 |k+1=>if FR t num den k then nL t num den k else nL t num den k++[⟨jz t num den k,(t.getD k jc).cB⟩]
def qx(t:List dv)(num den:Int):List dv:=nL t num den t.length
structure Ek where
 method:Int
 aR:List dv
 bJ:Int
 bK:Int
 unit:Int
 mode:Int
 rows:List nd
def mE:nd:=⟨0,0⟩
structure NG(t:List nd):Prop where
 ne:0<t.length
 len:t.length<=256
 zero:(t.getD 0 mE).cg=0
 jr:∀i,i+1<t.length->(t.getD i mE).cg<(t.getD (i+1) mE).cg
 hi:∀i,i<t.length->(t.getD i mE).cg<=1000000000
 t0:∀i,i<t.length->0<=(t.getD i mE).aw
 t1:∀i,i<t.length->(t.getD i mE).aw<=1000000000
structure pP(t:Ek):Prop where
 m0:1<=t.method
 m1:t.method<=3
 aR:ji t.aR
 a0:0<=t.bJ
 a1:t.bJ<=1000000000
 c0:0<=t.bK
 c1:t.bK<=1000000000
 u0:1<=t.unit
 u1:t.unit<=100
 Ha:0<=t.mode
 Hb:t.mode<=6
 rows:t.method=1->NG t.rows
 none:t.method≠1->t.rows=[]
def Cm(t:Ek)(l:List dv)(al cr inc:Int):Int:=max (EJ l (max (inc-al) 0) t.unit t.mode-cr) 0
def FU(t:Ek)(j e:Int):Int:=Cm t t.aR t.bJ t.bK (j*e)/e
def DY(l:List nd)(e:Int):Nat->Int
 |0=>0
 |k+1=>if(l.getD k mE).cg<=e then(l.getD k mE).aw else DY l e k
def JR(l:List nd)(e:Int):Int:=DY l e l.length
def BN(t:Ek)(e k j:Int):Int:=Cm t (qx t.aR k e) (t.bJ*k/e) (t.bK*k/e) j
def Dv(t:Ek)(e l n p j:Int):Int:=
 if t.method=1 then JR t.rows j else if t.method=2 then FU t j e else BN t e (l+1) (n+j)-p
structure kB where
 fixed:Int
 bO:Int
 lower:Int
 share:Int
 top:Int
structure oL(s:kB):Prop where
 f0:0<=s.fixed
 f1:s.fixed<=1000000000
 d0:0<=s.bO
 d1:s.bO<=1000000000
 l0:0<=s.lower
 l1:s.lower<=s.fixed
 s0:0<=s.share
 s1:s.share<=1000000
 t0:0<=s.top
 t1:s.top<=1000000000
structure EM(o:bn):Prop where
 name:bI o.id=true
 r0:0<=o.aT
 r1:o.aT<=9
 d0:0<=o.day
 d1:o.day<=84005
 a0:0<=o.amount
 a1:o.amount<=1000000000
 t0:0<=o.total
 t1:o.total<=1000000000
structure Bq(l:List bn):Prop where
 len:l.length<=16
 ok:∀o∈l,EM o
 jr:l.Pairwise (fun a b=>Op.bytesLess a.id.toList b.id.toList=true)
def iZ(o:bn):Int:=if o.amount=0 then o.total else min o.amount o.total
def ng(s:kB)(e:Int):Int:=s.fixed+s.bO*e
def ny(s:kB)(net deps:Int):Int:=if net<=ng s deps then net else ng s deps+gW (min net (max s.top (ng s deps))-ng s deps) s.share 1000000 1 3
def iH(s:kB)(net deps:Int):Int:=min net (s.lower+s.bO*deps)
def dR(a b:Int×Int):Prop:=a.1<b.1\/a.1=b.1/\a.2<b.2
instance (a b:Int×Int):Decidable (dR a b):=by unfold dR;infer_instance
def mP(aU:Bool)(o:bn):Bool:=decide (o.aT=0)==aU
def C6(j:Bool)(e p:Int×Int)(o:bn):Int×Int:=if mP j o=true/\dR e (o.aT,o.day)/\dR (o.aT,o.day) p then(o.aT,o.day)else p
def gS(l:List bn)(aU:Bool)(last:Int×Int):Int×Int:=l.foldl (C6 aU last) (10,0)
def fY(k:Int×Int)(o:bn):Bool:=decide (o.aT=k.1)&&decide (o.day=k.2)
def JN(l:List bn)(k:Int×Int):List Int:=(l.filter (fY k)).map iZ
def ql(l:List bn)(k:Int×Int)(left:Int):List Int:=if left<ax (JN l k)then en left (JN l k)else JN l k
def o9(out:List Elem)(o:bn)(p:Int):List Elem:=if 0<p then put out ⟨o.id,p⟩else out
def Ah(out:List Elem):List bn->List Int->List Elem
 |o::r,p::e=>Ah (o9 out o p) r e
 |_,_=>out
def nX(l:List bn)(aU:Bool):Nat->(Int×Int)->Int->List Elem->Int->List Elem×Int
 |0,_,_,out,taken=>(out,taken)
 |n+1,last,left,out,taken=>
  if(gS l aU last).1=10 then(out,taken)
  else nX l aU n (gS l aU last) (left-ax (ql l (gS l aU last) left)) (Ah out (l.filter (fY (gS l aU last))) (ql l (gS l aU last) left)) (taken+ax (ql l (gS l aU last) left))
def o8(l:List bn)(aU:Bool)(last:Int×Int):Nat:=(l.filter fun o=>mP aU o&&decide (dR last (o.aT,o.day))).length
def jn(out:List Elem)(l:List bn)(aU:Bool)(left:Int):List Elem×Int:=nX l aU (o8 l aU (-1,-1)) (-1,-1) left out 0
def B6(s:kB)(net deps:Int)(l:List bn):List Elem:=
 (jn (jn [] l true (net-iH s net deps)).1 l false (max (net-ny s net deps-(jn [] l true (net-iH s net deps)).2) 0)).1
theorem agW{n:Type}{lt:n->n->Prop}(EB:∀x,¬lt x x)(tr:∀x y z,lt x y->lt y z->lt x z):∀{l m:List n},l.Pairwise lt->m.Pairwise lt->(∀x,x∈l↔x∈m)->l=m
 |[],[],_,_,_=>rfl
 |[],b::s,_,_,h=>by have:=(h b).2 (by simp);simp at this
 |a::r,[],_,_,h=>by have:=(h a).1 (by simp);simp at this
 |a::r,b::s,D,E,h=>by
  obtain⟨B,F⟩:=aus.1 D;obtain⟨C,G⟩:=aus.1 E;have u:a=b:=by
   rcases auf.1 ((h a).1 (by simp))with e|ha
   ·exact e
   ·rcases auf.1 ((h b).2 (by simp))with e|hb
    ·exact e.symm
    ·exact absurd (tr _ _ _ (B b hb) (C a ha)) (EB _)
  subst u;rw[agW EB tr F G (fun p=>⟨fun j=>by
   rcases auf.1 ((h p).1 (by simp[j]))with e|Nh
   ·subst e;exact absurd (B _ j) (EB _)
   ·exact Nh,fun j=>by
   rcases auf.1 ((h p).2 (by simp[j]))with e|Nh
   ·subst e;exact absurd (C _ j) (EB _)
   ·exact Nh⟩)]
def Ap(a b:bN):Prop:=a.aT<b.aT\/a.aT=b.aT/\a.code.data.toList<b.code.data.toList
theorem Ap.EB(x:bN):¬Ap x x:=by
 rintro(h|⟨_,h⟩)
 ·omega
 ·exact avi _ h
theorem Ap.tr(x y z:bN)(e:Ap x y)(j:Ap y z):Ap x z:=by
 rcases e with e|⟨e,l⟩<;>rcases j with j|⟨j,n⟩
 ·exact .inl (by omega)
 ·exact .inl (by omega)
 ·exact .inl (by omega)
 ·exact .inr ⟨by omega,List.lt_trans l n⟩
theorem TZ{l:List bN}(h:∀x∈l,BF x)(x:bN):x∈DZ l↔x∈l:=by
 unfold DZ;simp only[List.mem_flatMap,List.mem_range,auR,auc];constructor
 ·rintro⟨r,_,j,_⟩;exact j
 ·intro e;have n:=(h x e).r0;have j:=(h x e).r1;exact⟨x.aT.toNat,by omega,e,by omega⟩
theorem abJ{l:List bN}(h:l.Pairwise (fun a b=>Op.bytesLess a.code.toList b.code.toList=true)):(DZ l).Pairwise Ap:=by
 unfold DZ;rw[List.pairwise_flatMap];refine⟨fun r _=>?_,?_⟩
 ·rw[List.pairwise_filter];refine h.imp ?_;intro a b e j p;rw[Ce,ByteArray.toList_eq,ByteArray.toList_eq]at e;simp only[auc]at j p e;exact .inr ⟨by omega,e⟩
 ·refine(List.pairwise_lt_range (n:=100)).imp ?_;intro r s z x u y hy;simp only[auR,auc]at u hy;exact .inl (by omega)
theorem aoo{l n:List bN}(z:gF l=true)(u:n.Perm l)(B:n.Pairwise (fun a b=>¬Ap b a)):n=DZ l:=by
 obtain⟨_,C,y⟩:=Ip.1 z;refine agW Ap.EB Ap.tr ?_ (abJ y) (fun x=>by rw[TZ C,u.mem_iff]);have p:l.Pairwise (fun a b=>a.code.data.toList≠b.code.data.toList):=y.imp (by intro a b j e;rw[Ce,ByteArray.toList_eq,ByteArray.toList_eq,e]at j;exact avi _ (au9 j))
 have D:=p.perm u.symm (fun h e=>h e.symm);refine(B.and D).imp ?_;rintro a b ⟨j,E⟩;rcases avp a.aT b.aT with h|h|h
 ·exact .inl h
 ·refine .inr ⟨h,?_⟩;apply avx;intro r;have F:b.code.data.toList<=a.code.data.toList:=auP.1 r;have G:¬b.code.data.toList<a.code.data.toList:=fun I=>j (.inr ⟨h.symm,I⟩);exact E (List.le_antisymm (auP.1 G) F)
 ·exact absurd (.inl h) j
theorem aop{l:List bN}(D:gF l=true):(DZ l).Pairwise (fun a b=>a.code≠b.code):=by
 obtain⟨_,y,z⟩:=Ip.1 D;refine List.Pairwise.imp_of_mem ?_ (abJ z);intro a b E F n B;have p:=(TZ y a).1 E;have r:=(TZ y b).1 F;have u:a≠b:=fun e=>Ap.EB a (by subst e;exact n);obtain⟨i,hi,rfl⟩:=aun.1 p;obtain⟨j,C,rfl⟩:=aun.1 r;have G:i≠j:=fun e=>u (by subst e;rfl);have P:=auz.1 z;rcases Nat.lt_or_gt_of_ne G with h|h
 ·have:=P i j hi C h;rw[B,Ce]at this;exact avi _ (au9 this)
 ·have:=P j i C hi h;rw[B,Ce]at this;exact avi _ (au9 this)
section
variable {before:Bool}{base:Int}{year:List Elem}
theorem aoq(P Q:List bN):∀a,tk before base year (P++Q) a=tk before base year P a++tk before base year Q (kF before base year P a):=by
 induction P with
 |nil=>intro a;rfl
 |cons d r e=>intro a;simp only[List.cons_append,tk,kF,e,auG]
theorem aor(P Q:List bN):∀a,kF before base year (P++Q) a=kF before base year Q (kF before base year P a):=by
 induction P with
 |nil=>intro a;rfl
 |cons d r e=>intro a;simp only[List.cons_append,kF,e]
theorem abK(P:List bN):∀a,(tk before base year P a).length<=P.length:=by
 induction P with
 |nil=>intro a;simp[tk]
 |cons d r e=>intro a;simp only[tk,at3,at4];have:=e (a-mW before base year d a);split<;>simp<;>omega
theorem abL{d:bN}{left:Int}(h:BF d)(e:0<=base)(j:base<=1000000000)(l:0<=left):0<=mW before base year d left/\mW before base year d left<=left/\mW before base year d left<=1000000000:=by have:=aaJ (taken:=oh year d.code) h e j;unfold mW;split<;>omega
theorem Ww{P:List bN}(j:∀x∈P,BF x)(l:0<=base)(n:base<=1000000000):∀a,0<=a->0<=kF before base year P a/\kF before base year P a<=a:=by
 induction P with
 |nil=>intro a e;exact⟨e,auJ _⟩
 |cons d r p=>intro a e;have y:=abL (before:=before) (year:=year) (left:=a) (j d (by simp)) l n e;have:=p (fun x u=>j x (by simp[u])) (a-mW before base year d a) (by omega);simp only[kF];omega
theorem agX{P:List bN}(j:∀x∈P,BF x)(p:0<=base)(u:base<=1000000000):∀a,0<=a->∀x∈tk before base year P a,(∃d∈P,x.code=d.code)/\0<x.amount/\x.amount<=a/\x.amount<=1000000000:=by
 induction P with
 |nil=>intro a l x hx;simp[tk]at hx
 |cons d r y=>
  intro a l x hx;have n:=abL (before:=before) (year:=year) (left:=a) (j d (by simp)) p u l;simp only[tk,aul]at hx;rcases hx with hx|hx
  ·split at hx
   ·rename_i z;simp at hx;subst hx;exact⟨⟨d,by simp,rfl⟩,z,n.2.1,n.2.2⟩
   ·simp at hx
  ·obtain⟨⟨e,B,C⟩,D,F,E⟩:=y (fun x hx=>j x (by simp[hx])) _ (by omega) x hx;exact⟨⟨e,by simp[B],C⟩,D,by omega,E⟩
theorem aos{P:List bN}(p:P.Pairwise (fun a b=>a.code≠b.code)):∀a,(tk before base year P a).Pairwise (fun a b=>a.code≠b.code):=by
 have u:∀(P:List bN) a x,x∈tk before base year P a->∃d∈P,x.code=d.code:=by
  intro P
  induction P with
  |nil=>intro a x hx;simp[tk]at hx
  |cons d r j=>
   intro a x hx;simp only[tk,aul]at hx;rcases hx with hx|hx
   ·split at hx
    ·simp at hx;subst hx;exact⟨d,by simp,rfl⟩
    ·simp at hx
   ·obtain⟨e,l,n⟩:=j _ x hx;exact⟨e,by simp[l],n⟩
 induction P with
 |nil=>intro a;exact List.Pairwise.nil
 |cons d r j=>
  intro a;obtain⟨z,B⟩:=aus.1 p;simp only[tk];rw[avr];refine⟨by split<;>simp,j B _,fun x hx y hy=>?_⟩;split at hx
  ·simp at hx;subst hx;obtain⟨e,l,n⟩:=u r _ y hy;rw[n];exact z e l
  ·simp at hx
theorem agY(P:List bN)(e:∀x∈P,BF x)(j:0<=base)(l:base<=1000000000):∀a,0<=a->aB (tk before base year P a)=a-kF before base year P a:=by
 induction P with
 |nil=>intro a _;simp[tk,kF,aB]
 |cons d r n=>
  intro a p;have y:=abL (before:=before) (year:=year) (left:=a) (e d (by simp)) j l p;simp only[tk,kF,afg,n (fun x u=>e x (by simp[u])) _ (show 0<=a-mW before base year d a by omega)];split
  ·simp only[aB];omega
  ·simp only[aB];omega
end
theorem agH(l:List Elem)(e:Elem):aB (put l e)=aB l+e.amount:=by
 induction l with
 |nil=>simp[put,aB]
 |cons a l j=>
  rw[put];split
  ·simp only[aB,j];omega
  ·split
   ·simp only[aB];omega
   ·simp only[aB];omega
theorem aot(l:List Elem):∀e,aB (l.foldl put e)=aB e+aB l:=by
 induction l with
 |nil=>intro e;simp[aB]
 |cons a l j=>intro e;rw[au1,j,agH];simp only[aB];omega
theorem agZ(l:List Elem):aB (bG l)=aB l:=by have:=aot l [];simpa[bG,aB]using this
theorem Vt(l:List Elem):aB (l.filter nz)=aB l:=by
 induction l with
 |nil=>rfl
 |cons a l e=>
  rw[auM];split
  ·simp only[aB,e]
  ·rename_i h;have:a.amount=0:=(by simpa[nz]using h);simp only[aB,e];omega
theorem aou{l m:List Elem}(h:l.Perm m)(c:List UInt8):cR l c=cR m c:=by
 induction h with
 |nil=>rfl
 |cons a _ e=>simp only[cR,e]
 |swap a b l=>simp only[cR];omega
 |trans _ _ j n=>rw[j,n]
theorem aov{l m:List Elem}(h:l.Perm m)(c:List UInt8):fI l c=fI m c:=by rw[Bool.eq_iff_iff];simp only[fI,auy];exact⟨fun⟨x,j,e⟩=>⟨x,h.mem_iff.1 j,e⟩,fun⟨x,j,e⟩=>⟨x,h.mem_iff.2 j,e⟩⟩
theorem aow{e j:List Elem}(l:j.Perm e)(n:jb j):j=bG e:=
 U7 n (Jv e) (fun x=>by rw[mem_sorted n,mem_sorted (Jv e),SK,SJ,aou l,aov l])
