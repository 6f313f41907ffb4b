/- Conditions: as stated. -/
import Derived.Test.YtlhkojcmcmkmaaaGreatKG33b
set_option maxRecDepth 100000
set_option maxHeartbeats 8000000
namespace Go.Proofs.YtlhkojcmcmkmaaaGreat
open Go.Proofs.Tryz
open Go.RowKit
def ng(m:dN):Array Value:=#[.slice m.Aw m.ws.length m.cw,.slice m.As m.ss.length m.cs,.int .i64 m.tm.t.method,.slice m.tm.Ab m.tm.t.aA.length m.tm.cb,.int .i64 m.tm.t.bg,.int .i64 m.tm.t.bh,.int .i64 m.tm.t.unit,.int .i64 m.tm.t.mode,.slice m.tm.Ar m.tm.t.rows.length m.tm.cr,.int .i64 m.count,.int .i64 m.sh.fixed,.int .i64 m.sh.bE,.int .i64 m.sh.lower,.int .i64 m.sh.share,.int .i64 m.sh.top,.int .i64 m.recover]
structure OJ(m:dN)(y:dR)(A:Option Addr)(cap:Nat)(xs:List Elem)(c:ByteArray)(t:Int)(p5 p6 p7 p8 p9:Nat)(W:World):Prop where
 R:ah W p5 45 (ng m)
 Y:ah W p6 53 (oK y)
 E:ah W p7 51 #[.slice A xs.length cap]
 C:ah W p8 9 #[.string c]
 T:ah W p9 3 #[.int .i64 t]
 ri:m.In W
 yi:y.In W
 ei:aj aN 2 W W.heap.size A xs
theorem OJ.aa{m:dN}{y:dR}{A:Option Addr}{j:Nat}{l:List Elem}{c:ByteArray}{t:Int}{n p r u z:Nat}{W B:World}(h:OJ m y A j l c t n p r u z W)(e:Below W.heap.size W B):OJ m y A j l c t n p r u z B:=
 ⟨h.R.aa e,h.Y.aa e,h.E.aa e,h.C.aa e,h.T.aa e,h.ri.aa e,h.yi.aa e,h.ei.aa e⟩
theorem Vd(m:dN)(y:dR)(A:Option Addr)(l:Nat)(j:List Elem)(c:ByteArray)(n:Int)(w:World)(B:m.In w)(hy:y.In w)(C:aj aN 2 w w.heap.size A j)(p:mK m.t y.t j c)(D:0<=n)(E:n<=100000000):
  Calls prog 36 #[.agg (ng m),.agg (oK y),.slice A j.length l,.string c,.int .i64 n] w fun e w'=>e=.returned (.tuple #[.int .i64 (fL m.t y.t j c n),.int .i64 0])/\Below w.heap.size w w':=by
 have r:mD m pQ y [] true (j++[⟨c,n⟩])=bH m.t y.t j c n:=rfl;have G:=p.xl;have u:=Q9 m y A l j c n w B hy C (by omega) (by rw[r];exact p.D8 n);rw[r]at u;refine arf (args:=#[.agg (ng m),.agg (oK y),.slice A j.length l,.string c,.int .i64 n]) u ?_;rintro e w' ⟨rfl,F⟩;have z:=p.err D E;exact⟨by rw[D7,aq9 z,z];rfl,F⟩
theorem akQ{m:dN}{y:dR}{A:Option Addr}{j:Nat}{l:List Elem}{c:ByteArray}{t:Int}{p r u z J:Nat}{W:World}(h:OJ m y A j l c t p r u z J W)(D:mK m.t y.t l c)(n:Int)(K:0<=n)(L:n<=100000000):
  Calls prog 76 #[.int .i64 n,.pointer (some ⟨p,0,none⟩),.pointer (some ⟨r,0,none⟩),.pointer (some ⟨u,0,none⟩),.pointer (some ⟨z,0,none⟩)] W fun e w'=>e=.returned (.bool false)/\Below W.heap.size W w':=by
 have F:=aq6 (Vd m y A j l c n W h.ri h.yi h.ei D K L);have G:=h.R;have I:=h.Y;have M:W.cell? ⟨u,0,none⟩=some (.slice A l.length j):=h.E.cell 0;have N:W.cell? ⟨z,0,none⟩=some (.string c):=h.C.cell 0;clear h D;go_enter func76,ntmps76;go_wp2_with(first|(refine jK rfl _ _ rfl p rfl G underlying45 rfl (by kernel_rfl) ?_)|(refine jK rfl _ _ rfl r rfl I underlying53 rfl (by kernel_rfl) ?_));refine F.out.mono ?_;rintro e O ⟨rfl,B⟩;clear F G I M N;go_wp2;go_ret;exact⟨rfl,B⟩
theorem akR{m:dN}{y:dR}{A:Option Addr}{j:Nat}{p:List Elem}{c:ByteArray}{t:Int}{u z B D F:Nat}{W:World}(h:OJ m y A j p c t u z B D F W)(I:mK m.t y.t p c)(n:Int)(O:0<=n)(P:n<=100000000):
  Calls prog 77 #[.int .i64 n,.pointer (some ⟨u,0,none⟩),.pointer (some ⟨z,0,none⟩),.pointer (some ⟨B,0,none⟩),.pointer (some ⟨D,0,none⟩),.pointer (some ⟨F,0,none⟩)] W fun e w'=>e=.returned (.bool (decide (t<=fL m.t y.t p c n)))/\Below W.heap.size W w':=by
 have J:=aq6 (Vd m y A j p c n W h.ri h.yi h.ei I O P);have K:=h.R;have L:=h.Y;have Q:W.cell? ⟨B,0,none⟩=some (.slice A p.length j):=h.E.cell 0;have S:W.cell? ⟨D,0,none⟩=some (.string c):=h.C.cell 0;have M:=h.T;clear h I;go_enter func77,ntmps77;go_wp2_with(first|(refine jK rfl _ _ rfl u rfl K underlying45 rfl (by kernel_rfl) ?_)|(refine jK rfl _ _ rfl z rfl L underlying53 rfl (by kernel_rfl) ?_));refine J.out.mono ?_;rintro e U ⟨rfl,l⟩;have V:U.cell? ⟨F,0,none⟩=some (.int .i64 t):=(M.aa l).cell 0;clear J K L Q S M;obtain⟨f,G⟩:∃f,f=fL m.t y.t p c n:=⟨_,rfl⟩
 rw[<-G];have r:=aq6 G;clear G;by_cases N:t<=f
 ·go_wp2;go_ret;exact⟨by rw[<-r.out];simp[N],l⟩
 ·go_wp2;go_ret;exact⟨by rw[<-r.out];simp,l⟩
def Q7(r:pF)(y:Bv)(x:List Elem)(c:ByteArray)(t a e:Int):Prop:=
 (¬(∃v,ee r.cN c=some v/\v.kind=1)/\a=0/\e=9)\/((∃v,ee r.cN c=some v/\v.kind=1)/\(t<0\/1000000000<t)/\a=0/\e=2)\/((∃v,ee r.cN c=some v/\v.kind=1)/\(0<=t/\t<=1000000000)/\Vq (fL r y x c) t a e)
theorem Q7.uniq{r:pF}{y:Bv}{x:List Elem}{c:ByteArray}{t a e a' n:Int}(h:Q7 r y x c t a e)(p:Q7 r y x c t a' n):a=a'/\e=n:=by
 rcases h with⟨j,rfl,rfl⟩|⟨j,u,rfl,rfl⟩|⟨j,u,z⟩<;>rcases p with⟨l,rfl,rfl⟩|⟨l,B,rfl,rfl⟩|⟨l,B,C⟩
 ·exact⟨rfl,rfl⟩
 ·exact absurd l j
 ·exact absurd l j
 ·exact absurd j l
 ·exact⟨rfl,rfl⟩
 ·omega
 ·exact absurd j l
 ·omega
 ·exact z.uniq C
theorem akn(m:dN)(y:dR)(A:Option Addr)(j:Nat)(p:List Elem)(c:ByteArray)(t:Int)(w:World)(hr:m.In w)(hy:y.In w)(Z:aj aN 2 w w.heap.size A p)(hR:CC m.t)(hm:m.tm.t.method≠1)(B:∀s∈m.ss,s.floor=0)(L:jW m.t<=900000)
  (hk:∀v∈m.ws,v.kind=1\/v.kind=2) (hg:(∃v,ee m.ws c=some v/\v.kind=1)->mK m.t y.t p c):
  Calls prog 42 #[.agg (ng m),.agg (oK y),.slice A p.length j,.string c,.int .i64 t] w fun e w'=>(∃a er,e=.returned (.tuple #[.int .i64 a,.int .i64 er])/\Q7 m.t y.t p c t a er)/\Below w.heap.size w w':=by
 obtain⟨j5,IV⟩:=IM hR.cN;have ab:m.ws.length<=9223372036854775806:=by have:m.t.cN.length=m.ws.length:=rfl;omega
 have HG:=aq6 hg;have HK:=aq6 hk
 -- aE ay
 obtain⟨W5,J⟩:∃W5,W5=((((w.alloc (.cells (ng m) 45)).alloc (.cells (oK y) 53)).alloc (.cells #[.slice A p.length j] 51)).alloc (.cells #[.string c] 9)).alloc (.cells #[.int .i64 t] 3):=⟨_,rfl⟩
 have F:Below w.heap.size w W5:=by rw[J];exact ew (ew (ew (ew (bF _ _) _) _) _) _
 have hH:OJ m y A j p c t w.heap.size (w.heap.size+1) (w.heap.size+1+1) (w.heap.size+1+1+1) (w.heap.size+1+1+1+1) W5:=by
  refine⟨?_,?_,?_,?_,?_,hr.aa F,hy.aa F,Z.aa F⟩
  ·rw[J];exact((((ah.new w _ _).alloc _).alloc _).alloc _).alloc _
  ·rw[J];have:=(((ah.new (w.alloc (.cells (ng m) 45)) 53 (oK y)).alloc (.cells #[.slice A p.length j] 51)).alloc (.cells #[.string c] 9)).alloc (.cells #[.int .i64 t] 3)
   rwa [arn]at this
  ·rw[J];have:=((ah.new ((w.alloc (.cells (ng m) 45)).alloc (.cells (oK y) 53)) 51 #[.slice A p.length j]).alloc (.cells #[.string c] 9)).alloc (.cells #[.int .i64 t] 3)
   rwa [arn,arn]at this
  ·rw[J];have:=(ah.new (((w.alloc (.cells (ng m) 45)).alloc (.cells (oK y) 53)).alloc (.cells #[.slice A p.length j] 51)) 9 #[.string c]).alloc (.cells #[.int .i64 t] 3)
   rwa [arn,arn,arn]at this
  ·rw[J];have:=ah.new ((((w.alloc (.cells (ng m) 45)).alloc (.cells (oK y) 53)).alloc (.cells #[.slice A p.length j] 51)).alloc (.cells #[.string c] 9)) 3 #[.int .i64 t]
   rwa [arn,arn,arn,arn]at this
 have ad:Hid (∀W,Below w.heap.size w W->Calls prog 70 #[.agg (ng m)] W fun e w'=>e=.returned (.bool false)/\Below W.heap.size W w'):=fun W u=>ad3 m W (hr.aa u) hR hm B L;have kA:Hid (∀W,Below w.heap.size w W->Calls prog 74 #[.slice m.Aw m.ws.length m.cw,.string c] W fun e w'=>e=.returned (AV (ee m.ws c))/\Below W.heap.size W w'):=fun W u=>ZQ m.Aw m.cw m.ws c W (hr.ws.aa u) ab;have ae:Hid (∀W,Below w.heap.size w W->Calls prog 78 #[.agg (ng m)] W fun e w'=>e=.returned (.int .i64 (CR m.t))/\Below W.heap.size W w'):=fun W u=>akN m W (hr.aa u) hR L;clear hr hy Z hR B L hk hg j5 IV ab hm;have af:=aq6 J;clear J;go_enter func42,ntmps42;go_upto_region 1 with fail
 rw[<-af.out];clear af;generalize w.heap.size+1+1+1+1=p9 at*;generalize w.heap.size+1+1+1=M at*;generalize w.heap.size+1+1=U at*;generalize w.heap.size+1=V at*;obtain⟨D,ZR⟩:∃D,D=w.heap.size:=⟨_,rfl⟩
 rw[<-ZR]at hH|-;have Re:=aq6 ZR;clear ZR;have LU:=hH.R;go_wp2_with(refine jK rfl _ _ rfl D rfl LU underlying45 rfl (by kernel_rfl) ?_);refine(ad.out _ F).mono ?_;rintro e w1 ⟨rfl,N⟩;have Vr:=hH.aa N;have OL:=aB F N;clear hH F N LU ad;have z0:w1.cell? ⟨D,0,none⟩=some (.slice m.Aw m.ws.length m.cw):=Vr.R.cell 0;have z8:w1.cell? ⟨M,0,none⟩=some (.string c):=Vr.C.cell 0;go_wp2_with fail;refine(kA.out _ OL).mono ?_;rintro e O ⟨rfl,Q⟩;have Vs:=Vr.aa Q;have DK:=aB OL Q;clear Vr OL Q z0 z8 kA;rcases B:ee m.ws c with _|⟨vc,K,vt,vi,va,vn⟩
 ·have HN:Hid (¬∃v,ee m.t.cN c=some v/\v.kind=1):=by
   rw[Hid];rintro⟨v,l,_⟩;rw[show m.t.cN=m.ws from rfl,B]at l;cases l
  rw[show AV none=.tuple #[.agg #[.string ⟨#[]⟩,.int .i64 0,.bool false,.bool false,.bool false,.int .i64 0],.bool false]from rfl];have G:=ew DK (.cells #[.string ⟨#[]⟩,.int .i64 0,.bool false,.bool false,.bool false,.int .i64 0] 77);clear B Vs DK;go_upto_region 4 with fail
  generalize O.alloc (Obj.cells _ _)=w3 at G|-;go_wp2;go_ret2;exact⟨⟨0,9,rfl,.inl ⟨HN.out,rfl,rfl⟩⟩,Re.out▸G⟩
 have Rf:K=1\/K=2:=HK.out _ (aee B).1;rw[show AV (some ⟨vc,K,vt,vi,va,vn⟩)=.tuple #[.agg #[.string vc,.int .i64 K,.bool vt,.bool vi,.bool va,.int .i64 vn],.bool true]from rfl];have dM:=ah.new O 77 #[.string vc,.int .i64 K,.bool vt,.bool vi,.bool va,.int .i64 vn];have cT:=bF O (.cells #[.string vc,.int .i64 K,.bool vt,.bool vi,.bool va,.int .i64 vn] 77);have G:=aB DK cT;have z:=Vs.aa cT;by_cases ai:K=2
 ·have HN:Hid (¬∃v,ee m.t.cN c=some v/\v.kind=1):=by
   rw[Hid];rintro⟨v,l,h2⟩;rw[show m.t.cN=m.ws from rfl,B]at l;injection l with l;subst l;simp only at h2;omega
  subst ai;clear B Rf Vs DK cT z;go_upto_region 4 with fail
  generalize O.alloc (Obj.cells _ _)=w3 at G dM|-;have y1:w3.cell? ⟨O.heap.size,1,none⟩=some (.int .i64 2):=dM.cell 1;go_wp2;go_ret2;exact⟨⟨0,9,rfl,.inl ⟨HN.out,rfl,rfl⟩⟩,Re.out▸G⟩
 obtain rfl:K=1:=by omega
 have ZT:Hid (∃v,ee m.t.cN c=some v/\v.kind=1):=⟨_,B,rfl⟩
 have Rg:Hid (mK m.t y.t p c):=HG.out ⟨_,B,rfl⟩;clear B Rf ai Vs DK cT;go_upto_region 4 with fail
 generalize O.alloc (Obj.cells _ _)=w3 at G dM z|-;have y1:w3.cell? ⟨O.heap.size,1,none⟩=some (.int .i64 1):=dM.cell 1;have z9:w3.cell? ⟨p9,0,none⟩=some (.int .i64 t):=z.T.cell 0;by_cases hr:t<0\/1000000000<t
 ·have D9:=aq6 hr;rcases hr with hr|hr
  all_goals go_wp2;go_ret2;exact⟨⟨0,2,rfl,.inr (.inl ⟨ZT.out,D9.out,rfl,rfl⟩)⟩,Re.out▸G⟩
 have B1:0<=t:=by omega
 have al:t<=1000000000:=by omega
 clear hr;have jo:=z.R;have kM:=z.Y;have z7:w3.cell? ⟨U,0,none⟩=some (.slice A p.length j):=z.E.cell 0;have z8:w3.cell? ⟨M,0,none⟩=some (.string c):=z.C.cell 0;go_wp2_with(first|(refine jK rfl _ _ rfl D rfl jo underlying45 rfl (by kernel_rfl) ?_)|(refine jK rfl _ _ rfl V rfl kM underlying53 rfl (by kernel_rfl) ?_));refine(Vd m y A j p c 0 w3 z.ri z.yi z.ei Rg.out (by omega) (by omega)).mono ?_;rintro e w4 ⟨rfl,S⟩;have ZU:=z.aa S;have OC:=aB G S;clear z G S jo kM z7 z8 z9 y1 dM;generalize fL m.t y.t p c 0=aJ;go_wp2_with fail;refine(akO D V U M 0 100000000 w4 (fun _=>false) (by omega) (by omega) (by omega) (fun W u n I l=>akQ (ZU.aa u) Rg.out n I l)).mono ?_;rintro e w5 ⟨⟨n,rfl,q0,q1,q2,q3⟩,F⟩;obtain rfl:n=100000001:=by rcases q2 with q2|q2;omega;cases q2
 have ZV:=ZU.aa F;have FR:=aB OC F;clear ZU OC F q0 q1 q2 q3;obtain⟨P,hP⟩:∃P:Int->Bool,P=fun n=>decide (t<=fL m.t y.t p c n):=⟨_,rfl⟩
 have HP:=aq6 hP;have QA:Hid (∀W,Below w5.heap.size w5 W->∀n,0<=n->n<=100000000->Calls prog 77 #[.int .i64 n,.pointer (some ⟨D,0,none⟩),.pointer (some ⟨V,0,none⟩),.pointer (some ⟨U,0,none⟩),.pointer (some ⟨M,0,none⟩),.pointer (some ⟨p9,0,none⟩)] W fun e w'=>e=.returned (.bool (P n))/\Below W.heap.size W w'):=fun W u n I l=>by rw[hP];exact akR (ZV.aa u) Rg.out n I l
 clear hP;go_wp2_with fail;refine(akP D V U M p9 0 100000000 w5 P (by omega) (by omega) (by omega) QA.out).mono ?_;rintro e w6 ⟨⟨f,rfl,f0,f1,f2,f3⟩,bN⟩;have ZW:=aq6 f2;have am:=aq6 f3;clear f2 f3;have an:=ZV.aa bN;have Q8:=aB FR bN;have ao:Hid (∀W,Below w6.heap.size w6 W->∀n,0<=n->n<=100000000->Calls prog 77 #[.int .i64 n,.pointer (some ⟨D,0,none⟩),.pointer (some ⟨V,0,none⟩),.pointer (some ⟨U,0,none⟩),.pointer (some ⟨M,0,none⟩),.pointer (some ⟨p9,0,none⟩)] W fun e w'=>e=.returned (.bool (P n))/\Below W.heap.size W w'):=fun W u=>QA.out W (aB bN u);clear ZV FR bN QA;have az:=aq6 Rg.out.akD;have ap:=aq6 (fun a b=>Rg.out.adY (a:=a) (b:=b));have av:=aq6 (ae.out w6 Q8);have dX:=an.R;clear ae an;generalize CR m.t=wd at*;obtain⟨aO,aS⟩:=az.out;obtain⟨s,Z⟩:∃s,s=max (f-wd) 0:=⟨_,rfl⟩
 have aT:0<=s:=by omega
 have aV:s<=f:=by omega
 have HS:=aq6 Z;have Vt:Hid (∀n,P n=false->fL m.t y.t p c n<t):=fun n X=>by rw[HP.out]at X;simpa using X
 have aA:Hid (∀n,P n=true->t<=fL m.t y.t p c n):=fun n X=>by rw[HP.out]at X;simpa using X
 clear Z HP;by_cases aW:f<wd
 all_goals
  go_wp2_with(refine jK rfl _ _ rfl D rfl dX underlying45 rfl (by kernel_rfl) ?_);refine av.out.mono ?_;rintro e w7 ⟨rfl,bp⟩;have Mh:=aB Q8 bp;have aD:Hid (∀W,Below w7.heap.size w7 W->∀n,0<=n->n<=100000000->Calls prog 77 #[.int .i64 n,.pointer (some ⟨D,0,none⟩),.pointer (some ⟨V,0,none⟩),.pointer (some ⟨U,0,none⟩),.pointer (some ⟨M,0,none⟩),.pointer (some ⟨p9,0,none⟩)] W fun e w'=>e=.returned (.bool (P n))/\Below W.heap.size W w'):=fun W u=>ao.out W (aB bp u);clear dX Q8 bp av ao;go_wp2_with fail
  go_loopw [19] (fun i wr=>∃n:Int,i=.int .i64 n/\s<=n/\n<=f+1/\n<=100000001/\Hid (∀k,s<=k->k<n->P k=false)/\Below w7.heap.size w7 wr) (fun i _=>(f+1-intOf i).toNat)
  case atStart=>exact⟨s,by rw[HS.out],by omega,by omega,by omega,fun k I l=>absurd I (by omega),arb _ _⟩
  case round=>
   rename World=>wr
   obtain⟨n,rfl,n0,n1,n2,r,bR⟩:=hrel;have ax:=aB Mh bR;by_cases X:n<=f
   ·by_cases oo:n<=100000000
    ·go_wp2_with fail;refine(aD.out wr bR n (by omega) oo).mono ?_;rintro e w9 ⟨rfl,eY⟩;cases hp:P n
     ·have Rh:=aq6 hp;clear hp;go_wp2;go_roundw
      case rel=>exact⟨n+1,by go_num,by omega,by omega,by omega,fun k I l=>by
       rcases Int.lt_or_eq_of_le (show k<=n by omega)with h2|h2
       ·exact r.out k I h2
       ·rw[h2];exact Rh.out,aB bR eY⟩
      case measure=>simp only[intOf];omega
     ·have Rh:=aq6 hp;clear hp;go_wp2;go_ret2;refine⟨⟨n,0,rfl,.inr (.inr ⟨ZT.out,⟨B1,al⟩,.inl ⟨rfl,by omega,oo,aA.out n Rh.out,fun k I l=>?_⟩⟩)⟩,Re.out▸aB ax eY⟩;rcases Int.lt_or_le k s with h2|h2
      ·have h3:=HS.out;rcases am.out with h4|h4
       ·omega
       ·exact Int.lt_of_le_of_lt (ap.out k (f-1) (by omega)) (Vt.out _ h4)
      ·exact Vt.out _ (r.out k h2 l)
    ·obtain rfl:f=100000001:=by omega
     obtain rfl:n=100000001:=by omega
     go_wp2;go_ret2;refine⟨⟨0,16,rfl,.inr (.inr ⟨ZT.out,⟨B1,al⟩,.inr ⟨rfl,rfl,fun k I l=>?_⟩⟩)⟩,Re.out▸ax⟩;rcases Int.lt_or_le k s with h2|h2
     ·have h3:=HS.out;rcases am.out with h4|h4
      ·omega
      ·exact Int.lt_of_le_of_lt (ap.out k (100000001-1) (by omega)) (Vt.out _ h4)
     ·exact Vt.out _ (r.out k h2 (by omega))
   ·exfalso;obtain rfl:n=f+1:=by omega
    have l:=r.out f (by omega) (by omega);rcases ZW.out with h2|h2
    ·omega
    ·rw[l]at h2;cases h2
