/- Conditions: as stated. -/
import Derived.Test.YtlhkojcmcmkmaaaGreatSG33b
set_option maxRecDepth 100000
set_option maxHeartbeats 8000000
namespace Go.Proofs.YtlhkojcmcmkmaaaGreat
open Go.Proofs.Tryz
open Go.RowKit
def jX(m:cY):Array Value:=#[.slice m.Aw m.ws.length m.cw,.slice m.As m.ss.length m.cs,.int .i64 m.tm.t.method,.slice m.tm.Ab m.tm.t.au.length m.tm.cb,.int .i64 m.tm.t.aZ,.int .i64 m.tm.t.bf,.int .i64 m.tm.t.unit,.int .i64 m.tm.t.mode,.slice m.tm.Ar m.tm.t.rows.length m.tm.cr,.int .i64 m.count,.int .i64 m.sh.fixed,.int .i64 m.sh.bn,.int .i64 m.sh.lower,.int .i64 m.sh.share,.int .i64 m.sh.top,.int .i64 m.recover]
structure Pc(m:cY)(y:dD)(A:Option Addr)(cap:Nat)(xs:List Elem)(c:ByteArray)(t:Int)(p5 p6 p7 p8 p9:Nat)(W:World):Prop where
 R:ah W p5 45 (jX m)
 Y:ah W p6 53 (lD y)
 E:ah W p7 51 #[.slice A xs.length cap]
 C:ah W p8 9 #[.string c]
 T:ah W p9 3 #[.int .i64 t]
 ri:m.In W
 yi:y.In W
 ei:aj aQ 2 W W.heap.size A xs
theorem Pc.aa{m:cY}{y:dD}{A:Option Addr}{j:Nat}{l:List Elem}{c:ByteArray}{t:Int}{n p r u z:Nat}{W B:World}(h:Pc m y A j l c t n p r u z W)(e:Below W.heap.size W B):Pc m y A j l c t n p r u z B:=
 ⟨h.R.aa e,h.Y.aa e,h.E.aa e,h.C.aa e,h.T.aa e,h.ri.aa e,h.yi.aa e,h.ei.aa e⟩
theorem VH(m:cY)(y:dD)(A:Option Addr)(l:Nat)(j:List Elem)(c:ByteArray)(n:Int)(w:World)(B:m.In w)(hy:y.In w)(C:aj aQ 2 w w.heap.size A j)(p:jz m.t y.t j c)(D:0<=n)(E:n<=100000000):
  Calls prog 36 #[.agg (jX m),.agg (lD y),.slice A j.length l,.string c,.int .i64 n] w fun e w'=>e=.returned (.tuple #[.int .i64 (fL m.t y.t j c n),.int .i64 0])/\Below w.heap.size w w':=by
 have r:Cb m pQ y [] true (j++[⟨c,n⟩])=bI m.t y.t j c n:=rfl;have G:=p.xl;have u:=akF m y A l j c n w B hy C (by omega) (by rw[r];exact p.Fv n);rw[r]at u;refine arP (args:=#[.agg (jX m),.agg (lD y),.slice A j.length l,.string c,.int .i64 n]) u ?_;rintro e w' ⟨rfl,F⟩;have z:=p.err D E;exact⟨by rw[Hu,arK z,z];rfl,F⟩
theorem ak3{m:cY}{y:dD}{A:Option Addr}{j:Nat}{l:List Elem}{c:ByteArray}{t:Int}{p r u z J:Nat}{W:World}(h:Pc m y A j l c t p r u z J W)(D:jz m.t y.t l c)(n:Int)(K:0<=n)(L:n<=100000000):
  Calls prog 76 #[.int .i64 n,.pointer (some ⟨p,0,none⟩),.pointer (some ⟨r,0,none⟩),.pointer (some ⟨u,0,none⟩),.pointer (some ⟨z,0,none⟩)] W fun e w'=>e=.returned (.bool false)/\Below W.heap.size W w':=by
 have F:=arH (VH m y A j l c n W h.ri h.yi h.ei D K L);have G:=h.R;have I:=h.Y;have M:W.cell? ⟨u,0,none⟩=some (.slice A l.length j):=h.E.cell 0;have N:W.cell? ⟨z,0,none⟩=some (.string c):=h.C.cell 0;clear h D;go_enter func76,ntmps76;go_wp2_with(first|(refine kJ rfl _ _ rfl p rfl G underlying45 rfl (by kernel_rfl) ?_)|(refine kJ rfl _ _ rfl r rfl I underlying53 rfl (by kernel_rfl) ?_));refine F.out.mono ?_;rintro e O ⟨rfl,B⟩;clear F G I M N;go_wp2;go_ret;exact⟨rfl,B⟩
theorem ak4{m:cY}{y:dD}{A:Option Addr}{j:Nat}{p:List Elem}{c:ByteArray}{t:Int}{u z B D F:Nat}{W:World}(h:Pc m y A j p c t u z B D F W)(I:jz m.t y.t p c)(n:Int)(O:0<=n)(P:n<=100000000):
  Calls prog 77 #[.int .i64 n,.pointer (some ⟨u,0,none⟩),.pointer (some ⟨z,0,none⟩),.pointer (some ⟨B,0,none⟩),.pointer (some ⟨D,0,none⟩),.pointer (some ⟨F,0,none⟩)] W fun e w'=>e=.returned (.bool (decide (t<=fL m.t y.t p c n)))/\Below W.heap.size W w':=by
 have J:=arH (VH m y A j p c n W h.ri h.yi h.ei I O P);have K:=h.R;have L:=h.Y;have Q:W.cell? ⟨B,0,none⟩=some (.slice A p.length j):=h.E.cell 0;have S:W.cell? ⟨D,0,none⟩=some (.string c):=h.C.cell 0;have M:=h.T;clear h I;go_enter func77,ntmps77;go_wp2_with(first|(refine kJ rfl _ _ rfl u rfl K underlying45 rfl (by kernel_rfl) ?_)|(refine kJ rfl _ _ rfl z rfl L underlying53 rfl (by kernel_rfl) ?_));refine J.out.mono ?_;rintro e U ⟨rfl,l⟩;have V:U.cell? ⟨F,0,none⟩=some (.int .i64 t):=(M.aa l).cell 0;clear J K L Q S M;obtain⟨f,G⟩:∃f,f=fL m.t y.t p c n:=⟨_,rfl⟩
 rw[<-G];have r:=arH G;clear G;by_cases N:t<=f
 ·go_wp2;go_ret;exact⟨by rw[<-r.out];simp[N],l⟩
 ·go_wp2;go_ret;exact⟨by rw[<-r.out];simp,l⟩
def Ht(r:pH)(y:AR)(x:List Elem)(c:ByteArray)(t a e:Int):Prop:=
 (¬(∃v,dJ r.cB c=some v/\v.kind=1)/\a=0/\e=9)\/((∃v,dJ r.cB c=some v/\v.kind=1)/\(t<0\/1000000000<t)/\a=0/\e=2)\/((∃v,dJ r.cB c=some v/\v.kind=1)/\(0<=t/\t<=1000000000)/\VT (fL r y x c) t a e)
theorem Ht.uniq{r:pH}{y:AR}{x:List Elem}{c:ByteArray}{t a e a' n:Int}(h:Ht r y x c t a e)(p:Ht r y x c t a' n):a=a'/\e=n:=by
 rcases h with⟨j,rfl,rfl⟩|⟨j,u,rfl,rfl⟩|⟨j,u,z⟩<;>rcases p with⟨l,rfl,rfl⟩|⟨l,B,rfl,rfl⟩|⟨l,B,C⟩
 ·exact⟨rfl,rfl⟩
 ·exact absurd l j
 ·exact absurd l j
 ·exact absurd j l
 ·exact⟨rfl,rfl⟩
 ·omega
 ·exact absurd j l
 ·omega
 ·exact z.uniq C
theorem aef(m:cY)(y:dD)(A:Option Addr)(j:Nat)(p:List Elem)(c:ByteArray)(t:Int)(w:World)(hr:m.In w)(hy:y.In w)(hs:aj aQ 2 w w.heap.size A p)(hR:AU m.t)(hm:m.tm.t.method≠1)(B:∀s∈m.ss,s.floor=0)(L:jd m.t<=900000)
  (hk:∀v∈m.ws,v.kind=1\/v.kind=2) (hg:(∃v,dJ m.ws c=some v/\v.kind=1)->jz m.t y.t p c):
  Calls prog 42 #[.agg (jX m),.agg (lD y),.slice A p.length j,.string c,.int .i64 t] w fun e w'=>(∃a er,e=.returned (.tuple #[.int .i64 a,.int .i64 er])/\Ht m.t y.t p c t a er)/\Below w.heap.size w w':=by
 obtain⟨jF,Gq⟩:=Hs hR.cB;have RJ:m.ws.length<=9223372036854775806:=by have:m.t.cB.length=m.ws.length:=rfl;omega
 have HG:=arH hg;have HK:=arH hk
 -- az ao
 obtain⟨W5,J⟩:∃W5,W5=((((w.alloc (.cells (jX m) 45)).alloc (.cells (lD y) 53)).alloc (.cells #[.slice A p.length j] 51)).alloc (.cells #[.string c] 9)).alloc (.cells #[.int .i64 t] 3):=⟨_,rfl⟩
 have F:Below w.heap.size w W5:=by rw[J];exact ej (ej (ej (ej (bD _ _) _) _) _) _
 have hH:Pc m y A j p c t w.heap.size (w.heap.size+1) (w.heap.size+1+1) (w.heap.size+1+1+1) (w.heap.size+1+1+1+1) W5:=by
  refine⟨?_,?_,?_,?_,?_,hr.aa F,hy.aa F,hs.aa F⟩
  ·rw[J];exact((((ah.new w _ _).alloc _).alloc _).alloc _).alloc _
  ·rw[J];have:=(((ah.new (w.alloc (.cells (jX m) 45)) 53 (lD y)).alloc (.cells #[.slice A p.length j] 51)).alloc (.cells #[.string c] 9)).alloc (.cells #[.int .i64 t] 3)
   rwa [arU]at this
  ·rw[J];have:=((ah.new ((w.alloc (.cells (jX m) 45)).alloc (.cells (lD y) 53)) 51 #[.slice A p.length j]).alloc (.cells #[.string c] 9)).alloc (.cells #[.int .i64 t] 3)
   rwa [arU,arU]at this
  ·rw[J];have:=(ah.new (((w.alloc (.cells (jX m) 45)).alloc (.cells (lD y) 53)).alloc (.cells #[.slice A p.length j] 51)) 9 #[.string c]).alloc (.cells #[.int .i64 t] 3)
   rwa [arU,arU,arU]at this
  ·rw[J];have:=ah.new ((((w.alloc (.cells (jX m) 45)).alloc (.cells (lD y) 53)).alloc (.cells #[.slice A p.length j] 51)).alloc (.cells #[.string c] 9)) 3 #[.int .i64 t]
   rwa [arU,arU,arU,arU]at this
 have Hw:Hid (∀W,Below w.heap.size w W->Calls prog 70 #[.agg (jX m)] W fun e w'=>e=.returned (.bool false)/\Below W.heap.size W w'):=fun W u=>aeg m W (hr.aa u) hR hm B L;have jV:Hid (∀W,Below w.heap.size w W->Calls prog 74 #[.slice m.Aw m.ws.length m.cw,.string c] W fun e w'=>e=.returned (pj (dJ m.ws c))/\Below W.heap.size W w'):=fun W u=>aan m.Aw m.cw m.ws c W (hr.ws.aa u) RJ;have ab:Hid (∀W,Below w.heap.size w W->Calls prog 78 #[.agg (jX m)] W fun e w'=>e=.returned (.int .i64 (Dt m.t))/\Below W.heap.size W w'):=fun W u=>ak0 m W (hr.aa u) hR L;clear hr hy hs hR B L hk hg jF Gq RJ hm;have RM:=arH J;clear J;go_enter func42,ntmps42;go_upto_region 1 with fail
 rw[<-RM.out];clear RM;generalize w.heap.size+1+1+1+1=p9 at*;generalize w.heap.size+1+1+1=M at*;generalize w.heap.size+1+1=X at*;generalize w.heap.size+1=Z at*;obtain⟨D,N⟩:∃D,D=w.heap.size:=⟨_,rfl⟩
 rw[<-N]at hH|-;have RN:=arH N;clear N;have Er:=hH.R;go_wp2_with(refine kJ rfl _ _ rfl D rfl Er underlying45 rfl (by kernel_rfl) ?_);refine(Hw.out _ F).mono ?_;rintro e w1 ⟨rfl,O⟩;have Jk:=hH.aa O;have Q:=aB F O;clear hH F O Er Hw;have z0:w1.cell? ⟨D,0,none⟩=some (.slice m.Aw m.ws.length m.cw):=Jk.R.cell 0;have z8:w1.cell? ⟨M,0,none⟩=some (.string c):=Jk.C.cell 0;go_wp2_with fail;refine(jV.out _ Q).mono ?_;rintro e S ⟨rfl,U⟩;have Hx:=Jk.aa U;have IV:=aB Q U;clear Jk Q U z0 z8 jV;rcases B:dJ m.ws c with _|⟨vc,K,vt,vi,va,vn⟩
 ·have HN:Hid (¬∃v,dJ m.t.cB c=some v/\v.kind=1):=by
   rw[Hid];rintro⟨v,l,_⟩;rw[show m.t.cB=m.ws from rfl,B]at l;cases l
  rw[show pj none=.tuple #[.agg #[.string ⟨#[]⟩,.int .i64 0,.bool false,.bool false,.bool false,.int .i64 0],.bool false]from rfl];have G:=ej IV (.cells #[.string ⟨#[]⟩,.int .i64 0,.bool false,.bool false,.bool false,.int .i64 0] 77);clear B Hx IV;go_upto_region 4 with fail
  generalize S.alloc (Obj.cells _ _)=w3 at G|-;go_wp2;go_ret2;exact⟨⟨0,9,rfl,.inl ⟨HN.out,rfl,rfl⟩⟩,RN.out▸G⟩
 have KD:K=1\/K=2:=HK.out _ (aag B).1;rw[show pj (some ⟨vc,K,vt,vi,va,vn⟩)=.tuple #[.agg #[.string vc,.int .i64 K,.bool vt,.bool vi,.bool va,.int .i64 vn],.bool true]from rfl];have dF:=ah.new S 77 #[.string vc,.int .i64 K,.bool vt,.bool vi,.bool va,.int .i64 vn];have cP:=bD S (.cells #[.string vc,.int .i64 K,.bool vt,.bool vi,.bool va,.int .i64 vn] 77);have G:=aB IV cP;have z:=Hx.aa cP;by_cases ad:K=2
 ·have HN:Hid (¬∃v,dJ m.t.cB c=some v/\v.kind=1):=by
   rw[Hid];rintro⟨v,l,h2⟩;rw[show m.t.cB=m.ws from rfl,B]at l;injection l with l;subst l;simp only at h2;omega
  subst ad;clear B KD Hx IV cP z;go_upto_region 4 with fail
  generalize S.alloc (Obj.cells _ _)=w3 at G dF|-;have y1:w3.cell? ⟨S.heap.size,1,none⟩=some (.int .i64 2):=dF.cell 1;go_wp2;go_ret2;exact⟨⟨0,9,rfl,.inl ⟨HN.out,rfl,rfl⟩⟩,RN.out▸G⟩
 obtain rfl:K=1:=by omega
 have MN:Hid (∃v,dJ m.t.cB c=some v/\v.kind=1):=⟨_,B,rfl⟩
 have Fx:Hid (jz m.t y.t p c):=HG.out ⟨_,B,rfl⟩;clear B KD ad Hx IV cP;go_upto_region 4 with fail
 generalize S.alloc (Obj.cells _ _)=w3 at G dF z|-;have y1:w3.cell? ⟨S.heap.size,1,none⟩=some (.int .i64 1):=dF.cell 1;have z9:w3.cell? ⟨p9,0,none⟩=some (.int .i64 t):=z.T.cell 0;by_cases hr:t<0\/1000000000<t
 ·have RO:=arH hr;rcases hr with hr|hr
  all_goals go_wp2;go_ret2;exact⟨⟨0,2,rfl,.inr (.inl ⟨MN.out,RO.out,rfl,rfl⟩)⟩,RN.out▸G⟩
 have qh:0<=t:=by omega
 have ae:t<=1000000000:=by omega
 clear hr;have gW:=z.R;have ke:=z.Y;have z7:w3.cell? ⟨X,0,none⟩=some (.slice A p.length j):=z.E.cell 0;have z8:w3.cell? ⟨M,0,none⟩=some (.string c):=z.C.cell 0;go_wp2_with(first|(refine kJ rfl _ _ rfl D rfl gW underlying45 rfl (by kernel_rfl) ?_)|(refine kJ rfl _ _ rfl Z rfl ke underlying53 rfl (by kernel_rfl) ?_));refine(VH m y A j p c 0 w3 z.ri z.yi z.ei Fx.out (by omega) (by omega)).mono ?_;rintro e w4 ⟨rfl,V⟩;have Pf:=z.aa V;have O5:=aB G V;clear z G V gW ke z7 z8 z9 y1 dF;generalize fL m.t y.t p c 0=aA;go_wp2_with fail;refine(ak1 D Z X M 0 100000000 w4 (fun _=>false) (by omega) (by omega) (by omega) (fun W u n I l=>ak3 (Pf.aa u) Fx.out n I l)).mono ?_;rintro e w5 ⟨⟨n,rfl,q0,q1,q2,q3⟩,F⟩;obtain rfl:n=100000001:=by rcases q2 with q2|q2;omega;cases q2
 have Gs:=Pf.aa F;have Gr:=aB O5 F;clear Pf O5 F q0 q1 q2 q3;obtain⟨P,hP⟩:∃P:Int->Bool,P=fun n=>decide (t<=fL m.t y.t p c n):=⟨_,rfl⟩
 have HP:=arH hP;have Q1:Hid (∀W,Below w5.heap.size w5 W->∀n,0<=n->n<=100000000->Calls prog 77 #[.int .i64 n,.pointer (some ⟨D,0,none⟩),.pointer (some ⟨Z,0,none⟩),.pointer (some ⟨X,0,none⟩),.pointer (some ⟨M,0,none⟩),.pointer (some ⟨p9,0,none⟩)] W fun e w'=>e=.returned (.bool (P n))/\Below W.heap.size W w'):=fun W u n I l=>by rw[hP];exact ak4 (Gs.aa u) Fx.out n I l
 clear hP;go_wp2_with fail;refine(ak2 D Z X M p9 0 100000000 w5 P (by omega) (by omega) (by omega) Q1.out).mono ?_;rintro e w6 ⟨⟨f,rfl,f0,f1,f2,f3⟩,bL⟩;have ap:=arH f2;have af:=arH f3;clear f2 f3;have Fy:=Gs.aa bL;have RD:=aB Gr bL;have ai:Hid (∀W,Below w6.heap.size w6 W->∀n,0<=n->n<=100000000->Calls prog 77 #[.int .i64 n,.pointer (some ⟨D,0,none⟩),.pointer (some ⟨Z,0,none⟩),.pointer (some ⟨X,0,none⟩),.pointer (some ⟨M,0,none⟩),.pointer (some ⟨p9,0,none⟩)] W fun e w'=>e=.returned (.bool (P n))/\Below W.heap.size W w'):=fun W u=>Q1.out W (aB bL u);clear Gs Gr bL Q1;have au:=arH Fx.out.akW;have al:=arH (fun a b=>Fx.out.aec (a:=a) (b:=b));have am:=arH (ab.out w6 RD);have dR:=Fy.R;clear ab Fy;generalize Dt m.t=wd at*;obtain⟨aE,aJ⟩:=au.out;obtain⟨s,hs⟩:∃s,s=max (f-wd) 0:=⟨_,rfl⟩
 have aK:0<=s:=by omega
 have aN:s<=f:=by omega
 have HS:=arH hs;have VV:Hid (∀n,P n=false->fL m.t y.t p c n<t):=fun n hn=>by rw[HP.out]at hn;simpa using hn
 have av:Hid (∀n,P n=true->t<=fL m.t y.t p c n):=fun n hn=>by rw[HP.out]at hn;simpa using hn
 clear hs HP;by_cases aS:f<wd
 all_goals
  go_wp2_with(refine kJ rfl _ _ rfl D rfl dR underlying45 rfl (by kernel_rfl) ?_);refine am.out.mono ?_;rintro e w7 ⟨rfl,bk⟩;have ML:=aB RD bk;have ay:Hid (∀W,Below w7.heap.size w7 W->∀n,0<=n->n<=100000000->Calls prog 77 #[.int .i64 n,.pointer (some ⟨D,0,none⟩),.pointer (some ⟨Z,0,none⟩),.pointer (some ⟨X,0,none⟩),.pointer (some ⟨M,0,none⟩),.pointer (some ⟨p9,0,none⟩)] W fun e w'=>e=.returned (.bool (P n))/\Below W.heap.size W w'):=fun W u=>ai.out W (aB bk u);clear dR RD bk am ai;go_wp2_with fail
  go_loopw [19] (fun i wr=>∃n:Int,i=.int .i64 n/\s<=n/\n<=f+1/\n<=100000001/\Hid (∀k,s<=k->k<n->P k=false)/\Below w7.heap.size w7 wr) (fun i _=>(f+1-intOf i).toNat)
  case atStart=>exact⟨s,by rw[HS.out],by omega,by omega,by omega,fun k I l=>absurd I (by omega),arM _ _⟩
  case round=>
   rename World=>wr
   obtain⟨n,rfl,n0,n1,n2,r,bQ⟩:=hrel;have an:=aB ML bQ;by_cases hn:n<=f
   ·by_cases mU:n<=100000000
    ·go_wp2_with fail;refine(ay.out wr bQ n (by omega) mU).mono ?_;rintro e w9 ⟨rfl,dQ⟩;cases hp:P n
     ·have RP:=arH hp;clear hp;go_wp2;go_roundw
      case rel=>exact⟨n+1,by go_num,by omega,by omega,by omega,fun k I l=>by
       rcases Int.lt_or_eq_of_le (show k<=n by omega)with h2|h2
       ·exact r.out k I h2
       ·rw[h2];exact RP.out,aB bQ dQ⟩
      case measure=>simp only[intOf];omega
     ·have RP:=arH hp;clear hp;go_wp2;go_ret2;refine⟨⟨n,0,rfl,.inr (.inr ⟨MN.out,⟨qh,ae⟩,.inl ⟨rfl,by omega,mU,av.out n RP.out,fun k I l=>?_⟩⟩)⟩,RN.out▸aB an dQ⟩;rcases Int.lt_or_le k s with h2|h2
      ·have h3:=HS.out;rcases af.out with h4|h4
       ·omega
       ·exact Int.lt_of_le_of_lt (al.out k (f-1) (by omega)) (VV.out _ h4)
      ·exact VV.out _ (r.out k h2 l)
    ·obtain rfl:f=100000001:=by omega
     obtain rfl:n=100000001:=by omega
     go_wp2;go_ret2;refine⟨⟨0,16,rfl,.inr (.inr ⟨MN.out,⟨qh,ae⟩,.inr ⟨rfl,rfl,fun k I l=>?_⟩⟩)⟩,RN.out▸an⟩;rcases Int.lt_or_le k s with h2|h2
     ·have h3:=HS.out;rcases af.out with h4|h4
      ·omega
      ·exact Int.lt_of_le_of_lt (al.out k (100000001-1) (by omega)) (VV.out _ h4)
     ·exact VV.out _ (r.out k h2 (by omega))
   ·exfalso;obtain rfl:n=f+1:=by omega
    have l:=r.out f (by omega) (by omega);rcases ap.out with h2|h2
    ·omega
    ·rw[l]at h2;cases h2
