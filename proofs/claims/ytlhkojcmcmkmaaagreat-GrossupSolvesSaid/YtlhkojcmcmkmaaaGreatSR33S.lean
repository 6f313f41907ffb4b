/- Conditions: as stated. -/
import Derived.Test.YtlhkojcmcmkmaaaGreatSG33e
import Derived.Test.YtlhkojcmcmkmaaaGreatSR33
set_option maxRecDepth 100000
set_option maxHeartbeats 8000000
namespace Go.Proofs.YtlhkojcmcmkmaaaGreat
open Go.Proofs.Tryz
open Go.RowKit
theorem jz.apA{r:pH}{y:AR}{x:List Elem}{c:ByteArray}{n:Int}(h:jz r y x c)(j:0<=n)(l:n<=100000000):-100000000000<=fL r y x c n/\fL r y x c n<=100000000000:=by have P:=(h.Fv n).parts (h.err j l);have p:=P.cbd;have u:=P.bj;have t1:=P.aw;have e:fL r y x c n=(bI r y x c n).b.c-(bI r y x c n).bj-(bI r y x c n).aw:=rfl;omega
theorem apB(m:cY)(y:dD)(A:Option Addr)(l:Nat)(j:List Elem)(c:ByteArray)(n:Int)(w:World)(B:m.In w)(hy:y.In w)(C:aj aQ 2 w w.heap.size A j)(p:jz m.t y.t j c)(D:0<=n)(E:n<=100000000):
  Calls prog 37 #[.agg (jX m),.agg (lD y),.slice A j.length l,.string c,.int .i64 n] w fun e w'=>e=.returned (.tuple #[.int .i64 (fL m.t y.t j c n),.int .i64 0])/\Below w.heap.size w w':=by
 have r:Cb m pQ y [] true (j++[⟨c,n⟩])=bI m.t y.t j c n:=rfl;have G:=p.xl;have u:=apz m y A l j c n w B hy C (by omega) (by rw[r];exact p.Fv n);rw[r]at u;refine arP (args:=#[.agg (jX m),.agg (lD y),.slice A j.length l,.string c,.int .i64 n]) u ?_;rintro e w' ⟨rfl,F⟩;have z:=p.err D E;exact⟨by rw[Hu,arK z,z];rfl,F⟩
structure NK(m:cY)(y:dD)(w:World)(p6:Nat)(W:World):Prop where
 R:ah W w.heap.size 45 (jX m)
 Y:ah W p6 53 (lD y)
 b:Below w.heap.size w W
theorem NK.aa{m:cY}{y:dD}{w:World}{j:Nat}{W l:World}(h:NK m y w j W)(e:Below W.heap.size W l):NK m y w j l:=⟨h.R.aa e,h.Y.aa e,aB h.b e⟩
theorem apC(m:cY)(y:dD)(A:Option Addr)(C:Nat)(r:List Elem)(c:ByteArray)(t:Int)(w:World)(hr:m.In w)(hy:y.In w)(hs:aj aQ 2 w w.heap.size A r)(hR:AU m.t)(hm:m.tm.t.method≠1)(z:∀s∈m.ss,s.floor=0)(S:jd m.t<=900000)
  (hk:∀v∈m.ws,v.kind=1\/v.kind=2) (hg:(∃v,dJ m.ws c=some v/\v.kind=1)->jz m.t y.t r c):
  Calls prog 43 #[.agg (jX m),.agg (lD y),.slice A r.length C,.string c,.int .i64 t] w fun e w'=>(∃a er,e=.returned (.tuple #[.int .i64 a,.int .i64 er])/\Ht m.t y.t r c t a er)/\Below w.heap.size w w':=by
 obtain⟨jF,Gq⟩:=Hs hR.cB;have RJ:m.ws.length<=9223372036854775806:=by have:m.t.cB.length=m.ws.length:=rfl;omega
 have HG:=arH hg;have HK:=arH hk;obtain⟨W5,T⟩:∃W5,W5=(w.alloc (.cells (jX m) 45)).alloc (.cells (lD y) 53):=⟨_,rfl⟩
 have hH:NK m y w (w.heap.size+1) W5:=by
  refine⟨?_,?_,?_⟩
  ·rw[T];exact(ah.new w _ _).alloc _
  ·rw[T];have:=ah.new (w.alloc (.cells (jX m) 45)) 53 (lD y)
   rwa [arU]at this
  ·rw[T];exact ej (bD _ _) _
 have Hw:Hid (∀W,Below w.heap.size w W->Calls prog 79 #[.agg (jX m)] W fun e w'=>e=.returned (.bool false)/\Below W.heap.size W w'):=fun W D=>apw m W (hr.aa D) hR hm z S;have jV:Hid (∀W,Below w.heap.size w W->Calls prog 80 #[.slice m.Aw m.ws.length m.cw,.string c] W fun e w'=>e=.returned (pj (dJ m.ws c))/\Below W.heap.size W w'):=fun W D=>ZP m.Aw m.cw m.ws c W (hr.ws.aa D) RJ;have pL:Hid (∀W,Below w.heap.size w W->Calls prog 81 #[.agg (jX m)] W fun e w'=>e=.returned (.int .i64 (2*nM m.t))/\Below W.heap.size W w'):=fun W D=>apv m W (hr.aa D) hR;have PX:Hid (jz m.t y.t r c->∀W,Below w.heap.size w W->∀n,0<=n->n<=100000000->Calls prog 37 #[.agg (jX m),.agg (lD y),.slice A r.length C,.string c,.int .i64 n] W fun e w'=>e=.returned (.tuple #[.int .i64 (fL m.t y.t r c n),.int .i64 0])/\Below W.heap.size W w'):=fun hG W D n p l=>apB m y A C r c n W (hr.aa D) (hy.aa D) (hs.aa D) hG p l;clear hr hy hs hR z S hk hg jF Gq RJ hm;have RM:=arH T;clear T;go_enter func43,ntmps43;go_upto_region 1 with fail
 rw[<-RM.out];clear RM;generalize w.heap.size+1=J at*;have U:=hH.R;go_wp2_with(refine kJ rfl _ _ rfl w.heap.size rfl U underlying45 rfl (by kernel_rfl) ?_);refine(Hw.out _ hH.b).mono ?_;rintro e w1 ⟨rfl,V⟩;have Jk:=hH.aa V;clear hH V U Hw;have z0:w1.cell? ⟨w.heap.size,0,none⟩=some (.slice m.Aw m.ws.length m.cw):=Jk.R.cell 0;go_wp2_with fail;refine(jV.out _ Jk.b).mono ?_;rintro e K ⟨rfl,X⟩;have Z:=Jk.aa X;clear Jk X z0 jV;rcases z:dJ m.ws c with _|⟨vc,G,vt,vi,va,vn⟩
 ·have HN:Hid (¬∃v,dJ m.t.cB c=some v/\v.kind=1):=by
   rw[Hid];rintro⟨v,l,_⟩;rw[show m.t.cB=m.ws from rfl,z]at l;cases l
  rw[show pj none=.tuple #[.agg #[.string ⟨#[]⟩,.int .i64 0,.bool false,.bool false,.bool false,.int .i64 0],.bool false]from rfl];have Fw:=ej Z.b (.cells #[.string ⟨#[]⟩,.int .i64 0,.bool false,.bool false,.bool false,.int .i64 0] 77);clear z Z;go_upto_region 4 with fail
  generalize K.alloc (Obj.cells _ _)=w3 at Fw|-;go_wp2;go_ret2;exact⟨⟨0,9,rfl,.inl ⟨HN.out,rfl,rfl⟩⟩,Fw⟩
 have KD:G=1\/G=2:=HK.out _ (aag z).1;rw[show pj (some ⟨vc,G,vt,vi,va,vn⟩)=.tuple #[.agg #[.string vc,.int .i64 G,.bool vt,.bool vi,.bool va,.int .i64 vn],.bool true]from rfl];have dF:=ah.new K 77 #[.string vc,.int .i64 G,.bool vt,.bool vi,.bool va,.int .i64 vn];have cP:=bD K (.cells #[.string vc,.int .i64 G,.bool vt,.bool vi,.bool va,.int .i64 vn] 77);have E:=Z.aa cP;by_cases ab:G=2
 ·have HN:Hid (¬∃v,dJ m.t.cB c=some v/\v.kind=1):=by
   rw[Hid];rintro⟨v,l,h2⟩;rw[show m.t.cB=m.ws from rfl,z]at l;injection l with l;subst l;simp only at h2;omega
  subst ab;clear z KD Z cP;go_upto_region 4 with fail
  generalize K.alloc (Obj.cells _ _)=w3 at dF E|-;have y1:w3.cell? ⟨K.heap.size,1,none⟩=some (.int .i64 2):=dF.cell 1;go_wp2;go_ret2;exact⟨⟨0,9,rfl,.inl ⟨HN.out,rfl,rfl⟩⟩,E.b⟩
 obtain rfl:G=1:=by omega
 have MN:Hid (∃v,dJ m.t.cB c=some v/\v.kind=1):=⟨_,z,rfl⟩
 have Q:Hid (jz m.t y.t r c):=HG.out ⟨_,z,rfl⟩;have Eg:=arH (PX.out Q.out);clear z KD ab Z cP PX;go_upto_region 4 with fail
 generalize K.alloc (Obj.cells _ _)=w3 at dF E|-;have y1:w3.cell? ⟨K.heap.size,1,none⟩=some (.int .i64 1):=dF.cell 1;by_cases hr:t<0\/1000000000<t
 ·have RO:=arH hr;rcases hr with hr|hr
  all_goals go_wp2;go_ret2;exact⟨⟨0,2,rfl,.inr (.inl ⟨MN.out,RO.out,rfl,rfl⟩)⟩,E.b⟩
 have qh:0<=t:=by omega
 have ad:t<=1000000000:=by omega
 clear hr;have gW:=E.R;have ke:=E.Y;go_wp2_with(first|(refine kJ rfl _ _ rfl w.heap.size rfl gW underlying45 rfl (by kernel_rfl) ?_)|(refine kJ rfl _ _ rfl J rfl ke underlying53 rfl (by kernel_rfl) ?_));refine(Eg.out w3 E.b 0 (by omega) (by omega)).mono ?_;rintro e w4 ⟨rfl,ae⟩;have Pf:=E.aa ae;clear E ae gW ke y1 dF;generalize fL m.t y.t r c 0=am;obtain⟨f,Kp⟩:∃f:Int->Int,f=fL m.t y.t r c:=⟨_,rfl⟩
 have MB:=arH Kp;have L:Hid (∀W,Below w.heap.size w W->∀n,0<=n->n<=100000000->Calls prog 37 #[.agg (jX m),.agg (lD y),.slice A r.length C,.string c,.int .i64 n] W fun e w'=>e=.returned (.tuple #[.int .i64 (f n),.int .i64 0])/\Below W.heap.size W w'):=by rw[Kp];exact Eg.out
 have Q3:Hid (∀n,0<=n->n<=100000000->-100000000000<=f n/\f n<=100000000000):=by rw[Kp];exact fun n p l=>Q.out.apA p l
 have TH:Hid (∀a b,a<=b->f a<=f b+2*nM m.t):=by rw[Kp];exact fun a b h=>Q.out.akV h
 have KC:Hid (0<=2*nM m.t/\2*nM m.t<=100000):=by have hu:=Q.out.aak;have p:=Q.out.ro.fT.u0;have l:=Q.out.ro.fT.u1;rw[Hid];unfold nM;omega
 clear Kp Eg;generalize 2*nM m.t=mv at*;go_wp2_with fail
 go_loopw [16,17] (fun a b wr=>∃j:Int,a=.int .i64 j/\b=.int .i64 100000001/\0<=j/\j<=100000000/\NK m y w J wr) (fun a _ _=>(100000001-intOf a).toNat)
 case atStart=>exact⟨0,rfl,rfl,by omega,by omega,Pf⟩
 case round=>
  rename World=>wr
  obtain⟨j,rfl,rfl,t0,t1,M⟩:=hrel;clear Pf;by_cases an:j<100000000
  ·obtain⟨q,hq⟩:∃q,q=(j+100000001)/2:=⟨_,rfl⟩
   have hd:(j+100000001).tdiv 2=q:=(by rw[hq];exact asK (by omega));have q0:j<q:=(by omega);have q1:q<=100000000:=(by omega);clear hq;have U:=M.R;have py:=M.Y;go_wp2_with(first|(refine kJ rfl _ _ rfl w.heap.size rfl U underlying45 rfl (by kernel_rfl) ?_)|(refine kJ rfl _ _ rfl J rfl py underlying53 rfl (by kernel_rfl) ?_));refine(L.out wr M.b q (by omega) q1).mono ?_;rintro e w6 ⟨rfl,bL⟩;have F:=M.aa bL;clear M U py bL hd;generalize f q=I;go_wp2;go_roundw
   case rel=>exact⟨q,rfl,rfl,by omega,q1,F⟩
   case measure=>simp only[intOf];omega
  ·obtain rfl:j=100000000:=by omega
   go_wp2_with fail
   go_loopw [21,22] (fun a b wx=>∃u hi:Int,a=.int .i64 u/\b=.int .i64 hi/\-1<=u/\u<hi/\hi<=100000001/\Hid (∀k,0<=k->k<=u->f k<t)/\NK m y w J wx) (fun a b _=>(intOf b-intOf a).toNat)
   case atStart=>exact⟨-1,100000001,rfl,rfl,by omega,by omega,by omega,fun k p l=>absurd p (by omega),M⟩
   case round=>
    rename World=>wx
    obtain⟨u,hi,rfl,rfl,l0,l1,l2,ku,F⟩:=hrel;clear M;by_cases ao:u+1<hi
    ·obtain⟨q,hq⟩:∃q,q=(u+hi)/2:=⟨_,rfl⟩
     have hd:(u+hi).tdiv 2=q:=(by rw[hq];exact asK (by omega));have q0:u<q:=(by omega);have q1:q<hi:=(by omega);clear hq;have dR:=F.R;have mj:=F.Y;go_wp2_with(first|(refine kJ rfl _ _ rfl w.heap.size rfl dR underlying45 rfl (by kernel_rfl) ?_)|(refine kJ rfl _ _ rfl J rfl mj underlying53 rfl (by kernel_rfl) ?_));refine(L.out wx F.b q (by omega) (by omega)).mono ?_;rintro e w7 ⟨rfl,bk⟩;have B:=F.aa bk;clear F dR mj bk hd;have fW:=B.R;obtain⟨af,ai⟩:=Q3.out q (by omega) (by omega);obtain⟨ap,au⟩:=KC.out;obtain⟨I,N⟩:∃I,I=f q:=⟨_,rfl⟩
     rw[<-N]at af ai|-;have XE:=arH N;clear N;go_wp2_with(refine kJ rfl _ _ rfl w.heap.size rfl fW underlying45 rfl (by kernel_rfl) ?_);refine(pL.out w7 B.b).mono ?_;rintro e w8 ⟨rfl,bQ⟩;have T3:=B.aa bQ;clear B fW bQ;by_cases hn:I+mv<t
     ·have O:Hid (∀k,0<=k->k<=q->f k<t):=fun k p l=>by
       have h2:=TH.out k q l;have h3:=XE.out;omega
      go_wp2;go_roundw
      case rel=>exact⟨q,hi,rfl,rfl,by omega,q1,l2,O.out,T3⟩
      case measure=>simp only[intOf];omega
     ·go_wp2;go_roundw
      case rel=>exact⟨u,q,rfl,rfl,l0,q0,by omega,ku.out,T3⟩
      case measure=>simp only[intOf];omega
    ·obtain rfl:hi=u+1:=by omega
     go_wp2_with fail
     go_loopw [26] (fun a wz=>∃n:Int,a=.int .i64 n/\0<=n/\n<=100000001/\Hid (∀k,0<=k->k<n->f k<t)/\NK m y w J wz) (fun a _=>(100000001-intOf a).toNat)
     case atStart=>exact⟨u+1,rfl,by omega,by omega,fun k p l=>ku.out k p (by omega),F⟩
     case round=>
      rename World=>wz
      obtain⟨n,rfl,n0,n1,P,B⟩:=hrel;clear F;by_cases hn:n<=100000000
      ·have fW:=B.R;have Aj:=B.Y;go_wp2_with(first|(refine kJ rfl _ _ rfl w.heap.size rfl fW underlying45 rfl (by kernel_rfl) ?_)|(refine kJ rfl _ _ rfl J rfl Aj underlying53 rfl (by kernel_rfl) ?_));refine(L.out wz B.b n n0 hn).mono ?_;rintro e w8 ⟨rfl,bQ⟩;have T3:=B.aa bQ;clear B fW Aj bQ;obtain⟨I,N⟩:∃I,I=f n:=⟨_,rfl⟩
       rw[<-N];have XE:=arH N;clear N;by_cases nA:t<=I
       ·have al:Hid (t<=f n):=(by rw[Hid,<-XE.out];exact nA);go_wp2;go_ret2;refine⟨⟨n,0,rfl,.inr (.inr ⟨MN.out,⟨qh,ad⟩,.inl ⟨rfl,?_⟩⟩)⟩,T3.b⟩;rw[<-MB.out];exact⟨n0,hn,al.out,P.out⟩
       ·have O:Hid (∀k,0<=k->k<n+1->f k<t):=fun k p l=>by
         rcases Int.lt_or_le k n with h2|h2
         ·exact P.out k p h2
         ·obtain rfl:k=n:=by omega
          have:=XE.out;omega
        go_wp2;go_roundw
        case rel=>exact⟨n+1,by go_num,by omega,by omega,O.out,T3⟩
        case measure=>simp only[intOf];omega
      ·obtain rfl:n=100000001:=by omega
       go_wp2;go_ret2;refine⟨⟨0,16,rfl,.inr (.inr ⟨MN.out,⟨qh,ad⟩,.inr ⟨rfl,rfl,?_⟩⟩)⟩,B.b⟩;rw[<-MB.out];exact fun k p l=>P.out k p (by omega)
