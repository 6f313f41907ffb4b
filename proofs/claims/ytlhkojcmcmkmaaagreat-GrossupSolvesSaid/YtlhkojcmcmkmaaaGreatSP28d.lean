/- Conditions: as stated. -/
import Derived.Test.YtlhkojcmcmkmaaaGreatSP28c
set_option maxRecDepth 100000
set_option maxHeartbeats 8000000
namespace Go.Proofs.YtlhkojcmcmkmaaaGreat
open Go.Proofs.Tryz
open Go.RowKit
theorem anR(A:Option Addr)(L n:Nat)(j:List cS)(w:World)(h:aj Ce 2 w w.heap.size A j)(Q:∀e∈j,aj encI 1 w w.heap.size e.A e.l)(B:Ed n (j.map cS.v)):
  Calls prog 161 #[.slice A j.length L] w fun e w'=>e=.returned (.int .i64 0)/\Below w.heap.size w w':=by
 have Dj:j.length<=8:=by have:=B.len;simpa using this
 have E:0<j.length:=by have:=B.ne;simpa using this
 have V:=B.nn;have X:=arH Q;have J:Hid (∀k,(u:k<j.length)->j[k].l.length=n):=fun k u=>B.lens (j[k].v) (ar8.2 ⟨_,arO u,rfl⟩);have Y:Hid (∀k,(u:k<j.length)->0<=j[k].base/\j[k].base<=1000000000):=fun k u=>B.base (j[k].v) (ar8.2 ⟨_,arO u,rfl⟩);have Z:Hid (∀k,(u:k<j.length)->∀x∈j[k].l,0<=x/\x<=1000000000):=fun k u=>B.earlier (j[k].v) (ar8.2 ⟨_,arO u,rfl⟩);have ab:((j.length:Int)==0)=false:=by rw[ass];omega
 clear B Q;go_enter func161,ntmps161;go_wp2
 go_loopw [21] (fun i wr=>∃k:Nat,k<=j.length/\i=.int .i64 k/\Below w.heap.size w wr) (fun i _=>j.length-(intOf i).toNat)
 case atStart=>exact⟨0,by omega,rfl,arM _ _⟩
 case round=>
  obtain⟨k,u,rfl,r⟩:=hrel;have C:=r.size;by_cases p:k<j.length
  ·obtain⟨b,F,rfl,R,y⟩:=(h.below r).at_ p;have z:=y 0 _ rfl;have M:=y 1 _ rfl;simp only[arL]at z;rw[J.out k p]at z;have S:b<wr.heap.size:=(by omega);clear y;go_wp2;go_roundw
   case rel=>exact⟨k+1,by omega,by go_num,r.alloc C _⟩
   case measure=>simp[intOf];omega
  ·obtain rfl:k=j.length:=by omega
   go_wp2
   go_loopw [32] (fun i N=>∃k:Nat,k<=j.length/\i=.int .i64 k/\Below w.heap.size w N) (fun i _=>j.length-(intOf i).toNat)
   case atStart=>exact⟨0,by omega,rfl,r⟩
   case round=>
    rename World=>w2
    clear r C u p;obtain⟨k,u,rfl,r⟩:=hrel;have C:=r.size;by_cases p:k<j.length
    ·obtain⟨b,F,rfl,R,y⟩:=(h.below r).at_ p;have z:=y 0 _ rfl;have M:=y 1 _ rfl;simp only[arL]at z;rw[J.out k p]at z;have S:b<w2.heap.size:=(by omega);obtain⟨b',T,D,_,G⟩:=(h.below r).at_ E;injection D with D
     injection D with e1 e2
     subst e1 e2;have d0:=G 0 _ rfl;simp only[arL,asw]at d0;rw[J.out 0 E]at d0;have Nn:(0:Int)<(j.length:Int):=(by omega);clear y G;go_wp2;go_quiet(fail);go_wp2;go_roundw
     case rel=>exact⟨k+1,by omega,by go_num,below_drewN (r.alloc C _) _⟩
     case measure=>simp[intOf];omega
    ·obtain rfl:k=j.length:=by omega
     go_wp2
     go_loopw [48] (fun i Qp=>∃k:Nat,k<=j.length/\i=.int .i64 k/\Below w.heap.size w Qp) (fun i _=>j.length-(intOf i).toNat)
     case atStart=>exact⟨0,by omega,rfl,r⟩
     case round=>
      rename World=>w3
      clear r C u p;obtain⟨k,u,rfl,r⟩:=hrel;have C:=r.size;by_cases p:k<j.length
      ·obtain⟨b,F,rfl,R,y⟩:=(h.below r).at_ p;have z:=y 0 _ rfl;have M:=y 1 _ rfl;simp only[arL]at z;have S:b<w3.heap.size:=(by omega);obtain⟨x0,x1⟩:=Y.out k p;clear y;go_wp2_with fail;refine(afZ _ _ x0 x1).mono ?_;rintro e w' ⟨rfl,rfl⟩;have O:=ah.new w3 137 #[.slice j[k].A j[k].l.length j[k].cap,.int .i64 j[k].base];have K:=r.alloc C (.cells #[.slice j[k].A j[k].l.length j[k].cap,.int .i64 j[k].base] 137);generalize w3.alloc (.cells #[.slice j[k].A j[k].l.length j[k].cap,.int .i64 j[k].base] 137)=w4 at O K|-;obtain⟨z0,z1⟩:=O.cz2;have ad:j[k].l.length<=52:=(by rw[J.out k p];exact V);have WT:=((X.out _ (arO p)).below K).more K.size;clear z M O;go_wp2
       go_loop [59] (fun i=>∃q:Nat,q<=j[k].l.length/\i=.int .i64 q) (fun i=>j[k].l.length-(intOf i).toNat)
       case atStart=>exact⟨0,by omega,rfl⟩
       case round=>
        obtain⟨q,hq,rfl⟩:=hrel;by_cases I:q<j[k].l.length
        ·obtain⟨b5,af,P,aO,U⟩:=WT.at_ I;have d0:=U 0 _ rfl;simp only[arL,ast]at d0;obtain⟨y0,y1⟩:=Z.out k p _ (arO I);rw[P];clear U;go_wp2_with fail;refine(afZ _ _ y0 y1).mono ?_;rintro e w' ⟨rfl,rfl⟩;go_wp2;go_round
         case rel=>exact⟨q+1,by omega,by go_num⟩
         case measure=>simp[intOf];omega
        ·obtain rfl:q=j[k].l.length:=by omega
         go_wp2;go_roundw
         case rel=>exact⟨k+1,by omega,by go_num,K⟩
         case measure=>simp[intOf];omega
      ·obtain rfl:k=j.length:=by omega
       go_wp2;go_ret;exact⟨rfl,r⟩
theorem anS{e:List cS}{k:Nat}(h:k<e.length):(mr (e.map cS.v)).getD k 0=e[k].base:=by simp[mr,arW h,cS.v]
theorem WU(e:List cS):(mr (e.map cS.v)).length=e.length:=by simp[mr]
theorem anT(s:bR)(A:Option Addr)(af n:Nat)(r:List cS)(w:World)(h:aj Ce 2 w w.heap.size A r)(jg:∀e∈r,aj encI 1 w w.heap.size e.A e.l)(hs:mS s)(E:Ed n (r.map cS.v)):
  Calls prog 107 #[.agg #[.string s.code,.int .i64 s.aA,.int .i64 s.aT,.int .i64 s.floor,.int .i64 s.dt,.int .i64 s.unit,.int .i64 s.mode,.bool s.cA],.slice A r.length af] w (Cc (pF s n (r.map cS.v)) (AH s n (r.map cS.v)) w):=by
 have Dj:r.length<=8:=by have:=E.len;simpa using this
 have al:0<r.length:=by have:=E.ne;simpa using this
 have Zc:=E.nn;have HE:=arH E;have HS:=arH hs;have oK:=arH jg;have Es:Hid (∀k,(B:k<r.length)->r[k].l.length=n):=fun k B=>E.lens (r[k].v) (ar8.2 ⟨_,arO B,rfl⟩);have Oy:Hid (∀k,(B:k<r.length)->0<=r[k].base/\r[k].base<=1000000000):=fun k B=>E.base (r[k].v) (ar8.2 ⟨_,arO B,rfl⟩);have Mo:Hid (∀k,(B:k<r.length)->∀x∈r[k].l,0<=x/\x<=1000000000):=fun k B=>E.earlier (r[k].v) (ar8.2 ⟨_,arO B,rfl⟩);have Fg:=arH (fun w' hb=>anR A af n r w' (h.aa hb) (fun e he=>(jg e he).aa hb) E);have FR:Hid (∀e w',Cc (pF s n (r.map cS.v)) (AH s n (r.map cS.v)) w e w'->Cc (pF s n (r.map cS.v)) (AH s n (r.map cS.v)) w e w'):=fun _ _ h=>h;generalize am:Cc (pF s n (r.map cS.v)) (AH s n (r.map cS.v)) w=PI at FR|-;have an:=arH am;clear E hs jg am FR;have a0:=Zd (n+1) ((n:Int)+1) (by omega) (by omega);have a1:=NU r.length (by omega);go_enter func107,ntmps107;go_upto_region 1 with fail
 have hB:=ah.new w 123 #[.string s.code,.int .i64 s.aA,.int .i64 s.aT,.int .i64 s.floor,.int .i64 s.dt,.int .i64 s.unit,.int .i64 s.mode,.bool s.cA];have C:=bD w (.cells #[.string s.code,.int .i64 s.aA,.int .i64 s.aT,.int .i64 s.floor,.int .i64 s.dt,.int .i64 s.unit,.int .i64 s.mode,.bool s.cA] 123);generalize w.alloc (.cells #[.string s.code,.int .i64 s.aA,.int .i64 s.aT,.int .i64 s.floor,.int .i64 s.dt,.int .i64 s.unit,.int .i64 s.mode,.bool s.cA] 123)=W at hB C|-;obtain⟨O,K,z2,z3,z4,z5,z6,z7⟩:=hB.cz8;go_wp2_with fail;refine(af0 s W HS.out).mono ?_;rintro e w1 ⟨rfl,P⟩;have ai:=hB.aa P;have aS:=aB C P;clear hB C P O K z2 z3 z4 z5 z6 z7;go_wp2_with fail;refine arP (Fg.out w1 aS) ?_;rintro e G ⟨rfl,I⟩;have aK:=ai.aa I;have bB:=aB aS I;have a2:=bB.size;have a3:=aK.lt;clear ai aS I Fg;obtain⟨b,bd,Dc,hb,hc⟩:=(h.below bB).at_ al;subst Dc;have d0:=hc 0 _ rfl;simp only[arL,asw]at d0;rw[Es.out 0 al]at d0;have Nn:(0:Int)<(r.length:Int):=by omega
 clear hc;go_upto_region 8 with fail
 have Q:(G.alloc (.cells (madeCells #[.int .i64 0] (n+1)) 3)).heap.size=G.heap.size+1:=by simp
 have fC:=(RowI.made G (n+1)).alloc (.cells (madeCells #[.int .i64 0] r.length) 3);have iQ:=RowI.made (G.alloc (.cells (madeCells #[.int .i64 0] (n+1)) 3)) r.length;have bE:=(aK.alloc (.cells (madeCells #[.int .i64 0] (n+1)) 3)).alloc (.cells (madeCells #[.int .i64 0] r.length) 3);have cX:=ej (ej bB (.cells (madeCells #[.int .i64 0] (n+1)) 3)) (.cells (madeCells #[.int .i64 0] r.length) 3);rw[Q]at iQ;generalize (G.alloc (.cells (madeCells #[.int .i64 0] (n+1)) 3)).alloc (.cells (madeCells #[.int .i64 0] r.length) 3)=w3 at fC iQ bE cX|-;obtain⟨z,BV⟩:∃g,g=G.heap.size:=⟨_,rfl⟩
 obtain⟨D,R⟩:∃g,g=z+1:=⟨_,rfl⟩
 rw[<-BV,<-R]at iQ;rw[<-BV]at fC;rw[<-BV,<-R];have n1:z≠D:=by omega
 have n2:w.heap.size≠z:=by omega
 have n3:w.heap.size≠D:=by omega
 have n4:w.heap.size<=z:=by omega
 have n5:w.heap.size<=D:=by omega
 have n6:b<z:=by omega
 rw[<-JT (mr (r.map cS.v)) r.length]at iQ;clear BV R Q d0 aK bB a2 a3 a0 a1;go_wp2
 go_loopw [35] (fun i wr=>∃k:Nat,k<=r.length/\i=.int .i64 k/\RowI wr z (pE n ((r.map cS.v).take k))/\RowI wr D (upto (mr (r.map cS.v)) r.length k)/\ah wr w.heap.size 123 #[.string s.code,.int .i64 s.aA,.int .i64 s.aT,.int .i64 s.floor,.int .i64 s.dt,.int .i64 s.unit,.int .i64 s.mode,.bool s.cA]/\Below w.heap.size w wr) (fun i _=>r.length-(intOf i).toNat)
 case atStart=>exact⟨0,by omega,rfl,fC,iQ,bE,cX⟩
 case round=>
  clear fC iQ bE cX;obtain⟨k,B,rfl,L,T,FT,C⟩:=hrel;have bA:=C.size;obtain⟨S,M⟩:∃S,S=pE n ((r.map cS.v).take k):=⟨_,rfl⟩
  have pL:Hid (S.length=n+1):=by rw[M];exact(HE.out.take k).1
  have Hj:Hid (∀i,0<=S.getD i 0):=fun i=>by rw[M];exact JV (HE.out.take k).2 i
  have Kh:Hid (∀i,i<n+1->S.getD i 0<=8000000000):=fun i hi=>by rw[M];have:=HE.out.aci k (by simpa using B) i hi;omega
  by_cases y:k<r.length
  ·obtain⟨b',bb,dP,lx,hc⟩:=(h.below C).at_ y;injection dP with dP
   injection dP with dP cU
   subst dP cU;have c0:=hc 0 _ rfl;have c1:=hc 1 _ rfl;simp only[arL]at c0;have gY:b<wr.heap.size:=(by omega);have U:=Es.out k y;have eC:(k:Int)<(r.length:Int):=(by omega);have ao:=arH (Yx n (r.map cS.v) k (by simpa using y));rw[aco y,<-M]at ao;rw[<-M]at L;have Ko:=arH (anS y);have ap:=arH U;rw[U]at c0;clear U;obtain⟨p0,p1⟩:=Oy.out k y;have WT:=(oK.out _ (arO y)).below C;clear hc M;go_upto_region 12 with fail
   have J:=ah.new wr 137 #[.slice r[k].A n r[k].cap,.int .i64 r[k].base];have Ax:=bD wr (.cells #[.slice r[k].A n r[k].cap,.int .i64 r[k].base] 137);have D8:=L.alloc (.cells #[.slice r[k].A n r[k].cap,.int .i64 r[k].base] 137);have V:=T.alloc (.cells #[.slice r[k].A n r[k].cap,.int .i64 r[k].base] 137);have dg:=FT.alloc (.cells #[.slice r[k].A n r[k].cap,.int .i64 r[k].base] 137);have eW:=ej C (.cells #[.slice r[k].A n r[k].cap,.int .i64 r[k].base] 137);have PK:=WT.below (Ax.mono bA);have m1:=L.lt;have m2:=T.lt;have m3:=FT.lt;generalize wr.alloc (.cells #[.slice r[k].A n r[k].cap,.int .i64 r[k].base] 137)=w4 at J D8 V dg eW PK|-;obtain⟨gm,Ns⟩:∃g,g=wr.heap.size:=⟨_,rfl⟩
   rw[<-Ns]at J;rw[<-Ns];have n7:gm≠z:=(by omega);have n8:gm≠D:=(by omega);have n9:w.heap.size<=w4.heap.size:=eW.size;have u:=acj (x:=r[k].l) D8 pL.out;clear L T FT C bA WT Ax Ns m1 m2 m3 D8 c0 c1 gY;go_wp2
   go_loopw [43] (fun i wq=>∃j:Nat,j<=n/\i=.int .i64 j/\wq.rowIs z 3 (n+1) (Da S r[k].l j)/\w4.grownBy wq (some z)) (fun i _=>n-(intOf i).toNat)
   case atStart=>exact⟨0,by omega,rfl,u,fe _ _⟩
   case round=>
    rename World=>wq
    clear u;obtain⟨j,hj,rfl,u,N⟩:=hrel;have Z:=PK.grown N n9 (fun g e=>by injection e;omega);have q0:=u.cell (i:=j) (by omega);have f0:=u.frozen j;rw[Da,arJ (by omega),Int.add_zero]at q0;have s0:=Hj.out j;have s1:=Kh.out j (by omega);have lq:=u.lt;by_cases QX:j<n
    ·have o7:j<r[k].l.length:=(by rw[ap.out];exact QX);obtain⟨b2,Ge,fY,I,au⟩:=Z.at_ o7;have d0:=au 0 _ rfl;simp only[arL,ast]at d0;have QY:=Mo.out k y _ (arO o7);have D1:r[k].l[j]=r[k].l.getD j 0:=(by rw[ar1,arW o7];rfl);rw[D1]at d0 QY;obtain⟨x0,x1⟩:=QY;have be:b2≠z:=(by omega);have kz:(j:Int)<(n:Int):=(by omega);have bf:(j:Int)<(n:Int)+1:=(by omega);have Ki:=arH (ack u);have a4:=arH (bm (p:=⟨z,j,none⟩) N (.inl rfl) (.int .i64 (S.getD j 0+r[k].l.getD j 0)));rw[fY];clear au u N D1 Z;generalize S.getD j 0=sj at*;generalize r[k].l.getD j 0=xj at*;go_wp2;go_roundw
     case rel=>exact⟨j+1,by omega,by go_num,Ki.out,a4.out⟩
     case measure=>simp[intOf];omega
    ·obtain rfl:n=j:=by omega
     have DT:=V.grown N (fun e=>n1 (by injection e with e;exact e.symm));have av:=dg.grown N (fun e=>n2 (by injection e));have nT:=J.grown N (fun e=>n7 (by injection e));have C5:=kN eW N (fun g e=>by injection e;omega);have lm:=nT.lt;obtain⟨O,K⟩:=nT.cz2;clear N V dg J eW PK Z;have bg:(((n+1:Nat):Int)-1)=(n:Int):=(by omega);have C7:(n:Int)<(n:Int)+1:=(by omega);obtain⟨sn,ab⟩:∃x,x=S.getD n 0:=⟨_,rfl⟩
     rw[<-ab]at q0 s0 s1;have Fo:=arH ab;clear ab;go_upto_region 16 with fail
     refine QH (aE:=?CV) [0,1,2,3,4,5,6,7,8,9] 10 (by kernel_rfl) (by kernel_rfl) rfl (by kernel_rfl) (by rfl) (by kernel_rfl) (by kernel_rfl) rfl rfl rfl ?H1 ?M1
     case H1=>
      intro F hF bc;simp only[M3.cD,arQ,arR,arS];have e0:=aP.dM (F:=F) (a:=⟨z,n,none⟩) (by exact lq) q0;have Q:=aP.dM (F:=F) (a:=⟨gm,1,none⟩) (by exact lm) K
      repeat(first|go_big_quiet_step(first|fail)|quiet_step(first|fail))
      refine wpQuiet_nil ?_;rfl
     case M1=>
      intro w5 aO;have Ts:=World.rowIs.of_block u (aO.block z lq);have ay:=DT.aa aO;have eJ:=av.aa aO;have az:=nT.aa aO;have Bt:=aB C5 aO;have y0:=Ts.cell (i:=n) (by omega);rw[Da,arJ (by omega),Int.add_zero,<-Fo.out]at y0;have fy:=Ts.frozen n;have ly:=Ts.lt;refine⟨w5.setCell ⟨z,n,none⟩ (.int .i64 (sn+r[k].base)),by go_simp,?_⟩;have WV:=acm (b:=r[k].base) Ts pL.out ap.out;rw[<-ao.out,<-Fo.out]at WV;have PL:=ay.far (p:=⟨z,n,none⟩) (fun e=>n1 e.symm) (.int .i64 (sn+r[k].base));have iL:=eJ.far (p:=⟨z,n,none⟩) n2 (.int .i64 (sn+r[k].base));have WX:=az.far (p:=⟨z,n,none⟩) n7 (.int .i64 (sn+r[k].base));have Ev:=iX Bt n4 n (.int .i64 (sn+r[k].base));generalize w5.setCell ⟨z,n,none⟩ (.int .i64 (sn+r[k].base))=w6 at WV PL iL WX Ev|-;clear u Ts ay eJ az Bt y0 fy ly DT av nT C5 q0 f0 lq lm O K aO;have u0:=PL.cell (i:=k) (by rw[BU _ _ _ (WU r) (by omega)];exact y);have fu:=PL.frozen k;have lu:=PL.lt;generalize (upto (mr (r.map cS.v)) r.length k).getD k 0=ub at u0;obtain⟨O,K⟩:=WX.cz2;have a5:=arH WV;have a6:=arH (PL.WY (WU r) y Ko.out.symm);have a7:=arH iL;have a8:=arH Ev;clear WV PL iL WX Ev;go_wp2;go_roundw
      case rel=>exact⟨k+1,by omega,by go_num,a5.out.far (p:=⟨D,k,none⟩) n1 _,a6.out,a7.out.far (p:=⟨D,k,none⟩) n3 _,iX a8.out n5 _ _⟩
      case measure=>simp[intOf];omega
  ·obtain rfl:k=r.length:=by omega
   have ad:pE n ((r.map cS.v).take r.length)=pE n (r.map cS.v):=(by rw[asB (by simp)]);rw[M,ad]at pL Hj Kh;rw[ad]at L;rw[JU _ _ (WU r)]at T;clear M ad B y;obtain⟨X,hX⟩:∃X,X=pE n (r.map cS.v):=⟨_,rfl⟩
   obtain⟨Y,hY⟩:∃Y,Y=mr (r.map cS.v):=⟨_,rfl⟩
   have aJ:Hid (jO s X=gI s n (r.map cS.v)):=(by rw[hX];rfl);have WZ:X.length=n+1:=(by rw[hX];exact pL.out);have aN:Y.length=r.length:=(by rw[hY];exact WU r);have SV:∀x∈X,0<=x/\x<=8000000000:=fun x hx=>by obtain⟨i,hi,rfl⟩:=aso.1 hx;have h1:=Hj.out i;have h2:=Kh.out i (by omega);rw[<-hX,ar1,arW hi]at h1 h2;exact⟨h1,h2⟩
   have aU:∀x∈Y,0<=x/\x<=1000000000:=fun x hx=>by rw[hY]at hx;exact Zj HE.out x hx
   rw[<-hX]at L;rw[<-hY]at T;have Tt:=Zi HS.out HE.out;rw[<-aJ.out]at Tt;have GN:=anG s (some ⟨z,0,none⟩) (n+1) X wr L.slice (by intro e;rw[e]at WZ;simp at WZ) (by omega) (by omega) SV HS.out;rw[WZ]at GN;have aV:=arH GN;have HD:Hid (∀(w':World) (v:gv),Below w.heap.size w w'->RowI w' D Y->v=jO s X->Calls prog 163 #[.agg #[.int .i64 v.base,.int .i64 v.aA,.int .i64 v.aT],.slice (some ⟨D,0,none⟩) r.length r.length] w' fun e G=>(∃v1 v2,e=.returned (.tuple #[v1,v2]))/\PI e G):=fun w' v hb hr hv=>by
    have hd:=anL v (some ⟨D,0,none⟩) r.length Y w' hr.slice aU (by omega) (by omega) (by rw[hv];exact Tt.1) (by rw[hv];exact Tt.2.1) (by rw[hv];exact Tt.2.2.1);rw[aN]at hd;refine hd.mono fun e G ⟨A2,c2,q1,q2,q3,q4,q5⟩=>⟨⟨_,_,q1⟩,?_⟩
    rw[<-an.out];have a9:v=gI s n (r.map cS.v):=(by rw[hv,aJ.out]);subst a9;have Q:pF s n (r.map cS.v)=if fO (gI s n (r.map cS.v))then[]else lW (gI s n (r.map cS.v)) Y:=by rw[hY];rfl
    exact⟨A2,c2,by rw[Q];exact q1,by rw[Q];exact q2,by rw[Q];exact q3,fun a ha=>ar0 hb.size (q4 a ha),aB hb q5⟩
   clear GN hX hY WZ aN SV aU Tt oK Es Oy Mo pL Hj Kh h an HE;generalize jO s X=lv at*;obtain⟨O,K,z2,z3,z4,z5,z6,z7⟩:=FT.cz8;go_wp2_with fail;refine arP aV.out ?_;rintro e w7 ⟨rfl,bk⟩;have aZ:=(T.aa bk).alloc (.cells #[.int .i64 lv.base,.int .i64 lv.aA,.int .i64 lv.aT] 142);have PA:=ej (aB C bk) (.cells #[.int .i64 lv.base,.int .i64 lv.aA,.int .i64 lv.aT] 142);have eL:=ah.new w7 142 #[.int .i64 lv.base,.int .i64 lv.aA,.int .i64 lv.aT];clear L T FT C bk O K z2 z3 z4 z5 z6 z7 aV;go_upto_region 20 with fail
   generalize w7.alloc (.cells #[.int .i64 lv.base,.int .i64 lv.aA,.int .i64 lv.aT] 142)=w8 at aZ PA eL|-;obtain⟨O,K,z2⟩:=eL.cz3;go_wp2_with fail;refine arP (HD.out w8 lv PA aZ rfl) ?_;rintro e w9 ⟨⟨v1,v2,rfl⟩,ba⟩;go_wp2;exact ba
