/- Conditions: as stated. -/
import Derived.Test.YtlhkojcmcmkmaaaGreatKP28c
set_option maxRecDepth 100000
set_option maxHeartbeats 8000000
namespace Go.Proofs.YtlhkojcmcmkmaaaGreat
open Go.Proofs.Tryz
open Go.RowKit
theorem anv(A:Option Addr)(L n:Nat)(j:List cM)(w:World)(h:aj AL 2 w w.heap.size A j)(Q:∀e∈j,aj encI 1 w w.heap.size e.A e.l)(B:DA n (j.map cM.v)):
  Calls prog 161 #[.slice A j.length L] w fun e w'=>e=.returned (.int .i64 0)/\Below w.heap.size w w':=by
 have CI:j.length<=8:=by have:=B.len;simpa using this
 have E:0<j.length:=by have:=B.ne;simpa using this
 have V:=B.nn;have X:=aq6 Q;have J:Hid (∀k,(u:k<j.length)->j[k].l.length=n):=fun k u=>B.lens (j[k].v) (arB.2 ⟨_,arc u,rfl⟩);have Y:Hid (∀k,(u:k<j.length)->0<=j[k].base/\j[k].base<=1000000000):=fun k u=>B.base (j[k].v) (arB.2 ⟨_,arc u,rfl⟩);have Z:Hid (∀k,(u:k<j.length)->∀x∈j[k].l,0<=x/\x<=1000000000):=fun k u=>B.earlier (j[k].v) (arB.2 ⟨_,arc u,rfl⟩);have ab:((j.length:Int)==0)=false:=by rw[arS];omega
 clear B Q;go_enter func161,ntmps161;go_wp2
 go_loopw [21] (fun i wr=>∃k:Nat,k<=j.length/\i=.int .i64 k/\Below w.heap.size w wr) (fun i _=>j.length-(intOf i).toNat)
 case atStart=>exact⟨0,by omega,rfl,arb _ _⟩
 case round=>
  obtain⟨k,u,rfl,r⟩:=hrel;have C:=r.size;by_cases p:k<j.length
  ·obtain⟨b,F,rfl,R,y⟩:=(h.below r).at_ p;have z:=y 0 _ rfl;have M:=y 1 _ rfl;simp only[ara]at z;rw[J.out k p]at z;have S:b<wr.heap.size:=(by omega);clear y;go_wp2;go_roundw
   case rel=>exact⟨k+1,by omega,by go_num,r.alloc C _⟩
   case measure=>simp[intOf];omega
  ·obtain rfl:k=j.length:=by omega
   go_wp2
   go_loopw [32] (fun i N=>∃k:Nat,k<=j.length/\i=.int .i64 k/\Below w.heap.size w N) (fun i _=>j.length-(intOf i).toNat)
   case atStart=>exact⟨0,by omega,rfl,r⟩
   case round=>
    rename World=>w2
    clear r C u p;obtain⟨k,u,rfl,r⟩:=hrel;have C:=r.size;by_cases p:k<j.length
    ·obtain⟨b,F,rfl,R,y⟩:=(h.below r).at_ p;have z:=y 0 _ rfl;have M:=y 1 _ rfl;simp only[ara]at z;rw[J.out k p]at z;have S:b<w2.heap.size:=(by omega);obtain⟨b',T,D,_,G⟩:=(h.below r).at_ E;injection D with D
     injection D with e1 e2
     subst e1 e2;have d0:=G 0 _ rfl;simp only[ara,arT]at d0;rw[J.out 0 E]at d0;have MN:(0:Int)<(j.length:Int):=(by omega);clear y G;go_wp2;go_quiet(fail);go_wp2;go_roundw
     case rel=>exact⟨k+1,by omega,by go_num,below_drewN (r.alloc C _) _⟩
     case measure=>simp[intOf];omega
    ·obtain rfl:k=j.length:=by omega
     go_wp2
     go_loopw [48] (fun i PY=>∃k:Nat,k<=j.length/\i=.int .i64 k/\Below w.heap.size w PY) (fun i _=>j.length-(intOf i).toNat)
     case atStart=>exact⟨0,by omega,rfl,r⟩
     case round=>
      rename World=>w3
      clear r C u p;obtain⟨k,u,rfl,r⟩:=hrel;have C:=r.size;by_cases p:k<j.length
      ·obtain⟨b,F,rfl,R,y⟩:=(h.below r).at_ p;have z:=y 0 _ rfl;have M:=y 1 _ rfl;simp only[ara]at z;have S:b<w3.heap.size:=(by omega);obtain⟨x0,x1⟩:=Y.out k p;clear y;go_wp2_with fail;refine(afM _ _ x0 x1).mono ?_;rintro e w' ⟨rfl,rfl⟩;have O:=ah.new w3 137 #[.slice j[k].A j[k].l.length j[k].cap,.int .i64 j[k].base];have K:=r.alloc C (.cells #[.slice j[k].A j[k].l.length j[k].cap,.int .i64 j[k].base] 137);generalize w3.alloc (.cells #[.slice j[k].A j[k].l.length j[k].cap,.int .i64 j[k].base] 137)=w4 at O K|-;obtain⟨z0,z1⟩:=O.cz2;have ad:j[k].l.length<=52:=(by rw[J.out k p];exact V);have Wh:=((X.out _ (arc p)).below K).more K.size;clear z M O;go_wp2
       go_loop [59] (fun i=>∃q:Nat,q<=j[k].l.length/\i=.int .i64 q) (fun i=>j[k].l.length-(intOf i).toNat)
       case atStart=>exact⟨0,by omega,rfl⟩
       case round=>
        obtain⟨q,hq,rfl⟩:=hrel;by_cases I:q<j[k].l.length
        ·obtain⟨b5,af,P,aP,U⟩:=Wh.at_ I;have d0:=U 0 _ rfl;simp only[ara,arU]at d0;obtain⟨y0,y1⟩:=Z.out k p _ (arc I);rw[P];clear U;go_wp2_with fail;refine(afM _ _ y0 y1).mono ?_;rintro e w' ⟨rfl,rfl⟩;go_wp2;go_round
         case rel=>exact⟨q+1,by omega,by go_num⟩
         case measure=>simp[intOf];omega
        ·obtain rfl:q=j[k].l.length:=by omega
         go_wp2;go_roundw
         case rel=>exact⟨k+1,by omega,by go_num,K⟩
         case measure=>simp[intOf];omega
      ·obtain rfl:k=j.length:=by omega
       go_wp2;go_ret;exact⟨rfl,r⟩
theorem anw{e:List cM}{k:Nat}(h:k<e.length):(lV (e.map cM.v)).getD k 0=e[k].base:=by simp[lV,aro h,cM.v]
theorem Wi(e:List cM):(lV (e.map cM.v)).length=e.length:=by simp[lV]
theorem anx(s:cm)(A:Option Addr)(al n:Nat)(r:List cM)(w:World)(h:aj AL 2 w w.heap.size A r)(iR:∀e∈r,aj encI 1 w w.heap.size e.A e.l)(hs:mA s)(E:DA n (r.map cM.v)):
  Calls prog 107 #[.agg #[.string s.code,.int .i64 s.az,.int .i64 s.aS,.int .i64 s.floor,.int .i64 s.dw,.int .i64 s.unit,.int .i64 s.mode,.bool s.cA],.slice A r.length al] w (BB (o7 s n (r.map cM.v)) (zK s n (r.map cM.v)) w):=by
 have CI:r.length<=8:=by have:=E.len;simpa using this
 have am:0<r.length:=by have:=E.ne;simpa using this
 have YE:=E.nn;have HE:=aq6 E;have HS:=aq6 hs;have oq:=aq6 iR;have DT:Hid (∀k,(B:k<r.length)->r[k].l.length=n):=fun k B=>E.lens (r[k].v) (arB.2 ⟨_,arc B,rfl⟩);have N3:Hid (∀k,(B:k<r.length)->0<=r[k].base/\r[k].base<=1000000000):=fun k B=>E.base (r[k].v) (arB.2 ⟨_,arc B,rfl⟩);have LW:Hid (∀k,(B:k<r.length)->∀x∈r[k].l,0<=x/\x<=1000000000):=fun k B=>E.earlier (r[k].v) (arB.2 ⟨_,arc B,rfl⟩);have EF:=aq6 (fun w' hb=>anv A al n r w' (h.aa hb) (fun e he=>(iR e he).aa hb) E);have Fe:Hid (∀e w',BB (o7 s n (r.map cM.v)) (zK s n (r.map cM.v)) w e w'->BB (o7 s n (r.map cM.v)) (zK s n (r.map cM.v)) w e w'):=fun _ _ h=>h;generalize an:BB (o7 s n (r.map cM.v)) (zK s n (r.map cM.v)) w=Pk at Fe|-;have ao:=aq6 an;clear E hs iR an Fe;have a1:=YF (n+1) ((n:Int)+1) (by omega) (by omega);have a2:=Nt r.length (by omega);go_enter func107,ntmps107;go_upto_region 1 with fail
 have hB:=ah.new w 123 #[.string s.code,.int .i64 s.az,.int .i64 s.aS,.int .i64 s.floor,.int .i64 s.dw,.int .i64 s.unit,.int .i64 s.mode,.bool s.cA];have C:=bF w (.cells #[.string s.code,.int .i64 s.az,.int .i64 s.aS,.int .i64 s.floor,.int .i64 s.dw,.int .i64 s.unit,.int .i64 s.mode,.bool s.cA] 123);generalize w.alloc (.cells #[.string s.code,.int .i64 s.az,.int .i64 s.aS,.int .i64 s.floor,.int .i64 s.dw,.int .i64 s.unit,.int .i64 s.mode,.bool s.cA] 123)=W at hB C|-;obtain⟨O,K,z2,z3,z4,z5,z6,z7⟩:=hB.cz8;go_wp2_with fail;refine(afN s W HS.out).mono ?_;rintro e w1 ⟨rfl,P⟩;have ai:=hB.aa P;have aT:=aB C P;clear hB C P O K z2 z3 z4 z5 z6 z7;go_wp2_with fail;refine arf (EF.out w1 aT) ?_;rintro e G ⟨rfl,I⟩;have aD:=ai.aa I;have bu:=aB aT I;have a3:=bu.size;have a4:=aD.lt;clear ai aT I EF;obtain⟨b,be,Cz,hb,hc⟩:=(h.below bu).at_ am;subst Cz;have d0:=hc 0 _ rfl;simp only[ara,arT]at d0;rw[DT.out 0 am]at d0;have MN:(0:Int)<(r.length:Int):=by omega
 clear hc;go_upto_region 8 with fail
 have Q:(G.alloc (.cells (madeCells #[.int .i64 0] (n+1)) 3)).heap.size=G.heap.size+1:=by simp
 have jP:=(RowI.made G (n+1)).alloc (.cells (madeCells #[.int .i64 0] r.length) 3);have jM:=RowI.made (G.alloc (.cells (madeCells #[.int .i64 0] (n+1)) 3)) r.length;have bz:=(aD.alloc (.cells (madeCells #[.int .i64 0] (n+1)) 3)).alloc (.cells (madeCells #[.int .i64 0] r.length) 3);have cW:=ew (ew bu (.cells (madeCells #[.int .i64 0] (n+1)) 3)) (.cells (madeCells #[.int .i64 0] r.length) 3);rw[Q]at jM;generalize (G.alloc (.cells (madeCells #[.int .i64 0] (n+1)) 3)).alloc (.cells (madeCells #[.int .i64 0] r.length) 3)=w3 at jP jM bz cW|-;obtain⟨z,Bj⟩:∃g,g=G.heap.size:=⟨_,rfl⟩
 obtain⟨D,R⟩:∃g,g=z+1:=⟨_,rfl⟩
 rw[<-Bj,<-R]at jM;rw[<-Bj]at jP;rw[<-Bj,<-R];have n1:z≠D:=by omega
 have n2:w.heap.size≠z:=by omega
 have n3:w.heap.size≠D:=by omega
 have n4:w.heap.size<=z:=by omega
 have n5:w.heap.size<=D:=by omega
 have n6:b<z:=by omega
 rw[<-Jx (lV (r.map cM.v)) r.length]at jM;clear Bj R Q d0 aD bu a3 a4 a1 a2;go_wp2
 go_loopw [35] (fun i wr=>∃k:Nat,k<=r.length/\i=.int .i64 k/\RowI wr z (o6 n ((r.map cM.v).take k))/\RowI wr D (upto (lV (r.map cM.v)) r.length k)/\ah wr w.heap.size 123 #[.string s.code,.int .i64 s.az,.int .i64 s.aS,.int .i64 s.floor,.int .i64 s.dw,.int .i64 s.unit,.int .i64 s.mode,.bool s.cA]/\Below w.heap.size w wr) (fun i _=>r.length-(intOf i).toNat)
 case atStart=>exact⟨0,by omega,rfl,jP,jM,bz,cW⟩
 case round=>
  clear jP jM bz cW;obtain⟨k,B,rfl,L,T,Ff,C⟩:=hrel;have br:=C.size;obtain⟨S,M⟩:∃S,S=o6 n ((r.map cM.v).take k):=⟨_,rfl⟩
  have AO:Hid (S.length=n+1):=by rw[M];exact(HE.out.take k).1
  have GU:Hid (∀i,0<=S.getD i 0):=fun i=>by rw[M];exact Jz (HE.out.take k).2 i
  have JV:Hid (∀i,i<n+1->S.getD i 0<=8000000000):=fun i hi=>by rw[M];have:=HE.out.abZ k (by simpa using B) i hi;omega
  by_cases y:k<r.length
  ·obtain⟨b',bc,dK,kW,hc⟩:=(h.below C).at_ y;injection dK with dK
   injection dK with dK cS
   subst dK cS;have c0:=hc 0 _ rfl;have c1:=hc 1 _ rfl;simp only[ara]at c0;have jr:b<wr.heap.size:=(by omega);have U:=DT.out k y;have gK:(k:Int)<(r.length:Int):=(by omega);have ap:=aq6 (X0 n (r.map cM.v) k (by simpa using y));rw[ab4 y,<-M]at ap;rw[<-M]at L;have J0:=aq6 (anw y);have av:=aq6 U;rw[U]at c0;clear U;obtain⟨p0,p1⟩:=N3.out k y;have Wh:=(oq.out _ (arc y)).below C;clear hc M;go_upto_region 12 with fail
   have J:=ah.new wr 137 #[.slice r[k].A n r[k].cap,.int .i64 r[k].base];have zB:=bF wr (.cells #[.slice r[k].A n r[k].cap,.int .i64 r[k].base] 137);have Du:=L.alloc (.cells #[.slice r[k].A n r[k].cap,.int .i64 r[k].base] 137);have V:=T.alloc (.cells #[.slice r[k].A n r[k].cap,.int .i64 r[k].base] 137);have dc:=Ff.alloc (.cells #[.slice r[k].A n r[k].cap,.int .i64 r[k].base] 137);have eO:=ew C (.cells #[.slice r[k].A n r[k].cap,.int .i64 r[k].base] 137);have Z:=Wh.below (zB.mono br);have m1:=L.lt;have m2:=T.lt;have m3:=Ff.lt;generalize wr.alloc (.cells #[.slice r[k].A n r[k].cap,.int .i64 r[k].base] 137)=w4 at J Du V dc eO Z|-;obtain⟨gm,MR⟩:∃g,g=wr.heap.size:=⟨_,rfl⟩
   rw[<-MR]at J;rw[<-MR];have n7:gm≠z:=(by omega);have n8:gm≠D:=(by omega);have n9:w.heap.size<=w4.heap.size:=eO.size;have u:=ab0 (x:=r[k].l) Du AO.out;clear L T Ff C br Wh zB MR m1 m2 m3 Du c0 c1 jr;go_wp2
   go_loopw [43] (fun i wq=>∃j:Nat,j<=n/\i=.int .i64 j/\wq.rowIs z 3 (n+1) (Cx S r[k].l j)/\w4.grownBy wq (some z)) (fun i _=>n-(intOf i).toNat)
   case atStart=>exact⟨0,by omega,rfl,u,ft _ _⟩
   case round=>
    rename World=>wq
    clear u;obtain⟨j,hj,rfl,u,N⟩:=hrel;have ab:=Z.grown N n9 (fun g e=>by injection e;omega);have q0:=u.cell (i:=j) (by omega);have f0:=u.frozen j;rw[Cx,aq8 (by omega),Int.add_zero]at q0;have s0:=GU.out j;have s1:=JV.out j (by omega);have lq:=u.lt;by_cases Qx:j<n
    ·have o9:j<r[k].l.length:=(by rw[av.out];exact Qx);obtain⟨b2,FH,fQ,I,ax⟩:=ab.at_ o9;have d0:=ax 0 _ rfl;simp only[ara,arU]at d0;have Qy:=LW.out k y _ (arc o9);have Dp:r[k].l[j]=r[k].l.getD j 0:=(by rw[aru,aro o9];rfl);rw[Dp]at d0 Qy;obtain⟨x0,x1⟩:=Qy;have bf:b2≠z:=(by omega);have ko:(j:Int)<(n:Int):=(by omega);have bg:(j:Int)<(n:Int)+1:=(by omega);have JW:=aq6 (ab1 u);have a5:=aq6 (bk (p:=⟨z,j,none⟩) N (.inl rfl) (.int .i64 (S.getD j 0+r[k].l.getD j 0)));rw[fQ];clear ax u N Dp ab;generalize S.getD j 0=sj at*;generalize r[k].l.getD j 0=xj at*;go_wp2;go_roundw
     case rel=>exact⟨j+1,by omega,by go_num,JW.out,a5.out⟩
     case measure=>simp[intOf];omega
    ·obtain rfl:n=j:=by omega
     have Dh:=V.grown N (fun e=>n1 (by injection e with e;exact e.symm));have ay:=dc.grown N (fun e=>n2 (by injection e));have nA:=J.grown N (fun e=>n7 (by injection e));have Ct:=jN eO N (fun g e=>by injection e;omega);have lm:=nA.lt;obtain⟨O,K⟩:=nA.cz2;clear N V dc J eO Z ab;have bh:(((n+1:Nat):Int)-1)=(n:Int):=(by omega);have Cv:(n:Int)<(n:Int)+1:=(by omega);obtain⟨sn,ad⟩:∃x,x=S.getD n 0:=⟨_,rfl⟩
     rw[<-ad]at q0 s0 s1;have EN:=aq6 ad;clear ad;go_upto_region 16 with fail
     refine Qh (aE:=?Co) [0,1,2,3,4,5,6,7,8,9] 10 (by kernel_rfl) (by kernel_rfl) rfl (by kernel_rfl) (by rfl) (by kernel_rfl) (by kernel_rfl) rfl rfl rfl ?H1 ?M1
     case H1=>
      intro F hF bd;simp only[M3.cL,arh,ari,arj];have e0:=aR.dL (F:=F) (a:=⟨z,n,none⟩) (by exact lq) q0;have Q:=aR.dL (F:=F) (a:=⟨gm,1,none⟩) (by exact lm) K
      repeat(first|go_big_quiet_step(first|fail)|quiet_step(first|fail))
      refine wpQuiet_nil ?_;rfl
     case M1=>
      intro w5 aP;have SE:=World.rowIs.of_block u (aP.block z lq);have aA:=Dh.aa aP;have eM:=ay.aa aP;have aJ:=nA.aa aP;have AD:=aB Ct aP;have y0:=SE.cell (i:=n) (by omega);rw[Cx,aq8 (by omega),Int.add_zero,<-EN.out]at y0;have fy:=SE.frozen n;have ly:=SE.lt;refine⟨w5.setCell ⟨z,n,none⟩ (.int .i64 (sn+r[k].base)),by go_simp,?_⟩;have Wj:=ab2 (b:=r[k].base) SE AO.out av.out;rw[<-ap.out,<-EN.out]at Wj;have Pm:=aA.far (p:=⟨z,n,none⟩) (fun e=>n1 e.symm) (.int .i64 (sn+r[k].base));have ir:=eM.far (p:=⟨z,n,none⟩) n2 (.int .i64 (sn+r[k].base));have Wk:=aJ.far (p:=⟨z,n,none⟩) n7 (.int .i64 (sn+r[k].base));have DX:=iJ AD n4 n (.int .i64 (sn+r[k].base));generalize w5.setCell ⟨z,n,none⟩ (.int .i64 (sn+r[k].base))=w6 at Wj Pm ir Wk DX|-;clear u SE aA eM aJ AD y0 fy ly Dh ay nA Ct q0 f0 lq lm O K aP;have u0:=Pm.cell (i:=k) (by rw[Bi _ _ _ (Wi r) (by omega)];exact y);have fu:=Pm.frozen k;have lu:=Pm.lt;generalize (upto (lV (r.map cM.v)) r.length k).getD k 0=ub at u0;obtain⟨O,K⟩:=Wk.cz2;have a6:=aq6 Wj;have a7:=aq6 (Pm.Wl (Wi r) y J0.out.symm);have a8:=aq6 ir;have a9:=aq6 DX;clear Wj Pm ir Wk DX;go_wp2;go_roundw
      case rel=>exact⟨k+1,by omega,by go_num,a6.out.far (p:=⟨D,k,none⟩) n1 _,a7.out,a8.out.far (p:=⟨D,k,none⟩) n3 _,iJ a9.out n5 _ _⟩
      case measure=>simp[intOf];omega
  ·obtain rfl:k=r.length:=by omega
   have af:o6 n ((r.map cM.v).take r.length)=o6 n (r.map cM.v):=(by rw[ar0 (by simp)]);rw[M,af]at AO GU JV;rw[af]at L;rw[Jy _ _ (Wi r)]at T;clear M af B y;obtain⟨X,hX⟩:∃X,X=o6 n (r.map cM.v):=⟨_,rfl⟩
   obtain⟨Y,hY⟩:∃Y,Y=lV (r.map cM.v):=⟨_,rfl⟩
   have aO:Hid (jB s X=gw s n (r.map cM.v)):=(by rw[hX];rfl);have Wm:X.length=n+1:=(by rw[hX];exact AO.out);have aV:Y.length=r.length:=(by rw[hY];exact Wi r);have R9:∀x∈X,0<=x/\x<=8000000000:=fun x hx=>by obtain⟨i,hi,rfl⟩:=arN.1 hx;have h1:=GU.out i;have h2:=JV.out i (by omega);rw[<-hX,aru,aro hi]at h1 h2;exact⟨h1,h2⟩
   have aW:∀x∈Y,0<=x/\x<=1000000000:=fun x hx=>by rw[hY]at hx;exact YL HE.out x hx
   rw[<-hX]at L;rw[<-hY]at T;have SF:=YK HS.out HE.out;rw[<-aO.out]at SF;have Gk:=ank s (some ⟨z,0,none⟩) (n+1) X wr L.slice (by intro e;rw[e]at Wm;simp at Wm) (by omega) (by omega) R9 HS.out;rw[Wm]at Gk;have aZ:=aq6 Gk;have HD:Hid (∀(w':World) (v:fY),Below w.heap.size w w'->RowI w' D Y->v=jB s X->Calls prog 163 #[.agg #[.int .i64 v.base,.int .i64 v.az,.int .i64 v.aS],.slice (some ⟨D,0,none⟩) r.length r.length] w' fun e G=>(∃v1 v2,e=.returned (.tuple #[v1,v2]))/\Pk e G):=fun w' v hb hr hv=>by
    have hd:=anp v (some ⟨D,0,none⟩) r.length Y w' hr.slice aW (by omega) (by omega) (by rw[hv];exact SF.1) (by rw[hv];exact SF.2.1) (by rw[hv];exact SF.2.2.1);rw[aV]at hd;refine hd.mono fun e G ⟨A2,c2,q1,q2,q3,q4,q5⟩=>⟨⟨_,_,q1⟩,?_⟩
    rw[<-ao.out];have ba:v=gw s n (r.map cM.v):=(by rw[hv,aO.out]);subst ba;have Q:o7 s n (r.map cM.v)=if fG (gw s n (r.map cM.v))then[]else lG (gw s n (r.map cM.v)) Y:=by rw[hY];rfl
    exact⟨A2,c2,by rw[Q];exact q1,by rw[Q];exact q2,by rw[Q];exact q3,fun a ha=>arq hb.size (q4 a ha),aB hb q5⟩
   clear Gk hX hY Wm aV R9 aW SF oq DT N3 LW AO GU JV h ao HE;generalize jB s X=lv at*;obtain⟨O,K,z2,z3,z4,z5,z6,z7⟩:=Ff.cz8;go_wp2_with fail;refine arf aZ.out ?_;rintro e w7 ⟨rfl,bp⟩;have a0:=(T.aa bp).alloc (.cells #[.int .i64 lv.base,.int .i64 lv.az,.int .i64 lv.aS] 142);have O7:=ew (aB C bp) (.cells #[.int .i64 lv.base,.int .i64 lv.az,.int .i64 lv.aS] 142);have eG:=ah.new w7 142 #[.int .i64 lv.base,.int .i64 lv.az,.int .i64 lv.aS];clear L T Ff C bp O K z2 z3 z4 z5 z6 z7 aZ;go_upto_region 20 with fail
   generalize w7.alloc (.cells #[.int .i64 lv.base,.int .i64 lv.az,.int .i64 lv.aS] 142)=w8 at a0 O7 eG|-;obtain⟨O,K,z2⟩:=eG.cz3;go_wp2_with fail;refine arf (HD.out w8 lv O7 a0 rfl) ?_;rintro e w9 ⟨⟨v1,v2,rfl⟩,bb⟩;go_wp2;exact bb
