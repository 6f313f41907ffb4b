/- Conditions: as stated. -/
import Derived.Test.YtlhkojcmcmkmaaaGreatCP28c
set_option maxRecDepth 100000
set_option maxHeartbeats 8000000
namespace Go.Proofs.YtlhkojcmcmkmaaaGreat
open Go.Proofs.Tryz
open Go.RowKit
theorem ao4(A:Option Addr)(K n:Nat)(j:List cI)(w:World)(h:ai pS 2 w w.heap.size A j)(Q:∀e∈j,ai encI 1 w w.heap.size e.A e.l)(B:Eh n (j.map cI.v)):
  Calls prog 161 #[.slice A j.length K] w fun e w'=>e=.returned (.int .i64 0)/\Below w.heap.size w w':=by
 have Dt:j.length<=8:=by have:=B.len;simpa using this
 have E:0<j.length:=by have:=B.ne;simpa using this
 have L:=B.nn;have V:=atM Q;have I:Hid (∀k,(u:k<j.length)->j[k].l.length=n):=fun k u=>B.lens (j[k].v) (aue.2 ⟨_,atT u,rfl⟩);have X:Hid (∀k,(u:k<j.length)->0<=j[k].base/\j[k].base<=1000000000):=fun k u=>B.base (j[k].v) (aue.2 ⟨_,atT u,rfl⟩);have Y:Hid (∀k,(u:k<j.length)->∀x∈j[k].l,0<=x/\x<=1000000000):=fun k u=>B.earlier (j[k].v) (aue.2 ⟨_,atT u,rfl⟩);have Z:((j.length:Int)==0)=false:=by rw[auj];omega
 clear B Q;go_enter func161,ntmps161;go_wp2
 go_loopw [21] (fun i wr=>∃k:Nat,k<=j.length/\i=.int .i64 k/\Below w.heap.size w wr) (fun i _=>j.length-(intOf i).toNat)
 case atStart=>exact⟨0,by omega,rfl,atS _ _⟩
 case round=>
  obtain⟨k,u,rfl,r⟩:=hrel;have C:=r.size;by_cases p:k<j.length
  ·obtain⟨b,off,rfl,R,y⟩:=(h.below r).at_ p;have z:=y 0 _ rfl;have M:=y 1 _ rfl;simp only[atQ]at z;rw[I.out k p]at z;have S:b<wr.heap.size:=(by omega);clear y;go_wp2;go_roundw
   case rel=>exact⟨k+1,by omega,by go_num,r.alloc C _⟩
   case measure=>simp[intOf];omega
  ·obtain rfl:k=j.length:=by omega
   go_wp2
   go_loopw [32] (fun i N=>∃k:Nat,k<=j.length/\i=.int .i64 k/\Below w.heap.size w N) (fun i _=>j.length-(intOf i).toNat)
   case atStart=>exact⟨0,by omega,rfl,r⟩
   case round=>
    rename World=>w2
    clear r C u p;obtain⟨k,u,rfl,r⟩:=hrel;have C:=r.size;by_cases p:k<j.length
    ·obtain⟨b,off,rfl,R,y⟩:=(h.below r).at_ p;have z:=y 0 _ rfl;have M:=y 1 _ rfl;simp only[atQ]at z;rw[I.out k p]at z;have S:b<w2.heap.size:=(by omega);obtain⟨b',T,D,_,F⟩:=(h.below r).at_ E;injection D with D
     injection D with e1 e2
     subst e1 e2;have d0:=F 0 _ rfl;simp only[atQ,auu]at d0;rw[I.out 0 E]at d0;have NT:(0:Int)<(j.length:Int):=(by omega);clear y F;go_wp2;go_quiet(fail);go_wp2;go_roundw
     case rel=>exact⟨k+1,by omega,by go_num,below_drewN (r.alloc C _) _⟩
     case measure=>simp[intOf];omega
    ·obtain rfl:k=j.length:=by omega
     go_wp2
     go_loopw [48] (fun i Ra=>∃k:Nat,k<=j.length/\i=.int .i64 k/\Below w.heap.size w Ra) (fun i _=>j.length-(intOf i).toNat)
     case atStart=>exact⟨0,by omega,rfl,r⟩
     case round=>
      rename World=>w3
      clear r C u p;obtain⟨k,u,rfl,r⟩:=hrel;have C:=r.size;by_cases p:k<j.length
      ·obtain⟨b,off,rfl,R,y⟩:=(h.below r).at_ p;have z:=y 0 _ rfl;have M:=y 1 _ rfl;simp only[atQ]at z;have S:b<w3.heap.size:=(by omega);obtain⟨x0,x1⟩:=X.out k p;clear y;go_wp2_with fail;refine(ag6 _ _ x0 x1).mono ?_;rintro e w' ⟨rfl,rfl⟩;have O:=ah.new w3 137 #[.slice j[k].A j[k].l.length j[k].cap,.int .i64 j[k].base];have J:=r.alloc C (.cells #[.slice j[k].A j[k].l.length j[k].cap,.int .i64 j[k].base] 137);generalize w3.alloc (.cells #[.slice j[k].A j[k].l.length j[k].cap,.int .i64 j[k].base] 137)=w4 at O J|-;obtain⟨z0,z1⟩:=O.cz2;have ab:j[k].l.length<=52:=(by rw[I.out k p];exact L);have XK:=((V.out _ (atT p)).below J).more J.size;clear z M O;go_wp2
       go_loop [59] (fun i=>∃q:Nat,q<=j[k].l.length/\i=.int .i64 q) (fun i=>j[k].l.length-(intOf i).toNat)
       case atStart=>exact⟨0,by omega,rfl⟩
       case round=>
        obtain⟨q,hq,rfl⟩:=hrel;by_cases G:q<j[k].l.length
        ·obtain⟨b5,ad,P,aM,U⟩:=XK.at_ G;have d0:=U 0 _ rfl;simp only[atQ,auo]at d0;obtain⟨y0,y1⟩:=Y.out k p _ (atT G);rw[P];clear U;go_wp2_with fail;refine(ag6 _ _ y0 y1).mono ?_;rintro e w' ⟨rfl,rfl⟩;go_wp2;go_round
         case rel=>exact⟨q+1,by omega,by go_num⟩
         case measure=>simp[intOf];omega
        ·obtain rfl:q=j[k].l.length:=by omega
         go_wp2;go_roundw
         case rel=>exact⟨k+1,by omega,by go_num,J⟩
         case measure=>simp[intOf];omega
      ·obtain rfl:k=j.length:=by omega
       go_wp2;go_ret;exact⟨rfl,r⟩
theorem ao5{e:List cI}{k:Nat}(h:k<e.length):(nU (e.map cI.v)).getD k 0=e[k].base:=by simp[nU,atW h,cI.v]
theorem XL(e:List cI):(nU (e.map cI.v)).length=e.length:=by simp[nU]
theorem ao6(s:dx)(A:Option Addr)(aj n:Nat)(r:List cI)(w:World)(h:ai pS 2 w w.heap.size A r)(jh:∀e∈r,ai encI 1 w w.heap.size e.A e.l)(hs:oD s)(E:Eh n (r.map cI.v)):
  Calls prog 107 #[.agg #[.string s.code,.int .i64 s.aD,.int .i64 s.aV,.int .i64 s.floor,.int .i64 s.dO,.int .i64 s.unit,.int .i64 s.mode,.bool s.ep],.slice A r.length aj] w (B8 (qg s n (r.map cI.v)) (AH s n (r.map cI.v)) w):=by
 have Dt:r.length<=8:=by have:=E.len;simpa using this
 have al:0<r.length:=by have:=E.ne;simpa using this
 have bb:=E.nn;have HE:=atM E;have HS:=atM hs;have pw:=atM jh;have En:Hid (∀k,(B:k<r.length)->r[k].l.length=n):=fun k B=>E.lens (r[k].v) (aue.2 ⟨_,atT B,rfl⟩);have Pg:Hid (∀k,(B:k<r.length)->0<=r[k].base/\r[k].base<=1000000000):=fun k B=>E.base (r[k].v) (aue.2 ⟨_,atT B,rfl⟩);have ML:Hid (∀k,(B:k<r.length)->∀x∈r[k].l,0<=x/\x<=1000000000):=fun k B=>E.earlier (r[k].v) (aue.2 ⟨_,atT B,rfl⟩);have Fs:=atM (fun w' hb=>ao4 A aj n r w' (h.aa hb) (fun e he=>(jh e he).aa hb) E);have FX:Hid (∀e w',B8 (qg s n (r.map cI.v)) (AH s n (r.map cI.v)) w e w'->B8 (qg s n (r.map cI.v)) (AH s n (r.map cI.v)) w e w'):=fun _ _ h=>h;generalize am:B8 (qg s n (r.map cI.v)) (AH s n (r.map cI.v)) w=Qi at FX|-;have an:=atM am;clear E hs jh am FX;have aZ:=VR (n+1) ((n:Int)+1) (by omega) (by omega);have a0:=Oy r.length (by omega);go_enter func107,ntmps107;go_upto_region 1 with fail
 have hB:=ah.new w 123 #[.string s.code,.int .i64 s.aD,.int .i64 s.aV,.int .i64 s.floor,.int .i64 s.dO,.int .i64 s.unit,.int .i64 s.mode,.bool s.ep];have C:=bC w (.cells #[.string s.code,.int .i64 s.aD,.int .i64 s.aV,.int .i64 s.floor,.int .i64 s.dO,.int .i64 s.unit,.int .i64 s.mode,.bool s.ep] 123);generalize w.alloc (.cells #[.string s.code,.int .i64 s.aD,.int .i64 s.aV,.int .i64 s.floor,.int .i64 s.dO,.int .i64 s.unit,.int .i64 s.mode,.bool s.ep] 123)=W at hB C|-;obtain⟨O,K,z2,z3,z4,z5,z6,z7⟩:=hB.cz8;go_wp2_with fail;refine(ag7 s W HS.out).mono ?_;rintro e w1 ⟨rfl,P⟩;have ak:=hB.aa P;have aS:=aA C P;clear hB C P O K z2 z3 z4 z5 z6 z7;go_wp2_with fail;refine atV (Fs.out w1 aS) ?_;rintro e G ⟨rfl,I⟩;have aC:=ak.aa I;have bm:=aA aS I;have a1:=bm.size;have a2:=aC.lt;clear ak aS I Fs;obtain⟨b,off,oF,hb,hc⟩:=(h.below bm).at_ al;subst oF;have d0:=hc 0 _ rfl;simp only[atQ,auu]at d0;rw[En.out 0 al]at d0;have NT:(0:Int)<(r.length:Int):=by omega
 clear hc;go_upto_region 8 with fail
 have Q:(G.alloc (.cells (madeCells #[.int .i64 0] (n+1)) 3)).heap.size=G.heap.size+1:=by simp
 have jv:=(RowI.made G (n+1)).alloc (.cells (madeCells #[.int .i64 0] r.length) 3);have jW:=RowI.made (G.alloc (.cells (madeCells #[.int .i64 0] (n+1)) 3)) r.length;have bA:=(aC.alloc (.cells (madeCells #[.int .i64 0] (n+1)) 3)).alloc (.cells (madeCells #[.int .i64 0] r.length) 3);have cT:=eP (eP bm (.cells (madeCells #[.int .i64 0] (n+1)) 3)) (.cells (madeCells #[.int .i64 0] r.length) 3);rw[Q]at jW;generalize (G.alloc (.cells (madeCells #[.int .i64 0] (n+1)) 3)).alloc (.cells (madeCells #[.int .i64 0] r.length) 3)=w3 at jv jW bA cT|-;obtain⟨z,BS⟩:∃g,g=G.heap.size:=⟨_,rfl⟩
 obtain⟨D,R⟩:∃g,g=z+1:=⟨_,rfl⟩
 rw[<-BS,<-R]at jW;rw[<-BS]at jv;rw[<-BS,<-R];have n1:z≠D:=by omega
 have n2:w.heap.size≠z:=by omega
 have n3:w.heap.size≠D:=by omega
 have n4:w.heap.size<=z:=by omega
 have n5:w.heap.size<=D:=by omega
 have n6:b<z:=by omega
 rw[<-Ka (nU (r.map cI.v)) r.length]at jW;clear BS R Q d0 aC bm a1 a2 aZ a0;go_wp2
 go_loopw [35] (fun i wr=>∃k:Nat,k<=r.length/\i=.int .i64 k/\RowI wr z (qD n ((r.map cI.v).take k))/\RowI wr D (upto (nU (r.map cI.v)) r.length k)/\ah wr w.heap.size 123 #[.string s.code,.int .i64 s.aD,.int .i64 s.aV,.int .i64 s.floor,.int .i64 s.dO,.int .i64 s.unit,.int .i64 s.mode,.bool s.ep]/\Below w.heap.size w wr) (fun i _=>r.length-(intOf i).toNat)
 case atStart=>exact⟨0,by omega,rfl,jv,jW,bA,cT⟩
 case round=>
  clear jv jW bA cT;obtain⟨k,B,rfl,L,T,FY,C⟩:=hrel;have br:=C.size;obtain⟨S,M⟩:∃S,S=qD n ((r.map cI.v).take k):=⟨_,rfl⟩
  have mQ:Hid (S.length=n+1):=by rw[M];exact(HE.out.take k).1
  have Ih:Hid (∀i,0<=S.getD i 0):=fun i=>by rw[M];exact IY (HE.out.take k).2 i
  have KM:Hid (∀i,i<n+1->S.getD i 0<=8000000000):=fun i hi=>by rw[M];have:=HE.out.ads k (by simpa using B) i hi;omega
  by_cases y:k<r.length
  ·obtain⟨b',a9,dE,gu,hc⟩:=(h.below C).at_ y;injection dE with dE
   injection dE with dE cX
   subst dE cX;have c0:=hc 0 _ rfl;have c1:=hc 1 _ rfl;simp only[atQ]at c0;have eJ:b<wr.heap.size:=(by omega);have U:=En.out k y;have fL:(k:Int)<(r.length:Int):=(by omega);have ao:=atM (Zw n (r.map cI.v) k (by simpa using y));rw[ady y,<-M]at ao;rw[<-M]at L;have KS:=atM (ao5 y);have ap:=atM U;rw[U]at c0;clear U;obtain⟨p0,p1⟩:=Pg.out k y;have XK:=(pw.out _ (atT y)).below C;clear hc M;go_upto_region 12 with fail
   have J:=ah.new wr 137 #[.slice r[k].A n r[k].cap,.int .i64 r[k].base];have Aj:=bC wr (.cells #[.slice r[k].A n r[k].cap,.int .i64 r[k].base] 137);have oZ:=L.alloc (.cells #[.slice r[k].A n r[k].cap,.int .i64 r[k].base] 137);have V:=T.alloc (.cells #[.slice r[k].A n r[k].cap,.int .i64 r[k].base] 137);have bk:=FY.alloc (.cells #[.slice r[k].A n r[k].cap,.int .i64 r[k].base] 137);have eo:=eP C (.cells #[.slice r[k].A n r[k].cap,.int .i64 r[k].base] 137);have Z:=XK.below (Aj.mono br);have m1:=L.lt;have m2:=T.lt;have m3:=FY.lt;generalize wr.alloc (.cells #[.slice r[k].A n r[k].cap,.int .i64 r[k].base] 137)=w4 at J oZ V bk eo Z|-;obtain⟨gm,NY⟩:∃g,g=wr.heap.size:=⟨_,rfl⟩
   rw[<-NY]at J;rw[<-NY];have n7:gm≠z:=(by omega);have n8:gm≠D:=(by omega);have n9:w.heap.size<=w4.heap.size:=eo.size;have u:=adt (x:=r[k].l) oZ mQ.out;clear L T FY C br XK Aj NY m1 m2 m3 oZ c0 c1 eJ;go_wp2
   go_loopw [43] (fun i wq=>∃j:Nat,j<=n/\i=.int .i64 j/\wq.rowIs z 3 (n+1) (Dg S r[k].l j)/\w4.grownBy wq (some z)) (fun i _=>n-(intOf i).toNat)
   case atStart=>exact⟨0,by omega,rfl,u,dX _ _⟩
   case round=>
    rename World=>wq
    clear u;obtain⟨j,hj,rfl,u,N⟩:=hrel;have ab:=Z.grown N n9 (fun g e=>by injection e;omega);have q0:=u.cell (i:=j) (by omega);have f0:=u.frozen j;rw[Dg,atO (by omega),Int.add_zero]at q0;have s0:=Ih.out j;have s1:=KM.out j (by omega);have lq:=u.lt;by_cases Sh:j<n
    ·have BK:j<r[k].l.length:=(by rw[ap.out];exact Sh);obtain⟨b2,Ep,gv,I,av⟩:=ab.at_ BK;have d0:=av 0 _ rfl;simp only[atQ,auo]at d0;have Si:=ML.out k y _ (atT BK);have D8:r[k].l[j]=r[k].l.getD j 0:=(by rw[atZ,atW BK];rfl);rw[D8]at d0 Si;obtain⟨x0,x1⟩:=Si;have bc:b2≠z:=(by omega);have jM:(j:Int)<(n:Int):=(by omega);have be:(j:Int)<(n:Int)+1:=(by omega);have KN:=atM (adu u);have a3:=atM (bg (p:=⟨z,j,none⟩) N (.inl rfl) (.int .i64 (S.getD j 0+r[k].l.getD j 0)));rw[gv];clear av u N D8 ab;generalize S.getD j 0=sj at*;generalize r[k].l.getD j 0=xj at*;go_wp2;go_roundw
     case rel=>exact⟨j+1,by omega,by go_num,KN.out,a3.out⟩
     case measure=>simp[intOf];omega
    ·obtain rfl:n=j:=by omega
     have D2:=V.grown N (fun e=>n1 (by injection e with e;exact e.symm));have az:=bk.grown N (fun e=>n2 (by injection e));have ow:=J.grown N (fun e=>n7 (by injection e));have jZ:=kH eo N (fun g e=>by injection e;omega);have lm:=ow.lt;obtain⟨O,K⟩:=ow.cz2;clear N V bk J eo Z ab;have bi:(((n+1:Nat):Int)-1)=(n:Int):=(by omega);have o5:(n:Int)<(n:Int)+1:=(by omega);obtain⟨sn,ad⟩:∃x,x=S.getD n 0:=⟨_,rfl⟩
     rw[<-ad]at q0 s0 s1;have BG:=atM ad;clear ad;go_upto_region 16 with fail
     refine OH (aE:=?C9) [0,1,2,3,4,5,6,7,8,9] 10 (by kernel_rfl) (by kernel_rfl) rfl (by kernel_rfl) (by rfl) (by kernel_rfl) (by kernel_rfl) rfl rfl rfl ?H1 ?M1
     case H1=>
      intro F hF ba;simp only[M3.cL,atY,at0,at1];have e0:=aP.dK (F:=F) (a:=⟨z,n,none⟩) (by exact lq) q0;have Q:=aP.dK (F:=F) (a:=⟨gm,1,none⟩) (by exact lm) K
      repeat(first|go_big_quiet_step(first|fail)|quiet_step(first|fail))
      refine wpQuiet_nil ?_;rfl
     case M1=>
      intro w5 aM;have Uh:=World.rowIs.of_block u (aM.block z lq);have aJ:=D2.aa aM;have eR:=az.aa aM;have aQ:=ow.aa aM;have qo:=aA jZ aM;have y0:=Uh.cell (i:=n) (by omega);rw[Dg,atO (by omega),Int.add_zero,<-BG.out]at y0;have fy:=Uh.frozen n;have ly:=Uh.lt;refine⟨w5.setCell ⟨z,n,none⟩ (.int .i64 (sn+r[k].base)),by go_simp,?_⟩;have Ns:=adw (b:=r[k].base) Uh mQ.out ap.out;rw[<-ao.out,<-BG.out]at Ns;have Qj:=aJ.far (p:=⟨z,n,none⟩) (fun e=>n1 e.symm) (.int .i64 (sn+r[k].base));have iM:=eR.far (p:=⟨z,n,none⟩) n2 (.int .i64 (sn+r[k].base));have XM:=aQ.far (p:=⟨z,n,none⟩) n7 (.int .i64 (sn+r[k].base));have Er:=iL qo n4 n (.int .i64 (sn+r[k].base));generalize w5.setCell ⟨z,n,none⟩ (.int .i64 (sn+r[k].base))=w6 at Ns Qj iM XM Er|-;clear u Uh aJ eR aQ qo y0 fy ly D2 az ow jZ q0 f0 lq lm O K aM;have u0:=Qj.cell (i:=k) (by rw[BR _ _ _ (XL r) (by omega)];exact y);have fu:=Qj.frozen k;have lu:=Qj.lt;generalize (upto (nU (r.map cI.v)) r.length k).getD k 0=ub at u0;obtain⟨O,K⟩:=XM.cz2;have a4:=atM Ns;have a5:=atM (Qj.XN (XL r) y KS.out.symm);have a6:=atM iM;have a7:=atM Er;clear Ns Qj iM XM Er;go_wp2;go_roundw
      case rel=>exact⟨k+1,by omega,by go_num,a4.out.far (p:=⟨D,k,none⟩) n1 _,a5.out,a6.out.far (p:=⟨D,k,none⟩) n3 _,iL a7.out n5 _ _⟩
      case measure=>simp[intOf];omega
  ·obtain rfl:k=r.length:=by omega
   have af:qD n ((r.map cI.v).take r.length)=qD n (r.map cI.v):=(by rw[aut (by simp)]);rw[M,af]at mQ Ih KM;rw[af]at L;rw[Kb _ _ (XL r)]at T;clear M af B y;obtain⟨X,hX⟩:∃X,X=qD n (r.map cI.v):=⟨_,rfl⟩
   obtain⟨Y,hY⟩:∃Y,Y=nU (r.map cI.v):=⟨_,rfl⟩
   have aR:Hid (lF s X=iE s n (r.map cI.v)):=(by rw[hX];rfl);have XO:X.length=n+1:=(by rw[hX];exact mQ.out);have aT:Y.length=r.length:=(by rw[hY];exact XL r);have T7:∀x∈X,0<=x/\x<=8000000000:=fun x hx=>by obtain⟨i,hi,rfl⟩:=aun.1 hx;have h1:=Ih.out i;have h2:=KM.out i (by omega);rw[<-hX,atZ,atW hi]at h1 h2;exact⟨h1,h2⟩
   have aU:∀x∈Y,0<=x/\x<=1000000000:=fun x hx=>by rw[hY]at hx;exact aap HE.out x hx
   rw[<-hX]at L;rw[<-hY]at T;have Ui:=aao HS.out HE.out;rw[<-aR.out]at Ui;have G8:=aoU s (some ⟨z,0,none⟩) (n+1) X wr L.slice (by intro e;rw[e]at XO;simp at XO) (by omega) (by omega) T7 HS.out;rw[XO]at G8;have aX:=atM G8;have HD:Hid (∀(w':World) (v:gM),Below w.heap.size w w'->RowI w' D Y->v=lF s X->Calls prog 163 #[.agg #[.int .i64 v.base,.int .i64 v.aD,.int .i64 v.aV],.slice (some ⟨D,0,none⟩) r.length r.length] w' fun e G=>(∃v1 v2,e=.returned (.tuple #[v1,v2]))/\Qi e G):=fun w' v hb hr hv=>by
    have hd:=aoZ v (some ⟨D,0,none⟩) r.length Y w' hr.slice aU (by omega) (by omega) (by rw[hv];exact Ui.1) (by rw[hv];exact Ui.2.1) (by rw[hv];exact Ui.2.2.1);rw[aT]at hd;refine hd.mono fun e G ⟨A2,c2,q1,q2,q3,q4,q5⟩=>⟨⟨_,_,q1⟩,?_⟩
    rw[<-an.out];have a8:v=iE s n (r.map cI.v):=(by rw[hv,aR.out]);subst a8;have Q:qg s n (r.map cI.v)=if gI (iE s n (r.map cI.v))then[]else nT (iE s n (r.map cI.v)) Y:=by rw[hY];rfl
    exact⟨A2,c2,by rw[Q];exact q1,by rw[Q];exact q2,by rw[Q];exact q3,fun a ha=>at7 hb.size (q4 a ha),aA hb q5⟩
   clear G8 hX hY XO aT T7 aU Ui pw En Pg ML mQ Ih KM h an HE;generalize lF s X=lv at*;obtain⟨O,K,z2,z3,z4,z5,z6,z7⟩:=FY.cz8;go_wp2_with fail;refine atV aX.out ?_;rintro e w7 ⟨rfl,bB⟩;have aY:=(T.aa bB).alloc (.cells #[.int .i64 lv.base,.int .i64 lv.aD,.int .i64 lv.aV] 142);have P8:=eP (aA C bB) (.cells #[.int .i64 lv.base,.int .i64 lv.aD,.int .i64 lv.aV] 142);have eI:=ah.new w7 142 #[.int .i64 lv.base,.int .i64 lv.aD,.int .i64 lv.aV];clear L T FY C bB O K z2 z3 z4 z5 z6 z7 aX;go_upto_region 20 with fail
   generalize w7.alloc (.cells #[.int .i64 lv.base,.int .i64 lv.aD,.int .i64 lv.aV] 142)=w8 at aY P8 eI|-;obtain⟨O,K,z2⟩:=eI.cz3;go_wp2_with fail;refine atV (HD.out w8 lv P8 aY rfl) ?_;rintro e w9 ⟨⟨v1,v2,rfl⟩,WO⟩;go_wp2;exact WO
