/- Conditions: as stated. -/
import Derived.Test.YtlhkojcmcmkmaaaGreatCStab
import Derived.Test.YtlhkojcmcmkmaaaGreatCCmp0
import Derived.Test.YtlhkojcmcmkmaaaGreatCP28
set_option maxRecDepth 100000
set_option maxHeartbeats 8000000
namespace Go.Proofs.YtlhkojcmcmkmaaaGreat
open Go.Proofs.Tryz
open Go.RowKit
def Ud(v:gM)(e:List Int)(c i:Nat):Int:=(en (if c=0 then v.base else if c=1 then v.aD else v.aV) e).getD i 0
def mj(v:gM)(e:List Int)(f k j:Nat):Value:=.int .i64 (if j%3<f\/(j%3=f/\j/3<k)then Ud v e (j%3) (j/3)else 0)
theorem aoW(v:gM)(j:List Int)(n:Nat){w:World}{g:Nat}(h:ah w g 142 ((List.replicate n jN).flatMap dY).toArray):w.rowIs g 142 (n*3) (mj v j 0 0):=by
 have e:(List.replicate n jN).flatMap dY=List.replicate (n*3) (Value.int .i64 0):=by
  clear h
  induction n with
  |zero=>rfl
  |succ n l=>rw[auV,auI,l,show(n+1)*3=n*3+1+1+1 by omega,auV,auV,auV];rfl
 refine⟨_,h,by rw[e];simp,fun i hi=>?_⟩;rw[e];simp[mj,hi]
theorem abW{v:gM}{j:List Int}{n f k:Nat}{w:World}{g:Nat}(h:w.rowIs g 142 (n*3) (mj v j f k))(y:f<3){x:Int}(p:x=Ud v j f k):(w.setCell ⟨g,k*3+f,none⟩ (.int .i64 x)).rowIs g 142 (n*3) (mj v j f (k+1)):=by
 subst p;refine(h.set (k*3+f) _).congr fun i _=>?_;by_cases e:i=k*3+f
 ·subst e;rw[atP rfl];have r:(k*3+f)%3=f:=by omega
  have u:(k*3+f)/3=k:=by omega
  simp[mj,r,u]
 ·rw[atO e];unfold mj;by_cases l:i%3<f\/(i%3=f/\i/3<k)
  ·rw[atP l,atP (by omega)]
  ·rw[atO l,atO (by omega)]
theorem abX{v:gM}{e:List Int}{n f:Nat}{w:World}{g:Nat}(h:w.rowIs g 142 (n*3) (mj v e f n)):w.rowIs g 142 (n*3) (mj v e (f+1) 0):=by
 refine h.congr fun i hi=>?_;unfold mj;by_cases j:i%3<f\/(i%3=f/\i/3<n)
 ·rw[atP j,atP (by omega)]
 ·rw[atO j,atO (by omega)]
theorem aoX{v:gM}{e:List Int}{w:World}{g:Nat}(h:w.rowIs g 142 (e.length*3) (mj v e 3 0))(r:ax e≠0):ai dY 3 w w.heap.size (some ⟨g,0,none⟩) (nT v e):=fun _=>by
 refine⟨g,0,rfl,h.lt,fun i x hi j u hu=>?_⟩;have y:i<e.length:=by
  have:=(aui.1 hi).1
  rwa [Jh]at this
 rw[nT,atO r,au0,List.getElem?_range y]at hi;injection hi with hi
 subst hi;rw[atX]
 match j,hu with
 |0,hu=>
  have l:=h.cell (i:=i*3+0) (by omega);rw[l];simp[dY]at hu;subst hu;have n:(i*3+0)%3=0:=by omega
  have p:(i*3+0)/3=i:=by omega
  simp only[mj,n,p];rfl
 |1,hu=>
  have l:=h.cell (i:=i*3+1) (by omega);rw[l];simp[dY]at hu;subst hu;have n:(i*3+1)%3=1:=by omega
  have p:(i*3+1)/3=i:=by omega
  simp only[mj,n,p];rfl
 |2,hu=>
  have l:=h.cell (i:=i*3+2) (by omega);rw[l];simp[dY]at hu;subst hu;have n:(i*3+2)%3=2:=by omega
  have p:(i*3+2)/3=i:=by omega
  simp only[mj,n,p];rfl
 |q+3,hu=>simp[dY]at hu
theorem aoY{v:gM}{l:List Int}{w:World}{g:Nat}(h:w.rowIs g 142 (l.length*3) (mj v l 0 0))(p:ax l=0)(r:0<l.length):ai dY 3 (((w.setCell ⟨g,0,none⟩ (.int .i64 v.base)).setCell ⟨g,1,none⟩ (.int .i64 v.aD)).setCell ⟨g,2,none⟩ (.int .i64 v.aV)) (((w.setCell ⟨g,0,none⟩ (.int .i64 v.base)).setCell ⟨g,1,none⟩ (.int .i64 v.aD)).setCell ⟨g,2,none⟩ (.int .i64 v.aV)).heap.size (some ⟨g,0,none⟩) (nT v l):=fun _=>by
 have n:=((h.set 0 (.int .i64 v.base)).set 1 (.int .i64 v.aD)).set 2 (.int .i64 v.aV)
 refine⟨g,0,rfl,n.lt,fun i x hi j u hu=>?_⟩;have y:i<l.length:=by
  have:=(aui.1 hi).1
  rwa [Jh]at this
 rw[nT,atP p,List.getElem?_set]at hi;rw[atX];have z:j<3:=by have:=(aui.1 hu).1;rwa [KI]at this
 rw[n.cell (i:=i*3+j) (by omega)];by_cases e:i=0
 ·subst e;rw[atP rfl,atP (by simpa using r)]at hi;injection hi with hi
  subst hi
  match j,hu with
  |0,hu=>simpa[dY]using hu
  |1,hu=>simpa[dY]using hu
  |2,hu=>simpa[dY]using hu
  |q+3,hu=>simp[dY]at hu
 ·rw[atO (fun h=>e h.symm),avh,atP (by simpa using y)]at hi;injection hi with hi
  subst hi;rw[atO (by omega),atO (by omega),atO (by omega)]
  match j,hu with
  |0,hu=>simpa[dY,jN,mj]using hu
  |1,hu=>simpa[dY,jN,mj]using hu
  |2,hu=>simpa[dY,jN,mj]using hu
  |q+3,hu=>simp[dY]at hu
theorem aoZ(v:gM)(A:Option Addr)(Z:Nat)(j:List Int)(w:World)(h:ai encI 1 w w.heap.size A j)(hw:∀x∈j,0<=x/\x<=1000000000)(hl:j.length<=8)(oV:0<j.length)(v0:0<=v.base)(v1:0<=v.aD)(v2:0<=v.aV):
  Calls prog 163 #[.agg #[.int .i64 v.base,.int .i64 v.aD,.int .i64 v.aV],.slice A j.length Z] w (B8 (if gI v then[]else nT v j) (if gI v then 4 else 0) w):=by
 obtain⟨bc,a0⟩:=nv (l:=j) (B:=1000000000) hw;have be:ax j<=8000000000:=by omega
 have HW:=atM hw;have Q:Hid (∀m er e w',m=(if gI v then[]else nT v j)->er=(if gI v then 4 else 0)->B8 m er w e w'->B8 (if gI v then[]else nT v j) (if gI v then 4 else 0) w e w'):=fun m er e w' h1 h2 R=>by subst h1 h2;exact R
 have T:Hid (gI v=(decide (1000000000<v.base)||decide (1000000000<v.aD)||decide (1000000000<v.aV))):=rfl;generalize B8 (if gI v then[]else nT v j) (if gI v then 4 else 0) w=Qi at Q|-;have Cw:=adp j.length (by omega);clear hw a0;obtain⟨n,hn⟩:∃n,j.length=n:=⟨_,rfl⟩
 have J:=atM hn;rw[hn]at Cw hl oV|-;clear hn;go_enter func163,ntmps163;go_upto_region 1 with fail
 have hL:=ah.new w 142 #[.int .i64 v.base,.int .i64 v.aD,.int .i64 v.aV];have ae:=bC w (.cells #[.int .i64 v.base,.int .i64 v.aD,.int .i64 v.aV] 142);generalize w.alloc (.cells #[.int .i64 v.base,.int .i64 v.aD,.int .i64 v.aV] 142)=W at hL ae|-;have hS:=h.aa ae;go_wp2
 go_loop [6,20] (fun s' i=>∃k:Nat,k<=n/\i=.int .i64 k/\s'=.int .i64 (ax (j.take k))) (fun _ i=>n-(intOf i).toNat)
 case atStart=>exact⟨0,by omega,rfl,rfl⟩
 case round=>
  obtain⟨k,hk,rfl,rfl⟩:=hrel;have F:=nv (l:=j.take k) (B:=1000000000) (fun x hx=>HW.out x (auh hx));simp only[auH]at F;obtain⟨b0,b1⟩:=F;have b2:ax (j.take k)<=20000000000:=by have:=J.out;omega
  clear b1;by_cases r:k<n
  ·have JT:k<j.length:=(by rw[J.out];exact r);obtain⟨b,off,rfl,hb,hc⟩:=hS.at_ JT;have c0:=hc 0 _ rfl;simp only[atQ,auo]at c0;have HT:=atM (Q3 j k JT);obtain⟨x0,x1⟩:=HW.out _ (atT JT);have fL:(k:Int)<(n:Int):=(by omega);clear hc hL;go_wp2;go_round
   case rel=>exact⟨k+1,by omega,by go_num,by rw[HT.out]⟩
   case measure=>simp[intOf];omega
  ·obtain rfl:k=n:=by omega
   rw[aut (by rw[J.out];exact atN _)]at b0 b2|-;clear hk r;go_wp2_with fail;refine(FW w.heap.size 0 _).mono ?_;rintro e w1 ⟨rfl,S⟩;have nu:=hL.aa S;have aS:=aA ae S;have al:=hS.aa S;clear hL ae hS S;obtain⟨N,O,P⟩:=nu.cz3;have bi:=fun w':World=>XA ⟨w.heap.size,0,none⟩ ⟨w.heap.size,1,none⟩ ⟨w.heap.size,2,none⟩ w';have ND:=fun w':World=>XB ⟨w.heap.size,0,none⟩ ⟨w.heap.size,1,none⟩ ⟨w.heap.size,2,none⟩ w';have Vp:=fun w':World=>XC ⟨w.heap.size,0,none⟩ ⟨w.heap.size,1,none⟩ ⟨w.heap.size,2,none⟩ w';by_cases o0:1000000000<v.base
   ·have G:gI v=true:=(by rw[T.out];simp[o0]);have U:Hid (∀e w',B8 [] 4 w e w'->Qi e w'):=fun e w' R=>Q.out _ _ e w' (by rw[G];rfl) (by rw[G];rfl) R;clear G Q T;go_wp2;refine wp_loop_rounds 4 ?_;rw[rounds_succ];go_wp2;exact U.out _ _ ⟨none,0,rfl,ai.cC,atN _,(fun a C=>by cases C),aS⟩
   by_cases o1:1000000000<v.aD
   ·have G:gI v=true:=(by rw[T.out];simp[o1]);have U:Hid (∀e w',B8 [] 4 w e w'->Qi e w'):=fun e w' R=>Q.out _ _ e w' (by rw[G];rfl) (by rw[G];rfl) R;clear G Q T;go_wp2;refine wp_loop_rounds 4 ?_;rw[rounds_succ];go_wp2;rw[rounds_succ];go_wp2;exact U.out _ _ ⟨none,0,rfl,ai.cC,atN _,(fun a C=>by cases C),aS⟩
   by_cases o2:1000000000<v.aV
   ·have G:gI v=true:=(by rw[T.out];simp[o2]);have U:Hid (∀e w',B8 [] 4 w e w'->Qi e w'):=fun e w' R=>Q.out _ _ e w' (by rw[G];rfl) (by rw[G];rfl) R;clear G Q T;go_wp2;refine wp_loop_rounds 4 ?_;rw[rounds_succ];go_wp2;rw[rounds_succ];go_wp2;rw[rounds_succ];go_wp2;exact U.out _ _ ⟨none,0,rfl,ai.cC,atN _,(fun a C=>by cases C),aS⟩
   ·have G:gI v=false:=(by rw[T.out];simp[o0,o1,o2]);have U:Hid (∀e w',B8 (nT v j) 0 w e w'->Qi e w'):=fun e w' R=>Q.out _ _ e w' (by rw[G];rfl) (by rw[G];rfl) R;have u0:v.base<=1000000000:=(by omega);have u1:v.aD<=1000000000:=(by omega);have u2:v.aV<=1000000000:=(by omega);clear G Q T o0 o1 o2;go_wp2;refine wp_loop_rounds 4 ?_;rw[rounds_succ];go_wp2;rw[rounds_succ];go_wp2;rw[rounds_succ];go_wp2;rw[rounds_succ];go_upto_region 14 with fail
    have I:=aoW v j k (ah.new w1 142 ((List.replicate k jN).flatMap dY).toArray);have Aj:=bC w1 (.cells ((List.replicate k jN).flatMap dY).toArray 142);have K:=nu.aa Aj;have bm:=aA aS Aj;have cu:=al.aa Aj;have XE:=aS.size;have bk:=nu.lt;generalize w1.alloc (.cells ((List.replicate k jN).flatMap dY).toArray 142)=w2 at I Aj K bm cu|-;obtain⟨p,NY⟩:∃g,g=w1.heap.size:=⟨_,rfl⟩
    rw[<-NY]at I;rw[<-NY];have oH:w.heap.size<=p:=(by omega);have ab:w.heap.size≠p:=(by omega);clear nu aS al Aj XE NY N O P Cw;by_cases hz:ax j=0
    ·have a1:(ax j==0)=true:=(by simp[hz]);have hZ:=aoY (v:=v) (by rw[J.out];exact I) hz (by rw[J.out];exact oV);have HZ:=atM hZ;have a2:=atM (iL (iL (iL bm oH 0 (.int .i64 v.base)) oH 1 (.int .i64 v.aD)) oH 2 (.int .i64 v.aV));have y0:=I.cell (i:=0) (by omega);have y1:=I.cell (i:=1) (by omega);have y2:=I.cell (i:=2) (by omega);have f0:=I.frozen 0;have f1:=I.frozen 1;have f2:=I.frozen 2;have lm:=I.lt;generalize mj v j 0 0 0=t0 at y0;generalize mj v j 0 0 1=t1 at y1;generalize mj v j 0 0 2=t2 at y2;have fK:(0:Int)<(k:Int):=(by omega);obtain⟨N,O,P⟩:=K.cz3;clear hZ I K bm cu;go_wp2;exact U.out _ _ ⟨some ⟨p,0,none⟩,k,by rw[Jh,J.out];rfl,HZ.out,by rw[Jh,J.out];exact atN _,(fun a C=>by injection C with C;subst C;exact oH),a2.out⟩
    ·have a1:(ax j==0)=false:=(by rw[auj];exact hz);have am:0<ax j:=(by omega);have bl:=atM hz;have an:j≠[]:=fun e=>by have h1:=J.out;rw[e]at h1;simp at h1;omega
     obtain⟨b,off,oF,eJ,_⟩:=h an;have LU:∀w':World,w2.grownBy w' (some p)->ai encI 1 w' w'.heap.size A j:=fun w' hg=>cu.pQ hg (fun a C=>by rw[oF]at C;injection C with C;subst C;show b≠p;omega);have ao:∀(x:Int) (w':World),w2.grownBy w' (some p)->0<=x->x<=1000000000->Calls prog 204 #[.int .i64 x,.slice A k Z] w' fun e ap=>∃g,e=.returned (.tuple #[.slice (some ⟨g,0,none⟩) k k,.int .i64 0])/\w'.heap.size<=g/\RowI ap g (en x j)/\Below w'.heap.size w' ap:=fun x w' hg h0 h1=>by
      have:=ahd x A Z j w' (LU w' hg) h0 h1 HW.out am (by rw[J.out];omega)
      rwa [J.out]at this
     have ad:=atM ao;have a3:=atM bm;have a4:Hid (∀(w':World),w'.rowIs p 142 (k*3) (mj v j 3 0)->ai dY 3 w' w'.heap.size (some ⟨p,0,none⟩) (nT v j)):=fun w' hm=>aoX (by rw[J.out];exact hm) hz;have Kj:Hid ((nT v j).length=k):=(by rw[Hid,Jh,J.out]);have BZ:Hid (∀x,(en x j).length=k):=fun x=>by rw[Pf,J.out]
     clear ao LU oF eJ an cu hz am bm h HW;obtain⟨N,O,P⟩:=K.cz3;go_wp2_with fail;refine(FW w.heap.size 0 _).mono ?_;rintro e w3 ⟨rfl,F⟩;have PN:=World.rowIs.of_block I (F.block p I.lt);have af:w2.grownBy w3 (some p):=KL F _;have Ue:=K.aa F;clear I K F N O P;go_wp2;refine wp_loop_rounds 4 ?_;rw[rounds_succ];obtain⟨N,O,P⟩:=Ue.cz3;go_wp2_with fail;refine atV (ad.out v.base _ af v0 u0) ?_;rintro e x0 ⟨a5,rfl,a6,bS,XF⟩;have av:a5≠p:=(by have:=PN.lt;omega);have FI:=World.rowIs.of_block PN (XF.block p PN.lt);have az:=dD af XF;have aC:=Ue.aa XF;clear PN af Ue XF a6 N O P;go_wp2
     go_loopw [64] (fun i wr=>∃q:Nat,q<=k/\i=.int .i64 q/\wr.rowIs p 142 (k*3) (mj v j 0 q)/\x0.grownBy wr (some p)) (fun i _=>k-(intOf i).toNat)
     case atStart=>exact⟨0,by omega,rfl,FI,dX _ _⟩
     case round=>
      rename World=>bo
      clear FI;obtain⟨q,hq,rfl,D,z⟩:=hrel;have L:=bS.grown z (fun e=>av (by injection e));have M:=aC.grown z (fun e=>ab (by injection e));by_cases r:q<k
      ·have zq:=L.cell (i:=q) (by rw[BZ.out];exact r);have V:(en v.base j).getD q 0=Ud v j 0 q:=rfl;rw[V]at zq;have XG:(q:Int)<(k:Int):=(by omega);clear L M V;go_wp2_with fail;refine(FW p (q*3) _).mono ?_;rintro e y ⟨rfl,u⟩;have E:=World.rowIs.of_block D (u.block p D.lt);have X:=dD z u;have Y:=E.cell (i:=q*3+0) (by omega);have fm:=E.frozen (q*3+0);have lm:=E.lt
       try simp only[atQ]at Y fm
       have aE:=fun w':World=>XA ⟨p,q*3,none⟩ ⟨p,q*3+1,none⟩ ⟨p,q*3+2,none⟩ w';generalize mj v j 0 q _=t at Y;have HM:=atM E;have HG:=atM X;clear E X D z u;go_wp2;go_roundw
       case rel=>exact⟨q+1,by omega,by go_num,abW HM.out (by omega) rfl,bg HG.out (.inl rfl) _⟩
       case measure=>simp[intOf];omega
      ·obtain rfl:k=q:=by omega
       have Nj:=abX D;have aj:=bL az z;have Uf:=M;clear D z L M bS aC az av r hq;go_wp2;rw[rounds_succ];obtain⟨N,O,P⟩:=Uf.cz3;go_wp2_with fail;refine atV (ad.out v.aD _ aj v1 u1) ?_;rintro e x1 ⟨a7,rfl,a8,XH,XI⟩;have aJ:a7≠p:=(by have:=Nj.lt;omega);have P9:=World.rowIs.of_block Nj (XI.block p Nj.lt);have aM:=dD aj XI;have aQ:=Uf.aa XI;clear Nj aj Uf XI a8 N O P;go_wp2
       go_loopw [64] (fun i wr=>∃q:Nat,q<=k/\i=.int .i64 q/\wr.rowIs p 142 (k*3) (mj v j 1 q)/\x1.grownBy wr (some p)) (fun i _=>k-(intOf i).toNat)
       case atStart=>exact⟨0,by omega,rfl,P9,dX _ _⟩
       case round=>
        rename World=>bp
        clear P9;obtain⟨q,hq,rfl,D,z⟩:=hrel;have L:=XH.grown z (fun e=>aJ (by injection e));have M:=aQ.grown z (fun e=>ab (by injection e));by_cases r:q<k
        ·have zq:=L.cell (i:=q) (by rw[BZ.out];exact r);have V:(en v.aD j).getD q 0=Ud v j 1 q:=rfl;rw[V]at zq;have XG:(q:Int)<(k:Int):=(by omega);clear L M V;go_wp2_with fail;refine(FW p (q*3) _).mono ?_;rintro e y ⟨rfl,u⟩;have E:=World.rowIs.of_block D (u.block p D.lt);have X:=dD z u;have Y:=E.cell (i:=q*3+1) (by omega);have fm:=E.frozen (q*3+1);have lm:=E.lt
         try simp only[atQ]at Y fm
         have aE:=fun w':World=>XB ⟨p,q*3,none⟩ ⟨p,q*3+1,none⟩ ⟨p,q*3+2,none⟩ w';generalize mj v j 1 q _=t at Y;have HM:=atM E;have HG:=atM X;clear E X D z u;go_wp2;go_roundw
         case rel=>exact⟨q+1,by omega,by go_num,abW HM.out (by omega) rfl,bg HG.out (.inl rfl) _⟩
         case measure=>simp[intOf];omega
        ·obtain rfl:k=q:=by omega
         have PM:=abX D;have ak:=bL aM z;have Ug:=M;clear D z L M XH aQ aM aJ r hq;go_wp2;rw[rounds_succ];obtain⟨N,O,P⟩:=Ug.cz3;go_wp2_with fail;refine atV (ad.out v.aV _ ak v2 u2) ?_;rintro e x2 ⟨a9,rfl,ba,aR,XJ⟩;have aT:a9≠p:=(by have:=PM.lt;omega);have GQ:=World.rowIs.of_block PM (XJ.block p PM.lt);have aU:=dD ak XJ;have aX:=Ug.aa XJ;clear PM ak Ug XJ ba N O P;go_wp2
         go_loopw [64] (fun i wr=>∃q:Nat,q<=k/\i=.int .i64 q/\wr.rowIs p 142 (k*3) (mj v j 2 q)/\x2.grownBy wr (some p)) (fun i _=>k-(intOf i).toNat)
         case atStart=>exact⟨0,by omega,rfl,GQ,dX _ _⟩
         case round=>
          rename World=>bq
          clear GQ;obtain⟨q,hq,rfl,D,z⟩:=hrel;have L:=aR.grown z (fun e=>aT (by injection e));have M:=aX.grown z (fun e=>ab (by injection e));by_cases r:q<k
          ·have zq:=L.cell (i:=q) (by rw[BZ.out];exact r);have V:(en v.aV j).getD q 0=Ud v j 2 q:=rfl;rw[V]at zq;have XG:(q:Int)<(k:Int):=(by omega);clear L M V;go_wp2_with fail;refine(FW p (q*3) _).mono ?_;rintro e y ⟨rfl,u⟩;have E:=World.rowIs.of_block D (u.block p D.lt);have X:=dD z u;have Y:=E.cell (i:=q*3+2) (by omega);have fm:=E.frozen (q*3+2);have lm:=E.lt
           try simp only[atQ]at Y fm
           have aE:=fun w':World=>XC ⟨p,q*3,none⟩ ⟨p,q*3+1,none⟩ ⟨p,q*3+2,none⟩ w';generalize mj v j 2 q _=t at Y;have HM:=atM E;have HG:=atM X;clear E X D z u;go_wp2;go_roundw
           case rel=>exact⟨q+1,by omega,by go_num,abW HM.out (by omega) rfl,bg HG.out (.inl rfl) _⟩
           case measure=>simp[intOf];omega
          ·obtain rfl:k=q:=by omega
           have aY:=abX D;have aZ:=bL aU z;have bb:=M;clear D z L M aR aX aU aT r hq;go_wp2;rw[rounds_succ];have jm:=atM (a4.out _ aY);have Pr:=atM (kH a3.out aZ (fun q e=>by injection e;omega));clear aY aZ bb;go_wp2;exact U.out _ _ ⟨some ⟨p,0,none⟩,k,by rw[Kj.out];rfl,jm.out,by rw[Kj.out];exact atN _,(fun a C=>by injection C with C;subst C;exact oH),Pr.out⟩
