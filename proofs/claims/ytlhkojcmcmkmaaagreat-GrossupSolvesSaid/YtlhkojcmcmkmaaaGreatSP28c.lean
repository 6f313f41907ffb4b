/- Conditions: as stated. -/
import Derived.Test.YtlhkojcmcmkmaaaGreatSStab
import Derived.Test.YtlhkojcmcmkmaaaGreatSCmp0
import Derived.Test.YtlhkojcmcmkmaaaGreatSP28
set_option maxRecDepth 100000
set_option maxHeartbeats 8000000
namespace Go.Proofs.YtlhkojcmcmkmaaaGreat
open Go.Proofs.Tryz
open Go.RowKit
def Tn(v:gv)(e:List Int)(c i:Nat):Int:=(eB (if c=0 then v.base else if c=1 then v.aA else v.aT) e).getD i 0
def lR(v:gv)(e:List Int)(f k j:Nat):Value:=.int .i64 (if j%3<f\/(j%3=f/\j/3<k)then Tn v e (j%3) (j/3)else 0)
theorem anI(v:gv)(j:List Int)(n:Nat){w:World}{g:Nat}(h:ah w g 142 ((List.replicate n jt).flatMap dT).toArray):w.rowIs g 142 (n*3) (lR v j 0 0):=by
 have e:(List.replicate n jt).flatMap dT=List.replicate (n*3) (Value.int .i64 0):=by
  clear h
  induction n with
  |zero=>rfl
  |succ n l=>rw[as9,asL,l,show(n+1)*3=n*3+1+1+1 by omega,as9,as9,as9];rfl
 refine⟨_,h,by rw[e];simp,fun i hi=>?_⟩;rw[e];simp[lR,hi]
theorem abb{v:gv}{j:List Int}{n f k:Nat}{w:World}{g:Nat}(h:w.rowIs g 142 (n*3) (lR v j f k))(y:f<3){x:Int}(p:x=Tn v j f k):(w.setCell ⟨g,k*3+f,none⟩ (.int .i64 x)).rowIs g 142 (n*3) (lR v j f (k+1)):=by
 subst p;refine(h.set (k*3+f) _).congr fun i _=>?_;by_cases e:i=k*3+f
 ·subst e;rw[arK rfl];have r:(k*3+f)%3=f:=by omega
  have u:(k*3+f)/3=k:=by omega
  simp[lR,r,u]
 ·rw[arJ e];unfold lR;by_cases l:i%3<f\/(i%3=f/\i/3<k)
  ·rw[arK l,arK (by omega)]
  ·rw[arJ l,arJ (by omega)]
theorem abc{v:gv}{e:List Int}{n f:Nat}{w:World}{g:Nat}(h:w.rowIs g 142 (n*3) (lR v e f n)):w.rowIs g 142 (n*3) (lR v e (f+1) 0):=by
 refine h.congr fun i hi=>?_;unfold lR;by_cases j:i%3<f\/(i%3=f/\i/3<n)
 ·rw[arK j,arK (by omega)]
 ·rw[arJ j,arJ (by omega)]
theorem anJ{v:gv}{e:List Int}{w:World}{g:Nat}(h:w.rowIs g 142 (e.length*3) (lR v e 3 0))(r:aL e≠0):aj dT 3 w w.heap.size (some ⟨g,0,none⟩) (lW v e):=fun _=>by
 refine⟨g,0,rfl,h.lt,fun i x hi j u hu=>?_⟩;have y:i<e.length:=by
  have:=(ase.1 hi).1
  rwa [IZ]at this
 rw[lW,arJ r,as2,List.getElem?_range y]at hi;injection hi with hi
 subst hi;rw[arT]
 match j,hu with
 |0,hu=>
  have l:=h.cell (i:=i*3+0) (by omega);rw[l];simp[dT]at hu;subst hu;have n:(i*3+0)%3=0:=by omega
  have p:(i*3+0)/3=i:=by omega
  simp only[lR,n,p];rfl
 |1,hu=>
  have l:=h.cell (i:=i*3+1) (by omega);rw[l];simp[dT]at hu;subst hu;have n:(i*3+1)%3=1:=by omega
  have p:(i*3+1)/3=i:=by omega
  simp only[lR,n,p];rfl
 |2,hu=>
  have l:=h.cell (i:=i*3+2) (by omega);rw[l];simp[dT]at hu;subst hu;have n:(i*3+2)%3=2:=by omega
  have p:(i*3+2)/3=i:=by omega
  simp only[lR,n,p];rfl
 |q+3,hu=>simp[dT]at hu
theorem anK{v:gv}{l:List Int}{w:World}{g:Nat}(h:w.rowIs g 142 (l.length*3) (lR v l 0 0))(p:aL l=0)(r:0<l.length):aj dT 3 (((w.setCell ⟨g,0,none⟩ (.int .i64 v.base)).setCell ⟨g,1,none⟩ (.int .i64 v.aA)).setCell ⟨g,2,none⟩ (.int .i64 v.aT)) (((w.setCell ⟨g,0,none⟩ (.int .i64 v.base)).setCell ⟨g,1,none⟩ (.int .i64 v.aA)).setCell ⟨g,2,none⟩ (.int .i64 v.aT)).heap.size (some ⟨g,0,none⟩) (lW v l):=fun _=>by
 have n:=((h.set 0 (.int .i64 v.base)).set 1 (.int .i64 v.aA)).set 2 (.int .i64 v.aT)
 refine⟨g,0,rfl,n.lt,fun i x hi j u hu=>?_⟩;have y:i<l.length:=by
  have:=(ase.1 hi).1
  rwa [IZ]at this
 rw[lW,arK p,List.getElem?_set]at hi;rw[arT];have z:j<3:=by have:=(ase.1 hu).1;rwa [Kg]at this
 rw[n.cell (i:=i*3+j) (by omega)];by_cases e:i=0
 ·subst e;rw[arK rfl,arK (by simpa using r)]at hi;injection hi with hi
  subst hi
  match j,hu with
  |0,hu=>simpa[dT]using hu
  |1,hu=>simpa[dT]using hu
  |2,hu=>simpa[dT]using hu
  |q+3,hu=>simp[dT]at hu
 ·rw[arJ (fun h=>e h.symm),atr,arK (by simpa using y)]at hi;injection hi with hi
  subst hi;rw[arJ (by omega),arJ (by omega),arJ (by omega)]
  match j,hu with
  |0,hu=>simpa[dT,jt,lR]using hu
  |1,hu=>simpa[dT,jt,lR]using hu
  |2,hu=>simpa[dT,jt,lR]using hu
  |q+3,hu=>simp[dT]at hu
theorem anL(v:gv)(A:Option Addr)(Z:Nat)(j:List Int)(w:World)(h:aj encI 1 w w.heap.size A j)(hw:∀x∈j,0<=x/\x<=1000000000)(hl:j.length<=8)(oF:0<j.length)(v0:0<=v.base)(v1:0<=v.aA)(v2:0<=v.aT):
  Calls prog 163 #[.agg #[.int .i64 v.base,.int .i64 v.aA,.int .i64 v.aT],.slice A j.length Z] w (Cc (if fO v then[]else lW v j) (if fO v then 4 else 0) w):=by
 obtain⟨bd,a0⟩:=kR (l:=j) (B:=1000000000) hw;have be:aL j<=8000000000:=by omega
 have HW:=arH hw;have Q:Hid (∀m er e w',m=(if fO v then[]else lW v j)->er=(if fO v then 4 else 0)->Cc m er w e w'->Cc (if fO v then[]else lW v j) (if fO v then 4 else 0) w e w'):=fun m er e w' h1 h2 R=>by subst h1 h2;exact R
 have T:Hid (fO v=(decide (1000000000<v.base)||decide (1000000000<v.aA)||decide (1000000000<v.aT))):=rfl;generalize Cc (if fO v then[]else lW v j) (if fO v then 4 else 0) w=PI at Q|-;have D5:=acf j.length (by omega);clear hw a0;obtain⟨n,hn⟩:∃n,j.length=n:=⟨_,rfl⟩
 have J:=arH hn;rw[hn]at D5 hl oF|-;clear hn;go_enter func163,ntmps163;go_upto_region 1 with fail
 have hL:=ah.new w 142 #[.int .i64 v.base,.int .i64 v.aA,.int .i64 v.aT];have ae:=bD w (.cells #[.int .i64 v.base,.int .i64 v.aA,.int .i64 v.aT] 142);generalize w.alloc (.cells #[.int .i64 v.base,.int .i64 v.aA,.int .i64 v.aT] 142)=W at hL ae|-;have hS:=h.aa ae;go_wp2
 go_loop [6,20] (fun s' i=>∃k:Nat,k<=n/\i=.int .i64 k/\s'=.int .i64 (aL (j.take k))) (fun _ i=>n-(intOf i).toNat)
 case atStart=>exact⟨0,by omega,rfl,rfl⟩
 case round=>
  obtain⟨k,hk,rfl,rfl⟩:=hrel;have F:=kR (l:=j.take k) (B:=1000000000) (fun x hx=>HW.out x (ar6 hx));simp only[asA]at F;obtain⟨b0,b1⟩:=F;have b2:aL (j.take k)<=20000000000:=by have:=J.out;omega
  clear b1;by_cases r:k<n
  ·have JH:k<j.length:=(by rw[J.out];exact r);obtain⟨b,a1,rfl,hb,hc⟩:=hS.at_ JH;have c0:=hc 0 _ rfl;simp only[arL,ast]at c0;have HT:=arH (Qi j k JH);obtain⟨x0,x1⟩:=HW.out _ (arO JH);have eC:(k:Int)<(n:Int):=(by omega);clear hc hL;go_wp2;go_round
   case rel=>exact⟨k+1,by omega,by go_num,by rw[HT.out]⟩
   case measure=>simp[intOf];omega
  ·obtain rfl:k=n:=by omega
   rw[asB (by rw[J.out];exact arI _)]at b0 b2|-;clear hk r;go_wp2_with fail;refine(FQ w.heap.size 0 _).mono ?_;rintro e w1 ⟨rfl,S⟩;have pD:=hL.aa S;have aS:=aB ae S;have am:=hS.aa S;clear hL ae hS S;obtain⟨N,O,P⟩:=pD.cz3;have bf:=fun w':World=>WK ⟨w.heap.size,0,none⟩ ⟨w.heap.size,1,none⟩ ⟨w.heap.size,2,none⟩ w';have MZ:=fun w':World=>WL ⟨w.heap.size,0,none⟩ ⟨w.heap.size,1,none⟩ ⟨w.heap.size,2,none⟩ w';have bg:=fun w':World=>WM ⟨w.heap.size,0,none⟩ ⟨w.heap.size,1,none⟩ ⟨w.heap.size,2,none⟩ w';by_cases o0:1000000000<v.base
   ·have G:fO v=true:=(by rw[T.out];simp[o0]);have U:Hid (∀e w',Cc [] 4 w e w'->PI e w'):=fun e w' R=>Q.out _ _ e w' (by rw[G];rfl) (by rw[G];rfl) R;clear G Q T;go_wp2;refine wp_loop_rounds 4 ?_;rw[rounds_succ];go_wp2;exact U.out _ _ ⟨none,0,rfl,aj.cL,arI _,(fun a C=>by cases C),aS⟩
   by_cases o1:1000000000<v.aA
   ·have G:fO v=true:=(by rw[T.out];simp[o1]);have U:Hid (∀e w',Cc [] 4 w e w'->PI e w'):=fun e w' R=>Q.out _ _ e w' (by rw[G];rfl) (by rw[G];rfl) R;clear G Q T;go_wp2;refine wp_loop_rounds 4 ?_;rw[rounds_succ];go_wp2;rw[rounds_succ];go_wp2;exact U.out _ _ ⟨none,0,rfl,aj.cL,arI _,(fun a C=>by cases C),aS⟩
   by_cases o2:1000000000<v.aT
   ·have G:fO v=true:=(by rw[T.out];simp[o2]);have U:Hid (∀e w',Cc [] 4 w e w'->PI e w'):=fun e w' R=>Q.out _ _ e w' (by rw[G];rfl) (by rw[G];rfl) R;clear G Q T;go_wp2;refine wp_loop_rounds 4 ?_;rw[rounds_succ];go_wp2;rw[rounds_succ];go_wp2;rw[rounds_succ];go_wp2;exact U.out _ _ ⟨none,0,rfl,aj.cL,arI _,(fun a C=>by cases C),aS⟩
   ·have G:fO v=false:=(by rw[T.out];simp[o0,o1,o2]);have U:Hid (∀e w',Cc (lW v j) 0 w e w'->PI e w'):=fun e w' R=>Q.out _ _ e w' (by rw[G];rfl) (by rw[G];rfl) R;have u0:v.base<=1000000000:=(by omega);have u1:v.aA<=1000000000:=(by omega);have u2:v.aT<=1000000000:=(by omega);clear G Q T o0 o1 o2;go_wp2;refine wp_loop_rounds 4 ?_;rw[rounds_succ];go_wp2;rw[rounds_succ];go_wp2;rw[rounds_succ];go_wp2;rw[rounds_succ];go_upto_region 14 with fail
    have I:=anI v j k (ah.new w1 142 ((List.replicate k jt).flatMap dT).toArray);have Ax:=bD w1 (.cells ((List.replicate k jt).flatMap dT).toArray 142);have K:=pD.aa Ax;have bB:=aB aS Ax;have cF:=am.aa Ax;have a2:=aS.size;have bh:=pD.lt;generalize w1.alloc (.cells ((List.replicate k jt).flatMap dT).toArray 142)=w2 at I Ax K bB cF|-;obtain⟨p,Ns⟩:∃g,g=w1.heap.size:=⟨_,rfl⟩
    rw[<-Ns]at I;rw[<-Ns];have nA:w.heap.size<=p:=(by omega);have ab:w.heap.size≠p:=(by omega);clear pD aS am Ax a2 Ns N O P D5;by_cases hz:aL j=0
    ·have a3:(aL j==0)=true:=(by simp[hz]);have hZ:=anK (v:=v) (by rw[J.out];exact I) hz (by rw[J.out];exact oF);have HZ:=arH hZ;have a4:=arH (iX (iX (iX bB nA 0 (.int .i64 v.base)) nA 1 (.int .i64 v.aA)) nA 2 (.int .i64 v.aT));have y0:=I.cell (i:=0) (by omega);have y1:=I.cell (i:=1) (by omega);have y2:=I.cell (i:=2) (by omega);have f0:=I.frozen 0;have f1:=I.frozen 1;have f2:=I.frozen 2;have lm:=I.lt;generalize lR v j 0 0 0=t0 at y0;generalize lR v j 0 0 1=t1 at y1;generalize lR v j 0 0 2=t2 at y2;have fS:(0:Int)<(k:Int):=(by omega);obtain⟨N,O,P⟩:=K.cz3;clear hZ I K bB cF;go_wp2;exact U.out _ _ ⟨some ⟨p,0,none⟩,k,by rw[IZ,J.out];rfl,HZ.out,by rw[IZ,J.out];exact arI _,(fun a C=>by injection C with C;subst C;exact nA),a4.out⟩
    ·have a3:(aL j==0)=false:=(by rw[ass];exact hz);have an:0<aL j:=(by omega);have bi:=arH hz;have ao:j≠[]:=fun e=>by have h1:=J.out;rw[e]at h1;simp at h1;omega
     obtain⟨b,a1,Dc,gY,_⟩:=h ao;have Lt:∀w':World,w2.grownBy w' (some p)->aj encI 1 w' w'.heap.size A j:=fun w' hg=>cF.Hi hg (fun a C=>by rw[Dc]at C;injection C with C;subst C;show b≠p;omega);have ap:∀(x:Int) (w':World),w2.grownBy w' (some p)->0<=x->x<=1000000000->Calls prog 204 #[.int .i64 x,.slice A k Z] w' fun e au=>∃g,e=.returned (.tuple #[.slice (some ⟨g,0,none⟩) k k,.int .i64 0])/\w'.heap.size<=g/\RowI au g (eB x j)/\Below w'.heap.size w' au:=fun x w' hg h0 h1=>by
      have:=anM x A Z j w' (Lt w' hg) h0 h1 HW.out an (by rw[J.out];omega)
      rwa [J.out]at this
     have ad:=arH ap;have Y8:=arH bB;have a5:Hid (∀(w':World),w'.rowIs p 142 (k*3) (lR v j 3 0)->aj dT 3 w' w'.heap.size (some ⟨p,0,none⟩) (lW v j)):=fun w' hm=>anJ (by rw[J.out];exact hm) hz;have J3:Hid ((lW v j).length=k):=(by rw[Hid,IZ,J.out]);have Ey:Hid (∀x,(eB x j).length=k):=fun x=>by rw[Ox,J.out]
     clear ap Lt Dc gY ao cF hz an bB h HW;obtain⟨N,O,P⟩:=K.cz3;go_wp2_with fail;refine(FQ w.heap.size 0 _).mono ?_;rintro e w3 ⟨rfl,F⟩;have O1:=World.rowIs.of_block I (F.block p I.lt);have af:w2.grownBy w3 (some p):=Mq F _;have Tp:=K.aa F;clear I K F N O P;go_wp2;refine wp_loop_rounds 4 ?_;rw[rounds_succ];obtain⟨N,O,P⟩:=Tp.cz3;go_wp2_with fail;refine arP (ad.out v.base _ af v0 u0) ?_;rintro e x0 ⟨a6,rfl,a7,bO,WO⟩;have av:a6≠p:=(by have:=O1.lt;omega);have FE:=World.rowIs.of_block O1 (WO.block p O1.lt);have ay:=dx af WO;have az:=Tp.aa WO;clear O1 af Tp WO a7 N O P;go_wp2
     go_loopw [64] (fun i wr=>∃q:Nat,q<=k/\i=.int .i64 q/\wr.rowIs p 142 (k*3) (lR v j 0 q)/\x0.grownBy wr (some p)) (fun i _=>k-(intOf i).toNat)
     case atStart=>exact⟨0,by omega,rfl,FE,fe _ _⟩
     case round=>
      rename World=>bk
      clear FE;obtain⟨q,hq,rfl,D,z⟩:=hrel;have L:=bO.grown z (fun e=>av (by injection e));have M:=az.grown z (fun e=>ab (by injection e));by_cases r:q<k
      ·have zq:=L.cell (i:=q) (by rw[Ey.out];exact r);have V:(eB v.base j).getD q 0=Tn v j 0 q:=rfl;rw[V]at zq;have aE:(q:Int)<(k:Int):=(by omega);clear L M V;go_wp2_with fail;refine(FQ p (q*3) _).mono ?_;rintro e y ⟨rfl,u⟩;have E:=World.rowIs.of_block D (u.block p D.lt);have X:=dx z u;have Y:=E.cell (i:=q*3+0) (by omega);have fm:=E.frozen (q*3+0);have lm:=E.lt
       try simp only[arL]at Y fm
       have RQ:=fun w':World=>WK ⟨p,q*3,none⟩ ⟨p,q*3+1,none⟩ ⟨p,q*3+2,none⟩ w';generalize lR v j 0 q _=t at Y;have HM:=arH E;have HG:=arH X;clear E X D z u;go_wp2;go_roundw
       case rel=>exact⟨q+1,by omega,by go_num,abb HM.out (by omega) rfl,bm HG.out (.inl rfl) _⟩
       case measure=>simp[intOf];omega
      ·obtain rfl:k=q:=by omega
       have MH:=abc D;have ai:=ck ay z;have Tq:=M;clear D z L M bO az ay av r hq;go_wp2;rw[rounds_succ];obtain⟨N,O,P⟩:=Tq.cz3;go_wp2_with fail;refine arP (ad.out v.aA _ ai v1 u1) ?_;rintro e x1 ⟨a8,rfl,a9,PJ,WQ⟩;have aJ:a8≠p:=(by have:=MH.lt;omega);have PB:=World.rowIs.of_block MH (WQ.block p MH.lt);have V0:=dx ai WQ;have aK:=Tq.aa WQ;clear MH ai Tq WQ a9 N O P;go_wp2
       go_loopw [64] (fun i wr=>∃q:Nat,q<=k/\i=.int .i64 q/\wr.rowIs p 142 (k*3) (lR v j 1 q)/\x1.grownBy wr (some p)) (fun i _=>k-(intOf i).toNat)
       case atStart=>exact⟨0,by omega,rfl,PB,fe _ _⟩
       case round=>
        rename World=>bl
        clear PB;obtain⟨q,hq,rfl,D,z⟩:=hrel;have L:=PJ.grown z (fun e=>aJ (by injection e));have M:=aK.grown z (fun e=>ab (by injection e));by_cases r:q<k
        ·have zq:=L.cell (i:=q) (by rw[Ey.out];exact r);have V:(eB v.aA j).getD q 0=Tn v j 1 q:=rfl;rw[V]at zq;have aE:(q:Int)<(k:Int):=(by omega);clear L M V;go_wp2_with fail;refine(FQ p (q*3) _).mono ?_;rintro e y ⟨rfl,u⟩;have E:=World.rowIs.of_block D (u.block p D.lt);have X:=dx z u;have Y:=E.cell (i:=q*3+1) (by omega);have fm:=E.frozen (q*3+1);have lm:=E.lt
         try simp only[arL]at Y fm
         have RQ:=fun w':World=>WL ⟨p,q*3,none⟩ ⟨p,q*3+1,none⟩ ⟨p,q*3+2,none⟩ w';generalize lR v j 1 q _=t at Y;have HM:=arH E;have HG:=arH X;clear E X D z u;go_wp2;go_roundw
         case rel=>exact⟨q+1,by omega,by go_num,abb HM.out (by omega) rfl,bm HG.out (.inl rfl) _⟩
         case measure=>simp[intOf];omega
        ·obtain rfl:k=q:=by omega
         have O0:=abc D;have al:=ck V0 z;have Tr:=M;clear D z L M PJ aK V0 aJ r hq;go_wp2;rw[rounds_succ];obtain⟨N,O,P⟩:=Tr.cz3;go_wp2_with fail;refine arP (ad.out v.aT _ al v2 u2) ?_;rintro e x2 ⟨ba,rfl,bb,WR,WS⟩;have aN:ba≠p:=(by have:=O0.lt;omega);have MQ:=World.rowIs.of_block O0 (WS.block p O0.lt);have aO:=dx al WS;have aU:=Tr.aa WS;clear O0 al Tr WS bb N O P;go_wp2
         go_loopw [64] (fun i wr=>∃q:Nat,q<=k/\i=.int .i64 q/\wr.rowIs p 142 (k*3) (lR v j 2 q)/\x2.grownBy wr (some p)) (fun i _=>k-(intOf i).toNat)
         case atStart=>exact⟨0,by omega,rfl,MQ,fe _ _⟩
         case round=>
          rename World=>bn
          clear MQ;obtain⟨q,hq,rfl,D,z⟩:=hrel;have L:=WR.grown z (fun e=>aN (by injection e));have M:=aU.grown z (fun e=>ab (by injection e));by_cases r:q<k
          ·have zq:=L.cell (i:=q) (by rw[Ey.out];exact r);have V:(eB v.aT j).getD q 0=Tn v j 2 q:=rfl;rw[V]at zq;have aE:(q:Int)<(k:Int):=(by omega);clear L M V;go_wp2_with fail;refine(FQ p (q*3) _).mono ?_;rintro e y ⟨rfl,u⟩;have E:=World.rowIs.of_block D (u.block p D.lt);have X:=dx z u;have Y:=E.cell (i:=q*3+2) (by omega);have fm:=E.frozen (q*3+2);have lm:=E.lt
           try simp only[arL]at Y fm
           have RQ:=fun w':World=>WM ⟨p,q*3,none⟩ ⟨p,q*3+1,none⟩ ⟨p,q*3+2,none⟩ w';generalize lR v j 2 q _=t at Y;have HM:=arH E;have HG:=arH X;clear E X D z u;go_wp2;go_roundw
           case rel=>exact⟨q+1,by omega,by go_num,abb HM.out (by omega) rfl,bm HG.out (.inl rfl) _⟩
           case measure=>simp[intOf];omega
          ·obtain rfl:k=q:=by omega
           have aV:=abc D;have aZ:=ck aO z;have bc:=M;clear D z L M WR aU aO aN r hq;go_wp2;rw[rounds_succ];have ji:=arH (a5.out _ aV);have Q3:=arH (kN Y8.out aZ (fun q e=>by injection e;omega));clear aV aZ bc;go_wp2;exact U.out _ _ ⟨some ⟨p,0,none⟩,k,by rw[J3.out];rfl,ji.out,by rw[J3.out];exact arI _,(fun a C=>by injection C with C;subst C;exact nA),Q3.out⟩
