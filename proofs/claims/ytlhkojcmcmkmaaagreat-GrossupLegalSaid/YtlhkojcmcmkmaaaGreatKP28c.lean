/- Conditions: as stated. -/
import Derived.Test.YtlhkojcmcmkmaaaGreatKStab
import Derived.Test.YtlhkojcmcmkmaaaGreatKCmp0
import Derived.Test.YtlhkojcmcmkmaaaGreatKP28
set_option maxRecDepth 100000
set_option maxHeartbeats 8000000
namespace Go.Proofs.YtlhkojcmcmkmaaaGreat
open Go.Proofs.Tryz
open Go.RowKit
def SA(v:fY)(e:List Int)(c i:Nat):Int:=(eu (if c=0 then v.base else if c=1 then v.az else v.aS) e).getD i 0
def lz(v:fY)(e:List Int)(f k j:Nat):Value:=.int .i64 (if j%3<f\/(j%3=f/\j/3<k)then SA v e (j%3) (j/3)else 0)
theorem anm(v:fY)(j:List Int)(n:Nat){w:World}{g:Nat}(h:ah w g 142 ((List.replicate n jb).flatMap dO).toArray):w.rowIs g 142 (n*3) (lz v j 0 0):=by
 have e:(List.replicate n jb).flatMap dO=List.replicate (n*3) (Value.int .i64 0):=by
  clear h
  induction n with
  |zero=>rfl
  |succ n l=>rw[asB,ar9,l,show(n+1)*3=n*3+1+1+1 by omega,asB,asB,asB];rfl
 refine⟨_,h,by rw[e];simp,fun i hi=>?_⟩;rw[e];simp[lz,hi]
theorem aaO{v:fY}{j:List Int}{n f k:Nat}{w:World}{g:Nat}(h:w.rowIs g 142 (n*3) (lz v j f k))(y:f<3){x:Int}(p:x=SA v j f k):(w.setCell ⟨g,k*3+f,none⟩ (.int .i64 x)).rowIs g 142 (n*3) (lz v j f (k+1)):=by
 subst p;refine(h.set (k*3+f) _).congr fun i _=>?_;by_cases e:i=k*3+f
 ·subst e;rw[aq9 rfl];have r:(k*3+f)%3=f:=by omega
  have u:(k*3+f)/3=k:=by omega
  simp[lz,r,u]
 ·rw[aq8 e];unfold lz;by_cases l:i%3<f\/(i%3=f/\i/3<k)
  ·rw[aq9 l,aq9 (by omega)]
  ·rw[aq8 l,aq8 (by omega)]
theorem aaP{v:fY}{e:List Int}{n f:Nat}{w:World}{g:Nat}(h:w.rowIs g 142 (n*3) (lz v e f n)):w.rowIs g 142 (n*3) (lz v e (f+1) 0):=by
 refine h.congr fun i hi=>?_;unfold lz;by_cases j:i%3<f\/(i%3=f/\i/3<n)
 ·rw[aq9 j,aq9 (by omega)]
 ·rw[aq8 j,aq8 (by omega)]
theorem ann{v:fY}{e:List Int}{w:World}{g:Nat}(h:w.rowIs g 142 (e.length*3) (lz v e 3 0))(r:aC e≠0):aj dO 3 w w.heap.size (some ⟨g,0,none⟩) (lG v e):=fun _=>by
 refine⟨g,0,rfl,h.lt,fun i x hi j u hu=>?_⟩;have y:i<e.length:=by
  have:=(arG.1 hi).1
  rwa [Iw]at this
 rw[lG,aq8 r,asw,List.getElem?_range y]at hi;injection hi with hi
 subst hi;rw[ark]
 match j,hu with
 |0,hu=>
  have l:=h.cell (i:=i*3+0) (by omega);rw[l];simp[dO]at hu;subst hu;have n:(i*3+0)%3=0:=by omega
  have p:(i*3+0)/3=i:=by omega
  simp only[lz,n,p];rfl
 |1,hu=>
  have l:=h.cell (i:=i*3+1) (by omega);rw[l];simp[dO]at hu;subst hu;have n:(i*3+1)%3=1:=by omega
  have p:(i*3+1)/3=i:=by omega
  simp only[lz,n,p];rfl
 |2,hu=>
  have l:=h.cell (i:=i*3+2) (by omega);rw[l];simp[dO]at hu;subst hu;have n:(i*3+2)%3=2:=by omega
  have p:(i*3+2)/3=i:=by omega
  simp only[lz,n,p];rfl
 |q+3,hu=>simp[dO]at hu
theorem ano{v:fY}{l:List Int}{w:World}{g:Nat}(h:w.rowIs g 142 (l.length*3) (lz v l 0 0))(p:aC l=0)(r:0<l.length):aj dO 3 (((w.setCell ⟨g,0,none⟩ (.int .i64 v.base)).setCell ⟨g,1,none⟩ (.int .i64 v.az)).setCell ⟨g,2,none⟩ (.int .i64 v.aS)) (((w.setCell ⟨g,0,none⟩ (.int .i64 v.base)).setCell ⟨g,1,none⟩ (.int .i64 v.az)).setCell ⟨g,2,none⟩ (.int .i64 v.aS)).heap.size (some ⟨g,0,none⟩) (lG v l):=fun _=>by
 have n:=((h.set 0 (.int .i64 v.base)).set 1 (.int .i64 v.az)).set 2 (.int .i64 v.aS)
 refine⟨g,0,rfl,n.lt,fun i x hi j u hu=>?_⟩;have y:i<l.length:=by
  have:=(arG.1 hi).1
  rwa [Iw]at this
 rw[lG,aq9 p,List.getElem?_set]at hi;rw[ark];have z:j<3:=by have:=(arG.1 hu).1;rwa [JT]at this
 rw[n.cell (i:=i*3+j) (by omega)];by_cases e:i=0
 ·subst e;rw[aq9 rfl,aq9 (by simpa using r)]at hi;injection hi with hi
  subst hi
  match j,hu with
  |0,hu=>simpa[dO]using hu
  |1,hu=>simpa[dO]using hu
  |2,hu=>simpa[dO]using hu
  |q+3,hu=>simp[dO]at hu
 ·rw[aq8 (fun h=>e h.symm),asT,aq9 (by simpa using y)]at hi;injection hi with hi
  subst hi;rw[aq8 (by omega),aq8 (by omega),aq8 (by omega)]
  match j,hu with
  |0,hu=>simpa[dO,jb,lz]using hu
  |1,hu=>simpa[dO,jb,lz]using hu
  |2,hu=>simpa[dO,jb,lz]using hu
  |q+3,hu=>simp[dO]at hu
theorem anp(v:fY)(A:Option Addr)(Z:Nat)(j:List Int)(w:World)(h:aj encI 1 w w.heap.size A j)(hw:∀x∈j,0<=x/\x<=1000000000)(hl:j.length<=8)(nX:0<j.length)(v0:0<=v.base)(v1:0<=v.az)(v2:0<=v.aS):
  Calls prog 163 #[.agg #[.int .i64 v.base,.int .i64 v.az,.int .i64 v.aS],.slice A j.length Z] w (BB (if fG v then[]else lG v j) (if fG v then 4 else 0) w):=by
 obtain⟨bf,a2⟩:=kV (l:=j) (B:=1000000000) hw;have bg:aC j<=8000000000:=by omega
 have HW:=aq6 hw;have Q:Hid (∀m er e w',m=(if fG v then[]else lG v j)->er=(if fG v then 4 else 0)->BB m er w e w'->BB (if fG v then[]else lG v j) (if fG v then 4 else 0) w e w'):=fun m er e w' h1 h2 R=>by subst h1 h2;exact R
 have T:Hid (fG v=(decide (1000000000<v.base)||decide (1000000000<v.az)||decide (1000000000<v.aS))):=rfl;generalize BB (if fG v then[]else lG v j) (if fG v then 4 else 0) w=Pk at Q|-;have Ds:=abW j.length (by omega);clear hw a2;obtain⟨n,hn⟩:∃n,j.length=n:=⟨_,rfl⟩
 have J:=aq6 hn;rw[hn]at Ds hl nX|-;clear hn;go_enter func163,ntmps163;go_upto_region 1 with fail
 have hL:=ah.new w 142 #[.int .i64 v.base,.int .i64 v.az,.int .i64 v.aS];have ae:=bF w (.cells #[.int .i64 v.base,.int .i64 v.az,.int .i64 v.aS] 142);generalize w.alloc (.cells #[.int .i64 v.base,.int .i64 v.az,.int .i64 v.aS] 142)=W at hL ae|-;have hS:=h.aa ae;go_wp2
 go_loop [6,20] (fun s' i=>∃k:Nat,k<=n/\i=.int .i64 k/\s'=.int .i64 (aC (j.take k))) (fun _ i=>n-(intOf i).toNat)
 case atStart=>exact⟨0,by omega,rfl,rfl⟩
 case round=>
  obtain⟨k,hk,rfl,rfl⟩:=hrel;have F:=kV (l:=j.take k) (B:=1000000000) (fun x hx=>HW.out x (arD hx));simp only[ar7]at F;obtain⟨b0,b1⟩:=F;have b2:aC (j.take k)<=20000000000:=by have:=J.out;omega
  clear b1;by_cases r:k<n
  ·have Jj:k<j.length:=(by rw[J.out];exact r);obtain⟨b,a3,rfl,hb,hc⟩:=hS.at_ Jj;have c0:=hc 0 _ rfl;simp only[ara,arU]at c0;have HT:=aq6 (PR j k Jj);obtain⟨x0,x1⟩:=HW.out _ (arc Jj);have gK:(k:Int)<(n:Int):=(by omega);clear hc hL;go_wp2;go_round
   case rel=>exact⟨k+1,by omega,by go_num,by rw[HT.out]⟩
   case measure=>simp[intOf];omega
  ·obtain rfl:k=n:=by omega
   rw[ar0 (by rw[J.out];exact aq7 _)]at b0 b2|-;clear hk r;go_wp2_with fail;refine(Fc w.heap.size 0 _).mono ?_;rintro e w1 ⟨rfl,S⟩;have o5:=hL.aa S;have aT:=aB ae S;have am:=hS.aa S;clear hL ae hS S;obtain⟨N,O,P⟩:=o5.cz3;have bh:=fun w':World=>V9 ⟨w.heap.size,0,none⟩ ⟨w.heap.size,1,none⟩ ⟨w.heap.size,2,none⟩ w';have Mu:=fun w':World=>Wa ⟨w.heap.size,0,none⟩ ⟨w.heap.size,1,none⟩ ⟨w.heap.size,2,none⟩ w';have bi:=fun w':World=>Wb ⟨w.heap.size,0,none⟩ ⟨w.heap.size,1,none⟩ ⟨w.heap.size,2,none⟩ w';by_cases o0:1000000000<v.base
   ·have G:fG v=true:=(by rw[T.out];simp[o0]);have U:Hid (∀e w',BB [] 4 w e w'->Pk e w'):=fun e w' R=>Q.out _ _ e w' (by rw[G];rfl) (by rw[G];rfl) R;clear G Q T;go_wp2;refine wp_loop_rounds 4 ?_;rw[rounds_succ];go_wp2;exact U.out _ _ ⟨none,0,rfl,aj.cK,aq7 _,(fun a C=>by cases C),aT⟩
   by_cases o1:1000000000<v.az
   ·have G:fG v=true:=(by rw[T.out];simp[o1]);have U:Hid (∀e w',BB [] 4 w e w'->Pk e w'):=fun e w' R=>Q.out _ _ e w' (by rw[G];rfl) (by rw[G];rfl) R;clear G Q T;go_wp2;refine wp_loop_rounds 4 ?_;rw[rounds_succ];go_wp2;rw[rounds_succ];go_wp2;exact U.out _ _ ⟨none,0,rfl,aj.cK,aq7 _,(fun a C=>by cases C),aT⟩
   by_cases o2:1000000000<v.aS
   ·have G:fG v=true:=(by rw[T.out];simp[o2]);have U:Hid (∀e w',BB [] 4 w e w'->Pk e w'):=fun e w' R=>Q.out _ _ e w' (by rw[G];rfl) (by rw[G];rfl) R;clear G Q T;go_wp2;refine wp_loop_rounds 4 ?_;rw[rounds_succ];go_wp2;rw[rounds_succ];go_wp2;rw[rounds_succ];go_wp2;exact U.out _ _ ⟨none,0,rfl,aj.cK,aq7 _,(fun a C=>by cases C),aT⟩
   ·have G:fG v=false:=(by rw[T.out];simp[o0,o1,o2]);have U:Hid (∀e w',BB (lG v j) 0 w e w'->Pk e w'):=fun e w' R=>Q.out _ _ e w' (by rw[G];rfl) (by rw[G];rfl) R;have u0:v.base<=1000000000:=(by omega);have u1:v.az<=1000000000:=(by omega);have u2:v.aS<=1000000000:=(by omega);clear G Q T o0 o1 o2;go_wp2;refine wp_loop_rounds 4 ?_;rw[rounds_succ];go_wp2;rw[rounds_succ];go_wp2;rw[rounds_succ];go_wp2;rw[rounds_succ];go_upto_region 14 with fail
    have I:=anm v j k (ah.new w1 142 ((List.replicate k jb).flatMap dO).toArray);have zB:=bF w1 (.cells ((List.replicate k jb).flatMap dO).toArray 142);have K:=o5.aa zB;have bu:=aB aT zB;have cy:=am.aa zB;have a4:=aT.size;have bl:=o5.lt;generalize w1.alloc (.cells ((List.replicate k jb).flatMap dO).toArray 142)=w2 at I zB K bu cy|-;obtain⟨p,MR⟩:∃g,g=w1.heap.size:=⟨_,rfl⟩
    rw[<-MR]at I;rw[<-MR];have og:w.heap.size<=p:=(by omega);have ab:w.heap.size≠p:=(by omega);clear o5 aT am zB a4 MR N O P Ds;by_cases hz:aC j=0
    ·have a5:(aC j==0)=true:=(by simp[hz]);have hZ:=ano (v:=v) (by rw[J.out];exact I) hz (by rw[J.out];exact nX);have HZ:=aq6 hZ;have a6:=aq6 (iJ (iJ (iJ bu og 0 (.int .i64 v.base)) og 1 (.int .i64 v.az)) og 2 (.int .i64 v.aS));have y0:=I.cell (i:=0) (by omega);have y1:=I.cell (i:=1) (by omega);have y2:=I.cell (i:=2) (by omega);have f0:=I.frozen 0;have f1:=I.frozen 1;have f2:=I.frozen 2;have lm:=I.lt;generalize lz v j 0 0 0=t0 at y0;generalize lz v j 0 0 1=t1 at y1;generalize lz v j 0 0 2=t2 at y2;have fM:(0:Int)<(k:Int):=(by omega);obtain⟨N,O,P⟩:=K.cz3;clear hZ I K bu cy;go_wp2;exact U.out _ _ ⟨some ⟨p,0,none⟩,k,by rw[Iw,J.out];rfl,HZ.out,by rw[Iw,J.out];exact aq7 _,(fun a C=>by injection C with C;subst C;exact og),a6.out⟩
    ·have a5:(aC j==0)=false:=(by rw[arS];exact hz);have an:0<aC j:=(by omega);have bm:=aq6 hz;have ao:j≠[]:=fun e=>by have h1:=J.out;rw[e]at h1;simp at h1;omega
     obtain⟨b,a3,Cz,jr,_⟩:=h ao;have K1:∀w':World,w2.grownBy w' (some p)->aj encI 1 w' w'.heap.size A j:=fun w' hg=>cy.GS hg (fun a C=>by rw[Cz]at C;injection C with C;subst C;show b≠p;omega);have ap:∀(x:Int) (w':World),w2.grownBy w' (some p)->0<=x->x<=1000000000->Calls prog 204 #[.int .i64 x,.slice A k Z] w' fun e av=>∃g,e=.returned (.tuple #[.slice (some ⟨g,0,none⟩) k k,.int .i64 0])/\w'.heap.size<=g/\RowI av g (eu x j)/\Below w'.heap.size w' av:=fun x w' hg h0 h1=>by
      have:=anq x A Z j w' (K1 w' hg) h0 h1 HW.out an (by rw[J.out];omega)
      rwa [J.out]at this
     have ad:=aq6 ap;have YA:=aq6 bu;have a7:Hid (∀(w':World),w'.rowIs p 142 (k*3) (lz v j 3 0)->aj dO 3 w' w'.heap.size (some ⟨p,0,none⟩) (lG v j)):=fun w' hm=>ann (by rw[J.out];exact hm) hz;have JG:Hid ((lG v j).length=k):=(by rw[Hid,Iw,J.out]);have DZ:Hid (∀x,(eu x j).length=k):=fun x=>by rw[N2,J.out]
     clear ap K1 Cz jr ao cy hz an bu h HW;obtain⟨N,O,P⟩:=K.cz3;go_wp2_with fail;refine(Fc w.heap.size 0 _).mono ?_;rintro e w3 ⟨rfl,F⟩;have Oy:=World.rowIs.of_block I (F.block p I.lt);have af:w2.grownBy w3 (some p):=LY F _;have SB:=K.aa F;clear I K F N O P;go_wp2;refine wp_loop_rounds 4 ?_;rw[rounds_succ];obtain⟨N,O,P⟩:=SB.cz3;go_wp2_with fail;refine arf (ad.out v.base _ af v0 u0) ?_;rintro e x0 ⟨a8,rfl,a9,bM,Wd⟩;have ax:a8≠p:=(by have:=Oy.lt;omega);have E0:=World.rowIs.of_block Oy (Wd.block p Oy.lt);have ay:=dx af Wd;have aA:=SB.aa Wd;clear Oy af SB Wd a9 N O P;go_wp2
     go_loopw [64] (fun i wr=>∃q:Nat,q<=k/\i=.int .i64 q/\wr.rowIs p 142 (k*3) (lz v j 0 q)/\x0.grownBy wr (some p)) (fun i _=>k-(intOf i).toNat)
     case atStart=>exact⟨0,by omega,rfl,E0,ft _ _⟩
     case round=>
      rename World=>bn
      clear E0;obtain⟨q,hq,rfl,D,z⟩:=hrel;have L:=bM.grown z (fun e=>ax (by injection e));have M:=aA.grown z (fun e=>ab (by injection e));by_cases r:q<k
      ·have zq:=L.cell (i:=q) (by rw[DZ.out];exact r);have V:(eu v.base j).getD q 0=SA v j 0 q:=rfl;rw[V]at zq;have aD:(q:Int)<(k:Int):=(by omega);clear L M V;go_wp2_with fail;refine(Fc p (q*3) _).mono ?_;rintro e y ⟨rfl,u⟩;have E:=World.rowIs.of_block D (u.block p D.lt);have X:=dx z u;have Y:=E.cell (i:=q*3+0) (by omega);have fm:=E.frozen (q*3+0);have lm:=E.lt
       try simp only[ara]at Y fm
       have aE:=fun w':World=>V9 ⟨p,q*3,none⟩ ⟨p,q*3+1,none⟩ ⟨p,q*3+2,none⟩ w';generalize lz v j 0 q _=t at Y;have HM:=aq6 E;have HG:=aq6 X;clear E X D z u;go_wp2;go_roundw
       case rel=>exact⟨q+1,by omega,by go_num,aaO HM.out (by omega) rfl,bk HG.out (.inl rfl) _⟩
       case measure=>simp[intOf];omega
      ·obtain rfl:k=q:=by omega
       have Mf:=aaP D;have ai:=ck ay z;have SC:=M;clear D z L M bM aA ay ax r hq;go_wp2;rw[rounds_succ];obtain⟨N,O,P⟩:=SC.cz3;go_wp2_with fail;refine arf (ad.out v.az _ ai v1 u1) ?_;rintro e x1 ⟨ba,rfl,bb,O9,We⟩;have aJ:ba≠p:=(by have:=Mf.lt;omega);have Pa:=World.rowIs.of_block Mf (We.block p Mf.lt);have aO:=dx ai We;have aP:=SC.aa We;clear Mf ai SC We bb N O P;go_wp2
       go_loopw [64] (fun i wr=>∃q:Nat,q<=k/\i=.int .i64 q/\wr.rowIs p 142 (k*3) (lz v j 1 q)/\x1.grownBy wr (some p)) (fun i _=>k-(intOf i).toNat)
       case atStart=>exact⟨0,by omega,rfl,Pa,ft _ _⟩
       case round=>
        rename World=>bo
        clear Pa;obtain⟨q,hq,rfl,D,z⟩:=hrel;have L:=O9.grown z (fun e=>aJ (by injection e));have M:=aP.grown z (fun e=>ab (by injection e));by_cases r:q<k
        ·have zq:=L.cell (i:=q) (by rw[DZ.out];exact r);have V:(eu v.az j).getD q 0=SA v j 1 q:=rfl;rw[V]at zq;have aD:(q:Int)<(k:Int):=(by omega);clear L M V;go_wp2_with fail;refine(Fc p (q*3) _).mono ?_;rintro e y ⟨rfl,u⟩;have E:=World.rowIs.of_block D (u.block p D.lt);have X:=dx z u;have Y:=E.cell (i:=q*3+1) (by omega);have fm:=E.frozen (q*3+1);have lm:=E.lt
         try simp only[ara]at Y fm
         have aE:=fun w':World=>Wa ⟨p,q*3,none⟩ ⟨p,q*3+1,none⟩ ⟨p,q*3+2,none⟩ w';generalize lz v j 1 q _=t at Y;have HM:=aq6 E;have HG:=aq6 X;clear E X D z u;go_wp2;go_roundw
         case rel=>exact⟨q+1,by omega,by go_num,aaO HM.out (by omega) rfl,bk HG.out (.inl rfl) _⟩
         case measure=>simp[intOf];omega
        ·obtain rfl:k=q:=by omega
         have Ox:=aaP D;have al:=ck aO z;have SD:=M;clear D z L M O9 aP aO aJ r hq;go_wp2;rw[rounds_succ];obtain⟨N,O,P⟩:=SD.cz3;go_wp2_with fail;refine arf (ad.out v.aS _ al v2 u2) ?_;rintro e x2 ⟨bc,rfl,bd,V1,Wf⟩;have aV:bc≠p:=(by have:=Ox.lt;omega);have Ml:=World.rowIs.of_block Ox (Wf.block p Ox.lt);have aW:=dx al Wf;have aZ:=SD.aa Wf;clear Ox al SD Wf bd N O P;go_wp2
         go_loopw [64] (fun i wr=>∃q:Nat,q<=k/\i=.int .i64 q/\wr.rowIs p 142 (k*3) (lz v j 2 q)/\x2.grownBy wr (some p)) (fun i _=>k-(intOf i).toNat)
         case atStart=>exact⟨0,by omega,rfl,Ml,ft _ _⟩
         case round=>
          rename World=>bp
          clear Ml;obtain⟨q,hq,rfl,D,z⟩:=hrel;have L:=V1.grown z (fun e=>aV (by injection e));have M:=aZ.grown z (fun e=>ab (by injection e));by_cases r:q<k
          ·have zq:=L.cell (i:=q) (by rw[DZ.out];exact r);have V:(eu v.aS j).getD q 0=SA v j 2 q:=rfl;rw[V]at zq;have aD:(q:Int)<(k:Int):=(by omega);clear L M V;go_wp2_with fail;refine(Fc p (q*3) _).mono ?_;rintro e y ⟨rfl,u⟩;have E:=World.rowIs.of_block D (u.block p D.lt);have X:=dx z u;have Y:=E.cell (i:=q*3+2) (by omega);have fm:=E.frozen (q*3+2);have lm:=E.lt
           try simp only[ara]at Y fm
           have aE:=fun w':World=>Wb ⟨p,q*3,none⟩ ⟨p,q*3+1,none⟩ ⟨p,q*3+2,none⟩ w';generalize lz v j 2 q _=t at Y;have HM:=aq6 E;have HG:=aq6 X;clear E X D z u;go_wp2;go_roundw
           case rel=>exact⟨q+1,by omega,by go_num,aaO HM.out (by omega) rfl,bk HG.out (.inl rfl) _⟩
           case measure=>simp[intOf];omega
          ·obtain rfl:k=q:=by omega
           have a0:=aaP D;have a1:=ck aW z;have be:=M;clear D z L M V1 aZ aW aV r hq;go_wp2;rw[rounds_succ];have iU:=aq6 (a7.out _ a0);have YZ:=aq6 (jN YA.out a1 (fun q e=>by injection e;omega));clear a0 a1 be;go_wp2;exact U.out _ _ ⟨some ⟨p,0,none⟩,k,by rw[JG.out];rfl,iU.out,by rw[JG.out];exact aq7 _,(fun a C=>by injection C with C;subst C;exact og),YZ.out⟩
