/- Conditions: as stated. -/
import Derived.Deep.RegionLaw
import Derived.Maps.AppendAt
import Derived.Deep.RegionHeld3
import Derived.Test.YtlhkojcmcmkmaaaGreatKRec
set_option maxRecDepth 100000
set_option maxHeartbeats 4000000
namespace Go.Proofs.YtlhkojcmcmkmaaaGreat
open Go.Proofs.Tryz
open Go.RowKit
theorem XA{total:Int}{ws:List Int}(l:0<=total)(n:total<=1000000000)(p:∀x∈ws,0<=x/\x<=1000000000)(u:0<aC ws){k:Nat}(r:k<ws.length):
  (0<=total*ws[k]/\total*ws[k]<=1000000000000000000)/\(total*ws[k]).tdiv (aC ws)=total*ws[k]/aC ws/\(total*ws[k]).tmod (aC ws)=total*ws[k]%aC ws/\(0<=total*ws[k]/aC ws/\total*ws[k]/aC ws<=1000000000):=by
 obtain⟨a,b⟩:=p _ (arc r);have e:0<=total*ws[k]:=arH l a;have z:total*ws[k]<=1000000000*1000000000:=asm n b a (by omega);have j:ws[k]<=aC ws:=En (fun x y=>(p x y).1) (arc r);refine⟨by omega,asn e,asO e,ar5 e (by omega),?_⟩;refine Int.le_trans (Int.ediv_le_of_le_mul u ?_) n;exact arP j l
theorem XB{total:Int}{ws:List Int}{k:Nat}(e:k<ws.length):(cR total ws).getD k 0=total*ws[k]/aC ws:=by rw[aru,cR,asw,aro e];rfl
theorem XC{total:Int}{ws:List Int}{k:Nat}(e:k<ws.length):(kH total ws).getD k 0=total*ws[k]%aC ws:=by rw[aru,kH,asw,aro e];rfl
def upto(l:List Int)(n k:Nat):List Int:=l.take k++List.replicate (n-k) 0
theorem Jx(l:List Int)(n:Nat):upto l n 0=List.replicate n 0:=by simp[upto]
theorem Jy(l:List Int)(n:Nat)(h:l.length=n):upto l n n=l:=by simp[upto,<-h]
theorem Bi(l:List Int)(n k:Nat)(h:l.length=n)(e:k<=n):(upto l n k).length=n:=by simp[upto];omega
theorem PQ(l:List Int)(n k:Nat)(h:l.length=n)(r:k<n):(upto l n k).set k (l.getD k 0)=upto l n (k+1):=by
 have e:k<l.length:=by omega
 have j:List.replicate (n-k) (0:Int)=0::List.replicate (n-(k+1)) 0:=by rw[show n-k=(n-(k+1))+1 by omega];rfl
 have p:l.getD k 0=l[k]:=by rw[aru,aro e];rfl
 unfold upto;rw[j,p,arA e,List.set_append_right _ _ (by simp;omega),show k-(l.take k).length=0 by simp;omega,arx,ar6];rfl
theorem XD(l:List Int)(n k:Nat)(e:k<n)(j:l.length=n):(upto l n (k+1)).getD k 0=l.getD k 0:=by
 have p:k<l.length:=by omega
 unfold upto;rw[aru,asJ (by simp;omega),asK,aq9 (by omega),aru]
theorem XE(l:List Int)(k:Nat)(h:k<l.length):aC (l.take (k+1))=aC (l.take k)+l.getD k 0:=by rw[PR l k h,aru,aro h];rfl
structure Fl(total:Int)(ws:List Int)(m:Nat)(P R:List Int):Prop where
 eq:Cr m P R=eu total ws
 pos:∀x∈P,0<=x
 sum:aC P+m=total
 lp:P.length=ws.length
 lr:R.length=ws.length
theorem Fl.start{total:Int}{ws:List Int}(j:0<=total)(l:∀x∈ws,0<=x/\x<=1000000000)(e:0<aC ws):Fl total ws (mR total ws).toNat (cR total ws) (kH total ws):=by have:=Ns (total:=total) e;refine⟨rfl,PS j (fun x n=>(l x n).1) e,?_,by simp[cR],by simp[kH]⟩;unfold mR;omega
theorem Fl.next{total:Int}{ws:List Int}{m:Nat}{P R:List Int}(h:Fl total ws (m+1) P R)(j:0<ws.length):Fl total ws m (P.set (dJ R) (P.getD (dJ R) 0+1)) (R.set (dJ R) (-1)):=by
 have u:=PT (r:=R) (by rw[h.lr];exact j);have l:=h.lp;have n:=h.lr;refine⟨by have:=h.eq;rwa [Cr]at this,fun x p=>?_,?_,by simpa using l,by simpa using n⟩
 ·rcases List.mem_or_eq_of_mem_set p with e|e
  ·exact h.pos x e
  ·have:=Jz h.pos (dJ R);omega
 ·rw[abO _ _ _ (by omega)];have:=h.sum;omega
theorem Fl.le{total:Int}{ws:List Int}{m:Nat}{P R:List Int}(h:Fl total ws m P R)(i:Nat):0<=P.getD i 0/\P.getD i 0<=total:=by
 refine⟨Jz h.pos i,?_⟩;have n:P.getD i 0<=aC P:=by
  rw[aru];cases e:P[i]?with
  |none=>simp;exact(kV (l:=P) (B:=aC P) (fun x j=>⟨h.pos x j,En h.pos j⟩)).1
  |some v=>exact En h.pos (List.mem_of_getElem? e)
 have:=h.sum;omega
theorem XF(total:Int)(A:Option Addr)(af:Nat)(ws:List Int)(w:World)(h:aj encI 1 w w.heap.size A ws)(h0:0<=total)(h1:total<=1000000000)(hw:∀x∈ws,0<=x/\x<=1000000000)(hs:0<aC ws)(hl:ws.length<=1000):
  Calls prog 182 #[.int .i64 total,.slice A ws.length af] w fun e w'=>∃g,e=.returned (.tuple #[.slice (some ⟨g,0,none⟩) ws.length ws.length,.int .i64 0])/\w.heap.size<=g/\RowI w' g (eu total ws)/\Below w.heap.size w w':=by
 have HW:=aq6 hw;clear hw;have Ds:=Nt ws.length (by omega);have nX:=XG hs;go_enter func182,ntmps182;go_wp2
 go_loop [6,7] (fun s i=>∃k:Nat,k<=ws.length/\i=.int .i64 k/\s=.int .i64 (aC (ws.take k))) (fun _ i=>ws.length-(intOf i).toNat)
 case atStart=>exact⟨0,by omega,rfl,rfl⟩
 case round=>
  obtain⟨k,S,rfl,rfl⟩:=hrel;have ad:=kV (l:=ws.take k) (B:=1000000000) (fun x E=>HW.out x (arD E));simp only[ar7]at ad;have al:0<=aC (ws.take k):=ad.1;have am:aC (ws.take k)<=1000000000000:=by omega
  by_cases j:k<ws.length
  ·obtain⟨b,ae,rfl,hb,hc⟩:=h.at_ j;have c0:=hc 0 _ rfl;simp only[ara,arU]at c0;obtain⟨x0,x1⟩:=HW.out _ (arc j);have HT:=aq6 (PR ws k j);clear hc ad;go_wp2;go_round
   case rel=>exact⟨k+1,by omega,by go_num,by rw[HT.out]⟩
   case measure=>simp[intOf];omega
  ·obtain rfl:k=ws.length:=by omega
   rw[arW]at al am|-;have D:(aC ws==0)=false:=(by simp;omega);go_wp2
   go_region
   ·have n:=((RowI.made w ws.length).alloc (Obj.cells (madeCells #[.int .i64 0] ws.length) 3)).drew;have u:=(RowI.made (w.alloc (Obj.cells (madeCells #[.int .i64 0] ws.length) 3)) ws.length).drew;have I:Below w.heap.size w ((w.alloc (Obj.cells (madeCells #[.int .i64 0] ws.length) 3)).alloc (Obj.cells (madeCells #[.int .i64 0] ws.length) 3)).drew:=below_drewN (ew (bF w _) _) 1;rw[arn]at u;obtain⟨z,PU⟩:∃z,z=w.heap.size:=⟨_,rfl⟩
    obtain⟨J,Dt⟩:∃J,J=w.heap.size+1:=⟨_,rfl⟩
    have D:z≠J:=(by omega);have Bj:w.heap.size<=z:=(by omega);have T:w.heap.size<=J:=(by omega);rw[<-Dt]at u|-;rw[<-PU]at n|-;clear PU Dt;generalize ((w.alloc (Obj.cells (madeCells #[.int .i64 0] ws.length) 3)).alloc (Obj.cells (madeCells #[.int .i64 0] ws.length) 3)).drew=W at n u I|-;go_wp2
    go_loopw [11,12] (fun m i wr=>∃k:Nat,k<=ws.length/\i=.int .i64 k/\m=.int .i64 (total-aC ((cR total ws).take k))/\RowI wr z (upto (cR total ws) ws.length k)/\RowI wr J (upto (kH total ws) ws.length k)/\Below w.heap.size w wr) (fun _ i _=>ws.length-(intOf i).toNat)
    case atStart=>exact⟨0,by omega,rfl,by simp[aC],by rw[Jx];exact n,by rw[Jx];exact u,I⟩
    case round=>
     clear n u I;obtain⟨k,S,rfl,rfl,n,u,I⟩:=hrel;have U:=PS (total:=total) (ws:=ws) h0 (fun x E=>(HW.out x E).1) hs;have L:(cR total ws).length=ws.length:=(by simp[cR]);have V:(kH total ws).length=ws.length:=(by simp[kH]);have Bk:0<=aC ((cR total ws).take k):=(kV (l:=(cR total ws).take k) (B:=aC ((cR total ws).take k)) (fun x E=>⟨U x (arD E),En (fun y hy=>U y (arD hy)) E⟩)).1;have ja:aC ((cR total ws).take k)<=total:=by have e:=congrArg aC (asP k (cR total ws));rw[Hq]at e;have d0:0<=aC ((cR total ws).drop k):=(kV (l:=(cR total ws).drop k) (B:=aC ((cR total ws).drop k)) (fun x E=>⟨U x (List.mem_of_mem_drop E),En (fun y hy=>U y (List.mem_of_mem_drop hy)) E⟩)).1;have:=Ns (total:=total) hs;omega
     by_cases j:k<ws.length
     ·obtain⟨b,ae,rfl,hb,hc⟩:=(h.below I).at_ j;have c0:=hc 0 _ rfl;simp only[ara,arU]at c0;clear hc;obtain⟨⟨y1,y2⟩,y3,y4,y5,y6⟩:=XA h0 h1 HW.out hs j;have HT:=aq6 (XE (cR total ws) k (by rw[L];exact j));have e1:=XB (total:=total) j;have e2:=XC (total:=total) j;have od:=aq6 e1;have fP:=n.frozen k;have fR:=u.frozen k;have zP:=n.cell (i:=k) (by rw[Bi _ _ _ L S];exact j);have zR:=u.cell (i:=k) (by rw[Bi _ _ _ V S];exact j);have N:=(n.set (i:=k) (by rw[Bi _ _ _ L S];exact j) ((cR total ws).getD k 0)).far (p:=⟨J,k,none⟩) D (.int .i64 ((kH total ws).getD k 0));have Q:=(u.far (p:=⟨z,k,none⟩) (fun e=>D e.symm) (.int .i64 ((cR total ws).getD k 0))).set (i:=k) (by rw[Bi _ _ _ V S];exact j) ((kH total ws).getD k 0)
      rw[PQ _ _ _ L j,e1,e2]at N;rw[PQ _ _ _ V j,e1,e2]at Q;have X:=(gS (gS I Bj k (.int .i64 (total*ws[k]/aC ws))) T k (.int .i64 (total*ws[k]%aC ws)))
      have GC:=aq6 N.drew;have Hr:=aq6 Q.drew;have PV:=aq6 (below_drewN X 1);clear N Q e1 e2 X;go_wp2
      go_region
      have N:=GC.out;have Q:=Hr.out;have X:Below w.heap.size w ((wr.setCell ⟨z,k,none⟩ (.int .i64 (total*ws[k]/aC ws))).setCell ⟨J,k,none⟩ (.int .i64 (total*ws[k]%aC ws))).drew:=PV.out;generalize ((wr.setCell ⟨z,k,none⟩ (.int .i64 (total*ws[k]/aC ws))).setCell ⟨J,k,none⟩ (.int .i64 (total*ws[k]%aC ws))).drew=W2 at N Q X|-;have zQ:=N.cell (i:=k) (by rw[Bi _ _ _ L j];exact j);rw[XD _ _ _ j L,od.out]at zQ;clear GC Hr PV n u I zP zR fP fR c0;go_wp2;go_roundw
      case rel=>exact⟨k+1,by omega,by go_num,by rw[HT.out,od.out];congr 1;omega,N,Q,X⟩
      case measure=>simp[intOf];omega
     ·obtain rfl:k=ws.length:=by omega
      rw[Jy _ _ L]at n;rw[Jy _ _ V]at u;rw[ar0 (by omega)]at Bk ja|-;have G:=Fl.start (total:=total) (ws:=ws) h0 HW.out hs;have zE:total-aC (cR total ws)=(mR total ws).toNat:=(by unfold mR;omega);rw[zE];generalize (mR total ws).toNat=M at G;generalize cR total ws=P0 at G n;generalize kH total ws=R0 at G u;clear zE Bk ja U L V;go_wp2
      go_loopw [11] (fun mv O=>∃(m:Nat) (P R:List Int),mv=.int .i64 m/\m<=1000000000/\Fl total ws m P R/\RowI O z P/\RowI O J R/\Below w.heap.size w O) (fun mv _=>(intOf mv).toNat)
      case atStart=>exact⟨M,P0,R0,rfl,by have:=G.sum;have:=(kV (l:=P0) (B:=aC P0) (fun x E=>⟨G.pos x E,En G.pos E⟩)).1;omega,G,n,u,I⟩
      case round=>
       rename World=>w2
       clear G n u I;obtain⟨m,P,R,rfl,Nr,G,n,u,I⟩:=hrel;have Hs:=aq6 G;have PW:=G.lp;have PX:=G.lr;clear G;rcases m with _|m
       ·go_wp2
        go_loop [15] (fun i=>i=.int .i64 0) (fun _=>0)
        case atStart=>rfl
        case round=>
        subst hrel;go_wp2;go_ret2;have:=Hs.out.eq;rw[Cr]at this;rw[<-this];exact⟨z,rfl,Bj,n,I⟩
       ·have an:(0:Int)<((m+1:Nat):Int):=(by omega);have zG:=aq6 PW;have Y:=aq6 PX;clear PW PX;go_wp2
        go_loopw [13,14] (fun bv i PY=>∃k q:Nat,k+1<=ws.length/\i=.int .i64 ((k:Int)+1)/\bv=.int .i64 (kI R k)/\Hid (PY=w2.drewN q)) (fun _ i _=>ws.length-(intOf i).toNat)
        case atStart=>exact⟨0,0,by omega,rfl,rfl,rfl⟩
        case round=>
         obtain⟨k,q,S,rfl,rfl,K⟩:=hrel;have XH:(k:Int)+1<=1000:=(by omega);have XI:=TZ R k;have Z:RowI wr J R:=(by rw[K.out];exact u.drewN q);by_cases j:k+1<ws.length
         ·have z1:=Z.cell (i:=k+1) (by rw[Y.out];exact j);have z2:=Z.cell (i:=kI R k) (by rw[Y.out];omega);have kW:kI R k<ws.length:=(by omega);have br:kI R (k+1)=if R.getD (kI R k) 0<R.getD (k+1) 0 then k+1 else kI R k:=rfl
          have Eo:=aq6 br;clear br;generalize XJ:kI R k=bt at*;generalize R.getD bt 0=x1 at*;generalize R.getD (k+1) 0=x2 at*;clear XJ;by_cases E:x1<x2
          ·go_wp2;go_quiet(fail);go_wp2;go_roundw
           case rel=>exact⟨k+1,q+nq,by omega,by go_num,by rw[Eo.out,aq9 E];go_num,by show wr.drewN nq=w2.drewN (q+nq);rw[K.out,World.drewN_drewN]⟩
           case measure=>simp[intOf];omega
          ·go_wp2;go_quiet(fail);go_wp2;go_roundw
           case rel=>
            have ax:∃k' q':Nat,k'+1<=ws.length/\Value.int .i64 ((k:Int)+1+1)=.int .i64 ((k':Int)+1)/\Value.int .i64 (bt:Int)=.int .i64 (kI R k')/\Hid (wr.drewN nq=w2.drewN q'):=⟨k+1,q+nq,by omega,by go_num,by rw[Eo.out,aq8 (by omega)],by show wr.drewN nq=w2.drewN (q+nq);rw[K.out,World.drewN_drewN]⟩
            first|exact ax|((repeat apply Exists.intro);exact⟨ax,rfl⟩)
           case measure=>simp[intOf];omega
         ·have Fo:k=R.length-1:=(by have:=Y.out;omega);have PZ:kI R k=dJ R:=(by rw[Fo];rfl);have ab:=PT (r:=R) (by rw[Y.out];exact nX);have P1:dJ R<ws.length:=(by have:=Y.out;omega);rw[PZ]at XI|-;have Fp:RowI wr z P:=(by rw[K.out];exact n.drewN q);have bz:Below w.heap.size w wr:=(by rw[K.out];exact below_drewN I q);have HN:=aq6 (Hs.out.next nX);obtain⟨p1,p2⟩:=Hs.out.le (dJ R);have zP:=Fp.cell (i:=dJ R) (by rw[zG.out];exact P1);have fP:=Fp.frozen (dJ R);have Du:=(Fp.set (i:=dJ R) (by rw[zG.out];exact P1) (P.getD (dJ R) 0+1)).far (p:=⟨J,dJ R,none⟩) D (.int .i64 (-1));have Cs:=(Z.far (p:=⟨z,dJ R,none⟩) (fun e=>D e.symm) (.int .i64 (P.getD (dJ R) 0+1))).set (i:=dJ R) ab (-1)
          have fR:(wr.setCell ⟨z,dJ R,none⟩ (.int .i64 (P.getD (dJ R) 0+1))).frozen? ⟨J,dJ R,none⟩=false:=(Z.far (p:=⟨z,dJ R,none⟩) (fun e=>D e.symm) (.int .i64 (P.getD (dJ R) 0+1))).frozen (dJ R);have zR:=(Z.far (p:=⟨z,dJ R,none⟩) (fun e=>D e.symm) (.int .i64 (P.getD (dJ R) 0+1))).cell (i:=dJ R) ab;have XK:=aq6 Du;have XL:=aq6 Cs;have XM:=aq6 (gS (gS bz Bj (dJ R) (.int .i64 (P.getD (dJ R) 0+1))) T (dJ R) (.int .i64 (-1)));clear Du Cs PZ Fo Hs;generalize Ct:dJ R=bq at*;generalize P.getD bq 0=pq at*;have ao:¬(k:Int)+1<(ws.length:Int):=(by omega);clear Ct;go_wp2;go_roundw
          case rel=>exact⟨m,_,_,by go_num,by omega,HN.out,XK.out,XL.out,XM.out⟩
          case measure=>simp[intOf]
   ·have u:=((RowI.made w ws.length).alloc (Obj.cells (madeCells #[.int .i64 0] ws.length) 3)).drew;have n:=(RowI.made (w.alloc (Obj.cells (madeCells #[.int .i64 0] ws.length) 3)) ws.length).drew;have I:Below w.heap.size w ((w.alloc (Obj.cells (madeCells #[.int .i64 0] ws.length) 3)).alloc (Obj.cells (madeCells #[.int .i64 0] ws.length) 3)).drew:=below_drewN (ew (bF w _) _) 1;rw[arn]at n;obtain⟨J,Dt⟩:∃J,J=w.heap.size:=⟨_,rfl⟩
    obtain⟨z,PU⟩:∃z,z=w.heap.size+1:=⟨_,rfl⟩
    have D:z≠J:=(by omega);have Bj:w.heap.size<=z:=(by omega);have T:w.heap.size<=J:=(by omega);rw[<-PU]at n|-;rw[<-Dt]at u|-;clear PU Dt;generalize ((w.alloc (Obj.cells (madeCells #[.int .i64 0] ws.length) 3)).alloc (Obj.cells (madeCells #[.int .i64 0] ws.length) 3)).drew=W at n u I|-;go_wp2
    go_loopw [11,12] (fun m i wr=>∃k:Nat,k<=ws.length/\i=.int .i64 k/\m=.int .i64 (total-aC ((cR total ws).take k))/\RowI wr z (upto (cR total ws) ws.length k)/\RowI wr J (upto (kH total ws) ws.length k)/\Below w.heap.size w wr) (fun _ i _=>ws.length-(intOf i).toNat)
    case atStart=>exact⟨0,by omega,rfl,by simp[aC],by rw[Jx];exact n,by rw[Jx];exact u,I⟩
    case round=>
     clear n u I;obtain⟨k,S,rfl,rfl,n,u,I⟩:=hrel;have U:=PS (total:=total) (ws:=ws) h0 (fun x E=>(HW.out x E).1) hs;have L:(cR total ws).length=ws.length:=(by simp[cR]);have V:(kH total ws).length=ws.length:=(by simp[kH]);have Bk:0<=aC ((cR total ws).take k):=(kV (l:=(cR total ws).take k) (B:=aC ((cR total ws).take k)) (fun x E=>⟨U x (arD E),En (fun y hy=>U y (arD hy)) E⟩)).1;have ja:aC ((cR total ws).take k)<=total:=by have e:=congrArg aC (asP k (cR total ws));rw[Hq]at e;have d0:0<=aC ((cR total ws).drop k):=(kV (l:=(cR total ws).drop k) (B:=aC ((cR total ws).drop k)) (fun x E=>⟨U x (List.mem_of_mem_drop E),En (fun y hy=>U y (List.mem_of_mem_drop hy)) E⟩)).1;have:=Ns (total:=total) hs;omega
     by_cases j:k<ws.length
     ·obtain⟨b,ae,rfl,hb,hc⟩:=(h.below I).at_ j;have c0:=hc 0 _ rfl;simp only[ara,arU]at c0;clear hc;obtain⟨⟨y1,y2⟩,y3,y4,y5,y6⟩:=XA h0 h1 HW.out hs j;have HT:=aq6 (XE (cR total ws) k (by rw[L];exact j));have e1:=XB (total:=total) j;have e2:=XC (total:=total) j;have od:=aq6 e1;have fP:=n.frozen k;have fR:=u.frozen k;have zP:=n.cell (i:=k) (by rw[Bi _ _ _ L S];exact j);have zR:=u.cell (i:=k) (by rw[Bi _ _ _ V S];exact j);have N:=(n.set (i:=k) (by rw[Bi _ _ _ L S];exact j) ((cR total ws).getD k 0)).far (p:=⟨J,k,none⟩) D (.int .i64 ((kH total ws).getD k 0));have Q:=(u.far (p:=⟨z,k,none⟩) (fun e=>D e.symm) (.int .i64 ((cR total ws).getD k 0))).set (i:=k) (by rw[Bi _ _ _ V S];exact j) ((kH total ws).getD k 0)
      rw[PQ _ _ _ L j,e1,e2]at N;rw[PQ _ _ _ V j,e1,e2]at Q;have X:=(gS (gS I Bj k (.int .i64 (total*ws[k]/aC ws))) T k (.int .i64 (total*ws[k]%aC ws)))
      have GC:=aq6 N.drew;have Hr:=aq6 Q.drew;have PV:=aq6 (below_drewN X 1);clear N Q e1 e2 X;go_wp2
      go_region
      have N:=GC.out;have Q:=Hr.out;have X:Below w.heap.size w ((wr.setCell ⟨z,k,none⟩ (.int .i64 (total*ws[k]/aC ws))).setCell ⟨J,k,none⟩ (.int .i64 (total*ws[k]%aC ws))).drew:=PV.out;generalize ((wr.setCell ⟨z,k,none⟩ (.int .i64 (total*ws[k]/aC ws))).setCell ⟨J,k,none⟩ (.int .i64 (total*ws[k]%aC ws))).drew=W2 at N Q X|-;have zQ:=N.cell (i:=k) (by rw[Bi _ _ _ L j];exact j);rw[XD _ _ _ j L,od.out]at zQ;clear GC Hr PV n u I zP zR fP fR c0;go_wp2;go_roundw
      case rel=>exact⟨k+1,by omega,by go_num,by rw[HT.out,od.out];congr 1;omega,N,Q,X⟩
      case measure=>simp[intOf];omega
     ·obtain rfl:k=ws.length:=by omega
      rw[Jy _ _ L]at n;rw[Jy _ _ V]at u;rw[ar0 (by omega)]at Bk ja|-;have G:=Fl.start (total:=total) (ws:=ws) h0 HW.out hs;have zE:total-aC (cR total ws)=(mR total ws).toNat:=(by unfold mR;omega);rw[zE];generalize (mR total ws).toNat=M at G;generalize cR total ws=P0 at G n;generalize kH total ws=R0 at G u;clear zE Bk ja U L V;go_wp2
      go_loopw [11] (fun mv O=>∃(m:Nat) (P R:List Int),mv=.int .i64 m/\m<=1000000000/\Fl total ws m P R/\RowI O z P/\RowI O J R/\Below w.heap.size w O) (fun mv _=>(intOf mv).toNat)
      case atStart=>exact⟨M,P0,R0,rfl,by have:=G.sum;have:=(kV (l:=P0) (B:=aC P0) (fun x E=>⟨G.pos x E,En G.pos E⟩)).1;omega,G,n,u,I⟩
      case round=>
       rename World=>w2
       clear G n u I;obtain⟨m,P,R,rfl,Nr,G,n,u,I⟩:=hrel;have Hs:=aq6 G;have PW:=G.lp;have PX:=G.lr;clear G;rcases m with _|m
       ·go_wp2
        go_loop [15] (fun i=>i=.int .i64 0) (fun _=>0)
        case atStart=>rfl
        case round=>
        subst hrel;go_wp2;go_ret2;have:=Hs.out.eq;rw[Cr]at this;rw[<-this];exact⟨z,rfl,Bj,n,I⟩
       ·have an:(0:Int)<((m+1:Nat):Int):=(by omega);have zG:=aq6 PW;have Y:=aq6 PX;clear PW PX;go_wp2
        go_loopw [13,14] (fun bv i PY=>∃k q:Nat,k+1<=ws.length/\i=.int .i64 ((k:Int)+1)/\bv=.int .i64 (kI R k)/\Hid (PY=w2.drewN q)) (fun _ i _=>ws.length-(intOf i).toNat)
        case atStart=>exact⟨0,0,by omega,rfl,rfl,rfl⟩
        case round=>
         obtain⟨k,q,S,rfl,rfl,K⟩:=hrel;have XH:(k:Int)+1<=1000:=(by omega);have XI:=TZ R k;have Z:RowI wr J R:=(by rw[K.out];exact u.drewN q);by_cases j:k+1<ws.length
         ·have z1:=Z.cell (i:=k+1) (by rw[Y.out];exact j);have z2:=Z.cell (i:=kI R k) (by rw[Y.out];omega);have kW:kI R k<ws.length:=(by omega);have br:kI R (k+1)=if R.getD (kI R k) 0<R.getD (k+1) 0 then k+1 else kI R k:=rfl
          have Eo:=aq6 br;clear br;generalize XJ:kI R k=bt at*;generalize R.getD bt 0=x1 at*;generalize R.getD (k+1) 0=x2 at*;clear XJ;by_cases E:x1<x2
          ·go_wp2;go_quiet(fail);go_wp2;go_roundw
           case rel=>exact⟨k+1,q+nq,by omega,by go_num,by rw[Eo.out,aq9 E];go_num,by show wr.drewN nq=w2.drewN (q+nq);rw[K.out,World.drewN_drewN]⟩
           case measure=>simp[intOf];omega
          ·go_wp2;go_quiet(fail);go_wp2;go_roundw
           case rel=>
            have ax:∃k' q':Nat,k'+1<=ws.length/\Value.int .i64 ((k:Int)+1+1)=.int .i64 ((k':Int)+1)/\Value.int .i64 (bt:Int)=.int .i64 (kI R k')/\Hid (wr.drewN nq=w2.drewN q'):=⟨k+1,q+nq,by omega,by go_num,by rw[Eo.out,aq8 (by omega)],by show wr.drewN nq=w2.drewN (q+nq);rw[K.out,World.drewN_drewN]⟩
            first|exact ax|((repeat apply Exists.intro);exact⟨ax,rfl⟩)
           case measure=>simp[intOf];omega
         ·have Fo:k=R.length-1:=(by have:=Y.out;omega);have PZ:kI R k=dJ R:=(by rw[Fo];rfl);have ab:=PT (r:=R) (by rw[Y.out];exact nX);have P1:dJ R<ws.length:=(by have:=Y.out;omega);rw[PZ]at XI|-;have Fp:RowI wr z P:=(by rw[K.out];exact n.drewN q);have bz:Below w.heap.size w wr:=(by rw[K.out];exact below_drewN I q);have HN:=aq6 (Hs.out.next nX);obtain⟨p1,p2⟩:=Hs.out.le (dJ R);have zP:=Fp.cell (i:=dJ R) (by rw[zG.out];exact P1);have fP:=Fp.frozen (dJ R);have Du:=(Fp.set (i:=dJ R) (by rw[zG.out];exact P1) (P.getD (dJ R) 0+1)).far (p:=⟨J,dJ R,none⟩) D (.int .i64 (-1));have Cs:=(Z.far (p:=⟨z,dJ R,none⟩) (fun e=>D e.symm) (.int .i64 (P.getD (dJ R) 0+1))).set (i:=dJ R) ab (-1)
          have fR:(wr.setCell ⟨z,dJ R,none⟩ (.int .i64 (P.getD (dJ R) 0+1))).frozen? ⟨J,dJ R,none⟩=false:=(Z.far (p:=⟨z,dJ R,none⟩) (fun e=>D e.symm) (.int .i64 (P.getD (dJ R) 0+1))).frozen (dJ R);have zR:=(Z.far (p:=⟨z,dJ R,none⟩) (fun e=>D e.symm) (.int .i64 (P.getD (dJ R) 0+1))).cell (i:=dJ R) ab;have XK:=aq6 Du;have XL:=aq6 Cs;have XM:=aq6 (gS (gS bz Bj (dJ R) (.int .i64 (P.getD (dJ R) 0+1))) T (dJ R) (.int .i64 (-1)));clear Du Cs PZ Fo Hs;generalize Ct:dJ R=bq at*;generalize P.getD bq 0=pq at*;have ao:¬(k:Int)+1<(ws.length:Int):=(by omega);clear Ct;go_wp2;go_roundw
          case rel=>exact⟨m,_,_,by go_num,by omega,HN.out,XK.out,XL.out,XM.out⟩
          case measure=>simp[intOf]
theorem aj.take{z:Type}{n:z->List Value}{k:Nat}{w:World}{B:Nat}{A:Option Addr}{xs:List z}(h:aj n k w B A xs)(i:Nat):aj n k w B A (xs.take i):=fun r=>by
 have D:xs≠[]:=by intro e;subst e;simp at r
 obtain⟨b,y,e,E,G⟩:=h D;refine⟨b,y,e,E,fun j x p l u I=>G j x ?_ l u I⟩;rw[asK]at p;split at p
 ·exact p
 ·cases p
theorem abQ{P:Program}{X:Type}{l:X->List Value}{k:Nat}{e:TypeId}{W:World}{base B:Nat}{v:Value}{r n:List X}{A:Option Addr}{m:Nat}(t L:TypeId)(c bytes:Nat)(z:Value)
  (BV:(P.info? e).map (fun i=>(i.zero,i.size,i.bytes))=some (some z,k,bytes)) (Y:P.underlying t=some (.slice e))
  (p:Own l k e W base v r) (M:aj l k W B A n) (N:∀x,(l x).length=k) (Z:0<k) (O:z.cells.size=k) (h1:∀y,∀u∈l y,u.oneCell'=true)
  (D:r.length+n.length<=4294967296) (Q:bytes<=1024) (E:base<=W.heap.size) (hm:m=n.length):
  ∃I w',(Builtin.append_ #[t,t] L #[v,.slice A m c]).run P W=.ok I w'/\Own l k e w' base I (r++n)/\W.grownBy w' v.ownBlock:=by
 subst hm;obtain⟨i,hi,hz,R,hb⟩:=info_parts BV;have hl:(n.flatMap l).length=n.length*k:=by
  clear M D
  induction n with
  |nil=>simp
  |cons y n ih=>rw[ar9,arl,ih,N,ars,Nat.succ_mul];omega
 have kW:(r.length+n.length)*bytes<=140737488355328:=by have:(r.length+n.length)*bytes<=4294967296*1024:=Nat.mul_le_mul D Q;omega
 have Dv:∀u∈n.flatMap l,u.oneCell'=true:=by intro u hu;obtain⟨y,_,hy⟩:=List.mem_flatMap.1 hu;exact h1 y u hy
 rcases A with _|ad
 ·have Ep:n=[]:=by
   rcases n with _|⟨y,n⟩
   ·rfl
   ·obtain⟨b,G,S,_⟩:=M (by simp);cases S
  subst Ep;exact⟨v,W,XN (P:=P) W base t L e i k Y hi v r.length (r.flatMap l) p c,by simpa using p,ft _ _⟩
 ·have P2:∀j u,(n.flatMap l)[j]?=some u->W.cell? (ad.add j)=some u:=by
   intro j u hu;have hj:j<n.length*k:=(by rw[<-hl];exact(arG.1 hu).1);have T:n≠[]:=(by intro e;subst e;simp at hj);obtain⟨b,G,U,hb,hc⟩:=M T;injection U with S
   subst S;have pC:(⟨b,G,none⟩:Addr).add j=⟨b,G+j,none⟩:=by unfold Addr.add;split<;>simp_all
   rw[pC];have V:j/k<n.length:=Nat.div_lt_of_lt_mul (by rw[Nat.mul_comm];exact hj);have Dw:j%k<k:=Nat.mod_lt _ Z;have hy:=aro V;have he:(l n[j/k])[j%k]?=some ((l n[j/k])[j%k]'(by rw[N];exact Dw)):=aro _
   have J:=Ht N n (j/k) (j%k) _ _ hy he;have K:=hc _ _ hy _ _ he;have h4:j/k*k+j%k=j:=(by rw[Nat.mul_comm];exact Nat.div_add_mod j k);rw[h4,hu]at J;rw[Nat.add_assoc,h4]at K;rw[K,<-J]
  obtain⟨I,w',hr,J,K,_⟩:=run_append_own_at (P:=P) W base t L e i z k bytes Y hi hz R hb O Z v r.length (r.flatMap l) p ad n.length c (n.flatMap l) hl P2 Dv (by unfold maxLen;omega) kW E;refine⟨I,w',hr,?_,K⟩;unfold Own;rw[arl,asQ];exact J
section
variable {P:Program}{ops:Array Oper}{md:Region.Mode}{C:World->Prop}
def nE(P:Program)(ops:Array Oper)(C:World->Prop)(o:Oper)(v:Value)(a:Act):Prop:=
 (Region.wanted o (yielded ops a.tmps)=true/\∀w,C w->o.quietAt P a (fun e=>C e/\Below w.heap.size w e) w v)\/
 (Region.wanted o (yielded ops a.tmps)=false/\v=undef)
theorem nE.of_same{o:Oper}{v:Value}{a a':Act}(hy:nE P ops C o v a)(e:execOp a'.eval o=execOp a.eval o)
  (j:Region.wanted o (yielded ops a'.tmps)=Region.wanted o (yielded ops a.tmps)):nE P ops C o v a':=by
 unfold nE Oper.quietAt at*;rw[e,j];exact hy
def Cu(o:Oper)(a:Act)(K:Act->World->Prop):Result Next->Prop
 |.ok (.value v) w'=>K (a.put o.dst v) w'
 |.ok .skip w'=>K (a.put o.dst undef) w'
 |_=>False
def Fq(P:Program)(ops:Array Oper)(i:Nat)(K:Act->World->Prop)(a:Act)(w:World):Prop:=
 match ops[i]?with
 |none=>K a w
 |some o=>if Region.wanted o (yielded ops a.tmps)then Cu o a K ((execOp a.eval o).run P w)else K (a.put o.dst undef) w
def im(P:Program)(ops:Array Oper)(C:World->Prop)(i:Nat)(K:Act->World->Prop)(a:Act)(w:World):Prop:=
 (∃o v,ops[i]?=some o/\nE P ops C o v a/\∀e,C e->Below w.heap.size w e->K (a.put o.dst v) e)\/Fq P ops i K a w
theorem JA{i:Nat}{a:Act}{w:World}{K n:Act->World->Prop}(h:∀a w,K a w->n a w)(hh:im P ops C i K a w):im P ops C i n a w:=by
 rcases hh with⟨o,v,p,u,y⟩|hh
 ·exact .inl ⟨o,v,p,u,fun e c b=>h _ _ (y e c b)⟩
 ·right;unfold Fq at*;split
  ·rename_i j;simp only[j]at hh;exact h _ _ hh
  ·rename_i o j;simp only[j]at hh;split
   ·rename_i l;simp only[l,arI]at hh;generalize (execOp a.eval o).run P w=r at*;unfold Cu at*;split
    ·exact h _ _ hh
    ·exact h _ _ hh
    ·rename_i z B;split at hh
     ·exact absurd rfl (z _ _)
     ·exact absurd rfl (B _)
     ·exact hh
   ·rename_i l;simp only[l]at hh;exact h _ _ hh
theorem T1{i:Nat}{a:Act}{w:World}{K:Act->World->Prop}{Q:Exit->Act->World->Prop}(z:C w)(hh:im P ops C i K a w):wpOp P ops Q i K a w:=by
 rcases hh with⟨o,v,G,I,B⟩|hh
 ·unfold wpOp;simp only[G];rcases I with⟨l,hy⟩|⟨l,rfl⟩
  ·simp only[l,arI];left;have p:=hy w z;unfold Oper.quietAt at p;unfold Oper.wp;generalize (execOp a.eval o).run P w=r at*;cases r with
   |ok n w'=>
    cases n<;>simp only[Oper.quietUpon]at p<;>simp only[Oper.upon]
    case value u=>obtain⟨y,D⟩:=p;rw[y,D];exact B _ z (arb _ _)
    case skip=>obtain⟨y,D⟩:=p;rw[y,<-D];exact B _ z (arb _ _)
    case enter f args=>obtain⟨y,J⟩:=p;rw[y];exact J.mono fun e L ⟨M,j⟩=>by subst M;exact B _ j.1 j.2
   |halt x w'=>simp only[Oper.quietUpon]at p
  ·simp only[l,ar1,arK];exact B _ z (arb _ _)
 ·unfold Fq at hh;unfold wpOp;split
  ·rename_i E;simp only[E]at hh;exact hh
  ·rename_i o E;simp only[E]at hh;split
   ·rename_i l;simp only[l,arI]at hh;left;unfold Oper.wp;generalize (execOp a.eval o).run P w=r at*;unfold Cu at hh;split at hh
    ·exact hh
    ·exact hh
    ·exact absurd hh id
   ·rename_i l;simp only[l]at hh;exact hh
theorem T3{j:Nat}{e l:Oper}{v:Value}(B:ops[j]?=some l)(D:e.apart ops l=true)
  (L:∀E b,e.op≠.select E b) (n:∀E b,l.op≠.select E b) {K:Act->World->Prop} {a:Act} {w:World}
  (hy:nE P ops C e v a) (h:im P ops C j K (a.put e.dst v) w):
  im P ops C j (fun a' w'=>nE P ops C e v a'/\K (a'.put e.dst v) w') a w:=by
 obtain⟨p,y,J⟩:=Oper.apart_spec D;have keep:∀u,nE P ops C e v (a.put l.dst u):=fun u=>hy.of_same (execOp_put e L a l.dst u J) (wanted_put e a l.dst u J);rcases h with⟨o,u,z,M,N⟩|h
 ·rw[B]at z;injection z with z
  subst z;refine .inl ⟨l,u,B,M.of_same (execOp_put l n a e.dst v p).symm (wanted_put l a e.dst v p).symm,fun G c b=>⟨keep u,?_⟩⟩;rw[<-asx a v u y];exact N G c b
 ·right;unfold Fq at*;simp only[B]at*;rw[wanted_put l a e.dst v p]at h;split
  ·rename_i I;simp only[I,arI]at h;rw[execOp_put l n a e.dst v p]at h;generalize (execOp a.eval l).run P w=r at*;unfold Cu at*;split
   ·refine⟨keep _,?_⟩;rw[<-asx a v _ y];exact h
   ·refine⟨keep _,?_⟩;rw[<-asx a v _ y];exact h
   ·rename_i O Q;split at h
    ·exact absurd rfl (O _ _)
    ·exact absurd rfl (Q _)
    ·exact h
  ·rename_i I;simp only[I]at h;exact⟨keep _,by rw[<-asx a v undef y];exact h⟩
def cG(P:Program)(md:Region.Mode)(ops:Array Oper)(C:World->Prop)(Q:Act->World->Prop):Nat->Array Bool->Act->World->Prop
 |0,e,a,w=>∀w',C w'->Below w.heap.size w w'->Region.ready md ops e=[]/\Q a w'
 |fuel+1,e,a,w=>∀w',C w'->Below w.heap.size w w'->
  (Region.ready md ops e=[]->Q a w')/\
  ∀i∈Region.ready md ops e,im P ops C i (fun l j=>C j/\cG P md ops C Q fuel (e.setIfInBounds i true) l j) a w'
theorem Dx{Q:Act->World->Prop}:∀{n:Nat} {e:Array Bool} {a:Act} {w l:World},cG P md ops C Q n e a w->Below w.heap.size w l->cG P md ops C Q n e a l
 |0,_,_,_,_,h,j=>fun w' c b=>h w' c (j.trans (b.mono j.size))
 |_+1,_,_,_,_,h,j=>fun w' c b=>h w' c (j.trans (b.mono j.size))
theorem Hu{Q:Act->World->Prop}{Q':Exit->Act->World->Prop}(l:∀a w,Q a w->Q' .normal a w):∀(fuel:Nat) (e:Array Bool) (a:Act) (w:World),C w->cG P md ops C Q fuel e a w->wpAny P md ops Q' fuel e a w
 |0,_,_,w,j,h=>⟨(h w j (arb _ _)).1,l _ _ (h w j (arb _ _)).2⟩
 |fuel+1,_,_,w,j,h=>⟨fun p=>l _ _ ((h w j (arb _ _)).1 p),fun i hi=>T1 j (JA (fun a' w' n=>Hu l fuel _ a' w' n.1 n.2) ((h w j (arb _ _)).2 i hi))⟩
theorem Nu{Q:Act->World->Prop}{i:Nat}{r:Oper}{v:Value}(hi:ops[i]?=some r)(R:∀(j:Nat) (o:Oper) D b,ops[j]?=some o->o.op≠.select D b):
  ∀(n:Nat) (l:Array Bool) (a:Act) (w:World),
   (∀j y,ops[j]?=some y->j≠i->l.getD j true=false->(∀e∈y.after,Region.binds md e=true->e.on≠i)->r.apart ops y=true)->
   i∈Region.ready md ops l->nE P ops C r v a->
   cG P md ops C Q n (l.setIfInBounds i true) (a.put r.dst v) w->cG P md ops C Q (n+1) l a w:=by
 intro n
 induction n with
 |zero=>
  intro l a w _ z hy H w' J p;refine⟨fun h=>(by rw[h]at z;cases z),fun j I=>?_⟩;by_cases u:j=i
  ·subst u;exact .inl ⟨r,v,hi,hy,fun K c b=>⟨c,Dx H (p.trans (b.mono p.size))⟩⟩
  ·have:=ready_mono I u;rw[(H w' J p).1]at this;cases this
 |succ n X=>
  intro l a w S z hy H w' J p;refine⟨fun h=>(by rw[h]at z;cases z),fun j I=>?_⟩;by_cases u:j=i
  ·subst u;exact .inl ⟨r,v,hi,hy,fun K c b=>⟨c,Dx H (p.trans (b.mono p.size))⟩⟩
  ·have B:=(H w' J p).2 j (ready_mono I u);obtain⟨T,y,L,E⟩:=mem_ready.1 I;have Y:∀e∈y.after,Region.binds md e=true->e.on≠i:=fun e Z p M=>by
    have B:=E e Z p;have U:=(mem_ready.1 z).1;rw[M]at B;rcases arp i l.size with h'|h'
    ·simp[h']at U B;rw[U]at B;cases B
    ·simp[asR h']at B
   have h2:=T3 L (S j y L u T Y) (fun D b=>R i r D b hi) (fun D b=>R j y D b L) hy B;have P3:∀k ok,ops[k]?=some ok->k≠i->(l.setIfInBounds j true).getD k true=false->
     (∀e∈ok.after,Region.binds md e=true->e.on≠i)->r.apart ops ok=true:=fun k ok hk gK V N=>by
    refine S k ok hk gK ?_ N;by_cases G:j=k
    ·subst G;exact T
    ·rw[getD_set_ne true G]at V;exact V
   refine JA (fun a' w1 O=>⟨O.2.1,X (l.setIfInBounds j true) a' w1 P3 (ready_mono z (Ne.symm u)) O.1 ?_⟩) h2;rw[Array.setIfInBounds_comm _ _ u];exact O.2.2
def Lj(md:Region.Mode)(ops:Array Oper):Nat->Nat->Array Bool->Bool
 |0,_,_=>true
 |n+1,k,e=>(Region.ready md ops e).contains k&&Region.free md ops e k&&Lj md ops n (k+1) (e.setIfInBounds k true)
def Nw:Nat->Nat->Array Bool->Array Bool
 |0,_,e=>e
 |n+1,k,e=>Nw n (k+1) (e.setIfInBounds k true)
def Er(P:Program)(ops:Array Oper)(C:World->Prop)(e:Act)(val:Oper->Value):List Oper->Act->Prop
 |[],a=>a=e
 |o::r,a=>nE P ops C o (val o) a/\Er P ops C e val r (a.put o.dst (val o))
theorem XP{Q:Act->World->Prop}{p:Act}{val:Oper->Value}(r:Region.noSelect ops=true){m:Nat}{w:World}:∀(l:List Oper) (k:Nat) (e:Array Bool) (a:Act),(∀j,j<l.length->l[j]?=ops[k+j]?)->
  Lj md ops l.length k e=true->Er P ops C p val l a->cG P md ops C Q m (Nw l.length k e) p w->cG P md ops C Q (m+l.length) e a w
 |[],_,_,_,_,_,h,n=>by cases h;exact n
 |o::l,k,e,a,u,y,h,n=>by
  have z:ops[k]?=some o:=by simpa using(u 0 (by simp)).symm
  simp only[ars,Lj,arw]at y;obtain⟨⟨B,D⟩,E⟩:=y;exact Nu z (Region.noSelect_spec r) (m+l.length) e a w (Region.free_spec z D) (by simpa using B) h.1
   (XP r l (k+1) _ _ (fun j G=>by have:=u (j+1) (by simpa using G);simpa[Nat.add_assoc,Nat.add_comm 1 j]using this) E h.2 n)
end
def fW(F:World->Prop):Prop:=∀w w',F w->Below w.heap.size w w'->F w'
structure jZ(W:World)(F:World->Prop) where
 w':World
 h:Below W.heap.size W w'
 f:F w'
section
variable {P:Program}{W:World}{F:World->Prop}
theorem jZ.cell{a:Addr}{v:Value}(e:a.block<W.heap.size)(h:W.cell? a=some v)(p:jZ W F):p.w'.cell? a=some v:=(p.h.cell e).trans h
theorem jZ.call{f:FuncId}{args:Array Value}{v:Value}(hF:fW F)(p:jZ W F)(h:Calls P f args p.w' fun e w'=>e=.returned v/\Below p.w'.heap.size p.w' w'):
  Calls P f args p.w' fun e j=>e=.returned v/\∃q:jZ W F,j=q.w':=
 h.mono fun _ j ⟨n,l⟩=>⟨n,⟨j,p.h.trans (l.mono p.h.size),hF _ _ p.f l⟩,rfl⟩
end
def Bn(e:Act)(o:Oper):Value:=(o.dst.bind (e.tmps[·]?)).getD undef
def j0(n:Nat):List Oper->Bool
 |[]=>true
 |o::r=>(match o.dst with|some d=>decide (d<n)&&r.all (fun e=>e.dst !=some d)|none=>false)&&j0 n r
section
variable {P:Program}{ops:Array Oper}
theorem P5{a:Act}{d e:Nat}{v:Value}(h:e≠d):(a.put (some e) v).tmps[d]?=a.tmps[d]?:=by show(a.tmps.setIfInBounds e v)[d]?=_;rw[Array.getElem?_setIfInBounds_ne h]
theorem T4{a:Act}{d:Nat}{v:Value}(h:d<a.tmps.size):(a.put (some d) v).tmps[d]?=some v:=by show(a.tmps.setIfInBounds d v)[d]?=_;rw[Array.getElem?_setIfInBounds_self_of_lt h]
theorem Nx(a:Act)(d:Option Nat)(v:Value):(a.put d v).tmps.size=a.tmps.size:=by
 cases d with
 |none=>rfl
 |some d=>show(a.tmps.setIfInBounds d v).size=_;simp
theorem JF{C:World->Prop}{j:Act}{d:Nat}:∀(l:List Oper) (a:Act),l.all (fun y=>y.dst !=some d)=true->(∀o∈l,o.dst≠none)->wpQuiet P ops C (fun a'=>a'=j) l a->j.tmps[d]?=a.tmps[d]?
 |[],a,_,_,h=>by rw[show a=j from h]
 |o::l,a,hd,n,h=>by
  simp only[List.all_cons,arw,bne_iff_ne,ne_eq]at hd;obtain⟨e,p⟩:=asX.1 (n o (by simp));have u:e≠d:=fun x=>hd.1 (by rw[p,x]);unfold wpQuiet at h;split at h
  ·obtain⟨v,_,z⟩:=h;rw[JF l _ hd.2 (fun o r=>n o (by simp[r])) z,p,P5 u]
  ·rw[JF l _ hd.2 (fun o r=>n o (by simp[r])) h,p,P5 u]
theorem Hv{n:Nat}:∀{l:List Oper},j0 n l=true->∀o∈l,o.dst≠none
 |[],_,o,j=>by cases j
 |x::r,h,o,j=>by
  simp only[j0,arw]at h;rcases arF.1 j with e|e
  ·subst e;intro p;rw[p]at h;cases h.1
  ·exact Hv h.2 o e
theorem XQ{W:World}{z:Act}:∀(l:List Oper) (a:Act),j0 a.tmps.size l=true->(∀F:World->Prop,fW F->Inhabited (jZ W F)->wpQuiet P ops (fun w'=>∃p:jZ W F,w'=p.w') (fun a'=>a'=z) l a)->
  Er P ops (fun w'=>Below W.heap.size W w') z (Bn z) l a
 |[],a,_,H=>H (fun _=>True) (fun _ _ _ _=>trivial) ⟨⟨W,arb _ _,trivial⟩⟩
 |o::l,a,hd,H=>by
  have Q:=hd;simp only[j0,arw]at hd;obtain⟨I,L⟩:=hd;obtain⟨d,D⟩:=asX.1 (Hv Q o (by simp));rw[D]at I;simp only[arw,arz]at I;have R:=Hv L;have E:∀v,j0 (a.put o.dst v).tmps.size l=true:=fun v=>by rw[Nx];exact L
  have B:∀(C:World->Prop) (v:Value),wpQuiet P ops C (fun a'=>a'=z) l (a.put o.dst v)->Bn z o=v:=fun C v h=>by have y:=JF (d:=d) l _ I.2 R h;rw[D,T4 I.1]at y;unfold Bn;rw[D];simp[y]
  by_cases J:Region.wanted o (yielded ops a.tmps)=true
  ·have G:∀F:World->Prop,fW F->Inhabited (jZ W F)->(∀w,(∃p:jZ W F,w=p.w')->o.quietAt P a (fun w'=>∃p:jZ W F,w'=p.w') w (Bn z o))/\wpQuiet P ops (fun w'=>∃p:jZ W F,w'=p.w') (fun a'=>a'=z) l (a.put o.dst (Bn z o)):=by
    intro F hF j;have h:=H F hF j;unfold wpQuiet at h;rw[aq9 J]at h;obtain⟨v,y,M⟩:=h;rw[B _ v M];exact⟨y,M⟩
   refine⟨.inl ⟨J,fun w N=>?_⟩,XQ l _ (E _) (fun F hF j=>(G F hF j).2)⟩;have y:=(G (fun w'=>Below w.heap.size w w') (fun Y Z O S=>O.trans (S.mono O.size)) ⟨⟨w,N,arb _ _⟩⟩).1 w ⟨⟨w,N,arb _ _⟩,rfl⟩;unfold Oper.quietAt at*;generalize (execOp a.eval o).run P w=r at*;cases r with
   |ok n w'=>
    cases n<;>simp only[Oper.quietUpon]at y|-
    case value u=>exact y
    case skip=>exact y
    case enter f args=>exact⟨y.1,y.2.mono fun e T ⟨U,p,V⟩=>⟨U,by rw[V];exact⟨p.h,p.f⟩⟩⟩
   |halt x w'=>simp only[Oper.quietUpon]at y
  ·have K:Region.wanted o (yielded ops a.tmps)=false:=(by simpa using J);have G:∀F:World->Prop,fW F->Inhabited (jZ W F)->wpQuiet P ops (fun w'=>∃p:jZ W F,w'=p.w') (fun a'=>a'=z) l (a.put o.dst undef):=by
    intro F hF j;have h:=H F hF j;unfold wpQuiet at h;rw[aq8 J]at h;exact h
   have X:=B _ undef (G (fun _=>True) (fun _ _ _ _=>trivial) ⟨⟨W,arb _ _,trivial⟩⟩);rw[Er,X];exact⟨.inr ⟨K,rfl⟩,XQ l _ (E _) G⟩
theorem ahI{id:Nat}{Q:Exit->Act->World->Prop}{a aE:Act}{W:World}{l r:List Oper}{m:Nat}(u:P.follows .mixedOrders=true)(y:Region.noSelect (l++r).toArray=true)(z:m=r.length)
  (B:Lj .any (l++r).toArray l.length 0 (Array.replicate (l++r).length false)=true) (hd:j0 a.tmps.size l=true)
  (H:∀F:World->Prop,fW F->Inhabited (jZ W F)->wpQuiet P (l++r).toArray (fun w'=>∃p:jZ W F,w'=p.w') (fun a'=>a'=aE) l a)
  (M:cG P .any (l++r).toArray (fun w'=>Below W.heap.size W w') (fun a w=>Q .normal a w) m (Nw l.length 0 (Array.replicate (l++r).length false)) aE W):(Code.region id (l++r).toArray true).wp P Q a W:=by
 refine wp_region_any u ?_;have D:=XP (md:=.any) y l 0 (Array.replicate (l++r).length false) a (fun j E=>by simp[asJ E]) B (XQ l a hd H) M;have n:=Hu (Q':=Q) (fun _ _ h=>h) _ _ _ {W with drawn:=W.drawn+1} (show Below W.heap.size W {W with drawn:=W.drawn+1}from below_drewN (arb _ _) 1) (Dx D (below_drewN (arb W.heap.size W) 1));have e:m+l.length=(l++r).length:=by rw[z];simp;omega
 rw[e]at n;simpa using n
theorem ahJ{id:Nat}{Q:Exit->Act->World->Prop}{a aE:Act}{W:World}{L:List Oper}(n m:Nat)(u:P.follows .mixedOrders=true)(y:Region.noSelect L.toArray=true)(D:n+m=L.length)
  (z:Lj .any L.toArray n 0 (Array.replicate L.length false)=true) (hd:j0 a.tmps.size (L.take n)=true)
  (H:∀F:World->Prop,fW F->Inhabited (jZ W F)->wpQuiet P L.toArray (fun w'=>∃p:jZ W F,w'=p.w') (fun a'=>a'=aE) (L.take n) a)
  (M:∀j:Act->World->Prop,(∀a w,Q .normal a w->j a w)->cG P .any L.toArray (fun w'=>Below W.heap.size W w') j m (Nw n 0 (Array.replicate L.length false)) aE W):(Code.region id L.toArray true).wp P Q a W:=by
 have e:=asP n L;have el:(L.take n).length=n:=by simp;omega
 have B:m=(L.drop n).length:=by simp;omega
 have h:=ahI (id:=id) (Q:=Q) (a:=a) (aE:=aE) (W:=W) (l:=L.take n) (r:=L.drop n) (m:=m) u;rw[e,el]at h;exact h y B z hd H (M _ fun _ _ h=>h)
theorem bL{md:Region.Mode}{C:World->Prop}{Q:Act->World->Prop}{n:Nat}{j:Array Bool}{a:Act}{w:World}(l:List Nat)(hr:Region.ready md ops j=l)(p:l≠[])
  (h:∀w',C w'->Below w.heap.size w w'->∀i∈l,im P ops C i (fun u r=>C r/\cG P md ops C Q n (j.setIfInBounds i true) u r) a w'):cG P md ops C Q (n+1) j a w:=by
 subst hr;exact fun w' c b=>⟨fun e=>absurd e p,h w' c b⟩
theorem kp{md:Region.Mode}{C:World->Prop}{Q:Act->World->Prop}{e:Array Bool}{a:Act}{w:World}(hr:Region.ready md ops e=[])(h:∀w',C w'->Below w.heap.size w w'->Q a w'):cG P md ops C Q 0 e a w:=
 fun w' c b=>⟨hr,h w' c b⟩
theorem Ny{C:World->Prop}{i:Nat}{o:Oper}{K:Act->World->Prop}{a:Act}{w:World}(e:ops[i]?=some o)(j:Region.wanted o (yielded ops a.tmps)=true)(h:Cu o a K ((execOp a.eval o).run P w)):im P ops C i K a w:=by right;unfold Fq;simp only[e,j,arI];exact h
theorem bD{C:World->Prop}{i:Nat}{o:Oper}{K:Act->World->Prop}{a:Act}{w:World}(v:Value)(j:World)(l:ops[i]?=some o)(n:Region.wanted o (yielded ops a.tmps)=true)(e:(execOp a.eval o).run P w=.ok (.value v) j)(h:K (a.put o.dst v) j):im P ops C i K a w:=
 Ny l n (by rw[e];exact h)
theorem eT{C:World->Prop}{i:Nat}{o:Oper}{K:Act->World->Prop}{a:Act}{w:World}(j:World)(l:ops[i]?=some o)(n:Region.wanted o (yielded ops a.tmps)=true)(e:(execOp a.eval o).run P w=.ok .skip j)(h:K (a.put o.dst undef) j):im P ops C i K a w:=
 Ny l n (by rw[e];exact h)
end
theorem abR(n:Int)(w:World):Calls prog 138 #[.int .i64 n] w fun e w'=>e=.returned (.bool (bG n 1000000000))/\w=w':=by
 by_cases l:0<=n<;>by_cases p:n<=1000000000
 all_goals
  have j:bG n 1000000000=(decide (0<=n)&&decide (n<=1000000000)):=by simp[bG]
  have r:=aq6 j;clear j;go_enter func138,ntmps138;go_wp2;go_ret;exact⟨by rw[r.out];simp[l,p],rfl⟩
theorem ahK(A:Option Addr)(n:Nat)(j:List Int)(w:World)(B:Nat)(h:aj encI 1 w B A j)(E:j.length<=1000000)(p:∀x∈j,0<=x/\x<=1000000000):
  Calls prog 139 #[.slice A j.length n] w fun e w'=>e=.returned (.bool true)/\w=w':=by
 have u:=aq6 p;clear p;go_enter func139,ntmps139;go_wp2
 go_loop [3] (fun i=>∃k:Nat,k<=j.length/\i=.int .i64 k) (fun i=>j.length-(intOf i).toNat)
 case atStart=>exact⟨0,by omega,rfl⟩
 case round=>
  obtain⟨k,G,rfl⟩:=hrel;by_cases l:k<j.length
  ·obtain⟨b,y,rfl,I,r⟩:=h.at_ l;have z:=r 0 _ rfl;simp only[ara,arU]at z;have D:bG j[k] 1000000000=true:=gT.2 (u.out _ (arc l));clear r;go_wp2_with fail;refine(abR _ _).mono ?_;rintro e w' ⟨rfl,rfl⟩;rw[D];go_wp2;go_round
   case rel=>exact⟨k+1,by omega,by go_num⟩
   case measure=>simp[intOf];omega
  ·go_wp2;go_ret;exact⟨rfl,rfl⟩
theorem abS(s:cm)(w:World)(h:mA s):Calls prog 137 #[Dy s] w fun e w'=>e=.returned (.bool true)/\Below w.heap.size w w':=by
 obtain⟨l,B,D,E,G,I,J,f0,f1,u0,u1,r,u⟩:=h;have n:s.code.size<=maxLen:=by simp only[bI,arw,arz]at l;exact arq l.1.1.2 (by unfold maxLen;omega)
 have y:=T5 r u;unfold Dy;go_enter func137,ntmps137;go_wp2_with fail;refine(Bo _ _ n).mono ?_;rintro e K ⟨rfl,j⟩;have p:=(ah.new w 123 #[.string s.code,.int .i64 s.az,.int .i64 s.aS,.int .i64 s.floor,.int .i64 s.dw,.int .i64 s.unit,.int .i64 s.mode,.bool s.cA]).aa j;obtain⟨L,M,N,O,Q,R,S,T⟩:=p.cz8;have z:=aB (bF w _) j;rw[l];clear p j;go_wp2_with fail;refine(BX _ _).mono ?_;rintro e w' ⟨rfl,rfl⟩;rw[y];go_wp2;go_ret;exact⟨rfl,z⟩
theorem ahL(s:cm)(b:Int)(w:World):Calls prog 180 #[Dy s,.int .i64 b] w fun e w'=>e=.returned (Hw (bA s b))/\Below w.heap.size w w':=by
 unfold Dy;go_enter func180,ntmps180;go_wp2_with(go_at_call 178;refine(XR _ _ _ _ _ _).mono ?_;rintro e w' ⟨rfl,rfl⟩);refine art (v:=Hw (bA s b)) (by simp[results,results180,go_sem,Hw,bA]) rfl ⟨rfl,?_⟩
 repeat(refine gS ?_ (by omega) _ _)
 exact ew (bF _ _) _
theorem ahM(s:cm)(A:Option Addr)(D:Nat)(j:List Int)(w:World)(h:aj encI 1 w w.heap.size A j)(hl:j.length<=54)(p:∀x∈j,0<=x/\x<=8000000000)(E:mA s):
  Calls prog 181 #[Dy s,.slice A j.length D] w fun e w'=>e=.returned (.int .i64 (cP s j))/\Below w.heap.size w w':=by
 have z:=aq6 p;clear p;have T:=E.c0;have G:=E.c1;have eF:0<=(j.length:Int)*s.dw:=arH (by omega) (by omega);have jO:(j.length:Int)*s.dw<=54*1000000000:=asm (by omega) G (by omega) (by omega);clear E;unfold Dy;go_enter func181,ntmps181;go_wp2;have M:=ah.new w 123 #[.string s.code,.int .i64 s.az,.int .i64 s.aS,.int .i64 s.floor,.int .i64 s.dw,.int .i64 s.unit,.int .i64 s.mode,.bool s.cA];have hS:=h.below (bF w (.cells #[.string s.code,.int .i64 s.az,.int .i64 s.aS,.int .i64 s.floor,.int .i64 s.dw,.int .i64 s.unit,.int .i64 s.mode,.bool s.cA] 123));have N:=bF w (.cells #[.string s.code,.int .i64 s.az,.int .i64 s.aS,.int .i64 s.floor,.int .i64 s.dw,.int .i64 s.unit,.int .i64 s.mode,.bool s.cA] 123);generalize w.alloc (Obj.cells _ _)=W at M hS N|-
 go_loopw [5,6] (fun U i wr=>∃k q:Nat,k<=j.length/\i=.int .i64 k/\U=.int .i64 (kJ s (j.take k))/\Hid (wr=W.drewN q)) (fun _ i _=>j.length-(intOf i).toNat)
 case atStart=>exact⟨0,0,by omega,rfl,rfl,rfl⟩
 case round=>
  obtain⟨k,q,hk,rfl,rfl,u⟩:=hrel;have O:ah wr w.heap.size 123 #[.string s.code,.int .i64 s.az,.int .i64 s.aS,.int .i64 s.floor,.int .i64 s.dw,.int .i64 s.unit,.int .i64 s.mode,.bool s.cA]:=by rw[u.out];exact M.drewN q
  have I:aj encI 1 wr w.heap.size A j:=by rw[u.out];exact hS
  have V:Below w.heap.size w wr:=by rw[u.out];exact below_drewN N q
  have J:=XS (s:=s) (l:=j.take k) (fun x p=>(z.out x (arD p)).1);have K:=XT (s:=s) (l:=j.take k) (fun x p=>(z.out x (arD p)).1);have y:=(kV (l:=j.take k) (B:=8000000000) (fun x p=>z.out x (arD p))).2;simp only[ar7]at y;have L:kJ s (j.take k)<=432000000000:=by omega
  obtain⟨z0,z1,z2,z3,z4,z5,z6,z7⟩:=O.cz8;clear O K y;by_cases r:k<j.length
  ·obtain⟨b,X,rfl,hb,Q⟩:=I.at_ r;have Y:=Q 0 _ rfl;simp only[ara,arU]at Y;have R:=aq6 (abT s j k r);obtain⟨x0,x1⟩:=z.out _ (arc r);clear Q;by_cases Z:s.floor<=j[k]
   ·go_wp2;go_quiet(fail);go_wp2;go_roundw
    case rel=>exact⟨k+1,q+nq,by omega,by go_num,by rw[R.out,aq9 Z],by show wr.drewN nq=W.drewN (q+nq);rw[u.out,World.drewN_drewN]⟩
    case measure=>simp[intOf];omega
   ·go_wp2;go_quiet(fail);go_wp2;go_roundw
    case rel=>
     have S:∃k' q':Nat,k'<=j.length/\Value.int .i64 ((k:Int)+1)=.int .i64 k'/\Value.int .i64 (kJ s (j.take k))=.int .i64 (kJ s (j.take k'))/\Hid (wr.drewN nq=W.drewN q'):=⟨k+1,q+nq,by omega,by go_num,by rw[R.out,aq8 (by omega)];congr 1;omega,by show wr.drewN nq=W.drewN (q+nq);rw[u.out,World.drewN_drewN]⟩
     first|exact S|((repeat apply Exists.intro);exact⟨S,rfl⟩)
    case measure=>simp[intOf];omega
  ·obtain rfl:k=j.length:=by omega
   rw[ar0 (by omega)]at J L|-;go_wp2
   all_goals go_ret;refine⟨?_,V⟩;rw[cP];exact congrArg (fun n:Int=>Ending.returned (.int .i64 n)) (by omega)
theorem abU(s:cm)(A:Option Addr)(n l:Nat)(j:List Int)(w:World)(p:n=j.length)(h:aj encI 1 w w.heap.size A j)(r:j.length<=54)(u:∀x∈j,0<=x/\x<=8000000000)(y:mA s):
  Calls prog 181 #[.agg #[.string s.code,.int .i64 s.az,.int .i64 s.aS,.int .i64 s.floor,.int .i64 s.dw,.int .i64 s.unit,.int .i64 s.mode,.bool s.cA],.slice A n l] w fun e w'=>e=.returned (.int .i64 (cP s j))/\Below w.heap.size w w':=by
 subst p;exact ahM s A l j w h r u y
theorem ahN(s:cm)(b:Int)(w:World):Calls prog 180 #[.agg #[.string s.code,.int .i64 s.az,.int .i64 s.aS,.int .i64 s.floor,.int .i64 s.dw,.int .i64 s.unit,.int .i64 s.mode,.bool s.cA],.int .i64 b] w fun e w'=>e=.returned (.agg #[.int .i64 (bA s b).base,.int .i64 (bA s b).az,.int .i64 (bA s b).aS])/\Below w.heap.size w w':=ahL s b w
theorem ahO(s:cm)(A:Option Addr)(y:Nat)(j:List Int)(w:World)(h:aj encI 1 w w.heap.size A j)(hl:j.length<=54)(G:0<j.length)(P8:j.length<=y)(D:∀x∈j,0<=x/\x<=8000000000)(hs:mA s):
  Calls prog 140 #[Dy s,.slice A j.length y] w fun e w'=>e=.returned (Hw (jB s j))/\Below w.heap.size w w':=by
 have HX:=aq6 D;clear D;have HS:=aq6 hs;clear hs;have ad:j≠[]:=by intro e;subst e;simp at G
 have af:((0<=(bA s (cP s j)).az/\(bA s (cP s j)).az<=60000000000)/\(0<=(bA s (cP s j)).aS/\(bA s (cP s j)).aS<=60000000000)/\(0<=(bA s (cP s j.dropLast)).az/\(bA s (cP s j.dropLast)).az<=60000000000)/\(0<=(bA s (cP s j.dropLast)).aS/\(bA s (cP s j.dropLast)).aS<=60000000000)/\(0<=(bA s (cP s j)).base/\(bA s (cP s j)).base<=60000000000)/\(0<=(bA s (cP s j.dropLast)).base/\(bA s (cP s j.dropLast)).base<=60000000000)):=by have ai:∀x∈j,0<=x:=fun x D=>(HX.out x D).1;obtain⟨c0,c1⟩:=Hx HS.out ai hl;obtain⟨d0,d1⟩:=Hx (s:=s) (l:=j.dropLast) HS.out (fun x D=>ai x ((asS j).subset D)) (by simp;omega);obtain⟨_,_,f1,f2,f3,f4,f5⟩:=Hy HS.out c0 (by omega:cP s j<=500000000000);obtain⟨_,_,g1,g2,g3,g4,g5⟩:=Hy HS.out d0 (by omega:cP s j.dropLast<=500000000000);rw[f1,g1];omega
 have Ia:=aq6 af;clear af ad;obtain⟨ab,Lk,rfl,an,XU⟩:=h.at_ G;clear XU;obtain⟨m,hm⟩:∃m,j.length=m:=⟨j.length,rfl⟩
 have HL:=aq6 hl;have HM:=aq6 hm;rw[hm]at P8|-;have ao:m<=54:=by omega
 have Cw:0<m:=by omega
 clear hm G hl;unfold Dy;go_enter func140,ntmps140;go_wp2_with fail;have hB:=(ah.new w 123 #[.string s.code,.int .i64 s.az,.int .i64 s.aS,.int .i64 s.floor,.int .i64 s.dw,.int .i64 s.unit,.int .i64 s.mode,.bool s.cA]).alloc (.cells #[.int .i64 0,.int .i64 0,.int .i64 0] 142);have hR:=ah.new (w.alloc (.cells #[.string s.code,.int .i64 s.az,.int .i64 s.aS,.int .i64 s.floor,.int .i64 s.dw,.int .i64 s.unit,.int .i64 s.mode,.bool s.cA] 123)) 142 #[.int .i64 0,.int .i64 0,.int .i64 0];have ae:=ew (bF w (.cells #[.string s.code,.int .i64 s.az,.int .i64 s.aS,.int .i64 s.floor,.int .i64 s.dw,.int .i64 s.unit,.int .i64 s.mode,.bool s.cA] 123)) (.cells #[.int .i64 0,.int .i64 0,.int .i64 0] 142);rw[arn]at hR;generalize (w.alloc (Obj.cells #[.string s.code,.int .i64 s.az,.int .i64 s.aS,.int .i64 s.floor,.int .i64 s.dw,.int .i64 s.unit,.int .i64 s.mode,.bool s.cA] 123)).alloc (Obj.cells #[.int .i64 0,.int .i64 0,.int .i64 0] 142)=W at hB hR ae|-;have hS:=h.aa ae;have E:w.heap.size<W.heap.size:=hB.lt;have XV:w.heap.size+1<W.heap.size:=hR.lt;have hD:aj encI 1 W W.heap.size (some ⟨ab,Lk,none⟩) j.dropLast:=by rw[List.dropLast_eq_take];exact hS.take _
 have JG:Hid (m-1=j.dropLast.length):=by have:=HM.out;simp[Hid];omega
 have XW:Hid (∀x∈j.dropLast,0<=x/\x<=8000000000):=fun x D=>HX.out x ((asS j).subset D);obtain⟨z0,z1,z2,z3,z4,z5,z6,z7⟩:=hB.cz8;have GD:=aq6 hS;have Gy:=aq6 hD;clear hS hD h;have Bp:¬y=0:=by omega
 have ap:IntKind.i64.wrap ((m:Int)-1)=(m:Int)-1:=by rw[IntKind.wrap_i64];omega
 have XX:=XY ab Lk m y ((m:Int)-1) (m-1) (by omega) (by omega) Bp;refine ahJ (aE:=?aE) 14 4 (by kernel_rfl) (by kernel_rfl) rfl (by kernel_rfl) (by rfl) ?H ?M
 case H=>
  intro F hF am;simp only[List.take_succ_cons,List.take_zero];have e0:=jZ.cell (F:=F) (a:=⟨w.heap.size,0,none⟩) (by exact E) z0;have e1:=jZ.cell (F:=F) (a:=⟨w.heap.size,1,none⟩) (by exact E) z1;have e2:=jZ.cell (F:=F) (a:=⟨w.heap.size,2,none⟩) (by exact E) z2;have e3:=jZ.cell (F:=F) (a:=⟨w.heap.size,3,none⟩) (by exact E) z3;have e4:=jZ.cell (F:=F) (a:=⟨w.heap.size,4,none⟩) (by exact E) z4;have e5:=jZ.cell (F:=F) (a:=⟨w.heap.size,5,none⟩) (by exact E) z5;have e6:=jZ.cell (F:=F) (a:=⟨w.heap.size,6,none⟩) (by exact E) z6;have e7:=jZ.cell (F:=F) (a:=⟨w.heap.size,7,none⟩) (by exact E) z7
  repeat(first|go_big_quiet_step((first|(go_at_call 180;exact jZ.call hF _ (ahN s _ _))|with_reducible exact jZ.call hF _ (abU s _ _ _ j _ HM.out.symm (GD.out.aa (jZ.h _)) HL.out HX.out HS.out)|with_reducible exact jZ.call hF _ (abU s _ _ _ j.dropLast _ JG.out (Gy.out.aa (jZ.h _)) (by rw[<-JG.out];omega) XW.out HS.out))))
  refine wpQuiet_nil ?_;rfl
 case M=>
  intro Q0 bM;refine bL [14,15] (by kernel_rfl) (by simp) ?_;intro r aV av i hi;simp only[bS,bT,ard]at hi;rcases hi with rfl|rfl
  ·refine bD (.pointer (some ⟨r.heap.size,0,none⟩)) (r.alloc (.cells #[.int .i64 0,.int .i64 0,.int .i64 0] 142)) rfl rfl (by go_simp) ⟨ew aV _,?_⟩;have hA:=ah.new r 142 #[.int .i64 0,.int .i64 0,.int .i64 0];refine bL [15] (by kernel_rfl) (by simp) ?_;intro p gv I i hi;simp only[bS,bT,ard]at hi;subst hi;have dK:=hA.aa I;refine bD (.pointer (some ⟨p.heap.size,0,none⟩)) (p.alloc (.cells #[.int .i64 0,.int .i64 0,.int .i64 0] 142)) rfl rfl (by go_simp) ⟨ew gv _,?_⟩;have cS:=dK.alloc (.cells #[.int .i64 0,.int .i64 0,.int .i64 0] 142);have bz:=ah.new p 142 #[.int .i64 0,.int .i64 0,.int .i64 0];have al:=dK.lt;have P9:r.heap.size≠p.heap.size:=(by omega);have J:W.heap.size<=r.heap.size:=aV.size;have K:W.heap.size<=p.heap.size:=gv.size;clear hA dK;refine bL [16] (by kernel_rfl) (by simp) ?_;intro w4 lF u i hi;simp only[bS,bT,ard]at hi;subst hi;have z:=cS.aa u;have dc:=bz.aa u;obtain⟨L,N,O⟩:=z.cz3;obtain⟨Q,R,S⟩:=z.fz3;refine eT (((w4.setCell ⟨r.heap.size,0,none⟩ (.int .i64 (bA s (cP s j)).base)).setCell ⟨r.heap.size,1,none⟩ (.int .i64 (bA s (cP s j)).az)).setCell ⟨r.heap.size,2,none⟩ (.int .i64 (bA s (cP s j)).aS)) rfl rfl (by go_simp) ⟨?_,?_⟩
   ·exact iJ (iJ (iJ lF J 0 _) J 1 _) J 2 _
   have T:=z.fill (dO (bA s (cP s j))) rfl;have U:=dc.Lq (g':=r.heap.size) (fun e=>P9 e.symm) (dO (bA s (cP s j))) 0;simp only[iq,dO,ark,Nat.reduceAdd]at T U;clear L N O Q R S z dc cS bz;refine bL [17] (by kernel_rfl) (by simp) ?_;intro w5 bC V i hi;simp only[bS,bT,ard]at hi;subst hi;have Qa:=T.aa V;have B:=U.aa V;obtain⟨L,N,O⟩:=B.cz3;obtain⟨Q,R,S⟩:=B.fz3;refine eT (((w5.setCell ⟨p.heap.size,0,none⟩ (.int .i64 (bA s (cP s j.dropLast)).base)).setCell ⟨p.heap.size,1,none⟩ (.int .i64 (bA s (cP s j.dropLast)).az)).setCell ⟨p.heap.size,2,none⟩ (.int .i64 (bA s (cP s j.dropLast)).aS)) rfl rfl (by go_simp) ⟨?_,?_⟩
   ·exact iJ (iJ (iJ bC K 0 _) K 1 _) K 2 _
   have X:=B.fill (dO (bA s (cP s j.dropLast))) rfl;have Y:=Qa.Lq (g':=p.heap.size) P9 (dO (bA s (cP s j.dropLast))) 0;simp only[iq,dO,ark,Nat.reduceAdd]at Y X;clear L N O Q R S Qa B T U;refine kp (by kernel_rfl) ?_;intro w6 fX Z;have Fu:=Y.aa Z;have fk:=X.aa Z;obtain⟨x0,x1,x2⟩:=Fu.cz3;obtain⟨y0,y1,y2⟩:=fk.cz3;have dX:=hR.below fX XV;obtain⟨r0,r1,r2⟩:=dX.cz3;obtain⟨oH,oI,oJ⟩:=dX.fz3;apply bM;clear Fu fk Y X Z V u bC lF z0 z1 z2 z3 z4 z5 z6 z7;obtain⟨⟨u0,u1⟩,⟨u2,u3⟩,⟨u4,u5⟩,⟨u6,u7⟩,⟨u8,u9⟩,u10,u11⟩:=Ia.out;go_wp2;have n:=dX.fill (dO (jB s j)) rfl;have ax:=Ls (g:=w.heap.size+1) (by omega) (dO (jB s j)) 0 (aB ae fX);simp only[iq,dO,jB,Ic,ark,Nat.reduceAdd]at n ax;generalize World.setCell _ _ _=WW at n ax|-;obtain⟨Qb,Qc,Qd⟩:=n.cz3;refine art (v:=Hw (jB s j)) (by simp[results,results140,go_sem,Qb,Qc,Qd,Hw,jB,Ic]) rfl ⟨rfl,ax⟩
  ·refine bD (.pointer (some ⟨r.heap.size,0,none⟩)) (r.alloc (.cells #[.int .i64 0,.int .i64 0,.int .i64 0] 142)) rfl rfl (by go_simp) ⟨ew aV _,?_⟩;have hB:=ah.new r 142 #[.int .i64 0,.int .i64 0,.int .i64 0];refine bL [14] (by kernel_rfl) (by simp) ?_;intro p gv I i hi;simp only[bS,bT,ard]at hi;subst hi;have aD:=hB.aa I;refine bD (.pointer (some ⟨p.heap.size,0,none⟩)) (p.alloc (.cells #[.int .i64 0,.int .i64 0,.int .i64 0] 142)) rfl rfl (by go_simp) ⟨ew gv _,?_⟩;have bz:=aD.alloc (.cells #[.int .i64 0,.int .i64 0,.int .i64 0] 142);have cS:=ah.new p 142 #[.int .i64 0,.int .i64 0,.int .i64 0];have al:=aD.lt;have P9:p.heap.size≠r.heap.size:=(by omega);have J:W.heap.size<=p.heap.size:=gv.size;have K:W.heap.size<=r.heap.size:=aV.size;clear hB aD;refine bL [16] (by kernel_rfl) (by simp) ?_;intro w4 lF u i hi;simp only[bS,bT,ard]at hi;subst hi;have z:=cS.aa u;have dc:=bz.aa u;obtain⟨L,N,O⟩:=z.cz3;obtain⟨Q,R,S⟩:=z.fz3;refine eT (((w4.setCell ⟨p.heap.size,0,none⟩ (.int .i64 (bA s (cP s j)).base)).setCell ⟨p.heap.size,1,none⟩ (.int .i64 (bA s (cP s j)).az)).setCell ⟨p.heap.size,2,none⟩ (.int .i64 (bA s (cP s j)).aS)) rfl rfl (by go_simp) ⟨?_,?_⟩
   ·exact iJ (iJ (iJ lF J 0 _) J 1 _) J 2 _
   have T:=z.fill (dO (bA s (cP s j))) rfl;have U:=dc.Lq (g':=p.heap.size) (fun e=>P9 e.symm) (dO (bA s (cP s j))) 0;simp only[iq,dO,ark,Nat.reduceAdd]at T U;clear L N O Q R S z dc cS bz;refine bL [17] (by kernel_rfl) (by simp) ?_;intro w5 bC V i hi;simp only[bS,bT,ard]at hi;subst hi;have Qa:=T.aa V;have B:=U.aa V;obtain⟨L,N,O⟩:=B.cz3;obtain⟨Q,R,S⟩:=B.fz3;refine eT (((w5.setCell ⟨r.heap.size,0,none⟩ (.int .i64 (bA s (cP s j.dropLast)).base)).setCell ⟨r.heap.size,1,none⟩ (.int .i64 (bA s (cP s j.dropLast)).az)).setCell ⟨r.heap.size,2,none⟩ (.int .i64 (bA s (cP s j.dropLast)).aS)) rfl rfl (by go_simp) ⟨?_,?_⟩
   ·exact iJ (iJ (iJ bC K 0 _) K 1 _) K 2 _
   have X:=B.fill (dO (bA s (cP s j.dropLast))) rfl;have Y:=Qa.Lq (g':=r.heap.size) P9 (dO (bA s (cP s j.dropLast))) 0;simp only[iq,dO,ark,Nat.reduceAdd]at Y X;clear L N O Q R S Qa B T U;refine kp (by kernel_rfl) ?_;intro w6 fX Z;have Fu:=Y.aa Z;have fk:=X.aa Z;obtain⟨x0,x1,x2⟩:=Fu.cz3;obtain⟨y0,y1,y2⟩:=fk.cz3;have dX:=hR.below fX XV;obtain⟨r0,r1,r2⟩:=dX.cz3;obtain⟨oH,oI,oJ⟩:=dX.fz3;apply bM;clear Fu fk Y X Z V u bC lF z0 z1 z2 z3 z4 z5 z6 z7;obtain⟨⟨u0,u1⟩,⟨u2,u3⟩,⟨u4,u5⟩,⟨u6,u7⟩,⟨u8,u9⟩,u10,u11⟩:=Ia.out;go_wp2;have n:=dX.fill (dO (jB s j)) rfl;have ax:=Ls (g:=w.heap.size+1) (by omega) (dO (jB s j)) 0 (aB ae fX);simp only[iq,dO,jB,Ic,ark,Nat.reduceAdd]at n ax;generalize World.setCell _ _ _=WW at n ax|-;obtain⟨Qb,Qc,Qd⟩:=n.cz3;refine art (v:=Hw (jB s j)) (by simp[results,results140,go_sem,Qb,Qc,Qd,Hw,jB,Ic]) rfl ⟨rfl,ax⟩
theorem Qe{w:World}{base g n j:Nat}{e:TypeId}{k:Nat}{L:List Value}(h:w.ownsRow base e k (.slice (some ⟨g,0,none⟩) n j) n L)(i:Nat)(u:Value):
  (w.setCell ⟨g,i,none⟩ u).ownsRow base e k (.slice (some ⟨g,0,none⟩) n j) n (L.set i u):=by
 obtain⟨z,B⟩:=h;refine⟨by simpa using z,?_⟩;rcases B with⟨p,_⟩|⟨N,y,r,p,D,E,G,I,J,K⟩
 ·cases p
 ·injection p with l O M
  injection l with l
  injection l with l _
  subst l M;refine .inr ⟨g,j,r.setIfInBounds i u,rfl,D,?_,G,I,by simpa using J,?_⟩
  ·simp[World.setCell,asy,E]
  ·rw[Array.toList_setIfInBounds,List.take_set,K]
theorem ahQ{B:Type}{e:B->List Value}(E:∀x,(e x).length=3)(y:B)(a b c:Value)(hy:e y=[a,b,c]):∀(u:List B) (j:Nat),j<u.length->(u.set j y).flatMap e=(((u.flatMap e).set (j*3) a).set (j*3+1) b).set (j*3+2) c:=by
 intro u
 induction u with
 |nil=>intro j D;simp at D
 |cons x r G=>
  intro j D;cases j with
  |zero=>
   obtain⟨l,n,p,z⟩:∃l n p,e x=[l,n,p]:=by
    have:=E x
    match z:e x,this with
    |[l,n,p],_=>exact⟨l,n,p,rfl⟩
   simp[hy,z]
  |succ j=>
   obtain⟨l,n,p,z⟩:∃l n p,e x=[l,n,p]:=by
    have:=E x
    match z:e x,this with
    |[l,n,p],_=>exact⟨l,n,p,rfl⟩
   rw[arv,ar9,ar9,G j (by simpa using D),z];rw[show(j+1)*3=j*3+3 by omega,show j*3+3+1=j*3+1+3 by omega,show j*3+3+2=j*3+2+3 by omega];simp
theorem ahR{n:Type}{e:n->List Value}(p:∀x,(e x).length=3)(j:List n):(j.flatMap e).length=j.length*3:=by
 induction j with
 |nil=>rfl
 |cons a l r=>rw[ar9,arl,p,r,ars];omega
theorem Own.abV{p:Type}{l:p->List Value}{e:TypeId}{w:World}{base g cap:Nat}{ys:List p}(r:∀x,(l x).length=3){n:Nat}(u:n=ys.length)(h:Own l 3 e w base (.slice (some ⟨g,0,none⟩) n cap) ys){j:Nat}(z:j<ys.length)(y:p)(a b c:Value)(hy:l y=[a,b,c]):
  Own l 3 e (((w.setCell ⟨g,j*3,none⟩ a).setCell ⟨g,j*3+1,none⟩ b).setCell ⟨g,j*3+2,none⟩ c) base (.slice (some ⟨g,0,none⟩) n cap) (ys.set j y):=by
 subst u;unfold Own;rw[ahQ r y a b c hy ys j z,List.length_set];exact Qe (Qe (Qe h _ _) _ _) _ _
theorem Own.some_{n:Type}{l:n->List Value}{k:Nat}{e:TypeId}{w:World}{base:Nat}{v:Value}{ys:List n}(h:Own l k e w base v ys)(p:0<ys.length):∃g cap j,v=.slice (some ⟨g,0,none⟩) ys.length cap/\base<=g/\ah w g e j/\ys.length<=cap/\cap<=maxLen:=by
 rcases h.2 with⟨_,B⟩|⟨g,cap,j,rfl,r,u,y,z,_⟩
 ·omega
 ·exact⟨g,cap,j,rfl,r,u,y,z⟩
theorem ahS(n:Nat):(madeCells #[Value.int .i64 0,.int .i64 0,.int .i64 0] (n*3)).toList=(List.replicate n jb).flatMap dO:=by
 have e:(List.replicate n jb).flatMap dO=List.replicate (n*3) (Value.int .i64 0):=by
  induction n with
  |zero=>rfl
  |succ n l=>rw[asB,ar9,l,show(n+1)*3=n*3+1+1+1 by omega,asB,asB,asB];rfl
 rw[e,List.eq_replicate_iff];refine⟨by simp[madeCells],fun b j=>?_⟩;simp only[madeCells]at j;simp at j;obtain⟨a,_,rfl⟩:=j;rcases(show a%3=0\/a%3=1\/a%3=2 by omega)with h|h|h<;>simp[h]
theorem abW(n:Nat)(r:n<=1000)(w:World):(Instr.makeSlice 138 (.int .i64 (n:Int)) (.int .i64 (n:Int))).run prog w=.ok (.slice (some ⟨w.heap.size,0,none⟩) n n) (w.alloc (.cells ((List.replicate n jb).flatMap dO).toArray 142)):=by obtain⟨i,hi,j,l,p⟩:=info_parts ahT;have e:=run_make (P:=prog) w 138 142 i _ underlying138 hi j .i64 .i64 (n:Int) (n:Int) (by omega) (asa _) (by rw[p];omega) (by omega);simp only[Int.toNat_natCast,l]at e;rw[e,<-ahS];rfl
def XZ(v:fY)(e:List Int)(i:Nat):fY:=⟨(eu v.base e).getD i 0,(eu v.az e).getD i 0,(eu v.aS e).getD i 0⟩
def GF(v:fY)(e:List Int)(n k:Nat):List fY:=(List.range n).map fun i=>if i<k then XZ v e i else jb
theorem Qf(v:fY)(e:List Int)(n k:Nat):(GF v e n k).length=n:=by simp[GF]
theorem ahU(v:fY)(e:List Int)(n:Nat):GF v e n 0=List.replicate n jb:=by rw[List.eq_replicate_iff];exact⟨Qf _ _ _ _,fun x j=>by obtain⟨i,_,rfl⟩:=arB.1 j;simp⟩
theorem ahV(v:fY)(j:List Int)(n k:Nat)(p:k<n):(GF v j n k).set k (XZ v j k)=GF v j n (k+1):=by
 apply List.ext_getElem?;intro i;rw[List.getElem?_set];simp only[GF,arV,List.length_range,asw];by_cases e:k=i
 ·subst e;simp[p]
 ·rw[aq8 e];by_cases hi:i<n
  ·rw[List.getElem?_range hi];simp only[Option.map_some];congr 1;by_cases l:i<k
   ·rw[aq9 l,aq9 (by omega)]
   ·rw[aq8 l,aq8 (by omega)]
  ·rw[List.getElem?_eq_none (by simp;omega)];rfl
theorem ahW(v:fY)(e:List Int)(h:aC e≠0):GF v e e.length e.length=lG v e:=by rw[lG,aq8 h,GF];apply List.map_congr_left;intro i hi;rw[aq9 (by simpa using hi)];rfl
theorem X0(n:Nat)(e:List (List Int×Int))(k:Nat)(h:k<e.length):o6 n (e.take (k+1))=Dz (o6 n (e.take k)) (e[k].1++[e[k].2]):=by rw[arA h,o6,List.foldl_append];rfl
theorem ahX(e:List (List Int×Int))(k:Nat)(h:k<e.length):lV (e.take (k+1))=lV (e.take k)++[e[k].2]:=by rw[arA h,lV,aso];rfl
theorem abX(a b:List Int)(i:Nat)(e:i<a.length)(j:i<b.length):(Dz a b).getD i 0=a.getD i 0+b.getD i 0:=by simp only[Dz,aru,List.getElem?_zipWith,aro e,aro j];rfl
theorem DA.take{n:Nat}{l:List (List Int×Int)}(h:DA n l)(k:Nat):(o6 n (l.take k)).length=n+1/\∀x∈o6 n (l.take k),0<=x:=
 abY (l.take k) (fun e j=>h.lens e (arD j)) (fun e j=>(h.base e (arD j)).1) (fun e j x p=>(h.earlier e (arD j) x p).1) _ (by simp) (by intro x p;rw[List.eq_of_mem_replicate p];omega)
theorem DA.abZ{n:Nat}{j:List (List Int×Int)}(h:DA n j):∀k,k<=j.length->∀i,i<n+1->(o6 n (j.take k)).getD i 0<=k*1000000000:=by
 intro k
 induction k with
 |zero=>
  intro _ i hi;have:(o6 n (j.take 0)).getD i 0=0:=by simp only[List.take_zero,o6,List.foldl_nil,aru,asT];split<;>rfl
  omega
 |succ k p=>
  intro r i hi;have u:=p (by omega) i hi;have y:=(h.take k).1;have l:=arc (show k<j.length by omega);have z:=h.lens _ l;rw[X0 n j k (by omega),abX _ _ _ (by omega) (by simp;omega)];have B:(j[k].1++[j[k].2]).getD i 0<=1000000000:=by
   rw[aru];cases e:(j[k].1++[j[k].2])[i]?with
   |none=>simp
   |some v=>
    rcases arE.1 (List.mem_of_getElem? e)with g|g
    ·exact(h.earlier _ l _ g).2
    ·simp at g;subst g;exact(h.base _ l).2
  rw[show((k+1:Nat):Int)*1000000000=k*1000000000+1000000000 by omega];omega
def Cx(S x:List Int)(j:Nat)(i:Nat):Value:=.int .i64 (S.getD i 0+if i<j then x.getD i 0 else 0)
def o7(s:cm)(n:Nat)(e:List (List Int×Int)):List fY:=if fG (gw s n e)then[]else DB s n e
def zK(s:cm)(n:Nat)(e:List (List Int×Int)):Int:=if fG (gw s n e)then 4 else 0
theorem ab0{w:World}{g:Nat}{S x:List Int}{m:Nat}(h:RowI w g S)(e:S.length=m):w.rowIs g 3 m (Cx S x 0):=by subst e;exact World.rowIs.congr h (fun i _=>by simp[Cx])
theorem ab1{w:World}{g m j:Nat}{S x:List Int}(h:w.rowIs g 3 m (Cx S x j)):(w.setCell ⟨g,j,none⟩ (.int .i64 (S.getD j 0+x.getD j 0))).rowIs g 3 m (Cx S x (j+1)):=by
 refine(h.set j _).congr fun i _=>?_;by_cases e:i=j
 ·subst e;rw[aq9 rfl];simp[Cx]
 ·rw[aq8 e];unfold Cx;by_cases l:i<j
  ·rw[aq9 l,aq9 (by omega)]
  ·rw[aq8 l,aq8 (by omega)]
theorem ab2{w:World}{g n:Nat}{S x:List Int}{b:Int}(h:w.rowIs g 3 (n+1) (Cx S x n))(hS:S.length=n+1)(j:x.length=n):RowI (w.setCell ⟨g,n,none⟩ (.int .i64 (S.getD n 0+b))) g (Dz S (x++[b])):=by
 unfold RowI;have l:(Dz S (x++[b])).length=n+1:=by rw[ab3];simp;omega
 rw[l];refine(h.set n _).congr fun i hi=>?_;rw[abX _ _ _ (by omega) (by simp;omega)];by_cases e:i=n
 ·subst e;rw[aq9 rfl];have:(x++[b]).getD i 0=b:=by rw[aru,List.getElem?_append_right (by omega)];simp[j]
  rw[this]
 ·rw[aq8 e];have:(x++[b]).getD i 0=x.getD i 0:=by rw[aru,asJ (by omega),aru]
  rw[this,Cx,aq9 (by omega)]
theorem ab4{e:List cM}{k:Nat}(h:k<e.length):(e.map cM.v)[k]'(by simpa using h)=(e[k].l,e[k].base):=by simp[cM.v]
