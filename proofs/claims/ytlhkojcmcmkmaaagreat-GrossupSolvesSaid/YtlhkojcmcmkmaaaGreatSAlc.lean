/- Conditions: as stated. -/
import Derived.Deep.RegionLaw
import Derived.Maps.AppendAt
import Derived.Deep.RegionHeld3
import Derived.Test.YtlhkojcmcmkmaaaGreatSRec
set_option maxRecDepth 100000
set_option maxHeartbeats 4000000
namespace Go.Proofs.YtlhkojcmcmkmaaaGreat
open Go.Proofs.Tryz
open Go.RowKit
theorem X7{total:Int}{ws:List Int}(l:0<=total)(n:total<=1000000000)(p:∀x∈ws,0<=x/\x<=1000000000)(u:0<aL ws){k:Nat}(r:k<ws.length):
  (0<=total*ws[k]/\total*ws[k]<=1000000000000000000)/\(total*ws[k]).tdiv (aL ws)=total*ws[k]/aL ws/\(total*ws[k]).tmod (aL ws)=total*ws[k]%aL ws/\(0<=total*ws[k]/aL ws/\total*ws[k]/aL ws<=1000000000):=by
 obtain⟨a,b⟩:=p _ (arO r);have e:0<=total*ws[k]:=asg l a;have z:total*ws[k]<=1000000000*1000000000:=asV n b a (by omega);have j:ws[k]<=aL ws:=EU (fun x y=>(p x y).1) (arO r);refine⟨by omega,asK e,atm e,asG e (by omega),?_⟩;refine Int.le_trans (Int.ediv_le_of_le_mul u ?_) n;exact asq j l
theorem X8{total:Int}{ws:List Int}{k:Nat}(e:k<ws.length):(cT total ws).getD k 0=total*ws[k]/aL ws:=by rw[ar1,cT,as2,arW e];rfl
theorem X9{total:Int}{ws:List Int}{k:Nat}(e:k<ws.length):(kQ total ws).getD k 0=total*ws[k]%aL ws:=by rw[ar1,kQ,as2,arW e];rfl
def upto(l:List Int)(n k:Nat):List Int:=l.take k++List.replicate (n-k) 0
theorem JT(l:List Int)(n:Nat):upto l n 0=List.replicate n 0:=by simp[upto]
theorem JU(l:List Int)(n:Nat)(h:l.length=n):upto l n n=l:=by simp[upto,<-h]
theorem BU(l:List Int)(n k:Nat)(h:l.length=n)(e:k<=n):(upto l n k).length=n:=by simp[upto];omega
theorem Qh(l:List Int)(n k:Nat)(h:l.length=n)(r:k<n):(upto l n k).set k (l.getD k 0)=upto l n (k+1):=by
 have e:k<l.length:=by omega
 have j:List.replicate (n-k) (0:Int)=0::List.replicate (n-(k+1)) 0:=by rw[show n-k=(n-(k+1))+1 by omega];rfl
 have p:l.getD k 0=l[k]:=by rw[ar1,arW e];rfl
 unfold upto;rw[j,p,ar9 e,List.set_append_right _ _ (by simp;omega),show k-(l.take k).length=0 by simp;omega,ar3,asH];rfl
theorem Ya(l:List Int)(n k:Nat)(e:k<n)(j:l.length=n):(upto l n (k+1)).getD k 0=l.getD k 0:=by
 have p:k<l.length:=by omega
 unfold upto;rw[ar1,ati (by simp;omega),as3,arK (by omega),ar1]
theorem Yb(l:List Int)(k:Nat)(h:k<l.length):aL (l.take (k+1))=aL (l.take k)+l.getD k 0:=by rw[Qi l k h,ar1,arW h];rfl
structure FZ(total:Int)(ws:List Int)(m:Nat)(P R:List Int):Prop where
 eq:CY m P R=eB total ws
 pos:∀x∈P,0<=x
 sum:aL P+m=total
 lp:P.length=ws.length
 lr:R.length=ws.length
theorem FZ.start{total:Int}{ws:List Int}(j:0<=total)(l:∀x∈ws,0<=x/\x<=1000000000)(e:0<aL ws):FZ total ws (ny total ws).toNat (cT total ws) (kQ total ws):=by have:=NT (total:=total) e;refine⟨rfl,Qj j (fun x n=>(l x n).1) e,?_,by simp[cT],by simp[kQ]⟩;unfold ny;omega
theorem FZ.next{total:Int}{ws:List Int}{m:Nat}{P R:List Int}(h:FZ total ws (m+1) P R)(j:0<ws.length):FZ total ws m (P.set (dN R) (P.getD (dN R) 0+1)) (R.set (dN R) (-1)):=by
 have u:=Qk (r:=R) (by rw[h.lr];exact j);have l:=h.lp;have n:=h.lr;refine⟨by have:=h.eq;rwa [CY]at this,fun x p=>?_,?_,by simpa using l,by simpa using n⟩
 ·rcases List.mem_or_eq_of_mem_set p with e|e
  ·exact h.pos x e
  ·have:=JV h.pos (dN R);omega
 ·rw[ab6 _ _ _ (by omega)];have:=h.sum;omega
theorem FZ.le{total:Int}{ws:List Int}{m:Nat}{P R:List Int}(h:FZ total ws m P R)(i:Nat):0<=P.getD i 0/\P.getD i 0<=total:=by
 refine⟨JV h.pos i,?_⟩;have n:P.getD i 0<=aL P:=by
  rw[ar1];cases e:P[i]?with
  |none=>simp;exact(kR (l:=P) (B:=aL P) (fun x j=>⟨h.pos x j,EU h.pos j⟩)).1
  |some v=>exact EU h.pos (List.mem_of_getElem? e)
 have:=h.sum;omega
theorem Yc(total:Int)(A:Option Addr)(af:Nat)(ws:List Int)(w:World)(h:aj encI 1 w w.heap.size A ws)(h0:0<=total)(h1:total<=1000000000)(hw:∀x∈ws,0<=x/\x<=1000000000)(hs:0<aL ws)(hl:ws.length<=1000):
  Calls prog 182 #[.int .i64 total,.slice A ws.length af] w fun e w'=>∃g,e=.returned (.tuple #[.slice (some ⟨g,0,none⟩) ws.length ws.length,.int .i64 0])/\w.heap.size<=g/\RowI w' g (eB total ws)/\Below w.heap.size w w':=by
 have HW:=arH hw;clear hw;have D5:=NU ws.length (by omega);have oF:=Yd hs;go_enter func182,ntmps182;go_wp2
 go_loop [6,7] (fun s i=>∃k:Nat,k<=ws.length/\i=.int .i64 k/\s=.int .i64 (aL (ws.take k))) (fun _ i=>ws.length-(intOf i).toNat)
 case atStart=>exact⟨0,by omega,rfl,rfl⟩
 case round=>
  obtain⟨k,S,rfl,rfl⟩:=hrel;have ad:=kR (l:=ws.take k) (B:=1000000000) (fun x E=>HW.out x (ar6 E));simp only[asA]at ad;have al:0<=aL (ws.take k):=ad.1;have am:aL (ws.take k)<=1000000000000:=by omega
  by_cases j:k<ws.length
  ·obtain⟨b,ae,rfl,hb,hc⟩:=h.at_ j;have c0:=hc 0 _ rfl;simp only[arL,ast]at c0;obtain⟨x0,x1⟩:=HW.out _ (arO j);have HT:=arH (Qi ws k j);clear hc ad;go_wp2;go_round
   case rel=>exact⟨k+1,by omega,by go_num,by rw[HT.out]⟩
   case measure=>simp[intOf];omega
  ·obtain rfl:k=ws.length:=by omega
   rw[asp]at al am|-;have D:(aL ws==0)=false:=(by simp;omega);go_wp2
   go_region
   ·have n:=((RowI.made w ws.length).alloc (Obj.cells (madeCells #[.int .i64 0] ws.length) 3)).drew;have u:=(RowI.made (w.alloc (Obj.cells (madeCells #[.int .i64 0] ws.length) 3)) ws.length).drew;have I:Below w.heap.size w ((w.alloc (Obj.cells (madeCells #[.int .i64 0] ws.length) 3)).alloc (Obj.cells (madeCells #[.int .i64 0] ws.length) 3)).drew:=below_drewN (ej (bD w _) _) 1;rw[arU]at u;obtain⟨z,Ql⟩:∃z,z=w.heap.size:=⟨_,rfl⟩
    obtain⟨J,D6⟩:∃J,J=w.heap.size+1:=⟨_,rfl⟩
    have D:z≠J:=(by omega);have BV:w.heap.size<=z:=(by omega);have T:w.heap.size<=J:=(by omega);rw[<-D6]at u|-;rw[<-Ql]at n|-;clear Ql D6;generalize ((w.alloc (Obj.cells (madeCells #[.int .i64 0] ws.length) 3)).alloc (Obj.cells (madeCells #[.int .i64 0] ws.length) 3)).drew=W at n u I|-;go_wp2
    go_loopw [11,12] (fun m i wr=>∃k:Nat,k<=ws.length/\i=.int .i64 k/\m=.int .i64 (total-aL ((cT total ws).take k))/\RowI wr z (upto (cT total ws) ws.length k)/\RowI wr J (upto (kQ total ws) ws.length k)/\Below w.heap.size w wr) (fun _ i _=>ws.length-(intOf i).toNat)
    case atStart=>exact⟨0,by omega,rfl,by simp[aL],by rw[JT];exact n,by rw[JT];exact u,I⟩
    case round=>
     clear n u I;obtain⟨k,S,rfl,rfl,n,u,I⟩:=hrel;have U:=Qj (total:=total) (ws:=ws) h0 (fun x E=>(HW.out x E).1) hs;have L:(cT total ws).length=ws.length:=(by simp[cT]);have V:(kQ total ws).length=ws.length:=(by simp[kQ]);have oY:0<=aL ((cT total ws).take k):=(kR (l:=(cT total ws).take k) (B:=aL ((cT total ws).take k)) (fun x E=>⟨U x (ar6 E),EU (fun y hy=>U y (ar6 hy)) E⟩)).1;have jr:aL ((cT total ws).take k)<=total:=by have e:=congrArg aL (atn k (cT total ws));rw[Iw]at e;have d0:0<=aL ((cT total ws).drop k):=(kR (l:=(cT total ws).drop k) (B:=aL ((cT total ws).drop k)) (fun x E=>⟨U x (List.mem_of_mem_drop E),EU (fun y hy=>U y (List.mem_of_mem_drop hy)) E⟩)).1;have:=NT (total:=total) hs;omega
     by_cases j:k<ws.length
     ·obtain⟨b,ae,rfl,hb,hc⟩:=(h.below I).at_ j;have c0:=hc 0 _ rfl;simp only[arL,ast]at c0;clear hc;obtain⟨⟨y1,y2⟩,y3,y4,y5,y6⟩:=X7 h0 h1 HW.out hs j;have HT:=arH (Yb (cT total ws) k (by rw[L];exact j));have e1:=X8 (total:=total) j;have e2:=X9 (total:=total) j;have oI:=arH e1;have fP:=n.frozen k;have fR:=u.frozen k;have zP:=n.cell (i:=k) (by rw[BU _ _ _ L S];exact j);have zR:=u.cell (i:=k) (by rw[BU _ _ _ V S];exact j);have N:=(n.set (i:=k) (by rw[BU _ _ _ L S];exact j) ((cT total ws).getD k 0)).far (p:=⟨J,k,none⟩) D (.int .i64 ((kQ total ws).getD k 0));have Q:=(u.far (p:=⟨z,k,none⟩) (fun e=>D e.symm) (.int .i64 ((cT total ws).getD k 0))).set (i:=k) (by rw[BU _ _ _ V S];exact j) ((kQ total ws).getD k 0)
      rw[Qh _ _ _ L j,e1,e2]at N;rw[Qh _ _ _ V j,e1,e2]at Q;have X:=(il (il I BV k (.int .i64 (total*ws[k]/aL ws))) T k (.int .i64 (total*ws[k]%aL ws)))
      have G3:=arH N.drew;have Ix:=arH Q.drew;have Qm:=arH (below_drewN X 1);clear N Q e1 e2 X;go_wp2
      go_region
      have N:=G3.out;have Q:=Ix.out;have X:Below w.heap.size w ((wr.setCell ⟨z,k,none⟩ (.int .i64 (total*ws[k]/aL ws))).setCell ⟨J,k,none⟩ (.int .i64 (total*ws[k]%aL ws))).drew:=Qm.out;generalize ((wr.setCell ⟨z,k,none⟩ (.int .i64 (total*ws[k]/aL ws))).setCell ⟨J,k,none⟩ (.int .i64 (total*ws[k]%aL ws))).drew=W2 at N Q X|-;have zQ:=N.cell (i:=k) (by rw[BU _ _ _ L j];exact j);rw[Ya _ _ _ j L,oI.out]at zQ;clear G3 Ix Qm n u I zP zR fP fR c0;go_wp2;go_roundw
      case rel=>exact⟨k+1,by omega,by go_num,by rw[HT.out,oI.out];congr 1;omega,N,Q,X⟩
      case measure=>simp[intOf];omega
     ·obtain rfl:k=ws.length:=by omega
      rw[JU _ _ L]at n;rw[JU _ _ V]at u;rw[asB (by omega)]at oY jr|-;have G:=FZ.start (total:=total) (ws:=ws) h0 HW.out hs;have D2:total-aL (cT total ws)=(ny total ws).toNat:=(by unfold ny;omega);rw[D2];generalize (ny total ws).toNat=M at G;generalize cT total ws=P0 at G n;generalize kQ total ws=R0 at G u;clear D2 oY jr U L V;go_wp2
      go_loopw [11] (fun mv O=>∃(m:Nat) (P R:List Int),mv=.int .i64 m/\m<=1000000000/\FZ total ws m P R/\RowI O z P/\RowI O J R/\Below w.heap.size w O) (fun mv _=>(intOf mv).toNat)
      case atStart=>exact⟨M,P0,R0,rfl,by have:=G.sum;have:=(kR (l:=P0) (B:=aL P0) (fun x E=>⟨G.pos x E,EU G.pos E⟩)).1;omega,G,n,u,I⟩
      case round=>
       rename World=>w2
       clear G n u I;obtain⟨m,P,R,rfl,NS,G,n,u,I⟩:=hrel;have Iy:=arH G;have Qn:=G.lp;have Qo:=G.lr;clear G;rcases m with _|m
       ·go_wp2
        go_loop [15] (fun i=>i=.int .i64 0) (fun _=>0)
        case atStart=>rfl
        case round=>
        subst hrel;go_wp2;go_ret2;have:=Iy.out.eq;rw[CY]at this;rw[<-this];exact⟨z,rfl,BV,n,I⟩
       ·have an:(0:Int)<((m+1:Nat):Int):=(by omega);have AB:=arH Qn;have Y:=arH Qo;clear Qn Qo;go_wp2
        go_loopw [13,14] (fun bv i Qp=>∃k q:Nat,k+1<=ws.length/\i=.int .i64 ((k:Int)+1)/\bv=.int .i64 (kS R k)/\Hid (Qp=w2.drewN q)) (fun _ i _=>ws.length-(intOf i).toNat)
        case atStart=>exact⟨0,0,by omega,rfl,rfl,rfl⟩
        case round=>
         obtain⟨k,q,S,rfl,rfl,K⟩:=hrel;have Ye:(k:Int)+1<=1000:=(by omega);have Yf:=Uu R k;have Z:RowI wr J R:=(by rw[K.out];exact u.drewN q);by_cases j:k+1<ws.length
         ·have z1:=Z.cell (i:=k+1) (by rw[Y.out];exact j);have z2:=Z.cell (i:=kS R k) (by rw[Y.out];omega);have lx:kS R k<ws.length:=(by omega);have bA:kS R (k+1)=if R.getD (kS R k) 0<R.getD (k+1) 0 then k+1 else kS R k:=rfl
          have EW:=arH bA;clear bA;generalize Yg:kS R k=bt at*;generalize R.getD bt 0=x1 at*;generalize R.getD (k+1) 0=x2 at*;clear Yg;by_cases E:x1<x2
          ·go_wp2;go_quiet(fail);go_wp2;go_roundw
           case rel=>exact⟨k+1,q+nq,by omega,by go_num,by rw[EW.out,arK E];go_num,by show wr.drewN nq=w2.drewN (q+nq);rw[K.out,World.drewN_drewN]⟩
           case measure=>simp[intOf];omega
          ·go_wp2;go_quiet(fail);go_wp2;go_roundw
           case rel=>
            have ay:∃k' q':Nat,k'+1<=ws.length/\Value.int .i64 ((k:Int)+1+1)=.int .i64 ((k':Int)+1)/\Value.int .i64 (bt:Int)=.int .i64 (kS R k')/\Hid (wr.drewN nq=w2.drewN q'):=⟨k+1,q+nq,by omega,by go_num,by rw[EW.out,arJ (by omega)],by show wr.drewN nq=w2.drewN (q+nq);rw[K.out,World.drewN_drewN]⟩
            first|exact ay|((repeat apply Exists.intro);exact⟨ay,rfl⟩)
           case measure=>simp[intOf];omega
         ·have D7:k=R.length-1:=(by have:=Y.out;omega);have Qq:kS R k=dN R:=(by rw[D7];rfl);have ab:=Qk (r:=R) (by rw[Y.out];exact oF);have Qr:dN R<ws.length:=(by have:=Y.out;omega);rw[Qq]at Yf|-;have F2:RowI wr z P:=(by rw[K.out];exact n.drewN q);have bE:Below w.heap.size w wr:=(by rw[K.out];exact below_drewN I q);have HN:=arH (Iy.out.next oF);obtain⟨p1,p2⟩:=Iy.out.le (dN R);have zP:=F2.cell (i:=dN R) (by rw[AB.out];exact Qr);have fP:=F2.frozen (dN R);have D8:=(F2.set (i:=dN R) (by rw[AB.out];exact Qr) (P.getD (dN R) 0+1)).far (p:=⟨J,dN R,none⟩) D (.int .i64 (-1));have CZ:=(Z.far (p:=⟨z,dN R,none⟩) (fun e=>D e.symm) (.int .i64 (P.getD (dN R) 0+1))).set (i:=dN R) ab (-1)
          have fR:(wr.setCell ⟨z,dN R,none⟩ (.int .i64 (P.getD (dN R) 0+1))).frozen? ⟨J,dN R,none⟩=false:=(Z.far (p:=⟨z,dN R,none⟩) (fun e=>D e.symm) (.int .i64 (P.getD (dN R) 0+1))).frozen (dN R);have zR:=(Z.far (p:=⟨z,dN R,none⟩) (fun e=>D e.symm) (.int .i64 (P.getD (dN R) 0+1))).cell (i:=dN R) ab;have Yh:=arH D8;have Yi:=arH CZ;have Yj:=arH (il (il bE BV (dN R) (.int .i64 (P.getD (dN R) 0+1))) T (dN R) (.int .i64 (-1)));clear D8 CZ Qq D7 Iy;generalize C5:dN R=bq at*;generalize P.getD bq 0=pq at*;have ao:¬(k:Int)+1<(ws.length:Int):=(by omega);clear C5;go_wp2;go_roundw
          case rel=>exact⟨m,_,_,by go_num,by omega,HN.out,Yh.out,Yi.out,Yj.out⟩
          case measure=>simp[intOf]
   ·have u:=((RowI.made w ws.length).alloc (Obj.cells (madeCells #[.int .i64 0] ws.length) 3)).drew;have n:=(RowI.made (w.alloc (Obj.cells (madeCells #[.int .i64 0] ws.length) 3)) ws.length).drew;have I:Below w.heap.size w ((w.alloc (Obj.cells (madeCells #[.int .i64 0] ws.length) 3)).alloc (Obj.cells (madeCells #[.int .i64 0] ws.length) 3)).drew:=below_drewN (ej (bD w _) _) 1;rw[arU]at n;obtain⟨J,D6⟩:∃J,J=w.heap.size:=⟨_,rfl⟩
    obtain⟨z,Ql⟩:∃z,z=w.heap.size+1:=⟨_,rfl⟩
    have D:z≠J:=(by omega);have BV:w.heap.size<=z:=(by omega);have T:w.heap.size<=J:=(by omega);rw[<-Ql]at n|-;rw[<-D6]at u|-;clear Ql D6;generalize ((w.alloc (Obj.cells (madeCells #[.int .i64 0] ws.length) 3)).alloc (Obj.cells (madeCells #[.int .i64 0] ws.length) 3)).drew=W at n u I|-;go_wp2
    go_loopw [11,12] (fun m i wr=>∃k:Nat,k<=ws.length/\i=.int .i64 k/\m=.int .i64 (total-aL ((cT total ws).take k))/\RowI wr z (upto (cT total ws) ws.length k)/\RowI wr J (upto (kQ total ws) ws.length k)/\Below w.heap.size w wr) (fun _ i _=>ws.length-(intOf i).toNat)
    case atStart=>exact⟨0,by omega,rfl,by simp[aL],by rw[JT];exact n,by rw[JT];exact u,I⟩
    case round=>
     clear n u I;obtain⟨k,S,rfl,rfl,n,u,I⟩:=hrel;have U:=Qj (total:=total) (ws:=ws) h0 (fun x E=>(HW.out x E).1) hs;have L:(cT total ws).length=ws.length:=(by simp[cT]);have V:(kQ total ws).length=ws.length:=(by simp[kQ]);have oY:0<=aL ((cT total ws).take k):=(kR (l:=(cT total ws).take k) (B:=aL ((cT total ws).take k)) (fun x E=>⟨U x (ar6 E),EU (fun y hy=>U y (ar6 hy)) E⟩)).1;have jr:aL ((cT total ws).take k)<=total:=by have e:=congrArg aL (atn k (cT total ws));rw[Iw]at e;have d0:0<=aL ((cT total ws).drop k):=(kR (l:=(cT total ws).drop k) (B:=aL ((cT total ws).drop k)) (fun x E=>⟨U x (List.mem_of_mem_drop E),EU (fun y hy=>U y (List.mem_of_mem_drop hy)) E⟩)).1;have:=NT (total:=total) hs;omega
     by_cases j:k<ws.length
     ·obtain⟨b,ae,rfl,hb,hc⟩:=(h.below I).at_ j;have c0:=hc 0 _ rfl;simp only[arL,ast]at c0;clear hc;obtain⟨⟨y1,y2⟩,y3,y4,y5,y6⟩:=X7 h0 h1 HW.out hs j;have HT:=arH (Yb (cT total ws) k (by rw[L];exact j));have e1:=X8 (total:=total) j;have e2:=X9 (total:=total) j;have oI:=arH e1;have fP:=n.frozen k;have fR:=u.frozen k;have zP:=n.cell (i:=k) (by rw[BU _ _ _ L S];exact j);have zR:=u.cell (i:=k) (by rw[BU _ _ _ V S];exact j);have N:=(n.set (i:=k) (by rw[BU _ _ _ L S];exact j) ((cT total ws).getD k 0)).far (p:=⟨J,k,none⟩) D (.int .i64 ((kQ total ws).getD k 0));have Q:=(u.far (p:=⟨z,k,none⟩) (fun e=>D e.symm) (.int .i64 ((cT total ws).getD k 0))).set (i:=k) (by rw[BU _ _ _ V S];exact j) ((kQ total ws).getD k 0)
      rw[Qh _ _ _ L j,e1,e2]at N;rw[Qh _ _ _ V j,e1,e2]at Q;have X:=(il (il I BV k (.int .i64 (total*ws[k]/aL ws))) T k (.int .i64 (total*ws[k]%aL ws)))
      have G3:=arH N.drew;have Ix:=arH Q.drew;have Qm:=arH (below_drewN X 1);clear N Q e1 e2 X;go_wp2
      go_region
      have N:=G3.out;have Q:=Ix.out;have X:Below w.heap.size w ((wr.setCell ⟨z,k,none⟩ (.int .i64 (total*ws[k]/aL ws))).setCell ⟨J,k,none⟩ (.int .i64 (total*ws[k]%aL ws))).drew:=Qm.out;generalize ((wr.setCell ⟨z,k,none⟩ (.int .i64 (total*ws[k]/aL ws))).setCell ⟨J,k,none⟩ (.int .i64 (total*ws[k]%aL ws))).drew=W2 at N Q X|-;have zQ:=N.cell (i:=k) (by rw[BU _ _ _ L j];exact j);rw[Ya _ _ _ j L,oI.out]at zQ;clear G3 Ix Qm n u I zP zR fP fR c0;go_wp2;go_roundw
      case rel=>exact⟨k+1,by omega,by go_num,by rw[HT.out,oI.out];congr 1;omega,N,Q,X⟩
      case measure=>simp[intOf];omega
     ·obtain rfl:k=ws.length:=by omega
      rw[JU _ _ L]at n;rw[JU _ _ V]at u;rw[asB (by omega)]at oY jr|-;have G:=FZ.start (total:=total) (ws:=ws) h0 HW.out hs;have D2:total-aL (cT total ws)=(ny total ws).toNat:=(by unfold ny;omega);rw[D2];generalize (ny total ws).toNat=M at G;generalize cT total ws=P0 at G n;generalize kQ total ws=R0 at G u;clear D2 oY jr U L V;go_wp2
      go_loopw [11] (fun mv O=>∃(m:Nat) (P R:List Int),mv=.int .i64 m/\m<=1000000000/\FZ total ws m P R/\RowI O z P/\RowI O J R/\Below w.heap.size w O) (fun mv _=>(intOf mv).toNat)
      case atStart=>exact⟨M,P0,R0,rfl,by have:=G.sum;have:=(kR (l:=P0) (B:=aL P0) (fun x E=>⟨G.pos x E,EU G.pos E⟩)).1;omega,G,n,u,I⟩
      case round=>
       rename World=>w2
       clear G n u I;obtain⟨m,P,R,rfl,NS,G,n,u,I⟩:=hrel;have Iy:=arH G;have Qn:=G.lp;have Qo:=G.lr;clear G;rcases m with _|m
       ·go_wp2
        go_loop [15] (fun i=>i=.int .i64 0) (fun _=>0)
        case atStart=>rfl
        case round=>
        subst hrel;go_wp2;go_ret2;have:=Iy.out.eq;rw[CY]at this;rw[<-this];exact⟨z,rfl,BV,n,I⟩
       ·have an:(0:Int)<((m+1:Nat):Int):=(by omega);have AB:=arH Qn;have Y:=arH Qo;clear Qn Qo;go_wp2
        go_loopw [13,14] (fun bv i Qp=>∃k q:Nat,k+1<=ws.length/\i=.int .i64 ((k:Int)+1)/\bv=.int .i64 (kS R k)/\Hid (Qp=w2.drewN q)) (fun _ i _=>ws.length-(intOf i).toNat)
        case atStart=>exact⟨0,0,by omega,rfl,rfl,rfl⟩
        case round=>
         obtain⟨k,q,S,rfl,rfl,K⟩:=hrel;have Ye:(k:Int)+1<=1000:=(by omega);have Yf:=Uu R k;have Z:RowI wr J R:=(by rw[K.out];exact u.drewN q);by_cases j:k+1<ws.length
         ·have z1:=Z.cell (i:=k+1) (by rw[Y.out];exact j);have z2:=Z.cell (i:=kS R k) (by rw[Y.out];omega);have lx:kS R k<ws.length:=(by omega);have bA:kS R (k+1)=if R.getD (kS R k) 0<R.getD (k+1) 0 then k+1 else kS R k:=rfl
          have EW:=arH bA;clear bA;generalize Yg:kS R k=bt at*;generalize R.getD bt 0=x1 at*;generalize R.getD (k+1) 0=x2 at*;clear Yg;by_cases E:x1<x2
          ·go_wp2;go_quiet(fail);go_wp2;go_roundw
           case rel=>exact⟨k+1,q+nq,by omega,by go_num,by rw[EW.out,arK E];go_num,by show wr.drewN nq=w2.drewN (q+nq);rw[K.out,World.drewN_drewN]⟩
           case measure=>simp[intOf];omega
          ·go_wp2;go_quiet(fail);go_wp2;go_roundw
           case rel=>
            have ay:∃k' q':Nat,k'+1<=ws.length/\Value.int .i64 ((k:Int)+1+1)=.int .i64 ((k':Int)+1)/\Value.int .i64 (bt:Int)=.int .i64 (kS R k')/\Hid (wr.drewN nq=w2.drewN q'):=⟨k+1,q+nq,by omega,by go_num,by rw[EW.out,arJ (by omega)],by show wr.drewN nq=w2.drewN (q+nq);rw[K.out,World.drewN_drewN]⟩
            first|exact ay|((repeat apply Exists.intro);exact⟨ay,rfl⟩)
           case measure=>simp[intOf];omega
         ·have D7:k=R.length-1:=(by have:=Y.out;omega);have Qq:kS R k=dN R:=(by rw[D7];rfl);have ab:=Qk (r:=R) (by rw[Y.out];exact oF);have Qr:dN R<ws.length:=(by have:=Y.out;omega);rw[Qq]at Yf|-;have F2:RowI wr z P:=(by rw[K.out];exact n.drewN q);have bE:Below w.heap.size w wr:=(by rw[K.out];exact below_drewN I q);have HN:=arH (Iy.out.next oF);obtain⟨p1,p2⟩:=Iy.out.le (dN R);have zP:=F2.cell (i:=dN R) (by rw[AB.out];exact Qr);have fP:=F2.frozen (dN R);have D8:=(F2.set (i:=dN R) (by rw[AB.out];exact Qr) (P.getD (dN R) 0+1)).far (p:=⟨J,dN R,none⟩) D (.int .i64 (-1));have CZ:=(Z.far (p:=⟨z,dN R,none⟩) (fun e=>D e.symm) (.int .i64 (P.getD (dN R) 0+1))).set (i:=dN R) ab (-1)
          have fR:(wr.setCell ⟨z,dN R,none⟩ (.int .i64 (P.getD (dN R) 0+1))).frozen? ⟨J,dN R,none⟩=false:=(Z.far (p:=⟨z,dN R,none⟩) (fun e=>D e.symm) (.int .i64 (P.getD (dN R) 0+1))).frozen (dN R);have zR:=(Z.far (p:=⟨z,dN R,none⟩) (fun e=>D e.symm) (.int .i64 (P.getD (dN R) 0+1))).cell (i:=dN R) ab;have Yh:=arH D8;have Yi:=arH CZ;have Yj:=arH (il (il bE BV (dN R) (.int .i64 (P.getD (dN R) 0+1))) T (dN R) (.int .i64 (-1)));clear D8 CZ Qq D7 Iy;generalize C5:dN R=bq at*;generalize P.getD bq 0=pq at*;have ao:¬(k:Int)+1<(ws.length:Int):=(by omega);clear C5;go_wp2;go_roundw
          case rel=>exact⟨m,_,_,by go_num,by omega,HN.out,Yh.out,Yi.out,Yj.out⟩
          case measure=>simp[intOf]
theorem aj.take{z:Type}{n:z->List Value}{k:Nat}{w:World}{B:Nat}{A:Option Addr}{xs:List z}(h:aj n k w B A xs)(i:Nat):aj n k w B A (xs.take i):=fun r=>by
 have D:xs≠[]:=by intro e;subst e;simp at r
 obtain⟨b,y,e,E,G⟩:=h D;refine⟨b,y,e,E,fun j x p l u I=>G j x ?_ l u I⟩;rw[as3]at p;split at p
 ·exact p
 ·cases p
theorem ab8{P:Program}{X:Type}{l:X->List Value}{k:Nat}{e:TypeId}{W:World}{base B:Nat}{v:Value}{r n:List X}{A:Option Addr}{m:Nat}(t L:TypeId)(c bytes:Nat)(z:Value)
  (Cw:(P.info? e).map (fun i=>(i.zero,i.size,i.bytes))=some (some z,k,bytes)) (Y:P.underlying t=some (.slice e))
  (p:Own l k e W base v r) (M:aj l k W B A n) (N:∀x,(l x).length=k) (Z:0<k) (O:z.cells.size=k) (h1:∀y,∀u∈l y,u.oneCell'=true)
  (D:r.length+n.length<=4294967296) (Q:bytes<=1024) (E:base<=W.heap.size) (hm:m=n.length):
  ∃I w',(Builtin.append_ #[t,t] L #[v,.slice A m c]).run P W=.ok I w'/\Own l k e w' base I (r++n)/\W.grownBy w' v.ownBlock:=by
 subst hm;obtain⟨i,hi,hz,R,hb⟩:=info_parts Cw;have hl:(n.flatMap l).length=n.length*k:=by
  clear M D
  induction n with
  |nil=>simp
  |cons y n ih=>rw[asL,arV,ih,N,arZ,Nat.succ_mul];omega
 have lx:(r.length+n.length)*bytes<=140737488355328:=by have:(r.length+n.length)*bytes<=4294967296*1024:=Nat.mul_le_mul D Q;omega
 have EX:∀u∈n.flatMap l,u.oneCell'=true:=by intro u hu;obtain⟨y,_,hy⟩:=List.mem_flatMap.1 hu;exact h1 y u hy
 rcases A with _|ad
 ·have EY:n=[]:=by
   rcases n with _|⟨y,n⟩
   ·rfl
   ·obtain⟨b,G,S,_⟩:=M (by simp);cases S
  subst EY;exact⟨v,W,Yk (P:=P) W base t L e i k Y hi v r.length (r.flatMap l) p c,by simpa using p,fe _ _⟩
 ·have Qs:∀j u,(n.flatMap l)[j]?=some u->W.cell? (ad.add j)=some u:=by
   intro j u hu;have hj:j<n.length*k:=(by rw[<-hl];exact(ase.1 hu).1);have T:n≠[]:=(by intro e;subst e;simp at hj);obtain⟨b,G,U,hb,hc⟩:=M T;injection U with S
   subst S;have qf:(⟨b,G,none⟩:Addr).add j=⟨b,G+j,none⟩:=by unfold Addr.add;split<;>simp_all
   rw[qf];have V:j/k<n.length:=Nat.div_lt_of_lt_mul (by rw[Nat.mul_comm];exact hj);have D9:j%k<k:=Nat.mod_lt _ Z;have hy:=arW V;have he:(l n[j/k])[j%k]?=some ((l n[j/k])[j%k]'(by rw[N];exact D9)):=arW _
   have J:=G4 N n (j/k) (j%k) _ _ hy he;have K:=hc _ _ hy _ _ he;have h4:j/k*k+j%k=j:=(by rw[Nat.mul_comm];exact Nat.div_add_mod j k);rw[h4,hu]at J;rw[Nat.add_assoc,h4]at K;rw[K,<-J]
  obtain⟨I,w',hr,J,K,_⟩:=run_append_own_at (P:=P) W base t L e i z k bytes Y hi hz R hb O Z v r.length (r.flatMap l) p ad n.length c (n.flatMap l) hl Qs EX (by unfold maxLen;omega) lx E;refine⟨I,w',hr,?_,K⟩;unfold Own;rw[arV,ato];exact J
section
variable {P:Program}{ops:Array Oper}{md:Region.Mode}{C:World->Prop}
def nY(P:Program)(ops:Array Oper)(C:World->Prop)(o:Oper)(v:Value)(a:Act):Prop:=
 (Region.wanted o (yielded ops a.tmps)=true/\∀w,C w->o.quietAt P a (fun e=>C e/\Below w.heap.size w e) w v)\/
 (Region.wanted o (yielded ops a.tmps)=false/\v=undef)
theorem nY.of_same{o:Oper}{v:Value}{a a':Act}(hy:nY P ops C o v a)(e:execOp a'.eval o=execOp a.eval o)
  (j:Region.wanted o (yielded ops a'.tmps)=Region.wanted o (yielded ops a.tmps)):nY P ops C o v a':=by
 unfold nY Oper.quietAt at*;rw[e,j];exact hy
def C6(o:Oper)(a:Act)(K:Act->World->Prop):Result Next->Prop
 |.ok (.value v) w'=>K (a.put o.dst v) w'
 |.ok .skip w'=>K (a.put o.dst undef) w'
 |_=>False
def F3(P:Program)(ops:Array Oper)(i:Nat)(K:Act->World->Prop)(a:Act)(w:World):Prop:=
 match ops[i]?with
 |none=>K a w
 |some o=>if Region.wanted o (yielded ops a.tmps)then C6 o a K ((execOp a.eval o).run P w)else K (a.put o.dst undef) w
def iJ(P:Program)(ops:Array Oper)(C:World->Prop)(i:Nat)(K:Act->World->Prop)(a:Act)(w:World):Prop:=
 (∃o v,ops[i]?=some o/\nY P ops C o v a/\∀e,C e->Below w.heap.size w e->K (a.put o.dst v) e)\/F3 P ops i K a w
theorem JW{i:Nat}{a:Act}{w:World}{K n:Act->World->Prop}(h:∀a w,K a w->n a w)(hh:iJ P ops C i K a w):iJ P ops C i n a w:=by
 rcases hh with⟨o,v,p,u,y⟩|hh
 ·exact .inl ⟨o,v,p,u,fun e c b=>h _ _ (y e c b)⟩
 ·right;unfold F3 at*;split
  ·rename_i j;simp only[j]at hh;exact h _ _ hh
  ·rename_i o j;simp only[j]at hh;split
   ·rename_i l;simp only[l,ash]at hh;generalize (execOp a.eval o).run P w=r at*;unfold C6 at*;split
    ·exact h _ _ hh
    ·exact h _ _ hh
    ·rename_i z B;split at hh
     ·exact absurd rfl (z _ _)
     ·exact absurd rfl (B _)
     ·exact hh
   ·rename_i l;simp only[l]at hh;exact h _ _ hh
theorem Uv{i:Nat}{a:Act}{w:World}{K:Act->World->Prop}{Q:Exit->Act->World->Prop}(z:C w)(hh:iJ P ops C i K a w):wpOp P ops Q i K a w:=by
 rcases hh with⟨o,v,G,I,B⟩|hh
 ·unfold wpOp;simp only[G];rcases I with⟨l,hy⟩|⟨l,rfl⟩
  ·simp only[l,ash];left;have p:=hy w z;unfold Oper.quietAt at p;unfold Oper.wp;generalize (execOp a.eval o).run P w=r at*;cases r with
   |ok n w'=>
    cases n<;>simp only[Oper.quietUpon]at p<;>simp only[Oper.upon]
    case value u=>obtain⟨y,D⟩:=p;rw[y,D];exact B _ z (arM _ _)
    case skip=>obtain⟨y,D⟩:=p;rw[y,<-D];exact B _ z (arM _ _)
    case enter f args=>obtain⟨y,J⟩:=p;rw[y];exact J.mono fun e L ⟨M,j⟩=>by subst M;exact B _ j.1 j.2
   |halt x w'=>simp only[Oper.quietUpon]at p
  ·simp only[l,asC,asj];exact B _ z (arM _ _)
 ·unfold F3 at hh;unfold wpOp;split
  ·rename_i E;simp only[E]at hh;exact hh
  ·rename_i o E;simp only[E]at hh;split
   ·rename_i l;simp only[l,ash]at hh;left;unfold Oper.wp;generalize (execOp a.eval o).run P w=r at*;unfold C6 at hh;split at hh
    ·exact hh
    ·exact hh
    ·exact absurd hh id
   ·rename_i l;simp only[l]at hh;exact hh
theorem Uw{j:Nat}{e l:Oper}{v:Value}(B:ops[j]?=some l)(D:e.apart ops l=true)
  (L:∀E b,e.op≠.select E b) (n:∀E b,l.op≠.select E b) {K:Act->World->Prop} {a:Act} {w:World}
  (hy:nY P ops C e v a) (h:iJ P ops C j K (a.put e.dst v) w):
  iJ P ops C j (fun a' w'=>nY P ops C e v a'/\K (a'.put e.dst v) w') a w:=by
 obtain⟨p,y,J⟩:=Oper.apart_spec D;have keep:∀u,nY P ops C e v (a.put l.dst u):=fun u=>hy.of_same (execOp_put e L a l.dst u J) (wanted_put e a l.dst u J);rcases h with⟨o,u,z,M,N⟩|h
 ·rw[B]at z;injection z with z
  subst z;refine .inl ⟨l,u,B,M.of_same (execOp_put l n a e.dst v p).symm (wanted_put l a e.dst v p).symm,fun G c b=>⟨keep u,?_⟩⟩;rw[<-as4 a v u y];exact N G c b
 ·right;unfold F3 at*;simp only[B]at*;rw[wanted_put l a e.dst v p]at h;split
  ·rename_i I;simp only[I,ash]at h;rw[execOp_put l n a e.dst v p]at h;generalize (execOp a.eval l).run P w=r at*;unfold C6 at*;split
   ·refine⟨keep _,?_⟩;rw[<-as4 a v _ y];exact h
   ·refine⟨keep _,?_⟩;rw[<-as4 a v _ y];exact h
   ·rename_i O Q;split at h
    ·exact absurd rfl (O _ _)
    ·exact absurd rfl (Q _)
    ·exact h
  ·rename_i I;simp only[I]at h;exact⟨keep _,by rw[<-as4 a v undef y];exact h⟩
def cM(P:Program)(md:Region.Mode)(ops:Array Oper)(C:World->Prop)(Q:Act->World->Prop):Nat->Array Bool->Act->World->Prop
 |0,e,a,w=>∀w',C w'->Below w.heap.size w w'->Region.ready md ops e=[]/\Q a w'
 |fuel+1,e,a,w=>∀w',C w'->Below w.heap.size w w'->
  (Region.ready md ops e=[]->Q a w')/\
  ∀i∈Region.ready md ops e,iJ P ops C i (fun l j=>C j/\cM P md ops C Q fuel (e.setIfInBounds i true) l j) a w'
theorem Ea{Q:Act->World->Prop}:∀{n:Nat} {e:Array Bool} {a:Act} {w l:World},cM P md ops C Q n e a w->Below w.heap.size w l->cM P md ops C Q n e a l
 |0,_,_,_,_,h,j=>fun w' c b=>h w' c (j.trans (b.mono j.size))
 |_+1,_,_,_,_,h,j=>fun w' c b=>h w' c (j.trans (b.mono j.size))
theorem Iz{Q:Act->World->Prop}{Q':Exit->Act->World->Prop}(l:∀a w,Q a w->Q' .normal a w):∀(fuel:Nat) (e:Array Bool) (a:Act) (w:World),C w->cM P md ops C Q fuel e a w->wpAny P md ops Q' fuel e a w
 |0,_,_,w,j,h=>⟨(h w j (arM _ _)).1,l _ _ (h w j (arM _ _)).2⟩
 |fuel+1,_,_,w,j,h=>⟨fun p=>l _ _ ((h w j (arM _ _)).1 p),fun i hi=>Uv j (JW (fun a' w' n=>Iz l fuel _ a' w' n.1 n.2) ((h w j (arM _ _)).2 i hi))⟩
theorem NV{Q:Act->World->Prop}{i:Nat}{r:Oper}{v:Value}(hi:ops[i]?=some r)(R:∀(j:Nat) (o:Oper) D b,ops[j]?=some o->o.op≠.select D b):
  ∀(n:Nat) (l:Array Bool) (a:Act) (w:World),
   (∀j y,ops[j]?=some y->j≠i->l.getD j true=false->(∀e∈y.after,Region.binds md e=true->e.on≠i)->r.apart ops y=true)->
   i∈Region.ready md ops l->nY P ops C r v a->
   cM P md ops C Q n (l.setIfInBounds i true) (a.put r.dst v) w->cM P md ops C Q (n+1) l a w:=by
 intro n
 induction n with
 |zero=>
  intro l a w _ z hy H w' J p;refine⟨fun h=>(by rw[h]at z;cases z),fun j I=>?_⟩;by_cases u:j=i
  ·subst u;exact .inl ⟨r,v,hi,hy,fun K c b=>⟨c,Ea H (p.trans (b.mono p.size))⟩⟩
  ·have:=ready_mono I u;rw[(H w' J p).1]at this;cases this
 |succ n X=>
  intro l a w S z hy H w' J p;refine⟨fun h=>(by rw[h]at z;cases z),fun j I=>?_⟩;by_cases u:j=i
  ·subst u;exact .inl ⟨r,v,hi,hy,fun K c b=>⟨c,Ea H (p.trans (b.mono p.size))⟩⟩
  ·have B:=(H w' J p).2 j (ready_mono I u);obtain⟨T,y,L,E⟩:=mem_ready.1 I;have Y:∀e∈y.after,Region.binds md e=true->e.on≠i:=fun e Z p M=>by
    have B:=E e Z p;have U:=(mem_ready.1 z).1;rw[M]at B;rcases arY i l.size with h'|h'
    ·simp[h']at U B;rw[U]at B;cases B
    ·simp[atp h']at B
   have h2:=Uw L (S j y L u T Y) (fun D b=>R i r D b hi) (fun D b=>R j y D b L) hy B;have Qt:∀k ok,ops[k]?=some ok->k≠i->(l.setIfInBounds j true).getD k true=false->
     (∀e∈ok.after,Region.binds md e=true->e.on≠i)->r.apart ops ok=true:=fun k ok hk eC V N=>by
    refine S k ok hk eC ?_ N;by_cases G:j=k
    ·subst G;exact T
    ·rw[getD_set_ne true G]at V;exact V
   refine JW (fun a' w1 O=>⟨O.2.1,X (l.setIfInBounds j true) a' w1 Qt (ready_mono z (Ne.symm u)) O.1 ?_⟩) h2;rw[Array.setIfInBounds_comm _ _ u];exact O.2.2
def LQ(md:Region.Mode)(ops:Array Oper):Nat->Nat->Array Bool->Bool
 |0,_,_=>true
 |n+1,k,e=>(Region.ready md ops e).contains k&&Region.free md ops e k&&LQ md ops n (k+1) (e.setIfInBounds k true)
def NX:Nat->Nat->Array Bool->Array Bool
 |0,_,e=>e
 |n+1,k,e=>NX n (k+1) (e.setIfInBounds k true)
def EZ(P:Program)(ops:Array Oper)(C:World->Prop)(e:Act)(val:Oper->Value):List Oper->Act->Prop
 |[],a=>a=e
 |o::r,a=>nY P ops C o (val o) a/\EZ P ops C e val r (a.put o.dst (val o))
theorem Ym{Q:Act->World->Prop}{p:Act}{val:Oper->Value}(r:Region.noSelect ops=true){m:Nat}{w:World}:∀(l:List Oper) (k:Nat) (e:Array Bool) (a:Act),(∀j,j<l.length->l[j]?=ops[k+j]?)->
  LQ md ops l.length k e=true->EZ P ops C p val l a->cM P md ops C Q m (NX l.length k e) p w->cM P md ops C Q (m+l.length) e a w
 |[],_,_,_,_,_,h,n=>by cases h;exact n
 |o::l,k,e,a,u,y,h,n=>by
  have z:ops[k]?=some o:=by simpa using(u 0 (by simp)).symm
  simp only[arZ,LQ,ar5]at y;obtain⟨⟨B,D⟩,E⟩:=y;exact NV z (Region.noSelect_spec r) (m+l.length) e a w (Region.free_spec z D) (by simpa using B) h.1
   (Ym r l (k+1) _ _ (fun j G=>by have:=u (j+1) (by simpa using G);simpa[Nat.add_assoc,Nat.add_comm 1 j]using this) E h.2 n)
end
def gu(F:World->Prop):Prop:=∀w w',F w->Below w.heap.size w w'->F w'
structure ki(W:World)(F:World->Prop) where
 w':World
 h:Below W.heap.size W w'
 f:F w'
section
variable {P:Program}{W:World}{F:World->Prop}
theorem ki.cell{a:Addr}{v:Value}(e:a.block<W.heap.size)(h:W.cell? a=some v)(p:ki W F):p.w'.cell? a=some v:=(p.h.cell e).trans h
theorem ki.call{f:FuncId}{args:Array Value}{v:Value}(hF:gu F)(p:ki W F)(h:Calls P f args p.w' fun e w'=>e=.returned v/\Below p.w'.heap.size p.w' w'):
  Calls P f args p.w' fun e j=>e=.returned v/\∃q:ki W F,j=q.w':=
 h.mono fun _ j ⟨n,l⟩=>⟨n,⟨j,p.h.trans (l.mono p.h.size),hF _ _ p.f l⟩,rfl⟩
end
def BX(e:Act)(o:Oper):Value:=(o.dst.bind (e.tmps[·]?)).getD undef
def kj(n:Nat):List Oper->Bool
 |[]=>true
 |o::r=>(match o.dst with|some d=>decide (d<n)&&r.all (fun e=>e.dst !=some d)|none=>false)&&kj n r
section
variable {P:Program}{ops:Array Oper}
theorem Qv{a:Act}{d e:Nat}{v:Value}(h:e≠d):(a.put (some e) v).tmps[d]?=a.tmps[d]?:=by show(a.tmps.setIfInBounds e v)[d]?=_;rw[Array.getElem?_setIfInBounds_ne h]
theorem Ux{a:Act}{d:Nat}{v:Value}(h:d<a.tmps.size):(a.put (some d) v).tmps[d]?=some v:=by show(a.tmps.setIfInBounds d v)[d]?=_;rw[Array.getElem?_setIfInBounds_self_of_lt h]
theorem NY(a:Act)(d:Option Nat)(v:Value):(a.put d v).tmps.size=a.tmps.size:=by
 cases d with
 |none=>rfl
 |some d=>show(a.tmps.setIfInBounds d v).size=_;simp
theorem J2{C:World->Prop}{j:Act}{d:Nat}:∀(l:List Oper) (a:Act),l.all (fun y=>y.dst !=some d)=true->(∀o∈l,o.dst≠none)->wpQuiet P ops C (fun a'=>a'=j) l a->j.tmps[d]?=a.tmps[d]?
 |[],a,_,_,h=>by rw[show a=j from h]
 |o::l,a,hd,n,h=>by
  simp only[List.all_cons,ar5,bne_iff_ne,ne_eq]at hd;obtain⟨e,p⟩:=atv.1 (n o (by simp));have u:e≠d:=fun x=>hd.1 (by rw[p,x]);unfold wpQuiet at h;split at h
  ·obtain⟨v,_,z⟩:=h;rw[J2 l _ hd.2 (fun o r=>n o (by simp[r])) z,p,Qv u]
  ·rw[J2 l _ hd.2 (fun o r=>n o (by simp[r])) h,p,Qv u]
theorem IA{n:Nat}:∀{l:List Oper},kj n l=true->∀o∈l,o.dst≠none
 |[],_,o,j=>by cases j
 |x::r,h,o,j=>by
  simp only[kj,ar5]at h;rcases asb.1 j with e|e
  ·subst e;intro p;rw[p]at h;cases h.1
  ·exact IA h.2 o e
theorem Yn{W:World}{z:Act}:∀(l:List Oper) (a:Act),kj a.tmps.size l=true->(∀F:World->Prop,gu F->Inhabited (ki W F)->wpQuiet P ops (fun w'=>∃p:ki W F,w'=p.w') (fun a'=>a'=z) l a)->
  EZ P ops (fun w'=>Below W.heap.size W w') z (BX z) l a
 |[],a,_,H=>H (fun _=>True) (fun _ _ _ _=>trivial) ⟨⟨W,arM _ _,trivial⟩⟩
 |o::l,a,hd,H=>by
  have Q:=hd;simp only[kj,ar5]at hd;obtain⟨I,L⟩:=hd;obtain⟨d,D⟩:=atv.1 (IA Q o (by simp));rw[D]at I;simp only[ar5,ar7]at I;have R:=IA L;have E:∀v,kj (a.put o.dst v).tmps.size l=true:=fun v=>by rw[NY];exact L
  have B:∀(C:World->Prop) (v:Value),wpQuiet P ops C (fun a'=>a'=z) l (a.put o.dst v)->BX z o=v:=fun C v h=>by have y:=J2 (d:=d) l _ I.2 R h;rw[D,Ux I.1]at y;unfold BX;rw[D];simp[y]
  by_cases J:Region.wanted o (yielded ops a.tmps)=true
  ·have G:∀F:World->Prop,gu F->Inhabited (ki W F)->(∀w,(∃p:ki W F,w=p.w')->o.quietAt P a (fun w'=>∃p:ki W F,w'=p.w') w (BX z o))/\wpQuiet P ops (fun w'=>∃p:ki W F,w'=p.w') (fun a'=>a'=z) l (a.put o.dst (BX z o)):=by
    intro F hF j;have h:=H F hF j;unfold wpQuiet at h;rw[arK J]at h;obtain⟨v,y,M⟩:=h;rw[B _ v M];exact⟨y,M⟩
   refine⟨.inl ⟨J,fun w N=>?_⟩,Yn l _ (E _) (fun F hF j=>(G F hF j).2)⟩;have y:=(G (fun w'=>Below w.heap.size w w') (fun Y Z O S=>O.trans (S.mono O.size)) ⟨⟨w,N,arM _ _⟩⟩).1 w ⟨⟨w,N,arM _ _⟩,rfl⟩;unfold Oper.quietAt at*;generalize (execOp a.eval o).run P w=r at*;cases r with
   |ok n w'=>
    cases n<;>simp only[Oper.quietUpon]at y|-
    case value u=>exact y
    case skip=>exact y
    case enter f args=>exact⟨y.1,y.2.mono fun e T ⟨U,p,V⟩=>⟨U,by rw[V];exact⟨p.h,p.f⟩⟩⟩
   |halt x w'=>simp only[Oper.quietUpon]at y
  ·have K:Region.wanted o (yielded ops a.tmps)=false:=(by simpa using J);have G:∀F:World->Prop,gu F->Inhabited (ki W F)->wpQuiet P ops (fun w'=>∃p:ki W F,w'=p.w') (fun a'=>a'=z) l (a.put o.dst undef):=by
    intro F hF j;have h:=H F hF j;unfold wpQuiet at h;rw[arJ J]at h;exact h
   have X:=B _ undef (G (fun _=>True) (fun _ _ _ _=>trivial) ⟨⟨W,arM _ _,trivial⟩⟩);rw[EZ,X];exact⟨.inr ⟨K,rfl⟩,Yn l _ (E _) G⟩
theorem ahW{id:Nat}{Q:Exit->Act->World->Prop}{a aE:Act}{W:World}{l r:List Oper}{m:Nat}(u:P.follows .mixedOrders=true)(y:Region.noSelect (l++r).toArray=true)(z:m=r.length)
  (B:LQ .any (l++r).toArray l.length 0 (Array.replicate (l++r).length false)=true) (hd:kj a.tmps.size l=true)
  (H:∀F:World->Prop,gu F->Inhabited (ki W F)->wpQuiet P (l++r).toArray (fun w'=>∃p:ki W F,w'=p.w') (fun a'=>a'=aE) l a)
  (M:cM P .any (l++r).toArray (fun w'=>Below W.heap.size W w') (fun a w=>Q .normal a w) m (NX l.length 0 (Array.replicate (l++r).length false)) aE W):(Code.region id (l++r).toArray true).wp P Q a W:=by
 refine wp_region_any u ?_;have D:=Ym (md:=.any) y l 0 (Array.replicate (l++r).length false) a (fun j E=>by simp[ati E]) B (Yn l a hd H) M;have n:=Iz (Q':=Q) (fun _ _ h=>h) _ _ _ {W with drawn:=W.drawn+1} (show Below W.heap.size W {W with drawn:=W.drawn+1}from below_drewN (arM _ _) 1) (Ea D (below_drewN (arM W.heap.size W) 1));have e:m+l.length=(l++r).length:=by rw[z];simp;omega
 rw[e]at n;simpa using n
theorem ahX{id:Nat}{Q:Exit->Act->World->Prop}{a aE:Act}{W:World}{L:List Oper}(n m:Nat)(u:P.follows .mixedOrders=true)(y:Region.noSelect L.toArray=true)(D:n+m=L.length)
  (z:LQ .any L.toArray n 0 (Array.replicate L.length false)=true) (hd:kj a.tmps.size (L.take n)=true)
  (H:∀F:World->Prop,gu F->Inhabited (ki W F)->wpQuiet P L.toArray (fun w'=>∃p:ki W F,w'=p.w') (fun a'=>a'=aE) (L.take n) a)
  (M:∀j:Act->World->Prop,(∀a w,Q .normal a w->j a w)->cM P .any L.toArray (fun w'=>Below W.heap.size W w') j m (NX n 0 (Array.replicate L.length false)) aE W):(Code.region id L.toArray true).wp P Q a W:=by
 have e:=atn n L;have el:(L.take n).length=n:=by simp;omega
 have B:m=(L.drop n).length:=by simp;omega
 have h:=ahW (id:=id) (Q:=Q) (a:=a) (aE:=aE) (W:=W) (l:=L.take n) (r:=L.drop n) (m:=m) u;rw[e,el]at h;exact h y B z hd H (M _ fun _ _ h=>h)
theorem bG{md:Region.Mode}{C:World->Prop}{Q:Act->World->Prop}{n:Nat}{j:Array Bool}{a:Act}{w:World}(l:List Nat)(hr:Region.ready md ops j=l)(p:l≠[])
  (h:∀w',C w'->Below w.heap.size w w'->∀i∈l,iJ P ops C i (fun u r=>C r/\cM P md ops C Q n (j.setIfInBounds i true) u r) a w'):cM P md ops C Q (n+1) j a w:=by
 subst hr;exact fun w' c b=>⟨fun e=>absurd e p,h w' c b⟩
theorem jZ{md:Region.Mode}{C:World->Prop}{Q:Act->World->Prop}{e:Array Bool}{a:Act}{w:World}(hr:Region.ready md ops e=[])(h:∀w',C w'->Below w.heap.size w w'->Q a w'):cM P md ops C Q 0 e a w:=
 fun w' c b=>⟨hr,h w' c b⟩
theorem NZ{C:World->Prop}{i:Nat}{o:Oper}{K:Act->World->Prop}{a:Act}{w:World}(e:ops[i]?=some o)(j:Region.wanted o (yielded ops a.tmps)=true)(h:C6 o a K ((execOp a.eval o).run P w)):iJ P ops C i K a w:=by right;unfold F3;simp only[e,j,ash];exact h
theorem bw{C:World->Prop}{i:Nat}{o:Oper}{K:Act->World->Prop}{a:Act}{w:World}(v:Value)(j:World)(l:ops[i]?=some o)(n:Region.wanted o (yielded ops a.tmps)=true)(e:(execOp a.eval o).run P w=.ok (.value v) j)(h:K (a.put o.dst v) j):iJ P ops C i K a w:=
 NZ l n (by rw[e];exact h)
theorem eF{C:World->Prop}{i:Nat}{o:Oper}{K:Act->World->Prop}{a:Act}{w:World}(j:World)(l:ops[i]?=some o)(n:Region.wanted o (yielded ops a.tmps)=true)(e:(execOp a.eval o).run P w=.ok .skip j)(h:K (a.put o.dst undef) j):iJ P ops C i K a w:=
 NZ l n (by rw[e];exact h)
end
theorem ab9(n:Int)(w:World):Calls prog 138 #[.int .i64 n] w fun e w'=>e=.returned (.bool (bJ n 1000000000))/\w=w':=by
 by_cases l:0<=n<;>by_cases p:n<=1000000000
 all_goals
  have j:bJ n 1000000000=(decide (0<=n)&&decide (n<=1000000000)):=by simp[bJ]
  have r:=arH j;clear j;go_enter func138,ntmps138;go_wp2;go_ret;exact⟨by rw[r.out];simp[l,p],rfl⟩
theorem ahY(A:Option Addr)(n:Nat)(j:List Int)(w:World)(B:Nat)(h:aj encI 1 w B A j)(E:j.length<=1000000)(p:∀x∈j,0<=x/\x<=1000000000):
  Calls prog 139 #[.slice A j.length n] w fun e w'=>e=.returned (.bool true)/\w=w':=by
 have u:=arH p;clear p;go_enter func139,ntmps139;go_wp2
 go_loop [3] (fun i=>∃k:Nat,k<=j.length/\i=.int .i64 k) (fun i=>j.length-(intOf i).toNat)
 case atStart=>exact⟨0,by omega,rfl⟩
 case round=>
  obtain⟨k,G,rfl⟩:=hrel;by_cases l:k<j.length
  ·obtain⟨b,y,rfl,I,r⟩:=h.at_ l;have z:=r 0 _ rfl;simp only[arL,ast]at z;have D:bJ j[k] 1000000000=true:=im.2 (u.out _ (arO l));clear r;go_wp2_with fail;refine(ab9 _ _).mono ?_;rintro e w' ⟨rfl,rfl⟩;rw[D];go_wp2;go_round
   case rel=>exact⟨k+1,by omega,by go_num⟩
   case measure=>simp[intOf];omega
  ·go_wp2;go_ret;exact⟨rfl,rfl⟩
theorem aca(s:bR)(w:World)(h:mS s):Calls prog 137 #[Eb s] w fun e w'=>e=.returned (.bool true)/\Below w.heap.size w w':=by
 obtain⟨l,B,D,E,G,I,J,f0,f1,u0,u1,r,u⟩:=h;have n:s.code.size<=maxLen:=by simp only[bK,ar5,ar7]at l;exact ar0 l.1.1.2 (by unfold maxLen;omega)
 have y:=Uy r u;unfold Eb;go_enter func137,ntmps137;go_wp2_with fail;refine(BZ _ _ n).mono ?_;rintro e K ⟨rfl,j⟩;have p:=(ah.new w 123 #[.string s.code,.int .i64 s.aA,.int .i64 s.aT,.int .i64 s.floor,.int .i64 s.dt,.int .i64 s.unit,.int .i64 s.mode,.bool s.cA]).aa j;obtain⟨L,M,N,O,Q,R,S,T⟩:=p.cz8;have z:=aB (bD w _) j;rw[l];clear p j;go_wp2_with fail;refine(Cy _ _).mono ?_;rintro e w' ⟨rfl,rfl⟩;rw[y];go_wp2;go_ret;exact⟨rfl,z⟩
theorem ahZ(s:bR)(b:Int)(w:World):Calls prog 180 #[Eb s,.int .i64 b] w fun e w'=>e=.returned (IB (bC s b))/\Below w.heap.size w w':=by
 unfold Eb;go_enter func180,ntmps180;go_wp2_with(go_at_call 178;refine(Yo _ _ _ _ _ _).mono ?_;rintro e w' ⟨rfl,rfl⟩);refine arX (v:=IB (bC s b)) (by simp[results,results180,go_sem,IB,bC]) rfl ⟨rfl,?_⟩
 repeat(refine il ?_ (by omega) _ _)
 exact ej (bD _ _) _
theorem ah0(s:bR)(A:Option Addr)(D:Nat)(j:List Int)(w:World)(h:aj encI 1 w w.heap.size A j)(hl:j.length<=54)(p:∀x∈j,0<=x/\x<=8000000000)(E:mS s):
  Calls prog 181 #[Eb s,.slice A j.length D] w fun e w'=>e=.returned (.int .i64 (cQ s j))/\Below w.heap.size w w':=by
 have z:=arH p;clear p;have T:=E.c0;have G:=E.c1;have ey:0<=(j.length:Int)*s.dt:=asg (by omega) (by omega);have jY:(j.length:Int)*s.dt<=54*1000000000:=asV (by omega) G (by omega) (by omega);clear E;unfold Eb;go_enter func181,ntmps181;go_wp2;have M:=ah.new w 123 #[.string s.code,.int .i64 s.aA,.int .i64 s.aT,.int .i64 s.floor,.int .i64 s.dt,.int .i64 s.unit,.int .i64 s.mode,.bool s.cA];have hS:=h.below (bD w (.cells #[.string s.code,.int .i64 s.aA,.int .i64 s.aT,.int .i64 s.floor,.int .i64 s.dt,.int .i64 s.unit,.int .i64 s.mode,.bool s.cA] 123));have N:=bD w (.cells #[.string s.code,.int .i64 s.aA,.int .i64 s.aT,.int .i64 s.floor,.int .i64 s.dt,.int .i64 s.unit,.int .i64 s.mode,.bool s.cA] 123);generalize w.alloc (Obj.cells _ _)=W at M hS N|-
 go_loopw [5,6] (fun U i wr=>∃k q:Nat,k<=j.length/\i=.int .i64 k/\U=.int .i64 (kT s (j.take k))/\Hid (wr=W.drewN q)) (fun _ i _=>j.length-(intOf i).toNat)
 case atStart=>exact⟨0,0,by omega,rfl,rfl,rfl⟩
 case round=>
  obtain⟨k,q,hk,rfl,rfl,u⟩:=hrel;have O:ah wr w.heap.size 123 #[.string s.code,.int .i64 s.aA,.int .i64 s.aT,.int .i64 s.floor,.int .i64 s.dt,.int .i64 s.unit,.int .i64 s.mode,.bool s.cA]:=by rw[u.out];exact M.drewN q
  have I:aj encI 1 wr w.heap.size A j:=by rw[u.out];exact hS
  have V:Below w.heap.size w wr:=by rw[u.out];exact below_drewN N q
  have J:=Yp (s:=s) (l:=j.take k) (fun x p=>(z.out x (ar6 p)).1);have K:=Yq (s:=s) (l:=j.take k) (fun x p=>(z.out x (ar6 p)).1);have y:=(kR (l:=j.take k) (B:=8000000000) (fun x p=>z.out x (ar6 p))).2;simp only[asA]at y;have L:kT s (j.take k)<=432000000000:=by omega
  obtain⟨z0,z1,z2,z3,z4,z5,z6,z7⟩:=O.cz8;clear O K y;by_cases r:k<j.length
  ·obtain⟨b,X,rfl,hb,Q⟩:=I.at_ r;have Y:=Q 0 _ rfl;simp only[arL,ast]at Y;have R:=arH (acb s j k r);obtain⟨x0,x1⟩:=z.out _ (arO r);clear Q;by_cases Z:s.floor<=j[k]
   ·go_wp2;go_quiet(fail);go_wp2;go_roundw
    case rel=>exact⟨k+1,q+nq,by omega,by go_num,by rw[R.out,arK Z],by show wr.drewN nq=W.drewN (q+nq);rw[u.out,World.drewN_drewN]⟩
    case measure=>simp[intOf];omega
   ·go_wp2;go_quiet(fail);go_wp2;go_roundw
    case rel=>
     have S:∃k' q':Nat,k'<=j.length/\Value.int .i64 ((k:Int)+1)=.int .i64 k'/\Value.int .i64 (kT s (j.take k))=.int .i64 (kT s (j.take k'))/\Hid (wr.drewN nq=W.drewN q'):=⟨k+1,q+nq,by omega,by go_num,by rw[R.out,arJ (by omega)];congr 1;omega,by show wr.drewN nq=W.drewN (q+nq);rw[u.out,World.drewN_drewN]⟩
     first|exact S|((repeat apply Exists.intro);exact⟨S,rfl⟩)
    case measure=>simp[intOf];omega
  ·obtain rfl:k=j.length:=by omega
   rw[asB (by omega)]at J L|-;go_wp2
   all_goals go_ret;refine⟨?_,V⟩;rw[cQ];exact congrArg (fun n:Int=>Ending.returned (.int .i64 n)) (by omega)
theorem acd(s:bR)(A:Option Addr)(n l:Nat)(j:List Int)(w:World)(p:n=j.length)(h:aj encI 1 w w.heap.size A j)(r:j.length<=54)(u:∀x∈j,0<=x/\x<=8000000000)(y:mS s):
  Calls prog 181 #[.agg #[.string s.code,.int .i64 s.aA,.int .i64 s.aT,.int .i64 s.floor,.int .i64 s.dt,.int .i64 s.unit,.int .i64 s.mode,.bool s.cA],.slice A n l] w fun e w'=>e=.returned (.int .i64 (cQ s j))/\Below w.heap.size w w':=by
 subst p;exact ah0 s A l j w h r u y
theorem ah1(s:bR)(b:Int)(w:World):Calls prog 180 #[.agg #[.string s.code,.int .i64 s.aA,.int .i64 s.aT,.int .i64 s.floor,.int .i64 s.dt,.int .i64 s.unit,.int .i64 s.mode,.bool s.cA],.int .i64 b] w fun e w'=>e=.returned (.agg #[.int .i64 (bC s b).base,.int .i64 (bC s b).aA,.int .i64 (bC s b).aT])/\Below w.heap.size w w':=ahZ s b w
theorem ah2(s:bR)(A:Option Addr)(y:Nat)(j:List Int)(w:World)(h:aj encI 1 w w.heap.size A j)(hl:j.length<=54)(G:0<j.length)(Qy:j.length<=y)(D:∀x∈j,0<=x/\x<=8000000000)(hs:mS s):
  Calls prog 140 #[Eb s,.slice A j.length y] w fun e w'=>e=.returned (IB (jO s j))/\Below w.heap.size w w':=by
 have HX:=arH D;clear D;have HS:=arH hs;clear hs;have ad:j≠[]:=by intro e;subst e;simp at G
 have af:((0<=(bC s (cQ s j)).aA/\(bC s (cQ s j)).aA<=60000000000)/\(0<=(bC s (cQ s j)).aT/\(bC s (cQ s j)).aT<=60000000000)/\(0<=(bC s (cQ s j.dropLast)).aA/\(bC s (cQ s j.dropLast)).aA<=60000000000)/\(0<=(bC s (cQ s j.dropLast)).aT/\(bC s (cQ s j.dropLast)).aT<=60000000000)/\(0<=(bC s (cQ s j)).base/\(bC s (cQ s j)).base<=60000000000)/\(0<=(bC s (cQ s j.dropLast)).base/\(bC s (cQ s j.dropLast)).base<=60000000000)):=by have ai:∀x∈j,0<=x:=fun x D=>(HX.out x D).1;obtain⟨c0,c1⟩:=IC HS.out ai hl;obtain⟨d0,d1⟩:=IC (s:=s) (l:=j.dropLast) HS.out (fun x D=>ai x ((atq j).subset D)) (by simp;omega);obtain⟨_,_,f1,f2,f3,f4,f5⟩:=ID HS.out c0 (by omega:cQ s j<=500000000000);obtain⟨_,_,g1,g2,g3,g4,g5⟩:=ID HS.out d0 (by omega:cQ s j.dropLast<=500000000000);rw[f1,g1];omega
 have IE:=arH af;clear af ad;obtain⟨ab,LR,rfl,an,Yr⟩:=h.at_ G;clear Yr;obtain⟨m,hm⟩:∃m,j.length=m:=⟨j.length,rfl⟩
 have HL:=arH hl;have HM:=arH hm;rw[hm]at Qy|-;have ao:m<=54:=by omega
 have C8:0<m:=by omega
 clear hm G hl;unfold Eb;go_enter func140,ntmps140;go_wp2_with fail;have hB:=(ah.new w 123 #[.string s.code,.int .i64 s.aA,.int .i64 s.aT,.int .i64 s.floor,.int .i64 s.dt,.int .i64 s.unit,.int .i64 s.mode,.bool s.cA]).alloc (.cells #[.int .i64 0,.int .i64 0,.int .i64 0] 142);have hR:=ah.new (w.alloc (.cells #[.string s.code,.int .i64 s.aA,.int .i64 s.aT,.int .i64 s.floor,.int .i64 s.dt,.int .i64 s.unit,.int .i64 s.mode,.bool s.cA] 123)) 142 #[.int .i64 0,.int .i64 0,.int .i64 0];have ae:=ej (bD w (.cells #[.string s.code,.int .i64 s.aA,.int .i64 s.aT,.int .i64 s.floor,.int .i64 s.dt,.int .i64 s.unit,.int .i64 s.mode,.bool s.cA] 123)) (.cells #[.int .i64 0,.int .i64 0,.int .i64 0] 142);rw[arU]at hR;generalize (w.alloc (Obj.cells #[.string s.code,.int .i64 s.aA,.int .i64 s.aT,.int .i64 s.floor,.int .i64 s.dt,.int .i64 s.unit,.int .i64 s.mode,.bool s.cA] 123)).alloc (Obj.cells #[.int .i64 0,.int .i64 0,.int .i64 0] 142)=W at hB hR ae|-;have hS:=h.aa ae;have E:w.heap.size<W.heap.size:=hB.lt;have Ys:w.heap.size+1<W.heap.size:=hR.lt;have hD:aj encI 1 W W.heap.size (some ⟨ab,LR,none⟩) j.dropLast:=by rw[List.dropLast_eq_take];exact hS.take _
 have J3:Hid (m-1=j.dropLast.length):=by have:=HM.out;simp[Hid];omega
 have Yt:Hid (∀x∈j.dropLast,0<=x/\x<=8000000000):=fun x D=>HX.out x ((atq j).subset D);obtain⟨z0,z1,z2,z3,z4,z5,z6,z7⟩:=hB.cz8;have C9:=arH hS;have G0:=arH hD;clear hS hD h;have B0:¬y=0:=by omega
 have ap:IntKind.i64.wrap ((m:Int)-1)=(m:Int)-1:=by rw[IntKind.wrap_i64];omega
 have Yu:=Yv ab LR m y ((m:Int)-1) (m-1) (by omega) (by omega) B0;refine ahX (aE:=?aE) 14 4 (by kernel_rfl) (by kernel_rfl) rfl (by kernel_rfl) (by rfl) ?H ?M
 case H=>
  intro F hF am;simp only[List.take_succ_cons,List.take_zero];have e0:=ki.cell (F:=F) (a:=⟨w.heap.size,0,none⟩) (by exact E) z0;have e1:=ki.cell (F:=F) (a:=⟨w.heap.size,1,none⟩) (by exact E) z1;have e2:=ki.cell (F:=F) (a:=⟨w.heap.size,2,none⟩) (by exact E) z2;have e3:=ki.cell (F:=F) (a:=⟨w.heap.size,3,none⟩) (by exact E) z3;have e4:=ki.cell (F:=F) (a:=⟨w.heap.size,4,none⟩) (by exact E) z4;have e5:=ki.cell (F:=F) (a:=⟨w.heap.size,5,none⟩) (by exact E) z5;have e6:=ki.cell (F:=F) (a:=⟨w.heap.size,6,none⟩) (by exact E) z6;have e7:=ki.cell (F:=F) (a:=⟨w.heap.size,7,none⟩) (by exact E) z7
  repeat(first|go_big_quiet_step((first|(go_at_call 180;exact ki.call hF _ (ah1 s _ _))|with_reducible exact ki.call hF _ (acd s _ _ _ j _ HM.out.symm (C9.out.aa (ki.h _)) HL.out HX.out HS.out)|with_reducible exact ki.call hF _ (acd s _ _ _ j.dropLast _ J3.out (G0.out.aa (ki.h _)) (by rw[<-J3.out];omega) Yt.out HS.out))))
  refine wpQuiet_nil ?_;rfl
 case M=>
  intro Q0 bO;refine bG [14,15] (by kernel_rfl) (by simp) ?_;intro r aU au i hi;simp only[bM,bN,arN]at hi;rcases hi with rfl|rfl
  ·refine bw (.pointer (some ⟨r.heap.size,0,none⟩)) (r.alloc (.cells #[.int .i64 0,.int .i64 0,.int .i64 0] 142)) rfl rfl (by go_simp) ⟨ej aU _,?_⟩;have hA:=ah.new r 142 #[.int .i64 0,.int .i64 0,.int .i64 0];refine bG [15] (by kernel_rfl) (by simp) ?_;intro p fX I i hi;simp only[bM,bN,arN]at hi;subst hi;have dP:=hA.aa I;refine bw (.pointer (some ⟨p.heap.size,0,none⟩)) (p.alloc (.cells #[.int .i64 0,.int .i64 0,.int .i64 0] 142)) rfl rfl (by go_simp) ⟨ej fX _,?_⟩;have cU:=dP.alloc (.cells #[.int .i64 0,.int .i64 0,.int .i64 0] 142);have bE:=ah.new p 142 #[.int .i64 0,.int .i64 0,.int .i64 0];have al:=dP.lt;have Qz:r.heap.size≠p.heap.size:=(by omega);have J:W.heap.size<=r.heap.size:=aU.size;have K:W.heap.size<=p.heap.size:=fX.size;clear hA dP;refine bG [16] (by kernel_rfl) (by simp) ?_;intro w4 lV u i hi;simp only[bM,bN,arN]at hi;subst hi;have z:=cU.aa u;have dg:=bE.aa u;obtain⟨L,N,O⟩:=z.cz3;obtain⟨Q,R,S⟩:=z.fz3;refine eF (((w4.setCell ⟨r.heap.size,0,none⟩ (.int .i64 (bC s (cQ s j)).base)).setCell ⟨r.heap.size,1,none⟩ (.int .i64 (bC s (cQ s j)).aA)).setCell ⟨r.heap.size,2,none⟩ (.int .i64 (bC s (cQ s j)).aT)) rfl rfl (by go_simp) ⟨?_,?_⟩
   ·exact iX (iX (iX lV J 0 _) J 1 _) J 2 _
   have T:=z.fill (dT (bC s (cQ s j))) rfl;have U:=dg.LX (g':=r.heap.size) (fun e=>Qz e.symm) (dT (bC s (cQ s j))) 0;simp only[iK,dT,arT,Nat.reduceAdd]at T U;clear L N O Q R S z dg cU bE;refine bG [17] (by kernel_rfl) (by simp) ?_;intro w5 bz V i hi;simp only[bM,bN,arN]at hi;subst hi;have QA:=T.aa V;have B:=U.aa V;obtain⟨L,N,O⟩:=B.cz3;obtain⟨Q,R,S⟩:=B.fz3;refine eF (((w5.setCell ⟨p.heap.size,0,none⟩ (.int .i64 (bC s (cQ s j.dropLast)).base)).setCell ⟨p.heap.size,1,none⟩ (.int .i64 (bC s (cQ s j.dropLast)).aA)).setCell ⟨p.heap.size,2,none⟩ (.int .i64 (bC s (cQ s j.dropLast)).aT)) rfl rfl (by go_simp) ⟨?_,?_⟩
   ·exact iX (iX (iX bz K 0 _) K 1 _) K 2 _
   have X:=B.fill (dT (bC s (cQ s j.dropLast))) rfl;have Y:=QA.LX (g':=p.heap.size) Qz (dT (bC s (cQ s j.dropLast))) 0;simp only[iK,dT,arT,Nat.reduceAdd]at Y X;clear L N O Q R S QA B T U;refine jZ (by kernel_rfl) ?_;intro w6 ft Z;have F5:=Y.aa Z;have fD:=X.aa Z;obtain⟨x0,x1,x2⟩:=F5.cz3;obtain⟨y0,y1,y2⟩:=fD.cz3;have dR:=hR.below ft Ys;obtain⟨r0,r1,r2⟩:=dR.cz3;obtain⟨oZ,o5,o6⟩:=dR.fz3;apply bO;clear F5 fD Y X Z V u bz lV z0 z1 z2 z3 z4 z5 z6 z7;obtain⟨⟨u0,u1⟩,⟨u2,u3⟩,⟨u4,u5⟩,⟨u6,u7⟩,⟨u8,u9⟩,u10,u11⟩:=IE.out;go_wp2;have n:=dR.fill (dT (jO s j)) rfl;have ay:=LZ (g:=w.heap.size+1) (by omega) (dT (jO s j)) 0 (aB ae ft);simp only[iK,dT,jO,IH,arT,Nat.reduceAdd]at n ay;generalize World.setCell _ _ _=WW at n ay|-;obtain⟨QB,QC,QD⟩:=n.cz3;refine arX (v:=IB (jO s j)) (by simp[results,results140,go_sem,QB,QC,QD,IB,jO,IH]) rfl ⟨rfl,ay⟩
  ·refine bw (.pointer (some ⟨r.heap.size,0,none⟩)) (r.alloc (.cells #[.int .i64 0,.int .i64 0,.int .i64 0] 142)) rfl rfl (by go_simp) ⟨ej aU _,?_⟩;have hB:=ah.new r 142 #[.int .i64 0,.int .i64 0,.int .i64 0];refine bG [14] (by kernel_rfl) (by simp) ?_;intro p fX I i hi;simp only[bM,bN,arN]at hi;subst hi;have aK:=hB.aa I;refine bw (.pointer (some ⟨p.heap.size,0,none⟩)) (p.alloc (.cells #[.int .i64 0,.int .i64 0,.int .i64 0] 142)) rfl rfl (by go_simp) ⟨ej fX _,?_⟩;have bE:=aK.alloc (.cells #[.int .i64 0,.int .i64 0,.int .i64 0] 142);have cU:=ah.new p 142 #[.int .i64 0,.int .i64 0,.int .i64 0];have al:=aK.lt;have Qz:p.heap.size≠r.heap.size:=(by omega);have J:W.heap.size<=p.heap.size:=fX.size;have K:W.heap.size<=r.heap.size:=aU.size;clear hB aK;refine bG [16] (by kernel_rfl) (by simp) ?_;intro w4 lV u i hi;simp only[bM,bN,arN]at hi;subst hi;have z:=cU.aa u;have dg:=bE.aa u;obtain⟨L,N,O⟩:=z.cz3;obtain⟨Q,R,S⟩:=z.fz3;refine eF (((w4.setCell ⟨p.heap.size,0,none⟩ (.int .i64 (bC s (cQ s j)).base)).setCell ⟨p.heap.size,1,none⟩ (.int .i64 (bC s (cQ s j)).aA)).setCell ⟨p.heap.size,2,none⟩ (.int .i64 (bC s (cQ s j)).aT)) rfl rfl (by go_simp) ⟨?_,?_⟩
   ·exact iX (iX (iX lV J 0 _) J 1 _) J 2 _
   have T:=z.fill (dT (bC s (cQ s j))) rfl;have U:=dg.LX (g':=p.heap.size) (fun e=>Qz e.symm) (dT (bC s (cQ s j))) 0;simp only[iK,dT,arT,Nat.reduceAdd]at T U;clear L N O Q R S z dg cU bE;refine bG [17] (by kernel_rfl) (by simp) ?_;intro w5 bz V i hi;simp only[bM,bN,arN]at hi;subst hi;have QA:=T.aa V;have B:=U.aa V;obtain⟨L,N,O⟩:=B.cz3;obtain⟨Q,R,S⟩:=B.fz3;refine eF (((w5.setCell ⟨r.heap.size,0,none⟩ (.int .i64 (bC s (cQ s j.dropLast)).base)).setCell ⟨r.heap.size,1,none⟩ (.int .i64 (bC s (cQ s j.dropLast)).aA)).setCell ⟨r.heap.size,2,none⟩ (.int .i64 (bC s (cQ s j.dropLast)).aT)) rfl rfl (by go_simp) ⟨?_,?_⟩
   ·exact iX (iX (iX bz K 0 _) K 1 _) K 2 _
   have X:=B.fill (dT (bC s (cQ s j.dropLast))) rfl;have Y:=QA.LX (g':=r.heap.size) Qz (dT (bC s (cQ s j.dropLast))) 0;simp only[iK,dT,arT,Nat.reduceAdd]at Y X;clear L N O Q R S QA B T U;refine jZ (by kernel_rfl) ?_;intro w6 ft Z;have F5:=Y.aa Z;have fD:=X.aa Z;obtain⟨x0,x1,x2⟩:=F5.cz3;obtain⟨y0,y1,y2⟩:=fD.cz3;have dR:=hR.below ft Ys;obtain⟨r0,r1,r2⟩:=dR.cz3;obtain⟨oZ,o5,o6⟩:=dR.fz3;apply bO;clear F5 fD Y X Z V u bz lV z0 z1 z2 z3 z4 z5 z6 z7;obtain⟨⟨u0,u1⟩,⟨u2,u3⟩,⟨u4,u5⟩,⟨u6,u7⟩,⟨u8,u9⟩,u10,u11⟩:=IE.out;go_wp2;have n:=dR.fill (dT (jO s j)) rfl;have ay:=LZ (g:=w.heap.size+1) (by omega) (dT (jO s j)) 0 (aB ae ft);simp only[iK,dT,jO,IH,arT,Nat.reduceAdd]at n ay;generalize World.setCell _ _ _=WW at n ay|-;obtain⟨QB,QC,QD⟩:=n.cz3;refine arX (v:=IB (jO s j)) (by simp[results,results140,go_sem,QB,QC,QD,IB,jO,IH]) rfl ⟨rfl,ay⟩
theorem QE{w:World}{base g n j:Nat}{e:TypeId}{k:Nat}{L:List Value}(h:w.ownsRow base e k (.slice (some ⟨g,0,none⟩) n j) n L)(i:Nat)(u:Value):
  (w.setCell ⟨g,i,none⟩ u).ownsRow base e k (.slice (some ⟨g,0,none⟩) n j) n (L.set i u):=by
 obtain⟨z,B⟩:=h;refine⟨by simpa using z,?_⟩;rcases B with⟨p,_⟩|⟨N,y,r,p,D,E,G,I,J,K⟩
 ·cases p
 ·injection p with l O M
  injection l with l
  injection l with l _
  subst l M;refine .inr ⟨g,j,r.setIfInBounds i u,rfl,D,?_,G,I,by simpa using J,?_⟩
  ·simp[World.setCell,as5,E]
  ·rw[Array.toList_setIfInBounds,List.take_set,K]
theorem ah4{B:Type}{e:B->List Value}(E:∀x,(e x).length=3)(y:B)(a b c:Value)(hy:e y=[a,b,c]):∀(u:List B) (j:Nat),j<u.length->(u.set j y).flatMap e=(((u.flatMap e).set (j*3) a).set (j*3+1) b).set (j*3+2) c:=by
 intro u
 induction u with
 |nil=>intro j D;simp at D
 |cons x r G=>
  intro j D;cases j with
  |zero=>
   obtain⟨l,n,p,z⟩:∃l n p,e x=[l,n,p]:=by
    have:=E x
    match z:e x,this with
    |[l,n,p],_=>exact⟨l,n,p,rfl⟩
   simp[hy,z]
  |succ j=>
   obtain⟨l,n,p,z⟩:∃l n p,e x=[l,n,p]:=by
    have:=E x
    match z:e x,this with
    |[l,n,p],_=>exact⟨l,n,p,rfl⟩
   rw[ar2,asL,asL,G j (by simpa using D),z];rw[show(j+1)*3=j*3+3 by omega,show j*3+3+1=j*3+1+3 by omega,show j*3+3+2=j*3+2+3 by omega];simp
theorem ah5{n:Type}{e:n->List Value}(p:∀x,(e x).length=3)(j:List n):(j.flatMap e).length=j.length*3:=by
 induction j with
 |nil=>rfl
 |cons a l r=>rw[asL,arV,p,r,arZ];omega
theorem Own.ace{p:Type}{l:p->List Value}{e:TypeId}{w:World}{base g cap:Nat}{ys:List p}(r:∀x,(l x).length=3){n:Nat}(u:n=ys.length)(h:Own l 3 e w base (.slice (some ⟨g,0,none⟩) n cap) ys){j:Nat}(z:j<ys.length)(y:p)(a b c:Value)(hy:l y=[a,b,c]):
  Own l 3 e (((w.setCell ⟨g,j*3,none⟩ a).setCell ⟨g,j*3+1,none⟩ b).setCell ⟨g,j*3+2,none⟩ c) base (.slice (some ⟨g,0,none⟩) n cap) (ys.set j y):=by
 subst u;unfold Own;rw[ah4 r y a b c hy ys j z,List.length_set];exact QE (QE (QE h _ _) _ _) _ _
theorem Own.some_{n:Type}{l:n->List Value}{k:Nat}{e:TypeId}{w:World}{base:Nat}{v:Value}{ys:List n}(h:Own l k e w base v ys)(p:0<ys.length):∃g cap j,v=.slice (some ⟨g,0,none⟩) ys.length cap/\base<=g/\ah w g e j/\ys.length<=cap/\cap<=maxLen:=by
 rcases h.2 with⟨_,B⟩|⟨g,cap,j,rfl,r,u,y,z,_⟩
 ·omega
 ·exact⟨g,cap,j,rfl,r,u,y,z⟩
theorem ah6(n:Nat):(madeCells #[Value.int .i64 0,.int .i64 0,.int .i64 0] (n*3)).toList=(List.replicate n jt).flatMap dT:=by
 have e:(List.replicate n jt).flatMap dT=List.replicate (n*3) (Value.int .i64 0):=by
  induction n with
  |zero=>rfl
  |succ n l=>rw[as9,asL,l,show(n+1)*3=n*3+1+1+1 by omega,as9,as9,as9];rfl
 rw[e,List.eq_replicate_iff];refine⟨by simp[madeCells],fun b j=>?_⟩;simp only[madeCells]at j;simp at j;obtain⟨a,_,rfl⟩:=j;rcases(show a%3=0\/a%3=1\/a%3=2 by omega)with h|h|h<;>simp[h]
theorem acf(n:Nat)(r:n<=1000)(w:World):(Instr.makeSlice 138 (.int .i64 (n:Int)) (.int .i64 (n:Int))).run prog w=.ok (.slice (some ⟨w.heap.size,0,none⟩) n n) (w.alloc (.cells ((List.replicate n jt).flatMap dT).toArray 142)):=by obtain⟨i,hi,j,l,p⟩:=info_parts ah7;have e:=run_make (P:=prog) w 138 142 i _ underlying138 hi j .i64 .i64 (n:Int) (n:Int) (by omega) (asI _) (by rw[p];omega) (by omega);simp only[Int.toNat_natCast,l]at e;rw[e,<-ah6];rfl
def Yw(v:gv)(e:List Int)(i:Nat):gv:=⟨(eB v.base e).getD i 0,(eB v.aA e).getD i 0,(eB v.aT e).getD i 0⟩
def G5(v:gv)(e:List Int)(n k:Nat):List gv:=(List.range n).map fun i=>if i<k then Yw v e i else jt
theorem QF(v:gv)(e:List Int)(n k:Nat):(G5 v e n k).length=n:=by simp[G5]
theorem ah8(v:gv)(e:List Int)(n:Nat):G5 v e n 0=List.replicate n jt:=by rw[List.eq_replicate_iff];exact⟨QF _ _ _ _,fun x j=>by obtain⟨i,_,rfl⟩:=ar8.1 j;simp⟩
theorem ah9(v:gv)(j:List Int)(n k:Nat)(p:k<n):(G5 v j n k).set k (Yw v j k)=G5 v j n (k+1):=by
 apply List.ext_getElem?;intro i;rw[List.getElem?_set];simp only[G5,asu,List.length_range,as2];by_cases e:k=i
 ·subst e;simp[p]
 ·rw[arJ e];by_cases hi:i<n
  ·rw[List.getElem?_range hi];simp only[Option.map_some];congr 1;by_cases l:i<k
   ·rw[arK l,arK (by omega)]
   ·rw[arJ l,arJ (by omega)]
  ·rw[List.getElem?_eq_none (by simp;omega)];rfl
theorem aia(v:gv)(e:List Int)(h:aL e≠0):G5 v e e.length e.length=lW v e:=by rw[lW,arJ h,G5];apply List.map_congr_left;intro i hi;rw[arK (by simpa using hi)];rfl
theorem Yx(n:Nat)(e:List (List Int×Int))(k:Nat)(h:k<e.length):pE n (e.take (k+1))=Ec (pE n (e.take k)) (e[k].1++[e[k].2]):=by rw[ar9 h,pE,List.foldl_append];rfl
theorem aib(e:List (List Int×Int))(k:Nat)(h:k<e.length):mr (e.take (k+1))=mr (e.take k)++[e[k].2]:=by rw[ar9 h,mr,asW];rfl
theorem acg(a b:List Int)(i:Nat)(e:i<a.length)(j:i<b.length):(Ec a b).getD i 0=a.getD i 0+b.getD i 0:=by simp only[Ec,ar1,List.getElem?_zipWith,arW e,arW j];rfl
theorem Ed.take{n:Nat}{l:List (List Int×Int)}(h:Ed n l)(k:Nat):(pE n (l.take k)).length=n+1/\∀x∈pE n (l.take k),0<=x:=
 ach (l.take k) (fun e j=>h.lens e (ar6 j)) (fun e j=>(h.base e (ar6 j)).1) (fun e j x p=>(h.earlier e (ar6 j) x p).1) _ (by simp) (by intro x p;rw[List.eq_of_mem_replicate p];omega)
theorem Ed.aci{n:Nat}{j:List (List Int×Int)}(h:Ed n j):∀k,k<=j.length->∀i,i<n+1->(pE n (j.take k)).getD i 0<=k*1000000000:=by
 intro k
 induction k with
 |zero=>
  intro _ i hi;have:(pE n (j.take 0)).getD i 0=0:=by simp only[List.take_zero,pE,List.foldl_nil,ar1,atr];split<;>rfl
  omega
 |succ k p=>
  intro r i hi;have u:=p (by omega) i hi;have y:=(h.take k).1;have l:=arO (show k<j.length by omega);have z:=h.lens _ l;rw[Yx n j k (by omega),acg _ _ _ (by omega) (by simp;omega)];have B:(j[k].1++[j[k].2]).getD i 0<=1000000000:=by
   rw[ar1];cases e:(j[k].1++[j[k].2])[i]?with
   |none=>simp
   |some v=>
    rcases asf.1 (List.mem_of_getElem? e)with g|g
    ·exact(h.earlier _ l _ g).2
    ·simp at g;subst g;exact(h.base _ l).2
  rw[show((k+1:Nat):Int)*1000000000=k*1000000000+1000000000 by omega];omega
def Da(S x:List Int)(j:Nat)(i:Nat):Value:=.int .i64 (S.getD i 0+if i<j then x.getD i 0 else 0)
def pF(s:bR)(n:Nat)(e:List (List Int×Int)):List gv:=if fO (gI s n e)then[]else Ee s n e
def AH(s:bR)(n:Nat)(e:List (List Int×Int)):Int:=if fO (gI s n e)then 4 else 0
theorem acj{w:World}{g:Nat}{S x:List Int}{m:Nat}(h:RowI w g S)(e:S.length=m):w.rowIs g 3 m (Da S x 0):=by subst e;exact World.rowIs.congr h (fun i _=>by simp[Da])
theorem ack{w:World}{g m j:Nat}{S x:List Int}(h:w.rowIs g 3 m (Da S x j)):(w.setCell ⟨g,j,none⟩ (.int .i64 (S.getD j 0+x.getD j 0))).rowIs g 3 m (Da S x (j+1)):=by
 refine(h.set j _).congr fun i _=>?_;by_cases e:i=j
 ·subst e;rw[arK rfl];simp[Da]
 ·rw[arJ e];unfold Da;by_cases l:i<j
  ·rw[arK l,arK (by omega)]
  ·rw[arJ l,arJ (by omega)]
theorem acm{w:World}{g n:Nat}{S x:List Int}{b:Int}(h:w.rowIs g 3 (n+1) (Da S x n))(hS:S.length=n+1)(j:x.length=n):RowI (w.setCell ⟨g,n,none⟩ (.int .i64 (S.getD n 0+b))) g (Ec S (x++[b])):=by
 unfold RowI;have l:(Ec S (x++[b])).length=n+1:=by rw[acn];simp;omega
 rw[l];refine(h.set n _).congr fun i hi=>?_;rw[acg _ _ _ (by omega) (by simp;omega)];by_cases e:i=n
 ·subst e;rw[arK rfl];have:(x++[b]).getD i 0=b:=by rw[ar1,List.getElem?_append_right (by omega)];simp[j]
  rw[this]
 ·rw[arJ e];have:(x++[b]).getD i 0=x.getD i 0:=by rw[ar1,ati (by omega),ar1]
  rw[this,Da,arK (by omega)]
theorem aco{e:List cS}{k:Nat}(h:k<e.length):(e.map cS.v)[k]'(by simpa using h)=(e[k].l,e[k].base):=by simp[cS.v]
