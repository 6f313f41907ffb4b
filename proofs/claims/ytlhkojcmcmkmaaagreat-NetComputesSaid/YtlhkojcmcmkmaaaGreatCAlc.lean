/- Conditions: as stated. -/
import Derived.Deep.RegionLaw
import Derived.Maps.AppendAt
import Derived.Deep.RegionHeld3
import Derived.Test.YtlhkojcmcmkmaaaGreatCRec
set_option maxRecDepth 100000
set_option maxHeartbeats 4000000
namespace Go.Proofs.YtlhkojcmcmkmaaaGreat
open Go.Proofs.Tryz
open Go.RowKit
theorem Y9{total:Int}{ws:List Int}(l:0<=total)(n:total<=1000000000)(p:∀x∈ws,0<=x/\x<=1000000000)(u:0<ax ws){k:Nat}(r:k<ws.length):
  (0<=total*ws[k]/\total*ws[k]<=1000000000000000000)/\(total*ws[k]).tdiv (ax ws)=total*ws[k]/ax ws/\(total*ws[k]).tmod (ax ws)=total*ws[k]%ax ws/\(0<=total*ws[k]/ax ws/\total*ws[k]/ax ws<=1000000000):=by
 obtain⟨a,b⟩:=p _ (atT r);have e:0<=total*ws[k]:=aur l a;have z:total*ws[k]<=1000000000*1000000000:=auS n b a (by omega);have j:ws[k]<=ax ws:=EZ (fun x y=>(p x y).1) (atT r);refine⟨by omega,avb e,avs e,au5 e (by omega),?_⟩;refine Int.le_trans (Int.ediv_le_of_le_mul u ?_) n;exact auF j l
theorem Za{total:Int}{ws:List Int}{k:Nat}(e:k<ws.length):(cW total ws).getD k 0=total*ws[k]/ax ws:=by rw[atZ,cW,au0,atW e];rfl
theorem Zb{total:Int}{ws:List Int}{k:Nat}(e:k<ws.length):(k6 total ws).getD k 0=total*ws[k]%ax ws:=by rw[atZ,k6,au0,atW e];rfl
def upto(l:List Int)(n k:Nat):List Int:=l.take k++List.replicate (n-k) 0
theorem Ka(l:List Int)(n:Nat):upto l n 0=List.replicate n 0:=by simp[upto]
theorem Kb(l:List Int)(n:Nat)(h:l.length=n):upto l n n=l:=by simp[upto,<-h]
theorem BR(l:List Int)(n k:Nat)(h:l.length=n)(e:k<=n):(upto l n k).length=n:=by simp[upto];omega
theorem Q1(l:List Int)(n k:Nat)(h:l.length=n)(r:k<n):(upto l n k).set k (l.getD k 0)=upto l n (k+1):=by
 have e:k<l.length:=by omega
 have j:List.replicate (n-k) (0:Int)=0::List.replicate (n-(k+1)) 0:=by rw[show n-k=(n-(k+1))+1 by omega];rfl
 have p:l.getD k 0=l[k]:=by rw[atZ,atW e];rfl
 unfold upto;rw[j,p,aud e,List.set_append_right _ _ (by simp;omega),show k-(l.take k).length=0 by simp;omega,at9,auG];rfl
theorem Zc(l:List Int)(n k:Nat)(e:k<n)(j:l.length=n):(upto l n (k+1)).getD k 0=l.getD k 0:=by
 have p:k<l.length:=by omega
 unfold upto;rw[atZ,avk (by simp;omega),avc,atP (by omega),atZ]
theorem Q2(l:List Int)(k:Nat)(h:k<l.length):ax (l.take (k+1))=ax (l.take k)+l.getD k 0:=by rw[Q3 l k h,atZ,atW h];rfl
structure F6(total:Int)(ws:List Int)(m:Nat)(P R:List Int):Prop where
 eq:Dd m P R=en total ws
 pos:∀x∈P,0<=x
 sum:ax P+m=total
 lp:P.length=ws.length
 lr:R.length=ws.length
theorem F6.start{total:Int}{ws:List Int}(j:0<=total)(l:∀x∈ws,0<=x/\x<=1000000000)(e:0<ax ws):F6 total ws (nS total ws).toNat (cW total ws) (k6 total ws):=by have:=Ox (total:=total) e;refine⟨rfl,Q4 j (fun x n=>(l x n).1) e,?_,by simp[cW],by simp[k6]⟩;unfold nS;omega
theorem F6.next{total:Int}{ws:List Int}{m:Nat}{P R:List Int}(h:F6 total ws (m+1) P R)(j:0<ws.length):F6 total ws m (P.set (dM R) (P.getD (dM R) 0+1)) (R.set (dM R) (-1)):=by
 have u:=Q5 (r:=R) (by rw[h.lr];exact j);have l:=h.lp;have n:=h.lr;refine⟨by have:=h.eq;rwa [Dd]at this,fun x p=>?_,?_,by simpa using l,by simpa using n⟩
 ·rcases avB p with e|e
  ·exact h.pos x e
  ·have:=IY h.pos (dM R);omega
 ·rw[Zd _ _ _ (by omega)];have:=h.sum;omega
theorem F6.le{total:Int}{ws:List Int}{m:Nat}{P R:List Int}(h:F6 total ws m P R)(i:Nat):0<=P.getD i 0/\P.getD i 0<=total:=by
 refine⟨IY h.pos i,?_⟩;have n:P.getD i 0<=ax P:=by
  rw[atZ];cases e:P[i]?with
  |none=>simp;exact(nv (l:=P) (B:=ax P) (fun x j=>⟨h.pos x j,EZ h.pos j⟩)).1
  |some v=>exact EZ h.pos (List.mem_of_getElem? e)
 have:=h.sum;omega
theorem Vj(total:Int)(A:Option Addr)(ae:Nat)(ws:List Int)(w:World)(h:ai encI 1 w w.heap.size A ws)(h0:0<=total)(h1:total<=1000000000)(hw:∀x∈ws,0<=x/\x<=1000000000)(hs:0<ax ws)(hl:ws.length<=1000):
  Calls prog 182 #[.int .i64 total,.slice A ws.length ae] w fun e w'=>∃g,e=.returned (.tuple #[.slice (some ⟨g,0,none⟩) ws.length ws.length,.int .i64 0])/\w.heap.size<=g/\RowI w' g (en total ws)/\Below w.heap.size w w':=by
 have HW:=atM hw;clear hw;have Cw:=Oy ws.length (by omega);have oV:=Ze hs;go_enter func182,ntmps182;go_wp2
 go_loop [6,7] (fun s i=>∃k:Nat,k<=ws.length/\i=.int .i64 k/\s=.int .i64 (ax (ws.take k))) (fun _ i=>ws.length-(intOf i).toNat)
 case atStart=>exact⟨0,by omega,rfl,rfl⟩
 case round=>
  obtain⟨k,S,rfl,rfl⟩:=hrel;have ad:=nv (l:=ws.take k) (B:=1000000000) (fun x E=>HW.out x (auh E));simp only[auH]at ad;have af:0<=ax (ws.take k):=ad.1;have al:ax (ws.take k)<=1000000000000:=by omega
  by_cases j:k<ws.length
  ·obtain⟨b,off,rfl,hb,hc⟩:=h.at_ j;have c0:=hc 0 _ rfl;simp only[atQ,auo]at c0;obtain⟨x0,x1⟩:=HW.out _ (atT j);have HT:=atM (Q3 ws k j);clear hc ad;go_wp2;go_round
   case rel=>exact⟨k+1,by omega,by go_num,by rw[HT.out]⟩
   case measure=>simp[intOf];omega
  ·obtain rfl:k=ws.length:=by omega
   rw[auv]at af al|-;have D:(ax ws==0)=false:=(by simp;omega);go_wp2
   go_region
   ·have n:=((RowI.made w ws.length).alloc (Obj.cells (madeCells #[.int .i64 0] ws.length) 3)).drew;have u:=(RowI.made (w.alloc (Obj.cells (madeCells #[.int .i64 0] ws.length) 3)) ws.length).drew;have I:Below w.heap.size w ((w.alloc (Obj.cells (madeCells #[.int .i64 0] ws.length) 3)).alloc (Obj.cells (madeCells #[.int .i64 0] ws.length) 3)).drew:=below_drewN (eP (bC w _) _) 1;rw[at2]at u;obtain⟨z,Q6⟩:∃z,z=w.heap.size:=⟨_,rfl⟩
    obtain⟨J,Cx⟩:∃J,J=w.heap.size+1:=⟨_,rfl⟩
    have D:z≠J:=(by omega);have BS:w.heap.size<=z:=(by omega);have T:w.heap.size<=J:=(by omega);rw[<-Cx]at u|-;rw[<-Q6]at n|-;clear Q6 Cx;generalize ((w.alloc (Obj.cells (madeCells #[.int .i64 0] ws.length) 3)).alloc (Obj.cells (madeCells #[.int .i64 0] ws.length) 3)).drew=W at n u I|-;go_wp2
    go_loopw [11,12] (fun m i wr=>∃k:Nat,k<=ws.length/\i=.int .i64 k/\m=.int .i64 (total-ax ((cW total ws).take k))/\RowI wr z (upto (cW total ws) ws.length k)/\RowI wr J (upto (k6 total ws) ws.length k)/\Below w.heap.size w wr) (fun _ i _=>ws.length-(intOf i).toNat)
    case atStart=>exact⟨0,by omega,rfl,by simp[ax],by rw[Ka];exact n,by rw[Ka];exact u,I⟩
    case round=>
     clear n u I;obtain⟨k,S,rfl,rfl,n,u,I⟩:=hrel;have U:=Q4 (total:=total) (ws:=ws) h0 (fun x E=>(HW.out x E).1) hs;have L:(cW total ws).length=ws.length:=(by simp[cW]);have V:(k6 total ws).length=ws.length:=(by simp[k6]);have AD:0<=ax ((cW total ws).take k):=(nv (l:=(cW total ws).take k) (B:=ax ((cW total ws).take k)) (fun x E=>⟨U x (auh E),EZ (fun y hy=>U y (auh hy)) E⟩)).1;have gK:ax ((cW total ws).take k)<=total:=by have e:=congrArg ax (avd k (cW total ws));rw[F9]at e;have d0:0<=ax ((cW total ws).drop k):=(nv (l:=(cW total ws).drop k) (B:=ax ((cW total ws).drop k)) (fun x E=>⟨U x (ave E),EZ (fun y hy=>U y (ave hy)) E⟩)).1;have:=Ox (total:=total) hs;omega
     by_cases j:k<ws.length
     ·obtain⟨b,off,rfl,hb,hc⟩:=(h.below I).at_ j;have c0:=hc 0 _ rfl;simp only[atQ,auo]at c0;clear hc;obtain⟨⟨y1,y2⟩,y3,y4,y5,y6⟩:=Y9 h0 h1 HW.out hs j;have HT:=atM (Q2 (cW total ws) k (by rw[L];exact j));have e1:=Za (total:=total) j;have e2:=Zb (total:=total) j;have oY:=atM e1;have fP:=n.frozen k;have fR:=u.frozen k;have zP:=n.cell (i:=k) (by rw[BR _ _ _ L S];exact j);have zR:=u.cell (i:=k) (by rw[BR _ _ _ V S];exact j);have N:=(n.set (i:=k) (by rw[BR _ _ _ L S];exact j) ((cW total ws).getD k 0)).far (p:=⟨J,k,none⟩) D (.int .i64 ((k6 total ws).getD k 0));have Q:=(u.far (p:=⟨z,k,none⟩) (fun e=>D e.symm) (.int .i64 ((cW total ws).getD k 0))).set (i:=k) (by rw[BR _ _ _ V S];exact j) ((k6 total ws).getD k 0)
      rw[Q1 _ _ _ L j,e1,e2]at N;rw[Q1 _ _ _ V j,e1,e2]at Q;have X:=(iq (iq I BS k (.int .i64 (total*ws[k]/ax ws))) T k (.int .i64 (total*ws[k]%ax ws)))
      have Hn:=atM N.drew;have E3:=atM Q.drew;have Q7:=atM (below_drewN X 1);clear N Q e1 e2 X;go_wp2
      go_region
      have N:=Hn.out;have Q:=E3.out;have X:Below w.heap.size w ((wr.setCell ⟨z,k,none⟩ (.int .i64 (total*ws[k]/ax ws))).setCell ⟨J,k,none⟩ (.int .i64 (total*ws[k]%ax ws))).drew:=Q7.out;generalize ((wr.setCell ⟨z,k,none⟩ (.int .i64 (total*ws[k]/ax ws))).setCell ⟨J,k,none⟩ (.int .i64 (total*ws[k]%ax ws))).drew=W2 at N Q X|-;have zQ:=N.cell (i:=k) (by rw[BR _ _ _ L j];exact j);rw[Zc _ _ _ j L,oY.out]at zQ;clear Hn E3 Q7 n u I zP zR fP fR c0;go_wp2;go_roundw
      case rel=>exact⟨k+1,by omega,by go_num,by rw[HT.out,oY.out];congr 1;omega,N,Q,X⟩
      case measure=>simp[intOf];omega
     ·obtain rfl:k=ws.length:=by omega
      rw[Kb _ _ L]at n;rw[Kb _ _ V]at u;rw[aut (by omega)]at AD gK|-;have G:=F6.start (total:=total) (ws:=ws) h0 HW.out hs;have D9:total-ax (cW total ws)=(nS total ws).toNat:=(by unfold nS;omega);rw[D9];generalize (nS total ws).toNat=M at G;generalize cW total ws=P0 at G n;generalize k6 total ws=R0 at G u;clear D9 AD gK U L V;go_wp2
      go_loopw [11] (fun mv O=>∃(m:Nat) (P R:List Int),mv=.int .i64 m/\m<=1000000000/\F6 total ws m P R/\RowI O z P/\RowI O J R/\Below w.heap.size w O) (fun mv _=>(intOf mv).toNat)
      case atStart=>exact⟨M,P0,R0,rfl,by have:=G.sum;have:=(nv (l:=P0) (B:=ax P0) (fun x E=>⟨G.pos x E,EZ G.pos E⟩)).1;omega,G,n,u,I⟩
      case round=>
       rename World=>w2
       clear G n u I;obtain⟨m,P,R,rfl,Ow,G,n,u,I⟩:=hrel;have IZ:=atM G;have Q8:=G.lp;have Q9:=G.lr;clear G;rcases m with _|m
       ·go_wp2
        go_loop [15] (fun i=>i=.int .i64 0) (fun _=>0)
        case atStart=>rfl
        case round=>
        subst hrel;go_wp2;go_ret2;have:=IZ.out.eq;rw[Dd]at this;rw[<-this];exact⟨z,rfl,BS,n,I⟩
       ·have am:(0:Int)<((m+1:Nat):Int):=(by omega);have AB:=atM Q8;have Y:=atM Q9;clear Q8 Q9;go_wp2
        go_loopw [13,14] (fun bv i Ra=>∃k q:Nat,k+1<=ws.length/\i=.int .i64 ((k:Int)+1)/\bv=.int .i64 (k7 R k)/\Hid (Ra=w2.drewN q)) (fun _ i _=>ws.length-(intOf i).toNat)
        case atStart=>exact⟨0,0,by omega,rfl,rfl,rfl⟩
        case round=>
         obtain⟨k,q,S,rfl,rfl,K⟩:=hrel;have E4:(k:Int)+1<=1000:=(by omega);have Zf:=Vk R k;have Z:RowI wr J R:=(by rw[K.out];exact u.drewN q);by_cases j:k+1<ws.length
         ·have z1:=Z.cell (i:=k+1) (by rw[Y.out];exact j);have z2:=Z.cell (i:=k7 R k) (by rw[Y.out];omega);have gu:k7 R k<ws.length:=(by omega);have br:k7 R (k+1)=if R.getD (k7 R k) 0<R.getD (k+1) 0 then k+1 else k7 R k:=rfl
          have E5:=atM br;clear br;generalize Zg:k7 R k=bt at*;generalize R.getD bt 0=x1 at*;generalize R.getD (k+1) 0=x2 at*;clear Zg;by_cases E:x1<x2
          ·go_wp2;go_quiet(fail);go_wp2;go_roundw
           case rel=>exact⟨k+1,q+nq,by omega,by go_num,by rw[E5.out,atP E];go_num,by show wr.drewN nq=w2.drewN (q+nq);rw[K.out,World.drewN_drewN]⟩
           case measure=>simp[intOf];omega
          ·go_wp2;go_quiet(fail);go_wp2;go_roundw
           case rel=>
            have aj:∃k' q':Nat,k'+1<=ws.length/\Value.int .i64 ((k:Int)+1+1)=.int .i64 ((k':Int)+1)/\Value.int .i64 (bt:Int)=.int .i64 (k7 R k')/\Hid (wr.drewN nq=w2.drewN q'):=⟨k+1,q+nq,by omega,by go_num,by rw[E5.out,atO (by omega)],by show wr.drewN nq=w2.drewN (q+nq);rw[K.out,World.drewN_drewN]⟩
            first|exact aj|((repeat apply Exists.intro);exact⟨aj,rfl⟩)
           case measure=>simp[intOf];omega
         ·have Ga:k=R.length-1:=(by have:=Y.out;omega);have Rb:k7 R k=dM R:=(by rw[Ga];rfl);have ab:=Q5 (r:=R) (by rw[Y.out];exact oV);have Rc:dM R<ws.length:=(by have:=Y.out;omega);rw[Rb]at Zf|-;have Gb:RowI wr z P:=(by rw[K.out];exact n.drewN q);have bA:Below w.heap.size w wr:=(by rw[K.out];exact below_drewN I q);have HN:=atM (IZ.out.next oV);obtain⟨p1,p2⟩:=IZ.out.le (dM R);have zP:=Gb.cell (i:=dM R) (by rw[AB.out];exact Rc);have fP:=Gb.frozen (dM R);have oZ:=(Gb.set (i:=dM R) (by rw[AB.out];exact Rc) (P.getD (dM R) 0+1)).far (p:=⟨J,dM R,none⟩) D (.int .i64 (-1));have AE:=(Z.far (p:=⟨z,dM R,none⟩) (fun e=>D e.symm) (.int .i64 (P.getD (dM R) 0+1))).set (i:=dM R) ab (-1)
          have fR:(wr.setCell ⟨z,dM R,none⟩ (.int .i64 (P.getD (dM R) 0+1))).frozen? ⟨J,dM R,none⟩=false:=(Z.far (p:=⟨z,dM R,none⟩) (fun e=>D e.symm) (.int .i64 (P.getD (dM R) 0+1))).frozen (dM R);have zR:=(Z.far (p:=⟨z,dM R,none⟩) (fun e=>D e.symm) (.int .i64 (P.getD (dM R) 0+1))).cell (i:=dM R) ab;have Zh:=atM oZ;have Zi:=atM AE;have Zj:=atM (iq (iq bA BS (dM R) (.int .i64 (P.getD (dM R) 0+1))) T (dM R) (.int .i64 (-1)));clear oZ AE Rb Ga IZ;generalize jZ:dM R=bq at*;generalize P.getD bq 0=pq at*;have an:¬(k:Int)+1<(ws.length:Int):=(by omega);clear jZ;go_wp2;go_roundw
          case rel=>exact⟨m,_,_,by go_num,by omega,HN.out,Zh.out,Zi.out,Zj.out⟩
          case measure=>simp[intOf]
   ·have u:=((RowI.made w ws.length).alloc (Obj.cells (madeCells #[.int .i64 0] ws.length) 3)).drew;have n:=(RowI.made (w.alloc (Obj.cells (madeCells #[.int .i64 0] ws.length) 3)) ws.length).drew;have I:Below w.heap.size w ((w.alloc (Obj.cells (madeCells #[.int .i64 0] ws.length) 3)).alloc (Obj.cells (madeCells #[.int .i64 0] ws.length) 3)).drew:=below_drewN (eP (bC w _) _) 1;rw[at2]at n;obtain⟨J,Cx⟩:∃J,J=w.heap.size:=⟨_,rfl⟩
    obtain⟨z,Q6⟩:∃z,z=w.heap.size+1:=⟨_,rfl⟩
    have D:z≠J:=(by omega);have BS:w.heap.size<=z:=(by omega);have T:w.heap.size<=J:=(by omega);rw[<-Q6]at n|-;rw[<-Cx]at u|-;clear Q6 Cx;generalize ((w.alloc (Obj.cells (madeCells #[.int .i64 0] ws.length) 3)).alloc (Obj.cells (madeCells #[.int .i64 0] ws.length) 3)).drew=W at n u I|-;go_wp2
    go_loopw [11,12] (fun m i wr=>∃k:Nat,k<=ws.length/\i=.int .i64 k/\m=.int .i64 (total-ax ((cW total ws).take k))/\RowI wr z (upto (cW total ws) ws.length k)/\RowI wr J (upto (k6 total ws) ws.length k)/\Below w.heap.size w wr) (fun _ i _=>ws.length-(intOf i).toNat)
    case atStart=>exact⟨0,by omega,rfl,by simp[ax],by rw[Ka];exact n,by rw[Ka];exact u,I⟩
    case round=>
     clear n u I;obtain⟨k,S,rfl,rfl,n,u,I⟩:=hrel;have U:=Q4 (total:=total) (ws:=ws) h0 (fun x E=>(HW.out x E).1) hs;have L:(cW total ws).length=ws.length:=(by simp[cW]);have V:(k6 total ws).length=ws.length:=(by simp[k6]);have AD:0<=ax ((cW total ws).take k):=(nv (l:=(cW total ws).take k) (B:=ax ((cW total ws).take k)) (fun x E=>⟨U x (auh E),EZ (fun y hy=>U y (auh hy)) E⟩)).1;have gK:ax ((cW total ws).take k)<=total:=by have e:=congrArg ax (avd k (cW total ws));rw[F9]at e;have d0:0<=ax ((cW total ws).drop k):=(nv (l:=(cW total ws).drop k) (B:=ax ((cW total ws).drop k)) (fun x E=>⟨U x (ave E),EZ (fun y hy=>U y (ave hy)) E⟩)).1;have:=Ox (total:=total) hs;omega
     by_cases j:k<ws.length
     ·obtain⟨b,off,rfl,hb,hc⟩:=(h.below I).at_ j;have c0:=hc 0 _ rfl;simp only[atQ,auo]at c0;clear hc;obtain⟨⟨y1,y2⟩,y3,y4,y5,y6⟩:=Y9 h0 h1 HW.out hs j;have HT:=atM (Q2 (cW total ws) k (by rw[L];exact j));have e1:=Za (total:=total) j;have e2:=Zb (total:=total) j;have oY:=atM e1;have fP:=n.frozen k;have fR:=u.frozen k;have zP:=n.cell (i:=k) (by rw[BR _ _ _ L S];exact j);have zR:=u.cell (i:=k) (by rw[BR _ _ _ V S];exact j);have N:=(n.set (i:=k) (by rw[BR _ _ _ L S];exact j) ((cW total ws).getD k 0)).far (p:=⟨J,k,none⟩) D (.int .i64 ((k6 total ws).getD k 0));have Q:=(u.far (p:=⟨z,k,none⟩) (fun e=>D e.symm) (.int .i64 ((cW total ws).getD k 0))).set (i:=k) (by rw[BR _ _ _ V S];exact j) ((k6 total ws).getD k 0)
      rw[Q1 _ _ _ L j,e1,e2]at N;rw[Q1 _ _ _ V j,e1,e2]at Q;have X:=(iq (iq I BS k (.int .i64 (total*ws[k]/ax ws))) T k (.int .i64 (total*ws[k]%ax ws)))
      have Hn:=atM N.drew;have E3:=atM Q.drew;have Q7:=atM (below_drewN X 1);clear N Q e1 e2 X;go_wp2
      go_region
      have N:=Hn.out;have Q:=E3.out;have X:Below w.heap.size w ((wr.setCell ⟨z,k,none⟩ (.int .i64 (total*ws[k]/ax ws))).setCell ⟨J,k,none⟩ (.int .i64 (total*ws[k]%ax ws))).drew:=Q7.out;generalize ((wr.setCell ⟨z,k,none⟩ (.int .i64 (total*ws[k]/ax ws))).setCell ⟨J,k,none⟩ (.int .i64 (total*ws[k]%ax ws))).drew=W2 at N Q X|-;have zQ:=N.cell (i:=k) (by rw[BR _ _ _ L j];exact j);rw[Zc _ _ _ j L,oY.out]at zQ;clear Hn E3 Q7 n u I zP zR fP fR c0;go_wp2;go_roundw
      case rel=>exact⟨k+1,by omega,by go_num,by rw[HT.out,oY.out];congr 1;omega,N,Q,X⟩
      case measure=>simp[intOf];omega
     ·obtain rfl:k=ws.length:=by omega
      rw[Kb _ _ L]at n;rw[Kb _ _ V]at u;rw[aut (by omega)]at AD gK|-;have G:=F6.start (total:=total) (ws:=ws) h0 HW.out hs;have D9:total-ax (cW total ws)=(nS total ws).toNat:=(by unfold nS;omega);rw[D9];generalize (nS total ws).toNat=M at G;generalize cW total ws=P0 at G n;generalize k6 total ws=R0 at G u;clear D9 AD gK U L V;go_wp2
      go_loopw [11] (fun mv O=>∃(m:Nat) (P R:List Int),mv=.int .i64 m/\m<=1000000000/\F6 total ws m P R/\RowI O z P/\RowI O J R/\Below w.heap.size w O) (fun mv _=>(intOf mv).toNat)
      case atStart=>exact⟨M,P0,R0,rfl,by have:=G.sum;have:=(nv (l:=P0) (B:=ax P0) (fun x E=>⟨G.pos x E,EZ G.pos E⟩)).1;omega,G,n,u,I⟩
      case round=>
       rename World=>w2
       clear G n u I;obtain⟨m,P,R,rfl,Ow,G,n,u,I⟩:=hrel;have IZ:=atM G;have Q8:=G.lp;have Q9:=G.lr;clear G;rcases m with _|m
       ·go_wp2
        go_loop [15] (fun i=>i=.int .i64 0) (fun _=>0)
        case atStart=>rfl
        case round=>
        subst hrel;go_wp2;go_ret2;have:=IZ.out.eq;rw[Dd]at this;rw[<-this];exact⟨z,rfl,BS,n,I⟩
       ·have am:(0:Int)<((m+1:Nat):Int):=(by omega);have AB:=atM Q8;have Y:=atM Q9;clear Q8 Q9;go_wp2
        go_loopw [13,14] (fun bv i Ra=>∃k q:Nat,k+1<=ws.length/\i=.int .i64 ((k:Int)+1)/\bv=.int .i64 (k7 R k)/\Hid (Ra=w2.drewN q)) (fun _ i _=>ws.length-(intOf i).toNat)
        case atStart=>exact⟨0,0,by omega,rfl,rfl,rfl⟩
        case round=>
         obtain⟨k,q,S,rfl,rfl,K⟩:=hrel;have E4:(k:Int)+1<=1000:=(by omega);have Zf:=Vk R k;have Z:RowI wr J R:=(by rw[K.out];exact u.drewN q);by_cases j:k+1<ws.length
         ·have z1:=Z.cell (i:=k+1) (by rw[Y.out];exact j);have z2:=Z.cell (i:=k7 R k) (by rw[Y.out];omega);have gu:k7 R k<ws.length:=(by omega);have br:k7 R (k+1)=if R.getD (k7 R k) 0<R.getD (k+1) 0 then k+1 else k7 R k:=rfl
          have E5:=atM br;clear br;generalize Zg:k7 R k=bt at*;generalize R.getD bt 0=x1 at*;generalize R.getD (k+1) 0=x2 at*;clear Zg;by_cases E:x1<x2
          ·go_wp2;go_quiet(fail);go_wp2;go_roundw
           case rel=>exact⟨k+1,q+nq,by omega,by go_num,by rw[E5.out,atP E];go_num,by show wr.drewN nq=w2.drewN (q+nq);rw[K.out,World.drewN_drewN]⟩
           case measure=>simp[intOf];omega
          ·go_wp2;go_quiet(fail);go_wp2;go_roundw
           case rel=>
            have aj:∃k' q':Nat,k'+1<=ws.length/\Value.int .i64 ((k:Int)+1+1)=.int .i64 ((k':Int)+1)/\Value.int .i64 (bt:Int)=.int .i64 (k7 R k')/\Hid (wr.drewN nq=w2.drewN q'):=⟨k+1,q+nq,by omega,by go_num,by rw[E5.out,atO (by omega)],by show wr.drewN nq=w2.drewN (q+nq);rw[K.out,World.drewN_drewN]⟩
            first|exact aj|((repeat apply Exists.intro);exact⟨aj,rfl⟩)
           case measure=>simp[intOf];omega
         ·have Ga:k=R.length-1:=(by have:=Y.out;omega);have Rb:k7 R k=dM R:=(by rw[Ga];rfl);have ab:=Q5 (r:=R) (by rw[Y.out];exact oV);have Rc:dM R<ws.length:=(by have:=Y.out;omega);rw[Rb]at Zf|-;have Gb:RowI wr z P:=(by rw[K.out];exact n.drewN q);have bA:Below w.heap.size w wr:=(by rw[K.out];exact below_drewN I q);have HN:=atM (IZ.out.next oV);obtain⟨p1,p2⟩:=IZ.out.le (dM R);have zP:=Gb.cell (i:=dM R) (by rw[AB.out];exact Rc);have fP:=Gb.frozen (dM R);have oZ:=(Gb.set (i:=dM R) (by rw[AB.out];exact Rc) (P.getD (dM R) 0+1)).far (p:=⟨J,dM R,none⟩) D (.int .i64 (-1));have AE:=(Z.far (p:=⟨z,dM R,none⟩) (fun e=>D e.symm) (.int .i64 (P.getD (dM R) 0+1))).set (i:=dM R) ab (-1)
          have fR:(wr.setCell ⟨z,dM R,none⟩ (.int .i64 (P.getD (dM R) 0+1))).frozen? ⟨J,dM R,none⟩=false:=(Z.far (p:=⟨z,dM R,none⟩) (fun e=>D e.symm) (.int .i64 (P.getD (dM R) 0+1))).frozen (dM R);have zR:=(Z.far (p:=⟨z,dM R,none⟩) (fun e=>D e.symm) (.int .i64 (P.getD (dM R) 0+1))).cell (i:=dM R) ab;have Zh:=atM oZ;have Zi:=atM AE;have Zj:=atM (iq (iq bA BS (dM R) (.int .i64 (P.getD (dM R) 0+1))) T (dM R) (.int .i64 (-1)));clear oZ AE Rb Ga IZ;generalize jZ:dM R=bq at*;generalize P.getD bq 0=pq at*;have an:¬(k:Int)+1<(ws.length:Int):=(by omega);clear jZ;go_wp2;go_roundw
          case rel=>exact⟨m,_,_,by go_num,by omega,HN.out,Zh.out,Zi.out,Zj.out⟩
          case measure=>simp[intOf]
theorem ai.take{y:Type}{n:y->List Value}{k:Nat}{w:World}{B:Nat}{A:Option Addr}{xs:List y}(h:ai n k w B A xs)(i:Nat):ai n k w B A (xs.take i):=fun r=>by
 have z:xs≠[]:=by intro e;subst e;simp at r
 obtain⟨b,off,e,D,E⟩:=h z;refine⟨b,off,e,D,fun j x p l u G=>E j x ?_ l u G⟩;rw[avc]at p;split at p
 ·exact p
 ·cases p
theorem adh{P:Program}{V:Type}{l:V->List Value}{k:Nat}{e:TypeId}{W:World}{base B:Nat}{v:Value}{r n:List V}{A:Option Addr}{m:Nat}(t K:TypeId)(c bytes:Nat)(z:Value)
  (Cz:(P.info? e).map (fun i=>(i.zero,i.size,i.bytes))=some (some z,k,bytes)) (X:P.underlying t=some (.slice e))
  (p:Own l k e W base v r) (L:ai l k W B A n) (M:∀x,(l x).length=k) (Y:0<k) (N:z.cells.size=k) (h1:∀y,∀u∈l y,u.oneCell'=true)
  (D:r.length+n.length<=4294967296) (O:bytes<=1024) (E:base<=W.heap.size) (hm:m=n.length):
  ∃G w',(Builtin.append_ #[t,t] K #[v,.slice A m c]).run P W=.ok G w'/\Own l k e w' base G (r++n)/\W.grownBy w' v.ownBlock:=by
 subst hm;obtain⟨i,hi,hz,Q,Z⟩:=info_parts Cz;have hl:(n.flatMap l).length=n.length*k:=by
  clear L D
  induction n with
  |nil=>simp
  |cons y n ih=>rw[auI,at3,ih,M,at4,Nat.succ_mul];omega
 have gu:(r.length+n.length)*bytes<=140737488355328:=by have:(r.length+n.length)*bytes<=4294967296*1024:=Nat.mul_le_mul D O;omega
 have E6:∀u∈n.flatMap l,u.oneCell'=true:=by intro u hu;obtain⟨y,_,hy⟩:=List.mem_flatMap.1 hu;exact h1 y u hy
 rcases A with _|ad
 ·have E7:n=[]:=by
   rcases n with _|⟨y,n⟩
   ·rfl
   ·obtain⟨b,off,R,_⟩:=L (by simp);cases R
  subst E7;exact⟨v,W,Zk (P:=P) W base t K e i k X hi v r.length (r.flatMap l) p c,by simpa using p,dX _ _⟩
 ·have Re:∀j u,(n.flatMap l)[j]?=some u->W.cell? (ad.add j)=some u:=by
   intro j u hu;have hj:j<n.length*k:=(by rw[<-hl];exact(aui.1 hu).1);have S:n≠[]:=(by intro e;subst e;simp at hj);obtain⟨b,off,T,Z,hc⟩:=L S;injection T with R
   subst R;have qC:(⟨b,off,none⟩:Addr).add j=⟨b,off+j,none⟩:=by unfold Addr.add;split<;>simp_all
   rw[qC];have U:j/k<n.length:=Nat.div_lt_of_lt_mul (by rw[Nat.mul_comm];exact hj);have Ee:j%k<k:=Nat.mod_lt _ Y;have hy:=atW U;have he:(l n[j/k])[j%k]?=some ((l n[j/k])[j%k]'(by rw[M];exact Ee)):=atW _
   have I:=I0 M n (j/k) (j%k) _ _ hy he;have J:=hc _ _ hy _ _ he;have h4:j/k*k+j%k=j:=(by rw[Nat.mul_comm];exact Nat.div_add_mod j k);rw[h4,hu]at I;rw[au6,h4]at J;rw[J,<-I]
  obtain⟨G,w',hr,I,J,_⟩:=run_append_own_at (P:=P) W base t K e i z k bytes X hi hz Q Z N Y v r.length (r.flatMap l) p ad n.length c (n.flatMap l) hl Re E6 (by unfold maxLen;omega) gu E;refine⟨G,w',hr,?_,J⟩;unfold Own;rw[at3,avt];exact I
section
variable {P:Program}{ops:Array Oper}{md:Region.Mode}{C:World->Prop}
def oC(P:Program)(ops:Array Oper)(C:World->Prop)(o:Oper)(v:Value)(a:Act):Prop:=
 (Region.wanted o (yielded ops a.tmps)=true/\∀w,C w->o.quietAt P a (fun e=>C e/\Below w.heap.size w e) w v)\/
 (Region.wanted o (yielded ops a.tmps)=false/\v=undef)
theorem oC.of_same{o:Oper}{v:Value}{a a':Act}(hy:oC P ops C o v a)(e:execOp a'.eval o=execOp a.eval o)
  (j:Region.wanted o (yielded ops a'.tmps)=Region.wanted o (yielded ops a.tmps)):oC P ops C o v a':=by
 unfold oC Oper.quietAt at*;rw[e,j];exact hy
def De(o:Oper)(a:Act)(K:Act->World->Prop):Result Next->Prop
 |.ok (.value v) w'=>K (a.put o.dst v) w'
 |.ok .skip w'=>K (a.put o.dst undef) w'
 |_=>False
def Gc(P:Program)(ops:Array Oper)(i:Nat)(K:Act->World->Prop)(a:Act)(w:World):Prop:=
 match ops[i]?with
 |none=>K a w
 |some o=>if Region.wanted o (yielded ops a.tmps)then De o a K ((execOp a.eval o).run P w)else K (a.put o.dst undef) w
def iW(P:Program)(ops:Array Oper)(C:World->Prop)(i:Nat)(K:Act->World->Prop)(a:Act)(w:World):Prop:=
 (∃o v,ops[i]?=some o/\oC P ops C o v a/\∀e,C e->Below w.heap.size w e->K (a.put o.dst v) e)\/Gc P ops i K a w
theorem Kc{i:Nat}{a:Act}{w:World}{K n:Act->World->Prop}(h:∀a w,K a w->n a w)(hh:iW P ops C i K a w):iW P ops C i n a w:=by
 rcases hh with⟨o,v,p,u,y⟩|hh
 ·exact .inl ⟨o,v,p,u,fun e c b=>h _ _ (y e c b)⟩
 ·right;unfold Gc at*;split
  ·rename_i j;simp only[j]at hh;exact h _ _ hh
  ·rename_i o j;simp only[j]at hh;split
   ·rename_i l;simp only[l,aup]at hh;generalize (execOp a.eval o).run P w=r at*;unfold De at*;split
    ·exact h _ _ hh
    ·exact h _ _ hh
    ·rename_i z B;split at hh
     ·exact absurd rfl (z _ _)
     ·exact absurd rfl (B _)
     ·exact hh
   ·rename_i l;simp only[l]at hh;exact h _ _ hh
theorem Vl{i:Nat}{a:Act}{w:World}{K:Act->World->Prop}{Q:Exit->Act->World->Prop}(z:C w)(hh:iW P ops C i K a w):wpOp P ops Q i K a w:=by
 rcases hh with⟨o,v,G,I,B⟩|hh
 ·unfold wpOp;simp only[G];rcases I with⟨l,hy⟩|⟨l,rfl⟩
  ·simp only[l,aup];left;have p:=hy w z;unfold Oper.quietAt at p;unfold Oper.wp;generalize (execOp a.eval o).run P w=r at*;cases r with
   |ok n w'=>
    cases n<;>simp only[Oper.quietUpon]at p<;>simp only[Oper.upon]
    case value u=>obtain⟨y,D⟩:=p;rw[y,D];exact B _ z (atS _ _)
    case skip=>obtain⟨y,D⟩:=p;rw[y,<-D];exact B _ z (atS _ _)
    case enter f args=>obtain⟨y,J⟩:=p;rw[y];exact J.mono fun e L ⟨M,j⟩=>by subst M;exact B _ j.1 j.2
   |halt x w'=>simp only[Oper.quietUpon]at p
  ·simp only[l,auT,auw];exact B _ z (atS _ _)
 ·unfold Gc at hh;unfold wpOp;split
  ·rename_i E;simp only[E]at hh;exact hh
  ·rename_i o E;simp only[E]at hh;split
   ·rename_i l;simp only[l,aup]at hh;left;unfold Oper.wp;generalize (execOp a.eval o).run P w=r at*;unfold De at hh;split at hh
    ·exact hh
    ·exact hh
    ·exact absurd hh id
   ·rename_i l;simp only[l]at hh;exact hh
theorem Vm{j:Nat}{e l:Oper}{v:Value}(B:ops[j]?=some l)(D:e.apart ops l=true)
  (L:∀E b,e.op≠.select E b) (n:∀E b,l.op≠.select E b) {K:Act->World->Prop} {a:Act} {w:World}
  (hy:oC P ops C e v a) (h:iW P ops C j K (a.put e.dst v) w):
  iW P ops C j (fun a' w'=>oC P ops C e v a'/\K (a'.put e.dst v) w') a w:=by
 obtain⟨p,y,J⟩:=Oper.apart_spec D;have keep:∀u,oC P ops C e v (a.put l.dst u):=fun u=>hy.of_same (execOp_put e L a l.dst u J) (wanted_put e a l.dst u J);rcases h with⟨o,u,z,M,N⟩|h
 ·rw[B]at z;injection z with z
  subst z;refine .inl ⟨l,u,B,M.of_same (execOp_put l n a e.dst v p).symm (wanted_put l a e.dst v p).symm,fun G c b=>⟨keep u,?_⟩⟩;rw[<-au7 a v u y];exact N G c b
 ·right;unfold Gc at*;simp only[B]at*;rw[wanted_put l a e.dst v p]at h;split
  ·rename_i I;simp only[I,aup]at h;rw[execOp_put l n a e.dst v p]at h;generalize (execOp a.eval l).run P w=r at*;unfold De at*;split
   ·refine⟨keep _,?_⟩;rw[<-au7 a v _ y];exact h
   ·refine⟨keep _,?_⟩;rw[<-au7 a v _ y];exact h
   ·rename_i O Q;split at h
    ·exact absurd rfl (O _ _)
    ·exact absurd rfl (Q _)
    ·exact h
  ·rename_i I;simp only[I]at h;exact⟨keep _,by rw[<-au7 a v undef y];exact h⟩
def cS(P:Program)(md:Region.Mode)(ops:Array Oper)(C:World->Prop)(Q:Act->World->Prop):Nat->Array Bool->Act->World->Prop
 |0,e,a,w=>∀w',C w'->Below w.heap.size w w'->Region.ready md ops e=[]/\Q a w'
 |fuel+1,e,a,w=>∀w',C w'->Below w.heap.size w w'->
  (Region.ready md ops e=[]->Q a w')/\
  ∀i∈Region.ready md ops e,iW P ops C i (fun l j=>C j/\cS P md ops C Q fuel (e.setIfInBounds i true) l j) a w'
theorem Ef{Q:Act->World->Prop}:∀{n:Nat} {e:Array Bool} {a:Act} {w l:World},cS P md ops C Q n e a w->Below w.heap.size w l->cS P md ops C Q n e a l
 |0,_,_,_,_,h,j=>fun w' c b=>h w' c (j.trans (b.mono j.size))
 |_+1,_,_,_,_,h,j=>fun w' c b=>h w' c (j.trans (b.mono j.size))
theorem I1{Q:Act->World->Prop}{Q':Exit->Act->World->Prop}(l:∀a w,Q a w->Q' .normal a w):∀(fuel:Nat) (e:Array Bool) (a:Act) (w:World),C w->cS P md ops C Q fuel e a w->wpAny P md ops Q' fuel e a w
 |0,_,_,w,j,h=>⟨(h w j (atS _ _)).1,l _ _ (h w j (atS _ _)).2⟩
 |fuel+1,_,_,w,j,h=>⟨fun p=>l _ _ ((h w j (atS _ _)).1 p),fun i hi=>Vl j (Kc (fun a' w' n=>I1 l fuel _ a' w' n.1 n.2) ((h w j (atS _ _)).2 i hi))⟩
theorem Oz{Q:Act->World->Prop}{i:Nat}{r:Oper}{v:Value}(hi:ops[i]?=some r)(R:∀(j:Nat) (o:Oper) D b,ops[j]?=some o->o.op≠.select D b):
  ∀(n:Nat) (l:Array Bool) (a:Act) (w:World),
   (∀j y,ops[j]?=some y->j≠i->l.getD j true=false->(∀e∈y.after,Region.binds md e=true->e.on≠i)->r.apart ops y=true)->
   i∈Region.ready md ops l->oC P ops C r v a->
   cS P md ops C Q n (l.setIfInBounds i true) (a.put r.dst v) w->cS P md ops C Q (n+1) l a w:=by
 intro n
 induction n with
 |zero=>
  intro l a w _ z hy H w' J p;refine⟨fun h=>(by rw[h]at z;cases z),fun j I=>?_⟩;by_cases u:j=i
  ·subst u;exact .inl ⟨r,v,hi,hy,fun K c b=>⟨c,Ef H (p.trans (b.mono p.size))⟩⟩
  ·have:=ready_mono I u;rw[(H w' J p).1]at this;cases this
 |succ n X=>
  intro l a w S z hy H w' J p;refine⟨fun h=>(by rw[h]at z;cases z),fun j I=>?_⟩;by_cases u:j=i
  ·subst u;exact .inl ⟨r,v,hi,hy,fun K c b=>⟨c,Ef H (p.trans (b.mono p.size))⟩⟩
  ·have B:=(H w' J p).2 j (ready_mono I u);obtain⟨T,y,L,E⟩:=mem_ready.1 I;have Y:∀e∈y.after,Region.binds md e=true->e.on≠i:=fun e Z p M=>by
    have B:=E e Z p;have U:=(mem_ready.1 z).1;rw[M]at B;rcases at6 i l.size with h'|h'
    ·simp[h']at U B;rw[U]at B;cases B
    ·simp[avf h']at B
   have h2:=Vm L (S j y L u T Y) (fun D b=>R i r D b hi) (fun D b=>R j y D b L) hy B;have Rf:∀k ok,ops[k]?=some ok->k≠i->(l.setIfInBounds j true).getD k true=false->
     (∀e∈ok.after,Region.binds md e=true->e.on≠i)->r.apart ops ok=true:=fun k ok hk fL V N=>by
    refine S k ok hk fL ?_ N;by_cases G:j=k
    ·subst G;exact T
    ·rw[getD_set_ne true G]at V;exact V
   refine Kc (fun a' w1 O=>⟨O.2.1,X (l.setIfInBounds j true) a' w1 Rf (ready_mono z (Ne.symm u)) O.1 ?_⟩) h2;rw[Array.setIfInBounds_comm _ _ u];exact O.2.2
def Mg(md:Region.Mode)(ops:Array Oper):Nat->Nat->Array Bool->Bool
 |0,_,_=>true
 |n+1,k,e=>(Region.ready md ops e).contains k&&Region.free md ops e k&&Mg md ops n (k+1) (e.setIfInBounds k true)
def OB:Nat->Nat->Array Bool->Array Bool
 |0,_,e=>e
 |n+1,k,e=>OB n (k+1) (e.setIfInBounds k true)
def E8(P:Program)(ops:Array Oper)(C:World->Prop)(e:Act)(val:Oper->Value):List Oper->Act->Prop
 |[],a=>a=e
 |o::r,a=>oC P ops C o (val o) a/\E8 P ops C e val r (a.put o.dst (val o))
theorem Zm{Q:Act->World->Prop}{p:Act}{val:Oper->Value}(r:Region.noSelect ops=true){m:Nat}{w:World}:∀(l:List Oper) (k:Nat) (e:Array Bool) (a:Act),(∀j,j<l.length->l[j]?=ops[k+j]?)->
  Mg md ops l.length k e=true->E8 P ops C p val l a->cS P md ops C Q m (OB l.length k e) p w->cS P md ops C Q (m+l.length) e a w
 |[],_,_,_,_,_,h,n=>by cases h;exact n
 |o::l,k,e,a,u,y,h,n=>by
  have z:ops[k]?=some o:=by simpa using(u 0 (by simp)).symm
  simp only[at4,Mg,aub]at y;obtain⟨⟨B,D⟩,E⟩:=y;exact Oz z (Region.noSelect_spec r) (m+l.length) e a w (Region.free_spec z D) (by simpa using B) h.1
   (Zm r l (k+1) _ _ (fun j G=>by have:=u (j+1) (by simpa using G);simpa[au6,Nat.add_comm 1 j]using this) E h.2 n)
end
def gH(F:World->Prop):Prop:=∀w w',F w->Below w.heap.size w w'->F w'
structure kp(W:World)(F:World->Prop) where
 w':World
 h:Below W.heap.size W w'
 f:F w'
section
variable {P:Program}{W:World}{F:World->Prop}
theorem kp.cell{a:Addr}{v:Value}(e:a.block<W.heap.size)(h:W.cell? a=some v)(p:kp W F):p.w'.cell? a=some v:=(p.h.cell e).trans h
theorem kp.call{f:FuncId}{args:Array Value}{v:Value}(hF:gH F)(p:kp W F)(h:Calls P f args p.w' fun e w'=>e=.returned v/\Below p.w'.heap.size p.w' w'):
  Calls P f args p.w' fun e j=>e=.returned v/\∃q:kp W F,j=q.w':=
 h.mono fun _ j ⟨n,l⟩=>⟨n,⟨j,p.h.trans (l.mono p.h.size),hF _ _ p.f l⟩,rfl⟩
end
def BV(e:Act)(o:Oper):Value:=(o.dst.bind (e.tmps[·]?)).getD undef
def kq(n:Nat):List Oper->Bool
 |[]=>true
 |o::r=>(match o.dst with|some d=>decide (d<n)&&r.all (fun e=>e.dst !=some d)|none=>false)&&kq n r
section
variable {P:Program}{ops:Array Oper}
theorem Rh{a:Act}{d e:Nat}{v:Value}(h:e≠d):(a.put (some e) v).tmps[d]?=a.tmps[d]?:=by show(a.tmps.setIfInBounds e v)[d]?=_;rw[Array.getElem?_setIfInBounds_ne h]
theorem Vn{a:Act}{d:Nat}{v:Value}(h:d<a.tmps.size):(a.put (some d) v).tmps[d]?=some v:=by show(a.tmps.setIfInBounds d v)[d]?=_;rw[Array.getElem?_setIfInBounds_self_of_lt h]
theorem OC(a:Act)(d:Option Nat)(v:Value):(a.put d v).tmps.size=a.tmps.size:=by
 cases d with
 |none=>rfl
 |some d=>show(a.tmps.setIfInBounds d v).size=_;simp
theorem Kh{C:World->Prop}{j:Act}{d:Nat}:∀(l:List Oper) (a:Act),l.all (fun y=>y.dst !=some d)=true->(∀o∈l,o.dst≠none)->wpQuiet P ops C (fun a'=>a'=j) l a->j.tmps[d]?=a.tmps[d]?
 |[],a,_,_,h=>by rw[show a=j from h]
 |o::l,a,hd,n,h=>by
  simp only[List.all_cons,aub,bne_iff_ne,ne_eq]at hd;obtain⟨e,p⟩:=avC.1 (n o (by simp));have u:e≠d:=fun x=>hd.1 (by rw[p,x]);unfold wpQuiet at h;split at h
  ·obtain⟨v,_,z⟩:=h;rw[Kh l _ hd.2 (fun o r=>n o (by simp[r])) z,p,Rh u]
  ·rw[Kh l _ hd.2 (fun o r=>n o (by simp[r])) h,p,Rh u]
theorem I2{n:Nat}:∀{l:List Oper},kq n l=true->∀o∈l,o.dst≠none
 |[],_,o,j=>by cases j
 |x::r,h,o,j=>by
  simp only[kq,aub]at h;rcases auf.1 j with e|e
  ·subst e;intro p;rw[p]at h;cases h.1
  ·exact I2 h.2 o e
theorem Zn{W:World}{z:Act}:∀(l:List Oper) (a:Act),kq a.tmps.size l=true->(∀F:World->Prop,gH F->Inhabited (kp W F)->wpQuiet P ops (fun w'=>∃p:kp W F,w'=p.w') (fun a'=>a'=z) l a)->
  E8 P ops (fun w'=>Below W.heap.size W w') z (BV z) l a
 |[],a,_,H=>H (fun _=>True) (fun _ _ _ _=>trivial) ⟨⟨W,atS _ _,trivial⟩⟩
 |o::l,a,hd,H=>by
  have Q:=hd;simp only[kq,aub]at hd;obtain⟨I,L⟩:=hd;obtain⟨d,D⟩:=avC.1 (I2 Q o (by simp));rw[D]at I;simp only[aub,auc]at I;have R:=I2 L;have E:∀v,kq (a.put o.dst v).tmps.size l=true:=fun v=>by rw[OC];exact L
  have B:∀(C:World->Prop) (v:Value),wpQuiet P ops C (fun a'=>a'=z) l (a.put o.dst v)->BV z o=v:=fun C v h=>by have y:=Kh (d:=d) l _ I.2 R h;rw[D,Vn I.1]at y;unfold BV;rw[D];simp[y]
  by_cases J:Region.wanted o (yielded ops a.tmps)=true
  ·have G:∀F:World->Prop,gH F->Inhabited (kp W F)->(∀w,(∃p:kp W F,w=p.w')->o.quietAt P a (fun w'=>∃p:kp W F,w'=p.w') w (BV z o))/\wpQuiet P ops (fun w'=>∃p:kp W F,w'=p.w') (fun a'=>a'=z) l (a.put o.dst (BV z o)):=by
    intro F hF j;have h:=H F hF j;unfold wpQuiet at h;rw[atP J]at h;obtain⟨v,y,M⟩:=h;rw[B _ v M];exact⟨y,M⟩
   refine⟨.inl ⟨J,fun w N=>?_⟩,Zn l _ (E _) (fun F hF j=>(G F hF j).2)⟩;have y:=(G (fun w'=>Below w.heap.size w w') (fun Y Z O S=>O.trans (S.mono O.size)) ⟨⟨w,N,atS _ _⟩⟩).1 w ⟨⟨w,N,atS _ _⟩,rfl⟩;unfold Oper.quietAt at*;generalize (execOp a.eval o).run P w=r at*;cases r with
   |ok n w'=>
    cases n<;>simp only[Oper.quietUpon]at y|-
    case value u=>exact y
    case skip=>exact y
    case enter f args=>exact⟨y.1,y.2.mono fun e T ⟨U,p,V⟩=>⟨U,by rw[V];exact⟨p.h,p.f⟩⟩⟩
   |halt x w'=>simp only[Oper.quietUpon]at y
  ·have K:Region.wanted o (yielded ops a.tmps)=false:=(by simpa using J);have G:∀F:World->Prop,gH F->Inhabited (kp W F)->wpQuiet P ops (fun w'=>∃p:kp W F,w'=p.w') (fun a'=>a'=z) l (a.put o.dst undef):=by
    intro F hF j;have h:=H F hF j;unfold wpQuiet at h;rw[atO J]at h;exact h
   have X:=B _ undef (G (fun _=>True) (fun _ _ _ _=>trivial) ⟨⟨W,atS _ _,trivial⟩⟩);rw[E8,X];exact⟨.inr ⟨K,rfl⟩,Zn l _ (E _) G⟩
theorem ajD{id:Nat}{Q:Exit->Act->World->Prop}{a aE:Act}{W:World}{l r:List Oper}{m:Nat}(u:P.follows .mixedOrders=true)(y:Region.noSelect (l++r).toArray=true)(z:m=r.length)
  (B:Mg .any (l++r).toArray l.length 0 (Array.replicate (l++r).length false)=true) (hd:kq a.tmps.size l=true)
  (H:∀F:World->Prop,gH F->Inhabited (kp W F)->wpQuiet P (l++r).toArray (fun w'=>∃p:kp W F,w'=p.w') (fun a'=>a'=aE) l a)
  (M:cS P .any (l++r).toArray (fun w'=>Below W.heap.size W w') (fun a w=>Q .normal a w) m (OB l.length 0 (Array.replicate (l++r).length false)) aE W):(Code.region id (l++r).toArray true).wp P Q a W:=by
 refine wp_region_any u ?_;have D:=Zm (md:=.any) y l 0 (Array.replicate (l++r).length false) a (fun j E=>by simp[avk E]) B (Zn l a hd H) M;have n:=I1 (Q':=Q) (fun _ _ h=>h) _ _ _ {W with drawn:=W.drawn+1} (show Below W.heap.size W {W with drawn:=W.drawn+1}from below_drewN (atS _ _) 1) (Ef D (below_drewN (atS W.heap.size W) 1));have e:m+l.length=(l++r).length:=by rw[z];simp;omega
 rw[e]at n;simpa using n
theorem ajE{id:Nat}{Q:Exit->Act->World->Prop}{a aE:Act}{W:World}{L:List Oper}(n m:Nat)(u:P.follows .mixedOrders=true)(y:Region.noSelect L.toArray=true)(D:n+m=L.length)
  (z:Mg .any L.toArray n 0 (Array.replicate L.length false)=true) (hd:kq a.tmps.size (L.take n)=true)
  (H:∀F:World->Prop,gH F->Inhabited (kp W F)->wpQuiet P L.toArray (fun w'=>∃p:kp W F,w'=p.w') (fun a'=>a'=aE) (L.take n) a)
  (M:∀j:Act->World->Prop,(∀a w,Q .normal a w->j a w)->cS P .any L.toArray (fun w'=>Below W.heap.size W w') j m (OB n 0 (Array.replicate L.length false)) aE W):(Code.region id L.toArray true).wp P Q a W:=by
 have e:=avd n L;have el:(L.take n).length=n:=by simp;omega
 have B:m=(L.drop n).length:=by simp;omega
 have h:=ajD (id:=id) (Q:=Q) (a:=a) (aE:=aE) (W:=W) (l:=L.take n) (r:=L.drop n) (m:=m) u;rw[e,el]at h;exact h y B z hd H (M _ fun _ _ h=>h)
theorem bQ{md:Region.Mode}{C:World->Prop}{Q:Act->World->Prop}{n:Nat}{j:Array Bool}{a:Act}{w:World}(l:List Nat)(u:Region.ready md ops j=l)(p:l≠[])
  (h:∀w',C w'->Below w.heap.size w w'->∀i∈l,iW P ops C i (fun y r=>C r/\cS P md ops C Q n (j.setIfInBounds i true) y r) a w'):cS P md ops C Q (n+1) j a w:=by
 subst u;exact fun w' c b=>⟨fun e=>absurd e p,h w' c b⟩
theorem kI{md:Region.Mode}{C:World->Prop}{Q:Act->World->Prop}{e:Array Bool}{a:Act}{w:World}(j:Region.ready md ops e=[])(h:∀w',C w'->Below w.heap.size w w'->Q a w'):cS P md ops C Q 0 e a w:=
 fun w' c b=>⟨j,h w' c b⟩
theorem OD{C:World->Prop}{i:Nat}{o:Oper}{K:Act->World->Prop}{a:Act}{w:World}(e:ops[i]?=some o)(j:Region.wanted o (yielded ops a.tmps)=true)(h:De o a K ((execOp a.eval o).run P w)):iW P ops C i K a w:=by right;unfold Gc;simp only[e,j,aup];exact h
theorem bH{C:World->Prop}{i:Nat}{o:Oper}{K:Act->World->Prop}{a:Act}{w:World}(v:Value)(j:World)(l:ops[i]?=some o)(n:Region.wanted o (yielded ops a.tmps)=true)(e:(execOp a.eval o).run P w=.ok (.value v) j)(h:K (a.put o.dst v) j):iW P ops C i K a w:=
 OD l n (by rw[e];exact h)
theorem fw{C:World->Prop}{i:Nat}{o:Oper}{K:Act->World->Prop}{a:Act}{w:World}(j:World)(l:ops[i]?=some o)(n:Region.wanted o (yielded ops a.tmps)=true)(e:(execOp a.eval o).run P w=.ok .skip j)(h:K (a.put o.dst undef) j):iW P ops C i K a w:=
 OD l n (by rw[e];exact h)
end
theorem adi(n:Int)(w:World):Calls prog 138 #[.int .i64 n] w fun e w'=>e=.returned (.bool (bM n 1000000000))/\w=w':=by
 by_cases l:0<=n<;>by_cases p:n<=1000000000
 all_goals
  have j:bM n 1000000000=(decide (0<=n)&&decide (n<=1000000000)):=by simp[bM]
  have r:=atM j;clear j;go_enter func138,ntmps138;go_wp2;go_ret;exact⟨by rw[r.out];simp[l,p],rfl⟩
theorem ajF(A:Option Addr)(n:Nat)(j:List Int)(w:World)(B:Nat)(h:ai encI 1 w B A j)(D:j.length<=1000000)(p:∀x∈j,0<=x/\x<=1000000000):
  Calls prog 139 #[.slice A j.length n] w fun e w'=>e=.returned (.bool true)/\w=w':=by
 have u:=atM p;clear p;go_enter func139,ntmps139;go_wp2
 go_loop [3] (fun i=>∃k:Nat,k<=j.length/\i=.int .i64 k) (fun i=>j.length-(intOf i).toNat)
 case atStart=>exact⟨0,by omega,rfl⟩
 case round=>
  obtain⟨k,E,rfl⟩:=hrel;by_cases l:k<j.length
  ·obtain⟨b,off,rfl,G,r⟩:=h.at_ l;have y:=r 0 _ rfl;simp only[atQ,auo]at y;have z:bM j[k] 1000000000=true:=iK.2 (u.out _ (atT l));clear r;go_wp2_with fail;refine(adi _ _).mono ?_;rintro e w' ⟨rfl,rfl⟩;rw[z];go_wp2;go_round
   case rel=>exact⟨k+1,by omega,by go_num⟩
   case measure=>simp[intOf];omega
  ·go_wp2;go_ret;exact⟨rfl,rfl⟩
theorem adk(s:dx)(w:World)(h:oD s):Calls prog 137 #[Eg s] w fun e w'=>e=.returned (.bool true)/\Below w.heap.size w w':=by
 obtain⟨l,B,D,E,G,I,J,f0,f1,u0,u1,r,u⟩:=h;have n:s.code.size<=maxLen:=by simp only[bI,aub,auc]at l;exact at7 l.1.1.2 (by unfold maxLen;omega)
 have y:=Vo r u;unfold Eg;go_enter func137,ntmps137;go_wp2_with fail;refine(BW _ _ n).mono ?_;rintro e K ⟨rfl,j⟩;have p:=(ah.new w 123 #[.string s.code,.int .i64 s.aD,.int .i64 s.aV,.int .i64 s.floor,.int .i64 s.dO,.int .i64 s.unit,.int .i64 s.mode,.bool s.ep]).aa j;obtain⟨L,M,N,O,Q,R,S,T⟩:=p.cz8;have z:=aA (bC w _) j;rw[l];clear p j;go_wp2_with fail;refine(CB _ _).mono ?_;rintro e w' ⟨rfl,rfl⟩;rw[y];go_wp2;go_ret;exact⟨rfl,z⟩
theorem ajG(s:dx)(b:Int)(w:World):Calls prog 180 #[Eg s,.int .i64 b] w fun e w'=>e=.returned (I3 (bE s b))/\Below w.heap.size w w':=by
 unfold Eg;go_enter func180,ntmps180;go_wp2_with(go_at_call 178;refine(Zo _ _ _ _ _ _).mono ?_;rintro e w' ⟨rfl,rfl⟩);refine at5 (v:=I3 (bE s b)) (by simp[results,results180,go_sem,I3,bE]) rfl ⟨rfl,?_⟩
 repeat(refine iq ?_ (by omega) _ _)
 exact eP (bC _ _) _
theorem ajH(s:dx)(A:Option Addr)(D:Nat)(j:List Int)(w:World)(h:ai encI 1 w w.heap.size A j)(hl:j.length<=54)(p:∀x∈j,0<=x/\x<=8000000000)(E:oD s):
  Calls prog 181 #[Eg s,.slice A j.length D] w fun e w'=>e=.returned (.int .i64 (dU s j))/\Below w.heap.size w w':=by
 have z:=atM p;clear p;have T:=E.c0;have G:=E.c1;have eT:0<=(j.length:Int)*s.dO:=aur (by omega) (by omega);have jX:(j.length:Int)*s.dO<=54*1000000000:=auS (by omega) G (by omega) (by omega);clear E;unfold Eg;go_enter func181,ntmps181;go_wp2;have M:=ah.new w 123 #[.string s.code,.int .i64 s.aD,.int .i64 s.aV,.int .i64 s.floor,.int .i64 s.dO,.int .i64 s.unit,.int .i64 s.mode,.bool s.ep];have hS:=h.below (bC w (.cells #[.string s.code,.int .i64 s.aD,.int .i64 s.aV,.int .i64 s.floor,.int .i64 s.dO,.int .i64 s.unit,.int .i64 s.mode,.bool s.ep] 123));have N:=bC w (.cells #[.string s.code,.int .i64 s.aD,.int .i64 s.aV,.int .i64 s.floor,.int .i64 s.dO,.int .i64 s.unit,.int .i64 s.mode,.bool s.ep] 123);generalize w.alloc (Obj.cells _ _)=W at M hS N|-
 go_loopw [5,6] (fun U i wr=>∃k q:Nat,k<=j.length/\i=.int .i64 k/\U=.int .i64 (mH s (j.take k))/\Hid (wr=W.drewN q)) (fun _ i _=>j.length-(intOf i).toNat)
 case atStart=>exact⟨0,0,by omega,rfl,rfl,rfl⟩
 case round=>
  obtain⟨k,q,hk,rfl,rfl,u⟩:=hrel;have O:ah wr w.heap.size 123 #[.string s.code,.int .i64 s.aD,.int .i64 s.aV,.int .i64 s.floor,.int .i64 s.dO,.int .i64 s.unit,.int .i64 s.mode,.bool s.ep]:=by rw[u.out];exact M.drewN q
  have I:ai encI 1 wr w.heap.size A j:=by rw[u.out];exact hS
  have V:Below w.heap.size w wr:=by rw[u.out];exact below_drewN N q
  have J:=Zp (s:=s) (l:=j.take k) (fun x p=>(z.out x (auh p)).1);have K:=adl (s:=s) (l:=j.take k) (fun x p=>(z.out x (auh p)).1);have y:=(nv (l:=j.take k) (B:=8000000000) (fun x p=>z.out x (auh p))).2;simp only[auH]at y;have L:mH s (j.take k)<=432000000000:=by omega
  obtain⟨z0,z1,z2,z3,z4,z5,z6,z7⟩:=O.cz8;clear O K y;by_cases r:k<j.length
  ·obtain⟨b,off,rfl,hb,Q⟩:=I.at_ r;have X:=Q 0 _ rfl;simp only[atQ,auo]at X;have R:=atM (adm s j k r);obtain⟨x0,x1⟩:=z.out _ (atT r);clear Q;by_cases Y:s.floor<=j[k]
   ·go_wp2;go_quiet(fail);go_wp2;go_roundw
    case rel=>exact⟨k+1,q+nq,by omega,by go_num,by rw[R.out,atP Y],by show wr.drewN nq=W.drewN (q+nq);rw[u.out,World.drewN_drewN]⟩
    case measure=>simp[intOf];omega
   ·go_wp2;go_quiet(fail);go_wp2;go_roundw
    case rel=>
     have S:∃k' Z:Nat,k'<=j.length/\Value.int .i64 ((k:Int)+1)=.int .i64 k'/\Value.int .i64 (mH s (j.take k))=.int .i64 (mH s (j.take k'))/\Hid (wr.drewN nq=W.drewN Z):=⟨k+1,q+nq,by omega,by go_num,by rw[R.out,atO (by omega)];congr 1;omega,by show wr.drewN nq=W.drewN (q+nq);rw[u.out,World.drewN_drewN]⟩
     first|exact S|((repeat apply Exists.intro);exact⟨S,rfl⟩)
    case measure=>simp[intOf];omega
  ·obtain rfl:k=j.length:=by omega
   rw[aut (by omega)]at J L|-;go_wp2
   all_goals go_ret;refine⟨?_,V⟩;rw[dU];exact congrArg (fun n:Int=>Ending.returned (.int .i64 n)) (by omega)
theorem adn(s:dx)(A:Option Addr)(n l:Nat)(j:List Int)(w:World)(p:n=j.length)(h:ai encI 1 w w.heap.size A j)(r:j.length<=54)(u:∀x∈j,0<=x/\x<=8000000000)(y:oD s):
  Calls prog 181 #[.agg #[.string s.code,.int .i64 s.aD,.int .i64 s.aV,.int .i64 s.floor,.int .i64 s.dO,.int .i64 s.unit,.int .i64 s.mode,.bool s.ep],.slice A n l] w fun e w'=>e=.returned (.int .i64 (dU s j))/\Below w.heap.size w w':=by
 subst p;exact ajH s A l j w h r u y
theorem ajI(s:dx)(b:Int)(w:World):Calls prog 180 #[.agg #[.string s.code,.int .i64 s.aD,.int .i64 s.aV,.int .i64 s.floor,.int .i64 s.dO,.int .i64 s.unit,.int .i64 s.mode,.bool s.ep],.int .i64 b] w fun e w'=>e=.returned (.agg #[.int .i64 (bE s b).base,.int .i64 (bE s b).aD,.int .i64 (bE s b).aV])/\Below w.heap.size w w':=ajG s b w
theorem ajJ(s:dx)(A:Option Addr)(y:Nat)(j:List Int)(w:World)(h:ai encI 1 w w.heap.size A j)(hl:j.length<=54)(G:0<j.length)(Rk:j.length<=y)(D:∀x∈j,0<=x/\x<=8000000000)(hs:oD s):
  Calls prog 140 #[Eg s,.slice A j.length y] w fun e w'=>e=.returned (I3 (lF s j))/\Below w.heap.size w w':=by
 have HX:=atM D;clear D;have HS:=atM hs;clear hs;have ad:j≠[]:=by intro e;subst e;simp at G
 have af:((0<=(bE s (dU s j)).aD/\(bE s (dU s j)).aD<=60000000000)/\(0<=(bE s (dU s j)).aV/\(bE s (dU s j)).aV<=60000000000)/\(0<=(bE s (dU s j.dropLast)).aD/\(bE s (dU s j.dropLast)).aD<=60000000000)/\(0<=(bE s (dU s j.dropLast)).aV/\(bE s (dU s j.dropLast)).aV<=60000000000)/\(0<=(bE s (dU s j)).base/\(bE s (dU s j)).base<=60000000000)/\(0<=(bE s (dU s j.dropLast)).base/\(bE s (dU s j.dropLast)).base<=60000000000)):=by have ak:∀x∈j,0<=x:=fun x D=>(HX.out x D).1;obtain⟨c0,c1⟩:=OE HS.out ak hl;obtain⟨d0,d1⟩:=OE (s:=s) (l:=j.dropLast) HS.out (fun x D=>ak x ((List.dropLast_sublist j).subset D)) (by simp;omega);obtain⟨_,_,f1,f2,f3,f4,f5⟩:=Mh HS.out c0 (by omega:dU s j<=500000000000);obtain⟨_,_,g1,g2,g3,g4,g5⟩:=Mh HS.out d0 (by omega:dU s j.dropLast<=500000000000);rw[f1,g1];omega
 have Ki:=atM af;clear af ad;obtain⟨ab,Mi,rfl,an,Zq⟩:=h.at_ G;clear Zq;obtain⟨m,hm⟩:∃m,j.length=m:=⟨j.length,rfl⟩
 have HL:=atM hl;have HM:=atM hm;rw[hm]at Rk|-;have ao:m<=54:=by omega
 have Df:0<m:=by omega
 clear hm G hl;unfold Eg;go_enter func140,ntmps140;go_wp2_with fail;have hB:=(ah.new w 123 #[.string s.code,.int .i64 s.aD,.int .i64 s.aV,.int .i64 s.floor,.int .i64 s.dO,.int .i64 s.unit,.int .i64 s.mode,.bool s.ep]).alloc (.cells #[.int .i64 0,.int .i64 0,.int .i64 0] 142);have hR:=ah.new (w.alloc (.cells #[.string s.code,.int .i64 s.aD,.int .i64 s.aV,.int .i64 s.floor,.int .i64 s.dO,.int .i64 s.unit,.int .i64 s.mode,.bool s.ep] 123)) 142 #[.int .i64 0,.int .i64 0,.int .i64 0];have ae:=eP (bC w (.cells #[.string s.code,.int .i64 s.aD,.int .i64 s.aV,.int .i64 s.floor,.int .i64 s.dO,.int .i64 s.unit,.int .i64 s.mode,.bool s.ep] 123)) (.cells #[.int .i64 0,.int .i64 0,.int .i64 0] 142);rw[at2]at hR;generalize (w.alloc (Obj.cells #[.string s.code,.int .i64 s.aD,.int .i64 s.aV,.int .i64 s.floor,.int .i64 s.dO,.int .i64 s.unit,.int .i64 s.mode,.bool s.ep] 123)).alloc (Obj.cells #[.int .i64 0,.int .i64 0,.int .i64 0] 142)=W at hB hR ae|-;have hS:=h.aa ae;have E:w.heap.size<W.heap.size:=hB.lt;have Zr:w.heap.size+1<W.heap.size:=hR.lt;have hD:ai encI 1 W W.heap.size (some ⟨ab,Mi,none⟩) j.dropLast:=by rw[List.dropLast_eq_take];exact hS.take _
 have Kj:Hid (m-1=j.dropLast.length):=by have:=HM.out;simp[Hid];omega
 have Zs:Hid (∀x∈j.dropLast,0<=x/\x<=8000000000):=fun x D=>HX.out x ((List.dropLast_sublist j).subset D);obtain⟨z0,z1,z2,z3,z4,z5,z6,z7⟩:=hB.cz8;have AG:=atM hS;have Hl:=atM hD;clear hS hD h;have BX:¬y=0:=by omega
 have ap:IntKind.i64.wrap ((m:Int)-1)=(m:Int)-1:=by rw[IntKind.wrap_i64];omega
 have Zt:=Zu ab Mi m y ((m:Int)-1) (m-1) (by omega) (by omega) BX;refine ajE (aE:=?aE) 14 4 (by kernel_rfl) (by kernel_rfl) rfl (by kernel_rfl) (by rfl) ?H ?M
 case H=>
  intro F hF am;simp only[avg,List.take_zero];have e0:=kp.cell (F:=F) (a:=⟨w.heap.size,0,none⟩) (by exact E) z0;have e1:=kp.cell (F:=F) (a:=⟨w.heap.size,1,none⟩) (by exact E) z1;have e2:=kp.cell (F:=F) (a:=⟨w.heap.size,2,none⟩) (by exact E) z2;have e3:=kp.cell (F:=F) (a:=⟨w.heap.size,3,none⟩) (by exact E) z3;have e4:=kp.cell (F:=F) (a:=⟨w.heap.size,4,none⟩) (by exact E) z4;have e5:=kp.cell (F:=F) (a:=⟨w.heap.size,5,none⟩) (by exact E) z5;have e6:=kp.cell (F:=F) (a:=⟨w.heap.size,6,none⟩) (by exact E) z6;have e7:=kp.cell (F:=F) (a:=⟨w.heap.size,7,none⟩) (by exact E) z7
  repeat(first|go_big_quiet_step((first|(go_at_call 180;exact kp.call hF _ (ajI s _ _))|with_reducible exact kp.call hF _ (adn s _ _ _ j _ HM.out.symm (AG.out.aa (kp.h _)) HL.out HX.out HS.out)|with_reducible exact kp.call hF _ (adn s _ _ _ j.dropLast _ Kj.out (Hl.out.aa (kp.h _)) (by rw[<-Kj.out];omega) Zs.out HS.out))))
  refine wpQuiet_nil ?_;rfl
 case M=>
  intro Q0 bS;refine bQ [14,15] (by kernel_rfl) (by simp) ?_;intro r ba av i hi;simp only[bY,bZ,atU]at hi;rcases hi with rfl|rfl
  ·refine bH (.pointer (some ⟨r.heap.size,0,none⟩)) (r.alloc (.cells #[.int .i64 0,.int .i64 0,.int .i64 0] 142)) rfl rfl (by go_simp) ⟨eP ba _,?_⟩;have hA:=ah.new r 142 #[.int .i64 0,.int .i64 0,.int .i64 0];refine bQ [15] (by kernel_rfl) (by simp) ?_;intro p gL I i hi;simp only[bY,bZ,atU]at hi;subst hi;have dE:=hA.aa I;refine bH (.pointer (some ⟨p.heap.size,0,none⟩)) (p.alloc (.cells #[.int .i64 0,.int .i64 0,.int .i64 0] 142)) rfl rfl (by go_simp) ⟨eP gL _,?_⟩;have cX:=dE.alloc (.cells #[.int .i64 0,.int .i64 0,.int .i64 0] 142);have bA:=ah.new p 142 #[.int .i64 0,.int .i64 0,.int .i64 0];have al:=dE.lt;have Rl:r.heap.size≠p.heap.size:=(by omega);have J:W.heap.size<=r.heap.size:=ba.size;have K:W.heap.size<=p.heap.size:=gL.size;clear hA dE;refine bQ [16] (by kernel_rfl) (by simp) ?_;intro w4 kJ u i hi;simp only[bY,bZ,atU]at hi;subst hi;have z:=cX.aa u;have bk:=bA.aa u;obtain⟨L,N,O⟩:=z.cz3;obtain⟨Q,R,S⟩:=z.fz3;refine fw (((w4.setCell ⟨r.heap.size,0,none⟩ (.int .i64 (bE s (dU s j)).base)).setCell ⟨r.heap.size,1,none⟩ (.int .i64 (bE s (dU s j)).aD)).setCell ⟨r.heap.size,2,none⟩ (.int .i64 (bE s (dU s j)).aV)) rfl rfl (by go_simp) ⟨?_,?_⟩
   ·exact iL (iL (iL kJ J 0 _) J 1 _) J 2 _
   have T:=z.fill (dY (bE s (dU s j))) rfl;have U:=bk.Mm (g':=r.heap.size) (fun e=>Rl e.symm) (dY (bE s (dU s j))) 0;simp only[ir,dY,atX,Nat.reduceAdd]at T U;clear L N O Q R S z bk cX bA;refine bQ [17] (by kernel_rfl) (by simp) ?_;intro w5 bD V i hi;simp only[bY,bZ,atU]at hi;subst hi;have Rm:=T.aa V;have B:=U.aa V;obtain⟨L,N,O⟩:=B.cz3;obtain⟨Q,R,S⟩:=B.fz3;refine fw (((w5.setCell ⟨p.heap.size,0,none⟩ (.int .i64 (bE s (dU s j.dropLast)).base)).setCell ⟨p.heap.size,1,none⟩ (.int .i64 (bE s (dU s j.dropLast)).aD)).setCell ⟨p.heap.size,2,none⟩ (.int .i64 (bE s (dU s j.dropLast)).aV)) rfl rfl (by go_simp) ⟨?_,?_⟩
   ·exact iL (iL (iL bD K 0 _) K 1 _) K 2 _
   have X:=B.fill (dY (bE s (dU s j.dropLast))) rfl;have Y:=Rm.Mm (g':=p.heap.size) Rl (dY (bE s (dU s j.dropLast))) 0;simp only[ir,dY,atX,Nat.reduceAdd]at Y X;clear L N O Q R S Rm B T U;refine kI (by kernel_rfl) ?_;intro w6 fM Z;have Ge:=Y.aa Z;have fx:=X.aa Z;obtain⟨x0,x1,x2⟩:=Ge.cz3;obtain⟨y0,y1,y2⟩:=fx.cz3;have ee:=hR.below fM Zr;obtain⟨r0,r1,r2⟩:=ee.cz3;obtain⟨pJ,pK,pL⟩:=ee.fz3;apply bS;clear Ge fx Y X Z V u bD kJ z0 z1 z2 z3 z4 z5 z6 z7;obtain⟨⟨u0,u1⟩,⟨u2,u3⟩,⟨u4,u5⟩,⟨u6,u7⟩,⟨u8,u9⟩,u10,u11⟩:=Ki.out;go_wp2;have n:=ee.fill (dY (lF s j)) rfl;have aj:=Mo (g:=w.heap.size+1) (by omega) (dY (lF s j)) 0 (aA ae fM);simp only[ir,dY,lF,Mp,atX,Nat.reduceAdd]at n aj;generalize World.setCell _ _ _=WW at n aj|-;obtain⟨Rn,Rp,Rq⟩:=n.cz3;refine at5 (v:=I3 (lF s j)) (by simp[results,results140,go_sem,Rn,Rp,Rq,I3,lF,Mp]) rfl ⟨rfl,aj⟩
  ·refine bH (.pointer (some ⟨r.heap.size,0,none⟩)) (r.alloc (.cells #[.int .i64 0,.int .i64 0,.int .i64 0] 142)) rfl rfl (by go_simp) ⟨eP ba _,?_⟩;have hB:=ah.new r 142 #[.int .i64 0,.int .i64 0,.int .i64 0];refine bQ [14] (by kernel_rfl) (by simp) ?_;intro p gL I i hi;simp only[bY,bZ,atU]at hi;subst hi;have aC:=hB.aa I;refine bH (.pointer (some ⟨p.heap.size,0,none⟩)) (p.alloc (.cells #[.int .i64 0,.int .i64 0,.int .i64 0] 142)) rfl rfl (by go_simp) ⟨eP gL _,?_⟩;have bA:=aC.alloc (.cells #[.int .i64 0,.int .i64 0,.int .i64 0] 142);have cX:=ah.new p 142 #[.int .i64 0,.int .i64 0,.int .i64 0];have al:=aC.lt;have Rl:p.heap.size≠r.heap.size:=(by omega);have J:W.heap.size<=p.heap.size:=gL.size;have K:W.heap.size<=r.heap.size:=ba.size;clear hB aC;refine bQ [16] (by kernel_rfl) (by simp) ?_;intro w4 kJ u i hi;simp only[bY,bZ,atU]at hi;subst hi;have z:=cX.aa u;have bk:=bA.aa u;obtain⟨L,N,O⟩:=z.cz3;obtain⟨Q,R,S⟩:=z.fz3;refine fw (((w4.setCell ⟨p.heap.size,0,none⟩ (.int .i64 (bE s (dU s j)).base)).setCell ⟨p.heap.size,1,none⟩ (.int .i64 (bE s (dU s j)).aD)).setCell ⟨p.heap.size,2,none⟩ (.int .i64 (bE s (dU s j)).aV)) rfl rfl (by go_simp) ⟨?_,?_⟩
   ·exact iL (iL (iL kJ J 0 _) J 1 _) J 2 _
   have T:=z.fill (dY (bE s (dU s j))) rfl;have U:=bk.Mm (g':=p.heap.size) (fun e=>Rl e.symm) (dY (bE s (dU s j))) 0;simp only[ir,dY,atX,Nat.reduceAdd]at T U;clear L N O Q R S z bk cX bA;refine bQ [17] (by kernel_rfl) (by simp) ?_;intro w5 bD V i hi;simp only[bY,bZ,atU]at hi;subst hi;have Rm:=T.aa V;have B:=U.aa V;obtain⟨L,N,O⟩:=B.cz3;obtain⟨Q,R,S⟩:=B.fz3;refine fw (((w5.setCell ⟨r.heap.size,0,none⟩ (.int .i64 (bE s (dU s j.dropLast)).base)).setCell ⟨r.heap.size,1,none⟩ (.int .i64 (bE s (dU s j.dropLast)).aD)).setCell ⟨r.heap.size,2,none⟩ (.int .i64 (bE s (dU s j.dropLast)).aV)) rfl rfl (by go_simp) ⟨?_,?_⟩
   ·exact iL (iL (iL bD K 0 _) K 1 _) K 2 _
   have X:=B.fill (dY (bE s (dU s j.dropLast))) rfl;have Y:=Rm.Mm (g':=r.heap.size) Rl (dY (bE s (dU s j.dropLast))) 0;simp only[ir,dY,atX,Nat.reduceAdd]at Y X;clear L N O Q R S Rm B T U;refine kI (by kernel_rfl) ?_;intro w6 fM Z;have Ge:=Y.aa Z;have fx:=X.aa Z;obtain⟨x0,x1,x2⟩:=Ge.cz3;obtain⟨y0,y1,y2⟩:=fx.cz3;have ee:=hR.below fM Zr;obtain⟨r0,r1,r2⟩:=ee.cz3;obtain⟨pJ,pK,pL⟩:=ee.fz3;apply bS;clear Ge fx Y X Z V u bD kJ z0 z1 z2 z3 z4 z5 z6 z7;obtain⟨⟨u0,u1⟩,⟨u2,u3⟩,⟨u4,u5⟩,⟨u6,u7⟩,⟨u8,u9⟩,u10,u11⟩:=Ki.out;go_wp2;have n:=ee.fill (dY (lF s j)) rfl;have aj:=Mo (g:=w.heap.size+1) (by omega) (dY (lF s j)) 0 (aA ae fM);simp only[ir,dY,lF,Mp,atX,Nat.reduceAdd]at n aj;generalize World.setCell _ _ _=WW at n aj|-;obtain⟨Rn,Rp,Rq⟩:=n.cz3;refine at5 (v:=I3 (lF s j)) (by simp[results,results140,go_sem,Rn,Rp,Rq,I3,lF,Mp]) rfl ⟨rfl,aj⟩
theorem Rs{w:World}{base g n j:Nat}{e:TypeId}{k:Nat}{L:List Value}(h:w.ownsRow base e k (.slice (some ⟨g,0,none⟩) n j) n L)(i:Nat)(u:Value):
  (w.setCell ⟨g,i,none⟩ u).ownsRow base e k (.slice (some ⟨g,0,none⟩) n j) n (L.set i u):=by
 obtain⟨z,B⟩:=h;refine⟨by simpa using z,?_⟩;rcases B with⟨p,_⟩|⟨N,y,r,p,D,E,G,I,J,K⟩
 ·cases p
 ·injection p with l O M
  injection l with l
  injection l with l _
  subst l M;refine .inr ⟨g,j,r.setIfInBounds i u,rfl,D,?_,G,I,by simpa using J,?_⟩
  ·simp[World.setCell,auU,E]
  ·rw[Array.toList_setIfInBounds,List.take_set,K]
theorem ajL{B:Type}{e:B->List Value}(E:∀x,(e x).length=3)(y:B)(a b c:Value)(hy:e y=[a,b,c]):∀(u:List B) (j:Nat),j<u.length->(u.set j y).flatMap e=(((u.flatMap e).set (j*3) a).set (j*3+1) b).set (j*3+2) c:=by
 intro u
 induction u with
 |nil=>intro j D;simp at D
 |cons x r G=>
  intro j D;cases j with
  |zero=>
   obtain⟨l,n,p,z⟩:∃l n p,e x=[l,n,p]:=by
    have:=E x
    match z:e x,this with
    |[l,n,p],_=>exact⟨l,n,p,rfl⟩
   simp[hy,z]
  |succ j=>
   obtain⟨l,n,p,z⟩:∃l n p,e x=[l,n,p]:=by
    have:=E x
    match z:e x,this with
    |[l,n,p],_=>exact⟨l,n,p,rfl⟩
   rw[at8,auI,auI,G j (by simpa using D),z];rw[show(j+1)*3=j*3+3 by omega,show j*3+3+1=j*3+1+3 by omega,show j*3+3+2=j*3+2+3 by omega];simp
theorem ajM{n:Type}{e:n->List Value}(p:∀x,(e x).length=3)(j:List n):(j.flatMap e).length=j.length*3:=by
 induction j with
 |nil=>rfl
 |cons a l r=>rw[auI,at3,p,r,at4];omega
theorem Own.ado{p:Type}{l:p->List Value}{e:TypeId}{w:World}{base g cap:Nat}{ys:List p}(r:∀x,(l x).length=3){n:Nat}(u:n=ys.length)(h:Own l 3 e w base (.slice (some ⟨g,0,none⟩) n cap) ys){j:Nat}(z:j<ys.length)(y:p)(a b c:Value)(hy:l y=[a,b,c]):
  Own l 3 e (((w.setCell ⟨g,j*3,none⟩ a).setCell ⟨g,j*3+1,none⟩ b).setCell ⟨g,j*3+2,none⟩ c) base (.slice (some ⟨g,0,none⟩) n cap) (ys.set j y):=by
 subst u;unfold Own;rw[ajL r y a b c hy ys j z,List.length_set];exact Rs (Rs (Rs h _ _) _ _) _ _
theorem Own.some_{n:Type}{l:n->List Value}{k:Nat}{e:TypeId}{w:World}{base:Nat}{v:Value}{ys:List n}(h:Own l k e w base v ys)(p:0<ys.length):∃g cap j,v=.slice (some ⟨g,0,none⟩) ys.length cap/\base<=g/\ah w g e j/\ys.length<=cap/\cap<=maxLen:=by
 rcases h.2 with⟨_,B⟩|⟨g,cap,j,rfl,r,u,y,z,_⟩
 ·omega
 ·exact⟨g,cap,j,rfl,r,u,y,z⟩
theorem ajN(n:Nat):(madeCells #[Value.int .i64 0,.int .i64 0,.int .i64 0] (n*3)).toList=(List.replicate n jN).flatMap dY:=by
 have e:(List.replicate n jN).flatMap dY=List.replicate (n*3) (Value.int .i64 0):=by
  induction n with
  |zero=>rfl
  |succ n l=>rw[auV,auI,l,show(n+1)*3=n*3+1+1+1 by omega,auV,auV,auV];rfl
 rw[e,List.eq_replicate_iff];refine⟨by simp[madeCells],fun b j=>?_⟩;simp only[madeCells]at j;simp at j;obtain⟨a,_,rfl⟩:=j;rcases(show a%3=0\/a%3=1\/a%3=2 by omega)with h|h|h<;>simp[h]
theorem adp(n:Nat)(r:n<=1000)(w:World):(Instr.makeSlice 138 (.int .i64 (n:Int)) (.int .i64 (n:Int))).run prog w=.ok (.slice (some ⟨w.heap.size,0,none⟩) n n) (w.alloc (.cells ((List.replicate n jN).flatMap dY).toArray 142)):=by obtain⟨i,hi,j,l,p⟩:=info_parts ajO;have e:=run_make (P:=prog) w 138 142 i _ underlying138 hi j .i64 .i64 (n:Int) (n:Int) (by omega) (auJ _) (by rw[p];omega) (by omega);simp only[Int.toNat_natCast,l]at e;rw[e,<-ajN];rfl
def Zv(v:gM)(e:List Int)(i:Nat):gM:=⟨(en v.base e).getD i 0,(en v.aD e).getD i 0,(en v.aV e).getD i 0⟩
def Hp(v:gM)(e:List Int)(n k:Nat):List gM:=(List.range n).map fun i=>if i<k then Zv v e i else jN
theorem Ru(v:gM)(e:List Int)(n k:Nat):(Hp v e n k).length=n:=by simp[Hp]
theorem ajP(v:gM)(e:List Int)(n:Nat):Hp v e n 0=List.replicate n jN:=by rw[List.eq_replicate_iff];exact⟨Ru _ _ _ _,fun x j=>by obtain⟨i,_,rfl⟩:=aue.1 j;simp⟩
theorem ajQ(v:gM)(j:List Int)(n k:Nat)(p:k<n):(Hp v j n k).set k (Zv v j k)=Hp v j n (k+1):=by
 apply List.ext_getElem?;intro i;rw[List.getElem?_set];simp only[Hp,auq,List.length_range,au0];by_cases e:k=i
 ·subst e;simp[p]
 ·rw[atO e];by_cases hi:i<n
  ·rw[List.getElem?_range hi];simp only[Option.map_some];congr 1;by_cases l:i<k
   ·rw[atP l,atP (by omega)]
   ·rw[atO l,atO (by omega)]
  ·rw[avu (by simp;omega)];rfl
theorem ajR(v:gM)(e:List Int)(h:ax e≠0):Hp v e e.length e.length=nT v e:=by rw[nT,atO h,Hp];apply List.map_congr_left;intro i hi;rw[atP (by simpa using hi)];rfl
theorem Zw(n:Nat)(e:List (List Int×Int))(k:Nat)(h:k<e.length):qD n (e.take (k+1))=Gf (qD n (e.take k)) (e[k].1++[e[k].2]):=by rw[aud h,qD,List.foldl_append];rfl
theorem ajS(e:List (List Int×Int))(k:Nat)(h:k<e.length):nU (e.take (k+1))=nU (e.take k)++[e[k].2]:=by rw[aud h,nU,auK];rfl
theorem adq(a b:List Int)(i:Nat)(e:i<a.length)(j:i<b.length):(Gf a b).getD i 0=a.getD i 0+b.getD i 0:=by simp only[Gf,atZ,List.getElem?_zipWith,atW e,atW j];rfl
theorem Eh.take{n:Nat}{l:List (List Int×Int)}(h:Eh n l)(k:Nat):(qD n (l.take k)).length=n+1/\∀x∈qD n (l.take k),0<=x:=
 adr (l.take k) (fun e j=>h.lens e (auh j)) (fun e j=>(h.base e (auh j)).1) (fun e j x p=>(h.earlier e (auh j) x p).1) _ (by simp) (by intro x p;rw[List.eq_of_mem_replicate p];omega)
theorem Eh.ads{n:Nat}{j:List (List Int×Int)}(h:Eh n j):∀k,k<=j.length->∀i,i<n+1->(qD n (j.take k)).getD i 0<=k*1000000000:=by
 intro k
 induction k with
 |zero=>
  intro _ i hi;have:(qD n (j.take 0)).getD i 0=0:=by simp only[List.take_zero,qD,List.foldl_nil,atZ,avh];split<;>rfl
  omega
 |succ k p=>
  intro r i hi;have u:=p (by omega) i hi;have y:=(h.take k).1;have l:=atT (show k<j.length by omega);have z:=h.lens _ l;rw[Zw n j k (by omega),adq _ _ _ (by omega) (by simp;omega)];have B:(j[k].1++[j[k].2]).getD i 0<=1000000000:=by
   rw[atZ];cases e:(j[k].1++[j[k].2])[i]?with
   |none=>simp
   |some v=>
    rcases aul.1 (List.mem_of_getElem? e)with g|g
    ·exact(h.earlier _ l _ g).2
    ·simp at g;subst g;exact(h.base _ l).2
  rw[show((k+1:Nat):Int)*1000000000=k*1000000000+1000000000 by omega];omega
def Dg(S x:List Int)(j:Nat)(i:Nat):Value:=.int .i64 (S.getD i 0+if i<j then x.getD i 0 else 0)
def qg(s:dx)(n:Nat)(e:List (List Int×Int)):List gM:=if gI (iE s n e)then[]else E9 s n e
def AH(s:dx)(n:Nat)(e:List (List Int×Int)):Int:=if gI (iE s n e)then 4 else 0
theorem adt{w:World}{g:Nat}{S x:List Int}{m:Nat}(h:RowI w g S)(e:S.length=m):w.rowIs g 3 m (Dg S x 0):=by subst e;exact World.rowIs.congr h (fun i _=>by simp[Dg])
theorem adu{w:World}{g m j:Nat}{S x:List Int}(h:w.rowIs g 3 m (Dg S x j)):(w.setCell ⟨g,j,none⟩ (.int .i64 (S.getD j 0+x.getD j 0))).rowIs g 3 m (Dg S x (j+1)):=by
 refine(h.set j _).congr fun i _=>?_;by_cases e:i=j
 ·subst e;rw[atP rfl];simp[Dg]
 ·rw[atO e];unfold Dg;by_cases l:i<j
  ·rw[atP l,atP (by omega)]
  ·rw[atO l,atO (by omega)]
theorem adw{w:World}{g n:Nat}{S x:List Int}{b:Int}(h:w.rowIs g 3 (n+1) (Dg S x n))(hS:S.length=n+1)(j:x.length=n):RowI (w.setCell ⟨g,n,none⟩ (.int .i64 (S.getD n 0+b))) g (Gf S (x++[b])):=by
 unfold RowI;have l:(Gf S (x++[b])).length=n+1:=by rw[adx];simp;omega
 rw[l];refine(h.set n _).congr fun i hi=>?_;rw[adq _ _ _ (by omega) (by simp;omega)];by_cases e:i=n
 ·subst e;rw[atP rfl];have:(x++[b]).getD i 0=b:=by rw[atZ,List.getElem?_append_right (by omega)];simp[j]
  rw[this]
 ·rw[atO e];have:(x++[b]).getD i 0=x.getD i 0:=by rw[atZ,avk (by omega),atZ]
  rw[this,Dg,atP (by omega)]
theorem ady{e:List cI}{k:Nat}(h:k<e.length):(e.map cI.v)[k]'(by simpa using h)=(e[k].l,e[k].base):=by simp[cI.v]
