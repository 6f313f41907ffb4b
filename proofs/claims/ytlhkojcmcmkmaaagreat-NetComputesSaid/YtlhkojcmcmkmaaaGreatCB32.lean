/- Conditions: as stated. -/
import Derived.Test.YtlhkojcmcmkmaaaGreatCP32m
set_option maxRecDepth 100000
set_option maxHeartbeats 8000000
namespace Go.Proofs.YtlhkojcmcmkmaaaGreat
open Go.Proofs.Tryz
open Go.RowKit Go.Sort Go.Shelf
structure Rv(x:cH):Prop where
 ne:x.amount≠0
 lo:-100000000000<=x.amount
 hi:x.amount<=100000000000
 kd:(x.kind=6/\x.code=⟨#[]⟩)\/((x.kind=9\/x.kind=10)/\x.code=⟨#[]⟩/\0<x.amount)\/((x.kind=1\/x.kind=2)/\bI x.code=true)\/((x.kind=3\/x.kind=4\/x.kind=5\/x.kind=7\/x.kind=8)/\bI x.code=true/\0<x.amount)
theorem ajT(k:Int)(c:ByteArray)(n:Int)(w:World)(u:n≠0)(z:-100000000000<=n)(B:n<=100000000000)(j:bI c=true)(y:k=1\/k=2):
  Calls prog 46 #[.agg #[.int .i64 k,.string c,.int .i64 n]] w fun e w'=>e=.returned (.bool true)/\Below w.heap.size w w':=by
 have l:=atM (fun w=>AA c w (Fa j));rw[j]at l;clear j;have p:=bC w (.cells #[.int .i64 k,.string c,.int .i64 n] 30);have r:=ah.new w 30 #[.int .i64 k,.string c,.int .i64 n];have C:(n==0)=false:=by simpa using u
 rcases y with rfl|rfl
 all_goals
  go_enter func46,ntmps46;go_upto_region 1 with fail
  generalize w.alloc (Obj.cells _ _)=W at p r|-;obtain⟨D,E,F⟩:=r.cz3;go_wp2_with fail;refine(l.out _).mono ?_;rintro e w' ⟨rfl,rfl⟩;go_wp2;go_ret;exact⟨rfl,p⟩
theorem ajU(k:Int)(c:ByteArray)(n:Int)(w:World)(y:0<n)(z:n<=100000000000)(j:bI c=true)(u:k=3\/k=4\/k=5\/k=7\/k=8):
  Calls prog 46 #[.agg #[.int .i64 k,.string c,.int .i64 n]] w fun e w'=>e=.returned (.bool true)/\Below w.heap.size w w':=by
 have l:=atM (fun w=>AA c w (Fa j));rw[j]at l;clear j;have p:=bC w (.cells #[.int .i64 k,.string c,.int .i64 n] 30);have r:=ah.new w 30 #[.int .i64 k,.string c,.int .i64 n];have B:(n==0)=false:=by simp;omega
 rcases u with rfl|rfl|rfl|rfl|rfl
 all_goals
  go_enter func46,ntmps46;go_upto_region 1 with fail
  generalize w.alloc (Obj.cells _ _)=W at p r|-;obtain⟨C,D,E⟩:=r.cz3;go_wp2_with fail;refine(l.out _).mono ?_;rintro e w' ⟨rfl,rfl⟩;go_wp2;go_ret;exact⟨rfl,p⟩
theorem adz(k:Int)(n:Int)(w:World)(p:n≠0)(y:-100000000000<=n)(z:n<=100000000000)(r:k=6\/(k=9/\0<n)\/(k=10/\0<n)):
  Calls prog 46 #[.agg #[.int .i64 k,.string ⟨#[]⟩,.int .i64 n]] w fun e w'=>e=.returned (.bool true)/\Below w.heap.size w w':=by
 have j:=bC w (.cells #[.int .i64 k,.string ⟨#[]⟩,.int .i64 n] 30);have l:=ah.new w 30 #[.int .i64 k,.string ⟨#[]⟩,.int .i64 n];have B:(n==0)=false:=by simpa using p
 rcases r with rfl|⟨rfl,u⟩|⟨rfl,u⟩
 all_goals
  go_enter func46,ntmps46;go_upto_region 1 with fail
  generalize w.alloc (Obj.cells _ _)=W at j l|-;obtain⟨C,D,E⟩:=l.cz3;go_wp2;go_ret;exact⟨rfl,j⟩
theorem ajV(x:cH)(w:World)(h:Rv x):Calls prog 46 #[.agg #[.int .i64 x.kind,.string x.code,.int .i64 x.amount]] w fun e w'=>e=.returned (.bool true)/\Below w.heap.size w w':=by
 rcases h.kd with⟨j,l⟩|⟨j,l,n⟩|⟨j,l⟩|⟨j,l,n⟩
 ·rw[l];exact adz _ _ w h.ne h.lo h.hi (.inl j)
 ·rw[l];exact adz _ _ w h.ne h.lo h.hi (.inr (j.imp (fun a=>⟨a,n⟩) (fun a=>⟨a,n⟩)))
 ·exact ajT _ _ _ w h.ne h.lo h.hi l j
 ·exact ajU _ _ _ w n h.hi l j
def dZ(k:Int):List cH->Int
 |[]=>0
 |x::r=>(if x.kind=k then x.amount else 0)+dZ k r
theorem adA(k:Int)(l m:List cH):dZ k (l++m)=dZ k l+dZ k m:=by
 induction l with
 |nil=>simp[dZ]
 |cons a l e=>simp[dZ,e];omega
theorem adB(k:Int)(l:List cH)(i:Nat)(h:i<l.length):dZ k (l.take (i+1))=dZ k (l.take i)+if l[i].kind=k then l[i].amount else 0:=by rw[aud h,adA];simp[dZ]
theorem ajW(k:Int)(l:List cH)(h:∀x∈l,-100000000000<=x.amount/\x.amount<=100000000000):-(l.length*100000000000)<=dZ k l/\dZ k l<=l.length*100000000000:=by
 induction l with
 |nil=>simp[dZ]
 |cons a l e=>have n:=h a (by simp);have p:=e (fun x j=>h x (by simp[j]));simp only[dZ,at4];rw[show((l.length+1:Nat):Int)*100000000000=l.length*100000000000+100000000000 by rw[Int.natCast_add,auN];omega];split<;>omega
def Hq(l:List cH):Array Value:=((List.range 11).map fun k:Nat=>Value.int .i64 (dZ (k:Int) l)).toArray
theorem Ei(l:List cH)(k:Nat)(h:k<11):(Hq l)[k]?=some (.int .i64 (dZ (k:Int) l)):=by simp[Hq,h]
theorem ajX(l:List cH)(i:Nat)(h:i<l.length)(e:Nat)(n:l[i].kind=(e:Int))(u:e<11):(Hq (l.take i)).setIfInBounds e (.int .i64 (dZ (e:Int) (l.take i)+l[i].amount))=Hq (l.take (i+1)):=by
 apply Array.ext_getElem?;intro j;rw[Array.getElem?_setIfInBounds];by_cases p:e=j
 ·subst p;rw[atP rfl,Ei _ _ u,adB _ _ _ h,atP n,atP (by simp[Hq];omega)]
 ·rw[atO p];by_cases r:j<11
  ·rw[Ei _ _ r,Ei _ _ r,adB _ _ _ h,atO (by rw[n];omega),Int.add_zero]
  ·rw[avf (by simp[Hq];omega),avf (by simp[Hq];omega)]
structure adC(b:eU)(lH:Int)(ls:List cH):Prop where
 len:ls.length<=256
 fm:∀x∈ls,Rv x
 sorted:RL.Mq ls
 one:dZ 9 ls=0\/dZ 10 ls=0
 c:b.c=dZ 1 ls
 g:b.g=b.c+dZ 2 ls
 lg:lH=b.c-dZ 4 ls-dZ 6 ls
 net:lH-dZ 3 ls-dZ 7 ls-dZ 8 ls=dZ 9 ls-dZ 10 ls
theorem ajY(x y:cH)(_l:Dh x y=true)(W:World):Calls prog 47 #[.agg #[.int .i64 x.kind,.string x.code,.int .i64 x.amount],.agg #[.int .i64 y.kind,.string y.code,.int .i64 y.amount]] W fun e w'=>e=.returned (.int .i64 (Fb x y))/\RowKit.Below W.heap.size W w':=by
 refine(adD x y W).mono ?_;rintro e w' ⟨rfl,q,os,rfl⟩;refine⟨rfl,⟨rfl,rfl,rfl,?_,fun k j=>?_⟩⟩
 ·simp[grow]
 ·simp[grow,Array.getElem?_append,j]
theorem ajZ{x y:cH}(e:Dh x y=true):Fb x y<0:=by rw[<-Rx]at e;simpa[ltOf]using e
theorem aj0(b:eU)(lH:Int)(A:Option Addr)(E:Nat)(l:List cH)(w:World)(h:ai fV 3 w w.heap.size A l)(D:adC b lH l):
  Calls prog 16 #[.agg #[.int .i64 b.g,.int .i64 b.c,.int .i64 b.t,.int .i64 b.i,.int .i64 b.a,.int .i64 lH,.slice A l.length E]] w fun e w'=>e=.returned (.bool true)/\RowKit.Below w.heap.size w w':=by
 have HB:=atM D;have hl:=D.len;have ae:=atM (fun x L W=>ajV x W (D.fm x L));have BZ:Hid (∀x∈l,-100000000000<=x.amount/\x.amount<=100000000000):=fun x L=>⟨(D.fm x L).lo,(D.fm x L).hi⟩
 have Vq:Hid (∀(k:Int) (i:Nat),i<=256->-25600000000000<=dZ k (l.take i)/\dZ k (l.take i)<=25600000000000):=fun k i hi=>by
  have:=ajW k (l.take i) (fun x L=>BZ.out x (auh L));have h2:(l.take i).length<=256:=by simp;omega
  omega
 have af:Hid (∀i (h1:i+1<l.length),Dh l[i] l[i+1]=true):=fun i h1=>auz.1 D.sorted i (i+1) (by omega) h1 (by omega);have Zx:Hid (∀x∈l,∃n:Nat,x.kind=(n:Int)/\1<=n/\n<=10):=fun x L=>by have:=(D.fm x L).kd;exact⟨x.kind.toNat,by omega,by omega,by omega⟩
 clear D;go_enter func16,ntmps16;have R:=ah.new w 27 #[.int .i64 b.g,.int .i64 b.c,.int .i64 b.t,.int .i64 b.i,.int .i64 b.a,.int .i64 lH,.slice A l.length E];have cY:=bC w (.cells #[.int .i64 b.g,.int .i64 b.c,.int .i64 b.t,.int .i64 b.i,.int .i64 b.a,.int .i64 lH,.slice A l.length E] 27);go_upto_region 1 with fail
 generalize w.alloc (Obj.cells _ _)=r at R cY|-;obtain⟨z0,z1,z2,z3,z4,z5,S⟩:=R.cz7;go_upto_region 4 with fail
 have AK:=ah.new r 95 #[.int .i64 0,.int .i64 0,.int .i64 0,.int .i64 0,.int .i64 0,.int .i64 0,.int .i64 0,.int .i64 0,.int .i64 0,.int .i64 0,.int .i64 0];have M:=bC r (.cells #[.int .i64 0,.int .i64 0,.int .i64 0,.int .i64 0,.int .i64 0,.int .i64 0,.int .i64 0,.int .i64 0,.int .i64 0,.int .i64 0,.int .i64 0] 95);generalize r.alloc (Obj.cells _ _)=W2 at AK M|-;have X:ah W2 r.heap.size 95 (Hq (l.take 0)):=AK;have ak:=M.cell (p:=⟨w.heap.size,6,none⟩) (by exact R.lt) |>.trans S;clear z0 z1 z2 z3 z4 z5 S AK;go_wp2_with fail
 go_loopw [16] (fun i wr=>∃k:Nat,k<=l.length/\i=.int .i64 k/\ah wr r.heap.size 95 (Hq (l.take k))/\RowKit.Below r.heap.size r wr) (fun i _=>l.length-(intOf i).toNat)
 case atStart=>exact⟨0,by omega,rfl,X,M⟩
 case round=>
  rename World=>wr
  clear ak X;obtain⟨k,hk,rfl,y,u⟩:=hrel;have N:=R.below u R.lt;have AL:=(h.aa cY).aa u;by_cases O:k<l.length
  ·obtain⟨G,off,oF,gu,hc⟩:=AL.at_ O;have c0:=hc 0 _ rfl;have c1:=hc 1 _ rfl;have c2:=hc 2 _ rfl;simp only[atQ]at c0;have fL:(k:Int)<(l.length:Int):=(by omega);have fJ:=atT O;obtain⟨n,Rw,j0,av⟩:=Zx.out _ fJ;have Zy:=atM (ae.out _ fJ);have pM:=BZ.out _ fJ;have Hr:=Vq.out (n:Int) k (by omega);have Ry:=atM (ajX l k O n Rw (by omega));have kh:=atM (Ei (l.take k) n (by omega));have Y:Hid (k≠0->∃q:cH,(∀W,RowKit.Below wr.heap.size wr W->Calls prog 47 #[.agg #[.int .i64 q.kind,.string q.code,.int .i64 q.amount],.agg #[.int .i64 l[k].kind,.string l[k].code,.int .i64 l[k].amount]] W fun e w'=>e=.returned (.int .i64 (Fb q l[k]))/\RowKit.Below W.heap.size W w')/\Fb q l[k]<0/\(∀j v,(fV q)[j]?=some v->wr.cell? ⟨G,off+(k-1)*3+j,none⟩=some v)):=fun h0=>by
    have hp:k-1<l.length:=(by omega);have hs:=af.out (k-1) (by omega);simp only[Nat.sub_add_cancel (show 1<=k by omega)]at hs;refine⟨l[k-1],fun W _=>ajY _ _ hs W,ajZ hs,fun j v hj=>?_⟩;obtain⟨b',o',J,_,al⟩:=AL.at_ hp;rw[oF]at J;injection J with J
    injection J with e1 e2
    subst e1 e2;exact al j v hj
   have S:wr.cell? ⟨w.heap.size,6,none⟩=some (.slice (some ⟨G,off,none⟩) l.length E):=(by rw[<-oF];exact N.cell 6);have am:=atM Rw;clear hc fJ AL Rw;rw[oF];generalize l[k]=x at*;have T:=ah.new wr 30 #[.int .i64 x.kind,.string x.code,.int .i64 x.amount];have z:=bC wr (.cells #[.int .i64 x.kind,.string x.code,.int .i64 x.amount] 30);go_upto_region 7 with fail
   generalize wr.alloc (Obj.cells _ _)=B at T z|-;have mI:=T.lt;have Gg:w.heap.size<B.heap.size:=(by have:=N.lt;have:=z.size;omega);have Zz:G<B.heap.size:=(by have:=z.size;omega);obtain⟨Z,ZA,OG⟩:=T.cz3;have ab:=(z.cell (p:=⟨w.heap.size,6,none⟩) (by exact N.lt)).trans S;have e0:=Bw.cell (w:=B) (a:=⟨wr.heap.size,0,none⟩) (by exact mI) Z;have e1:=Bw.cell (w:=B) (a:=⟨wr.heap.size,1,none⟩) (by exact mI) ZA;have e2:=Bw.cell (w:=B) (a:=⟨wr.heap.size,2,none⟩) (by exact mI) OG;have e6:=Bw.cell (w:=B) (a:=⟨w.heap.size,6,none⟩) (by exact Gg) ab;clear c0 c1 c2 S ab Z ZA OG
   go_cut [38]from 21 to 38 (fun v wx=>v=.bool false/\RowKit.Below B.heap.size B wx)
   case first=>
    clear T y N R u;by_cases h0:k=0
    ·subst h0;have ZB:((0:Nat):Int)=0:=rfl;simp only[ZB];refine oG (by kernel_rfl) (by kernel_rfl) ?_
     repeat(go_big_quiet_step(exact Bw.call _ (Zy.out _)))
     refine wpQuiet_nil ?_;intro W6 P;obtain⟨⟨W6,Kk⟩,C⟩:=P;subst C;go_wp2_with fail;go_meet;exact⟨rfl,Kk⟩
    ·obtain⟨q,AD,gK,Rz⟩:=Y.out h0;have fK:(0:Int)<(k:Int):=(by omega);have p0:=(z.cell (p:=⟨G,off+(k-1)*3+0,none⟩) (by exact gu)).trans (Rz 0 _ rfl);have p1:=(z.cell (p:=⟨G,off+(k-1)*3+1,none⟩) (by exact gu)).trans (Rz 1 _ rfl);have p2:=(z.cell (p:=⟨G,off+(k-1)*3+2,none⟩) (by exact gu)).trans (Rz 2 _ rfl);simp only[atQ]at p0;have HO:=atM (fun W D=>AD W ((z.trans (Below.mono D z.size))));clear Rz AD;obtain⟨m,rfl⟩:∃m,k=m+1:=⟨k-1,by omega⟩
     simp only[Nat.add_sub_cancel]at p0 p1 p2;have r0:=Bw.cell (w:=B) (a:=⟨G,off+m*3,none⟩) (by exact Zz) p0;have r1:=Bw.cell (w:=B) (a:=⟨G,off+m*3+1,none⟩) (by exact Zz) p1;have r2:=Bw.cell (w:=B) (a:=⟨G,off+m*3+2,none⟩) (by exact Zz) p2;clear p0 p1 p2;have oH:¬0<=Fb q x:=(by omega);generalize Fb q x=cq at*;have ZB:((m+1:Nat):Int)=(m:Int)+1:=(by omega);simp only[ZB];have hp:decide ((0:Int)<(m:Int)+1)=true:=(by rw[auc];omega);have qh:(m:Int)<(l.length:Int):=(by omega);refine oG (by kernel_rfl) (by kernel_rfl) ?_
     repeat(go_big_quiet_step(first|exact Bw.call _ (Zy.out _)|exact Bw.call _ (HO.out _ (Bw.h _))))
     refine wpQuiet_nil ?_;intro W6 P;obtain⟨⟨W6,Kk⟩,C⟩:=P;subst C;go_wp2_with fail;go_meet;exact⟨rfl,Kk⟩
   case rest=>
    rename World=>w6
    obtain⟨rfl,bu⟩:=hcut;have RA:=T.aa bu;rw[am.out]at RA;have Kl:=(y.aa z).aa bu;have pN:RowKit.Below r.heap.size r w6:=aA (aA u z) bu;have ad:=Kl.lt;have ZC:=RA.lt;have Z:w6.cell? ⟨wr.heap.size,0,none⟩=some (.int .i64 (n:Int)):=RA.cell 0;have OG:w6.cell? ⟨wr.heap.size,2,none⟩=some (.int .i64 x.amount):=RA.cell 2;have kk:=(Kl.cell n).trans kh.out;have az:(n:Int)<11:=(by omega);clear T y u z bu N e0 e1 e2 e6 Y Zy RA;go_upto_region 9 with fail
    refine OH (aE:=?aE9) [0,1,2,3,4,5,6,7] 8 (by kernel_rfl) (by kernel_rfl) rfl (by kernel_rfl) (by rfl) (by kernel_rfl) (by kernel_rfl) rfl rfl rfl ?H9 ?M9
    case H9=>
     intro F hF ap;simp only[M3.cL,atY,at0,at1];have e0:=aP.dK (F:=F) (a:=⟨wr.heap.size,0,none⟩) (by exact ZC) Z;have e2:=aP.dK (F:=F) (a:=⟨wr.heap.size,2,none⟩) (by exact ZC) OG;have ek:=aP.dK (F:=F) (a:=⟨r.heap.size,n,none⟩) (by exact ad) kk
     repeat(first|go_big_quiet_step(first|fail)|quiet_step(first|fail))
     refine wpQuiet_nil ?_;rfl
    case M9=>
     intro w7 bB;have Vr:=Kl.aa bB;have Km:=aA pN bB;have an:=(Vr.cell n).trans kh.out;have ao:=Vr.frozen n;refine⟨w7.setCell ⟨r.heap.size,n,none⟩ (.int .i64 (dZ (n:Int) (l.take k)+x.amount)),by go_simp,?_⟩;have ZE:=Vr.eh n (.int .i64 (dZ (n:Int) (l.take k)+x.amount));rw[Ry.out]at ZE;have pO:=iL Km (atN r.heap.size) n (.int .i64 (dZ (n:Int) (l.take k)+x.amount));generalize w7.setCell ⟨r.heap.size,n,none⟩ (.int .i64 (dZ (n:Int) (l.take k)+x.amount))=w8 at ZE pO|-;clear Vr Km an ao Kl pN Z OG kk ad ZC;go_wp2;go_roundw
     case rel=>
      have U:∃k':Nat,k'<=l.length/\Value.int .i64 ((k:Int)+1)=.int .i64 k'/\ah w8 r.heap.size 95 (Hq (l.take k'))/\RowKit.Below r.heap.size r w8:=⟨k+1,by omega,by go_num,ZE,pO⟩
      first|exact U|((repeat apply Exists.intro);exact⟨U,rfl⟩)
     case measure=>simp[intOf];omega
  ·obtain rfl:k=l.length:=by omega
   rw[auv]at y;have K:Hid (∀i:Int,-25600000000000<=dZ i l/\dZ i l<=25600000000000):=fun i=>by
    have:=Vq.out i l.length (by omega)
    rwa [auv]at this
   have q1:=(y.cell 1).trans (Ei l 1 (by omega));have q2:=(y.cell 2).trans (Ei l 2 (by omega));have q3:=(y.cell 3).trans (Ei l 3 (by omega));have q4:=(y.cell 4).trans (Ei l 4 (by omega));have q6:=(y.cell 6).trans (Ei l 6 (by omega));have q7:=(y.cell 7).trans (Ei l 7 (by omega));have q8:=(y.cell 8).trans (Ei l 8 (by omega));have q9:=(y.cell 9).trans (Ei l 9 (by omega));have Vs:=(y.cell 10).trans (Ei l 10 (by omega));have u1:=K.out 1;have u2:=K.out 2;have u3:=K.out 3;have u4:=K.out 4;have u6:=K.out 6;have u7:=K.out 7;have u8:=K.out 8;have u9:=K.out 9;have u10:=K.out 10;obtain⟨_,_,_,h1,h2,h3,h4,h5⟩:=HB.out;simp only[Int.cast_ofNat_Int]at q1 q2 q3 q4 q6 q7 q8 q9 Vs;generalize dZ 1 l=Q at*;generalize dZ 2 l=S2 at*;generalize dZ 3 l=S3 at*;generalize dZ 4 l=S4 at*;generalize dZ 6 l=S6 at*;generalize dZ 7 l=S7 at*;generalize dZ 8 l=S8 at*;generalize dZ 9 l=V at*;generalize dZ 10 l=ZF at*;have g1:(b.c==Q)=true:=(by simp[h2]);have g2:(b.g==Q+S2)=true:=(by simp;omega);have g3:(lH==Q-S4-S6)=true:=(by simp;omega);have g4:Q-S4-S6-S3-S7-S8=V-ZF:=(by omega);have ZG:=atM g4;clear g4;obtain⟨z0,z1,z2,z3,z4,z5,S⟩:=N.cz7;have U:=aA cY (u:RowKit.Below r.heap.size r wr);clear y N u h2 h3 h4 h5;rcases h1 with h9|h10
   ·have g9:(V !=0)=false:=(by simp[h9]);go_wp2;go_ret;exact⟨congrArg (fun b=>Ending.returned (.bool b)) (show(Q-S4-S6-S3-S7-S8==-ZF)=true by have:=ZG.out;simp;omega),U⟩
   ·have aC:(ZF !=0)=false:=(by simp[h10]);by_cases h9:V=0
    ·have g9:(V !=0)=false:=(by simp[h9]);go_wp2;go_ret;exact⟨congrArg (fun b=>Ending.returned (.bool b)) (show(Q-S4-S6-S3-S7-S8==0)=true by have:=ZG.out;simp;omega),U⟩
    ·have g9:(V !=0)=true:=(by simp[h9]);go_wp2;go_ret;exact⟨congrArg (fun b=>Ending.returned (.bool b)) (show(Q-S4-S6-S3-S7-S8==V)=true by have:=ZG.out;simp;omega),U⟩
open Go.RowKit
theorem aj1(k j:Int)(l:List Elem):dZ k (ag j l)=if j=k then aB l else 0:=by
 rw[<-Vt,ag]
 induction l.filter nz with
 |nil=>simp[dZ,aB]
 |cons a l e=>simp only[auW,dZ,aB,e];split<;>omega
theorem aj2(l:List Elem):kK (fun _=>true) l=aB l:=by
 induction l with
 |nil=>rfl
 |cons a l e=>simp[kK,aB,e]
theorem aj3(e:List dr)(l:List Elem):(fN e l).g=aB l:=by rw[ZH];exact aj2 l
theorem aj4(p:Elem->Bool)(l:List Elem):aB (l.filter p)+aB (l.filter fun x=>!p x)=aB l:=by
 induction l with
 |nil=>rfl
 |cons a l e=>cases h:p a<;>simp[h,aB]<;>omega
section
variable {I:bf}
theorem adF{k:Int}{e:List Elem}(h:Ej e)(j:k=1\/k=2):∀x∈ag k e,Rv x:=by intro x l;obtain⟨_,y,hy,n,rfl⟩:=I6 l;exact⟨n,h.lo y hy,h.hi y hy,.inr (.inr (.inl ⟨j,h.name y hy⟩))⟩
theorem RB{k:Int}{e:List Elem}(h:Ej e)(l:∀x∈e,0<=x.amount)(n:k=3\/k=4\/k=5\/k=7\/k=8):∀x∈ag k e,Rv x:=by intro x p;obtain⟨_,y,hy,j,rfl⟩:=I6 p;have:=l y hy;exact⟨j,h.lo y hy,h.hi y hy,.inr (.inr (.inr ⟨n,h.name y hy,by show 0<y.amount;have:y.amount≠0:=j;omega⟩))⟩
theorem ZI{k n:Int}(j:-100000000000<=n)(l:n<=100000000000)(p:k=6\/((k=9\/k=10)/\0<=n)):∀x∈ag k [⟨⟨#[]⟩,n⟩],Rv x:=by
 intro x r;obtain⟨_,y,hy,e,rfl⟩:=I6 r;rw[auB]at hy;subst hy;refine⟨e,j,l,?_⟩;rcases p with h|⟨h,u⟩
 ·exact .inl ⟨h,rfl⟩
 ·exact .inr (.inl ⟨h,rfl,by show 0<n;have:n≠0:=e;omega⟩)
theorem mJ.aj5(h:mJ I)(l:I.err=0):adC I.b I.lH I.lines:=by
 have P:=h.parts l;have S:=h.RD l;have j:∀k:Int,dZ k I.lines=(if(1:Int)=k then aB I.cD else 0)+(if(2:Int)=k then aB I.cG else 0)+(if(3:Int)=k then aB I.before else 0)+(if(4:Int)=k then aB (I.gw I.r.bF)else 0)+(if(5:Int)=k then aB (I.iu I.r.bF)else 0)+(if(6:Int)=k then I.aw else 0)+(if(7:Int)=k then aB I.dc else 0)+(if(8:Int)=k then aB I.after else 0)+(if(9:Int)=k then max I.iF 0 else 0)+(if(10:Int)=k then max (-I.iF) 0 else 0):=fun k=>by simp only[bf.lines,adA,aj1,aB,Int.add_zero]
 have u:I.b.c=aB I.cD:=P.adG;have D:I.b.g=aB I.cD+aB I.cG:=by have n:I.b.g=aB (bG I.e):=aj3 _ _;have p:aB I.cD+aB I.cG=aB I.merged:=aj4 _ _;have y:aB I.merged=aB (bG I.e):=Vt _;omega
 have z:aB (I.gw I.r.bF)=I.bj:=adH I _;have E:I.lH=I.b.c-I.bj-I.aw:=rfl;have B:I.iF=I.b.c-aB I.before-I.bj-I.aw-aB I.dc-aB I.after:=rfl;have c:=P.cbd;have F:-100000000000<=I.iF/\I.iF<=100000000000:=by have:=P.adI;have:=P.bj;have:=P.aw;have:=P.adJ;have:=P.adK;omega
 refine⟨S.len,?_,S.sorted,?_,?_,?_,?_,?_⟩
 ·intro x hx;simp only[bf.lines,aul]at hx;rcases hx with((((((((hx|hx)|hx)|hx)|hx)|hx)|hx)|hx)|hx)|hx
  ·exact adF (P.merged.filter _) (.inl rfl) x hx
  ·exact adF (P.merged.filter _) (.inr rfl) x hx
  ·exact RB P.before P.aj6 (by omega) x hx
  ·exact RB P.own P.aj7 (by omega) x hx
  ·exact RB P.fA P.aj8 (by omega) x hx
  ·exact ZI (by have:=P.aw;omega) (by have:=P.aw;omega) (.inl rfl) x hx
  ·exact RB P.gB P.aj9 (by omega) x hx
  ·exact RB P.after P.aka (by omega) x hx
  ·exact ZI (by omega) (by omega) (.inr ⟨.inl rfl,by omega⟩) x hx
  ·exact ZI (by omega) (by omega) (.inr ⟨.inr rfl,by omega⟩) x hx
 ·have n:dZ 9 I.lines=max I.iF 0:=by rw[j];simp
  have p:dZ 10 I.lines=max (-I.iF) 0:=by rw[j];simp
  omega
 ·rw[j];simp[u]
 ·have:dZ 2 I.lines=aB I.cG:=by rw[j];simp
  omega
 ·have n:dZ 4 I.lines=aB (I.gw I.r.bF):=by rw[j];simp
  have p:dZ 6 I.lines=I.aw:=by rw[j];simp
  omega
 ·have y:dZ 3 I.lines=aB I.before:=by rw[j];simp
  have G:dZ 7 I.lines=aB I.dc:=by rw[j];simp
  have J:dZ 8 I.lines=aB I.after:=by rw[j];simp
  have K:dZ 9 I.lines=max I.iF 0:=by rw[j];simp
  have C:dZ 10 I.lines=max (-I.iF) 0:=by rw[j];simp
  omega
end
def AO:ByteArray:=⟨#[98,97,115,101]⟩
def sA:ByteArray:=⟨#[97]⟩
def ZJ:dr:=⟨AO,1,true,true,true,4000⟩
def RF:dx:=⟨sA,100000,0,0,1000000,1,0,true⟩
def RG:Ek:=⟨2,[⟨0,200000⟩],0,0,1,0,[]⟩
def Vu(e j l:Option Addr):gJ:=⟨e,1,[ZJ],j,1,[RF],⟨RG,l,1,none,0⟩,12,⟨0,0,0,0,0⟩,0⟩
def exP:fB:=⟨0,none,0,[],none,0,[],none,0,[]⟩
def exY:fC:=⟨0,0,0,none,0,[],none,0,[]⟩
def RH:List Elem:=[⟨AO,3000⟩]
def El:bf:=⟨⟨[ZJ],[RF],RG,12,⟨0,0,0,0,0⟩,0⟩,⟨0,[],[],[]⟩,⟨0,0,0,[],[]⟩,[],true,RH⟩
theorem adL:El.err=0:=by decide+kernel
theorem akb:El.lines=[⟨1,AO,3000⟩,⟨4,sA,300⟩,⟨6,⟨#[]⟩,540⟩,⟨9,⟨#[]⟩,2160⟩]:=by decide+kernel
theorem akc:El.next.az=1:=by decide+kernel
theorem akd:oD RF:=⟨by decide+kernel,by decide,by decide,by decide,by decide,by decide,by decide,by decide,by decide,by decide,by decide,by decide,by decide⟩
theorem ake:ji RG.aR:=by
 have e:∀i,i<RG.aR.length->i=0:=fun i hi=>by have:i<1:=hi;omega
 refine⟨by decide,by decide,rfl,fun i hi=>?_,fun i hi=>?_,fun i hi=>?_,fun i hi=>?_⟩
 ·have:i+1<1:=hi;omega
 ·obtain rfl:=e i hi;decide
 ·obtain rfl:=e i hi;decide
 ·obtain rfl:=e i hi;decide
theorem akf:pP RG:=⟨by decide,by decide,ake,by decide,by decide,by decide,by decide,by decide,by decide,by decide,by decide,fun h=>absurd h (by decide),fun _=>rfl⟩
theorem adM:mJ El:=by
 refine⟨⟨by decide+kernel,by decide,fun s n=>?_,List.pairwise_singleton _ _,akf,by decide,by decide,⟨by decide,by decide,by decide,by decide,by decide,by decide,by decide,by decide,by decide,by decide⟩,by decide,by decide⟩,
  ⟨by decide,by decide,by decide+kernel,⟨by decide,fun o p=>(by cases p),List.Pairwise.nil⟩,by decide,fun e j=>(by cases j),fun e j=>(by cases j),fun e j=>(by cases j)⟩,
  ⟨by decide,by decide,rfl,fun x l=>(by cases l),by decide,by decide,by decide,by decide,by decide+kernel⟩,⟨by decide+kernel,by decide,fun x l=>(by cases l)⟩,fun e j=>(by cases j),fun x l=>?_⟩
 ·have:s=RF:=by simpa[El]using n
  subst this;exact akd
 ·have:x=⟨AO,3000⟩:=by simpa[El,RH]using l
  subst this;decide
theorem akg:(Tryz.prog.info? 45).map (·.size)=some 16:=by kernel_rfl
theorem akh(w:World):Calls prog 48 #[] w fun e w'=>∃D E F,e=.returned (Vu D E F).val/\(Vu D E F).In w'/\Below w.heap.size w w':=by
 have u:=ah.new w 45 #[.slice none 0 0,.slice none 0 0,.int .i64 0,.slice none 0 0,.int .i64 0,.int .i64 0,.int .i64 0,.int .i64 0,.slice none 0 0,.int .i64 0,.int .i64 0,.int .i64 0,.int .i64 0,.int .i64 0,.int .i64 0,.int .i64 0];have n:=bC w (.cells #[.slice none 0 0,.slice none 0 0,.int .i64 0,.slice none 0 0,.int .i64 0,.int .i64 0,.int .i64 0,.int .i64 0,.slice none 0 0,.int .i64 0,.int .i64 0,.int .i64 0,.int .i64 0,.int .i64 0,.int .i64 0,.int .i64 0] 45);go_enter func48,ntmps48;go_upto_region 1 with fail
 have r:=u.lt;have J:w.heap.size<(w.alloc (Obj.cells #[.slice none 0 0,.slice none 0 0,.int .i64 0,.slice none 0 0,.int .i64 0,.int .i64 0,.int .i64 0,.int .i64 0,.slice none 0 0,.int .i64 0,.int .i64 0,.int .i64 0,.int .i64 0,.int .i64 0,.int .i64 0,.int .i64 0] 45)).heap.size:=r;generalize w.alloc (Obj.cells _ _)=j at u n J r|-;have p:=ai.new ZK j [ZJ] #[.string AO,.int .i64 1,.bool true,.bool true,.bool true,.int .i64 4000] 77 rfl;have z:=ai.new ZL (j.alloc (.cells #[.string AO,.int .i64 1,.bool true,.bool true,.bool true,.int .i64 4000] 77)) [RF] #[.string sA,.int .i64 100000,.int .i64 0,.int .i64 0,.int .i64 1000000,.int .i64 1,.int .i64 0,.bool true] 123 rfl;have B:=ai.new Di ((j.alloc (.cells #[.string AO,.int .i64 1,.bool true,.bool true,.bool true,.int .i64 4000] 77)).alloc (.cells #[.string sA,.int .i64 100000,.int .i64 0,.int .i64 0,.int .i64 1000000,.int .i64 1,.int .i64 0,.bool true] 123)) [⟨0,200000⟩] #[.int .i64 0,.int .i64 200000] 127 rfl;rw[<-at2 j (.cells #[.string AO,.int .i64 1,.bool true,.bool true,.bool true,.int .i64 4000] 77)]at p;rw[<-at2 (j.alloc (.cells #[.string AO,.int .i64 1,.bool true,.bool true,.bool true,.int .i64 4000] 77)) (.cells #[.string sA,.int .i64 100000,.int .i64 0,.int .i64 0,.int .i64 1000000,.int .i64 1,.int .i64 0,.bool true] 123)]at z;rw[<-at2 ((j.alloc (.cells #[.string AO,.int .i64 1,.bool true,.bool true,.bool true,.int .i64 4000] 77)).alloc (.cells #[.string sA,.int .i64 100000,.int .i64 0,.int .i64 0,.int .i64 1000000,.int .i64 1,.int .i64 0,.bool true] 123)) (.cells #[.int .i64 0,.int .i64 200000] 127)]at B;have K:=(p.aa (bC _ (.cells #[.string sA,.int .i64 100000,.int .i64 0,.int .i64 0,.int .i64 1000000,.int .i64 1,.int .i64 0,.bool true] 123))).aa (bC _ (.cells #[.int .i64 0,.int .i64 200000] 127));have G:=z.aa (bC _ (.cells #[.int .i64 0,.int .i64 200000] 127));have L:=((u.alloc (.cells #[.string AO,.int .i64 1,.bool true,.bool true,.bool true,.int .i64 4000] 77)).alloc (.cells #[.string sA,.int .i64 100000,.int .i64 0,.int .i64 0,.int .i64 1000000,.int .i64 1,.int .i64 0,.bool true] 123)).alloc (.cells #[.int .i64 0,.int .i64 200000] 127);have C:=eP (eP (eP n (.cells #[.string AO,.int .i64 1,.bool true,.bool true,.bool true,.int .i64 4000] 77)) (.cells #[.string sA,.int .i64 100000,.int .i64 0,.int .i64 0,.int .i64 1000000,.int .i64 1,.int .i64 0,.bool true] 123)) (.cells #[.int .i64 0,.int .i64 200000] 127);have S:j.heap.size<=(((j.alloc (.cells #[.string AO,.int .i64 1,.bool true,.bool true,.bool true,.int .i64 4000] 77)).alloc (.cells #[.string sA,.int .i64 100000,.int .i64 0,.int .i64 0,.int .i64 1000000,.int .i64 1,.int .i64 0,.bool true] 123)).alloc (.cells #[.int .i64 0,.int .i64 200000] 127)).heap.size:=by simp only[at2];omega
 clear p z u n;simp only[at2]at G B;go_wp2_with(refine RI rfl _ _ _ rfl rfl w.heap.size (cs:=#[.slice none 0 0,.slice none 0 0,.int .i64 0,.slice none 0 0,.int .i64 0,.int .i64 0,.int .i64 0,.int .i64 0,.slice none 0 0,.int .i64 0,.int .i64 0,.int .i64 0,.int .i64 0,.int .i64 0,.int .i64 0,.int .i64 0]) (vs:=#[.slice (some ⟨j.heap.size,0,none⟩) 1 1,.slice (some ⟨j.heap.size+1,0,none⟩) 1 1,.int .i64 2,.slice (some ⟨j.heap.size+1+1,0,none⟩) 1 1,.int .i64 0,.int .i64 0,.int .i64 1,.int .i64 0,.slice none 0 0,.int .i64 12,.int .i64 0,.int .i64 0,.int .i64 0,.int .i64 0,.int .i64 0,.int .i64 0]) rfl rfl L rfl akg rfl ?_;intro M N y);have O:Below w.heap.size w M:=kH C y (fun q e=>by injection e;omega);have P:=K.pQ y (fun a l=>by injection l with l;subst l;show j.heap.size≠w.heap.size;omega);have Q:=ai.pQ (G.more (Nat.le_of_eq (by simp only[at2]))) y (fun a l=>by injection l with l;subst l;show j.heap.size+1≠w.heap.size;omega);have R:=ai.pQ (B.more (Nat.le_of_eq (by simp only[at2]))) y (fun a l=>by injection l with l;subst l;show j.heap.size+1+1≠w.heap.size;omega);refine at5 (Vv results48 rfl N underlying45 rfl (by kernel_rfl)) rfl ?_;exact⟨some ⟨j.heap.size,0,none⟩,some ⟨j.heap.size+1,0,none⟩,some ⟨j.heap.size+1+1,0,none⟩,rfl,⟨P,Q,⟨R,ai.cC⟩⟩,O⟩
theorem aki(w:World):Calls prog 17 #[] w fun e w'=>e=.returned (.bool true)/\Below w.heap.size w w':=by
 go_enter func17,ntmps17;go_wp2_with fail;refine(akh _).mono ?_;rintro e y ⟨Aw,As,Ab,rfl,jv,T⟩;have U:=ai.new dG y RH #[.string AO,.int .i64 3000] 69 rfl;rw[<-at2 y (.cells #[.string AO,.int .i64 3000] 69)]at U;have cY:=bC y (.cells #[.string AO,.int .i64 3000] 69);have hC:=adO (Vu Aw As Ab) exP exY none (some ⟨y.heap.size,0,none⟩) 0 1 [] RH true (y.alloc (.cells #[.string AO,.int .i64 3000] 69)) (jv.aa cY) ⟨ai.cC,ai.cC,ai.cC,fun e he=>by cases he⟩ ⟨ai.cC,ai.cC⟩ ai.cC U (by decide) adM;have z:=aA T cY;go_wp2_with fail;refine hC.mono ?_;have e1:Dj (Vu Aw As Ab) exP exY [] true RH=El:=rfl;rw[e1];clear hC e1 U jv;rintro e w3 (⟨_,A,c,L,M,At,N,rfl,u,_,_,B⟩|⟨Kp,_,_⟩);rotate_left
 ·exact absurd adL Kp
 have V:=adM.aj5 adL;rw[akb]at u V|-;rw[akc];simp only[at4,aug,atX,Nat.reduceAdd];generalize El.b=b at*;generalize El.lH=C at*;generalize El.next.ay=O;generalize El.next.aQ=P;generalize El.next.aO.length=Q;generalize El.next.taken.length=R;obtain⟨j,off,rfl,D,E⟩:=u.at_ (i:=1) (by decide);obtain⟨b',o',l,_,F⟩:=u.at_ (i:=2) (by decide);injection l with l
 injection l with X Y
 subst X Y;obtain⟨b',o',l,_,n⟩:=u.at_ (i:=3) (by decide);injection l with l
 injection l with X Y
 subst X Y;have c5:w3.cell? ⟨j,off+1*3+2,none⟩=some (.int .i64 300):=E 2 _ rfl;have c8:w3.cell? ⟨j,off+2*3+2,none⟩=some (.int .i64 540):=F 2 _ rfl;have c9:w3.cell? ⟨j,off+3*3+0,none⟩=some (.int .i64 9):=n 0 _ rfl;have G:w3.cell? ⟨j,off+3*3+1,none⟩=some (.string ⟨#[]⟩):=n 1 _ rfl;have J:w3.cell? ⟨j,off+3*3+2,none⟩=some (.int .i64 2160):=n 2 _ rfl;clear E F n;have r:=eP (bC w3 (.cells #[.int .i64 b.g,.int .i64 b.c,.int .i64 b.t,.int .i64 b.i,.int .i64 b.a,.int .i64 C,.slice (some ⟨j,off,none⟩) 4 c] 27)) (.cells #[.int .i64 1,.int .i64 O,.int .i64 P,.slice L Q M,.slice At R N] 53);have Z:=(ah.new w3 27 #[.int .i64 b.g,.int .i64 b.c,.int .i64 b.t,.int .i64 b.i,.int .i64 b.a,.int .i64 C,.slice (some ⟨j,off,none⟩) 4 c]).alloc (.cells #[.int .i64 1,.int .i64 O,.int .i64 P,.slice L Q M,.slice At R N] 53);have S:=ah.new (w3.alloc (.cells #[.int .i64 b.g,.int .i64 b.c,.int .i64 b.t,.int .i64 b.i,.int .i64 b.a,.int .i64 C,.slice (some ⟨j,off,none⟩) 4 c] 27)) 53 #[.int .i64 1,.int .i64 O,.int .i64 P,.slice L Q M,.slice At R N];rw[at2]at S;have K:=aA (aA z B) r;have d5:=(r.cell (p:=⟨j,off+1*3+2,none⟩) (by exact D)).trans c5;have d8:=(r.cell (p:=⟨j,off+2*3+2,none⟩) (by exact D)).trans c8;have d9:=(r.cell (p:=⟨j,off+3*3+0,none⟩) (by exact D)).trans c9;have d10:=(r.cell (p:=⟨j,off+3*3+1,none⟩) (by exact D)).trans G;have d11:=(r.cell (p:=⟨j,off+3*3+2,none⟩) (by exact D)).trans J;have ZN:=atM (aj0 b C (some ⟨j,off,none⟩) c _ _ (u.aa r) V);simp only[at4,aug,atX,Nat.reduceAdd]at ZN;simp only[Nat.reduceMul,au6,Nat.reduceAdd]at d5 d8 d9 d10 d11;clear c5 c8 c9 G J u V z B;go_upto_region 2 with fail
 clear r;generalize (w3.alloc (.cells #[.int .i64 b.g,.int .i64 b.c,.int .i64 b.t,.int .i64 b.i,.int .i64 b.a,.int .i64 C,.slice (some ⟨j,off,none⟩) 4 c] 27)).alloc (.cells #[.int .i64 1,.int .i64 O,.int .i64 P,.slice L Q M,.slice At R N] 53)=W4 at Z S K d5 d8 d9 d10 d11 ZN|-;obtain⟨z0,z1,z2,z3,z4,z5,z6⟩:=Z.cz7;obtain⟨y0,y1,y2,y3,y4⟩:=S.cz5;clear Z S;go_wp2_with fail;refine ZN.out.mono ?_;rintro e w5 ⟨rfl,aM⟩;have bu:=aA K aM;go_wp2;go_ret;exact⟨rfl,bu⟩
