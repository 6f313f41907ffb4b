/- Conditions: as stated. -/
import Derived.Deep.Light
import Derived.Test.YtlhkojcmcmkmaaaGreatCNetP
set_option maxRecDepth 100000
set_option maxHeartbeats 8000000
namespace Go.Proofs.YtlhkojcmcmkmaaaGreat
open Go.Proofs.Tryz
open Go.RowKit
theorem aq4{a b:Int}(h:a=b):Ending.returned (.int .i64 a)=.returned (.int .i64 b):=by rw[h]
theorem aiM(m:iU)(A:Option Addr)(r:Nat)(l:List dv)(j n inc:Int)(w:World)(h:ai ik 2 w w.heap.size A l)(C:ji l)(p:pP m.t)(K:0<=j)(L:j<=1000000000)(M:0<=n)(N:n<=1000000000)(O:0<=inc)(P:inc<=1000000000000):
  Calls prog 185 #[m.val,.slice A l.length r,.int .i64 j,.int .i64 n,.int .i64 inc] w fun e w'=>e=.returned (.int .i64 (Cm m.t l j n inc))/\Below w.heap.size w w':=by
 have D:Cm m.t l j n inc=max (EJ l (max (inc-j) 0) m.t.unit m.t.mode-n) 0:=rfl;have E:=atM D;obtain⟨t0,t1⟩:=abr (mode:=m.t.mode) (inc:=max (inc-j) 0) (unit:=m.t.unit) C (by omega) p.u0;have u0:=p.u0;have u1:=p.u1;have G:=p.Ha;have I:=p.Hb;clear D p;unfold iU.val;have F:=ah.new w 41 #[.int .i64 m.t.method,.slice m.Ab m.t.aR.length m.cb,.int .i64 m.t.bJ,.int .i64 m.t.bK,.int .i64 m.t.unit,.int .i64 m.t.mode,.slice m.Ar m.t.rows.length m.cr];have u:=bC w (.cells #[.int .i64 m.t.method,.slice m.Ab m.t.aR.length m.cb,.int .i64 m.t.bJ,.int .i64 m.t.bK,.int .i64 m.t.unit,.int .i64 m.t.mode,.slice m.Ar m.t.rows.length m.cr] 41);rcases(show max (inc-j) 0=inc-j/\0<=inc-j\/max (inc-j) 0=0/\inc-j<0 by omega)with⟨z,J⟩|⟨z,J⟩
 all_goals
  rw[z]at E t0 t1;clear z;go_enter func185,ntmps185;go_upto_region 1 with fail
  generalize w.alloc (Obj.cells _ _)=W at F u|-;obtain⟨Q,R,S,T,U,V,X⟩:=F.cz7;go_wp2_with fail;refine(an4 A r l _ _ _ W (h.aa u) C (by omega) (by omega) u0 (by omega) G I).mono ?_;rintro e Y ⟨rfl,B⟩;generalize EJ l _ m.t.unit m.t.mode=Z at*;go_wp2
  all_goals go_ret;exact⟨aq4 (by rw[E.out];omega),aA u B⟩
theorem aq5(A:Option Addr)(p:Nat)(t:List nd)(j:Int)(w:World)(h:ai oO 2 w w.heap.size A t)(E:NG t)(J:0<=j)(K:j<=1000000000):
  Calls prog 144 #[.slice A t.length p,.int .i64 j] w fun e w'=>e=.returned (.tuple #[.int .i64 (JR t j),.int .i64 0])/\∃q,w'=w.drewN q:=by
 have P:=E.len;have L:bM j 1000000000=true:=iK.2 ⟨J,K⟩;have l:=agQ A p t w _ h E;have F:=atM l;clear l;go_enter func144,ntmps144;go_wp2_with fail;refine atV F.out ?_;rintro e G ⟨rfl,q,u⟩;have z:ai oO 2 G G.heap.size A t:=by rw[u];exact h.R2 q
 have B:=atM u;clear u F h;go_wp2_with fail;refine(JO _ _ _).mono ?_;rintro e w' ⟨rfl,rfl⟩;rw[L];go_wp2
 go_loop [6,7] (fun n i=>∃k:Nat,k<=t.length/\i=.int .i64 k/\n=.int .i64 (DY t j k)) (fun _ i=>t.length-(intOf i).toNat)
 case atStart=>exact⟨0,by omega,rfl,rfl⟩
 case round=>
  obtain⟨k,Q,rfl,rfl⟩:=hrel;by_cases r:k<t.length
  ·obtain⟨b,off,rfl,R,C⟩:=z.at_ r;have M:=C 0 _ rfl;have S:=C 1 _ rfl;simp only[atQ]at M;have D:Hid (DY t j (k+1)=if(t.getD k mE).cg<=j then(t.getD k mE).aw else DY t j k):=rfl;rw[IL r]at D;clear C;by_cases N:t[k].cg<=j
   ·go_wp2;go_round
    case rel=>exact⟨k+1,by omega,by go_num,by rw[D.out,atP N]⟩
    case measure=>simp[intOf];omega
   ·go_wp2;go_round
    case rel=>
     have I:∃k':Nat,k'<=t.length/\Value.int .i64 ((k:Int)+1)=.int .i64 k'/\Value.int .i64 (DY t j k)=.int .i64 (DY t j k'):=⟨k+1,by omega,by go_num,by rw[D.out,atO (by omega)]⟩
     first|exact I|((repeat apply Exists.intro);exact⟨I,rfl⟩)
    case measure=>simp[intOf];omega
  ·obtain rfl:k=t.length:=by omega
   have O:Hid (JR t j=DY t j t.length):=rfl;go_wp2;go_ret2;exact⟨by rw[O.out];rfl,q,B.out⟩
theorem ahA{t:Ek}{j e:Int}(l:pP t)(p:0<=j)(r:j<=1000000000)(B:1<=e)(u:e<=53):
  (0<=j*e/\j*e<=53000000000)/\(0<=Cm t t.aR t.bJ t.bK (j*e)/\Cm t t.aR t.bJ t.bK (j*e)<=54000000000)/\(Cm t t.aR t.bJ t.bK (j*e)).tdiv e=FU t j e/\(0<=FU t j e/\FU t j e<=54000000000):=by
 have z:0<=j*e:=aur p (by omega);have C:j*e<=1000000000*53:=auS r u (by omega) (by omega);obtain⟨n,D⟩:=agF (t:=t) (al:=t.bJ) (cr:=t.bK) l.aR l.u0 l.u1 l.a0 l.c0 z;refine⟨by omega,by omega,avb n,au5 n (by omega),?_⟩;refine Int.le_trans (Int.ediv_le_self _ n) (by omega)
theorem aq6(m:iU)(n j:Int)(w:World)(h:m.In w)(B:pP m.t)(F:0<=n)(G:n<=1000000000)(Q:1<=j)(R:j<=53):
  Calls prog 145 #[m.val,.int .i64 n,.int .i64 j] w fun e w'=>e=.returned (.tuple #[.int .i64 (FU m.t n j),.int .i64 0])/\Below w.heap.size w w':=by
 obtain⟨⟨S,X⟩,⟨t0,t1⟩,Y,f0,f1⟩:=ahA B F G Q R;have T:bM n 1000000000=true:=iK.2 ⟨F,G⟩;have Z:(j==0)=false:=by rw[auj];omega
 have z:=ah.new w 41 #[.int .i64 m.t.method,.slice m.Ab m.t.aR.length m.cb,.int .i64 m.t.bJ,.int .i64 m.t.bK,.int .i64 m.t.unit,.int .i64 m.t.mode,.slice m.Ar m.t.rows.length m.cr];have C:=bC w (.cells #[.int .i64 m.t.method,.slice m.Ab m.t.aR.length m.cb,.int .i64 m.t.bJ,.int .i64 m.t.bK,.int .i64 m.t.unit,.int .i64 m.t.mode,.slice m.Ar m.t.rows.length m.cr] 41);have p:=atM B;clear B;unfold iU.val;go_enter func145,ntmps145;go_upto_region 1 with fail
 generalize w.alloc (Obj.cells _ _)=W at z C|-;obtain⟨I,J,K,L,M,N,O⟩:=z.cz7;go_wp2_with fail;have l:=Wy m W (h.aa C) p.out;unfold iU.val at l;refine l.mono ?_;rintro e U ⟨rfl,r⟩;have V:=z.aa r;have P:=aA C r;clear l z r I J K L M N O;obtain⟨I,J,K,L,M,N,O⟩:=V.cz7;go_wp2_with fail;refine(JO _ _ _).mono ?_;rintro e w' ⟨rfl,rfl⟩;rw[T];go_wp2_with fail;have l:=aiM m m.Ab m.cb m.t.aR m.t.bJ m.t.bK (n*j) U (h.aR.aa P) p.out.aR p.out p.out.a0 p.out.a1 p.out.c0 p.out.c1 S (by omega);unfold iU.val at l;refine l.mono ?_;rintro e w2 ⟨rfl,D⟩;clear l;generalize Cm m.t m.t.aR m.t.bJ m.t.bK (n*j)=tn at*;generalize u:FU m.t n j=fn at*;have E:=atM u;clear u;go_wp2;go_ret2;exact⟨by rw[E.out];rfl,aA P D⟩
theorem ab5{t:Ek}{j k:Int}(l:pP t)(z:1<=j)(B:j<=53)(C:1<=k)(u:k<=j):
  ((0<=t.bJ*k/\t.bJ*k<=53000000000)/\(0<=t.bK*k/\t.bK*k<=53000000000))/\((t.bJ*k).tdiv j=t.bJ*k/j/\(t.bK*k).tdiv j=t.bK*k/j)/\(0<=t.bJ*k/j/\t.bJ*k/j<=1000000000)/\(0<=t.bK*k/j/\t.bK*k/j<=1000000000):=by
 have key:∀x:Int,0<=x->x<=1000000000->(0<=x*k/\x*k<=53000000000)/\(x*k).tdiv j=x*k/j/\0<=x*k/j/\x*k/j<=1000000000:=fun x n p=>by have r:0<=x*k:=aur n (by omega);have D:x*k<=1000000000*53:=auS p (by omega) (by omega) (by omega);refine⟨by omega,avb r,au5 r (by omega),?_⟩;refine Int.le_trans (Int.ediv_le_of_le_mul (by omega) ?_) p;exact auF u n
 obtain⟨a,b,c⟩:=key t.bJ l.a0 l.a1;obtain⟨d,e,f⟩:=key t.bK l.c0 l.c1;exact⟨⟨a,d⟩,⟨b,e⟩,c,f⟩
theorem aq7(m:iU)(j k l:Int)(w:World)(h:m.In w)(N:pP m.t)(O:1<=j)(V:j<=53)(k0:1<=k)(P:k<=j)(X:0<=l)(Y:l<=1000000000000):
  Calls prog 186 #[m.val,.int .i64 j,.int .i64 k,.int .i64 l] w fun e w'=>e=.returned (.tuple #[.int .i64 (BN m.t j k l),.int .i64 0])/\Below w.heap.size w w':=by
 obtain⟨⟨⟨p0,p1⟩,p2,p3⟩,⟨e1,e2⟩,⟨q0,q1⟩,q2,q3⟩:=ab5 N O V k0 P;have jh:bM l 1000000000000=true:=iK.2 ⟨X,Y⟩;have eZ:(j==0)=false:=by rw[auj];omega
 have L:=ah.new w 41 #[.int .i64 m.t.method,.slice m.Ab m.t.aR.length m.cb,.int .i64 m.t.bJ,.int .i64 m.t.bK,.int .i64 m.t.unit,.int .i64 m.t.mode,.slice m.Ar m.t.rows.length m.cr];have Q:=bC w (.cells #[.int .i64 m.t.method,.slice m.Ab m.t.aR.length m.cb,.int .i64 m.t.bJ,.int .i64 m.t.bK,.int .i64 m.t.unit,.int .i64 m.t.mode,.slice m.Ar m.t.rows.length m.cr] 41);have HD:Hid (BN m.t j k l=Cm m.t (qx m.t.aR k j) (m.t.bJ*k/j) (m.t.bK*k/j) l):=rfl;have M:=atM N;clear N;unfold iU.val;go_enter func186,ntmps186;go_upto_region 1 with fail
 generalize w.alloc (Obj.cells _ _)=W at L Q|-;obtain⟨C,D,E,F,G,I,J⟩:=L.cz7;go_wp2_with fail;have n:=Wy m W (h.aa Q) M.out;unfold iU.val at n;refine n.mono ?_;rintro e w1 ⟨rfl,u⟩;have R:=L.aa u;have Z:=aA Q u;clear n L u C D E F G I J;obtain⟨C,D,E,F,G,I,J⟩:=R.cz7;go_wp2_with fail;refine(JO _ _ _).mono ?_;rintro e w' ⟨rfl,rfl⟩;rw[jh];go_wp2_with fail;refine(an6 m.Ab m.cb m.t.aR k j w1 (h.aR.aa Z) M.out.aR (by omega) O P V).mono ?_;rintro e w2 ⟨v2,rfl,r,z⟩;have bA:=R.aa z;have bm:=aA Z z;have E5:=atM (abt (num:=k) (den:=j) M.out.aR (by omega) O P);obtain⟨A2,c2,rfl,cu,_,_,_⟩:=r.kX Di;have B:=bA.lt;clear R z r C D E F G I J;obtain⟨C,D,E,F,G,I,J⟩:=bA.cz7;have n:∀p:Bw w2,Calls prog 185 #[.agg #[.int .i64 m.t.method,.slice m.Ab m.t.aR.length m.cb,.int .i64 m.t.bJ,.int .i64 m.t.bK,.int .i64 m.t.unit,.int .i64 m.t.mode,.slice m.Ar m.t.rows.length m.cr],.slice A2 (qx m.t.aR k j).length c2,.int .i64 (m.t.bJ*k/j),.int .i64 (m.t.bK*k/j),.int .i64 l] p.w' fun e w'=>e=.returned (.int .i64 (BN m.t j k l))/\Below p.w'.heap.size p.w' w':=fun p=>by rw[HD.out];exact aiM m A2 c2 (qx m.t.aR k j) (m.t.bJ*k/j) (m.t.bK*k/j) l p.w' (cu.aa p.h) E5.out M.out q0 q1 q2 q3 X Y
 have S:=atM n;clear n;generalize m.t.bJ*k/j=qa at*;generalize m.t.bK*k/j=qc at*;go_wp2_with fail;have y0:=Bw.cell (w:=w2) (a:=⟨w.heap.size,0,none⟩) (by exact B) C;have y1:=Bw.cell (w:=w2) (a:=⟨w.heap.size,1,none⟩) (by exact B) D;have y2:=Bw.cell (w:=w2) (a:=⟨w.heap.size,2,none⟩) (by exact B) E;have y3:=Bw.cell (w:=w2) (a:=⟨w.heap.size,3,none⟩) (by exact B) F;have y4:=Bw.cell (w:=w2) (a:=⟨w.heap.size,4,none⟩) (by exact B) G;have y5:=Bw.cell (w:=w2) (a:=⟨w.heap.size,5,none⟩) (by exact B) I;have y6:=Bw.cell (w:=w2) (a:=⟨w.heap.size,6,none⟩) (by exact B) J;refine oG (by kernel_rfl) (by kernel_rfl) ?_
 repeat(go_big_quiet_step((with_reducible exact Bw.call _ (S.out _))))
 refine wpQuiet_nil ?_;intro W2 T;obtain⟨⟨W9,U⟩,K⟩:=T;subst K;go_wp2;go_ret2;exact⟨rfl,aA bm U⟩
theorem ahB{t:Ek}{e k j:Int}(l:pP t)(n:1<=e)(r:e<=53)(u:1<=k)(p:k<=e)(z:0<=j)(D:j<=1000000000000):0<=BN t e k j/\BN t e k j<=1000000000100:=by obtain⟨_,_,⟨B,_⟩,C,_⟩:=ab5 l n r u p;have:=agF (t:=t) (inc:=j) (abt (num:=k) (den:=e) l.aR (by omega) n p) l.u0 l.u1 B C z;unfold BN;omega
theorem aq9(m:iU)(j k l p:Int)(w:World)(h:m.In w)(r:pP m.t)(B:1<=j)(C:j<=53)(D:1<=k)(E:k<=j)(F:0<=l)(G:l<=1000000000000)(M:-1000000000000<=p)(N:p<=1000000000000):
  Calls prog 146 #[m.val,.int .i64 j,.int .i64 k,.int .i64 l,.int .i64 p] w fun e w'=>e=.returned (.tuple #[.int .i64 (BN m.t j k l-p),.int .i64 0])/\Below w.heap.size w w':=by
 obtain⟨d0,d1⟩:=ahB r B C D E F G;have I:=ah.new w 41 #[.int .i64 m.t.method,.slice m.Ab m.t.aR.length m.cb,.int .i64 m.t.bJ,.int .i64 m.t.bK,.int .i64 m.t.unit,.int .i64 m.t.mode,.slice m.Ar m.t.rows.length m.cr];have u:=bC w (.cells #[.int .i64 m.t.method,.slice m.Ab m.t.aR.length m.cb,.int .i64 m.t.bJ,.int .i64 m.t.bK,.int .i64 m.t.unit,.int .i64 m.t.mode,.slice m.Ar m.t.rows.length m.cr] 41);have K:=atM r;clear r;unfold iU.val;go_enter func146,ntmps146;go_upto_region 1 with fail
 generalize w.alloc (Obj.cells _ _)=W at I u|-;obtain⟨O,P,Q,R,S,T,U⟩:=I.cz7;go_wp2_with fail;have n:=aq7 m j k l W (h.aa u) K.out B C D E F G;unfold iU.val at n;refine n.mono ?_;rintro e V ⟨rfl,z⟩;clear n;generalize J:BN m.t j k l=X at*;have L:=atM J;clear J;go_wp2;go_ret2;exact⟨by rw[L.out];rfl,aA u z⟩
theorem alq(m:iU)(j r p u l:Int)(E At:Option Addr)(F G lt I:Nat)(w:World)(h:m.In w)(M:pP m.t)(V:1<=j)(X:j<=53)(p0:0<=r)(p1:r<j)(Q:0<=l)(R:l<=1000000000)(Y:0<=p)(Z:p<=999000000000)(w0:-1000000000000<=u)(Ds:u<=1000000000000):
  Calls prog 92 #[m.val,.int .i64 j,.agg #[.int .i64 r,.int .i64 p,.int .i64 u,.slice E F G,.slice At lt I],.int .i64 l] w fun e w'=>e=.returned (.tuple #[.int .i64 (Dv m.t j r p u l),.int .i64 0])/\Below w.heap.size w w':=by
 have EO:bM l 1000000000=true:=iK.2 ⟨Q,R⟩;have Gj:bM p 999000000000=true:=iK.2 ⟨Y,Z⟩;have N:=(ah.new w 41 #[.int .i64 m.t.method,.slice m.Ab m.t.aR.length m.cb,.int .i64 m.t.bJ,.int .i64 m.t.bK,.int .i64 m.t.unit,.int .i64 m.t.mode,.slice m.Ar m.t.rows.length m.cr]).alloc (.cells #[.int .i64 r,.int .i64 p,.int .i64 u,.slice E F G,.slice At lt I] 53);have O:=ah.new (w.alloc (.cells #[.int .i64 m.t.method,.slice m.Ab m.t.aR.length m.cb,.int .i64 m.t.bJ,.int .i64 m.t.bK,.int .i64 m.t.unit,.int .i64 m.t.mode,.slice m.Ar m.t.rows.length m.cr] 41)) 53 #[.int .i64 r,.int .i64 p,.int .i64 u,.slice E F G,.slice At lt I];have S:=eP (bC w (.cells #[.int .i64 m.t.method,.slice m.Ab m.t.aR.length m.cb,.int .i64 m.t.bJ,.int .i64 m.t.bK,.int .i64 m.t.unit,.int .i64 m.t.mode,.slice m.Ar m.t.rows.length m.cr] 41)) (.cells #[.int .i64 r,.int .i64 p,.int .i64 u,.slice E F G,.slice At lt I] 53);rw[at2]at O;have P:=atM M;have C:Hid (Dv m.t j r p u l=if m.t.method=1 then JR m.t.rows l else if m.t.method=2 then FU m.t l j else BN m.t j (r+1) (p+l)-u):=rfl;have ab:=M.m0;have ad:=M.m1;clear M;unfold iU.val;go_enter func92,ntmps92;go_upto_region 1 with fail
 generalize (w.alloc (Obj.cells #[.int .i64 m.t.method,.slice m.Ab m.t.aR.length m.cb,.int .i64 m.t.bJ,.int .i64 m.t.bK,.int .i64 m.t.unit,.int .i64 m.t.mode,.slice m.Ar m.t.rows.length m.cr] 41)).alloc (Obj.cells #[.int .i64 r,.int .i64 p,.int .i64 u,.slice E F G,.slice At lt I] 53)=W at N O S|-;obtain⟨J,z1,z2,z3,z4,z5,z6⟩:=N.cz7;go_wp2_with fail;have n:=Wy m W (h.aa S) P.out;unfold iU.val at n;refine n.mono ?_;rintro e T ⟨rfl,z⟩;have aC:=N.aa z;have jq:=O.aa z;have D:=aA S z;clear n N O z J z1 z2 z3 z4 z5 z6;obtain⟨J,z1,z2,z3,z4,z5,z6⟩:=aC.cz7;obtain⟨Y,Z,y2,y3,y4⟩:=jq.cz5;go_wp2_with fail;refine(JO _ _ _).mono ?_;rintro e w' ⟨rfl,rfl⟩;rw[EO];go_wp2_with fail;refine(JO _ _ _).mono ?_;rintro e w' ⟨rfl,rfl⟩;rw[Gj];have U:m.t.method=1\/m.t.method=2\/m.t.method=3:=by omega
 rcases U with hm|hm|hm
 ·have HR:=atM (P.out.rows hm);have K:Hid (Dv m.t j r p u l=JR m.t.rows l):=by rw[Hid,C.out,atP hm]
  rw[hm]at J;clear C hm;go_wp2_with fail;refine(aq5 m.Ar m.cr m.t.rows l T (h.rows.aa D) HR.out Q R).mono ?_;rintro e w2 ⟨rfl,q2,rfl⟩;go_wp2;go_ret2;exact⟨by rw[K.out];rfl,below_drewN D q2⟩
 ·have K:Hid (Dv m.t j r p u l=FU m.t l j):=by rw[Hid,C.out,atO (by omega),atP hm]
  have n:=aq6 m l j T (h.aa D) P.out Q R V X;unfold iU.val at n;have L:=atM n;rw[hm]at J L;clear n C hm;go_wp2_with fail;refine atV L.out ?_;rintro e w2 ⟨rfl,B⟩;go_wp2;go_ret2;exact⟨by rw[K.out];rfl,aA D B⟩
 ·have K:Hid (Dv m.t j r p u l=BN m.t j (r+1) (p+l)-u):=by rw[Hid,C.out,atO (by omega),atO (by omega)]
  have n:=aq9 m j (r+1) (p+l) u T (h.aa D) P.out V X (by omega) (by omega) (by omega) (by omega) w0 Ds;unfold iU.val at n;have L:=atM n;rw[hm]at J L;clear n C hm;go_wp2_with fail;refine atV L.out ?_;rintro e w2 ⟨rfl,B⟩;go_wp2;go_ret2;exact⟨by rw[K.out];rfl,aA D B⟩
def oM(e:List dr)(i:Nat)(x:dr):Bool:=
 bI x.code&&(decide (i=0)||(match e[i-1]?with|some p=>Op.bytesLess p.code.toList x.code.toList|none=>true))&&(x.kind==1||x.kind==2)&&!(x.kind==2&&x.gU)&&(decide (1000<=x.eQ)&&decide (x.eQ<=9999))
def k9(e:List dr):Bool:=decide (e.length<=64)&&decide (∀i,(h:i<e.length)->oM e i e[i]=true)
theorem aiN{e:List dr}{i:Nat}(h:i<e.length)(j:oM e i e[i]=false):k9 e=false:=by unfold k9;simp only[Bool.and_eq_false_iff,auA];right;intro l;have:=l i h;rw[j]at this;cases this
theorem abe{e:List dr}(j:e.length<=64)(h:∀i,(h:i<e.length)->oM e i e[i]=true):k9 e=true:=by unfold k9;simp only[aub,auc];exact⟨j,h⟩
theorem Tq(e:List dr)(i:Nat)(x:dr)(l:Bool)(j:i=0\/(∃p,e[i-1]?=some p/\l=Op.bytesLess p.code.toList x.code.toList)):
  oM e i x=decide (bI x.code=true/\(i=0\/l=true)/\(x.kind=1\/x.kind=2)/\¬(x.kind=2/\x.gU=true)/\1000<=x.eQ/\x.eQ<=9999):=by
 rw[Bool.eq_iff_iff];rcases j with rfl|⟨p,n,rfl⟩
 ·simp[oM,and_assoc]
 ·simp[oM,n,and_assoc]
theorem ag0(A:Option Addr)(M:Nat)(l:List dr)(w:World)(h:ai gX 6 w w.heap.size A l)(Q:∀x∈l,x.code.size<=maxLen)(U:l.length<=9223372036854775807):
    Calls prog 153 #[.slice A l.length M] w fun e w'=>e=.returned (.bool (k9 l))/\Below w.heap.size w w':=by
  have V:=atM Q;clear Q;by_cases F:64<l.length
  · have X:Hid (k9 l=false):=by simp[Hid,k9];intro;omega
    go_enter func153,ntmps153;go_wp2;go_ret;exact⟨by rw[X.out];rfl,atS _ _⟩
  · have Y:l.length<=64:=by omega
    clear F U;go_enter func153,ntmps153;go_wp2
    go_loopw [10] (fun i wr=>∃k:Nat,k<=l.length/\i=.int .i64 k/\Hid (∀j,(z:j<l.length)->j<k->oM l j l[j]=true)/\Below w.heap.size w wr) (fun i _=>l.length-(intOf i).toNat)
    case atStart=>exact⟨0,by omega,rfl,fun j _ z=>absurd z (by omega),atS _ _⟩
    case round=>
      obtain⟨k,hk,rfl,u,n⟩:=hrel;by_cases B:k<l.length
      · obtain⟨b,off,rfl,hb,C⟩:=(h.below n).at_ B
        have Z:=C 0 _ rfl;have c1:=C 1 _ rfl;have c2:=C 2 _ rfl;have c3:=C 3 _ rfl;have c4:=C 4 _ rfl;have c5:=C 5 _ rfl;simp only[atQ]at Z;have R:=V.out _ (atT B);have ab:∀r,oM l k l[k]=r->Hid (oM l k l[k]=r):=fun r h=>h;have D:=n.size;have L:=atM (@aiN l k B);clear C;have S:Below w.heap.size w (wr.alloc (.cells (gX l[k]).toArray 77)):=n.alloc D _;rcases at6 0 k with fK|fK;rotate_left
        · have G:=Tq l k l[k] true (.inl (by omega))
          have ad:decide ((0:Int)<(k:Int))=false:=(by simp;omega);have af:decide (0<k)=false:=(by simp;omega);have I:=atM G;clear G;go_wp2_with(go_at_call 82;refine(AA _ _ R).mono ?_;rintro e w' ⟨rfl,rfl⟩)
          · have p:(!bI l[k].code)=true:=by assumption
            go_ret;exact⟨by rw[L.out (by simp at p;simp[oM,p])];rfl,S⟩
          · have p:(!bI l[k].code)=false:=by assumption
            go_quiet(fail);go_wp2
            all_goals first
              |(
                 go_ret;refine⟨?_,below_drewN (n.alloc D _) _⟩;have N:oM l k l[k]=false:=by
                   go_light
                   rw[I.out];apply auO;rintro⟨h1,O,h3,h4,h5,h6⟩
                   first|omega|(simp_all;done)|(simp_all;omega)
                 rw[L.out N];rfl)
              |(
                 go_roundw
                 case rel=>
                   have J:∀j,(z:j<l.length)->j<k+1->oM l j l[j]=true:=by
                     intro j z P;obtain rfl:j=k:=by omega
                     go_light
                     rw[I.out];apply auL;refine⟨by simpa using p,by omega,?_,?_,?_,?_⟩
                     all_goals first|omega|(simp_all;done)|(simp_all;omega)
                   first|exact⟨k+1,by omega,by go_num,J,below_drewN (n.alloc D _) _⟩|((repeat apply Exists.intro);exact⟨⟨k+1,by omega,by go_num,J,below_drewN (n.alloc D _) _⟩,rfl⟩)
                 case measure=>simp[intOf];omega)
        · obtain⟨m,rfl⟩:∃m,k=m+1:=⟨k-1,by omega⟩
          obtain⟨b',T,E,aj,K⟩:=(h.below n).at_ (show m<l.length by omega);injection E with E
          injection E with h1 O
          subst h1 O;have p0:=K 0 _ rfl;simp only[atQ]at p0;have G:=Tq l (m+1) l[m+1] _ (.inr ⟨l[m],by simp,rfl⟩);have I:=atM G;have Js:b<wr.heap.size:=(by omega);clear K G;go_wp2_with(go_at_call 82;refine(AA _ _ R).mono ?_;rintro e w' ⟨rfl,rfl⟩)
          · have p:(!bI l[m+1].code)=true:=by assumption
            go_ret;exact⟨by rw[L.out (by simp at p;simp[oM,p])];rfl,S⟩
          · have p:(!bI l[m+1].code)=false:=by assumption
            go_quiet(fail);go_wp2
            all_goals first
              |(
                 go_ret;refine⟨?_,below_drewN (n.alloc D _) _⟩;have N:oM l (m+1) l[m+1]=false:=by
                   go_light
                   rw[I.out];apply auO;rintro⟨h1,O,h3,h4,h5,h6⟩
                   first|omega|(simp_all;done)|(simp_all;omega)
                 rw[L.out N];rfl)
              |(
                 go_roundw
                 case rel=>
                   have J:∀j,(z:j<l.length)->j<m+1+1->oM l j l[j]=true:=by
                     intro j z P;rcases at6 j (m+1)with h1|h1
                     · exact u.out j z h1
                     · obtain rfl:j=m+1:=by omega
                       go_light
                       rw[I.out];apply auL;refine⟨by simpa using p,.inr (by simp_all),?_,?_,?_,?_⟩
                       all_goals first|omega|(simp_all;done)|(simp_all;omega)
                   first|exact⟨m+1+1,by omega,by go_num,J,below_drewN (n.alloc D _) _⟩|((repeat apply Exists.intro);exact⟨⟨m+1+1,by omega,by go_num,J,below_drewN (n.alloc D _) _⟩,rfl⟩)
                 case measure=>simp[intOf];omega)
      · go_wp2
        go_ret;exact⟨by rw[abe Y (fun i hi=>u.out i hi (by omega))];rfl,n⟩
def nD:dr:=⟨⟨#[]⟩,0,false,false,false,0⟩
def NX(c:ByteArray)(x:dr):Bool:=x.code.toList==c.toList
def iA(xs:List dr)(c:ByteArray):Option dr:=xs.find? (NX c)
def Dy(o:Option dr):Value:=.tuple #[.agg (gX (o.getD nD)).toArray,.bool o.isSome]
theorem aiO{xs:List dr}{c:ByteArray}{k:Nat}(l:k<xs.length)(h:∀j,(e:j<xs.length)->j<k->NX c xs[j]=false)(n:NX c xs[k]=true):iA xs c=some xs[k]:=by unfold iA;rw[List.find?_eq_some_iff_getElem];refine⟨n,k,l,rfl,fun j e=>?_⟩;rw[h j (by omega) e];rfl
theorem aiP{xs:List dr}{c:ByteArray}(h:∀j,(e:j<xs.length)->NX c xs[j]=false):iA xs c=none:=by unfold iA;rw[List.find?_eq_none];intro x l;obtain⟨j,e,rfl⟩:=aun.1 l;rw[h j e];simp
theorem ag1(A:Option Addr)(D:Nat)(xs:List dr)(c:ByteArray)(w:World)(h:ai gX 6 w w.heap.size A xs)(Y:xs.length<=9223372036854775806):
  Calls prog 74 #[.slice A xs.length D,.string c] w fun e w'=>e=.returned (Dy (iA xs c))/\Below w.heap.size w w':=by
 go_enter func74,ntmps74;go_wp2
 go_loopw [10] (fun i wr=>∃k:Nat,k<=xs.length/\i=.int .i64 k/\Hid (∀j,(r:j<xs.length)->j<k->NX c xs[j]=false)/\Below w.heap.size w wr/\ah wr w.heap.size 77 (gX nD).toArray) (fun i _=>xs.length-(intOf i).toNat)
 case atStart=>exact⟨0,by omega,rfl,fun j _ r=>absurd r (by omega),(atS _ _).alloc (atN _) _,ah.new _ _ _⟩
 case round=>
  obtain⟨k,Z,rfl,n,C,l⟩:=hrel;have hz:=l.lt;have N:=l.cell 0;have O:=l.cell 1;have P:=l.cell 2;have Q:=l.cell 3;have R:=l.cell 4;have S:=l.cell 5;obtain⟨f0,f1,f2,f3,f4,f5⟩:=l.fz6;simp only[gX,nD,atY,at0,at1]at N O P Q R S;by_cases u:k<xs.length
  ·obtain⟨b,off,rfl,hb,p⟩:=(h.below C).at_ u;have T:=p 0 _ rfl;have c1:=p 1 _ rfl;have c2:=p 2 _ rfl;have c3:=p 3 _ rfl;have c4:=p 4 _ rfl;have c5:=p 5 _ rfl;simp only[atQ]at T;clear p;have gu:b<wr.heap.size:=(by omega);by_cases E:(xs[k].code.toList==c.toList)=true
   ·have F:=atM (aiO u n.out E);go_wp2;have z:=(l.Wj rfl (.string xs[k].code) (.int .i64 xs[k].kind) (.bool xs[k].jS) (.bool xs[k].aO) (.bool xs[k].gU) (.int .i64 xs[k].eQ)).alloc (Obj.cells #[Value.string xs[k].code,Value.int IntKind.i64 xs[k].kind,Value.bool xs[k].jS,Value.bool xs[k].aO,Value.bool xs[k].gU,Value.int IntKind.i64 xs[k].eQ] 77);have B:Below w.heap.size w _:=(iq (iq (iq (iq (iq (iq C (atN _) 0 (.string xs[k].code)) (atN _) 1 (.int .i64 xs[k].kind)) (atN _) 2 (.bool xs[k].jS)) (atN _) 3 (.bool xs[k].aO)) (atN _) 4 (.bool xs[k].gU)) (atN _) 5 (.int .i64 xs[k].eQ)).alloc (by simp;omega) (Obj.cells #[Value.string xs[k].code,Value.int IntKind.i64 xs[k].kind,Value.bool xs[k].jS,Value.bool xs[k].aO,Value.bool xs[k].gU,Value.int IntKind.i64 xs[k].eQ] 77);generalize World.alloc _ _=U at z B|-;obtain⟨G,I,J,K,L,M⟩:=z.cz6;refine at5 (v:=Dy (some xs[k])) (by simp[results,results74,go_sem,G,I,J,K,L,M,Dy,gX]) rfl ⟨by rw[F.out],B⟩
   ·have V:(xs[k].code.toList==c.toList)=false:=(by simpa using E);clear E;go_wp2;go_roundw
    case rel=>
     refine⟨k+1,by omega,by go_num,fun j r X=>?_,C.alloc (by omega) _,l.alloc _⟩;rcases at6 j k with h1|h1
     ·exact n.out j r h1
     ·obtain rfl:j=k:=by omega
      exact V
    case measure=>simp[intOf];omega
  ·have F:=atM (aiP (xs:=xs) (c:=c) (fun j r=>n.out j r (by omega)));go_wp2;have z:=l.Wj rfl (.string {data:=#[]}) (.int .i64 0) (.bool false) (.bool false) (.bool false) (.int .i64 0);have B:Below w.heap.size w _:=iq (iq (iq (iq (iq (iq C (atN _) 0 (.string {data:=#[]})) (atN _) 1 (.int .i64 0)) (atN _) 2 (.bool false)) (atN _) 3 (.bool false)) (atN _) 4 (.bool false)) (atN _) 5 (.int .i64 0);generalize World.setCell _ _ (Value.int .i64 0)=U at z B|-;obtain⟨G,I,J,K,L,M⟩:=z.cz6;refine at5 (v:=Dy none) (by simp[results,results74,go_sem,G,I,J,K,L,M,Dy,gX,nD]) rfl ⟨by rw[F.out],B⟩
theorem ae6(A:Option Addr)(D:Nat)(xs:List dr)(c:ByteArray)(w:World)(h:ai gX 6 w w.heap.size A xs)(Y:xs.length<=9223372036854775806):
  Calls prog 80 #[.slice A xs.length D,.string c] w fun e w'=>e=.returned (Dy (iA xs c))/\Below w.heap.size w w':=by
 go_enter func80,ntmps80;go_wp2
 go_loopw [6] (fun i wr=>∃k:Nat,k<=xs.length/\i=.int .i64 k/\Hid (∀j,(r:j<xs.length)->j<k->NX c xs[j]=false)/\Below w.heap.size w wr/\ah wr w.heap.size 77 (gX nD).toArray) (fun i _=>xs.length-(intOf i).toNat)
 case atStart=>exact⟨0,by omega,rfl,fun j _ r=>absurd r (by omega),(atS _ _).alloc (atN _) _,ah.new _ _ _⟩
 case round=>
  obtain⟨k,Z,rfl,n,C,l⟩:=hrel;have hz:=l.lt;have N:=l.cell 0;have O:=l.cell 1;have P:=l.cell 2;have Q:=l.cell 3;have R:=l.cell 4;have S:=l.cell 5;obtain⟨f0,f1,f2,f3,f4,f5⟩:=l.fz6;simp only[gX,nD,atY,at0,at1]at N O P Q R S;by_cases u:k<xs.length
  ·obtain⟨b,off,rfl,hb,p⟩:=(h.below C).at_ u;have T:=p 0 _ rfl;have c1:=p 1 _ rfl;have c2:=p 2 _ rfl;have c3:=p 3 _ rfl;have c4:=p 4 _ rfl;have c5:=p 5 _ rfl;simp only[atQ]at T;clear p;have gu:b<wr.heap.size:=(by omega);by_cases E:(xs[k].code.toList==c.toList)=true
   ·have F:=atM (aiO u n.out E);go_wp2;have z:=l.Wj rfl (.string xs[k].code) (.int .i64 xs[k].kind) (.bool xs[k].jS) (.bool xs[k].aO) (.bool xs[k].gU) (.int .i64 xs[k].eQ);have B:Below w.heap.size w _:=iq (iq (iq (iq (iq (iq C (atN _) 0 (.string xs[k].code)) (atN _) 1 (.int .i64 xs[k].kind)) (atN _) 2 (.bool xs[k].jS)) (atN _) 3 (.bool xs[k].aO)) (atN _) 4 (.bool xs[k].gU)) (atN _) 5 (.int .i64 xs[k].eQ);generalize World.setCell _ _ (Value.int .i64 xs[k].eQ)=U at z B|-;obtain⟨G,I,J,K,L,M⟩:=z.cz6;refine at5 (v:=Dy (some xs[k])) (by simp[results,results80,go_sem,G,I,J,K,L,M,Dy,gX]) rfl ⟨by rw[F.out],B⟩
   ·have V:(xs[k].code.toList==c.toList)=false:=(by simpa using E);clear E;go_wp2;go_roundw
    case rel=>
     refine⟨k+1,by omega,by go_num,fun j r X=>?_,C,l⟩;rcases at6 j k with h1|h1
     ·exact n.out j r h1
     ·obtain rfl:j=k:=by omega
      exact V
    case measure=>simp[intOf];omega
  ·have F:=atM (aiP (xs:=xs) (c:=c) (fun j r=>n.out j r (by omega)));go_wp2;have z:=l.Wj rfl (.string {data:=#[]}) (.int .i64 0) (.bool false) (.bool false) (.bool false) (.int .i64 0);have B:Below w.heap.size w _:=iq (iq (iq (iq (iq (iq C (atN _) 0 (.string {data:=#[]})) (atN _) 1 (.int .i64 0)) (atN _) 2 (.bool false)) (atN _) 3 (.bool false)) (atN _) 4 (.bool false)) (atN _) 5 (.int .i64 0);generalize World.setCell _ _ (Value.int .i64 0)=U at z B|-;obtain⟨G,I,J,K,L,M⟩:=z.cz6;refine at5 (v:=Dy none) (by simp[results,results80,go_sem,G,I,J,K,L,M,Dy,gX,nD]) rfl ⟨by rw[F.out],B⟩
theorem Fx(n:Int)(w:World):
  Calls prog 30 #[.int .i64 n] w fun e w'=>e=.returned (.bool (cQ n))/\w=w':=by
 by_cases l:-1000000000<=n<;>by_cases p:n<=1000000000
 all_goals
  have j:cQ n=(decide (-1000000000<=n)&&decide (n<=1000000000)):=by simp[cQ]
  have r:=atM j;clear j;go_enter func30,ntmps30;go_wp2;go_ret;exact⟨by rw[r.out];simp[l,p],rfl⟩
def ey(l:List Elem):Int:=if 128<l.length then 3 else if l.any (fun x=>!bI x.code)then 7 else if l.any (fun x=>!cQ x.amount)then 2 else if(bG l).any (fun x=>!cQ x.amount)then 4 else 0
def QA(l:List Elem):List Elem:=if ey l=0 then bG l else[]
def BC(l:List Elem):List Elem:=if ey l=0 then(bG l).filter nz else[]
theorem aiQ(A:Option Addr)(V:Nat)(l:List Elem)(w:World)(h:ai aN 2 w w.heap.size A l)(hz:∀x∈l,x.code.size<=maxLen)(hl:l.length<=9223372036854775807):
  Calls prog 131 #[.slice A l.length V] w fun r w'=>∃v,r=.returned (.tuple #[v,.int .i64 (ey l)])/\Own aN 2 69 w' w.heap.size v (QA l)/\Below w.heap.size w w':=by
 have HZ:=atM hz;clear hz;have Ay:∀(n:Int) (W:World),n≠0->ey l=n->Below w.heap.size w W->∃v,Ending.returned (.tuple #[.slice none 0 0,.int .i64 n])=.returned (.tuple #[v,.int .i64 (ey l)])/\Own aN 2 69 W w.heap.size v (QA l)/\Below w.heap.size w W:=by intro n W z he Q;refine⟨.slice none 0 0,by rw[he],?_,Q⟩;rw[QA,atO (by rw[he];exact z)];exact Own.cC _ _
 have B:=atM Ay;clear Ay;by_cases L:128<l.length
 ·have J:Hid (ey l=3):=by simp only[Hid,ey,atP L]
  go_enter func131,ntmps131;go_wp2;go_ret2;exact B.out 3 _ (by omega) J.out (atS _ _)
 ·have kT:l.length<=128:=by omega
  clear L hl;go_enter func131,ntmps131;go_wp2
  go_loopw [4] (fun i wr=>∃k:Nat,k<=l.length/\i=.int .i64 k/\Hid (∀j,(u:j<l.length)->j<k->bI l[j].code=true)/\Below w.heap.size w wr) (fun i _=>l.length-(intOf i).toNat)
  case atStart=>exact⟨0,by omega,rfl,fun j _ u=>absurd u (by omega),atS _ _⟩
  case round=>
   obtain⟨k,hk,rfl,p,E⟩:=hrel;have R:=E.size;by_cases D:k<l.length
   ·obtain⟨b,off,rfl,Q,K⟩:=(h.below E).at_ D;have X:=K 0 _ rfl;simp only[atQ]at X;clear K;have fq:=HZ.out _ (atT D);go_wp2_with fail;refine(BW _ _ fq).mono ?_;rintro e w1 ⟨rfl,M⟩;have T:=Jb E M R;by_cases z:bI l[k].code=true
    ·go_wp2;go_roundw
     case rel=>
      refine⟨k+1,by omega,by go_num,fun j u N=>?_,T⟩;rcases at6 j k with h1|h1
      ·exact p.out j u h1
      ·obtain rfl:j=k:=by omega
       exact z
     case measure=>simp[intOf];omega
    ·have O:bI l[k].code=false:=(by simpa using z);have J:Hid (ey l=7):=by
      have P:l.any (fun x=>!bI x.code)=true:=auy.2 ⟨l[k],atT _,by simp[O]⟩;simp only[Hid,ey,atO (show¬128<l.length by omega),P,aup]
     clear z;go_wp2;go_ret2;exact B.out 7 _ (by omega) J.out T
   ·have P:Hid (l.any (fun x=>!bI x.code)=false):=by
     rw[Hid,auC];intro x F;obtain⟨j,u,rfl⟩:=aun.1 F;simp[p.out j u (by omega)]
    obtain⟨wo,rfl⟩:∃wo:World,wo=wr:=⟨_,rfl⟩
    go_wp2;clear p hk D
    go_loopw [5,6] (fun v i wr=>∃k:Nat,k<=l.length/\i=.int .i64 k/\Hid (∀j,(u:j<l.length)->j<k->cQ l[j].amount=true)/\Own aN 2 69 wr w.heap.size v (bG (l.take k))/\Jd (k*1000000000) (bG (l.take k))/\(bG (l.take k)).length<=k/\Below w.heap.size w wr) (fun _ i _=>l.length-(intOf i).toNat)
    case atStart=>exact⟨0,by omega,rfl,fun j _ u=>absurd u (by omega),Own.cC _ _,(fun x F=>by simp[bG]at F),by simp[bG],E⟩
    case round=>
     obtain⟨k,hk,rfl,p,G,Y,Z,E⟩:=hrel;have R:=E.size;obtain⟨A5,c5,rfl,dm,eR,nO,nP⟩:=G.kX dG;by_cases D:k<l.length
     ·obtain⟨b,off,rfl,Q,K⟩:=(h.below E).at_ D;have X:=K 0 _ rfl;have c1:=K 1 _ rfl;simp only[atQ]at X;clear K;by_cases z:cQ l[k].amount=true
      ·have zM:-1000000000<=l[k].amount/\l[k].amount<=1000000000:=(by simpa[cQ]using z);have HN:=atM z;go_wp2_with(go_at_call 30;refine(Fx _ _).mono ?_;rintro e w' ⟨rfl,rfl⟩);refine(RX A5 c5 (bG (l.take k)) l[k] _ dm nO nP (by omega) (fun x F=>by have:=Y x F;omega) (by omega) (by omega)).mono ?_;rintro e w1 ⟨v1,rfl,I,M⟩;have T:=Jb E M R;have e1:put (bG (l.take k)) l[k]=bG (l.take (k+1)):=(by rw[aud D,aaL]);have Qf:=Y.put (C:=1000000000) (e:=l[k]) (by omega) (by omega) (by omega) (by omega);have ab:=aaP (bG (l.take k)) l[k];rw[e1]at I Qf ab;have E1:=atM e1;clear e1;go_wp2;go_roundw
       case rel=>
        refine⟨k+1,by omega,by go_num,fun j u N=>?_,I.weaken R,?_,by omega,T⟩
        ·rcases at6 j k with h1|h1
         ·exact p.out j u h1
         ·obtain rfl:j=k:=by omega
          exact HN.out
        ·intro x F;have:=Qf x F;omega
       case measure=>simp[intOf];omega
      ·have O:cQ l[k].amount=false:=(by simpa using z);have J:Hid (ey l=2):=by
        have U:l.any (fun x=>!cQ x.amount)=true:=auy.2 ⟨l[k],atT _,by simp[O]⟩;simp only[Hid,ey,atO (show¬128<l.length by omega),P.out,U,aup,auT,auw]
       clear z;go_wp2_with(go_at_call 30;refine(Fx _ _).mono ?_;rintro e w' ⟨rfl,rfl⟩);go_ret2;exact B.out 2 _ (by omega) J.out E
     ·have U:Hid (l.any (fun x=>!cQ x.amount)=false):=by
       rw[Hid,auC];intro x F;obtain⟨j,u,rfl⟩:=aun.1 F;simp[p.out j u (by omega)]
      have ek:l.take k=l:=aut (by omega);rw[ek]at G Y Z dm nO;rw[show(bG (l.take k)).length=(bG l).length by rw[ek]];obtain⟨wp,rfl⟩:∃wp:World,wp=wr:=⟨_,rfl⟩
      clear p ek;go_wp2;generalize hS:bG l=S at*;have od:=atM hS;clear hS
      go_loop [7] (fun i=>∃k:Nat,k<=S.length/\i=.int .i64 k/\Hid (∀j,(u:j<S.length)->j<k->cQ S[j].amount=true)) (fun i=>S.length-(intOf i).toNat)
      case atStart=>exact⟨0,by omega,rfl,fun j _ u=>absurd u (by omega)⟩
      case round=>
       obtain⟨m,hm,rfl,p⟩:=hrel;by_cases ad:m<S.length
       ·obtain⟨b,off,rfl,Q,K⟩:=dm.at_ ad;have c1:=K 1 _ rfl;clear K;by_cases z:cQ S[m].amount=true
        ·have HN:=atM z;go_wp2_with(go_at_call 30;refine(Fx _ _).mono ?_;rintro e w' ⟨rfl,rfl⟩);go_round
         case rel=>
          refine⟨m+1,by omega,by go_num,fun j u N=>?_⟩;rcases at6 j m with h1|h1
          ·exact p.out j u h1
          ·obtain rfl:j=m:=by omega
           exact HN.out
         case measure=>simp[intOf];omega
        ·have O:cQ S[m].amount=false:=(by simpa using z);have J:Hid (ey l=4):=by
          have h4:S.any (fun x=>!cQ x.amount)=true:=auy.2 ⟨S[m],atT _,by simp[O]⟩;simp only[Hid,ey,atO (show¬128<l.length by omega),P.out,U.out,od.out,h4,aup,auT,auw]
         clear z;go_wp2_with(go_at_call 30;refine(Fx _ _).mono ?_;rintro e w' ⟨rfl,rfl⟩);go_ret2;exact B.out 4 _ (by omega) J.out E
       ·have J:Hid (ey l=0):=by
         have h4:S.any (fun x=>!cQ x.amount)=false:=by rw[auC];intro x F;obtain⟨j,u,rfl⟩:=aun.1 F;simp[p.out j u (by omega)]
         simp only[Hid,ey,atO (show¬128<l.length by omega),P.out,U.out,od.out,h4,auT,auw]
        go_wp2;go_ret2;refine⟨_,by rw[J.out];rfl,?_,E⟩;rw[QA,atP J.out,od.out];exact G
theorem alL(A:Option Addr)(u:Nat)(j:List Elem)(w:World)(h:ai aN 2 w w.heap.size A j)(J:∀x∈j,x.code.size<=maxLen)(O:j.length<=9223372036854775807):
  Calls prog 88 #[.slice A j.length u] w fun r w'=>∃v,r=.returned (.tuple #[v,.int .i64 (ey j)])/\Own aN 2 69 w' w.heap.size v (BC j)/\Below w.heap.size w w':=by
 have K:ey j=0->(bG j).length<=1000000:=by
  intro l;have:j.length<=128:=by
   rcases at6 128 j.length with h1|h1
   ·rw[ey,atP h1]at l;cases l
   ·exact h1
  have:=Wc j;omega
 have P:=atM K;clear K;go_enter func88,ntmps88;go_wp2_with fail;refine(aiQ A u j _ h J O).mono ?_;rintro e E ⟨Z,rfl,n,p⟩;by_cases l:ey j=0
 ·have L:=P.out l;have F:=atM l;rw[QA,atP l]at n;have Q:Hid (BC j=(bG j).filter nz):=by rw[Hid,BC,atP l]
  rw[l];obtain⟨A5,c5,rfl,R,eR,nO,nP⟩:=n.kX dG;generalize hS:bG j=S at*;clear hS l J h;have z:=p.size;go_wp2
  go_loopw [6,7] (fun v i wr=>∃k:Nat,k<=S.length/\i=.int .i64 k/\Own aN 2 69 wr E.heap.size v ((S.take k).filter nz)/\Below E.heap.size E wr) (fun _ i _=>S.length-(intOf i).toNat)
  case atStart=>exact⟨0,by omega,rfl,Own.cC _ _,atS _ _⟩
  case round=>
   obtain⟨k,hk,rfl,B,C⟩:=hrel;have br:=C.size;by_cases D:k<S.length
   ·obtain⟨b,off,rfl,hb,G⟩:=(R.below C).at_ D;have T:=G 0 _ rfl;have c1:=G 1 _ rfl;simp only[atQ]at T;clear G;have M:S.take (k+1)=S.take k++[S[k]]:=aud D;have N:=atM M;clear M;have B4:((S.take k).filter nz).length<=k:=at7 (auk _ _) (by simp;omega);by_cases I:(S[k].amount !=0)=true
    ·go_wp2_with(at_builtin;(refine lD _ _ 51 ⟨S[k].code,S[k].amount⟩ _ 24 _ nQ underlying51 B dG (by omega) rfl (mF _) (by omega) (by omega) (by omega) (by rfl) (by rfl) (by rfl) (by rfl) (by simp) (by rfl) ?_);intro v2 w6 U V);go_roundw
     case rel=>refine⟨k+1,by omega,by go_num,?_,C.grown V (by omega) (fun g X=>(B.bR X).1)⟩;rw[N.out,auE];have:[S[k]].filter nz=[S[k]]:=(by simp[nz,I]);rw[this];exact U
     case measure=>simp[intOf];omega
    ·have Y:(S[k].amount !=0)=false:=(by simpa using I);clear I;go_wp2;go_roundw
     case rel=>refine⟨k+1,by omega,by go_num,?_,C⟩;rw[N.out,auE];have:[S[k]].filter nz=[]:=(by simp[nz,Y]);rw[this,avl];exact B
     case measure=>simp[intOf];omega
   ·go_wp2;go_ret2;refine⟨_,by rw[F.out];rfl,?_,p.trans (C.mono z)⟩;rw[Q.out];rw[aut (by omega)]at B;exact B.weaken z
 ·have Gu:(ey j !=0)=true:=by simpa using l
  have F:Hid (BC j=[]):=by rw[Hid,BC,atO l]
  clear l;go_wp2;go_ret2;refine⟨_,rfl,?_,p⟩;rw[F.out];exact Own.cC _ _
theorem afq(A:Option Addr)(ab:Nat)(l:List dr)(w:World)(h:ai gX 6 w w.heap.size A l)(hz:∀x∈l,x.code.size<=maxLen)(hl:l.length<=9223372036854775807):
    Calls prog 130 #[.slice A l.length ab] w fun e w'=>e=.returned (.bool (k9 l))/\Below w.heap.size w w':=by
  have HZ:=atM hz;clear hz;by_cases U:64<l.length
  · have HV:Hid (k9 l=false):=by simp[Hid,k9];intro;omega
    go_enter func130,ntmps130;go_wp2;go_ret;exact⟨by rw[HV.out];rfl,atS _ _⟩
  · have kT:l.length<=64:=by omega
    clear U hl;go_enter func130,ntmps130;go_wp2
    go_loopw [3] (fun i wr=>∃k:Nat,k<=l.length/\i=.int .i64 k/\Hid (∀j,(G:j<l.length)->j<k->oM l j l[j]=true)/\Below w.heap.size w wr) (fun i _=>l.length-(intOf i).toNat)
    case atStart=>exact⟨0,by omega,rfl,fun j _ G=>absurd G (by omega),atS _ _⟩
    case round=>
      obtain⟨k,hk,rfl,p,T⟩:=hrel;by_cases J:k<l.length
      · obtain⟨b,off,rfl,hb,K⟩:=(h.below T).at_ J
        have c0:=K 0 _ rfl;have c1:=K 1 _ rfl;have c2:=K 2 _ rfl;have c3:=K 3 _ rfl;have c4:=K 4 _ rfl;have c5:=K 5 _ rfl;simp only[atQ]at c0;have fq:=HZ.out _ (atT J);have br:=T.size;have fl:=atM (@aiN l k J);clear K;rcases at6 0 k with fK|fK
        · obtain⟨m,rfl⟩:∃m,k=m+1:=⟨k-1,by omega⟩
          obtain⟨b',aj,L,ak,V⟩:=(h.below T).at_ (show m<l.length by omega);injection L with L
          injection L with h1 h2
          subst h1 h2;have p0:=V 0 _ rfl;simp only[atQ]at p0;have X:=Tq l (m+1) l[m+1] _ (.inr ⟨l[m],by simp,rfl⟩);have M:=atM X;have Js:b<wr.heap.size:=(by omega);clear V X;go_wp2_with fail;have N:(wr.alloc (Obj.cells #[Value.string l[m+1].code,Value.int IntKind.i64 l[m+1].kind,Value.bool l[m+1].jS,Value.bool l[m+1].aO,Value.bool l[m+1].gU,Value.int IntKind.i64 l[m+1].eQ] 77)).heap.size=wr.heap.size+1:=(by simp);have Y:Below w.heap.size w (wr.alloc (Obj.cells #[Value.string l[m+1].code,Value.int IntKind.i64 l[m+1].kind,Value.bool l[m+1].jS,Value.bool l[m+1].aO,Value.bool l[m+1].gU,Value.int IntKind.i64 l[m+1].eQ] 77)):=T.alloc br _;have D:=ah.new wr 77 #[Value.string l[m+1].code,Value.int IntKind.i64 l[m+1].kind,Value.bool l[m+1].jS,Value.bool l[m+1].aO,Value.bool l[m+1].gU,Value.int IntKind.i64 l[m+1].eQ];have GK:=(World.cell?_alloc_past (w:=wr) (Obj.cells #[Value.string l[m+1].code,Value.int IntKind.i64 l[m+1].kind,Value.bool l[m+1].jS,Value.bool l[m+1].aO,Value.bool l[m+1].gU,Value.int IntKind.i64 l[m+1].eQ] 77) b (off+m*6) Js).trans p0;generalize wr.alloc (Obj.cells _ _)=W at N Y D GK|-;have ad:=atM N;have e0:=Bw.cell (w:=W) (a:=⟨wr.heap.size,0,none⟩) (by show wr.heap.size<W.heap.size;omega) (D.cell 0);have e1:=Bw.cell (w:=W) (a:=⟨wr.heap.size,1,none⟩) (by show wr.heap.size<W.heap.size;omega) (D.cell 1);have e4:=Bw.cell (w:=W) (a:=⟨wr.heap.size,4,none⟩) (by show wr.heap.size<W.heap.size;omega) (D.cell 4);have e5:=Bw.cell (w:=W) (a:=⟨wr.heap.size,5,none⟩) (by show wr.heap.size<W.heap.size;omega) (D.cell 5);have e9:=Bw.cell (w:=W) (a:=⟨b,off+m*6,none⟩) (by show b<W.heap.size;omega) GK;clear GK p0;have CR:Hid (w.heap.size<=W.heap.size):=(by show w.heap.size<=W.heap.size;omega);clear N D c0 c1 c2 c3 c4 c5;have O:bI l[m+1].code=false\/(bI l[m+1].code=true/\(Op.bytesLess l[m].code.toList l[m+1].code.toList)=false)\/(bI l[m+1].code=true/\(Op.bytesLess l[m].code.toList l[m+1].code.toList)=true/\((l[m+1].kind==1)=false/\(l[m+1].kind !=1)=true/\(l[m+1].kind==2)=false/\(l[m+1].kind !=2)=true))\/
              (bI l[m+1].code=true/\(Op.bytesLess l[m].code.toList l[m+1].code.toList)=true/\((l[m+1].kind==1)=true/\(l[m+1].kind !=1)=false/\(l[m+1].kind==2)=false/\(l[m+1].kind !=2)=true)/\decide (l[m+1].eQ<1000)=true)\/
              (bI l[m+1].code=true/\(Op.bytesLess l[m].code.toList l[m+1].code.toList)=true/\((l[m+1].kind==1)=true/\(l[m+1].kind !=1)=false/\(l[m+1].kind==2)=false/\(l[m+1].kind !=2)=true)/\decide (l[m+1].eQ<1000)=false/\decide (9999<l[m+1].eQ)=true)\/
              (bI l[m+1].code=true/\(Op.bytesLess l[m].code.toList l[m+1].code.toList)=true/\((l[m+1].kind==1)=true/\(l[m+1].kind !=1)=false/\(l[m+1].kind==2)=false/\(l[m+1].kind !=2)=true)/\decide (l[m+1].eQ<1000)=false/\decide (9999<l[m+1].eQ)=false)\/
              (bI l[m+1].code=true/\(Op.bytesLess l[m].code.toList l[m+1].code.toList)=true/\((l[m+1].kind==1)=false/\(l[m+1].kind !=1)=true/\(l[m+1].kind==2)=true/\(l[m+1].kind !=2)=false)/\l[m+1].gU=true)\/
              (bI l[m+1].code=true/\(Op.bytesLess l[m].code.toList l[m+1].code.toList)=true/\((l[m+1].kind==1)=false/\(l[m+1].kind !=1)=true/\(l[m+1].kind==2)=true/\(l[m+1].kind !=2)=false)/\l[m+1].gU=false/\decide (l[m+1].eQ<1000)=true)\/
              (bI l[m+1].code=true/\(Op.bytesLess l[m].code.toList l[m+1].code.toList)=true/\((l[m+1].kind==1)=false/\(l[m+1].kind !=1)=true/\(l[m+1].kind==2)=true/\(l[m+1].kind !=2)=false)/\l[m+1].gU=false/\decide (l[m+1].eQ<1000)=false/\decide (9999<l[m+1].eQ)=true)\/
              (bI l[m+1].code=true/\(Op.bytesLess l[m].code.toList l[m+1].code.toList)=true/\((l[m+1].kind==1)=false/\(l[m+1].kind !=1)=true/\(l[m+1].kind==2)=true/\(l[m+1].kind !=2)=false)/\l[m+1].gU=false/\decide (l[m+1].eQ<1000)=false/\decide (9999<l[m+1].eQ)=false):=by
            go_light
            clear M fl e0 e1 e4 e5 p;generalize bI l[m+1].code=q1;generalize Op.bytesLess l[m].code.toList l[m+1].code.toList=q2;generalize l[m+1].kind=Z;generalize l[m+1].gU=q4;generalize l[m+1].eQ=F;cases q1
            · simp
            · by_cases z1:Z=1
              · subst z1
                by_cases P:F<1000<;>by_cases Q:9999<F<;>cases q2<;>simp[P,Q]
              · by_cases z4:Z=2
                · subst z4
                  by_cases P:F<1000<;>by_cases Q:9999<F<;>cases q4<;>cases q2<;>simp[P,Q]
                · cases q2<;>simp[z1,z4]
          rcases O with n|⟨n,I⟩|⟨n,I,r,u,z,B⟩|⟨n,I,⟨r,u,z,B⟩,d1⟩|⟨n,I,⟨r,u,z,B⟩,d1,d2⟩|⟨n,I,⟨r,u,z,B⟩,d1,d2⟩|⟨n,I,⟨r,u,z,B⟩,t1⟩|⟨n,I,⟨r,u,z,B⟩,t1,d1⟩|⟨n,I,⟨r,u,z,B⟩,t1,d1,d2⟩|⟨n,I,⟨r,u,z,B⟩,t1,d1,d2⟩
          all_goals
            refine oG (by kernel_rfl) (by kernel_rfl) ?_
            repeat(first|go_big_quiet_step((exact Bw.call _ (BW _ _ fq)))|quiet_step((exact Bw.call _ (BW _ _ fq))))
            refine wpQuiet_nil ?_;intro W2 R;obtain⟨⟨W9,S⟩,E⟩:=R;subst E;have C:Below w.heap.size w W2:=Y.trans (S.mono CR.out);go_wp2
            first
              |(
                 go_ret;refine⟨?_,C⟩;have hq:oM l (m+1) l[m+1]=false:=by
                   go_light
                   rw[M.out];apply auO;rintro⟨h1,h2,h3,h4,h5,h6⟩
                   first|omega|(simp_all;done)|(simp_all;omega)
                 rw[fl.out hq];rfl)
              |(
                 go_roundw
                 case rel=>
                   have aX:∀j,(G:j<l.length)->j<m+1+1->oM l j l[j]=true:=by
                     intro j G af;rcases at6 j (m+1)with h1|h1
                     · exact p.out j G h1
                     · obtain rfl:j=m+1:=by omega
                       go_light
                       rw[M.out];apply auL;refine⟨by assumption,.inr (by assumption),?_,?_,?_,?_⟩
                       all_goals first|omega|(simp_all;done)|(simp_all;omega)
                   first|exact⟨m+1+1,by omega,by go_num,aX,C⟩|((repeat apply Exists.intro);exact⟨⟨m+1+1,by omega,by go_num,aX,C⟩,rfl⟩)
                 case measure=>simp[intOf];omega)
        · have X:=Tq l k l[k] true (.inl (by omega))
          have M:=atM X;have al:decide ((0:Int)<(k:Int))=false:=(by simp;omega);have am:decide (0<k)=false:=(by simp;omega);clear X;go_wp2_with fail;have N:(wr.alloc (Obj.cells #[Value.string l[k].code,Value.int IntKind.i64 l[k].kind,Value.bool l[k].jS,Value.bool l[k].aO,Value.bool l[k].gU,Value.int IntKind.i64 l[k].eQ] 77)).heap.size=wr.heap.size+1:=(by simp);have Y:Below w.heap.size w (wr.alloc (Obj.cells #[Value.string l[k].code,Value.int IntKind.i64 l[k].kind,Value.bool l[k].jS,Value.bool l[k].aO,Value.bool l[k].gU,Value.int IntKind.i64 l[k].eQ] 77)):=T.alloc br _;have D:=ah.new wr 77 #[Value.string l[k].code,Value.int IntKind.i64 l[k].kind,Value.bool l[k].jS,Value.bool l[k].aO,Value.bool l[k].gU,Value.int IntKind.i64 l[k].eQ];generalize wr.alloc (Obj.cells _ _)=W at N Y D|-;have ad:=atM N;have e0:=Bw.cell (w:=W) (a:=⟨wr.heap.size,0,none⟩) (by show wr.heap.size<W.heap.size;omega) (D.cell 0);have e1:=Bw.cell (w:=W) (a:=⟨wr.heap.size,1,none⟩) (by show wr.heap.size<W.heap.size;omega) (D.cell 1);have e4:=Bw.cell (w:=W) (a:=⟨wr.heap.size,4,none⟩) (by show wr.heap.size<W.heap.size;omega) (D.cell 4);have e5:=Bw.cell (w:=W) (a:=⟨wr.heap.size,5,none⟩) (by show wr.heap.size<W.heap.size;omega) (D.cell 5);have CR:Hid (w.heap.size<=W.heap.size):=(by show w.heap.size<=W.heap.size;omega);clear N D c0 c1 c2 c3 c4 c5;have O:bI l[k].code=false\/(bI l[k].code=true/\((l[k].kind==1)=false/\(l[k].kind !=1)=true/\(l[k].kind==2)=false/\(l[k].kind !=2)=true))\/
              (bI l[k].code=true/\((l[k].kind==1)=true/\(l[k].kind !=1)=false/\(l[k].kind==2)=false/\(l[k].kind !=2)=true)/\decide (l[k].eQ<1000)=true)\/
              (bI l[k].code=true/\((l[k].kind==1)=true/\(l[k].kind !=1)=false/\(l[k].kind==2)=false/\(l[k].kind !=2)=true)/\decide (l[k].eQ<1000)=false/\decide (9999<l[k].eQ)=true)\/
              (bI l[k].code=true/\((l[k].kind==1)=true/\(l[k].kind !=1)=false/\(l[k].kind==2)=false/\(l[k].kind !=2)=true)/\decide (l[k].eQ<1000)=false/\decide (9999<l[k].eQ)=false)\/
              (bI l[k].code=true/\((l[k].kind==1)=false/\(l[k].kind !=1)=true/\(l[k].kind==2)=true/\(l[k].kind !=2)=false)/\l[k].gU=true)\/
              (bI l[k].code=true/\((l[k].kind==1)=false/\(l[k].kind !=1)=true/\(l[k].kind==2)=true/\(l[k].kind !=2)=false)/\l[k].gU=false/\decide (l[k].eQ<1000)=true)\/
              (bI l[k].code=true/\((l[k].kind==1)=false/\(l[k].kind !=1)=true/\(l[k].kind==2)=true/\(l[k].kind !=2)=false)/\l[k].gU=false/\decide (l[k].eQ<1000)=false/\decide (9999<l[k].eQ)=true)\/
              (bI l[k].code=true/\((l[k].kind==1)=false/\(l[k].kind !=1)=true/\(l[k].kind==2)=true/\(l[k].kind !=2)=false)/\l[k].gU=false/\decide (l[k].eQ<1000)=false/\decide (9999<l[k].eQ)=false):=by
            go_light
            clear M fl e0 e1 e4 e5 p;generalize bI l[k].code=q1;generalize l[k].kind=Z;generalize l[k].gU=q4;generalize l[k].eQ=F;cases q1
            · simp
            · by_cases z1:Z=1
              · subst z1
                by_cases P:F<1000<;>by_cases Q:9999<F<;>simp[P,Q]
              · by_cases z4:Z=2
                · subst z4
                  by_cases P:F<1000<;>by_cases Q:9999<F<;>cases q4<;>simp[P,Q]
                · simp[z1,z4]
          rcases O with n|⟨n,r,u,z,B⟩|⟨n,⟨r,u,z,B⟩,d1⟩|⟨n,⟨r,u,z,B⟩,d1,d2⟩|⟨n,⟨r,u,z,B⟩,d1,d2⟩|⟨n,⟨r,u,z,B⟩,t1⟩|⟨n,⟨r,u,z,B⟩,t1,d1⟩|⟨n,⟨r,u,z,B⟩,t1,d1,d2⟩|⟨n,⟨r,u,z,B⟩,t1,d1,d2⟩
          all_goals
            refine oG (by kernel_rfl) (by kernel_rfl) ?_
            repeat(first|go_big_quiet_step((exact Bw.call _ (BW _ _ fq)))|quiet_step((exact Bw.call _ (BW _ _ fq))))
            refine wpQuiet_nil ?_;intro W2 R;obtain⟨⟨W9,S⟩,E⟩:=R;subst E;have C:Below w.heap.size w W2:=Y.trans (S.mono CR.out);go_wp2
            first
              |(
                 go_ret;refine⟨?_,C⟩;have hq:oM l (k) l[k]=false:=by
                   go_light
                   rw[M.out];apply auO;rintro⟨h1,h2,h3,h4,h5,h6⟩
                   first|omega|(simp_all;done)|(simp_all;omega)
                 rw[fl.out hq];rfl)
              |(
                 go_roundw
                 case rel=>
                   have aX:∀j,(G:j<l.length)->j<k+1->oM l j l[j]=true:=by
                     intro j G af;rcases at6 j (k)with h1|h1
                     · exact p.out j G h1
                     · obtain rfl:j=k:=by omega
                       go_light
                       rw[M.out];apply auL;refine⟨by assumption,by omega,?_,?_,?_,?_⟩
                       all_goals first|omega|(simp_all;done)|(simp_all;omega)
                   first|exact⟨k+1,by omega,by go_num,aX,C⟩|((repeat apply Exists.intro);exact⟨⟨k+1,by omega,by go_num,aX,C⟩,rfl⟩)
                 case measure=>simp[intOf];omega)
      · go_wp2
        go_ret;exact⟨by rw[abe kT (fun i hi=>p.out i hi (by omega))];rfl,T⟩
structure eU where
 g:Int
 c:Int
 t:Int
 i:Int
 a:Int
deriving DecidableEq
def nw(b:eU):List Value:=[.int .i64 b.g,.int .i64 b.c,.int .i64 b.t,.int .i64 b.i,.int .i64 b.a]
def ez:eU:=⟨0,0,0,0,0⟩
def Am(b:eU)(y:dr)(n:Int):eU:=⟨b.g+n,b.c+(if y.kind=1 then n else 0),b.t+(if y.jS then n else 0),b.i+(if y.aO then n else 0),b.a+(if y.gU then n else 0)⟩
def JP(e:List dr)(b:eU)(x:Elem):eU:=Am b ((iA e x.code).getD nD) x.amount
def fN(e:List dr)(l:List Elem):eU:=l.foldl (JP e) ez
def missing(e:List dr)(l:List Elem):Bool:=l.any fun x=>(iA e x.code).isNone
def qd(b:eU):Bool:=cQ b.g&&cQ b.c&&cQ b.t&&cQ b.i&&cQ b.a
def eL(e:List dr)(l m:List Elem):Int:=if k9 e=false then 1 else if ey l≠0 then ey l else if missing e m then 16 else if qd (fN e m)=false then 4 else 0
def gV(e:List dr)(l m:List Elem):Value:=.tuple #[.agg (nw (if eL e l m=0 then fN e m else ez)).toArray,.int .i64 (eL e l m)]
def Bs(w:World)(g:Nat)(b:eU):Prop:=ah w g 24 (nw b).toArray
section
variable {w:World}{gg:Nat}{b:eU}
theorem Bs.g(h:Bs w gg b)(n:Int):Bs (w.setCell ⟨gg,0,none⟩ (.int .i64 n)) gg {b with g:=n}:=ah.eh h 0 _
theorem Bs.c(h:Bs w gg b)(n:Int):Bs (w.setCell ⟨gg,1,none⟩ (.int .i64 n)) gg {b with c:=n}:=ah.eh h 1 _
theorem Bs.t(h:Bs w gg b)(n:Int):Bs (w.setCell ⟨gg,2,none⟩ (.int .i64 n)) gg {b with t:=n}:=ah.eh h 2 _
theorem Bs.i(h:Bs w gg b)(n:Int):Bs (w.setCell ⟨gg,3,none⟩ (.int .i64 n)) gg {b with i:=n}:=ah.eh h 3 _
theorem Bs.a(h:Bs w gg b)(n:Int):Bs (w.setCell ⟨gg,4,none⟩ (.int .i64 n)) gg {b with a:=n}:=ah.eh h 4 _
theorem Bs.far(h:Bs w gg b){p:Addr}(e:gg≠p.block)(u:Value):Bs (w.setCell p u) gg b:=ah.far h e u
theorem Bs.alloc(h:Bs w gg b)(o:Obj):Bs (w.alloc o) gg b:=ah.alloc h o
theorem Bs.below{w':World}{B:Nat}(h:Bs w gg b)(e:Below B w w')(j:gg<B):Bs w' gg b:=ah.below h e j
end
theorem ah.mL{w:World}{g:Nat}{t:TypeId}{cs:Array Value}(h:ah w g t cs)(z:cs.size=5)(j n p r u:Value):
  ah (((((w.setCell ⟨g,0,none⟩ j).setCell ⟨g,1,none⟩ n).setCell ⟨g,2,none⟩ p).setCell ⟨g,3,none⟩ r).setCell ⟨g,4,none⟩ u) g t #[j,n,p,r,u]:=by
 have e:(((((cs.setIfInBounds 0 j).setIfInBounds 1 n).setIfInBounds 2 p).setIfInBounds 3 r).setIfInBounds 4 u)=#[j,n,p,r,u]:=by
  obtain⟨l⟩:=cs
  match l,z with
  |[_,_,_,_,_],_=>rfl
 rw[<-e];exact((((h.eh 0 j).eh 1 n).eh 2 p).eh 3 r).eh 4 u
theorem ag4(e:List dr)(l:List Elem)(k:Nat)(h:k<l.length):fN e (l.take (k+1))=JP e (fN e (l.take k)) l[k]:=by rw[aud h,fN,List.foldl_append];rfl
def IP(B:Int)(b:eU):Prop:=(-B<=b.g/\b.g<=B)/\(-B<=b.c/\b.c<=B)/\(-B<=b.t/\b.t<=B)/\(-B<=b.i/\b.i<=B)/\(-B<=b.a/\b.a<=B)
theorem IP.add{B C:Int}{b:eU}(h:IP B b)(j:0<=C)(y:dr){n:Int}(l:-C<=n)(r:n<=C):IP (B+C) (Am b y n):=by
 obtain⟨⟨u,z⟩,⟨D,E⟩,⟨F,G⟩,⟨d1,d2⟩,⟨I,J⟩⟩:=h;have e:∀(p:Prop) [Decidable p],-C<=(if p then n else 0)/\(if p then n else 0)<=C:=by intro p _;split<;>omega
 unfold IP Am;have K:=e (y.kind=1);have L:=e (y.jS=true);have M:=e (y.aO=true);have N:=e (y.gU=true);refine⟨?_,?_,?_,?_,?_⟩<;>dsimp only<;>omega
theorem Xy{l:List Elem}(h:ey l=0):Jd 1000000000 (bG l)/\(bG l).length<=128:=by
 have e:¬128<l.length:=by intro e;rw[ey,atP e]at h;cases h
 rw[ey,atO e]at h;split at h
 ·cases h
 ·split at h
  ·cases h
  ·split at h
   ·cases h
   ·rename_i j;refine⟨fun x n=>?_,at7 (Wc l) (by omega)⟩;simp only[Bool.not_eq_true,auC]at j;have:=j x n;simpa[cQ]using this
theorem ag2:Dy none=.tuple #[.agg #[.string ⟨#[]⟩,.int .i64 0,.bool false,.bool false,.bool false,.int .i64 0],.bool false]:=rfl
theorem ag3(y:dr):Dy (some y)=.tuple #[.agg #[.string y.code,.int .i64 y.kind,.bool y.jS,.bool y.aO,.bool y.gU,.int .i64 y.eQ],.bool true]:=rfl
theorem Bs.cells{w:World}{gg:Nat}{b:eU}(h:Bs w gg b):w.cell? ⟨gg,0,none⟩=some (.int .i64 b.g)/\w.cell? ⟨gg,1,none⟩=some (.int .i64 b.c)/\w.cell? ⟨gg,2,none⟩=some (.int .i64 b.t)/\w.cell? ⟨gg,3,none⟩=some (.int .i64 b.i)/\w.cell? ⟨gg,4,none⟩=some (.int .i64 b.a):=
 ⟨ah.cell h 0,ah.cell h 1,ah.cell h 2,ah.cell h 3,ah.cell h 4⟩
theorem Bs.Au{w:World}{gg:Nat}{b:eU}(h:Bs w gg b):w.frozen? ⟨gg,0,none⟩=false/\w.frozen? ⟨gg,1,none⟩=false/\w.frozen? ⟨gg,2,none⟩=false/\w.frozen? ⟨gg,3,none⟩=false/\w.frozen? ⟨gg,4,none⟩=false:=
 ⟨ah.frozen h 0,ah.frozen h 1,ah.frozen h 2,ah.frozen h 3,ah.frozen h 4⟩
theorem Bs.put{w:World}{gg:Nat}{b:eU}(h:Bs w gg b)(d:eU):Bs (((((w.setCell ⟨gg,0,none⟩ (.int .i64 d.g)).setCell ⟨gg,1,none⟩ (.int .i64 d.c)).setCell ⟨gg,2,none⟩ (.int .i64 d.t)).setCell ⟨gg,3,none⟩ (.int .i64 d.i)).setCell ⟨gg,4,none⟩ (.int .i64 d.a)) gg d:=
 ah.mL h rfl _ _ _ _ _
theorem D1{w W:World}{gg:Nat}(h:Below w.heap.size w W)(e:w.heap.size<=gg)(j l n p r:Value):Below w.heap.size w (((((W.setCell ⟨gg,0,none⟩ j).setCell ⟨gg,1,none⟩ l).setCell ⟨gg,2,none⟩ n).setCell ⟨gg,3,none⟩ p).setCell ⟨gg,4,none⟩ r):=
 iq (iq (iq (iq (iq h e 0 j) e 1 l) e 2 n) e 3 p) e 4 r
structure oy(w w2 w4:World)(y:dr)(b:eU)(wx:World):Prop where
 bs:Bs wx w2.heap.size b
 rs:Bs wx w.heap.size ez
 bh:Below w2.heap.size w2 wx
 wg:ah wx w4.heap.size 77 (gX y).toArray
 T3:w.heap.size<w2.heap.size
 T4:w2.heap.size<w4.heap.size
section
variable {w w2 w4 wx:World}{y:dr}{b:eU}
theorem oy.step(h:oy w w2 w4 y b wx){e:eU}{i:Nat}{u:Value}(j:Bs (wx.setCell ⟨w2.heap.size,i,none⟩ u) w2.heap.size e):oy w w2 w4 y e (wx.setCell ⟨w2.heap.size,i,none⟩ u):=
 ⟨j,h.rs.far (by have:=h.T3;simp;omega) _,h.bh.setCell (by simp) _,h.wg.far (by have:=h.T4;simp;omega) _,h.T3,h.T4⟩
theorem oy.abM(h:oy w w2 w4 y b wx)(n:Int):oy w w2 w4 y {b with c:=n} (wx.setCell ⟨w2.heap.size,1,none⟩ (.int .i64 n)):=h.step (h.bs.c n)
theorem oy.abN(h:oy w w2 w4 y b wx)(n:Int):oy w w2 w4 y {b with t:=n} (wx.setCell ⟨w2.heap.size,2,none⟩ (.int .i64 n)):=h.step (h.bs.t n)
theorem oy.abO(h:oy w w2 w4 y b wx)(n:Int):oy w w2 w4 y {b with i:=n} (wx.setCell ⟨w2.heap.size,3,none⟩ (.int .i64 n)):=h.step (h.bs.i n)
theorem oy.abP(h:oy w w2 w4 y b wx)(n:Int):oy w w2 w4 y {b with a:=n} (wx.setCell ⟨w2.heap.size,4,none⟩ (.int .i64 n)):=h.step (h.bs.a n)
end
theorem alK(A E:Option Addr)(ao T5:Nat)(n:List dr)(p:List Elem)(w:World)(h:ai gX 6 w w.heap.size A n)(T6:∀x∈n,x.code.size<=maxLen)(a9:n.length<=9223372036854775806)
  (hE:ai aN 2 w w.heap.size E p) (hz:∀x∈p,x.code.size<=maxLen) (hl:p.length<=9223372036854775807):
  Calls prog 87 #[.slice A n.length ao,.slice E p.length T5] w fun r w'=>r=.returned (gV n p (bG p))/\Below w.heap.size w w':=by
 have HZ:=atM hz;clear hz;have aD:=atM T6;clear T6;go_enter func87,ntmps87;go_wp2_with fail;have qi:Bs (w.alloc (.cells #[.int .i64 0,.int .i64 0,.int .i64 0,.int .i64 0,.int .i64 0] 24)) w.heap.size ez:=ah.new _ _ _;have ab:Below w.heap.size w (w.alloc (.cells #[.int .i64 0,.int .i64 0,.int .i64 0,.int .i64 0,.int .i64 0] 24)):=(atS _ _).alloc (atN _) _;generalize w.alloc (.cells #[.int .i64 0,.int .i64 0,.int .i64 0,.int .i64 0,.int .i64 0] 24)=w0 at qi ab|-;have aE:w.heap.size<w0.heap.size:=ah.lt qi;refine(afq A ao n _ ((h.below ab).more (by omega)) aD.out (by omega)).mono ?_;rintro e w1 ⟨rfl,ad⟩;have ak:=qi.below ad aE;have aS:=Jb ab ad (by omega);have ba:=ad.size;by_cases hv:k9 n=true
 ·have HV:=atM hv;go_wp2_with fail;refine(aiQ E T5 p _ ((hE.below aS).more (by omega)) HZ.out hl).mono ?_;rintro e w2 ⟨v2,rfl,an,af⟩;have aC:=ak.below af (by omega);have bm:=Jb aS af (by omega);have bc:=af.size;by_cases h0:ey p=0
  ·have H0:=atM h0;rw[QA,atP h0]at an;rw[h0];obtain⟨A5,c5,rfl,dm,eR,nO,nP⟩:=an.kX dG;obtain⟨aJ,VS⟩:=Xy h0;have Ki:=atM (fun x hx=>amc HZ.out x hx);generalize hS:bG p=S at*;clear h0 qi ab ad af ak aS;go_wp2;have eY:Bs (w2.alloc (.cells #[.int .i64 0,.int .i64 0,.int .i64 0,.int .i64 0,.int .i64 0] 24)) w2.heap.size ez:=ah.new _ _ _;have K:=aC.alloc (Obj.cells #[.int .i64 0,.int .i64 0,.int .i64 0,.int .i64 0,.int .i64 0] 24);have Cn:=(atS w2.heap.size w2).alloc (atN _) (Obj.cells #[.int .i64 0,.int .i64 0,.int .i64 0,.int .i64 0,.int .i64 0] 24);generalize w2.alloc (.cells #[.int .i64 0,.int .i64 0,.int .i64 0,.int .i64 0,.int .i64 0] 24)=w3 at eY K Cn|-
   go_loopw [9] (fun i wr=>∃k:Nat,k<=S.length/\i=.int .i64 k/\Hid (∀j,(hj:j<S.length)->j<k->(iA n S[j].code).isSome=true)/\Bs wr w2.heap.size (fN n (S.take k))/\IP (k*1000000000) (fN n (S.take k))/\Bs wr w.heap.size ez/\Below w2.heap.size w2 wr) (fun i _=>S.length-(intOf i).toNat)
   case atStart=>exact⟨0,by omega,rfl,fun j _ hj=>absurd hj (by omega),eY,by simp[fN,ez,IP],K,Cn⟩
   case round=>
    clear eY K Cn;obtain⟨k,hk,rfl,R,eY,k8,K,ae⟩:=hrel;have br:=ah.lt eY;by_cases al:k<S.length
    ·obtain⟨b,off,rfl,hb,hc⟩:=(dm.below ae).at_ al;have c0:=hc 0 _ rfl;simp only[atQ]at c0;clear hc;go_wp2_with fail;refine(ae6 A ao n S[k].code _ ((h.below (bm.trans (ae.mono (by omega)))).more (by omega)) (by omega)).mono ?_;rintro e w4 ⟨rfl,am⟩;have GH:=eY.below am br;have BL:=K.below am (by omega);have eo:=Jb ae am (by omega);have dP:=am.size;have aM:w.heap.size<w4.heap.size:=(by omega);have be:w2.heap.size<w4.heap.size:=(by omega);have Hc:b<w4.heap.size:=(by have:=ae.size;omega);rcases T:iA n S[k].code with _|y
     ·rw[ag2];obtain⟨U,V,X,Y,Z⟩:=BL.cells;obtain⟨M,N,O,P,Q⟩:=BL.Au;have B:Hid (eL n p S=16):=by
       have hm:missing n S=true:=auy.2 ⟨S[k],atT _,by simp[T]⟩;simp only[Hid,eL,HV.out,H0.out,hm,aup,Bool.true_eq_false,auw,ne_eq,not_true_eq_false]
      go_wp2;have u:=(BL.put ez).alloc (Obj.cells #[.string ⟨#[]⟩,.int .i64 0,.bool false,.bool false,.bool false,.int .i64 0] 77);have z:Below w.heap.size w _:=(D1 (bm.trans (eo.mono (by omega))) (atN _) (.int .i64 0) (.int .i64 0) (.int .i64 0) (.int .i64 0) (.int .i64 0)).alloc (by simp;omega) (Obj.cells #[.string ⟨#[]⟩,.int .i64 0,.bool false,.bool false,.bool false,.int .i64 0] 77);simp only[ez]at u;generalize World.alloc _ _=WW at u z|-;obtain⟨D,F,G,I,J⟩:=u.cells;refine at5 (v:=gV n p S) ?_ rfl ⟨by rw[hS],z⟩;rw[gV,B.out];simp[results,results87,go_sem,D,F,G,I,J,nw,ez]
     ·rw[ag3];obtain⟨U,V,X,Y,Z⟩:=GH.cells;obtain⟨M,N,O,P,Q⟩:=GH.Au;obtain⟨b',a8,ap,_,av⟩:=(dm.below eo).at_ al;injection ap with ap
      injection ap with h1 h2
      subst h1 h2;have d1:=av 1 _ rfl;clear av;have kO:=aJ _ (atT al);obtain⟨aQ,aR⟩:=kO;have Qf:=k8.add (C:=1000000000) (by omega) y aQ aR;have T8:fN n (S.take (k+1))=Am (fN n (S.take k)) y S[k].amount:=(by rw[ag4 n S k al,JP,T];rfl);have EST:=atM T8;have T9:∀j,(hj:j<S.length)->j<k+1->(iA n S[j].code).isSome=true:=by
       intro j hj bi;rcases at6 j k with h1|h1
       ·exact R.out j hj h1
       ·obtain rfl:j=k:=by omega
        rw[T];rfl
      have Sg:=atM T9;clear T9 T8 T c0;generalize fN n (S.take k)=l at*;obtain⟨⟨g1,g2⟩,⟨g3,g4⟩,⟨g5,g6⟩,⟨g7,g8⟩,⟨g9,bk⟩⟩:=k8;have Ua:oy w w2 w4 y ⟨l.g+S[k].amount,l.c,l.t,l.i,l.a⟩ ((w4.setCell ⟨w2.heap.size,0,none⟩ (.int .i64 (l.g+S[k].amount))).alloc (.cells (gX y).toArray 77)):=
       ⟨(GH.g _).alloc _,(BL.far (by simp;omega) _).alloc _,(eo.setCell (by simp) _).alloc (by simp;omega) _,by have:=ah.new (w4.setCell ⟨w2.heap.size,0,none⟩ (.int .i64 (l.g+S[k].amount))) 77 (gX y).toArray;simpa using this,by omega,by omega⟩
      have Ub:=atM Ua;clear Ua
      go_upto_if 57 with fail
      generalize az:World.alloc _ _=W0;have C0:oy w w2 w4 y ⟨l.g+S[k].amount,l.c,l.t,l.i,l.a⟩ W0:=(by rw[<-az];exact Ub.out);clear az U V X Y Z M N O P Q d1 Ub GH BL eY K ae eo aC;obtain⟨U,V,X,Y,Z⟩:=C0.bs.cells;obtain⟨M,N,O,P,Q⟩:=C0.bs.Au;have y1:=C0.wg.cell 1;have y2:=C0.wg.cell 2;have y3:=C0.wg.cell 3;have y4:=C0.wg.cell 4;simp only[gX,atY,at0,at1]at y1 y2 y3 y4
      go_cut [] (fun wx=>oy w w2 w4 y ⟨l.g+S[k].amount,l.c+(if y.kind=1 then S[k].amount else 0),l.t,l.i,l.a⟩ wx)
      case first=>
       by_cases L:y.kind=1
       ·have aT:(y.kind==1)=true:=(by simp[L]);go_wp2;go_meet;have hz:=(C0.abM (l.c+S[k].amount))
        simpa[L]using hz
       ·have aT:(y.kind==1)=false:=(by simp[L]);go_wp2;go_meet;simpa[L]using C0
      case rest=>
       clear U V X Y Z M N O P Q y1 y2 y3 y4 C0;have C1:=hcut;clear hcut;obtain⟨U,V,X,Y,Z⟩:=C1.bs.cells;obtain⟨M,N,O,P,Q⟩:=C1.bs.Au;have y1:=C1.wg.cell 1;have y2:=C1.wg.cell 2;have y3:=C1.wg.cell 3;have y4:=C1.wg.cell 4;simp only[gX,atY,at0,at1]at y1 y2 y3 y4
       go_upto_if 64 with fail
       go_cut [] (fun wx=>oy w w2 w4 y ⟨l.g+S[k].amount,l.c+(if y.kind=1 then S[k].amount else 0),l.t+(if y.jS=true then S[k].amount else 0),l.i,l.a⟩ wx)
       case first=>
        rcases L:y.jS with _|_;rotate_left
        ·go_wp2;go_meet;have hz:=(C1.abN (l.t+S[k].amount))
         simpa[L]using hz
        ·go_wp2;go_meet;simpa[L]using C1
       case rest=>
        clear U V X Y Z M N O P Q y1 y2 y3 y4 C1;have C2:=hcut;clear hcut;obtain⟨U,V,X,Y,Z⟩:=C2.bs.cells;obtain⟨M,N,O,P,Q⟩:=C2.bs.Au;have y1:=C2.wg.cell 1;have y2:=C2.wg.cell 2;have y3:=C2.wg.cell 3;have y4:=C2.wg.cell 4;simp only[gX,atY,at0,at1]at y1 y2 y3 y4
        go_upto_if 71 with fail
        go_cut [] (fun wx=>oy w w2 w4 y ⟨l.g+S[k].amount,l.c+(if y.kind=1 then S[k].amount else 0),l.t+(if y.jS=true then S[k].amount else 0),l.i+(if y.aO=true then S[k].amount else 0),l.a⟩ wx)
        case first=>
         rcases L:y.aO with _|_;rotate_left
         ·go_wp2;go_meet;have hz:=(C2.abO (l.i+S[k].amount))
          simpa[L]using hz
         ·go_wp2;go_meet;simpa[L]using C2
        case rest=>
         clear U V X Y Z M N O P Q y1 y2 y3 y4 C2;have C3:=hcut;clear hcut;obtain⟨U,V,X,Y,Z⟩:=C3.bs.cells;obtain⟨M,N,O,P,Q⟩:=C3.bs.Au;have y4:=C3.wg.cell 4;simp only[gX,atY,at0,at1]at y4;have aj:∀W',oy w w2 w4 y (Am l y S[k].amount) W'->∃k':Nat,k'<=S.length/\Value.int .i64 ((k:Int)+1)=.int .i64 k'/\Hid (∀j,(hj:j<S.length)->j<k'->(iA n S[j].code).isSome=true)/\Bs W' w2.heap.size (fN n (S.take k'))/\IP (k'*1000000000) (fN n (S.take k'))/\Bs W' w.heap.size ez/\Below w2.heap.size w2 W':=by intro W' hC;refine⟨k+1,by omega,by go_num,Sg.out,by rw[EST.out];exact hC.bs,?_,hC.rs,hC.bh⟩;have e9:((k+1:Nat):Int)*1000000000=(k:Int)*1000000000+1000000000:=(by omega);rw[EST.out,e9];exact Qf
         have jm:=atM aj;clear aj;rcases L:y.gU with _|_
         ·have C4:oy w w2 w4 y (Am l y S[k].amount) wc:=(by simpa[Am,L]using C3);clear C3;go_wp2;go_roundw
          case rel=>
           have T:=jm.out _ C4
           first|exact T|((repeat apply Exists.intro);exact⟨T,rfl⟩)
          case measure=>simp[intOf];omega
         ·have C4:oy w w2 w4 y (Am l y S[k].amount) (wc.setCell ⟨w2.heap.size,4,none⟩ (.int .i64 (l.a+S[k].amount))):=(by simpa[Am,L]using C3.abP (l.a+S[k].amount));clear C3;go_wp2;go_roundw
          case rel=>
           have T:=jm.out _ C4
           first|exact T|((repeat apply Exists.intro);exact⟨T,rfl⟩)
          case measure=>simp[intOf];omega
    ·have kO:S.take k=S:=aut (by omega);rw[kO]at eY k8;have aU:Hid (missing n S=false):=by
      rw[Hid,missing,auC];intro x hx;obtain⟨j,hj,rfl⟩:=aun.1 hx;have:=R.out j hj (by omega);rw[Option.isSome_iff_ne_none]at this;simpa using this
     obtain⟨U,V,X,Y,Z⟩:=eY.cells;obtain⟨p0,p1,p2,p3,p4⟩:=K.cells;obtain⟨M,N,O,P,Q⟩:=K.Au;have ja:Hid (Below w.heap.size w wr):=bm.trans (ae.mono (by omega));have HS:=atM hS;have kS:Hid (eL n p S=if qd (fN n S)=false then 4 else 0):=by simp only[Hid,eL,HV.out,H0.out,aU.out,auw,Bool.true_eq_false,auT,ne_eq,not_true_eq_false]
     have aM:w.heap.size<wr.heap.size:=(by omega);clear hS kO R k8;generalize gu:fN n S=l at*;have aV:=atM gu;clear gu;by_cases a1:cQ l.g=true;rotate_left
     ·have Yp:cQ l.g=false:=(by simpa using a1);have B:Hid (eL n p S=4):=(by rw[Hid,kS.out,atP (by simp[qd,Yp])]);clear a1;go_wp2_with(go_at_call 30;refine(Fx _ _).mono ?_;rintro e w' ⟨rfl,rfl⟩);have u:=(K.put ez)
      have z:Below w.heap.size w _:=D1 ja.out (atN _) (.int .i64 0) (.int .i64 0) (.int .i64 0) (.int .i64 0) (.int .i64 0);simp only[ez]at u;generalize World.setCell _ ⟨w.heap.size,4,none⟩ _=WW at u z|-;obtain⟨D,F,G,I,J⟩:=u.cells;refine at5 (v:=gV n p S) ?_ rfl ⟨by first|rfl|rw[HS.out],z⟩;rw[gV,B.out];simp[results,results87,go_sem,D,F,G,I,J,nw,ez]
     by_cases a2:cQ l.c=true;rotate_left
     ·have aX:cQ l.c=false:=(by simpa using a2);have B:Hid (eL n p S=4):=(by rw[Hid,kS.out,atP (by simp[qd,aX])]);clear a2;go_wp2_with(go_at_call 30;refine(Fx _ _).mono ?_;rintro e w' ⟨rfl,rfl⟩);have u:=(K.put ez)
      have z:Below w.heap.size w _:=D1 ja.out (atN _) (.int .i64 0) (.int .i64 0) (.int .i64 0) (.int .i64 0) (.int .i64 0);simp only[ez]at u;generalize World.setCell _ ⟨w.heap.size,4,none⟩ _=WW at u z|-;obtain⟨D,F,G,I,J⟩:=u.cells;refine at5 (v:=gV n p S) ?_ rfl ⟨by first|rfl|rw[HS.out],z⟩;rw[gV,B.out];simp[results,results87,go_sem,D,F,G,I,J,nw,ez]
     by_cases a3:cQ l.t=true;rotate_left
     ·have aZ:cQ l.t=false:=(by simpa using a3);have B:Hid (eL n p S=4):=(by rw[Hid,kS.out,atP (by simp[qd,aZ])]);clear a3;go_wp2_with(go_at_call 30;refine(Fx _ _).mono ?_;rintro e w' ⟨rfl,rfl⟩);have u:=(K.put ez)
      have z:Below w.heap.size w _:=D1 ja.out (atN _) (.int .i64 0) (.int .i64 0) (.int .i64 0) (.int .i64 0) (.int .i64 0);simp only[ez]at u;generalize World.setCell _ ⟨w.heap.size,4,none⟩ _=WW at u z|-;obtain⟨D,F,G,I,J⟩:=u.cells;refine at5 (v:=gV n p S) ?_ rfl ⟨by first|rfl|rw[HS.out],z⟩;rw[gV,B.out];simp[results,results87,go_sem,D,F,G,I,J,nw,ez]
     by_cases a4:cQ l.i=true;rotate_left
     ·have a0:cQ l.i=false:=(by simpa using a4);have B:Hid (eL n p S=4):=(by rw[Hid,kS.out,atP (by simp[qd,a0])]);clear a4;go_wp2_with(go_at_call 30;refine(Fx _ _).mono ?_;rintro e w' ⟨rfl,rfl⟩);have u:=(K.put ez)
      have z:Below w.heap.size w _:=D1 ja.out (atN _) (.int .i64 0) (.int .i64 0) (.int .i64 0) (.int .i64 0) (.int .i64 0);simp only[ez]at u;generalize World.setCell _ ⟨w.heap.size,4,none⟩ _=WW at u z|-;obtain⟨D,F,G,I,J⟩:=u.cells;refine at5 (v:=gV n p S) ?_ rfl ⟨by first|rfl|rw[HS.out],z⟩;rw[gV,B.out];simp[results,results87,go_sem,D,F,G,I,J,nw,ez]
     by_cases a5:cQ l.a=true;rotate_left
     ·have a6:cQ l.a=false:=(by simpa using a5);have B:Hid (eL n p S=4):=(by rw[Hid,kS.out,atP (by simp[qd,a6])]);clear a5;go_wp2_with(go_at_call 30;refine(Fx _ _).mono ?_;rintro e w' ⟨rfl,rfl⟩);have u:=(K.put ez)
      have z:Below w.heap.size w _:=D1 ja.out (atN _) (.int .i64 0) (.int .i64 0) (.int .i64 0) (.int .i64 0) (.int .i64 0);simp only[ez]at u;generalize World.setCell _ ⟨w.heap.size,4,none⟩ _=WW at u z|-;obtain⟨D,F,G,I,J⟩:=u.cells;refine at5 (v:=gV n p S) ?_ rfl ⟨by first|rfl|rw[HS.out],z⟩;rw[gV,B.out];simp[results,results87,go_sem,D,F,G,I,J,nw,ez]
     have B:Hid (eL n p S=0):=(by rw[Hid,kS.out,atO (by simp[qd,a1,a2,a3,a4,a5])]);go_wp2_with(go_at_call 30;refine(Fx _ _).mono ?_;rintro e w' ⟨rfl,rfl⟩);have u:=(K.put l)
     have z:Below w.heap.size w _:=D1 ja.out (atN _) (.int .i64 l.g) (.int .i64 l.c) (.int .i64 l.t) (.int .i64 l.i) (.int .i64 l.a);generalize World.setCell _ ⟨w.heap.size,4,none⟩ _=WW at u z|-;obtain⟨D,F,G,I,J⟩:=u.cells;refine at5 (v:=gV n p S) ?_ rfl ⟨by rw[HS.out],z⟩;rw[gV,B.out,atP rfl,aV.out];simp[results,results87,go_sem,D,F,G,I,J,nw]
  ·have Gu:(ey p !=0)=true:=(by simpa using h0);have B:Hid (eL n p (bG p)=ey p):=by
    rw[Hid,eL,atO (by simp[HV.out]),atP h0]
   have H0:=atM h0;obtain⟨p0,p1,p2,p3,p4⟩:=aC.cells;obtain⟨M,N,O,P,Q⟩:=aC.Au;have ja:=atM bm;clear h0;go_wp2;have u:=(aC.put ez)
   have z:Below w.heap.size w _:=D1 ja.out (atN _) (.int .i64 0) (.int .i64 0) (.int .i64 0) (.int .i64 0) (.int .i64 0);simp only[ez]at u;generalize World.setCell _ ⟨w.heap.size,4,none⟩ _=WW at u z|-;obtain⟨D,F,G,I,J⟩:=u.cells;refine at5 (v:=gV n p (bG p)) ?_ rfl ⟨by first|rfl|rw[HS.out],z⟩;rw[gV,B.out,atO H0.out];simp[results,results87,go_sem,D,F,G,I,J,nw,ez]
 ·have a7:k9 n=false:=by simpa using hv
  have B:Hid (eL n p (bG p)=1):=by rw[Hid,eL,atP a7]
  obtain⟨p0,p1,p2,p3,p4⟩:=ak.cells;obtain⟨M,N,O,P,Q⟩:=ak.Au;have ja:=atM aS;clear hv;go_wp2;have u:=(ak.put ez)
  have z:Below w.heap.size w _:=D1 ja.out (atN _) (.int .i64 0) (.int .i64 0) (.int .i64 0) (.int .i64 0) (.int .i64 0);simp only[ez]at u;generalize World.setCell _ ⟨w.heap.size,4,none⟩ _=WW at u z|-;obtain⟨D,F,G,I,J⟩:=u.cells;refine at5 (v:=gV n p (bG p)) ?_ rfl ⟨by first|rfl|rw[HS.out],z⟩;rw[gV,B.out];simp[results,results87,go_sem,D,F,G,I,J,nw,ez]
section
variable {before:Bool}{base:Int}{year:List Elem}
theorem aiS(P:List bN)(d:bN)(a:Int):tk before base year (P++[d]) a=tk before base year P a++(if 0<mW before base year d (kF before base year P a)then[⟨d.code,mW before base year d (kF before base year P a)⟩]else[]):=by rw[aoq];simp[tk]
theorem aiT(P:List bN)(d:bN)(a:Int):kF before base year (P++[d]) a=kF before base year P a-mW before base year d (kF before base year P a):=by rw[aor];simp[kF]
theorem aaK{P:List bN}{d:bN}{a n l0:Int}(e:kF before base year P a=l0)(j:mW before base year d l0=n)(h:0<n):
  tk before base year (P++[d]) a=tk before base year P a++[⟨d.code,n⟩]/\kF before base year (P++[d]) a=l0-n:=by
 rw[aiS,aiT,e,j,atP h];exact⟨rfl,rfl⟩
theorem SE{P:List bN}{d:bN}{a l0:Int}(e:kF before base year P a=l0)(j:mW before base year d l0=0):
  tk before base year (P++[d]) a=tk before base year P a/\kF before base year (P++[d]) a=l0:=by
 rw[aiS,aiT,e,j];simp
theorem afo{d:bN}{l0:Int}(h:d.before≠before):mW before base year d l0=0:=by rw[mW,atO h]
end
def EA(l:List bN)(r:Nat):List bN:=(List.range r).flatMap fun(r:Nat)=>l.filter fun d=>decide (d.aT=(r:Int))
def pre(l:List bN)(r i:Nat):List bN:=EA l r++(l.take i).filter fun d=>decide (d.aT=(r:Int))
theorem al1(l:List bN):EA l 100=DZ l:=rfl
theorem alS(l:List bN)(r:Nat):pre l r 0=EA l r:=by simp[pre]
theorem al0(l:List bN)(r:Nat):pre l r l.length=EA l (r+1):=by simp[pre,EA,List.range_succ]
theorem alZ(l:List bN)(r i:Nat)(h:i<l.length)(e:l[i].aT=(r:Int)):pre l r (i+1)=pre l r i++[l[i]]:=by rw[pre,pre,aud h,auE];simp[e]
theorem alY(l:List bN)(r i:Nat)(h:i<l.length)(e:l[i].aT≠(r:Int)):pre l r (i+1)=pre l r i:=by rw[pre,pre,aud h,auE];simp[e]
theorem arb(l:List bN)(h:l.length<=16)(r:Nat):(EA l r).length<=16*r:=by
 induction r with
 |zero=>simp[EA]
 |succ r e=>
  have:EA l (r+1)=EA l r++l.filter fun d=>decide (d.aT=(r:Int)):=by simp[EA,List.range_succ]
  rw[this,at3];have:=auk (fun d:bN=>decide (d.aT=(r:Int))) l;omega
theorem alV(l:List bN)(h:l.length<=16)(r i:Nat):(pre l r i).length<=16*r+16:=by
 have e:=arb l h r;have j:=auk (fun d:bN=>decide (d.aT=(r:Int))) (l.take i);have n:(l.take i).length<=16:=by simp;omega
 rw[pre,at3];omega
theorem alT{l:List bN}{r i:Nat}{x:bN}(h:x∈pre l r i):x∈l:=by
 simp only[pre,EA,aul,List.mem_flatMap,auR]at h;rcases h with⟨_,_,h,_⟩|⟨h,_⟩
 ·exact h
 ·exact auh h
theorem agS{l:List Elem}(h:∀x∈l,0<=x.amount)(c:List UInt8):0<=cR l c/\cR l c<=aB l:=by
 induction l with
 |nil=>simp[cR,aB]
 |cons a l e=>have n:=e (fun x j=>h x (by simp[j]));have p:=h a (by simp);simp only[cR,aB];split<;>omega
theorem aiU{l:List Elem}(h:∀x∈l,0<=x.amount){x:Elem}(e:x∈bG l):0<=x.amount/\x.amount<=aB l:=by rw[mem_sorted (Jv l),SJ]at e;rw[e.2];exact agS h _
theorem alU{P:List bN}(e:∀x∈P,BF x)(before:Bool){base:Int}(year:List Elem)(j:0<=base)(l:base<=1000000000){a:Int}(n:0<=a)(x:Elem)(p:x∈bG (tk before base year P a)):0<=x.amount/\x.amount<=a:=by have r:=aiU (fun y hy=>by have:=(agX e j l a n y hy).2.1;omega) p;rw[agY P e j l a n]at r;have:=Ww (before:=before) (year:=year) e j l a n;omega
theorem afn(P:List bN)(before:Bool)(base:Int)(year:List Elem)(a:Int):(bG (tk before base year P a)).length<=P.length:=at7 (Wc _) (abK _ _)
theorem Wu{l:List bN}{base e:Int}{year:List Elem}(h:gF l=false\/fE year=false):fj l base e year=1:=by
 unfold fj;rcases h with h|h
 ·rw[atP h]
 ·rw[atP h];split<;>rfl
theorem PF{l:List bN}{base e:Int}{year:List Elem}(j:gF l=true)(n:fE year=true)(h:bM base 1000000000=false\/bM e 1000000000=false):fj l base e year=2:=by
 unfold fj;rw[atO (by simp[j]),atO (by simp[n])];rcases h with h|h
 ·rw[atP h]
 ·rw[atP h];split<;>rfl
theorem aaF{l:List bN}{base e:Int}{year:List Elem}(j:gF l=true)(n:fE year=true)(p:bM base 1000000000=true)(r:bM e 1000000000=true):fj l base e year=0:=by unfold fj;rw[atO (by simp[j]),atO (by simp[n]),atO (by simp[p]),atO (by simp[r])]
theorem aaG{l:List bN}{before:Bool}{base e:Int}{year:List Elem}(h:fj l base e year=0):jg l before base e year=bG (tk before base year (DZ l) e):=by rw[jg,atP h]
theorem afl{l:List bN}{before:Bool}{base e:Int}{year:List Elem}(h:fj l base e year≠0):jg l before base e year=[]:=by rw[jg,atO h]
theorem afm{year:List Elem}(h:fE year=true)(c:ByteArray):0<=oh year c/\oh year c<=1000000000000:=
 arc (P:=fun n=>0<=n/\n<=1000000000000) (fun x e=>((BQ.1 h).2.1 x e).2) ⟨by omega,by omega⟩
theorem aiV{a:List Elem}(b:List Elem)(h:jb a):jb (b.foldl put a)/\(∀c,cR (b.foldl put a) c=cR (a++b) c)/\∀c,fI (b.foldl put a) c=fI (a++b) c:=by obtain⟨e,j,l⟩:=WC b a h;exact⟨e,fun c=>by rw[j,QR],fun c=>by rw[l,U5]⟩
theorem ac1{a b:List Elem}(h:jb a)(x:Elem):x∈nN a b↔(fI (a++b) x.code.data.toList=true/\x.amount=cR (a++b) x.code.data.toList/\x.amount≠0):=by obtain⟨e,j,l⟩:=aiV b h;rw[nN,auR,mem_sorted e,j,l];simp[nz,and_assoc]
theorem YY{a:List Elem}(b:List Elem)(h:jb a):jb (nN a b):=(aiV b h).1.filter _
theorem acZ:∀{l m:List Elem},l.Pairwise (fun a b=>a.code≠b.code)->m.Pairwise (fun a b=>a.code≠b.code)->(∀x,x∈l↔x∈m)->l.Perm m
 |[],[],_,_,_=>List.Perm.nil
 |[],b::s,_,_,h=>by have:=(h b).2 (by simp);simp at this
 |a::r,m,p,u,h=>by
  obtain⟨z,B⟩:=aus.1 p;have C:a∈m:=(h a).1 (by simp);obtain⟨s,t,rfl⟩:=List.append_of_mem C;have n:(s++a::t).Perm (a::(s++t)):=List.perm_middle;have D:=u.perm n (fun h e=>h e.symm);obtain⟨E,F⟩:=aus.1 D;refine(List.Perm.cons a (acZ B F (fun x=>?_))).trans n.symm;constructor
  ·intro j;have:=(h x).1 (by simp[j]);have h3:=n.mem_iff.1 this;rcases auf.1 h3 with e|h3
   ·subst e;exact absurd rfl (z x j)
   ·exact h3
  ·intro j;have:=(h x).2 (n.mem_iff.2 (by simp[j]));rcases auf.1 this with e|h3
   ·subst e;exact absurd rfl (E x j)
   ·exact h3
theorem ac0{l:List Elem}(h:jb l):l.Pairwise (fun a b=>a.code≠b.code):=h.imp (by intro a b j e;rw[FB,e]at j;exact avi _ j)
def big(x:Elem):Bool:=decide (1000000000000<x.amount)
def nk(l:List Elem):Bool:=l.any big
theorem ajs(l:List Elem)(x:Elem):nk (l++[x])=(nk l||big x):=by simp[nk]
theorem TY(a b:List Elem):fh a b=if fE a=false then 1 else if b.all oT=false then 1 else if 128<b.length then 3 else if 128<(nN a b).length then 3 else if nk (nN a b)then 4 else 0:=rfl
theorem U2{a b:List Elem}(h:fE a=false\/b.all oT=false):fh a b=1:=by
 rw[TY];rcases h with h|h
 ·rw[atP h]
 ·rw[atP h];split<;>rfl
theorem U4{a b:List Elem}(e:fE a=true)(j:b.all oT=true)(h:128<b.length\/128<(nN a b).length):fh a b=3:=by
 rw[TY,atO (by simp[e]),atO (by simp[j])];rcases h with h|h
 ·rw[atP h]
 ·rw[atP h];split<;>rfl
theorem ac6{a b:List Elem}(e:fE a=true)(j:b.all oT=true)(l:¬128<b.length)(n:¬128<(nN a b).length):fh a b=if nk (nN a b)then 4 else 0:=by rw[TY,atO (by simp[e]),atO (by simp[j]),atO l,atO n]
theorem ac8{a b:List Elem}(h:fh a b=0):nj a b=nN a b:=by rw[nj,atP h]
theorem acU{a b:List Elem}(h:fh a b≠0):nj a b=[]:=by rw[nj,atO h]
theorem U3(x:Elem):oT x=true↔bI x.code=true/\0<=x.amount/\x.amount<=1000000000:=by simp[oT,bM]
theorem acV(l:List Elem)(c:List UInt8)(B:Int)(p:0<=B)(h:∀x∈l,0<=x.amount/\x.amount<=B):0<=cR l c/\cR l c<=l.length*B:=by
 induction l with
 |nil=>simp[cR]
 |cons a l e=>
  have r:=e (fun x j=>h x (by simp[j]));have u:=h a (by simp);simp only[cR,at4];have n:((l.length+1:Nat):Int)*B=l.length*B+B:=by rw[Int.natCast_add,auN];simp
  rw[n];split<;>omega
