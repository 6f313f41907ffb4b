/- Conditions: as stated. -/
import Derived.Deep.Light
import Derived.Test.YtlhkojcmcmkmaaaGreatSNetP
set_option maxRecDepth 100000
set_option maxHeartbeats 8000000
namespace Go.Proofs.YtlhkojcmcmkmaaaGreat
open Go.Proofs.Tryz
open Go.RowKit
theorem apk{a b:Int}(h:a=b):Ending.returned (.int .i64 a)=.returned (.int .i64 b):=by rw[h]
theorem ag8(m:iP)(A:Option Addr)(r:Nat)(l:List cv)(j n inc:Int)(w:World)(h:aj gQ 2 w w.heap.size A l)(C:ig l)(p:nK m.t)(K:0<=j)(L:j<=1000000000)(M:0<=n)(N:n<=1000000000)(O:0<=inc)(P:inc<=1000000000000):
  Calls prog 185 #[m.val,.slice A l.length r,.int .i64 j,.int .i64 n,.int .i64 inc] w fun e w'=>e=.returned (.int .i64 (mH m.t l j n inc))/\Below w.heap.size w w':=by
 have D:mH m.t l j n inc=max (CL l (max (inc-j) 0) m.t.unit m.t.mode-n) 0:=rfl;have E:=arH D;obtain⟨t0,t1⟩:=aaU (mode:=m.t.mode) (inc:=max (inc-j) 0) (unit:=m.t.unit) C (by omega) p.u0;have u0:=p.u0;have u1:=p.u1;have G:=p.Fz;have I:=p.FA;clear D p;unfold iP.val;have F:=ah.new w 41 #[.int .i64 m.t.method,.slice m.Ab m.t.au.length m.cb,.int .i64 m.t.aZ,.int .i64 m.t.bf,.int .i64 m.t.unit,.int .i64 m.t.mode,.slice m.Ar m.t.rows.length m.cr];have u:=bD w (.cells #[.int .i64 m.t.method,.slice m.Ab m.t.au.length m.cb,.int .i64 m.t.aZ,.int .i64 m.t.bf,.int .i64 m.t.unit,.int .i64 m.t.mode,.slice m.Ar m.t.rows.length m.cr] 41);rcases(show max (inc-j) 0=inc-j/\0<=inc-j\/max (inc-j) 0=0/\inc-j<0 by omega)with⟨z,J⟩|⟨z,J⟩
 all_goals
  rw[z]at E t0 t1;clear z;go_enter func185,ntmps185;go_upto_region 1 with fail
  generalize w.alloc (Obj.cells _ _)=W at F u|-;obtain⟨Q,R,S,T,U,V,X⟩:=F.cz7;go_wp2_with fail;refine(am8 A r l _ _ _ W (h.aa u) C (by omega) (by omega) u0 (by omega) G I).mono ?_;rintro e Y ⟨rfl,B⟩;generalize CL l _ m.t.unit m.t.mode=Z at*;go_wp2
  all_goals go_ret;exact⟨apk (by rw[E.out];omega),aB u B⟩
theorem apl(A:Option Addr)(p:Nat)(t:List mM)(j:Int)(w:World)(h:aj nO 2 w w.heap.size A t)(E:Na t)(J:0<=j)(K:j<=1000000000):
  Calls prog 144 #[.slice A t.length p,.int .i64 j] w fun e w'=>e=.returned (.tuple #[.int .i64 (JF t j),.int .i64 0])/\∃q,w'=w.drewN q:=by
 have Q:=E.len;have L:bJ j 1000000000=true:=im.2 ⟨J,K⟩;have l:=afM A p t w _ h E;have F:=arH l;clear l;go_enter func144,ntmps144;go_wp2_with fail;refine arP F.out ?_;rintro e G ⟨rfl,q,u⟩;have z:aj nO 2 G G.heap.size A t:=by rw[u];exact h.U4 q
 have B:=arH u;clear u F h;go_wp2_with fail;refine(JD _ _ _).mono ?_;rintro e w' ⟨rfl,rfl⟩;rw[L];go_wp2
 go_loop [6,7] (fun n i=>∃k:Nat,k<=t.length/\i=.int .i64 k/\n=.int .i64 (DN t j k)) (fun _ i=>t.length-(intOf i).toNat)
 case atStart=>exact⟨0,by omega,rfl,rfl⟩
 case round=>
  obtain⟨k,R,rfl,rfl⟩:=hrel;by_cases r:k<t.length
  ·obtain⟨b,M,rfl,S,C⟩:=z.at_ r;have N:=C 0 _ rfl;have T:=C 1 _ rfl;simp only[arL]at N;have D:Hid (DN t j (k+1)=if(t.getD k ml).bX<=j then(t.getD k ml).aw else DN t j k):=rfl;rw[Ik r]at D;clear C;by_cases O:t[k].bX<=j
   ·go_wp2;go_round
    case rel=>exact⟨k+1,by omega,by go_num,by rw[D.out,arK O]⟩
    case measure=>simp[intOf];omega
   ·go_wp2;go_round
    case rel=>
     have I:∃k':Nat,k'<=t.length/\Value.int .i64 ((k:Int)+1)=.int .i64 k'/\Value.int .i64 (DN t j k)=.int .i64 (DN t j k'):=⟨k+1,by omega,by go_num,by rw[D.out,arJ (by omega)]⟩
     first|exact I|((repeat apply Exists.intro);exact⟨I,rfl⟩)
    case measure=>simp[intOf];omega
  ·obtain rfl:k=t.length:=by omega
   have P:Hid (JF t j=DN t j t.length):=rfl;go_wp2;go_ret2;exact⟨by rw[P.out];rfl,q,B.out⟩
theorem agk{t:AQ}{j e:Int}(l:nK t)(p:0<=j)(r:j<=1000000000)(B:1<=e)(u:e<=53):
  (0<=j*e/\j*e<=53000000000)/\(0<=mH t t.au t.aZ t.bf (j*e)/\mH t t.au t.aZ t.bf (j*e)<=54000000000)/\(mH t t.au t.aZ t.bf (j*e)).tdiv e=FP t j e/\(0<=FP t j e/\FP t j e<=54000000000):=by
 have z:0<=j*e:=asg p (by omega);have C:j*e<=1000000000*53:=asV r u (by omega) (by omega);obtain⟨n,D⟩:=VR (t:=t) (al:=t.aZ) (cr:=t.bf) l.au l.u0 l.u1 l.a0 l.c0 z;refine⟨by omega,by omega,asK n,asG n (by omega),?_⟩;refine Int.le_trans (Int.ediv_le_self _ n) (by omega)
theorem apm(m:iP)(n j:Int)(w:World)(h:m.In w)(B:nK m.t)(F:0<=n)(G:n<=1000000000)(Q:1<=j)(R:j<=53):
  Calls prog 145 #[m.val,.int .i64 n,.int .i64 j] w fun e w'=>e=.returned (.tuple #[.int .i64 (FP m.t n j),.int .i64 0])/\Below w.heap.size w w':=by
 obtain⟨⟨S,X⟩,⟨t0,t1⟩,Y,f0,f1⟩:=agk B F G Q R;have T:bJ n 1000000000=true:=im.2 ⟨F,G⟩;have Z:(j==0)=false:=by rw[ass];omega
 have z:=ah.new w 41 #[.int .i64 m.t.method,.slice m.Ab m.t.au.length m.cb,.int .i64 m.t.aZ,.int .i64 m.t.bf,.int .i64 m.t.unit,.int .i64 m.t.mode,.slice m.Ar m.t.rows.length m.cr];have C:=bD w (.cells #[.int .i64 m.t.method,.slice m.Ab m.t.au.length m.cb,.int .i64 m.t.aZ,.int .i64 m.t.bf,.int .i64 m.t.unit,.int .i64 m.t.mode,.slice m.Ar m.t.rows.length m.cr] 41);have p:=arH B;clear B;unfold iP.val;go_enter func145,ntmps145;go_upto_region 1 with fail
 generalize w.alloc (Obj.cells _ _)=W at z C|-;obtain⟨I,J,K,L,M,N,O⟩:=z.cz7;go_wp2_with fail;have l:=VB m W (h.aa C) p.out;unfold iP.val at l;refine l.mono ?_;rintro e U ⟨rfl,r⟩;have V:=z.aa r;have P:=aB C r;clear l z r I J K L M N O;obtain⟨I,J,K,L,M,N,O⟩:=V.cz7;go_wp2_with fail;refine(JD _ _ _).mono ?_;rintro e w' ⟨rfl,rfl⟩;rw[T];go_wp2_with fail;have l:=ag8 m m.Ab m.cb m.t.au m.t.aZ m.t.bf (n*j) U (h.au.aa P) p.out.au p.out p.out.a0 p.out.a1 p.out.c0 p.out.c1 S (by omega);unfold iP.val at l;refine l.mono ?_;rintro e w2 ⟨rfl,D⟩;clear l;generalize mH m.t m.t.au m.t.aZ m.t.bf (n*j)=tn at*;generalize u:FP m.t n j=fn at*;have E:=arH u;clear u;go_wp2;go_ret2;exact⟨by rw[E.out];rfl,aB P D⟩
theorem abf{t:AQ}{j k:Int}(l:nK t)(z:1<=j)(B:j<=53)(C:1<=k)(u:k<=j):
  ((0<=t.aZ*k/\t.aZ*k<=53000000000)/\(0<=t.bf*k/\t.bf*k<=53000000000))/\((t.aZ*k).tdiv j=t.aZ*k/j/\(t.bf*k).tdiv j=t.bf*k/j)/\(0<=t.aZ*k/j/\t.aZ*k/j<=1000000000)/\(0<=t.bf*k/j/\t.bf*k/j<=1000000000):=by
 have key:∀x:Int,0<=x->x<=1000000000->(0<=x*k/\x*k<=53000000000)/\(x*k).tdiv j=x*k/j/\0<=x*k/j/\x*k/j<=1000000000:=fun x n p=>by have r:0<=x*k:=asg n (by omega);have D:x*k<=1000000000*53:=asV p (by omega) (by omega) (by omega);refine⟨by omega,asK r,asG r (by omega),?_⟩;refine Int.le_trans (Int.ediv_le_of_le_mul (by omega) ?_) p;exact asq u n
 obtain⟨a,b,c⟩:=key t.aZ l.a0 l.a1;obtain⟨d,e,f⟩:=key t.bf l.c0 l.c1;exact⟨⟨a,d⟩,⟨b,e⟩,c,f⟩
theorem apn(m:iP)(j k l:Int)(w:World)(h:m.In w)(N:nK m.t)(O:1<=j)(V:j<=53)(k0:1<=k)(P:k<=j)(X:0<=l)(Y:l<=1000000000000):
  Calls prog 186 #[m.val,.int .i64 j,.int .i64 k,.int .i64 l] w fun e w'=>e=.returned (.tuple #[.int .i64 (nD m.t j k l),.int .i64 0])/\Below w.heap.size w w':=by
 obtain⟨⟨⟨p0,p1⟩,p2,p3⟩,⟨e1,e2⟩,⟨q0,q1⟩,q2,q3⟩:=abf N O V k0 P;have jg:bJ l 1000000000000=true:=im.2 ⟨X,Y⟩;have eY:(j==0)=false:=by rw[ass];omega
 have L:=ah.new w 41 #[.int .i64 m.t.method,.slice m.Ab m.t.au.length m.cb,.int .i64 m.t.aZ,.int .i64 m.t.bf,.int .i64 m.t.unit,.int .i64 m.t.mode,.slice m.Ar m.t.rows.length m.cr];have Q:=bD w (.cells #[.int .i64 m.t.method,.slice m.Ab m.t.au.length m.cb,.int .i64 m.t.aZ,.int .i64 m.t.bf,.int .i64 m.t.unit,.int .i64 m.t.mode,.slice m.Ar m.t.rows.length m.cr] 41);have HD:Hid (nD m.t j k l=mH m.t (ou m.t.au k j) (m.t.aZ*k/j) (m.t.bf*k/j) l):=rfl;have M:=arH N;clear N;unfold iP.val;go_enter func186,ntmps186;go_upto_region 1 with fail
 generalize w.alloc (Obj.cells _ _)=W at L Q|-;obtain⟨C,D,E,F,G,I,J⟩:=L.cz7;go_wp2_with fail;have n:=VB m W (h.aa Q) M.out;unfold iP.val at n;refine n.mono ?_;rintro e w1 ⟨rfl,u⟩;have R:=L.aa u;have Z:=aB Q u;clear n L u C D E F G I J;obtain⟨C,D,E,F,G,I,J⟩:=R.cz7;go_wp2_with fail;refine(JD _ _ _).mono ?_;rintro e w' ⟨rfl,rfl⟩;rw[jg];go_wp2_with fail;refine(ana m.Ab m.cb m.t.au k j w1 (h.au.aa Z) M.out.au (by omega) O P V).mono ?_;rintro e w2 ⟨v2,rfl,r,z⟩;have bE:=R.aa z;have bB:=aB Z z;have EW:=arH (RF (num:=k) (den:=j) M.out.au (by omega) O P);obtain⟨A2,c2,rfl,cF,_,_,_⟩:=r.kM CK;have B:=bE.lt;clear R z r C D E F G I J;obtain⟨C,D,E,F,G,I,J⟩:=bE.cz7;have n:∀p:Bw w2,Calls prog 185 #[.agg #[.int .i64 m.t.method,.slice m.Ab m.t.au.length m.cb,.int .i64 m.t.aZ,.int .i64 m.t.bf,.int .i64 m.t.unit,.int .i64 m.t.mode,.slice m.Ar m.t.rows.length m.cr],.slice A2 (ou m.t.au k j).length c2,.int .i64 (m.t.aZ*k/j),.int .i64 (m.t.bf*k/j),.int .i64 l] p.w' fun e w'=>e=.returned (.int .i64 (nD m.t j k l))/\Below p.w'.heap.size p.w' w':=fun p=>by rw[HD.out];exact ag8 m A2 c2 (ou m.t.au k j) (m.t.aZ*k/j) (m.t.bf*k/j) l p.w' (cF.aa p.h) EW.out M.out q0 q1 q2 q3 X Y
 have S:=arH n;clear n;generalize m.t.aZ*k/j=qa at*;generalize m.t.bf*k/j=qc at*;go_wp2_with fail;have y0:=Bw.cell (w:=w2) (a:=⟨w.heap.size,0,none⟩) (by exact B) C;have y1:=Bw.cell (w:=w2) (a:=⟨w.heap.size,1,none⟩) (by exact B) D;have y2:=Bw.cell (w:=w2) (a:=⟨w.heap.size,2,none⟩) (by exact B) E;have y3:=Bw.cell (w:=w2) (a:=⟨w.heap.size,3,none⟩) (by exact B) F;have y4:=Bw.cell (w:=w2) (a:=⟨w.heap.size,4,none⟩) (by exact B) G;have y5:=Bw.cell (w:=w2) (a:=⟨w.heap.size,5,none⟩) (by exact B) I;have y6:=Bw.cell (w:=w2) (a:=⟨w.heap.size,6,none⟩) (by exact B) J;refine qi (by kernel_rfl) (by kernel_rfl) ?_
 repeat(go_big_quiet_step((with_reducible exact Bw.call _ (S.out _))))
 refine wpQuiet_nil ?_;intro W2 T;obtain⟨⟨W9,U⟩,K⟩:=T;subst K;go_wp2;go_ret2;exact⟨rfl,aB bB U⟩
theorem agl{t:AQ}{e k j:Int}(l:nK t)(n:1<=e)(r:e<=53)(u:1<=k)(p:k<=e)(z:0<=j)(D:j<=1000000000000):0<=nD t e k j/\nD t e k j<=1000000000100:=by obtain⟨_,_,⟨B,_⟩,C,_⟩:=abf l n r u p;have:=VR (t:=t) (inc:=j) (RF (num:=k) (den:=e) l.au (by omega) n p) l.u0 l.u1 B C z;unfold nD;omega
theorem apq(m:iP)(j k l p:Int)(w:World)(h:m.In w)(r:nK m.t)(C:1<=j)(D:j<=53)(E:1<=k)(F:k<=j)(G:0<=l)(I:l<=1000000000000)(M:-1000000000000<=p)(N:p<=1000000000000):
  Calls prog 146 #[m.val,.int .i64 j,.int .i64 k,.int .i64 l,.int .i64 p] w fun e w'=>e=.returned (.tuple #[.int .i64 (nD m.t j k l-p),.int .i64 0])/\Below w.heap.size w w':=by
 obtain⟨d0,d1⟩:=agl r C D E F G I;have J:=ah.new w 41 #[.int .i64 m.t.method,.slice m.Ab m.t.au.length m.cb,.int .i64 m.t.aZ,.int .i64 m.t.bf,.int .i64 m.t.unit,.int .i64 m.t.mode,.slice m.Ar m.t.rows.length m.cr];have u:=bD w (.cells #[.int .i64 m.t.method,.slice m.Ab m.t.au.length m.cb,.int .i64 m.t.aZ,.int .i64 m.t.bf,.int .i64 m.t.unit,.int .i64 m.t.mode,.slice m.Ar m.t.rows.length m.cr] 41);have L:=arH r;clear r;unfold iP.val;go_enter func146,ntmps146;go_upto_region 1 with fail
 generalize w.alloc (Obj.cells _ _)=W at J u|-;obtain⟨O,P,Q,R,S,T,U⟩:=J.cz7;go_wp2_with fail;have n:=apn m j k l W (h.aa u) L.out C D E F G I;unfold iP.val at n;refine n.mono ?_;rintro e V ⟨rfl,z⟩;clear n;generalize K:nD m.t j k l=X at*;have B:=arH K;clear K;go_wp2;go_ret2;exact⟨by rw[B.out];rfl,aB u z⟩
theorem ajC(m:iP)(j r p u l:Int)(E At:Option Addr)(F G lt I:Nat)(w:World)(h:m.In w)(M:nK m.t)(U:1<=j)(V:j<=53)(p0:0<=r)(p1:r<j)(Q:0<=l)(R:l<=1000000000)(X:0<=p)(Y:p<=999000000000)(w0:-1000000000000<=u)(En:u<=1000000000000):
  Calls prog 92 #[m.val,.int .i64 j,.agg #[.int .i64 r,.int .i64 p,.int .i64 u,.slice E F G,.slice At lt I],.int .i64 l] w fun e w'=>e=.returned (.tuple #[.int .i64 (kG m.t j r p u l),.int .i64 0])/\Below w.heap.size w w':=by
 have EP:bJ l 1000000000=true:=im.2 ⟨Q,R⟩;have Ef:bJ p 999000000000=true:=im.2 ⟨X,Y⟩;have N:=(ah.new w 41 #[.int .i64 m.t.method,.slice m.Ab m.t.au.length m.cb,.int .i64 m.t.aZ,.int .i64 m.t.bf,.int .i64 m.t.unit,.int .i64 m.t.mode,.slice m.Ar m.t.rows.length m.cr]).alloc (.cells #[.int .i64 r,.int .i64 p,.int .i64 u,.slice E F G,.slice At lt I] 53);have O:=ah.new (w.alloc (.cells #[.int .i64 m.t.method,.slice m.Ab m.t.au.length m.cb,.int .i64 m.t.aZ,.int .i64 m.t.bf,.int .i64 m.t.unit,.int .i64 m.t.mode,.slice m.Ar m.t.rows.length m.cr] 41)) 53 #[.int .i64 r,.int .i64 p,.int .i64 u,.slice E F G,.slice At lt I];have S:=ej (bD w (.cells #[.int .i64 m.t.method,.slice m.Ab m.t.au.length m.cb,.int .i64 m.t.aZ,.int .i64 m.t.bf,.int .i64 m.t.unit,.int .i64 m.t.mode,.slice m.Ar m.t.rows.length m.cr] 41)) (.cells #[.int .i64 r,.int .i64 p,.int .i64 u,.slice E F G,.slice At lt I] 53);rw[arU]at O;have P:=arH M;have C:Hid (kG m.t j r p u l=if m.t.method=1 then JF m.t.rows l else if m.t.method=2 then FP m.t l j else nD m.t j (r+1) (p+l)-u):=rfl;have ab:=M.m0;have ad:=M.m1;clear M;unfold iP.val;go_enter func92,ntmps92;go_upto_region 1 with fail
 generalize (w.alloc (Obj.cells #[.int .i64 m.t.method,.slice m.Ab m.t.au.length m.cb,.int .i64 m.t.aZ,.int .i64 m.t.bf,.int .i64 m.t.unit,.int .i64 m.t.mode,.slice m.Ar m.t.rows.length m.cr] 41)).alloc (Obj.cells #[.int .i64 r,.int .i64 p,.int .i64 u,.slice E F G,.slice At lt I] 53)=W at N O S|-;obtain⟨J,Z,z2,z3,z4,z5,z6⟩:=N.cz7;go_wp2_with fail;have n:=VB m W (h.aa S) P.out;unfold iP.val at n;refine n.mono ?_;rintro e T ⟨rfl,z⟩;have aK:=N.aa z;have jk:=O.aa z;have D:=aB S z;clear n N O z J Z z2 z3 z4 z5 z6;obtain⟨J,Z,z2,z3,z4,z5,z6⟩:=aK.cz7;obtain⟨X,Y,y2,y3,y4⟩:=jk.cz5;go_wp2_with fail;refine(JD _ _ _).mono ?_;rintro e w' ⟨rfl,rfl⟩;rw[EP];go_wp2_with fail;refine(JD _ _ _).mono ?_;rintro e w' ⟨rfl,rfl⟩;rw[Ef];have Jo:m.t.method=1\/m.t.method=2\/m.t.method=3:=by omega
 rcases Jo with hm|hm|hm
 ·have HR:=arH (P.out.rows hm);have K:Hid (kG m.t j r p u l=JF m.t.rows l):=by rw[Hid,C.out,arK hm]
  rw[hm]at J;clear C hm;go_wp2_with fail;refine(apl m.Ar m.cr m.t.rows l T (h.rows.aa D) HR.out Q R).mono ?_;rintro e w2 ⟨rfl,q2,rfl⟩;go_wp2;go_ret2;exact⟨by rw[K.out];rfl,below_drewN D q2⟩
 ·have K:Hid (kG m.t j r p u l=FP m.t l j):=by rw[Hid,C.out,arJ (by omega),arK hm]
  have n:=apm m l j T (h.aa D) P.out Q R U V;unfold iP.val at n;have L:=arH n;rw[hm]at J L;clear n C hm;go_wp2_with fail;refine arP L.out ?_;rintro e w2 ⟨rfl,B⟩;go_wp2;go_ret2;exact⟨by rw[K.out];rfl,aB D B⟩
 ·have K:Hid (kG m.t j r p u l=nD m.t j (r+1) (p+l)-u):=by rw[Hid,C.out,arJ (by omega),arJ (by omega)]
  have n:=apq m j (r+1) (p+l) u T (h.aa D) P.out U V (by omega) (by omega) (by omega) (by omega) w0 En;unfold iP.val at n;have L:=arH n;rw[hm]at J L;clear n C hm;go_wp2_with fail;refine arP L.out ?_;rintro e w2 ⟨rfl,B⟩;go_wp2;go_ret2;exact⟨by rw[K.out];rfl,aB D B⟩
def ng(e:List cO)(i:Nat)(x:cO):Bool:=
 bK x.code&&(decide (i=0)||(match e[i-1]?with|some p=>Op.bytesLess p.code.toList x.code.toList|none=>true))&&(x.kind==1||x.kind==2)&&!(x.kind==2&&x.gi)&&(decide (1000<=x.eQ)&&decide (x.eQ<=9999))
def kf(e:List cO):Bool:=decide (e.length<=64)&&decide (∀i,(h:i<e.length)->ng e i e[i]=true)
theorem ag9{e:List cO}{i:Nat}(h:i<e.length)(j:ng e i e[i]=false):kf e=false:=by unfold kf;simp only[Bool.and_eq_false_iff,asF];right;intro l;have:=l i h;rw[j]at this;cases this
theorem aaA{e:List cO}(j:e.length<=64)(h:∀i,(h:i<e.length)->ng e i e[i]=true):kf e=true:=by unfold kf;simp only[ar5,ar7];exact⟨j,h⟩
theorem Sw(e:List cO)(i:Nat)(x:cO)(l:Bool)(j:i=0\/(∃p,e[i-1]?=some p/\l=Op.bytesLess p.code.toList x.code.toList)):
  ng e i x=decide (bK x.code=true/\(i=0\/l=true)/\(x.kind=1\/x.kind=2)/\¬(x.kind=2/\x.gi=true)/\1000<=x.eQ/\x.eQ<=9999):=by
 rw[Bool.eq_iff_iff];rcases j with rfl|⟨p,n,rfl⟩
 ·simp[ng,and_assoc]
 ·simp[ng,n,and_assoc]
theorem afq(A:Option Addr)(M:Nat)(l:List cO)(w:World)(h:aj gG 6 w w.heap.size A l)(Q:∀x∈l,x.code.size<=maxLen)(U:l.length<=9223372036854775807):
    Calls prog 153 #[.slice A l.length M] w fun e w'=>e=.returned (.bool (kf l))/\Below w.heap.size w w':=by
  have V:=arH Q;clear Q;by_cases F:64<l.length
  · have X:Hid (kf l=false):=by simp[Hid,kf];intro;omega
    go_enter func153,ntmps153;go_wp2;go_ret;exact⟨by rw[X.out];rfl,arM _ _⟩
  · have Y:l.length<=64:=by omega
    clear F U;go_enter func153,ntmps153;go_wp2
    go_loopw [10] (fun i wr=>∃k:Nat,k<=l.length/\i=.int .i64 k/\Hid (∀j,(z:j<l.length)->j<k->ng l j l[j]=true)/\Below w.heap.size w wr) (fun i _=>l.length-(intOf i).toNat)
    case atStart=>exact⟨0,by omega,rfl,fun j _ z=>absurd z (by omega),arM _ _⟩
    case round=>
      obtain⟨k,hk,rfl,u,n⟩:=hrel;by_cases B:k<l.length
      · obtain⟨b,Z,rfl,hb,C⟩:=(h.below n).at_ B
        have c0:=C 0 _ rfl;have c1:=C 1 _ rfl;have c2:=C 2 _ rfl;have c3:=C 3 _ rfl;have c4:=C 4 _ rfl;have c5:=C 5 _ rfl;simp only[arL]at c0;have R:=V.out _ (arO B);have ab:∀r,ng l k l[k]=r->Hid (ng l k l[k]=r):=fun r h=>h;have D:=n.size;have L:=arH (@ag9 l k B);clear C;have S:Below w.heap.size w (wr.alloc (.cells (gG l[k]).toArray 77)):=n.alloc D _;rcases arY 0 k with fS|fS;rotate_left
        · have G:=Sw l k l[k] true (.inl (by omega))
          have ad:decide ((0:Int)<(k:Int))=false:=(by simp;omega);have af:decide (0<k)=false:=(by simp;omega);have I:=arH G;clear G;go_wp2_with(go_at_call 82;refine(Cq _ _ R).mono ?_;rintro e w' ⟨rfl,rfl⟩)
          · have p:(!bK l[k].code)=true:=by assumption
            go_ret;exact⟨by rw[L.out (by simp at p;simp[ng,p])];rfl,S⟩
          · have p:(!bK l[k].code)=false:=by assumption
            go_quiet(fail);go_wp2
            all_goals first
              |(
                 go_ret;refine⟨?_,below_drewN (n.alloc D _) _⟩;have N:ng l k l[k]=false:=by
                   go_light
                   rw[I.out];apply asX;rintro⟨h1,O,h3,h4,h5,h6⟩
                   first|omega|(simp_all;done)|(simp_all;omega)
                 rw[L.out N];rfl)
              |(
                 go_roundw
                 case rel=>
                   have J:∀j,(z:j<l.length)->j<k+1->ng l j l[j]=true:=by
                     intro j z P;obtain rfl:j=k:=by omega
                     go_light
                     rw[I.out];apply asN;refine⟨by simpa using p,by omega,?_,?_,?_,?_⟩
                     all_goals first|omega|(simp_all;done)|(simp_all;omega)
                   first|exact⟨k+1,by omega,by go_num,J,below_drewN (n.alloc D _) _⟩|((repeat apply Exists.intro);exact⟨⟨k+1,by omega,by go_num,J,below_drewN (n.alloc D _) _⟩,rfl⟩)
                 case measure=>simp[intOf];omega)
        · obtain⟨m,rfl⟩:∃m,k=m+1:=⟨k-1,by omega⟩
          obtain⟨b',T,E,ai,K⟩:=(h.below n).at_ (show m<l.length by omega);injection E with E
          injection E with h1 O
          subst h1 O;have p0:=K 0 _ rfl;simp only[arL]at p0;have G:=Sw l (m+1) l[m+1] _ (.inr ⟨l[m],by simp,rfl⟩);have I:=arH G;have Jf:b<wr.heap.size:=(by omega);clear K G;go_wp2_with(go_at_call 82;refine(Cq _ _ R).mono ?_;rintro e w' ⟨rfl,rfl⟩)
          · have p:(!bK l[m+1].code)=true:=by assumption
            go_ret;exact⟨by rw[L.out (by simp at p;simp[ng,p])];rfl,S⟩
          · have p:(!bK l[m+1].code)=false:=by assumption
            go_quiet(fail);go_wp2
            all_goals first
              |(
                 go_ret;refine⟨?_,below_drewN (n.alloc D _) _⟩;have N:ng l (m+1) l[m+1]=false:=by
                   go_light
                   rw[I.out];apply asX;rintro⟨h1,O,h3,h4,h5,h6⟩
                   first|omega|(simp_all;done)|(simp_all;omega)
                 rw[L.out N];rfl)
              |(
                 go_roundw
                 case rel=>
                   have J:∀j,(z:j<l.length)->j<m+1+1->ng l j l[j]=true:=by
                     intro j z P;rcases arY j (m+1)with h1|h1
                     · exact u.out j z h1
                     · obtain rfl:j=m+1:=by omega
                       go_light
                       rw[I.out];apply asN;refine⟨by simpa using p,.inr (by simp_all),?_,?_,?_,?_⟩
                       all_goals first|omega|(simp_all;done)|(simp_all;omega)
                   first|exact⟨m+1+1,by omega,by go_num,J,below_drewN (n.alloc D _) _⟩|((repeat apply Exists.intro);exact⟨⟨m+1+1,by omega,by go_num,J,below_drewN (n.alloc D _) _⟩,rfl⟩)
                 case measure=>simp[intOf];omega)
      · go_wp2
        go_ret;exact⟨by rw[aaA Y (fun i hi=>u.out i hi (by omega))];rfl,n⟩
def nd:cO:=⟨⟨#[]⟩,0,false,false,false,0⟩
def IP(c:ByteArray)(x:cO):Bool:=x.code.toList==c.toList
def dJ(xs:List cO)(c:ByteArray):Option cO:=xs.find? (IP c)
def pj(o:Option cO):Value:=.tuple #[.agg (gG (o.getD nd)).toArray,.bool o.isSome]
theorem aha{xs:List cO}{c:ByteArray}{k:Nat}(l:k<xs.length)(h:∀j,(e:j<xs.length)->j<k->IP c xs[j]=false)(n:IP c xs[k]=true):dJ xs c=some xs[k]:=by unfold dJ;rw[List.find?_eq_some_iff_getElem];refine⟨n,k,l,rfl,fun j e=>?_⟩;rw[h j (by omega) e];rfl
theorem ahb{xs:List cO}{c:ByteArray}(h:∀j,(e:j<xs.length)->IP c xs[j]=false):dJ xs c=none:=by unfold dJ;rw[List.find?_eq_none];intro x l;obtain⟨j,e,rfl⟩:=aso.1 l;rw[h j e];simp
theorem aan(A:Option Addr)(D:Nat)(xs:List cO)(c:ByteArray)(w:World)(h:aj gG 6 w w.heap.size A xs)(Z:xs.length<=9223372036854775806):
  Calls prog 74 #[.slice A xs.length D,.string c] w fun e w'=>e=.returned (pj (dJ xs c))/\Below w.heap.size w w':=by
 go_enter func74,ntmps74;go_wp2
 go_loopw [10] (fun i wr=>∃k:Nat,k<=xs.length/\i=.int .i64 k/\Hid (∀j,(r:j<xs.length)->j<k->IP c xs[j]=false)/\Below w.heap.size w wr/\ah wr w.heap.size 77 (gG nd).toArray) (fun i _=>xs.length-(intOf i).toNat)
 case atStart=>exact⟨0,by omega,rfl,fun j _ r=>absurd r (by omega),(arM _ _).alloc (arI _) _,ah.new _ _ _⟩
 case round=>
  obtain⟨k,hk,rfl,n,C,l⟩:=hrel;have hz:=l.lt;have N:=l.cell 0;have O:=l.cell 1;have P:=l.cell 2;have Q:=l.cell 3;have R:=l.cell 4;have S:=l.cell 5;obtain⟨f0,f1,f2,f3,f4,f5⟩:=l.fz6;simp only[gG,nd,arQ,arR,arS]at N O P Q R S;by_cases u:k<xs.length
  ·obtain⟨b,T,rfl,hb,p⟩:=(h.below C).at_ u;have U:=p 0 _ rfl;have c1:=p 1 _ rfl;have c2:=p 2 _ rfl;have c3:=p 3 _ rfl;have c4:=p 4 _ rfl;have c5:=p 5 _ rfl;simp only[arL]at U;clear p;have lx:b<wr.heap.size:=(by omega);by_cases E:(xs[k].code.toList==c.toList)=true
   ·have F:=arH (aha u n.out E);go_wp2;have z:=(l.Vs rfl (.string xs[k].code) (.int .i64 xs[k].kind) (.bool xs[k].jy) (.bool xs[k].aM) (.bool xs[k].gi) (.int .i64 xs[k].eQ)).alloc (Obj.cells #[Value.string xs[k].code,Value.int IntKind.i64 xs[k].kind,Value.bool xs[k].jy,Value.bool xs[k].aM,Value.bool xs[k].gi,Value.int IntKind.i64 xs[k].eQ] 77);have B:Below w.heap.size w _:=(il (il (il (il (il (il C (arI _) 0 (.string xs[k].code)) (arI _) 1 (.int .i64 xs[k].kind)) (arI _) 2 (.bool xs[k].jy)) (arI _) 3 (.bool xs[k].aM)) (arI _) 4 (.bool xs[k].gi)) (arI _) 5 (.int .i64 xs[k].eQ)).alloc (by simp;omega) (Obj.cells #[Value.string xs[k].code,Value.int IntKind.i64 xs[k].kind,Value.bool xs[k].jy,Value.bool xs[k].aM,Value.bool xs[k].gi,Value.int IntKind.i64 xs[k].eQ] 77);generalize World.alloc _ _=V at z B|-;obtain⟨G,I,J,K,L,M⟩:=z.cz6;refine arX (v:=pj (some xs[k])) (by simp[results,results74,go_sem,G,I,J,K,L,M,pj,gG]) rfl ⟨by rw[F.out],B⟩
   ·have X:(xs[k].code.toList==c.toList)=false:=(by simpa using E);clear E;go_wp2;go_roundw
    case rel=>
     refine⟨k+1,by omega,by go_num,fun j r Y=>?_,C.alloc (by omega) _,l.alloc _⟩;rcases arY j k with h1|h1
     ·exact n.out j r h1
     ·obtain rfl:j=k:=by omega
      exact X
    case measure=>simp[intOf];omega
  ·have F:=arH (ahb (xs:=xs) (c:=c) (fun j r=>n.out j r (by omega)));go_wp2;have z:=l.Vs rfl (.string {data:=#[]}) (.int .i64 0) (.bool false) (.bool false) (.bool false) (.int .i64 0);have B:Below w.heap.size w _:=il (il (il (il (il (il C (arI _) 0 (.string {data:=#[]})) (arI _) 1 (.int .i64 0)) (arI _) 2 (.bool false)) (arI _) 3 (.bool false)) (arI _) 4 (.bool false)) (arI _) 5 (.int .i64 0);generalize World.setCell _ _ (Value.int .i64 0)=V at z B|-;obtain⟨G,I,J,K,L,M⟩:=z.cz6;refine arX (v:=pj none) (by simp[results,results74,go_sem,G,I,J,K,L,M,pj,gG,nd]) rfl ⟨by rw[F.out],B⟩
theorem ZP(A:Option Addr)(D:Nat)(xs:List cO)(c:ByteArray)(w:World)(h:aj gG 6 w w.heap.size A xs)(Z:xs.length<=9223372036854775806):
  Calls prog 80 #[.slice A xs.length D,.string c] w fun e w'=>e=.returned (pj (dJ xs c))/\Below w.heap.size w w':=by
 go_enter func80,ntmps80;go_wp2
 go_loopw [6] (fun i wr=>∃k:Nat,k<=xs.length/\i=.int .i64 k/\Hid (∀j,(r:j<xs.length)->j<k->IP c xs[j]=false)/\Below w.heap.size w wr/\ah wr w.heap.size 77 (gG nd).toArray) (fun i _=>xs.length-(intOf i).toNat)
 case atStart=>exact⟨0,by omega,rfl,fun j _ r=>absurd r (by omega),(arM _ _).alloc (arI _) _,ah.new _ _ _⟩
 case round=>
  obtain⟨k,hk,rfl,n,C,l⟩:=hrel;have hz:=l.lt;have N:=l.cell 0;have O:=l.cell 1;have P:=l.cell 2;have Q:=l.cell 3;have R:=l.cell 4;have S:=l.cell 5;obtain⟨f0,f1,f2,f3,f4,f5⟩:=l.fz6;simp only[gG,nd,arQ,arR,arS]at N O P Q R S;by_cases u:k<xs.length
  ·obtain⟨b,T,rfl,hb,p⟩:=(h.below C).at_ u;have U:=p 0 _ rfl;have c1:=p 1 _ rfl;have c2:=p 2 _ rfl;have c3:=p 3 _ rfl;have c4:=p 4 _ rfl;have c5:=p 5 _ rfl;simp only[arL]at U;clear p;have lx:b<wr.heap.size:=(by omega);by_cases E:(xs[k].code.toList==c.toList)=true
   ·have F:=arH (aha u n.out E);go_wp2;have z:=l.Vs rfl (.string xs[k].code) (.int .i64 xs[k].kind) (.bool xs[k].jy) (.bool xs[k].aM) (.bool xs[k].gi) (.int .i64 xs[k].eQ);have B:Below w.heap.size w _:=il (il (il (il (il (il C (arI _) 0 (.string xs[k].code)) (arI _) 1 (.int .i64 xs[k].kind)) (arI _) 2 (.bool xs[k].jy)) (arI _) 3 (.bool xs[k].aM)) (arI _) 4 (.bool xs[k].gi)) (arI _) 5 (.int .i64 xs[k].eQ);generalize World.setCell _ _ (Value.int .i64 xs[k].eQ)=V at z B|-;obtain⟨G,I,J,K,L,M⟩:=z.cz6;refine arX (v:=pj (some xs[k])) (by simp[results,results80,go_sem,G,I,J,K,L,M,pj,gG]) rfl ⟨by rw[F.out],B⟩
   ·have X:(xs[k].code.toList==c.toList)=false:=(by simpa using E);clear E;go_wp2;go_roundw
    case rel=>
     refine⟨k+1,by omega,by go_num,fun j r Y=>?_,C,l⟩;rcases arY j k with h1|h1
     ·exact n.out j r h1
     ·obtain rfl:j=k:=by omega
      exact X
    case measure=>simp[intOf];omega
  ·have F:=arH (ahb (xs:=xs) (c:=c) (fun j r=>n.out j r (by omega)));go_wp2;have z:=l.Vs rfl (.string {data:=#[]}) (.int .i64 0) (.bool false) (.bool false) (.bool false) (.int .i64 0);have B:Below w.heap.size w _:=il (il (il (il (il (il C (arI _) 0 (.string {data:=#[]})) (arI _) 1 (.int .i64 0)) (arI _) 2 (.bool false)) (arI _) 3 (.bool false)) (arI _) 4 (.bool false)) (arI _) 5 (.int .i64 0);generalize World.setCell _ _ (Value.int .i64 0)=V at z B|-;obtain⟨G,I,J,K,L,M⟩:=z.cz6;refine arX (v:=pj none) (by simp[results,results80,go_sem,G,I,J,K,L,M,pj,gG,nd]) rfl ⟨by rw[F.out],B⟩
theorem Fj(n:Int)(w:World):
  Calls prog 30 #[.int .i64 n] w fun e w'=>e=.returned (.bool (cy n))/\w=w':=by
 by_cases l:-1000000000<=n<;>by_cases p:n<=1000000000
 all_goals
  have j:cy n=(decide (-1000000000<=n)&&decide (n<=1000000000)):=by simp[cy]
  have r:=arH j;clear j;go_enter func30,ntmps30;go_wp2;go_ret;exact⟨by rw[r.out];simp[l,p],rfl⟩
def dU(l:List Elem):Int:=if 128<l.length then 3 else if l.any (fun x=>!bK x.code)then 7 else if l.any (fun x=>!cy x.amount)then 2 else if(bF l).any (fun x=>!cy x.amount)then 4 else 0
def PV(l:List Elem):List Elem:=if dU l=0 then bF l else[]
def BG(l:List Elem):List Elem:=if dU l=0 then(bF l).filter nz else[]
theorem ahc(A:Option Addr)(X:Nat)(l:List Elem)(w:World)(h:aj aQ 2 w w.heap.size A l)(hz:∀x∈l,x.code.size<=maxLen)(hl:l.length<=9223372036854775807):
  Calls prog 131 #[.slice A l.length X] w fun r w'=>∃v,r=.returned (.tuple #[v,.int .i64 (dU l)])/\Own aQ 2 69 w' w.heap.size v (PV l)/\Below w.heap.size w w':=by
 have HZ:=arH hz;clear hz;have Az:∀(n:Int) (W:World),n≠0->dU l=n->Below w.heap.size w W->∃v,Ending.returned (.tuple #[.slice none 0 0,.int .i64 n])=.returned (.tuple #[v,.int .i64 (dU l)])/\Own aQ 2 69 W w.heap.size v (PV l)/\Below w.heap.size w W:=by intro n W z he R;refine⟨.slice none 0 0,by rw[he],?_,R⟩;rw[PV,arJ (by rw[he];exact z)];exact Own.cL _ _
 have B:=arH Az;clear Az;by_cases L:128<l.length
 ·have J:Hid (dU l=3):=by simp only[Hid,dU,arK L]
  go_enter func131,ntmps131;go_wp2;go_ret2;exact B.out 3 _ (by omega) J.out (arM _ _)
 ·have mD:l.length<=128:=by omega
  clear L hl;go_enter func131,ntmps131;go_wp2
  go_loopw [4] (fun i wr=>∃k:Nat,k<=l.length/\i=.int .i64 k/\Hid (∀j,(u:j<l.length)->j<k->bK l[j].code=true)/\Below w.heap.size w wr) (fun i _=>l.length-(intOf i).toNat)
  case atStart=>exact⟨0,by omega,rfl,fun j _ u=>absurd u (by omega),arM _ _⟩
  case round=>
   obtain⟨k,hk,rfl,p,E⟩:=hrel;have T:=E.size;by_cases D:k<l.length
   ·obtain⟨b,N,rfl,R,K⟩:=(h.below E).at_ D;have Y:=K 0 _ rfl;simp only[arL]at Y;clear K;have fB:=HZ.out _ (arO D);go_wp2_with fail;refine(BZ _ _ fB).mono ?_;rintro e w1 ⟨rfl,M⟩;have U:=IU E M T;by_cases z:bK l[k].code=true
    ·go_wp2;go_roundw
     case rel=>
      refine⟨k+1,by omega,by go_num,fun j u O=>?_,U⟩;rcases arY j k with h1|h1
      ·exact p.out j u h1
      ·obtain rfl:j=k:=by omega
       exact z
     case measure=>simp[intOf];omega
    ·have P:bK l[k].code=false:=(by simpa using z);have J:Hid (dU l=7):=by
      have Q:l.any (fun x=>!bK x.code)=true:=asx.2 ⟨l[k],arO _,by simp[P]⟩;simp only[Hid,dU,arJ (show¬128<l.length by omega),Q,ash]
     clear z;go_wp2;go_ret2;exact B.out 7 _ (by omega) J.out U
   ·have Q:Hid (l.any (fun x=>!bK x.code)=false):=by
     rw[Hid,asr];intro x F;obtain⟨j,u,rfl⟩:=aso.1 F;simp[p.out j u (by omega)]
    obtain⟨wo,rfl⟩:∃wo:World,wo=wr:=⟨_,rfl⟩
    go_wp2;clear p hk D
    go_loopw [5,6] (fun v i wr=>∃k:Nat,k<=l.length/\i=.int .i64 k/\Hid (∀j,(u:j<l.length)->j<k->cy l[j].amount=true)/\Own aQ 2 69 wr w.heap.size v (bF (l.take k))/\IX (k*1000000000) (bF (l.take k))/\(bF (l.take k)).length<=k/\Below w.heap.size w wr) (fun _ i _=>l.length-(intOf i).toNat)
    case atStart=>exact⟨0,by omega,rfl,fun j _ u=>absurd u (by omega),Own.cL _ _,(fun x F=>by simp[bF]at F),by simp[bF],E⟩
    case round=>
     obtain⟨k,hk,rfl,p,G,Z,ab,E⟩:=hrel;have T:=E.size;obtain⟨A5,c5,rfl,cZ,eJ,oW,oX⟩:=G.kM dB;by_cases D:k<l.length
     ·obtain⟨b,N,rfl,R,K⟩:=(h.below E).at_ D;have Y:=K 0 _ rfl;have c1:=K 1 _ rfl;simp only[arL]at Y;clear K;by_cases z:cy l[k].amount=true
      ·have mU:-1000000000<=l[k].amount/\l[k].amount<=1000000000:=(by simpa[cy]using z);have HN:=arH z;go_wp2_with(go_at_call 30;refine(Fj _ _).mono ?_;rintro e w' ⟨rfl,rfl⟩);refine(UU A5 c5 (bF (l.take k)) l[k] _ cZ oW oX (by omega) (fun x F=>by have:=Z x F;omega) (by omega) (by omega)).mono ?_;rintro e w1 ⟨v1,rfl,I,M⟩;have U:=IU E M T;have e1:put (bF (l.take k)) l[k]=bF (l.take (k+1)):=(by rw[ar9 D,Z5]);have Pv:=Z.put (C:=1000000000) (e:=l[k]) (by omega) (by omega) (by omega) (by omega);have ad:=Z7 (bF (l.take k)) l[k];rw[e1]at I Pv ad;have E1:=arH e1;clear e1;go_wp2;go_roundw
       case rel=>
        refine⟨k+1,by omega,by go_num,fun j u O=>?_,I.weaken T,?_,by omega,U⟩
        ·rcases arY j k with h1|h1
         ·exact p.out j u h1
         ·obtain rfl:j=k:=by omega
          exact HN.out
        ·intro x F;have:=Pv x F;omega
       case measure=>simp[intOf];omega
      ·have P:cy l[k].amount=false:=(by simpa using z);have J:Hid (dU l=2):=by
        have V:l.any (fun x=>!cy x.amount)=true:=asx.2 ⟨l[k],arO _,by simp[P]⟩;simp only[Hid,dU,arJ (show¬128<l.length by omega),Q.out,V,ash,asC,asj]
       clear z;go_wp2_with(go_at_call 30;refine(Fj _ _).mono ?_;rintro e w' ⟨rfl,rfl⟩);go_ret2;exact B.out 2 _ (by omega) J.out E
     ·have V:Hid (l.any (fun x=>!cy x.amount)=false):=by
       rw[Hid,asr];intro x F;obtain⟨j,u,rfl⟩:=aso.1 F;simp[p.out j u (by omega)]
      have ek:l.take k=l:=asB (by omega);rw[ek]at G Z ab cZ oW;rw[show(bF (l.take k)).length=(bF l).length by rw[ek]];obtain⟨wp,rfl⟩:∃wp:World,wp=wr:=⟨_,rfl⟩
      clear p ek;go_wp2;generalize hS:bF l=S at*;have nJ:=arH hS;clear hS
      go_loop [7] (fun i=>∃k:Nat,k<=S.length/\i=.int .i64 k/\Hid (∀j,(u:j<S.length)->j<k->cy S[j].amount=true)) (fun i=>S.length-(intOf i).toNat)
      case atStart=>exact⟨0,by omega,rfl,fun j _ u=>absurd u (by omega)⟩
      case round=>
       obtain⟨m,hm,rfl,p⟩:=hrel;by_cases af:m<S.length
       ·obtain⟨b,N,rfl,R,K⟩:=cZ.at_ af;have c1:=K 1 _ rfl;clear K;by_cases z:cy S[m].amount=true
        ·have HN:=arH z;go_wp2_with(go_at_call 30;refine(Fj _ _).mono ?_;rintro e w' ⟨rfl,rfl⟩);go_round
         case rel=>
          refine⟨m+1,by omega,by go_num,fun j u O=>?_⟩;rcases arY j m with h1|h1
          ·exact p.out j u h1
          ·obtain rfl:j=m:=by omega
           exact HN.out
         case measure=>simp[intOf];omega
        ·have P:cy S[m].amount=false:=(by simpa using z);have J:Hid (dU l=4):=by
          have h4:S.any (fun x=>!cy x.amount)=true:=asx.2 ⟨S[m],arO _,by simp[P]⟩;simp only[Hid,dU,arJ (show¬128<l.length by omega),Q.out,V.out,nJ.out,h4,ash,asC,asj]
         clear z;go_wp2_with(go_at_call 30;refine(Fj _ _).mono ?_;rintro e w' ⟨rfl,rfl⟩);go_ret2;exact B.out 4 _ (by omega) J.out E
       ·have J:Hid (dU l=0):=by
         have h4:S.any (fun x=>!cy x.amount)=false:=by rw[asr];intro x F;obtain⟨j,u,rfl⟩:=aso.1 F;simp[p.out j u (by omega)]
         simp only[Hid,dU,arJ (show¬128<l.length by omega),Q.out,V.out,nJ.out,h4,asC,asj]
        go_wp2;go_ret2;refine⟨_,by rw[J.out];rfl,?_,E⟩;rw[PV,arK J.out,nJ.out];exact G
theorem ajW(A:Option Addr)(u:Nat)(j:List Elem)(w:World)(h:aj aQ 2 w w.heap.size A j)(J:∀x∈j,x.code.size<=maxLen)(O:j.length<=9223372036854775807):
  Calls prog 88 #[.slice A j.length u] w fun r w'=>∃v,r=.returned (.tuple #[v,.int .i64 (dU j)])/\Own aQ 2 69 w' w.heap.size v (BG j)/\Below w.heap.size w w':=by
 have K:dU j=0->(bF j).length<=1000000:=by
  intro l;have:j.length<=128:=by
   rcases arY 128 j.length with h1|h1
   ·rw[dU,arK h1]at l;cases l
   ·exact h1
  have:=Vm j;omega
 have P:=arH K;clear K;go_enter func88,ntmps88;go_wp2_with fail;refine(ahc A u j _ h J O).mono ?_;rintro e E ⟨v1,rfl,n,p⟩;by_cases l:dU j=0
 ·have L:=P.out l;have F:=arH l;rw[PV,arK l]at n;have Q:Hid (BG j=(bF j).filter nz):=by rw[Hid,BG,arK l]
  rw[l];obtain⟨A5,c5,rfl,R,eJ,oW,oX⟩:=n.kM dB;generalize hS:bF j=S at*;clear hS l J h;have z:=p.size;go_wp2
  go_loopw [6,7] (fun v i wr=>∃k:Nat,k<=S.length/\i=.int .i64 k/\Own aQ 2 69 wr E.heap.size v ((S.take k).filter nz)/\Below E.heap.size E wr) (fun _ i _=>S.length-(intOf i).toNat)
  case atStart=>exact⟨0,by omega,rfl,Own.cL _ _,arM _ _⟩
  case round=>
   obtain⟨k,hk,rfl,B,C⟩:=hrel;have bA:=C.size;by_cases D:k<S.length
   ·obtain⟨b,T,rfl,hb,G⟩:=(R.below C).at_ D;have U:=G 0 _ rfl;have c1:=G 1 _ rfl;simp only[arL]at U;clear G;have M:S.take (k+1)=S.take k++[S[k]]:=ar9 D;have N:=arH M;clear M;have Ca:((S.take k).filter nz).length<=k:=ar0 (asi _ _) (by simp;omega);by_cases I:(S[k].amount !=0)=true
    ·go_wp2_with(at_builtin;(refine mQ _ _ 51 ⟨S[k].code,S[k].amount⟩ _ 24 _ ll underlying51 B dB (by omega) rfl (kO _) (by omega) (by omega) (by omega) (by rfl) (by rfl) (by rfl) (by rfl) (by simp) (by rfl) ?_);intro v2 w6 V X);go_roundw
     case rel=>refine⟨k+1,by omega,by go_num,?_,C.grown X (by omega) (fun g Y=>(B.cm Y).1)⟩;rw[N.out,asO];have:[S[k]].filter nz=[S[k]]:=(by simp[nz,I]);rw[this];exact V
     case measure=>simp[intOf];omega
    ·have Z:(S[k].amount !=0)=false:=(by simpa using I);clear I;go_wp2;go_roundw
     case rel=>refine⟨k+1,by omega,by go_num,?_,C⟩;rw[N.out,asO];have:[S[k]].filter nz=[]:=(by simp[nz,Z]);rw[this,List.append_nil];exact B
     case measure=>simp[intOf];omega
   ·go_wp2;go_ret2;refine⟨_,by rw[F.out];rfl,?_,p.trans (C.mono z)⟩;rw[Q.out];rw[asB (by omega)]at B;exact B.weaken z
 ·have Mj:(dU j !=0)=true:=by simpa using l
  have F:Hid (BG j=[]):=by rw[Hid,BG,arJ l]
  clear l;go_wp2;go_ret2;refine⟨_,rfl,?_,p⟩;rw[F.out];exact Own.cL _ _
theorem ad6(A:Option Addr)(ab:Nat)(l:List cO)(w:World)(h:aj gG 6 w w.heap.size A l)(hz:∀x∈l,x.code.size<=maxLen)(hl:l.length<=9223372036854775807):
    Calls prog 130 #[.slice A l.length ab] w fun e w'=>e=.returned (.bool (kf l))/\Below w.heap.size w w':=by
  have HZ:=arH hz;clear hz;by_cases U:64<l.length
  · have HV:Hid (kf l=false):=by simp[Hid,kf];intro;omega
    go_enter func130,ntmps130;go_wp2;go_ret;exact⟨by rw[HV.out];rfl,arM _ _⟩
  · have mD:l.length<=64:=by omega
    clear U hl;go_enter func130,ntmps130;go_wp2
    go_loopw [3] (fun i wr=>∃k:Nat,k<=l.length/\i=.int .i64 k/\Hid (∀j,(G:j<l.length)->j<k->ng l j l[j]=true)/\Below w.heap.size w wr) (fun i _=>l.length-(intOf i).toNat)
    case atStart=>exact⟨0,by omega,rfl,fun j _ G=>absurd G (by omega),arM _ _⟩
    case round=>
      obtain⟨k,hk,rfl,p,T⟩:=hrel;by_cases J:k<l.length
      · obtain⟨b,V,rfl,hb,K⟩:=(h.below T).at_ J
        have c0:=K 0 _ rfl;have c1:=K 1 _ rfl;have c2:=K 2 _ rfl;have c3:=K 3 _ rfl;have c4:=K 4 _ rfl;have c5:=K 5 _ rfl;simp only[arL]at c0;have fB:=HZ.out _ (arO J);have bA:=T.size;have gF:=arH (@ag9 l k J);clear K;rcases arY 0 k with fS|fS
        · obtain⟨m,rfl⟩:∃m,k=m+1:=⟨k-1,by omega⟩
          obtain⟨b',af,L,ai,X⟩:=(h.below T).at_ (show m<l.length by omega);injection L with L
          injection L with h1 h2
          subst h1 h2;have p0:=X 0 _ rfl;simp only[arL]at p0;have Y:=Sw l (m+1) l[m+1] _ (.inr ⟨l[m],by simp,rfl⟩);have M:=arH Y;have Jf:b<wr.heap.size:=(by omega);clear X Y;go_wp2_with fail;have N:(wr.alloc (Obj.cells #[Value.string l[m+1].code,Value.int IntKind.i64 l[m+1].kind,Value.bool l[m+1].jy,Value.bool l[m+1].aM,Value.bool l[m+1].gi,Value.int IntKind.i64 l[m+1].eQ] 77)).heap.size=wr.heap.size+1:=(by simp);have Z:Below w.heap.size w (wr.alloc (Obj.cells #[Value.string l[m+1].code,Value.int IntKind.i64 l[m+1].kind,Value.bool l[m+1].jy,Value.bool l[m+1].aM,Value.bool l[m+1].gi,Value.int IntKind.i64 l[m+1].eQ] 77)):=T.alloc bA _;have D:=ah.new wr 77 #[Value.string l[m+1].code,Value.int IntKind.i64 l[m+1].kind,Value.bool l[m+1].jy,Value.bool l[m+1].aM,Value.bool l[m+1].gi,Value.int IntKind.i64 l[m+1].eQ];have Gn:=(World.cell?_alloc_past (w:=wr) (Obj.cells #[Value.string l[m+1].code,Value.int IntKind.i64 l[m+1].kind,Value.bool l[m+1].jy,Value.bool l[m+1].aM,Value.bool l[m+1].gi,Value.int IntKind.i64 l[m+1].eQ] 77) b (V+m*6) Jf).trans p0;generalize wr.alloc (Obj.cells _ _)=W at N Z D Gn|-;have Z1:=arH N;have e0:=Bw.cell (w:=W) (a:=⟨wr.heap.size,0,none⟩) (by show wr.heap.size<W.heap.size;omega) (D.cell 0);have e1:=Bw.cell (w:=W) (a:=⟨wr.heap.size,1,none⟩) (by show wr.heap.size<W.heap.size;omega) (D.cell 1);have e4:=Bw.cell (w:=W) (a:=⟨wr.heap.size,4,none⟩) (by show wr.heap.size<W.heap.size;omega) (D.cell 4);have e5:=Bw.cell (w:=W) (a:=⟨wr.heap.size,5,none⟩) (by show wr.heap.size<W.heap.size;omega) (D.cell 5);have e9:=Bw.cell (w:=W) (a:=⟨b,V+m*6,none⟩) (by show b<W.heap.size;omega) Gn;clear Gn p0;have CH:Hid (w.heap.size<=W.heap.size):=(by show w.heap.size<=W.heap.size;omega);clear N D c0 c1 c2 c3 c4 c5;have O:bK l[m+1].code=false\/(bK l[m+1].code=true/\(Op.bytesLess l[m].code.toList l[m+1].code.toList)=false)\/(bK l[m+1].code=true/\(Op.bytesLess l[m].code.toList l[m+1].code.toList)=true/\((l[m+1].kind==1)=false/\(l[m+1].kind !=1)=true/\(l[m+1].kind==2)=false/\(l[m+1].kind !=2)=true))\/
              (bK l[m+1].code=true/\(Op.bytesLess l[m].code.toList l[m+1].code.toList)=true/\((l[m+1].kind==1)=true/\(l[m+1].kind !=1)=false/\(l[m+1].kind==2)=false/\(l[m+1].kind !=2)=true)/\decide (l[m+1].eQ<1000)=true)\/
              (bK l[m+1].code=true/\(Op.bytesLess l[m].code.toList l[m+1].code.toList)=true/\((l[m+1].kind==1)=true/\(l[m+1].kind !=1)=false/\(l[m+1].kind==2)=false/\(l[m+1].kind !=2)=true)/\decide (l[m+1].eQ<1000)=false/\decide (9999<l[m+1].eQ)=true)\/
              (bK l[m+1].code=true/\(Op.bytesLess l[m].code.toList l[m+1].code.toList)=true/\((l[m+1].kind==1)=true/\(l[m+1].kind !=1)=false/\(l[m+1].kind==2)=false/\(l[m+1].kind !=2)=true)/\decide (l[m+1].eQ<1000)=false/\decide (9999<l[m+1].eQ)=false)\/
              (bK l[m+1].code=true/\(Op.bytesLess l[m].code.toList l[m+1].code.toList)=true/\((l[m+1].kind==1)=false/\(l[m+1].kind !=1)=true/\(l[m+1].kind==2)=true/\(l[m+1].kind !=2)=false)/\l[m+1].gi=true)\/
              (bK l[m+1].code=true/\(Op.bytesLess l[m].code.toList l[m+1].code.toList)=true/\((l[m+1].kind==1)=false/\(l[m+1].kind !=1)=true/\(l[m+1].kind==2)=true/\(l[m+1].kind !=2)=false)/\l[m+1].gi=false/\decide (l[m+1].eQ<1000)=true)\/
              (bK l[m+1].code=true/\(Op.bytesLess l[m].code.toList l[m+1].code.toList)=true/\((l[m+1].kind==1)=false/\(l[m+1].kind !=1)=true/\(l[m+1].kind==2)=true/\(l[m+1].kind !=2)=false)/\l[m+1].gi=false/\decide (l[m+1].eQ<1000)=false/\decide (9999<l[m+1].eQ)=true)\/
              (bK l[m+1].code=true/\(Op.bytesLess l[m].code.toList l[m+1].code.toList)=true/\((l[m+1].kind==1)=false/\(l[m+1].kind !=1)=true/\(l[m+1].kind==2)=true/\(l[m+1].kind !=2)=false)/\l[m+1].gi=false/\decide (l[m+1].eQ<1000)=false/\decide (9999<l[m+1].eQ)=false):=by
            go_light
            clear M gF e0 e1 e4 e5 p;generalize bK l[m+1].code=q1;generalize Op.bytesLess l[m].code.toList l[m+1].code.toList=q2;generalize l[m+1].kind=q3;generalize l[m+1].gi=q4;generalize l[m+1].eQ=F;cases q1
            · simp
            · by_cases z1:q3=1
              · subst z1
                by_cases P:F<1000<;>by_cases Q:9999<F<;>cases q2<;>simp[P,Q]
              · by_cases z4:q3=2
                · subst z4
                  by_cases P:F<1000<;>by_cases Q:9999<F<;>cases q4<;>cases q2<;>simp[P,Q]
                · cases q2<;>simp[z1,z4]
          rcases O with n|⟨n,I⟩|⟨n,I,r,u,z,B⟩|⟨n,I,⟨r,u,z,B⟩,d1⟩|⟨n,I,⟨r,u,z,B⟩,d1,d2⟩|⟨n,I,⟨r,u,z,B⟩,d1,d2⟩|⟨n,I,⟨r,u,z,B⟩,t1⟩|⟨n,I,⟨r,u,z,B⟩,t1,d1⟩|⟨n,I,⟨r,u,z,B⟩,t1,d1,d2⟩|⟨n,I,⟨r,u,z,B⟩,t1,d1,d2⟩
          all_goals
            refine qi (by kernel_rfl) (by kernel_rfl) ?_
            repeat(first|go_big_quiet_step((exact Bw.call _ (BZ _ _ fB)))|quiet_step((exact Bw.call _ (BZ _ _ fB))))
            refine wpQuiet_nil ?_;intro W2 R;obtain⟨⟨W9,S⟩,E⟩:=R;subst E;have C:Below w.heap.size w W2:=Z.trans (S.mono CH.out);go_wp2
            first
              |(
                 go_ret;refine⟨?_,C⟩;have hq:ng l (m+1) l[m+1]=false:=by
                   go_light
                   rw[M.out];apply asX;rintro⟨h1,h2,h3,h4,h5,h6⟩
                   first|omega|(simp_all;done)|(simp_all;omega)
                 rw[gF.out hq];rfl)
              |(
                 go_roundw
                 case rel=>
                   have bh:∀j,(G:j<l.length)->j<m+1+1->ng l j l[j]=true:=by
                     intro j G ad;rcases arY j (m+1)with h1|h1
                     · exact p.out j G h1
                     · obtain rfl:j=m+1:=by omega
                       go_light
                       rw[M.out];apply asN;refine⟨by assumption,.inr (by assumption),?_,?_,?_,?_⟩
                       all_goals first|omega|(simp_all;done)|(simp_all;omega)
                   first|exact⟨m+1+1,by omega,by go_num,bh,C⟩|((repeat apply Exists.intro);exact⟨⟨m+1+1,by omega,by go_num,bh,C⟩,rfl⟩)
                 case measure=>simp[intOf];omega)
        · have Y:=Sw l k l[k] true (.inl (by omega))
          have M:=arH Y;have al:decide ((0:Int)<(k:Int))=false:=(by simp;omega);have am:decide (0<k)=false:=(by simp;omega);clear Y;go_wp2_with fail;have N:(wr.alloc (Obj.cells #[Value.string l[k].code,Value.int IntKind.i64 l[k].kind,Value.bool l[k].jy,Value.bool l[k].aM,Value.bool l[k].gi,Value.int IntKind.i64 l[k].eQ] 77)).heap.size=wr.heap.size+1:=(by simp);have Z:Below w.heap.size w (wr.alloc (Obj.cells #[Value.string l[k].code,Value.int IntKind.i64 l[k].kind,Value.bool l[k].jy,Value.bool l[k].aM,Value.bool l[k].gi,Value.int IntKind.i64 l[k].eQ] 77)):=T.alloc bA _;have D:=ah.new wr 77 #[Value.string l[k].code,Value.int IntKind.i64 l[k].kind,Value.bool l[k].jy,Value.bool l[k].aM,Value.bool l[k].gi,Value.int IntKind.i64 l[k].eQ];generalize wr.alloc (Obj.cells _ _)=W at N Z D|-;have Z1:=arH N;have e0:=Bw.cell (w:=W) (a:=⟨wr.heap.size,0,none⟩) (by show wr.heap.size<W.heap.size;omega) (D.cell 0);have e1:=Bw.cell (w:=W) (a:=⟨wr.heap.size,1,none⟩) (by show wr.heap.size<W.heap.size;omega) (D.cell 1);have e4:=Bw.cell (w:=W) (a:=⟨wr.heap.size,4,none⟩) (by show wr.heap.size<W.heap.size;omega) (D.cell 4);have e5:=Bw.cell (w:=W) (a:=⟨wr.heap.size,5,none⟩) (by show wr.heap.size<W.heap.size;omega) (D.cell 5);have CH:Hid (w.heap.size<=W.heap.size):=(by show w.heap.size<=W.heap.size;omega);clear N D c0 c1 c2 c3 c4 c5;have O:bK l[k].code=false\/(bK l[k].code=true/\((l[k].kind==1)=false/\(l[k].kind !=1)=true/\(l[k].kind==2)=false/\(l[k].kind !=2)=true))\/
              (bK l[k].code=true/\((l[k].kind==1)=true/\(l[k].kind !=1)=false/\(l[k].kind==2)=false/\(l[k].kind !=2)=true)/\decide (l[k].eQ<1000)=true)\/
              (bK l[k].code=true/\((l[k].kind==1)=true/\(l[k].kind !=1)=false/\(l[k].kind==2)=false/\(l[k].kind !=2)=true)/\decide (l[k].eQ<1000)=false/\decide (9999<l[k].eQ)=true)\/
              (bK l[k].code=true/\((l[k].kind==1)=true/\(l[k].kind !=1)=false/\(l[k].kind==2)=false/\(l[k].kind !=2)=true)/\decide (l[k].eQ<1000)=false/\decide (9999<l[k].eQ)=false)\/
              (bK l[k].code=true/\((l[k].kind==1)=false/\(l[k].kind !=1)=true/\(l[k].kind==2)=true/\(l[k].kind !=2)=false)/\l[k].gi=true)\/
              (bK l[k].code=true/\((l[k].kind==1)=false/\(l[k].kind !=1)=true/\(l[k].kind==2)=true/\(l[k].kind !=2)=false)/\l[k].gi=false/\decide (l[k].eQ<1000)=true)\/
              (bK l[k].code=true/\((l[k].kind==1)=false/\(l[k].kind !=1)=true/\(l[k].kind==2)=true/\(l[k].kind !=2)=false)/\l[k].gi=false/\decide (l[k].eQ<1000)=false/\decide (9999<l[k].eQ)=true)\/
              (bK l[k].code=true/\((l[k].kind==1)=false/\(l[k].kind !=1)=true/\(l[k].kind==2)=true/\(l[k].kind !=2)=false)/\l[k].gi=false/\decide (l[k].eQ<1000)=false/\decide (9999<l[k].eQ)=false):=by
            go_light
            clear M gF e0 e1 e4 e5 p;generalize bK l[k].code=q1;generalize l[k].kind=q3;generalize l[k].gi=q4;generalize l[k].eQ=F;cases q1
            · simp
            · by_cases z1:q3=1
              · subst z1
                by_cases P:F<1000<;>by_cases Q:9999<F<;>simp[P,Q]
              · by_cases z4:q3=2
                · subst z4
                  by_cases P:F<1000<;>by_cases Q:9999<F<;>cases q4<;>simp[P,Q]
                · simp[z1,z4]
          rcases O with n|⟨n,r,u,z,B⟩|⟨n,⟨r,u,z,B⟩,d1⟩|⟨n,⟨r,u,z,B⟩,d1,d2⟩|⟨n,⟨r,u,z,B⟩,d1,d2⟩|⟨n,⟨r,u,z,B⟩,t1⟩|⟨n,⟨r,u,z,B⟩,t1,d1⟩|⟨n,⟨r,u,z,B⟩,t1,d1,d2⟩|⟨n,⟨r,u,z,B⟩,t1,d1,d2⟩
          all_goals
            refine qi (by kernel_rfl) (by kernel_rfl) ?_
            repeat(first|go_big_quiet_step((exact Bw.call _ (BZ _ _ fB)))|quiet_step((exact Bw.call _ (BZ _ _ fB))))
            refine wpQuiet_nil ?_;intro W2 R;obtain⟨⟨W9,S⟩,E⟩:=R;subst E;have C:Below w.heap.size w W2:=Z.trans (S.mono CH.out);go_wp2
            first
              |(
                 go_ret;refine⟨?_,C⟩;have hq:ng l (k) l[k]=false:=by
                   go_light
                   rw[M.out];apply asX;rintro⟨h1,h2,h3,h4,h5,h6⟩
                   first|omega|(simp_all;done)|(simp_all;omega)
                 rw[gF.out hq];rfl)
              |(
                 go_roundw
                 case rel=>
                   have bh:∀j,(G:j<l.length)->j<k+1->ng l j l[j]=true:=by
                     intro j G ad;rcases arY j (k)with h1|h1
                     · exact p.out j G h1
                     · obtain rfl:j=k:=by omega
                       go_light
                       rw[M.out];apply asN;refine⟨by assumption,by omega,?_,?_,?_,?_⟩
                       all_goals first|omega|(simp_all;done)|(simp_all;omega)
                   first|exact⟨k+1,by omega,by go_num,bh,C⟩|((repeat apply Exists.intro);exact⟨⟨k+1,by omega,by go_num,bh,C⟩,rfl⟩)
                 case measure=>simp[intOf];omega)
      · go_wp2
        go_ret;exact⟨by rw[aaA mD (fun i hi=>p.out i hi (by omega))];rfl,T⟩
structure fF where
 g:Int
 c:Int
 t:Int
 i:Int
 a:Int
deriving DecidableEq
def mW(b:fF):List Value:=[.int .i64 b.g,.int .i64 b.c,.int .i64 b.t,.int .i64 b.i,.int .i64 b.a]
def ew:fF:=⟨0,0,0,0,0⟩
def Au(b:fF)(y:cO)(n:Int):fF:=⟨b.g+n,b.c+(if y.kind=1 then n else 0),b.t+(if y.jy then n else 0),b.i+(if y.aM then n else 0),b.a+(if y.gi then n else 0)⟩
def Jy(e:List cO)(b:fF)(x:Elem):fF:=Au b ((dJ e x.code).getD nd) x.amount
def fI(e:List cO)(l:List Elem):fF:=l.foldl (Jy e) ew
def missing(e:List cO)(l:List Elem):Bool:=l.any fun x=>(dJ e x.code).isNone
def ow(b:fF):Bool:=cy b.g&&cy b.c&&cy b.t&&cy b.i&&cy b.a
def dV(e:List cO)(l m:List Elem):Int:=if kf e=false then 1 else if dU l≠0 then dU l else if missing e m then 16 else if ow (fI e m)=false then 4 else 0
def gL(e:List cO)(l m:List Elem):Value:=.tuple #[.agg (mW (if dV e l m=0 then fI e m else ew)).toArray,.int .i64 (dV e l m)]
def Bs(w:World)(g:Nat)(b:fF):Prop:=ah w g 24 (mW b).toArray
section
variable {w:World}{gg:Nat}{b:fF}
theorem Bs.g(h:Bs w gg b)(n:Int):Bs (w.setCell ⟨gg,0,none⟩ (.int .i64 n)) gg {b with g:=n}:=ah.eu h 0 _
theorem Bs.c(h:Bs w gg b)(n:Int):Bs (w.setCell ⟨gg,1,none⟩ (.int .i64 n)) gg {b with c:=n}:=ah.eu h 1 _
theorem Bs.t(h:Bs w gg b)(n:Int):Bs (w.setCell ⟨gg,2,none⟩ (.int .i64 n)) gg {b with t:=n}:=ah.eu h 2 _
theorem Bs.i(h:Bs w gg b)(n:Int):Bs (w.setCell ⟨gg,3,none⟩ (.int .i64 n)) gg {b with i:=n}:=ah.eu h 3 _
theorem Bs.a(h:Bs w gg b)(n:Int):Bs (w.setCell ⟨gg,4,none⟩ (.int .i64 n)) gg {b with a:=n}:=ah.eu h 4 _
theorem Bs.far(h:Bs w gg b){p:Addr}(e:gg≠p.block)(u:Value):Bs (w.setCell p u) gg b:=ah.far h e u
theorem Bs.alloc(h:Bs w gg b)(o:Obj):Bs (w.alloc o) gg b:=ah.alloc h o
theorem Bs.below{w':World}{B:Nat}(h:Bs w gg b)(e:Below B w w')(j:gg<B):Bs w' gg b:=ah.below h e j
end
theorem ah.mz{w:World}{g:Nat}{t:TypeId}{cs:Array Value}(h:ah w g t cs)(z:cs.size=5)(j n p r u:Value):
  ah (((((w.setCell ⟨g,0,none⟩ j).setCell ⟨g,1,none⟩ n).setCell ⟨g,2,none⟩ p).setCell ⟨g,3,none⟩ r).setCell ⟨g,4,none⟩ u) g t #[j,n,p,r,u]:=by
 have e:(((((cs.setIfInBounds 0 j).setIfInBounds 1 n).setIfInBounds 2 p).setIfInBounds 3 r).setIfInBounds 4 u)=#[j,n,p,r,u]:=by
  obtain⟨l⟩:=cs
  match l,z with
  |[_,_,_,_,_],_=>rfl
 rw[<-e];exact((((h.eu 0 j).eu 1 n).eu 2 p).eu 3 r).eu 4 u
theorem aft(e:List cO)(l:List Elem)(k:Nat)(h:k<l.length):fI e (l.take (k+1))=Jy e (fI e (l.take k)) l[k]:=by rw[ar9 h,fI,List.foldl_append];rfl
def Ij(B:Int)(b:fF):Prop:=(-B<=b.g/\b.g<=B)/\(-B<=b.c/\b.c<=B)/\(-B<=b.t/\b.t<=B)/\(-B<=b.i/\b.i<=B)/\(-B<=b.a/\b.a<=B)
theorem Ij.add{B C:Int}{b:fF}(h:Ij B b)(j:0<=C)(y:cO){n:Int}(l:-C<=n)(r:n<=C):Ij (B+C) (Au b y n):=by
 obtain⟨⟨u,z⟩,⟨D,E⟩,⟨F,G⟩,⟨d1,d2⟩,⟨I,J⟩⟩:=h;have e:∀(p:Prop) [Decidable p],-C<=(if p then n else 0)/\(if p then n else 0)<=C:=by intro p _;split<;>omega
 unfold Ij Au;have K:=e (y.kind=1);have L:=e (y.jy=true);have M:=e (y.aM=true);have N:=e (y.gi=true);refine⟨?_,?_,?_,?_,?_⟩<;>dsimp only<;>omega
theorem WA{l:List Elem}(h:dU l=0):IX 1000000000 (bF l)/\(bF l).length<=128:=by
 have e:¬128<l.length:=by intro e;rw[dU,arK e]at h;cases h
 rw[dU,arJ e]at h;split at h
 ·cases h
 ·split at h
  ·cases h
  ·split at h
   ·cases h
   ·rename_i j;refine⟨fun x n=>?_,ar0 (Vm l) (by omega)⟩;simp only[Bool.not_eq_true,asr]at j;have:=j x n;simpa[cy]using this
theorem afr:pj none=.tuple #[.agg #[.string ⟨#[]⟩,.int .i64 0,.bool false,.bool false,.bool false,.int .i64 0],.bool false]:=rfl
theorem afs(y:cO):pj (some y)=.tuple #[.agg #[.string y.code,.int .i64 y.kind,.bool y.jy,.bool y.aM,.bool y.gi,.int .i64 y.eQ],.bool true]:=rfl
theorem Bs.cells{w:World}{gg:Nat}{b:fF}(h:Bs w gg b):w.cell? ⟨gg,0,none⟩=some (.int .i64 b.g)/\w.cell? ⟨gg,1,none⟩=some (.int .i64 b.c)/\w.cell? ⟨gg,2,none⟩=some (.int .i64 b.t)/\w.cell? ⟨gg,3,none⟩=some (.int .i64 b.i)/\w.cell? ⟨gg,4,none⟩=some (.int .i64 b.a):=
 ⟨ah.cell h 0,ah.cell h 1,ah.cell h 2,ah.cell h 3,ah.cell h 4⟩
theorem Bs.Ap{w:World}{gg:Nat}{b:fF}(h:Bs w gg b):w.frozen? ⟨gg,0,none⟩=false/\w.frozen? ⟨gg,1,none⟩=false/\w.frozen? ⟨gg,2,none⟩=false/\w.frozen? ⟨gg,3,none⟩=false/\w.frozen? ⟨gg,4,none⟩=false:=
 ⟨ah.frozen h 0,ah.frozen h 1,ah.frozen h 2,ah.frozen h 3,ah.frozen h 4⟩
theorem Bs.put{w:World}{gg:Nat}{b:fF}(h:Bs w gg b)(d:fF):Bs (((((w.setCell ⟨gg,0,none⟩ (.int .i64 d.g)).setCell ⟨gg,1,none⟩ (.int .i64 d.c)).setCell ⟨gg,2,none⟩ (.int .i64 d.t)).setCell ⟨gg,3,none⟩ (.int .i64 d.i)).setCell ⟨gg,4,none⟩ (.int .i64 d.a)) gg d:=
 ah.mz h rfl _ _ _ _ _
theorem DK{w W:World}{gg:Nat}(h:Below w.heap.size w W)(e:w.heap.size<=gg)(j l n p r:Value):Below w.heap.size w (((((W.setCell ⟨gg,0,none⟩ j).setCell ⟨gg,1,none⟩ l).setCell ⟨gg,2,none⟩ n).setCell ⟨gg,3,none⟩ p).setCell ⟨gg,4,none⟩ r):=
 il (il (il (il (il h e 0 j) e 1 l) e 2 n) e 3 p) e 4 r
structure nU(w w2 w4:World)(y:cO)(b:fF)(wx:World):Prop where
 bs:Bs wx w2.heap.size b
 rs:Bs wx w.heap.size ew
 aW:Below w2.heap.size w2 wx
 wg:ah wx w4.heap.size 77 (gG y).toArray
 SQ:w.heap.size<w2.heap.size
 SR:w2.heap.size<w4.heap.size
section
variable {w w2 w4 wx:World}{y:cO}{b:fF}
theorem nU.step(h:nU w w2 w4 y b wx){e:fF}{i:Nat}{u:Value}(j:Bs (wx.setCell ⟨w2.heap.size,i,none⟩ u) w2.heap.size e):nU w w2 w4 y e (wx.setCell ⟨w2.heap.size,i,none⟩ u):=
 ⟨j,h.rs.far (by have:=h.SQ;simp;omega) _,h.aW.setCell (by simp) _,h.wg.far (by have:=h.SR;simp;omega) _,h.SQ,h.SR⟩
theorem nU.aaJ(h:nU w w2 w4 y b wx)(n:Int):nU w w2 w4 y {b with c:=n} (wx.setCell ⟨w2.heap.size,1,none⟩ (.int .i64 n)):=h.step (h.bs.c n)
theorem nU.aaK(h:nU w w2 w4 y b wx)(n:Int):nU w w2 w4 y {b with t:=n} (wx.setCell ⟨w2.heap.size,2,none⟩ (.int .i64 n)):=h.step (h.bs.t n)
theorem nU.aaL(h:nU w w2 w4 y b wx)(n:Int):nU w w2 w4 y {b with i:=n} (wx.setCell ⟨w2.heap.size,3,none⟩ (.int .i64 n)):=h.step (h.bs.i n)
theorem nU.aaM(h:nU w w2 w4 y b wx)(n:Int):nU w w2 w4 y {b with a:=n} (wx.setCell ⟨w2.heap.size,4,none⟩ (.int .i64 n)):=h.step (h.bs.a n)
end
theorem ajV(A E:Option Addr)(ao SS:Nat)(n:List cO)(p:List Elem)(w:World)(h:aj gG 6 w w.heap.size A n)(SU:∀x∈n,x.code.size<=maxLen)(ba:n.length<=9223372036854775806)
  (hE:aj aQ 2 w w.heap.size E p) (hz:∀x∈p,x.code.size<=maxLen) (hl:p.length<=9223372036854775807):
  Calls prog 87 #[.slice A n.length ao,.slice E p.length SS] w fun r w'=>r=.returned (gL n p (bF p))/\Below w.heap.size w w':=by
 have HZ:=arH hz;clear hz;have az:=arH SU;clear SU;go_enter func87,ntmps87;go_wp2_with fail;have pP:Bs (w.alloc (.cells #[.int .i64 0,.int .i64 0,.int .i64 0,.int .i64 0,.int .i64 0] 24)) w.heap.size ew:=ah.new _ _ _;have ab:Below w.heap.size w (w.alloc (.cells #[.int .i64 0,.int .i64 0,.int .i64 0,.int .i64 0,.int .i64 0] 24)):=(arM _ _).alloc (arI _) _;generalize w.alloc (.cells #[.int .i64 0,.int .i64 0,.int .i64 0,.int .i64 0,.int .i64 0] 24)=w0 at pP ab|-;have aA:w.heap.size<w0.heap.size:=ah.lt pP;refine(ad6 A ao n _ ((h.below ab).more (by omega)) az.out (by omega)).mono ?_;rintro e w1 ⟨rfl,ad⟩;have ai:=pP.below ad aA;have aS:=IU ab ad (by omega);have bc:=ad.size;by_cases hv:kf n=true
 ·have HV:=arH hv;go_wp2_with fail;refine(ahc E SS p _ ((hE.below aS).more (by omega)) HZ.out hl).mono ?_;rintro e w2 ⟨v2,rfl,an,af⟩;have aK:=ai.below af (by omega);have bB:=IU aS af (by omega);have bd:=af.size;by_cases h0:dU p=0
  ·have H0:=arH h0;rw[PV,arK h0]at an;rw[h0];obtain⟨A5,c5,rfl,cZ,eJ,oW,oX⟩:=an.kM dB;obtain⟨aE,U5⟩:=WA h0;have IE:=arH (fun x hx=>akh HZ.out x hx);generalize hS:bF p=S at*;clear h0 pP ab ad af ai aS;go_wp2;have fk:Bs (w2.alloc (.cells #[.int .i64 0,.int .i64 0,.int .i64 0,.int .i64 0,.int .i64 0] 24)) w2.heap.size ew:=ah.new _ _ _;have K:=aK.alloc (Obj.cells #[.int .i64 0,.int .i64 0,.int .i64 0,.int .i64 0,.int .i64 0] 24);have Cm:=(arM w2.heap.size w2).alloc (arI _) (Obj.cells #[.int .i64 0,.int .i64 0,.int .i64 0,.int .i64 0,.int .i64 0] 24);generalize w2.alloc (.cells #[.int .i64 0,.int .i64 0,.int .i64 0,.int .i64 0,.int .i64 0] 24)=w3 at fk K Cm|-
   go_loopw [9] (fun i wr=>∃k:Nat,k<=S.length/\i=.int .i64 k/\Hid (∀j,(hj:j<S.length)->j<k->(dJ n S[j].code).isSome=true)/\Bs wr w2.heap.size (fI n (S.take k))/\Ij (k*1000000000) (fI n (S.take k))/\Bs wr w.heap.size ew/\Below w2.heap.size w2 wr) (fun i _=>S.length-(intOf i).toNat)
   case atStart=>exact⟨0,by omega,rfl,fun j _ hj=>absurd hj (by omega),fk,by simp[fI,ew,Ij],K,Cm⟩
   case round=>
    clear fk K Cm;obtain⟨k,hk,rfl,R,fk,kU,K,ae⟩:=hrel;have bA:=ah.lt fk;by_cases al:k<S.length
    ·obtain⟨b,be,rfl,hb,hc⟩:=(cZ.below ae).at_ al;have c0:=hc 0 _ rfl;simp only[arL]at c0;clear hc;go_wp2_with fail;refine(ZP A ao n S[k].code _ ((h.below (bB.trans (ae.mono (by omega)))).more (by omega)) (by omega)).mono ?_;rintro e w4 ⟨rfl,am⟩;have Gj:=fk.below am bA;have BP:=K.below am (by omega);have eW:=IU ae am (by omega);have ed:=am.size;have aJ:w.heap.size<w4.heap.size:=(by omega);have bf:w2.heap.size<w4.heap.size:=(by omega);have O5:b<w4.heap.size:=(by have:=ae.size;omega);rcases T:dJ n S[k].code with _|y
     ·rw[afr];obtain⟨U,V,X,r3,Y⟩:=BP.cells;obtain⟨M,N,O,P,Q⟩:=BP.Ap;have B:Hid (dV n p S=16):=by
       have hm:missing n S=true:=asx.2 ⟨S[k],arO _,by simp[T]⟩;simp only[Hid,dV,HV.out,H0.out,hm,ash,Bool.true_eq_false,asj,ne_eq,not_true_eq_false]
      go_wp2;have u:=(BP.put ew).alloc (Obj.cells #[.string ⟨#[]⟩,.int .i64 0,.bool false,.bool false,.bool false,.int .i64 0] 77);have z:Below w.heap.size w _:=(DK (bB.trans (eW.mono (by omega))) (arI _) (.int .i64 0) (.int .i64 0) (.int .i64 0) (.int .i64 0) (.int .i64 0)).alloc (by simp;omega) (Obj.cells #[.string ⟨#[]⟩,.int .i64 0,.bool false,.bool false,.bool false,.int .i64 0] 77);simp only[ew]at u;generalize World.alloc _ _=WW at u z|-;obtain⟨D,F,G,I,J⟩:=u.cells;refine arX (v:=gL n p S) ?_ rfl ⟨by rw[hS],z⟩;rw[gL,B.out];simp[results,results87,go_sem,D,F,G,I,J,mW,ew]
     ·rw[afs];obtain⟨U,V,X,r3,Y⟩:=Gj.cells;obtain⟨M,N,O,P,Q⟩:=Gj.Ap;obtain⟨b',a9,ap,_,au⟩:=(cZ.below eW).at_ al;injection ap with ap
      injection ap with h1 h2
      subst h1 h2;have d1:=au 1 _ rfl;clear au;have kC:=aE _ (arO al);obtain⟨aN,aO⟩:=kC;have Pv:=kU.add (C:=1000000000) (by omega) y aN aO;have SX:fI n (S.take (k+1))=Au (fI n (S.take k)) y S[k].amount:=(by rw[aft n S k al,Jy,T];rfl);have EST:=arH SX;have SY:∀j,(hj:j<S.length)->j<k+1->(dJ n S[j].code).isSome=true:=by
       intro j hj bh;rcases arY j k with h1|h1
       ·exact R.out j hj h1
       ·obtain rfl:j=k:=by omega
        rw[T];rfl
      have QW:=arH SY;clear SY SX T c0;generalize fI n (S.take k)=l at*;obtain⟨⟨g1,g2⟩,⟨g3,g4⟩,⟨g5,g6⟩,⟨g7,g8⟩,⟨g9,bi⟩⟩:=kU;have SZ:nU w w2 w4 y ⟨l.g+S[k].amount,l.c,l.t,l.i,l.a⟩ ((w4.setCell ⟨w2.heap.size,0,none⟩ (.int .i64 (l.g+S[k].amount))).alloc (.cells (gG y).toArray 77)):=
       ⟨(Gj.g _).alloc _,(BP.far (by simp;omega) _).alloc _,(eW.setCell (by simp) _).alloc (by simp;omega) _,by have:=ah.new (w4.setCell ⟨w2.heap.size,0,none⟩ (.int .i64 (l.g+S[k].amount))) 77 (gG y).toArray;simpa using this,by omega,by omega⟩
      have S2:=arH SZ;clear SZ
      go_upto_if 57 with fail
      generalize av:World.alloc _ _=W0;have C0:nU w w2 w4 y ⟨l.g+S[k].amount,l.c,l.t,l.i,l.a⟩ W0:=(by rw[<-av];exact S2.out);clear av U V X r3 Y M N O P Q d1 S2 Gj BP fk K ae eW aK;obtain⟨U,V,X,r3,Y⟩:=C0.bs.cells;obtain⟨M,N,O,P,Q⟩:=C0.bs.Ap;have y1:=C0.wg.cell 1;have y2:=C0.wg.cell 2;have y3:=C0.wg.cell 3;have Z:=C0.wg.cell 4;simp only[gG,arQ,arR,arS]at y1 y2 y3 Z
      go_cut [] (fun wx=>nU w w2 w4 y ⟨l.g+S[k].amount,l.c+(if y.kind=1 then S[k].amount else 0),l.t,l.i,l.a⟩ wx)
      case first=>
       by_cases L:y.kind=1
       ·have aT:(y.kind==1)=true:=(by simp[L]);go_wp2;go_meet;have hz:=(C0.aaJ (l.c+S[k].amount))
        simpa[L]using hz
       ·have aT:(y.kind==1)=false:=(by simp[L]);go_wp2;go_meet;simpa[L]using C0
      case rest=>
       clear U V X r3 Y M N O P Q y1 y2 y3 Z C0;have C1:=hcut;clear hcut;obtain⟨U,V,X,r3,Y⟩:=C1.bs.cells;obtain⟨M,N,O,P,Q⟩:=C1.bs.Ap;have y1:=C1.wg.cell 1;have y2:=C1.wg.cell 2;have y3:=C1.wg.cell 3;have Z:=C1.wg.cell 4;simp only[gG,arQ,arR,arS]at y1 y2 y3 Z
       go_upto_if 64 with fail
       go_cut [] (fun wx=>nU w w2 w4 y ⟨l.g+S[k].amount,l.c+(if y.kind=1 then S[k].amount else 0),l.t+(if y.jy=true then S[k].amount else 0),l.i,l.a⟩ wx)
       case first=>
        rcases L:y.jy with _|_;rotate_left
        ·go_wp2;go_meet;have hz:=(C1.aaK (l.t+S[k].amount))
         simpa[L]using hz
        ·go_wp2;go_meet;simpa[L]using C1
       case rest=>
        clear U V X r3 Y M N O P Q y1 y2 y3 Z C1;have C2:=hcut;clear hcut;obtain⟨U,V,X,r3,Y⟩:=C2.bs.cells;obtain⟨M,N,O,P,Q⟩:=C2.bs.Ap;have y1:=C2.wg.cell 1;have y2:=C2.wg.cell 2;have y3:=C2.wg.cell 3;have Z:=C2.wg.cell 4;simp only[gG,arQ,arR,arS]at y1 y2 y3 Z
        go_upto_if 71 with fail
        go_cut [] (fun wx=>nU w w2 w4 y ⟨l.g+S[k].amount,l.c+(if y.kind=1 then S[k].amount else 0),l.t+(if y.jy=true then S[k].amount else 0),l.i+(if y.aM=true then S[k].amount else 0),l.a⟩ wx)
        case first=>
         rcases L:y.aM with _|_;rotate_left
         ·go_wp2;go_meet;have hz:=(C2.aaL (l.i+S[k].amount))
          simpa[L]using hz
         ·go_wp2;go_meet;simpa[L]using C2
        case rest=>
         clear U V X r3 Y M N O P Q y1 y2 y3 Z C2;have C3:=hcut;clear hcut;obtain⟨U,V,X,r3,Y⟩:=C3.bs.cells;obtain⟨M,N,O,P,Q⟩:=C3.bs.Ap;have Z:=C3.wg.cell 4;simp only[gG,arQ,arR,arS]at Z;have ay:∀W',nU w w2 w4 y (Au l y S[k].amount) W'->∃k':Nat,k'<=S.length/\Value.int .i64 ((k:Int)+1)=.int .i64 k'/\Hid (∀j,(hj:j<S.length)->j<k'->(dJ n S[j].code).isSome=true)/\Bs W' w2.heap.size (fI n (S.take k'))/\Ij (k'*1000000000) (fI n (S.take k'))/\Bs W' w.heap.size ew/\Below w2.heap.size w2 W':=by intro W' hC;refine⟨k+1,by omega,by go_num,QW.out,by rw[EST.out];exact hC.bs,?_,hC.rs,hC.aW⟩;have e9:((k+1:Nat):Int)*1000000000=(k:Int)*1000000000+1000000000:=(by omega);rw[EST.out,e9];exact Pv
         have ji:=arH ay;clear ay;rcases L:y.gi with _|_
         ·have C4:nU w w2 w4 y (Au l y S[k].amount) wc:=(by simpa[Au,L]using C3);clear C3;go_wp2;go_roundw
          case rel=>
           have T:=ji.out _ C4
           first|exact T|((repeat apply Exists.intro);exact⟨T,rfl⟩)
          case measure=>simp[intOf];omega
         ·have C4:nU w w2 w4 y (Au l y S[k].amount) (wc.setCell ⟨w2.heap.size,4,none⟩ (.int .i64 (l.a+S[k].amount))):=(by simpa[Au,L]using C3.aaM (l.a+S[k].amount));clear C3;go_wp2;go_roundw
          case rel=>
           have T:=ji.out _ C4
           first|exact T|((repeat apply Exists.intro);exact⟨T,rfl⟩)
          case measure=>simp[intOf];omega
    ·have kC:S.take k=S:=asB (by omega);rw[kC]at fk kU;have aU:Hid (missing n S=false):=by
      rw[Hid,missing,asr];intro x hx;obtain⟨j,hj,rfl⟩:=aso.1 hx;have:=R.out j hj (by omega);rw[Option.isSome_iff_ne_none]at this;simpa using this
     obtain⟨U,V,X,r3,Y⟩:=fk.cells;obtain⟨p0,p1,p2,p3,p4⟩:=K.cells;obtain⟨M,N,O,P,Q⟩:=K.Ap;have gZ:Hid (Below w.heap.size w wr):=bB.trans (ae.mono (by omega));have HS:=arH hS;have kI:Hid (dV n p S=if ow (fI n S)=false then 4 else 0):=by simp only[Hid,dV,HV.out,H0.out,aU.out,asj,Bool.true_eq_false,asC,ne_eq,not_true_eq_false]
     have aJ:w.heap.size<wr.heap.size:=(by omega);clear hS kC R kU;generalize lx:fI n S=l at*;have aV:=arH lx;clear lx;by_cases a1:cy l.g=true;rotate_left
     ·have Xt:cy l.g=false:=(by simpa using a1);have B:Hid (dV n p S=4):=(by rw[Hid,kI.out,arK (by simp[ow,Xt])]);clear a1;go_wp2_with(go_at_call 30;refine(Fj _ _).mono ?_;rintro e w' ⟨rfl,rfl⟩);have u:=(K.put ew)
      have z:Below w.heap.size w _:=DK gZ.out (arI _) (.int .i64 0) (.int .i64 0) (.int .i64 0) (.int .i64 0) (.int .i64 0);simp only[ew]at u;generalize World.setCell _ ⟨w.heap.size,4,none⟩ _=WW at u z|-;obtain⟨D,F,G,I,J⟩:=u.cells;refine arX (v:=gL n p S) ?_ rfl ⟨by first|rfl|rw[HS.out],z⟩;rw[gL,B.out];simp[results,results87,go_sem,D,F,G,I,J,mW,ew]
     by_cases a2:cy l.c=true;rotate_left
     ·have aZ:cy l.c=false:=(by simpa using a2);have B:Hid (dV n p S=4):=(by rw[Hid,kI.out,arK (by simp[ow,aZ])]);clear a2;go_wp2_with(go_at_call 30;refine(Fj _ _).mono ?_;rintro e w' ⟨rfl,rfl⟩);have u:=(K.put ew)
      have z:Below w.heap.size w _:=DK gZ.out (arI _) (.int .i64 0) (.int .i64 0) (.int .i64 0) (.int .i64 0) (.int .i64 0);simp only[ew]at u;generalize World.setCell _ ⟨w.heap.size,4,none⟩ _=WW at u z|-;obtain⟨D,F,G,I,J⟩:=u.cells;refine arX (v:=gL n p S) ?_ rfl ⟨by first|rfl|rw[HS.out],z⟩;rw[gL,B.out];simp[results,results87,go_sem,D,F,G,I,J,mW,ew]
     by_cases a3:cy l.t=true;rotate_left
     ·have a0:cy l.t=false:=(by simpa using a3);have B:Hid (dV n p S=4):=(by rw[Hid,kI.out,arK (by simp[ow,a0])]);clear a3;go_wp2_with(go_at_call 30;refine(Fj _ _).mono ?_;rintro e w' ⟨rfl,rfl⟩);have u:=(K.put ew)
      have z:Below w.heap.size w _:=DK gZ.out (arI _) (.int .i64 0) (.int .i64 0) (.int .i64 0) (.int .i64 0) (.int .i64 0);simp only[ew]at u;generalize World.setCell _ ⟨w.heap.size,4,none⟩ _=WW at u z|-;obtain⟨D,F,G,I,J⟩:=u.cells;refine arX (v:=gL n p S) ?_ rfl ⟨by first|rfl|rw[HS.out],z⟩;rw[gL,B.out];simp[results,results87,go_sem,D,F,G,I,J,mW,ew]
     by_cases a4:cy l.i=true;rotate_left
     ·have a6:cy l.i=false:=(by simpa using a4);have B:Hid (dV n p S=4):=(by rw[Hid,kI.out,arK (by simp[ow,a6])]);clear a4;go_wp2_with(go_at_call 30;refine(Fj _ _).mono ?_;rintro e w' ⟨rfl,rfl⟩);have u:=(K.put ew)
      have z:Below w.heap.size w _:=DK gZ.out (arI _) (.int .i64 0) (.int .i64 0) (.int .i64 0) (.int .i64 0) (.int .i64 0);simp only[ew]at u;generalize World.setCell _ ⟨w.heap.size,4,none⟩ _=WW at u z|-;obtain⟨D,F,G,I,J⟩:=u.cells;refine arX (v:=gL n p S) ?_ rfl ⟨by first|rfl|rw[HS.out],z⟩;rw[gL,B.out];simp[results,results87,go_sem,D,F,G,I,J,mW,ew]
     by_cases a5:cy l.a=true;rotate_left
     ·have a7:cy l.a=false:=(by simpa using a5);have B:Hid (dV n p S=4):=(by rw[Hid,kI.out,arK (by simp[ow,a7])]);clear a5;go_wp2_with(go_at_call 30;refine(Fj _ _).mono ?_;rintro e w' ⟨rfl,rfl⟩);have u:=(K.put ew)
      have z:Below w.heap.size w _:=DK gZ.out (arI _) (.int .i64 0) (.int .i64 0) (.int .i64 0) (.int .i64 0) (.int .i64 0);simp only[ew]at u;generalize World.setCell _ ⟨w.heap.size,4,none⟩ _=WW at u z|-;obtain⟨D,F,G,I,J⟩:=u.cells;refine arX (v:=gL n p S) ?_ rfl ⟨by first|rfl|rw[HS.out],z⟩;rw[gL,B.out];simp[results,results87,go_sem,D,F,G,I,J,mW,ew]
     have B:Hid (dV n p S=0):=(by rw[Hid,kI.out,arJ (by simp[ow,a1,a2,a3,a4,a5])]);go_wp2_with(go_at_call 30;refine(Fj _ _).mono ?_;rintro e w' ⟨rfl,rfl⟩);have u:=(K.put l)
     have z:Below w.heap.size w _:=DK gZ.out (arI _) (.int .i64 l.g) (.int .i64 l.c) (.int .i64 l.t) (.int .i64 l.i) (.int .i64 l.a);generalize World.setCell _ ⟨w.heap.size,4,none⟩ _=WW at u z|-;obtain⟨D,F,G,I,J⟩:=u.cells;refine arX (v:=gL n p S) ?_ rfl ⟨by rw[HS.out],z⟩;rw[gL,B.out,arK rfl,aV.out];simp[results,results87,go_sem,D,F,G,I,J,mW]
  ·have Mj:(dU p !=0)=true:=(by simpa using h0);have B:Hid (dV n p (bF p)=dU p):=by
    rw[Hid,dV,arJ (by simp[HV.out]),arK h0]
   have H0:=arH h0;obtain⟨p0,p1,p2,p3,p4⟩:=aK.cells;obtain⟨M,N,O,P,Q⟩:=aK.Ap;have gZ:=arH bB;clear h0;go_wp2;have u:=(aK.put ew)
   have z:Below w.heap.size w _:=DK gZ.out (arI _) (.int .i64 0) (.int .i64 0) (.int .i64 0) (.int .i64 0) (.int .i64 0);simp only[ew]at u;generalize World.setCell _ ⟨w.heap.size,4,none⟩ _=WW at u z|-;obtain⟨D,F,G,I,J⟩:=u.cells;refine arX (v:=gL n p (bF p)) ?_ rfl ⟨by first|rfl|rw[HS.out],z⟩;rw[gL,B.out,arJ H0.out];simp[results,results87,go_sem,D,F,G,I,J,mW,ew]
 ·have a8:kf n=false:=by simpa using hv
  have B:Hid (dV n p (bF p)=1):=by rw[Hid,dV,arK a8]
  obtain⟨p0,p1,p2,p3,p4⟩:=ai.cells;obtain⟨M,N,O,P,Q⟩:=ai.Ap;have gZ:=arH aS;clear hv;go_wp2;have u:=(ai.put ew)
  have z:Below w.heap.size w _:=DK gZ.out (arI _) (.int .i64 0) (.int .i64 0) (.int .i64 0) (.int .i64 0) (.int .i64 0);simp only[ew]at u;generalize World.setCell _ ⟨w.heap.size,4,none⟩ _=WW at u z|-;obtain⟨D,F,G,I,J⟩:=u.cells;refine arX (v:=gL n p (bF p)) ?_ rfl ⟨by first|rfl|rw[HS.out],z⟩;rw[gL,B.out];simp[results,results87,go_sem,D,F,G,I,J,mW,ew]
section
variable {before:Bool}{base:Int}{year:List Elem}
theorem ahe(P:List bP)(d:bP)(a:Int):tk before base year (P++[d]) a=tk before base year P a++(if 0<my before base year d (km before base year P a)then[⟨d.code,my before base year d (km before base year P a)⟩]else[]):=by rw[anA];simp[tk]
theorem ahf(P:List bP)(d:bP)(a:Int):km before base year (P++[d]) a=km before base year P a-my before base year d (km before base year P a):=by rw[anB];simp[km]
theorem YM{P:List bP}{d:bP}{a n l0:Int}(e:km before base year P a=l0)(j:my before base year d l0=n)(h:0<n):
  tk before base year (P++[d]) a=tk before base year P a++[⟨d.code,n⟩]/\km before base year (P++[d]) a=l0-n:=by
 rw[ahe,ahf,e,j,arK h];exact⟨rfl,rfl⟩
theorem QL{P:List bP}{d:bP}{a l0:Int}(e:km before base year P a=l0)(j:my before base year d l0=0):
  tk before base year (P++[d]) a=tk before base year P a/\km before base year (P++[d]) a=l0:=by
 rw[ahe,ahf,e,j];simp
theorem acC{d:bP}{l0:Int}(h:d.before≠before):my before base year d l0=0:=by rw[my,arJ h]
end
def EC(l:List bP)(r:Nat):List bP:=(List.range r).flatMap fun(r:Nat)=>l.filter fun d=>decide (d.bY=(r:Int))
def pre(l:List bP)(r i:Nat):List bP:=EC l r++(l.take i).filter fun d=>decide (d.bY=(r:Int))
theorem aka(l:List bP):EC l 100=DR l:=rfl
theorem aj1(l:List bP)(r:Nat):pre l r 0=EC l r:=by simp[pre]
theorem aj9(l:List bP)(r:Nat):pre l r l.length=EC l (r+1):=by simp[pre,EC,List.range_succ]
theorem aj8(l:List bP)(r i:Nat)(h:i<l.length)(e:l[i].bY=(r:Int)):pre l r (i+1)=pre l r i++[l[i]]:=by rw[pre,pre,ar9 h,asO];simp[e]
theorem aj7(l:List bP)(r i:Nat)(h:i<l.length)(e:l[i].bY≠(r:Int)):pre l r (i+1)=pre l r i:=by rw[pre,pre,ar9 h,asO];simp[e]
theorem apt(l:List bP)(h:l.length<=16)(r:Nat):(EC l r).length<=16*r:=by
 induction r with
 |zero=>simp[EC]
 |succ r e=>
  have:EC l (r+1)=EC l r++l.filter fun d=>decide (d.bY=(r:Int)):=by simp[EC,List.range_succ]
  rw[this,arV];have:=asi (fun d:bP=>decide (d.bY=(r:Int))) l;omega
theorem aj4(l:List bP)(h:l.length<=16)(r i:Nat):(pre l r i).length<=16*r+16:=by
 have e:=apt l h r;have j:=asi (fun d:bP=>decide (d.bY=(r:Int))) (l.take i);have n:(l.take i).length<=16:=by simp;omega
 rw[pre,arV];omega
theorem aj2{l:List bP}{r i:Nat}{x:bP}(h:x∈pre l r i):x∈l:=by
 simp only[pre,EC,asf,List.mem_flatMap,asY]at h;rcases h with⟨_,_,h,_⟩|⟨h,_⟩
 ·exact h
 ·exact ar6 h
theorem afP{l:List Elem}(h:∀x∈l,0<=x.amount)(c:List UInt8):0<=cE l c/\cE l c<=aR l:=by
 induction l with
 |nil=>simp[cE,aR]
 |cons a l e=>have n:=e (fun x j=>h x (by simp[j]));have p:=h a (by simp);simp only[cE,aR];split<;>omega
theorem ahg{l:List Elem}(h:∀x∈l,0<=x.amount){x:Elem}(e:x∈bF l):0<=x.amount/\x.amount<=aR l:=by rw[mem_sorted (Jg l),Rx]at e;rw[e.2];exact afP h _
theorem aj3{P:List bP}(e:∀x∈P,AO x)(before:Bool){base:Int}(year:List Elem)(j:0<=base)(l:base<=1000000000){a:Int}(n:0<=a)(x:Elem)(p:x∈bF (tk before base year P a)):0<=x.amount/\x.amount<=a:=by have r:=ahg (fun y hy=>by have:=(afW e j l a n y hy).2.1;omega) p;rw[afX P e j l a n]at r;have:=UK (before:=before) (year:=year) e j l a n;omega
theorem ad4(P:List bP)(before:Bool)(base:Int)(year:List Elem)(a:Int):(bF (tk before base year P a)).length<=P.length:=ar0 (Vm _) (YH _ _)
theorem UJ{l:List bP}{base e:Int}{year:List Elem}(h:gl l=false\/eP year=false):eK l base e year=1:=by
 unfold eK;rcases h with h|h
 ·rw[arK h]
 ·rw[arK h];split<;>rfl
theorem N7{l:List bP}{base e:Int}{year:List Elem}(j:gl l=true)(n:eP year=true)(h:bJ base 1000000000=false\/bJ e 1000000000=false):eK l base e year=2:=by
 unfold eK;rw[arJ (by simp[j]),arJ (by simp[n])];rcases h with h|h
 ·rw[arK h]
 ·rw[arK h];split<;>rfl
theorem YF{l:List bP}{base e:Int}{year:List Elem}(j:gl l=true)(n:eP year=true)(p:bJ base 1000000000=true)(r:bJ e 1000000000=true):eK l base e year=0:=by unfold eK;rw[arJ (by simp[j]),arJ (by simp[n]),arJ (by simp[p]),arJ (by simp[r])]
theorem YG{l:List bP}{before:Bool}{base e:Int}{year:List Elem}(h:eK l base e year=0):iI l before base e year=bF (tk before base year (DR l) e):=by rw[iI,arK h]
theorem acy{l:List bP}{before:Bool}{base e:Int}{year:List Elem}(h:eK l base e year≠0):iI l before base e year=[]:=by rw[iI,arJ h]
theorem acB{year:List Elem}(h:eP year=true)(c:ByteArray):0<=nC year c/\nC year c<=1000000000000:=
 apu (P:=fun n=>0<=n/\n<=1000000000000) (fun x e=>((pZ.1 h).2.1 x e).2) ⟨by omega,by omega⟩
theorem ahh{a:List Elem}(b:List Elem)(h:jc a):jc (b.foldl put a)/\(∀c,cE (b.foldl put a) c=cE (a++b) c)/\∀c,fN (b.foldl put a) c=fN (a++b) c:=by obtain⟨e,j,l⟩:=VF b a h;exact⟨e,fun c=>by rw[j,NN],fun c=>by rw[l,Uh]⟩
theorem abT{a b:List Elem}(h:jc a)(x:Elem):x∈mn a b↔(fN (a++b) x.code.data.toList=true/\x.amount=cE (a++b) x.code.data.toList/\x.amount≠0):=by obtain⟨e,j,l⟩:=ahh b h;rw[mn,asY,mem_sorted e,j,l];simp[nz,and_assoc]
theorem XW{a:List Elem}(b:List Elem)(h:jc a):jc (mn a b):=(ahh b h).1.filter _
theorem abR:∀{l m:List Elem},l.Pairwise (fun a b=>a.code≠b.code)->m.Pairwise (fun a b=>a.code≠b.code)->(∀x,x∈l↔x∈m)->l.Perm m
 |[],[],_,_,_=>List.Perm.nil
 |[],b::s,_,_,h=>by have:=(h b).2 (by simp);simp at this
 |a::r,m,p,u,h=>by
  obtain⟨z,B⟩:=asJ.1 p;have C:a∈m:=(h a).1 (by simp);obtain⟨s,t,rfl⟩:=List.append_of_mem C;have n:(s++a::t).Perm (a::(s++t)):=List.perm_middle;have D:=u.perm n (fun h e=>h e.symm);obtain⟨E,F⟩:=asJ.1 D;refine(List.Perm.cons a (abR B F (fun x=>?_))).trans n.symm;constructor
  ·intro j;have:=(h x).1 (by simp[j]);have h3:=n.mem_iff.1 this;rcases asb.1 h3 with e|h3
   ·subst e;exact absurd rfl (z x j)
   ·exact h3
  ·intro j;have:=(h x).2 (n.mem_iff.2 (by simp[j]));rcases asb.1 this with e|h3
   ·subst e;exact absurd rfl (E x j)
   ·exact h3
theorem abS{l:List Elem}(h:jc l):l.Pairwise (fun a b=>a.code≠b.code):=h.imp (by intro a b j e;rw[Fp,e]at j;exact ate _ j)
def big(x:Elem):Bool:=decide (1000000000000<x.amount)
def mP(l:List Elem):Bool:=l.any big
theorem ahL(l:List Elem)(x:Elem):mP (l++[x])=(mP l||big x):=by simp[mP]
theorem Ti(a b:List Elem):eA a b=if eP a=false then 1 else if b.all nW=false then 1 else if 128<b.length then 3 else if 128<(mn a b).length then 3 else if mP (mn a b)then 4 else 0:=rfl
theorem Ue{a b:List Elem}(h:eP a=false\/b.all nW=false):eA a b=1:=by
 rw[Ti];rcases h with h|h
 ·rw[arK h]
 ·rw[arK h];split<;>rfl
theorem Ug{a b:List Elem}(e:eP a=true)(j:b.all nW=true)(h:128<b.length\/128<(mn a b).length):eA a b=3:=by
 rw[Ti,arJ (by simp[e]),arJ (by simp[j])];rcases h with h|h
 ·rw[arK h]
 ·rw[arK h];split<;>rfl
theorem abY{a b:List Elem}(e:eP a=true)(j:b.all nW=true)(l:¬128<b.length)(n:¬128<(mn a b).length):eA a b=if mP (mn a b)then 4 else 0:=by rw[Ti,arJ (by simp[e]),arJ (by simp[j]),arJ l,arJ n]
theorem ab0{a b:List Elem}(h:eA a b=0):lj a b=mn a b:=by rw[lj,arK h]
theorem abM{a b:List Elem}(h:eA a b≠0):lj a b=[]:=by rw[lj,arJ h]
theorem Uf(x:Elem):nW x=true↔bK x.code=true/\0<=x.amount/\x.amount<=1000000000:=by simp[nW,bJ]
theorem abN(l:List Elem)(c:List UInt8)(B:Int)(p:0<=B)(h:∀x∈l,0<=x.amount/\x.amount<=B):0<=cE l c/\cE l c<=l.length*B:=by
 induction l with
 |nil=>simp[cE]
 |cons a l e=>
  have r:=e (fun x j=>h x (by simp[j]));have u:=h a (by simp);simp only[cE,arZ];have n:((l.length+1:Nat):Int)*B=l.length*B+B:=by rw[atj,asD];simp
  rw[n];split<;>omega
