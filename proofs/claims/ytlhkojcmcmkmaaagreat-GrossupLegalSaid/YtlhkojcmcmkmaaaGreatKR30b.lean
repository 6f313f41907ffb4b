/- Conditions: as stated. -/
import Derived.Deep.Light
import Derived.Test.YtlhkojcmcmkmaaaGreatKNetP
set_option maxRecDepth 100000
set_option maxHeartbeats 8000000
namespace Go.Proofs.YtlhkojcmcmkmaaaGreat
open Go.Proofs.Tryz
open Go.RowKit
theorem aoZ{a b:Int}(h:a=b):Ending.returned (.int .i64 a)=.returned (.int .i64 b):=by rw[h]
theorem agV(m:iD)(A:Option Addr)(r:Nat)(l:List cB)(j n inc:Int)(w:World)(h:aj gG 2 w w.heap.size A l)(C:gY l)(p:nP m.t)(K:0<=j)(L:j<=1000000000)(M:0<=n)(N:n<=1000000000)(O:0<=inc)(P:inc<=1000000000000):
  Calls prog 185 #[m.val,.slice A l.length r,.int .i64 j,.int .i64 n,.int .i64 inc] w fun e w'=>e=.returned (.int .i64 (ma m.t l j n inc))/\Below w.heap.size w w':=by
 have D:ma m.t l j n inc=max (Ce l (max (inc-j) 0) m.t.unit m.t.mode-n) 0:=rfl;have E:=aq6 D;obtain⟨t0,t1⟩:=aay (mode:=m.t.mode) (inc:=max (inc-j) 0) (unit:=m.t.unit) C (by omega) p.u0;have u0:=p.u0;have u1:=p.u1;have G:=p.Gm;have I:=p.Gn;clear D p;unfold iD.val;have F:=ah.new w 41 #[.int .i64 m.t.method,.slice m.Ab m.t.aA.length m.cb,.int .i64 m.t.bg,.int .i64 m.t.bh,.int .i64 m.t.unit,.int .i64 m.t.mode,.slice m.Ar m.t.rows.length m.cr];have u:=bF w (.cells #[.int .i64 m.t.method,.slice m.Ab m.t.aA.length m.cb,.int .i64 m.t.bg,.int .i64 m.t.bh,.int .i64 m.t.unit,.int .i64 m.t.mode,.slice m.Ar m.t.rows.length m.cr] 41);rcases(show max (inc-j) 0=inc-j/\0<=inc-j\/max (inc-j) 0=0/\inc-j<0 by omega)with⟨z,J⟩|⟨z,J⟩
 all_goals
  rw[z]at E t0 t1;clear z;go_enter func185,ntmps185;go_upto_region 1 with fail
  generalize w.alloc (Obj.cells _ _)=W at F u|-;obtain⟨Q,R,S,T,U,V,X⟩:=F.cz7;go_wp2_with fail;refine(amN A r l _ _ _ W (h.aa u) C (by omega) (by omega) u0 (by omega) G I).mono ?_;rintro e Y ⟨rfl,B⟩;generalize Ce l _ m.t.unit m.t.mode=Z at*;go_wp2
  all_goals go_ret;exact⟨aoZ (by rw[E.out];omega),aB u B⟩
theorem ao0(A:Option Addr)(p:Nat)(t:List mj)(j:Int)(w:World)(h:aj oB 2 w w.heap.size A t)(E:My t)(J:0<=j)(K:j<=1000000000):
  Calls prog 144 #[.slice A t.length p,.int .i64 j] w fun e w'=>e=.returned (.tuple #[.int .i64 (Jf t j),.int .i64 0])/\∃q,w'=w.drewN q:=by
 have Q:=E.len;have L:bG j 1000000000=true:=gT.2 ⟨J,K⟩;have l:=afz A p t w _ h E;have F:=aq6 l;clear l;go_enter func144,ntmps144;go_wp2_with fail;refine arf F.out ?_;rintro e G ⟨rfl,q,u⟩;have z:aj oB 2 G G.heap.size A t:=by rw[u];exact h.Uy q
 have B:=aq6 u;clear u F h;go_wp2_with fail;refine(Jd _ _ _).mono ?_;rintro e w' ⟨rfl,rfl⟩;rw[L];go_wp2
 go_loop [6,7] (fun n i=>∃k:Nat,k<=t.length/\i=.int .i64 k/\n=.int .i64 (De t j k)) (fun _ i=>t.length-(intOf i).toNat)
 case atStart=>exact⟨0,by omega,rfl,rfl⟩
 case round=>
  obtain⟨k,R,rfl,rfl⟩:=hrel;by_cases r:k<t.length
  ·obtain⟨b,M,rfl,S,C⟩:=z.at_ r;have N:=C 0 _ rfl;have T:=C 1 _ rfl;simp only[ara]at N;have D:Hid (De t j (k+1)=if(t.getD k lR).bW<=j then(t.getD k lR).au else De t j k):=rfl;rw[Hh r]at D;clear C;by_cases O:t[k].bW<=j
   ·go_wp2;go_round
    case rel=>exact⟨k+1,by omega,by go_num,by rw[D.out,aq9 O]⟩
    case measure=>simp[intOf];omega
   ·go_wp2;go_round
    case rel=>
     have I:∃k':Nat,k'<=t.length/\Value.int .i64 ((k:Int)+1)=.int .i64 k'/\Value.int .i64 (De t j k)=.int .i64 (De t j k'):=⟨k+1,by omega,by go_num,by rw[D.out,aq8 (by omega)]⟩
     first|exact I|((repeat apply Exists.intro);exact⟨I,rfl⟩)
    case measure=>simp[intOf];omega
  ·obtain rfl:k=t.length:=by omega
   have P:Hid (Jf t j=De t j t.length):=rfl;go_wp2;go_ret2;exact⟨by rw[P.out];rfl,q,B.out⟩
theorem af6{t:zS}{j e:Int}(l:nP t)(p:0<=j)(r:j<=1000000000)(B:1<=e)(u:e<=53):
  (0<=j*e/\j*e<=53000000000)/\(0<=ma t t.aA t.bg t.bh (j*e)/\ma t t.aA t.bg t.bh (j*e)<=54000000000)/\(ma t t.aA t.bg t.bh (j*e)).tdiv e=Fb t j e/\(0<=Fb t j e/\Fb t j e<=54000000000):=by
 have z:0<=j*e:=arH p (by omega);have C:j*e<=1000000000*53:=asm r u (by omega) (by omega);obtain⟨n,D⟩:=Vo (t:=t) (al:=t.bg) (cr:=t.bh) l.aA l.u0 l.u1 l.a0 l.c0 z;refine⟨by omega,by omega,asn n,ar5 n (by omega),?_⟩;refine Int.le_trans (Int.ediv_le_self _ n) (by omega)
theorem ao1(m:iD)(n j:Int)(w:World)(h:m.In w)(B:nP m.t)(F:0<=n)(G:n<=1000000000)(Q:1<=j)(R:j<=53):
  Calls prog 145 #[m.val,.int .i64 n,.int .i64 j] w fun e w'=>e=.returned (.tuple #[.int .i64 (Fb m.t n j),.int .i64 0])/\Below w.heap.size w w':=by
 obtain⟨⟨S,X⟩,⟨t0,t1⟩,Y,f0,f1⟩:=af6 B F G Q R;have T:bG n 1000000000=true:=gT.2 ⟨F,G⟩;have Z:(j==0)=false:=by rw[arS];omega
 have z:=ah.new w 41 #[.int .i64 m.t.method,.slice m.Ab m.t.aA.length m.cb,.int .i64 m.t.bg,.int .i64 m.t.bh,.int .i64 m.t.unit,.int .i64 m.t.mode,.slice m.Ar m.t.rows.length m.cr];have C:=bF w (.cells #[.int .i64 m.t.method,.slice m.Ab m.t.aA.length m.cb,.int .i64 m.t.bg,.int .i64 m.t.bh,.int .i64 m.t.unit,.int .i64 m.t.mode,.slice m.Ar m.t.rows.length m.cr] 41);have p:=aq6 B;clear B;unfold iD.val;go_enter func145,ntmps145;go_upto_region 1 with fail
 generalize w.alloc (Obj.cells _ _)=W at z C|-;obtain⟨I,J,K,L,M,N,O⟩:=z.cz7;go_wp2_with fail;have l:=U7 m W (h.aa C) p.out;unfold iD.val at l;refine l.mono ?_;rintro e U ⟨rfl,r⟩;have V:=z.aa r;have P:=aB C r;clear l z r I J K L M N O;obtain⟨I,J,K,L,M,N,O⟩:=V.cz7;go_wp2_with fail;refine(Jd _ _ _).mono ?_;rintro e w' ⟨rfl,rfl⟩;rw[T];go_wp2_with fail;have l:=agV m m.Ab m.cb m.t.aA m.t.bg m.t.bh (n*j) U (h.aA.aa P) p.out.aA p.out p.out.a0 p.out.a1 p.out.c0 p.out.c1 S (by omega);unfold iD.val at l;refine l.mono ?_;rintro e w2 ⟨rfl,D⟩;clear l;generalize ma m.t m.t.aA m.t.bg m.t.bh (n*j)=tn at*;generalize u:Fb m.t n j=fn at*;have E:=aq6 u;clear u;go_wp2;go_ret2;exact⟨by rw[E.out];rfl,aB P D⟩
theorem aaS{t:zS}{j k:Int}(l:nP t)(z:1<=j)(B:j<=53)(C:1<=k)(u:k<=j):
  ((0<=t.bg*k/\t.bg*k<=53000000000)/\(0<=t.bh*k/\t.bh*k<=53000000000))/\((t.bg*k).tdiv j=t.bg*k/j/\(t.bh*k).tdiv j=t.bh*k/j)/\(0<=t.bg*k/j/\t.bg*k/j<=1000000000)/\(0<=t.bh*k/j/\t.bh*k/j<=1000000000):=by
 have key:∀x:Int,0<=x->x<=1000000000->(0<=x*k/\x*k<=53000000000)/\(x*k).tdiv j=x*k/j/\0<=x*k/j/\x*k/j<=1000000000:=fun x n p=>by have r:0<=x*k:=arH n (by omega);have D:x*k<=1000000000*53:=asm p (by omega) (by omega) (by omega);refine⟨by omega,asn r,ar5 r (by omega),?_⟩;refine Int.le_trans (Int.ediv_le_of_le_mul (by omega) ?_) p;exact arP u n
 obtain⟨a,b,c⟩:=key t.bg l.a0 l.a1;obtain⟨d,e,f⟩:=key t.bh l.c0 l.c1;exact⟨⟨a,d⟩,⟨b,e⟩,c,f⟩
theorem ao2(m:iD)(j k l:Int)(w:World)(h:m.In w)(N:nP m.t)(O:1<=j)(V:j<=53)(k0:1<=k)(P:k<=j)(X:0<=l)(Y:l<=1000000000000):
  Calls prog 186 #[m.val,.int .i64 j,.int .i64 k,.int .i64 l] w fun e w'=>e=.returned (.tuple #[.int .i64 (mV m.t j k l),.int .i64 0])/\Below w.heap.size w w':=by
 obtain⟨⟨⟨p0,p1⟩,p2,p3⟩,⟨e1,e2⟩,⟨q0,q1⟩,q2,q3⟩:=aaS N O V k0 P;have iR:bG l 1000000000000=true:=gT.2 ⟨X,Y⟩;have eQ:(j==0)=false:=by rw[arS];omega
 have L:=ah.new w 41 #[.int .i64 m.t.method,.slice m.Ab m.t.aA.length m.cb,.int .i64 m.t.bg,.int .i64 m.t.bh,.int .i64 m.t.unit,.int .i64 m.t.mode,.slice m.Ar m.t.rows.length m.cr];have Q:=bF w (.cells #[.int .i64 m.t.method,.slice m.Ab m.t.aA.length m.cb,.int .i64 m.t.bg,.int .i64 m.t.bh,.int .i64 m.t.unit,.int .i64 m.t.mode,.slice m.Ar m.t.rows.length m.cr] 41);have HD:Hid (mV m.t j k l=ma m.t (nQ m.t.aA k j) (m.t.bg*k/j) (m.t.bh*k/j) l):=rfl;have M:=aq6 N;clear N;unfold iD.val;go_enter func186,ntmps186;go_upto_region 1 with fail
 generalize w.alloc (Obj.cells _ _)=W at L Q|-;obtain⟨C,D,E,F,G,I,J⟩:=L.cz7;go_wp2_with fail;have n:=U7 m W (h.aa Q) M.out;unfold iD.val at n;refine n.mono ?_;rintro e w1 ⟨rfl,u⟩;have R:=L.aa u;have Z:=aB Q u;clear n L u C D E F G I J;obtain⟨C,D,E,F,G,I,J⟩:=R.cz7;go_wp2_with fail;refine(Jd _ _ _).mono ?_;rintro e w' ⟨rfl,rfl⟩;rw[iR];go_wp2_with fail;refine(amP m.Ab m.cb m.t.aA k j w1 (h.aA.aa Z) M.out.aA (by omega) O P V).mono ?_;rintro e w2 ⟨v2,rfl,r,z⟩;have bz:=R.aa z;have bu:=aB Z z;have Eo:=aq6 (Ra (num:=k) (den:=j) M.out.aA (by omega) O P);obtain⟨A2,c2,rfl,cy,_,_,_⟩:=r.kE CS;have B:=bz.lt;clear R z r C D E F G I J;obtain⟨C,D,E,F,G,I,J⟩:=bz.cz7;have n:∀p:Bw w2,Calls prog 185 #[.agg #[.int .i64 m.t.method,.slice m.Ab m.t.aA.length m.cb,.int .i64 m.t.bg,.int .i64 m.t.bh,.int .i64 m.t.unit,.int .i64 m.t.mode,.slice m.Ar m.t.rows.length m.cr],.slice A2 (nQ m.t.aA k j).length c2,.int .i64 (m.t.bg*k/j),.int .i64 (m.t.bh*k/j),.int .i64 l] p.w' fun e w'=>e=.returned (.int .i64 (mV m.t j k l))/\Below p.w'.heap.size p.w' w':=fun p=>by rw[HD.out];exact agV m A2 c2 (nQ m.t.aA k j) (m.t.bg*k/j) (m.t.bh*k/j) l p.w' (cy.aa p.h) Eo.out M.out q0 q1 q2 q3 X Y
 have S:=aq6 n;clear n;generalize m.t.bg*k/j=qa at*;generalize m.t.bh*k/j=qc at*;go_wp2_with fail;have y0:=Bw.cell (w:=w2) (a:=⟨w.heap.size,0,none⟩) (by exact B) C;have y1:=Bw.cell (w:=w2) (a:=⟨w.heap.size,1,none⟩) (by exact B) D;have y2:=Bw.cell (w:=w2) (a:=⟨w.heap.size,2,none⟩) (by exact B) E;have y3:=Bw.cell (w:=w2) (a:=⟨w.heap.size,3,none⟩) (by exact B) F;have y4:=Bw.cell (w:=w2) (a:=⟨w.heap.size,4,none⟩) (by exact B) G;have y5:=Bw.cell (w:=w2) (a:=⟨w.heap.size,5,none⟩) (by exact B) I;have y6:=Bw.cell (w:=w2) (a:=⟨w.heap.size,6,none⟩) (by exact B) J;refine pE (by kernel_rfl) (by kernel_rfl) ?_
 repeat(go_big_quiet_step((with_reducible exact Bw.call _ (S.out _))))
 refine wpQuiet_nil ?_;intro W2 T;obtain⟨⟨W9,U⟩,K⟩:=T;subst K;go_wp2;go_ret2;exact⟨rfl,aB bu U⟩
theorem af7{t:zS}{e k j:Int}(l:nP t)(n:1<=e)(r:e<=53)(u:1<=k)(p:k<=e)(z:0<=j)(D:j<=1000000000000):0<=mV t e k j/\mV t e k j<=1000000000100:=by obtain⟨_,_,⟨B,_⟩,C,_⟩:=aaS l n r u p;have:=Vo (t:=t) (inc:=j) (Ra (num:=k) (den:=e) l.aA (by omega) n p) l.u0 l.u1 B C z;unfold mV;omega
theorem ao4(m:iD)(j k l p:Int)(w:World)(h:m.In w)(r:nP m.t)(C:1<=j)(D:j<=53)(E:1<=k)(F:k<=j)(G:0<=l)(I:l<=1000000000000)(M:-1000000000000<=p)(N:p<=1000000000000):
  Calls prog 146 #[m.val,.int .i64 j,.int .i64 k,.int .i64 l,.int .i64 p] w fun e w'=>e=.returned (.tuple #[.int .i64 (mV m.t j k l-p),.int .i64 0])/\Below w.heap.size w w':=by
 obtain⟨d0,d1⟩:=af7 r C D E F G I;have J:=ah.new w 41 #[.int .i64 m.t.method,.slice m.Ab m.t.aA.length m.cb,.int .i64 m.t.bg,.int .i64 m.t.bh,.int .i64 m.t.unit,.int .i64 m.t.mode,.slice m.Ar m.t.rows.length m.cr];have u:=bF w (.cells #[.int .i64 m.t.method,.slice m.Ab m.t.aA.length m.cb,.int .i64 m.t.bg,.int .i64 m.t.bh,.int .i64 m.t.unit,.int .i64 m.t.mode,.slice m.Ar m.t.rows.length m.cr] 41);have L:=aq6 r;clear r;unfold iD.val;go_enter func146,ntmps146;go_upto_region 1 with fail
 generalize w.alloc (Obj.cells _ _)=W at J u|-;obtain⟨O,P,Q,R,S,T,U⟩:=J.cz7;go_wp2_with fail;have n:=ao2 m j k l W (h.aa u) L.out C D E F G I;unfold iD.val at n;refine n.mono ?_;rintro e V ⟨rfl,z⟩;clear n;generalize K:mV m.t j k l=X at*;have B:=aq6 K;clear K;go_wp2;go_ret2;exact⟨by rw[B.out];rfl,aB u z⟩
theorem ajm(m:iD)(j r p u l:Int)(E At:Option Addr)(F G lt I:Nat)(w:World)(h:m.In w)(M:nP m.t)(V:1<=j)(X:j<=53)(p0:0<=r)(p1:r<j)(Q:0<=l)(R:l<=1000000000)(Y:0<=p)(Z:p<=999000000000)(w0:-1000000000000<=u)(DN:u<=1000000000000):
  Calls prog 92 #[m.val,.int .i64 j,.agg #[.int .i64 r,.int .i64 p,.int .i64 u,.slice E F G,.slice At lt I],.int .i64 l] w fun e w'=>e=.returned (.tuple #[.int .i64 (ky m.t j r p u l),.int .i64 0])/\Below w.heap.size w w':=by
 have Ej:bG l 1000000000=true:=gT.2 ⟨Q,R⟩;have DC:bG p 999000000000=true:=gT.2 ⟨Y,Z⟩;have N:=(ah.new w 41 #[.int .i64 m.t.method,.slice m.Ab m.t.aA.length m.cb,.int .i64 m.t.bg,.int .i64 m.t.bh,.int .i64 m.t.unit,.int .i64 m.t.mode,.slice m.Ar m.t.rows.length m.cr]).alloc (.cells #[.int .i64 r,.int .i64 p,.int .i64 u,.slice E F G,.slice At lt I] 53);have O:=ah.new (w.alloc (.cells #[.int .i64 m.t.method,.slice m.Ab m.t.aA.length m.cb,.int .i64 m.t.bg,.int .i64 m.t.bh,.int .i64 m.t.unit,.int .i64 m.t.mode,.slice m.Ar m.t.rows.length m.cr] 41)) 53 #[.int .i64 r,.int .i64 p,.int .i64 u,.slice E F G,.slice At lt I];have S:=ew (bF w (.cells #[.int .i64 m.t.method,.slice m.Ab m.t.aA.length m.cb,.int .i64 m.t.bg,.int .i64 m.t.bh,.int .i64 m.t.unit,.int .i64 m.t.mode,.slice m.Ar m.t.rows.length m.cr] 41)) (.cells #[.int .i64 r,.int .i64 p,.int .i64 u,.slice E F G,.slice At lt I] 53);rw[arn]at O;have P:=aq6 M;have C:Hid (ky m.t j r p u l=if m.t.method=1 then Jf m.t.rows l else if m.t.method=2 then Fb m.t l j else mV m.t j (r+1) (p+l)-u):=rfl;have ab:=M.m0;have ad:=M.m1;clear M;unfold iD.val;go_enter func92,ntmps92;go_upto_region 1 with fail
 generalize (w.alloc (Obj.cells #[.int .i64 m.t.method,.slice m.Ab m.t.aA.length m.cb,.int .i64 m.t.bg,.int .i64 m.t.bh,.int .i64 m.t.unit,.int .i64 m.t.mode,.slice m.Ar m.t.rows.length m.cr] 41)).alloc (Obj.cells #[.int .i64 r,.int .i64 p,.int .i64 u,.slice E F G,.slice At lt I] 53)=W at N O S|-;obtain⟨J,z1,z2,z3,z4,z5,z6⟩:=N.cz7;go_wp2_with fail;have n:=U7 m W (h.aa S) P.out;unfold iD.val at n;refine n.mono ?_;rintro e T ⟨rfl,z⟩;have aD:=N.aa z;have iV:=O.aa z;have D:=aB S z;clear n N O z J z1 z2 z3 z4 z5 z6;obtain⟨J,z1,z2,z3,z4,z5,z6⟩:=aD.cz7;obtain⟨Y,Z,y2,y3,y4⟩:=iV.cz5;go_wp2_with fail;refine(Jd _ _ _).mono ?_;rintro e w' ⟨rfl,rfl⟩;rw[Ej];go_wp2_with fail;refine(Jd _ _ _).mono ?_;rintro e w' ⟨rfl,rfl⟩;rw[DC];have U:m.t.method=1\/m.t.method=2\/m.t.method=3:=by omega
 rcases U with hm|hm|hm
 ·have HR:=aq6 (P.out.rows hm);have K:Hid (ky m.t j r p u l=Jf m.t.rows l):=by rw[Hid,C.out,aq9 hm]
  rw[hm]at J;clear C hm;go_wp2_with fail;refine(ao0 m.Ar m.cr m.t.rows l T (h.rows.aa D) HR.out Q R).mono ?_;rintro e w2 ⟨rfl,q2,rfl⟩;go_wp2;go_ret2;exact⟨by rw[K.out];rfl,below_drewN D q2⟩
 ·have K:Hid (ky m.t j r p u l=Fb m.t l j):=by rw[Hid,C.out,aq8 (by omega),aq9 hm]
  have n:=ao1 m l j T (h.aa D) P.out Q R V X;unfold iD.val at n;have L:=aq6 n;rw[hm]at J L;clear n C hm;go_wp2_with fail;refine arf L.out ?_;rintro e w2 ⟨rfl,B⟩;go_wp2;go_ret2;exact⟨by rw[K.out];rfl,aB D B⟩
 ·have K:Hid (ky m.t j r p u l=mV m.t j (r+1) (p+l)-u):=by rw[Hid,C.out,aq8 (by omega),aq8 (by omega)]
  have n:=ao4 m j (r+1) (p+l) u T (h.aa D) P.out V X (by omega) (by omega) (by omega) (by omega) w0 DN;unfold iD.val at n;have L:=aq6 n;rw[hm]at J L;clear n C hm;go_wp2_with fail;refine arf L.out ?_;rintro e w2 ⟨rfl,B⟩;go_wp2;go_ret2;exact⟨by rw[K.out];rfl,aB D B⟩
def mJ(e:List cI)(i:Nat)(x:cI):Bool:=
 bI x.code&&(decide (i=0)||(match e[i-1]?with|some p=>Op.bytesLess p.code.toList x.code.toList|none=>true))&&(x.kind==1||x.kind==2)&&!(x.kind==2&&x.fU)&&(decide (1000<=x.eK)&&decide (x.eK<=9999))
def jV(e:List cI):Bool:=decide (e.length<=64)&&decide (∀i,(h:i<e.length)->mJ e i e[i]=true)
theorem agW{e:List cI}{i:Nat}(h:i<e.length)(j:mJ e i e[i]=false):jV e=false:=by unfold jV;simp only[asV,ar4];right;intro l;have:=l i h;rw[j]at this;cases this
theorem aae{e:List cI}(j:e.length<=64)(h:∀i,(h:i<e.length)->mJ e i e[i]=true):jV e=true:=by unfold jV;simp only[arw,arz];exact⟨j,h⟩
theorem RM(e:List cI)(i:Nat)(x:cI)(l:Bool)(j:i=0\/(∃p,e[i-1]?=some p/\l=Op.bytesLess p.code.toList x.code.toList)):
  mJ e i x=decide (bI x.code=true/\(i=0\/l=true)/\(x.kind=1\/x.kind=2)/\¬(x.kind=2/\x.fU=true)/\1000<=x.eK/\x.eK<=9999):=by
 rw[Bool.eq_iff_iff];rcases j with rfl|⟨p,n,rfl⟩
 ·simp[mJ,and_assoc]
 ·simp[mJ,n,and_assoc]
theorem afa(A:Option Addr)(M:Nat)(l:List cI)(w:World)(h:aj gu 6 w w.heap.size A l)(Q:∀x∈l,x.code.size<=maxLen)(U:l.length<=9223372036854775807):
    Calls prog 153 #[.slice A l.length M] w fun e w'=>e=.returned (.bool (jV l))/\Below w.heap.size w w':=by
  have V:=aq6 Q;clear Q;by_cases F:64<l.length
  · have X:Hid (jV l=false):=by simp[Hid,jV];intro;omega
    go_enter func153,ntmps153;go_wp2;go_ret;exact⟨by rw[X.out];rfl,arb _ _⟩
  · have Y:l.length<=64:=by omega
    clear F U;go_enter func153,ntmps153;go_wp2
    go_loopw [10] (fun i wr=>∃k:Nat,k<=l.length/\i=.int .i64 k/\Hid (∀j,(z:j<l.length)->j<k->mJ l j l[j]=true)/\Below w.heap.size w wr) (fun i _=>l.length-(intOf i).toNat)
    case atStart=>exact⟨0,by omega,rfl,fun j _ z=>absurd z (by omega),arb _ _⟩
    case round=>
      obtain⟨k,hk,rfl,u,n⟩:=hrel;by_cases B:k<l.length
      · obtain⟨b,Z,rfl,hb,C⟩:=(h.below n).at_ B
        have c0:=C 0 _ rfl;have c1:=C 1 _ rfl;have c2:=C 2 _ rfl;have c3:=C 3 _ rfl;have c4:=C 4 _ rfl;have c5:=C 5 _ rfl;simp only[ara]at c0;have R:=V.out _ (arc B);have ab:∀r,mJ l k l[k]=r->Hid (mJ l k l[k]=r):=fun r h=>h;have D:=n.size;have L:=aq6 (@agW l k B);clear C;have S:Below w.heap.size w (wr.alloc (.cells (gu l[k]).toArray 77)):=n.alloc D _;rcases arp 0 k with fM|fM;rotate_left
        · have G:=RM l k l[k] true (.inl (by omega))
          have ad:decide ((0:Int)<(k:Int))=false:=(by simp;omega);have af:decide (0<k)=false:=(by simp;omega);have I:=aq6 G;clear G;go_wp2_with(go_at_call 82;refine(BO _ _ R).mono ?_;rintro e w' ⟨rfl,rfl⟩)
          · have p:(!bI l[k].code)=true:=by assumption
            go_ret;exact⟨by rw[L.out (by simp at p;simp[mJ,p])];rfl,S⟩
          · have p:(!bI l[k].code)=false:=by assumption
            go_quiet(fail);go_wp2
            all_goals first
              |(
                 go_ret;refine⟨?_,below_drewN (n.alloc D _) _⟩;have N:mJ l k l[k]=false:=by
                   go_light
                   rw[I.out];apply asp;rintro⟨h1,O,h3,h4,h5,h6⟩
                   first|omega|(simp_all;done)|(simp_all;omega)
                 rw[L.out N];rfl)
              |(
                 go_roundw
                 case rel=>
                   have J:∀j,(z:j<l.length)->j<k+1->mJ l j l[j]=true:=by
                     intro j z P;obtain rfl:j=k:=by omega
                     go_light
                     rw[I.out];apply ase;refine⟨by simpa using p,by omega,?_,?_,?_,?_⟩
                     all_goals first|omega|(simp_all;done)|(simp_all;omega)
                   first|exact⟨k+1,by omega,by go_num,J,below_drewN (n.alloc D _) _⟩|((repeat apply Exists.intro);exact⟨⟨k+1,by omega,by go_num,J,below_drewN (n.alloc D _) _⟩,rfl⟩)
                 case measure=>simp[intOf];omega)
        · obtain⟨m,rfl⟩:∃m,k=m+1:=⟨k-1,by omega⟩
          obtain⟨b',T,E,ai,K⟩:=(h.below n).at_ (show m<l.length by omega);injection E with E
          injection E with h1 O
          subst h1 O;have p0:=K 0 _ rfl;simp only[ara]at p0;have G:=RM l (m+1) l[m+1] _ (.inr ⟨l[m],by simp,rfl⟩);have I:=aq6 G;have IU:b<wr.heap.size:=(by omega);clear K G;go_wp2_with(go_at_call 82;refine(BO _ _ R).mono ?_;rintro e w' ⟨rfl,rfl⟩)
          · have p:(!bI l[m+1].code)=true:=by assumption
            go_ret;exact⟨by rw[L.out (by simp at p;simp[mJ,p])];rfl,S⟩
          · have p:(!bI l[m+1].code)=false:=by assumption
            go_quiet(fail);go_wp2
            all_goals first
              |(
                 go_ret;refine⟨?_,below_drewN (n.alloc D _) _⟩;have N:mJ l (m+1) l[m+1]=false:=by
                   go_light
                   rw[I.out];apply asp;rintro⟨h1,O,h3,h4,h5,h6⟩
                   first|omega|(simp_all;done)|(simp_all;omega)
                 rw[L.out N];rfl)
              |(
                 go_roundw
                 case rel=>
                   have J:∀j,(z:j<l.length)->j<m+1+1->mJ l j l[j]=true:=by
                     intro j z P;rcases arp j (m+1)with h1|h1
                     · exact u.out j z h1
                     · obtain rfl:j=m+1:=by omega
                       go_light
                       rw[I.out];apply ase;refine⟨by simpa using p,.inr (by simp_all),?_,?_,?_,?_⟩
                       all_goals first|omega|(simp_all;done)|(simp_all;omega)
                   first|exact⟨m+1+1,by omega,by go_num,J,below_drewN (n.alloc D _) _⟩|((repeat apply Exists.intro);exact⟨⟨m+1+1,by omega,by go_num,J,below_drewN (n.alloc D _) _⟩,rfl⟩)
                 case measure=>simp[intOf];omega)
      · go_wp2
        go_ret;exact⟨by rw[aae Y (fun i hi=>u.out i hi (by omega))];rfl,n⟩
def mI:cI:=⟨⟨#[]⟩,0,false,false,false,0⟩
def Il(c:ByteArray)(x:cI):Bool:=x.code.toList==c.toList
def ee(xs:List cI)(c:ByteArray):Option cI:=xs.find? (Il c)
def AV(o:Option cI):Value:=.tuple #[.agg (gu (o.getD mI)).toArray,.bool o.isSome]
theorem agX{xs:List cI}{c:ByteArray}{k:Nat}(l:k<xs.length)(h:∀j,(e:j<xs.length)->j<k->Il c xs[j]=false)(n:Il c xs[k]=true):ee xs c=some xs[k]:=by unfold ee;rw[List.find?_eq_some_iff_getElem];refine⟨n,k,l,rfl,fun j e=>?_⟩;rw[h j (by omega) e];rfl
theorem agY{xs:List cI}{c:ByteArray}(h:∀j,(e:j<xs.length)->Il c xs[j]=false):ee xs c=none:=by unfold ee;rw[List.find?_eq_none];intro x l;obtain⟨j,e,rfl⟩:=arN.1 l;rw[h j e];simp
theorem ZQ(A:Option Addr)(D:Nat)(xs:List cI)(c:ByteArray)(w:World)(h:aj gu 6 w w.heap.size A xs)(Z:xs.length<=9223372036854775806):
  Calls prog 74 #[.slice A xs.length D,.string c] w fun e w'=>e=.returned (AV (ee xs c))/\Below w.heap.size w w':=by
 go_enter func74,ntmps74;go_wp2
 go_loopw [10] (fun i wr=>∃k:Nat,k<=xs.length/\i=.int .i64 k/\Hid (∀j,(r:j<xs.length)->j<k->Il c xs[j]=false)/\Below w.heap.size w wr/\ah wr w.heap.size 77 (gu mI).toArray) (fun i _=>xs.length-(intOf i).toNat)
 case atStart=>exact⟨0,by omega,rfl,fun j _ r=>absurd r (by omega),(arb _ _).alloc (aq7 _) _,ah.new _ _ _⟩
 case round=>
  obtain⟨k,hk,rfl,n,C,l⟩:=hrel;have hz:=l.lt;have N:=l.cell 0;have O:=l.cell 1;have P:=l.cell 2;have Q:=l.cell 3;have R:=l.cell 4;have S:=l.cell 5;obtain⟨f0,f1,f2,f3,f4,f5⟩:=l.fz6;simp only[gu,mI,arh,ari,arj]at N O P Q R S;by_cases u:k<xs.length
  ·obtain⟨b,T,rfl,hb,p⟩:=(h.below C).at_ u;have U:=p 0 _ rfl;have c1:=p 1 _ rfl;have c2:=p 2 _ rfl;have c3:=p 3 _ rfl;have c4:=p 4 _ rfl;have c5:=p 5 _ rfl;simp only[ara]at U;clear p;have kW:b<wr.heap.size:=(by omega);by_cases E:(xs[k].code.toList==c.toList)=true
   ·have F:=aq6 (agX u n.out E);go_wp2;have z:=(l.UY rfl (.string xs[k].code) (.int .i64 xs[k].kind) (.bool xs[k].jh) (.bool xs[k].aF) (.bool xs[k].fU) (.int .i64 xs[k].eK)).alloc (Obj.cells #[Value.string xs[k].code,Value.int IntKind.i64 xs[k].kind,Value.bool xs[k].jh,Value.bool xs[k].aF,Value.bool xs[k].fU,Value.int IntKind.i64 xs[k].eK] 77);have B:Below w.heap.size w _:=(gS (gS (gS (gS (gS (gS C (aq7 _) 0 (.string xs[k].code)) (aq7 _) 1 (.int .i64 xs[k].kind)) (aq7 _) 2 (.bool xs[k].jh)) (aq7 _) 3 (.bool xs[k].aF)) (aq7 _) 4 (.bool xs[k].fU)) (aq7 _) 5 (.int .i64 xs[k].eK)).alloc (by simp;omega) (Obj.cells #[Value.string xs[k].code,Value.int IntKind.i64 xs[k].kind,Value.bool xs[k].jh,Value.bool xs[k].aF,Value.bool xs[k].fU,Value.int IntKind.i64 xs[k].eK] 77);generalize World.alloc _ _=V at z B|-;obtain⟨G,I,J,K,L,M⟩:=z.cz6;refine art (v:=AV (some xs[k])) (by simp[results,results74,go_sem,G,I,J,K,L,M,AV,gu]) rfl ⟨by rw[F.out],B⟩
   ·have X:(xs[k].code.toList==c.toList)=false:=(by simpa using E);clear E;go_wp2;go_roundw
    case rel=>
     refine⟨k+1,by omega,by go_num,fun j r Y=>?_,C.alloc (by omega) _,l.alloc _⟩;rcases arp j k with h1|h1
     ·exact n.out j r h1
     ·obtain rfl:j=k:=by omega
      exact X
    case measure=>simp[intOf];omega
  ·have F:=aq6 (agY (xs:=xs) (c:=c) (fun j r=>n.out j r (by omega)));go_wp2;have z:=l.UY rfl (.string {data:=#[]}) (.int .i64 0) (.bool false) (.bool false) (.bool false) (.int .i64 0);have B:Below w.heap.size w _:=gS (gS (gS (gS (gS (gS C (aq7 _) 0 (.string {data:=#[]})) (aq7 _) 1 (.int .i64 0)) (aq7 _) 2 (.bool false)) (aq7 _) 3 (.bool false)) (aq7 _) 4 (.bool false)) (aq7 _) 5 (.int .i64 0);generalize World.setCell _ _ (Value.int .i64 0)=V at z B|-;obtain⟨G,I,J,K,L,M⟩:=z.cz6;refine art (v:=AV none) (by simp[results,results74,go_sem,G,I,J,K,L,M,AV,gu,mI]) rfl ⟨by rw[F.out],B⟩
theorem adD(A:Option Addr)(D:Nat)(xs:List cI)(c:ByteArray)(w:World)(h:aj gu 6 w w.heap.size A xs)(Z:xs.length<=9223372036854775806):
  Calls prog 80 #[.slice A xs.length D,.string c] w fun e w'=>e=.returned (AV (ee xs c))/\Below w.heap.size w w':=by
 go_enter func80,ntmps80;go_wp2
 go_loopw [6] (fun i wr=>∃k:Nat,k<=xs.length/\i=.int .i64 k/\Hid (∀j,(r:j<xs.length)->j<k->Il c xs[j]=false)/\Below w.heap.size w wr/\ah wr w.heap.size 77 (gu mI).toArray) (fun i _=>xs.length-(intOf i).toNat)
 case atStart=>exact⟨0,by omega,rfl,fun j _ r=>absurd r (by omega),(arb _ _).alloc (aq7 _) _,ah.new _ _ _⟩
 case round=>
  obtain⟨k,hk,rfl,n,C,l⟩:=hrel;have hz:=l.lt;have N:=l.cell 0;have O:=l.cell 1;have P:=l.cell 2;have Q:=l.cell 3;have R:=l.cell 4;have S:=l.cell 5;obtain⟨f0,f1,f2,f3,f4,f5⟩:=l.fz6;simp only[gu,mI,arh,ari,arj]at N O P Q R S;by_cases u:k<xs.length
  ·obtain⟨b,T,rfl,hb,p⟩:=(h.below C).at_ u;have U:=p 0 _ rfl;have c1:=p 1 _ rfl;have c2:=p 2 _ rfl;have c3:=p 3 _ rfl;have c4:=p 4 _ rfl;have c5:=p 5 _ rfl;simp only[ara]at U;clear p;have kW:b<wr.heap.size:=(by omega);by_cases E:(xs[k].code.toList==c.toList)=true
   ·have F:=aq6 (agX u n.out E);go_wp2;have z:=l.UY rfl (.string xs[k].code) (.int .i64 xs[k].kind) (.bool xs[k].jh) (.bool xs[k].aF) (.bool xs[k].fU) (.int .i64 xs[k].eK);have B:Below w.heap.size w _:=gS (gS (gS (gS (gS (gS C (aq7 _) 0 (.string xs[k].code)) (aq7 _) 1 (.int .i64 xs[k].kind)) (aq7 _) 2 (.bool xs[k].jh)) (aq7 _) 3 (.bool xs[k].aF)) (aq7 _) 4 (.bool xs[k].fU)) (aq7 _) 5 (.int .i64 xs[k].eK);generalize World.setCell _ _ (Value.int .i64 xs[k].eK)=V at z B|-;obtain⟨G,I,J,K,L,M⟩:=z.cz6;refine art (v:=AV (some xs[k])) (by simp[results,results80,go_sem,G,I,J,K,L,M,AV,gu]) rfl ⟨by rw[F.out],B⟩
   ·have X:(xs[k].code.toList==c.toList)=false:=(by simpa using E);clear E;go_wp2;go_roundw
    case rel=>
     refine⟨k+1,by omega,by go_num,fun j r Y=>?_,C,l⟩;rcases arp j k with h1|h1
     ·exact n.out j r h1
     ·obtain rfl:j=k:=by omega
      exact X
    case measure=>simp[intOf];omega
  ·have F:=aq6 (agY (xs:=xs) (c:=c) (fun j r=>n.out j r (by omega)));go_wp2;have z:=l.UY rfl (.string {data:=#[]}) (.int .i64 0) (.bool false) (.bool false) (.bool false) (.int .i64 0);have B:Below w.heap.size w _:=gS (gS (gS (gS (gS (gS C (aq7 _) 0 (.string {data:=#[]})) (aq7 _) 1 (.int .i64 0)) (aq7 _) 2 (.bool false)) (aq7 _) 3 (.bool false)) (aq7 _) 4 (.bool false)) (aq7 _) 5 (.int .i64 0);generalize World.setCell _ _ (Value.int .i64 0)=V at z B|-;obtain⟨G,I,J,K,L,M⟩:=z.cz6;refine art (v:=AV none) (by simp[results,results80,go_sem,G,I,J,K,L,M,AV,gu,mI]) rfl ⟨by rw[F.out],B⟩
theorem EI(n:Int)(w:World):
  Calls prog 30 #[.int .i64 n] w fun e w'=>e=.returned (.bool (cx n))/\w=w':=by
 by_cases l:-1000000000<=n<;>by_cases p:n<=1000000000
 all_goals
  have j:cx n=(decide (-1000000000<=n)&&decide (n<=1000000000)):=by simp[cx]
  have r:=aq6 j;clear j;go_enter func30,ntmps30;go_wp2;go_ret;exact⟨by rw[r.out];simp[l,p],rfl⟩
def dP(l:List Elem):Int:=if 128<l.length then 3 else if l.any (fun x=>!bI x.code)then 7 else if l.any (fun x=>!cx x.amount)then 2 else if(bB l).any (fun x=>!cx x.amount)then 4 else 0
def Pw(l:List Elem):List Elem:=if dP l=0 then bB l else[]
def AW(l:List Elem):List Elem:=if dP l=0 then(bB l).filter nz else[]
theorem agZ(A:Option Addr)(X:Nat)(l:List Elem)(w:World)(h:aj aN 2 w w.heap.size A l)(hz:∀x∈l,x.code.size<=maxLen)(hl:l.length<=9223372036854775807):
  Calls prog 131 #[.slice A l.length X] w fun r w'=>∃v,r=.returned (.tuple #[v,.int .i64 (dP l)])/\Own aN 2 69 w' w.heap.size v (Pw l)/\Below w.heap.size w w':=by
 have HZ:=aq6 hz;clear hz;have zD:∀(n:Int) (W:World),n≠0->dP l=n->Below w.heap.size w W->∃v,Ending.returned (.tuple #[.slice none 0 0,.int .i64 n])=.returned (.tuple #[v,.int .i64 (dP l)])/\Own aN 2 69 W w.heap.size v (Pw l)/\Below w.heap.size w W:=by intro n W z he R;refine⟨.slice none 0 0,by rw[he],?_,R⟩;rw[Pw,aq8 (by rw[he];exact z)];exact Own.cK _ _
 have B:=aq6 zD;clear zD;by_cases L:128<l.length
 ·have J:Hid (dP l=3):=by simp only[Hid,dP,aq9 L]
  go_enter func131,ntmps131;go_wp2;go_ret2;exact B.out 3 _ (by omega) J.out (arb _ _)
 ·have k9:l.length<=128:=by omega
  clear L hl;go_enter func131,ntmps131;go_wp2
  go_loopw [4] (fun i wr=>∃k:Nat,k<=l.length/\i=.int .i64 k/\Hid (∀j,(u:j<l.length)->j<k->bI l[j].code=true)/\Below w.heap.size w wr) (fun i _=>l.length-(intOf i).toNat)
  case atStart=>exact⟨0,by omega,rfl,fun j _ u=>absurd u (by omega),arb _ _⟩
  case round=>
   obtain⟨k,hk,rfl,p,E⟩:=hrel;have T:=E.size;by_cases D:k<l.length
   ·obtain⟨b,N,rfl,R,K⟩:=(h.below E).at_ D;have Y:=K 0 _ rfl;simp only[ara]at Y;clear K;have fj:=HZ.out _ (arc D);go_wp2_with fail;refine(Bo _ _ fj).mono ?_;rintro e w1 ⟨rfl,M⟩;have U:=Io E M T;by_cases z:bI l[k].code=true
    ·go_wp2;go_roundw
     case rel=>
      refine⟨k+1,by omega,by go_num,fun j u O=>?_,U⟩;rcases arp j k with h1|h1
      ·exact p.out j u h1
      ·obtain rfl:j=k:=by omega
       exact z
     case measure=>simp[intOf];omega
    ·have P:bI l[k].code=false:=(by simpa using z);have J:Hid (dP l=7):=by
      have Q:l.any (fun x=>!bI x.code)=true:=arX.2 ⟨l[k],arc _,by simp[P]⟩;simp only[Hid,dP,aq8 (show¬128<l.length by omega),Q,arI]
     clear z;go_wp2;go_ret2;exact B.out 7 _ (by omega) J.out U
   ·have Q:Hid (l.any (fun x=>!bI x.code)=false):=by
     rw[Hid,arR];intro x F;obtain⟨j,u,rfl⟩:=arN.1 F;simp[p.out j u (by omega)]
    obtain⟨wo,rfl⟩:∃wo:World,wo=wr:=⟨_,rfl⟩
    go_wp2;clear p hk D
    go_loopw [5,6] (fun v i wr=>∃k:Nat,k<=l.length/\i=.int .i64 k/\Hid (∀j,(u:j<l.length)->j<k->cx l[j].amount=true)/\Own aN 2 69 wr w.heap.size v (bB (l.take k))/\Iq (k*1000000000) (bB (l.take k))/\(bB (l.take k)).length<=k/\Below w.heap.size w wr) (fun _ i _=>l.length-(intOf i).toNat)
    case atStart=>exact⟨0,by omega,rfl,fun j _ u=>absurd u (by omega),Own.cK _ _,(fun x F=>by simp[bB]at F),by simp[bB],E⟩
    case round=>
     obtain⟨k,hk,rfl,p,G,Z,ab,E⟩:=hrel;have T:=E.size;obtain⟨A5,c5,rfl,cX,eM,oD,oF⟩:=G.kE dt;by_cases D:k<l.length
     ·obtain⟨b,N,rfl,R,K⟩:=(h.below E).at_ D;have Y:=K 0 _ rfl;have c1:=K 1 _ rfl;simp only[ara]at Y;clear K;by_cases z:cx l[k].amount=true
      ·have oo:-1000000000<=l[k].amount/\l[k].amount<=1000000000:=(by simpa[cx]using z);have HN:=aq6 z;go_wp2_with(go_at_call 30;refine(EI _ _).mono ?_;rintro e w' ⟨rfl,rfl⟩);refine(Up A5 c5 (bB (l.take k)) l[k] _ cX oD oF (by omega) (fun x F=>by have:=Z x F;omega) (by omega) (by omega)).mono ?_;rintro e w1 ⟨v1,rfl,I,M⟩;have U:=Io E M T;have e1:put (bB (l.take k)) l[k]=bB (l.take (k+1)):=(by rw[arA D,Zu]);have O2:=Z.put (C:=1000000000) (e:=l[k]) (by omega) (by omega) (by omega) (by omega);have ad:=Zw (bB (l.take k)) l[k];rw[e1]at I O2 ad;have E1:=aq6 e1;clear e1;go_wp2;go_roundw
       case rel=>
        refine⟨k+1,by omega,by go_num,fun j u O=>?_,I.weaken T,?_,by omega,U⟩
        ·rcases arp j k with h1|h1
         ·exact p.out j u h1
         ·obtain rfl:j=k:=by omega
          exact HN.out
        ·intro x F;have:=O2 x F;omega
       case measure=>simp[intOf];omega
      ·have P:cx l[k].amount=false:=(by simpa using z);have J:Hid (dP l=2):=by
        have V:l.any (fun x=>!cx x.amount)=true:=arX.2 ⟨l[k],arc _,by simp[P]⟩;simp only[Hid,dP,aq8 (show¬128<l.length by omega),Q.out,V,arI,ar1,arK]
       clear z;go_wp2_with(go_at_call 30;refine(EI _ _).mono ?_;rintro e w' ⟨rfl,rfl⟩);go_ret2;exact B.out 2 _ (by omega) J.out E
     ·have V:Hid (l.any (fun x=>!cx x.amount)=false):=by
       rw[Hid,arR];intro x F;obtain⟨j,u,rfl⟩:=arN.1 F;simp[p.out j u (by omega)]
      have ek:l.take k=l:=ar0 (by omega);rw[ek]at G Z ab cX oD;rw[show(bB (l.take k)).length=(bB l).length by rw[ek]];obtain⟨wp,rfl⟩:∃wp:World,wp=wr:=⟨_,rfl⟩
      clear p ek;go_wp2;generalize hS:bB l=S at*;have nc:=aq6 hS;clear hS
      go_loop [7] (fun i=>∃k:Nat,k<=S.length/\i=.int .i64 k/\Hid (∀j,(u:j<S.length)->j<k->cx S[j].amount=true)) (fun i=>S.length-(intOf i).toNat)
      case atStart=>exact⟨0,by omega,rfl,fun j _ u=>absurd u (by omega)⟩
      case round=>
       obtain⟨m,hm,rfl,p⟩:=hrel;by_cases af:m<S.length
       ·obtain⟨b,N,rfl,R,K⟩:=cX.at_ af;have c1:=K 1 _ rfl;clear K;by_cases z:cx S[m].amount=true
        ·have HN:=aq6 z;go_wp2_with(go_at_call 30;refine(EI _ _).mono ?_;rintro e w' ⟨rfl,rfl⟩);go_round
         case rel=>
          refine⟨m+1,by omega,by go_num,fun j u O=>?_⟩;rcases arp j m with h1|h1
          ·exact p.out j u h1
          ·obtain rfl:j=m:=by omega
           exact HN.out
         case measure=>simp[intOf];omega
        ·have P:cx S[m].amount=false:=(by simpa using z);have J:Hid (dP l=4):=by
          have h4:S.any (fun x=>!cx x.amount)=true:=arX.2 ⟨S[m],arc _,by simp[P]⟩;simp only[Hid,dP,aq8 (show¬128<l.length by omega),Q.out,V.out,nc.out,h4,arI,ar1,arK]
         clear z;go_wp2_with(go_at_call 30;refine(EI _ _).mono ?_;rintro e w' ⟨rfl,rfl⟩);go_ret2;exact B.out 4 _ (by omega) J.out E
       ·have J:Hid (dP l=0):=by
         have h4:S.any (fun x=>!cx x.amount)=false:=by rw[arR];intro x F;obtain⟨j,u,rfl⟩:=arN.1 F;simp[p.out j u (by omega)]
         simp only[Hid,dP,aq8 (show¬128<l.length by omega),Q.out,V.out,nc.out,h4,ar1,arK]
        go_wp2;go_ret2;refine⟨_,by rw[J.out];rfl,?_,E⟩;rw[Pw,aq9 J.out,nc.out];exact G
theorem ajG(A:Option Addr)(u:Nat)(j:List Elem)(w:World)(h:aj aN 2 w w.heap.size A j)(J:∀x∈j,x.code.size<=maxLen)(O:j.length<=9223372036854775807):
  Calls prog 88 #[.slice A j.length u] w fun r w'=>∃v,r=.returned (.tuple #[v,.int .i64 (dP j)])/\Own aN 2 69 w' w.heap.size v (AW j)/\Below w.heap.size w w':=by
 have K:dP j=0->(bB j).length<=1000000:=by
  intro l;have:j.length<=128:=by
   rcases arp 128 j.length with h1|h1
   ·rw[dP,aq9 h1]at l;cases l
   ·exact h1
  have:=UQ j;omega
 have P:=aq6 K;clear K;go_enter func88,ntmps88;go_wp2_with fail;refine(agZ A u j _ h J O).mono ?_;rintro e E ⟨v1,rfl,n,p⟩;by_cases l:dP j=0
 ·have L:=P.out l;have F:=aq6 l;rw[Pw,aq9 l]at n;have Q:Hid (AW j=(bB j).filter nz):=by rw[Hid,AW,aq9 l]
  rw[l];obtain⟨A5,c5,rfl,R,eM,oD,oF⟩:=n.kE dt;generalize hS:bB j=S at*;clear hS l J h;have z:=p.size;go_wp2
  go_loopw [6,7] (fun v i wr=>∃k:Nat,k<=S.length/\i=.int .i64 k/\Own aN 2 69 wr E.heap.size v ((S.take k).filter nz)/\Below E.heap.size E wr) (fun _ i _=>S.length-(intOf i).toNat)
  case atStart=>exact⟨0,by omega,rfl,Own.cK _ _,arb _ _⟩
  case round=>
   obtain⟨k,hk,rfl,B,C⟩:=hrel;have br:=C.size;by_cases D:k<S.length
   ·obtain⟨b,T,rfl,hb,G⟩:=(R.below C).at_ D;have U:=G 0 _ rfl;have c1:=G 1 _ rfl;simp only[ara]at U;clear G;have M:S.take (k+1)=S.take k++[S[k]]:=arA D;have N:=aq6 M;clear M;have DL:((S.take k).filter nz).length<=k:=arq (arJ _ _) (by simp;omega);by_cases I:(S[k].amount !=0)=true
    ·go_wp2_with(at_builtin;(refine my _ _ 51 ⟨S[k].code,S[k].amount⟩ _ 24 _ kF underlying51 B dt (by omega) rfl (kn _) (by omega) (by omega) (by omega) (by rfl) (by rfl) (by rfl) (by rfl) (by simp) (by rfl) ?_);intro v2 w6 V X);go_roundw
     case rel=>refine⟨k+1,by omega,by go_num,?_,C.grown X (by omega) (fun g Y=>(B.cg Y).1)⟩;rw[N.out,asf];have:[S[k]].filter nz=[S[k]]:=(by simp[nz,I]);rw[this];exact V
     case measure=>simp[intOf];omega
    ·have Z:(S[k].amount !=0)=false:=(by simpa using I);clear I;go_wp2;go_roundw
     case rel=>refine⟨k+1,by omega,by go_num,?_,C⟩;rw[N.out,asf];have:[S[k]].filter nz=[]:=(by simp[nz,Z]);rw[this,List.append_nil];exact B
     case measure=>simp[intOf];omega
   ·go_wp2;go_ret2;refine⟨_,by rw[F.out];rfl,?_,p.trans (C.mono z)⟩;rw[Q.out];rw[ar0 (by omega)]at B;exact B.weaken z
 ·have JR:(dP j !=0)=true:=by simpa using l
  have F:Hid (AW j=[]):=by rw[Hid,AW,aq8 l]
  clear l;go_wp2;go_ret2;refine⟨_,rfl,?_,p⟩;rw[F.out];exact Own.cK _ _
theorem adS(A:Option Addr)(ab:Nat)(l:List cI)(w:World)(h:aj gu 6 w w.heap.size A l)(hz:∀x∈l,x.code.size<=maxLen)(hl:l.length<=9223372036854775807):
    Calls prog 130 #[.slice A l.length ab] w fun e w'=>e=.returned (.bool (jV l))/\Below w.heap.size w w':=by
  have HZ:=aq6 hz;clear hz;by_cases U:64<l.length
  · have HV:Hid (jV l=false):=by simp[Hid,jV];intro;omega
    go_enter func130,ntmps130;go_wp2;go_ret;exact⟨by rw[HV.out];rfl,arb _ _⟩
  · have k9:l.length<=64:=by omega
    clear U hl;go_enter func130,ntmps130;go_wp2
    go_loopw [3] (fun i wr=>∃k:Nat,k<=l.length/\i=.int .i64 k/\Hid (∀j,(G:j<l.length)->j<k->mJ l j l[j]=true)/\Below w.heap.size w wr) (fun i _=>l.length-(intOf i).toNat)
    case atStart=>exact⟨0,by omega,rfl,fun j _ G=>absurd G (by omega),arb _ _⟩
    case round=>
      obtain⟨k,hk,rfl,p,T⟩:=hrel;by_cases J:k<l.length
      · obtain⟨b,V,rfl,hb,K⟩:=(h.below T).at_ J
        have c0:=K 0 _ rfl;have c1:=K 1 _ rfl;have c2:=K 2 _ rfl;have c3:=K 3 _ rfl;have c4:=K 4 _ rfl;have c5:=K 5 _ rfl;simp only[ara]at c0;have fj:=HZ.out _ (arc J);have br:=T.size;have gl:=aq6 (@agW l k J);clear K;rcases arp 0 k with fM|fM
        · obtain⟨m,rfl⟩:∃m,k=m+1:=⟨k-1,by omega⟩
          obtain⟨b',af,L,ai,X⟩:=(h.below T).at_ (show m<l.length by omega);injection L with L
          injection L with h1 h2
          subst h1 h2;have p0:=X 0 _ rfl;simp only[ara]at p0;have Y:=RM l (m+1) l[m+1] _ (.inr ⟨l[m],by simp,rfl⟩);have M:=aq6 Y;have IU:b<wr.heap.size:=(by omega);clear X Y;go_wp2_with fail;have N:(wr.alloc (Obj.cells #[Value.string l[m+1].code,Value.int IntKind.i64 l[m+1].kind,Value.bool l[m+1].jh,Value.bool l[m+1].aF,Value.bool l[m+1].fU,Value.int IntKind.i64 l[m+1].eK] 77)).heap.size=wr.heap.size+1:=(by simp);have Z:Below w.heap.size w (wr.alloc (Obj.cells #[Value.string l[m+1].code,Value.int IntKind.i64 l[m+1].kind,Value.bool l[m+1].jh,Value.bool l[m+1].aF,Value.bool l[m+1].fU,Value.int IntKind.i64 l[m+1].eK] 77)):=T.alloc br _;have D:=ah.new wr 77 #[Value.string l[m+1].code,Value.int IntKind.i64 l[m+1].kind,Value.bool l[m+1].jh,Value.bool l[m+1].aF,Value.bool l[m+1].fU,Value.int IntKind.i64 l[m+1].eK];have FP:=(World.cell?_alloc_past (w:=wr) (Obj.cells #[Value.string l[m+1].code,Value.int IntKind.i64 l[m+1].kind,Value.bool l[m+1].jh,Value.bool l[m+1].aF,Value.bool l[m+1].fU,Value.int IntKind.i64 l[m+1].eK] 77) b (V+m*6) IU).trans p0;generalize wr.alloc (Obj.cells _ _)=W at N Z D FP|-;have Zq:=aq6 N;have e0:=Bw.cell (w:=W) (a:=⟨wr.heap.size,0,none⟩) (by show wr.heap.size<W.heap.size;omega) (D.cell 0);have e1:=Bw.cell (w:=W) (a:=⟨wr.heap.size,1,none⟩) (by show wr.heap.size<W.heap.size;omega) (D.cell 1);have e4:=Bw.cell (w:=W) (a:=⟨wr.heap.size,4,none⟩) (by show wr.heap.size<W.heap.size;omega) (D.cell 4);have e5:=Bw.cell (w:=W) (a:=⟨wr.heap.size,5,none⟩) (by show wr.heap.size<W.heap.size;omega) (D.cell 5);have e9:=Bw.cell (w:=W) (a:=⟨b,V+m*6,none⟩) (by show b<W.heap.size;omega) FP;clear FP p0;have B8:Hid (w.heap.size<=W.heap.size):=(by show w.heap.size<=W.heap.size;omega);clear N D c0 c1 c2 c3 c4 c5;have O:bI l[m+1].code=false\/(bI l[m+1].code=true/\(Op.bytesLess l[m].code.toList l[m+1].code.toList)=false)\/(bI l[m+1].code=true/\(Op.bytesLess l[m].code.toList l[m+1].code.toList)=true/\((l[m+1].kind==1)=false/\(l[m+1].kind !=1)=true/\(l[m+1].kind==2)=false/\(l[m+1].kind !=2)=true))\/
              (bI l[m+1].code=true/\(Op.bytesLess l[m].code.toList l[m+1].code.toList)=true/\((l[m+1].kind==1)=true/\(l[m+1].kind !=1)=false/\(l[m+1].kind==2)=false/\(l[m+1].kind !=2)=true)/\decide (l[m+1].eK<1000)=true)\/
              (bI l[m+1].code=true/\(Op.bytesLess l[m].code.toList l[m+1].code.toList)=true/\((l[m+1].kind==1)=true/\(l[m+1].kind !=1)=false/\(l[m+1].kind==2)=false/\(l[m+1].kind !=2)=true)/\decide (l[m+1].eK<1000)=false/\decide (9999<l[m+1].eK)=true)\/
              (bI l[m+1].code=true/\(Op.bytesLess l[m].code.toList l[m+1].code.toList)=true/\((l[m+1].kind==1)=true/\(l[m+1].kind !=1)=false/\(l[m+1].kind==2)=false/\(l[m+1].kind !=2)=true)/\decide (l[m+1].eK<1000)=false/\decide (9999<l[m+1].eK)=false)\/
              (bI l[m+1].code=true/\(Op.bytesLess l[m].code.toList l[m+1].code.toList)=true/\((l[m+1].kind==1)=false/\(l[m+1].kind !=1)=true/\(l[m+1].kind==2)=true/\(l[m+1].kind !=2)=false)/\l[m+1].fU=true)\/
              (bI l[m+1].code=true/\(Op.bytesLess l[m].code.toList l[m+1].code.toList)=true/\((l[m+1].kind==1)=false/\(l[m+1].kind !=1)=true/\(l[m+1].kind==2)=true/\(l[m+1].kind !=2)=false)/\l[m+1].fU=false/\decide (l[m+1].eK<1000)=true)\/
              (bI l[m+1].code=true/\(Op.bytesLess l[m].code.toList l[m+1].code.toList)=true/\((l[m+1].kind==1)=false/\(l[m+1].kind !=1)=true/\(l[m+1].kind==2)=true/\(l[m+1].kind !=2)=false)/\l[m+1].fU=false/\decide (l[m+1].eK<1000)=false/\decide (9999<l[m+1].eK)=true)\/
              (bI l[m+1].code=true/\(Op.bytesLess l[m].code.toList l[m+1].code.toList)=true/\((l[m+1].kind==1)=false/\(l[m+1].kind !=1)=true/\(l[m+1].kind==2)=true/\(l[m+1].kind !=2)=false)/\l[m+1].fU=false/\decide (l[m+1].eK<1000)=false/\decide (9999<l[m+1].eK)=false):=by
            go_light
            clear M gl e0 e1 e4 e5 p;generalize bI l[m+1].code=q1;generalize Op.bytesLess l[m].code.toList l[m+1].code.toList=q2;generalize l[m+1].kind=q3;generalize l[m+1].fU=q4;generalize l[m+1].eK=F;cases q1
            · simp
            · by_cases z1:q3=1
              · subst z1
                by_cases P:F<1000<;>by_cases Q:9999<F<;>cases q2<;>simp[P,Q]
              · by_cases z4:q3=2
                · subst z4
                  by_cases P:F<1000<;>by_cases Q:9999<F<;>cases q4<;>cases q2<;>simp[P,Q]
                · cases q2<;>simp[z1,z4]
          rcases O with n|⟨n,I⟩|⟨n,I,r,u,z,B⟩|⟨n,I,⟨r,u,z,B⟩,d1⟩|⟨n,I,⟨r,u,z,B⟩,d1,d2⟩|⟨n,I,⟨r,u,z,B⟩,d1,d2⟩|⟨n,I,⟨r,u,z,B⟩,t1⟩|⟨n,I,⟨r,u,z,B⟩,t1,d1⟩|⟨n,I,⟨r,u,z,B⟩,t1,d1,d2⟩|⟨n,I,⟨r,u,z,B⟩,t1,d1,d2⟩
          all_goals
            refine pE (by kernel_rfl) (by kernel_rfl) ?_
            repeat(first|go_big_quiet_step((exact Bw.call _ (Bo _ _ fj)))|quiet_step((exact Bw.call _ (Bo _ _ fj))))
            refine wpQuiet_nil ?_;intro W2 R;obtain⟨⟨W9,S⟩,E⟩:=R;subst E;have C:Below w.heap.size w W2:=Z.trans (S.mono B8.out);go_wp2
            first
              |(
                 go_ret;refine⟨?_,C⟩;have hq:mJ l (m+1) l[m+1]=false:=by
                   go_light
                   rw[M.out];apply asp;rintro⟨h1,h2,h3,h4,h5,h6⟩
                   first|omega|(simp_all;done)|(simp_all;omega)
                 rw[gl.out hq];rfl)
              |(
                 go_roundw
                 case rel=>
                   have bf:∀j,(G:j<l.length)->j<m+1+1->mJ l j l[j]=true:=by
                     intro j G ad;rcases arp j (m+1)with h1|h1
                     · exact p.out j G h1
                     · obtain rfl:j=m+1:=by omega
                       go_light
                       rw[M.out];apply ase;refine⟨by assumption,.inr (by assumption),?_,?_,?_,?_⟩
                       all_goals first|omega|(simp_all;done)|(simp_all;omega)
                   first|exact⟨m+1+1,by omega,by go_num,bf,C⟩|((repeat apply Exists.intro);exact⟨⟨m+1+1,by omega,by go_num,bf,C⟩,rfl⟩)
                 case measure=>simp[intOf];omega)
        · have Y:=RM l k l[k] true (.inl (by omega))
          have M:=aq6 Y;have al:decide ((0:Int)<(k:Int))=false:=(by simp;omega);have am:decide (0<k)=false:=(by simp;omega);clear Y;go_wp2_with fail;have N:(wr.alloc (Obj.cells #[Value.string l[k].code,Value.int IntKind.i64 l[k].kind,Value.bool l[k].jh,Value.bool l[k].aF,Value.bool l[k].fU,Value.int IntKind.i64 l[k].eK] 77)).heap.size=wr.heap.size+1:=(by simp);have Z:Below w.heap.size w (wr.alloc (Obj.cells #[Value.string l[k].code,Value.int IntKind.i64 l[k].kind,Value.bool l[k].jh,Value.bool l[k].aF,Value.bool l[k].fU,Value.int IntKind.i64 l[k].eK] 77)):=T.alloc br _;have D:=ah.new wr 77 #[Value.string l[k].code,Value.int IntKind.i64 l[k].kind,Value.bool l[k].jh,Value.bool l[k].aF,Value.bool l[k].fU,Value.int IntKind.i64 l[k].eK];generalize wr.alloc (Obj.cells _ _)=W at N Z D|-;have Zq:=aq6 N;have e0:=Bw.cell (w:=W) (a:=⟨wr.heap.size,0,none⟩) (by show wr.heap.size<W.heap.size;omega) (D.cell 0);have e1:=Bw.cell (w:=W) (a:=⟨wr.heap.size,1,none⟩) (by show wr.heap.size<W.heap.size;omega) (D.cell 1);have e4:=Bw.cell (w:=W) (a:=⟨wr.heap.size,4,none⟩) (by show wr.heap.size<W.heap.size;omega) (D.cell 4);have e5:=Bw.cell (w:=W) (a:=⟨wr.heap.size,5,none⟩) (by show wr.heap.size<W.heap.size;omega) (D.cell 5);have B8:Hid (w.heap.size<=W.heap.size):=(by show w.heap.size<=W.heap.size;omega);clear N D c0 c1 c2 c3 c4 c5;have O:bI l[k].code=false\/(bI l[k].code=true/\((l[k].kind==1)=false/\(l[k].kind !=1)=true/\(l[k].kind==2)=false/\(l[k].kind !=2)=true))\/
              (bI l[k].code=true/\((l[k].kind==1)=true/\(l[k].kind !=1)=false/\(l[k].kind==2)=false/\(l[k].kind !=2)=true)/\decide (l[k].eK<1000)=true)\/
              (bI l[k].code=true/\((l[k].kind==1)=true/\(l[k].kind !=1)=false/\(l[k].kind==2)=false/\(l[k].kind !=2)=true)/\decide (l[k].eK<1000)=false/\decide (9999<l[k].eK)=true)\/
              (bI l[k].code=true/\((l[k].kind==1)=true/\(l[k].kind !=1)=false/\(l[k].kind==2)=false/\(l[k].kind !=2)=true)/\decide (l[k].eK<1000)=false/\decide (9999<l[k].eK)=false)\/
              (bI l[k].code=true/\((l[k].kind==1)=false/\(l[k].kind !=1)=true/\(l[k].kind==2)=true/\(l[k].kind !=2)=false)/\l[k].fU=true)\/
              (bI l[k].code=true/\((l[k].kind==1)=false/\(l[k].kind !=1)=true/\(l[k].kind==2)=true/\(l[k].kind !=2)=false)/\l[k].fU=false/\decide (l[k].eK<1000)=true)\/
              (bI l[k].code=true/\((l[k].kind==1)=false/\(l[k].kind !=1)=true/\(l[k].kind==2)=true/\(l[k].kind !=2)=false)/\l[k].fU=false/\decide (l[k].eK<1000)=false/\decide (9999<l[k].eK)=true)\/
              (bI l[k].code=true/\((l[k].kind==1)=false/\(l[k].kind !=1)=true/\(l[k].kind==2)=true/\(l[k].kind !=2)=false)/\l[k].fU=false/\decide (l[k].eK<1000)=false/\decide (9999<l[k].eK)=false):=by
            go_light
            clear M gl e0 e1 e4 e5 p;generalize bI l[k].code=q1;generalize l[k].kind=q3;generalize l[k].fU=q4;generalize l[k].eK=F;cases q1
            · simp
            · by_cases z1:q3=1
              · subst z1
                by_cases P:F<1000<;>by_cases Q:9999<F<;>simp[P,Q]
              · by_cases z4:q3=2
                · subst z4
                  by_cases P:F<1000<;>by_cases Q:9999<F<;>cases q4<;>simp[P,Q]
                · simp[z1,z4]
          rcases O with n|⟨n,r,u,z,B⟩|⟨n,⟨r,u,z,B⟩,d1⟩|⟨n,⟨r,u,z,B⟩,d1,d2⟩|⟨n,⟨r,u,z,B⟩,d1,d2⟩|⟨n,⟨r,u,z,B⟩,t1⟩|⟨n,⟨r,u,z,B⟩,t1,d1⟩|⟨n,⟨r,u,z,B⟩,t1,d1,d2⟩|⟨n,⟨r,u,z,B⟩,t1,d1,d2⟩
          all_goals
            refine pE (by kernel_rfl) (by kernel_rfl) ?_
            repeat(first|go_big_quiet_step((exact Bw.call _ (Bo _ _ fj)))|quiet_step((exact Bw.call _ (Bo _ _ fj))))
            refine wpQuiet_nil ?_;intro W2 R;obtain⟨⟨W9,S⟩,E⟩:=R;subst E;have C:Below w.heap.size w W2:=Z.trans (S.mono B8.out);go_wp2
            first
              |(
                 go_ret;refine⟨?_,C⟩;have hq:mJ l (k) l[k]=false:=by
                   go_light
                   rw[M.out];apply asp;rintro⟨h1,h2,h3,h4,h5,h6⟩
                   first|omega|(simp_all;done)|(simp_all;omega)
                 rw[gl.out hq];rfl)
              |(
                 go_roundw
                 case rel=>
                   have bf:∀j,(G:j<l.length)->j<k+1->mJ l j l[j]=true:=by
                     intro j G ad;rcases arp j (k)with h1|h1
                     · exact p.out j G h1
                     · obtain rfl:j=k:=by omega
                       go_light
                       rw[M.out];apply ase;refine⟨by assumption,by omega,?_,?_,?_,?_⟩
                       all_goals first|omega|(simp_all;done)|(simp_all;omega)
                   first|exact⟨k+1,by omega,by go_num,bf,C⟩|((repeat apply Exists.intro);exact⟨⟨k+1,by omega,by go_num,bf,C⟩,rfl⟩)
                 case measure=>simp[intOf];omega)
      · go_wp2
        go_ret;exact⟨by rw[aae k9 (fun i hi=>p.out i hi (by omega))];rfl,T⟩
structure fA where
 g:Int
 c:Int
 t:Int
 i:Int
 a:Int
deriving DecidableEq
def mC(b:fA):List Value:=[.int .i64 b.g,.int .i64 b.c,.int .i64 b.t,.int .i64 b.i,.int .i64 b.a]
def eo:fA:=⟨0,0,0,0,0⟩
def zy(b:fA)(y:cI)(n:Int):fA:=⟨b.g+n,b.c+(if y.kind=1 then n else 0),b.t+(if y.jh then n else 0),b.i+(if y.aF then n else 0),b.a+(if y.fU then n else 0)⟩
def I8(e:List cI)(b:fA)(x:Elem):fA:=zy b ((ee e x.code).getD mI) x.amount
def fC(e:List cI)(l:List Elem):fA:=l.foldl (I8 e) eo
def missing(e:List cI)(l:List Elem):Bool:=l.any fun x=>(ee e x.code).isNone
def nR(b:fA):Bool:=cx b.g&&cx b.c&&cx b.t&&cx b.i&&cx b.a
def dQ(e:List cI)(l m:List Elem):Int:=if jV e=false then 1 else if dP l≠0 then dP l else if missing e m then 16 else if nR (fC e m)=false then 4 else 0
def gD(e:List cI)(l m:List Elem):Value:=.tuple #[.agg (mC (if dQ e l m=0 then fC e m else eo)).toArray,.int .i64 (dQ e l m)]
def Bs(w:World)(g:Nat)(b:fA):Prop:=ah w g 24 (mC b).toArray
section
variable {w:World}{gg:Nat}{b:fA}
theorem Bs.g(h:Bs w gg b)(n:Int):Bs (w.setCell ⟨gg,0,none⟩ (.int .i64 n)) gg {b with g:=n}:=ah.ez h 0 _
theorem Bs.c(h:Bs w gg b)(n:Int):Bs (w.setCell ⟨gg,1,none⟩ (.int .i64 n)) gg {b with c:=n}:=ah.ez h 1 _
theorem Bs.t(h:Bs w gg b)(n:Int):Bs (w.setCell ⟨gg,2,none⟩ (.int .i64 n)) gg {b with t:=n}:=ah.ez h 2 _
theorem Bs.i(h:Bs w gg b)(n:Int):Bs (w.setCell ⟨gg,3,none⟩ (.int .i64 n)) gg {b with i:=n}:=ah.ez h 3 _
theorem Bs.a(h:Bs w gg b)(n:Int):Bs (w.setCell ⟨gg,4,none⟩ (.int .i64 n)) gg {b with a:=n}:=ah.ez h 4 _
theorem Bs.far(h:Bs w gg b){p:Addr}(e:gg≠p.block)(u:Value):Bs (w.setCell p u) gg b:=ah.far h e u
theorem Bs.alloc(h:Bs w gg b)(o:Obj):Bs (w.alloc o) gg b:=ah.alloc h o
theorem Bs.below{w':World}{B:Nat}(h:Bs w gg b)(e:Below B w w')(j:gg<B):Bs w' gg b:=ah.below h e j
end
theorem ah.lX{w:World}{g:Nat}{t:TypeId}{cs:Array Value}(h:ah w g t cs)(z:cs.size=5)(j n p r u:Value):
  ah (((((w.setCell ⟨g,0,none⟩ j).setCell ⟨g,1,none⟩ n).setCell ⟨g,2,none⟩ p).setCell ⟨g,3,none⟩ r).setCell ⟨g,4,none⟩ u) g t #[j,n,p,r,u]:=by
 have e:(((((cs.setIfInBounds 0 j).setIfInBounds 1 n).setIfInBounds 2 p).setIfInBounds 3 r).setIfInBounds 4 u)=#[j,n,p,r,u]:=by
  obtain⟨l⟩:=cs
  match l,z with
  |[_,_,_,_,_],_=>rfl
 rw[<-e];exact((((h.ez 0 j).ez 1 n).ez 2 p).ez 3 r).ez 4 u
theorem afd(e:List cI)(l:List Elem)(k:Nat)(h:k<l.length):fC e (l.take (k+1))=I8 e (fC e (l.take k)) l[k]:=by rw[arA h,fC,List.foldl_append];rfl
def Hg(B:Int)(b:fA):Prop:=(-B<=b.g/\b.g<=B)/\(-B<=b.c/\b.c<=B)/\(-B<=b.t/\b.t<=B)/\(-B<=b.i/\b.i<=B)/\(-B<=b.a/\b.a<=B)
theorem Hg.add{B C:Int}{b:fA}(h:Hg B b)(j:0<=C)(y:cI){n:Int}(l:-C<=n)(r:n<=C):Hg (B+C) (zy b y n):=by
 obtain⟨⟨u,z⟩,⟨D,E⟩,⟨F,G⟩,⟨d1,d2⟩,⟨I,J⟩⟩:=h;have e:∀(p:Prop) [Decidable p],-C<=(if p then n else 0)/\(if p then n else 0)<=C:=by intro p _;split<;>omega
 unfold Hg zy;have K:=e (y.kind=1);have L:=e (y.jh=true);have M:=e (y.aF=true);have N:=e (y.fU=true);refine⟨?_,?_,?_,?_,?_⟩<;>dsimp only<;>omega
theorem VY{l:List Elem}(h:dP l=0):Iq 1000000000 (bB l)/\(bB l).length<=128:=by
 have e:¬128<l.length:=by intro e;rw[dP,aq9 e]at h;cases h
 rw[dP,aq8 e]at h;split at h
 ·cases h
 ·split at h
  ·cases h
  ·split at h
   ·cases h
   ·rename_i j;refine⟨fun x n=>?_,arq (UQ l) (by omega)⟩;simp only[Bool.not_eq_true,arR]at j;have:=j x n;simpa[cx]using this
theorem afb:AV none=.tuple #[.agg #[.string ⟨#[]⟩,.int .i64 0,.bool false,.bool false,.bool false,.int .i64 0],.bool false]:=rfl
theorem afc(y:cI):AV (some y)=.tuple #[.agg #[.string y.code,.int .i64 y.kind,.bool y.jh,.bool y.aF,.bool y.fU,.int .i64 y.eK],.bool true]:=rfl
theorem Bs.cells{w:World}{gg:Nat}{b:fA}(h:Bs w gg b):w.cell? ⟨gg,0,none⟩=some (.int .i64 b.g)/\w.cell? ⟨gg,1,none⟩=some (.int .i64 b.c)/\w.cell? ⟨gg,2,none⟩=some (.int .i64 b.t)/\w.cell? ⟨gg,3,none⟩=some (.int .i64 b.i)/\w.cell? ⟨gg,4,none⟩=some (.int .i64 b.a):=
 ⟨ah.cell h 0,ah.cell h 1,ah.cell h 2,ah.cell h 3,ah.cell h 4⟩
theorem Bs.zx{w:World}{gg:Nat}{b:fA}(h:Bs w gg b):w.frozen? ⟨gg,0,none⟩=false/\w.frozen? ⟨gg,1,none⟩=false/\w.frozen? ⟨gg,2,none⟩=false/\w.frozen? ⟨gg,3,none⟩=false/\w.frozen? ⟨gg,4,none⟩=false:=
 ⟨ah.frozen h 0,ah.frozen h 1,ah.frozen h 2,ah.frozen h 3,ah.frozen h 4⟩
theorem Bs.put{w:World}{gg:Nat}{b:fA}(h:Bs w gg b)(d:fA):Bs (((((w.setCell ⟨gg,0,none⟩ (.int .i64 d.g)).setCell ⟨gg,1,none⟩ (.int .i64 d.c)).setCell ⟨gg,2,none⟩ (.int .i64 d.t)).setCell ⟨gg,3,none⟩ (.int .i64 d.i)).setCell ⟨gg,4,none⟩ (.int .i64 d.a)) gg d:=
 ah.lX h rfl _ _ _ _ _
theorem Db{w W:World}{gg:Nat}(h:Below w.heap.size w W)(e:w.heap.size<=gg)(j l n p r:Value):Below w.heap.size w (((((W.setCell ⟨gg,0,none⟩ j).setCell ⟨gg,1,none⟩ l).setCell ⟨gg,2,none⟩ n).setCell ⟨gg,3,none⟩ p).setCell ⟨gg,4,none⟩ r):=
 gS (gS (gS (gS (gS h e 0 j) e 1 l) e 2 n) e 3 p) e 4 r
structure nB(w w2 w4:World)(y:cI)(b:fA)(wx:World):Prop where
 bs:Bs wx w2.heap.size b
 rs:Bs wx w.heap.size eo
 aU:Below w2.heap.size w2 wx
 wg:ah wx w4.heap.size 77 (gu y).toArray
 R6:w.heap.size<w2.heap.size
 MF:w2.heap.size<w4.heap.size
section
variable {w w2 w4 wx:World}{y:cI}{b:fA}
theorem nB.step(h:nB w w2 w4 y b wx){e:fA}{i:Nat}{u:Value}(j:Bs (wx.setCell ⟨w2.heap.size,i,none⟩ u) w2.heap.size e):nB w w2 w4 y e (wx.setCell ⟨w2.heap.size,i,none⟩ u):=
 ⟨j,h.rs.far (by have:=h.R6;simp;omega) _,h.aU.setCell (by simp) _,h.wg.far (by have:=h.MF;simp;omega) _,h.R6,h.MF⟩
theorem nB.aan(h:nB w w2 w4 y b wx)(n:Int):nB w w2 w4 y {b with c:=n} (wx.setCell ⟨w2.heap.size,1,none⟩ (.int .i64 n)):=h.step (h.bs.c n)
theorem nB.aao(h:nB w w2 w4 y b wx)(n:Int):nB w w2 w4 y {b with t:=n} (wx.setCell ⟨w2.heap.size,2,none⟩ (.int .i64 n)):=h.step (h.bs.t n)
theorem nB.aap(h:nB w w2 w4 y b wx)(n:Int):nB w w2 w4 y {b with i:=n} (wx.setCell ⟨w2.heap.size,3,none⟩ (.int .i64 n)):=h.step (h.bs.i n)
theorem nB.aaq(h:nB w w2 w4 y b wx)(n:Int):nB w w2 w4 y {b with a:=n} (wx.setCell ⟨w2.heap.size,4,none⟩ (.int .i64 n)):=h.step (h.bs.a n)
end
theorem ajF(A E:Option Addr)(ao R7:Nat)(n:List cI)(p:List Elem)(w:World)(h:aj gu 6 w w.heap.size A n)(R8:∀x∈n,x.code.size<=maxLen)(bc:n.length<=9223372036854775806)
  (hE:aj aN 2 w w.heap.size E p) (hz:∀x∈p,x.code.size<=maxLen) (hl:p.length<=9223372036854775807):
  Calls prog 87 #[.slice A n.length ao,.slice E p.length R7] w fun r w'=>r=.returned (gD n p (bB p))/\Below w.heap.size w w':=by
 have HZ:=aq6 hz;clear hz;have az:=aq6 R8;clear R8;go_enter func87,ntmps87;go_wp2_with fail;have po:Bs (w.alloc (.cells #[.int .i64 0,.int .i64 0,.int .i64 0,.int .i64 0,.int .i64 0] 24)) w.heap.size eo:=ah.new _ _ _;have ab:Below w.heap.size w (w.alloc (.cells #[.int .i64 0,.int .i64 0,.int .i64 0,.int .i64 0,.int .i64 0] 24)):=(arb _ _).alloc (aq7 _) _;generalize w.alloc (.cells #[.int .i64 0,.int .i64 0,.int .i64 0,.int .i64 0,.int .i64 0] 24)=w0 at po ab|-;have aA:w.heap.size<w0.heap.size:=ah.lt po;refine(adS A ao n _ ((h.below ab).more (by omega)) az.out (by omega)).mono ?_;rintro e w1 ⟨rfl,ad⟩;have ai:=po.below ad aA;have aT:=Io ab ad (by omega);have bd:=ad.size;by_cases hv:jV n=true
 ·have HV:=aq6 hv;go_wp2_with fail;refine(agZ E R7 p _ ((hE.below aT).more (by omega)) HZ.out hl).mono ?_;rintro e w2 ⟨v2,rfl,an,af⟩;have aD:=ai.below af (by omega);have bu:=Io aT af (by omega);have be:=af.size;by_cases h0:dP p=0
  ·have H0:=aq6 h0;rw[Pw,aq9 h0]at an;rw[h0];obtain⟨A5,c5,rfl,cX,eM,oD,oF⟩:=an.kE dt;obtain⟨aE,Uz⟩:=VY h0;have Ia:=aq6 (fun x hx=>aj3 HZ.out x hx);generalize hS:bB p=S at*;clear h0 po ab ad af ai aT;go_wp2;have eX:Bs (w2.alloc (.cells #[.int .i64 0,.int .i64 0,.int .i64 0,.int .i64 0,.int .i64 0] 24)) w2.heap.size eo:=ah.new _ _ _;have K:=aD.alloc (Obj.cells #[.int .i64 0,.int .i64 0,.int .i64 0,.int .i64 0,.int .i64 0] 24);have BK:=(arb w2.heap.size w2).alloc (aq7 _) (Obj.cells #[.int .i64 0,.int .i64 0,.int .i64 0,.int .i64 0,.int .i64 0] 24);generalize w2.alloc (.cells #[.int .i64 0,.int .i64 0,.int .i64 0,.int .i64 0,.int .i64 0] 24)=w3 at eX K BK|-
   go_loopw [9] (fun i wr=>∃k:Nat,k<=S.length/\i=.int .i64 k/\Hid (∀j,(hj:j<S.length)->j<k->(ee n S[j].code).isSome=true)/\Bs wr w2.heap.size (fC n (S.take k))/\Hg (k*1000000000) (fC n (S.take k))/\Bs wr w.heap.size eo/\Below w2.heap.size w2 wr) (fun i _=>S.length-(intOf i).toNat)
   case atStart=>exact⟨0,by omega,rfl,fun j _ hj=>absurd hj (by omega),eX,by simp[fC,eo,Hg],K,BK⟩
   case round=>
    clear eX K BK;obtain⟨k,hk,rfl,R,eX,kK,K,ae⟩:=hrel;have br:=ah.lt eX;by_cases al:k<S.length
    ·obtain⟨b,bf,rfl,hb,hc⟩:=(cX.below ae).at_ al;have c0:=hc 0 _ rfl;simp only[ara]at c0;clear hc;go_wp2_with fail;refine(adD A ao n S[k].code _ ((h.below (bu.trans (ae.mono (by omega)))).more (by omega)) (by omega)).mono ?_;rintro e w4 ⟨rfl,am⟩;have FL:=eX.below am br;have Be:=K.below am (by omega);have eO:=Io ae am (by omega);have dT:=am.size;have aJ:w.heap.size<w4.heap.size:=(by omega);have bg:w2.heap.size<w4.heap.size:=(by omega);have OC:b<w4.heap.size:=(by have:=ae.size;omega);rcases T:ee n S[k].code with _|y
     ·rw[afb];obtain⟨U,V,X,r3,Y⟩:=Be.cells;obtain⟨M,N,O,P,Q⟩:=Be.zx;have B:Hid (dQ n p S=16):=by
       have hm:missing n S=true:=arX.2 ⟨S[k],arc _,by simp[T]⟩;simp only[Hid,dQ,HV.out,H0.out,hm,arI,Bool.true_eq_false,arK,ne_eq,not_true_eq_false]
      go_wp2;have u:=(Be.put eo).alloc (Obj.cells #[.string ⟨#[]⟩,.int .i64 0,.bool false,.bool false,.bool false,.int .i64 0] 77);have z:Below w.heap.size w _:=(Db (bu.trans (eO.mono (by omega))) (aq7 _) (.int .i64 0) (.int .i64 0) (.int .i64 0) (.int .i64 0) (.int .i64 0)).alloc (by simp;omega) (Obj.cells #[.string ⟨#[]⟩,.int .i64 0,.bool false,.bool false,.bool false,.int .i64 0] 77);simp only[eo]at u;generalize World.alloc _ _=WW at u z|-;obtain⟨D,F,G,I,J⟩:=u.cells;refine art (v:=gD n p S) ?_ rfl ⟨by rw[hS],z⟩;rw[gD,B.out];simp[results,results87,go_sem,D,F,G,I,J,mC,eo]
     ·rw[afc];obtain⟨U,V,X,r3,Y⟩:=FL.cells;obtain⟨M,N,O,P,Q⟩:=FL.zx;obtain⟨b',ba,ap,_,av⟩:=(cX.below eO).at_ al;injection ap with ap
      injection ap with h1 h2
      subst h1 h2;have d1:=av 1 _ rfl;clear av;have kr:=aE _ (arc al);obtain⟨aO,aP⟩:=kr;have O2:=kK.add (C:=1000000000) (by omega) y aO aP;have Sa:fC n (S.take (k+1))=zy (fC n (S.take k)) y S[k].amount:=(by rw[afd n S k al,I8,T];rfl);have EST:=aq6 Sa;have Sb:∀j,(hj:j<S.length)->j<k+1->(ee n S[j].code).isSome=true:=by
       intro j hj bh;rcases arp j k with h1|h1
       ·exact R.out j hj h1
       ·obtain rfl:j=k:=by omega
        rw[T];rfl
      have Qw:=aq6 Sb;clear Sb Sa T c0;generalize fC n (S.take k)=l at*;obtain⟨⟨g1,g2⟩,⟨g3,g4⟩,⟨g5,g6⟩,⟨g7,g8⟩,⟨g9,bi⟩⟩:=kK;have Sc:nB w w2 w4 y ⟨l.g+S[k].amount,l.c,l.t,l.i,l.a⟩ ((w4.setCell ⟨w2.heap.size,0,none⟩ (.int .i64 (l.g+S[k].amount))).alloc (.cells (gu y).toArray 77)):=
       ⟨(FL.g _).alloc _,(Be.far (by simp;omega) _).alloc _,(eO.setCell (by simp) _).alloc (by simp;omega) _,by have:=ah.new (w4.setCell ⟨w2.heap.size,0,none⟩ (.int .i64 (l.g+S[k].amount))) 77 (gu y).toArray;simpa using this,by omega,by omega⟩
      have Sd:=aq6 Sc;clear Sc
      go_upto_if 57 with fail
      generalize ay:World.alloc _ _=W0;have C0:nB w w2 w4 y ⟨l.g+S[k].amount,l.c,l.t,l.i,l.a⟩ W0:=(by rw[<-ay];exact Sd.out);clear ay U V X r3 Y M N O P Q d1 Sd FL Be eX K ae eO aD;obtain⟨U,V,X,r3,Y⟩:=C0.bs.cells;obtain⟨M,N,O,P,Q⟩:=C0.bs.zx;have y1:=C0.wg.cell 1;have y2:=C0.wg.cell 2;have y3:=C0.wg.cell 3;have Z:=C0.wg.cell 4;simp only[gu,arh,ari,arj]at y1 y2 y3 Z
      go_cut [] (fun wx=>nB w w2 w4 y ⟨l.g+S[k].amount,l.c+(if y.kind=1 then S[k].amount else 0),l.t,l.i,l.a⟩ wx)
      case first=>
       by_cases L:y.kind=1
       ·have aS:(y.kind==1)=true:=(by simp[L]);go_wp2;go_meet;have hz:=(C0.aan (l.c+S[k].amount))
        simpa[L]using hz
       ·have aS:(y.kind==1)=false:=(by simp[L]);go_wp2;go_meet;simpa[L]using C0
      case rest=>
       clear U V X r3 Y M N O P Q y1 y2 y3 Z C0;have C1:=hcut;clear hcut;obtain⟨U,V,X,r3,Y⟩:=C1.bs.cells;obtain⟨M,N,O,P,Q⟩:=C1.bs.zx;have y1:=C1.wg.cell 1;have y2:=C1.wg.cell 2;have y3:=C1.wg.cell 3;have Z:=C1.wg.cell 4;simp only[gu,arh,ari,arj]at y1 y2 y3 Z
       go_upto_if 64 with fail
       go_cut [] (fun wx=>nB w w2 w4 y ⟨l.g+S[k].amount,l.c+(if y.kind=1 then S[k].amount else 0),l.t+(if y.jh=true then S[k].amount else 0),l.i,l.a⟩ wx)
       case first=>
        rcases L:y.jh with _|_;rotate_left
        ·go_wp2;go_meet;have hz:=(C1.aao (l.t+S[k].amount))
         simpa[L]using hz
        ·go_wp2;go_meet;simpa[L]using C1
       case rest=>
        clear U V X r3 Y M N O P Q y1 y2 y3 Z C1;have C2:=hcut;clear hcut;obtain⟨U,V,X,r3,Y⟩:=C2.bs.cells;obtain⟨M,N,O,P,Q⟩:=C2.bs.zx;have y1:=C2.wg.cell 1;have y2:=C2.wg.cell 2;have y3:=C2.wg.cell 3;have Z:=C2.wg.cell 4;simp only[gu,arh,ari,arj]at y1 y2 y3 Z
        go_upto_if 71 with fail
        go_cut [] (fun wx=>nB w w2 w4 y ⟨l.g+S[k].amount,l.c+(if y.kind=1 then S[k].amount else 0),l.t+(if y.jh=true then S[k].amount else 0),l.i+(if y.aF=true then S[k].amount else 0),l.a⟩ wx)
        case first=>
         rcases L:y.aF with _|_;rotate_left
         ·go_wp2;go_meet;have hz:=(C2.aap (l.i+S[k].amount))
          simpa[L]using hz
         ·go_wp2;go_meet;simpa[L]using C2
        case rest=>
         clear U V X r3 Y M N O P Q y1 y2 y3 Z C2;have C3:=hcut;clear hcut;obtain⟨U,V,X,r3,Y⟩:=C3.bs.cells;obtain⟨M,N,O,P,Q⟩:=C3.bs.zx;have Z:=C3.wg.cell 4;simp only[gu,arh,ari,arj]at Z;have ax:∀W',nB w w2 w4 y (zy l y S[k].amount) W'->∃k':Nat,k'<=S.length/\Value.int .i64 ((k:Int)+1)=.int .i64 k'/\Hid (∀j,(hj:j<S.length)->j<k'->(ee n S[j].code).isSome=true)/\Bs W' w2.heap.size (fC n (S.take k'))/\Hg (k'*1000000000) (fC n (S.take k'))/\Bs W' w.heap.size eo/\Below w2.heap.size w2 W':=by intro W' hC;refine⟨k+1,by omega,by go_num,Qw.out,by rw[EST.out];exact hC.bs,?_,hC.rs,hC.aU⟩;have e9:((k+1:Nat):Int)*1000000000=(k:Int)*1000000000+1000000000:=(by omega);rw[EST.out,e9];exact O2
         have iU:=aq6 ax;clear ax;rcases L:y.fU with _|_
         ·have C4:nB w w2 w4 y (zy l y S[k].amount) wc:=(by simpa[zy,L]using C3);clear C3;go_wp2;go_roundw
          case rel=>
           have T:=iU.out _ C4
           first|exact T|((repeat apply Exists.intro);exact⟨T,rfl⟩)
          case measure=>simp[intOf];omega
         ·have C4:nB w w2 w4 y (zy l y S[k].amount) (wc.setCell ⟨w2.heap.size,4,none⟩ (.int .i64 (l.a+S[k].amount))):=(by simpa[zy,L]using C3.aaq (l.a+S[k].amount));clear C3;go_wp2;go_roundw
          case rel=>
           have T:=iU.out _ C4
           first|exact T|((repeat apply Exists.intro);exact⟨T,rfl⟩)
          case measure=>simp[intOf];omega
    ·have kr:S.take k=S:=ar0 (by omega);rw[kr]at eX kK;have aV:Hid (missing n S=false):=by
      rw[Hid,missing,arR];intro x hx;obtain⟨j,hj,rfl⟩:=arN.1 hx;have:=R.out j hj (by omega);rw[Option.isSome_iff_ne_none]at this;simpa using this
     obtain⟨U,V,X,r3,Y⟩:=eX.cells;obtain⟨p0,p1,p2,p3,p4⟩:=K.cells;obtain⟨M,N,O,P,Q⟩:=K.zx;have ie:Hid (Below w.heap.size w wr):=bu.trans (ae.mono (by omega));have HS:=aq6 hS;have kB:Hid (dQ n p S=if nR (fC n S)=false then 4 else 0):=by simp only[Hid,dQ,HV.out,H0.out,aV.out,arK,Bool.true_eq_false,ar1,ne_eq,not_true_eq_false]
     have aJ:w.heap.size<wr.heap.size:=(by omega);clear hS kr R kK;generalize kW:fC n S=l at*;have aW:=aq6 kW;clear kW;by_cases a1:cx l.g=true;rotate_left
     ·have WJ:cx l.g=false:=(by simpa using a1);have B:Hid (dQ n p S=4):=(by rw[Hid,kB.out,aq9 (by simp[nR,WJ])]);clear a1;go_wp2_with(go_at_call 30;refine(EI _ _).mono ?_;rintro e w' ⟨rfl,rfl⟩);have u:=(K.put eo)
      have z:Below w.heap.size w _:=Db ie.out (aq7 _) (.int .i64 0) (.int .i64 0) (.int .i64 0) (.int .i64 0) (.int .i64 0);simp only[eo]at u;generalize World.setCell _ ⟨w.heap.size,4,none⟩ _=WW at u z|-;obtain⟨D,F,G,I,J⟩:=u.cells;refine art (v:=gD n p S) ?_ rfl ⟨by first|rfl|rw[HS.out],z⟩;rw[gD,B.out];simp[results,results87,go_sem,D,F,G,I,J,mC,eo]
     by_cases a2:cx l.c=true;rotate_left
     ·have a0:cx l.c=false:=(by simpa using a2);have B:Hid (dQ n p S=4):=(by rw[Hid,kB.out,aq9 (by simp[nR,a0])]);clear a2;go_wp2_with(go_at_call 30;refine(EI _ _).mono ?_;rintro e w' ⟨rfl,rfl⟩);have u:=(K.put eo)
      have z:Below w.heap.size w _:=Db ie.out (aq7 _) (.int .i64 0) (.int .i64 0) (.int .i64 0) (.int .i64 0) (.int .i64 0);simp only[eo]at u;generalize World.setCell _ ⟨w.heap.size,4,none⟩ _=WW at u z|-;obtain⟨D,F,G,I,J⟩:=u.cells;refine art (v:=gD n p S) ?_ rfl ⟨by first|rfl|rw[HS.out],z⟩;rw[gD,B.out];simp[results,results87,go_sem,D,F,G,I,J,mC,eo]
     by_cases a3:cx l.t=true;rotate_left
     ·have a6:cx l.t=false:=(by simpa using a3);have B:Hid (dQ n p S=4):=(by rw[Hid,kB.out,aq9 (by simp[nR,a6])]);clear a3;go_wp2_with(go_at_call 30;refine(EI _ _).mono ?_;rintro e w' ⟨rfl,rfl⟩);have u:=(K.put eo)
      have z:Below w.heap.size w _:=Db ie.out (aq7 _) (.int .i64 0) (.int .i64 0) (.int .i64 0) (.int .i64 0) (.int .i64 0);simp only[eo]at u;generalize World.setCell _ ⟨w.heap.size,4,none⟩ _=WW at u z|-;obtain⟨D,F,G,I,J⟩:=u.cells;refine art (v:=gD n p S) ?_ rfl ⟨by first|rfl|rw[HS.out],z⟩;rw[gD,B.out];simp[results,results87,go_sem,D,F,G,I,J,mC,eo]
     by_cases a4:cx l.i=true;rotate_left
     ·have a7:cx l.i=false:=(by simpa using a4);have B:Hid (dQ n p S=4):=(by rw[Hid,kB.out,aq9 (by simp[nR,a7])]);clear a4;go_wp2_with(go_at_call 30;refine(EI _ _).mono ?_;rintro e w' ⟨rfl,rfl⟩);have u:=(K.put eo)
      have z:Below w.heap.size w _:=Db ie.out (aq7 _) (.int .i64 0) (.int .i64 0) (.int .i64 0) (.int .i64 0) (.int .i64 0);simp only[eo]at u;generalize World.setCell _ ⟨w.heap.size,4,none⟩ _=WW at u z|-;obtain⟨D,F,G,I,J⟩:=u.cells;refine art (v:=gD n p S) ?_ rfl ⟨by first|rfl|rw[HS.out],z⟩;rw[gD,B.out];simp[results,results87,go_sem,D,F,G,I,J,mC,eo]
     by_cases a5:cx l.a=true;rotate_left
     ·have a8:cx l.a=false:=(by simpa using a5);have B:Hid (dQ n p S=4):=(by rw[Hid,kB.out,aq9 (by simp[nR,a8])]);clear a5;go_wp2_with(go_at_call 30;refine(EI _ _).mono ?_;rintro e w' ⟨rfl,rfl⟩);have u:=(K.put eo)
      have z:Below w.heap.size w _:=Db ie.out (aq7 _) (.int .i64 0) (.int .i64 0) (.int .i64 0) (.int .i64 0) (.int .i64 0);simp only[eo]at u;generalize World.setCell _ ⟨w.heap.size,4,none⟩ _=WW at u z|-;obtain⟨D,F,G,I,J⟩:=u.cells;refine art (v:=gD n p S) ?_ rfl ⟨by first|rfl|rw[HS.out],z⟩;rw[gD,B.out];simp[results,results87,go_sem,D,F,G,I,J,mC,eo]
     have B:Hid (dQ n p S=0):=(by rw[Hid,kB.out,aq8 (by simp[nR,a1,a2,a3,a4,a5])]);go_wp2_with(go_at_call 30;refine(EI _ _).mono ?_;rintro e w' ⟨rfl,rfl⟩);have u:=(K.put l)
     have z:Below w.heap.size w _:=Db ie.out (aq7 _) (.int .i64 l.g) (.int .i64 l.c) (.int .i64 l.t) (.int .i64 l.i) (.int .i64 l.a);generalize World.setCell _ ⟨w.heap.size,4,none⟩ _=WW at u z|-;obtain⟨D,F,G,I,J⟩:=u.cells;refine art (v:=gD n p S) ?_ rfl ⟨by rw[HS.out],z⟩;rw[gD,B.out,aq9 rfl,aW.out];simp[results,results87,go_sem,D,F,G,I,J,mC]
  ·have JR:(dP p !=0)=true:=(by simpa using h0);have B:Hid (dQ n p (bB p)=dP p):=by
    rw[Hid,dQ,aq8 (by simp[HV.out]),aq9 h0]
   have H0:=aq6 h0;obtain⟨p0,p1,p2,p3,p4⟩:=aD.cells;obtain⟨M,N,O,P,Q⟩:=aD.zx;have ie:=aq6 bu;clear h0;go_wp2;have u:=(aD.put eo)
   have z:Below w.heap.size w _:=Db ie.out (aq7 _) (.int .i64 0) (.int .i64 0) (.int .i64 0) (.int .i64 0) (.int .i64 0);simp only[eo]at u;generalize World.setCell _ ⟨w.heap.size,4,none⟩ _=WW at u z|-;obtain⟨D,F,G,I,J⟩:=u.cells;refine art (v:=gD n p (bB p)) ?_ rfl ⟨by first|rfl|rw[HS.out],z⟩;rw[gD,B.out,aq8 H0.out];simp[results,results87,go_sem,D,F,G,I,J,mC,eo]
 ·have a9:jV n=false:=by simpa using hv
  have B:Hid (dQ n p (bB p)=1):=by rw[Hid,dQ,aq9 a9]
  obtain⟨p0,p1,p2,p3,p4⟩:=ai.cells;obtain⟨M,N,O,P,Q⟩:=ai.zx;have ie:=aq6 aT;clear hv;go_wp2;have u:=(ai.put eo)
  have z:Below w.heap.size w _:=Db ie.out (aq7 _) (.int .i64 0) (.int .i64 0) (.int .i64 0) (.int .i64 0) (.int .i64 0);simp only[eo]at u;generalize World.setCell _ ⟨w.heap.size,4,none⟩ _=WW at u z|-;obtain⟨D,F,G,I,J⟩:=u.cells;refine art (v:=gD n p (bB p)) ?_ rfl ⟨by first|rfl|rw[HS.out],z⟩;rw[gD,B.out];simp[results,results87,go_sem,D,F,G,I,J,mC,eo]
section
variable {before:Bool}{base:Int}{year:List Elem}
theorem ag1(P:List bK)(d:bK)(a:Int):tk before base year (P++[d]) a=tk before base year P a++(if 0<lW before base year d (j7 before base year P a)then[⟨d.code,lW before base year d (j7 before base year P a)⟩]else[]):=by rw[ane];simp[tk]
theorem ag2(P:List bK)(d:bK)(a:Int):j7 before base year (P++[d]) a=j7 before base year P a-lW before base year d (j7 before base year P a):=by rw[anf];simp[j7]
theorem Yf{P:List bK}{d:bK}{a n l0:Int}(e:j7 before base year P a=l0)(j:lW before base year d l0=n)(h:0<n):
  tk before base year (P++[d]) a=tk before base year P a++[⟨d.code,n⟩]/\j7 before base year (P++[d]) a=l0-n:=by
 rw[ag1,ag2,e,j,aq9 h];exact⟨rfl,rfl⟩
theorem Ql{P:List bK}{d:bK}{a l0:Int}(e:j7 before base year P a=l0)(j:lW before base year d l0=0):
  tk before base year (P++[d]) a=tk before base year P a/\j7 before base year (P++[d]) a=l0:=by
 rw[ag1,ag2,e,j];simp
theorem aci{d:bK}{l0:Int}(h:d.before≠before):lW before base year d l0=0:=by rw[lW,aq8 h]
end
def D5(l:List bK)(r:Nat):List bK:=(List.range r).flatMap fun(r:Nat)=>l.filter fun d=>decide (d.bX=(r:Int))
def pre(l:List bK)(r i:Nat):List bK:=D5 l r++(l.take i).filter fun d=>decide (d.bX=(r:Int))
theorem ajU(l:List bK):D5 l 100=Dg l:=rfl
theorem ajL(l:List bK)(r:Nat):pre l r 0=D5 l r:=by simp[pre]
theorem ajT(l:List bK)(r:Nat):pre l r l.length=D5 l (r+1):=by simp[pre,D5,List.range_succ]
theorem ajS(l:List bK)(r i:Nat)(h:i<l.length)(e:l[i].bX=(r:Int)):pre l r (i+1)=pre l r i++[l[i]]:=by rw[pre,pre,arA h,asf];simp[e]
theorem ajR(l:List bK)(r i:Nat)(h:i<l.length)(e:l[i].bX≠(r:Int)):pre l r (i+1)=pre l r i:=by rw[pre,pre,arA h,asf];simp[e]
theorem ao7(l:List bK)(h:l.length<=16)(r:Nat):(D5 l r).length<=16*r:=by
 induction r with
 |zero=>simp[D5]
 |succ r e=>
  have:D5 l (r+1)=D5 l r++l.filter fun d=>decide (d.bX=(r:Int)):=by simp[D5,List.range_succ]
  rw[this,arl];have:=arJ (fun d:bK=>decide (d.bX=(r:Int))) l;omega
theorem ajO(l:List bK)(h:l.length<=16)(r i:Nat):(pre l r i).length<=16*r+16:=by
 have e:=ao7 l h r;have j:=arJ (fun d:bK=>decide (d.bX=(r:Int))) (l.take i);have n:(l.take i).length<=16:=by simp;omega
 rw[pre,arl];omega
theorem ajM{l:List bK}{r i:Nat}{x:bK}(h:x∈pre l r i):x∈l:=by
 simp only[pre,D5,arE,List.mem_flatMap,ass]at h;rcases h with⟨_,_,h,_⟩|⟨h,_⟩
 ·exact h
 ·exact arD h
theorem afC{l:List Elem}(h:∀x∈l,0<=x.amount)(c:List UInt8):0<=cC l c/\cC l c<=aQ l:=by
 induction l with
 |nil=>simp[cC,aQ]
 |cons a l e=>have n:=e (fun x j=>h x (by simp[j]));have p:=h a (by simp);simp only[cC,aQ];split<;>omega
theorem ag3{l:List Elem}(h:∀x∈l,0<=x.amount){x:Elem}(e:x∈bB l):0<=x.amount/\x.amount<=aQ l:=by rw[mem_sorted (IW l),Q4]at e;rw[e.2];exact afC h _
theorem ajN{P:List bK}(e:∀x∈P,zN x)(before:Bool){base:Int}(year:List Elem)(j:0<=base)(l:base<=1000000000){a:Int}(n:0<=a)(x:Elem)(p:x∈bB (tk before base year P a)):0<=x.amount/\x.amount<=a:=by have r:=ag3 (fun y hy=>by have:=(afJ e j l a n y hy).2.1;omega) p;rw[afK P e j l a n]at r;have:=Uh (before:=before) (year:=year) e j l a n;omega
theorem adR(P:List bK)(before:Bool)(base:Int)(year:List Elem)(a:Int):(bB (tk before base year P a)).length<=P.length:=arq (UQ _) (Ya _ _)
theorem Ug{l:List bK}{base e:Int}{year:List Elem}(h:fV l=false\/eJ year=false):eC l base e year=1:=by
 unfold eC;rcases h with h|h
 ·rw[aq9 h]
 ·rw[aq9 h];split<;>rfl
theorem NG{l:List bK}{base e:Int}{year:List Elem}(j:fV l=true)(n:eJ year=true)(h:bG base 1000000000=false\/bG e 1000000000=false):eC l base e year=2:=by
 unfold eC;rw[aq8 (by simp[j]),aq8 (by simp[n])];rcases h with h|h
 ·rw[aq9 h]
 ·rw[aq9 h];split<;>rfl
theorem X8{l:List bK}{base e:Int}{year:List Elem}(j:fV l=true)(n:eJ year=true)(p:bG base 1000000000=true)(r:bG e 1000000000=true):eC l base e year=0:=by unfold eC;rw[aq8 (by simp[j]),aq8 (by simp[n]),aq8 (by simp[p]),aq8 (by simp[r])]
theorem X9{l:List bK}{before:Bool}{base e:Int}{year:List Elem}(h:eC l base e year=0):il l before base e year=bB (tk before base year (Dg l) e):=by rw[il,aq9 h]
theorem ace{l:List bK}{before:Bool}{base e:Int}{year:List Elem}(h:eC l base e year≠0):il l before base e year=[]:=by rw[il,aq8 h]
theorem ach{year:List Elem}(h:eJ year=true)(c:ByteArray):0<=mU year c/\mU year c<=1000000000000:=
 ao8 (P:=fun n=>0<=n/\n<=1000000000000) (fun x e=>((pz.1 h).2.1 x e).2) ⟨by omega,by omega⟩
theorem ag4{a:List Elem}(b:List Elem)(h:iO a):iO (b.foldl put a)/\(∀c,cC (b.foldl put a) c=cC (a++b) c)/\∀c,fF (b.foldl put a) c=fF (a++b) c:=by obtain⟨e,j,l⟩:=Vb b a h;exact⟨e,fun c=>by rw[j,Nl],fun c=>by rw[l,TL]⟩
theorem abB{a b:List Elem}(h:iO a)(x:Elem):x∈lT a b↔(fF (a++b) x.code.data.toList=true/\x.amount=cC (a++b) x.code.data.toList/\x.amount≠0):=by obtain⟨e,j,l⟩:=ag4 b h;rw[lT,ass,mem_sorted e,j,l];simp[nz,and_assoc]
theorem Xp{a:List Elem}(b:List Elem)(h:iO a):iO (lT a b):=(ag4 b h).1.filter _
theorem abz:∀{l m:List Elem},l.Pairwise (fun a b=>a.code≠b.code)->m.Pairwise (fun a b=>a.code≠b.code)->(∀x,x∈l↔x∈m)->l.Perm m
 |[],[],_,_,_=>List.Perm.nil
 |[],b::s,_,_,h=>by have:=(h b).2 (by simp);simp at this
 |a::r,m,p,u,h=>by
  obtain⟨z,B⟩:=ar8.1 p;have C:a∈m:=(h a).1 (by simp);obtain⟨s,t,rfl⟩:=List.append_of_mem C;have n:(s++a::t).Perm (a::(s++t)):=List.perm_middle;have D:=u.perm n (fun h e=>h e.symm);obtain⟨E,F⟩:=ar8.1 D;refine(List.Perm.cons a (abz B F (fun x=>?_))).trans n.symm;constructor
  ·intro j;have:=(h x).1 (by simp[j]);have h3:=n.mem_iff.1 this;rcases arF.1 h3 with e|h3
   ·subst e;exact absurd rfl (z x j)
   ·exact h3
  ·intro j;have:=(h x).2 (n.mem_iff.2 (by simp[j]));rcases arF.1 this with e|h3
   ·subst e;exact absurd rfl (E x j)
   ·exact h3
theorem abA{l:List Elem}(h:iO l):l.Pairwise (fun a b=>a.code≠b.code):=h.imp (by intro a b j e;rw[EP,e]at j;exact asG _ j)
def big(x:Elem):Bool:=decide (1000000000000<x.amount)
def mr(l:List Elem):Bool:=l.any big
theorem ahx(l:List Elem)(x:Elem):mr (l++[x])=(mr l||big x):=by simp[mr]
theorem Sw(a b:List Elem):ep a b=if eJ a=false then 1 else if b.all nC=false then 1 else if 128<b.length then 3 else if 128<(lT a b).length then 3 else if mr (lT a b)then 4 else 0:=rfl
theorem TI{a b:List Elem}(h:eJ a=false\/b.all nC=false):ep a b=1:=by
 rw[Sw];rcases h with h|h
 ·rw[aq9 h]
 ·rw[aq9 h];split<;>rfl
theorem TK{a b:List Elem}(e:eJ a=true)(j:b.all nC=true)(h:128<b.length\/128<(lT a b).length):ep a b=3:=by
 rw[Sw,aq8 (by simp[e]),aq8 (by simp[j])];rcases h with h|h
 ·rw[aq9 h]
 ·rw[aq9 h];split<;>rfl
theorem abG{a b:List Elem}(e:eJ a=true)(j:b.all nC=true)(l:¬128<b.length)(n:¬128<(lT a b).length):ep a b=if mr (lT a b)then 4 else 0:=by rw[Sw,aq8 (by simp[e]),aq8 (by simp[j]),aq8 l,aq8 n]
theorem abI{a b:List Elem}(h:ep a b=0):kU a b=lT a b:=by rw[kU,aq9 h]
theorem abu{a b:List Elem}(h:ep a b≠0):kU a b=[]:=by rw[kU,aq8 h]
theorem TJ(x:Elem):nC x=true↔bI x.code=true/\0<=x.amount/\x.amount<=1000000000:=by simp[nC,bG]
theorem abv(l:List Elem)(c:List UInt8)(B:Int)(p:0<=B)(h:∀x∈l,0<=x.amount/\x.amount<=B):0<=cC l c/\cC l c<=l.length*B:=by
 induction l with
 |nil=>simp[cC]
 |cons a l e=>
  have r:=e (fun x j=>h x (by simp[j]));have u:=h a (by simp);simp only[cC,ars];have n:((l.length+1:Nat):Int)*B=l.length*B+B:=by rw[asL,ar2];simp
  rw[n];split<;>omega
