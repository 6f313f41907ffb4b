/- Conditions: as stated. -/
import Derived.Test.YtlhkojcmcmkmaaaGreatKBox
import Derived.Test.YtlhkojcmcmkmaaaGreatKP29b
set_option maxRecDepth 100000
set_option maxHeartbeats 4000000
namespace Go.Proofs.YtlhkojcmcmkmaaaGreat
open Go.Proofs.Tryz
open Go.RowKit
theorem Jk(n:Int)(w:World)(j:0<=n)(l:n<=1000000000):Calls prog 164 #[.int .i64 n] w fun e w'=>e=.returned (.bool true)/\w=w':=by go_enter func164,ntmps164;go_wp2;go_ret;exact⟨rfl,rfl⟩
theorem af3(n:Int)(w:World)(j:-1000000000000<=n)(l:n<=1000000000000):Calls prog 165 #[.int .i64 n] w fun e w'=>e=.returned (.bool true)/\w=w':=by go_enter func165,ntmps165;go_wp2;go_ret;exact⟨rfl,rfl⟩
theorem af4(A:Option Addr)(E:Nat)(t:List mj)(w:World)(h:aj oB 2 w w.heap.size A t)(p:My t):
  Calls prog 192 #[.slice A t.length E] w fun e w'=>e=.returned (.bool true)/\Below w.heap.size w w':=by
 have D:=aq6 p;have r:=p.ne;have V:=p.len;have F:=p.zero;rw[Hh r]at F;obtain⟨b,G,rfl,X,J⟩:=h.at_ r;have d0:=J 0 _ rfl;simp only[ara,arT]at d0;rw[F]at d0;have Y:(0:Int)<(t.length:Int):=by omega
 clear F J p;go_enter func192,ntmps192;go_wp2
 go_loopw [22] (fun i wr=>∃k:Nat,k<=t.length/\i=.int .i64 k/\Below w.heap.size w wr) (fun i _=>t.length-(intOf i).toNat)
 case atStart=>exact⟨0,by omega,rfl,arb _ _⟩
 case round=>
  obtain⟨k,Z,rfl,u⟩:=hrel;have K:=u.size;by_cases j:k<t.length
  ·have L:aj oB 2 wr w.heap.size (some ⟨b,G,none⟩) t:=h.below u;have y:=D.out.hi k j;have l:=D.out.t0 k j;have I:=D.out.t1 k j;rw[Hh j]at y l I;obtain⟨b1,EE,z,O,n⟩:=L.at_ j;injection z with z
   injection z with z P
   subst z P;have M:=n 0 _ rfl;have Q:=n 1 _ rfl;simp only[ara]at M;have gK:(k:Int)<(t.length:Int):=(by omega);have g1:decide (1000000000<t[k].bW)=false:=(by simp;omega);have jr:b<wr.heap.size:=(by omega);clear n;rcases k with _|m
   ·have fM:(0:Int)<(t.length:Int):=(by omega);simp only[arT,ara]at M Q;go_wp2;go_quiet((go_at_call 164;exact Calls.quiet_of_same ((Jk _ _ l I).mono fun e w' ⟨y,l⟩=>⟨y,l.symm⟩)));go_wp2;go_roundw
    case rel=>exact⟨1,by omega,by go_num,below_drewN (u.alloc K _) _⟩
    case measure=>simp[intOf];omega
   ·have N:m<t.length:=(by omega);have R:=D.out.lh m j;rw[Hh N,Hh j]at R;obtain⟨b2,FH,B,S,C⟩:=L.at_ N;injection B with B
    injection B with B T
    subst B T;have U:=C 0 _ rfl;simp only[ara]at U;clear C;have g0:decide (t[m+1].bW<=t[m].bW)=false:=(by simp;omega);have Ca:(m:Int)<(t.length:Int):=(by omega);have Mc:(m:Int)+1<(t.length:Int):=(by omega);have hp:decide ((0:Int)<(m:Int)+1)=true:=(by rw[arz];omega);go_wp2;go_quiet((go_at_call 164;exact Calls.quiet_of_same ((Jk _ _ l I).mono fun e w' ⟨y,l⟩=>⟨y,l.symm⟩)));go_wp2;go_roundw
    case rel=>exact⟨m+2,by omega,by go_num,below_drewN (u.alloc K _) _⟩
    case measure=>simp[intOf];omega
  ·go_wp2;go_ret;exact⟨rfl,u⟩
theorem Wp(m:iD)(w:World)(h:m.In w)(hT:nP m.t):Calls prog 155 #[.agg #[.int .i64 m.t.method,.slice m.Ab m.t.aA.length m.cb,.int .i64 m.t.bg,.int .i64 m.t.bh,.int .i64 m.t.unit,.int .i64 m.t.mode,.slice m.Ar m.t.rows.length m.cr]] w fun e w'=>e=.returned (.bool true)/\Below w.heap.size w w':=by
 obtain⟨⟨method,M,Z,cr,p,r,n⟩,N,cb,O,P⟩:=m;obtain⟨Q,hr⟩:=h;obtain⟨m0,m1,y,R,S,T,U,u0,u1,Gm,Gn,V,j⟩:=hT;simp only at Q hr m0 m1 y R S T U u0 u1 Gm Gn V j|-;have I6:=aq6 y;have Mr:=aq6 V;have gl:=aq6 j;clear y V j;have K:=ah.new w 41 #[.int .i64 method,.slice N M.length cb,.int .i64 Z,.int .i64 cr,.int .i64 p,.int .i64 r,.slice O n.length P];have L:=bF w (.cells #[.int .i64 method,.slice N M.length cb,.int .i64 Z,.int .i64 cr,.int .i64 p,.int .i64 r,.slice O n.length P] 41);have iI:method=1\/method=2\/method=3:=by omega
 go_enter func155,ntmps155;go_upto_region 1 with fail
 generalize w.alloc (Obj.cells _ _)=W at K L|-;rcases iI with rfl|rfl|rfl
 ·obtain⟨z,B,C,D,E,F,G⟩:=K.cz7;go_wp2_with fail;refine(af4 O P n W (hr.aa L) (Mr.out trivial)).mono ?_;rintro e w1 ⟨rfl,I⟩;have u:=K.aa I;have J:=aB L I;clear K L I z B C D E F G;obtain⟨z,B,C,D,E,F,G⟩:=u.cz7;go_wp2_with fail;refine(Wn N cb M _ (Q.aa J) I6.out).mono ?_;rintro e w2 ⟨rfl,l⟩;have X:=u.aa l;have Y:=aB J l;clear u J l z B C D E F G;obtain⟨z,B,C,D,E,F,G⟩:=X.cz7;go_wp2_with fail;refine(Jk _ _ R S).mono ?_;rintro e w' ⟨rfl,rfl⟩;go_wp2_with fail;refine(Jk _ _ T U).mono ?_;rintro e w' ⟨rfl,rfl⟩;go_wp2;go_ret;exact⟨rfl,Y⟩
 all_goals have B1:=gl.out (by omega);subst B1;have u:=K;have J:=L;clear K L;simp only[arC]at u;obtain⟨z,B,C,D,E,F,G⟩:=u.cz7;go_wp2_with fail;refine(Wn N cb M _ (Q.aa J) I6.out).mono ?_;rintro e w2 ⟨rfl,l⟩;have X:=u.aa l;have Y:=aB J l;clear u J l z B C D E F G;obtain⟨z,B,C,D,E,F,G⟩:=X.cz7;go_wp2_with fail;refine(Jk _ _ R S).mono ?_;rintro e w' ⟨rfl,rfl⟩;go_wp2_with fail;refine(Jk _ _ T U).mono ?_;rintro e w' ⟨rfl,rfl⟩;go_wp2;go_ret;exact⟨rfl,Y⟩
theorem af5(t:zS)(C:Int)(A D:Option Addr)(p E F:Nat)(l:List cB)(j r inc:Int)(w:World)(h:aj gG 2 w w.heap.size A l)(I:gY l)(u:nP t)(X:0<=j)(Y:j<=1000000000)(Z:0<=r)(c1:r<=1000000000)(i0:0<=inc)(i1:inc<=1000000000000):
  Calls prog 205 #[.agg #[.int .i64 C,.slice A l.length p,.int .i64 j,.int .i64 r,.int .i64 t.unit,.int .i64 t.mode,.slice D E F],.int .i64 inc] w fun e w'=>e=.returned (.tuple #[.int .i64 (ma t l j r inc),.int .i64 0])/\Below w.heap.size w w':=by
 have J:Hid (ma t l j r inc=max (Ce l (max (inc-j) 0) t.unit t.mode-r) 0):=rfl;obtain⟨t0,t1⟩:=aay (mode:=t.mode) (inc:=max (inc-j) 0) (unit:=t.unit) I (by omega) u.u0;have u0:=u.u0;have u1:=u.u1;have R:=u.Gm;have S:=u.Gn;clear u;have z:=ah.new w 41 #[.int .i64 C,.slice A l.length p,.int .i64 j,.int .i64 r,.int .i64 t.unit,.int .i64 t.mode,.slice D E F];have G:=bF w (.cells #[.int .i64 C,.slice A l.length p,.int .i64 j,.int .i64 r,.int .i64 t.unit,.int .i64 t.mode,.slice D E F] 41);rcases(show max (inc-j) 0=inc-j/\0<=inc-j\/max (inc-j) 0=0/\inc-j<0 by omega)with⟨B,T⟩|⟨B,T⟩
 all_goals
  rw[B]at J t0 t1;have U:=aq6 B;clear B;go_enter func205,ntmps205;go_upto_region 1 with fail
  generalize w.alloc (Obj.cells _ _)=W at z G|-;obtain⟨K,L,M,N,O,P,Q⟩:=z.cz7;go_wp2_with fail
  try rw[U.out]
  refine(anE A p l _ _ _ W (h.aa G) I (by omega) (by omega) u0 (by omega) R S).mono ?_;rintro e w1 ⟨rfl,y⟩;have V:=z.aa y;clear z K L M N O P Q;obtain⟨K,L,M,N,O,P,Q⟩:=V.cz7;generalize Ce l _ t.unit t.mode=tn at*;go_wp2
  all_goals go_ret2;exact⟨by rw[J.out];first|rfl|(refine congrArg (fun n:Int=>Ending.returned (.tuple #[.int .i64 n,.int .i64 0])) ?_;omega),aB G y⟩
theorem anV(A:Option Addr)(l:Nat)(t:List mj)(j:Int)(w:World)(h:aj oB 2 w w.heap.size A t)(D:My t)(I:0<=j)(J:j<=1000000000):
  Calls prog 166 #[.slice A t.length l,.int .i64 j] w fun e w'=>e=.returned (.tuple #[.int .i64 (Jf t j),.int .i64 0])/\Below w.heap.size w w':=by
 have O:=D.len;have E:=aq6 (af4 A l t w h D);go_enter func166,ntmps166;go_wp2_with fail;refine arf E.out ?_;rintro e y ⟨rfl,p⟩;have z:=h.aa p;clear E h;go_wp2_with fail;refine(Jk _ _ I J).mono ?_;rintro e w' ⟨rfl,rfl⟩;go_wp2
 go_loopw [6,17] (fun n i wr=>∃k:Nat,k<=t.length/\i=.int .i64 k/\n=.int .i64 (De t j k)/\Below y.heap.size y wr) (fun _ i _=>t.length-(intOf i).toNat)
 case atStart=>exact⟨0,by omega,rfl,rfl,arb _ _⟩
 case round=>
  obtain⟨k,P,rfl,rfl,r⟩:=hrel;have F:=r.size;by_cases u:k<t.length
  ·obtain⟨b,K,rfl,Q,B⟩:=(z.aa r).at_ u;have L:=B 0 _ rfl;have R:=B 1 _ rfl;simp only[ara]at L;have C:Hid (De t j (k+1)=if(t.getD k lR).bW<=j then(t.getD k lR).au else De t j k):=rfl;rw[Hh u]at C;clear B;by_cases M:t[k].bW<=j
   ·go_wp2;go_roundw
    case rel=>exact⟨k+1,by omega,by go_num,by rw[C.out,aq9 M],r.alloc F _⟩
    case measure=>simp[intOf];omega
   ·go_wp2;go_roundw
    case rel=>
     have G:∃k':Nat,k'<=t.length/\Value.int .i64 ((k:Int)+1)=.int .i64 k'/\Value.int .i64 (De t j k)=.int .i64 (De t j k')/\Below y.heap.size y (wr.alloc (.cells #[.int .i64 t[k].bW,.int .i64 t[k].au] 93)):=⟨k+1,by omega,by go_num,by rw[C.out,aq8 (by omega)],r.alloc F _⟩
     first|exact G|((repeat apply Exists.intro);exact⟨G,rfl⟩)
    case measure=>simp[intOf];omega
  ·obtain rfl:k=t.length:=by omega
   have N:Hid (Jf t j=De t j t.length):=rfl;go_wp2;go_ret2;exact⟨by rw[N.out];rfl,aB p r⟩
theorem anW(m:iD)(l j:Int)(w:World)(h:m.In w)(y:nP m.t)(D:0<=l)(E:l<=1000000000)(O:1<=j)(P:j<=53):
  Calls prog 167 #[.agg #[.int .i64 m.t.method,.slice m.Ab m.t.aA.length m.cb,.int .i64 m.t.bg,.int .i64 m.t.bh,.int .i64 m.t.unit,.int .i64 m.t.mode,.slice m.Ar m.t.rows.length m.cr],.int .i64 l,.int .i64 j] w fun e w'=>e=.returned (.tuple #[.int .i64 (Fb m.t l j),.int .i64 0])/\Below w.heap.size w w':=by
 obtain⟨⟨Q,T⟩,⟨t0,t1⟩,U,f0,f1⟩:=af6 y D E O P;have V:(j==0)=false:=by rw[arS];omega
 have u:=ah.new w 41 #[.int .i64 m.t.method,.slice m.Ab m.t.aA.length m.cb,.int .i64 m.t.bg,.int .i64 m.t.bh,.int .i64 m.t.unit,.int .i64 m.t.mode,.slice m.Ar m.t.rows.length m.cr];have z:=bF w (.cells #[.int .i64 m.t.method,.slice m.Ab m.t.aA.length m.cb,.int .i64 m.t.bg,.int .i64 m.t.bh,.int .i64 m.t.unit,.int .i64 m.t.mode,.slice m.Ar m.t.rows.length m.cr] 41);have n:=aq6 y;clear y;go_enter func167,ntmps167;go_upto_region 1 with fail
 generalize w.alloc (Obj.cells _ _)=W at u z|-;obtain⟨F,G,I,J,K,L,M⟩:=u.cz7;go_wp2_with fail;refine(Wp m W (h.aa z) n.out).mono ?_;rintro e R ⟨rfl,p⟩;have S:=u.aa p;have N:=aB z p;clear u p F G I J K L M;obtain⟨F,G,I,J,K,L,M⟩:=S.cz7;go_wp2_with fail;refine(Jk _ _ D E).mono ?_;rintro e w' ⟨rfl,rfl⟩;go_wp2_with fail;refine(af5 m.t m.t.method m.Ab m.Ar m.cb m.t.rows.length m.cr m.t.aA m.t.bg m.t.bh (l*j) R (h.aA.aa N) n.out.aA n.out n.out.a0 n.out.a1 n.out.c0 n.out.c1 Q (by omega)).mono ?_;rintro e X ⟨rfl,B⟩;generalize ma m.t m.t.aA m.t.bg m.t.bh (l*j)=Y at*;generalize r:Fb m.t l j=Z at*;have C:=aq6 r;clear r;go_wp2;go_ret2;exact⟨by rw[C.out];rfl,aB N B⟩
theorem anX(m:iD)(j k l:Int)(w:World)(h:m.In w)(P:nP m.t)(Q:1<=j)(Y:j<=53)(k0:1<=k)(R:k<=j)(i0:0<=l)(i1:l<=1000000000000):
  Calls prog 206 #[.agg #[.int .i64 m.t.method,.slice m.Ab m.t.aA.length m.cb,.int .i64 m.t.bg,.int .i64 m.t.bh,.int .i64 m.t.unit,.int .i64 m.t.mode,.slice m.Ar m.t.rows.length m.cr],.int .i64 j,.int .i64 k,.int .i64 l] w fun e w'=>e=.returned (.tuple #[.int .i64 (mV m.t j k l),.int .i64 0])/\Below w.heap.size w w':=by
 obtain⟨⟨⟨p0,p1⟩,p2,p3⟩,⟨e1,e2⟩,⟨q0,q1⟩,q2,q3⟩:=aaS P Q Y k0 R;have eQ:(j==0)=false:=by rw[arS];omega
 have M:=ah.new w 41 #[.int .i64 m.t.method,.slice m.Ab m.t.aA.length m.cb,.int .i64 m.t.bg,.int .i64 m.t.bh,.int .i64 m.t.unit,.int .i64 m.t.mode,.slice m.Ar m.t.rows.length m.cr];have S:=bF w (.cells #[.int .i64 m.t.method,.slice m.Ab m.t.aA.length m.cb,.int .i64 m.t.bg,.int .i64 m.t.bh,.int .i64 m.t.unit,.int .i64 m.t.mode,.slice m.Ar m.t.rows.length m.cr] 41);have HD:Hid (mV m.t j k l=ma m.t (nQ m.t.aA k j) (m.t.bg*k/j) (m.t.bh*k/j) l):=rfl;have N:=aq6 P;clear P;go_enter func206,ntmps206;go_upto_region 1 with fail
 generalize w.alloc (Obj.cells _ _)=W at M S|-;obtain⟨z,B,C,D,E,F,G⟩:=M.cz7;go_wp2_with fail;refine(Wp m W (h.aa S) N.out).mono ?_;rintro e w1 ⟨rfl,r⟩;have O:=M.aa r;have T:=aB S r;clear M r z B C D E F G;obtain⟨z,B,C,D,E,F,G⟩:=O.cz7;go_wp2_with fail;refine(anJ m.Ab m.cb m.t.aA k j w1 (h.aA.aa T) N.out.aA (by omega) Q R Y).mono ?_;rintro e Z ⟨v2,rfl,n,u⟩;have y:=O.aa u;have bu:=aB T u;have Eo:=aq6 (Ra (num:=k) (den:=j) N.out.aA (by omega) Q R);obtain⟨I,J,rfl,cy,dK,_,_⟩:=n.kE CS;have ab:=T.size;have Iy:=y.lt;have fZ:=O.lt;clear O u n z B C D E F G;obtain⟨z,B,C,D,E,F,G⟩:=y.cz7;have f1:=y.frozen 1;have f2:=y.frozen 2;have f3:=y.frozen 3;generalize U:m.t.bg*k/j=K at*;generalize V:m.t.bh*k/j=L at*;clear U V;go_upto_region 11 with fail
 have gU:aj gG 2 (((Z.setCell ⟨w.heap.size,1,none⟩ (.slice I (nQ m.t.aA k j).length J)).setCell ⟨w.heap.size,2,none⟩ (.int .i64 K)).setCell ⟨w.heap.size,3,none⟩ (.int .i64 L)) _ I (nQ m.t.aA k j):=cy.GS (bk (p:=⟨w.heap.size,3,none⟩) (bk (p:=⟨w.heap.size,2,none⟩) (bk (p:=⟨w.heap.size,1,none⟩) (ft _ _) (.inl rfl) _) (.inl rfl) _) (.inl rfl) _) (fun a ha=>by have:=dK a ha;show a.block≠w.heap.size;omega);have X:=((y.ez 1 (.slice I (nQ m.t.aA k j).length J)).ez 2 (.int .i64 K)).ez 3 (.int .i64 L);have eO:=iJ (iJ (iJ bu (aq7 w.heap.size) 1 (.slice I (nQ m.t.aA k j).length J)) (aq7 w.heap.size) 2 (.int .i64 K)) (aq7 w.heap.size) 3 (.int .i64 L);generalize ((Z.setCell ⟨w.heap.size,1,none⟩ (.slice I (nQ m.t.aA k j).length J)).setCell ⟨w.heap.size,2,none⟩ (.int .i64 K)).setCell ⟨w.heap.size,3,none⟩ (.int .i64 L)=W4 at gU X eO|-;simp only[ary,arx,arv]at X;clear y cy z B C D E F G;obtain⟨z,B,C,D,E,F,G⟩:=X.cz7;go_wp2_with fail;refine(af5 m.t m.t.method I m.Ar J m.t.rows.length m.cr (nQ m.t.aA k j) K L l W4 gU Eo.out N.out q0 q1 q2 q3 i0 i1).mono ?_;rintro e w5 ⟨rfl,aP⟩;rw[<-HD.out];go_wp2;go_ret2;exact⟨rfl,aB eO aP⟩
theorem anY(m:iD)(j k l n:Int)(w:World)(h:m.In w)(p:nP m.t)(z:1<=j)(B:j<=53)(C:1<=k)(D:k<=j)(E:0<=l)(F:l<=1000000000000)(J:-1000000000000<=n)(K:n<=1000000000000):
  Calls prog 168 #[.agg #[.int .i64 m.t.method,.slice m.Ab m.t.aA.length m.cb,.int .i64 m.t.bg,.int .i64 m.t.bh,.int .i64 m.t.unit,.int .i64 m.t.mode,.slice m.Ar m.t.rows.length m.cr],.int .i64 j,.int .i64 k,.int .i64 l,.int .i64 n] w fun e w'=>e=.returned (.tuple #[.int .i64 (mV m.t j k l-n),.int .i64 0])/\Below w.heap.size w w':=by
 obtain⟨d0,d1⟩:=af7 p z B C D E F;have L:=aq6 p;clear p;have G:=ah.new w 41 #[.int .i64 m.t.method,.slice m.Ab m.t.aA.length m.cb,.int .i64 m.t.bg,.int .i64 m.t.bh,.int .i64 m.t.unit,.int .i64 m.t.mode,.slice m.Ar m.t.rows.length m.cr];have r:=bF w (.cells #[.int .i64 m.t.method,.slice m.Ab m.t.aA.length m.cb,.int .i64 m.t.bg,.int .i64 m.t.bh,.int .i64 m.t.unit,.int .i64 m.t.mode,.slice m.Ar m.t.rows.length m.cr] 41);go_enter func168,ntmps168;go_upto_region 1 with fail
 generalize w.alloc (Obj.cells _ _)=W at G r|-;obtain⟨M,N,O,P,Q,R,S⟩:=G.cz7;go_wp2_with fail;refine(anX m j k l W (h.aa r) L.out z B C D E F).mono ?_;rintro e T ⟨rfl,u⟩;generalize I:mV m.t j k l=U at*;have y:=aq6 I;clear I;go_wp2_with fail;refine(af3 _ _ J K).mono ?_;rintro e w' ⟨rfl,rfl⟩;go_wp2;go_ret2;exact⟨by rw[y.out];rfl,aB r u⟩
theorem anZ(m:iD)(j n p r l:Int)(C At:Option Addr)(D E lt F:Nat)(w:World)(h:m.In w)(K:nP m.t)(T:1<=j)(U:j<=53)(p0:0<=n)(p1:n<j)(O:0<=l)(P:l<=1000000000)(y0:0<=p)(y1:p<=999000000000)(V:-1000000000000<=r)(X:r<=1000000000000):
  Calls prog 108 #[.agg #[.int .i64 m.t.method,.slice m.Ab m.t.aA.length m.cb,.int .i64 m.t.bg,.int .i64 m.t.bh,.int .i64 m.t.unit,.int .i64 m.t.mode,.slice m.Ar m.t.rows.length m.cr],.int .i64 j,.agg #[.int .i64 n,.int .i64 p,.int .i64 r,.slice C D E,.slice At lt F],.int .i64 l] w fun e w'=>e=.returned (.tuple #[.int .i64 (ky m.t j n p r l),.int .i64 0])/\Below w.heap.size w w':=by
 have L:=(ah.new w 41 #[.int .i64 m.t.method,.slice m.Ab m.t.aA.length m.cb,.int .i64 m.t.bg,.int .i64 m.t.bh,.int .i64 m.t.unit,.int .i64 m.t.mode,.slice m.Ar m.t.rows.length m.cr]).alloc (.cells #[.int .i64 n,.int .i64 p,.int .i64 r,.slice C D E,.slice At lt F] 53);have M:=ah.new (w.alloc (.cells #[.int .i64 m.t.method,.slice m.Ab m.t.aA.length m.cb,.int .i64 m.t.bg,.int .i64 m.t.bh,.int .i64 m.t.unit,.int .i64 m.t.mode,.slice m.Ar m.t.rows.length m.cr] 41)) 53 #[.int .i64 n,.int .i64 p,.int .i64 r,.slice C D E,.slice At lt F];have Q:=ew (bF w (.cells #[.int .i64 m.t.method,.slice m.Ab m.t.aA.length m.cb,.int .i64 m.t.bg,.int .i64 m.t.bh,.int .i64 m.t.unit,.int .i64 m.t.mode,.slice m.Ar m.t.rows.length m.cr] 41)) (.cells #[.int .i64 n,.int .i64 p,.int .i64 r,.slice C D E,.slice At lt F] 53);rw[arn]at M;have N:=aq6 K;have z:Hid (ky m.t j n p r l=if m.t.method=1 then Jf m.t.rows l else if m.t.method=2 then Fb m.t l j else mV m.t j (n+1) (p+l)-r):=rfl;have ab:=K.m0;have ad:=K.m1;clear K;go_enter func108,ntmps108;go_upto_region 1 with fail
 generalize (w.alloc (Obj.cells #[.int .i64 m.t.method,.slice m.Ab m.t.aA.length m.cb,.int .i64 m.t.bg,.int .i64 m.t.bh,.int .i64 m.t.unit,.int .i64 m.t.mode,.slice m.Ar m.t.rows.length m.cr] 41)).alloc (Obj.cells #[.int .i64 n,.int .i64 p,.int .i64 r,.slice C D E,.slice At lt F] 53)=W at L M Q|-;obtain⟨G,Y,Z,z3,z4,z5,z6⟩:=L.cz7;go_wp2_with fail;refine(Wp m W (h.aa Q) N.out).mono ?_;rintro e R ⟨rfl,y⟩;have aD:=L.aa y;have iV:=M.aa y;have B:=aB Q y;clear L M y G Y Z z3 z4 z5 z6;obtain⟨G,Y,Z,z3,z4,z5,z6⟩:=aD.cz7;obtain⟨y0,y1,y2,y3,y4⟩:=iV.cz5;go_wp2_with fail;refine(Jk _ _ O P).mono ?_;rintro e w' ⟨rfl,rfl⟩;go_wp2_with fail;refine(af3 _ _ V X).mono ?_;rintro e w' ⟨rfl,rfl⟩;have S:m.t.method=1\/m.t.method=2\/m.t.method=3:=by omega
 rcases S with hm|hm|hm
 ·have HR:=aq6 (N.out.rows hm);have I:Hid (ky m.t j n p r l=Jf m.t.rows l):=by rw[Hid,z.out,aq9 hm]
  rw[hm]at G;clear z hm;go_wp2_with fail;refine(anV m.Ar m.cr m.t.rows l R (h.rows.aa B) HR.out O P).mono ?_;rintro e w2 ⟨rfl,u⟩;go_wp2;go_ret2;exact⟨by rw[I.out];rfl,aB B u⟩
 ·have I:Hid (ky m.t j n p r l=Fb m.t l j):=by rw[Hid,z.out,aq8 (by omega),aq9 hm]
  have J:=aq6 (anW m l j R (h.aa B) N.out O P T U);rw[hm]at G J;clear z hm;go_wp2_with fail;refine arf J.out ?_;rintro e w2 ⟨rfl,u⟩;go_wp2;go_ret2;exact⟨by rw[I.out];rfl,aB B u⟩
 ·have I:Hid (ky m.t j n p r l=mV m.t j (n+1) (p+l)-r):=by rw[Hid,z.out,aq8 (by omega),aq8 (by omega)]
  have J:=aq6 (anY m j (n+1) (p+l) r R (h.aa B) N.out T U (by omega) (by omega) (by omega) (by omega) V X);rw[hm]at G J;clear z hm;go_wp2_with fail;refine arf J.out ?_;rintro e w2 ⟨rfl,u⟩;go_wp2;go_ret2;exact⟨by rw[I.out];rfl,aB B u⟩
theorem an2{C:World}{g:Nat}{c:mz}{s:jn}{Q:List dE}{w:World}(h:dF C g c s Q w)(hr:c.r.In C)(B:Option Addr)(bc:Nat)(l:List Elem)(PM:s.bv=.slice B l.length bc)(hL:mQ aN 2 w g s.lv B l)
  (Cp:Q.length<=1000) (av:l.length<=128) (N:∀x∈l,0<=x.amount/\x.amount<=1000000000) (hT:nP c.r.tm.t) (n0:1<=c.r.count) (n1:c.r.count<=53) (p0:0<=c.y.ay) (p1:c.y.ay<c.r.count)
  (y0:0<=c.y.aw) (y1:c.y.aw<=999000000000) (u0:-1000000000000<=c.y.aO) (u1:c.y.aO<=1000000000000) (t0:-1000000000<=s.b.t) (t1:s.b.t<=1000000000) (r0:0<=s.px) (r1:s.px<=12000000000)
  (l0:-100000000000<=s.left) (l1:s.left<=100000000000) (j au:Int) (FN:j=max (s.b.t-s.px-aQ l) 0) (G:au=ky c.r.tm.t c.r.count c.y.ay c.y.aw c.y.aO j):
  Calls prog 55 #[.pointer (some ⟨g,0,none⟩)] w fun e w'=>Below C.heap.size C w'/\((cx au=false/\e=.returned (.int .i64 4))\/(cx au=true/\e=.returned (.int .i64 0)/\
   ∃v',dF C g c {s with aw:=j,au:=au,lv:=v',left:=s.left-au} (Q++ag 6 [⟨⟨#[]⟩,au⟩]) w'/\Mv g s.lv w v' w')):=by
 have R:=aq6 N;have S:Hid (∀k,k<=l.length->0<=aQ (l.take k)/\aQ (l.take k)<=128000000000):=fun k hk=>by have:=NB (l.take k) 1000000000 (fun x N=>R.out x (arD N));rw[ar7]at this;omega
 have HI:=aq6 h;have HL:=aq6 hL;have QF:Hid (0<=j->j<=1000000000->∀W,Below C.heap.size C W->Calls prog 108 #[.agg #[.int .i64 c.r.tm.t.method,.slice c.r.tm.Ab c.r.tm.t.aA.length c.r.tm.cb,.int .i64 c.r.tm.t.bg,.int .i64 c.r.tm.t.bh,.int .i64 c.r.tm.t.unit,.int .i64 c.r.tm.t.mode,.slice c.r.tm.Ar c.r.tm.t.rows.length c.r.tm.cr],.int .i64 c.r.count,.agg #[.int .i64 c.y.ay,.int .i64 c.y.aw,.int .i64 c.y.aO,.slice c.y.Ai c.y.ins.length c.y.ci,.slice c.y.At c.y.taken.length c.y.ct],.int .i64 j] W fun e w'=>e=.returned (.tuple #[.int .i64 au,.int .i64 0])/\Below W.heap.size W w'):=fun T U W hb=>by rw[G];exact anZ c.r.tm c.r.count c.y.ay c.y.aw c.y.aO j c.y.Ai c.y.At c.y.ins.length c.y.ci c.y.taken.length c.y.ct W (hr.aa hb).tm hT n0 n1 p0 p1 T U y0 y1 u0 u1
 have SH:w.cell? ⟨g,29,none⟩=some (.int .i64 s.b.t):=h.blk.cell 29;have PO:w.cell? ⟨g,34,none⟩=some (.slice B l.length bc):=by have:w.cell? ⟨g,34,none⟩=some s.bv:=h.blk.cell 34;rw[this,PM]
 have SI:w.cell? ⟨g,39,none⟩=some (.int .i64 s.px):=h.blk.cell 39;have D:=h.lt;have I:=aq6 FN;clear h hr hL N hT PM G FN y0 y1 u0 u1 n0 n1 p0 p1;go_enter func55,ntmps55;have V:=Bw.cell (w:=w) (a:=⟨g,29,none⟩) (by exact D) SH;have X:=Bw.cell (w:=w) (a:=⟨g,39,none⟩) (by exact D) SI;go_upto_region 1 with fail
 refine pE (by kernel_rfl) (by kernel_rfl) ?_
 repeat(go_big_quiet_step(fail))
 refine wpQuiet_nil ?_;intro W2 E;obtain⟨⟨O,J⟩,u⟩:=E;subst u;have Xv:=(J.cell (p:=⟨g,34,none⟩) (by exact D)).trans PO;clear SH PO SI V X;go_wp2_with fail
 go_loopw [3,23] (fun ic i wr=>∃k:Nat,k<=l.length/\i=.int .i64 k/\ic=.int .i64 (s.b.t-s.px-aQ (l.take k))/\Below w.heap.size w wr) (fun _ i _=>l.length-(intOf i).toNat)
 case atStart=>exact⟨0,by omega,rfl,by simp[aQ],J⟩
 case round=>
  rename World=>wr
  clear Xv;obtain⟨k,hk,rfl,rfl,z⟩:=hrel;by_cases Y:k<l.length
  ·obtain⟨b,az,Cz,kW,Z⟩:=(HL.out.sl.aa z).at_ Y;have c0:=Z 0 _ rfl;have c1:=Z 1 _ rfl;simp only[ara]at c0;rw[Cz];have HS:Hid (aQ (l.take (k+1))=aQ (l.take k)+l[k].amount):=X6 l k Y;have gK:(k:Int)<(l.length:Int):=(by omega);obtain⟨x0,x1⟩:=R.out _ (arc Y);obtain⟨s0,s1⟩:=S.out k (by omega);have cT:=bF wr (.cells #[.string l[k].code,.int .i64 l[k].amount] 69);clear Z;generalize l[k]=x at*;generalize aQ (l.take k)=q at*;have ab:=aB z cT;go_wp2;go_roundw
   case rel=>
    have ax:∃k':Nat,k'<=l.length/\Value.int .i64 ((k:Int)+1)=.int .i64 k'/\Value.int .i64 (s.b.t-s.px-q-x.amount)=.int .i64 (s.b.t-s.px-aQ (l.take k'))/\Below w.heap.size w (wr.alloc (.cells #[.string x.code,.int .i64 x.amount] 69)):=⟨k+1,by omega,by go_num,by rw[HS.out,<-Int.sub_sub],ab⟩
    first|exact ax|((repeat apply Exists.intro);exact⟨ax,rfl⟩)
   case measure=>simp[intOf];omega
  ·obtain rfl:k=l.length:=by omega
   have P:=HI.out.aa z;have hm:=Mv.aU (g:=g) (v:=s.lv) z;obtain⟨s0,s1⟩:=S.out l.length (aq7 _);rw[arW]at s0 s1|-;have T:0<=j:=(by have:=I.out;omega);have U:j<=1000000000:=(by have:=I.out;omega);have Di:=aq6 (QF.out T U);have ad:wr.cell? ⟨g,40,none⟩=some (.int .i64 s.aw):=P.blk.cell 40;have f40:=P.blk.frozen 40;clear QF HL R S z;go_upto_region 8 with fail
   first|rw[show(if s.b.t-s.px-aQ l<0 then 0 else s.b.t-s.px-aQ l)=j by rw[I.out];split<;>omega]|rw[show max (s.b.t-s.px-aQ l) 0=j from I.out.symm]
   have F:=P.amr j;have jO:=hm.trans (Mv.set 40 (.int .i64 j));generalize wr.setCell ⟨g,40,none⟩ (.int .i64 j)=W8 at F jO|-;clear P hm ad f40 HI I;have CI:=F.lt;have n:∀i v,(ny c {s with aw:=j})[i]?=some v->∀p:Bw W8,p.w'.cell? ⟨g,i,none⟩=some v:=fun i v hv p=>Bw.cell (w:=W8) (a:=⟨g,i,none⟩) (by exact CI) ((F.blk.cell i).trans hv) p;have e2:=n 2 (.int .i64 c.r.tm.t.method) rfl;have e3:=n 3 (.slice c.r.tm.Ab c.r.tm.t.aA.length c.r.tm.cb) rfl;have e4:=n 4 (.int .i64 c.r.tm.t.bg) rfl;have e5:=n 5 (.int .i64 c.r.tm.t.bh) rfl;have e6:=n 6 (.int .i64 c.r.tm.t.unit) rfl;have e7:=n 7 (.int .i64 c.r.tm.t.mode) rfl;have e8:=n 8 (.slice c.r.tm.Ar c.r.tm.t.rows.length c.r.tm.cr) rfl;have e9:=n 9 (.int .i64 c.r.count) rfl;have af:=n 20 (.int .i64 c.y.ay) rfl;have ai:=n 21 (.int .i64 c.y.aw) rfl;have al:=n 22 (.int .i64 c.y.aO) rfl;have am:=n 23 (.slice c.y.Ai c.y.ins.length c.y.ci) rfl;have an:=n 24 (.slice c.y.At c.y.taken.length c.y.ct) rfl;have ao:=n 40 (.int .i64 j) rfl;clear n;refine pE (by kernel_rfl) (by kernel_rfl) ?_
   repeat(go_big_quiet_step(exact Bw.call _ (Di.out _ (aB F.aU (Bw.h _)))))
   refine wpQuiet_nil ?_;intro O E;obtain⟨⟨O,K⟩,u⟩:=E;subst u;have L:=F.aa K;have iI:=jO.trans (Mv.aU K);clear e2 e3 e4 e5 e6 e7 e8 e9 af ai al am an ao F jO Di CI;have ae:=L.aU;by_cases a0:-1000000000<=au;rotate_left
   ·have M:Hid (cx au=false):=(by simp[Hid,cx];omega);go_wp2;go_ret;exact⟨ae,.inl ⟨M.out,rfl⟩⟩
   by_cases a1:au<=1000000000;rotate_left
   ·have M:Hid (cx au=false):=(by simp[Hid,cx];omega);go_wp2;go_ret;exact⟨ae,.inl ⟨M.out,rfl⟩⟩
   have M:Hid (cx au=true):=(by simp[Hid,cx];omega);have ap:O.cell? ⟨g,41,none⟩=some (.int .i64 s.au):=L.blk.cell 41;have f41:=L.blk.frozen 41;go_upto_region 14 with fail
   have lD:=L.ams au;have kG:=iI.trans (Mv.set 41 (.int .i64 au));generalize O.setCell ⟨g,41,none⟩ (.int .i64 au)=aD at lD kG|-;clear L iI ap f41 ae;go_wp2_with fail;refine(JH lD 6 ⟨#[]⟩ au (by omega)).mono ?_;rintro e w5 ⟨rfl,v5,zM,lU⟩;have zI:=kG.trans lU;have aE:w5.cell? ⟨g,33,none⟩=some (.int .i64 s.left):=zM.blk.cell 33;have f33:=zM.blk.frozen 33;clear lD kG lU;go_wp2;go_ret;have oG:=zM.T8 (s.left-au);have nD:=zI.trans (Mv.set 33 (.int .i64 (s.left-au)));exact⟨oG.aU,.inr ⟨M.out,rfl,v5,oG,nD⟩⟩
