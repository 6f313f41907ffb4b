/- Conditions: as stated. -/
import Derived.Test.YtlhkojcmcmkmaaaGreatCP29b
set_option maxRecDepth 100000
set_option maxHeartbeats 4000000
namespace Go.Proofs.YtlhkojcmcmkmaaaGreat
open Go.Proofs.Tryz
open Go.RowKit
theorem JU(n:Int)(w:World)(j:0<=n)(l:n<=1000000000):Calls prog 164 #[.int .i64 n] w fun e w'=>e=.returned (.bool true)/\w=w':=by go_enter func164,ntmps164;go_wp2;go_ret;exact⟨rfl,rfl⟩
theorem ahx(n:Int)(w:World)(j:-1000000000000<=n)(l:n<=1000000000000):Calls prog 165 #[.int .i64 n] w fun e w'=>e=.returned (.bool true)/\w=w':=by go_enter func165,ntmps165;go_wp2;go_ret;exact⟨rfl,rfl⟩
theorem ahy(A:Option Addr)(E:Nat)(t:List nd)(w:World)(h:ai oO 2 w w.heap.size A t)(p:NG t):
  Calls prog 192 #[.slice A t.length E] w fun e w'=>e=.returned (.bool true)/\Below w.heap.size w w':=by
 have D:=atM p;have r:=p.ne;have U:=p.len;have F:=p.zero;rw[IL r]at F;obtain⟨b,off,rfl,V,I⟩:=h.at_ r;have d0:=I 0 _ rfl;simp only[atQ,auu]at d0;rw[F]at d0;have X:(0:Int)<(t.length:Int):=by omega
 clear F I p;go_enter func192,ntmps192;go_wp2
 go_loopw [22] (fun i wr=>∃k:Nat,k<=t.length/\i=.int .i64 k/\Below w.heap.size w wr) (fun i _=>t.length-(intOf i).toNat)
 case atStart=>exact⟨0,by omega,rfl,atS _ _⟩
 case round=>
  obtain⟨k,Y,rfl,u⟩:=hrel;have J:=u.size;by_cases j:k<t.length
  ·have K:ai oO 2 wr w.heap.size (some ⟨b,off,none⟩) t:=h.below u;have y:=D.out.hi k j;have l:=D.out.t0 k j;have G:=D.out.t1 k j;rw[IL j]at y l G;obtain⟨Z,Du,z,N,n⟩:=K.at_ j;injection z with z
   injection z with z O
   subst z O;have L:=n 0 _ rfl;have P:=n 1 _ rfl;simp only[atQ]at L;have fL:(k:Int)<(t.length:Int):=(by omega);have g1:decide (1000000000<t[k].cg)=false:=(by simp;omega);have eJ:b<wr.heap.size:=(by omega);clear n;rcases k with _|m
   ·have fK:(0:Int)<(t.length:Int):=(by omega);simp only[auu,atQ]at L P;go_wp2;go_quiet((go_at_call 164;exact Calls.quiet_of_same ((JU _ _ l G).mono fun e w' ⟨y,l⟩=>⟨y,l.symm⟩)));go_wp2;go_roundw
    case rel=>exact⟨1,by omega,by go_num,below_drewN (u.alloc J _) _⟩
    case measure=>simp[intOf];omega
   ·have M:m<t.length:=(by omega);have Q:=D.out.jr m j;rw[IL M,IL j]at Q;obtain⟨b2,Ep,B,R,C⟩:=K.at_ M;injection B with B
    injection B with B S
    subst B S;have T:=C 0 _ rfl;simp only[atQ]at T;clear C;have g0:decide (t[m+1].cg<=t[m].cg)=false:=(by simp;omega);have qh:(m:Int)<(t.length:Int):=(by omega);have Nf:(m:Int)+1<(t.length:Int):=(by omega);have hp:decide ((0:Int)<(m:Int)+1)=true:=(by rw[auc];omega);go_wp2;go_quiet((go_at_call 164;exact Calls.quiet_of_same ((JU _ _ l G).mono fun e w' ⟨y,l⟩=>⟨y,l.symm⟩)));go_wp2;go_roundw
    case rel=>exact⟨m+2,by omega,by go_num,below_drewN (u.alloc J _) _⟩
    case measure=>simp[intOf];omega
  ·go_wp2;go_ret;exact⟨rfl,u⟩
theorem XT(m:iU)(w:World)(h:m.In w)(hT:pP m.t):Calls prog 155 #[.agg #[.int .i64 m.t.method,.slice m.Ab m.t.aR.length m.cb,.int .i64 m.t.bJ,.int .i64 m.t.bK,.int .i64 m.t.unit,.int .i64 m.t.mode,.slice m.Ar m.t.rows.length m.cr]] w fun e w'=>e=.returned (.bool true)/\Below w.heap.size w w':=by
 obtain⟨⟨method,M,al,cr,p,r,n⟩,N,O,P,Q⟩:=m;obtain⟨R,hr⟩:=h;obtain⟨m0,m1,y,S,T,U,V,u0,u1,Ha,Hb,X,j⟩:=hT;simp only at R hr m0 m1 y S T U V u0 u1 Ha Hb X j|-;have JL:=atM y;have Nv:=atM X;have fl:=atM j;clear y X j;have K:=ah.new w 41 #[.int .i64 method,.slice N M.length O,.int .i64 al,.int .i64 cr,.int .i64 p,.int .i64 r,.slice P n.length Q];have L:=bC w (.cells #[.int .i64 method,.slice N M.length O,.int .i64 al,.int .i64 cr,.int .i64 p,.int .i64 r,.slice P n.length Q] 41);have gG:method=1\/method=2\/method=3:=by omega
 go_enter func155,ntmps155;go_upto_region 1 with fail
 generalize w.alloc (Obj.cells _ _)=W at K L|-;rcases gG with rfl|rfl|rfl
 ·obtain⟨z,B,C,D,E,F,G⟩:=K.cz7;go_wp2_with fail;refine(ahy P Q n W (hr.aa L) (Nv.out trivial)).mono ?_;rintro e w1 ⟨rfl,I⟩;have u:=K.aa I;have J:=aA L I;clear K L I z B C D E F G;obtain⟨z,B,C,D,E,F,G⟩:=u.cz7;go_wp2_with fail;refine(XP N O M _ (R.aa J) JL.out).mono ?_;rintro e w2 ⟨rfl,l⟩;have Y:=u.aa l;have Z:=aA J l;clear u J l z B C D E F G;obtain⟨z,B,C,D,E,F,G⟩:=Y.cz7;go_wp2_with fail;refine(JU _ _ S T).mono ?_;rintro e w' ⟨rfl,rfl⟩;go_wp2_with fail;refine(JU _ _ U V).mono ?_;rintro e w' ⟨rfl,rfl⟩;go_wp2;go_ret;exact⟨rfl,Z⟩
 all_goals have Fz:=fl.out (by omega);subst Fz;have u:=K;have J:=L;clear K L;simp only[aug]at u;obtain⟨z,B,C,D,E,F,G⟩:=u.cz7;go_wp2_with fail;refine(XP N O M _ (R.aa J) JL.out).mono ?_;rintro e w2 ⟨rfl,l⟩;have Y:=u.aa l;have Z:=aA J l;clear u J l z B C D E F G;obtain⟨z,B,C,D,E,F,G⟩:=Y.cz7;go_wp2_with fail;refine(JU _ _ S T).mono ?_;rintro e w' ⟨rfl,rfl⟩;go_wp2_with fail;refine(JU _ _ U V).mono ?_;rintro e w' ⟨rfl,rfl⟩;go_wp2;go_ret;exact⟨rfl,Z⟩
theorem ahz(t:Ek)(C:Int)(A D:Option Addr)(p E F:Nat)(l:List dv)(j r inc:Int)(w:World)(h:ai ik 2 w w.heap.size A l)(I:ji l)(u:pP t)(X:0<=j)(Y:j<=1000000000)(Z:0<=r)(c1:r<=1000000000)(i0:0<=inc)(i1:inc<=1000000000000):
  Calls prog 205 #[.agg #[.int .i64 C,.slice A l.length p,.int .i64 j,.int .i64 r,.int .i64 t.unit,.int .i64 t.mode,.slice D E F],.int .i64 inc] w fun e w'=>e=.returned (.tuple #[.int .i64 (Cm t l j r inc),.int .i64 0])/\Below w.heap.size w w':=by
 have J:Hid (Cm t l j r inc=max (EJ l (max (inc-j) 0) t.unit t.mode-r) 0):=rfl;obtain⟨t0,t1⟩:=abr (mode:=t.mode) (inc:=max (inc-j) 0) (unit:=t.unit) I (by omega) u.u0;have u0:=u.u0;have u1:=u.u1;have R:=u.Ha;have S:=u.Hb;clear u;have z:=ah.new w 41 #[.int .i64 C,.slice A l.length p,.int .i64 j,.int .i64 r,.int .i64 t.unit,.int .i64 t.mode,.slice D E F];have G:=bC w (.cells #[.int .i64 C,.slice A l.length p,.int .i64 j,.int .i64 r,.int .i64 t.unit,.int .i64 t.mode,.slice D E F] 41);rcases(show max (inc-j) 0=inc-j/\0<=inc-j\/max (inc-j) 0=0/\inc-j<0 by omega)with⟨B,T⟩|⟨B,T⟩
 all_goals
  rw[B]at J t0 t1;have U:=atM B;clear B;go_enter func205,ntmps205;go_upto_region 1 with fail
  generalize w.alloc (Obj.cells _ _)=W at z G|-;obtain⟨K,L,M,N,O,P,Q⟩:=z.cz7;go_wp2_with fail
  try rw[U.out]
  refine(apc A p l _ _ _ W (h.aa G) I (by omega) (by omega) u0 (by omega) R S).mono ?_;rintro e w1 ⟨rfl,y⟩;have V:=z.aa y;clear z K L M N O P Q;obtain⟨K,L,M,N,O,P,Q⟩:=V.cz7;generalize EJ l _ t.unit t.mode=tn at*;go_wp2
  all_goals go_ret2;exact⟨by rw[J.out];first|rfl|(refine congrArg (fun n:Int=>Ending.returned (.tuple #[.int .i64 n,.int .i64 0])) ?_;omega),aA G y⟩
theorem apC(A:Option Addr)(l:Nat)(t:List nd)(j:Int)(w:World)(h:ai oO 2 w w.heap.size A t)(D:NG t)(I:0<=j)(J:j<=1000000000):
  Calls prog 166 #[.slice A t.length l,.int .i64 j] w fun e w'=>e=.returned (.tuple #[.int .i64 (JR t j),.int .i64 0])/\Below w.heap.size w w':=by
 have N:=D.len;have E:=atM (ahy A l t w h D);go_enter func166,ntmps166;go_wp2_with fail;refine atV E.out ?_;rintro e y ⟨rfl,p⟩;have z:=h.aa p;clear E h;go_wp2_with fail;refine(JU _ _ I J).mono ?_;rintro e w' ⟨rfl,rfl⟩;go_wp2
 go_loopw [6,17] (fun n i wr=>∃k:Nat,k<=t.length/\i=.int .i64 k/\n=.int .i64 (DY t j k)/\Below y.heap.size y wr) (fun _ i _=>t.length-(intOf i).toNat)
 case atStart=>exact⟨0,by omega,rfl,rfl,atS _ _⟩
 case round=>
  obtain⟨k,O,rfl,rfl,r⟩:=hrel;have F:=r.size;by_cases u:k<t.length
  ·obtain⟨b,off,rfl,P,B⟩:=(z.aa r).at_ u;have K:=B 0 _ rfl;have Q:=B 1 _ rfl;simp only[atQ]at K;have C:Hid (DY t j (k+1)=if(t.getD k mE).cg<=j then(t.getD k mE).aw else DY t j k):=rfl;rw[IL u]at C;clear B;by_cases L:t[k].cg<=j
   ·go_wp2;go_roundw
    case rel=>exact⟨k+1,by omega,by go_num,by rw[C.out,atP L],r.alloc F _⟩
    case measure=>simp[intOf];omega
   ·go_wp2;go_roundw
    case rel=>
     have G:∃k':Nat,k'<=t.length/\Value.int .i64 ((k:Int)+1)=.int .i64 k'/\Value.int .i64 (DY t j k)=.int .i64 (DY t j k')/\Below y.heap.size y (wr.alloc (.cells #[.int .i64 t[k].cg,.int .i64 t[k].aw] 93)):=⟨k+1,by omega,by go_num,by rw[C.out,atO (by omega)],r.alloc F _⟩
     first|exact G|((repeat apply Exists.intro);exact⟨G,rfl⟩)
    case measure=>simp[intOf];omega
  ·obtain rfl:k=t.length:=by omega
   have M:Hid (JR t j=DY t j t.length):=rfl;go_wp2;go_ret2;exact⟨by rw[M.out];rfl,aA p r⟩
theorem apD(m:iU)(l j:Int)(w:World)(h:m.In w)(y:pP m.t)(D:0<=l)(E:l<=1000000000)(O:1<=j)(P:j<=53):
  Calls prog 167 #[.agg #[.int .i64 m.t.method,.slice m.Ab m.t.aR.length m.cb,.int .i64 m.t.bJ,.int .i64 m.t.bK,.int .i64 m.t.unit,.int .i64 m.t.mode,.slice m.Ar m.t.rows.length m.cr],.int .i64 l,.int .i64 j] w fun e w'=>e=.returned (.tuple #[.int .i64 (FU m.t l j),.int .i64 0])/\Below w.heap.size w w':=by
 obtain⟨⟨Q,T⟩,⟨t0,t1⟩,U,f0,f1⟩:=ahA y D E O P;have V:(j==0)=false:=by rw[auj];omega
 have u:=ah.new w 41 #[.int .i64 m.t.method,.slice m.Ab m.t.aR.length m.cb,.int .i64 m.t.bJ,.int .i64 m.t.bK,.int .i64 m.t.unit,.int .i64 m.t.mode,.slice m.Ar m.t.rows.length m.cr];have z:=bC w (.cells #[.int .i64 m.t.method,.slice m.Ab m.t.aR.length m.cb,.int .i64 m.t.bJ,.int .i64 m.t.bK,.int .i64 m.t.unit,.int .i64 m.t.mode,.slice m.Ar m.t.rows.length m.cr] 41);have n:=atM y;clear y;go_enter func167,ntmps167;go_upto_region 1 with fail
 generalize w.alloc (Obj.cells _ _)=W at u z|-;obtain⟨F,G,I,J,K,L,M⟩:=u.cz7;go_wp2_with fail;refine(XT m W (h.aa z) n.out).mono ?_;rintro e R ⟨rfl,p⟩;have S:=u.aa p;have N:=aA z p;clear u p F G I J K L M;obtain⟨F,G,I,J,K,L,M⟩:=S.cz7;go_wp2_with fail;refine(JU _ _ D E).mono ?_;rintro e w' ⟨rfl,rfl⟩;go_wp2_with fail;refine(ahz m.t m.t.method m.Ab m.Ar m.cb m.t.rows.length m.cr m.t.aR m.t.bJ m.t.bK (l*j) R (h.aR.aa N) n.out.aR n.out n.out.a0 n.out.a1 n.out.c0 n.out.c1 Q (by omega)).mono ?_;rintro e X ⟨rfl,B⟩;generalize Cm m.t m.t.aR m.t.bJ m.t.bK (l*j)=Y at*;generalize r:FU m.t l j=Z at*;have C:=atM r;clear r;go_wp2;go_ret2;exact⟨by rw[C.out];rfl,aA N B⟩
theorem apE(m:iU)(j k l:Int)(w:World)(h:m.In w)(P:pP m.t)(Q:1<=j)(Y:j<=53)(k0:1<=k)(R:k<=j)(i0:0<=l)(i1:l<=1000000000000):
  Calls prog 206 #[.agg #[.int .i64 m.t.method,.slice m.Ab m.t.aR.length m.cb,.int .i64 m.t.bJ,.int .i64 m.t.bK,.int .i64 m.t.unit,.int .i64 m.t.mode,.slice m.Ar m.t.rows.length m.cr],.int .i64 j,.int .i64 k,.int .i64 l] w fun e w'=>e=.returned (.tuple #[.int .i64 (BN m.t j k l),.int .i64 0])/\Below w.heap.size w w':=by
 obtain⟨⟨⟨p0,p1⟩,p2,p3⟩,⟨e1,e2⟩,⟨q0,q1⟩,q2,q3⟩:=ab5 P Q Y k0 R;have eZ:(j==0)=false:=by rw[auj];omega
 have M:=ah.new w 41 #[.int .i64 m.t.method,.slice m.Ab m.t.aR.length m.cb,.int .i64 m.t.bJ,.int .i64 m.t.bK,.int .i64 m.t.unit,.int .i64 m.t.mode,.slice m.Ar m.t.rows.length m.cr];have S:=bC w (.cells #[.int .i64 m.t.method,.slice m.Ab m.t.aR.length m.cb,.int .i64 m.t.bJ,.int .i64 m.t.bK,.int .i64 m.t.unit,.int .i64 m.t.mode,.slice m.Ar m.t.rows.length m.cr] 41);have HD:Hid (BN m.t j k l=Cm m.t (qx m.t.aR k j) (m.t.bJ*k/j) (m.t.bK*k/j) l):=rfl;have N:=atM P;clear P;go_enter func206,ntmps206;go_upto_region 1 with fail
 generalize w.alloc (Obj.cells _ _)=W at M S|-;obtain⟨z,B,C,D,E,F,G⟩:=M.cz7;go_wp2_with fail;refine(XT m W (h.aa S) N.out).mono ?_;rintro e w1 ⟨rfl,r⟩;have O:=M.aa r;have T:=aA S r;clear M r z B C D E F G;obtain⟨z,B,C,D,E,F,G⟩:=O.cz7;go_wp2_with fail;refine(aph m.Ab m.cb m.t.aR k j w1 (h.aR.aa T) N.out.aR (by omega) Q R Y).mono ?_;rintro e Z ⟨v2,rfl,n,u⟩;have y:=O.aa u;have bm:=aA T u;have E5:=atM (abt (num:=k) (den:=j) N.out.aR (by omega) Q R);obtain⟨I,J,rfl,cu,dE,_,_⟩:=n.kX Di;have XE:=T.size;have Fp:=y.lt;have fO:=O.lt;clear O u n z B C D E F G;obtain⟨z,B,C,D,E,F,G⟩:=y.cz7;have f1:=y.frozen 1;have f2:=y.frozen 2;have f3:=y.frozen 3;generalize U:m.t.bJ*k/j=K at*;generalize V:m.t.bK*k/j=L at*;clear U V;go_upto_region 11 with fail
 have fW:ai ik 2 (((Z.setCell ⟨w.heap.size,1,none⟩ (.slice I (qx m.t.aR k j).length J)).setCell ⟨w.heap.size,2,none⟩ (.int .i64 K)).setCell ⟨w.heap.size,3,none⟩ (.int .i64 L)) _ I (qx m.t.aR k j):=cu.pQ (bg (p:=⟨w.heap.size,3,none⟩) (bg (p:=⟨w.heap.size,2,none⟩) (bg (p:=⟨w.heap.size,1,none⟩) (dX _ _) (.inl rfl) _) (.inl rfl) _) (.inl rfl) _) (fun a ha=>by have:=dE a ha;show a.block≠w.heap.size;omega);have X:=((y.eh 1 (.slice I (qx m.t.aR k j).length J)).eh 2 (.int .i64 K)).eh 3 (.int .i64 L);have eo:=iL (iL (iL bm (atN w.heap.size) 1 (.slice I (qx m.t.aR k j).length J)) (atN w.heap.size) 2 (.int .i64 K)) (atN w.heap.size) 3 (.int .i64 L);generalize ((Z.setCell ⟨w.heap.size,1,none⟩ (.slice I (qx m.t.aR k j).length J)).setCell ⟨w.heap.size,2,none⟩ (.int .i64 K)).setCell ⟨w.heap.size,3,none⟩ (.int .i64 L)=W4 at fW X eo|-;simp only[aua,at9,at8]at X;clear y cu z B C D E F G;obtain⟨z,B,C,D,E,F,G⟩:=X.cz7;go_wp2_with fail;refine(ahz m.t m.t.method I m.Ar J m.t.rows.length m.cr (qx m.t.aR k j) K L l W4 fW E5.out N.out q0 q1 q2 q3 i0 i1).mono ?_;rintro e w5 ⟨rfl,aM⟩;rw[<-HD.out];go_wp2;go_ret2;exact⟨rfl,aA eo aM⟩
theorem apF(m:iU)(j k l n:Int)(w:World)(h:m.In w)(p:pP m.t)(y:1<=j)(z:j<=53)(B:1<=k)(C:k<=j)(D:0<=l)(E:l<=1000000000000)(I:-1000000000000<=n)(J:n<=1000000000000):
  Calls prog 168 #[.agg #[.int .i64 m.t.method,.slice m.Ab m.t.aR.length m.cb,.int .i64 m.t.bJ,.int .i64 m.t.bK,.int .i64 m.t.unit,.int .i64 m.t.mode,.slice m.Ar m.t.rows.length m.cr],.int .i64 j,.int .i64 k,.int .i64 l,.int .i64 n] w fun e w'=>e=.returned (.tuple #[.int .i64 (BN m.t j k l-n),.int .i64 0])/\Below w.heap.size w w':=by
 obtain⟨d0,d1⟩:=ahB p y z B C D E;have K:=atM p;clear p;have F:=ah.new w 41 #[.int .i64 m.t.method,.slice m.Ab m.t.aR.length m.cb,.int .i64 m.t.bJ,.int .i64 m.t.bK,.int .i64 m.t.unit,.int .i64 m.t.mode,.slice m.Ar m.t.rows.length m.cr];have r:=bC w (.cells #[.int .i64 m.t.method,.slice m.Ab m.t.aR.length m.cb,.int .i64 m.t.bJ,.int .i64 m.t.bK,.int .i64 m.t.unit,.int .i64 m.t.mode,.slice m.Ar m.t.rows.length m.cr] 41);go_enter func168,ntmps168;go_upto_region 1 with fail
 generalize w.alloc (Obj.cells _ _)=W at F r|-;obtain⟨M,N,O,P,Q,R,S⟩:=F.cz7;go_wp2_with fail;refine(apE m j k l W (h.aa r) K.out y z B C D E).mono ?_;rintro e T ⟨rfl,u⟩;generalize G:BN m.t j k l=U at*;have L:=atM G;clear G;go_wp2_with fail;refine(ahx _ _ I J).mono ?_;rintro e w' ⟨rfl,rfl⟩;go_wp2;go_ret2;exact⟨by rw[L.out];rfl,aA r u⟩
theorem apG(m:iU)(j n p r l:Int)(C At:Option Addr)(D E lt F:Nat)(w:World)(h:m.In w)(K:pP m.t)(T:1<=j)(U:j<=53)(p0:0<=n)(p1:n<j)(O:0<=l)(P:l<=1000000000)(y0:0<=p)(y1:p<=999000000000)(V:-1000000000000<=r)(X:r<=1000000000000):
  Calls prog 108 #[.agg #[.int .i64 m.t.method,.slice m.Ab m.t.aR.length m.cb,.int .i64 m.t.bJ,.int .i64 m.t.bK,.int .i64 m.t.unit,.int .i64 m.t.mode,.slice m.Ar m.t.rows.length m.cr],.int .i64 j,.agg #[.int .i64 n,.int .i64 p,.int .i64 r,.slice C D E,.slice At lt F],.int .i64 l] w fun e w'=>e=.returned (.tuple #[.int .i64 (Dv m.t j n p r l),.int .i64 0])/\Below w.heap.size w w':=by
 have L:=(ah.new w 41 #[.int .i64 m.t.method,.slice m.Ab m.t.aR.length m.cb,.int .i64 m.t.bJ,.int .i64 m.t.bK,.int .i64 m.t.unit,.int .i64 m.t.mode,.slice m.Ar m.t.rows.length m.cr]).alloc (.cells #[.int .i64 n,.int .i64 p,.int .i64 r,.slice C D E,.slice At lt F] 53);have M:=ah.new (w.alloc (.cells #[.int .i64 m.t.method,.slice m.Ab m.t.aR.length m.cb,.int .i64 m.t.bJ,.int .i64 m.t.bK,.int .i64 m.t.unit,.int .i64 m.t.mode,.slice m.Ar m.t.rows.length m.cr] 41)) 53 #[.int .i64 n,.int .i64 p,.int .i64 r,.slice C D E,.slice At lt F];have Q:=eP (bC w (.cells #[.int .i64 m.t.method,.slice m.Ab m.t.aR.length m.cb,.int .i64 m.t.bJ,.int .i64 m.t.bK,.int .i64 m.t.unit,.int .i64 m.t.mode,.slice m.Ar m.t.rows.length m.cr] 41)) (.cells #[.int .i64 n,.int .i64 p,.int .i64 r,.slice C D E,.slice At lt F] 53);rw[at2]at M;have N:=atM K;have z:Hid (Dv m.t j n p r l=if m.t.method=1 then JR m.t.rows l else if m.t.method=2 then FU m.t l j else BN m.t j (n+1) (p+l)-r):=rfl;have ab:=K.m0;have ad:=K.m1;clear K;go_enter func108,ntmps108;go_upto_region 1 with fail
 generalize (w.alloc (Obj.cells #[.int .i64 m.t.method,.slice m.Ab m.t.aR.length m.cb,.int .i64 m.t.bJ,.int .i64 m.t.bK,.int .i64 m.t.unit,.int .i64 m.t.mode,.slice m.Ar m.t.rows.length m.cr] 41)).alloc (Obj.cells #[.int .i64 n,.int .i64 p,.int .i64 r,.slice C D E,.slice At lt F] 53)=W at L M Q|-;obtain⟨G,Y,Z,z3,z4,z5,z6⟩:=L.cz7;go_wp2_with fail;refine(XT m W (h.aa Q) N.out).mono ?_;rintro e R ⟨rfl,y⟩;have aC:=L.aa y;have jq:=M.aa y;have B:=aA Q y;clear L M y G Y Z z3 z4 z5 z6;obtain⟨G,Y,Z,z3,z4,z5,z6⟩:=aC.cz7;obtain⟨y0,y1,y2,y3,y4⟩:=jq.cz5;go_wp2_with fail;refine(JU _ _ O P).mono ?_;rintro e w' ⟨rfl,rfl⟩;go_wp2_with fail;refine(ahx _ _ V X).mono ?_;rintro e w' ⟨rfl,rfl⟩;have S:m.t.method=1\/m.t.method=2\/m.t.method=3:=by omega
 rcases S with hm|hm|hm
 ·have HR:=atM (N.out.rows hm);have I:Hid (Dv m.t j n p r l=JR m.t.rows l):=by rw[Hid,z.out,atP hm]
  rw[hm]at G;clear z hm;go_wp2_with fail;refine(apC m.Ar m.cr m.t.rows l R (h.rows.aa B) HR.out O P).mono ?_;rintro e w2 ⟨rfl,u⟩;go_wp2;go_ret2;exact⟨by rw[I.out];rfl,aA B u⟩
 ·have I:Hid (Dv m.t j n p r l=FU m.t l j):=by rw[Hid,z.out,atO (by omega),atP hm]
  have J:=atM (apD m l j R (h.aa B) N.out O P T U);rw[hm]at G J;clear z hm;go_wp2_with fail;refine atV J.out ?_;rintro e w2 ⟨rfl,u⟩;go_wp2;go_ret2;exact⟨by rw[I.out];rfl,aA B u⟩
 ·have I:Hid (Dv m.t j n p r l=BN m.t j (n+1) (p+l)-r):=by rw[Hid,z.out,atO (by omega),atO (by omega)]
  have J:=atM (apF m j (n+1) (p+l) r R (h.aa B) N.out T U (by omega) (by omega) (by omega) (by omega) V X);rw[hm]at G J;clear z hm;go_wp2_with fail;refine atV J.out ?_;rintro e w2 ⟨rfl,u⟩;go_wp2;go_ret2;exact⟨by rw[I.out];rfl,aA B u⟩
