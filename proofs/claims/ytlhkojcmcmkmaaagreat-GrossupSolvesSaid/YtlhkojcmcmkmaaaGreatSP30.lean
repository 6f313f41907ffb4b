/- Conditions: as stated. -/
import Derived.Test.YtlhkojcmcmkmaaaGreatSBox
import Derived.Test.YtlhkojcmcmkmaaaGreatSP29b
set_option maxRecDepth 100000
set_option maxHeartbeats 4000000
namespace Go.Proofs.YtlhkojcmcmkmaaaGreat
open Go.Proofs.Tryz
open Go.RowKit
theorem JI(n:Int)(w:World)(j:0<=n)(l:n<=1000000000):Calls prog 164 #[.int .i64 n] w fun e w'=>e=.returned (.bool true)/\w=w':=by go_enter func164,ntmps164;go_wp2;go_ret;exact⟨rfl,rfl⟩
theorem agh(n:Int)(w:World)(j:-1000000000000<=n)(l:n<=1000000000000):Calls prog 165 #[.int .i64 n] w fun e w'=>e=.returned (.bool true)/\w=w':=by go_enter func165,ntmps165;go_wp2;go_ret;exact⟨rfl,rfl⟩
theorem agi(A:Option Addr)(E:Nat)(t:List mM)(w:World)(h:aj nO 2 w w.heap.size A t)(p:Na t):
  Calls prog 192 #[.slice A t.length E] w fun e w'=>e=.returned (.bool true)/\Below w.heap.size w w':=by
 have D:=arH p;have r:=p.ne;have V:=p.len;have F:=p.zero;rw[Ik r]at F;obtain⟨b,G,rfl,X,J⟩:=h.at_ r;have d0:=J 0 _ rfl;simp only[arL,asw]at d0;rw[F]at d0;have Y:(0:Int)<(t.length:Int):=by omega
 clear F J p;go_enter func192,ntmps192;go_wp2
 go_loopw [22] (fun i wr=>∃k:Nat,k<=t.length/\i=.int .i64 k/\Below w.heap.size w wr) (fun i _=>t.length-(intOf i).toNat)
 case atStart=>exact⟨0,by omega,rfl,arM _ _⟩
 case round=>
  obtain⟨k,Z,rfl,u⟩:=hrel;have K:=u.size;by_cases j:k<t.length
  ·have L:aj nO 2 wr w.heap.size (some ⟨b,G,none⟩) t:=h.below u;have y:=D.out.hi k j;have l:=D.out.t0 k j;have I:=D.out.t1 k j;rw[Ik j]at y l I;obtain⟨b1,Ff,z,O,n⟩:=L.at_ j;injection z with z
   injection z with z P
   subst z P;have M:=n 0 _ rfl;have Q:=n 1 _ rfl;simp only[arL]at M;have eC:(k:Int)<(t.length:Int):=(by omega);have g1:decide (1000000000<t[k].bX)=false:=(by simp;omega);have gY:b<wr.heap.size:=(by omega);clear n;rcases k with _|m
   ·have fS:(0:Int)<(t.length:Int):=(by omega);simp only[asw,arL]at M Q;go_wp2;go_quiet((go_at_call 164;exact Calls.quiet_of_same ((JI _ _ l I).mono fun e w' ⟨y,l⟩=>⟨y,l.symm⟩)));go_wp2;go_roundw
    case rel=>exact⟨1,by omega,by go_num,below_drewN (u.alloc K _) _⟩
    case measure=>simp[intOf];omega
   ·have N:m<t.length:=(by omega);have R:=D.out.lK m j;rw[Ik N,Ik j]at R;obtain⟨b2,Ge,B,S,C⟩:=L.at_ N;injection B with B
    injection B with B T
    subst B T;have U:=C 0 _ rfl;simp only[arL]at U;clear C;have g0:decide (t[m+1].bX<=t[m].bX)=false:=(by simp;omega);have Af:(m:Int)<(t.length:Int):=(by omega);have ME:(m:Int)+1<(t.length:Int):=(by omega);have hp:decide ((0:Int)<(m:Int)+1)=true:=(by rw[ar7];omega);go_wp2;go_quiet((go_at_call 164;exact Calls.quiet_of_same ((JI _ _ l I).mono fun e w' ⟨y,l⟩=>⟨y,l.symm⟩)));go_wp2;go_roundw
    case rel=>exact⟨m+2,by omega,by go_num,below_drewN (u.alloc K _) _⟩
    case measure=>simp[intOf];omega
  ·go_wp2;go_ret;exact⟨rfl,u⟩
theorem Xc(m:iP)(w:World)(h:m.In w)(hT:nK m.t):Calls prog 155 #[.agg #[.int .i64 m.t.method,.slice m.Ab m.t.au.length m.cb,.int .i64 m.t.aZ,.int .i64 m.t.bf,.int .i64 m.t.unit,.int .i64 m.t.mode,.slice m.Ar m.t.rows.length m.cr]] w fun e w'=>e=.returned (.bool true)/\Below w.heap.size w w':=by
 obtain⟨⟨method,M,Z,cr,p,r,n⟩,N,cb,O,P⟩:=m;obtain⟨Q,hr⟩:=h;obtain⟨m0,m1,y,R,S,T,U,u0,u1,Fz,FA,V,j⟩:=hT;simp only at Q hr m0 m1 y R S T U u0 u1 Fz FA V j|-;have FB:=arH y;have MW:=arH V;have gF:=arH j;clear y V j;have K:=ah.new w 41 #[.int .i64 method,.slice N M.length cb,.int .i64 Z,.int .i64 cr,.int .i64 p,.int .i64 r,.slice O n.length P];have L:=bD w (.cells #[.int .i64 method,.slice N M.length cb,.int .i64 Z,.int .i64 cr,.int .i64 p,.int .i64 r,.slice O n.length P] 41);have iW:method=1\/method=2\/method=3:=by omega
 go_enter func155,ntmps155;go_upto_region 1 with fail
 generalize w.alloc (Obj.cells _ _)=W at K L|-;rcases iW with rfl|rfl|rfl
 ·obtain⟨z,B,C,D,E,F,G⟩:=K.cz7;go_wp2_with fail;refine(agi O P n W (hr.aa L) (MW.out trivial)).mono ?_;rintro e w1 ⟨rfl,I⟩;have u:=K.aa I;have J:=aB L I;clear K L I z B C D E F G;obtain⟨z,B,C,D,E,F,G⟩:=u.cz7;go_wp2_with fail;refine(Xa N cb M _ (Q.aa J) FB.out).mono ?_;rintro e w2 ⟨rfl,l⟩;have X:=u.aa l;have Y:=aB J l;clear u J l z B C D E F G;obtain⟨z,B,C,D,E,F,G⟩:=X.cz7;go_wp2_with fail;refine(JI _ _ R S).mono ?_;rintro e w' ⟨rfl,rfl⟩;go_wp2_with fail;refine(JI _ _ T U).mono ?_;rintro e w' ⟨rfl,rfl⟩;go_wp2;go_ret;exact⟨rfl,Y⟩
 all_goals have qh:=gF.out (by omega);subst qh;have u:=K;have J:=L;clear K L;simp only[asa]at u;obtain⟨z,B,C,D,E,F,G⟩:=u.cz7;go_wp2_with fail;refine(Xa N cb M _ (Q.aa J) FB.out).mono ?_;rintro e w2 ⟨rfl,l⟩;have X:=u.aa l;have Y:=aB J l;clear u J l z B C D E F G;obtain⟨z,B,C,D,E,F,G⟩:=X.cz7;go_wp2_with fail;refine(JI _ _ R S).mono ?_;rintro e w' ⟨rfl,rfl⟩;go_wp2_with fail;refine(JI _ _ T U).mono ?_;rintro e w' ⟨rfl,rfl⟩;go_wp2;go_ret;exact⟨rfl,Y⟩
theorem agj(t:AQ)(C:Int)(A D:Option Addr)(p E F:Nat)(l:List cv)(j r inc:Int)(w:World)(h:aj gQ 2 w w.heap.size A l)(I:ig l)(u:nK t)(X:0<=j)(Y:j<=1000000000)(Z:0<=r)(c1:r<=1000000000)(i0:0<=inc)(i1:inc<=1000000000000):
  Calls prog 205 #[.agg #[.int .i64 C,.slice A l.length p,.int .i64 j,.int .i64 r,.int .i64 t.unit,.int .i64 t.mode,.slice D E F],.int .i64 inc] w fun e w'=>e=.returned (.tuple #[.int .i64 (mH t l j r inc),.int .i64 0])/\Below w.heap.size w w':=by
 have J:Hid (mH t l j r inc=max (CL l (max (inc-j) 0) t.unit t.mode-r) 0):=rfl;obtain⟨t0,t1⟩:=aaU (mode:=t.mode) (inc:=max (inc-j) 0) (unit:=t.unit) I (by omega) u.u0;have u0:=u.u0;have u1:=u.u1;have R:=u.Fz;have S:=u.FA;clear u;have z:=ah.new w 41 #[.int .i64 C,.slice A l.length p,.int .i64 j,.int .i64 r,.int .i64 t.unit,.int .i64 t.mode,.slice D E F];have G:=bD w (.cells #[.int .i64 C,.slice A l.length p,.int .i64 j,.int .i64 r,.int .i64 t.unit,.int .i64 t.mode,.slice D E F] 41);rcases(show max (inc-j) 0=inc-j/\0<=inc-j\/max (inc-j) 0=0/\inc-j<0 by omega)with⟨B,T⟩|⟨B,T⟩
 all_goals
  rw[B]at J t0 t1;have U:=arH B;clear B;go_enter func205,ntmps205;go_upto_region 1 with fail
  generalize w.alloc (Obj.cells _ _)=W at z G|-;obtain⟨K,L,M,N,O,P,Q⟩:=z.cz7;go_wp2_with fail
  try rw[U.out]
  refine(anZ A p l _ _ _ W (h.aa G) I (by omega) (by omega) u0 (by omega) R S).mono ?_;rintro e w1 ⟨rfl,y⟩;have V:=z.aa y;clear z K L M N O P Q;obtain⟨K,L,M,N,O,P,Q⟩:=V.cz7;generalize CL l _ t.unit t.mode=tn at*;go_wp2
  all_goals go_ret2;exact⟨by rw[J.out];first|rfl|(refine congrArg (fun n:Int=>Ending.returned (.tuple #[.int .i64 n,.int .i64 0])) ?_;omega),aB G y⟩
theorem aog(A:Option Addr)(l:Nat)(t:List mM)(j:Int)(w:World)(h:aj nO 2 w w.heap.size A t)(D:Na t)(I:0<=j)(J:j<=1000000000):
  Calls prog 166 #[.slice A t.length l,.int .i64 j] w fun e w'=>e=.returned (.tuple #[.int .i64 (JF t j),.int .i64 0])/\Below w.heap.size w w':=by
 have O:=D.len;have E:=arH (agi A l t w h D);go_enter func166,ntmps166;go_wp2_with fail;refine arP E.out ?_;rintro e y ⟨rfl,p⟩;have z:=h.aa p;clear E h;go_wp2_with fail;refine(JI _ _ I J).mono ?_;rintro e w' ⟨rfl,rfl⟩;go_wp2
 go_loopw [6,17] (fun n i wr=>∃k:Nat,k<=t.length/\i=.int .i64 k/\n=.int .i64 (DN t j k)/\Below y.heap.size y wr) (fun _ i _=>t.length-(intOf i).toNat)
 case atStart=>exact⟨0,by omega,rfl,rfl,arM _ _⟩
 case round=>
  obtain⟨k,P,rfl,rfl,r⟩:=hrel;have F:=r.size;by_cases u:k<t.length
  ·obtain⟨b,K,rfl,Q,B⟩:=(z.aa r).at_ u;have L:=B 0 _ rfl;have R:=B 1 _ rfl;simp only[arL]at L;have C:Hid (DN t j (k+1)=if(t.getD k ml).bX<=j then(t.getD k ml).aw else DN t j k):=rfl;rw[Ik u]at C;clear B;by_cases M:t[k].bX<=j
   ·go_wp2;go_roundw
    case rel=>exact⟨k+1,by omega,by go_num,by rw[C.out,arK M],r.alloc F _⟩
    case measure=>simp[intOf];omega
   ·go_wp2;go_roundw
    case rel=>
     have G:∃k':Nat,k'<=t.length/\Value.int .i64 ((k:Int)+1)=.int .i64 k'/\Value.int .i64 (DN t j k)=.int .i64 (DN t j k')/\Below y.heap.size y (wr.alloc (.cells #[.int .i64 t[k].bX,.int .i64 t[k].aw] 93)):=⟨k+1,by omega,by go_num,by rw[C.out,arJ (by omega)],r.alloc F _⟩
     first|exact G|((repeat apply Exists.intro);exact⟨G,rfl⟩)
    case measure=>simp[intOf];omega
  ·obtain rfl:k=t.length:=by omega
   have N:Hid (JF t j=DN t j t.length):=rfl;go_wp2;go_ret2;exact⟨by rw[N.out];rfl,aB p r⟩
theorem aoh(m:iP)(l j:Int)(w:World)(h:m.In w)(y:nK m.t)(D:0<=l)(E:l<=1000000000)(O:1<=j)(P:j<=53):
  Calls prog 167 #[.agg #[.int .i64 m.t.method,.slice m.Ab m.t.au.length m.cb,.int .i64 m.t.aZ,.int .i64 m.t.bf,.int .i64 m.t.unit,.int .i64 m.t.mode,.slice m.Ar m.t.rows.length m.cr],.int .i64 l,.int .i64 j] w fun e w'=>e=.returned (.tuple #[.int .i64 (FP m.t l j),.int .i64 0])/\Below w.heap.size w w':=by
 obtain⟨⟨Q,T⟩,⟨t0,t1⟩,U,f0,f1⟩:=agk y D E O P;have V:(j==0)=false:=by rw[ass];omega
 have u:=ah.new w 41 #[.int .i64 m.t.method,.slice m.Ab m.t.au.length m.cb,.int .i64 m.t.aZ,.int .i64 m.t.bf,.int .i64 m.t.unit,.int .i64 m.t.mode,.slice m.Ar m.t.rows.length m.cr];have z:=bD w (.cells #[.int .i64 m.t.method,.slice m.Ab m.t.au.length m.cb,.int .i64 m.t.aZ,.int .i64 m.t.bf,.int .i64 m.t.unit,.int .i64 m.t.mode,.slice m.Ar m.t.rows.length m.cr] 41);have n:=arH y;clear y;go_enter func167,ntmps167;go_upto_region 1 with fail
 generalize w.alloc (Obj.cells _ _)=W at u z|-;obtain⟨F,G,I,J,K,L,M⟩:=u.cz7;go_wp2_with fail;refine(Xc m W (h.aa z) n.out).mono ?_;rintro e R ⟨rfl,p⟩;have S:=u.aa p;have N:=aB z p;clear u p F G I J K L M;obtain⟨F,G,I,J,K,L,M⟩:=S.cz7;go_wp2_with fail;refine(JI _ _ D E).mono ?_;rintro e w' ⟨rfl,rfl⟩;go_wp2_with fail;refine(agj m.t m.t.method m.Ab m.Ar m.cb m.t.rows.length m.cr m.t.au m.t.aZ m.t.bf (l*j) R (h.au.aa N) n.out.au n.out n.out.a0 n.out.a1 n.out.c0 n.out.c1 Q (by omega)).mono ?_;rintro e X ⟨rfl,B⟩;generalize mH m.t m.t.au m.t.aZ m.t.bf (l*j)=Y at*;generalize r:FP m.t l j=Z at*;have C:=arH r;clear r;go_wp2;go_ret2;exact⟨by rw[C.out];rfl,aB N B⟩
theorem aoi(m:iP)(j k l:Int)(w:World)(h:m.In w)(P:nK m.t)(Q:1<=j)(Y:j<=53)(k0:1<=k)(R:k<=j)(i0:0<=l)(i1:l<=1000000000000):
  Calls prog 206 #[.agg #[.int .i64 m.t.method,.slice m.Ab m.t.au.length m.cb,.int .i64 m.t.aZ,.int .i64 m.t.bf,.int .i64 m.t.unit,.int .i64 m.t.mode,.slice m.Ar m.t.rows.length m.cr],.int .i64 j,.int .i64 k,.int .i64 l] w fun e w'=>e=.returned (.tuple #[.int .i64 (nD m.t j k l),.int .i64 0])/\Below w.heap.size w w':=by
 obtain⟨⟨⟨p0,p1⟩,p2,p3⟩,⟨e1,e2⟩,⟨q0,q1⟩,q2,q3⟩:=abf P Q Y k0 R;have eY:(j==0)=false:=by rw[ass];omega
 have M:=ah.new w 41 #[.int .i64 m.t.method,.slice m.Ab m.t.au.length m.cb,.int .i64 m.t.aZ,.int .i64 m.t.bf,.int .i64 m.t.unit,.int .i64 m.t.mode,.slice m.Ar m.t.rows.length m.cr];have S:=bD w (.cells #[.int .i64 m.t.method,.slice m.Ab m.t.au.length m.cb,.int .i64 m.t.aZ,.int .i64 m.t.bf,.int .i64 m.t.unit,.int .i64 m.t.mode,.slice m.Ar m.t.rows.length m.cr] 41);have HD:Hid (nD m.t j k l=mH m.t (ou m.t.au k j) (m.t.aZ*k/j) (m.t.bf*k/j) l):=rfl;have N:=arH P;clear P;go_enter func206,ntmps206;go_upto_region 1 with fail
 generalize w.alloc (Obj.cells _ _)=W at M S|-;obtain⟨z,B,C,D,E,F,G⟩:=M.cz7;go_wp2_with fail;refine(Xc m W (h.aa S) N.out).mono ?_;rintro e w1 ⟨rfl,r⟩;have O:=M.aa r;have T:=aB S r;clear M r z B C D E F G;obtain⟨z,B,C,D,E,F,G⟩:=O.cz7;go_wp2_with fail;refine(an4 m.Ab m.cb m.t.au k j w1 (h.au.aa T) N.out.au (by omega) Q R Y).mono ?_;rintro e Z ⟨v2,rfl,n,u⟩;have y:=O.aa u;have bB:=aB T u;have EW:=arH (RF (num:=k) (den:=j) N.out.au (by omega) Q R);obtain⟨I,J,rfl,cF,dP,_,_⟩:=n.kM CK;have ab:=T.size;have I1:=y.lt;have gw:=O.lt;clear O u n z B C D E F G;obtain⟨z,B,C,D,E,F,G⟩:=y.cz7;have f1:=y.frozen 1;have f2:=y.frozen 2;have f3:=y.frozen 3;generalize U:m.t.aZ*k/j=K at*;generalize V:m.t.bf*k/j=L at*;clear U V;go_upto_region 11 with fail
 have ir:aj gQ 2 (((Z.setCell ⟨w.heap.size,1,none⟩ (.slice I (ou m.t.au k j).length J)).setCell ⟨w.heap.size,2,none⟩ (.int .i64 K)).setCell ⟨w.heap.size,3,none⟩ (.int .i64 L)) _ I (ou m.t.au k j):=cF.Hi (bm (p:=⟨w.heap.size,3,none⟩) (bm (p:=⟨w.heap.size,2,none⟩) (bm (p:=⟨w.heap.size,1,none⟩) (fe _ _) (.inl rfl) _) (.inl rfl) _) (.inl rfl) _) (fun a ha=>by have:=dP a ha;show a.block≠w.heap.size;omega);have X:=((y.eu 1 (.slice I (ou m.t.au k j).length J)).eu 2 (.int .i64 K)).eu 3 (.int .i64 L);have eW:=iX (iX (iX bB (arI w.heap.size) 1 (.slice I (ou m.t.au k j).length J)) (arI w.heap.size) 2 (.int .i64 K)) (arI w.heap.size) 3 (.int .i64 L);generalize ((Z.setCell ⟨w.heap.size,1,none⟩ (.slice I (ou m.t.au k j).length J)).setCell ⟨w.heap.size,2,none⟩ (.int .i64 K)).setCell ⟨w.heap.size,3,none⟩ (.int .i64 L)=W4 at ir X eW|-;simp only[ar4,ar3,ar2]at X;clear y cF z B C D E F G;obtain⟨z,B,C,D,E,F,G⟩:=X.cz7;go_wp2_with fail;refine(agj m.t m.t.method I m.Ar J m.t.rows.length m.cr (ou m.t.au k j) K L l W4 ir EW.out N.out q0 q1 q2 q3 i0 i1).mono ?_;rintro e w5 ⟨rfl,aO⟩;rw[<-HD.out];go_wp2;go_ret2;exact⟨rfl,aB eW aO⟩
theorem aoj(m:iP)(j k l n:Int)(w:World)(h:m.In w)(p:nK m.t)(z:1<=j)(B:j<=53)(C:1<=k)(D:k<=j)(E:0<=l)(F:l<=1000000000000)(J:-1000000000000<=n)(K:n<=1000000000000):
  Calls prog 168 #[.agg #[.int .i64 m.t.method,.slice m.Ab m.t.au.length m.cb,.int .i64 m.t.aZ,.int .i64 m.t.bf,.int .i64 m.t.unit,.int .i64 m.t.mode,.slice m.Ar m.t.rows.length m.cr],.int .i64 j,.int .i64 k,.int .i64 l,.int .i64 n] w fun e w'=>e=.returned (.tuple #[.int .i64 (nD m.t j k l-n),.int .i64 0])/\Below w.heap.size w w':=by
 obtain⟨d0,d1⟩:=agl p z B C D E F;have L:=arH p;clear p;have G:=ah.new w 41 #[.int .i64 m.t.method,.slice m.Ab m.t.au.length m.cb,.int .i64 m.t.aZ,.int .i64 m.t.bf,.int .i64 m.t.unit,.int .i64 m.t.mode,.slice m.Ar m.t.rows.length m.cr];have r:=bD w (.cells #[.int .i64 m.t.method,.slice m.Ab m.t.au.length m.cb,.int .i64 m.t.aZ,.int .i64 m.t.bf,.int .i64 m.t.unit,.int .i64 m.t.mode,.slice m.Ar m.t.rows.length m.cr] 41);go_enter func168,ntmps168;go_upto_region 1 with fail
 generalize w.alloc (Obj.cells _ _)=W at G r|-;obtain⟨M,N,O,P,Q,R,S⟩:=G.cz7;go_wp2_with fail;refine(aoi m j k l W (h.aa r) L.out z B C D E F).mono ?_;rintro e T ⟨rfl,u⟩;generalize I:nD m.t j k l=U at*;have y:=arH I;clear I;go_wp2_with fail;refine(agh _ _ J K).mono ?_;rintro e w' ⟨rfl,rfl⟩;go_wp2;go_ret2;exact⟨by rw[y.out];rfl,aB r u⟩
theorem aok(m:iP)(j n p r l:Int)(C At:Option Addr)(D E lt F:Nat)(w:World)(h:m.In w)(K:nK m.t)(S:1<=j)(T:j<=53)(p0:0<=n)(p1:n<j)(O:0<=l)(P:l<=1000000000)(y0:0<=p)(y1:p<=999000000000)(U:-1000000000000<=r)(V:r<=1000000000000):
  Calls prog 108 #[.agg #[.int .i64 m.t.method,.slice m.Ab m.t.au.length m.cb,.int .i64 m.t.aZ,.int .i64 m.t.bf,.int .i64 m.t.unit,.int .i64 m.t.mode,.slice m.Ar m.t.rows.length m.cr],.int .i64 j,.agg #[.int .i64 n,.int .i64 p,.int .i64 r,.slice C D E,.slice At lt F],.int .i64 l] w fun e w'=>e=.returned (.tuple #[.int .i64 (kG m.t j n p r l),.int .i64 0])/\Below w.heap.size w w':=by
 have L:=(ah.new w 41 #[.int .i64 m.t.method,.slice m.Ab m.t.au.length m.cb,.int .i64 m.t.aZ,.int .i64 m.t.bf,.int .i64 m.t.unit,.int .i64 m.t.mode,.slice m.Ar m.t.rows.length m.cr]).alloc (.cells #[.int .i64 n,.int .i64 p,.int .i64 r,.slice C D E,.slice At lt F] 53);have M:=ah.new (w.alloc (.cells #[.int .i64 m.t.method,.slice m.Ab m.t.au.length m.cb,.int .i64 m.t.aZ,.int .i64 m.t.bf,.int .i64 m.t.unit,.int .i64 m.t.mode,.slice m.Ar m.t.rows.length m.cr] 41)) 53 #[.int .i64 n,.int .i64 p,.int .i64 r,.slice C D E,.slice At lt F];have Q:=ej (bD w (.cells #[.int .i64 m.t.method,.slice m.Ab m.t.au.length m.cb,.int .i64 m.t.aZ,.int .i64 m.t.bf,.int .i64 m.t.unit,.int .i64 m.t.mode,.slice m.Ar m.t.rows.length m.cr] 41)) (.cells #[.int .i64 n,.int .i64 p,.int .i64 r,.slice C D E,.slice At lt F] 53);rw[arU]at M;have N:=arH K;have z:Hid (kG m.t j n p r l=if m.t.method=1 then JF m.t.rows l else if m.t.method=2 then FP m.t l j else nD m.t j (n+1) (p+l)-r):=rfl;have ab:=K.m0;have ad:=K.m1;clear K;go_enter func108,ntmps108;go_upto_region 1 with fail
 generalize (w.alloc (Obj.cells #[.int .i64 m.t.method,.slice m.Ab m.t.au.length m.cb,.int .i64 m.t.aZ,.int .i64 m.t.bf,.int .i64 m.t.unit,.int .i64 m.t.mode,.slice m.Ar m.t.rows.length m.cr] 41)).alloc (Obj.cells #[.int .i64 n,.int .i64 p,.int .i64 r,.slice C D E,.slice At lt F] 53)=W at L M Q|-;obtain⟨G,X,Y,Z,z4,z5,z6⟩:=L.cz7;go_wp2_with fail;refine(Xc m W (h.aa Q) N.out).mono ?_;rintro e R ⟨rfl,y⟩;have aK:=L.aa y;have jk:=M.aa y;have B:=aB Q y;clear L M y G X Y Z z4 z5 z6;obtain⟨G,X,Y,Z,z4,z5,z6⟩:=aK.cz7;obtain⟨y0,y1,y2,y3,y4⟩:=jk.cz5;go_wp2_with fail;refine(JI _ _ O P).mono ?_;rintro e w' ⟨rfl,rfl⟩;go_wp2_with fail;refine(agh _ _ U V).mono ?_;rintro e w' ⟨rfl,rfl⟩;have Jo:m.t.method=1\/m.t.method=2\/m.t.method=3:=by omega
 rcases Jo with hm|hm|hm
 ·have HR:=arH (N.out.rows hm);have I:Hid (kG m.t j n p r l=JF m.t.rows l):=by rw[Hid,z.out,arK hm]
  rw[hm]at G;clear z hm;go_wp2_with fail;refine(aog m.Ar m.cr m.t.rows l R (h.rows.aa B) HR.out O P).mono ?_;rintro e w2 ⟨rfl,u⟩;go_wp2;go_ret2;exact⟨by rw[I.out];rfl,aB B u⟩
 ·have I:Hid (kG m.t j n p r l=FP m.t l j):=by rw[Hid,z.out,arJ (by omega),arK hm]
  have J:=arH (aoh m l j R (h.aa B) N.out O P S T);rw[hm]at G J;clear z hm;go_wp2_with fail;refine arP J.out ?_;rintro e w2 ⟨rfl,u⟩;go_wp2;go_ret2;exact⟨by rw[I.out];rfl,aB B u⟩
 ·have I:Hid (kG m.t j n p r l=nD m.t j (n+1) (p+l)-r):=by rw[Hid,z.out,arJ (by omega),arJ (by omega)]
  have J:=arH (aoj m j (n+1) (p+l) r R (h.aa B) N.out S T (by omega) (by omega) (by omega) (by omega) U V);rw[hm]at G J;clear z hm;go_wp2_with fail;refine arP J.out ?_;rintro e w2 ⟨rfl,u⟩;go_wp2;go_ret2;exact⟨by rw[I.out];rfl,aB B u⟩
theorem aon{C:World}{g:Nat}{c:mR}{s:jD}{Q:List dH}{w:World}(h:dI C g c s Q w)(hr:c.r.In C)(B:Option Addr)(bc:Nat)(l:List Elem)(Qe:s.bv=.slice B l.length bc)(hL:nw aQ 2 w g s.lv B l)
  (CW:Q.length<=1000) (av:l.length<=128) (N:∀x∈l,0<=x.amount/\x.amount<=1000000000) (hT:nK c.r.tm.t) (n0:1<=c.r.count) (n1:c.r.count<=53) (p0:0<=c.y.az) (p1:c.y.az<c.r.count)
  (y0:0<=c.y.ax) (y1:c.y.ax<=999000000000) (u0:-1000000000000<=c.y.aN) (u1:c.y.aN<=1000000000000) (t0:-1000000000<=s.b.t) (t1:s.b.t<=1000000000) (r0:0<=s.pS) (r1:s.pS<=12000000000)
  (l0:-100000000000<=s.left) (l1:s.left<=100000000000) (j aw:Int) (Gl:j=max (s.b.t-s.pS-aR l) 0) (G:aw=kG c.r.tm.t c.r.count c.y.az c.y.ax c.y.aN j):
  Calls prog 55 #[.pointer (some ⟨g,0,none⟩)] w fun e w'=>Below C.heap.size C w'/\((cy aw=false/\e=.returned (.int .i64 4))\/(cy aw=true/\e=.returned (.int .i64 0)/\
   ∃v',dI C g c {s with ax:=j,aw:=aw,lv:=v',left:=s.left-aw} (Q++ag 6 [⟨⟨#[]⟩,aw⟩]) w'/\Mv g s.lv w v' w')):=by
 have R:=arH N;have S:Hid (∀k,k<=l.length->0<=aR (l.take k)/\aR (l.take k)<=128000000000):=fun k hk=>by have:=N3 (l.take k) 1000000000 (fun x N=>R.out x (ar6 N));rw[asA]at this;omega
 have HI:=arH h;have HL:=arH hL;have Q6:Hid (0<=j->j<=1000000000->∀W,Below C.heap.size C W->Calls prog 108 #[.agg #[.int .i64 c.r.tm.t.method,.slice c.r.tm.Ab c.r.tm.t.au.length c.r.tm.cb,.int .i64 c.r.tm.t.aZ,.int .i64 c.r.tm.t.bf,.int .i64 c.r.tm.t.unit,.int .i64 c.r.tm.t.mode,.slice c.r.tm.Ar c.r.tm.t.rows.length c.r.tm.cr],.int .i64 c.r.count,.agg #[.int .i64 c.y.az,.int .i64 c.y.ax,.int .i64 c.y.aN,.slice c.y.Ai c.y.ins.length c.y.ci,.slice c.y.At c.y.taken.length c.y.ct],.int .i64 j] W fun e w'=>e=.returned (.tuple #[.int .i64 aw,.int .i64 0])/\Below W.heap.size W w'):=fun T U W hb=>by rw[G];exact aok c.r.tm c.r.count c.y.az c.y.ax c.y.aN j c.y.Ai c.y.At c.y.ins.length c.y.ci c.y.taken.length c.y.ct W (hr.aa hb).tm hT n0 n1 p0 p1 T U y0 y1 u0 u1
 have Tv:w.cell? ⟨g,29,none⟩=some (.int .i64 s.b.t):=h.blk.cell 29;have Qg:w.cell? ⟨g,34,none⟩=some (.slice B l.length bc):=by have:w.cell? ⟨g,34,none⟩=some s.bv:=h.blk.cell 34;rw[this,Qe]
 have Tw:w.cell? ⟨g,39,none⟩=some (.int .i64 s.pS):=h.blk.cell 39;have D:=h.lt;have I:=arH Gl;clear h hr hL N hT Qe G Gl y0 y1 u0 u1 n0 n1 p0 p1;go_enter func55,ntmps55;have V:=Bw.cell (w:=w) (a:=⟨g,29,none⟩) (by exact D) Tv;have X:=Bw.cell (w:=w) (a:=⟨g,39,none⟩) (by exact D) Tw;go_upto_region 1 with fail
 refine qi (by kernel_rfl) (by kernel_rfl) ?_
 repeat(go_big_quiet_step(fail))
 refine wpQuiet_nil ?_;intro W2 E;obtain⟨⟨O,J⟩,u⟩:=E;subst u;have X2:=(J.cell (p:=⟨g,34,none⟩) (by exact D)).trans Qg;clear Tv Qg Tw V X;go_wp2_with fail
 go_loopw [3,23] (fun ic i wr=>∃k:Nat,k<=l.length/\i=.int .i64 k/\ic=.int .i64 (s.b.t-s.pS-aR (l.take k))/\Below w.heap.size w wr) (fun _ i _=>l.length-(intOf i).toNat)
 case atStart=>exact⟨0,by omega,rfl,by simp[aR],J⟩
 case round=>
  rename World=>wr
  clear X2;obtain⟨k,hk,rfl,rfl,z⟩:=hrel;by_cases Y:k<l.length
  ·obtain⟨b,aA,Dc,lx,Z⟩:=(HL.out.sl.aa z).at_ Y;have c0:=Z 0 _ rfl;have c1:=Z 1 _ rfl;simp only[arL]at c0;rw[Dc];have HS:Hid (aR (l.take (k+1))=aR (l.take k)+l[k].amount):=YD l k Y;have eC:(k:Int)<(l.length:Int):=(by omega);obtain⟨x0,x1⟩:=R.out _ (arO Y);obtain⟨s0,s1⟩:=S.out k (by omega);have cP:=bD wr (.cells #[.string l[k].code,.int .i64 l[k].amount] 69);clear Z;generalize l[k]=x at*;generalize aR (l.take k)=q at*;have ab:=aB z cP;go_wp2;go_roundw
   case rel=>
    have ay:∃k':Nat,k'<=l.length/\Value.int .i64 ((k:Int)+1)=.int .i64 k'/\Value.int .i64 (s.b.t-s.pS-q-x.amount)=.int .i64 (s.b.t-s.pS-aR (l.take k'))/\Below w.heap.size w (wr.alloc (.cells #[.string x.code,.int .i64 x.amount] 69)):=⟨k+1,by omega,by go_num,by rw[HS.out,<-Int.sub_sub],ab⟩
    first|exact ay|((repeat apply Exists.intro);exact⟨ay,rfl⟩)
   case measure=>simp[intOf];omega
  ·obtain rfl:k=l.length:=by omega
   have P:=HI.out.aa z;have hm:=Mv.aW (g:=g) (v:=s.lv) z;obtain⟨s0,s1⟩:=S.out l.length (arI _);rw[asp]at s0 s1|-;have T:0<=j:=(by have:=I.out;omega);have U:j<=1000000000:=(by have:=I.out;omega);have DU:=arH (Q6.out T U);have ad:wr.cell? ⟨g,40,none⟩=some (.int .i64 s.ax):=P.blk.cell 40;have f40:=P.blk.frozen 40;clear Q6 HL R S z;go_upto_region 8 with fail
   first|rw[show(if s.b.t-s.pS-aR l<0 then 0 else s.b.t-s.pS-aR l)=j by rw[I.out];split<;>omega]|rw[show max (s.b.t-s.pS-aR l) 0=j from I.out.symm]
   have F:=P.amN j;have jY:=hm.trans (Mv.set 40 (.int .i64 j));generalize wr.setCell ⟨g,40,none⟩ (.int .i64 j)=W8 at F jY|-;clear P hm ad f40 HI I;have Dj:=F.lt;have n:∀i v,(nS c {s with ax:=j})[i]?=some v->∀p:Bw W8,p.w'.cell? ⟨g,i,none⟩=some v:=fun i v hv p=>Bw.cell (w:=W8) (a:=⟨g,i,none⟩) (by exact Dj) ((F.blk.cell i).trans hv) p;have e2:=n 2 (.int .i64 c.r.tm.t.method) rfl;have e3:=n 3 (.slice c.r.tm.Ab c.r.tm.t.au.length c.r.tm.cb) rfl;have e4:=n 4 (.int .i64 c.r.tm.t.aZ) rfl;have e5:=n 5 (.int .i64 c.r.tm.t.bf) rfl;have e6:=n 6 (.int .i64 c.r.tm.t.unit) rfl;have e7:=n 7 (.int .i64 c.r.tm.t.mode) rfl;have e8:=n 8 (.slice c.r.tm.Ar c.r.tm.t.rows.length c.r.tm.cr) rfl;have e9:=n 9 (.int .i64 c.r.count) rfl;have af:=n 20 (.int .i64 c.y.az) rfl;have ai:=n 21 (.int .i64 c.y.ax) rfl;have al:=n 22 (.int .i64 c.y.aN) rfl;have am:=n 23 (.slice c.y.Ai c.y.ins.length c.y.ci) rfl;have an:=n 24 (.slice c.y.At c.y.taken.length c.y.ct) rfl;have ao:=n 40 (.int .i64 j) rfl;clear n;refine qi (by kernel_rfl) (by kernel_rfl) ?_
   repeat(go_big_quiet_step(exact Bw.call _ (DU.out _ (aB F.aW (Bw.h _)))))
   refine wpQuiet_nil ?_;intro O E;obtain⟨⟨O,K⟩,u⟩:=E;subst u;have L:=F.aa K;have iW:=jY.trans (Mv.aW K);clear e2 e3 e4 e5 e6 e7 e8 e9 af ai al am an ao F jY DU Dj;have ae:=L.aW;by_cases a0:-1000000000<=aw;rotate_left
   ·have M:Hid (cy aw=false):=(by simp[Hid,cy];omega);go_wp2;go_ret;exact⟨ae,.inl ⟨M.out,rfl⟩⟩
   by_cases a1:aw<=1000000000;rotate_left
   ·have M:Hid (cy aw=false):=(by simp[Hid,cy];omega);go_wp2;go_ret;exact⟨ae,.inl ⟨M.out,rfl⟩⟩
   have M:Hid (cy aw=true):=(by simp[Hid,cy];omega);have ap:O.cell? ⟨g,41,none⟩=some (.int .i64 s.aw):=L.blk.cell 41;have f41:=L.blk.frozen 41;go_upto_region 14 with fail
   have gV:=L.amO aw;have kP:=iW.trans (Mv.set 41 (.int .i64 aw));generalize O.setCell ⟨g,41,none⟩ (.int .i64 aw)=aE at gV kP|-;clear L iW ap f41 ae;go_wp2_with fail;refine(J4 gV 6 ⟨#[]⟩ aw (by omega)).mono ?_;rintro e w5 ⟨rfl,v5,kA,mq⟩;have AE:=kP.trans mq;have aJ:w5.cell? ⟨g,33,none⟩=some (.int .i64 s.left):=kA.blk.cell 33;have f33:=kA.blk.frozen 33;clear gV kP mq;go_wp2;go_ret;have jN:=kA.UB (s.left-aw);have nX:=AE.trans (Mv.set 33 (.int .i64 (s.left-aw)));exact⟨jN.aW,.inr ⟨M.out,rfl,v5,jN,nX⟩⟩
