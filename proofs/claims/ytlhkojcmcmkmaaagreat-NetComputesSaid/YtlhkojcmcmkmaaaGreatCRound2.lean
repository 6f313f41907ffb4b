/- Conditions: as stated. -/
import Derived.Test.YtlhkojcmcmkmaaaGreatCElem
set_option maxHeartbeats 4000000
namespace Go.Proofs.YtlhkojcmcmkmaaaGreat
open Go.Proofs.Tryz
open Go.RowKit
def YC(num j e q r:Int):Int:=
 if e=0 then(if num<0 then q+1 else q)else if e=1 then(if num<0 then q else q+1)else if e=2 then q else if e=3 then q+1 else
 if j-r<r then q+1 else if r=j-r then(if e=4 then(if num<0 then q else q+1)else if e=5 then(if num<0 then q+1 else q)else(if q.tmod 2=0 then q else q+1))else q
theorem arp(num e j:Int)(y:num%e≠0):gY num e j=YC num e j (num/e) (num%e):=by
 have E:num≠0:=by rintro rfl;simp at y
 rw[gY,atO y,DC,YC,kG];by_cases z:j=0
 ·simp only[z,aup];by_cases h:num<0
  ·have:¬0<num:=(by omega);simp[h,this]
  ·have:0<num:=(by omega);simp[h,this]
 by_cases B:j=1
 ·subst B;by_cases h:num<0
  ·have:¬0<num:=(by omega);simp[h,this]
  ·have:0<num:=(by omega);simp[h,this]
 by_cases C:j=2
 ·subst C;simp
 by_cases D:j=3
 ·subst D;simp
 simp only[z,B,C,D,auw];by_cases r:num%e<e-num%e
 ·have p:¬e-num%e<num%e:=by omega
  have u:¬num%e=e-num%e:=by omega
  simp[r,p,u]
 ·by_cases p:e-num%e<num%e
  ·simp[r,p]
  ·have u:num%e=e-num%e:=(by omega);simp only[atO r,atO p,atP u];by_cases h:num<0
   ·have:¬0<num:=(by omega);simp only[h,this];by_cases l:j=4
    ·simp[l]
    ·by_cases n:j=5
     ·simp[n]
     ·simp[l,n]
   ·have:0<num:=(by omega);simp only[h,this];by_cases l:j=4
    ·simp[l]
    ·by_cases n:j=5
     ·simp[n]
     ·simp[l,n]
theorem acK(num j l:Int)(w:World)(M:-1000000000000000000<=num)(N:num<=1000000000000000000)(u:0<j)(X:j<=1000000000000):
  Calls prog 221 #[.int .i64 num,.int .i64 j,.int .i64 l] w fun e w'=>e=.returned (.int .i64 (gY num j l))/\w=w':=by
 have Z:=aaT num j u 1000000000000000000 M N (by omega);obtain⟨O,P⟩:=Z;have y:=auY num (show j≠0 by omega);have z:=au2 num u;have Y:(j==0)=false:=by simp;omega
 have Q:=Int.tmod_add_mul_tdiv num j;have R:j*num.tdiv j=num.tdiv j*j:=auZ _ _;have G:=fun I=>arp num j l I;by_cases J:num.tmod j<0
 ·obtain⟨B,K⟩:=tdiv_neg num j u J;have Nj:-j<num.tmod j:=by
   have:=Int.lt_tmod_of_pos num u;omega
  have e3:(num.tdiv j-1)*j=num.tdiv j*j-j:=by rw[Int.sub_mul];omega
  have F:num%j=num-(num.tdiv j-1)*j:=by omega
  have S:num<num.tdiv j*j:=by omega
  have C:num.tdiv j*j<num+j:=by omega
  have jv:0<num-(num.tdiv j-1)*j:=by omega
  have jW:num-(num.tdiv j-1)*j<j:=by omega
  have T:-2000000000000000000<=(num.tdiv j-1)*j:=by omega
  have U:(num.tdiv j-1)*j<=2000000000000000000:=by omega
  have V:-1000000000000000000<=num.tdiv j:=by omega
  have D:num.tdiv j<=1000000000000000001:=by omega
  have p:=G (by omega);rw[<-B,F]at p;have E:=atM p;have L:(num-(num.tdiv j-1)*j==0)=false:=by simp;omega
  clear p B K e3 F O P y z Q R G J Nj;go_enter func221,ntmps221;go_wp2
  all_goals go_ret
  all_goals refine⟨?_,rfl⟩
  all_goals rw[E.out,YC]
  all_goals clear E S C T U V D L M N u X Y
  all_goals generalize num-(num.tdiv j-1)*j=r at*
  all_goals simp only[beq_iff_eq,auj,ne_eq,Bool.not_eq_true',Bool.not_eq_false']at*
  all_goals repeat' split
  all_goals first|rfl|(exfalso;omega)|(exact congrArg (fun n:Int=>Ending.returned (Value.int IntKind.i64 n)) (by omega))
 ·have ml:0<=num.tmod j:=by omega
  obtain⟨B,K⟩:=afu num j u ml;have S:num.tdiv j*j<=num:=by omega
  have C:num<num.tdiv j*j+j:=by omega
  have F:num%j=num-num.tdiv j*j:=by omega
  have T:-2000000000000000000<=num.tdiv j*j:=by omega
  have U:num.tdiv j*j<=2000000000000000000:=by omega
  have V:-1000000000000000000<=num.tdiv j:=by omega
  have D:num.tdiv j<=1000000000000000000:=by omega
  by_cases I:num-num.tdiv j*j=0
  ·have p:gY num j l=num.tdiv j:=(by rw[gY,atP (by omega),B]);have E:=atM p;have L:(num-num.tdiv j*j==0)=true:=(by simp[I]);clear p B K F O P y z Q R G J I;go_enter func221,ntmps221;go_wp2;go_ret;exact⟨by rw[E.out];rfl,rfl⟩
  ·have jv:0<num-num.tdiv j*j:=(by omega);have jW:num-num.tdiv j*j<j:=(by omega);have p:=G (by omega);rw[<-B,F]at p;have E:=atM p;have L:(num-num.tdiv j*j==0)=false:=(by simp;omega);clear p B K F O P y z Q R G J I;go_enter func221,ntmps221;go_wp2
   all_goals go_ret
   all_goals refine⟨?_,rfl⟩
   all_goals rw[E.out,YC]
   all_goals clear E S C T U V D L M N u X Y
   all_goals generalize num-num.tdiv j*j=r at*
   all_goals simp only[beq_iff_eq,auj,ne_eq,Bool.not_eq_true',Bool.not_eq_false']at*
   all_goals repeat' split
   all_goals first|rfl|(exfalso;omega)|(exact congrArg (fun n:Int=>Ending.returned (Value.int IntKind.i64 n)) (by omega))
theorem aiZ(a b A B:Int)(j:-A<=a)(l:a<=A)(e:0<=b)(n:b<=B)(p:0<=A):-(A*B)<=a*b/\a*b<=A*B:=by
 have r:A*b<=A*B:=auF n p;constructor
 ·have:-A*b<=a*b:=au4 j e;rw[Int.neg_mul]at this;omega
 ·have:a*b<=A*b:=au4 l e;omega
theorem NR(a num l e j:Int):Jw a num l e j=true↔(-1000000000000<=a/\a<=1000000000000/\0<=num/\num<=1000000/\1<=l/\l<=1000000/\1<=e/\e<=1000000)/\EC j=true:=by simp[Jw]
theorem ai0(a num l e j:Int)(h:Jw a num l e j=true):(-1000000000000000000<=a*num/\a*num<=1000000000000000000)/\(0<l*e/\l*e<=1000000000000)/\(-2000000000000000000<=gY (a*num) (l*e) j*e/\gY (a*num) (l*e) j*e<=2000000000000000000):=by
 obtain⟨⟨u,y,z,B,p,C,E,F⟩,_⟩:=(NR ..).1 h;have M:=aiZ a num 1000000000000 1000000 u y z B (by omega);have O:=aiZ l e 1000000 1000000 (by omega) C (by omega) F (by omega);have P:1*1<=l*e:=auS p E (by omega) (by omega);have n:e<=l*e:=by have:1*e<=l*e:=au4 p (by omega);omega
 refine⟨by omega,by omega,?_⟩;generalize Q:a*num=N at*;generalize R:l*e=D at*;have S:=avy N D;have T:=auY N (show D≠0 by omega);have U:=au2 N (show 0<D by omega);have r:N/D<=gY N D j/\gY N D j<=N/D+1:=by
  unfold gY;split
  ·omega
  ·split<;>omega
 have G:=aaT N D (by omega) 1000000000000000000 (by omega) (by omega) (by omega);have V:(N/D)*e<=gY N D j*e:=au4 r.1 (by omega);have I:gY N D j*e<=(N/D+1)*e:=au4 r.2 (by omega);rw[auN]at I;have X:-1100000000000000000<=(N/D)*e/\(N/D)*e<=1100000000000000000:=by
  rcases Int.le_total 0 (N/D)with h0|h0
  ·have J:(N/D)*e<=(N/D)*D:=auF n h0;have K:0<=(N/D)*e:=aur h0 (by omega);have L:D*(N/D)=(N/D)*D:=auZ _ _;omega
  ·have J:(N/D)*D<=(N/D)*e:=Int.mul_le_mul_of_nonpos_left h0 n;have K:(N/D)*e<=0:=Int.mul_nonpos_of_nonpos_of_nonneg h0 (by omega);have L:D*(N/D)=(N/D)*D:=auZ _ _;omega
 omega
theorem ai1{a num l e j:Int}(h:Jw a num l e j=false):mY a num l e j=2/\gW a num l e j=0:=by
 have:mY a num l e j=2:=by rw[mY,atP h]
 exact⟨this,by rw[gW,atO (by omega)]⟩
theorem Wq(a num j unit mode:Int)(w:World):
  Calls prog 60 #[.int .i64 a,.int .i64 num,.int .i64 j,.int .i64 unit,.int .i64 mode] w fun e w'=>e=.returned (.tuple #[.int .i64 (gW a num j unit mode),.int .i64 (mY a num j unit mode)])/\∃q,w'=w.drewN q:=by
 rcases l:Jw a num j unit mode with _|_
 ·obtain⟨D,E⟩:=ai1 l;rw[D,E];have F:=atM l;clear l D E;by_cases M:-1000000000000<=a;rotate_left
  ·go_enter func60,ntmps60;go_wp2_with(go_at_call 115;refine(FD _ _).mono ?_;rintro e w' ⟨rfl,rfl⟩);go_ret2;exact⟨rfl,0,rfl⟩
  by_cases N:a<=1000000000000;rotate_left
  ·go_enter func60,ntmps60;go_wp2_with(go_at_call 115;refine(FD _ _).mono ?_;rintro e w' ⟨rfl,rfl⟩);go_ret2;exact⟨rfl,0,rfl⟩
  by_cases O:0<=num;rotate_left
  ·go_enter func60,ntmps60;go_wp2_with(go_at_call 115;refine(FD _ _).mono ?_;rintro e w' ⟨rfl,rfl⟩);go_ret2;exact⟨rfl,0,rfl⟩
  by_cases P:num<=1000000;rotate_left
  ·go_enter func60,ntmps60;go_wp2_with(go_at_call 115;refine(FD _ _).mono ?_;rintro e w' ⟨rfl,rfl⟩);go_ret2;exact⟨rfl,0,rfl⟩
  by_cases Q:1<=j;rotate_left
  ·go_enter func60,ntmps60;go_wp2_with(go_at_call 115;refine(FD _ _).mono ?_;rintro e w' ⟨rfl,rfl⟩);go_ret2;exact⟨rfl,0,rfl⟩
  by_cases R:j<=1000000;rotate_left
  ·go_enter func60,ntmps60;go_wp2_with(go_at_call 115;refine(FD _ _).mono ?_;rintro e w' ⟨rfl,rfl⟩);go_ret2;exact⟨rfl,0,rfl⟩
  by_cases S:1<=unit;rotate_left
  ·go_enter func60,ntmps60;go_wp2_with(go_at_call 115;refine(FD _ _).mono ?_;rintro e w' ⟨rfl,rfl⟩);go_ret2;exact⟨rfl,0,rfl⟩
  by_cases T:unit<=1000000;rotate_left
  ·go_enter func60,ntmps60;go_wp2_with(go_at_call 115;refine(FD _ _).mono ?_;rintro e w' ⟨rfl,rfl⟩);go_ret2;exact⟨rfl,0,rfl⟩
  skip
  rcases G:EC mode with _|_
  ·go_enter func60,ntmps60;go_wp2_with(go_at_call 115;refine(FD _ _).mono ?_;rintro e w' ⟨rfl,rfl⟩);go_ret2;exact⟨rfl,0,rfl⟩
  ·have:=(NR a num j unit mode).2 ⟨⟨by omega,by omega,by omega,by omega,by omega,by omega,by omega,by omega⟩,G⟩;rw[F.out]at this;cases this
 ·obtain⟨⟨u,y⟩,⟨z,B⟩,U,V⟩:=ai0 a num j unit mode l;obtain⟨⟨X,Y,Z,h4,h5,h6,h7,h8⟩,G⟩:=(NR ..).1 l;have I:mY a num j unit mode=if Cf (pA a num j unit mode)=false then 4 else 0:=by rw[mY,atO (by simp[l])]
  have C:=atM I;clear I;have F:=atM l;clear l;by_cases J:-1000000000000<=gY (a*num) (j*unit) mode*unit
  ·by_cases K:gY (a*num) (j*unit) mode*unit<=1000000000000
   ·have n:Hid (mY a num j unit mode=0):=(by rw[Hid,C.out,atO (by simp[Cf,pA,J,K])]);have p:Hid (gW a num j unit mode=gY (a*num) (j*unit) mode*unit):=(by rw[Hid,gW,atP n.out];rfl);go_enter func60,ntmps60;go_wp2_with(go_at_call 115;refine(FD _ _).mono ?_;rintro e w' ⟨rfl,rfl⟩);refine(aaU _ _ _ _ u y z B).mono ?_;rintro e L ⟨rfl,r,rfl⟩;go_wp2;go_ret2;exact⟨by rw[n.out,p.out];rfl,r,rfl⟩
   ·have n:Hid (mY a num j unit mode=4):=(by rw[Hid,C.out,atP (by simp[Cf,pA,K])]);have p:Hid (gW a num j unit mode=0):=(by rw[Hid,gW,atO (by rw[n.out];omega)]);go_enter func60,ntmps60;go_wp2_with(go_at_call 115;refine(FD _ _).mono ?_;rintro e w' ⟨rfl,rfl⟩);refine(aaU _ _ _ _ u y z B).mono ?_;rintro e L ⟨rfl,r,rfl⟩;go_wp2;go_ret2;exact⟨by rw[n.out,p.out];rfl,r,rfl⟩
  ·have n:Hid (mY a num j unit mode=4):=(by rw[Hid,C.out,atP (by simp[Cf,pA,J])]);have p:Hid (gW a num j unit mode=0):=(by rw[Hid,gW,atO (by rw[n.out];omega)]);go_enter func60,ntmps60;go_wp2_with(go_at_call 115;refine(FD _ _).mono ?_;rintro e w' ⟨rfl,rfl⟩);refine(aaU _ _ _ _ u y z B).mono ?_;rintro e L ⟨rfl,r,rfl⟩;go_wp2;go_ret2;exact⟨by rw[n.out,p.out];rfl,r,rfl⟩
theorem Zo(a num n j l:Int)(w:World):
  Calls prog 178 #[.int .i64 a,.int .i64 num,.int .i64 n,.int .i64 j,.int .i64 l] w fun e w'=>e=.returned (.tuple #[.int .i64 (gW a num n j l),.int .i64 (mY a num n j l)])/\w=w':=by
 rcases p:Jw a num n j l with _|_
 ·obtain⟨E,F⟩:=ai1 p;rw[E,F];have G:=atM p;clear p E F;by_cases N:-1000000000000<=a;rotate_left
  ·go_enter func178,ntmps178;go_wp2_with(go_at_call 179;refine(CB _ _).mono ?_;rintro e w' ⟨rfl,rfl⟩);go_ret2;exact⟨rfl,rfl⟩
  by_cases O:a<=1000000000000;rotate_left
  ·go_enter func178,ntmps178;go_wp2_with(go_at_call 179;refine(CB _ _).mono ?_;rintro e w' ⟨rfl,rfl⟩);go_ret2;exact⟨rfl,rfl⟩
  by_cases P:0<=num;rotate_left
  ·go_enter func178,ntmps178;go_wp2_with(go_at_call 179;refine(CB _ _).mono ?_;rintro e w' ⟨rfl,rfl⟩);go_ret2;exact⟨rfl,rfl⟩
  by_cases Q:num<=1000000;rotate_left
  ·go_enter func178,ntmps178;go_wp2_with(go_at_call 179;refine(CB _ _).mono ?_;rintro e w' ⟨rfl,rfl⟩);go_ret2;exact⟨rfl,rfl⟩
  by_cases R:1<=n;rotate_left
  ·go_enter func178,ntmps178;go_wp2_with(go_at_call 179;refine(CB _ _).mono ?_;rintro e w' ⟨rfl,rfl⟩);go_ret2;exact⟨rfl,rfl⟩
  by_cases S:n<=1000000;rotate_left
  ·go_enter func178,ntmps178;go_wp2_with(go_at_call 179;refine(CB _ _).mono ?_;rintro e w' ⟨rfl,rfl⟩);go_ret2;exact⟨rfl,rfl⟩
  by_cases T:1<=j;rotate_left
  ·go_enter func178,ntmps178;go_wp2_with(go_at_call 179;refine(CB _ _).mono ?_;rintro e w' ⟨rfl,rfl⟩);go_ret2;exact⟨rfl,rfl⟩
  by_cases U:j<=1000000;rotate_left
  ·go_enter func178,ntmps178;go_wp2_with(go_at_call 179;refine(CB _ _).mono ?_;rintro e w' ⟨rfl,rfl⟩);go_ret2;exact⟨rfl,rfl⟩
  skip
  rcases I:EC l with _|_
  ·go_enter func178,ntmps178;go_wp2_with(go_at_call 179;refine(CB _ _).mono ?_;rintro e w' ⟨rfl,rfl⟩);go_ret2;exact⟨rfl,rfl⟩
  ·have:=(NR a num n j l).2 ⟨⟨by omega,by omega,by omega,by omega,by omega,by omega,by omega,by omega⟩,I⟩;rw[G.out]at this;cases this
 ·obtain⟨⟨y,z⟩,⟨B,C⟩,V,X⟩:=ai0 a num n j l p;obtain⟨⟨Y,Z,h3,h4,h5,h6,h7,h8⟩,I⟩:=(NR ..).1 p;have J:mY a num n j l=if Cf (pA a num n j l)=false then 4 else 0:=by rw[mY,atO (by simp[p])]
  have D:=atM J;clear J;have G:=atM p;clear p;by_cases K:-1000000000000<=gY (a*num) (n*j) l*j
  ·by_cases L:gY (a*num) (n*j) l*j<=1000000000000
   ·have r:Hid (mY a num n j l=0):=(by rw[Hid,D.out,atO (by simp[Cf,pA,K,L])]);have u:Hid (gW a num n j l=gY (a*num) (n*j) l*j):=(by rw[Hid,gW,atP r.out];rfl);go_enter func178,ntmps178;go_wp2_with(go_at_call 179;refine(CB _ _).mono ?_;rintro e w' ⟨rfl,rfl⟩);refine(acK _ _ _ _ y z B C).mono ?_;rintro e M ⟨rfl,rfl⟩;go_wp2;go_ret2;exact⟨by rw[r.out,u.out];rfl,rfl⟩
   ·have r:Hid (mY a num n j l=4):=(by rw[Hid,D.out,atP (by simp[Cf,pA,L])]);have u:Hid (gW a num n j l=0):=(by rw[Hid,gW,atO (by rw[r.out];omega)]);go_enter func178,ntmps178;go_wp2_with(go_at_call 179;refine(CB _ _).mono ?_;rintro e w' ⟨rfl,rfl⟩);refine(acK _ _ _ _ y z B C).mono ?_;rintro e M ⟨rfl,rfl⟩;go_wp2;go_ret2;exact⟨by rw[r.out,u.out];rfl,rfl⟩
  ·have r:Hid (mY a num n j l=4):=(by rw[Hid,D.out,atP (by simp[Cf,pA,K])]);have u:Hid (gW a num n j l=0):=(by rw[Hid,gW,atO (by rw[r.out];omega)]);go_enter func178,ntmps178;go_wp2_with(go_at_call 179;refine(CB _ _).mono ?_;rintro e w' ⟨rfl,rfl⟩);refine(acK _ _ _ _ y z B C).mono ?_;rintro e M ⟨rfl,rfl⟩;go_wp2;go_ret2;exact⟨by rw[r.out,u.out];rfl,rfl⟩
theorem acJ(a num mode:Int)(e:0<=a)(y:a<=1000000000000)(j:0<=num)(l:num<=1000000)(p:EC mode=true):mY a num 1000000 1 mode=0/\0<=gW a num 1000000 1 mode/\gW a num 1000000 1 mode<=a:=by
 have r:Jw a num 1000000 1 mode=true:=(NR ..).2 ⟨⟨by omega,by omega,j,l,by omega,by omega,by omega,by omega⟩,p⟩;have z:0<=a*num:=aur e j;have B:a*num<=a*1000000:=auF l e;have u:0<=pA a num 1000000 1 mode/\pA a num 1000000 1 mode<=a:=by
  unfold pA gY;rw[Int.mul_one,show(1000000:Int)*1=1000000 from rfl];generalize a*num=N at*;split
  ·omega
  ·split<;>omega
 have n:mY a num 1000000 1 mode=0:=by rw[mY,atO (by simp[r]),atO];simp only[Cf];simp;omega
 rw[gW,atP n];exact⟨n,u⟩
structure bN where
 code:ByteArray
 aT:Int
 before:Bool
 amount:Int
 cB:Int
 cap:Int
deriving DecidableEq
def jH(x:bN):List Value:=[.string x.code,.int .i64 x.aT,.bool x.before,.int .i64 x.amount,.int .i64 x.cB,.int .i64 x.cap]
theorem GM(x:bN):(jH x).length=6:=rfl
theorem aaE(x:bN):∀u∈jH x,u.oneCell'=true:=by intro u hu;simp[jH]at hu;rcases hu with rfl|rfl|rfl|rfl|rfl|rfl<;>rfl
theorem afj:(Tryz.prog.info? 166).map (fun i=>(i.zero,i.size,i.bytes))=some (some (.agg #[.string ⟨#[]⟩,.int .i64 0,.bool false,.int .i64 0,.int .i64 0,.int .i64 0]),6,56):=by kernel_rfl
def bM(n m:Int):Bool:=decide (0<=n/\n<=m)
theorem iK{n m:Int}:bM n m=true↔0<=n/\n<=m:=by simp[bM]
theorem Jt{n m:Int}:bM n m=false↔(n<0\/m<n):=by simp[bM];omega
theorem Ws{n m:Int}(h:bM n m=true):0<=n:=(iK.1 h).1
theorem Wt{n m:Int}(h:bM n m=true):n<=m:=(iK.1 h).2
def BD{j:Type}(e:j->ByteArray)(l:List j)(i:Nat)(x:j):Bool:=decide (i=0)||(match l[i-1]?with|some p=>Op.bytesLess (e p).toList (e x).toList|none=>true)
theorem ai2{j:Type}(e:j->ByteArray)(l:List j)(x:j):BD e l 0 x=true:=by simp[BD]
theorem Wn{j:Type}(e:j->ByteArray)(l:List j)(m:Nat)(x:j)(h:m<l.length):BD e l (m+1) x=Op.bytesLess (e l[m]).toList (e x).toList:=by simp[BD,atW h]
def l7(e:List bN)(i:Nat)(x:bN):Bool:=bI x.code&&BD bN.code e i x&&bM x.aT 99&&bM x.amount 1000000000&&bM x.cap 1000000000&&bM x.cB 1000000
def mV(e:List Elem)(i:Nat)(x:Elem):Bool:=bI x.code&&BD Elem.code e i x&&bM x.amount 1000000000000
def IU{j:Type}(ok:List j->Nat->j->Bool)(n:Nat)(e:List j):Bool:=decide (e.length<=n)&&decide (∀i,(h:i<e.length)->ok e i e[i]=true)
def gF(e:List bN):Bool:=IU l7 16 e
def fE(e:List Elem):Bool:=IU mV 128 e
theorem Wl{j:Type}{ok:List j->Nat->j->Bool}{n:Nat}{e:List j}{i:Nat}(h:i<e.length)(l:ok e i e[i]=false):IU ok n e=false:=by unfold IU;simp only[Bool.and_eq_false_iff,auA];right;intro p;have:=p i h;rw[l]at this;cases this
theorem Wm{j:Type}{ok:List j->Nat->j->Bool}{n:Nat}{e:List j}(l:e.length<=n)(h:∀i,(h:i<e.length)->ok e i e[i]=true):IU ok n e=true:=by unfold IU;simp only[aub,auc];exact⟨l,h⟩
theorem Wk{e:Type}{ok:List e->Nat->e->Bool}{n:Nat}{j:List e}(l:n<j.length):IU ok n j=false:=by unfold IU;simp only[Bool.and_eq_false_iff,auA];exact .inl (by omega)
theorem acL{j:Type}{ok:List j->Nat->j->Bool}{n:Nat}{e:List j}:IU ok n e=true↔e.length<=n/\∀i,(h:i<e.length)->ok e i e[i]=true:=by unfold IU;simp only[aub,auc]
structure BF(d:bN):Prop where
 name:bI d.code=true
 r0:0<=d.aT
 r1:d.aT<=99
 a0:0<=d.amount
 a1:d.amount<=1000000000
 c0:0<=d.cap
 c1:d.cap<=1000000000
 t0:0<=d.cB
 t1:d.cB<=1000000
theorem ai3{l:List bN}{i:Nat}{x:bN}(h:l7 l i x=true):BF x:=by simp only[l7,aub,iK]at h;obtain⟨⟨⟨⟨⟨n,_⟩,p,e⟩,r,u⟩,y,z⟩,B,j⟩:=h;exact⟨n,p,e,r,u,y,z,B,j⟩
theorem ai4{e:List bN}{i:Nat}{x:bN}(h:BF x)(j:BD bN.code e i x=true):l7 e i x=true:=by simp only[l7,aub,iK];exact⟨⟨⟨⟨⟨h.name,j⟩,h.r0,h.r1⟩,h.a0,h.a1⟩,h.c0,h.c1⟩,h.t0,h.t1⟩
theorem Wp{d:bN}:gF [d]=true↔BF d:=by
 rw[gF,acL];constructor
 ·rintro⟨_,h⟩;exact ai3 (h 0 (by simp))
 ·intro h;refine⟨by simp,fun i hi=>?_⟩;obtain rfl:i=0:=by simp at hi;omega
  exact ai4 h (ai2 ..)
theorem ai5{r:Type}(e:r->ByteArray):∀(l:List r),(∀i,(h:i<l.length)->BD e l i l[i]=true)->l.Pairwise (fun a b=>Op.bytesLess (e a).toList (e b).toList=true):=by
 intro l h;rw[auz];have p:∀m,(n:m+1<l.length)->(e l[m]).toList<(e l[m+1]).toList:=by intro m n;have u:=h (m+1) n;rw[Wn _ _ _ _ (by omega),Ce]at u;simpa using u
 have far:∀d i,(n:i+d+1<l.length)->(e (l[i]'(by omega))).toList<(e l[i+d+1]).toList:=by
  intro d
  induction d with
  |zero=>intro i n;exact p i n
  |succ d y=>intro i n;exact List.lt_trans (y i (by omega)) (p (i+d+1) n)
 intro i j hi z B;obtain⟨d,rfl⟩:∃d,j=i+d+1:=⟨j-i-1,by omega⟩
 rw[Ce];simpa using far d i z
theorem ai6{l:Type}(e:l->ByteArray){j:List l}(h:j.Pairwise (fun a b=>Op.bytesLess (e a).toList (e b).toList=true))(i:Nat)(hi:i<j.length):BD e j i j[i]=true:=by
 cases i with
 |zero=>exact ai2 ..
 |succ m=>rw[Wn _ _ _ _ (by omega)];exact auz.1 h m (m+1) (by omega) hi (by omega)
theorem Ip{e:List bN}:gF e=true↔e.length<=16/\(∀x∈e,BF x)/\e.Pairwise (fun a b=>Op.bytesLess a.code.toList b.code.toList=true):=by
 rw[gF,acL];constructor
 ·rintro⟨l,j⟩;refine⟨l,fun x n=>?_,ai5 bN.code e fun i hi=>?_⟩
  ·obtain⟨i,hi,rfl⟩:=aun.1 n;exact ai3 (j i hi)
  ·have:=j i hi;simp only[l7,aub]at this;exact this.1.1.1.1.2
 ·rintro⟨l,j,p⟩;exact⟨l,fun i hi=>ai4 (j _ (atT hi)) (ai6 bN.code p i hi)⟩
theorem BQ{e:List Elem}:fE e=true↔e.length<=128/\(∀x∈e,bI x.code=true/\0<=x.amount/\x.amount<=1000000000000)/\jb e:=by
 rw[fE,acL];constructor
 ·rintro⟨l,j⟩;refine⟨l,fun x n=>?_,ai5 Elem.code e fun i hi=>?_⟩
  ·obtain⟨i,hi,rfl⟩:=aun.1 n;have:=j i hi;simp only[mV,aub,iK]at this;exact⟨this.1.1,this.2⟩
  ·have:=j i hi;simp only[mV,aub]at this;exact this.1.2
 ·rintro⟨l,j,p⟩;refine⟨l,fun i hi=>?_⟩;obtain⟨r,u⟩:=j _ (atT hi);simp only[mV,aub,iK];exact⟨⟨r,ai6 Elem.code p i hi⟩,u⟩
def PD(d:bN)(base:Int):Int:=min (d.amount+gW base d.cB 1000000 1 4) 1000000000
def Io(d:bN)(base taken:Int):Int:=if 0<d.cap then min (PD d base) (max (d.cap-taken) 0)else PD d base
def GL(d:bN)(base taken:Int):Int:=if gF [d]=false then 1 else if bM base 1000000000=false then 2 else if bM taken 1000000000000=false then 2 else 0
def KW(d:bN)(base taken:Int):Int:=if GL d base taken=0 then Io d base taken else 0
theorem aaD{d:bN}{base:Int}(h:BF d)(e:0<=base)(j:base<=1000000000):mY base d.cB 1000000 1 4=0/\0<=gW base d.cB 1000000 1 4/\gW base d.cB 1000000 1 4<=1000000000/\0<=PD d base/\PD d base<=1000000000:=by obtain⟨a,b,c⟩:=acJ base d.cB 4 e (by omega) h.t0 h.t1 (by decide);have:=h.a0;refine⟨a,b,by omega,?_,?_⟩<;>unfold PD<;>omega
theorem aaJ{d:bN}{base taken:Int}(h:BF d)(e:0<=base)(j:base<=1000000000):0<=Io d base taken/\Io d base taken<=1000000000:=by obtain⟨_,_,_,a,b⟩:=aaD h e j;unfold Io;split<;>omega
def oh(l:List Elem)(c:ByteArray):Int:=match l with|[]=>0|x::r=>if x.code.toList==c.toList then x.amount else oh r c
theorem ai7{l:List Elem}{c:ByteArray}{k:Nat}(n:k<=l.length)(h:∀j,(p:j<l.length)->j<k->(l[j].code.toList==c.toList)=false):oh l c=oh (l.drop k) c:=by
 induction l generalizing k with
 |nil=>simp
 |cons a l r=>
  cases k with
  |zero=>simp
  |succ k=>have e:=h 0 (by simp) (by omega);simp only[avv]at e;rw[oh,e,avw];exact r (by simp at n;omega) (fun j p u=>by have:=h (j+1) (by simp;omega) (by omega);simpa using this)
theorem afd{l:List Elem}{c:ByteArray}{k:Nat}(e:k<l.length)(h:∀j,(p:j<l.length)->j<k->(l[j].code.toList==c.toList)=false)(n:(l[k].code.toList==c.toList)=true):oh l c=l[k].amount:=by rw[ai7 (by omega) h,avD e,oh,n];rfl
theorem afe{l:List Elem}{c:ByteArray}(h:∀j,(e:j<l.length)->(l[j].code.toList==c.toList)=false):oh l c=0:=by rw[ai7 (atN _) (fun j e _=>h j e),List.drop_length];rfl
theorem arc{l:List Elem}{c:ByteArray}{P:Int->Prop}(h:∀x∈l,P x.amount)(e:P 0):P (oh l c):=by
 induction l with
 |nil=>exact e
 |cons a l j=>
  rw[oh];split
  ·exact h a (by simp)
  ·exact j (fun x n=>h x (by simp[n]))
def mW(before:Bool)(base:Int)(year:List Elem)(d:bN)(left:Int):Int:=if d.before=before then min (Io d base (oh year d.code)) left else 0
def tk(before:Bool)(base:Int)(year:List Elem):List bN->Int->List Elem
 |[],_=>[]
 |d::r,left=>(if 0<mW before base year d left then[⟨d.code,mW before base year d left⟩]else[])++tk before base year r (left-mW before base year d left)
def kF(before:Bool)(base:Int)(year:List Elem):List bN->Int->Int
 |[],left=>left
 |d::r,left=>kF before base year r (left-mW before base year d left)
def DZ(l:List bN):List bN:=(List.range 100).flatMap fun(r:Nat)=>l.filter fun d=>decide (d.aT=(r:Int))
def fj(l:List bN)(base e:Int)(year:List Elem):Int:=if gF l=false then 1 else if fE year=false then 1 else if bM base 1000000000=false then 2 else if bM e 1000000000=false then 2 else 0
def jg(l:List bN)(before:Bool)(base e:Int)(year:List Elem):List Elem:=if fj l base e year=0 then bG (tk before base year (DZ l) e)else[]
def oT(x:Elem):Bool:=bI x.code&&bM x.amount 1000000000
def nN(a b:List Elem):List Elem:=(b.foldl put a).filter nz
def fh(a b:List Elem):Int:=if fE a=false then 1 else if b.all oT=false then 1 else if 128<b.length then 3 else if 128<(nN a b).length then 3 else if(nN a b).any (fun x=>decide (1000000000000<x.amount))then 4 else 0
def nj(a b:List Elem):List Elem:=if fh a b=0 then nN a b else[]
def aB:List Elem->Int
 |[]=>0
 |x::r=>x.amount+aB r
theorem afg(l m:List Elem):aB (l++m)=aB l+aB m:=by
 induction l with
 |nil=>simp[aB]
 |cons a l e=>simp[aB,e];omega
theorem OM(l:List Elem)(B:Int)(h:∀x∈l,0<=x.amount/\x.amount<=B):0<=aB l/\aB l<=l.length*B:=by
 induction l with
 |nil=>simp[aB]
 |cons a l e=>
  have p:=e (fun x j=>h x (by simp[j]));have r:=h a (by simp);have n:((l.length+1:Nat):Int)*B=l.length*B+B:=by rw[Int.natCast_add,auN];simp
  simp only[aB,at4];rw[n];omega
