/- Conditions: as stated. -/
import Derived.Test.YtlhkojcmcmkmaaaGreatSElem
set_option maxHeartbeats 4000000
namespace Go.Proofs.YtlhkojcmcmkmaaaGreat
open Go.Proofs.Tryz
open Go.RowKit
def XH(num j e q r:Int):Int:=
 if e=0 then(if num<0 then q+1 else q)else if e=1 then(if num<0 then q else q+1)else if e=2 then q else if e=3 then q+1 else
 if j-r<r then q+1 else if r=j-r then(if e=4 then(if num<0 then q else q+1)else if e=5 then(if num<0 then q+1 else q)else(if q.tmod 2=0 then q else q+1))else q
theorem apL(num e j:Int)(y:num%e≠0):eZ num e j=XH num e j (num/e) (num%e):=by
 have E:num≠0:=by rintro rfl;simp at y
 rw[eZ,arJ y,Dr,XH,nB];by_cases z:j=0
 ·simp only[z,ash];by_cases h:num<0
  ·have:¬0<num:=(by omega);simp[h,this]
  ·have:0<num:=(by omega);simp[h,this]
 by_cases B:j=1
 ·subst B;by_cases h:num<0
  ·have:¬0<num:=(by omega);simp[h,this]
  ·have:0<num:=(by omega);simp[h,this]
 by_cases C:j=2
 ·subst C;simp
 by_cases D:j=3
 ·subst D;simp
 simp only[z,B,C,D,asj];by_cases r:num%e<e-num%e
 ·have p:¬e-num%e<num%e:=by omega
  have u:¬num%e=e-num%e:=by omega
  simp[r,p,u]
 ·by_cases p:e-num%e<num%e
  ·simp[r,p]
  ·have u:num%e=e-num%e:=(by omega);simp only[arJ r,arJ p,arK u];by_cases h:num<0
   ·have:¬0<num:=(by omega);simp only[h,this];by_cases l:j=4
    ·simp[l]
    ·by_cases n:j=5
     ·simp[n]
     ·simp[l,n]
   ·have:0<num:=(by omega);simp only[h,this];by_cases l:j=4
    ·simp[l]
    ·by_cases n:j=5
     ·simp[n]
     ·simp[l,n]
theorem abF(num j l:Int)(w:World)(M:-1000000000000000000<=num)(N:num<=1000000000000000000)(u:0<j)(X:j<=1000000000000):
  Calls prog 221 #[.int .i64 num,.int .i64 j,.int .i64 l] w fun e w'=>e=.returned (.int .i64 (eZ num j l))/\w=w':=by
 have Z:=Z9 num j u 1000000000000000000 M N (by omega);obtain⟨O,P⟩:=Z;have y:=asP num (show j≠0 by omega);have z:=asQ num u;have Y:(j==0)=false:=by simp;omega
 have Q:=Int.tmod_add_mul_tdiv num j;have R:j*num.tdiv j=num.tdiv j*j:=asn _ _;have G:=fun I=>apL num j l I;by_cases J:num.tmod j<0
 ·obtain⟨B,K⟩:=tdiv_neg num j u J;have MH:-j<num.tmod j:=by
   have:=Int.lt_tmod_of_pos num u;omega
  have e3:(num.tdiv j-1)*j=num.tdiv j*j-j:=by rw[Int.sub_mul];omega
  have F:num%j=num-(num.tdiv j-1)*j:=by omega
  have S:num<num.tdiv j*j:=by omega
  have C:num.tdiv j*j<num+j:=by omega
  have fC:0<num-(num.tdiv j-1)*j:=by omega
  have iQ:num-(num.tdiv j-1)*j<j:=by omega
  have T:-2000000000000000000<=(num.tdiv j-1)*j:=by omega
  have U:(num.tdiv j-1)*j<=2000000000000000000:=by omega
  have V:-1000000000000000000<=num.tdiv j:=by omega
  have D:num.tdiv j<=1000000000000000001:=by omega
  have p:=G (by omega);rw[<-B,F]at p;have E:=arH p;have L:(num-(num.tdiv j-1)*j==0)=false:=by simp;omega
  clear p B K e3 F O P y z Q R G J MH;go_enter func221,ntmps221;go_wp2
  all_goals go_ret
  all_goals refine⟨?_,rfl⟩
  all_goals rw[E.out,XH]
  all_goals clear E S C T U V D L M N u X Y
  all_goals generalize num-(num.tdiv j-1)*j=r at*
  all_goals simp only[beq_iff_eq,ass,ne_eq,Bool.not_eq_true',Bool.not_eq_false']at*
  all_goals repeat' split
  all_goals first|rfl|(exfalso;omega)|(exact congrArg (fun n:Int=>Ending.returned (Value.int IntKind.i64 n)) (by omega))
 ·have nv:0<=num.tmod j:=by omega
  obtain⟨B,K⟩:=ad9 num j u nv;have S:num.tdiv j*j<=num:=by omega
  have C:num<num.tdiv j*j+j:=by omega
  have F:num%j=num-num.tdiv j*j:=by omega
  have T:-2000000000000000000<=num.tdiv j*j:=by omega
  have U:num.tdiv j*j<=2000000000000000000:=by omega
  have V:-1000000000000000000<=num.tdiv j:=by omega
  have D:num.tdiv j<=1000000000000000000:=by omega
  by_cases I:num-num.tdiv j*j=0
  ·have p:eZ num j l=num.tdiv j:=(by rw[eZ,arK (by omega),B]);have E:=arH p;have L:(num-num.tdiv j*j==0)=true:=(by simp[I]);clear p B K F O P y z Q R G J I;go_enter func221,ntmps221;go_wp2;go_ret;exact⟨by rw[E.out];rfl,rfl⟩
  ·have fC:0<num-num.tdiv j*j:=(by omega);have iQ:num-num.tdiv j*j<j:=(by omega);have p:=G (by omega);rw[<-B,F]at p;have E:=arH p;have L:(num-num.tdiv j*j==0)=false:=(by simp;omega);clear p B K F O P y z Q R G J I;go_enter func221,ntmps221;go_wp2
   all_goals go_ret
   all_goals refine⟨?_,rfl⟩
   all_goals rw[E.out,XH]
   all_goals clear E S C T U V D L M N u X Y
   all_goals generalize num-num.tdiv j*j=r at*
   all_goals simp only[beq_iff_eq,ass,ne_eq,Bool.not_eq_true',Bool.not_eq_false']at*
   all_goals repeat' split
   all_goals first|rfl|(exfalso;omega)|(exact congrArg (fun n:Int=>Ending.returned (Value.int IntKind.i64 n)) (by omega))
theorem ahp(a b A B:Int)(j:-A<=a)(l:a<=A)(e:0<=b)(n:b<=B)(p:0<=A):-(A*B)<=a*b/\a*b<=A*B:=by
 have r:A*b<=A*B:=asq n p;constructor
 ·have:-A*b<=a*b:=asE j e;rw[Int.neg_mul]at this;omega
 ·have:a*b<=A*b:=asE l e;omega
theorem Nj(a num l e j:Int):Jh a num l e j=true↔(-1000000000000<=a/\a<=1000000000000/\0<=num/\num<=1000000/\1<=l/\l<=1000000/\1<=e/\e<=1000000)/\ED j=true:=by simp[Jh]
theorem ahq(a num l e j:Int)(h:Jh a num l e j=true):(-1000000000000000000<=a*num/\a*num<=1000000000000000000)/\(0<l*e/\l*e<=1000000000000)/\(-2000000000000000000<=eZ (a*num) (l*e) j*e/\eZ (a*num) (l*e) j*e<=2000000000000000000):=by
 obtain⟨⟨u,y,z,B,p,C,E,F⟩,_⟩:=(Nj ..).1 h;have M:=ahp a num 1000000000000 1000000 u y z B (by omega);have O:=ahp l e 1000000 1000000 (by omega) C (by omega) F (by omega);have P:1*1<=l*e:=asV p E (by omega) (by omega);have n:e<=l*e:=by have:1*e<=l*e:=asE p (by omega);omega
 refine⟨by omega,by omega,?_⟩;generalize Q:a*num=N at*;generalize R:l*e=D at*;have S:=as8 N D;have T:=asP N (show D≠0 by omega);have G:=asQ N (show 0<D by omega);have r:N/D<=eZ N D j/\eZ N D j<=N/D+1:=by
  unfold eZ;split
  ·omega
  ·split<;>omega
 have U:=Z9 N D (by omega) 1000000000000000000 (by omega) (by omega) (by omega);have V:(N/D)*e<=eZ N D j*e:=asE r.1 (by omega);have I:eZ N D j*e<=(N/D+1)*e:=asE r.2 (by omega);rw[asD]at I;have X:-1100000000000000000<=(N/D)*e/\(N/D)*e<=1100000000000000000:=by
  rcases Int.le_total 0 (N/D)with h0|h0
  ·have J:(N/D)*e<=(N/D)*D:=asq n h0;have K:0<=(N/D)*e:=asg h0 (by omega);have L:D*(N/D)=(N/D)*D:=asn _ _;omega
  ·have J:(N/D)*D<=(N/D)*e:=Int.mul_le_mul_of_nonpos_left h0 n;have K:(N/D)*e<=0:=Int.mul_nonpos_of_nonpos_of_nonneg h0 (by omega);have L:D*(N/D)=(N/D)*D:=asn _ _;omega
 omega
theorem ahr{a num l e j:Int}(h:Jh a num l e j=false):mG a num l e j=2/\gM a num l e j=0:=by
 have:mG a num l e j=2:=by rw[mG,arK h]
 exact⟨this,by rw[gM,arJ (by omega)]⟩
theorem Vx(a num j unit mode:Int)(w:World):
  Calls prog 60 #[.int .i64 a,.int .i64 num,.int .i64 j,.int .i64 unit,.int .i64 mode] w fun e w'=>e=.returned (.tuple #[.int .i64 (gM a num j unit mode),.int .i64 (mG a num j unit mode)])/\∃q,w'=w.drewN q:=by
 rcases l:Jh a num j unit mode with _|_
 ·obtain⟨D,E⟩:=ahr l;rw[D,E];have F:=arH l;clear l D E;by_cases M:-1000000000000<=a;rotate_left
  ·go_enter func60,ntmps60;go_wp2_with(go_at_call 115;refine(Fq _ _).mono ?_;rintro e w' ⟨rfl,rfl⟩);go_ret2;exact⟨rfl,0,rfl⟩
  by_cases N:a<=1000000000000;rotate_left
  ·go_enter func60,ntmps60;go_wp2_with(go_at_call 115;refine(Fq _ _).mono ?_;rintro e w' ⟨rfl,rfl⟩);go_ret2;exact⟨rfl,0,rfl⟩
  by_cases O:0<=num;rotate_left
  ·go_enter func60,ntmps60;go_wp2_with(go_at_call 115;refine(Fq _ _).mono ?_;rintro e w' ⟨rfl,rfl⟩);go_ret2;exact⟨rfl,0,rfl⟩
  by_cases P:num<=1000000;rotate_left
  ·go_enter func60,ntmps60;go_wp2_with(go_at_call 115;refine(Fq _ _).mono ?_;rintro e w' ⟨rfl,rfl⟩);go_ret2;exact⟨rfl,0,rfl⟩
  by_cases Q:1<=j;rotate_left
  ·go_enter func60,ntmps60;go_wp2_with(go_at_call 115;refine(Fq _ _).mono ?_;rintro e w' ⟨rfl,rfl⟩);go_ret2;exact⟨rfl,0,rfl⟩
  by_cases R:j<=1000000;rotate_left
  ·go_enter func60,ntmps60;go_wp2_with(go_at_call 115;refine(Fq _ _).mono ?_;rintro e w' ⟨rfl,rfl⟩);go_ret2;exact⟨rfl,0,rfl⟩
  by_cases S:1<=unit;rotate_left
  ·go_enter func60,ntmps60;go_wp2_with(go_at_call 115;refine(Fq _ _).mono ?_;rintro e w' ⟨rfl,rfl⟩);go_ret2;exact⟨rfl,0,rfl⟩
  by_cases T:unit<=1000000;rotate_left
  ·go_enter func60,ntmps60;go_wp2_with(go_at_call 115;refine(Fq _ _).mono ?_;rintro e w' ⟨rfl,rfl⟩);go_ret2;exact⟨rfl,0,rfl⟩
  skip
  rcases G:ED mode with _|_
  ·go_enter func60,ntmps60;go_wp2_with(go_at_call 115;refine(Fq _ _).mono ?_;rintro e w' ⟨rfl,rfl⟩);go_ret2;exact⟨rfl,0,rfl⟩
  ·have:=(Nj a num j unit mode).2 ⟨⟨by omega,by omega,by omega,by omega,by omega,by omega,by omega,by omega⟩,G⟩;rw[F.out]at this;cases this
 ·obtain⟨⟨u,y⟩,⟨z,B⟩,U,V⟩:=ahq a num j unit mode l;obtain⟨⟨X,Y,Z,h4,h5,h6,h7,h8⟩,G⟩:=(Nj ..).1 l;have I:mG a num j unit mode=if Cj (mF a num j unit mode)=false then 4 else 0:=by rw[mG,arJ (by simp[l])]
  have C:=arH I;clear I;have F:=arH l;clear l;by_cases J:-1000000000000<=eZ (a*num) (j*unit) mode*unit
  ·by_cases K:eZ (a*num) (j*unit) mode*unit<=1000000000000
   ·have n:Hid (mG a num j unit mode=0):=(by rw[Hid,C.out,arJ (by simp[Cj,mF,J,K])]);have p:Hid (gM a num j unit mode=eZ (a*num) (j*unit) mode*unit):=(by rw[Hid,gM,arK n.out];rfl);go_enter func60,ntmps60;go_wp2_with(go_at_call 115;refine(Fq _ _).mono ?_;rintro e w' ⟨rfl,rfl⟩);refine(aaa _ _ _ _ u y z B).mono ?_;rintro e L ⟨rfl,r,rfl⟩;go_wp2;go_ret2;exact⟨by rw[n.out,p.out];rfl,r,rfl⟩
   ·have n:Hid (mG a num j unit mode=4):=(by rw[Hid,C.out,arK (by simp[Cj,mF,K])]);have p:Hid (gM a num j unit mode=0):=(by rw[Hid,gM,arJ (by rw[n.out];omega)]);go_enter func60,ntmps60;go_wp2_with(go_at_call 115;refine(Fq _ _).mono ?_;rintro e w' ⟨rfl,rfl⟩);refine(aaa _ _ _ _ u y z B).mono ?_;rintro e L ⟨rfl,r,rfl⟩;go_wp2;go_ret2;exact⟨by rw[n.out,p.out];rfl,r,rfl⟩
  ·have n:Hid (mG a num j unit mode=4):=(by rw[Hid,C.out,arK (by simp[Cj,mF,J])]);have p:Hid (gM a num j unit mode=0):=(by rw[Hid,gM,arJ (by rw[n.out];omega)]);go_enter func60,ntmps60;go_wp2_with(go_at_call 115;refine(Fq _ _).mono ?_;rintro e w' ⟨rfl,rfl⟩);refine(aaa _ _ _ _ u y z B).mono ?_;rintro e L ⟨rfl,r,rfl⟩;go_wp2;go_ret2;exact⟨by rw[n.out,p.out];rfl,r,rfl⟩
theorem Yo(a num n j l:Int)(w:World):
  Calls prog 178 #[.int .i64 a,.int .i64 num,.int .i64 n,.int .i64 j,.int .i64 l] w fun e w'=>e=.returned (.tuple #[.int .i64 (gM a num n j l),.int .i64 (mG a num n j l)])/\w=w':=by
 rcases p:Jh a num n j l with _|_
 ·obtain⟨E,F⟩:=ahr p;rw[E,F];have G:=arH p;clear p E F;by_cases N:-1000000000000<=a;rotate_left
  ·go_enter func178,ntmps178;go_wp2_with(go_at_call 179;refine(Cy _ _).mono ?_;rintro e w' ⟨rfl,rfl⟩);go_ret2;exact⟨rfl,rfl⟩
  by_cases O:a<=1000000000000;rotate_left
  ·go_enter func178,ntmps178;go_wp2_with(go_at_call 179;refine(Cy _ _).mono ?_;rintro e w' ⟨rfl,rfl⟩);go_ret2;exact⟨rfl,rfl⟩
  by_cases P:0<=num;rotate_left
  ·go_enter func178,ntmps178;go_wp2_with(go_at_call 179;refine(Cy _ _).mono ?_;rintro e w' ⟨rfl,rfl⟩);go_ret2;exact⟨rfl,rfl⟩
  by_cases Q:num<=1000000;rotate_left
  ·go_enter func178,ntmps178;go_wp2_with(go_at_call 179;refine(Cy _ _).mono ?_;rintro e w' ⟨rfl,rfl⟩);go_ret2;exact⟨rfl,rfl⟩
  by_cases R:1<=n;rotate_left
  ·go_enter func178,ntmps178;go_wp2_with(go_at_call 179;refine(Cy _ _).mono ?_;rintro e w' ⟨rfl,rfl⟩);go_ret2;exact⟨rfl,rfl⟩
  by_cases S:n<=1000000;rotate_left
  ·go_enter func178,ntmps178;go_wp2_with(go_at_call 179;refine(Cy _ _).mono ?_;rintro e w' ⟨rfl,rfl⟩);go_ret2;exact⟨rfl,rfl⟩
  by_cases T:1<=j;rotate_left
  ·go_enter func178,ntmps178;go_wp2_with(go_at_call 179;refine(Cy _ _).mono ?_;rintro e w' ⟨rfl,rfl⟩);go_ret2;exact⟨rfl,rfl⟩
  by_cases U:j<=1000000;rotate_left
  ·go_enter func178,ntmps178;go_wp2_with(go_at_call 179;refine(Cy _ _).mono ?_;rintro e w' ⟨rfl,rfl⟩);go_ret2;exact⟨rfl,rfl⟩
  skip
  rcases I:ED l with _|_
  ·go_enter func178,ntmps178;go_wp2_with(go_at_call 179;refine(Cy _ _).mono ?_;rintro e w' ⟨rfl,rfl⟩);go_ret2;exact⟨rfl,rfl⟩
  ·have:=(Nj a num n j l).2 ⟨⟨by omega,by omega,by omega,by omega,by omega,by omega,by omega,by omega⟩,I⟩;rw[G.out]at this;cases this
 ·obtain⟨⟨y,z⟩,⟨B,C⟩,V,X⟩:=ahq a num n j l p;obtain⟨⟨Y,Z,h3,h4,h5,h6,h7,h8⟩,I⟩:=(Nj ..).1 p;have J:mG a num n j l=if Cj (mF a num n j l)=false then 4 else 0:=by rw[mG,arJ (by simp[p])]
  have D:=arH J;clear J;have G:=arH p;clear p;by_cases K:-1000000000000<=eZ (a*num) (n*j) l*j
  ·by_cases L:eZ (a*num) (n*j) l*j<=1000000000000
   ·have r:Hid (mG a num n j l=0):=(by rw[Hid,D.out,arJ (by simp[Cj,mF,K,L])]);have u:Hid (gM a num n j l=eZ (a*num) (n*j) l*j):=(by rw[Hid,gM,arK r.out];rfl);go_enter func178,ntmps178;go_wp2_with(go_at_call 179;refine(Cy _ _).mono ?_;rintro e w' ⟨rfl,rfl⟩);refine(abF _ _ _ _ y z B C).mono ?_;rintro e M ⟨rfl,rfl⟩;go_wp2;go_ret2;exact⟨by rw[r.out,u.out];rfl,rfl⟩
   ·have r:Hid (mG a num n j l=4):=(by rw[Hid,D.out,arK (by simp[Cj,mF,L])]);have u:Hid (gM a num n j l=0):=(by rw[Hid,gM,arJ (by rw[r.out];omega)]);go_enter func178,ntmps178;go_wp2_with(go_at_call 179;refine(Cy _ _).mono ?_;rintro e w' ⟨rfl,rfl⟩);refine(abF _ _ _ _ y z B C).mono ?_;rintro e M ⟨rfl,rfl⟩;go_wp2;go_ret2;exact⟨by rw[r.out,u.out];rfl,rfl⟩
  ·have r:Hid (mG a num n j l=4):=(by rw[Hid,D.out,arK (by simp[Cj,mF,K])]);have u:Hid (gM a num n j l=0):=(by rw[Hid,gM,arJ (by rw[r.out];omega)]);go_enter func178,ntmps178;go_wp2_with(go_at_call 179;refine(Cy _ _).mono ?_;rintro e w' ⟨rfl,rfl⟩);refine(abF _ _ _ _ y z B C).mono ?_;rintro e M ⟨rfl,rfl⟩;go_wp2;go_ret2;exact⟨by rw[r.out,u.out];rfl,rfl⟩
theorem abE(a num mode:Int)(e:0<=a)(y:a<=1000000000000)(j:0<=num)(l:num<=1000000)(p:ED mode=true):mG a num 1000000 1 mode=0/\0<=gM a num 1000000 1 mode/\gM a num 1000000 1 mode<=a:=by
 have r:Jh a num 1000000 1 mode=true:=(Nj ..).2 ⟨⟨by omega,by omega,j,l,by omega,by omega,by omega,by omega⟩,p⟩;have z:0<=a*num:=asg e j;have B:a*num<=a*1000000:=asq l e;have u:0<=mF a num 1000000 1 mode/\mF a num 1000000 1 mode<=a:=by
  unfold mF eZ;rw[Int.mul_one,show(1000000:Int)*1=1000000 from rfl];generalize a*num=N at*;split
  ·omega
  ·split<;>omega
 have n:mG a num 1000000 1 mode=0:=by rw[mG,arJ (by simp[r]),arJ];simp only[Cj];simp;omega
 rw[gM,arK n];exact⟨n,u⟩
structure bP where
 code:ByteArray
 bY:Int
 before:Bool
 amount:Int
 bH:Int
 cap:Int
deriving DecidableEq
def kB(x:bP):List Value:=[.string x.code,.int .i64 x.bY,.bool x.before,.int .i64 x.amount,.int .i64 x.bH,.int .i64 x.cap]
theorem IJ(x:bP):(kB x).length=6:=rfl
theorem acw(x:bP):∀u∈kB x,u.oneCell'=true:=by intro u hu;simp[kB]at hu;rcases hu with rfl|rfl|rfl|rfl|rfl|rfl<;>rfl
theorem aj0:(Tryz.prog.info? 166).map (fun i=>(i.zero,i.size,i.bytes))=some (some (.agg #[.string ⟨#[]⟩,.int .i64 0,.bool false,.int .i64 0,.int .i64 0,.int .i64 0]),6,56):=by kernel_rfl
def bJ(n m:Int):Bool:=decide (0<=n/\n<=m)
theorem im{n m:Int}:bJ n m=true↔0<=n/\n<=m:=by simp[bJ]
theorem IL{n m:Int}:bJ n m=false↔(n<0\/m<n):=by simp[bJ];omega
theorem Vy{n m:Int}(h:bJ n m=true):0<=n:=(im.1 h).1
theorem Vz{n m:Int}(h:bJ n m=true):n<=m:=(im.1 h).2
def BH{j:Type}(e:j->ByteArray)(l:List j)(i:Nat)(x:j):Bool:=decide (i=0)||(match l[i-1]?with|some p=>Op.bytesLess (e p).toList (e x).toList|none=>true)
theorem ahs{j:Type}(e:j->ByteArray)(l:List j)(x:j):BH e l 0 x=true:=by simp[BH]
theorem Vw{j:Type}(e:j->ByteArray)(l:List j)(m:Nat)(x:j)(h:m<l.length):BH e l (m+1) x=Op.bytesLess (e l[m]).toList (e x).toList:=by simp[BH,arW h]
def lJ(e:List bP)(i:Nat)(x:bP):Bool:=bK x.code&&BH bP.code e i x&&bJ x.bY 99&&bJ x.amount 1000000000&&bJ x.cap 1000000000&&bJ x.bH 1000000
def mC(e:List Elem)(i:Nat)(x:Elem):Bool:=bK x.code&&BH Elem.code e i x&&bJ x.amount 1000000000000
def Io{j:Type}(ok:List j->Nat->j->Bool)(n:Nat)(e:List j):Bool:=decide (e.length<=n)&&decide (∀i,(h:i<e.length)->ok e i e[i]=true)
def gl(e:List bP):Bool:=Io lJ 16 e
def eP(e:List Elem):Bool:=Io mC 128 e
theorem Vu{j:Type}{ok:List j->Nat->j->Bool}{n:Nat}{e:List j}{i:Nat}(h:i<e.length)(l:ok e i e[i]=false):Io ok n e=false:=by unfold Io;simp only[Bool.and_eq_false_iff,asF];right;intro p;have:=p i h;rw[l]at this;cases this
theorem Vv{j:Type}{ok:List j->Nat->j->Bool}{n:Nat}{e:List j}(l:e.length<=n)(h:∀i,(h:i<e.length)->ok e i e[i]=true):Io ok n e=true:=by unfold Io;simp only[ar5,ar7];exact⟨l,h⟩
theorem Vt{e:Type}{ok:List e->Nat->e->Bool}{n:Nat}{j:List e}(l:n<j.length):Io ok n j=false:=by unfold Io;simp only[Bool.and_eq_false_iff,asF];exact .inl (by omega)
theorem abG{j:Type}{ok:List j->Nat->j->Bool}{n:Nat}{e:List j}:Io ok n e=true↔e.length<=n/\∀i,(h:i<e.length)->ok e i e[i]=true:=by unfold Io;simp only[ar5,ar7]
structure AO(d:bP):Prop where
 name:bK d.code=true
 r0:0<=d.bY
 r1:d.bY<=99
 a0:0<=d.amount
 a1:d.amount<=1000000000
 c0:0<=d.cap
 c1:d.cap<=1000000000
 t0:0<=d.bH
 t1:d.bH<=1000000
theorem aht{l:List bP}{i:Nat}{x:bP}(h:lJ l i x=true):AO x:=by simp only[lJ,ar5,im]at h;obtain⟨⟨⟨⟨⟨n,_⟩,p,r⟩,u,y⟩,z,e⟩,B,j⟩:=h;exact⟨n,p,r,u,y,z,e,B,j⟩
theorem ahu{e:List bP}{i:Nat}{x:bP}(h:AO x)(j:BH bP.code e i x=true):lJ e i x=true:=by simp only[lJ,ar5,im];exact⟨⟨⟨⟨⟨h.name,j⟩,h.r0,h.r1⟩,h.a0,h.a1⟩,h.c0,h.c1⟩,h.t0,h.t1⟩
theorem UI{d:bP}:gl [d]=true↔AO d:=by
 rw[gl,abG];constructor
 ·rintro⟨_,h⟩;exact aht (h 0 (by simp))
 ·intro h;refine⟨by simp,fun i hi=>?_⟩;obtain rfl:i=0:=by simp at hi;omega
  exact ahu h (ahs ..)
theorem ahv{r:Type}(e:r->ByteArray):∀(l:List r),(∀i,(h:i<l.length)->BH e l i l[i]=true)->l.Pairwise (fun a b=>Op.bytesLess (e a).toList (e b).toList=true):=by
 intro l h;rw[asz];have p:∀m,(n:m+1<l.length)->(e l[m]).toList<(e l[m+1]).toList:=by intro m n;have u:=h (m+1) n;rw[Vw _ _ _ _ (by omega),B2]at u;simpa using u
 have far:∀d i,(n:i+d+1<l.length)->(e (l[i]'(by omega))).toList<(e l[i+d+1]).toList:=by
  intro d
  induction d with
  |zero=>intro i n;exact p i n
  |succ d y=>intro i n;exact List.lt_trans (y i (by omega)) (p (i+d+1) n)
 intro i j hi z B;obtain⟨d,rfl⟩:∃d,j=i+d+1:=⟨j-i-1,by omega⟩
 rw[B2];simpa using far d i z
theorem ahw{l:Type}(e:l->ByteArray){j:List l}(h:j.Pairwise (fun a b=>Op.bytesLess (e a).toList (e b).toList=true))(i:Nat)(hi:i<j.length):BH e j i j[i]=true:=by
 cases i with
 |zero=>exact ahs ..
 |succ m=>rw[Vw _ _ _ _ (by omega)];exact asz.1 h m (m+1) (by omega) hi (by omega)
theorem IM{e:List bP}:gl e=true↔e.length<=16/\(∀x∈e,AO x)/\e.Pairwise (fun a b=>Op.bytesLess a.code.toList b.code.toList=true):=by
 rw[gl,abG];constructor
 ·rintro⟨l,j⟩;refine⟨l,fun x n=>?_,ahv bP.code e fun i hi=>?_⟩
  ·obtain⟨i,hi,rfl⟩:=aso.1 n;exact aht (j i hi)
  ·have:=j i hi;simp only[lJ,ar5]at this;exact this.1.1.1.1.2
 ·rintro⟨l,j,p⟩;exact⟨l,fun i hi=>ahu (j _ (arO hi)) (ahw bP.code p i hi)⟩
theorem pZ{e:List Elem}:eP e=true↔e.length<=128/\(∀x∈e,bK x.code=true/\0<=x.amount/\x.amount<=1000000000000)/\jc e:=by
 rw[eP,abG];constructor
 ·rintro⟨l,j⟩;refine⟨l,fun x n=>?_,ahv Elem.code e fun i hi=>?_⟩
  ·obtain⟨i,hi,rfl⟩:=aso.1 n;have:=j i hi;simp only[mC,ar5,im]at this;exact⟨this.1.1,this.2⟩
  ·have:=j i hi;simp only[mC,ar5]at this;exact this.1.2
 ·rintro⟨l,j,p⟩;refine⟨l,fun i hi=>?_⟩;obtain⟨r,u⟩:=j _ (arO hi);simp only[mC,ar5,im];exact⟨⟨r,ahw Elem.code p i hi⟩,u⟩
def OU(d:bP)(base:Int):Int:=min (d.amount+gM base d.bH 1000000 1 4) 1000000000
def G6(d:bP)(base taken:Int):Int:=if 0<d.cap then min (OU d base) (max (d.cap-taken) 0)else OU d base
def Gp(d:bP)(base taken:Int):Int:=if gl [d]=false then 1 else if bJ base 1000000000=false then 2 else if bJ taken 1000000000000=false then 2 else 0
def J5(d:bP)(base taken:Int):Int:=if Gp d base taken=0 then G6 d base taken else 0
theorem Z2{d:bP}{base:Int}(h:AO d)(e:0<=base)(j:base<=1000000000):mG base d.bH 1000000 1 4=0/\0<=gM base d.bH 1000000 1 4/\gM base d.bH 1000000 1 4<=1000000000/\0<=OU d base/\OU d base<=1000000000:=by obtain⟨a,b,c⟩:=abE base d.bH 4 e (by omega) h.t0 h.t1 (by decide);have:=h.a0;refine⟨a,b,by omega,?_,?_⟩<;>unfold OU<;>omega
theorem YJ{d:bP}{base taken:Int}(h:AO d)(e:0<=base)(j:base<=1000000000):0<=G6 d base taken/\G6 d base taken<=1000000000:=by obtain⟨_,_,_,a,b⟩:=Z2 h e j;unfold G6;split<;>omega
def nC(l:List Elem)(c:ByteArray):Int:=match l with|[]=>0|x::r=>if x.code.toList==c.toList then x.amount else nC r c
theorem ahx{l:List Elem}{c:ByteArray}{k:Nat}(n:k<=l.length)(h:∀j,(p:j<l.length)->j<k->(l[j].code.toList==c.toList)=false):nC l c=nC (l.drop k) c:=by
 induction l generalizing k with
 |nil=>simp
 |cons a l r=>
  cases k with
  |zero=>simp
  |succ k=>have e:=h 0 (by simp) (by omega);simp only[List.getElem_cons_zero]at e;rw[nC,e,List.drop_succ_cons];exact r (by simp at n;omega) (fun j p u=>by have:=h (j+1) (by simp;omega) (by omega);simpa using this)
theorem adX{l:List Elem}{c:ByteArray}{k:Nat}(e:k<l.length)(h:∀j,(p:j<l.length)->j<k->(l[j].code.toList==c.toList)=false)(n:(l[k].code.toList==c.toList)=true):nC l c=l[k].amount:=by rw[ahx (by omega) h,List.drop_eq_getElem_cons e,nC,n];rfl
theorem adY{l:List Elem}{c:ByteArray}(h:∀j,(e:j<l.length)->(l[j].code.toList==c.toList)=false):nC l c=0:=by rw[ahx (arI _) (fun j e _=>h j e),List.drop_length];rfl
theorem apu{l:List Elem}{c:ByteArray}{P:Int->Prop}(h:∀x∈l,P x.amount)(e:P 0):P (nC l c):=by
 induction l with
 |nil=>exact e
 |cons a l j=>
  rw[nC];split
  ·exact h a (by simp)
  ·exact j (fun x n=>h x (by simp[n]))
def my(before:Bool)(base:Int)(year:List Elem)(d:bP)(left:Int):Int:=if d.before=before then min (G6 d base (nC year d.code)) left else 0
def tk(before:Bool)(base:Int)(year:List Elem):List bP->Int->List Elem
 |[],_=>[]
 |d::r,left=>(if 0<my before base year d left then[⟨d.code,my before base year d left⟩]else[])++tk before base year r (left-my before base year d left)
def km(before:Bool)(base:Int)(year:List Elem):List bP->Int->Int
 |[],left=>left
 |d::r,left=>km before base year r (left-my before base year d left)
def DR(l:List bP):List bP:=(List.range 100).flatMap fun(r:Nat)=>l.filter fun d=>decide (d.bY=(r:Int))
def eK(l:List bP)(base e:Int)(year:List Elem):Int:=if gl l=false then 1 else if eP year=false then 1 else if bJ base 1000000000=false then 2 else if bJ e 1000000000=false then 2 else 0
def iI(l:List bP)(before:Bool)(base e:Int)(year:List Elem):List Elem:=if eK l base e year=0 then bF (tk before base year (DR l) e)else[]
def nW(x:Elem):Bool:=bK x.code&&bJ x.amount 1000000000
def mn(a b:List Elem):List Elem:=(b.foldl put a).filter nz
def eA(a b:List Elem):Int:=if eP a=false then 1 else if b.all nW=false then 1 else if 128<b.length then 3 else if 128<(mn a b).length then 3 else if(mn a b).any (fun x=>decide (1000000000000<x.amount))then 4 else 0
def lj(a b:List Elem):List Elem:=if eA a b=0 then mn a b else[]
def aR:List Elem->Int
 |[]=>0
 |x::r=>x.amount+aR r
theorem ad0(l m:List Elem):aR (l++m)=aR l+aR m:=by
 induction l with
 |nil=>simp[aR]
 |cons a l e=>simp[aR,e];omega
theorem N3(l:List Elem)(B:Int)(h:∀x∈l,0<=x.amount/\x.amount<=B):0<=aR l/\aR l<=l.length*B:=by
 induction l with
 |nil=>simp[aR]
 |cons a l e=>
  have p:=e (fun x j=>h x (by simp[j]));have r:=h a (by simp);have n:((l.length+1:Nat):Int)*B=l.length*B+B:=by rw[atj,asD];simp
  simp only[aR,arZ];rw[n];omega
