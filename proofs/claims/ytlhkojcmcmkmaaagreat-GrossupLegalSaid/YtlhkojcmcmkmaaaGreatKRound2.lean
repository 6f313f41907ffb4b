/- Conditions: as stated. -/
import Derived.Test.YtlhkojcmcmkmaaaGreatKElem
set_option maxHeartbeats 4000000
namespace Go.Proofs.YtlhkojcmcmkmaaaGreat
open Go.Proofs.Tryz
open Go.RowKit
def WZ(num j e q r:Int):Int:=
 if e=0 then(if num<0 then q+1 else q)else if e=1 then(if num<0 then q else q+1)else if e=2 then q else if e=3 then q+1 else
 if j-r<r then q+1 else if r=j-r then(if e=4 then(if num<0 then q else q+1)else if e=5 then(if num<0 then q+1 else q)else(if q.tmod 2=0 then q else q+1))else q
theorem aph(num e j:Int)(y:num%e≠0):eR num e j=WZ num e j (num/e) (num%e):=by
 have E:num≠0:=by rintro rfl;simp at y
 rw[eR,aq8 y,CP,WZ,mS];by_cases z:j=0
 ·simp only[z,arI];by_cases h:num<0
  ·have:¬0<num:=(by omega);simp[h,this]
  ·have:0<num:=(by omega);simp[h,this]
 by_cases B:j=1
 ·subst B;by_cases h:num<0
  ·have:¬0<num:=(by omega);simp[h,this]
  ·have:0<num:=(by omega);simp[h,this]
 by_cases C:j=2
 ·subst C;simp
 by_cases D:j=3
 ·subst D;simp
 simp only[z,B,C,D,arK];by_cases r:num%e<e-num%e
 ·have p:¬e-num%e<num%e:=by omega
  have u:¬num%e=e-num%e:=by omega
  simp[r,p,u]
 ·by_cases p:e-num%e<num%e
  ·simp[r,p]
  ·have u:num%e=e-num%e:=(by omega);simp only[aq8 r,aq8 p,aq9 u];by_cases h:num<0
   ·have:¬0<num:=(by omega);simp only[h,this];by_cases l:j=4
    ·simp[l]
    ·by_cases n:j=5
     ·simp[n]
     ·simp[l,n]
   ·have:0<num:=(by omega);simp only[h,this];by_cases l:j=4
    ·simp[l]
    ·by_cases n:j=5
     ·simp[n]
     ·simp[l,n]
theorem abl(num j l:Int)(w:World)(M:-1000000000000000000<=num)(N:num<=1000000000000000000)(u:0<j)(X:j<=1000000000000):
  Calls prog 221 #[.int .i64 num,.int .i64 j,.int .i64 l] w fun e w'=>e=.returned (.int .i64 (eR num j l))/\w=w':=by
 have Z:=Zy num j u 1000000000000000000 M N (by omega);obtain⟨O,P⟩:=Z;have y:=asg num (show j≠0 by omega);have z:=ash num u;have Y:(j==0)=false:=by simp;omega
 have Q:=Int.tmod_add_mul_tdiv num j;have R:j*num.tdiv j=num.tdiv j*j:=arO _ _;have G:=fun I=>aph num j l I;by_cases J:num.tmod j<0
 ·obtain⟨B,K⟩:=tdiv_neg num j u J;have Mf:-j<num.tmod j:=by
   have:=Int.lt_tmod_of_pos num u;omega
  have e3:(num.tdiv j-1)*j=num.tdiv j*j-j:=by rw[Int.sub_mul];omega
  have F:num%j=num-(num.tdiv j-1)*j:=by omega
  have S:num<num.tdiv j*j:=by omega
  have C:num.tdiv j*j<num+j:=by omega
  have jP:0<num-(num.tdiv j-1)*j:=by omega
  have jM:num-(num.tdiv j-1)*j<j:=by omega
  have T:-2000000000000000000<=(num.tdiv j-1)*j:=by omega
  have U:(num.tdiv j-1)*j<=2000000000000000000:=by omega
  have V:-1000000000000000000<=num.tdiv j:=by omega
  have D:num.tdiv j<=1000000000000000001:=by omega
  have p:=G (by omega);rw[<-B,F]at p;have E:=aq6 p;have L:(num-(num.tdiv j-1)*j==0)=false:=by simp;omega
  clear p B K e3 F O P y z Q R G J Mf;go_enter func221,ntmps221;go_wp2
  all_goals go_ret
  all_goals refine⟨?_,rfl⟩
  all_goals rw[E.out,WZ]
  all_goals clear E S C T U V D L M N u X Y
  all_goals generalize num-(num.tdiv j-1)*j=r at*
  all_goals simp only[beq_iff_eq,arS,ne_eq,Bool.not_eq_true',Bool.not_eq_false']at*
  all_goals repeat' split
  all_goals first|rfl|(exfalso;omega)|(exact congrArg (fun n:Int=>Ending.returned (Value.int IntKind.i64 n)) (by omega))
 ·have mq:0<=num.tmod j:=by omega
  obtain⟨B,K⟩:=adV num j u mq;have S:num.tdiv j*j<=num:=by omega
  have C:num<num.tdiv j*j+j:=by omega
  have F:num%j=num-num.tdiv j*j:=by omega
  have T:-2000000000000000000<=num.tdiv j*j:=by omega
  have U:num.tdiv j*j<=2000000000000000000:=by omega
  have V:-1000000000000000000<=num.tdiv j:=by omega
  have D:num.tdiv j<=1000000000000000000:=by omega
  by_cases I:num-num.tdiv j*j=0
  ·have p:eR num j l=num.tdiv j:=(by rw[eR,aq9 (by omega),B]);have E:=aq6 p;have L:(num-num.tdiv j*j==0)=true:=(by simp[I]);clear p B K F O P y z Q R G J I;go_enter func221,ntmps221;go_wp2;go_ret;exact⟨by rw[E.out];rfl,rfl⟩
  ·have jP:0<num-num.tdiv j*j:=(by omega);have jM:num-num.tdiv j*j<j:=(by omega);have p:=G (by omega);rw[<-B,F]at p;have E:=aq6 p;have L:(num-num.tdiv j*j==0)=false:=(by simp;omega);clear p B K F O P y z Q R G J I;go_enter func221,ntmps221;go_wp2
   all_goals go_ret
   all_goals refine⟨?_,rfl⟩
   all_goals rw[E.out,WZ]
   all_goals clear E S C T U V D L M N u X Y
   all_goals generalize num-num.tdiv j*j=r at*
   all_goals simp only[beq_iff_eq,arS,ne_eq,Bool.not_eq_true',Bool.not_eq_false']at*
   all_goals repeat' split
   all_goals first|rfl|(exfalso;omega)|(exact congrArg (fun n:Int=>Ending.returned (Value.int IntKind.i64 n)) (by omega))
theorem ag9(a b A B:Int)(j:-A<=a)(l:a<=A)(e:0<=b)(n:b<=B)(p:0<=A):-(A*B)<=a*b/\a*b<=A*B:=by
 have r:A*b<=A*B:=arP n p;constructor
 ·have:-A*b<=a*b:=ar3 j e;rw[Int.neg_mul]at this;omega
 ·have:a*b<=A*b:=ar3 l e;omega
theorem MK(a num l e j:Int):IX a num l e j=true↔(-1000000000000<=a/\a<=1000000000000/\0<=num/\num<=1000000/\1<=l/\l<=1000000/\1<=e/\e<=1000000)/\D6 j=true:=by simp[IX]
theorem aha(a num l e j:Int)(h:IX a num l e j=true):(-1000000000000000000<=a*num/\a*num<=1000000000000000000)/\(0<l*e/\l*e<=1000000000000)/\(-2000000000000000000<=eR (a*num) (l*e) j*e/\eR (a*num) (l*e) j*e<=2000000000000000000):=by
 obtain⟨⟨u,y,z,B,p,C,E,F⟩,_⟩:=(MK ..).1 h;have O:=ag9 a num 1000000000000 1000000 u y z B (by omega);have P:=ag9 l e 1000000 1000000 (by omega) C (by omega) F (by omega);have Q:1*1<=l*e:=asm p E (by omega) (by omega);have n:e<=l*e:=by have:1*e<=l*e:=ar3 p (by omega);omega
 refine⟨by omega,by omega,?_⟩;generalize R:a*num=N at*;generalize S:l*e=D at*;have T:=asA N D;have U:=asg N (show D≠0 by omega);have G:=ash N (show 0<D by omega);have r:N/D<=eR N D j/\eR N D j<=N/D+1:=by
  unfold eR;split
  ·omega
  ·split<;>omega
 have I:=Zy N D (by omega) 1000000000000000000 (by omega) (by omega) (by omega);have V:(N/D)*e<=eR N D j*e:=ar3 r.1 (by omega);have J:eR N D j*e<=(N/D+1)*e:=ar3 r.2 (by omega);rw[ar2]at J;have X:-1100000000000000000<=(N/D)*e/\(N/D)*e<=1100000000000000000:=by
  rcases Int.le_total 0 (N/D)with h0|h0
  ·have K:(N/D)*e<=(N/D)*D:=arP n h0;have L:0<=(N/D)*e:=arH h0 (by omega);have M:D*(N/D)=(N/D)*D:=arO _ _;omega
  ·have K:(N/D)*D<=(N/D)*e:=Int.mul_le_mul_of_nonpos_left h0 n;have L:(N/D)*e<=0:=Int.mul_nonpos_of_nonpos_of_nonneg h0 (by omega);have M:D*(N/D)=(N/D)*D:=arO _ _;omega
 omega
theorem ahb{a num l e j:Int}(h:IX a num l e j=false):l9 a num l e j=2/\gF a num l e j=0:=by
 have:l9 a num l e j=2:=by rw[l9,aq9 h]
 exact⟨this,by rw[gF,aq8 (by omega)]⟩
theorem U3(a num j unit mode:Int)(w:World):
  Calls prog 60 #[.int .i64 a,.int .i64 num,.int .i64 j,.int .i64 unit,.int .i64 mode] w fun e w'=>e=.returned (.tuple #[.int .i64 (gF a num j unit mode),.int .i64 (l9 a num j unit mode)])/\∃q,w'=w.drewN q:=by
 rcases l:IX a num j unit mode with _|_
 ·obtain⟨D,E⟩:=ahb l;rw[D,E];have F:=aq6 l;clear l D E;by_cases M:-1000000000000<=a;rotate_left
  ·go_enter func60,ntmps60;go_wp2_with(go_at_call 115;refine(ER _ _).mono ?_;rintro e w' ⟨rfl,rfl⟩);go_ret2;exact⟨rfl,0,rfl⟩
  by_cases N:a<=1000000000000;rotate_left
  ·go_enter func60,ntmps60;go_wp2_with(go_at_call 115;refine(ER _ _).mono ?_;rintro e w' ⟨rfl,rfl⟩);go_ret2;exact⟨rfl,0,rfl⟩
  by_cases O:0<=num;rotate_left
  ·go_enter func60,ntmps60;go_wp2_with(go_at_call 115;refine(ER _ _).mono ?_;rintro e w' ⟨rfl,rfl⟩);go_ret2;exact⟨rfl,0,rfl⟩
  by_cases P:num<=1000000;rotate_left
  ·go_enter func60,ntmps60;go_wp2_with(go_at_call 115;refine(ER _ _).mono ?_;rintro e w' ⟨rfl,rfl⟩);go_ret2;exact⟨rfl,0,rfl⟩
  by_cases Q:1<=j;rotate_left
  ·go_enter func60,ntmps60;go_wp2_with(go_at_call 115;refine(ER _ _).mono ?_;rintro e w' ⟨rfl,rfl⟩);go_ret2;exact⟨rfl,0,rfl⟩
  by_cases R:j<=1000000;rotate_left
  ·go_enter func60,ntmps60;go_wp2_with(go_at_call 115;refine(ER _ _).mono ?_;rintro e w' ⟨rfl,rfl⟩);go_ret2;exact⟨rfl,0,rfl⟩
  by_cases S:1<=unit;rotate_left
  ·go_enter func60,ntmps60;go_wp2_with(go_at_call 115;refine(ER _ _).mono ?_;rintro e w' ⟨rfl,rfl⟩);go_ret2;exact⟨rfl,0,rfl⟩
  by_cases T:unit<=1000000;rotate_left
  ·go_enter func60,ntmps60;go_wp2_with(go_at_call 115;refine(ER _ _).mono ?_;rintro e w' ⟨rfl,rfl⟩);go_ret2;exact⟨rfl,0,rfl⟩
  skip
  rcases G:D6 mode with _|_
  ·go_enter func60,ntmps60;go_wp2_with(go_at_call 115;refine(ER _ _).mono ?_;rintro e w' ⟨rfl,rfl⟩);go_ret2;exact⟨rfl,0,rfl⟩
  ·have:=(MK a num j unit mode).2 ⟨⟨by omega,by omega,by omega,by omega,by omega,by omega,by omega,by omega⟩,G⟩;rw[F.out]at this;cases this
 ·obtain⟨⟨u,y⟩,⟨z,B⟩,U,V⟩:=aha a num j unit mode l;obtain⟨⟨X,Y,Z,h4,h5,h6,h7,h8⟩,G⟩:=(MK ..).1 l;have I:l9 a num j unit mode=if BF (l8 a num j unit mode)=false then 4 else 0:=by rw[l9,aq8 (by simp[l])]
  have C:=aq6 I;clear I;have F:=aq6 l;clear l;by_cases J:-1000000000000<=eR (a*num) (j*unit) mode*unit
  ·by_cases K:eR (a*num) (j*unit) mode*unit<=1000000000000
   ·have n:Hid (l9 a num j unit mode=0):=(by rw[Hid,C.out,aq8 (by simp[BF,l8,J,K])]);have p:Hid (gF a num j unit mode=eR (a*num) (j*unit) mode*unit):=(by rw[Hid,gF,aq9 n.out];rfl);go_enter func60,ntmps60;go_wp2_with(go_at_call 115;refine(ER _ _).mono ?_;rintro e w' ⟨rfl,rfl⟩);refine(Zz _ _ _ _ u y z B).mono ?_;rintro e L ⟨rfl,r,rfl⟩;go_wp2;go_ret2;exact⟨by rw[n.out,p.out];rfl,r,rfl⟩
   ·have n:Hid (l9 a num j unit mode=4):=(by rw[Hid,C.out,aq9 (by simp[BF,l8,K])]);have p:Hid (gF a num j unit mode=0):=(by rw[Hid,gF,aq8 (by rw[n.out];omega)]);go_enter func60,ntmps60;go_wp2_with(go_at_call 115;refine(ER _ _).mono ?_;rintro e w' ⟨rfl,rfl⟩);refine(Zz _ _ _ _ u y z B).mono ?_;rintro e L ⟨rfl,r,rfl⟩;go_wp2;go_ret2;exact⟨by rw[n.out,p.out];rfl,r,rfl⟩
  ·have n:Hid (l9 a num j unit mode=4):=(by rw[Hid,C.out,aq9 (by simp[BF,l8,J])]);have p:Hid (gF a num j unit mode=0):=(by rw[Hid,gF,aq8 (by rw[n.out];omega)]);go_enter func60,ntmps60;go_wp2_with(go_at_call 115;refine(ER _ _).mono ?_;rintro e w' ⟨rfl,rfl⟩);refine(Zz _ _ _ _ u y z B).mono ?_;rintro e L ⟨rfl,r,rfl⟩;go_wp2;go_ret2;exact⟨by rw[n.out,p.out];rfl,r,rfl⟩
theorem XR(a num n j l:Int)(w:World):
  Calls prog 178 #[.int .i64 a,.int .i64 num,.int .i64 n,.int .i64 j,.int .i64 l] w fun e w'=>e=.returned (.tuple #[.int .i64 (gF a num n j l),.int .i64 (l9 a num n j l)])/\w=w':=by
 rcases p:IX a num n j l with _|_
 ·obtain⟨E,F⟩:=ahb p;rw[E,F];have G:=aq6 p;clear p E F;by_cases N:-1000000000000<=a;rotate_left
  ·go_enter func178,ntmps178;go_wp2_with(go_at_call 179;refine(BX _ _).mono ?_;rintro e w' ⟨rfl,rfl⟩);go_ret2;exact⟨rfl,rfl⟩
  by_cases O:a<=1000000000000;rotate_left
  ·go_enter func178,ntmps178;go_wp2_with(go_at_call 179;refine(BX _ _).mono ?_;rintro e w' ⟨rfl,rfl⟩);go_ret2;exact⟨rfl,rfl⟩
  by_cases P:0<=num;rotate_left
  ·go_enter func178,ntmps178;go_wp2_with(go_at_call 179;refine(BX _ _).mono ?_;rintro e w' ⟨rfl,rfl⟩);go_ret2;exact⟨rfl,rfl⟩
  by_cases Q:num<=1000000;rotate_left
  ·go_enter func178,ntmps178;go_wp2_with(go_at_call 179;refine(BX _ _).mono ?_;rintro e w' ⟨rfl,rfl⟩);go_ret2;exact⟨rfl,rfl⟩
  by_cases R:1<=n;rotate_left
  ·go_enter func178,ntmps178;go_wp2_with(go_at_call 179;refine(BX _ _).mono ?_;rintro e w' ⟨rfl,rfl⟩);go_ret2;exact⟨rfl,rfl⟩
  by_cases S:n<=1000000;rotate_left
  ·go_enter func178,ntmps178;go_wp2_with(go_at_call 179;refine(BX _ _).mono ?_;rintro e w' ⟨rfl,rfl⟩);go_ret2;exact⟨rfl,rfl⟩
  by_cases T:1<=j;rotate_left
  ·go_enter func178,ntmps178;go_wp2_with(go_at_call 179;refine(BX _ _).mono ?_;rintro e w' ⟨rfl,rfl⟩);go_ret2;exact⟨rfl,rfl⟩
  by_cases U:j<=1000000;rotate_left
  ·go_enter func178,ntmps178;go_wp2_with(go_at_call 179;refine(BX _ _).mono ?_;rintro e w' ⟨rfl,rfl⟩);go_ret2;exact⟨rfl,rfl⟩
  skip
  rcases I:D6 l with _|_
  ·go_enter func178,ntmps178;go_wp2_with(go_at_call 179;refine(BX _ _).mono ?_;rintro e w' ⟨rfl,rfl⟩);go_ret2;exact⟨rfl,rfl⟩
  ·have:=(MK a num n j l).2 ⟨⟨by omega,by omega,by omega,by omega,by omega,by omega,by omega,by omega⟩,I⟩;rw[G.out]at this;cases this
 ·obtain⟨⟨y,z⟩,⟨B,C⟩,V,X⟩:=aha a num n j l p;obtain⟨⟨Y,Z,h3,h4,h5,h6,h7,h8⟩,I⟩:=(MK ..).1 p;have J:l9 a num n j l=if BF (l8 a num n j l)=false then 4 else 0:=by rw[l9,aq8 (by simp[p])]
  have D:=aq6 J;clear J;have G:=aq6 p;clear p;by_cases K:-1000000000000<=eR (a*num) (n*j) l*j
  ·by_cases L:eR (a*num) (n*j) l*j<=1000000000000
   ·have r:Hid (l9 a num n j l=0):=(by rw[Hid,D.out,aq8 (by simp[BF,l8,K,L])]);have u:Hid (gF a num n j l=eR (a*num) (n*j) l*j):=(by rw[Hid,gF,aq9 r.out];rfl);go_enter func178,ntmps178;go_wp2_with(go_at_call 179;refine(BX _ _).mono ?_;rintro e w' ⟨rfl,rfl⟩);refine(abl _ _ _ _ y z B C).mono ?_;rintro e M ⟨rfl,rfl⟩;go_wp2;go_ret2;exact⟨by rw[r.out,u.out];rfl,rfl⟩
   ·have r:Hid (l9 a num n j l=4):=(by rw[Hid,D.out,aq9 (by simp[BF,l8,L])]);have u:Hid (gF a num n j l=0):=(by rw[Hid,gF,aq8 (by rw[r.out];omega)]);go_enter func178,ntmps178;go_wp2_with(go_at_call 179;refine(BX _ _).mono ?_;rintro e w' ⟨rfl,rfl⟩);refine(abl _ _ _ _ y z B C).mono ?_;rintro e M ⟨rfl,rfl⟩;go_wp2;go_ret2;exact⟨by rw[r.out,u.out];rfl,rfl⟩
  ·have r:Hid (l9 a num n j l=4):=(by rw[Hid,D.out,aq9 (by simp[BF,l8,K])]);have u:Hid (gF a num n j l=0):=(by rw[Hid,gF,aq8 (by rw[r.out];omega)]);go_enter func178,ntmps178;go_wp2_with(go_at_call 179;refine(BX _ _).mono ?_;rintro e w' ⟨rfl,rfl⟩);refine(abl _ _ _ _ y z B C).mono ?_;rintro e M ⟨rfl,rfl⟩;go_wp2;go_ret2;exact⟨by rw[r.out,u.out];rfl,rfl⟩
theorem abk(a num mode:Int)(e:0<=a)(y:a<=1000000000000)(j:0<=num)(l:num<=1000000)(p:D6 mode=true):l9 a num 1000000 1 mode=0/\0<=gF a num 1000000 1 mode/\gF a num 1000000 1 mode<=a:=by
 have r:IX a num 1000000 1 mode=true:=(MK ..).2 ⟨⟨by omega,by omega,j,l,by omega,by omega,by omega,by omega⟩,p⟩;have z:0<=a*num:=arH e j;have B:a*num<=a*1000000:=arP l e;have u:0<=l8 a num 1000000 1 mode/\l8 a num 1000000 1 mode<=a:=by
  unfold l8 eR;rw[Int.mul_one,show(1000000:Int)*1=1000000 from rfl];generalize a*num=N at*;split
  ·omega
  ·split<;>omega
 have n:l9 a num 1000000 1 mode=0:=by rw[l9,aq8 (by simp[r]),aq8];simp only[BF];simp;omega
 rw[gF,aq9 n];exact⟨n,u⟩
structure bK where
 code:ByteArray
 bX:Int
 before:Bool
 amount:Int
 bJ:Int
 cap:Int
deriving DecidableEq
def j6(x:bK):List Value:=[.string x.code,.int .i64 x.bX,.bool x.before,.int .i64 x.amount,.int .i64 x.bJ,.int .i64 x.cap]
theorem Ih(x:bK):(j6 x).length=6:=rfl
theorem acb(x:bK):∀u∈j6 x,u.oneCell'=true:=by intro u hu;simp[j6]at hu;rcases hu with rfl|rfl|rfl|rfl|rfl|rfl<;>rfl
theorem ajK:(Tryz.prog.info? 166).map (fun i=>(i.zero,i.size,i.bytes))=some (some (.agg #[.string ⟨#[]⟩,.int .i64 0,.bool false,.int .i64 0,.int .i64 0,.int .i64 0]),6,56):=by kernel_rfl
def bG(n m:Int):Bool:=decide (0<=n/\n<=m)
theorem gT{n m:Int}:bG n m=true↔0<=n/\n<=m:=by simp[bG]
theorem Ij{n m:Int}:bG n m=false↔(n<0\/m<n):=by simp[bG];omega
theorem U4{n m:Int}(h:bG n m=true):0<=n:=(gT.1 h).1
theorem U5{n m:Int}(h:bG n m=true):n<=m:=(gT.1 h).2
def AX{j:Type}(e:j->ByteArray)(l:List j)(i:Nat)(x:j):Bool:=decide (i=0)||(match l[i-1]?with|some p=>Op.bytesLess (e p).toList (e x).toList|none=>true)
theorem ahc{j:Type}(e:j->ByteArray)(l:List j)(x:j):AX e l 0 x=true:=by simp[AX]
theorem U2{j:Type}(e:j->ByteArray)(l:List j)(m:Nat)(x:j)(h:m<l.length):AX e l (m+1) x=Op.bytesLess (e l[m]).toList (e x).toList:=by simp[AX,aro h]
def k8(e:List bK)(i:Nat)(x:bK):Bool:=bI x.code&&AX bK.code e i x&&bG x.bX 99&&bG x.amount 1000000000&&bG x.cap 1000000000&&bG x.bJ 1000000
def l7(e:List Elem)(i:Nat)(x:Elem):Bool:=bI x.code&&AX Elem.code e i x&&bG x.amount 1000000000000
def Hk{j:Type}(ok:List j->Nat->j->Bool)(n:Nat)(e:List j):Bool:=decide (e.length<=n)&&decide (∀i,(h:i<e.length)->ok e i e[i]=true)
def fV(e:List bK):Bool:=Hk k8 16 e
def eJ(e:List Elem):Bool:=Hk l7 128 e
theorem U0{j:Type}{ok:List j->Nat->j->Bool}{n:Nat}{e:List j}{i:Nat}(h:i<e.length)(l:ok e i e[i]=false):Hk ok n e=false:=by unfold Hk;simp only[asV,ar4];right;intro p;have:=p i h;rw[l]at this;cases this
theorem U1{j:Type}{ok:List j->Nat->j->Bool}{n:Nat}{e:List j}(l:e.length<=n)(h:∀i,(h:i<e.length)->ok e i e[i]=true):Hk ok n e=true:=by unfold Hk;simp only[arw,arz];exact⟨l,h⟩
theorem UZ{e:Type}{ok:List e->Nat->e->Bool}{n:Nat}{j:List e}(l:n<j.length):Hk ok n j=false:=by unfold Hk;simp only[asV,ar4];exact .inl (by omega)
theorem abm{j:Type}{ok:List j->Nat->j->Bool}{n:Nat}{e:List j}:Hk ok n e=true↔e.length<=n/\∀i,(h:i<e.length)->ok e i e[i]=true:=by unfold Hk;simp only[arw,arz]
structure zN(d:bK):Prop where
 name:bI d.code=true
 r0:0<=d.bX
 r1:d.bX<=99
 a0:0<=d.amount
 a1:d.amount<=1000000000
 c0:0<=d.cap
 c1:d.cap<=1000000000
 t0:0<=d.bJ
 t1:d.bJ<=1000000
theorem ahd{l:List bK}{i:Nat}{x:bK}(h:k8 l i x=true):zN x:=by simp only[k8,arw,gT]at h;obtain⟨⟨⟨⟨⟨n,_⟩,p,r⟩,u,y⟩,z,e⟩,B,j⟩:=h;exact⟨n,p,r,u,y,z,e,B,j⟩
theorem ahe{e:List bK}{i:Nat}{x:bK}(h:zN x)(j:AX bK.code e i x=true):k8 e i x=true:=by simp only[k8,arw,gT];exact⟨⟨⟨⟨⟨h.name,j⟩,h.r0,h.r1⟩,h.a0,h.a1⟩,h.c0,h.c1⟩,h.t0,h.t1⟩
theorem Uf{d:bK}:fV [d]=true↔zN d:=by
 rw[fV,abm];constructor
 ·rintro⟨_,h⟩;exact ahd (h 0 (by simp))
 ·intro h;refine⟨by simp,fun i hi=>?_⟩;obtain rfl:i=0:=by simp at hi;omega
  exact ahe h (ahc ..)
theorem ahf{r:Type}(e:r->ByteArray):∀(l:List r),(∀i,(h:i<l.length)->AX e l i l[i]=true)->l.Pairwise (fun a b=>Op.bytesLess (e a).toList (e b).toList=true):=by
 intro l h;rw[arZ];have p:∀m,(n:m+1<l.length)->(e l[m]).toList<(e l[m+1]).toList:=by intro m n;have u:=h (m+1) n;rw[U2 _ _ _ _ (by omega),Br]at u;simpa using u
 have far:∀d i,(n:i+d+1<l.length)->(e (l[i]'(by omega))).toList<(e l[i+d+1]).toList:=by
  intro d
  induction d with
  |zero=>intro i n;exact p i n
  |succ d y=>intro i n;exact List.lt_trans (y i (by omega)) (p (i+d+1) n)
 intro i j hi z B;obtain⟨d,rfl⟩:∃d,j=i+d+1:=⟨j-i-1,by omega⟩
 rw[Br];simpa using far d i z
theorem ahg{l:Type}(e:l->ByteArray){j:List l}(h:j.Pairwise (fun a b=>Op.bytesLess (e a).toList (e b).toList=true))(i:Nat)(hi:i<j.length):AX e j i j[i]=true:=by
 cases i with
 |zero=>exact ahc ..
 |succ m=>rw[U2 _ _ _ _ (by omega)];exact arZ.1 h m (m+1) (by omega) hi (by omega)
theorem Ik{e:List bK}:fV e=true↔e.length<=16/\(∀x∈e,zN x)/\e.Pairwise (fun a b=>Op.bytesLess a.code.toList b.code.toList=true):=by
 rw[fV,abm];constructor
 ·rintro⟨l,j⟩;refine⟨l,fun x n=>?_,ahf bK.code e fun i hi=>?_⟩
  ·obtain⟨i,hi,rfl⟩:=arN.1 n;exact ahd (j i hi)
  ·have:=j i hi;simp only[k8,arw]at this;exact this.1.1.1.1.2
 ·rintro⟨l,j,p⟩;exact⟨l,fun i hi=>ahe (j _ (arc hi)) (ahg bK.code p i hi)⟩
theorem pz{e:List Elem}:eJ e=true↔e.length<=128/\(∀x∈e,bI x.code=true/\0<=x.amount/\x.amount<=1000000000000)/\iO e:=by
 rw[eJ,abm];constructor
 ·rintro⟨l,j⟩;refine⟨l,fun x n=>?_,ahf Elem.code e fun i hi=>?_⟩
  ·obtain⟨i,hi,rfl⟩:=arN.1 n;have:=j i hi;simp only[l7,arw,gT]at this;exact⟨this.1.1,this.2⟩
  ·have:=j i hi;simp only[l7,arw]at this;exact this.1.2
 ·rintro⟨l,j,p⟩;refine⟨l,fun i hi=>?_⟩;obtain⟨r,u⟩:=j _ (arc hi);simp only[l7,arw,gT];exact⟨⟨r,ahg Elem.code p i hi⟩,u⟩
def Oo(d:bK)(base:Int):Int:=min (d.amount+gF base d.bJ 1000000 1 4) 1000000000
def GG(d:bK)(base taken:Int):Int:=if 0<d.cap then min (Oo d base) (max (d.cap-taken) 0)else Oo d base
def FQ(d:bK)(base taken:Int):Int:=if fV [d]=false then 1 else if bG base 1000000000=false then 2 else if bG taken 1000000000000=false then 2 else 0
def JI(d:bK)(base taken:Int):Int:=if FQ d base taken=0 then GG d base taken else 0
theorem Zr{d:bK}{base:Int}(h:zN d)(e:0<=base)(j:base<=1000000000):l9 base d.bJ 1000000 1 4=0/\0<=gF base d.bJ 1000000 1 4/\gF base d.bJ 1000000 1 4<=1000000000/\0<=Oo d base/\Oo d base<=1000000000:=by obtain⟨a,b,c⟩:=abk base d.bJ 4 e (by omega) h.t0 h.t1 (by decide);have:=h.a0;refine⟨a,b,by omega,?_,?_⟩<;>unfold Oo<;>omega
theorem Yc{d:bK}{base taken:Int}(h:zN d)(e:0<=base)(j:base<=1000000000):0<=GG d base taken/\GG d base taken<=1000000000:=by obtain⟨_,_,_,a,b⟩:=Zr h e j;unfold GG;split<;>omega
def mU(l:List Elem)(c:ByteArray):Int:=match l with|[]=>0|x::r=>if x.code.toList==c.toList then x.amount else mU r c
theorem ahh{l:List Elem}{c:ByteArray}{k:Nat}(n:k<=l.length)(h:∀j,(p:j<l.length)->j<k->(l[j].code.toList==c.toList)=false):mU l c=mU (l.drop k) c:=by
 induction l generalizing k with
 |nil=>simp
 |cons a l r=>
  cases k with
  |zero=>simp
  |succ k=>have e:=h 0 (by simp) (by omega);simp only[List.getElem_cons_zero]at e;rw[mU,e,List.drop_succ_cons];exact r (by simp at n;omega) (fun j p u=>by have:=h (j+1) (by simp;omega) (by omega);simpa using this)
theorem adK{l:List Elem}{c:ByteArray}{k:Nat}(e:k<l.length)(h:∀j,(p:j<l.length)->j<k->(l[j].code.toList==c.toList)=false)(n:(l[k].code.toList==c.toList)=true):mU l c=l[k].amount:=by rw[ahh (by omega) h,List.drop_eq_getElem_cons e,mU,n];rfl
theorem adL{l:List Elem}{c:ByteArray}(h:∀j,(e:j<l.length)->(l[j].code.toList==c.toList)=false):mU l c=0:=by rw[ahh (aq7 _) (fun j e _=>h j e),List.drop_length];rfl
theorem ao8{l:List Elem}{c:ByteArray}{P:Int->Prop}(h:∀x∈l,P x.amount)(e:P 0):P (mU l c):=by
 induction l with
 |nil=>exact e
 |cons a l j=>
  rw[mU];split
  ·exact h a (by simp)
  ·exact j (fun x n=>h x (by simp[n]))
def lW(before:Bool)(base:Int)(year:List Elem)(d:bK)(left:Int):Int:=if d.before=before then min (GG d base (mU year d.code)) left else 0
def tk(before:Bool)(base:Int)(year:List Elem):List bK->Int->List Elem
 |[],_=>[]
 |d::r,left=>(if 0<lW before base year d left then[⟨d.code,lW before base year d left⟩]else[])++tk before base year r (left-lW before base year d left)
def j7(before:Bool)(base:Int)(year:List Elem):List bK->Int->Int
 |[],left=>left
 |d::r,left=>j7 before base year r (left-lW before base year d left)
def Dg(l:List bK):List bK:=(List.range 100).flatMap fun(r:Nat)=>l.filter fun d=>decide (d.bX=(r:Int))
def eC(l:List bK)(base e:Int)(year:List Elem):Int:=if fV l=false then 1 else if eJ year=false then 1 else if bG base 1000000000=false then 2 else if bG e 1000000000=false then 2 else 0
def il(l:List bK)(before:Bool)(base e:Int)(year:List Elem):List Elem:=if eC l base e year=0 then bB (tk before base year (Dg l) e)else[]
def nC(x:Elem):Bool:=bI x.code&&bG x.amount 1000000000
def lT(a b:List Elem):List Elem:=(b.foldl put a).filter nz
def ep(a b:List Elem):Int:=if eJ a=false then 1 else if b.all nC=false then 1 else if 128<b.length then 3 else if 128<(lT a b).length then 3 else if(lT a b).any (fun x=>decide (1000000000000<x.amount))then 4 else 0
def kU(a b:List Elem):List Elem:=if ep a b=0 then lT a b else[]
def aQ:List Elem->Int
 |[]=>0
 |x::r=>x.amount+aQ r
theorem adN(l m:List Elem):aQ (l++m)=aQ l+aQ m:=by
 induction l with
 |nil=>simp[aQ]
 |cons a l e=>simp[aQ,e];omega
theorem NB(l:List Elem)(B:Int)(h:∀x∈l,0<=x.amount/\x.amount<=B):0<=aQ l/\aQ l<=l.length*B:=by
 induction l with
 |nil=>simp[aQ]
 |cons a l e=>
  have p:=e (fun x j=>h x (by simp[j]));have r:=h a (by simp);have n:((l.length+1:Nat):Int)*B=l.length*B+B:=by rw[asL,ar2];simp
  simp only[aQ,ars];rw[n];omega
