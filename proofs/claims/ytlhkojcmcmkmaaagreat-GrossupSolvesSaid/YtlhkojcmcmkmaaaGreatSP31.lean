/- Conditions: as stated. -/
import Derived.Test.YtlhkojcmcmkmaaaGreatSRec
set_option maxRecDepth 100000
set_option maxHeartbeats 4000000
namespace Go.Proofs.YtlhkojcmcmkmaaaGreat
open Go.Proofs.Tryz
open Go.RowKit
theorem PN(n:Int)(w:World)(j:0<=n)(l:n<=1000000000):Calls prog 114 #[.int .i64 n] w fun e w'=>e=.returned (.bool true)/\w=w':=by go_enter func114,ntmps114;go_wp2;go_ret;exact⟨rfl,rfl⟩
theorem aoo(n:Int)(w:World)(j:1000000000<n):Calls prog 114 #[.int .i64 n] w fun e w'=>e=.returned (.bool false)/\w=w':=by
 have l:0<=n:=by omega
 have hd:decide (n<=1000000000)=false:=by rw[asF];omega
 go_enter func114,ntmps114;go_wp2;go_ret;exact⟨by simp,rfl⟩
theorem Tx(s:kV)(w:World)(h:ot s):Calls prog 113 #[.agg #[.int .i64 s.fixed,.int .i64 s.bn,.int .i64 s.lower,.int .i64 s.share,.int .i64 s.top]] w fun e w'=>e=.returned (.bool true)/\Below w.heap.size w w':=by obtain⟨f0,f1,d0,d1,j,l,n,p,t0,t1⟩:=h;go_enter func113,ntmps113;go_wp2_with(go_at_call 114;refine(PN _ _ (by omega) (by omega)).mono ?_;rintro e w' ⟨rfl,rfl⟩);go_ret;exact⟨rfl,bD _ _⟩
theorem abg(s:kV)(net j:Int)(w:World)(h:ot s)(r:0<=net)(d0:0<=j)(d1:j<=20):Calls prog 59 #[.agg #[.int .i64 s.fixed,.int .i64 s.bn,.int .i64 s.lower,.int .i64 s.share,.int .i64 s.top],.int .i64 net,.int .i64 j] w fun e w'=>e=.returned (.int .i64 (if net<=1000000000 then 0 else 2))/\Below w.heap.size w w':=by
 by_cases n:net<=1000000000
 ·rw[arK n];go_enter func59,ntmps59;go_wp2_with fail;refine(Tx s _ h).mono ?_;rintro e u ⟨rfl,l⟩;have p:=aB (bD w _) l;go_wp2_with(go_at_call 114;refine(PN _ _ r n).mono ?_;rintro e w' ⟨rfl,rfl⟩);go_ret;exact⟨rfl,p⟩
 ·rw[arJ n];go_enter func59,ntmps59;go_wp2_with fail;refine(Tx s _ h).mono ?_;rintro e u ⟨rfl,l⟩;have p:=aB (bD w _) l;go_wp2_with(go_at_call 114;refine(aoo _ _ (by omega)).mono ?_;rintro e w' ⟨rfl,rfl⟩);go_ret;exact⟨rfl,p⟩
theorem aop(s:kV)(net j:Int)(w:World)(h:ot s)(u:0<=net)(y:net<=1000000000)(d0:0<=j)(d1:j<=20):Calls prog 24 #[.agg #[.int .i64 s.fixed,.int .i64 s.bn,.int .i64 s.lower,.int .i64 s.share,.int .i64 s.top],.int .i64 net,.int .i64 j] w fun e w'=>e=.returned (.tuple #[.int .i64 (jR s net j),.int .i64 0])/\Below w.heap.size w w':=by
 obtain⟨_,_,_,L,M⟩:=Ml h u y d0 d1;have N:=h.l0;have O:=h.l1;have f1:=h.f1;have G:Hid (jR s net j=min net (s.lower+s.bn*j)):=rfl;have l:=fun w=>abg s net j w h u d0 d1;rw[arK y]at l;have I:=arH l;clear l h;have r:=ah.new w 43 #[.int .i64 s.fixed,.int .i64 s.bn,.int .i64 s.lower,.int .i64 s.share,.int .i64 s.top];have z:=bD w (.cells #[.int .i64 s.fixed,.int .i64 s.bn,.int .i64 s.lower,.int .i64 s.share,.int .i64 s.top] 43);go_enter func24,ntmps24;go_upto_region 1 with fail
 generalize w.alloc (Obj.cells _ _)=W at r z|-;obtain⟨B,C,D,E,F⟩:=r.cz5;go_wp2_with fail;refine arP (I.out _) ?_;rintro e P ⟨rfl,p⟩;have J:=r.aa p;have K:=aB z p;clear r p B C D E F;obtain⟨B,C,D,E,F⟩:=J.cz5;go_wp2
 all_goals go_ret2;refine⟨?_,K⟩;rw[G.out];exact congrArg (fun n:Int=>Ending.returned (.tuple #[.int .i64 n,.int .i64 0])) (by(repeat' split)<;>omega)
theorem aoq(s:kV)(net j:Int)(w:World)(h:ot s)(p:0<=net)(r:¬net<=1000000000)(d0:0<=j)(d1:j<=20):Calls prog 23 #[.agg #[.int .i64 s.fixed,.int .i64 s.bn,.int .i64 s.lower,.int .i64 s.share,.int .i64 s.top],.int .i64 net,.int .i64 j] w fun e w'=>e=.returned (.tuple #[.int .i64 0,.int .i64 2])/\Below w.heap.size w w':=by have l:=fun w=>abg s net j w h p d0 d1;rw[arJ r]at l;have u:=arH l;clear l h;have y:=bD w (.cells #[.int .i64 s.fixed,.int .i64 s.bn,.int .i64 s.lower,.int .i64 s.share,.int .i64 s.top] 43);go_enter func23,ntmps23;go_wp2_with fail;refine arP (u.out _) ?_;rintro e z ⟨rfl,n⟩;go_wp2;go_ret2;exact⟨rfl,aB y n⟩
theorem aor(s:kV)(net j:Int)(w:World)(h:ot s)(P:0<=net)(Q:net<=1000000000)(d0:0<=j)(d1:j<=20):Calls prog 23 #[.agg #[.int .i64 s.fixed,.int .i64 s.bn,.int .i64 s.lower,.int .i64 s.share,.int .i64 s.top],.int .i64 net,.int .i64 j] w fun e w'=>e=.returned (.tuple #[.int .i64 (o8 s net j),.int .i64 0])/\Below w.heap.size w w':=by
 obtain⟨⟨p0,p1⟩,⟨r0,r1⟩,_,q0,q1⟩:=Ml h P Q d0 d1;have f0:=h.f0;have f1:=h.f1;have t0:=h.t0;have t1:=h.t1;have I:=h.s0;have J:=h.s1;have F:Hid (o8 s net j=if net<=mN s j then net else mN s j+gM (min net (max s.top (mN s j))-mN s j) s.share 1000000 1 3):=rfl;have OS:s.fixed+s.bn*j=mN s j:=rfl;have n:=fun w=>abg s net j w h P d0 d1;rw[arK Q]at n;have R:=arH n;have Xd:=arH OS;clear n h;have p:=ah.new w 43 #[.int .i64 s.fixed,.int .i64 s.bn,.int .i64 s.lower,.int .i64 s.share,.int .i64 s.top];have G:=bD w (.cells #[.int .i64 s.fixed,.int .i64 s.bn,.int .i64 s.lower,.int .i64 s.share,.int .i64 s.top] 43);generalize mN s j=r at*;generalize S:o8 s net j=T at*;have RP:=arH S;clear S;by_cases y:net<=r
 ·have K:Hid (T=net):=by rw[Hid,F.out,arK y]
  clear F;go_enter func23,ntmps23;go_upto_region 1 with fail
  generalize w.alloc (Obj.cells _ _)=W at p G|-;obtain⟨z,B,C,D,E⟩:=p.cz5;go_wp2_with fail;refine arP (R.out _) ?_;rintro e w1 ⟨rfl,l⟩;have L:=p.aa l;have M:=aB G l;clear p l z B C D E;obtain⟨z,B,C,D,E⟩:=L.cz5;go_wp2;go_ret2;refine⟨?_,M⟩;rw[K.out];rfl
 ·have N:∃u,u=min net (max s.top r)-r/\(net<=s.top/\u=net-r\/s.top<net/\r<=s.top/\u=s.top-r\/s.top<r/\u=0):=⟨_,rfl,by omega⟩
  obtain⟨u,U,O⟩:=N;have K:Hid (T=r+gM u s.share 1000000 1 3):=by rw[Hid,F.out,arJ y,U]
  obtain⟨V,X,b0,Y⟩:=Jj (a:=u) (unit:=1) (mode:=3) (by omega) (by omega) I J (by decide) (by decide) (by decide) (by decide);rw[<-X]at b0 Y;have b2:gM u s.share 1000000 1 3<=2000000000:=by omega
  have oI:=arH V;clear F U X V Y;rcases O with⟨Z,rfl⟩|⟨Z,k2,rfl⟩|⟨Z,rfl⟩
  all_goals
   go_enter func23,ntmps23;go_upto_region 1 with fail
   generalize w.alloc (Obj.cells _ _)=W at p G|-;obtain⟨z,B,C,D,E⟩:=p.cz5;go_wp2_with fail;refine arP (R.out _) ?_;rintro e w1 ⟨rfl,l⟩;have L:=p.aa l;have M:=aB G l;clear p l z B C D E;obtain⟨z,B,C,D,E⟩:=L.cz5;go_wp2_with fail;refine(Vx _ _ _ _ _ _).mono ?_;rintro e w' ⟨rfl,q,rfl⟩;rw[oI.out];go_wp2;go_ret2;refine⟨?_,below_drewN M q⟩;rw[K.out];rfl
theorem abh(A:Option Addr)(B:Nat)(l:List eX)(w:World)(h:aj Ke 5 w w.heap.size A l)(C:E8 l):
  Calls prog 157 #[.slice A l.length B] w fun e w'=>e=.returned (.bool true)/\Below w.heap.size w w':=by
 have U:=C.len;have D:=arH C;clear C;go_enter func157,ntmps157;go_wp2
 go_loopw [10] (fun i wr=>∃k:Nat,k<=l.length/\i=.int .i64 k/\Below w.heap.size w wr) (fun i _=>l.length-(intOf i).toNat)
 case atStart=>exact⟨0,by omega,rfl,arM _ _⟩
 case round=>
  obtain⟨k,V,rfl,p⟩:=hrel;have E:=p.size;by_cases n:k<l.length
  ·have j:=D.out.ok _ (arO n);have u:=Hl j.name;have F:=j.name;have X:=j.r0;have Y:=j.r1;have d0:=j.d0;have d1:=j.d1;have G:=j.a0;have I:=j.a1;have t0:=j.t0;have t1:=j.t1;have J:=arH F;clear j F;obtain⟨b,M,rfl,Z,r⟩:=(h.below p).at_ n;have K:=r 0 _ rfl;have N:=r 1 _ rfl;have O:=r 2 _ rfl;have P:=r 3 _ rfl;have Q:=r 4 _ rfl;simp only[arL]at K;have eC:(k:Int)<(l.length:Int):=(by omega);have gY:b<wr.heap.size:=(by omega);clear r;rcases k with _|m
   ·have fS:(0:Int)<(l.length:Int):=(by omega);simp only[asw,arL]at K N O P Q;go_wp2_with fail;refine(Cq _ _ u).mono ?_;rintro e w' ⟨rfl,rfl⟩;rw[J.out];go_wp2;go_quiet(fail);go_wp2_with fail;refine(PN _ _ G I).mono ?_;rintro e w' ⟨rfl,rfl⟩;go_wp2_with fail;refine(PN _ _ t0 t1).mono ?_;rintro e w' ⟨rfl,rfl⟩;go_wp2;go_roundw
    case rel=>exact⟨1,by omega,by go_num,below_drewN (p.alloc E _) _⟩
    case measure=>simp[intOf];omega
   ·have L:m<l.length:=(by omega);obtain⟨b2,Ge,y,R,z⟩:=(h.below p).at_ L;injection y with y
    injection y with y S
    subst y S;have T:=z 0 _ rfl;simp only[arL]at T;clear z;have CI:=asz.1 D.out.lK m (m+1) L n (by omega);have Af:(m:Int)<(l.length:Int):=(by omega);have ME:(m:Int)+1<(l.length:Int):=(by omega);have hp:decide ((0:Int)<(m:Int)+1)=true:=(by rw[ar7];omega);go_wp2_with fail;refine(Cq _ _ u).mono ?_;rintro e w' ⟨rfl,rfl⟩;rw[J.out];go_wp2;go_quiet(fail);go_wp2_with fail;refine(PN _ _ G I).mono ?_;rintro e w' ⟨rfl,rfl⟩;go_wp2_with fail;refine(PN _ _ t0 t1).mono ?_;rintro e w' ⟨rfl,rfl⟩;go_wp2;go_roundw
    case rel=>exact⟨m+2,by omega,by go_num,below_drewN (p.alloc E _) _⟩
    case measure=>simp[intOf];omega
  ·go_wp2;go_ret;exact⟨rfl,p⟩
