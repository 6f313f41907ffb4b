/- Conditions: as stated. -/
import Derived.Test.YtlhkojcmcmkmaaaGreatCRec
set_option maxRecDepth 100000
set_option maxHeartbeats 4000000
namespace Go.Proofs.YtlhkojcmcmkmaaaGreat
open Go.Proofs.Tryz
open Go.RowKit
theorem Qm(n:Int)(w:World)(j:0<=n)(l:n<=1000000000):Calls prog 114 #[.int .i64 n] w fun e w'=>e=.returned (.bool true)/\w=w':=by go_enter func114,ntmps114;go_wp2;go_ret;exact⟨rfl,rfl⟩
theorem apJ(n:Int)(w:World)(j:1000000000<n):Calls prog 114 #[.int .i64 n] w fun e w'=>e=.returned (.bool false)/\w=w':=by
 have l:0<=n:=by omega
 have hd:decide (n<=1000000000)=false:=by rw[auA];omega
 go_enter func114,ntmps114;go_wp2;go_ret;exact⟨by simp,rfl⟩
theorem Qn(s:kB)(w:World)(h:oL s):Calls prog 113 #[.agg #[.int .i64 s.fixed,.int .i64 s.bO,.int .i64 s.lower,.int .i64 s.share,.int .i64 s.top]] w fun e w'=>e=.returned (.bool true)/\Below w.heap.size w w':=by obtain⟨f0,f1,d0,d1,j,l,n,p,t0,t1⟩:=h;go_enter func113,ntmps113;go_wp2_with(go_at_call 114;refine(Qm _ _ (by omega) (by omega)).mono ?_;rintro e w' ⟨rfl,rfl⟩);go_ret;exact⟨rfl,bC _ _⟩
theorem ab6(s:kB)(net j:Int)(w:World)(h:oL s)(r:0<=net)(d0:0<=j)(d1:j<=20):Calls prog 59 #[.agg #[.int .i64 s.fixed,.int .i64 s.bO,.int .i64 s.lower,.int .i64 s.share,.int .i64 s.top],.int .i64 net,.int .i64 j] w fun e w'=>e=.returned (.int .i64 (if net<=1000000000 then 0 else 2))/\Below w.heap.size w w':=by
 by_cases n:net<=1000000000
 ·rw[atP n];go_enter func59,ntmps59;go_wp2_with fail;refine(Qn s _ h).mono ?_;rintro e u ⟨rfl,l⟩;have p:=aA (bC w _) l;go_wp2_with(go_at_call 114;refine(Qm _ _ r n).mono ?_;rintro e w' ⟨rfl,rfl⟩);go_ret;exact⟨rfl,p⟩
 ·rw[atO n];go_enter func59,ntmps59;go_wp2_with fail;refine(Qn s _ h).mono ?_;rintro e u ⟨rfl,l⟩;have p:=aA (bC w _) l;go_wp2_with(go_at_call 114;refine(apJ _ _ (by omega)).mono ?_;rintro e w' ⟨rfl,rfl⟩);go_ret;exact⟨rfl,p⟩
theorem ahC(s:kB)(net deps:Int)(w:World)(h:oL s)(r:0<=net)(u:net<=1000000000)(d0:0<=deps)(d1:deps<=20):Calls prog 24 #[.agg #[.int .i64 s.fixed,.int .i64 s.bO,.int .i64 s.lower,.int .i64 s.share,.int .i64 s.top],.int .i64 net,.int .i64 deps] w fun e w'=>e=.returned (.tuple #[.int .i64 (iH s net deps),.int .i64 0])/\Below w.heap.size w w':=by
 obtain⟨_,_,_,K,L⟩:=KH h r u d0 d1;have M:=h.l0;have N:=h.l1;have f1:=h.f1;have F:Hid (iH s net deps=min net (s.lower+s.bO*deps)):=rfl;have j:=fun w=>ab6 s net deps w h r d0 d1;rw[atP u]at j;have G:=atM j;clear j h;have p:=ah.new w 43 #[.int .i64 s.fixed,.int .i64 s.bO,.int .i64 s.lower,.int .i64 s.share,.int .i64 s.top];have y:=bC w (.cells #[.int .i64 s.fixed,.int .i64 s.bO,.int .i64 s.lower,.int .i64 s.share,.int .i64 s.top] 43);go_enter func24,ntmps24;go_upto_region 1 with fail
 generalize w.alloc (Obj.cells _ _)=W at p y|-;obtain⟨z,B,C,D,E⟩:=p.cz5;go_wp2_with fail;refine atV (G.out _) ?_;rintro e O ⟨rfl,l⟩;have I:=p.aa l;have J:=aA y l;clear p l z B C D E;obtain⟨z,B,C,D,E⟩:=I.cz5;go_wp2
 all_goals go_ret2;refine⟨?_,J⟩;rw[F.out];exact congrArg (fun n:Int=>Ending.returned (.tuple #[.int .i64 n,.int .i64 0])) (by(repeat' split)<;>omega)
theorem apK(s:kB)(net j:Int)(w:World)(h:oL s)(p:0<=net)(r:¬net<=1000000000)(d0:0<=j)(d1:j<=20):Calls prog 23 #[.agg #[.int .i64 s.fixed,.int .i64 s.bO,.int .i64 s.lower,.int .i64 s.share,.int .i64 s.top],.int .i64 net,.int .i64 j] w fun e w'=>e=.returned (.tuple #[.int .i64 0,.int .i64 2])/\Below w.heap.size w w':=by have l:=fun w=>ab6 s net j w h p d0 d1;rw[atO r]at l;have u:=atM l;clear l h;have y:=bC w (.cells #[.int .i64 s.fixed,.int .i64 s.bO,.int .i64 s.lower,.int .i64 s.share,.int .i64 s.top] 43);go_enter func23,ntmps23;go_wp2_with fail;refine atV (u.out _) ?_;rintro e z ⟨rfl,n⟩;go_wp2;go_ret2;exact⟨rfl,aA y n⟩
theorem ahD(s:kB)(net deps:Int)(w:World)(h:oL s)(O:0<=net)(P:net<=1000000000)(d0:0<=deps)(d1:deps<=20):Calls prog 23 #[.agg #[.int .i64 s.fixed,.int .i64 s.bO,.int .i64 s.lower,.int .i64 s.share,.int .i64 s.top],.int .i64 net,.int .i64 deps] w fun e w'=>e=.returned (.tuple #[.int .i64 (ny s net deps),.int .i64 0])/\Below w.heap.size w w':=by
 obtain⟨⟨p0,p1⟩,⟨r0,r1⟩,_,q0,q1⟩:=KH h O P d0 d1;have f0:=h.f0;have f1:=h.f1;have t0:=h.t0;have t1:=h.t1;have G:=h.s0;have I:=h.s1;have E:Hid (ny s net deps=if net<=ng s deps then net else ng s deps+gW (min net (max s.top (ng s deps))-ng s deps) s.share 1000000 1 3):=rfl;have Z:s.fixed+s.bO*deps=ng s deps:=rfl;have l:=fun w=>ab6 s net deps w h O d0 d1;rw[atP P]at l;have Q:=atM l;have KD:=atM Z;clear l h;have n:=ah.new w 43 #[.int .i64 s.fixed,.int .i64 s.bO,.int .i64 s.lower,.int .i64 s.share,.int .i64 s.top];have F:=bC w (.cells #[.int .i64 s.fixed,.int .i64 s.bO,.int .i64 s.lower,.int .i64 s.share,.int .i64 s.top] 43);generalize ng s deps=p at*;generalize R:ny s net deps=S at*;have O5:=atM R;clear R;by_cases u:net<=p
 ·have J:Hid (S=net):=by rw[Hid,E.out,atP u]
  clear E;go_enter func23,ntmps23;go_upto_region 1 with fail
  generalize w.alloc (Obj.cells _ _)=W at n F|-;obtain⟨y,z,B,C,D⟩:=n.cz5;go_wp2_with fail;refine atV (Q.out _) ?_;rintro e w1 ⟨rfl,j⟩;have K:=n.aa j;have L:=aA F j;clear n j y z B C D;obtain⟨y,z,B,C,D⟩:=K.cz5;go_wp2;go_ret2;refine⟨?_,L⟩;rw[J.out];rfl
 ·have M:∃r,r=min net (max s.top p)-p/\(net<=s.top/\r=net-p\/s.top<net/\p<=s.top/\r=s.top-p\/s.top<p/\r=0):=⟨_,rfl,by omega⟩
  obtain⟨r,T,N⟩:=M;have J:Hid (S=p+gW r s.share 1000000 1 3):=by rw[Hid,E.out,atO u,T]
  obtain⟨U,V,b0,X⟩:=LL (a:=r) (unit:=1) (mode:=3) (by omega) (by omega) G I (by decide) (by decide) (by decide) (by decide);rw[<-V]at b0 X;have b2:gW r s.share 1000000 1 3<=2000000000:=by omega
  have oY:=atM U;clear E T V U X;rcases N with⟨Y,rfl⟩|⟨Y,k2,rfl⟩|⟨Y,rfl⟩
  all_goals
   go_enter func23,ntmps23;go_upto_region 1 with fail
   generalize w.alloc (Obj.cells _ _)=W at n F|-;obtain⟨y,z,B,C,D⟩:=n.cz5;go_wp2_with fail;refine atV (Q.out _) ?_;rintro e w1 ⟨rfl,j⟩;have K:=n.aa j;have L:=aA F j;clear n j y z B C D;obtain⟨y,z,B,C,D⟩:=K.cz5;go_wp2_with fail;refine(Wq _ _ _ _ _ _).mono ?_;rintro e w' ⟨rfl,q,rfl⟩;rw[oY.out];go_wp2;go_ret2;refine⟨?_,below_drewN L q⟩;rw[J.out];rfl
theorem apL(o:bn)(w:World):Calls prog 209 #[.agg #[.string o.id,.int .i64 o.aT,.int .i64 o.day,.int .i64 o.amount,.int .i64 o.total]] w fun e w'=>e=.returned (.int .i64 (iZ o))/\Below w.heap.size w w':=by
 have l:Hid (iZ o=if o.amount=0 then o.total else min o.amount o.total):=rfl;by_cases j:o.amount=0
 ·have p:(o.amount==0)=true:=by simp[j]
  go_enter func209,ntmps209;go_wp2;go_ret;exact⟨by rw[l.out,atP j];rfl,bC _ _⟩
 ·have p:(o.amount==0)=false:=by rw[auj];exact j
  go_enter func209,ntmps209;go_wp2
  all_goals go_ret;refine⟨?_,bC _ _⟩;rw[l.out,atO j];exact congrArg (fun n:Int=>Ending.returned (.int .i64 n)) (by(repeat' split)<;>omega)
theorem XU(A:Option Addr)(B:Nat)(l:List bn)(w:World)(h:ai mO 5 w w.heap.size A l)(C:Bq l):
  Calls prog 157 #[.slice A l.length B] w fun e w'=>e=.returned (.bool true)/\Below w.heap.size w w':=by
 have T:=C.len;have D:=atM C;clear C;go_enter func157,ntmps157;go_wp2
 go_loopw [10] (fun i wr=>∃k:Nat,k<=l.length/\i=.int .i64 k/\Below w.heap.size w wr) (fun i _=>l.length-(intOf i).toNat)
 case atStart=>exact⟨0,by omega,rfl,atS _ _⟩
 case round=>
  obtain⟨k,U,rfl,p⟩:=hrel;have E:=p.size;by_cases n:k<l.length
  ·have j:=D.out.ok _ (atT n);have u:=Fa j.name;have F:=j.name;have V:=j.r0;have X:=j.r1;have d0:=j.d0;have d1:=j.d1;have G:=j.a0;have I:=j.a1;have t0:=j.t0;have t1:=j.t1;have J:=atM F;clear j F;obtain⟨b,off,rfl,Y,r⟩:=(h.below p).at_ n;have K:=r 0 _ rfl;have M:=r 1 _ rfl;have N:=r 2 _ rfl;have O:=r 3 _ rfl;have P:=r 4 _ rfl;simp only[atQ]at K;have Z:(k:Int)<(l.length:Int):=(by omega);have eJ:b<wr.heap.size:=(by omega);clear r;rcases k with _|m
   ·have fK:(0:Int)<(l.length:Int):=(by omega);simp only[auu,atQ]at K M N O P;go_wp2_with fail;refine(AA _ _ u).mono ?_;rintro e w' ⟨rfl,rfl⟩;rw[J.out];go_wp2;go_quiet(fail);go_wp2_with fail;refine(Qm _ _ G I).mono ?_;rintro e w' ⟨rfl,rfl⟩;go_wp2_with fail;refine(Qm _ _ t0 t1).mono ?_;rintro e w' ⟨rfl,rfl⟩;go_wp2;go_roundw
    case rel=>exact⟨1,by omega,by go_num,below_drewN (p.alloc E _) _⟩
    case measure=>simp[intOf];omega
   ·have L:m<l.length:=(by omega);obtain⟨b2,Ep,y,Q,z⟩:=(h.below p).at_ L;injection y with y
    injection y with y R
    subst y R;have S:=z 0 _ rfl;simp only[atQ]at S;clear z;have CS:=auz.1 D.out.jr m (m+1) L n (by omega);have qh:(m:Int)<(l.length:Int):=(by omega);have Nf:(m:Int)+1<(l.length:Int):=(by omega);have hp:decide ((0:Int)<(m:Int)+1)=true:=(by rw[auc];omega);go_wp2_with fail;refine(AA _ _ u).mono ?_;rintro e w' ⟨rfl,rfl⟩;rw[J.out];go_wp2;go_quiet(fail);go_wp2_with fail;refine(Qm _ _ G I).mono ?_;rintro e w' ⟨rfl,rfl⟩;go_wp2_with fail;refine(Qm _ _ t0 t1).mono ?_;rintro e w' ⟨rfl,rfl⟩;go_wp2;go_roundw
    case rel=>exact⟨m+2,by omega,by go_num,below_drewN (p.alloc E _) _⟩
    case measure=>simp[intOf];omega
  ·go_wp2;go_ret;exact⟨rfl,p⟩
