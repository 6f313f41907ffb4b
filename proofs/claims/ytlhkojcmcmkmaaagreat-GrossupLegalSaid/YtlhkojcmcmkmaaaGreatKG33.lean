/- Conditions: as stated. -/
import Derived.Laws.MakeOwn
import Derived.Test.YtlhkojcmcmkmaaaGreatKCaseIn
set_option maxRecDepth 100000
set_option maxHeartbeats 1000000
namespace Go.Proofs.YtlhkojcmcmkmaaaGreat
open Go.Proofs.Tryz
open Go.RowKit
def D7(I:aY):Int:=if I.err=0 then I.DJ else 0
def ad4(I:aY)(w:World)(e:Ending)(w':World):Prop:=e=.returned (.tuple #[.int .i64 (D7 I),.int .i64 I.err])/\Below w.heap.size w w'
theorem Q9(r:dN)(y:dR)(A:Option Addr)(ab:Nat)(p:List Elem)(j:ByteArray)(n:Int)(w:World)(hr:r.In w)(hy:y.In w)(hs:aj aN 2 w w.heap.size A p)(hl:p.length<=1000)(bf:nN (mD r pQ y [] true (p++[⟨j,n⟩]))):
  Calls prog 36 #[r.val,y.val,.slice A p.length ab,.string j,.int .i64 n] w (ad4 (mD r pQ y [] true (p++[⟨j,n⟩])) w):=by
 have X:=(ah.new w 45 #[.slice r.Aw r.ws.length r.cw,.slice r.As r.ss.length r.cs,.int .i64 r.tm.t.method,.slice r.tm.Ab r.tm.t.aA.length r.tm.cb,.int .i64 r.tm.t.bg,.int .i64 r.tm.t.bh,.int .i64 r.tm.t.unit,.int .i64 r.tm.t.mode,.slice r.tm.Ar r.tm.t.rows.length r.tm.cr,.int .i64 r.count,.int .i64 r.sh.fixed,.int .i64 r.sh.bE,.int .i64 r.sh.lower,.int .i64 r.sh.share,.int .i64 r.sh.top,.int .i64 r.recover]).alloc (.cells #[.int .i64 y.ay,.int .i64 y.aw,.int .i64 y.aO,.slice y.Ai y.ins.length y.ci,.slice y.At y.taken.length y.ct] 53);have J:=ah.new (w.alloc (.cells #[.slice r.Aw r.ws.length r.cw,.slice r.As r.ss.length r.cs,.int .i64 r.tm.t.method,.slice r.tm.Ab r.tm.t.aA.length r.tm.cb,.int .i64 r.tm.t.bg,.int .i64 r.tm.t.bh,.int .i64 r.tm.t.unit,.int .i64 r.tm.t.mode,.slice r.tm.Ar r.tm.t.rows.length r.tm.cr,.int .i64 r.count,.int .i64 r.sh.fixed,.int .i64 r.sh.bE,.int .i64 r.sh.lower,.int .i64 r.sh.share,.int .i64 r.sh.top,.int .i64 r.recover] 45)) 53 #[.int .i64 y.ay,.int .i64 y.aw,.int .i64 y.aO,.slice y.Ai y.ins.length y.ci,.slice y.At y.taken.length y.ct];rw[arn]at J;have l:=ew (bF w (.cells #[.slice r.Aw r.ws.length r.cw,.slice r.As r.ss.length r.cs,.int .i64 r.tm.t.method,.slice r.tm.Ab r.tm.t.aA.length r.tm.cb,.int .i64 r.tm.t.bg,.int .i64 r.tm.t.bh,.int .i64 r.tm.t.unit,.int .i64 r.tm.t.mode,.slice r.tm.Ar r.tm.t.rows.length r.tm.cr,.int .i64 r.count,.int .i64 r.sh.fixed,.int .i64 r.sh.bE,.int .i64 r.sh.lower,.int .i64 r.sh.share,.int .i64 r.sh.top,.int .i64 r.recover] 45)) (.cells #[.int .i64 y.ay,.int .i64 y.aw,.int .i64 y.aO,.slice y.Ai y.ins.length y.ci,.slice y.At y.taken.length y.ct] 53);have z:=hr.aa l;have zr:=hy.aa l;have B:=hs.aa l;obtain⟨I,hI⟩:∃I,I=mD r pQ y [] true (p++[⟨j,n⟩]):=⟨_,rfl⟩
 rw[<-hI];have Ve:=aq6 hI;have dg:=aq6 bf;clear hr hy hs bf hI;unfold dN.val dR.val;go_enter func36,ntmps36;go_upto_region 1 with fail
 generalize (w.alloc _).alloc _=E at X J l z zr B|-;generalize w.heap.size+1=g2 at*;generalize K:w.heap.size=g1 at*;obtain⟨i,hi,hz,L,M⟩:=info_parts kF;have ad:i.bytes*(p.length+1)<=281474976710656:=by rw[M];omega
 have HI:=aq6 hi;have HZ:=aq6 hz;have Ia:=aq6 L;clear hi hz L M;go_upto_region 3 with(first
  |(at_make;refine wpList_make_own _ rfl _ _ 51 rfl E.heap.size 69 i _ 2 underlying51 HI.out HZ.out Ia.out .i64 .i64 _ (p.length+1) rfl rfl (by omega) ad (by unfold maxLen;omega) (aq7 _) ?_;intro w3 jd N;(have NW:Own aN 2 69 w3 E.heap.size (.slice (some ⟨E.heap.size,0,none⟩) 0 (p.length+1)) ([]:List Elem):=jd);(have Y:Below E.heap.size E w3:=gI N (aq7 _) (fun q e=>by cases e));(have O:=B.below Y);(have P:=Y.size);clear jd N)
  |(at_builtin;(refine FE (ys:=p) _ _ 51 _ 24 _ kF underlying51 NW O dt (by omega) rfl kn (by simp;omega) (by omega) P (by rfl) (by rfl) (by rfl) (by rfl) (by rfl) ?_);intro v4 w4 eV Q;(have J9:=NW.adG Q P);(have dT:=J9.size);(have Z:Own aN 2 69 w4 E.heap.size v4 p:=eV);clear eV Q))
 have zu:=Y.trans J9;clear NW O Y J9;obtain⟨A4,c4,rfl,-,-,-,-⟩:=Z.kE dt;go_upto_region 4 with(at_builtin;(refine my _ _ 51 ⟨j,n⟩ _ 24 _ kF underlying51 Z dt (by omega) rfl (kn _) (by omega) (by omega) (by omega) (by rfl) (by rfl) (by rfl) (by rfl) (by simp) (by rfl) ?_);intro v5 w5 dA bw;(have F:=zu.trans (Z.adG bw (by omega))))
 obtain⟨A5,c5,rfl,cX,-,-,-⟩:=dA.kE dt;have R:=X.below F X.lt;have S:=J.below F J.lt;have hC:=akp r pQ y none A5 0 c5 [] (p++[⟨j,n⟩]) true w5 (z.aa F) ⟨aj.cK,aj.cK,aj.cK,fun e he=>by cases he⟩ (zr.aa F) aj.cK cX (by simp;omega) dg.out;rw[<-Ve.out]at hC;rw[show(p++[(⟨j,n⟩:Elem)]).length=p.length+1 by simp,show pQ.val=.agg #[.int .i64 0,.slice none 0 0,.slice none 0 0,.slice none 0 0]from rfl]at hC;have u:=l.trans (F.mono (by have:=l.size;omega));have ZH:=aq6 hC;clear hC dA bw zu F B z zr Z X J l cX;unfold dN.val dR.val at ZH;go_wp2_with(first|(refine jK rfl _ _ rfl g1 rfl R underlying45 rfl (by kernel_rfl) ?_)|(refine jK rfl _ _ rfl g2 rfl S underlying53 rfl (by kernel_rfl) ?_));refine ZH.out.mono ?_;clear ZH R S;rintro e T (⟨G,A6,c6,Ai,ci,At,ct,rfl,-,-,-,C⟩|⟨G,rfl,C⟩)
 ·have fq:=(ah.new T 27 #[.int .i64 I.b.g,.int .i64 I.b.c,.int .i64 I.b.t,.int .i64 I.b.i,.int .i64 I.b.a,.int .i64 I.DJ,.slice A6 I.lines.length c6]).alloc (.cells #[.int .i64 I.next.ay,.int .i64 I.next.aw,.int .i64 I.next.aO,.slice Ai I.next.aF.length ci,.slice At I.next.taken.length ct] 53);have U:=ew (bF T (.cells #[.int .i64 I.b.g,.int .i64 I.b.c,.int .i64 I.b.t,.int .i64 I.b.i,.int .i64 I.b.a,.int .i64 I.DJ,.slice A6 I.lines.length c6] 27)) (.cells #[.int .i64 I.next.ay,.int .i64 I.next.aw,.int .i64 I.next.aO,.slice Ai I.next.aF.length ci,.slice At I.next.taken.length ct] 53);have V:=(u.trans (C.mono (by have:=u.size;omega))).trans (U.mono (by have:=u.size;have:=C.size;omega));go_upto_region 5 with fail
  clear U C u;generalize World.alloc (T.alloc _) _=w7 at fq V|-;have z5:=fq.cell 5;simp only[ak,aq,ar]at z5;go_wp2;go_ret2;refine⟨?_,K▸V⟩;rw[G,D7,aq9 G];rfl
 ·have U:=ew (bF T (.cells #[.int .i64 0,.int .i64 0,.int .i64 0,.int .i64 0,.int .i64 0,.int .i64 0,.slice none 0 0] 27)) (.cells #[.int .i64 0,.int .i64 0,.int .i64 0,.slice none 0 0,.slice none 0 0] 53);have V:=(u.trans (C.mono (by have:=u.size;omega))).trans (U.mono (by have:=u.size;have:=C.size;omega));have GP:Hid (D7 I=0):=by rw[Hid,D7,aq8 G]
  obtain⟨er,D⟩:∃er,er=I.err:=⟨_,rfl⟩
  rw[<-D]at G|-;have jm:=aq6 D;clear D;have OD:(er !=0)=true:=by simpa using G
  go_upto_region 5 with fail
  clear U C u;generalize World.alloc (T.alloc _) _=w7 at V|-;go_wp2;go_ret2;exact⟨by rw[GP.out];simp[go_sem,jm.out],K▸V⟩
theorem ad7{num den mode:Int}(hd:0<den):den*eR num den mode<=num+den/\num-den<=den*eR num den mode:=by have e:=Vg num den mode;have j:=Vh num den mode;have p:=asA num den;have u:=asg num (show den≠0 by omega);have z:=ash num hd;have B:den*(num/den)<=den*eR num den mode:=arP e (by omega);have l:den*eR num den mode<=den*(num/den+1):=arP j (by omega);rw[ast,Int.mul_one]at l;omega
theorem ad8{a num unit mode:Int}(hu:1<=unit):1000000*l8 a num 1000000 unit mode<=a*num+1000000*unit/\a*num-1000000*unit<=1000000*l8 a num 1000000 unit mode:=by
 have h:=ad7 (num:=a*num) (den:=1000000*unit) (mode:=mode) (by omega);unfold l8;have e:1000000*(eR (a*num) (1000000*unit) mode*unit)=1000000*unit*eR (a*num) (1000000*unit) mode:=by rw[arO (eR _ _ _) unit,arM]
 rw[e];exact h
theorem ad9(f g:Nat->Int)(n:Nat):sumTo (fun i=>f i-g i) n=sumTo f n-sumTo g n:=by
 induction n with
 |zero=>simp[sumTo]
 |succ n e=>simp only[sumTo,e];omega
theorem akq{t:List cB}{p x y:Int}(h:gY t)(l:∀b∈t,b.bJ<=p)(u:0<=x)(D:x<=y):nh t x<=nh t y/\nh t y-nh t x<=p*(y-x):=by
 have e:∀i,fN t x i<=fN t y i:=fun i=>by
  have:IY t x i<=IY t y i:=by unfold IY;split<;>omega
  unfold fN;omega
 refine⟨ZI _ (fun i hi=>ar3 (e i) (h.r0 i hi)),?_⟩;have z:nh t y-nh t x=sumTo (fun i=>fN t y i*(t.getD i gH).bJ-fN t x i*(t.getD i gH).bJ) t.length:=(ad9 _ _ _).symm;rw[z];have j:sumTo (fun i=>fN t y i*(t.getD i gH).bJ-fN t x i*(t.getD i gH).bJ) t.length<=sumTo (fun i=>(fN t y i-fN t x i)*p) t.length:=ZI _ (fun i hi=>by rw[<-Int.sub_mul];refine arP (l _ ?_) (by have:=e i;omega);rw[aru,aro hi];exact arc hi)
 have B:=(ZJ h (show 0<=y by omega) t.length).2 rfl;have C:=(ZJ h u t.length).2 rfl;rw[aea,ad9 (fN t y) (fN t x),B,C,arO]at j;exact j
theorem akr{t:List cB}{p num den:Int}(j:∀b∈t,b.bJ<=p):∀k,k<=t.length->∀b∈lL t num den k,b.bJ<=p:=by
 intro k
 induction k with
 |zero=>intro _ b hb;cases hb
 |succ k e=>
  intro l b hb;rw[lL]at hb;split at hb
  ·exact e (by omega) b hb
  ·rcases arE.1 hb with hb|hb
   ·exact e (by omega) b hb
   ·rw[arQ]at hb;subst hb;show(t.getD k gH).bJ<=p;refine j _ ?_;rw[aru,aro (show k<t.length by omega)];exact arc _
def G6(l:List cB)(al cr inc:Int):Int:=max (nh l (max (inc-al) 0)-1000000*cr) 0
theorem aeb{l:List cB}{p al cr x y:Int}(h:gY l)(e:0<=p)(j:∀b∈l,b.bJ<=p)(u:x<=y):G6 l al cr x<=G6 l al cr y/\G6 l al cr y-G6 l al cr x<=p*(y-x):=by obtain⟨z,B⟩:=akq (x:=max (x-al) 0) (y:=max (y-al) 0) h j (by omega) (by omega);have C:p*(max (y-al) 0-max (x-al) 0)<=p*(y-x):=arP (by omega) e;unfold G6;omega
theorem aec{t:zS}{l:List cB}{al cr inc:Int}(hu:1<=t.unit):1000000*ma t l al cr inc<=G6 l al cr inc+1000000*t.unit/\G6 l al cr inc-1000000*t.unit<=1000000*ma t l al cr inc:=by
 have h:=ad7 (num:=nh l (max (inc-al) 0)) (den:=1000000*t.unit) (mode:=t.mode) (by omega);have e:1000000*Ce l (max (inc-al) 0) t.unit t.mode=1000000*t.unit*eR (nh l (max (inc-al) 0)) (1000000*t.unit) t.mode:=by unfold Ce;rw[arO (eR _ _ _) t.unit,arM]
 rw[<-e]at h;unfold ma G6;omega
structure aks(T:Int->Int)(p u:Int):Prop where
 ex:∃(q W:Int) (G:Int->Int),1<=q/\(∀x y,x<=y->G x<=G y/\G y-G x<=p*q*(y-x))/\∀x,1000000*q*T x+W<=G x+1000000*q*(u+1)/\G x-1000000*q*(u+1)<=1000000*q*T x+W
theorem akt{t:zS}(B:nP t){p:Int}(G:0<=p)(I:∀b∈t.aA,b.bJ<=p)(hm:t.method=2\/t.method=3){j u yi wh:Int}(C:1<=j)(O:0<=u)(P:u<j):
  aks (ky t j u yi wh) p t.unit:=by
 have hu:=B.u0;rcases hm with hm|hm
 ·refine⟨j,0,fun x=>G6 t.aA t.bg t.bh (x*j),C,fun x y J=>?_,fun x=>?_⟩
  ·have K:x*j<=y*j:=ar3 J (by omega);obtain⟨D,z⟩:=aeb (al:=t.bg) (cr:=t.bh) B.aA G I K;refine⟨D,?_⟩;have e:p*(y*j-x*j)=p*j*(y-x):=(by rw[<-Int.sub_mul,arO (y-x),arM]);rw[e]at z;exact z
  ·have E:ky t j u yi wh x=ma t t.aA t.bg t.bh (x*j)/j:=by
    unfold ky;rw[aq8 (by omega),aq9 hm];rfl
   dsimp only;rw[E];obtain⟨L,M⟩:=aec (t:=t) (l:=t.aA) (al:=t.bg) (cr:=t.bh) (inc:=x*j) hu;generalize ma t t.aA t.bg t.bh (x*j)=n at*;have d1:=asA n j;have d2:=asg n (show j≠0 by omega);have d3:=ash n (show 0<j by omega);have d4:1000000*j*(n/j)=1000000*(j*(n/j)):=arM _ _ _;have d5:1000000*j*(t.unit+1)=1000000*(j*t.unit)+1000000*j:=by rw[ast,Int.mul_one,arM]
   have d6:t.unit<=j*t.unit:=by have:=ar3 C (show 0<=t.unit by omega);omega
   rw[d4,d5];generalize j*(n/j)=m at*;generalize j*t.unit=v at*;omega
 ·have F:=Ra B.aA (num:=u+1) (den:=j) (by omega) C (by omega);refine⟨1,1000000*wh,fun x=>G6 (nQ t.aA (u+1) j) (t.bg*(u+1)/j) (t.bh*(u+1)/j) (yi+x),by omega,fun x y J=>?_,fun x=>?_⟩
  ·obtain⟨D,z⟩:=aeb (al:=t.bg*(u+1)/j) (cr:=t.bh*(u+1)/j) (x:=yi+x) (y:=yi+y) F G (akr I _ (aq7 _)) (by omega);refine⟨D,?_⟩;rw[Int.mul_one];have e:yi+y-(yi+x)=y-x:=(by omega);rw[e]at z;exact z
  ·have E:ky t j u yi wh x=mV t j (u+1) (yi+x)-wh:=by
    unfold ky;rw[aq8 (by omega),aq8 (by omega)]
   dsimp only;rw[E];obtain⟨L,M⟩:=aec (t:=t) (l:=nQ t.aA (u+1) j) (al:=t.bg*(u+1)/j) (cr:=t.bh*(u+1)/j) (inc:=yi+x) hu;have N:mV t j (u+1) (yi+x)=ma t (nQ t.aA (u+1) j) (t.bg*(u+1)/j) (t.bh*(u+1)/j) (yi+x):=rfl;rw[N];generalize ma t _ _ _ _=n at*;omega
theorem aku{T:Int->Int}{p u q W ta tb ra rb D H:Int}{G:Int->Int}(R:1<=q)(I:0<=p)(J:p<=1000000)(e:∀x y,x<=y->G x<=G y/\G y-G x<=p*q*(y-x))(E:∀x,1000000*q*T x+W<=G x+1000000*q*(u+1)/\G x-1000000*q*(u+1)<=1000000*q*T x+W)
  (F:0<=D) (K:ta<=tb) (S:tb<=ta+D) (z:0<=H) (L:1000000*(rb-ra)<=H):
  1000000*q*(rb-ra)+1000000*q*(T (max (tb-rb) 0)-T (max (ta-ra) 0))<=q*H+p*q*D+2000000*q*(u+1):=by
 have U:=E (max (tb-rb) 0);have V:=E (max (ta-ra) 0);have j:0<=p*q:=arH I (by omega);have M:0<=q*H:=arH (by omega) z;have B:q*(1000000*(rb-ra))<=q*H:=arP L (by omega);have N:q*(1000000*(rb-ra))=1000000*q*(rb-ra):=by rw[<-arM,arO q]
 rw[N]at B;rw[Int.mul_sub (1000000*q) (T _)];have key:1000000*q*(rb-ra)+(G (max (tb-rb) 0)-G (max (ta-ra) 0))<=q*H+p*q*D:=by
  rcases Int.lt_or_le rb ra with hr|hr
  ·-- O X C
   rcases Int.lt_or_le (max (tb-rb) 0) (max (ta-ra) 0)with hi|hi
   ·have:=(e _ _ (Int.le_of_lt hi)).1;have l:0<=p*q*D:=arH j F;have P:1000000*q*(rb-ra)<=0:=Int.mul_nonpos_of_nonneg_of_nonpos (by omega) (by omega);omega
   ·have Q:=(e _ _ hi).2;have l:p*q*(max (tb-rb) 0-max (ta-ra) 0)<=p*q*(D+(ra-rb)):=arP (by omega) j;rw[ast]at l;have P:p*q*(ra-rb)<=1000000*q*(ra-rb):=ar3 (ar3 J (by omega)) (by omega);have Y:1000000*q*(ra-rb)=-(1000000*q*(rb-ra)):=(by rw[<-Int.mul_neg];congr 1;omega);omega
  ·rcases Int.lt_or_le (max (tb-rb) 0) (max (ta-ra) 0)with hi|hi
   ·have:=(e _ _ (Int.le_of_lt hi)).1;have l:0<=p*q*D:=arH j F;omega
   ·have Q:=(e _ _ hi).2;have l:p*q*(max (tb-rb) 0-max (ta-ra) 0)<=p*q*D:=arP (by omega) j;omega
 have Z:2000000*q*(u+1)=1000000*q*(u+1)+1000000*q*(u+1):=by rw[<-ar2];congr 1;omega
 omega
def bH(r:pF)(y:Bv)(x:List Elem)(c:ByteArray)(n:Int):aY:=⟨r,pY,y,[],true,x++[⟨c,n⟩]⟩
def BG(l:List cB):Int:=l.foldl (fun m b=>max m b.bJ) 0
theorem akw(l:List cB):∀m:Int,m<=l.foldl (fun m b=>max m b.bJ) m/\∀b∈l,b.bJ<=l.foldl (fun m b=>max m b.bJ) m:=by
 induction l with
 |nil=>intro m;exact⟨asa _,fun b hb=>(by cases hb)⟩
 |cons a l e=>
  intro m;rw[asq];obtain⟨p,j⟩:=e (max m a.bJ);refine⟨by omega,fun b hb=>?_⟩;rcases arF.1 hb with rfl|hb
  ·omega
  ·exact j b hb
theorem Vk(l:List cB):0<=BG l/\∀b∈l,b.bJ<=BG l:=akw l 0
def zv(l:List cm):Int:=aC (l.map fun s=>s.az)
def oT(l:List cm):Int:=aC (l.map fun s=>s.unit)
def jW(r:pF):Int:=zv r.aW+BG r.je.aA
structure mK(r:pF)(y:Bv)(x:List Elem)(c:ByteArray):Prop where
 ro:CC r
 m:r.je.method=2\/r.je.method=3
 ge:GenE r.cN x
 xl:x.length<=3
 xz:∀e∈x,e.code.size<=maxLen
 yo:J7 y
 fe:y.ay<r.count
 yl:y.aF.length<=4
 yi:y.aw<=2400000
 wh:-1000000<=y.aO/\y.aO<=1000000
 ins:∀v∈y.aF,v<=1000000
 w:∃v,ee r.cN c=some v/\v.kind=1
 cz:c.size<=maxLen
 fl:∀s∈r.aW,s.floor=0
 lv:jW r<=900000
 rt:∀b∈r.je.aA,b.bJ<=1000000
section
variable {r:pF}{y:Bv}{x:List Elem}{c:ByteArray}
theorem aed(p:ByteArray->Bool)(x:List Elem)(c:ByteArray)(n:Int):gi p (x++[⟨c,n⟩])=gi p x+if p c=true then n else 0:=by rw[akx];simp[gi]
theorem mK.cb(h:mK r y x c)(p:ByteArray->Bool):-1800000<=gi p x/\gi p x<=1800000:=by have:=air p x 600000 (by omega) (fun e j=>by have:=(h.ge e j).2;omega);have:=h.xl;omega
theorem mK.base(h:mK r y x c):∃(e t0 j l:Int) (t i a:Bool),(-1800000<=e/\e<=1800000)/\(-1800000<=t0/\t0<=1800000)/\(-1800000<=j/\j<=1800000)/\(-1800000<=l/\l<=1800000)/\
  ∀n,(bH r y x c n).b.c=e+n/\(bH r y x c n).b.t=t0+(if t=true then n else 0)/\(bH r y x c n).b.i=j+(if i=true then n else 0)/\(bH r y x c n).b.a=l+(if a=true then n else 0):=by
 obtain⟨v,p,u⟩:=h.w;refine⟨_,_,_,_,(oU r.cN c).jh,(oU r.cN c).aF,(oU r.cN c).fU,h.cb (fun c=>decide ((oU r.cN c).kind=1)),h.cb (fun c=>(oU r.cN c).jh),h.cb (fun c=>(oU r.cN c).aF),h.cb (fun c=>(oU r.cN c).fU),fun n=>?_⟩;have z:(bH r y x c n).b=fC r.cN (bB (x++[⟨c,n⟩])):=rfl;rw[z,Uk,Vl];simp only[aed];have B:decide ((oU r.cN c).kind=1)=true:=by
  have:oU r.cN c=v:=by unfold oU;rw[p];rfl
  rw[this];simpa using u
 have C:(oU r.cN c).kind=1:=by simpa using B
 simp[C]
theorem aee{e:List cI}{c:ByteArray}{v:cI}(h:ee e c=some v):v∈e/\v.code=c:=by
 unfold ee at h;have l:=List.mem_of_find?_eq_some h;have p:=List.find?_some h;have j:v.code.toList=c.toList:=by simpa[Il]using p
 simp only[ByteArray.toList_eq]at j;exact⟨l,ByteArray.ext (Array.toList_inj.1 j)⟩
theorem aef{e:List cI}(j:jV e=true){v:cI}(h:v∈e):bI v.code=true:=by
 obtain⟨i,hi,rfl⟩:=List.getElem_of_mem h;have l:mJ e i e[i]=true:=by unfold jV at j;simp only[arw,arz]at j;exact j.2 i hi
 simp only[mJ,arw]at l;exact l.1.1.1.1
theorem mK.DO(h:mK r y x c){n:Int}(J:0<=n)(K:n<=100000000):dQ r.cN (x++[⟨c,n⟩]) (bB (x++[⟨c,n⟩]))=0:=by
 obtain⟨v,B,L⟩:=h.w;obtain⟨j,l⟩:=aee B;have C:∀e∈x,-600000<=e.amount/\e.amount<=600000:=fun e he=>by have:=(h.ge e he).2;omega
 have M:=h.xl;have D:dP (x++[⟨c,n⟩])=0:=by
  refine ais (by rw[arl,asF];omega) (fun e he=>?_) (fun e he=>?_) fun k=>?_
  ·rcases arE.1 he with he|he
   ·obtain⟨u,hu,z⟩:=(h.ge e he).1;rw[z];exact aef h.ro.cN hu
   ·rw[arQ]at he;subst he;show bI c=true;rw[<-l];exact aef h.ro.cN j
  ·rcases arE.1 he with he|he
   ·have:=C e he;exact Ui (by omega) (by omega)
   ·rw[arQ]at he;subst he;exact Ui (by show-1000000000<=n;omega) (by show n<=1000000000;omega)
  ·have:=aiq x k 600000 (by omega) C;rw[Nl];have E:cC [⟨c,n⟩] k=if c.data.toList=k then n else 0:=by simp[cC]
   rw[E];exact Ui (by split<;>omega) (by split<;>omega)
 have F:missing r.cN (x++[⟨c,n⟩])=false:=by
  rw[missing,arR];intro e he;rcases arE.1 he with he|he
  ·obtain⟨u,hu,z⟩:=(h.ge e he).1;rw[z,ait hu];simp
  ·rw[arQ]at he;subst he;show¬(ee r.cN c).isNone=true;rw[B];simp
 have G:nR (fC r.cN (x++[⟨c,n⟩]))=true:=by
  rw[Vl];have I:∀p,cx (gi p (x++[⟨c,n⟩]))=true:=fun p=>by have:=h.cb p;rw[aed];exact Ui (by split<;>omega) (by split<;>omega)
  simp only[nR,I,Bool.and_self]
 refine aiw ?_;simp only[Go.Proofs.YtlhkojcmcmkmaaaGreat.dQ,h.ro.cN,D,F,G,Bool.true_eq_false,ar1,arK,ne_eq,not_true_eq_false]
theorem mK.D8(h:mK r y x c)(n:Int):nN (bH r y x c n):=
 ⟨h.ro,ack,h.yo,⟨acm,(by show(0:Nat)<=16;omega),fun x j=>(by cases j)⟩,fun e he=>(by cases he),fun e he=>by
  rcases arE.1 (show e∈x++[⟨c,n⟩]from he)with he|he
  ·exact h.xz e he
  ·rw[arQ]at he;subst he;exact h.cz⟩
theorem aky(v:fY){i:Int}(hi:0<=i):(lG v [i]).getD 0 jb=v:=by
 unfold lG;split
 ·rfl
 ·rename_i j;have z:0<aC [i]:=by simp only[aC,Int.add_zero]at j|-;omega
  have key:∀t:Int,(eu t [i]).getD 0 0=t:=fun t=>by
   have p:=Vm (total:=t) z;have e:=N2 t [i];cases u:eu t [i]with
   |nil=>rw[u]at e;simp at e
   |cons a l=>rw[u]at p e;simp only[ars,arC]at e;have:l=[]:=asD (by omega);subst this;simpa[aC]using p
  simp only[ars,arC,List.range_succ,List.range_zero,asM,asi,List.map_nil,List.getD_cons_zero,key]
def OG(s:cm)(e:List Int)(i:Int):Int:=(jB s (e++[i])).az
theorem aeg(I:aY)(h:I.p=pY)(s:cm):(I.dH s).az=OG s I.y.aF I.aF:=by
 have e:I.ed=[(I.y.aF,I.aF)]:=by unfold aY.ed;rw[h];rfl
 unfold aY.dH OG;rw[e];unfold DB;rw[aco];show((lG _ (lV [(I.y.aF,I.aF)])).getD 0 jb).az=_;rw[show lV [(I.y.aF,I.aF)]=[I.aF]from rfl,aky _ (by unfold aY.aF;omega)]
theorem aeh{s:cm}(j:s.floor=0){e:List Int}{i:Int}(hi:0<=i):cP s (e++[i])=min (kJ s e+i) ((e.length+1:Nat)*s.dw):=by
 unfold cP;rw[ZK,arl,asF];have:kJ s [i]=i:=by unfold kJ;rw[List.filter_cons_of_pos (by simp[j,hi])];simp[aC]
 rw[this]
theorem akz{s:cm}(j:mA s)(B:s.floor=0){e:List Int}(F:∀v∈e,0<=v)(I:e.length<=53){a b D:Int}(C:0<=a)(G:a<=b)(J:b<=a+D):
  1000000*(OG s e b-OG s e a)<=D*s.az+2000000*s.unit:=by
 have E:=fun(i:Int) (hi:0<=i)=>Hx (s:=s) (l:=e++[i]) j (fun v hv=>by
  rcases arE.1 hv with hv|hv
  ·exact F v hv
  ·rw[arQ]at hv;omega) (by rw[arl,asF];omega)
 have p:=fun(i:Int) (hi:0<=i)=>(IZ (a:=cP s (e++[i])) (num:=s.az) (unit:=s.unit) (mode:=s.mode) (E i hi).1 (by have:=(E i hi).2;omega) j.e0 j.e1 j.u0 j.u1 j.m0 j.m1).2.1;have hv:∀i,0<=i->OG s e i=l8 (cP s (e++[i])) s.az 1000000 s.unit s.mode-(bA s (cP s e)).az:=fun i hi=>by unfold OG jB Ic;rw[List.dropLast_concat];show(bA s (cP s (e++[i]))).az-_=_;congr 1;exact p i hi
 rw[hv a C,hv b (by omega)];have K:=ad8 (a:=cP s (e++[a])) (num:=s.az) (unit:=s.unit) (mode:=s.mode) j.u0;have L:=ad8 (a:=cP s (e++[b])) (num:=s.az) (unit:=s.unit) (mode:=s.mode) j.u0;have u:cP s (e++[b])-cP s (e++[a])<=D:=by rw[aeh B C,aeh B (by omega)];omega
 have z:(cP s (e++[b])-cP s (e++[a]))*s.az<=D*s.az:=ar3 u j.e0;rw[Int.sub_mul]at z;omega
theorem aei{l:List cm}{F G e u:cm->Int}{D:Int}(h:∀s∈l,1000000*(F s-G s)<=D*e s+2000000*u s):1000000*(aC (l.map F)-aC (l.map G))<=D*aC (l.map e)+2000000*aC (l.map u):=by
 induction l with
 |nil=>simp[aC]
 |cons a l j=>have z:=h a (by simp);have B:=j (fun s p=>h s (by simp[p]));simp only[asi,aC,ast];omega
theorem Vn(l:List cm)(F:cm->Int):aC (l.map F)=aC (l.map fun s=>if s.cA=true then F s else 0)+aC (l.map fun s=>if s.cA=true then 0 else F s):=by
 induction l with
 |nil=>rfl
 |cons a l e=>simp only[asi,aC,e];split<;>omega
theorem ZL{l:List cm}{F:cm->Int}(h:∀s∈l,0<=F s):0<=aC (l.map F):=by
 induction l with
 |nil=>simp[aC]
 |cons a l e=>have p:=h a (by simp);have u:=e (fun s j=>h s (by simp[j]));simp only[asi,aC];omega
def fL(r:pF)(y:Bv)(x:List Elem)(c:ByteArray)(n:Int):Int:=(bH r y x c n).DJ
theorem mK.grow(h:mK r y x c){a b:Int}(ab:a<=b):
  (b-a)*(1000000-jW r)-2000000*(oT r.aW+r.je.unit+1)<=1000000*(fL r y x c b-fL r y x c a):=by
 obtain⟨J,t0,i0,a0,tf,jf,af,-,-,-,-,Z⟩:=h.base;obtain⟨ca,ta,ia,-⟩:=Z a;obtain⟨cb,tb,ib,-⟩:=Z b;obtain⟨D,hD⟩:∃D,D=b-a:=⟨_,rfl⟩
 have Rb:0<=D:=by omega
 rw[<-hD]
 -- ad aF ae
 have R:0<=(bH r y x c a).aF:=by unfold aY.aF;omega
 have l:(bH r y x c a).aF<=(bH r y x c b).aF/\(bH r y x c b).aF<=(bH r y x c a).aF+D:=by
  unfold aY.aF;rw[ia,ib];cases jf
  ·simp only[ar1,arK];omega
  ·simp only[arI];omega
 have mZ:∀v∈y.aF,0<=v:=fun v hv=>(h.yo.ins v hv).1;have B:y.aF.length<=53:=by have:=h.yl;omega
 have C:∀s∈r.aW,1000000*(((bH r y x c b).dH s).az-((bH r y x c a).dH s).az)<=D*s.az+2000000*s.unit:=fun s e=>by rw[aeg _ rfl,aeg _ rfl];exact akz (h.ro.nO s e) (h.fl s e) mZ B R l.1 l.2
 have S:1000000*(aC (r.aW.map fun s=>if s.cA=true then((bH r y x c b).dH s).az else 0)-aC (r.aW.map fun s=>if s.cA=true then((bH r y x c a).dH s).az else 0))<=D*aC (r.aW.map fun s=>if s.cA=true then s.az else 0)+2000000*aC (r.aW.map fun s=>if s.cA=true then s.unit else 0):=
  aei fun s e=>by have:=C s e;by_cases hd:s.cA=true<;>simp only[hd,arI,ar1,arK]<;>omega
 have LJ:1000000*(aC (r.aW.map fun s=>if s.cA=true then 0 else((bH r y x c b).dH s).az)-aC (r.aW.map fun s=>if s.cA=true then 0 else((bH r y x c a).dH s).az))<=D*aC (r.aW.map fun s=>if s.cA=true then 0 else s.az)+2000000*aC (r.aW.map fun s=>if s.cA=true then 0 else s.unit):=
  aei fun s e=>by have:=C s e;by_cases hd:s.cA=true<;>simp only[hd,arI,ar1,arK]<;>omega
 have eU:=Vn r.aW (fun s=>s.unit);have eE:=Vn r.aW (fun s=>s.az);have T:0<=aC (r.aW.map fun s=>if s.cA=true then s.az else 0):=ZL fun s e=>by have:=(h.ro.nO s e).e0;split<;>omega
 have ai:0<=aC (r.aW.map fun s=>if s.cA=true then s.unit else 0):=ZL fun s e=>by have:=(h.ro.nO s e).u0;split<;>omega
 have lA:=Vn r.aW (fun s=>((bH r y x c a).dH s).az);have lB:=Vn r.aW (fun s=>((bH r y x c b).dH s).az);have fa:fL r y x c a=(bH r y x c a).b.c-aC (r.aW.map fun s=>((bH r y x c a).dH s).az)-(bH r y x c a).au:=rfl;have fb:fL r y x c b=(bH r y x c b).b.c-aC (r.aW.map fun s=>((bH r y x c b).dH s).az)-(bH r y x c b).au:=rfl;have FN:∀n,(bH r y x c n).aw=max ((bH r y x c n).b.t-aC (r.aW.map fun s=>if s.cA=true then((bH r y x c n).dH s).az else 0)) 0:=fun n=>by have K:(bH r y x c n).aw=max ((bH r y x c n).b.t-aQ (bH r y x c n).before-aC (r.aW.map fun s=>if s.cA then((bH r y x c n).dH s).az else 0)) 0:=rfl;rw[Yi.before _ rfl,show aQ ([]:List Elem)=0 from rfl]at K;rw[K];congr 1;omega
 have OH:∀n,(bH r y x c n).au=ky r.je r.count y.ay y.aw y.aO (max ((bH r y x c n).b.t-aC (r.aW.map fun s=>if s.cA=true then((bH r y x c n).dH s).az else 0)) 0):=fun n=>by rw[<-FN];rfl
 rw[fa,fb,OH a,OH b,ca,cb,lA,lB];have E:(bH r y x c a).b.t<=(bH r y x c b).b.t/\(bH r y x c b).b.t<=(bH r y x c a).b.t+D:=by
  rw[ta,tb];cases tf
  ·simp only[ar1,arK];omega
  ·simp only[arI];omega
 obtain⟨p0,p1⟩:=Vk r.je.aA;have ZM:0<=zv r.aW:=ZL fun s e=>(h.ro.nO s e).e0;have U:=h.lv;have V:BG r.je.aA<=1000000:=by unfold jW at U;omega
 obtain⟨q,W,G,hq,hG,hT⟩:=(akt h.ro.je p0 p1 h.m h.ro.c0 h.yo.p0 h.fe (yi:=y.aw) (wh:=y.aO)).ex;have X:jW r=aC (r.aW.map fun s=>s.az)+BG r.je.aA:=rfl;have Y:oT r.aW=aC (r.aW.map fun s=>s.unit):=rfl;rw[X,Y,eU,eE];generalize aC (r.aW.map fun s=>if s.cA=true then s.az else 0)=j at*;generalize aC (r.aW.map fun s=>if s.cA=true then 0 else s.az)=L at*;generalize aC (r.aW.map fun s=>if s.cA=true then s.unit else 0)=F at*;generalize aC (r.aW.map fun s=>if s.cA=true then 0 else s.unit)=M at*;generalize aC (r.aW.map fun s=>if s.cA=true then((bH r y x c a).dH s).az else 0)=ra at*;generalize aC (r.aW.map fun s=>if s.cA=true then((bH r y x c b).dH s).az else 0)=rb at*;generalize aC (r.aW.map fun s=>if s.cA=true then 0 else((bH r y x c a).dH s).az)=N at*;generalize aC (r.aW.map fun s=>if s.cA=true then 0 else((bH r y x c b).dH s).az)=O at*;have al:0<=D*j:=arH Rb T;have key:=aku (ta:=(bH r y x c a).b.t) (tb:=(bH r y x c b).b.t) (ra:=ra) (rb:=rb) (D:=D) (H:=D*j+2000000*F) hq p0 V hG hT Rb E.1 E.2 (by omega) S;generalize ky r.je r.count y.ay y.aw y.aO (max ((bH r y x c a).b.t-ra) 0)=P at*;generalize ky r.je r.count y.ay y.aw y.aO (max ((bH r y x c b).b.t-rb) 0)=Q at*;generalize BG r.je.aA=p at*;generalize r.je.unit=u at*;have JU:0<q:=by omega
 have hN:=arP LJ (show 0<=q by omega);refine Int.le_of_mul_le_mul_left (a:=q) ?_ JU;have k1:q*(D*(1000000-(j+L+p))-2000000*(F+M+u+1))=1000000*(q*D)-q*(D*j)-q*(D*L)-p*q*D-2000000*(q*F)-2000000*(q*M)-2000000*(q*(u+1)):=by
  have:p*q*D=q*(D*p):=by rw[arO p q,arM,arO p D]
  rw[this];simp only[Int.mul_sub,ast];have K:q*(D*1000000)=1000000*(q*D):=by rw[<-arM,arO]
  have I:∀z:Int,q*(2000000*z)=2000000*(q*z):=fun z=>by rw[<-arM,arO q,arM]
  rw[K,I,I,I];omega
 have k2:q*(1000000*(J+b-(rb+O)-Q-(J+a-(ra+N)-P)))=1000000*(q*D)-q*(1000000*(O-N))-1000000*q*(rb-ra)-1000000*q*(Q-P):=by
  have e0:J+b-(rb+O)-Q-(J+a-(ra+N)-P)=D-(O-N)-(rb-ra)-(Q-P):=by omega
  rw[e0];simp only[Int.mul_sub];have I:∀z:Int,q*(1000000*z)=1000000*(q*z):=fun z=>by rw[<-arM,arO q,arM]
  have e3:∀z:Int,1000000*q*z=1000000*(q*z):=fun z=>arM _ _ _;simp only[I,e3]
 have k3:q*(D*L+2000000*M)=q*(D*L)+2000000*(q*M):=by rw[ast,<-arM q 2000000,arO q 2000000,arM]
 have k4:q*(D*j+2000000*F)=q*(D*j)+2000000*(q*F):=by rw[ast,<-arM q 2000000,arO q 2000000,arM]
 have k5:2000000*q*(u+1)=2000000*(q*(u+1)):=arM _ _ _;rw[k1,k2];rw[k3]at hN;rw[k4,k5]at key;omega
end
theorem aek{a:List Elem}(h:eJ a=true)(p:Elem->Bool):eJ (a.filter p)=true:=by obtain⟨e,j,l⟩:=pz.1 h;exact pz.2 ⟨arq (arJ _ _) e,fun x u=>j x (ass.1 u).1,l.sublist List.filter_sublist⟩
theorem ZN{a:List Elem}(h:eJ a=true):ep a []=0/\kU a []=a.filter nz:=by
 obtain⟨C,l,_⟩:=pz.1 h;have e:lT a []=a.filter nz:=rfl;have p:([]:List Elem).all nC=true:=rfl;have u:¬128<(lT a []).length:=by rw[e];have:=arJ nz a;omega
 have z:(lT a []).any (fun x=>decide (1000000000000<x.amount))=false:=by rw[arR,e];intro x B;have:=(l x (ass.1 B).1).2.2;simp;omega
 have j:ep a []=0:=by unfold ep;rw[h,p,z];simp[u]
 exact⟨j,by rw[kU,aq9 j,e]⟩
theorem ael{base e:Int}{t:List Elem}(h:eJ t=true)(j:0<=base)(l:base<=1000000000)(p:0<=e)(u:e<=1000000000):eC [] base e t=0:=by
 have z:fV []=true:=by decide+kernel
 have B:bG base 1000000000=true:=gT.2 ⟨j,l⟩;have C:bG e 1000000000=true:=gT.2 ⟨p,u⟩;simp only[eC,z,h,B,C,Bool.true_eq_false,arK]
theorem akB{t:zS}(l:nP t)(hm:t.method=2\/t.method=3){e p yi wh j:Int}(B:1<=e)(D:0<=p)(E:p<e)(hy:0<=yi)(hi:0<=j):
  min 0 (-wh)<=ky t e p yi wh j/\ky t e p yi wh j<=yi+j+100+max 0 (-wh):=by
 rcases hm with hm|hm
 ·have u:ky t e p yi wh j=ma t t.aA t.bg t.bh (j*e)/e:=by
   unfold ky;rw[aq8 (by omega),aq9 hm];rfl
  have z:0<=j*e:=arH hi (by omega);obtain⟨C,F⟩:=Vo (al:=t.bg) (cr:=t.bh) l.aA l.u0 l.u1 l.a0 l.c0 z;rw[u];have d0:=ar5 C (show 0<=e by omega);have d1:ma t t.aA t.bg t.bh (j*e)/e<=j+100:=by refine Int.ediv_le_of_le_mul (by omega) ?_;rw[ar2];omega
  omega
 ·have u:ky t e p yi wh j=mV t e (p+1) (yi+j)-wh:=by
   unfold ky;rw[aq8 (by omega),aq8 (by omega)]
  have hd:0<=mV t e (p+1) (yi+j)/\mV t e (p+1) (yi+j)<=yi+j+100:=
   Vo (Ra l.aA (by omega) B (by omega)) l.u0 l.u1 (ar5 (arH l.a0 (by omega)) (by omega)) (ar5 (arH l.c0 (by omega)) (by omega)) (by omega)
  rw[u];omega
section
variable {r:pF}{y:Bv}{x:List Elem}{c:ByteArray}{n:Int}
theorem mK.err(h:mK r y x c)(M:0<=n)(N:n<=100000000):(bH r y x c n).err=0:=by
 obtain⟨c0,t0,i0,a0,tf,jf,af,bc,bt,bi,ba,O⟩:=h.base;obtain⟨hc,P,hi,ha⟩:=O n;have Q:-1800000<=(bH r y x c n).b.c/\(bH r y x c n).b.c<=101800000:=by omega
 have OI:(bH r y x c n).b.t<=101800000:=by rw[P];split<;>omega
 have R:(bH r y x c n).b.i<=101800000:=by rw[hi];split<;>omega
 have C:=h.ro.c0;have S:=h.yo.p0;have D:=h.fe;have u:=h.yo.taken;have T:¬(bH r y x c n).r.count<=(bH r y x c n).y.ay:=by show¬r.count<=y.ay;omega
 have U:dQ (bH r y x c n).r.cN (bH r y x c n).e (bB (bH r y x c n).e)=0:=h.DO M N;have V:eC (bH r y x c n).p.jU (bH r y x c n).base (max (bH r y x c n).b.c 0) (bH r y x c n).y.taken=0:=by have:(bH r y x c n).base=max (bH r y x c n).b.c 0:=rfl;exact ael u (by omega) (by omega) (by omega) (by omega)
 have mZ:(bH r y x c n).aF=max (bH r y x c n).b.i 0:=rfl;have nV:=h.yl;have F:∀s∈(bH r y x c n).r.aW,fG (gw s (bH r y x c n).y.aF.length (bH r y x c n).ed)=false:=by
  intro s z;have X:(bH r y x c n).ed=[(y.aF,(bH r y x c n).aF)]:=rfl;rw[X,show(bH r y x c n).y.aF.length=y.aF.length from rfl,aco];have G:∀v∈y.aF++[(bH r y x c n).aF],0<=v/\v<=102000000:=by
   intro v hv;rcases arE.1 hv with hv|hv
   ·have:=h.yo.ins v hv;have:=h.ins v hv;omega
   ·rw[arQ]at hv;subst hv;omega
  have E:=(kV G).2;rw[arl,asF]at E;exact aiv (h.ro.nO s z) (by simp) (fun v hv=>(G v hv).1) (by rw[arl,asF];omega) (by omega)
 have J:=Yy F;have j:=Uv (I:=bH r y x c n) (l:=(bH r y x c n).r.aW) (k:=(bH r y x c n).r.aW.length) h.ro.CK (fun s z=>by rw[arW]at z;exact((h.D8 n).QM (by show y.ay<r.count;omega) (by omega) z (F s z)).1)
 rw[arW]at j;have Y:0<=(bH r y x c n).bj:=j.1.1;have hrel:0<=(bH r y x c n).jH (bH r y x c n).r.aW:=j.2.1;have B:(bH r y x c n).before=[]:=Yi.before _ rfl;have Z:0<=(bH r y x c n).aw/\(bH r y x c n).aw<=101800000:=by have e:(bH r y x c n).aw=max ((bH r y x c n).b.t-aQ (bH r y x c n).before-(bH r y x c n).jH (bH r y x c n).r.aW) 0:=rfl;rw[B,show aQ ([]:List Elem)=0 from rfl]at e;omega
 have OH:(bH r y x c n).au=ky r.je r.count y.ay y.aw y.aO (bH r y x c n).aw:=rfl;have hw:=akB h.ro.je h.m C S D h.yo.i0 Z.1 (yi:=y.aw) (wh:=y.aO);rw[<-OH]at hw;have ab:=h.yi;have ad:=h.wh;have K:cx (bH r y x c n).au=true:=QI.2 ⟨by omega,by omega⟩;have LA:(bH r y x c n).AP<=200000000:=by have e:(bH r y x c n).AP=(bH r y x c n).b.c-aQ (bH r y x c n).before-(bH r y x c n).bj-(bH r y x c n).au:=rfl;rw[B,show aQ ([]:List Elem)=0 from rfl]at e;omega
 have e6:¬((bH r y x c n).first=true/\1000000000<(bH r y x c n).net):=by rintro⟨_,hh⟩;have e:(bH r y x c n).net=max ((bH r y x c n).AP-max ((bH r y x c n).b.c-(bH r y x c n).b.a) 0) 0:=rfl;omega
 have e7:ep (bH r y x c n).y.taken (bH r y x c n).before=0:=by rw[B];exact(ZN u).1
 have L:(bH r y x c n).gW=y.taken.filter nz:=by show kU y.taken (bH r y x c n).before=_;rw[B];exact(ZN u).2
 have Vp:(bH r y x c n).after=[]:=acn _ _ _ _;have e8:eC (bH r y x c n).p.jU (bH r y x c n).base (max (bH r y x c n).dZ 0) (bH r y x c n).gW=0:=by rw[L];have J:(bH r y x c n).dZ=(bH r y x c n).AP-0:=rfl;have K:(bH r y x c n).base=max (bH r y x c n).b.c 0:=rfl;exact ael (aek u nz) (by omega) (by omega) (by omega) (by omega)
 have e9:ep (bH r y x c n).gW (bH r y x c n).after=0:=by rw[L,Vp];exact(ZN (aek u nz)).1
 unfold aY.err;rw[aq8 T,U,aq8 (by simp),V,aq8 (by simp),aq8 (by rw[J];simp),aq8 (by rw[K];simp),aq8 e6,e7,aq8 (by simp),e8,aq8 (by simp),e9]
def EU(r:pF):Int:=r.je.unit+2+oT r.aW
def CR(r:pF):Int:=2*EU r*1000000/(1000000-jW r)+2
theorem mK.aem(h:mK r y x c):0<=oT r.aW/\oT r.aW<=1200/\0<=jW r/\0<=zv r.aW/\zv r.aW<=12000000:=by
 have p:∀s∈r.aW,0<=s.unit/\s.unit<=100:=fun s e=>⟨by have:=(h.ro.nO s e).u0;omega,(h.ro.nO s e).u1⟩
 have u:∀s∈r.aW,0<=s.az/\s.az<=1000000:=fun s e=>⟨(h.ro.nO s e).e0,(h.ro.nO s e).e1⟩
 have z:=kV (l:=r.aW.map fun s=>s.unit) (B:=100) (fun v j=>by obtain⟨s,e,rfl⟩:=arB.1 j;exact p s e);have C:=kV (l:=r.aW.map fun s=>s.az) (B:=1000000) (fun v j=>by obtain⟨s,e,rfl⟩:=arB.1 j;exact u s e);rw[arV]at z C;have D:=h.ro.CK;have:=(Vk r.je.aA).1;unfold oT jW zv;omega
theorem mK.akD(h:mK r y x c):2<=CR r/\CR r<=3000000000:=by
 have hu:=h.aem;have j:=h.ro.je.u0;have l:=h.ro.je.u1;have p:=h.lv;have e:0<=2*EU r*1000000:=by unfold EU;omega
 have u:=ar5 e (show 0<=1000000-jW r by omega);have z:=Int.ediv_le_self (1000000-jW r) e;have B:2*EU r*1000000<=2604000000:=by unfold EU;omega
 unfold CR;omega
theorem mK.adY(h:mK r y x c){a b:Int}(e:a+CR r<=b):fL r y x c a<=fL r y x c b:=by
 have hu:=h.aem;have B:=h.ro.je.u0;have C:=h.lv;have l:0<=2*EU r*1000000:=by unfold EU;omega
 have hd:0<1000000-jW r:=by omega
 have D:=ar5 l (show 0<=1000000-jW r by omega);have j:a<=b:=by unfold CR at e;omega
 have E:=h.grow j;have p:=asA (2*EU r*1000000) (1000000-jW r);have u:=ash (2*EU r*1000000) hd;have F:CR r*(1000000-jW r)<=(b-a)*(1000000-jW r):=ar3 (by omega) (by omega);have z:CR r*(1000000-jW r)=(1000000-jW r)*(2*EU r*1000000/(1000000-jW r))+2*(1000000-jW r):=by unfold CR;rw[ar2,arO]
 unfold EU at p u z;omega
end
def akF(f:Int->Int)(t a:Int):Prop:=0<=a/\a<=100000000/\t<=f a/\∀k,0<=k->k<a->f k<t
def akG(f:Int->Int)(t:Int):Prop:=∀k,0<=k->k<=100000000->f k<t
def Vq(f:Int->Int)(t a e:Int):Prop:=(e=0/\akF f t a)\/(e=16/\a=0/\akG f t)
theorem Vq.uniq{f:Int->Int}{t a e a' p:Int}(h:Vq f t a e)(B:Vq f t a' p):a=a'/\e=p:=by
 rcases h with⟨rfl,u,C,E,j⟩|⟨rfl,rfl,j⟩<;>rcases B with⟨rfl,z,D,F,l⟩|⟨rfl,rfl,l⟩
 ·refine⟨?_,rfl⟩;rcases asE a a' with hl|hl|hl
  ·have:=l a u hl;omega
  ·exact hl
  ·have:=j a' z hl;omega
 ·have:=l a u C;omega
 ·have:=j a' z D;omega
 ·exact⟨rfl,rfl⟩
