/- Conditions: as stated. -/
import Derived.Laws.MakeOwn
import Derived.Test.YtlhkojcmcmkmaaaGreatSCaseIn
set_option maxRecDepth 100000
set_option maxHeartbeats 1000000
namespace Go.Proofs.YtlhkojcmcmkmaaaGreat
open Go.Proofs.Tryz
open Go.RowKit
def Hu(I:aY):Int:=if I.err=0 then I.El else 0
def aeh(I:aY)(w:World)(e:Ending)(w':World):Prop:=e=.returned (.tuple #[.int .i64 (Hu I),.int .i64 I.err])/\Below w.heap.size w w'
theorem akF(r:cY)(y:dD)(A:Option Addr)(ab:Nat)(p:List Elem)(j:ByteArray)(n:Int)(w:World)(hr:r.In w)(hy:y.In w)(hs:aj aQ 2 w w.heap.size A p)(hl:p.length<=1000)(bh:oL (Cb r pQ y [] true (p++[⟨j,n⟩]))):
  Calls prog 36 #[r.val,y.val,.slice A p.length ab,.string j,.int .i64 n] w (aeh (Cb r pQ y [] true (p++[⟨j,n⟩])) w):=by
 have Y:=(ah.new w 45 #[.slice r.Aw r.ws.length r.cw,.slice r.As r.ss.length r.cs,.int .i64 r.tm.t.method,.slice r.tm.Ab r.tm.t.au.length r.tm.cb,.int .i64 r.tm.t.aZ,.int .i64 r.tm.t.bf,.int .i64 r.tm.t.unit,.int .i64 r.tm.t.mode,.slice r.tm.Ar r.tm.t.rows.length r.tm.cr,.int .i64 r.count,.int .i64 r.sh.fixed,.int .i64 r.sh.bn,.int .i64 r.sh.lower,.int .i64 r.sh.share,.int .i64 r.sh.top,.int .i64 r.recover]).alloc (.cells #[.int .i64 y.az,.int .i64 y.ax,.int .i64 y.aN,.slice y.Ai y.ins.length y.ci,.slice y.At y.taken.length y.ct] 53);have K:=ah.new (w.alloc (.cells #[.slice r.Aw r.ws.length r.cw,.slice r.As r.ss.length r.cs,.int .i64 r.tm.t.method,.slice r.tm.Ab r.tm.t.au.length r.tm.cb,.int .i64 r.tm.t.aZ,.int .i64 r.tm.t.bf,.int .i64 r.tm.t.unit,.int .i64 r.tm.t.mode,.slice r.tm.Ar r.tm.t.rows.length r.tm.cr,.int .i64 r.count,.int .i64 r.sh.fixed,.int .i64 r.sh.bn,.int .i64 r.sh.lower,.int .i64 r.sh.share,.int .i64 r.sh.top,.int .i64 r.recover] 45)) 53 #[.int .i64 y.az,.int .i64 y.ax,.int .i64 y.aN,.slice y.Ai y.ins.length y.ci,.slice y.At y.taken.length y.ct];rw[arU]at K;have l:=ej (bD w (.cells #[.slice r.Aw r.ws.length r.cw,.slice r.As r.ss.length r.cs,.int .i64 r.tm.t.method,.slice r.tm.Ab r.tm.t.au.length r.tm.cb,.int .i64 r.tm.t.aZ,.int .i64 r.tm.t.bf,.int .i64 r.tm.t.unit,.int .i64 r.tm.t.mode,.slice r.tm.Ar r.tm.t.rows.length r.tm.cr,.int .i64 r.count,.int .i64 r.sh.fixed,.int .i64 r.sh.bn,.int .i64 r.sh.lower,.int .i64 r.sh.share,.int .i64 r.sh.top,.int .i64 r.recover] 45)) (.cells #[.int .i64 y.az,.int .i64 y.ax,.int .i64 y.aN,.slice y.Ai y.ins.length y.ci,.slice y.At y.taken.length y.ct] 53);have z:=hr.aa l;have Aa:=hy.aa l;have B:=hs.aa l;obtain⟨I,hI⟩:∃I,I=Cb r pQ y [] true (p++[⟨j,n⟩]):=⟨_,rfl⟩
 rw[<-hI];have VI:=arH hI;have di:=arH bh;clear hr hy hs bh hI;unfold cY.val dD.val;go_enter func36,ntmps36;go_upto_region 1 with fail
 generalize (w.alloc _).alloc _=F at Y K l z Aa B|-;generalize w.heap.size+1=g2 at*;generalize L:w.heap.size=g1 at*;obtain⟨i,hi,hz,M,N⟩:=info_parts ll;have ad:i.bytes*(p.length+1)<=281474976710656:=by rw[N];omega
 have HI:=arH hi;have HZ:=arH hz;have IE:=arH M;clear hi hz M N;go_upto_region 3 with(first
  |(at_make;refine wpList_make_own _ rfl _ _ 51 rfl F.heap.size 69 i _ 2 underlying51 HI.out HZ.out IE.out .i64 .i64 _ (p.length+1) rfl rfl (by omega) ad (by unfold maxLen;omega) (arI _) ?_;intro w3 jv O;(have Oq:Own aQ 2 69 w3 F.heap.size (.slice (some ⟨F.heap.size,0,none⟩) 0 (p.length+1)) ([]:List Elem):=jv);(have Z:Below F.heap.size F w3:=gU O (arI _) (fun q e=>by cases e));(have P:=B.below Z);(have Q:=Z.size);clear jv O)
  |(at_builtin;(refine He (ys:=p) _ _ 51 _ 24 _ ll underlying51 Oq P dB (by omega) rfl kO (by simp;omega) (by omega) Q (by rfl) (by rfl) (by rfl) (by rfl) (by rfl) ?_);intro v4 w4 fh R;(have Kz:=Oq.adT R Q);(have ed:=Kz.size);(have VJ:Own aQ 2 69 w4 F.heap.size v4 p:=fh);clear fh R))
 have Fu:=Z.trans Kz;clear Oq P Z Kz;obtain⟨A4,c4,rfl,-,-,-,-⟩:=VJ.kM dB;go_upto_region 4 with(at_builtin;(refine mQ _ _ 51 ⟨j,n⟩ _ 24 _ ll underlying51 VJ dB (by omega) rfl (kO _) (by omega) (by omega) (by omega) (by rfl) (by rfl) (by rfl) (by rfl) (by simp) (by rfl) ?_);intro v5 w5 dy bp;(have G:=Fu.trans (VJ.adT bp (by omega))))
 obtain⟨A5,c5,rfl,cZ,-,-,-⟩:=dy.kM dB;have S:=Y.below G Y.lt;have T:=K.below G K.lt;have hC:=akH r pQ y none A5 0 c5 [] (p++[⟨j,n⟩]) true w5 (z.aa G) ⟨aj.cL,aj.cL,aj.cL,fun e he=>by cases he⟩ (Aa.aa G) aj.cL cZ (by simp;omega) di.out;rw[<-VI.out]at hC;rw[show(p++[(⟨j,n⟩:Elem)]).length=p.length+1 by simp,show pQ.val=.agg #[.int .i64 0,.slice none 0 0,.slice none 0 0,.slice none 0 0]from rfl]at hC;have u:=l.trans (G.mono (by have:=l.size;omega));have C:=arH hC;clear hC dy bp Fu G B z Aa VJ Y K l cZ;unfold cY.val dD.val at C;go_wp2_with(first|(refine kJ rfl _ _ rfl g1 rfl S underlying45 rfl (by kernel_rfl) ?_)|(refine kJ rfl _ _ rfl g2 rfl T underlying53 rfl (by kernel_rfl) ?_));refine C.out.mono ?_;clear C S T;rintro e U (⟨J,A6,c6,Ai,ci,At,ct,rfl,-,-,-,D⟩|⟨J,rfl,D⟩)
 ·have fE:=(ah.new U 27 #[.int .i64 I.b.g,.int .i64 I.b.c,.int .i64 I.b.t,.int .i64 I.b.i,.int .i64 I.b.a,.int .i64 I.El,.slice A6 I.lines.length c6]).alloc (.cells #[.int .i64 I.next.az,.int .i64 I.next.ax,.int .i64 I.next.aN,.slice Ai I.next.aM.length ci,.slice At I.next.taken.length ct] 53);have V:=ej (bD U (.cells #[.int .i64 I.b.g,.int .i64 I.b.c,.int .i64 I.b.t,.int .i64 I.b.i,.int .i64 I.b.a,.int .i64 I.El,.slice A6 I.lines.length c6] 27)) (.cells #[.int .i64 I.next.az,.int .i64 I.next.ax,.int .i64 I.next.aN,.slice Ai I.next.aM.length ci,.slice At I.next.taken.length ct] 53);have X:=(u.trans (D.mono (by have:=u.size;omega))).trans (V.mono (by have:=u.size;have:=D.size;omega));go_upto_region 5 with fail
  clear V D u;generalize World.alloc (U.alloc _) _=w7 at fE X|-;have z5:=fE.cell 5;simp only[ak,aq,ar]at z5;go_wp2;go_ret2;refine⟨?_,L▸X⟩;rw[J,Hu,arK J];rfl
 ·have V:=ej (bD U (.cells #[.int .i64 0,.int .i64 0,.int .i64 0,.int .i64 0,.int .i64 0,.int .i64 0,.slice none 0 0] 27)) (.cells #[.int .i64 0,.int .i64 0,.int .i64 0,.slice none 0 0,.slice none 0 0] 53);have X:=(u.trans (D.mono (by have:=u.size;omega))).trans (V.mono (by have:=u.size;have:=D.size;omega));have Hf:Hid (Hu I=0):=by rw[Hid,Hu,arJ J]
  obtain⟨er,E⟩:∃er,er=I.err:=⟨_,rfl⟩
  rw[<-E]at J|-;have jC:=arH E;clear E;have O6:(er !=0)=true:=by simpa using J
  go_upto_region 5 with fail
  clear V D u;generalize World.alloc (U.alloc _) _=w7 at X|-;go_wp2;go_ret2;exact⟨by rw[Hf.out];simp[go_sem,jC.out],L▸X⟩
theorem aek{num den mode:Int}(hd:0<den):den*eZ num den mode<=num+den/\num-den<=den*eZ num den mode:=by have e:=VK num den mode;have j:=VL num den mode;have p:=as8 num den;have u:=asP num (show den≠0 by omega);have z:=asQ num hd;have B:den*(num/den)<=den*eZ num den mode:=asq e (by omega);have l:den*eZ num den mode<=den*(num/den+1):=asq j (by omega);rw[asZ,Int.mul_one]at l;omega
theorem ael{a num unit mode:Int}(hu:1<=unit):1000000*mF a num 1000000 unit mode<=a*num+1000000*unit/\a*num-1000000*unit<=1000000*mF a num 1000000 unit mode:=by
 have h:=aek (num:=a*num) (den:=1000000*unit) (mode:=mode) (by omega);unfold mF;have e:1000000*(eZ (a*num) (1000000*unit) mode*unit)=1000000*unit*eZ (a*num) (1000000*unit) mode:=by rw[asn (eZ _ _ _) unit,asm]
 rw[e];exact h
theorem aem(f g:Nat->Int)(n:Nat):sumTo (fun i=>f i-g i) n=sumTo f n-sumTo g n:=by
 induction n with
 |zero=>simp[sumTo]
 |succ n e=>simp only[sumTo,e];omega
theorem akI{t:List cv}{p x y:Int}(h:ig t)(l:∀b∈t,b.bH<=p)(u:0<=x)(D:x<=y):nL t x<=nL t y/\nL t y-nL t x<=p*(y-x):=by
 have e:∀i,fU t x i<=fU t y i:=fun i=>by
  have:Ji t x i<=Ji t y i:=by unfold Ji;split<;>omega
  unfold fU;omega
 refine⟨aae _ (fun i hi=>asE (e i) (h.r0 i hi)),?_⟩;have z:nL t y-nL t x=sumTo (fun i=>fU t y i*(t.getD i gS).bH-fU t x i*(t.getD i gS).bH) t.length:=(aem _ _ _).symm;rw[z];have j:sumTo (fun i=>fU t y i*(t.getD i gS).bH-fU t x i*(t.getD i gS).bH) t.length<=sumTo (fun i=>(fU t y i-fU t x i)*p) t.length:=aae _ (fun i hi=>by rw[<-Int.sub_mul];refine asq (l _ ?_) (by have:=e i;omega);rw[ar1,arW hi];exact arO hi)
 have B:=(aaf h (show 0<=y by omega) t.length).2 rfl;have C:=(aaf h u t.length).2 rfl;rw[aen,aem (fU t y) (fU t x),B,C,asn]at j;exact j
theorem akJ{t:List cv}{p num den:Int}(j:∀b∈t,b.bH<=p):∀k,k<=t.length->∀b∈ma t num den k,b.bH<=p:=by
 intro k
 induction k with
 |zero=>intro _ b hb;cases hb
 |succ k e=>
  intro l b hb;rw[ma]at hb;split at hb
  ·exact e (by omega) b hb
  ·rcases asf.1 hb with hb|hb
   ·exact e (by omega) b hb
   ·rw[asv]at hb;subst hb;show(t.getD k gS).bH<=p;refine j _ ?_;rw[ar1,arW (show k<t.length by omega)];exact arO _
def Hv(l:List cv)(al cr inc:Int):Int:=max (nL l (max (inc-al) 0)-1000000*cr) 0
theorem aeo{l:List cv}{p al cr x y:Int}(h:ig l)(e:0<=p)(j:∀b∈l,b.bH<=p)(u:x<=y):Hv l al cr x<=Hv l al cr y/\Hv l al cr y-Hv l al cr x<=p*(y-x):=by obtain⟨z,B⟩:=akI (x:=max (x-al) 0) (y:=max (y-al) 0) h j (by omega) (by omega);have C:p*(max (y-al) 0-max (x-al) 0)<=p*(y-x):=asq (by omega) e;unfold Hv;omega
theorem aep{t:AQ}{l:List cv}{al cr inc:Int}(hu:1<=t.unit):1000000*mH t l al cr inc<=Hv l al cr inc+1000000*t.unit/\Hv l al cr inc-1000000*t.unit<=1000000*mH t l al cr inc:=by
 have h:=aek (num:=nL l (max (inc-al) 0)) (den:=1000000*t.unit) (mode:=t.mode) (by omega);have e:1000000*CL l (max (inc-al) 0) t.unit t.mode=1000000*t.unit*eZ (nL l (max (inc-al) 0)) (1000000*t.unit) t.mode:=by unfold CL;rw[asn (eZ _ _ _) t.unit,asm]
 rw[<-e]at h;unfold mH Hv;omega
structure akK(T:Int->Int)(p u:Int):Prop where
 ex:∃(q W:Int) (G:Int->Int),1<=q/\(∀x y,x<=y->G x<=G y/\G y-G x<=p*q*(y-x))/\∀x,1000000*q*T x+W<=G x+1000000*q*(u+1)/\G x-1000000*q*(u+1)<=1000000*q*T x+W
theorem akL{t:AQ}(B:nK t){p:Int}(G:0<=p)(I:∀b∈t.au,b.bH<=p)(hm:t.method=2\/t.method=3){j u yi wh:Int}(C:1<=j)(O:0<=u)(P:u<j):
  akK (kG t j u yi wh) p t.unit:=by
 have hu:=B.u0;rcases hm with hm|hm
 ·refine⟨j,0,fun x=>Hv t.au t.aZ t.bf (x*j),C,fun x y J=>?_,fun x=>?_⟩
  ·have K:x*j<=y*j:=asE J (by omega);obtain⟨D,z⟩:=aeo (al:=t.aZ) (cr:=t.bf) B.au G I K;refine⟨D,?_⟩;have e:p*(y*j-x*j)=p*j*(y-x):=(by rw[<-Int.sub_mul,asn (y-x),asm]);rw[e]at z;exact z
  ·have E:kG t j u yi wh x=mH t t.au t.aZ t.bf (x*j)/j:=by
    unfold kG;rw[arJ (by omega),arK hm];rfl
   dsimp only;rw[E];obtain⟨L,M⟩:=aep (t:=t) (l:=t.au) (al:=t.aZ) (cr:=t.bf) (inc:=x*j) hu;generalize mH t t.au t.aZ t.bf (x*j)=n at*;have d1:=as8 n j;have d2:=asP n (show j≠0 by omega);have d3:=asQ n (show 0<j by omega);have d4:1000000*j*(n/j)=1000000*(j*(n/j)):=asm _ _ _;have d5:1000000*j*(t.unit+1)=1000000*(j*t.unit)+1000000*j:=by rw[asZ,Int.mul_one,asm]
   have d6:t.unit<=j*t.unit:=by have:=asE C (show 0<=t.unit by omega);omega
   rw[d4,d5];generalize j*(n/j)=m at*;generalize j*t.unit=v at*;omega
 ·have F:=RF B.au (num:=u+1) (den:=j) (by omega) C (by omega);refine⟨1,1000000*wh,fun x=>Hv (ou t.au (u+1) j) (t.aZ*(u+1)/j) (t.bf*(u+1)/j) (yi+x),by omega,fun x y J=>?_,fun x=>?_⟩
  ·obtain⟨D,z⟩:=aeo (al:=t.aZ*(u+1)/j) (cr:=t.bf*(u+1)/j) (x:=yi+x) (y:=yi+y) F G (akJ I _ (arI _)) (by omega);refine⟨D,?_⟩;rw[Int.mul_one];have e:yi+y-(yi+x)=y-x:=(by omega);rw[e]at z;exact z
  ·have E:kG t j u yi wh x=nD t j (u+1) (yi+x)-wh:=by
    unfold kG;rw[arJ (by omega),arJ (by omega)]
   dsimp only;rw[E];obtain⟨L,M⟩:=aep (t:=t) (l:=ou t.au (u+1) j) (al:=t.aZ*(u+1)/j) (cr:=t.bf*(u+1)/j) (inc:=yi+x) hu;have N:nD t j (u+1) (yi+x)=mH t (ou t.au (u+1) j) (t.aZ*(u+1)/j) (t.bf*(u+1)/j) (yi+x):=rfl;rw[N];generalize mH t _ _ _ _=n at*;omega
theorem akM{T:Int->Int}{p u q W ta tb ra rb D H:Int}{G:Int->Int}(R:1<=q)(I:0<=p)(J:p<=1000000)(e:∀x y,x<=y->G x<=G y/\G y-G x<=p*q*(y-x))(E:∀x,1000000*q*T x+W<=G x+1000000*q*(u+1)/\G x-1000000*q*(u+1)<=1000000*q*T x+W)
  (F:0<=D) (K:ta<=tb) (S:tb<=ta+D) (z:0<=H) (L:1000000*(rb-ra)<=H):
  1000000*q*(rb-ra)+1000000*q*(T (max (tb-rb) 0)-T (max (ta-ra) 0))<=q*H+p*q*D+2000000*q*(u+1):=by
 have U:=E (max (tb-rb) 0);have V:=E (max (ta-ra) 0);have j:0<=p*q:=asg I (by omega);have M:0<=q*H:=asg (by omega) z;have B:q*(1000000*(rb-ra))<=q*H:=asq L (by omega);have N:q*(1000000*(rb-ra))=1000000*q*(rb-ra):=by rw[<-asm,asn q]
 rw[N]at B;rw[Int.mul_sub (1000000*q) (T _)];have key:1000000*q*(rb-ra)+(G (max (tb-rb) 0)-G (max (ta-ra) 0))<=q*H+p*q*D:=by
  rcases Int.lt_or_le rb ra with hr|hr
  ·-- O X C
   rcases Int.lt_or_le (max (tb-rb) 0) (max (ta-ra) 0)with hi|hi
   ·have:=(e _ _ (Int.le_of_lt hi)).1;have l:0<=p*q*D:=asg j F;have P:1000000*q*(rb-ra)<=0:=Int.mul_nonpos_of_nonneg_of_nonpos (by omega) (by omega);omega
   ·have Q:=(e _ _ hi).2;have l:p*q*(max (tb-rb) 0-max (ta-ra) 0)<=p*q*(D+(ra-rb)):=asq (by omega) j;rw[asZ]at l;have P:p*q*(ra-rb)<=1000000*q*(ra-rb):=asE (asE J (by omega)) (by omega);have Y:1000000*q*(ra-rb)=-(1000000*q*(rb-ra)):=(by rw[<-Int.mul_neg];congr 1;omega);omega
  ·rcases Int.lt_or_le (max (tb-rb) 0) (max (ta-ra) 0)with hi|hi
   ·have:=(e _ _ (Int.le_of_lt hi)).1;have l:0<=p*q*D:=asg j F;omega
   ·have Q:=(e _ _ hi).2;have l:p*q*(max (tb-rb) 0-max (ta-ra) 0)<=p*q*D:=asq (by omega) j;omega
 have Z:2000000*q*(u+1)=1000000*q*(u+1)+1000000*q*(u+1):=by rw[<-asD];congr 1;omega
 omega
def bI(r:pH)(y:AR)(x:List Elem)(c:ByteArray)(n:Int):aY:=⟨r,pY,y,[],true,x++[⟨c,n⟩]⟩
def mI(l:List cv):Int:=l.foldl (fun m b=>max m b.bH) 0
theorem akO(l:List cv):∀m:Int,m<=l.foldl (fun m b=>max m b.bH) m/\∀b∈l,b.bH<=l.foldl (fun m b=>max m b.bH) m:=by
 induction l with
 |nil=>intro m;exact⟨asI _,fun b hb=>(by cases hb)⟩
 |cons a l e=>
  intro m;rw[asR];obtain⟨p,j⟩:=e (max m a.bH);refine⟨by omega,fun b hb=>?_⟩;rcases asb.1 hb with rfl|hb
  ·omega
  ·exact j b hb
theorem RG(l:List cv):0<=mI l/\∀b∈l,b.bH<=mI l:=akO l 0
def kK(l:List bR):Int:=aL (l.map fun s=>s.aA)
def k8(l:List bR):Int:=aL (l.map fun s=>s.unit)
def jd(r:pH):Int:=kK r.aV+mI r.fT.au
structure jz(r:pH)(y:AR)(x:List Elem)(c:ByteArray):Prop where
 ro:AU r
 m:r.fT.method=2\/r.fT.method=3
 ge:GenE r.cB x
 xl:x.length<=3
 xz:∀e∈x,e.code.size<=maxLen
 yo:Kw y
 fg:y.az<r.count
 yl:y.aM.length<=4
 yi:y.ax<=2400000
 wh:-1000000<=y.aN/\y.aN<=1000000
 ins:∀v∈y.aM,v<=1000000
 w:∃v,dJ r.cB c=some v/\v.kind=1
 cz:c.size<=maxLen
 fl:∀s∈r.aV,s.floor=0
 lv:jd r<=900000
 rt:∀b∈r.fT.au,b.bH<=1000000
section
variable {r:pH}{y:AR}{x:List Elem}{c:ByteArray}
theorem aeq(p:ByteArray->Bool)(x:List Elem)(c:ByteArray)(n:Int):gC p (x++[⟨c,n⟩])=gC p x+if p c=true then n else 0:=by rw[akP];simp[gC]
theorem jz.cb(h:jz r y x c)(p:ByteArray->Bool):-1800000<=gC p x/\gC p x<=1800000:=by have:=aiF p x 600000 (by omega) (fun e j=>by have:=(h.ge e j).2;omega);have:=h.xl;omega
theorem jz.base(h:jz r y x c):∃(e t0 j l:Int) (t i a:Bool),(-1800000<=e/\e<=1800000)/\(-1800000<=t0/\t0<=1800000)/\(-1800000<=j/\j<=1800000)/\(-1800000<=l/\l<=1800000)/\
  ∀n,(bI r y x c n).b.c=e+n/\(bI r y x c n).b.t=t0+(if t=true then n else 0)/\(bI r y x c n).b.i=j+(if i=true then n else 0)/\(bI r y x c n).b.a=l+(if a=true then n else 0):=by
 obtain⟨v,p,u⟩:=h.w;refine⟨_,_,_,_,(pw r.cB c).jy,(pw r.cB c).aM,(pw r.cB c).gi,h.cb (fun c=>decide ((pw r.cB c).kind=1)),h.cb (fun c=>(pw r.cB c).jy),h.cb (fun c=>(pw r.cB c).aM),h.cb (fun c=>(pw r.cB c).gi),fun n=>?_⟩;have z:(bI r y x c n).b=fI r.cB (bF (x++[⟨c,n⟩])):=rfl;rw[z,UN,VO];simp only[aeq];have B:decide ((pw r.cB c).kind=1)=true:=by
  have:pw r.cB c=v:=by unfold pw;rw[p];rfl
  rw[this];simpa using u
 have C:(pw r.cB c).kind=1:=by simpa using B
 simp[C]
theorem aag{e:List cO}{c:ByteArray}{v:cO}(h:dJ e c=some v):v∈e/\v.code=c:=by
 unfold dJ at h;have l:=List.mem_of_find?_eq_some h;have p:=List.find?_some h;have j:v.code.toList=c.toList:=by simpa[IP]using p
 simp only[ByteArray.toList_eq]at j;exact⟨l,ByteArray.ext (Array.toList_inj.1 j)⟩
theorem aer{e:List cO}(j:kf e=true){v:cO}(h:v∈e):bK v.code=true:=by
 obtain⟨i,hi,rfl⟩:=List.getElem_of_mem h;have l:ng e i e[i]=true:=by unfold kf at j;simp only[ar5,ar7]at j;exact j.2 i hi
 simp only[ng,ar5]at l;exact l.1.1.1.1
theorem jz.Eo(h:jz r y x c){n:Int}(J:0<=n)(K:n<=100000000):dV r.cB (x++[⟨c,n⟩]) (bF (x++[⟨c,n⟩]))=0:=by
 obtain⟨v,B,L⟩:=h.w;obtain⟨j,l⟩:=aag B;have C:∀e∈x,-600000<=e.amount/\e.amount<=600000:=fun e he=>by have:=(h.ge e he).2;omega
 have M:=h.xl;have D:dU (x++[⟨c,n⟩])=0:=by
  refine aiG (by rw[arV,atd];omega) (fun e he=>?_) (fun e he=>?_) fun k=>?_
  ·rcases asf.1 he with he|he
   ·obtain⟨u,hu,z⟩:=(h.ge e he).1;rw[z];exact aer h.ro.cB hu
   ·rw[asv]at he;subst he;show bK c=true;rw[<-l];exact aer h.ro.cB j
  ·rcases asf.1 he with he|he
   ·have:=C e he;exact UL (by omega) (by omega)
   ·rw[asv]at he;subst he;exact UL (by show-1000000000<=n;omega) (by show n<=1000000000;omega)
  ·have:=aiE x k 600000 (by omega) C;rw[NN];have E:cE [⟨c,n⟩] k=if c.data.toList=k then n else 0:=by simp[cE]
   rw[E];exact UL (by split<;>omega) (by split<;>omega)
 have F:missing r.cB (x++[⟨c,n⟩])=false:=by
  rw[missing,asr];intro e he;rcases asf.1 he with he|he
  ·obtain⟨u,hu,z⟩:=(h.ge e he).1;rw[z,aiH hu];simp
  ·rw[asv]at he;subst he;show¬(dJ r.cB c).isNone=true;rw[B];simp
 have G:ow (fI r.cB (x++[⟨c,n⟩]))=true:=by
  rw[VO];have I:∀p,cy (gC p (x++[⟨c,n⟩]))=true:=fun p=>by have:=h.cb p;rw[aeq];exact UL (by split<;>omega) (by split<;>omega)
  simp only[ow,I,Bool.and_self]
 refine aiM ?_;simp only[Go.Proofs.YtlhkojcmcmkmaaaGreat.dV,h.ro.cB,D,F,G,Bool.true_eq_false,asC,asj,ne_eq,not_true_eq_false]
theorem jz.Fv(h:jz r y x c)(n:Int):oL (bI r y x c n):=
 ⟨h.ro,aiJ,h.yo,⟨aiK,(by show(0:Nat)<=16;omega),fun x j=>(by cases j)⟩,fun e he=>(by cases he),fun e he=>by
  rcases asf.1 (show e∈x++[⟨c,n⟩]from he)with he|he
  ·exact h.xz e he
  ·rw[asv]at he;subst he;exact h.cz⟩
theorem akQ(v:gv){i:Int}(hi:0<=i):(lW v [i]).getD 0 jt=v:=by
 unfold lW;split
 ·rfl
 ·rename_i j;have z:0<aL [i]:=by simp only[aL,Int.add_zero]at j|-;omega
  have key:∀t:Int,(eB t [i]).getD 0 0=t:=fun t=>by
   have p:=VP (total:=t) z;have e:=Ox t [i];cases u:eB t [i]with
   |nil=>rw[u]at e;simp at e
   |cons a l=>rw[u]at p e;simp only[arZ,asa]at e;have:l=[]:=atb (by omega);subst this;simpa[aL]using p
  simp only[arZ,asa,List.range_succ,List.range_zero,atk,asS,List.map_nil,List.getD_cons_zero,key]
def O8(s:bR)(e:List Int)(i:Int):Int:=(jO s (e++[i])).aA
theorem aes(I:aY)(h:I.p=pY)(s:bR):(I.dK s).aA=O8 s I.y.aM I.aM:=by
 have e:I.eh=[(I.y.aM,I.aM)]:=by unfold aY.eh;rw[h];rfl
 unfold aY.dK O8;rw[e];unfold Ee;rw[acF];show((lW _ (mr [(I.y.aM,I.aM)])).getD 0 jt).aA=_;rw[show mr [(I.y.aM,I.aM)]=[I.aM]from rfl,akQ _ (by unfold aY.aM;omega)]
theorem aet{s:bR}(j:s.floor=0){e:List Int}{i:Int}(hi:0<=i):cQ s (e++[i])=min (kT s e+i) ((e.length+1:Nat)*s.dt):=by
 unfold cQ;rw[aah,arV,atd];have:kT s [i]=i:=by unfold kT;rw[List.filter_cons_of_pos (by simp[j,hi])];simp[aL]
 rw[this]
theorem akR{s:bR}(j:mS s)(B:s.floor=0){e:List Int}(F:∀v∈e,0<=v)(I:e.length<=53){a b D:Int}(C:0<=a)(G:a<=b)(J:b<=a+D):
  1000000*(O8 s e b-O8 s e a)<=D*s.aA+2000000*s.unit:=by
 have E:=fun(i:Int) (hi:0<=i)=>IC (s:=s) (l:=e++[i]) j (fun v hv=>by
  rcases asf.1 hv with hv|hv
  ·exact F v hv
  ·rw[asv]at hv;omega) (by rw[arV,atd];omega)
 have p:=fun(i:Int) (hi:0<=i)=>(Jj (a:=cQ s (e++[i])) (num:=s.aA) (unit:=s.unit) (mode:=s.mode) (E i hi).1 (by have:=(E i hi).2;omega) j.e0 j.e1 j.u0 j.u1 j.m0 j.m1).2.1;have hv:∀i,0<=i->O8 s e i=mF (cQ s (e++[i])) s.aA 1000000 s.unit s.mode-(bC s (cQ s e)).aA:=fun i hi=>by unfold O8 jO IH;rw[List.dropLast_concat];show(bC s (cQ s (e++[i]))).aA-_=_;congr 1;exact p i hi
 rw[hv a C,hv b (by omega)];have K:=ael (a:=cQ s (e++[a])) (num:=s.aA) (unit:=s.unit) (mode:=s.mode) j.u0;have L:=ael (a:=cQ s (e++[b])) (num:=s.aA) (unit:=s.unit) (mode:=s.mode) j.u0;have u:cQ s (e++[b])-cQ s (e++[a])<=D:=by rw[aet B C,aet B (by omega)];omega
 have z:(cQ s (e++[b])-cQ s (e++[a]))*s.aA<=D*s.aA:=asE u j.e0;rw[Int.sub_mul]at z;omega
theorem aeu{l:List bR}{F G e u:bR->Int}{D:Int}(h:∀s∈l,1000000*(F s-G s)<=D*e s+2000000*u s):1000000*(aL (l.map F)-aL (l.map G))<=D*aL (l.map e)+2000000*aL (l.map u):=by
 induction l with
 |nil=>simp[aL]
 |cons a l j=>have z:=h a (by simp);have B:=j (fun s p=>h s (by simp[p]));simp only[asS,aL,asZ];omega
theorem VQ(l:List bR)(F:bR->Int):aL (l.map F)=aL (l.map fun s=>if s.cA=true then F s else 0)+aL (l.map fun s=>if s.cA=true then 0 else F s):=by
 induction l with
 |nil=>rfl
 |cons a l e=>simp only[asS,aL,e];split<;>omega
theorem aai{l:List bR}{F:bR->Int}(h:∀s∈l,0<=F s):0<=aL (l.map F):=by
 induction l with
 |nil=>simp[aL]
 |cons a l e=>have p:=h a (by simp);have u:=e (fun s j=>h s (by simp[j]));simp only[asS,aL];omega
def fL(r:pH)(y:AR)(x:List Elem)(c:ByteArray)(n:Int):Int:=(bI r y x c n).El
theorem jz.grow(h:jz r y x c){a b:Int}(ab:a<=b):
  (b-a)*(1000000-jd r)-2000000*(k8 r.aV+r.fT.unit+1)<=1000000*(fL r y x c b-fL r y x c a):=by
 obtain⟨J,t0,i0,a0,tf,jf,af,-,-,-,-,Z⟩:=h.base;obtain⟨ca,ta,ia,-⟩:=Z a;obtain⟨cb,tb,ib,-⟩:=Z b;obtain⟨D,hD⟩:∃D,D=b-a:=⟨_,rfl⟩
 have RH:0<=D:=by omega
 rw[<-hD]
 -- ad aM ae
 have R:0<=(bI r y x c a).aM:=by unfold aY.aM;omega
 have l:(bI r y x c a).aM<=(bI r y x c b).aM/\(bI r y x c b).aM<=(bI r y x c a).aM+D:=by
  unfold aY.aM;rw[ia,ib];cases jf
  ·simp only[asC,asj];omega
  ·simp only[ash];omega
 have nI:∀v∈y.aM,0<=v:=fun v hv=>(h.yo.ins v hv).1;have B:y.aM.length<=53:=by have:=h.yl;omega
 have C:∀s∈r.aV,1000000*(((bI r y x c b).dK s).aA-((bI r y x c a).dK s).aA)<=D*s.aA+2000000*s.unit:=fun s e=>by rw[aes _ rfl,aes _ rfl];exact akR (h.ro.l9 s e) (h.fl s e) nI B R l.1 l.2
 have S:1000000*(aL (r.aV.map fun s=>if s.cA=true then((bI r y x c b).dK s).aA else 0)-aL (r.aV.map fun s=>if s.cA=true then((bI r y x c a).dK s).aA else 0))<=D*aL (r.aV.map fun s=>if s.cA=true then s.aA else 0)+2000000*aL (r.aV.map fun s=>if s.cA=true then s.unit else 0):=
  aeu fun s e=>by have:=C s e;by_cases hd:s.cA=true<;>simp only[hd,ash,asC,asj]<;>omega
 have Mf:1000000*(aL (r.aV.map fun s=>if s.cA=true then 0 else((bI r y x c b).dK s).aA)-aL (r.aV.map fun s=>if s.cA=true then 0 else((bI r y x c a).dK s).aA))<=D*aL (r.aV.map fun s=>if s.cA=true then 0 else s.aA)+2000000*aL (r.aV.map fun s=>if s.cA=true then 0 else s.unit):=
  aeu fun s e=>by have:=C s e;by_cases hd:s.cA=true<;>simp only[hd,ash,asC,asj]<;>omega
 have eU:=VQ r.aV (fun s=>s.unit);have eE:=VQ r.aV (fun s=>s.aA);have T:0<=aL (r.aV.map fun s=>if s.cA=true then s.aA else 0):=aai fun s e=>by have:=(h.ro.l9 s e).e0;split<;>omega
 have ai:0<=aL (r.aV.map fun s=>if s.cA=true then s.unit else 0):=aai fun s e=>by have:=(h.ro.l9 s e).u0;split<;>omega
 have lA:=VQ r.aV (fun s=>((bI r y x c a).dK s).aA);have lB:=VQ r.aV (fun s=>((bI r y x c b).dK s).aA);have fa:fL r y x c a=(bI r y x c a).b.c-aL (r.aV.map fun s=>((bI r y x c a).dK s).aA)-(bI r y x c a).aw:=rfl;have fb:fL r y x c b=(bI r y x c b).b.c-aL (r.aV.map fun s=>((bI r y x c b).dK s).aA)-(bI r y x c b).aw:=rfl;have Gl:∀n,(bI r y x c n).ax=max ((bI r y x c n).b.t-aL (r.aV.map fun s=>if s.cA=true then((bI r y x c n).dK s).aA else 0)) 0:=fun n=>by have K:(bI r y x c n).ax=max ((bI r y x c n).b.t-aR (bI r y x c n).before-aL (r.aV.map fun s=>if s.cA then((bI r y x c n).dK s).aA else 0)) 0:=rfl;rw[YP.before _ rfl,show aR ([]:List Elem)=0 from rfl]at K;rw[K];congr 1;omega
 have O9:∀n,(bI r y x c n).aw=kG r.fT r.count y.az y.ax y.aN (max ((bI r y x c n).b.t-aL (r.aV.map fun s=>if s.cA=true then((bI r y x c n).dK s).aA else 0)) 0):=fun n=>by rw[<-Gl];rfl
 rw[fa,fb,O9 a,O9 b,ca,cb,lA,lB];have E:(bI r y x c a).b.t<=(bI r y x c b).b.t/\(bI r y x c b).b.t<=(bI r y x c a).b.t+D:=by
  rw[ta,tb];cases tf
  ·simp only[asC,asj];omega
  ·simp only[ash];omega
 obtain⟨p0,p1⟩:=RG r.fT.au;have al:0<=kK r.aV:=aai fun s e=>(h.ro.l9 s e).e0;have U:=h.lv;have V:mI r.fT.au<=1000000:=by unfold jd at U;omega
 obtain⟨q,W,G,hq,hG,hT⟩:=(akL h.ro.fT p0 p1 h.m h.ro.c0 h.yo.p0 h.fg (yi:=y.ax) (wh:=y.aN)).ex;have X:jd r=aL (r.aV.map fun s=>s.aA)+mI r.fT.au:=rfl;have Y:k8 r.aV=aL (r.aV.map fun s=>s.unit):=rfl;rw[X,Y,eU,eE];generalize aL (r.aV.map fun s=>if s.cA=true then s.aA else 0)=j at*;generalize aL (r.aV.map fun s=>if s.cA=true then 0 else s.aA)=L at*;generalize aL (r.aV.map fun s=>if s.cA=true then s.unit else 0)=F at*;generalize aL (r.aV.map fun s=>if s.cA=true then 0 else s.unit)=M at*;generalize aL (r.aV.map fun s=>if s.cA=true then((bI r y x c a).dK s).aA else 0)=ra at*;generalize aL (r.aV.map fun s=>if s.cA=true then((bI r y x c b).dK s).aA else 0)=rb at*;generalize aL (r.aV.map fun s=>if s.cA=true then 0 else((bI r y x c a).dK s).aA)=N at*;generalize aL (r.aV.map fun s=>if s.cA=true then 0 else((bI r y x c b).dK s).aA)=O at*;have am:0<=D*j:=asg RH T;have key:=akM (ta:=(bI r y x c a).b.t) (tb:=(bI r y x c b).b.t) (ra:=ra) (rb:=rb) (D:=D) (H:=D*j+2000000*F) hq p0 V hG hT RH E.1 E.2 (by omega) S;generalize kG r.fT r.count y.az y.ax y.aN (max ((bI r y x c a).b.t-ra) 0)=P at*;generalize kG r.fT r.count y.az y.ax y.aN (max ((bI r y x c b).b.t-rb) 0)=Q at*;generalize mI r.fT.au=p at*;generalize r.fT.unit=u at*;have Fe:0<q:=by omega
 have hN:=asq Mf (show 0<=q by omega);refine Int.le_of_mul_le_mul_left (a:=q) ?_ Fe;have k1:q*(D*(1000000-(j+L+p))-2000000*(F+M+u+1))=1000000*(q*D)-q*(D*j)-q*(D*L)-p*q*D-2000000*(q*F)-2000000*(q*M)-2000000*(q*(u+1)):=by
  have:p*q*D=q*(D*p):=by rw[asn p q,asm,asn p D]
  rw[this];simp only[Int.mul_sub,asZ];have K:q*(D*1000000)=1000000*(q*D):=by rw[<-asm,asn]
  have I:∀z:Int,q*(2000000*z)=2000000*(q*z):=fun z=>by rw[<-asm,asn q,asm]
  rw[K,I,I,I];omega
 have k2:q*(1000000*(J+b-(rb+O)-Q-(J+a-(ra+N)-P)))=1000000*(q*D)-q*(1000000*(O-N))-1000000*q*(rb-ra)-1000000*q*(Q-P):=by
  have e0:J+b-(rb+O)-Q-(J+a-(ra+N)-P)=D-(O-N)-(rb-ra)-(Q-P):=by omega
  rw[e0];simp only[Int.mul_sub];have I:∀z:Int,q*(1000000*z)=1000000*(q*z):=fun z=>by rw[<-asm,asn q,asm]
  have e3:∀z:Int,1000000*q*z=1000000*(q*z):=fun z=>asm _ _ _;simp only[I,e3]
 have k3:q*(D*L+2000000*M)=q*(D*L)+2000000*(q*M):=by rw[asZ,<-asm q 2000000,asn q 2000000,asm]
 have k4:q*(D*j+2000000*F)=q*(D*j)+2000000*(q*F):=by rw[asZ,<-asm q 2000000,asn q 2000000,asm]
 have k5:2000000*q*(u+1)=2000000*(q*(u+1)):=asm _ _ _;rw[k1,k2];rw[k3]at hN;rw[k4,k5]at key;omega
end
theorem aew{a:List Elem}(h:eP a=true)(p:Elem->Bool):eP (a.filter p)=true:=by obtain⟨e,j,l⟩:=pZ.1 h;exact pZ.2 ⟨ar0 (asi _ _) e,fun x u=>j x (asY.1 u).1,l.sublist List.filter_sublist⟩
theorem aaj{a:List Elem}(h:eP a=true):eA a []=0/\lj a []=a.filter nz:=by
 obtain⟨C,l,_⟩:=pZ.1 h;have e:mn a []=a.filter nz:=rfl;have p:([]:List Elem).all nW=true:=rfl;have u:¬128<(mn a []).length:=by rw[e];have:=asi nz a;omega
 have z:(mn a []).any (fun x=>decide (1000000000000<x.amount))=false:=by rw[asr,e];intro x B;have:=(l x (asY.1 B).1).2.2;simp;omega
 have j:eA a []=0:=by unfold eA;rw[h,p,z];simp[u]
 exact⟨j,by rw[lj,arK j,e]⟩
theorem aex{base e:Int}{t:List Elem}(h:eP t=true)(j:0<=base)(l:base<=1000000000)(p:0<=e)(u:e<=1000000000):eK [] base e t=0:=by
 have z:gl []=true:=by decide+kernel
 have B:bJ base 1000000000=true:=im.2 ⟨j,l⟩;have C:bJ e 1000000000=true:=im.2 ⟨p,u⟩;simp only[eK,z,h,B,C,Bool.true_eq_false,asj]
theorem akT{t:AQ}(l:nK t)(hm:t.method=2\/t.method=3){e p yi wh j:Int}(B:1<=e)(D:0<=p)(E:p<e)(hy:0<=yi)(hi:0<=j):
  min 0 (-wh)<=kG t e p yi wh j/\kG t e p yi wh j<=yi+j+100+max 0 (-wh):=by
 rcases hm with hm|hm
 ·have u:kG t e p yi wh j=mH t t.au t.aZ t.bf (j*e)/e:=by
   unfold kG;rw[arJ (by omega),arK hm];rfl
  have z:0<=j*e:=asg hi (by omega);obtain⟨C,F⟩:=VR (al:=t.aZ) (cr:=t.bf) l.au l.u0 l.u1 l.a0 l.c0 z;rw[u];have d0:=asG C (show 0<=e by omega);have d1:mH t t.au t.aZ t.bf (j*e)/e<=j+100:=by refine Int.ediv_le_of_le_mul (by omega) ?_;rw[asD];omega
  omega
 ·have u:kG t e p yi wh j=nD t e (p+1) (yi+j)-wh:=by
   unfold kG;rw[arJ (by omega),arJ (by omega)]
  have hd:0<=nD t e (p+1) (yi+j)/\nD t e (p+1) (yi+j)<=yi+j+100:=
   VR (RF l.au (by omega) B (by omega)) l.u0 l.u1 (asG (asg l.a0 (by omega)) (by omega)) (asG (asg l.c0 (by omega)) (by omega)) (by omega)
  rw[u];omega
section
variable {r:pH}{y:AR}{x:List Elem}{c:ByteArray}{n:Int}
theorem jz.err(h:jz r y x c)(M:0<=n)(N:n<=100000000):(bI r y x c n).err=0:=by
 obtain⟨c0,t0,i0,a0,tf,jf,af,bc,bt,bi,ba,O⟩:=h.base;obtain⟨hc,P,hi,ha⟩:=O n;have Q:-1800000<=(bI r y x c n).b.c/\(bI r y x c n).b.c<=101800000:=by omega
 have Pa:(bI r y x c n).b.t<=101800000:=by rw[P];split<;>omega
 have R:(bI r y x c n).b.i<=101800000:=by rw[hi];split<;>omega
 have C:=h.ro.c0;have S:=h.yo.p0;have D:=h.fg;have u:=h.yo.taken;have T:¬(bI r y x c n).r.count<=(bI r y x c n).y.az:=by show¬r.count<=y.az;omega
 have U:dV (bI r y x c n).r.cB (bI r y x c n).e (bF (bI r y x c n).e)=0:=h.Eo M N;have V:eK (bI r y x c n).p.j9 (bI r y x c n).base (max (bI r y x c n).b.c 0) (bI r y x c n).y.taken=0:=by have:(bI r y x c n).base=max (bI r y x c n).b.c 0:=rfl;exact aex u (by omega) (by omega) (by omega) (by omega)
 have nI:(bI r y x c n).aM=max (bI r y x c n).b.i 0:=rfl;have pX:=h.yl;have F:∀s∈(bI r y x c n).r.aV,fO (gI s (bI r y x c n).y.aM.length (bI r y x c n).eh)=false:=by
  intro s z;have X:(bI r y x c n).eh=[(y.aM,(bI r y x c n).aM)]:=rfl;rw[X,show(bI r y x c n).y.aM.length=y.aM.length from rfl,acF];have G:∀v∈y.aM++[(bI r y x c n).aM],0<=v/\v<=102000000:=by
   intro v hv;rcases asf.1 hv with hv|hv
   ·have:=h.yo.ins v hv;have:=h.ins v hv;omega
   ·rw[asv]at hv;subst hv;omega
  have E:=(kR G).2;rw[arV,atd]at E;exact aiL (h.ro.l9 s z) (by simp) (fun v hv=>(G v hv).1) (by rw[arV,atd];omega) (by omega)
 have J:=Y6 F;have j:=U1 (I:=bI r y x c n) (l:=(bI r y x c n).r.aV) (k:=(bI r y x c n).r.aV.length) h.ro.Cg (fun s z=>by rw[asp]at z;exact((h.Fv n).Re (by show y.az<r.count;omega) (by omega) z (F s z)).1)
 rw[asp]at j;have Y:0<=(bI r y x c n).bj:=j.1.1;have hrel:0<=(bI r y x c n).jT (bI r y x c n).r.aV:=j.2.1;have B:(bI r y x c n).before=[]:=YP.before _ rfl;have Z:0<=(bI r y x c n).ax/\(bI r y x c n).ax<=101800000:=by have e:(bI r y x c n).ax=max ((bI r y x c n).b.t-aR (bI r y x c n).before-(bI r y x c n).jT (bI r y x c n).r.aV) 0:=rfl;rw[B,show aR ([]:List Elem)=0 from rfl]at e;omega
 have O9:(bI r y x c n).aw=kG r.fT r.count y.az y.ax y.aN (bI r y x c n).ax:=rfl;have hw:=akT h.ro.fT h.m C S D h.yo.i0 Z.1 (yi:=y.ax) (wh:=y.aN);rw[<-O9]at hw;have ab:=h.yi;have ad:=h.wh;have K:cy (bI r y x c n).aw=true:=Q9.2 ⟨by omega,by omega⟩;have L6:(bI r y x c n).BA<=200000000:=by have e:(bI r y x c n).BA=(bI r y x c n).b.c-aR (bI r y x c n).before-(bI r y x c n).bj-(bI r y x c n).aw:=rfl;rw[B,show aR ([]:List Elem)=0 from rfl]at e;omega
 have e6:¬((bI r y x c n).first=true/\1000000000<(bI r y x c n).net):=by rintro⟨_,hh⟩;have e:(bI r y x c n).net=max ((bI r y x c n).BA-max ((bI r y x c n).b.c-(bI r y x c n).b.a) 0) 0:=rfl;omega
 have e7:eA (bI r y x c n).y.taken (bI r y x c n).before=0:=by rw[B];exact(aaj u).1
 have L:(bI r y x c n).iy=y.taken.filter nz:=by show lj y.taken (bI r y x c n).before=_;rw[B];exact(aaj u).2
 have VS:(bI r y x c n).after=[]:=acE _ _ _ _;have e8:eK (bI r y x c n).p.j9 (bI r y x c n).base (max (bI r y x c n).ee 0) (bI r y x c n).iy=0:=by rw[L];have J:(bI r y x c n).ee=(bI r y x c n).BA-0:=rfl;have K:(bI r y x c n).base=max (bI r y x c n).b.c 0:=rfl;exact aex (aew u nz) (by omega) (by omega) (by omega) (by omega)
 have e9:eA (bI r y x c n).iy (bI r y x c n).after=0:=by rw[L,VS];exact(aaj (aew u nz)).1
 unfold aY.err;rw[arJ T,U,arJ (by simp),V,arJ (by simp),arJ (by rw[J];simp),arJ (by rw[K];simp),arJ e6,e7,arJ (by simp),e8,arJ (by simp),e9]
def nM(r:pH):Int:=r.fT.unit+2+k8 r.aV
def Dt(r:pH):Int:=2*nM r*1000000/(1000000-jd r)+2
theorem jz.aak(h:jz r y x c):0<=k8 r.aV/\k8 r.aV<=1200/\0<=jd r/\0<=kK r.aV/\kK r.aV<=12000000:=by
 have p:∀s∈r.aV,0<=s.unit/\s.unit<=100:=fun s e=>⟨by have:=(h.ro.l9 s e).u0;omega,(h.ro.l9 s e).u1⟩
 have u:∀s∈r.aV,0<=s.aA/\s.aA<=1000000:=fun s e=>⟨(h.ro.l9 s e).e0,(h.ro.l9 s e).e1⟩
 have z:=kR (l:=r.aV.map fun s=>s.unit) (B:=100) (fun v j=>by obtain⟨s,e,rfl⟩:=ar8.1 j;exact p s e);have C:=kR (l:=r.aV.map fun s=>s.aA) (B:=1000000) (fun v j=>by obtain⟨s,e,rfl⟩:=ar8.1 j;exact u s e);rw[asu]at z C;have D:=h.ro.Cg;have:=(RG r.fT.au).1;unfold k8 jd kK;omega
theorem jz.akV(h:jz r y x c){a b:Int}(e:a<=b):fL r y x c a<=fL r y x c b+2*nM r:=by have j:=h.grow e;have l:0<=(b-a)*(1000000-jd r):=asg (by omega) (by have:=h.lv;omega);unfold nM;omega
theorem jz.akW(h:jz r y x c):2<=Dt r/\Dt r<=3000000000:=by
 have hu:=h.aak;have j:=h.ro.fT.u0;have l:=h.ro.fT.u1;have p:=h.lv;have e:0<=2*nM r*1000000:=by unfold nM;omega
 have u:=asG e (show 0<=1000000-jd r by omega);have z:=Int.ediv_le_self (1000000-jd r) e;have B:2*nM r*1000000<=2604000000:=by unfold nM;omega
 unfold Dt;omega
theorem jz.aec(h:jz r y x c){a b:Int}(e:a+Dt r<=b):fL r y x c a<=fL r y x c b:=by
 have hu:=h.aak;have B:=h.ro.fT.u0;have C:=h.lv;have l:0<=2*nM r*1000000:=by unfold nM;omega
 have hd:0<1000000-jd r:=by omega
 have D:=asG l (show 0<=1000000-jd r by omega);have j:a<=b:=by unfold Dt at e;omega
 have E:=h.grow j;have p:=as8 (2*nM r*1000000) (1000000-jd r);have u:=asQ (2*nM r*1000000) hd;have F:Dt r*(1000000-jd r)<=(b-a)*(1000000-jd r):=asE (by omega) (by omega);have z:Dt r*(1000000-jd r)=(1000000-jd r)*(2*nM r*1000000/(1000000-jd r))+2*(1000000-jd r):=by unfold Dt;rw[asD,asn]
 unfold nM at p u z;omega
end
def akY(f:Int->Int)(t a:Int):Prop:=0<=a/\a<=100000000/\t<=f a/\∀k,0<=k->k<a->f k<t
def akZ(f:Int->Int)(t:Int):Prop:=∀k,0<=k->k<=100000000->f k<t
def VT(f:Int->Int)(t a e:Int):Prop:=(e=0/\akY f t a)\/(e=16/\a=0/\akZ f t)
theorem VT.uniq{f:Int->Int}{t a e a' p:Int}(h:VT f t a e)(B:VT f t a' p):a=a'/\e=p:=by
 rcases h with⟨rfl,u,C,E,j⟩|⟨rfl,rfl,j⟩<;>rcases B with⟨rfl,z,D,F,l⟩|⟨rfl,rfl,l⟩
 ·refine⟨?_,rfl⟩;rcases atc a a' with hl|hl|hl
  ·have:=l a u hl;omega
  ·exact hl
  ·have:=j a' z hl;omega
 ·have:=l a u C;omega
 ·have:=j a' z D;omega
 ·exact⟨rfl,rfl⟩
