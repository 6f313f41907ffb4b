/- Conditions: as stated. -/
import Derived.Test.YtlhkojcmcmkmaaaGreatSGenS
set_option maxRecDepth 100000
set_option maxHeartbeats 2000000
namespace Go.Proofs.YtlhkojcmcmkmaaaGreat
open Go.Proofs.Tryz
open Go.RowKit
def M0:List ByteArray:=[⟨#[99,97,114,101]⟩,⟨#[104,101,97,108,116,104]⟩,⟨#[112,101,110,115,105,111,110]⟩]
def aaB:Array Value:=#[.string ⟨#[99,97,114,101]⟩,.string ⟨#[104,101,97,108,116,104]⟩,.string ⟨#[112,101,110,115,105,111,110]⟩]
def Wm(k:Nat):ByteArray:=M0.getD k ⟨#[]⟩
theorem alM(k:Nat)(h:k<3):aaB[k]?=some (.string (Wm k)):=by
 match k,h with
 |0,_=>rfl
 |1,_=>rfl
 |2,_=>rfl
theorem ae9(k:Nat)(h:k<3):M0.take (k+1)=M0.take k++[Wm k]:=by
 match k,h with
 |0,_=>rfl
 |1,_=>rfl
 |2,_=>rfl
theorem alN:∀c∈M0,bK c=true:=by decide+kernel
theorem alO:M0.Pairwise (fun a b=>Op.bytesLess a.toList b.toList=true):=by decide+kernel
structure BI(k:Nat)(xs:List bR):Prop where
 sub:(xs.map (·.code)).Sublist (M0.take k)
 ok:∀x∈xs,SI x
theorem BI.cL:BI 0 []:=⟨by simp,by simp⟩
theorem BI.skip{k:Nat}{e:List bR}(h:BI k e)(j:k<3):BI (k+1) e:=⟨by rw[ae9 k j];exact h.sub.trans (List.sublist_append_left _ _),h.ok⟩
theorem BI.more{k:Nat}{e:List bR}(h:BI k e)(j:k<3)(x:bR)(l:x.code=Wm k)(n:SI x):BI (k+1) (e++[x]):=by
 refine⟨?_,fun y hy=>?_⟩
 ·rw[ae9 k j,asW];exact h.sub.append (by simp[l])
 ·rcases asf.1 hy with h1|h1
  ·exact h.ok y h1
  ·simp at h1;subst h1;exact n
theorem BI.len{k:Nat}{e:List bR}(h:BI k e):e.length<=3:=by have:=h.sub.length_le;simp[M0]at this;omega
theorem BI.aap{k:Nat}{e:List bR}(h:BI k e):(∀s∈e,mS s)/\e.Pairwise (fun a b=>Op.bytesLess a.code.toList b.code.toList=true):=by
 refine⟨fun x j=>?_,?_⟩
 ·exact(h.ok x j).ok (alN _ (ar6 (h.sub.subset (List.mem_map_of_mem j))))
 ·have l:=alO.sublist (h.sub.trans (List.take_sublist _ _));exact ath.1 l
theorem alJ(b M:Nat)(w:World)(hM:M<=600000)(hd:aX w b M):
  Calls prog 64 #[.pointer (some ⟨b,0,none⟩)] w fun e w'=>∃v p,e=.returned v/\BI 3 p/\Own po 8 123 w' w.heap.size v p/\aX w' b (M+33)/\w.grownBy w' (some b):=by
 have R:=hd.lt;go_enter func64,ntmps64;go_wp2_with fail;rw[show Obj.cells #[.string ⟨#[99,97,114,101]⟩,.string ⟨#[104,101,97,108,116,104]⟩,.string ⟨#[112,101,110,115,105,111,110]⟩] 9=Obj.cells aaB 9 from rfl]
 go_loopw [3,8] (fun v i wr=>∃(k:Nat) (p:List bR),k<=3/\i=.int .i64 k/\BI k p/\Own po 8 123 wr (w.heap.size+1) v p/\aX wr b (M+11*k)/\ah wr w.heap.size 9 aaB/\w.grownBy wr (some b)) (fun _ i _=>3-(intOf i).toNat)
 case atStart=>exact⟨0,[],by omega,rfl,BI.cL,Own.cL _ _,hd.alloc _,ah.new _ _ _,fJ (fe _ _) _⟩
 case round=>
  obtain⟨k,p,hk,rfl,B,l,E,j,D⟩:=hrel;by_cases F:k<3
  ·have S:=(j.cell k).trans (alM k F);go_wp2_with fail;refine(kg b (M+11*k) _ _ (by omega) (by omega) (by omega) E).mono ?_;rintro e w1 ⟨T,rfl,U,V,G,n⟩;have X:=j.lt;by_cases hr:0<T
   ·go_wp2_with fail;refine(alL b (M+11*k+1) (Wm k) _ (by omega) G).mono ?_;rintro e w7 ⟨s,rfl,u,Y,Z,N⟩;have y:=ck n N;have O:=l.kept y (by intro g e;injection e;omega);have I:=j.grown y (by intro e;injection e;omega);have oM:=ck D y;have Wa:=y.size;have Q:=B.len;have z:=arH u;clear l j D n N E G S y u;obtain⟨c',x1,x2,x3,x4,x5,x6,x7⟩:=s;simp only at z;go_wp2_with(at_builtin;(refine mQ _ _ 37 ⟨c',x1,x2,x3,x4,x5,x6,x7⟩ _ 72 _ alP underlying37 O MJ (by omega) rfl (alQ _) (by omega) (by omega) (by omega) (by rfl) (by rfl) (by rfl) (by rfl) (by simp) (by rfl) ?_);intro v2 w8 cx J);have K:∀g,Value.ownBlock _=some g->w.heap.size+1<=g:=fun g e=>(O.cm e).1;go_roundw
    case rel=>refine⟨k+1,_,by omega,by go_num,?_,cx,(Z.grown J (fun g e=>by have:=K g e;omega)).mono (by omega),I.grown J (fun e=>by have:=K _ e.symm;omega),Cf oM J (fun g e=>.inl (by have:=K g e;omega))⟩;exact B.more F _ z.out Y
    case measure=>simp[intOf];omega
   ·have r:=l.kept n (by intro g e;injection e;omega);have L:=j.grown n (by intro e;injection e;omega);go_wp2_with fail;go_roundw
    case rel=>exact⟨k+1,p,by omega,by go_num,B.skip F,r,G.mono (by omega),L,ck D n⟩
    case measure=>simp[intOf];omega
  ·go_wp2;go_ret;obtain rfl:k=3:=by omega
   exact⟨_,p,rfl,B,l.weaken (by omega),E,D⟩
theorem Ck{n:Int}(e:-9223372036854775808<=n)(j:n<=9223372036854775807):IntKind.i64.wrap n=n:=by rw[IntKind.wrap_i64];omega
structure FK(xs:List mM):Prop where
 ne:0<xs.length
 zero:(xs.getD 0 ml).bX=0
 lK:∀i,i+1<xs.length->(xs.getD i ml).bX<(xs.getD (i+1) ml).bX
 fr:∀i,i<xs.length->0<=(xs.getD i ml).bX/\(xs.getD i ml).bX<=100000*i
 tx:∀i,i<xs.length->0<=(xs.getD i ml).aw/\(xs.getD i ml).aw<=100+20000*i
theorem FD{j:Type}{e:List j}{x z:j}{i:Nat}(h:i<e.length):(e++[x]).getD i z=e.getD i z:=by rw[ar1,ar1,ati h]
theorem Pj{e:Type}{j:List e}{x z:e}:(j++[x]).getD j.length z=x:=by rw[ar1,List.getElem?_append_right (arI _)];simp
theorem FK.one{r:Int}(e:0<=r)(j:r<=100):FK [⟨0,r⟩]:=by
 refine⟨by simp,rfl,fun i hi=>?_,fun i hi=>?_,fun i hi=>?_⟩
 ·simp at hi
 ·simp at hi;subst hi;exact⟨asI _,asI _⟩
 ·simp at hi;subst hi;show 0<=r/\r<=100+20000*0;omega
theorem FK.snoc{e:List mM}{m:Nat}(h:FK e)(p:m+1=e.length){f t:Int}(l:(e.getD m ml).bX<f)(r:f<=(e.getD m ml).bX+100000)(u:(e.getD m ml).aw<=t)(y:t<=(e.getD m ml).aw+20000):FK (e++[⟨f,t⟩]):=by
 have z:=h.fr m (by omega);have B:=h.tx m (by omega);refine⟨by simp,?_,fun i hi=>?_,fun i hi=>?_,fun i hi=>?_⟩
 ·rw[FD h.ne];exact h.zero
 ·simp only[arV,arZ,asa]at hi;rcases arY (i+1) e.length with hl|hl
  ·rw[FD hl,FD (by omega)];exact h.lK i hl
  ·have j:i+1=e.length:=(by omega);have n:i=m:=(by omega);rw[FD (show i<e.length by omega),j,Pj,n];exact l
 all_goals simp only[arV,arZ,asa]at hi;rcases arY i e.length with hl|hl
 ·rw[FD hl];exact h.fr i hl
 ·have j:i=e.length:=by omega
  rw[j,Pj];show 0<=f/\f<=_;omega
 ·rw[FD hl];exact h.tx i hl
 ·have j:i=e.length:=by omega
  rw[j,Pj];show 0<=t/\t<=_;omega
theorem FK.ok{e:List mM}(h:FK e)(j:e.length<=6):Na e:=
 ⟨h.ne,by omega,h.zero,h.lK,fun i hi=>by have:=h.fr i hi;omega,fun i hi=>by have:=h.tx i hi;omega,fun i hi=>by have:=h.tx i hi;omega⟩
theorem aeX(b M:Nat)(w:World)(hM:M<=600000)(hd:aX w b M):
  Calls prog 119 #[.pointer (some ⟨b,0,none⟩)] w fun e w'=>∃v r,e=.returned v/\Na r/\Own nO 2 93 w' w.heap.size v r/\aX w' b (M+10)/\w.grownBy w' (some b):=by
 have aA:=hd.lt;go_enter func119,ntmps119;go_wp2_with fail;refine(BJ b M w [0,0,100] _ _ _ rfl rfl (by omega) hd (by simp) (by simp)).mono ?_;rintro e w1 ⟨r1,rfl,ey,bS,ae⟩;have KF:0<=r1/\r1<=100:=by simp at ey;omega
 have eM:=Own.lit (base:=w.heap.size) Ic w1 [⟨0,r1⟩] #[.int .i64 0,.int .i64 r1] 93 rfl (by simp) ae.size;simp only[arZ,asa]at eM;go_wp2_with fail;refine(kg b (M+1) _ _ (by omega) (by omega) (by omega) (bS.alloc _)).mono ?_;rintro e w2 ⟨r2,rfl,ai,ap,dC,B⟩;obtain⟨k0,rfl⟩:=atf ai;have R:=eM.kept B (by intro g e;injection e;omega);have mJ:w.grownBy w2 (some b):=ck (fJ ae _) B;clear eM ae B bS hd ey;go_wp2_with fail
 go_loopw [3,4] (fun v i wr=>∃(k:Nat) (r:List mM),k<=4/\i=.int .i64 k/\r.length+k<=5/\Hid (FK r)/\Own nO 2 93 wr w.heap.size v r/\aX wr b (M+2+2*(4-k))/\w.grownBy wr (some b)) (fun _ i _=>(intOf i).toNat)
 case atStart=>exact⟨k0,[⟨0,r1⟩],by omega,rfl,by simp;omega,FK.one KF.1 KF.2,R,dC.mono (by omega),mJ⟩
 case round=>
  obtain⟨k,r,hk,rfl,av,jl,D,iT,hg⟩:=hrel;by_cases fS:0<k
  ·obtain⟨m,hm⟩:∃m,r.length=m+1:=⟨r.length-1,by have:=jl.out.ne;omega⟩
   have HO:=arH D;obtain⟨A,c,rfl,hS,au,_⟩:=D.form Ic;have S:m<r.length:=(by omega);obtain⟨bb,al,rfl,lx,hc⟩:=hS.at_ S;have c0:=hc 0 _ rfl;have c1:=hc 1 _ rfl;simp only[arL]at c0;clear hc hS
   try rw[hm]
   obtain⟨f,hf⟩:∃f,f=r[m].bX:=⟨_,rfl⟩
   obtain⟨t,ht⟩:∃t,t=r[m].aw:=⟨_,rfl⟩
   rw[<-hf]at c0;rw[<-ht]at c1;have ef:(r.getD m ml).bX=f:=(by rw[hf,ar1,arW S];rfl);have et:(r.getD m ml).aw=t:=(by rw[ht,ar1,arW S];rfl);have cu:=jl.out.fr m S;have Pa:=jl.out.tx m S;rw[ef]at cu;rw[et]at Pa;have aJ:f<=500000:=(by omega);have aK:t<=200000:=(by omega);clear hf ht;have HM:=arH hm
   try rw[hm]
   go_upto_region 6 with fail
   rw[<-HM.out];clear hm;have gK:=ah.new wr 93 #[.int .i64 f,.int .i64 t];have eY:=iT.alloc (Obj.cells #[.int .i64 f,.int .i64 t] 93);have am:=fJ hg (Obj.cells #[.int .i64 f,.int .i64 t] 93);have R9:=D.alloc (Obj.cells #[.int .i64 f,.int .i64 t] 93);have aN:b<wr.heap.size:=iT.lt;clear D HO iT hg c0 c1 dC R mJ au;generalize wr.alloc (Obj.cells #[.int .i64 f,.int .i64 t] 93)=w0 at*;have af:some wr.heap.size≠(Value.slice (some ⟨bb,al,none⟩) r.length c).ownBlock:=(fun e=>by injection e;omega:some wr.heap.size≠some bb)
   generalize Mf:M+2+2*(4-k)=N at*;generalize oM:wr.heap.size=g at*;generalize aS:Value.slice (some ⟨bb,al,none⟩) r.length c=v at*;refine M3.iq (C:=fun w'=>ah w' g 93 #[.int .i64 f,.int .i64 t]) (RU _ _ _) (gK) (aE:=?CV) [0,1,2,3,4,7,8,9] 8 (by kernel_rfl) (by kernel_rfl) rfl (by kernel_rfl) (by kernel_rfl) (by rfl) ?H1 ?M1
   case H1=>
    intro F hF az;simp only[M3.cD,arQ,arR,arS];have e0:∀p:aP (fun w'=>ah w' g 93 #[.int .i64 f,.int .i64 t]) F,p.w'.cell? ⟨g,0,none⟩=some (.int .i64 f):=fun p=>(ah.cell p.h 0).trans rfl;have e1:∀p:aP (fun w'=>ah w' g 93 #[.int .i64 f,.int .i64 t]) F,p.w'.cell? ⟨g,1,none⟩=some (.int .i64 t):=fun p=>(ah.cell p.h 1).trans rfl
    repeat(first|go_big_quiet_step(fail))
    refine wpQuiet_nil ?_;rfl
   case M1=>
    intro Q0 bO;refine M3.bG [5] (by kernel_rfl) (by simp) ?_;intro w1 aU T i hi;simp only[bM,bN,arN]at hi;subst hi;have Gu:=gK.aa T;have bS:=eY.aW T;have an:=dx am T;have L4:=R9.aa T;clear T gK eY am R9;refine M3.iw 34 #[.pointer (some ⟨b,0,none⟩),.int .i64 100000] rfl rfl (by go_simp) ?_;refine(kg b (N) 100000 w1 (by omega) (by omega) (by omega) bS).mono ?_;rintro e w2 ⟨l,rfl,ai,ap,dC,B⟩;have Ch:=Gu.grown B (by intro e;injection e;omega);have ao:=ck an B;have L5:=L4.kept B (by intro g e;injection e;omega);refine⟨_,rfl,Ch,?_⟩;simp only[Act.put,aC,aD,aF,aG,aH,aI];clear B aU bS Gu an L4;refine M3.bG [6,10] (by kernel_rfl) (by simp) ?_;intro w3 bU U i hi;simp only[bM,bN,arN]at hi;have kW:=Ch.aa U;have iF:=dC.aW U;have Wn:=dx ao U;have MI:=L5.aa U;clear U Ch dC ao L5;rcases hi with rfl|rfl
    ·refine M3.bw (.int .i64 (f+1+l)) w3 rfl rfl (by have e:=Ck (n:=f+1+l) (by omega) (by omega);go_simp) ⟨kW,?_⟩;simp only[Act.put,aC,aD,aF,aG,aH,aI];clear bU;refine M3.bG [10] (by kernel_rfl) (by simp) ?_;intro w4 lV Q i hi;simp only[bM,bN,arN]at hi;subst hi;have pz:=kW.aa Q;have fK:=iF.aW Q;have SJ:=dx Wn Q;have SK:=MI.aa Q;clear Q kW iF Wn MI;refine M3.iw 34 #[.pointer (some ⟨b,0,none⟩),.int .i64 20000] rfl rfl (by go_simp) ?_;refine(kg b (N+1) 20000 w4 (by omega) (by omega) (by omega) fK).mono ?_;rintro e w5 ⟨j,rfl,Wl,aO,gT,bp⟩;have nk:=pz.grown bp (by intro e;injection e;omega);have Nb:=ck SJ bp;have Nc:=SK.kept bp (by intro g e;injection e;omega);refine⟨_,rfl,nk,?_⟩;simp only[Act.put,aC,aD,aF,aG,aH,aI];clear bp lV fK pz SJ SK;refine M3.bG [11] (by kernel_rfl) (by simp) ?_;intro w6 ft E i hi;simp only[bM,bN,arN]at hi;subst hi;have V:=nk.aa E;have iR:=gT.aW E;have K7:=dx Nb E;have K8:=Nc.aa E;clear E nk gT Nb Nc;refine M3.bw (.int .i64 (t+j)) w6 rfl rfl (by have e:=Ck (n:=t+j) (by omega) (by omega);go_simp) ⟨V,?_⟩;simp only[Act.put,aC,aD,aF,aG,aH,aI];clear ft;refine M3.bG [12] (by kernel_rfl) (by simp) ?_;intro w7 cC G i hi;simp only[bM,bN,arN]at hi;subst hi;have X:=V.aa G;have iU:=iR.aW G;have K9:=dx K7 G;have La:=K8.aa G;clear G V iR K7 K8;refine M3.bw (.agg #[.int .i64 (f+1+l),.int .i64 (t+j)]) w7 rfl rfl (by go_simp) ⟨X,?_⟩;simp only[Act.put,aC,aD,aF,aG,aH,aI];clear cC;refine M3.bG [13] (by kernel_rfl) (by simp) ?_;intro y df I i hi;simp only[bM,bN,arN]at hi;subst hi;have Y:=X.aa I;have iC:=iU.aW I;have Lb:=dx K9 I;have Lc:=La.aa I;clear I X iU K9 La;refine M3.bw (.slice (some ⟨y.heap.size,0,none⟩) 1 1) (y.alloc (.cells #[.int .i64 (f+1+l),.int .i64 (t+j)] 93)) rfl rfl (by go_simp) ⟨Y.alloc _,?_⟩;simp only[Act.put,aC,aD,aF,aG,aH,aI];have Ld:=(aj.new Ic y [⟨f+1+l,t+j⟩] #[.int .i64 (f+1+l),.int .i64 (t+j)] 93 rfl).more (B':=(y.alloc (.cells #[.int .i64 (f+1+l),.int .i64 (t+j)] 93)).heap.size) (by rw[arU];omega);have kx:=Y.alloc (.cells #[.int .i64 (f+1+l),.int .i64 (t+j)] 93);have nP:=iC.alloc (.cells #[.int .i64 (f+1+l),.int .i64 (t+j)] 93);have Le:=fJ Lb (.cells #[.int .i64 (f+1+l),.int .i64 (t+j)] 93);have Lf:=Lc.alloc (.cells #[.int .i64 (f+1+l),.int .i64 (t+j)] 93);clear df Y iC Lb Lc;generalize y.alloc (.cells #[.int .i64 (f+1+l),.int .i64 (t+j)] 93)=w9 at*;generalize y.heap.size=q at*;refine M3.bG [14] (by kernel_rfl) (by simp) ?_;intro cK Dx z i hi;simp only[bM,bN,arN]at hi;subst hi;have lM:=kx.aa z;have lL:=nP.aW z;have Z:=dx Le z;have GH:=Lf.aa z;have Lg:=Ld.aa z;clear z kx nP Le Lf Ld;have bA:w.heap.size<=cK.heap.size:=Z.size;refine M3.oq (.tmp 23) (.tmp 36) 39 1 16 _ aaC underlying39 GH Lg Ic (by omega) rfl aaD (by simp;omega) (by omega) bA rfl rfl rfl rfl rfl rfl ?_;intro ab eR Lh O;have GI:∀q,Value.ownBlock _=some q->w.heap.size<=q:=fun q J=>(GH.cm J).1;have jm:=lL.grown O (fun q J=>by have:=GI q J;omega);have Li:=Cf Z O (fun q J=>.inl (GI q J));have iH:=lM.grown O af;refine⟨iH,?_⟩;simp only[Act.put,aC,aD,aF,aG,aH,aI];clear O GI bA Dx Lg GH lL Z lM;refine M3.bG [15] (by kernel_rfl) (by simp) ?_;intro oP GJ K i hi;simp only[bM,bN,arN]at hi;subst hi;have lO:=iH.aa K;have lQ:=jm.aW K;have Lj:=dx Li K;have Lk:=Lh.aa K;clear K iH jm Li Lh;refine M3.bw ab oP rfl rfl rfl ⟨GJ,?_⟩;simp only[Act.put,aC,aD,aF,aG,aH,aI];clear GJ;refine M3.jZ (by kernel_rfl) ?_;intro nN BL L;refine bO _ _ ?_;have Gw:=lO.aa L;have DC:=lQ.aW L;have SL:=dx Lj L;have SM:=Lk.aa L;clear L BL bO lO lQ Lj Lk;have EJ:=jl.out.snoc HM.out.symm (f:=f+1+l) (t:=t+j) (by rw[ef];omega) (by rw[ef];omega) (by rw[et];omega) (by rw[et];omega);have mD:(r++[(⟨f+1+l,t+j⟩:mM)]).length=r.length+1:=(by simp);go_wp2_with fail;go_roundw
     case rel=>
      have ay:∃(k':Nat) (u:List mM),k'<=4/\Value.int .i64 ((k:Int)-1)=.int .i64 k'/\u.length+k'<=5/\Hid (FK u)/\Own nO 2 93 nN w.heap.size _ u/\aX nN b (M+2+2*(4-k'))/\w.grownBy nN (some b):=⟨k-1,_,by omega,by go_num,by rw[mD];omega,EJ,SM,DC.mono (by omega),SL⟩
      first|exact ay|((repeat apply Exists.intro);exact⟨ay,rfl⟩)
     case measure=>simp[intOf];omega
    ·refine M3.iw 34 #[.pointer (some ⟨b,0,none⟩),.int .i64 20000] rfl rfl (by go_simp) ?_;refine(kg b (N+1) 20000 w3 (by omega) (by omega) (by omega) iF).mono ?_;rintro e w4 ⟨j,rfl,R8,Q,fK,ad⟩;have pz:=kW.grown ad (by intro e;injection e;omega);have SJ:=ck Wn ad;have SK:=MI.kept ad (by intro g e;injection e;omega);refine⟨_,rfl,pz,?_⟩;simp only[Act.put,aC,aD,aF,aG,aH,aI];clear ad bU iF kW Wn MI;refine M3.bG [6,11] (by kernel_rfl) (by simp) ?_;intro w5 bz aO i hi;simp only[bM,bN,arN]at hi;have nk:=pz.aa aO;have gT:=fK.aW aO;have Nb:=dx SJ aO;have Nc:=SK.aa aO;clear aO pz fK SJ SK;rcases hi with rfl|rfl
     ·refine M3.bw (.int .i64 (f+1+l)) w5 rfl rfl (by have e:=Ck (n:=f+1+l) (by omega) (by omega);go_simp) ⟨nk,?_⟩;simp only[Act.put,aC,aD,aF,aG,aH,aI];clear bz;refine M3.bG [11] (by kernel_rfl) (by simp) ?_;intro w6 ft E i hi;simp only[bM,bN,arN]at hi;subst hi;have V:=nk.aa E;have iR:=gT.aW E;have K7:=dx Nb E;have K8:=Nc.aa E;clear E nk gT Nb Nc;refine M3.bw (.int .i64 (t+j)) w6 rfl rfl (by have e:=Ck (n:=t+j) (by omega) (by omega);go_simp) ⟨V,?_⟩;simp only[Act.put,aC,aD,aF,aG,aH,aI];clear ft;refine M3.bG [12] (by kernel_rfl) (by simp) ?_;intro w7 cC G i hi;simp only[bM,bN,arN]at hi;subst hi;have X:=V.aa G;have iU:=iR.aW G;have K9:=dx K7 G;have La:=K8.aa G;clear G V iR K7 K8;refine M3.bw (.agg #[.int .i64 (f+1+l),.int .i64 (t+j)]) w7 rfl rfl (by go_simp) ⟨X,?_⟩;simp only[Act.put,aC,aD,aF,aG,aH,aI];clear cC;refine M3.bG [13] (by kernel_rfl) (by simp) ?_;intro y df I i hi;simp only[bM,bN,arN]at hi;subst hi;have Y:=X.aa I;have iC:=iU.aW I;have Lb:=dx K9 I;have Lc:=La.aa I;clear I X iU K9 La;refine M3.bw (.slice (some ⟨y.heap.size,0,none⟩) 1 1) (y.alloc (.cells #[.int .i64 (f+1+l),.int .i64 (t+j)] 93)) rfl rfl (by go_simp) ⟨Y.alloc _,?_⟩;simp only[Act.put,aC,aD,aF,aG,aH,aI];have Ld:=(aj.new Ic y [⟨f+1+l,t+j⟩] #[.int .i64 (f+1+l),.int .i64 (t+j)] 93 rfl).more (B':=(y.alloc (.cells #[.int .i64 (f+1+l),.int .i64 (t+j)] 93)).heap.size) (by rw[arU];omega);have kx:=Y.alloc (.cells #[.int .i64 (f+1+l),.int .i64 (t+j)] 93);have nP:=iC.alloc (.cells #[.int .i64 (f+1+l),.int .i64 (t+j)] 93);have Le:=fJ Lb (.cells #[.int .i64 (f+1+l),.int .i64 (t+j)] 93);have Lf:=Lc.alloc (.cells #[.int .i64 (f+1+l),.int .i64 (t+j)] 93);clear df Y iC Lb Lc;generalize y.alloc (.cells #[.int .i64 (f+1+l),.int .i64 (t+j)] 93)=w9 at*;generalize y.heap.size=q at*;refine M3.bG [14] (by kernel_rfl) (by simp) ?_;intro cK Dx z i hi;simp only[bM,bN,arN]at hi;subst hi;have lM:=kx.aa z;have lL:=nP.aW z;have Z:=dx Le z;have GH:=Lf.aa z;have Lg:=Ld.aa z;clear z kx nP Le Lf Ld;have bA:w.heap.size<=cK.heap.size:=Z.size;refine M3.oq (.tmp 23) (.tmp 36) 39 1 16 _ aaC underlying39 GH Lg Ic (by omega) rfl aaD (by simp;omega) (by omega) bA rfl rfl rfl rfl rfl rfl ?_;intro ab eR Lh O;have GI:∀q,Value.ownBlock _=some q->w.heap.size<=q:=fun q J=>(GH.cm J).1;have jm:=lL.grown O (fun q J=>by have:=GI q J;omega);have Li:=Cf Z O (fun q J=>.inl (GI q J));have iH:=lM.grown O af;refine⟨iH,?_⟩;simp only[Act.put,aC,aD,aF,aG,aH,aI];clear O GI bA Dx Lg GH lL Z lM;refine M3.bG [15] (by kernel_rfl) (by simp) ?_;intro oP GJ K i hi;simp only[bM,bN,arN]at hi;subst hi;have lO:=iH.aa K;have lQ:=jm.aW K;have Lj:=dx Li K;have Lk:=Lh.aa K;clear K iH jm Li Lh;refine M3.bw ab oP rfl rfl rfl ⟨GJ,?_⟩;simp only[Act.put,aC,aD,aF,aG,aH,aI];clear GJ;refine M3.jZ (by kernel_rfl) ?_;intro nN BL L;refine bO _ _ ?_;have Gw:=lO.aa L;have DC:=lQ.aW L;have SL:=dx Lj L;have SM:=Lk.aa L;clear L BL bO lO lQ Lj Lk;have EJ:=jl.out.snoc HM.out.symm (f:=f+1+l) (t:=t+j) (by rw[ef];omega) (by rw[ef];omega) (by rw[et];omega) (by rw[et];omega);have mD:(r++[(⟨f+1+l,t+j⟩:mM)]).length=r.length+1:=(by simp);go_wp2_with fail;go_roundw
      case rel=>
       have ay:∃(k':Nat) (u:List mM),k'<=4/\Value.int .i64 ((k:Int)-1)=.int .i64 k'/\u.length+k'<=5/\Hid (FK u)/\Own nO 2 93 nN w.heap.size _ u/\aX nN b (M+2+2*(4-k'))/\w.grownBy nN (some b):=⟨k-1,_,by omega,by go_num,by rw[mD];omega,EJ,SM,DC.mono (by omega),SL⟩
       first|exact ay|((repeat apply Exists.intro);exact⟨ay,rfl⟩)
      case measure=>simp[intOf];omega
     ·refine M3.bw (.int .i64 (t+j)) w5 rfl rfl (by have e:=Ck (n:=t+j) (by omega) (by omega);go_simp) ⟨nk,?_⟩;simp only[Act.put,aC,aD,aF,aG,aH,aI];clear bz;refine M3.bG [6] (by kernel_rfl) (by simp) ?_;intro w6 ft E i hi;simp only[bM,bN,arN]at hi;subst hi;have V:=nk.aa E;have iR:=gT.aW E;have K7:=dx Nb E;have K8:=Nc.aa E;clear E nk gT Nb Nc;refine M3.bw (.int .i64 (f+1+l)) w6 rfl rfl (by have e:=Ck (n:=f+1+l) (by omega) (by omega);go_simp) ⟨V,?_⟩;simp only[Act.put,aC,aD,aF,aG,aH,aI];clear ft;refine M3.bG [12] (by kernel_rfl) (by simp) ?_;intro w7 cC G i hi;simp only[bM,bN,arN]at hi;subst hi;have X:=V.aa G;have iU:=iR.aW G;have K9:=dx K7 G;have La:=K8.aa G;clear G V iR K7 K8;refine M3.bw (.agg #[.int .i64 (f+1+l),.int .i64 (t+j)]) w7 rfl rfl (by go_simp) ⟨X,?_⟩;simp only[Act.put,aC,aD,aF,aG,aH,aI];clear cC;refine M3.bG [13] (by kernel_rfl) (by simp) ?_;intro y df I i hi;simp only[bM,bN,arN]at hi;subst hi;have Y:=X.aa I;have iC:=iU.aW I;have Lb:=dx K9 I;have Lc:=La.aa I;clear I X iU K9 La;refine M3.bw (.slice (some ⟨y.heap.size,0,none⟩) 1 1) (y.alloc (.cells #[.int .i64 (f+1+l),.int .i64 (t+j)] 93)) rfl rfl (by go_simp) ⟨Y.alloc _,?_⟩;simp only[Act.put,aC,aD,aF,aG,aH,aI];have Ld:=(aj.new Ic y [⟨f+1+l,t+j⟩] #[.int .i64 (f+1+l),.int .i64 (t+j)] 93 rfl).more (B':=(y.alloc (.cells #[.int .i64 (f+1+l),.int .i64 (t+j)] 93)).heap.size) (by rw[arU];omega);have kx:=Y.alloc (.cells #[.int .i64 (f+1+l),.int .i64 (t+j)] 93);have nP:=iC.alloc (.cells #[.int .i64 (f+1+l),.int .i64 (t+j)] 93);have Le:=fJ Lb (.cells #[.int .i64 (f+1+l),.int .i64 (t+j)] 93);have Lf:=Lc.alloc (.cells #[.int .i64 (f+1+l),.int .i64 (t+j)] 93);clear df Y iC Lb Lc;generalize y.alloc (.cells #[.int .i64 (f+1+l),.int .i64 (t+j)] 93)=w9 at*;generalize y.heap.size=q at*;refine M3.bG [14] (by kernel_rfl) (by simp) ?_;intro cK Dx z i hi;simp only[bM,bN,arN]at hi;subst hi;have lM:=kx.aa z;have lL:=nP.aW z;have Z:=dx Le z;have GH:=Lf.aa z;have Lg:=Ld.aa z;clear z kx nP Le Lf Ld;have bA:w.heap.size<=cK.heap.size:=Z.size;refine M3.oq (.tmp 23) (.tmp 36) 39 1 16 _ aaC underlying39 GH Lg Ic (by omega) rfl aaD (by simp;omega) (by omega) bA rfl rfl rfl rfl rfl rfl ?_;intro ab eR Lh O;have GI:∀q,Value.ownBlock _=some q->w.heap.size<=q:=fun q J=>(GH.cm J).1;have jm:=lL.grown O (fun q J=>by have:=GI q J;omega);have Li:=Cf Z O (fun q J=>.inl (GI q J));have iH:=lM.grown O af;refine⟨iH,?_⟩;simp only[Act.put,aC,aD,aF,aG,aH,aI];clear O GI bA Dx Lg GH lL Z lM;refine M3.bG [15] (by kernel_rfl) (by simp) ?_;intro oP GJ K i hi;simp only[bM,bN,arN]at hi;subst hi;have lO:=iH.aa K;have lQ:=jm.aW K;have Lj:=dx Li K;have Lk:=Lh.aa K;clear K iH jm Li Lh;refine M3.bw ab oP rfl rfl rfl ⟨GJ,?_⟩;simp only[Act.put,aC,aD,aF,aG,aH,aI];clear GJ;refine M3.jZ (by kernel_rfl) ?_;intro nN BL L;refine bO _ _ ?_;have Gw:=lO.aa L;have DC:=lQ.aW L;have SL:=dx Lj L;have SM:=Lk.aa L;clear L BL bO lO lQ Lj Lk;have EJ:=jl.out.snoc HM.out.symm (f:=f+1+l) (t:=t+j) (by rw[ef];omega) (by rw[ef];omega) (by rw[et];omega) (by rw[et];omega);have mD:(r++[(⟨f+1+l,t+j⟩:mM)]).length=r.length+1:=(by simp);go_wp2_with fail;go_roundw
      case rel=>
       have ay:∃(k':Nat) (u:List mM),k'<=4/\Value.int .i64 ((k:Int)-1)=.int .i64 k'/\u.length+k'<=5/\Hid (FK u)/\Own nO 2 93 nN w.heap.size _ u/\aX nN b (M+2+2*(4-k'))/\w.grownBy nN (some b):=⟨k-1,_,by omega,by go_num,by rw[mD];omega,EJ,SM,DC.mono (by omega),SL⟩
       first|exact ay|((repeat apply Exists.intro);exact⟨ay,rfl⟩)
      case measure=>simp[intOf];omega
  ·go_wp2_with fail;go_ret;exact⟨_,r,rfl,jl.out.ok (by omega),D,iT.mono (by omega),hg⟩
namespace M5
variable {P:Program}{ops:Array Oper}{md:Region.Mode}{C:World->Prop}{s:Nat}
theorem V3{Q:Act->World->Prop}{n:Nat}{e:Array Bool}{a:Act}{w:World}(i j:Nat)(y:Region.ready md ops e=[i,j])(p:[i,j].contains s=false)
  (h:∀w',C w'->Below w.heap.size w w'->M3.iJ P ops C i (fun r l=>C l/\cM P md ops C s Q n (e.setIfInBounds i true) r l) a w'/\M3.iJ P ops C j (fun r l=>C l/\cM P md ops C s Q n (e.setIfInBounds j true) r l) a w'):cM P md ops C s Q (n+1) e a w:=
 YS [i,j] y p rfl fun w' c b k u=>by
  simp only[bM,bN,arN]at u;rcases u with rfl|rfl
  ·exact(h w' c b).1
  ·exact(h w' c b).2
end M5
