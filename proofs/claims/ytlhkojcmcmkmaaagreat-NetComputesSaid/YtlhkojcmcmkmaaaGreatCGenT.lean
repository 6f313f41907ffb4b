/- Conditions: as stated. -/
import Derived.Test.YtlhkojcmcmkmaaaGreatCGenS
set_option maxRecDepth 100000
set_option maxHeartbeats 2000000
namespace Go.Proofs.YtlhkojcmcmkmaaaGreat
open Go.Proofs.Tryz
open Go.RowKit
def NF:List ByteArray:=[⟨#[99,97,114,101]⟩,⟨#[104,101,97,108,116,104]⟩,⟨#[112,101,110,115,105,111,110]⟩]
def abf:Array Value:=#[.string ⟨#[99,97,114,101]⟩,.string ⟨#[104,101,97,108,116,104]⟩,.string ⟨#[112,101,110,115,105,111,110]⟩]
def Xe(k:Nat):ByteArray:=NF.getD k ⟨#[]⟩
theorem am3(k:Nat)(h:k<3):abf[k]?=some (.string (Xe k)):=by
 match k,h with
 |0,_=>rfl
 |1,_=>rfl
 |2,_=>rfl
theorem af9(k:Nat)(h:k<3):NF.take (k+1)=NF.take k++[Xe k]:=by
 match k,h with
 |0,_=>rfl
 |1,_=>rfl
 |2,_=>rfl
theorem am4:∀c∈NF,bI c=true:=by decide+kernel
theorem am5:NF.Pairwise (fun a b=>Op.bytesLess a.toList b.toList=true):=by decide+kernel
structure Cl(k:Nat)(xs:List dx):Prop where
 sub:(xs.map (·.code)).Sublist (NF.take k)
 ok:∀x∈xs,TB x
theorem Cl.cC:Cl 0 []:=⟨by simp,by simp⟩
theorem Cl.skip{k:Nat}{e:List dx}(h:Cl k e)(j:k<3):Cl (k+1) e:=⟨by rw[af9 k j];exact h.sub.trans (List.sublist_append_left _ _),h.ok⟩
theorem Cl.more{k:Nat}{e:List dx}(h:Cl k e)(j:k<3)(x:dx)(l:x.code=Xe k)(n:TB x):Cl (k+1) (e++[x]):=by
 refine⟨?_,fun y hy=>?_⟩
 ·rw[af9 k j,auK];exact h.sub.append (by simp[l])
 ·rcases aul.1 hy with h1|h1
  ·exact h.ok y h1
  ·simp at h1;subst h1;exact n
theorem Cl.len{k:Nat}{e:List dx}(h:Cl k e):e.length<=3:=by have:=h.sub.length_le;simp[NF]at this;omega
theorem Cl.af8{k:Nat}{e:List dx}(h:Cl k e):(∀s∈e,oD s)/\e.Pairwise (fun a b=>Op.bytesLess a.code.toList b.code.toList=true):=by
 refine⟨fun x j=>?_,?_⟩
 ·exact(h.ok x j).ok (am4 _ (auh (h.sub.subset (List.mem_map_of_mem j))))
 ·have l:=am5.sublist (h.sub.trans (List.take_sublist _ _));exact au3.1 l
theorem am0(b M:Nat)(w:World)(hM:M<=600000)(hd:aW w b M):
  Calls prog 64 #[.pointer (some ⟨b,0,none⟩)] w fun e w'=>∃v p,e=.returned v/\Cl 3 p/\Own Ir 8 123 w' w.heap.size v p/\aW w' b (M+33)/\w.grownBy w' (some b):=by
 have O:=hd.lt;go_enter func64,ntmps64;go_wp2_with fail;rw[show Obj.cells #[.string ⟨#[99,97,114,101]⟩,.string ⟨#[104,101,97,108,116,104]⟩,.string ⟨#[112,101,110,115,105,111,110]⟩] 9=Obj.cells abf 9 from rfl]
 go_loopw [3,8] (fun v i wr=>∃(k:Nat) (p:List dx),k<=3/\i=.int .i64 k/\Cl k p/\Own Ir 8 123 wr (w.heap.size+1) v p/\aW wr b (M+11*k)/\ah wr w.heap.size 9 abf/\w.grownBy wr (some b)) (fun _ i _=>3-(intOf i).toNat)
 case atStart=>exact⟨0,[],by omega,rfl,Cl.cC,Own.cC _ _,hd.alloc _,ah.new _ _ _,eG (dX _ _) _⟩
 case round=>
  obtain⟨k,p,hk,rfl,B,l,E,j,D⟩:=hrel;by_cases F:k<3
  ·have Q:=(j.cell k).trans (am3 k F);go_wp2_with fail;refine(il b (M+11*k) _ _ (by omega) (by omega) (by omega) E).mono ?_;rintro e w1 ⟨R,rfl,S,T,G,n⟩;have U:=j.lt;by_cases hr:0<R
   ·go_wp2_with fail;refine(am2 b (M+11*k+1) (Xe k) _ (by omega) G).mono ?_;rintro e w7 ⟨s,rfl,u,V,X,K⟩;have y:=bL n K;have L:=l.kept y (by intro g e;injection e;omega);have Y:=j.grown y (by intro e;injection e;omega);have Z:=bL D y;have Ny:=y.size;have N:=B.len;have z:=atM u;clear l j D n K E G Q y u;obtain⟨c',x1,x2,x3,x4,x5,x6,x7⟩:=s;simp only at z;go_wp2_with(at_builtin;(refine lD _ _ 37 ⟨c',x1,x2,x3,x4,x5,x6,x7⟩ _ 72 _ am6 underlying37 L ZL (by omega) rfl (am7 _) (by omega) (by omega) (by omega) (by rfl) (by rfl) (by rfl) (by rfl) (by simp) (by rfl) ?_);intro v2 w8 cx I);have J:∀g,Value.ownBlock _=some g->w.heap.size+1<=g:=fun g e=>(L.bR e).1;go_roundw
    case rel=>refine⟨k+1,_,by omega,by go_num,?_,cx,(X.grown I (fun g e=>by have:=J g e;omega)).mono (by omega),Y.grown I (fun e=>by have:=J _ e.symm;omega),pT Z I (fun g e=>.inl (by have:=J g e;omega))⟩;exact B.more F _ z.out V
    case measure=>simp[intOf];omega
   ·have r:=l.kept n (by intro g e;injection e;omega);have Nz:=j.grown n (by intro e;injection e;omega);go_wp2_with fail;go_roundw
    case rel=>exact⟨k+1,p,by omega,by go_num,B.skip F,r,G.mono (by omega),Nz,bL D n⟩
    case measure=>simp[intOf];omega
  ·go_wp2;go_ret;obtain rfl:k=3:=by omega
   exact⟨_,p,rfl,B,l.weaken (by omega),E,D⟩
theorem CT{n:Int}(e:-9223372036854775808<=n)(j:n<=9223372036854775807):IntKind.i64.wrap n=n:=by rw[IntKind.wrap_i64];omega
structure FP(xs:List nd):Prop where
 ne:0<xs.length
 zero:(xs.getD 0 mE).cg=0
 jr:∀i,i+1<xs.length->(xs.getD i mE).cg<(xs.getD (i+1) mE).cg
 fr:∀i,i<xs.length->0<=(xs.getD i mE).cg/\(xs.getD i mE).cg<=100000*i
 tx:∀i,i<xs.length->0<=(xs.getD i mE).aw/\(xs.getD i mE).aw<=100+20000*i
theorem FE{j:Type}{e:List j}{x z:j}{i:Nat}(h:i<e.length):(e++[x]).getD i z=e.getD i z:=by rw[atZ,atZ,avk h]
theorem PO{e:Type}{j:List e}{x z:e}:(j++[x]).getD j.length z=x:=by rw[atZ,List.getElem?_append_right (atN _)];simp
theorem FP.one{r:Int}(e:0<=r)(j:r<=100):FP [⟨0,r⟩]:=by
 refine⟨by simp,rfl,fun i hi=>?_,fun i hi=>?_,fun i hi=>?_⟩
 ·simp at hi
 ·simp at hi;subst hi;exact⟨auJ _,auJ _⟩
 ·simp at hi;subst hi;show 0<=r/\r<=100+20000*0;omega
theorem FP.snoc{e:List nd}{m:Nat}(h:FP e)(p:m+1=e.length){f t:Int}(l:(e.getD m mE).cg<f)(r:f<=(e.getD m mE).cg+100000)(u:(e.getD m mE).aw<=t)(y:t<=(e.getD m mE).aw+20000):FP (e++[⟨f,t⟩]):=by
 have z:=h.fr m (by omega);have B:=h.tx m (by omega);refine⟨by simp,?_,fun i hi=>?_,fun i hi=>?_,fun i hi=>?_⟩
 ·rw[FE h.ne];exact h.zero
 ·simp only[at3,at4,aug]at hi;rcases at6 (i+1) e.length with hl|hl
  ·rw[FE hl,FE (by omega)];exact h.jr i hl
  ·have j:i+1=e.length:=(by omega);have n:i=m:=(by omega);rw[FE (show i<e.length by omega),j,PO,n];exact l
 all_goals simp only[at3,at4,aug]at hi;rcases at6 i e.length with hl|hl
 ·rw[FE hl];exact h.fr i hl
 ·have j:i=e.length:=by omega
  rw[j,PO];show 0<=f/\f<=_;omega
 ·rw[FE hl];exact h.tx i hl
 ·have j:i=e.length:=by omega
  rw[j,PO];show 0<=t/\t<=_;omega
theorem FP.ok{e:List nd}(h:FP e)(j:e.length<=6):NG e:=
 ⟨h.ne,by omega,h.zero,h.jr,fun i hi=>by have:=h.fr i hi;omega,fun i hi=>by have:=h.tx i hi;omega,fun i hi=>by have:=h.tx i hi;omega⟩
theorem afR(b M:Nat)(w:World)(hM:M<=600000)(hd:aW w b M):
  Calls prog 119 #[.pointer (some ⟨b,0,none⟩)] w fun e w'=>∃v r,e=.returned v/\NG r/\Own oO 2 93 w' w.heap.size v r/\aW w' b (M+10)/\w.grownBy w' (some b):=by
 have aC:=hd.lt;go_enter func119,ntmps119;go_wp2_with fail;refine(pB b M w [0,0,100] _ _ _ rfl rfl (by omega) hd (by simp) (by simp)).mono ?_;rintro e w1 ⟨r1,rfl,eT,bP,ae⟩;have K1:0<=r1/\r1<=100:=by simp at eT;omega
 have eK:=Own.lit (base:=w.heap.size) Iz w1 [⟨0,r1⟩] #[.int .i64 0,.int .i64 r1] 93 rfl (by simp) ae.size;simp only[at4,aug]at eK;go_wp2_with fail;refine(il b (M+1) _ _ (by omega) (by omega) (by omega) (bP.alloc _)).mono ?_;rintro e w2 ⟨r2,rfl,ak,ao,dw,B⟩;obtain⟨k0,rfl⟩:=avq ak;have R:=eK.kept B (by intro g e;injection e;omega);have pZ:w.grownBy w2 (some b):=bL (eG ae _) B;clear eK ae B bP hd eT;go_wp2_with fail
 go_loopw [3,4] (fun v i wr=>∃(k:Nat) (r:List nd),k<=4/\i=.int .i64 k/\r.length+k<=5/\Hid (FP r)/\Own oO 2 93 wr w.heap.size v r/\aW wr b (M+2+2*(4-k))/\w.grownBy wr (some b)) (fun _ i _=>(intOf i).toNat)
 case atStart=>exact⟨k0,[⟨0,r1⟩],by omega,rfl,by simp;omega,FP.one K1.1 K1.2,R,dw.mono (by omega),pZ⟩
 case round=>
  obtain⟨k,r,hk,rfl,av,fT,D,fe,hg⟩:=hrel;by_cases fK:0<k
  ·obtain⟨m,hm⟩:∃m,r.length=m+1:=⟨r.length-1,by have:=fT.out.ne;omega⟩
   have HO:=atM D;obtain⟨A,c,rfl,hS,ap,_⟩:=D.form Iz;have S:m<r.length:=(by omega);obtain⟨bb,off,rfl,gu,hc⟩:=hS.at_ S;have c0:=hc 0 _ rfl;have c1:=hc 1 _ rfl;simp only[atQ]at c0;clear hc hS
   try rw[hm]
   obtain⟨f,hf⟩:∃f,f=r[m].cg:=⟨_,rfl⟩
   obtain⟨t,ht⟩:∃t,t=r[m].aw:=⟨_,rfl⟩
   rw[<-hf]at c0;rw[<-ht]at c1;have ef:(r.getD m mE).cg=f:=(by rw[hf,atZ,atW S];rfl);have et:(r.getD m mE).aw=t:=(by rw[ht,atZ,atW S];rfl);have cz:=fT.out.fr m S;have SL:=fT.out.tx m S;rw[ef]at cz;rw[et]at SL;have aD:f<=500000:=(by omega);have aJ:t<=200000:=(by omega);clear hf ht;have HM:=atM hm
   try rw[hm]
   go_upto_region 6 with fail
   rw[<-HM.out];clear hm;have gT:=ah.new wr 93 #[.int .i64 f,.int .i64 t];have eZ:=fe.alloc (Obj.cells #[.int .i64 f,.int .i64 t] 93);have al:=eG hg (Obj.cells #[.int .i64 f,.int .i64 t] 93);have SM:=D.alloc (Obj.cells #[.int .i64 f,.int .i64 t] 93);have aQ:b<wr.heap.size:=fe.lt;clear D HO fe hg c0 c1 dw R pZ ap;generalize wr.alloc (Obj.cells #[.int .i64 f,.int .i64 t] 93)=w0 at*;have af:some wr.heap.size≠(Value.slice (some ⟨bb,off,none⟩) r.length c).ownBlock:=(fun e=>by injection e;omega:some wr.heap.size≠some bb)
   generalize KA:M+2+2*(4-k)=N at*;generalize nE:wr.heap.size=g at*;generalize aR:Value.slice (some ⟨bb,off,none⟩) r.length c=v at*;refine M3.iN (C:=fun w'=>ah w' g 93 #[.int .i64 f,.int .i64 t]) (aaV _ _ _) (gT) (aE:=?C9) [0,1,2,3,4,7,8,9] 8 (by kernel_rfl) (by kernel_rfl) rfl (by kernel_rfl) (by kernel_rfl) (by rfl) ?H1 ?M1
   case H1=>
    intro F hF az;simp only[M3.cL,atY,at0,at1];have e0:∀p:aP (fun w'=>ah w' g 93 #[.int .i64 f,.int .i64 t]) F,p.w'.cell? ⟨g,0,none⟩=some (.int .i64 f):=fun p=>(ah.cell p.h 0).trans rfl;have e1:∀p:aP (fun w'=>ah w' g 93 #[.int .i64 f,.int .i64 t]) F,p.w'.cell? ⟨g,1,none⟩=some (.int .i64 t):=fun p=>(ah.cell p.h 1).trans rfl
    repeat(first|go_big_quiet_step(fail))
    refine wpQuiet_nil ?_;rfl
   case M1=>
    intro Q0 bS;refine M3.bQ [5] (by kernel_rfl) (by simp) ?_;intro w1 ba T i hi;simp only[bY,bZ,atU]at hi;subst hi;have GP:=gT.aa T;have bP:=eZ.bh T;have am:=dD al T;have Vx:=SM.aa T;clear T gT eZ al SM;refine M3.iY 34 #[.pointer (some ⟨b,0,none⟩),.int .i64 100000] rfl rfl (by go_simp) ?_;refine(il b (N) 100000 w1 (by omega) (by omega) (by omega) bP).mono ?_;rintro e w2 ⟨l,rfl,ak,ao,dw,B⟩;have og:=GP.grown B (by intro e;injection e;omega);have an:=bL am B;have Vy:=Vx.kept B (by intro g e;injection e;omega);refine⟨_,rfl,og,?_⟩;simp only[Act.put,aF,aG,aH,aI,aK,aL];clear B ba bP GP am Vx;refine M3.bQ [6,10] (by kernel_rfl) (by simp) ?_;intro w3 bW U i hi;simp only[bY,bZ,atU]at hi;have lZ:=og.aa U;have fg:=dw.bh U;have Xf:=dD an U;have Xg:=Vy.aa U;clear U og dw an Vy;rcases hi with rfl|rfl
    ·refine M3.bH (.int .i64 (f+1+l)) w3 rfl rfl (by have e:=CT (n:=f+1+l) (by omega) (by omega);go_simp) ⟨lZ,?_⟩;simp only[Act.put,aF,aG,aH,aI,aK,aL];clear bW;refine M3.bQ [10] (by kernel_rfl) (by simp) ?_;intro w4 kJ Q i hi;simp only[bY,bZ,atU]at hi;subst hi;have j9:=lZ.aa Q;have fG:=fg.bh Q;have TC:=dD Xf Q;have TD:=Xg.aa Q;clear Q lZ fg Xf Xg;refine M3.iY 34 #[.pointer (some ⟨b,0,none⟩),.int .i64 20000] rfl rfl (by go_simp) ?_;refine(il b (N+1) 20000 w4 (by omega) (by omega) (by omega) fG).mono ?_;rintro e w5 ⟨j,rfl,Tm,aM,eV,aZ⟩;have jI:=j9.grown aZ (by intro e;injection e;omega);have NH:=bL TC aZ;have NI:=TD.kept aZ (by intro g e;injection e;omega);refine⟨_,rfl,jI,?_⟩;simp only[Act.put,aF,aG,aH,aI,aK,aL];clear aZ kJ fG j9 TC TD;refine M3.bQ [11] (by kernel_rfl) (by simp) ?_;intro w6 fM E i hi;simp only[bY,bZ,atU]at hi;subst hi;have V:=jI.aa E;have gD:=eV.bh E;have Lt:=dD NH E;have Lu:=NI.aa E;clear E jI eV NH NI;refine M3.bH (.int .i64 (t+j)) w6 rfl rfl (by have e:=CT (n:=t+j) (by omega) (by omega);go_simp) ⟨V,?_⟩;simp only[Act.put,aF,aG,aH,aI,aK,aL];clear fM;refine M3.bQ [12] (by kernel_rfl) (by simp) ?_;intro w7 cM G i hi;simp only[bY,bZ,atU]at hi;subst hi;have X:=V.aa G;have gi:=gD.bh G;have Lv:=dD Lt G;have Lx:=Lu.aa G;clear G V gD Lt Lu;refine M3.bH (.agg #[.int .i64 (f+1+l),.int .i64 (t+j)]) w7 rfl rfl (by go_simp) ⟨X,?_⟩;simp only[Act.put,aF,aG,aH,aI,aK,aL];clear cM;refine M3.bQ [13] (by kernel_rfl) (by simp) ?_;intro y df I i hi;simp only[bY,bZ,atU]at hi;subst hi;have Y:=X.aa I;have jd:=gi.bh I;have Lz:=dD Lv I;have LA:=Lx.aa I;clear I X gi Lv Lx;refine M3.bH (.slice (some ⟨y.heap.size,0,none⟩) 1 1) (y.alloc (.cells #[.int .i64 (f+1+l),.int .i64 (t+j)] 93)) rfl rfl (by go_simp) ⟨Y.alloc _,?_⟩;simp only[Act.put,aF,aG,aH,aI,aK,aL];have LB:=(ai.new Iz y [⟨f+1+l,t+j⟩] #[.int .i64 (f+1+l),.int .i64 (t+j)] 93 rfl).more (B':=(y.alloc (.cells #[.int .i64 (f+1+l),.int .i64 (t+j)] 93)).heap.size) (by rw[at2];omega);have nH:=Y.alloc (.cells #[.int .i64 (f+1+l),.int .i64 (t+j)] 93);have om:=jd.alloc (.cells #[.int .i64 (f+1+l),.int .i64 (t+j)] 93);have LC:=eG Lz (.cells #[.int .i64 (f+1+l),.int .i64 (t+j)] 93);have LD:=LA.alloc (.cells #[.int .i64 (f+1+l),.int .i64 (t+j)] 93);clear df Y jd Lz LA;generalize y.alloc (.cells #[.int .i64 (f+1+l),.int .i64 (t+j)] 93)=w9 at*;generalize y.heap.size=q at*;refine M3.bQ [14] (by kernel_rfl) (by simp) ?_;intro dC oP z i hi;simp only[bY,bZ,atU]at hi;subst hi;have l9:=nH.aa z;have mC:=om.bh z;have Z:=dD LC z;have G5:=LD.aa z;have LF:=LB.aa z;clear z nH om LC LD LB;have br:w.heap.size<=dC.heap.size:=Z.size;refine M3.nW (.tmp 23) (.tmp 36) 39 1 16 _ abg underlying39 G5 LF Iz (by omega) rfl abh (by simp;omega) (by omega) br rfl rfl rfl rfl rfl rfl ?_;intro ab dS LG O;have G6:∀q,Value.ownBlock _=some q->w.heap.size<=q:=fun q J=>(G5.bR J).1;have iJ:=mC.grown O (fun q J=>by have:=G6 q J;omega);have LH:=pT Z O (fun q J=>.inl (G6 q J));have iI:=l9.grown O af;refine⟨iI,?_⟩;simp only[Act.put,aF,aG,aH,aI,aK,aL];clear O G6 br oP LF G5 mC Z l9;refine M3.bQ [15] (by kernel_rfl) (by simp) ?_;intro qs CW K i hi;simp only[bY,bZ,atU]at hi;subst hi;have ma:=iI.aa K;have mf:=iJ.bh K;have LI:=dD LH K;have LJ:=LG.aa K;clear K iI iJ LH LG;refine M3.bH ab qs rfl rfl rfl ⟨CW,?_⟩;simp only[Act.put,aF,aG,aH,aI,aK,aL];clear CW;refine M3.kI (by kernel_rfl) ?_;intro oN nK L;refine bS _ _ ?_;have GR:=ma.aa L;have DK:=mf.bh L;have TE:=dD LI L;have TF:=LJ.aa L;clear L nK bS ma mf LI LJ;have EE:=fT.out.snoc HM.out.symm (f:=f+1+l) (t:=t+j) (by rw[ef];omega) (by rw[ef];omega) (by rw[et];omega) (by rw[et];omega);have kT:(r++[(⟨f+1+l,t+j⟩:nd)]).length=r.length+1:=(by simp);go_wp2_with fail;go_roundw
     case rel=>
      have aj:∃(k':Nat) (u:List nd),k'<=4/\Value.int .i64 ((k:Int)-1)=.int .i64 k'/\u.length+k'<=5/\Hid (FP u)/\Own oO 2 93 oN w.heap.size _ u/\aW oN b (M+2+2*(4-k'))/\w.grownBy oN (some b):=⟨k-1,_,by omega,by go_num,by rw[kT];omega,EE,TF,DK.mono (by omega),TE⟩
      first|exact aj|((repeat apply Exists.intro);exact⟨aj,rfl⟩)
     case measure=>simp[intOf];omega
    ·refine M3.iY 34 #[.pointer (some ⟨b,0,none⟩),.int .i64 20000] rfl rfl (by go_simp) ?_;refine(il b (N+1) 20000 w3 (by omega) (by omega) (by omega) fg).mono ?_;rintro e w4 ⟨j,rfl,Nl,Q,fG,ad⟩;have j9:=lZ.grown ad (by intro e;injection e;omega);have TC:=bL Xf ad;have TD:=Xg.kept ad (by intro g e;injection e;omega);refine⟨_,rfl,j9,?_⟩;simp only[Act.put,aF,aG,aH,aI,aK,aL];clear ad bW fg lZ Xf Xg;refine M3.bQ [6,11] (by kernel_rfl) (by simp) ?_;intro w5 bD aM i hi;simp only[bY,bZ,atU]at hi;have jI:=j9.aa aM;have eV:=fG.bh aM;have NH:=dD TC aM;have NI:=TD.aa aM;clear aM j9 fG TC TD;rcases hi with rfl|rfl
     ·refine M3.bH (.int .i64 (f+1+l)) w5 rfl rfl (by have e:=CT (n:=f+1+l) (by omega) (by omega);go_simp) ⟨jI,?_⟩;simp only[Act.put,aF,aG,aH,aI,aK,aL];clear bD;refine M3.bQ [11] (by kernel_rfl) (by simp) ?_;intro w6 fM E i hi;simp only[bY,bZ,atU]at hi;subst hi;have V:=jI.aa E;have gD:=eV.bh E;have Lt:=dD NH E;have Lu:=NI.aa E;clear E jI eV NH NI;refine M3.bH (.int .i64 (t+j)) w6 rfl rfl (by have e:=CT (n:=t+j) (by omega) (by omega);go_simp) ⟨V,?_⟩;simp only[Act.put,aF,aG,aH,aI,aK,aL];clear fM;refine M3.bQ [12] (by kernel_rfl) (by simp) ?_;intro w7 cM G i hi;simp only[bY,bZ,atU]at hi;subst hi;have X:=V.aa G;have gi:=gD.bh G;have Lv:=dD Lt G;have Lx:=Lu.aa G;clear G V gD Lt Lu;refine M3.bH (.agg #[.int .i64 (f+1+l),.int .i64 (t+j)]) w7 rfl rfl (by go_simp) ⟨X,?_⟩;simp only[Act.put,aF,aG,aH,aI,aK,aL];clear cM;refine M3.bQ [13] (by kernel_rfl) (by simp) ?_;intro y df I i hi;simp only[bY,bZ,atU]at hi;subst hi;have Y:=X.aa I;have jd:=gi.bh I;have Lz:=dD Lv I;have LA:=Lx.aa I;clear I X gi Lv Lx;refine M3.bH (.slice (some ⟨y.heap.size,0,none⟩) 1 1) (y.alloc (.cells #[.int .i64 (f+1+l),.int .i64 (t+j)] 93)) rfl rfl (by go_simp) ⟨Y.alloc _,?_⟩;simp only[Act.put,aF,aG,aH,aI,aK,aL];have LB:=(ai.new Iz y [⟨f+1+l,t+j⟩] #[.int .i64 (f+1+l),.int .i64 (t+j)] 93 rfl).more (B':=(y.alloc (.cells #[.int .i64 (f+1+l),.int .i64 (t+j)] 93)).heap.size) (by rw[at2];omega);have nH:=Y.alloc (.cells #[.int .i64 (f+1+l),.int .i64 (t+j)] 93);have om:=jd.alloc (.cells #[.int .i64 (f+1+l),.int .i64 (t+j)] 93);have LC:=eG Lz (.cells #[.int .i64 (f+1+l),.int .i64 (t+j)] 93);have LD:=LA.alloc (.cells #[.int .i64 (f+1+l),.int .i64 (t+j)] 93);clear df Y jd Lz LA;generalize y.alloc (.cells #[.int .i64 (f+1+l),.int .i64 (t+j)] 93)=w9 at*;generalize y.heap.size=q at*;refine M3.bQ [14] (by kernel_rfl) (by simp) ?_;intro dC oP z i hi;simp only[bY,bZ,atU]at hi;subst hi;have l9:=nH.aa z;have mC:=om.bh z;have Z:=dD LC z;have G5:=LD.aa z;have LF:=LB.aa z;clear z nH om LC LD LB;have br:w.heap.size<=dC.heap.size:=Z.size;refine M3.nW (.tmp 23) (.tmp 36) 39 1 16 _ abg underlying39 G5 LF Iz (by omega) rfl abh (by simp;omega) (by omega) br rfl rfl rfl rfl rfl rfl ?_;intro ab dS LG O;have G6:∀q,Value.ownBlock _=some q->w.heap.size<=q:=fun q J=>(G5.bR J).1;have iJ:=mC.grown O (fun q J=>by have:=G6 q J;omega);have LH:=pT Z O (fun q J=>.inl (G6 q J));have iI:=l9.grown O af;refine⟨iI,?_⟩;simp only[Act.put,aF,aG,aH,aI,aK,aL];clear O G6 br oP LF G5 mC Z l9;refine M3.bQ [15] (by kernel_rfl) (by simp) ?_;intro qs CW K i hi;simp only[bY,bZ,atU]at hi;subst hi;have ma:=iI.aa K;have mf:=iJ.bh K;have LI:=dD LH K;have LJ:=LG.aa K;clear K iI iJ LH LG;refine M3.bH ab qs rfl rfl rfl ⟨CW,?_⟩;simp only[Act.put,aF,aG,aH,aI,aK,aL];clear CW;refine M3.kI (by kernel_rfl) ?_;intro oN nK L;refine bS _ _ ?_;have GR:=ma.aa L;have DK:=mf.bh L;have TE:=dD LI L;have TF:=LJ.aa L;clear L nK bS ma mf LI LJ;have EE:=fT.out.snoc HM.out.symm (f:=f+1+l) (t:=t+j) (by rw[ef];omega) (by rw[ef];omega) (by rw[et];omega) (by rw[et];omega);have kT:(r++[(⟨f+1+l,t+j⟩:nd)]).length=r.length+1:=(by simp);go_wp2_with fail;go_roundw
      case rel=>
       have aj:∃(k':Nat) (u:List nd),k'<=4/\Value.int .i64 ((k:Int)-1)=.int .i64 k'/\u.length+k'<=5/\Hid (FP u)/\Own oO 2 93 oN w.heap.size _ u/\aW oN b (M+2+2*(4-k'))/\w.grownBy oN (some b):=⟨k-1,_,by omega,by go_num,by rw[kT];omega,EE,TF,DK.mono (by omega),TE⟩
       first|exact aj|((repeat apply Exists.intro);exact⟨aj,rfl⟩)
      case measure=>simp[intOf];omega
     ·refine M3.bH (.int .i64 (t+j)) w5 rfl rfl (by have e:=CT (n:=t+j) (by omega) (by omega);go_simp) ⟨jI,?_⟩;simp only[Act.put,aF,aG,aH,aI,aK,aL];clear bD;refine M3.bQ [6] (by kernel_rfl) (by simp) ?_;intro w6 fM E i hi;simp only[bY,bZ,atU]at hi;subst hi;have V:=jI.aa E;have gD:=eV.bh E;have Lt:=dD NH E;have Lu:=NI.aa E;clear E jI eV NH NI;refine M3.bH (.int .i64 (f+1+l)) w6 rfl rfl (by have e:=CT (n:=f+1+l) (by omega) (by omega);go_simp) ⟨V,?_⟩;simp only[Act.put,aF,aG,aH,aI,aK,aL];clear fM;refine M3.bQ [12] (by kernel_rfl) (by simp) ?_;intro w7 cM G i hi;simp only[bY,bZ,atU]at hi;subst hi;have X:=V.aa G;have gi:=gD.bh G;have Lv:=dD Lt G;have Lx:=Lu.aa G;clear G V gD Lt Lu;refine M3.bH (.agg #[.int .i64 (f+1+l),.int .i64 (t+j)]) w7 rfl rfl (by go_simp) ⟨X,?_⟩;simp only[Act.put,aF,aG,aH,aI,aK,aL];clear cM;refine M3.bQ [13] (by kernel_rfl) (by simp) ?_;intro y df I i hi;simp only[bY,bZ,atU]at hi;subst hi;have Y:=X.aa I;have jd:=gi.bh I;have Lz:=dD Lv I;have LA:=Lx.aa I;clear I X gi Lv Lx;refine M3.bH (.slice (some ⟨y.heap.size,0,none⟩) 1 1) (y.alloc (.cells #[.int .i64 (f+1+l),.int .i64 (t+j)] 93)) rfl rfl (by go_simp) ⟨Y.alloc _,?_⟩;simp only[Act.put,aF,aG,aH,aI,aK,aL];have LB:=(ai.new Iz y [⟨f+1+l,t+j⟩] #[.int .i64 (f+1+l),.int .i64 (t+j)] 93 rfl).more (B':=(y.alloc (.cells #[.int .i64 (f+1+l),.int .i64 (t+j)] 93)).heap.size) (by rw[at2];omega);have nH:=Y.alloc (.cells #[.int .i64 (f+1+l),.int .i64 (t+j)] 93);have om:=jd.alloc (.cells #[.int .i64 (f+1+l),.int .i64 (t+j)] 93);have LC:=eG Lz (.cells #[.int .i64 (f+1+l),.int .i64 (t+j)] 93);have LD:=LA.alloc (.cells #[.int .i64 (f+1+l),.int .i64 (t+j)] 93);clear df Y jd Lz LA;generalize y.alloc (.cells #[.int .i64 (f+1+l),.int .i64 (t+j)] 93)=w9 at*;generalize y.heap.size=q at*;refine M3.bQ [14] (by kernel_rfl) (by simp) ?_;intro dC oP z i hi;simp only[bY,bZ,atU]at hi;subst hi;have l9:=nH.aa z;have mC:=om.bh z;have Z:=dD LC z;have G5:=LD.aa z;have LF:=LB.aa z;clear z nH om LC LD LB;have br:w.heap.size<=dC.heap.size:=Z.size;refine M3.nW (.tmp 23) (.tmp 36) 39 1 16 _ abg underlying39 G5 LF Iz (by omega) rfl abh (by simp;omega) (by omega) br rfl rfl rfl rfl rfl rfl ?_;intro ab dS LG O;have G6:∀q,Value.ownBlock _=some q->w.heap.size<=q:=fun q J=>(G5.bR J).1;have iJ:=mC.grown O (fun q J=>by have:=G6 q J;omega);have LH:=pT Z O (fun q J=>.inl (G6 q J));have iI:=l9.grown O af;refine⟨iI,?_⟩;simp only[Act.put,aF,aG,aH,aI,aK,aL];clear O G6 br oP LF G5 mC Z l9;refine M3.bQ [15] (by kernel_rfl) (by simp) ?_;intro qs CW K i hi;simp only[bY,bZ,atU]at hi;subst hi;have ma:=iI.aa K;have mf:=iJ.bh K;have LI:=dD LH K;have LJ:=LG.aa K;clear K iI iJ LH LG;refine M3.bH ab qs rfl rfl rfl ⟨CW,?_⟩;simp only[Act.put,aF,aG,aH,aI,aK,aL];clear CW;refine M3.kI (by kernel_rfl) ?_;intro oN nK L;refine bS _ _ ?_;have GR:=ma.aa L;have DK:=mf.bh L;have TE:=dD LI L;have TF:=LJ.aa L;clear L nK bS ma mf LI LJ;have EE:=fT.out.snoc HM.out.symm (f:=f+1+l) (t:=t+j) (by rw[ef];omega) (by rw[ef];omega) (by rw[et];omega) (by rw[et];omega);have kT:(r++[(⟨f+1+l,t+j⟩:nd)]).length=r.length+1:=(by simp);go_wp2_with fail;go_roundw
      case rel=>
       have aj:∃(k':Nat) (u:List nd),k'<=4/\Value.int .i64 ((k:Int)-1)=.int .i64 k'/\u.length+k'<=5/\Hid (FP u)/\Own oO 2 93 oN w.heap.size _ u/\aW oN b (M+2+2*(4-k'))/\w.grownBy oN (some b):=⟨k-1,_,by omega,by go_num,by rw[kT];omega,EE,TF,DK.mono (by omega),TE⟩
       first|exact aj|((repeat apply Exists.intro);exact⟨aj,rfl⟩)
      case measure=>simp[intOf];omega
  ·go_wp2_with fail;go_ret;exact⟨_,r,rfl,fT.out.ok (by omega),D,fe.mono (by omega),hg⟩
namespace M5
variable {P:Program}{ops:Array Oper}{md:Region.Mode}{C:World->Prop}{s:Nat}
theorem WD{Q:Act->World->Prop}{n:Nat}{e:Array Bool}{a:Act}{w:World}(i j:Nat)(y:Region.ready md ops e=[i,j])(p:[i,j].contains s=false)
  (h:∀w',C w'->Below w.heap.size w w'->M3.iW P ops C i (fun r l=>C l/\cS P md ops C s Q n (e.setIfInBounds i true) r l) a w'/\M3.iW P ops C j (fun r l=>C l/\cS P md ops C s Q n (e.setIfInBounds j true) r l) a w'):cS P md ops C s Q (n+1) e a w:=
 ZY [i,j] y p rfl fun w' c b k u=>by
  simp only[bY,bZ,atU]at u;rcases u with rfl|rfl
  ·exact(h w' c b).1
  ·exact(h w' c b).2
end M5
