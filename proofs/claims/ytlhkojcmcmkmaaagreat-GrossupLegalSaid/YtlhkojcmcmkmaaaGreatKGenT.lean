/- Conditions: as stated. -/
import Derived.Test.YtlhkojcmcmkmaaaGreatKGenS
set_option maxRecDepth 100000
set_option maxHeartbeats 2000000
namespace Go.Proofs.YtlhkojcmcmkmaaaGreat
open Go.Proofs.Tryz
open Go.RowKit
def Mx:List ByteArray:=[⟨#[99,97,114,101]⟩,⟨#[104,101,97,108,116,104]⟩,⟨#[112,101,110,115,105,111,110]⟩]
def aaf:Array Value:=#[.string ⟨#[99,97,114,101]⟩,.string ⟨#[104,101,97,108,116,104]⟩,.string ⟨#[112,101,110,115,105,111,110]⟩]
def VL(k:Nat):ByteArray:=Mx.getD k ⟨#[]⟩
theorem alq(k:Nat)(h:k<3):aaf[k]?=some (.string (VL k)):=by
 match k,h with
 |0,_=>rfl
 |1,_=>rfl
 |2,_=>rfl
theorem aeQ(k:Nat)(h:k<3):Mx.take (k+1)=Mx.take k++[VL k]:=by
 match k,h with
 |0,_=>rfl
 |1,_=>rfl
 |2,_=>rfl
theorem alr:∀c∈Mx,bI c=true:=by decide+kernel
theorem als:Mx.Pairwise (fun a b=>Op.bytesLess a.toList b.toList=true):=by decide+kernel
structure BJ(k:Nat)(xs:List cm):Prop where
 sub:(xs.map (·.code)).Sublist (Mx.take k)
 ok:∀x∈xs,RX x
theorem BJ.cK:BJ 0 []:=⟨by simp,by simp⟩
theorem BJ.skip{k:Nat}{e:List cm}(h:BJ k e)(j:k<3):BJ (k+1) e:=⟨by rw[aeQ k j];exact h.sub.trans (List.sublist_append_left _ _),h.ok⟩
theorem BJ.more{k:Nat}{e:List cm}(h:BJ k e)(j:k<3)(x:cm)(l:x.code=VL k)(n:RX x):BJ (k+1) (e++[x]):=by
 refine⟨?_,fun y hy=>?_⟩
 ·rw[aeQ k j,aso];exact h.sub.append (by simp[l])
 ·rcases arE.1 hy with h1|h1
  ·exact h.ok y h1
  ·simp at h1;subst h1;exact n
theorem BJ.len{k:Nat}{e:List cm}(h:BJ k e):e.length<=3:=by have:=h.sub.length_le;simp[Mx]at this;omega
theorem BJ.aeK{k:Nat}{e:List cm}(h:BJ k e):(∀s∈e,mA s)/\e.Pairwise (fun a b=>Op.bytesLess a.code.toList b.code.toList=true):=by
 refine⟨fun x j=>?_,?_⟩
 ·exact(h.ok x j).ok (alr _ (arD (h.sub.subset (List.mem_map_of_mem j))))
 ·have l:=als.sublist (h.sub.trans (List.take_sublist _ _));exact asI.1 l
theorem alk(b M:Nat)(w:World)(hM:M<=600000)(hd:aX w b M):
  Calls prog 64 #[.pointer (some ⟨b,0,none⟩)] w fun e w'=>∃v p,e=.returned v/\BJ 3 p/\Own EO 8 123 w' w.heap.size v p/\aX w' b (M+33)/\w.grownBy w' (some b):=by
 have R:=hd.lt;go_enter func64,ntmps64;go_wp2_with fail;rw[show Obj.cells #[.string ⟨#[99,97,114,101]⟩,.string ⟨#[104,101,97,108,116,104]⟩,.string ⟨#[112,101,110,115,105,111,110]⟩] 9=Obj.cells aaf 9 from rfl]
 go_loopw [3,8] (fun v i wr=>∃(k:Nat) (p:List cm),k<=3/\i=.int .i64 k/\BJ k p/\Own EO 8 123 wr (w.heap.size+1) v p/\aX wr b (M+11*k)/\ah wr w.heap.size 9 aaf/\w.grownBy wr (some b)) (fun _ i _=>3-(intOf i).toNat)
 case atStart=>exact⟨0,[],by omega,rfl,BJ.cK,Own.cK _ _,hd.alloc _,ah.new _ _ _,fI (ft _ _) _⟩
 case round=>
  obtain⟨k,p,hk,rfl,B,l,E,j,D⟩:=hrel;by_cases F:k<3
  ·have S:=(j.cell k).trans (alq k F);go_wp2_with fail;refine(jv b (M+11*k) _ _ (by omega) (by omega) (by omega) E).mono ?_;rintro e w1 ⟨T,rfl,U,V,G,n⟩;have X:=j.lt;by_cases hr:0<T
   ·go_wp2_with fail;refine(alp b (M+11*k+1) (VL k) _ (by omega) G).mono ?_;rintro e w7 ⟨s,rfl,u,Y,Z,N⟩;have y:=ck n N;have O:=l.kept y (by intro g e;injection e;omega);have I:=j.grown y (by intro e;injection e;omega);have zn:=ck D y;have RG:=y.size;have Q:=B.len;have z:=aq6 u;clear l j D n N E G S y u;obtain⟨c',x1,x2,x3,x4,x5,x6,x7⟩:=s;simp only at z;go_wp2_with(at_builtin;(refine my _ _ 37 ⟨c',x1,x2,x3,x4,x5,x6,x7⟩ _ 72 _ alu underlying37 O ZF (by omega) rfl (alv _) (by omega) (by omega) (by omega) (by rfl) (by rfl) (by rfl) (by rfl) (by simp) (by rfl) ?_);intro v2 w8 cv J);have K:∀g,Value.ownBlock _=some g->w.heap.size+1<=g:=fun g e=>(O.cg e).1;go_roundw
    case rel=>refine⟨k+1,_,by omega,by go_num,?_,cv,(Z.grown J (fun g e=>by have:=K g e;omega)).mono (by omega),I.grown J (fun e=>by have:=K _ e.symm;omega),DW zn J (fun g e=>.inl (by have:=K g e;omega))⟩;exact B.more F _ z.out Y
    case measure=>simp[intOf];omega
   ·have r:=l.kept n (by intro g e;injection e;omega);have L:=j.grown n (by intro e;injection e;omega);go_wp2_with fail;go_roundw
    case rel=>exact⟨k+1,p,by omega,by go_num,B.skip F,r,G.mono (by omega),L,ck D n⟩
    case measure=>simp[intOf];omega
  ·go_wp2;go_ret;obtain rfl:k=3:=by omega
   exact⟨_,p,rfl,B,l.weaken (by omega),E,D⟩
theorem BH{n:Int}(e:-9223372036854775808<=n)(j:n<=9223372036854775807):IntKind.i64.wrap n=n:=by rw[IntKind.wrap_i64];omega
structure E6(xs:List mj):Prop where
 ne:0<xs.length
 zero:(xs.getD 0 lR).bW=0
 lh:∀i,i+1<xs.length->(xs.getD i lR).bW<(xs.getD (i+1) lR).bW
 fr:∀i,i<xs.length->0<=(xs.getD i lR).bW/\(xs.getD i lR).bW<=100000*i
 tx:∀i,i<xs.length->0<=(xs.getD i lR).au/\(xs.getD i lR).au<=100+20000*i
theorem EY{j:Type}{e:List j}{x z:j}{i:Nat}(h:i<e.length):(e++[x]).getD i z=e.getD i z:=by rw[aru,aru,asJ h]
theorem OP{e:Type}{j:List e}{x z:e}:(j++[x]).getD j.length z=x:=by rw[aru,List.getElem?_append_right (aq7 _)];simp
theorem E6.one{r:Int}(e:0<=r)(j:r<=100):E6 [⟨0,r⟩]:=by
 refine⟨by simp,rfl,fun i hi=>?_,fun i hi=>?_,fun i hi=>?_⟩
 ·simp at hi
 ·simp at hi;subst hi;exact⟨asa _,asa _⟩
 ·simp at hi;subst hi;show 0<=r/\r<=100+20000*0;omega
theorem E6.snoc{e:List mj}{m:Nat}(h:E6 e)(p:m+1=e.length){f t:Int}(l:(e.getD m lR).bW<f)(r:f<=(e.getD m lR).bW+100000)(u:(e.getD m lR).au<=t)(y:t<=(e.getD m lR).au+20000):E6 (e++[⟨f,t⟩]):=by
 have z:=h.fr m (by omega);have B:=h.tx m (by omega);refine⟨by simp,?_,fun i hi=>?_,fun i hi=>?_,fun i hi=>?_⟩
 ·rw[EY h.ne];exact h.zero
 ·simp only[arl,ars,arC]at hi;rcases arp (i+1) e.length with hl|hl
  ·rw[EY hl,EY (by omega)];exact h.lh i hl
  ·have j:i+1=e.length:=(by omega);have n:i=m:=(by omega);rw[EY (show i<e.length by omega),j,OP,n];exact l
 all_goals simp only[arl,ars,arC]at hi;rcases arp i e.length with hl|hl
 ·rw[EY hl];exact h.fr i hl
 ·have j:i=e.length:=by omega
  rw[j,OP];show 0<=f/\f<=_;omega
 ·rw[EY hl];exact h.tx i hl
 ·have j:i=e.length:=by omega
  rw[j,OP];show 0<=t/\t<=_;omega
theorem E6.ok{e:List mj}(h:E6 e)(j:e.length<=6):My e:=
 ⟨h.ne,by omega,h.zero,h.lh,fun i hi=>by have:=h.fr i hi;omega,fun i hi=>by have:=h.tx i hi;omega,fun i hi=>by have:=h.tx i hi;omega⟩
theorem aeC(b M:Nat)(w:World)(hM:M<=600000)(hd:aX w b M):
  Calls prog 119 #[.pointer (some ⟨b,0,none⟩)] w fun e w'=>∃v r,e=.returned v/\My r/\Own oB 2 93 w' w.heap.size v r/\aX w' b (M+10)/\w.grownBy w' (some b):=by
 have az:=hd.lt;go_enter func119,ntmps119;go_wp2_with fail;refine(CU b M w [0,0,100] _ _ _ rfl rfl (by omega) hd (by simp) (by simp)).mono ?_;rintro e w1 ⟨r1,rfl,eF,bP,ae⟩;have Kf:0<=r1/\r1<=100:=by simp at eF;omega
 have eH:=Own.lit (base:=w.heap.size) Hc w1 [⟨0,r1⟩] #[.int .i64 0,.int .i64 r1] 93 rfl (by simp) ae.size;simp only[ars,arC]at eH;go_wp2_with fail;refine(jv b (M+1) _ _ (by omega) (by omega) (by omega) (bP.alloc _)).mono ?_;rintro e w2 ⟨r2,rfl,ai,ap,dy,B⟩;obtain⟨k0,rfl⟩:=asH ai;have R:=eH.kept B (by intro g e;injection e;omega);have oV:w.grownBy w2 (some b):=ck (fI ae _) B;clear eH ae B bP hd eF;go_wp2_with fail
 go_loopw [3,4] (fun v i wr=>∃(k:Nat) (r:List mj),k<=4/\i=.int .i64 k/\r.length+k<=5/\Hid (E6 r)/\Own oB 2 93 wr w.heap.size v r/\aX wr b (M+2+2*(4-k))/\w.grownBy wr (some b)) (fun _ i _=>(intOf i).toNat)
 case atStart=>exact⟨k0,[⟨0,r1⟩],by omega,rfl,by simp;omega,E6.one Kf.1 Kf.2,R,dy.mono (by omega),oV⟩
 case round=>
  obtain⟨k,r,hk,rfl,av,iW,D,iF,hg⟩:=hrel;by_cases fM:0<k
  ·obtain⟨m,hm⟩:∃m,r.length=m+1:=⟨r.length-1,by have:=iW.out.ne;omega⟩
   have HO:=aq6 D;obtain⟨A,c,rfl,hS,Z0,_⟩:=D.form Hc;have S:m<r.length:=(by omega);obtain⟨bb,al,rfl,kW,hc⟩:=hS.at_ S;have c0:=hc 0 _ rfl;have c1:=hc 1 _ rfl;simp only[ara]at c0;clear hc hS
   try rw[hm]
   obtain⟨f,hf⟩:∃f,f=r[m].bW:=⟨_,rfl⟩
   obtain⟨t,ht⟩:∃t,t=r[m].au:=⟨_,rfl⟩
   rw[<-hf]at c0;rw[<-ht]at c1;have ef:(r.getD m lR).bW=f:=(by rw[hf,aru,aro S];rfl);have et:(r.getD m lR).au=t:=(by rw[ht,aru,aro S];rfl);have cu:=iW.out.fr m S;have OI:=iW.out.tx m S;rw[ef]at cu;rw[et]at OI;have aA:f<=500000:=(by omega);have aD:t<=200000:=(by omega);clear hf ht;have HM:=aq6 hm
   try rw[hm]
   go_upto_region 6 with fail
   rw[<-HM.out];clear hm;have gC:=ah.new wr 93 #[.int .i64 f,.int .i64 t];have eQ:=iF.alloc (Obj.cells #[.int .i64 f,.int .i64 t] 93);have am:=fI hg (Obj.cells #[.int .i64 f,.int .i64 t] 93);have Rk:=D.alloc (Obj.cells #[.int .i64 f,.int .i64 t] 93);have aJ:b<wr.heap.size:=iF.lt;clear D HO iF hg c0 c1 dy R oV Z0;generalize wr.alloc (Obj.cells #[.int .i64 f,.int .i64 t] 93)=w0 at*;have af:some wr.heap.size≠(Value.slice (some ⟨bb,al,none⟩) r.length c).ownBlock:=(fun e=>by injection e;omega:some wr.heap.size≠some bb)
   generalize LJ:M+2+2*(4-k)=N at*;generalize zn:wr.heap.size=g at*;generalize aO:Value.slice (some ⟨bb,al,none⟩) r.length c=v at*;refine M3.iu (C:=fun w'=>ah w' g 93 #[.int .i64 f,.int .i64 t]) (Z1 _ _ _) (gC) (aE:=?Co) [0,1,2,3,4,7,8,9] 8 (by kernel_rfl) (by kernel_rfl) rfl (by kernel_rfl) (by kernel_rfl) (by rfl) ?H1 ?M1
   case H1=>
    intro F hF ay;simp only[M3.cL,arh,ari,arj];have e0:∀p:aR (fun w'=>ah w' g 93 #[.int .i64 f,.int .i64 t]) F,p.w'.cell? ⟨g,0,none⟩=some (.int .i64 f):=fun p=>(ah.cell p.h 0).trans rfl;have e1:∀p:aR (fun w'=>ah w' g 93 #[.int .i64 f,.int .i64 t]) F,p.w'.cell? ⟨g,1,none⟩=some (.int .i64 t):=fun p=>(ah.cell p.h 1).trans rfl
    repeat(first|go_big_quiet_step(fail))
    refine wpQuiet_nil ?_;rfl
   case M1=>
    intro Q0 bM;refine M3.bL [5] (by kernel_rfl) (by simp) ?_;intro w1 aV T i hi;simp only[bS,bT,ard]at hi;subst hi;have FW:=gC.aa T;have bP:=eQ.aU T;have an:=dx am T;have Lx:=Rk.aa T;clear T gC eQ am Rk;refine M3.iB 34 #[.pointer (some ⟨b,0,none⟩),.int .i64 100000] rfl rfl (by go_simp) ?_;refine(jv b (N) 100000 w1 (by omega) (by omega) (by omega) bP).mono ?_;rintro e w2 ⟨l,rfl,ai,ap,dy,B⟩;have zl:=FW.grown B (by intro e;injection e;omega);have ao:=ck an B;have Lz:=Lx.kept B (by intro g e;injection e;omega);refine⟨_,rfl,zl,?_⟩;simp only[Act.put,aG,aH,aI,aK,aL,aM];clear B aV bP FW an Lx;refine M3.bL [6,10] (by kernel_rfl) (by simp) ?_;intro w3 bU U i hi;simp only[bS,bT,ard]at hi;have nd:=zl.aa U;have ig:=dy.aU U;have VM:=dx ao U;have Mg:=Lz.aa U;clear U zl dy ao Lz;rcases hi with rfl|rfl
    ·refine M3.bD (.int .i64 (f+1+l)) w3 rfl rfl (by have e:=BH (n:=f+1+l) (by omega) (by omega);go_simp) ⟨nd,?_⟩;simp only[Act.put,aG,aH,aI,aK,aL,aM];clear bU;refine M3.bL [10] (by kernel_rfl) (by simp) ?_;intro w4 lF Q i hi;simp only[bS,bT,ard]at hi;subst hi;have oW:=nd.aa Q;have iG:=ig.aU Q;have RY:=dx VM Q;have RZ:=Mg.aa Q;clear Q nd ig VM Mg;refine M3.iB 34 #[.pointer (some ⟨b,0,none⟩),.int .i64 20000] rfl rfl (by go_simp) ?_;refine(jv b (N+1) 20000 w4 (by omega) (by omega) (by omega) iG).mono ?_;rintro e w5 ⟨j,rfl,VK,aP,iP,bw⟩;have mM:=oW.grown bw (by intro e;injection e;omega);have MA:=ck RY bw;have MB:=RZ.kept bw (by intro g e;injection e;omega);refine⟨_,rfl,mM,?_⟩;simp only[Act.put,aG,aH,aI,aK,aL,aM];clear bw lF iG oW RY RZ;refine M3.bL [11] (by kernel_rfl) (by simp) ?_;intro w6 fX E i hi;simp only[bS,bT,ard]at hi;subst hi;have V:=mM.aa E;have ji:=iP.aU E;have KG:=dx MA E;have KH:=MB.aa E;clear E mM iP MA MB;refine M3.bD (.int .i64 (t+j)) w6 rfl rfl (by have e:=BH (n:=t+j) (by omega) (by omega);go_simp) ⟨V,?_⟩;simp only[Act.put,aG,aH,aI,aK,aL,aM];clear fX;refine M3.bL [12] (by kernel_rfl) (by simp) ?_;intro w7 cF G i hi;simp only[bS,bT,ard]at hi;subst hi;have X:=V.aa G;have gQ:=ji.aU G;have KI:=dx KG G;have C8:=KH.aa G;clear G V ji KG KH;refine M3.bD (.agg #[.int .i64 (f+1+l),.int .i64 (t+j)]) w7 rfl rfl (by go_simp) ⟨X,?_⟩;simp only[Act.put,aG,aH,aI,aK,aL,aM];clear cF;refine M3.bL [13] (by kernel_rfl) (by simp) ?_;intro y cZ I i hi;simp only[bS,bT,ard]at hi;subst hi;have Y:=X.aa I;have jw:=gQ.aU I;have KJ:=dx KI I;have Gb:=C8.aa I;clear I X gQ KI C8;refine M3.bD (.slice (some ⟨y.heap.size,0,none⟩) 1 1) (y.alloc (.cells #[.int .i64 (f+1+l),.int .i64 (t+j)] 93)) rfl rfl (by go_simp) ⟨Y.alloc _,?_⟩;simp only[Act.put,aG,aH,aI,aK,aL,aM];have KL:=(aj.new Hc y [⟨f+1+l,t+j⟩] #[.int .i64 (f+1+l),.int .i64 (t+j)] 93 rfl).more (B':=(y.alloc (.cells #[.int .i64 (f+1+l),.int .i64 (t+j)] 93)).heap.size) (by rw[arn];omega);have mP:=Y.alloc (.cells #[.int .i64 (f+1+l),.int .i64 (t+j)] 93);have kC:=jw.alloc (.cells #[.int .i64 (f+1+l),.int .i64 (t+j)] 93);have KM:=fI KJ (.cells #[.int .i64 (f+1+l),.int .i64 (t+j)] 93);have KN:=Gb.alloc (.cells #[.int .i64 (f+1+l),.int .i64 (t+j)] 93);clear cZ Y jw KJ Gb;generalize y.alloc (.cells #[.int .i64 (f+1+l),.int .i64 (t+j)] 93)=w9 at*;generalize y.heap.size=q at*;refine M3.bL [14] (by kernel_rfl) (by simp) ?_;intro dr KO z i hi;simp only[bS,bT,ard]at hi;subst hi;have ll:=mP.aa z;have nj:=kC.aU z;have Z:=dx KM z;have Gd:=KN.aa z;have KP:=KL.aa z;clear z mP kC KM KN KL;have br:w.heap.size<=dr.heap.size:=Z.size;refine M3.nL (.tmp 23) (.tmp 36) 39 1 16 _ aag underlying39 Gd KP Hc (by omega) rfl aah (by simp;omega) (by omega) br rfl rfl rfl rfl rfl rfl ?_;intro ab fJ KQ O;have Ge:∀q,Value.ownBlock _=some q->w.heap.size<=q:=fun q J=>(Gd.cg J).1;have iX:=nj.grown O (fun q J=>by have:=Ge q J;omega);have KR:=DW Z O (fun q J=>.inl (Ge q J));have ij:=ll.grown O af;refine⟨ij,?_⟩;simp only[Act.put,aG,aH,aI,aK,aL,aM];clear O Ge br KO KP Gd nj Z ll;refine M3.bL [15] (by kernel_rfl) (by simp) ?_;intro ow Gf K i hi;simp only[bS,bT,ard]at hi;subst hi;have lx:=ij.aa K;have jx:=iX.aU K;have KS:=dx KR K;have KT:=KQ.aa K;clear K ij iX KR KQ;refine M3.bD ab ow rfl rfl rfl ⟨Gf,?_⟩;simp only[Act.put,aG,aH,aI,aK,aL,aM];clear Gf;refine M3.kp (by kernel_rfl) ?_;intro np Ed L;refine bM _ _ ?_;have F0:=lx.aa L;have CZ:=jx.aU L;have R2:=dx KS L;have R3:=KT.aa L;clear L Ed bM lx jx KS KT;have Ec:=iW.out.snoc HM.out.symm (f:=f+1+l) (t:=t+j) (by rw[ef];omega) (by rw[ef];omega) (by rw[et];omega) (by rw[et];omega);have k9:(r++[(⟨f+1+l,t+j⟩:mj)]).length=r.length+1:=(by simp);go_wp2_with fail;go_roundw
     case rel=>
      have ax:∃(k':Nat) (u:List mj),k'<=4/\Value.int .i64 ((k:Int)-1)=.int .i64 k'/\u.length+k'<=5/\Hid (E6 u)/\Own oB 2 93 np w.heap.size _ u/\aX np b (M+2+2*(4-k'))/\w.grownBy np (some b):=⟨k-1,_,by omega,by go_num,by rw[k9];omega,Ec,R3,CZ.mono (by omega),R2⟩
      first|exact ax|((repeat apply Exists.intro);exact⟨ax,rfl⟩)
     case measure=>simp[intOf];omega
    ·refine M3.iB 34 #[.pointer (some ⟨b,0,none⟩),.int .i64 20000] rfl rfl (by go_simp) ?_;refine(jv b (N+1) 20000 w3 (by omega) (by omega) (by omega) ig).mono ?_;rintro e w4 ⟨j,rfl,Rj,Q,iG,ad⟩;have oW:=nd.grown ad (by intro e;injection e;omega);have RY:=ck VM ad;have RZ:=Mg.kept ad (by intro g e;injection e;omega);refine⟨_,rfl,oW,?_⟩;simp only[Act.put,aG,aH,aI,aK,aL,aM];clear ad bU ig nd VM Mg;refine M3.bL [6,11] (by kernel_rfl) (by simp) ?_;intro w5 bC aP i hi;simp only[bS,bT,ard]at hi;have mM:=oW.aa aP;have iP:=iG.aU aP;have MA:=dx RY aP;have MB:=RZ.aa aP;clear aP oW iG RY RZ;rcases hi with rfl|rfl
     ·refine M3.bD (.int .i64 (f+1+l)) w5 rfl rfl (by have e:=BH (n:=f+1+l) (by omega) (by omega);go_simp) ⟨mM,?_⟩;simp only[Act.put,aG,aH,aI,aK,aL,aM];clear bC;refine M3.bL [11] (by kernel_rfl) (by simp) ?_;intro w6 fX E i hi;simp only[bS,bT,ard]at hi;subst hi;have V:=mM.aa E;have ji:=iP.aU E;have KG:=dx MA E;have KH:=MB.aa E;clear E mM iP MA MB;refine M3.bD (.int .i64 (t+j)) w6 rfl rfl (by have e:=BH (n:=t+j) (by omega) (by omega);go_simp) ⟨V,?_⟩;simp only[Act.put,aG,aH,aI,aK,aL,aM];clear fX;refine M3.bL [12] (by kernel_rfl) (by simp) ?_;intro w7 cF G i hi;simp only[bS,bT,ard]at hi;subst hi;have X:=V.aa G;have gQ:=ji.aU G;have KI:=dx KG G;have C8:=KH.aa G;clear G V ji KG KH;refine M3.bD (.agg #[.int .i64 (f+1+l),.int .i64 (t+j)]) w7 rfl rfl (by go_simp) ⟨X,?_⟩;simp only[Act.put,aG,aH,aI,aK,aL,aM];clear cF;refine M3.bL [13] (by kernel_rfl) (by simp) ?_;intro y cZ I i hi;simp only[bS,bT,ard]at hi;subst hi;have Y:=X.aa I;have jw:=gQ.aU I;have KJ:=dx KI I;have Gb:=C8.aa I;clear I X gQ KI C8;refine M3.bD (.slice (some ⟨y.heap.size,0,none⟩) 1 1) (y.alloc (.cells #[.int .i64 (f+1+l),.int .i64 (t+j)] 93)) rfl rfl (by go_simp) ⟨Y.alloc _,?_⟩;simp only[Act.put,aG,aH,aI,aK,aL,aM];have KL:=(aj.new Hc y [⟨f+1+l,t+j⟩] #[.int .i64 (f+1+l),.int .i64 (t+j)] 93 rfl).more (B':=(y.alloc (.cells #[.int .i64 (f+1+l),.int .i64 (t+j)] 93)).heap.size) (by rw[arn];omega);have mP:=Y.alloc (.cells #[.int .i64 (f+1+l),.int .i64 (t+j)] 93);have kC:=jw.alloc (.cells #[.int .i64 (f+1+l),.int .i64 (t+j)] 93);have KM:=fI KJ (.cells #[.int .i64 (f+1+l),.int .i64 (t+j)] 93);have KN:=Gb.alloc (.cells #[.int .i64 (f+1+l),.int .i64 (t+j)] 93);clear cZ Y jw KJ Gb;generalize y.alloc (.cells #[.int .i64 (f+1+l),.int .i64 (t+j)] 93)=w9 at*;generalize y.heap.size=q at*;refine M3.bL [14] (by kernel_rfl) (by simp) ?_;intro dr KO z i hi;simp only[bS,bT,ard]at hi;subst hi;have ll:=mP.aa z;have nj:=kC.aU z;have Z:=dx KM z;have Gd:=KN.aa z;have KP:=KL.aa z;clear z mP kC KM KN KL;have br:w.heap.size<=dr.heap.size:=Z.size;refine M3.nL (.tmp 23) (.tmp 36) 39 1 16 _ aag underlying39 Gd KP Hc (by omega) rfl aah (by simp;omega) (by omega) br rfl rfl rfl rfl rfl rfl ?_;intro ab fJ KQ O;have Ge:∀q,Value.ownBlock _=some q->w.heap.size<=q:=fun q J=>(Gd.cg J).1;have iX:=nj.grown O (fun q J=>by have:=Ge q J;omega);have KR:=DW Z O (fun q J=>.inl (Ge q J));have ij:=ll.grown O af;refine⟨ij,?_⟩;simp only[Act.put,aG,aH,aI,aK,aL,aM];clear O Ge br KO KP Gd nj Z ll;refine M3.bL [15] (by kernel_rfl) (by simp) ?_;intro ow Gf K i hi;simp only[bS,bT,ard]at hi;subst hi;have lx:=ij.aa K;have jx:=iX.aU K;have KS:=dx KR K;have KT:=KQ.aa K;clear K ij iX KR KQ;refine M3.bD ab ow rfl rfl rfl ⟨Gf,?_⟩;simp only[Act.put,aG,aH,aI,aK,aL,aM];clear Gf;refine M3.kp (by kernel_rfl) ?_;intro np Ed L;refine bM _ _ ?_;have F0:=lx.aa L;have CZ:=jx.aU L;have R2:=dx KS L;have R3:=KT.aa L;clear L Ed bM lx jx KS KT;have Ec:=iW.out.snoc HM.out.symm (f:=f+1+l) (t:=t+j) (by rw[ef];omega) (by rw[ef];omega) (by rw[et];omega) (by rw[et];omega);have k9:(r++[(⟨f+1+l,t+j⟩:mj)]).length=r.length+1:=(by simp);go_wp2_with fail;go_roundw
      case rel=>
       have ax:∃(k':Nat) (u:List mj),k'<=4/\Value.int .i64 ((k:Int)-1)=.int .i64 k'/\u.length+k'<=5/\Hid (E6 u)/\Own oB 2 93 np w.heap.size _ u/\aX np b (M+2+2*(4-k'))/\w.grownBy np (some b):=⟨k-1,_,by omega,by go_num,by rw[k9];omega,Ec,R3,CZ.mono (by omega),R2⟩
       first|exact ax|((repeat apply Exists.intro);exact⟨ax,rfl⟩)
      case measure=>simp[intOf];omega
     ·refine M3.bD (.int .i64 (t+j)) w5 rfl rfl (by have e:=BH (n:=t+j) (by omega) (by omega);go_simp) ⟨mM,?_⟩;simp only[Act.put,aG,aH,aI,aK,aL,aM];clear bC;refine M3.bL [6] (by kernel_rfl) (by simp) ?_;intro w6 fX E i hi;simp only[bS,bT,ard]at hi;subst hi;have V:=mM.aa E;have ji:=iP.aU E;have KG:=dx MA E;have KH:=MB.aa E;clear E mM iP MA MB;refine M3.bD (.int .i64 (f+1+l)) w6 rfl rfl (by have e:=BH (n:=f+1+l) (by omega) (by omega);go_simp) ⟨V,?_⟩;simp only[Act.put,aG,aH,aI,aK,aL,aM];clear fX;refine M3.bL [12] (by kernel_rfl) (by simp) ?_;intro w7 cF G i hi;simp only[bS,bT,ard]at hi;subst hi;have X:=V.aa G;have gQ:=ji.aU G;have KI:=dx KG G;have C8:=KH.aa G;clear G V ji KG KH;refine M3.bD (.agg #[.int .i64 (f+1+l),.int .i64 (t+j)]) w7 rfl rfl (by go_simp) ⟨X,?_⟩;simp only[Act.put,aG,aH,aI,aK,aL,aM];clear cF;refine M3.bL [13] (by kernel_rfl) (by simp) ?_;intro y cZ I i hi;simp only[bS,bT,ard]at hi;subst hi;have Y:=X.aa I;have jw:=gQ.aU I;have KJ:=dx KI I;have Gb:=C8.aa I;clear I X gQ KI C8;refine M3.bD (.slice (some ⟨y.heap.size,0,none⟩) 1 1) (y.alloc (.cells #[.int .i64 (f+1+l),.int .i64 (t+j)] 93)) rfl rfl (by go_simp) ⟨Y.alloc _,?_⟩;simp only[Act.put,aG,aH,aI,aK,aL,aM];have KL:=(aj.new Hc y [⟨f+1+l,t+j⟩] #[.int .i64 (f+1+l),.int .i64 (t+j)] 93 rfl).more (B':=(y.alloc (.cells #[.int .i64 (f+1+l),.int .i64 (t+j)] 93)).heap.size) (by rw[arn];omega);have mP:=Y.alloc (.cells #[.int .i64 (f+1+l),.int .i64 (t+j)] 93);have kC:=jw.alloc (.cells #[.int .i64 (f+1+l),.int .i64 (t+j)] 93);have KM:=fI KJ (.cells #[.int .i64 (f+1+l),.int .i64 (t+j)] 93);have KN:=Gb.alloc (.cells #[.int .i64 (f+1+l),.int .i64 (t+j)] 93);clear cZ Y jw KJ Gb;generalize y.alloc (.cells #[.int .i64 (f+1+l),.int .i64 (t+j)] 93)=w9 at*;generalize y.heap.size=q at*;refine M3.bL [14] (by kernel_rfl) (by simp) ?_;intro dr KO z i hi;simp only[bS,bT,ard]at hi;subst hi;have ll:=mP.aa z;have nj:=kC.aU z;have Z:=dx KM z;have Gd:=KN.aa z;have KP:=KL.aa z;clear z mP kC KM KN KL;have br:w.heap.size<=dr.heap.size:=Z.size;refine M3.nL (.tmp 23) (.tmp 36) 39 1 16 _ aag underlying39 Gd KP Hc (by omega) rfl aah (by simp;omega) (by omega) br rfl rfl rfl rfl rfl rfl ?_;intro ab fJ KQ O;have Ge:∀q,Value.ownBlock _=some q->w.heap.size<=q:=fun q J=>(Gd.cg J).1;have iX:=nj.grown O (fun q J=>by have:=Ge q J;omega);have KR:=DW Z O (fun q J=>.inl (Ge q J));have ij:=ll.grown O af;refine⟨ij,?_⟩;simp only[Act.put,aG,aH,aI,aK,aL,aM];clear O Ge br KO KP Gd nj Z ll;refine M3.bL [15] (by kernel_rfl) (by simp) ?_;intro ow Gf K i hi;simp only[bS,bT,ard]at hi;subst hi;have lx:=ij.aa K;have jx:=iX.aU K;have KS:=dx KR K;have KT:=KQ.aa K;clear K ij iX KR KQ;refine M3.bD ab ow rfl rfl rfl ⟨Gf,?_⟩;simp only[Act.put,aG,aH,aI,aK,aL,aM];clear Gf;refine M3.kp (by kernel_rfl) ?_;intro np Ed L;refine bM _ _ ?_;have F0:=lx.aa L;have CZ:=jx.aU L;have R2:=dx KS L;have R3:=KT.aa L;clear L Ed bM lx jx KS KT;have Ec:=iW.out.snoc HM.out.symm (f:=f+1+l) (t:=t+j) (by rw[ef];omega) (by rw[ef];omega) (by rw[et];omega) (by rw[et];omega);have k9:(r++[(⟨f+1+l,t+j⟩:mj)]).length=r.length+1:=(by simp);go_wp2_with fail;go_roundw
      case rel=>
       have ax:∃(k':Nat) (u:List mj),k'<=4/\Value.int .i64 ((k:Int)-1)=.int .i64 k'/\u.length+k'<=5/\Hid (E6 u)/\Own oB 2 93 np w.heap.size _ u/\aX np b (M+2+2*(4-k'))/\w.grownBy np (some b):=⟨k-1,_,by omega,by go_num,by rw[k9];omega,Ec,R3,CZ.mono (by omega),R2⟩
       first|exact ax|((repeat apply Exists.intro);exact⟨ax,rfl⟩)
      case measure=>simp[intOf];omega
  ·go_wp2_with fail;go_ret;exact⟨_,r,rfl,iW.out.ok (by omega),D,iF.mono (by omega),hg⟩
namespace M5
variable {P:Program}{ops:Array Oper}{md:Region.Mode}{C:World->Prop}{s:Nat}
theorem Vv{Q:Act->World->Prop}{n:Nat}{e:Array Bool}{a:Act}{w:World}(i j:Nat)(y:Region.ready md ops e=[i,j])(p:[i,j].contains s=false)
  (h:∀w',C w'->Below w.heap.size w w'->M3.im P ops C i (fun r l=>C l/\cG P md ops C s Q n (e.setIfInBounds i true) r l) a w'/\M3.im P ops C j (fun r l=>C l/\cG P md ops C s Q n (e.setIfInBounds j true) r l) a w'):cG P md ops C s Q (n+1) e a w:=
 Yk [i,j] y p rfl fun w' c b k u=>by
  simp only[bS,bT,ard]at u;rcases u with rfl|rfl
  ·exact(h w' c b).1
  ·exact(h w' c b).2
end M5
