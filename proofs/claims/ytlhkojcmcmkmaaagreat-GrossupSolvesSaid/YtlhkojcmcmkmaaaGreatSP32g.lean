/- Conditions: as stated. -/
import Derived.Test.YtlhkojcmcmkmaaaGreatSP28d
set_option maxRecDepth 100000
set_option maxHeartbeats 8000000
namespace Go.Proofs.YtlhkojcmcmkmaaaGreat
open Go.Proofs.Tryz
open Go.RowKit
def aoK(j:World)(g:Nat)(c:mR)(s:jD)(l:List dH)(I:aY)(w w':World):Prop:=
 ∃e,dI j g c {s with aM:=I.aM,lv:=e,left:=s.left-I.bj,bj:=I.bj,pS:=I.jT I.r.aV} (l++I.zT I.r.aV) w'/\Mv g s.lv w e w'
def JJ(I:aY):Int:=if I.Ep=true then 4 else 0
def ER(I:aY)(s:jD)(v:Value)(k:Nat):jD:={s with aM:=I.aM,lv:=v,left:=s.left-I.jS (I.r.aV.take k),bj:=I.jS (I.r.aV.take k),pS:=I.jT (I.r.aV.take k)}
def abk(j:World)(g:Nat)(c:mR)(s:jD)(l:List dH)(I:aY)(w3:World)(k:Nat)(wr:World):Prop:=
 ∃e,dI j g c (ER I s e k) (l++I.zT (I.r.aV.take k)) wr/\Mv g s.lv w3 e wr/\Hid (∀x∈I.r.aV.take k,fO (gI x I.y.aM.length I.eh)=false)
theorem aoL{l:World}{g:Nat}{c:mR}{s:jD}{U:List dH}{w:World}(h:dI l g c s U w)(hr:c.r.In l)(hp:c.p.In l)(hy:c.y.In l)(I:aY)(BD:c.r.ss=I.r.aV)(Q:I.eh=(⟨c.y.Ai,c.y.ci,c.y.ins,I.aM⟩::c.p.es:List cS).map cS.v)
  (jg:I.aM=max s.b.i 0) (_U7:I.aM<=1000000000) (ab:∀x∈I.r.aV,mS x) (hn:I.r.aV.length<=12) (OL:Ed I.y.aM.length I.eh)
  (au:∀x∈I.r.aV,fO (gI x I.y.aM.length I.eh)=false->(0<=(I.dK x).aA/\(I.dK x).aA<=1000000000)/\0<=(I.dK x).aT/\(I.dK x).aT<=1000000000)
  (CW:U.length<=1000) (l0:-100000000000<=s.left) (l1:s.left<=100000000000) (av:s.bj=0) (qh:s.pS=0):
  Calls prog 54 #[.pointer (some ⟨g,0,none⟩)] w (LL l (JJ I) (aoK l g c s U I w)):=by
 have zZ:=arH au;have bz:=arH ab;have bA:c.p.es.length<=7:=by have:=OL.len;rw[Q]at this;simp at this;omega
 have pL:Hid (∀W,Below l.heap.size l W->aj po 8 W W.heap.size c.r.As I.r.aV):=fun W M=>by rw[<-BD];exact(hr.aa M).ss
 have Xd:Hid (∀W,Below l.heap.size l W->aj Ce 2 W W.heap.size c.p.Ae c.p.es):=fun W M=>(hp.aa M).es;have bh:Hid (∀W A J,Below l.heap.size l W->aj Ce 2 W W.heap.size A (⟨c.y.Ai,c.y.ci,c.y.ins,I.aM⟩::c.p.es)->∀x∈I.r.aV,Calls prog 107 #[.agg #[.string x.code,.int .i64 x.aA,.int .i64 x.aT,.int .i64 x.floor,.int .i64 x.dt,.int .i64 x.unit,.int .i64 x.mode,.bool x.cA],.slice A (c.p.es.length+1) J] W (Cc (pF x I.y.aM.length I.eh) (AH x I.y.aM.length I.eh) W)):=fun W A J M hS x hx=>by
  have:=anT x A J I.y.aM.length _ W hS (fun e he=>by
   rcases asb.1 he with rfl|he
   ·exact(hy.aa M).ins
   ·exact(hp.aa M).ins e he) (ab x hx) (by rw[<-Q];exact OL)
  rw[<-Q]at this;exact this
 have HI:=arH h;have bi:w.cell? ⟨g,30,none⟩=some (.int .i64 s.b.i):=h.blk.cell 30;have bk:w.cell? ⟨g,37,none⟩=some (.int .i64 s.aM):=h.blk.cell 37;have f37:=h.blk.frozen 37;have oK:Hid (max s.b.i 0=I.aM):=jg.symm;have bl:Hid (∀k,(I.zT (I.r.aV.take k)).length<=24):=fun k=>by have h1:=(I.aaS (I.r.aV.take k)).length_eq;have h2:=asi nz (I.gX (I.r.aV.take k));have h3:=asi nz (I.iE (I.r.aV.take k));simp only[ag,aY.gX,aY.iE,arV,asu,asA]at h1 h2 h3;omega
 have nJ:=arH BD;have Hj:Hid (∀v,ER I s v 0={s with aM:=I.aM,lv:=v}):=fun v=>by unfold ER;simp[aY.jS,aY.jT,aL,av,qh]
 clear h hr hp hy Q jg ab OL au av qh BD;go_enter func54,ntmps54;go_upto_region 2 with fail
 rw[oK.out];have R:=HI.out.amK I.aM;have ey:=Mv.set (w:=w) (v:=s.lv) (g:=g) 37 (.int .i64 I.aM);generalize w.setCell ⟨g,37,none⟩ _=W1 at R ey|-;clear HI bi bk f37 oK;have Kj:=R.lt;have az:W1.cell? ⟨g,23,none⟩=some (.slice c.y.Ai c.y.ins.length c.y.ci):=R.blk.cell 23;have aJ:W1.cell? ⟨g,37,none⟩=some (.int .i64 I.aM):=R.blk.cell 37;refine amP (aE:=?CV) [0,1,2,3,4,5,6,7,8,9] [11] 10 (fun b:Nat=>.slice (some ⟨b,0,none⟩) 1 1) ?Um (fun b w'=>Own Ce 2 137 w' W1.heap.size (.slice (some ⟨b,0,none⟩) 1 1) [⟨c.y.Ai,c.y.ci,c.y.ins,I.aM⟩]) (by kernel_rfl) (by kernel_rfl) rfl (by kernel_rfl) (by kernel_rfl) (by rfl) (by kernel_rfl) (by kernel_rfl) (by rfl) (by kernel_rfl) (by kernel_rfl) rfl rfl ?H1 ?S1 ?R1 ?Iu ?J1 ?M1
 case H1=>
  intro F hF u;simp only[M3.cD,arQ,arR,arS];have bB:=aP.dM (F:=F) (a:=⟨g,23,none⟩) (by exact Kj) az;have bE:=aP.dM (F:=F) (a:=⟨g,37,none⟩) (by exact Kj) aJ
  repeat(first|go_big_quiet_step(first|fail)|quiet_step(first|fail))
  refine wpQuiet_nil ?_;rfl
 case S1=>rfl
 case R1=>exact fun x w1 w2 hx M=>hx.aa M
 case Iu=>exact fun w2 n=>⟨w2.heap.size,w2.alloc (.cells #[.slice c.y.Ai c.y.ins.length c.y.ci,.int .i64 I.aM] 137),by go_simp,bD _ _,Own.lit (base:=W1.heap.size) OO w2 [⟨c.y.Ai,c.y.ci,c.y.ins,I.aM⟩] #[.slice c.y.Ai c.y.ins.length c.y.ci,.int .i64 I.aM] 137 rfl (by simp) n.size⟩
 case J1=>
  intro x F hF u;simp only[M3.cD,arQ,arR,arS]
  repeat(first|go_big_quiet_step(fail)|quiet_step(fail))
  refine wpQuiet_nil ?_;rfl
 case M1=>
  intro b w2 n Ie
  try simp only[Act.put,ar4,ar2,ar3]
  have ez:=R.aa n;have bn:w2.cell? ⟨g,19,none⟩=some (.slice c.p.Ae c.p.es.length c.p.ce):=ez.blk.cell 19;have aK:=Xd.out w2 ez.aW;have bo:=n.size;clear az aJ Xd;go_upto_region 4 with(at_builtin;(refine He (ys:=c.p.es) _ _ 48 _ 32 _ adP underlying48 Ie aK OO (by omega) rfl adQ (by simp;omega) (by omega) (by omega) (by rfl) (by rfl) (by rfl) (by rfl) (by rfl) ?_);intro v3 w3 Fc aN)
  simp only[List.cons_append,atk]at Fc;obtain⟨AJ,cJ,bp,aS,aU,_,_⟩:=Fc.kM OO;subst bp;have ad:Below W1.heap.size W1 w3:=n.trans (gU aN n.size (fun q hq=>(Ie.cm hq).1));have iD:=R.aa ad;have iW:=ey.trans (Mv.aW ad);have Gf:Hid (nw Ce 2 w3 g s.lv AJ (⟨c.y.Ai,c.y.ci,c.y.ins,I.aM⟩::c.p.es)):=nw.new aS aU R.lt (fun q hq=>(R.row q hq).2);clear R ey ez bn aK bo Ie Fc aN ad n aS aU;have z1:w3.cell? ⟨g,1,none⟩=some (.slice c.r.As I.r.aV.length c.r.cs):=by rw[<-nJ.out];exact iD.blk.cell 1
  go_wp2_with fail
  go_loopw [42] (fun i wr=>∃k:Nat,k<=I.r.aV.length/\i=.int .i64 k/\abk l g c s U I w3 k wr) (fun i _=>I.r.aV.length-(intOf i).toNat)
  case atStart=>exact⟨0,by omega,rfl,s.lv,by rw[Hj.out];simpa[aY.zT]using iD,Mv.refl _ _ _,fun x hx=>by simp at hx⟩
  case round=>
   rename World=>wr
   clear z1;obtain⟨k,hk,rfl,vl,N,hm,EA⟩:=hrel;have aZ:dI l g c (ER I s vl k) (U++I.zT (I.r.aV.take k)) wr:=N;have bq:=U1 (I:=I) (k:=k) hn (fun x hx=>(zZ.out x (ar6 hx) (EA.out x hx)).1);obtain⟨⟨v0,v1⟩,v2,v3⟩:=bq;by_cases D:k<I.r.aV.length
   ·obtain⟨sb,so,Dc,Hq,S⟩:=(pL.out wr N.aW).at_ D;have c0:=S 0 _ rfl;have c1:=S 1 _ rfl;have c2:=S 2 _ rfl;have c3:=S 3 _ rfl;have c4:=S 4 _ rfl;have c5:=S 5 _ rfl;have c6:=S 6 _ rfl;have c7:=S 7 _ rfl;simp only[arL]at c0;rw[Dc];have jM:=arO D;have eC:(k:Int)<(I.r.aV.length:Int):=(by omega);have a0:=Gf.out.mv hm;have a1:=arH (fun W A J M hS=>bh.out W A J M hS _ jM);have Pz:=arH (zZ.out _ jM);have a2:Hid (fO (gI I.r.aV[k] I.y.aM.length I.eh)=true->I.Ep=true):=fun O=>ads jM O;have a3:Hid (fO (gI I.r.aV[k] I.y.aM.length I.eh)=false->∀x∈I.r.aV.take (k+1),fO (gI x I.y.aM.length I.eh)=false):=fun O x hx=>by
     rw[ar9 D]at hx;rcases asf.1 hx with hx|hx
     ·exact EA.out x hx
     ·simp at hx;subst hx;exact O
    have oI:=arH (adq (I:=I) D);have pM:=arH (adr (I:=I) D);have IY:=arH (ajh (I:=I) D);have L6:=bl.out k;clear S jM EA;generalize I.r.aV[k]=x at*;have dA:=ah.new wr 123 #[.string x.code,.int .i64 x.aA,.int .i64 x.aT,.int .i64 x.floor,.int .i64 x.dt,.int .i64 x.unit,.int .i64 x.mode,.bool x.cA];have cP:=bD wr (.cells #[.string x.code,.int .i64 x.aA,.int .i64 x.aT,.int .i64 x.floor,.int .i64 x.dt,.int .i64 x.unit,.int .i64 x.mode,.bool x.cA] 123);have oH:vl.ownBlock≠some wr.heap.size:=fun e=>by have:=(N.row _ e).2;omega
    have K:wr.heap.size≠g:=(by have:=N.lt;omega);go_upto_region 7 with fail
    generalize wr.alloc (Obj.cells _ _)=W2 at dA cP|-;have ez:=N.aa cP;have jY:=hm.trans (Mv.aW cP);have a4:=a0.sl.aa cP;clear aZ N hm cP a0 c0 c1 c2 c3 c4 c5 c6 c7;generalize wr.heap.size=gs at*;obtain⟨z0,z1,z2,z3,z4,z5,z6,z7⟩:=dA.cz8;go_wp2_with fail;refine(a1.out W2 AJ cJ ez.aW a4).mono ?_;rintro e j ⟨A4,c4,rfl,dh,br,bs,T⟩;have gV:=ez.aa T;have kP:=jY.trans (Mv.aW T);have nH:=dA.aa T;clear ez jY a4 dA T a1 z0 z1 z2 z3 z4 z5 z6 z7;rcases O:fO (gI x I.y.aM.length I.eh)with _|_;rotate_left
    ·obtain⟨j1,j2⟩:=ajj O;rw[j1,j2];have ae:=gV.aW;have HE:Hid (JJ I=4):=(by rw[Hid,JJ,arK (a2.out O)]);go_wp2;go_ret;rw[HE.out];exact⟨rfl,ae,fun e=>by cases e⟩
    obtain⟨j1,rest,j2⟩:=aji O;rw[j1];rw[j2]at dh|-;have a5:=arH (a3.out O);obtain⟨⟨p0,p1⟩,p2,p3⟩:=Pz.out O;clear j1 j2 O a2 a3 Pz br;generalize I.dK x=lv at*;obtain⟨lb,lo,fY,I2,Km⟩:=dh.at_ (i:=0) (by simp);subst fY;have q0:=Km 0 _ rfl;have q1:=Km 1 _ rfl;have q2:=Km 2 _ rfl;simp only[asw,arL,List.getElem_cons_zero]at q0 q1 q2;simp only[arZ];generalize rest.length=nr;have L:=ah.new j 142 #[.int .i64 0,.int .i64 0,.int .i64 0];have E:=bD j (.cells #[.int .i64 0,.int .i64 0,.int .i64 0] 142);have a6:=(E.cell (p:=⟨lb,lo,none⟩) (by exact I2)).trans q0;have Ps:=(E.cell (p:=⟨lb,lo+1,none⟩) (by exact I2)).trans q1;have Pt:=(E.cell (p:=⟨lb,lo+2,none⟩) (by exact I2)).trans q2;have lC:j.heap.size≠g:=(by have:=gV.lt;omega);have TA:vl.ownBlock≠some j.heap.size:=fun e=>by have:=(gV.row _ e).2;omega
    have U2:j.heap.size≠lb:=(by omega);clear Km dh bs q0 q1 q2;go_upto_region 11 with fail
    generalize j.alloc (Obj.cells _ _)=W5 at L E a6 Ps Pt|-;obtain⟨b0,b1,b2⟩:=L.cz3;obtain⟨g0,g1,g2⟩:=L.fz3;have oF:(0:Int)<((nr+1:Nat):Int):=(by omega);go_upto_region 13 with fail
    have hR:=L.fill [.int .i64 lv.base,.int .i64 lv.aA,.int .i64 lv.aT] rfl;have aO:=LZ (B:=j.heap.size) (g:=j.heap.size) (arI _) [.int .i64 lv.base,.int .i64 lv.aA,.int .i64 lv.aT] 0 E;simp only[iK,arT,Nat.reduceAdd]at hR aO;generalize ((W5.setCell ⟨j.heap.size,0,none⟩ (.int .i64 lv.base)).setCell ⟨j.heap.size,1,none⟩ (.int .i64 lv.aA)).setCell ⟨j.heap.size,2,none⟩ (.int .i64 lv.aT)=W6 at hR aO|-;have jN:=gV.aa aO;have AE:=kP.trans (Mv.aW aO);have Nx:=nH.aa aO;clear L E aO a6 Ps Pt b0 b1 b2 g0 g1 g2 gV kP nH;have s0:W6.cell? ⟨gs,0,none⟩=some (.string x.code):=Nx.cell 0;have bt:W6.cell? ⟨j.heap.size,1,none⟩=some (.int .i64 lv.aA):=hR.cell 1;have bH:(ag 4 [⟨x.code,lv.aA⟩]).length<=1:=(by simp[ag];exact asi _ _);have bL:(ag 5 [⟨x.code,lv.aT⟩]).length<=1:=(by simp[ag];exact asi _ _);go_wp2_with fail;refine(J4 jN 4 x.code lv.aA (by simp;omega)).mono ?_;rintro e w7 ⟨rfl,v7,lU,G⟩;have af:=G.far Nx.lt oH;have ai:=G.far hR.lt TA;have Ny:=Nx.mv G K oH;have Xf:=hR.mv G lC TA;have Cu:=AE.trans G;clear jN AE G Nx hR s0 bt;have s0:w7.cell? ⟨gs,0,none⟩=some (.string x.code):=Ny.cell 0;have bu:w7.cell? ⟨j.heap.size,2,none⟩=some (.int .i64 lv.aT):=Xf.cell 2;go_wp2_with fail;refine(J4 lU 5 x.code lv.aT (by simp only[arV];omega)).mono ?_;rintro e w8 ⟨rfl,P,jq,G⟩;have al:=G.far Ny.lt af;have am:=G.far Xf.lt ai;have a7:=Ny.mv G K af;have Xg:=Xf.mv G lC ai;have NS:=Cu.trans G;rw[asH,asH,<-IY.out]at jq;clear lU Cu G Ny Xf s0 bu af ai;have Xh:dI l g c (ER I s P k) (U++I.zT (I.r.aV.take (k+1))) w8:=jq;clear jq;have a8:=Xh.lt;have a9:=Xg.lt;have LJ:w8.cell? ⟨g,33,none⟩=some (.int .i64 (s.left-I.jS (I.r.aV.take k))):=Xh.blk.cell 33;have V:w8.cell? ⟨j.heap.size,1,none⟩=some (.int .i64 lv.aA):=Xg.cell 1;go_upto_region 15 with fail
    refine UA (aE:=?ars) [0,1,2,3,4,5,6] 7 8 9 (.pointer (some ⟨g,0,none⟩)) (.pointer (some ⟨g,33,none⟩)) (by kernel_rfl) (by kernel_rfl) rfl (by kernel_rfl) (by rfl) (by kernel_rfl) (by kernel_rfl) (by kernel_rfl) (by kernel_rfl) rfl rfl rfl rfl rfl rfl rfl rfl ?H15 ?E15 ?G15 ?M15
    case H15=>
     intro F hF u;simp only[M3.cD,arQ,arR,arS];have LK:=aP.dM (F:=F) (a:=⟨g,33,none⟩) (by exact a8) LJ;have d1:=aP.dM (F:=F) (a:=⟨j.heap.size,1,none⟩) (by exact a9) V
     repeat(first|go_big_quiet_step(first|fail)|quiet_step(first|fail))
     refine wpQuiet_nil ?_;rfl
    case E15=>exact fun _=>by first|rfl|go_simp
    case G15=>exact fun _=>by first|rfl|go_simp
    case M15=>
     intro Pr TB
     try simp only[Act.put,ar4]
     have z:=Xh.aa TB;have X:=NS.trans (Mv.aW TB);have Y:=a7.aa TB;have Z:=Xg.aa TB;have LK:Pr.cell? ⟨g,33,none⟩=some (.int .i64 (s.left-I.jS (I.r.aV.take k))):=z.blk.cell 33;have f33:=z.blk.frozen 33;refine⟨Pr.setCell ⟨g,33,none⟩ (.int .i64 (s.left-I.jS (I.r.aV.take k)-lv.aA)),by go_simp,?_⟩;have TC:=z.UB (s.left-I.jS (I.r.aV.take k)-lv.aA);have C:=Mv.set (w:=Pr) (v:=P) (g:=g) 33 (.int .i64 (s.left-I.jS (I.r.aV.take k)-lv.aA));have an:=X.trans C;have ao:=Y.mv C K al;have TD:=Z.mv C lC am;generalize Pr.setCell ⟨g,33,none⟩ (.int .i64 (s.left-I.jS (I.r.aV.take k)-lv.aA))=pV at TC an ao TD|-;clear z X Y Z LK f33 C Xh NS a7 Xg LJ V a8 a9 TB;have ba:=TC.lt;have bb:=TD.lt;have TE:pV.cell? ⟨g,38,none⟩=some (.int .i64 (I.jS (I.r.aV.take k))):=TC.blk.cell 38;have V:pV.cell? ⟨j.heap.size,1,none⟩=some (.int .i64 lv.aA):=TD.cell 1;go_upto_region 16 with fail
     refine UA (aE:=?art) [0,1,2,3,4,5,6] 7 8 9 (.pointer (some ⟨g,0,none⟩)) (.pointer (some ⟨g,38,none⟩)) (by kernel_rfl) (by kernel_rfl) rfl (by kernel_rfl) (by rfl) (by kernel_rfl) (by kernel_rfl) (by kernel_rfl) (by kernel_rfl) rfl rfl rfl rfl rfl rfl rfl rfl ?H16 ?E16 ?G16 ?M16
     case H16=>
      intro F hF u;simp only[M3.cD,arQ,arR,arS];have bc:=aP.dM (F:=F) (a:=⟨g,38,none⟩) (by exact ba) TE;have d1:=aP.dM (F:=F) (a:=⟨j.heap.size,1,none⟩) (by exact bb) V
      repeat(first|go_big_quiet_step(first|fail)|quiet_step(first|fail))
      refine wpQuiet_nil ?_;rfl
     case E16=>exact fun _=>by first|rfl|go_simp
     case G16=>exact fun _=>by first|rfl|go_simp
     case M16=>
      intro Nv TF
      try simp only[Act.put,ar4]
      have z:=TC.aa TF;have X:=an.trans (Mv.aW TF);have Y:=ao.aa TF;have Z:=TD.aa TF;have bc:Nv.cell? ⟨g,38,none⟩=some (.int .i64 (I.jS (I.r.aV.take k))):=z.blk.cell 38;have f38:=z.blk.frozen 38;refine⟨Nv.setCell ⟨g,38,none⟩ (.int .i64 (I.jS (I.r.aV.take k)+lv.aA)),by go_simp,?_⟩;have Nz:=z.amL (I.jS (I.r.aV.take k)+lv.aA);have C:=Mv.set (w:=Nv) (v:=P) (g:=g) 38 (.int .i64 (I.jS (I.r.aV.take k)+lv.aA));have Xi:=X.trans C;have Xj:=Y.mv C K al;have TG:=Z.mv C lC am;generalize Nv.setCell ⟨g,38,none⟩ (.int .i64 (I.jS (I.r.aV.take k)+lv.aA))=FH at Nz Xi Xj TG|-;clear z X Y Z bc f38 C TC an ao TD TE V ba bb TF;have s7:FH.cell? ⟨gs,7,none⟩=some (.bool x.cA):=Xj.cell 7;rcases Db:x.cA with _|_
      ·rw[Db]at s7 pM;have TH:Hid (({({(ER I s P k)with left:=s.left-I.jS (I.r.aV.take k)-lv.aA}:jD)with bj:=I.jS (I.r.aV.take k)+lv.aA}:jD)=ER I s P (k+1)):=by
        unfold ER;rw[Hid,oI.out,pM.out];simp[Int.sub_sub]
       rw[TH.out]at Nz;go_wp2;go_roundw
       case rel=>
        have ay:∃k':Nat,k'<=I.r.aV.length/\Value.int .i64 ((k:Int)+1)=.int .i64 k'/\abk l g c s U I w3 k' FH:=⟨k+1,by omega,by go_num,P,Nz,Xi,a5.out⟩
        first|exact ay|((repeat apply Exists.intro);exact⟨ay,rfl,rfl,rfl,rfl,rfl,rfl⟩)|((repeat apply Exists.intro);exact⟨ay,rfl⟩)
       case measure=>simp[intOf];omega
      ·rw[Db]at s7 pM;have TH:Hid (({({({(ER I s P k)with left:=s.left-I.jS (I.r.aV.take k)-lv.aA}:jD)with bj:=I.jS (I.r.aV.take k)+lv.aA}:jD)with pS:=I.jT (I.r.aV.take k)+lv.aA}:jD)=ER I s P (k+1)):=by
        unfold ER;rw[Hid,oI.out,pM.out];simp[Int.sub_sub]
       have bd:=Nz.lt;have be:=TG.lt;have Tw:FH.cell? ⟨g,39,none⟩=some (.int .i64 (I.jT (I.r.aV.take k))):=Nz.blk.cell 39;have V:FH.cell? ⟨j.heap.size,1,none⟩=some (.int .i64 lv.aA):=TG.cell 1;go_upto_region 18 with fail
       refine UA (aE:=?aru) [0,1,2,3,4,5,6] 7 8 9 (.pointer (some ⟨g,0,none⟩)) (.pointer (some ⟨g,39,none⟩)) (by kernel_rfl) (by kernel_rfl) rfl (by kernel_rfl) (by rfl) (by kernel_rfl) (by kernel_rfl) (by kernel_rfl) (by kernel_rfl) rfl rfl rfl rfl rfl rfl rfl rfl ?H18 ?E18 ?G18 ?M18
       case H18=>
        intro F hF u;simp only[M3.cD,arQ,arR,arS];have bf:=aP.dM (F:=F) (a:=⟨g,39,none⟩) (by exact bd) Tw;have d1:=aP.dM (F:=F) (a:=⟨j.heap.size,1,none⟩) (by exact be) V
        repeat(first|go_big_quiet_step(first|fail)|quiet_step(first|fail))
        refine wpQuiet_nil ?_;rfl
       case E18=>exact fun _=>by first|rfl|go_simp
       case G18=>exact fun _=>by first|rfl|go_simp
       case M18=>
        intro Nw TI
        try simp only[Act.put,ar4]
        have z:=Nz.aa TI;have X:=Xi.trans (Mv.aW TI);have Y:=Xj.aa TI;have Z:=TG.aa TI;have bf:Nw.cell? ⟨g,39,none⟩=some (.int .i64 (I.jT (I.r.aV.take k))):=z.blk.cell 39;have f39:=z.blk.frozen 39;refine⟨Nw.setCell ⟨g,39,none⟩ (.int .i64 (I.jT (I.r.aV.take k)+lv.aA)),by go_simp,?_⟩;have ap:=z.amM (I.jT (I.r.aV.take k)+lv.aA);have C:=Mv.set (w:=Nw) (v:=P) (g:=g) 39 (.int .i64 (I.jT (I.r.aV.take k)+lv.aA));have bg:=X.trans C;have bv:=Y.mv C K al;have bx:=Z.mv C lC am;generalize Nw.setCell ⟨g,39,none⟩ (.int .i64 (I.jT (I.r.aV.take k)+lv.aA))=Pn at ap bg bv bx|-;clear z X Y Z bf f39 C Nz Xi Xj TG Tw V bd be TI;rw[TH.out]at ap;go_wp2;go_roundw
        case rel=>
         have ay:∃k':Nat,k'<=I.r.aV.length/\Value.int .i64 ((k:Int)+1)=.int .i64 k'/\abk l g c s U I w3 k' Pn:=⟨k+1,by omega,by go_num,P,ap,bg,a5.out⟩
         first|exact ay|((repeat apply Exists.intro);exact⟨ay,rfl,rfl,rfl,rfl,rfl,rfl⟩)|((repeat apply Exists.intro);exact⟨ay,rfl⟩)
        case measure=>simp[intOf];omega
   ·obtain rfl:k=I.r.aV.length:=by omega
    rw[asp]at N EA;have HE:Hid (JJ I=0):=(by rw[Hid,JJ,arJ (by rw[Y6 EA.out];simp)]);have hS:ER I s vl I.r.aV.length={s with aM:=I.aM,lv:=vl,left:=s.left-I.bj,bj:=I.bj,pS:=I.jT I.r.aV}:=by unfold ER aY.bj;rw[asp]
    rw[hS]at N;have RR:=iW.trans hm;clear aZ hS hm iW iD;go_wp2;go_ret;rw[HE.out];exact⟨rfl,N.aW,fun _=>⟨vl,N,RR⟩⟩
open Go.RowKit Go.Sort Go.Shelf
def PQ(x y:Elem):Int:=Dd x.code y.code
instance instInhElemW:Inhabited Elem:=⟨⟨⟨#[]⟩,0⟩⟩
theorem Xk(x y:Elem):ltOf PQ x y=ju x y:=by
 unfold ltOf PQ Dd ju;split
 ·rename_i h;simp[h]
 ·rename_i h;have e:Op.bytesLess x.code.toList y.code.toList=false:=by simpa using h
  split<;>simp[e]
theorem aoO:SWO (ltOf PQ) where
 irrefl x:=by rw[Xk,ju,B2];simp
 trans x y z e j:=by rw[Xk,ju,B2]at*;simp only[ar7]at*;exact List.lt_trans e j
 ntrans x y z e j:=by rw[Xk,ju,B2]at*;simp only[asF,asM]at*;exact List.le_trans j e
theorem aoP(x y:Elem)(W:World):Calls prog 194 #[.agg #[.string x.code,.int .i64 x.amount],.agg #[.string y.code,.int .i64 y.amount]] W fun e w'=>e=.returned (.int .i64 (PQ x y))/\∃q j,w'=grow (W.drewN q) j:=by go_enter func194,ntmps194;go_wp2_with(go_at_call 85;refine(UC _ _ _).mono ?_;rintro e w' ⟨rfl,rfl⟩);go_ret;exact⟨rfl,0,_,by rw[alloc_eq_grow,alloc_eq_grow,grow_grow];rfl⟩
theorem aoQ(w:World)(j l n:Nat)(d:Array Elem)(os:Array Obj):w.grownBy (sortWorldK aQ 2 w j l n d os) (some j):=by
 refine⟨rfl,rfl,rfl,size_sortWorldK_c aQ 2 w j l n d os,fun i hi p=>?_⟩;have r:j≠i:=fun e=>p (by rw[e]);have u:(putRowK aQ 2 (Sort.ahead w n) j l d).heap.size=w.heap.size:=by simp[putRowK,putRow,mapBlock,Sort.ahead]
 show((putRowK aQ 2 (Sort.ahead w n) j l d).heap++os)[i]?=w.heap[i]?;rw[atu (by omega)];show(w.heap.modify j _)[i]?=_;rw[as5,arJ r]
theorem al6(A:Option Addr)(r base:Nat)(l:List Elem)(w:World)(E:Own aQ 2 69 w base (.slice A l.length r) l)(S:l.length<4611686018427387904):
  Calls prog 170 #[.slice A l.length r,.func (.func 194) #[] #[]] w fun e w'=>e=.returned (.tuple #[])/\
   ∃G:List Elem,G.Perm l/\G.Pairwise (fun a b=>ju b a=false)/\aj aQ 2 w' w'.heap.size A G/\Below base w w':=by
 rcases E.2 with⟨I,T⟩|⟨g,P,J,I,hb,K,hn,hm,hs,U⟩
 ·injection I with p V Q
  obtain rfl:l=[]:=atb T;have z:=AnyF.slices_SortFunc_none {Tryz.UD with} A r (.func (.func 194) #[] #[]) w;refine arP z fun e w' ⟨L,X⟩=>⟨L,[],List.Perm.refl _,List.Pairwise.nil,aj.cL,by rw[X];exact arM _ _⟩
 ·injection I with p V Q
  subst p Q;have M:=(as1.1 K).1;have Y:∀args w,(callFunc 194 args).run prog w=.ok (.enter 194 args) w:=enters_of func194 (by kernel_rfl) rfl;have Z:CmpLays prog 194 #[] aQ 2 PQ g 0 l.toArray.size w:=fun _ _ _ _ x y=>aoP x y _;have R:HoldsK aQ 2 w g 0 l.toArray:=by
   intro j D;rw[size_flatK]at D;simp only[List.size_toArray]at D;have C:j/2<l.length:=(by omega);have D9:j%2<2:=Nat.mod_lt _ (by omega);refine⟨?_,by simp[World.frozen?,K]⟩;rw[get_flatK _ _ _ _ (by simpa using D),arT,cell_of_row w g j J _ (0,0) K];have N:l.toArray[j/2]! =l[j/2]:=(by simp[C]);rw[N];have hu:(aQ l[j/2])[j%2]?=some ((aQ l[j/2])[j%2]!):=by have B:j%2<(aQ l[j/2]).length:=(by rw[dB];exact D9);rw[arW B,asl (aQ l[j/2]) (j%2) B]
   have p:=G4 dB l (j/2) (j%2) _ _ (arW C) hu;rw[show j/2*2+j%2=j by omega]at p;rw[<-U,as3,arK (by omega)]at p;simpa using p
  have z:=AnyQ.slices_SortFunc Tryz.UD 2 Tryz.isAgg69 Tryz.sizeOf69 aQ dB kO PQ aoO 194 #[] g 0 r l.toArray w Y Z R M (by simpa using S);have L8:Calls prog 170 #[.slice (some ⟨g,0,none⟩) l.length r,.func (.func 194) #[] #[]] w _:=z;refine L8.mono ?_;rintro e w' ⟨L,d',n,os,hp,oD,rfl⟩;obtain⟨F,UF,O⟩:=hp;refine⟨L,d'.toList,?_,?_,?_,gU (aoQ _ _ _ _ _ _) (by omega) (fun q e=>by injection e;omega)⟩
  ·have e1:l.toArray.size=l.length:=(by simp);rw[e1]at F O;have e2:(d'.extract 0 l.length)=d':=(by rw[<-F];simp);have e3:(l.toArray.extract 0 l.length)=l.toArray:=(by simp);rw[e2,e3]at O;exact O
  ·rw[asz];intro i j hi D Eh;have p:=oD i j (Nat.zero_le _) Eh (by rw[<-F];simpa using D);rw[Xk,asl d' i (by simpa using hi),asl d' j (by simpa using D)]at p;simpa using p
  ·intro _;refine⟨g,0,rfl,lt_sortWorldK aQ 2 w g 0 n d' os M,fun i x hi j u hu=>?_⟩;have L9:=holdsK_sortWorldK_c aQ 2 w g 0 l.toArray d' n os R M F;have B4:i<d'.size:=(by simpa using(ase.1 hi).1);have o7:j<2:=(by have:=(ase.1 hu).1;rwa [dB]at this);have p:=(L9 (i*2+j) (by rw[size_flatK];omega)).1;rw[get_flatK _ _ _ _ (by omega),show(i*2+j)/2=i by omega,show(i*2+j)%2=j by omega,asl d' i B4]at p;have N:d'[i]=x:=by
    have:=(ase.1 hi).2;simpa using this
   rw[N]at p;have Ei:(aQ x)[j]! =u:=by have B:=(ase.1 hu).1;rw[asl (aQ x) j B];exact(ase.1 hu).2
   rw[Ei]at p;rw[arT];rw[arT]at p;exact p
