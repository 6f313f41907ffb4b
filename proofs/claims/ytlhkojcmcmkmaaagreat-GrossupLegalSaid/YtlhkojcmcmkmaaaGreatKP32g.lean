/- Conditions: as stated. -/
import Derived.Test.YtlhkojcmcmkmaaaGreatKP28d
set_option maxRecDepth 100000
set_option maxHeartbeats 8000000
namespace Go.Proofs.YtlhkojcmcmkmaaaGreat
open Go.Proofs.Tryz
open Go.RowKit
def aop(j:World)(g:Nat)(c:mz)(s:jn)(l:List dE)(I:aY)(w w':World):Prop:=
 ∃e,dF j g c {s with aF:=I.aF,lv:=e,left:=s.left-I.bj,bj:=I.bj,px:=I.jH I.r.aW} (l++I.zf I.r.aW) w'/\Mv g s.lv w e w'
def Jl(I:aY):Int:=if I.DR=true then 4 else 0
def El(I:aY)(s:jn)(v:Value)(k:Nat):jn:={s with aF:=I.aF,lv:=v,left:=s.left-I.jG (I.r.aW.take k),bj:=I.jG (I.r.aW.take k),px:=I.jH (I.r.aW.take k)}
def aaX(j:World)(g:Nat)(c:mz)(s:jn)(l:List dE)(I:aY)(w3:World)(k:Nat)(wr:World):Prop:=
 ∃e,dF j g c (El I s e k) (l++I.zf (I.r.aW.take k)) wr/\Mv g s.lv w3 e wr/\Hid (∀x∈I.r.aW.take k,fG (gw x I.y.aF.length I.ed)=false)
theorem aoq{l:World}{g:Nat}{c:mz}{s:jn}{U:List dE}{w:World}(h:dF l g c s U w)(hr:c.r.In l)(hp:c.p.In l)(hy:c.y.In l)(I:aY)(D2:c.r.ss=I.r.aW)(Q:I.ed=(⟨c.y.Ai,c.y.ci,c.y.ins,I.aF⟩::c.p.es:List cM).map cM.v)
  (iR:I.aF=max s.b.i 0) (_UA:I.aF<=1000000000) (ab:∀x∈I.r.aW,mA x) (hn:I.r.aW.length<=12) (Oe:DA I.y.aF.length I.ed)
  (ay:∀x∈I.r.aW,fG (gw x I.y.aF.length I.ed)=false->(0<=(I.dH x).az/\(I.dH x).az<=1000000000)/\0<=(I.dH x).aS/\(I.dH x).aS<=1000000000)
  (Cp:U.length<=1000) (l0:-100000000000<=s.left) (l1:s.left<=100000000000) (aA:s.bj=0) (B1:s.px=0):
  Calls prog 54 #[.pointer (some ⟨g,0,none⟩)] w (Lh l (Jl I) (aop l g c s U I w)):=by
 have BC:=aq6 ay;have bC:=aq6 ab;have bE:c.p.es.length<=7:=by have:=Oe.len;rw[Q]at this;simp at this;omega
 have AO:Hid (∀W,Below l.heap.size l W->aj EO 8 W W.heap.size c.r.As I.r.aW):=fun W M=>by rw[<-D2];exact(hr.aa M).ss
 have Wq:Hid (∀W,Below l.heap.size l W->aj AL 2 W W.heap.size c.p.Ae c.p.es):=fun W M=>(hp.aa M).es;have bi:Hid (∀W A J,Below l.heap.size l W->aj AL 2 W W.heap.size A (⟨c.y.Ai,c.y.ci,c.y.ins,I.aF⟩::c.p.es)->∀x∈I.r.aW,Calls prog 107 #[.agg #[.string x.code,.int .i64 x.az,.int .i64 x.aS,.int .i64 x.floor,.int .i64 x.dw,.int .i64 x.unit,.int .i64 x.mode,.bool x.cA],.slice A (c.p.es.length+1) J] W (BB (o7 x I.y.aF.length I.ed) (zK x I.y.aF.length I.ed) W)):=fun W A J M hS x hx=>by
  have:=anx x A J I.y.aF.length _ W hS (fun e he=>by
   rcases arF.1 he with rfl|he
   ·exact(hy.aa M).ins
   ·exact(hp.aa M).ins e he) (ab x hx) (by rw[<-Q];exact Oe)
  rw[<-Q]at this;exact this
 have HI:=aq6 h;have bl:w.cell? ⟨g,30,none⟩=some (.int .i64 s.b.i):=h.blk.cell 30;have bm:w.cell? ⟨g,37,none⟩=some (.int .i64 s.aF):=h.blk.cell 37;have f37:=h.blk.frozen 37;have oq:Hid (max s.b.i 0=I.aF):=iR.symm;have bn:Hid (∀k,(I.zf (I.r.aW.take k)).length<=24):=fun k=>by have h1:=(I.aaw (I.r.aW.take k)).length_eq;have h2:=arJ nz (I.gL (I.r.aW.take k));have h3:=arJ nz (I.gZ (I.r.aW.take k));simp only[ag,aY.gL,aY.gZ,arl,arV,ar7]at h1 h2 h3;omega
 have nc:=aq6 D2;have GU:Hid (∀v,El I s v 0={s with aF:=I.aF,lv:=v}):=fun v=>by unfold El;simp[aY.jG,aY.jH,aC,aA,B1]
 clear h hr hp hy Q iR ab Oe ay aA B1 D2;go_enter func54,ntmps54;go_upto_region 2 with fail
 rw[oq.out];have R:=HI.out.amo I.aF;have eF:=Mv.set (w:=w) (v:=s.lv) (g:=g) 37 (.int .i64 I.aF);generalize w.setCell ⟨g,37,none⟩ _=W1 at R eF|-;clear HI bl bm f37 oq;have JX:=R.lt;have aD:W1.cell? ⟨g,23,none⟩=some (.slice c.y.Ai c.y.ins.length c.y.ci):=R.blk.cell 23;have aJ:W1.cell? ⟨g,37,none⟩=some (.int .i64 I.aF):=R.blk.cell 37;refine amu (aE:=?Co) [0,1,2,3,4,5,6,7,8,9] [11] 10 (fun b:Nat=>.slice (some ⟨b,0,none⟩) 1 1) ?TS (fun b w'=>Own AL 2 137 w' W1.heap.size (.slice (some ⟨b,0,none⟩) 1 1) [⟨c.y.Ai,c.y.ci,c.y.ins,I.aF⟩]) (by kernel_rfl) (by kernel_rfl) rfl (by kernel_rfl) (by kernel_rfl) (by rfl) (by kernel_rfl) (by kernel_rfl) (by rfl) (by kernel_rfl) (by kernel_rfl) rfl rfl ?H1 ?S1 ?R1 ?Ho ?J1 ?M1
 case H1=>
  intro F hF u;simp only[M3.cL,arh,ari,arj];have bJ:=aR.dL (F:=F) (a:=⟨g,23,none⟩) (by exact JX) aD;have bM:=aR.dL (F:=F) (a:=⟨g,37,none⟩) (by exact JX) aJ
  repeat(first|go_big_quiet_step(first|fail)|quiet_step(first|fail))
  refine wpQuiet_nil ?_;rfl
 case S1=>rfl
 case R1=>exact fun x w1 w2 hx M=>hx.aa M
 case Ho=>exact fun w2 n=>⟨w2.heap.size,w2.alloc (.cells #[.slice c.y.Ai c.y.ins.length c.y.ci,.int .i64 I.aF] 137),by go_simp,bF _ _,Own.lit (base:=W1.heap.size) Oh w2 [⟨c.y.Ai,c.y.ci,c.y.ins,I.aF⟩] #[.slice c.y.Ai c.y.ins.length c.y.ci,.int .i64 I.aF] 137 rfl (by simp) n.size⟩
 case J1=>
  intro x F hF u;simp only[M3.cL,arh,ari,arj]
  repeat(first|go_big_quiet_step(fail)|quiet_step(fail))
  refine wpQuiet_nil ?_;rfl
 case M1=>
  intro b w2 n Hd
  try simp only[Act.put,ary,arv,arx]
  have eZ:=R.aa n;have bo:w2.cell? ⟨g,19,none⟩=some (.slice c.p.Ae c.p.es.length c.p.ce):=eZ.blk.cell 19;have aO:=Wq.out w2 eZ.aU;have bp:=n.size;clear aD aJ Wq;go_upto_region 4 with(at_builtin;(refine FE (ys:=c.p.es) _ _ 48 _ 32 _ adB underlying48 Hd aO Oh (by omega) rfl adC (by simp;omega) (by omega) (by omega) (by rfl) (by rfl) (by rfl) (by rfl) (by rfl) ?_);intro v3 w3 EC aT)
  simp only[List.cons_append,asM]at EC;obtain⟨AJ,cJ,bq,aV,aZ,_,_⟩:=EC.kE Oh;subst bq;have ad:Below W1.heap.size W1 w3:=n.trans (gI aT n.size (fun q hq=>(Hd.cg hq).1));have jY:=R.aa ad;have iI:=eF.trans (Mv.aU ad);have FI:Hid (mQ AL 2 w3 g s.lv AJ (⟨c.y.Ai,c.y.ci,c.y.ins,I.aF⟩::c.p.es)):=mQ.new aV aZ R.lt (fun q hq=>(R.row q hq).2);clear R eF eZ bo aO bp Hd EC aT ad n aV aZ;have z1:w3.cell? ⟨g,1,none⟩=some (.slice c.r.As I.r.aW.length c.r.cs):=by rw[<-nc.out];exact jY.blk.cell 1
  go_wp2_with fail
  go_loopw [42] (fun i wr=>∃k:Nat,k<=I.r.aW.length/\i=.int .i64 k/\aaX l g c s U I w3 k wr) (fun i _=>I.r.aW.length-(intOf i).toNat)
  case atStart=>exact⟨0,by omega,rfl,s.lv,by rw[GU.out];simpa[aY.zf]using jY,Mv.refl _ _ _,fun x hx=>by simp at hx⟩
  case round=>
   rename World=>wr
   clear z1;obtain⟨k,hk,rfl,vl,N,hm,D3⟩:=hrel;have a0:dF l g c (El I s vl k) (U++I.zf (I.r.aW.take k)) wr:=N;have br:=Uv (I:=I) (k:=k) hn (fun x hx=>(BC.out x (arD hx) (D3.out x hx)).1);obtain⟨⟨v0,v1⟩,v2,v3⟩:=br;by_cases D:k<I.r.aW.length
   ·obtain⟨sb,so,Cz,G2,S⟩:=(AO.out wr N.aU).at_ D;have c0:=S 0 _ rfl;have c1:=S 1 _ rfl;have c2:=S 2 _ rfl;have c3:=S 3 _ rfl;have c4:=S 4 _ rfl;have c5:=S 5 _ rfl;have c6:=S 6 _ rfl;have c7:=S 7 _ rfl;simp only[ara]at c0;rw[Cz];have jA:=arc D;have gK:(k:Int)<(I.r.aW.length:Int):=(by omega);have a1:=FI.out.mv hm;have a2:=aq6 (fun W A J M hS=>bi.out W A J M hS _ jA);have O6:=aq6 (BC.out _ jA);have a3:Hid (fG (gw I.r.aW[k] I.y.aF.length I.ed)=true->I.DR=true):=fun O=>ada jA O;have a4:Hid (fG (gw I.r.aW[k] I.y.aF.length I.ed)=false->∀x∈I.r.aW.take (k+1),fG (gw x I.y.aF.length I.ed)=false):=fun O x hx=>by
     rw[arA D]at hx;rcases arE.1 hx with hx|hx
     ·exact D3.out x hx
     ·simp at hx;subst hx;exact O
    have od:=aq6 (ac8 (I:=I) D);have pg:=aq6 (ac9 (I:=I) D);have Ir:=aq6 (ai1 (I:=I) D);have LA:=bn.out k;clear S jA D3;generalize I.r.aW[k]=x at*;have dB:=ah.new wr 123 #[.string x.code,.int .i64 x.az,.int .i64 x.aS,.int .i64 x.floor,.int .i64 x.dw,.int .i64 x.unit,.int .i64 x.mode,.bool x.cA];have cT:=bF wr (.cells #[.string x.code,.int .i64 x.az,.int .i64 x.aS,.int .i64 x.floor,.int .i64 x.dw,.int .i64 x.unit,.int .i64 x.mode,.bool x.cA] 123);have nZ:vl.ownBlock≠some wr.heap.size:=fun e=>by have:=(N.row _ e).2;omega
    have K:wr.heap.size≠g:=(by have:=N.lt;omega);go_upto_region 7 with fail
    generalize wr.alloc (Obj.cells _ _)=W2 at dB cT|-;have eZ:=N.aa cT;have jO:=hm.trans (Mv.aU cT);have a5:=a1.sl.aa cT;clear a0 N hm cT a1 c0 c1 c2 c3 c4 c5 c6 c7;generalize wr.heap.size=gs at*;obtain⟨z0,z1,z2,z3,z4,z5,z6,z7⟩:=dB.cz8;go_wp2_with fail;refine(a2.out W2 AJ cJ eZ.aU a5).mono ?_;rintro e j ⟨A4,c4,rfl,df,bs,bt,T⟩;have lD:=eZ.aa T;have kG:=jO.trans (Mv.aU T);have mY:=dB.aa T;clear eZ jO a5 dB T a2 z0 z1 z2 z3 z4 z5 z6 z7;rcases O:fG (gw x I.y.aF.length I.ed)with _|_;rotate_left
    ·obtain⟨j1,j2⟩:=ai3 O;rw[j1,j2];have ae:=lD.aU;have HE:Hid (Jl I=4):=(by rw[Hid,Jl,aq9 (a3.out O)]);go_wp2;go_ret;rw[HE.out];exact⟨rfl,ae,fun e=>by cases e⟩
    obtain⟨j1,rest,j2⟩:=ai2 O;rw[j1];rw[j2]at df|-;have a6:=aq6 (a4.out O);obtain⟨⟨p0,p1⟩,p2,p3⟩:=O6.out O;clear j1 j2 O a3 a4 O6 bs;generalize I.dH x=lv at*;obtain⟨lb,lo,fQ,Iz,II⟩:=df.at_ (i:=0) (by simp);subst fQ;have q0:=II 0 _ rfl;have q1:=II 1 _ rfl;have q2:=II 2 _ rfl;simp only[arT,ara,List.getElem_cons_zero]at q0 q1 q2;simp only[ars];generalize rest.length=nr;have L:=ah.new j 142 #[.int .i64 0,.int .i64 0,.int .i64 0];have E:=bF j (.cells #[.int .i64 0,.int .i64 0,.int .i64 0] 142);have a7:=(E.cell (p:=⟨lb,lo,none⟩) (by exact Iz)).trans q0;have OZ:=(E.cell (p:=⟨lb,lo+1,none⟩) (by exact Iz)).trans q1;have O0:=(E.cell (p:=⟨lb,lo+2,none⟩) (by exact Iz)).trans q2;have kY:j.heap.size≠g:=(by have:=lD.lt;omega);have SM:vl.ownBlock≠some j.heap.size:=fun e=>by have:=(lD.row _ e).2;omega
    have Uw:j.heap.size≠lb:=(by omega);clear II df bt q0 q1 q2;go_upto_region 11 with fail
    generalize j.alloc (Obj.cells _ _)=W5 at L E a7 OZ O0|-;obtain⟨b0,b1,b2⟩:=L.cz3;obtain⟨g0,g1,g2⟩:=L.fz3;have nX:(0:Int)<((nr+1:Nat):Int):=(by omega);go_upto_region 13 with fail
    have hR:=L.fill [.int .i64 lv.base,.int .i64 lv.az,.int .i64 lv.aS] rfl;have aP:=Ls (B:=j.heap.size) (g:=j.heap.size) (aq7 _) [.int .i64 lv.base,.int .i64 lv.az,.int .i64 lv.aS] 0 E;simp only[iq,ark,Nat.reduceAdd]at hR aP;generalize ((W5.setCell ⟨j.heap.size,0,none⟩ (.int .i64 lv.base)).setCell ⟨j.heap.size,1,none⟩ (.int .i64 lv.az)).setCell ⟨j.heap.size,2,none⟩ (.int .i64 lv.aS)=W6 at hR aP|-;have oG:=lD.aa aP;have zI:=kG.trans (Mv.aU aP);have MI:=mY.aa aP;clear L E aP a7 OZ O0 b0 b1 b2 g0 g1 g2 lD kG mY;have s0:W6.cell? ⟨gs,0,none⟩=some (.string x.code):=MI.cell 0;have bu:W6.cell? ⟨j.heap.size,1,none⟩=some (.int .i64 lv.az):=hR.cell 1;have bN:(ag 4 [⟨x.code,lv.az⟩]).length<=1:=(by simp[ag];exact arJ _ _);have bO:(ag 5 [⟨x.code,lv.aS⟩]).length<=1:=(by simp[ag];exact arJ _ _);go_wp2_with fail;refine(JH oG 4 x.code lv.az (by simp;omega)).mono ?_;rintro e w7 ⟨rfl,v7,Hp,G⟩;have af:=G.far MI.lt nZ;have ai:=G.far hR.lt SM;have MJ:=MI.mv G K nZ;have Wt:=hR.mv G kY SM;have BS:=zI.trans G;clear oG zI G MI hR s0 bu;have s0:w7.cell? ⟨gs,0,none⟩=some (.string x.code):=MJ.cell 0;have bv:w7.cell? ⟨j.heap.size,2,none⟩=some (.int .i64 lv.aS):=Wt.cell 2;go_wp2_with fail;refine(JH Hp 5 x.code lv.aS (by simp only[arl];omega)).mono ?_;rintro e w8 ⟨rfl,P,Nq,G⟩;have al:=G.far MJ.lt af;have am:=G.far Wt.lt ai;have a8:=MJ.mv G K af;have Wu:=Wt.mv G kY ai;have Nr:=BS.trans G;rw[ar6,ar6,<-Ir.out]at Nq;clear Hp BS G MJ Wt s0 bv af ai;have Wv:dF l g c (El I s P k) (U++I.zf (I.r.aW.take (k+1))) w8:=Nq;clear Nq;have a9:=Wv.lt;have ba:=Wu.lt;have Lf:w8.cell? ⟨g,33,none⟩=some (.int .i64 (s.left-I.jG (I.r.aW.take k))):=Wv.blk.cell 33;have V:w8.cell? ⟨j.heap.size,1,none⟩=some (.int .i64 lv.az):=Wu.cell 1;go_upto_region 15 with fail
    refine T7 (aE:=?aqU) [0,1,2,3,4,5,6] 7 8 9 (.pointer (some ⟨g,0,none⟩)) (.pointer (some ⟨g,33,none⟩)) (by kernel_rfl) (by kernel_rfl) rfl (by kernel_rfl) (by rfl) (by kernel_rfl) (by kernel_rfl) (by kernel_rfl) (by kernel_rfl) rfl rfl rfl rfl rfl rfl rfl rfl ?H15 ?E15 ?G15 ?M15
    case H15=>
     intro F hF u;simp only[M3.cL,arh,ari,arj];have Lg:=aR.dL (F:=F) (a:=⟨g,33,none⟩) (by exact a9) Lf;have d1:=aR.dL (F:=F) (a:=⟨j.heap.size,1,none⟩) (by exact ba) V
     repeat(first|go_big_quiet_step(first|fail)|quiet_step(first|fail))
     refine wpQuiet_nil ?_;rfl
    case E15=>exact fun _=>by first|rfl|go_simp
    case G15=>exact fun _=>by first|rfl|go_simp
    case M15=>
     intro OY SN
     try simp only[Act.put,ary]
     have z:=Wv.aa SN;have X:=Nr.trans (Mv.aU SN);have Y:=a8.aa SN;have Z:=Wu.aa SN;have Lg:OY.cell? ⟨g,33,none⟩=some (.int .i64 (s.left-I.jG (I.r.aW.take k))):=z.blk.cell 33;have f33:=z.blk.frozen 33;refine⟨OY.setCell ⟨g,33,none⟩ (.int .i64 (s.left-I.jG (I.r.aW.take k)-lv.az)),by go_simp,?_⟩;have SP:=z.T8 (s.left-I.jG (I.r.aW.take k)-lv.az);have C:=Mv.set (w:=OY) (v:=P) (g:=g) 33 (.int .i64 (s.left-I.jG (I.r.aW.take k)-lv.az));have an:=X.trans C;have ao:=Y.mv C K al;have SQ:=Z.mv C kY am;generalize OY.setCell ⟨g,33,none⟩ (.int .i64 (s.left-I.jG (I.r.aW.take k)-lv.az))=oy at SP an ao SQ|-;clear z X Y Z Lg f33 C Wv Nr a8 Wu Lf V a9 ba SN;have bb:=SP.lt;have bc:=SQ.lt;have SR:oy.cell? ⟨g,38,none⟩=some (.int .i64 (I.jG (I.r.aW.take k))):=SP.blk.cell 38;have V:oy.cell? ⟨j.heap.size,1,none⟩=some (.int .i64 lv.az):=SQ.cell 1;go_upto_region 16 with fail
     refine T7 (aE:=?aqV) [0,1,2,3,4,5,6] 7 8 9 (.pointer (some ⟨g,0,none⟩)) (.pointer (some ⟨g,38,none⟩)) (by kernel_rfl) (by kernel_rfl) rfl (by kernel_rfl) (by rfl) (by kernel_rfl) (by kernel_rfl) (by kernel_rfl) (by kernel_rfl) rfl rfl rfl rfl rfl rfl rfl rfl ?H16 ?E16 ?G16 ?M16
     case H16=>
      intro F hF u;simp only[M3.cL,arh,ari,arj];have bd:=aR.dL (F:=F) (a:=⟨g,38,none⟩) (by exact bb) SR;have d1:=aR.dL (F:=F) (a:=⟨j.heap.size,1,none⟩) (by exact bc) V
      repeat(first|go_big_quiet_step(first|fail)|quiet_step(first|fail))
      refine wpQuiet_nil ?_;rfl
     case E16=>exact fun _=>by first|rfl|go_simp
     case G16=>exact fun _=>by first|rfl|go_simp
     case M16=>
      intro MU SS
      try simp only[Act.put,ary]
      have z:=SP.aa SS;have X:=an.trans (Mv.aU SS);have Y:=ao.aa SS;have Z:=SQ.aa SS;have bd:MU.cell? ⟨g,38,none⟩=some (.int .i64 (I.jG (I.r.aW.take k))):=z.blk.cell 38;have f38:=z.blk.frozen 38;refine⟨MU.setCell ⟨g,38,none⟩ (.int .i64 (I.jG (I.r.aW.take k)+lv.az)),by go_simp,?_⟩;have MW:=z.amp (I.jG (I.r.aW.take k)+lv.az);have C:=Mv.set (w:=MU) (v:=P) (g:=g) 38 (.int .i64 (I.jG (I.r.aW.take k)+lv.az));have Ww:=X.trans C;have Wx:=Y.mv C K al;have SU:=Z.mv C kY am;generalize MU.setCell ⟨g,38,none⟩ (.int .i64 (I.jG (I.r.aW.take k)+lv.az))=E3 at MW Ww Wx SU|-;clear z X Y Z bd f38 C SP an ao SQ SR V bb bc SS;have s7:E3.cell? ⟨gs,7,none⟩=some (.bool x.cA):=Wx.cell 7;rcases Cy:x.cA with _|_
      ·rw[Cy]at s7 pg;have ap:Hid (({({(El I s P k)with left:=s.left-I.jG (I.r.aW.take k)-lv.az}:jn)with bj:=I.jG (I.r.aW.take k)+lv.az}:jn)=El I s P (k+1)):=by
        unfold El;rw[Hid,od.out,pg.out];simp[Int.sub_sub]
       rw[ap.out]at MW;go_wp2;go_roundw
       case rel=>
        have ax:∃k':Nat,k'<=I.r.aW.length/\Value.int .i64 ((k:Int)+1)=.int .i64 k'/\aaX l g c s U I w3 k' E3:=⟨k+1,by omega,by go_num,P,MW,Ww,a6.out⟩
        first|exact ax|((repeat apply Exists.intro);exact⟨ax,rfl,rfl,rfl,rfl,rfl,rfl⟩)|((repeat apply Exists.intro);exact⟨ax,rfl⟩)
       case measure=>simp[intOf];omega
      ·rw[Cy]at s7 pg;have ap:Hid (({({({(El I s P k)with left:=s.left-I.jG (I.r.aW.take k)-lv.az}:jn)with bj:=I.jG (I.r.aW.take k)+lv.az}:jn)with px:=I.jH (I.r.aW.take k)+lv.az}:jn)=El I s P (k+1)):=by
        unfold El;rw[Hid,od.out,pg.out];simp[Int.sub_sub]
       have be:=MW.lt;have bf:=SU.lt;have SI:E3.cell? ⟨g,39,none⟩=some (.int .i64 (I.jH (I.r.aW.take k))):=MW.blk.cell 39;have V:E3.cell? ⟨j.heap.size,1,none⟩=some (.int .i64 lv.az):=SU.cell 1;go_upto_region 18 with fail
       refine T7 (aE:=?aqW) [0,1,2,3,4,5,6] 7 8 9 (.pointer (some ⟨g,0,none⟩)) (.pointer (some ⟨g,39,none⟩)) (by kernel_rfl) (by kernel_rfl) rfl (by kernel_rfl) (by rfl) (by kernel_rfl) (by kernel_rfl) (by kernel_rfl) (by kernel_rfl) rfl rfl rfl rfl rfl rfl rfl rfl ?H18 ?E18 ?G18 ?M18
       case H18=>
        intro F hF u;simp only[M3.cL,arh,ari,arj];have bg:=aR.dL (F:=F) (a:=⟨g,39,none⟩) (by exact be) SI;have d1:=aR.dL (F:=F) (a:=⟨j.heap.size,1,none⟩) (by exact bf) V
        repeat(first|go_big_quiet_step(first|fail)|quiet_step(first|fail))
        refine wpQuiet_nil ?_;rfl
       case E18=>exact fun _=>by first|rfl|go_simp
       case G18=>exact fun _=>by first|rfl|go_simp
       case M18=>
        intro MV SV
        try simp only[Act.put,ary]
        have z:=MW.aa SV;have X:=Ww.trans (Mv.aU SV);have Y:=Wx.aa SV;have Z:=SU.aa SV;have bg:MV.cell? ⟨g,39,none⟩=some (.int .i64 (I.jH (I.r.aW.take k))):=z.blk.cell 39;have f39:=z.blk.frozen 39;refine⟨MV.setCell ⟨g,39,none⟩ (.int .i64 (I.jH (I.r.aW.take k)+lv.az)),by go_simp,?_⟩;have av:=z.amq (I.jH (I.r.aW.take k)+lv.az);have C:=Mv.set (w:=MV) (v:=P) (g:=g) 39 (.int .i64 (I.jH (I.r.aW.take k)+lv.az));have bh:=X.trans C;have bw:=Y.mv C K al;have bx:=Z.mv C kY am;generalize MV.setCell ⟨g,39,none⟩ (.int .i64 (I.jH (I.r.aW.take k)+lv.az))=OU at av bh bw bx|-;clear z X Y Z bg f39 C MW Ww Wx SU SI V be bf SV;rw[ap.out]at av;go_wp2;go_roundw
        case rel=>
         have ax:∃k':Nat,k'<=I.r.aW.length/\Value.int .i64 ((k:Int)+1)=.int .i64 k'/\aaX l g c s U I w3 k' OU:=⟨k+1,by omega,by go_num,P,av,bh,a6.out⟩
         first|exact ax|((repeat apply Exists.intro);exact⟨ax,rfl,rfl,rfl,rfl,rfl,rfl⟩)|((repeat apply Exists.intro);exact⟨ax,rfl⟩)
        case measure=>simp[intOf];omega
   ·obtain rfl:k=I.r.aW.length:=by omega
    rw[arW]at N D3;have HE:Hid (Jl I=0):=(by rw[Hid,Jl,aq8 (by rw[Yy D3.out];simp)]);have hS:El I s vl I.r.aW.length={s with aF:=I.aF,lv:=vl,left:=s.left-I.bj,bj:=I.bj,px:=I.jH I.r.aW}:=by unfold El aY.bj;rw[arW]
    rw[hS]at N;have bz:=iI.trans hm;clear a0 hS hm iI jY;go_wp2;go_ret;rw[HE.out];exact⟨rfl,N.aU,fun _=>⟨vl,N,bz⟩⟩
open Go.RowKit Go.Sort Go.Shelf
def Pr(x y:Elem):Int:=CA x.code y.code
instance instInhElemW:Inhabited Elem:=⟨⟨⟨#[]⟩,0⟩⟩
theorem Wy(x y:Elem):ltOf Pr x y=jc x y:=by
 unfold ltOf Pr CA jc;split
 ·rename_i h;simp[h]
 ·rename_i h;have e:Op.bytesLess x.code.toList y.code.toList=false:=by simpa using h
  split<;>simp[e]
theorem aot:SWO (ltOf Pr) where
 irrefl x:=by rw[Wy,jc,Br];simp
 trans x y z e j:=by rw[Wy,jc,Br]at*;simp only[arz]at*;exact List.lt_trans e j
 ntrans x y z e j:=by rw[Wy,jc,Br]at*;simp only[ar4,asb]at*;exact List.le_trans j e
theorem aou(x y:Elem)(W:World):Calls prog 194 #[.agg #[.string x.code,.int .i64 x.amount],.agg #[.string y.code,.int .i64 y.amount]] W fun e w'=>e=.returned (.int .i64 (Pr x y))/\∃q j,w'=grow (W.drewN q) j:=by go_enter func194,ntmps194;go_wp2_with(go_at_call 85;refine(T9 _ _ _).mono ?_;rintro e w' ⟨rfl,rfl⟩);go_ret;exact⟨rfl,0,_,by rw[alloc_eq_grow,alloc_eq_grow,grow_grow];rfl⟩
theorem aov(w:World)(j l n:Nat)(d:Array Elem)(os:Array Obj):w.grownBy (sortWorldK aN 2 w j l n d os) (some j):=by
 refine⟨rfl,rfl,rfl,size_sortWorldK_c aN 2 w j l n d os,fun i hi p=>?_⟩;have r:j≠i:=fun e=>p (by rw[e]);have u:(putRowK aN 2 (Sort.ahead w n) j l d).heap.size=w.heap.size:=by simp[putRowK,putRow,mapBlock,Sort.ahead]
 show((putRowK aN 2 (Sort.ahead w n) j l d).heap++os)[i]?=w.heap[i]?;rw[asU (by omega)];show(w.heap.modify j _)[i]?=_;rw[asy,aq8 r]
theorem alJ(A:Option Addr)(r base:Nat)(l:List Elem)(w:World)(E:Own aN 2 69 w base (.slice A l.length r) l)(S:l.length<4611686018427387904):
  Calls prog 170 #[.slice A l.length r,.func (.func 194) #[] #[]] w fun e w'=>e=.returned (.tuple #[])/\
   ∃G:List Elem,G.Perm l/\G.Pairwise (fun a b=>jc b a=false)/\aj aN 2 w' w'.heap.size A G/\Below base w w':=by
 rcases E.2 with⟨I,T⟩|⟨g,P,J,I,hb,K,hn,hm,hs,U⟩
 ·injection I with p V Q
  obtain rfl:l=[]:=asD T;have z:=AnyF.slices_SortFunc_none {Tryz.Ua with} A r (.func (.func 194) #[] #[]) w;refine arf z fun e w' ⟨L,X⟩=>⟨L,[],List.Perm.refl _,List.Pairwise.nil,aj.cK,by rw[X];exact arb _ _⟩
 ·injection I with p V Q
  subst p Q;have M:=(asv.1 K).1;have Y:∀args w,(callFunc 194 args).run prog w=.ok (.enter 194 args) w:=enters_of func194 (by kernel_rfl) rfl;have Z:CmpLays prog 194 #[] aN 2 Pr g 0 l.toArray.size w:=fun _ _ _ _ x y=>aou x y _;have R:HoldsK aN 2 w g 0 l.toArray:=by
   intro j D;rw[size_flatK]at D;simp only[List.size_toArray]at D;have C:j/2<l.length:=(by omega);have Dw:j%2<2:=Nat.mod_lt _ (by omega);refine⟨?_,by simp[World.frozen?,K]⟩;rw[get_flatK _ _ _ _ (by simpa using D),ark,cell_of_row w g j J _ (0,0) K];have N:l.toArray[j/2]! =l[j/2]:=(by simp[C]);rw[N];have hu:(aN l[j/2])[j%2]?=some ((aN l[j/2])[j%2]!):=by have B:j%2<(aN l[j/2]).length:=(by rw[dt];exact Dw);rw[aro B,arL (aN l[j/2]) (j%2) B]
   have p:=Ht dt l (j/2) (j%2) _ _ (aro C) hu;rw[show j/2*2+j%2=j by omega]at p;rw[<-U,asK,aq9 (by omega)]at p;simpa using p
  have z:=AnyQ.slices_SortFunc Tryz.Ua 2 Tryz.isAgg69 Tryz.sizeOf69 aN dt kn Pr aot 194 #[] g 0 r l.toArray w Y Z R M (by simpa using S);have LB:Calls prog 170 #[.slice (some ⟨g,0,none⟩) l.length r,.func (.func 194) #[] #[]] w _:=z;refine LB.mono ?_;rintro e w' ⟨L,d',n,os,hp,nW,rfl⟩;obtain⟨F,Uc,O⟩:=hp;refine⟨L,d'.toList,?_,?_,?_,gI (aov _ _ _ _ _ _) (by omega) (fun q e=>by injection e;omega)⟩
  ·have e1:l.toArray.size=l.length:=(by simp);rw[e1]at F O;have e2:(d'.extract 0 l.length)=d':=(by rw[<-F];simp);have e3:(l.toArray.extract 0 l.length)=l.toArray:=(by simp);rw[e2,e3]at O;exact O
  ·rw[arZ];intro i j hi D DD;have p:=nW i j (Nat.zero_le _) DD (by rw[<-F];simpa using D);rw[Wy,arL d' i (by simpa using hi),arL d' j (by simpa using D)]at p;simpa using p
  ·intro _;refine⟨g,0,rfl,lt_sortWorldK aN 2 w g 0 n d' os M,fun i x hi j u hu=>?_⟩;have LC:=holdsK_sortWorldK_c aN 2 w g 0 l.toArray d' n os R M F;have CB:i<d'.size:=(by simpa using(arG.1 hi).1);have o9:j<2:=(by have:=(arG.1 hu).1;rwa [dt]at this);have p:=(LC (i*2+j) (by rw[size_flatK];omega)).1;rw[get_flatK _ _ _ _ (by omega),show(i*2+j)/2=i by omega,show(i*2+j)%2=j by omega,arL d' i CB]at p;have N:d'[i]=x:=by
    have:=(arG.1 hi).2;simpa using this
   rw[N]at p;have DF:(aN x)[j]! =u:=by have B:=(arG.1 hu).1;rw[arL (aN x) j B];exact(arG.1 hu).2
   rw[DF]at p;rw[ark];rw[ark]at p;exact p
