/- Conditions: as stated. -/
import Derived.Test.YtlhkojcmcmkmaaaGreatCShelf
import Derived.Test.YtlhkojcmcmkmaaaGreatCP28d
set_option maxRecDepth 100000
set_option maxHeartbeats 8000000
namespace Go.Proofs.YtlhkojcmcmkmaaaGreat
open Go.Proofs.Tryz
open Go.RowKit
def aqt(j:World)(g:Nat)(c:np)(s:jB)(l:List cH)(I:bf)(w w':World):Prop:=
 ∃e,dI j g c {s with aO:=I.aO,lv:=e,left:=s.left-I.bj,bj:=I.bj,Af:=I.kC I.r.bF} (l++I.zO I.r.bF) w'/\Mv g s.lv w e w'
def JX(I:bf):Int:=if I.Em=true then 4 else 0
def EU(I:bf)(s:jB)(v:Value)(k:Nat):jB:={s with aO:=I.aO,lv:=v,left:=s.left-I.jP (I.r.bF.take k),bj:=I.jP (I.r.bF.take k),Af:=I.kC (I.r.bF.take k)}
def ack(j:World)(g:Nat)(c:np)(s:jB)(l:List cH)(I:bf)(w3:World)(k:Nat)(wr:World):Prop:=
 ∃e,dI j g c (EU I s e k) (l++I.zO (I.r.bF.take k)) wr/\Mv g s.lv w3 e wr/\Hid (∀x∈I.r.bF.take k,gI (iE x I.y.aO.length I.eF)=false)
theorem aqu{l:World}{g:Nat}{c:np}{s:jB}{U:List cH}{w:World}(h:dI l g c s U w)(hr:c.r.In l)(hp:c.p.In l)(hy:c.y.In l)(I:bf)(Ev:c.r.ss=I.r.bF)(Q:I.eF=(⟨c.y.Ai,c.y.ci,c.y.ins,I.aO⟩::c.p.es:List cI).map cI.v)
  (jh:I.aO=max s.b.i 0) (_VU:I.aO<=1000000000) (ab:∀x∈I.r.bF,oD x) (hn:I.r.bF.length<=12) (Pv:Eh I.y.aO.length I.eF)
  (az:∀x∈I.r.bF,gI (iE x I.y.aO.length I.eF)=false->(0<=(I.fS x).aD/\(I.fS x).aD<=1000000000)/\0<=(I.fS x).aV/\(I.fS x).aV<=1000000000)
  (Db:U.length<=1000) (l0:-100000000000<=s.left) (l1:s.left<=100000000000) (aC:s.bj=0) (Fz:s.Af=0):
  Calls prog 54 #[.pointer (some ⟨g,0,none⟩)] w (Me l (JX I) (aqt l g c s U I w)):=by
 have Dx:=atM az;have bA:=atM ab;have bB:c.p.es.length<=7:=by have:=Pv.len;rw[Q]at this;simp at this;omega
 have mQ:Hid (∀W,Below l.heap.size l W->ai Ir 8 W W.heap.size c.r.As I.r.bF):=fun W M=>by rw[<-Ev];exact(hr.aa M).ss
 have KD:Hid (∀W,Below l.heap.size l W->ai pS 2 W W.heap.size c.p.Ae c.p.es):=fun W M=>(hp.aa M).es;have bi:Hid (∀W A J,Below l.heap.size l W->ai pS 2 W W.heap.size A (⟨c.y.Ai,c.y.ci,c.y.ins,I.aO⟩::c.p.es)->∀x∈I.r.bF,Calls prog 107 #[.agg #[.string x.code,.int .i64 x.aD,.int .i64 x.aV,.int .i64 x.floor,.int .i64 x.dO,.int .i64 x.unit,.int .i64 x.mode,.bool x.ep],.slice A (c.p.es.length+1) J] W (B8 (qg x I.y.aO.length I.eF) (AH x I.y.aO.length I.eF) W)):=fun W A J M hS x hx=>by
  have:=ao6 x A J I.y.aO.length _ W hS (fun e he=>by
   rcases auf.1 he with rfl|he
   ·exact(hy.aa M).ins
   ·exact(hp.aa M).ins e he) (ab x hx) (by rw[<-Q];exact Pv)
  rw[<-Q]at this;exact this
 have HI:=atM h;have bk:w.cell? ⟨g,30,none⟩=some (.int .i64 s.b.i):=h.blk.cell 30;have bl:w.cell? ⟨g,37,none⟩=some (.int .i64 s.aO):=h.blk.cell 37;have f37:=h.blk.frozen 37;have pw:Hid (max s.b.i 0=I.aO):=jh.symm;have bm:Hid (∀k,(I.zO (I.r.bF.take k)).length<=24):=fun k=>by have h1:=(I.abm (I.r.bF.take k)).length_eq;have h2:=auk nz (I.gw (I.r.bF.take k));have h3:=auk nz (I.iu (I.r.bF.take k));simp only[ag,bf.gw,bf.iu,at3,auq,auH]at h1 h2 h3;omega
 have od:=atM Ev;have Ih:Hid (∀v,EU I s v 0={s with aO:=I.aO,lv:=v}):=fun v=>by unfold EU;simp[bf.jP,bf.kC,ax,aC,Fz]
 clear h hr hp hy Q jh ab Pv az aC Fz Ev;go_enter func54,ntmps54;go_upto_region 2 with fail
 rw[pw.out];have R:=HI.out.anG I.aO;have eT:=Mv.set (w:=w) (v:=s.lv) (g:=g) 37 (.int .i64 I.aO);generalize w.setCell ⟨g,37,none⟩ _=W1 at R eT|-;clear HI bk bl f37 pw;have Ib:=R.lt;have aJ:W1.cell? ⟨g,23,none⟩=some (.slice c.y.Ai c.y.ins.length c.y.ci):=R.blk.cell 23;have aQ:W1.cell? ⟨g,37,none⟩=some (.int .i64 I.aO):=R.blk.cell 37;refine anM (aE:=?C9) [0,1,2,3,4,5,6,7,8,9] [11] 10 (fun b:Nat=>.slice (some ⟨b,0,none⟩) 1 1) ?Vb (fun b w'=>Own pS 2 137 w' W1.heap.size (.slice (some ⟨b,0,none⟩) 1 1) [⟨c.y.Ai,c.y.ci,c.y.ins,I.aO⟩]) (by kernel_rfl) (by kernel_rfl) rfl (by kernel_rfl) (by kernel_rfl) (by rfl) (by kernel_rfl) (by kernel_rfl) (by rfl) (by kernel_rfl) (by kernel_rfl) rfl rfl ?H1 ?S1 ?R1 ?Da ?J1 ?M1
 case H1=>
  intro F hF u;simp only[M3.cL,atY,at0,at1];have bD:=aP.dK (F:=F) (a:=⟨g,23,none⟩) (by exact Ib) aJ;have bJ:=aP.dK (F:=F) (a:=⟨g,37,none⟩) (by exact Ib) aQ
  repeat(first|go_big_quiet_step(first|fail)|quiet_step(first|fail))
  refine wpQuiet_nil ?_;rfl
 case S1=>rfl
 case R1=>exact fun x w1 w2 hx M=>hx.aa M
 case Da=>exact fun w2 n=>⟨w2.heap.size,w2.alloc (.cells #[.slice c.y.Ai c.y.ins.length c.y.ci,.int .i64 I.aO] 137),by go_simp,bC _ _,Own.lit (base:=W1.heap.size) KT w2 [⟨c.y.Ai,c.y.ci,c.y.ins,I.aO⟩] #[.slice c.y.Ai c.y.ins.length c.y.ci,.int .i64 I.aO] 137 rfl (by simp) n.size⟩
 case J1=>
  intro x F hF u;simp only[M3.cL,atY,at0,at1]
  repeat(first|go_big_quiet_step(fail)|quiet_step(fail))
  refine wpQuiet_nil ?_;rfl
 case M1=>
  intro b w2 n IG
  try simp only[Act.put,aua,at8,at9]
  have fk:=R.aa n;have bo:w2.cell? ⟨g,19,none⟩=some (.slice c.p.Ae c.p.es.length c.p.ce):=fk.blk.cell 19;have aR:=KD.out w2 fk.bh;have bp:=n.size;clear aJ aQ KD;go_upto_region 4 with(at_builtin;(refine Jc (ys:=c.p.es) _ _ 48 _ 32 _ aay underlying48 IG aR KT (by omega) rfl aaz (by simp;omega) (by omega) (by omega) (by rfl) (by rfl) (by rfl) (by rfl) (by rfl) ?_);intro v3 w3 CL aS)
  simp only[List.cons_append,List.nil_append]at CL;obtain⟨AJ,cJ,bq,aT,aU,_,_⟩:=CL.kX KT;subst bq;have ad:Below W1.heap.size W1 w3:=n.trans (ib aS n.size (fun q hq=>(IG.bR hq).1));have kn:=R.aa ad;have gG:=eT.trans (Mv.bh ad);have GG:Hid (nR pS 2 w3 g s.lv AJ (⟨c.y.Ai,c.y.ci,c.y.ins,I.aO⟩::c.p.es)):=nR.new aT aU R.lt (fun q hq=>(R.row q hq).2);clear R eT fk bo aR bp IG CL aS ad n aT aU;have z1:w3.cell? ⟨g,1,none⟩=some (.slice c.r.As I.r.bF.length c.r.cs):=by rw[<-od.out];exact kn.blk.cell 1
  go_wp2_with fail
  go_loopw [42] (fun i wr=>∃k:Nat,k<=I.r.bF.length/\i=.int .i64 k/\ack l g c s U I w3 k wr) (fun i _=>I.r.bF.length-(intOf i).toNat)
  case atStart=>exact⟨0,by omega,rfl,s.lv,by rw[Ih.out];simpa[bf.zO]using kn,Mv.refl _ _ _,fun x hx=>by simp at hx⟩
  case round=>
   rename World=>wr
   clear z1;obtain⟨k,hk,rfl,vl,N,hm,Ew⟩:=hrel;have aX:dI l g c (EU I s vl k) (U++I.zO (I.r.bF.take k)) wr:=N;have br:=aaj (I:=I) (k:=k) hn (fun x hx=>(Dx.out x (auh hx) (Ew.out x hx)).1);obtain⟨⟨v0,v1⟩,v2,v3⟩:=br;by_cases D:k<I.r.bF.length
   ·obtain⟨sb,so,oF,Hr,S⟩:=(mQ.out wr N.bh).at_ D;have c0:=S 0 _ rfl;have c1:=S 1 _ rfl;have c2:=S 2 _ rfl;have c3:=S 3 _ rfl;have c4:=S 4 _ rfl;have c5:=S 5 _ rfl;have c6:=S 6 _ rfl;have c7:=S 7 _ rfl;simp only[atQ]at c0;rw[oF];have fJ:=atT D;have fL:(k:Int)<(I.r.bF.length:Int):=(by omega);have aY:=GG.out.mv hm;have aZ:=atM (fun W A J M hS=>bi.out W A J M hS _ fJ);have P7:=atM (Dx.out _ fJ);have a0:Hid (gI (iE I.r.bF[k] I.y.aO.length I.eF)=true->I.Em=true):=fun O=>aeK fJ O;have a1:Hid (gI (iE I.r.bF[k] I.y.aO.length I.eF)=false->∀x∈I.r.bF.take (k+1),gI (iE x I.y.aO.length I.eF)=false):=fun O x hx=>by
     rw[aud D]at hx;rcases aul.1 hx with hx|hx
     ·exact Ew.out x hx
     ·simp at hx;subst hx;exact O
    have oY:=atM (aeH (I:=I) D);have qp:=atM (aeI (I:=I) D);have Je:=atM (ak4 (I:=I) D);have OO:=bm.out k;clear S fJ Ew;generalize I.r.bF[k]=x at*;have dp:=ah.new wr 123 #[.string x.code,.int .i64 x.aD,.int .i64 x.aV,.int .i64 x.floor,.int .i64 x.dO,.int .i64 x.unit,.int .i64 x.mode,.bool x.ep];have cY:=bC wr (.cells #[.string x.code,.int .i64 x.aD,.int .i64 x.aV,.int .i64 x.floor,.int .i64 x.dO,.int .i64 x.unit,.int .i64 x.mode,.bool x.ep] 123);have oX:vl.ownBlock≠some wr.heap.size:=fun e=>by have:=(N.row _ e).2;omega
    have K:wr.heap.size≠g:=(by have:=N.lt;omega);go_upto_region 7 with fail
    generalize wr.alloc (Obj.cells _ _)=W2 at dp cY|-;have fk:=N.aa cY;have jX:=hm.trans (Mv.bh cY);have a2:=aY.sl.aa cY;clear aX N hm cY aY c0 c1 c2 c3 c4 c5 c6 c7;generalize wr.heap.size=gs at*;obtain⟨z0,z1,z2,z3,z4,z5,z6,z7⟩:=dp.cz8;go_wp2_with fail;refine(aZ.out W2 AJ cJ fk.bh a2).mono ?_;rintro e j ⟨A4,c4,rfl,cO,bs,bt,T⟩;have mn:=fk.aa T;have kY:=jX.trans (Mv.bh T);have pU:=dp.aa T;clear fk jX a2 dp T aZ z0 z1 z2 z3 z4 z5 z6 z7;rcases O:gI (iE x I.y.aO.length I.eF)with _|_;rotate_left
    ·obtain⟨j1,j2⟩:=ak6 O;rw[j1,j2];have ae:=mn.bh;have HE:Hid (JX I=4):=(by rw[Hid,JX,atP (a0.out O)]);go_wp2;go_ret;rw[HE.out];exact⟨rfl,ae,fun e=>by cases e⟩
    obtain⟨j1,rest,j2⟩:=ak5 O;rw[j1];rw[j2]at cO|-;have R7:=atM (a1.out O);obtain⟨⟨p0,p1⟩,p2,p3⟩:=P7.out O;clear j1 j2 O a0 a1 P7 bs;generalize I.fS x=lv at*;obtain⟨lb,lo,gv,Gg,jD⟩:=cO.at_ (i:=0) (by simp);subst gv;have q0:=jD 0 _ rfl;have q1:=jD 1 _ rfl;have q2:=jD 2 _ rfl;simp only[auu,atQ,avv]at q0 q1 q2;simp only[at4];generalize rest.length=nr;have L:=ah.new j 142 #[.int .i64 0,.int .i64 0,.int .i64 0];have E:=bC j (.cells #[.int .i64 0,.int .i64 0,.int .i64 0] 142);have a3:=(E.cell (p:=⟨lb,lo,none⟩) (by exact Gg)).trans q0;have P3:=(E.cell (p:=⟨lb,lo+1,none⟩) (by exact Gg)).trans q1;have P4:=(E.cell (p:=⟨lb,lo+2,none⟩) (by exact Gg)).trans q2;have kM:j.heap.size≠g:=(by have:=mn.lt;omega);have BP:vl.ownBlock≠some j.heap.size:=fun e=>by have:=(mn.row _ e).2;omega
    have VP:j.heap.size≠lb:=(by omega);clear jD cO bt q0 q1 q2;go_upto_region 11 with fail
    generalize j.alloc (Obj.cells _ _)=W5 at L E a3 P3 P4|-;obtain⟨b0,b1,b2⟩:=L.cz3;obtain⟨g0,g1,g2⟩:=L.fz3;have oV:(0:Int)<((nr+1:Nat):Int):=(by omega);go_upto_region 13 with fail
    have hR:=L.fill [.int .i64 lv.base,.int .i64 lv.aD,.int .i64 lv.aV] rfl;have aM:=Mo (B:=j.heap.size) (g:=j.heap.size) (atN _) [.int .i64 lv.base,.int .i64 lv.aD,.int .i64 lv.aV] 0 E;simp only[ir,atX,Nat.reduceAdd]at hR aM;generalize ((W5.setCell ⟨j.heap.size,0,none⟩ (.int .i64 lv.base)).setCell ⟨j.heap.size,1,none⟩ (.int .i64 lv.aD)).setCell ⟨j.heap.size,2,none⟩ (.int .i64 lv.aV)=W6 at hR aM|-;have pH:=mn.aa aM;have pI:=kY.trans (Mv.bh aM);have X9:=pU.aa aM;clear L E aM a3 P3 P4 b0 b1 b2 g0 g1 g2 mn kY pU;have s0:W6.cell? ⟨gs,0,none⟩=some (.string x.code):=X9.cell 0;have bu:W6.cell? ⟨j.heap.size,1,none⟩=some (.int .i64 lv.aD):=hR.cell 1;have bK:(ag 4 [⟨x.code,lv.aD⟩]).length<=1:=(by simp[ag];exact auk _ _);have bO:(ag 5 [⟨x.code,lv.aV⟩]).length<=1:=(by simp[ag];exact auk _ _);go_wp2_with fail;refine(Kq pH 4 x.code lv.aD (by simp;omega)).mono ?_;rintro e w7 ⟨rfl,v7,IX,G⟩;have af:=G.far X9.lt oX;have ak:=G.far hR.lt BP;have Ya:=X9.mv G K oX;have Yb:=hR.mv G kM BP;have Cv:=pI.trans G;clear pH pI G X9 hR s0 bu;have s0:w7.cell? ⟨gs,0,none⟩=some (.string x.code):=Ya.cell 0;have bv:w7.cell? ⟨j.heap.size,2,none⟩=some (.int .i64 lv.aV):=Yb.cell 2;go_wp2_with fail;refine(Kq IX 5 x.code lv.aV (by simp only[at3];omega)).mono ?_;rintro e w8 ⟨rfl,P,Ov,G⟩;have al:=G.far Ya.lt af;have am:=G.far Yb.lt ak;have a4:=Ya.mv G K af;have Yc:=Yb.mv G kM ak;have Ow:=Cv.trans G;rw[auG,auG,<-Je.out]at Ov;clear IX Cv G Ya Yb s0 bv af ak;have Yd:dI l g c (EU I s P k) (U++I.zO (I.r.bF.take (k+1))) w8:=Ov;clear Ov;have a5:=Yd.lt;have a6:=Yc.lt;have Mc:w8.cell? ⟨g,33,none⟩=some (.int .i64 (s.left-I.jP (I.r.bF.take k))):=Yd.blk.cell 33;have V:w8.cell? ⟨j.heap.size,1,none⟩=some (.int .i64 lv.aD):=Yc.cell 1;go_upto_region 15 with fail
    refine Vw (aE:=?aty) [0,1,2,3,4,5,6] 7 8 9 (.pointer (some ⟨g,0,none⟩)) (.pointer (some ⟨g,33,none⟩)) (by kernel_rfl) (by kernel_rfl) rfl (by kernel_rfl) (by rfl) (by kernel_rfl) (by kernel_rfl) (by kernel_rfl) (by kernel_rfl) rfl rfl rfl rfl rfl rfl rfl rfl ?H15 ?E15 ?G15 ?M15
    case H15=>
     intro F hF u;simp only[M3.cL,atY,at0,at1];have Md:=aP.dK (F:=F) (a:=⟨g,33,none⟩) (by exact a5) Mc;have d1:=aP.dK (F:=F) (a:=⟨j.heap.size,1,none⟩) (by exact a6) V
     repeat(first|go_big_quiet_step(first|fail)|quiet_step(first|fail))
     refine wpQuiet_nil ?_;rfl
    case E15=>exact fun _=>by first|rfl|go_simp
    case G15=>exact fun _=>by first|rfl|go_simp
    case M15=>
     intro P1 Ur
     try simp only[Act.put,aua]
     have z:=Yd.aa Ur;have X:=Ow.trans (Mv.bh Ur);have Y:=a4.aa Ur;have Z:=Yc.aa Ur;have Md:P1.cell? ⟨g,33,none⟩=some (.int .i64 (s.left-I.jP (I.r.bF.take k))):=z.blk.cell 33;have f33:=z.blk.frozen 33;refine⟨P1.setCell ⟨g,33,none⟩ (.int .i64 (s.left-I.jP (I.r.bF.take k)-lv.aD)),by go_simp,?_⟩;have Us:=z.Vz (s.left-I.jP (I.r.bF.take k)-lv.aD);have C:=Mv.set (w:=P1) (v:=P) (g:=g) 33 (.int .i64 (s.left-I.jP (I.r.bF.take k)-lv.aD));have an:=X.trans C;have ao:=Y.mv C K al;have Ut:=Z.mv C kM am;generalize P1.setCell ⟨g,33,none⟩ (.int .i64 (s.left-I.jP (I.r.bF.take k)-lv.aD))=qu at Us an ao Ut|-;clear z X Y Z Md f33 C Yd Ow a4 Yc Mc V a5 a6 Ur;have a7:=Us.lt;have a8:=Ut.lt;have Uu:qu.cell? ⟨g,38,none⟩=some (.int .i64 (I.jP (I.r.bF.take k))):=Us.blk.cell 38;have V:qu.cell? ⟨j.heap.size,1,none⟩=some (.int .i64 lv.aD):=Ut.cell 1;go_upto_region 16 with fail
     refine Vw (aE:=?atz) [0,1,2,3,4,5,6] 7 8 9 (.pointer (some ⟨g,0,none⟩)) (.pointer (some ⟨g,38,none⟩)) (by kernel_rfl) (by kernel_rfl) rfl (by kernel_rfl) (by rfl) (by kernel_rfl) (by kernel_rfl) (by kernel_rfl) (by kernel_rfl) rfl rfl rfl rfl rfl rfl rfl rfl ?H16 ?E16 ?G16 ?M16
     case H16=>
      intro F hF u;simp only[M3.cL,atY,at0,at1];have a9:=aP.dK (F:=F) (a:=⟨g,38,none⟩) (by exact a7) Uu;have d1:=aP.dK (F:=F) (a:=⟨j.heap.size,1,none⟩) (by exact a8) V
      repeat(first|go_big_quiet_step(first|fail)|quiet_step(first|fail))
      refine wpQuiet_nil ?_;rfl
     case E16=>exact fun _=>by first|rfl|go_simp
     case G16=>exact fun _=>by first|rfl|go_simp
     case M16=>
      intro N9 Uv
      try simp only[Act.put,aua]
      have z:=Us.aa Uv;have X:=an.trans (Mv.bh Uv);have Y:=ao.aa Uv;have Z:=Ut.aa Uv;have a9:N9.cell? ⟨g,38,none⟩=some (.int .i64 (I.jP (I.r.bF.take k))):=z.blk.cell 38;have f38:=z.blk.frozen 38;refine⟨N9.setCell ⟨g,38,none⟩ (.int .i64 (I.jP (I.r.bF.take k)+lv.aD)),by go_simp,?_⟩;have Ob:=z.anH (I.jP (I.r.bF.take k)+lv.aD);have C:=Mv.set (w:=N9) (v:=P) (g:=g) 38 (.int .i64 (I.jP (I.r.bF.take k)+lv.aD));have Qq:=X.trans C;have Ye:=Y.mv C K al;have Uw:=Z.mv C kM am;generalize N9.setCell ⟨g,38,none⟩ (.int .i64 (I.jP (I.r.bF.take k)+lv.aD))=FJ at Ob Qq Ye Uw|-;clear z X Y Z a9 f38 C Us an ao Ut Uu V a7 a8 Uv;have s7:FJ.cell? ⟨gs,7,none⟩=some (.bool x.ep):=Ye.cell 7;rcases OJ:x.ep with _|_
      ·rw[OJ]at s7 qp;have ap:Hid (({({(EU I s P k)with left:=s.left-I.jP (I.r.bF.take k)-lv.aD}:jB)with bj:=I.jP (I.r.bF.take k)+lv.aD}:jB)=EU I s P (k+1)):=by
        unfold EU;rw[Hid,oY.out,qp.out];simp[Int.sub_sub]
       rw[ap.out]at Ob;go_wp2;go_roundw
       case rel=>
        have aj:∃k':Nat,k'<=I.r.bF.length/\Value.int .i64 ((k:Int)+1)=.int .i64 k'/\ack l g c s U I w3 k' FJ:=⟨k+1,by omega,by go_num,P,Ob,Qq,R7.out⟩
        first|exact aj|((repeat apply Exists.intro);exact⟨aj,rfl,rfl,rfl,rfl,rfl,rfl⟩)|((repeat apply Exists.intro);exact⟨aj,rfl⟩)
       case measure=>simp[intOf];omega
      ·rw[OJ]at s7 qp;have ap:Hid (({({({(EU I s P k)with left:=s.left-I.jP (I.r.bF.take k)-lv.aD}:jB)with bj:=I.jP (I.r.bF.take k)+lv.aD}:jB)with Af:=I.kC (I.r.bF.take k)+lv.aD}:jB)=EU I s P (k+1)):=by
        unfold EU;rw[Hid,oY.out,qp.out];simp[Int.sub_sub]
       have ba:=Ob.lt;have bb:=Uw.lt;have Ux:FJ.cell? ⟨g,39,none⟩=some (.int .i64 (I.kC (I.r.bF.take k))):=Ob.blk.cell 39;have V:FJ.cell? ⟨j.heap.size,1,none⟩=some (.int .i64 lv.aD):=Uw.cell 1;go_upto_region 18 with fail
       refine Vw (aE:=?atA) [0,1,2,3,4,5,6] 7 8 9 (.pointer (some ⟨g,0,none⟩)) (.pointer (some ⟨g,39,none⟩)) (by kernel_rfl) (by kernel_rfl) rfl (by kernel_rfl) (by rfl) (by kernel_rfl) (by kernel_rfl) (by kernel_rfl) (by kernel_rfl) rfl rfl rfl rfl rfl rfl rfl rfl ?H18 ?E18 ?G18 ?M18
       case H18=>
        intro F hF u;simp only[M3.cL,atY,at0,at1];have bc:=aP.dK (F:=F) (a:=⟨g,39,none⟩) (by exact ba) Ux;have d1:=aP.dK (F:=F) (a:=⟨j.heap.size,1,none⟩) (by exact bb) V
        repeat(first|go_big_quiet_step(first|fail)|quiet_step(first|fail))
        refine wpQuiet_nil ?_;rfl
       case E18=>exact fun _=>by first|rfl|go_simp
       case G18=>exact fun _=>by first|rfl|go_simp
       case M18=>
        intro Oa Uy
        try simp only[Act.put,aua]
        have z:=Ob.aa Uy;have X:=Qq.trans (Mv.bh Uy);have Y:=Ye.aa Uy;have Z:=Uw.aa Uy;have bc:Oa.cell? ⟨g,39,none⟩=some (.int .i64 (I.kC (I.r.bF.take k))):=z.blk.cell 39;have f39:=z.blk.frozen 39;refine⟨Oa.setCell ⟨g,39,none⟩ (.int .i64 (I.kC (I.r.bF.take k)+lv.aD)),by go_simp,?_⟩;have av:=z.anI (I.kC (I.r.bF.take k)+lv.aD);have C:=Mv.set (w:=Oa) (v:=P) (g:=g) 39 (.int .i64 (I.kC (I.r.bF.take k)+lv.aD));have be:=X.trans C;have bw:=Y.mv C K al;have bx:=Z.mv C kM am;generalize Oa.setCell ⟨g,39,none⟩ (.int .i64 (I.kC (I.r.bF.take k)+lv.aD))=PT at av be bw bx|-;clear z X Y Z bc f39 C Ob Qq Ye Uw Ux V ba bb Uy;rw[ap.out]at av;go_wp2;go_roundw
        case rel=>
         have aj:∃k':Nat,k'<=I.r.bF.length/\Value.int .i64 ((k:Int)+1)=.int .i64 k'/\ack l g c s U I w3 k' PT:=⟨k+1,by omega,by go_num,P,av,be,R7.out⟩
         first|exact aj|((repeat apply Exists.intro);exact⟨aj,rfl,rfl,rfl,rfl,rfl,rfl⟩)|((repeat apply Exists.intro);exact⟨aj,rfl⟩)
        case measure=>simp[intOf];omega
   ·obtain rfl:k=I.r.bF.length:=by omega
    rw[auv]at N Ew;have HE:Hid (JX I=0):=(by rw[Hid,JX,atO (by rw[aeJ Ew.out];simp)]);have hS:EU I s vl I.r.bF.length={s with aO:=I.aO,lv:=vl,left:=s.left-I.bj,bj:=I.bj,Af:=I.kC I.r.bF}:=by unfold EU bf.bj;rw[auv]
    rw[hS]at N;have bz:=gG.trans hm;clear aX hS hm gG kn;go_wp2;go_ret;rw[HE.out];exact⟨rfl,N.bh,fun _=>⟨vl,N,bz⟩⟩
open Go.RowKit Go.Sort Go.Shelf
def Qv(x y:Elem):Int:=Dk x.code y.code
instance instInhElemW:Inhabited Elem:=⟨⟨⟨#[]⟩,0⟩⟩
theorem Yf(x y:Elem):ltOf Qv x y=ij x y:=by
 unfold ltOf Qv Dk ij;split
 ·rename_i h;simp[h]
 ·rename_i h;have e:Op.bytesLess x.code.toList y.code.toList=false:=by simpa using h
  split<;>simp[e]
theorem aqx:SWO (ltOf Qv) where
 irrefl x:=by rw[Yf,ij,Ce];simp
 trans x y z e j:=by rw[Yf,ij,Ce]at*;simp only[auc]at*;exact List.lt_trans e j
 ntrans x y z e j:=by rw[Yf,ij,Ce]at*;simp only[auA,auP]at*;exact List.le_trans j e
theorem aqy(x y:Elem)(W:World):Calls prog 194 #[.agg #[.string x.code,.int .i64 x.amount],.agg #[.string y.code,.int .i64 y.amount]] W fun e w'=>e=.returned (.int .i64 (Qv x y))/\∃q j,w'=grow (W.drewN q) j:=by go_enter func194,ntmps194;go_wp2_with(go_at_call 85;refine(VA _ _ _).mono ?_;rintro e w' ⟨rfl,rfl⟩);go_ret;exact⟨rfl,0,_,by rw[alloc_eq_grow,alloc_eq_grow,grow_grow];rfl⟩
theorem aqz(w:World)(j off n:Nat)(d:Array Elem)(os:Array Obj):w.grownBy (sortWorldK aN 2 w j off n d os) (some j):=by
 refine⟨rfl,rfl,rfl,size_sortWorldK_c aN 2 w j off n d os,fun i hi l=>?_⟩;have p:j≠i:=fun e=>l (by rw[e]);have r:(putRowK aN 2 (Sort.ahead w n) j off d).heap.size=w.heap.size:=by simp[putRowK,putRow,mapBlock,Sort.ahead]
 show((putRowK aN 2 (Sort.ahead w n) j off d).heap++os)[i]?=w.heap[i]?;rw[avA (by omega)];show(w.heap.modify j _)[i]?=_;rw[auU,atO p]
theorem ann(A:Option Addr)(r base:Nat)(l:List Elem)(w:World)(E:Own aN 2 69 w base (.slice A l.length r) l)(S:l.length<4611686018427387904):
  Calls prog 170 #[.slice A l.length r,.func (.func 194) #[] #[]] w fun e w'=>e=.returned (.tuple #[])/\
   ∃G:List Elem,G.Perm l/\G.Pairwise (fun a b=>ij b a=false)/\ai aN 2 w' w'.heap.size A G/\Below base w w':=by
 rcases E.2 with⟨I,T⟩|⟨g,P,J,I,hb,K,hn,hm,hs,U⟩
 ·injection I with p V Q
  obtain rfl:l=[]:=avo T;have z:=AnyF.slices_SortFunc_none {Tryz.Yg with} A r (.func (.func 194) #[] #[]) w;refine atV z fun e w' ⟨L,X⟩=>⟨L,[],List.Perm.refl _,List.Pairwise.nil,ai.cC,by rw[X];exact atS _ _⟩
 ·injection I with p V Q
  subst p Q;have M:=(ava.1 K).1;have Y:∀args w,(callFunc 194 args).run prog w=.ok (.enter 194 args) w:=enters_of func194 (by kernel_rfl) rfl;have Z:CmpLays prog 194 #[] aN 2 Qv g 0 l.toArray.size w:=fun _ _ _ _ x y=>aqy x y _;have R:HoldsK aN 2 w g 0 l.toArray:=by
   intro j D;rw[size_flatK]at D;simp only[List.size_toArray]at D;have C:j/2<l.length:=(by omega);have Ee:j%2<2:=Nat.mod_lt _ (by omega);refine⟨?_,by simp[World.frozen?,K]⟩;rw[get_flatK _ _ _ _ (by simpa using D),atX,cell_of_row w g j J _ (0,0) K];have N:l.toArray[j/2]! =l[j/2]:=(by simp[C]);rw[N];have hu:(aN l[j/2])[j%2]?=some ((aN l[j/2])[j%2]!):=by have B:j%2<(aN l[j/2]).length:=(by rw[dG];exact Ee);rw[atW B,aum (aN l[j/2]) (j%2) B]
   have p:=I0 dG l (j/2) (j%2) _ _ (atW C) hu;rw[show j/2*2+j%2=j by omega]at p;rw[<-U,avc,atP (by omega)]at p;simpa using p
  have z:=AnyQ.slices_SortFunc Tryz.Yg 2 Tryz.isAgg69 Tryz.sizeOf69 aN dG mF Qv aqx 194 #[] g 0 r l.toArray w Y Z R M (by simpa using S);have N3:Calls prog 170 #[.slice (some ⟨g,0,none⟩) l.length r,.func (.func 194) #[] #[]] w _:=z;refine N3.mono ?_;rintro e w' ⟨L,d',n,os,hp,oU,rfl⟩;obtain⟨F,XW,O⟩:=hp;refine⟨L,d'.toList,?_,?_,?_,ib (aqz _ _ _ _ _ _) (by omega) (fun q e=>by injection e;omega)⟩
  ·have e1:l.toArray.size=l.length:=(by simp);rw[e1]at F O;have e2:(d'.extract 0 l.length)=d':=(by rw[<-F];simp);have e3:(l.toArray.extract 0 l.length)=l.toArray:=(by simp);rw[e2,e3]at O;exact O
  ·rw[auz];intro i j hi D EP;have p:=oU i j (Nat.zero_le _) EP (by rw[<-F];simpa using D);rw[Yf,aum d' i (by simpa using hi),aum d' j (by simpa using D)]at p;simpa using p
  ·intro _;refine⟨g,0,rfl,lt_sortWorldK aN 2 w g 0 n d' os M,fun i x hi j u hu=>?_⟩;have N4:=holdsK_sortWorldK_c aN 2 w g 0 l.toArray d' n os R M F;have DU:i<d'.size:=(by simpa using(aui.1 hi).1);have BK:j<2:=(by have:=(aui.1 hu).1;rwa [dG]at this);have p:=(N4 (i*2+j) (by rw[size_flatK];omega)).1;rw[get_flatK _ _ _ _ (by omega),show(i*2+j)/2=i by omega,show(i*2+j)%2=j by omega,aum d' i DU]at p;have N:d'[i]=x:=by
    have:=(aui.1 hi).2;simpa using this
   rw[N]at p;have ER:(aN x)[j]! =u:=by have B:=(aui.1 hu).1;rw[aum (aN x) j B];exact(aui.1 hu).2
   rw[ER]at p;rw[atX];rw[atX]at p;exact p
