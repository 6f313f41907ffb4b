/- Conditions: as stated. -/
import Derived.Test.YtlhkojcmcmkmaaaGreatCGenR
set_option maxRecDepth 100000
set_option maxHeartbeats 4000000
namespace Go.Proofs.YtlhkojcmcmkmaaaGreat
open Go.Proofs.Tryz
open Go.RowKit
structure aaX(m:fC)(w:World)(base:Nat):Prop where
 ins:eN encI 1 w base m.Ai m.ins
 taken:eN aN 2 w base m.At m.taken
structure afD(k:Nat)(m:fC):Prop where
 Dl:m.az=k
 len:m.ins.length=k
 ins:∀x∈m.ins,0<=x/\x<=1000000
 inc:0<=m.ay/\m.ay<=600000*k
 wh:0<=m.aQ/\m.aQ<=60000*k
 taken:GenR 4 m.taken
def BJ(w:World)(b g k:Nat)(Ai:Option Addr)(ci:Nat)(ins:List Int)(At:Option Addr)(ct:Nat)(taken:List Elem)(M:Nat)(inc wh:Int)(wx:World):Prop:=
 ah wx g 53 #[.int .i64 k,.int .i64 inc,.int .i64 wh,.slice Ai ins.length ci,.slice At taken.length ct]/\ah wx w.heap.size 53 #[.int .i64 0,.int .i64 0,.int .i64 0,.slice none 0 0,.slice none 0 0]/\aW wx b M/\w.grownBy wx (some b)/\
 eN encI 1 wx (w.heap.size+1) Ai ins/\eN aN 2 wx (w.heap.size+1) At taken/\w.heap.size<g/\b<w.heap.size/\(∀a,Ai=some a->a.block≠g)/\∀a,At=some a->a.block≠g
section
variable {w wx wy:World}{b g k M M':Nat}{Ai At:Option Addr}{ci ct:Nat}{ins:List Int}{taken:List Elem}{inc wh:Int}
theorem BJ.aa(h:BJ w b g k Ai ci ins At ct taken M inc wh wx)(e:Below wx.heap.size wx wy):BJ w b g k Ai ci ins At ct taken M inc wh wy:=by obtain⟨j,l,n,p,r,u,y⟩:=h;exact⟨j.aa e,l.aa e,n.bh e,dD p e,r.aa e,u.aa e,y⟩
theorem BJ.DN(h:BJ w b g k Ai ci ins At ct taken M inc wh wx)(hd:aW wy b M')(j:wx.grownBy wy (some b)):BJ w b g k Ai ci ins At ct taken M' inc wh wy:=by obtain⟨l,n,C,p,r,u,y,z,B⟩:=h;exact⟨l.grown j (by intro e;injection e;omega),n.grown j (by intro e;injection e;omega),hd,bL p j,r.grown j (fun q e=>by injection e;omega),u.grown j (fun q e=>by injection e;omega),y,z,B⟩
theorem BJ.put(h:BJ w b g k Ai ci ins At ct taken M inc wh wx)(i:Nat)(u:Value):ah (wx.setCell ⟨g,i,none⟩ u) w.heap.size 53 #[.int .i64 0,.int .i64 0,.int .i64 0,.slice none 0 0,.slice none 0 0]/\aW (wx.setCell ⟨g,i,none⟩ u) b M/\w.grownBy (wx.setCell ⟨g,i,none⟩ u) (some b)/\
  eN encI 1 (wx.setCell ⟨g,i,none⟩ u) (w.heap.size+1) Ai ins/\eN aN 2 (wx.setCell ⟨g,i,none⟩ u) (w.heap.size+1) At taken:=by
 obtain⟨E,z,B,C,r,y,F,G,D,l⟩:=h;have j:World.grownBy wx (wx.setCell ⟨g,i,none⟩ u) (some g):=bg (p:=⟨g,i,none⟩) (dX _ _) (.inl rfl) _;exact⟨z.far (p:=⟨g,i,none⟩) (by show w.heap.size≠g;omega) u,B.set (by omega) i u,bg (p:=⟨g,i,none⟩) C (.inr (by show w.heap.size<=g;omega)) u,
  ⟨r.sl.CV j (fun a n e=>D a n (by injection e with e;exact e.symm)),r.fr⟩,⟨y.sl.CV j (fun a n e=>l a n (by injection e with e;exact e.symm)),y.fr⟩⟩
theorem BJ.agd(h:BJ w b g k Ai ci ins At ct taken M inc wh wx)(x:Int):BJ w b g k Ai ci ins At ct taken M x wh (wx.setCell ⟨g,1,none⟩ (.int .i64 x)):=by obtain⟨a,c,d,e,f⟩:=h.put 1 (.int .i64 x);exact⟨h.1.eh 1 (.int .i64 x),a,c,d,e,f,h.2.2.2.2.2.2⟩
theorem BJ.age(h:BJ w b g k Ai ci ins At ct taken M inc wh wx)(x:Int):BJ w b g k Ai ci ins At ct taken M inc x (wx.setCell ⟨g,2,none⟩ (.int .i64 x)):=by obtain⟨a,c,d,e,f⟩:=h.put 2 (.int .i64 x);exact⟨h.1.eh 2 (.int .i64 x),a,c,d,e,f,h.2.2.2.2.2.2⟩
end
theorem amA(b M k:Nat)(w:World)(hM:M<=300000)(hk:k<=4)(hd:aW w b M):
  Calls prog 33 #[.pointer (some ⟨b,0,none⟩),.int .i64 k] w fun e w'=>∃m:fC,e=.returned (.agg #[.int .i64 m.az,.int .i64 m.ay,.int .i64 m.aQ,.slice m.Ai m.ins.length m.ci,.slice m.At m.taken.length m.ct])/\afD k m/\aaX m w' (w.heap.size+1)/\aW w' b (M+60)/\w.grownBy w' (some b):=by
 have I:=hd.lt;go_enter func33,ntmps33;go_wp2_with fail;refine(afV b M k _ (by omega) (by omega) (hd.alloc _)).mono ?_;rintro e w1 ⟨v1,ins,rfl,DU,ae,ab,bP,Y⟩;have ao:=atM DU;have ap:=atM ae;clear DU ae;obtain⟨Ai,ci,rfl,ie⟩:=ab.fresh iX;rw[at2]at ie;have af:=ab.Td;clear ab;go_wp2_with fail;refine(amL b (M+5*k) _ (by omega) bP).mono ?_;rintro e K ⟨v2,taken,rfl,mR,ad,dw,L⟩;obtain⟨At,ct,rfl,C8⟩:=ad.fresh dG;have ak:=ad.Td;have pG:=atM mR;have av:w.heap.size+1<=w1.heap.size:=by have:=Y.size;rw[at2]at this;omega
 have al:=C8.weaken av;have fk:=ie.grown L (fun g e=>by injection e;omega);have jW:=((ah.new w 53 #[.int .i64 0,.int .i64 0,.int .i64 0,.slice none 0 0,.slice none 0 0]).grown Y (by intro e;injection e;omega)).grown L (by intro e;injection e;omega);have pZ:w.grownBy K (some b):=bL (bL (eG (dX _ _) _) Y) L;have MW:=jW.lt;have aD:=L.size;have J:BJ w b K.heap.size k Ai ci ins At ct taken (M+5*k+16) 0 0 (K.alloc (.cells #[.int .i64 k,.int .i64 0,.int .i64 0,.slice Ai ins.length ci,.slice At taken.length ct] 53)):=
  ⟨ah.new _ _ _,jW.alloc _,dw.alloc _,eG pZ _,fk.alloc _,al.alloc _,MW,I,fun a ha=>by have:=af a ha;omega,fun a ha=>by have:=ak a ha;omega⟩
 clear mR ad C8 ie al fk jW pZ Y L bP dw hd af ak;go_wp2_with fail;generalize K.alloc (.cells #[.int .i64 k,.int .i64 0,.int .i64 0,.slice Ai ins.length ci,.slice At taken.length ct] 53)=w3 at*;generalize K.heap.size=g at*
 go_loopw [6] (fun i wr=>∃(n:Nat) (inc wh:Int),n<=k/\i=.int .i64 n/\(0<=inc/\inc<=600000*n)/\(0<=wh/\wh<=60000*n)/\BJ w b g k Ai ci ins At ct taken (M+5*k+16+3*n) inc wh wr) (fun i _=>k-(intOf i).toNat)
 case atStart=>exact⟨0,0,0,by omega,rfl,by omega,by omega,J⟩
 case round=>
  obtain⟨n,inc,wh,hn,rfl,MO,aC,hY⟩:=hrel;clear J;have J:=hY;clear hY;have aJ:inc<=3000000:=by omega
  have aR:wh<=3000000:=by omega
  by_cases fO:n<k
  ·go_upto_region 5 with fail
   generalize hN:M+5*k+16+3*n=N at*
   go_cut []from 19 to 24 (fun wx=>∃r:Int,0<=r/\r<600000/\BJ w b g k Ai ci ins At ct taken (N+2) (inc+r) wh wx)
   case first=>
    as_aux_lemma=>
     refine M3.iN (C:=FO g 53 (fun m=>#[.int .i64 k,m,.int .i64 wh,.slice Ai ins.length ci,.slice At taken.length ct])) (FO.jw _ _ _) (⟨_,J.1⟩) (aE:=?C9) [0,2] 5 (by kernel_rfl) (by kernel_rfl) rfl (by kernel_rfl) (by kernel_rfl) (by rfl) ?H1 ?M1
     case H1=>
      intro F hF am;simp only[M3.cL,atY,at0,at1]
      skip
      repeat(first|go_big_quiet_step(fail))
      refine wpQuiet_nil ?_;rfl
     case M1=>
      intro Q0 Z;refine M3.bQ [1,3] (by kernel_rfl) (by simp) ?_;intro w1 ba O i hi;simp only[bY,bZ,atU]at hi;have u:=J.aa O;clear O J;rcases hi with rfl|rfl
      ·have z:=u.1.cell 1;simp only[aq,ar,au]at z;refine M3.bH (.int .i64 inc) w1 rfl rfl (by go_simp) ⟨⟨_,u.1⟩,?_⟩;simp only[Act.put,aF,aG,aH,aI,aK,aL];clear ba;clear z;refine M3.bQ [3] (by kernel_rfl) (by simp) ?_;intro K gL P i hi;simp only[bY,bZ,atU]at hi;subst hi;have B:=u.aa P;clear P u;refine M3.iY 41 #[.pointer (some ⟨b,0,none⟩)] rfl rfl (by go_simp) ?_;refine(FM b (N) K (by omega) B.2.2.1).mono ?_;rintro e w3 ⟨r,rfl,TG,Q,hd,R⟩;have y:=B.DN hd R;refine⟨_,rfl,⟨_,y.1⟩,?_⟩;simp only[Act.put,aF,aG,aH,aI,aK,aL];clear hd R gL B;refine M3.bQ [4] (by kernel_rfl) (by simp) ?_;intro w4 kJ j i hi;simp only[bY,bZ,atU]at hi;subst hi;have D:=y.aa j;clear j y;refine M3.bH (.int .i64 (inc+r)) w4 rfl rfl (by have e:=CT (n:=inc+r) (by omega) (by omega);go_simp) ⟨⟨_,D.1⟩,?_⟩;simp only[Act.put,aF,aG,aH,aI,aK,aL];clear kJ;refine M3.bQ [5] (by kernel_rfl) (by simp) ?_;intro w5 bD S i hi;simp only[bY,bZ,atU]at hi;subst hi;have E:=D.aa S;clear S D;refine M3.bH (.pointer (some ⟨g,1,none⟩)) w5 rfl rfl (by go_simp) ⟨⟨_,E.1⟩,?_⟩;simp only[Act.put,aF,aG,aH,aI,aK,aL];clear bD;refine M3.bQ [6] (by kernel_rfl) (by simp) ?_;intro T fM U i hi;simp only[bY,bZ,atU]at hi;subst hi;have l:=E.aa U;clear U E;have z:=l.1.cell 1;have fz:=l.1.frozen 1;have lg:=l.1.lt;simp only[aq,ar,au]at z;have G:=l.agd (inc+r);refine M3.fw (T.setCell ⟨g,1,none⟩ (.int .i64 (inc+r))) rfl rfl (by go_simp) ⟨⟨_,G.1⟩,?_⟩;simp only[Act.put,aF,aG,aH];clear z fz lg fM l;generalize T.setCell ⟨g,1,none⟩ (.int .i64 (inc+r))=w7 at*;refine M3.kI (by kernel_rfl) ?_;intro w8 df V;refine Z _ _ ?_;have NJ:=G.aa V;clear V df Z G;go_wp2_with fail;go_meet;exact⟨r,TG,Q,NJ⟩
      ·refine M3.iY 41 #[.pointer (some ⟨b,0,none⟩)] rfl rfl (by go_simp) ?_;refine(FM b (N) w1 (by omega) u.2.2.1).mono ?_;rintro e K ⟨r,rfl,TG,Q,hd,R⟩;have B:=u.DN hd R;refine⟨_,rfl,⟨_,B.1⟩,?_⟩;simp only[Act.put,aF,aG,aH,aI,aK,aL];clear hd R ba u;refine M3.bQ [1] (by kernel_rfl) (by simp) ?_;intro w3 bW X i hi;simp only[bY,bZ,atU]at hi;subst hi;have y:=B.aa X;clear X B;have z:=y.1.cell 1;simp only[aq,ar,au]at z;refine M3.bH (.int .i64 inc) w3 rfl rfl (by go_simp) ⟨⟨_,y.1⟩,?_⟩;simp only[Act.put,aF,aG,aH,aI,aK,aL];clear bW;clear z;refine M3.bQ [4] (by kernel_rfl) (by simp) ?_;intro w4 kJ j i hi;simp only[bY,bZ,atU]at hi;subst hi;have D:=y.aa j;clear j y;refine M3.bH (.int .i64 (inc+r)) w4 rfl rfl (by have e:=CT (n:=inc+r) (by omega) (by omega);go_simp) ⟨⟨_,D.1⟩,?_⟩;simp only[Act.put,aF,aG,aH,aI,aK,aL];clear kJ;refine M3.bQ [5] (by kernel_rfl) (by simp) ?_;intro w5 bD S i hi;simp only[bY,bZ,atU]at hi;subst hi;have E:=D.aa S;clear S D;refine M3.bH (.pointer (some ⟨g,1,none⟩)) w5 rfl rfl (by go_simp) ⟨⟨_,E.1⟩,?_⟩;simp only[Act.put,aF,aG,aH,aI,aK,aL];clear bD;refine M3.bQ [6] (by kernel_rfl) (by simp) ?_;intro T fM U i hi;simp only[bY,bZ,atU]at hi;subst hi;have l:=E.aa U;clear U E;have z:=l.1.cell 1;have fz:=l.1.frozen 1;have lg:=l.1.lt;simp only[aq,ar,au]at z;have G:=l.agd (inc+r);refine M3.fw (T.setCell ⟨g,1,none⟩ (.int .i64 (inc+r))) rfl rfl (by go_simp) ⟨⟨_,G.1⟩,?_⟩;simp only[Act.put,aF,aG,aH];clear z fz lg fM l;generalize T.setCell ⟨g,1,none⟩ (.int .i64 (inc+r))=w7 at*;refine M3.kI (by kernel_rfl) ?_;intro w8 df V;refine Z _ _ ?_;have NJ:=G.aa V;clear V df Z G;go_wp2_with fail;go_meet;exact⟨r,TG,Q,NJ⟩
   case rest=>
    obtain⟨r1,aS,aT,u⟩:=hcut;clear J;go_upto_region 6 with fail
    have J:=u;clear u;refine M3.iN (C:=FO g 53 (fun m=>#[.int .i64 k,.int .i64 (inc+r1),m,.slice Ai ins.length ci,.slice At taken.length ct])) (FO.jw _ _ _) (⟨_,J.1⟩) (aE:=?VD) [0,2] 5 (by kernel_rfl) (by kernel_rfl) rfl (by kernel_rfl) (by kernel_rfl) (by rfl) ?H2 ?M2
    case H2=>
     intro F hF am;simp only[M3.cL,atY,at0,at1]
     skip
     repeat(first|go_big_quiet_step(fail))
     refine wpQuiet_nil ?_;rfl
    case M2=>
     intro Q0 Z;refine M3.bQ [1,3] (by kernel_rfl) (by simp) ?_;intro w1 ba O i hi;simp only[bY,bZ,atU]at hi;have u:=J.aa O;clear O J;rcases hi with rfl|rfl
     ·have z:=u.1.cell 2;simp only[aq,ar,au]at z;refine M3.bH (.int .i64 wh) w1 rfl rfl (by go_simp) ⟨⟨_,u.1⟩,?_⟩;simp only[Act.put,aF,aG,aH,aI,aK,aL];clear ba;clear z;refine M3.bQ [3] (by kernel_rfl) (by simp) ?_;intro K gL P i hi;simp only[bY,bZ,atU]at hi;subst hi;have B:=u.aa P;clear P u;refine M3.iY 34 #[.pointer (some ⟨b,0,none⟩),.int .i64 60000] rfl rfl (by go_simp) ?_;refine(il b (N+2) 60000 K (by omega) (by omega) (by omega) B.2.2.1).mono ?_;rintro e w3 ⟨r,rfl,TG,Q,hd,R⟩;have y:=B.DN hd R;refine⟨_,rfl,⟨_,y.1⟩,?_⟩;simp only[Act.put,aF,aG,aH,aI,aK,aL];clear hd R gL B;refine M3.bQ [4] (by kernel_rfl) (by simp) ?_;intro w4 kJ j i hi;simp only[bY,bZ,atU]at hi;subst hi;have D:=y.aa j;clear j y;refine M3.bH (.int .i64 (wh+r)) w4 rfl rfl (by have e:=CT (n:=wh+r) (by omega) (by omega);go_simp) ⟨⟨_,D.1⟩,?_⟩;simp only[Act.put,aF,aG,aH,aI,aK,aL];clear kJ;refine M3.bQ [5] (by kernel_rfl) (by simp) ?_;intro w5 bD S i hi;simp only[bY,bZ,atU]at hi;subst hi;have E:=D.aa S;clear S D;refine M3.bH (.pointer (some ⟨g,2,none⟩)) w5 rfl rfl (by go_simp) ⟨⟨_,E.1⟩,?_⟩;simp only[Act.put,aF,aG,aH,aI,aK,aL];clear bD;refine M3.bQ [6] (by kernel_rfl) (by simp) ?_;intro T fM U i hi;simp only[bY,bZ,atU]at hi;subst hi;have l:=E.aa U;clear U E;have z:=l.1.cell 2;have fz:=l.1.frozen 2;have lg:=l.1.lt;simp only[aq,ar,au]at z;have G:=l.age (wh+r);refine M3.fw (T.setCell ⟨g,2,none⟩ (.int .i64 (wh+r))) rfl rfl (by go_simp) ⟨⟨_,G.1⟩,?_⟩;simp only[Act.put,aF,aG,aH];clear z fz lg fM l;generalize T.setCell ⟨g,2,none⟩ (.int .i64 (wh+r))=w7 at*;refine M3.kI (by kernel_rfl) ?_;intro w8 df V;refine Z _ _ ?_;have NJ:=G.aa V;clear V df Z G;go_wp2_with fail;go_roundw
      case rel=>exact⟨n+1,inc+r1,wh+r,by omega,by go_num,by omega,by omega,by rw[show M+5*k+16+3*(n+1)=N+2+1 by omega];exact NJ⟩
      case measure=>simp[intOf];omega
     ·refine M3.iY 34 #[.pointer (some ⟨b,0,none⟩),.int .i64 60000] rfl rfl (by go_simp) ?_;refine(il b (N+2) 60000 w1 (by omega) (by omega) (by omega) u.2.2.1).mono ?_;rintro e K ⟨r,rfl,TG,Q,hd,R⟩;have B:=u.DN hd R;refine⟨_,rfl,⟨_,B.1⟩,?_⟩;simp only[Act.put,aF,aG,aH,aI,aK,aL];clear hd R ba u;refine M3.bQ [1] (by kernel_rfl) (by simp) ?_;intro w3 bW X i hi;simp only[bY,bZ,atU]at hi;subst hi;have y:=B.aa X;clear X B;have z:=y.1.cell 2;simp only[aq,ar,au]at z;refine M3.bH (.int .i64 wh) w3 rfl rfl (by go_simp) ⟨⟨_,y.1⟩,?_⟩;simp only[Act.put,aF,aG,aH,aI,aK,aL];clear bW;clear z;refine M3.bQ [4] (by kernel_rfl) (by simp) ?_;intro w4 kJ j i hi;simp only[bY,bZ,atU]at hi;subst hi;have D:=y.aa j;clear j y;refine M3.bH (.int .i64 (wh+r)) w4 rfl rfl (by have e:=CT (n:=wh+r) (by omega) (by omega);go_simp) ⟨⟨_,D.1⟩,?_⟩;simp only[Act.put,aF,aG,aH,aI,aK,aL];clear kJ;refine M3.bQ [5] (by kernel_rfl) (by simp) ?_;intro w5 bD S i hi;simp only[bY,bZ,atU]at hi;subst hi;have E:=D.aa S;clear S D;refine M3.bH (.pointer (some ⟨g,2,none⟩)) w5 rfl rfl (by go_simp) ⟨⟨_,E.1⟩,?_⟩;simp only[Act.put,aF,aG,aH,aI,aK,aL];clear bD;refine M3.bQ [6] (by kernel_rfl) (by simp) ?_;intro T fM U i hi;simp only[bY,bZ,atU]at hi;subst hi;have l:=E.aa U;clear U E;have z:=l.1.cell 2;have fz:=l.1.frozen 2;have lg:=l.1.lt;simp only[aq,ar,au]at z;have G:=l.age (wh+r);refine M3.fw (T.setCell ⟨g,2,none⟩ (.int .i64 (wh+r))) rfl rfl (by go_simp) ⟨⟨_,G.1⟩,?_⟩;simp only[Act.put,aF,aG,aH];clear z fz lg fM l;generalize T.setCell ⟨g,2,none⟩ (.int .i64 (wh+r))=w7 at*;refine M3.kI (by kernel_rfl) ?_;intro w8 df V;refine Z _ _ ?_;have NJ:=G.aa V;clear V df Z G;go_wp2_with fail;go_roundw
      case rel=>exact⟨n+1,inc+r1,wh+r,by omega,by go_num,by omega,by omega,by rw[show M+5*k+16+3*(n+1)=N+2+1 by omega];exact NJ⟩
      case measure=>simp[intOf];omega
  ·obtain rfl:n=k:=by omega
   obtain⟨dL,gZ,gi,lA,IX,P2,aU⟩:=J
   rename World=>w7
   obtain⟨x0,x1,x2,x3,x4⟩:=dL.cz5;have l1:=dL.lt;clear dL;obtain⟨y0,y1,y2,y3,y4⟩:=gZ.cz5;obtain⟨IA,IB,IC,ID,Ll⟩:=gZ.fz5;have l2:=gZ.lt;have aj:=gZ.fill [.int .i64 n,.int .i64 inc,.int .i64 wh,.slice Ai ins.length ci,.slice At taken.length ct] rfl;simp only[ir,atX,Nat.reduceAdd]at aj;have jU:=(aW.set (aW.set (aW.set (aW.set (aW.set gi (g:=w.heap.size) I 0 (.int .i64 n)) (g:=w.heap.size) I 1 (.int .i64 inc)) (g:=w.heap.size) I 2 (.int .i64 wh)) (g:=w.heap.size) I 3 (.slice Ai ins.length ci)) (g:=w.heap.size) I 4 (.slice At taken.length ct))
   have jV:=(bg (p:=⟨w.heap.size,4,none⟩) (bg (p:=⟨w.heap.size,3,none⟩) (bg (p:=⟨w.heap.size,2,none⟩) (bg (p:=⟨w.heap.size,1,none⟩) (bg (p:=⟨w.heap.size,0,none⟩) lA (.inr (atN _)) (.int .i64 n)) (.inr (atN _)) (.int .i64 inc)) (.inr (atN _)) (.int .i64 wh)) (.inr (atN _)) (.slice Ai ins.length ci)) (.inr (atN _)) (.slice At taken.length ct))
   have an:=(((((IX.set (g:=w.heap.size) (by omega) 0 (.int .i64 n)).set (g:=w.heap.size) (by omega) 1 (.int .i64 inc)).set (g:=w.heap.size) (by omega) 2 (.int .i64 wh)).set (g:=w.heap.size) (by omega) 3 (.slice Ai ins.length ci)).set (g:=w.heap.size) (by omega) 4 (.slice At taken.length ct))
   have Tr:=(((((P2.set (g:=w.heap.size) (by omega) 0 (.int .i64 n)).set (g:=w.heap.size) (by omega) 1 (.int .i64 inc)).set (g:=w.heap.size) (by omega) 2 (.int .i64 wh)).set (g:=w.heap.size) (by omega) 3 (.slice Ai ins.length ci)).set (g:=w.heap.size) (by omega) 4 (.slice At taken.length ct))
   clear gZ gi lA IX P2;go_wp2_with fail;generalize World.setCell _ ⟨w.heap.size,4,none⟩ _=WW at aj jU jV an Tr|-;obtain⟨q0,q1,q2,q3,q4⟩:=aj.cz5;refine at5 (v:=.agg #[.int .i64 n,.int .i64 inc,.int .i64 wh,.slice Ai ins.length ci,.slice At taken.length ct]) ?_ rfl (⟨⟨n,inc,wh,Ai,ci,ins,At,ct,taken⟩,rfl,⟨rfl,ao.out,ap.out,MO,aC,pG.out⟩,⟨an,Tr⟩,jU.mono (by omega),jV⟩);simp[results,results33,go_sem,q0,q1,q2,q3,q4]
