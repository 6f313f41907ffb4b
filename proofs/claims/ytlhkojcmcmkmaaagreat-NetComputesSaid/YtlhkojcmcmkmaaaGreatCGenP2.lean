/- Conditions: as stated. -/
import Derived.Test.YtlhkojcmcmkmaaaGreatCGenY
set_option maxRecDepth 100000
set_option maxHeartbeats 4000000
namespace Go.Proofs.YtlhkojcmcmkmaaaGreat
open Go.Proofs.Tryz
open Go.RowKit
structure Lg(m:fB)(w:World)(base:Nat):Prop where
 ds:eN jH 6 w base m.Ad m.ds
 os:eN mO 5 w base m.Ao m.os
 es:eN pS 2 w base m.Ae m.es
 ins:∀e∈m.es,eN encI 1 w base e.A e.l
theorem Lg.set{m:fB}{w:World}{base:Nat}(h:Lg m w base){g:Nat}(j:g<base)(i:Nat)(u:Value):Lg m (w.setCell ⟨g,i,none⟩ u) base:=⟨h.ds.set j i u,h.os.set j i u,h.es.set j i u,fun e l=>(h.ins e l).set j i u⟩
structure afC(k:Nat)(m:fB):Prop where
 deps:0<=m.deps/\m.deps<=3
 ds:GenD 4 m.ds
 os:Cj 5 m.os
 len:m.es.length<=2
 lens:∀e∈m.es,e.l.length=k
 RR:∀e∈m.es,0<=e.base/\e.base<=1000000
 RS:∀e∈m.es,∀x∈e.l,0<=x/\x<=1000000
theorem eN.off{l:Type}{j:l->List Value}{k:Nat}{w:World}{base g:Nat}{A:Option Addr}{xs:List l}(h:eN j k w base A xs)(n:∀a,A=some a->a.block≠g)(i:Nat)(u:Value):eN j k (w.setCell ⟨g,i,none⟩ u) base A xs:=
 ⟨h.sl.CV (row:=some g) (bg (p:=⟨g,i,none⟩) (dX _ _) (.inl rfl) u) (fun a r e=>n a r (by injection e with e;exact e.symm)),h.fr⟩
theorem amz(b M k:Nat)(w:World)(hM:M<=200000)(hk:k<=4)(hd:aW w b M):
  Calls prog 50 #[.pointer (some ⟨b,0,none⟩),.int .i64 k] w fun e w'=>∃m:fB,e=.returned (.agg #[.int .i64 m.deps,.slice m.Ad m.ds.length m.cd,.slice m.Ao m.os.length m.co,.slice m.Ae m.es.length m.ce])/\afC k m/\Lg m w' (w.heap.size+1)/\aW w' b (M+700)/\w.grownBy w' (some b):=by
 have B:=hd.lt;go_enter func50,ntmps50;go_wp2_with fail;refine(il b M _ _ (by omega) (by omega) (by omega) (hd.alloc _)).mono ?_;rintro e w1 ⟨j,rfl,Z,aQ,bP,I⟩;have az:w.heap.size+1<=w1.heap.size:=by have:=I.size;rw[at2]at this;omega
 go_wp2_with fail;refine(amK b (M+1) _ (by omega) bP).mono ?_;rintro e w2 ⟨v2,u,rfl,ab,O,dw,J⟩;obtain⟨n,y,rfl,KY⟩:=O.fresh GM;have ad:=O.Td;have ae:=atM ab;have aC:w.heap.size+1<=w2.heap.size:=by have:=J.size;omega
 clear ab O;go_wp2_with fail;refine(amQ b (M+1+32) _ (by omega) dw).mono ?_;rintro e w3 ⟨v3,os,rfl,CZ,P,fg,F⟩;obtain⟨r,co,rfl,CL⟩:=P.fresh afY;have af:=P.Td;have ak:=atM CZ;have aR:=F.size;clear CZ P;have FN:=(KY.weaken az).grown F (fun g e=>by injection e;omega);have al:=CL.weaken aC;have ko:=((ah.new w 50 #[.int .i64 0,.slice none 0 0,.slice none 0 0,.slice none 0 0]).grown I (by intro e;injection e;omega)).grown J (by intro e;injection e;omega) |>.grown F (by intro e;injection e;omega);have zY:w.grownBy w3 (some b):=bL (bL (bL (eG (dX _ _) _) I) J) F;clear I J F bP dw hd KY CL;have j9:=ah.new w3 50 #[.int .i64 j,.slice n u.length y,.slice r os.length co,.slice none 0 0];have AE:=ko.alloc (.cells #[.int .i64 j,.slice n u.length y,.slice r os.length co,.slice none 0 0] 50);have fG:=fg.alloc (.cells #[.int .i64 j,.slice n u.length y,.slice r os.length co,.slice none 0 0] 50);have DD:=eG zY (.cells #[.int .i64 j,.slice n u.length y,.slice r os.length co,.slice none 0 0] 50);have WU:=FN.alloc (.cells #[.int .i64 j,.slice n u.length y,.slice r os.length co,.slice none 0 0] 50);have pg:=al.alloc (.cells #[.int .i64 j,.slice n u.length y,.slice r os.length co,.slice none 0 0] 50);have aD:∀a,n=some a->a.block≠w3.heap.size:=fun a K=>by have:=ad a K;omega
 have aE:∀a,r=some a->a.block≠w3.heap.size:=fun a K=>by have:=af a K;omega
 have Cx:w.heap.size≠w3.heap.size:=by omega
 have iy:w.heap.size<=w3.heap.size:=by omega
 have aJ:b<w3.heap.size:=by omega
 have I8:w3.heap.size<(w3.alloc (.cells #[.int .i64 j,.slice n u.length y,.slice r os.length co,.slice none 0 0] 50)).heap.size:=by rw[at2];omega
 clear ad af ko fg zY FN al;go_upto_region 2 with fail
 generalize w3.alloc (.cells #[.int .i64 j,.slice n u.length y,.slice r os.length co,.slice none 0 0] 50)=w4 at*;generalize w3.heap.size=g at*;go_wp2_with fail;refine(il b (M+1+32+45) _ _ (by omega) (by omega) (by omega) fG).mono ?_;rintro e w5 ⟨r5,rfl,Tm,aM,eV,Q⟩;have jI:=j9.grown Q (by intro e;injection e;omega);have G:=AE.grown Q (by intro e;injection e;omega);have R:=WU.grown Q (fun g e=>by injection e;omega);have lW:=pg.grown Q (fun g e=>by injection e;omega);have zZ:=bL DD Q;have aS:g<w5.heap.size:=by have:=Q.size;omega
 clear j9 AE fG DD WU pg Q;by_cases h5:r5=0
 ·subst h5;go_wp2_with fail;refine(il b (M+1+32+45+1) _ _ (by omega) (by omega) (by omega) eV).mono ?_;rintro e w6 ⟨r6,rfl,Lj,bu,gD,S⟩;obtain⟨n6,IE⟩:∃n6:Nat,1+r6=n6:=⟨(1+r6).toNat,by omega⟩
  have aT:n6<=2:=by omega
  have eW:=jI.grown S (by intro e;injection e;omega);have ee:=G.grown S (by intro e;injection e;omega);have am:=R.grown S (fun g e=>by injection e;omega);have NB:=lW.grown S (fun g e=>by injection e;omega);have BI:=bL zZ S;have aU:g<w6.heap.size:=by have:=S.size;omega
  clear jI G eV zZ R lW S;go_wp2_with fail;clear IE;refine(amT b (M+1+32+45+1+1) n6 k _ (by omega) (by omega) (by omega) gD).mono ?_;rintro e w7 ⟨v7,C,rfl,iP,T,Ix,gi,Y⟩;obtain⟨D,E,rfl,U⟩:=Ix.fresh KT;have an:=U.weaken (show w.heap.size+1<=w6.heap.size by omega);have ao:∀a,D=some a->a.block≠g:=fun a K=>by have:=U.fr a K;omega
  have na:∀e∈C,eN encI 1 w7 (w.heap.size+1) e.A e.l:=fun e L=>⟨T.sl e L,fun a K=>by have:=(T.fr e L a K).1;omega⟩
  have KA:∀e∈C,∀a,e.A=some a->a.block≠g:=fun e L a K=>by have:=(T.fr e L a K).1;omega
  have O1:=atM iP;have V:=atM (And.intro T.len (And.intro T.RR T.RS));have dL:=eW.grown Y (by intro e;injection e;omega);have gZ:=ee.grown Y (by intro e;injection e;omega);have ap:=am.grown Y (fun g e=>by injection e;omega);have Tn:=NB.grown Y (fun g e=>by injection e;omega);have lA:=bL BI Y;clear eW ee gD BI am NB Y U Ix T iP;have z:=dL.cell 3;have fz:=dL.frozen 3;have lg:=dL.lt;simp only[aq,ar,au]at z;have dB:=dL.eh 3 (.slice D C.length E);simp only[aua,at8,at9]at dB;have N:=gZ.far (p:=⟨g,3,none⟩) Cx (.slice D C.length E);have jd:=gi.set aJ 3 (.slice D C.length E);have l8:=bg (p:=⟨g,3,none⟩) lA (.inr iy) (.slice D C.length E);have av:Lg ⟨j,n,y,u,r,co,os,D,E,C⟩ (w7.setCell ⟨g,3,none⟩ (.slice D C.length E)) (w.heap.size+1):=⟨ap.off aD _ _,Tn.off aE _ _,an.off ao _ _,fun e L=>(na e L).off (KA e L) _ _⟩
  go_upto_region 4 with fail
  clear z fz lg dL gZ gi lA ap Tn an na ao KA;generalize w7.setCell ⟨g,3,none⟩ (.slice D C.length E)=w8 at*;obtain⟨x0,x1,x2,x3⟩:=dB.cz4;have l1:=dB.lt;clear dB;obtain⟨y0,y1,y2,y3⟩:=N.cz4;have IA:=N.frozen 0;have IB:=N.frozen 1;have IC:=N.frozen 2;have ID:=N.frozen 3;have l2:=N.lt;have X:=N.fill [.int .i64 j,.slice n u.length y,.slice r os.length co,.slice D C.length E] rfl;simp only[ir,atX,Nat.reduceAdd]at X;have jU:=(aW.set (aW.set (aW.set (aW.set jd (g:=w.heap.size) B 0 (.int .i64 j)) (g:=w.heap.size) B 1 (.slice n u.length y)) (g:=w.heap.size) B 2 (.slice r os.length co)) (g:=w.heap.size) B 3 (.slice D C.length E))
  have jV:=(bg (p:=⟨w.heap.size,3,none⟩) (bg (p:=⟨w.heap.size,2,none⟩) (bg (p:=⟨w.heap.size,1,none⟩) (bg (p:=⟨w.heap.size,0,none⟩) l8 (.inr (atN _)) (.int .i64 j)) (.inr (atN _)) (.slice n u.length y)) (.inr (atN _)) (.slice r os.length co)) (.inr (atN _)) (.slice D C.length E))
  have Li:=((((av.set (g:=w.heap.size) (by omega) 0 (.int .i64 j)).set (g:=w.heap.size) (by omega) 1 (.slice n u.length y)).set (g:=w.heap.size) (by omega) 2 (.slice r os.length co)).set (g:=w.heap.size) (by omega) 3 (.slice D C.length E))
  clear N jd l8 av;go_wp2_with fail;generalize World.setCell _ ⟨w.heap.size,3,none⟩ _=WW at X jU jV Li|-;obtain⟨q0,q1,q2,q3⟩:=X.cz4;refine at5 (v:=.agg #[.int .i64 j,.slice n u.length y,.slice r os.length co,.slice D C.length E]) ?_ rfl (⟨⟨j,n,y,u,r,co,os,D,E,C⟩,rfl,⟨⟨Z,by show j<=3;omega⟩,ae.out,ak.out,by have:=O1.out;show C.length<=2;omega,V.out.1,V.out.2.1,V.out.2.2⟩,Li,jU.mono (by omega),jV⟩);simp[results,results50,go_sem,q0,q1,q2,q3]
 ·have WV:(r5==0)=false:=by simpa using h5
  clear h5;have Nr:Lg ⟨j,n,y,u,r,co,os,none,0,[]⟩ w5 (w.heap.size+1):=⟨R,lW,eN.cC _ _,fun e L=>(by cases L)⟩
  obtain⟨x0,x1,x2,x3⟩:=jI.cz4;have l1:=jI.lt;clear jI;obtain⟨y0,y1,y2,y3⟩:=G.cz4;have IA:=G.frozen 0;have IB:=G.frozen 1;have IC:=G.frozen 2;have ID:=G.frozen 3;have l2:=G.lt;have X:=G.fill [.int .i64 j,.slice n u.length y,.slice r os.length co,.slice none 0 0] rfl;simp only[ir,atX,Nat.reduceAdd]at X;have jU:=(aW.set (aW.set (aW.set (aW.set eV (g:=w.heap.size) B 0 (.int .i64 j)) (g:=w.heap.size) B 1 (.slice n u.length y)) (g:=w.heap.size) B 2 (.slice r os.length co)) (g:=w.heap.size) B 3 (.slice none 0 0))
  have jV:=(bg (p:=⟨w.heap.size,3,none⟩) (bg (p:=⟨w.heap.size,2,none⟩) (bg (p:=⟨w.heap.size,1,none⟩) (bg (p:=⟨w.heap.size,0,none⟩) zZ (.inr (atN _)) (.int .i64 j)) (.inr (atN _)) (.slice n u.length y)) (.inr (atN _)) (.slice r os.length co)) (.inr (atN _)) (.slice none 0 0))
  have Li:=((((Nr.set (g:=w.heap.size) (by omega) 0 (.int .i64 j)).set (g:=w.heap.size) (by omega) 1 (.slice n u.length y)).set (g:=w.heap.size) (by omega) 2 (.slice r os.length co)).set (g:=w.heap.size) (by omega) 3 (.slice none 0 0))
  clear G eV zZ Nr;go_wp2_with fail;generalize World.setCell _ ⟨w.heap.size,3,none⟩ _=WW at X jU jV Li|-;obtain⟨q0,q1,q2,q3⟩:=X.cz4;refine at5 (v:=.agg #[.int .i64 j,.slice n u.length y,.slice r os.length co,.slice none 0 0]) ?_ rfl (⟨⟨j,n,y,u,r,co,os,none,0,[]⟩,rfl,⟨⟨Z,by show j<=3;omega⟩,ae.out,ak.out,by simp,by simp,by simp,by simp⟩,Li,jU.mono (by omega),jV⟩);simp[results,results50,go_sem,q0,q1,q2,q3]
def GenE(e:List dr)(j:List Elem):Prop:=∀x∈j,(∃y∈e,x.code=y.code)/\-600000<x.amount/\x.amount<600000
def Lp(wr:World)(b M:Nat)(j:List dr)(s:Value)(e:World):Prop:=∃(g:Nat) (x:Elem),s=.pointer (some ⟨g,0,none⟩)/\wr.heap.size<=g/\ah e g 69 #[.string x.code,.int .i64 x.amount]/\aW e b M/\wr.grownBy e (some b)/\
 (∃y∈j,x.code=y.code)/\0<=x.amount/\x.amount<600000
theorem Lp.two{wr W:World}{b M g j:Nat}{n:List dr}{u:Array Value}{r:Int}(y:u.size=2)(B:ah W g 69 u)(z:wr.heap.size<=g)(J:b<wr.heap.size)(hd:aW W b M)(C:wr.grownBy W (some b))(D:j<n.length)(E:0<=r)(F:r<600000):
  Lp wr b M n (.pointer (some ⟨g,0,none⟩)) ((W.setCell ⟨g,0,none⟩ (.string n[j].code)).setCell ⟨g,1,none⟩ (.int .i64 r)):=by
 refine⟨g,⟨n[j].code,r⟩,rfl,z,?_,?_,?_,⟨n[j],atT D,rfl⟩,E,F⟩
 ·have G:=(B.eh 0 (.string n[j].code)).eh 1 (.int .i64 r);obtain⟨l⟩:=u
  match l,y with
  |[a,c],_=>simpa using G
 ·have I:W.grownBy ((W.setCell ⟨g,0,none⟩ (.string n[j].code)).setCell ⟨g,1,none⟩ (.int .i64 r)) (some g):=bg (p:=⟨g,1,none⟩) (bg (p:=⟨g,0,none⟩) (dX _ _) (.inl rfl) _) (.inl rfl) _;exact hd.grown I (fun k e=>by injection e;omega)
 ·exact bg (p:=⟨g,1,none⟩) (bg (p:=⟨g,0,none⟩) C (.inr z) _) (.inr z) _
theorem Lp.new{wr W:World}{b M g j:Nat}{e:List dr}{r:Int}(n:g=W.heap.size)(hd:aW W b M)(l:wr.grownBy W (some b))(p:j<e.length)(u:0<=r)(y:r<600000):
  Lp wr b M e (.pointer (some ⟨g,0,none⟩)) (W.alloc (.cells #[.string e[j].code,.int .i64 r] 69)):=by
 subst n;exact⟨W.heap.size,⟨e[j].code,r⟩,rfl,l.size,ah.new _ _ _,hd.alloc _,eG l _,⟨e[j],atT p,rfl⟩,u,y⟩
theorem afL(b M:Nat)(A:Option Addr)(B:List dr)(c n:Nat)(w:World)(hM:M<=800000)(hn:1<=n)(zM:n<=100)(hd:aW w b M)(hs:ai gX 6 w w.heap.size A B)(hA:∀a,A=some a->a.block≠b)(hl:B.length<=100):
  Calls prog 28 #[.pointer (some ⟨b,0,none⟩),.slice A B.length c,.int .i64 n] w fun e w'=>∃v C,e=.returned v/\GenE B C/\C.length<=n/\Own aN 2 69 w' w.heap.size v C/\aW w' b (M+1+4*n)/\w.grownBy w' (some b):=by
 have aD:=hd.lt;go_enter func28,ntmps28;go_wp2_with fail;refine(il b M _ _ (by omega) (by omega) (by omega) hd).mono ?_;rintro e w0 ⟨r0,rfl,ad,aE,eZ,F⟩;obtain⟨k0,rfl⟩:=avq ad;go_wp2_with fail
 go_loopw [7,8] (fun v i wr=>∃(k:Nat) (C:List Elem),k<=n/\i=.int .i64 k/\C.length+k<=n/\GenE B C/\Own aN 2 69 wr w.heap.size v C/\aW wr b (M+1+4*(n-k))/\w.grownBy wr (some b)) (fun _ i _=>(intOf i).toNat)
 case atStart=>exact⟨k0,[],by omega,rfl,by simp;omega,by simp[GenE],Own.cC _ _,eZ.mono (by omega),F⟩
 case round=>
  obtain⟨k,C,hk,rfl,aC,fT,j,G,E⟩:=hrel;have U:=G.lt;by_cases fK:0<k
  ·by_cases ae:0<B.length
   ·have V:B≠[]:=avm.1 ae;obtain⟨R,off,rfl,WX,X⟩:=hs V;have Y:=hA _ rfl;have Z:=atM X;clear X hs hA V;go_upto_region 5 with fail
    go_cut [9] (fun s9 wx=>Lp wr b (M+1+4*(n-k)+1+2) B s9 wx)
    case first=>
     go_region_with (first|(go_at_call 34;(refine(il b (M+1+4*(n-k)) _ _ (by omega) (by omega) (by omega) (by first|exact G|exact G.alloc _)).mono ?_;rintro e S ⟨r1,rfl,af,aJ,bP,r⟩;have NA:=bP.lt;obtain⟨j1,rfl⟩:=avq af;have ND:j1<B.length:=(by omega);have l:w.grownBy S (some b):=(by first|exact bL (SB E) r|exact bL (SB (eG E _)) r);have I:=(auX (a:=⟨R,off+j1*6+0,none⟩) (l.block R WX (fun e=>Y (by injection e)))).trans (Z.out j1 _ (atW ND) 0 _ rfl);simp only[atQ]at I;have aM:R<S.heap.size:=auD WX l.size;(try(have Tp:ah S wr.heap.size 69 #[.string ⟨#[]⟩,.int .i64 0]:=ah.grown (w:=(wr.alloc _).drew) (ah.new wr _ _) r (by intro e;injection e;omega);have ak:=Tp.cell 0;have al:=Tp.cell 1;have aQ:=Tp.frozen 0;have aR:=Tp.frozen 1;simp only[aq,ar,au]at ak al))))|(go_at_call 41;refine(FM b (M+1+4*(n-k)+1) _ (by omega) (by first|exact bP|exact bP.alloc _)).mono ?_;rintro e w2 ⟨r2,rfl,J,K,dw,u⟩;have DB:w.grownBy w2 (some b):=(by first|exact bL l u|exact bL (eG l _) u);have am:=(auX (a:=⟨R,off+j1*6+0,none⟩) (DB.block R WX (fun e=>Y (by injection e)))).trans (Z.out j1 _ (atW ND) 0 _ rfl);simp only[atQ]at am;have aS:R<w2.heap.size:=auD WX DB.size;(try(have eY:ah w2 S.heap.size 69 #[.string ⟨#[]⟩,.int .i64 0]:=ah.grown (w:=(S.alloc _)) (ah.new S _ _) u (by intro e;injection e;omega);have L:=eY.cell 0;have N:=eY.cell 1;have an:=eY.frozen 0;have ao:=eY.frozen 1;simp only[aq,ar,au]at L N));(try(have Lq:ah w2 wr.heap.size 69 #[.string ⟨#[]⟩,.int .i64 0]:=Tp.grown u (by intro e;injection e;omega);have L:=Lq.cell 0;have N:=Lq.cell 1;have an:=Lq.frozen 0;have ao:=Lq.frozen 1;simp only[aq,ar,au]at L N))))
     all_goals(go_wp2_with fail;go_meet;first|exact Lp.new rfl dw (by first|exact bL (bL (SB (dX _ _)) r) u) ND J K|exact Lp.two rfl eY (by have:=r.size;simp at this;omega) U dw (by exact bL (eG (bL (SB (dX _ _)) r) _) u) ND J K|exact Lp.two rfl Lq (atN _) U dw (by exact bL (bL (SB (eG (dX _ _) _)) r) u) ND J K)
    case rest=>
     obtain⟨g,x,rfl,ap,hB,Gi,l,ab,aT,I⟩:=hcut;have aU:g≠b:=(by omega);go_wp2_with fail;refine(il b (M+1+4*(n-k)+3) _ _ (by omega) (by omega) (by omega) Gi).mono ?_;rintro e w3 ⟨r3,rfl,PV,aV,fg,D⟩;have O:=hB.grown D (by intro e;injection e;omega);have d0:=O.cell 0;have d1:=O.cell 1;have f1:=O.frozen 1;have OO:=O.lt;simp only[aq,ar,au]at d0 d1;have T:wr.grownBy w3 (some b):=bL l D;have jx:=j.kept T (by intro g e;injection e;omega);have av:∀q,u7.ownBlock=some q->q≠g:=fun q hq=>by have:=(j.bR hq).2;omega
     by_cases P:r3=0
     ·subst P;have e1:=O.eh 1 (.int .i64 (-x.amount));simp at e1;have O8:=e1.cell 0;have az:=e1.cell 1;simp only[aq,ar,au]at O8 az;have eE:=jx.setCell (p:=⟨g,1,none⟩) av (.int .i64 (-x.amount));have DD:=bg (p:=⟨g,1,none⟩) T (.inr ap) (.int .i64 (-x.amount));have dP:w.heap.size<=(w3.setCell ⟨g,1,none⟩ (.int .i64 (-x.amount))).heap.size:=at7 E.size DD.size;have lV:=fun q hq=>(j.bR (g:=q) hq).1;have fG:aW (w3.setCell ⟨g,1,none⟩ (.int .i64 (-x.amount))) b (M+1+4*(n-k)+3+1):=fg.grown (bg (dX _ _) (.inl rfl) _:w3.grownBy _ (some g)) (fun q e=>by injection e;omega);clear hB O j jx Gi fg G eZ hd l D T F e1;go_wp2_with(at_builtin;(refine lD _ _ 51 ⟨x.code,-x.amount⟩ _ 24 _ nQ underlying51 eE dG (by omega) rfl (mF _) (by omega) (by omega) dP (by rfl) (by rfl) (by rfl) (by rfl) (by simp) (by rfl) ?_);intro v2 Q cA cE);have EE:GenE B (C++[⟨x.code,-x.amount⟩]):=by
       intro y hy;rcases aul.1 hy with h1|h1
       ·exact fT y h1
       ·simp at h1;subst h1;exact⟨ab,by show-600000< -x.amount;omega,by show-x.amount<600000;omega⟩
      go_roundw
      case rel=>
       have aj:∃(k':Nat) (z:List Elem),k'<=n/\Value.int .i64 ((k:Int)-1)=.int .i64 k'/\z.length+k'<=n/\GenE B z/\Own aN 2 69 Q w.heap.size v2 z/\aW Q b (M+1+4*(n-k'))/\w.grownBy Q (some b):=
        ⟨k-1,_,by omega,by go_num,by simp;omega,EE,cA,(fG.grown cE (fun q e=>by have:=lV q e;omega)).mono (by omega),pT (bL E DD) cE (fun q e=>.inl (lV q e))⟩
       first|exact aj|((repeat apply Exists.intro);exact⟨aj,rfl⟩)
      case measure=>simp[intOf];omega
     ·have aX:(r3==0)=false:=(by simpa using P);have dP:w.heap.size<=w3.heap.size:=at7 E.size T.size;have lV:=fun q hq=>(j.bR (g:=q) hq).1;have nE:=bL E T;clear hB O j Gi G eZ hd l D T F P;go_wp2_with(at_builtin;(refine lD _ _ 51 ⟨x.code,x.amount⟩ _ 24 _ nQ underlying51 jx dG (by omega) rfl (mF _) (by omega) (by omega) dP (by rfl) (by rfl) (by rfl) (by rfl) (by simp) (by rfl) ?_);intro v2 Q cA cE);have EE:GenE B (C++[⟨x.code,x.amount⟩]):=by
       intro y hy;rcases aul.1 hy with h1|h1
       ·exact fT y h1
       ·simp at h1;subst h1;exact⟨ab,by show-600000<x.amount;omega,I⟩
      go_roundw
      case rel=>
       have aj:∃(k':Nat) (z:List Elem),k'<=n/\Value.int .i64 ((k:Int)-1)=.int .i64 k'/\z.length+k'<=n/\GenE B z/\Own aN 2 69 Q w.heap.size v2 z/\aW Q b (M+1+4*(n-k'))/\w.grownBy Q (some b):=
        ⟨k-1,_,by omega,by go_num,by simp;omega,EE,cA,(fg.grown cE (fun q e=>by have:=lV q e;omega)).mono (by omega),pT nE cE (fun q e=>.inl (lV q e))⟩
       first|exact aj|((repeat apply Exists.intro);exact⟨aj,rfl⟩)
      case measure=>simp[intOf];omega
   ·go_wp2_with fail;go_ret;exact⟨_,C,rfl,fT,by omega,j,G.mono (by omega),E⟩
  ·go_wp2_with fail;go_ret;exact⟨_,C,rfl,fT,by omega,j,G.mono (by omega),E⟩
