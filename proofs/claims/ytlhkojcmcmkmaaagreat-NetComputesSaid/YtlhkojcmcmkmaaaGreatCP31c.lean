/- Conditions: as stated. -/
import Derived.Test.YtlhkojcmcmkmaaaGreatCP31b
set_option maxRecDepth 100000
set_option maxHeartbeats 8000000
namespace Go.Proofs.YtlhkojcmcmkmaaaGreat
open Go.Proofs.Tryz
open Go.RowKit Go.Sort Go.Shelf
theorem ahF{n:Type}{p:n->Bool}:∀(l:List n) (c:Nat) (e:c<(l.takeWhile p).length),∃y:c<l.length,p l[c]=true/\(l.takeWhile p)[c]=l[c]
 |[],c,e=>by simp at e
 |a::l,c,e=>by
  by_cases j:p a=true
  ·rw[avz j]at e;cases c with
   |zero=>exact⟨by simp,j,by simp[avz j]⟩
   |succ c=>obtain⟨z,r,u⟩:=ahF l c (by simpa using e);exact⟨by simp;omega,by simpa using r,by simp[avz j];exact u⟩
  ·rw[List.takeWhile_cons_of_neg j]at e;simp at e
theorem ahG{n:Type}{p:n->Bool}:∀(l:List n) (h:(l.takeWhile p).length<l.length),p l[(l.takeWhile p).length]=false
 |[],h=>by simp at h
 |a::l,h=>by
  by_cases j:p a=true
  ·have e:(a::l).takeWhile p=a::l.takeWhile p:=avz j;simp only[e,at4,List.getElem_cons_succ]at h|-;exact ahG l (by omega)
  ·have e:(a::l).takeWhile p=[]:=List.takeWhile_cons_of_neg j;simp only[e,aug,avv];simpa using j
def qz(l:List bn)(e:List Nat)(f:Nat):List Nat:=(e.drop f).takeWhile (FZ l (e.getD f 0))
theorem Qo{e:List Nat}{f:Nat}(h:f<e.length):e.getD f 0=e[f]:=by rw[atZ,atW h];rfl
theorem apV{l:List bn}{j:List Nat}{f:Nat}(h:f<j.length):0<(qz l j f).length/\f+(qz l j f).length<=j.length/\(∀c,c<(qz l j f).length->dV l (j.getD (f+c) 0)=dV l (j.getD f 0)/\(qz l j f)[c]?=some (j.getD (f+c) 0))/\
  (f+(qz l j f).length<j.length->dV l (j.getD (f+(qz l j f).length) 0)≠dV l (j.getD f 0)):=by
 have hd:j.drop f=j[f]::j.drop (f+1):=avD h;have u:(qz l j f).length<=(j.drop f).length:=(List.takeWhile_sublist _).length_le;rw[List.length_drop]at u;refine⟨?_,by omega,fun c y=>?_,fun n=>?_⟩
 ·unfold qz;rw[hd,Qo h,avz (by simp[FZ])];simp
 ·obtain⟨r,z,B⟩:=ahF _ c y;have e:(j.drop f)[c]=j.getD (f+c) 0:=by
   rw[List.getElem_drop,Qo (by simp at r;omega)]
  rw[e]at z B;refine⟨by simpa[FZ]using z,?_⟩;rw[atW y];exact congrArg some B
 ·have r:=ahG (p:=FZ l (j.getD f 0)) (j.drop f) (by rw[List.length_drop];unfold qz at n;omega);have e:(j.drop f)[(qz l j f).length]'(by rw[List.length_drop];omega)=j.getD (f+(qz l j f).length) 0:=by
   rw[List.getElem_drop,Qo n]
  unfold qz at e|-;rw[e]at r;simpa[FZ]using r
theorem apW{l:List bn}{e:List Nat}{f j:Nat}{left:Int}{T:List Int}(h:f<e.length):kg l (j+1) (e.drop f) left T=kg l j (e.drop (f+(qz l e f).length)) (left-ax (Av left (im l (qz l e f)))) (kt T (qz l e f) (Av left (im l (qz l e f)))):=by
 have hd:e.drop f=e[f]::e.drop (f+1):=avD h;have n:kf l e[f] (e.drop (f+1))=qz l e f:=by unfold kf qz;rw[<-hd,Qo h]
 rw[hd,kg,n,<-hd,List.drop_drop]
theorem apX{l:List bn}{g:List Nat}{c i:Nat}(h:g[c]?=some i):im l (g.take (c+1))=im l (g.take c)++[iZ (l.getD i gj)]:=by have e:=(aui.1 h).1;rw[aud e,im,auK];have:=(aui.1 h).2;rw[this];rfl
theorem apY{l:List bn}(e:∀o∈l,EM o){g:List Nat}(j:∀i∈g,i<l.length):∀x∈im l g,0<=x/\x<=1000000000:=fun x n=>by obtain⟨i,hi,rfl⟩:=aue.1 n;exact O3 (e _ (Ql (j i hi)))
theorem ahH{left:Int}{cs:List Int}(e:0<=left)(h:∀x∈cs,0<=x):(Av left cs).length=cs.length/\(∀x∈Av left cs,0<=x)/\ax (Av left cs)<=left:=by
 unfold Av;split
 ·rename_i j;exact⟨Pf _ _,abu e h (by omega),by rw[TT (by omega)];omega⟩
 ·exact⟨rfl,h,by omega⟩
theorem ab8{l:List bn}{w:World}{B:Nat}{p r:Nat}(h:ai mO 5 w B (some ⟨p,r,none⟩) l){i:Nat}(hi:i<l.length):∀j v,(mO (l.getD i gj))[j]?=some v->w.cell? ⟨p,r+i*5+j,none⟩=some v:=fun j v u=>by
 obtain⟨b,off,n,_,y⟩:=h.at_ hi;injection n with n
 injection n with z C
 subst z C;have e:l.getD i gj=l[i]:=by rw[atZ,atW hi];rfl
 rw[e]at u;exact y j v u
theorem Qp:∀{l:List Int},(∀x∈l,0<=x)->0<=ax l
 |[],_=>by simp[ax]
 |x::l,h=>by have e:=h x (by simp);have j:=Qp (l:=l) fun y hy=>h y (by simp[hy]);simp only[ax];omega
theorem ahI:∀(G:List Nat) (P T:List Int) (k:Nat) (e:k<G.length) (j:k<P.length),kt T (G.take (k+1)) (P.take (k+1))=(kt T (G.take k) (P.take k)).set G[k] P[k]
 |i::g,p::P,T,0,_,_=>rfl
 |i::g,p::P,T,k+1,e,j=>by simp only[avg,kt,List.getElem_cons_succ];exact ahI g P (T.set i p) k (by simpa using e) (by simpa using j)
theorem ahJ(A AI:Option Addr)(S ci m:Nat)(l:List bn)(K:List (Fin (m+1)))(left:Int)(C:Nat)(T:List Int)(w:World)(hm:l.length=m+1)(h:ai mO 5 w w.heap.size A l)(hl:Bq l)(hI:ai encI 1 w w.heap.size AI (dT K))(hx:K.Pairwise (fun a b=>a.val<b.val))(Az:K.length<=m+1)
  (hT:RowI w C T) (Hk:T.length=m+1) (l0:0<=left) (l1:left<=1000000000) (Ho:∀a,A=some a->a.block≠C):
  Calls prog 169 #[.slice A (m+1) S,.slice AI K.length ci,.int .i64 left,.slice (some ⟨C,0,none⟩) (m+1) (m+1)] w fun e w'=>e=.returned (.int .i64 0)/\∃ys:List (Fin (m+1)),ys.Perm K/\(ys.map (·.val)).Pairwise (NZ l)/\RowI w' C (kg l (m+1) (ys.map (·.val)) left T)/\w.grownBy w' (some C):=by
 have Qq:m+1<=16:=by rw[<-hm];exact hl.len
 have BP:(dT K).length=K.length:=by simp[dT]
 have cV:=atM hl;have HM:=atM hm;have O6:=hT.lt;obtain⟨L,oo,oF,Lk,_⟩:=h (by intro e2;rw[e2]at hm;simp at hm);subst oF;have bi:L≠C:=Ho _ rfl;clear hl hm Ho;go_enter func169,ntmps169;go_upto_region 1 with fail
 have hB:=ah.new w 47 #[.slice (some ⟨L,oo,none⟩) (m+1) S];have ae:=bC w (.cells #[.slice (some ⟨L,oo,none⟩) (m+1) S] 47);generalize w.alloc (.cells #[.slice (some ⟨L,oo,none⟩) (m+1) S] 47)=W at hB ae|-;have hG:qf w.heap.size (.slice (some ⟨L,oo,none⟩) (m+1) S) W:=⟨(hB.cell 0).trans rfl,hB.lt⟩
 have F:=ab7 AI ci (dT K) W (hI.aa ae) (by rw[BP];omega);rw[BP]at F;have Jf:=atM F;clear hB F hI;go_wp2_with fail;refine atV Jf.out ?_;rintro e w1 ⟨v,rfl,r,al⟩;have p7:=hG.aa al;have aS:=aA ae al;have oB:=hT.aa aS;have nu:=h.aa aS;have px:=ae.size;have mA:w.heap.size<W.heap.size:=hG.lt;have XE:=aS.size;have bk:=p7.lt;clear Jf hG ae al hT h;by_cases am:K=[]
 ·subst am;have hv:∃A' Q,v=.slice A' 0 Q:=by
   rcases r.2 with⟨h1,_⟩|⟨g,Q,bS,h1,_⟩
   ·exact⟨none,0,h1⟩
   ·exact⟨some ⟨g,0,none⟩,Q,h1⟩
  obtain⟨A',Q,rfl⟩:=hv;clear r;go_wp2_with fail;refine(ahK _ _ _ _ _).mono ?_;rintro e w' ⟨rfl,rfl⟩;go_wp2;refine wp_loop_rounds 1 ?_;rw[rounds_succ];go_wp2;go_ret;exact⟨rfl,[],List.Perm.refl _,List.Pairwise.nil,oB,KL aS _⟩
 ·have bl:0<K.length:=avm.2 am;obtain⟨M,cs,rfl,iy,aU,bm,U⟩:=r.known (by intro e;rw[e]at BP;simp at BP;omega);rw[BP]at r U|-;have aV:=ahM (Ul l) 208 #[.pointer (some ⟨w.heap.size,0,none⟩)] M cs K w1 hx (apM l) (enters_of func208 (by kernel_rfl) rfl)
   (fun mm os dk aX x y=>by have hg:=XX nM w1 M 0 mm dk os;have dE:ai mO 5 (sortWorld nM w1 M 0 mm dk os) (sortWorld nM w1 M 0 mm dk os).heap.size (some ⟨L,oo,none⟩) l:=nu.pQ hg (fun a z=>by injection z with z;subst z;show L≠M;omega);exact apO w.heap.size (m+1) S _ l x.val y.val _ x.isLt y.isLt HM.out (p7.grown hg (fun e=>by injection e;omega)) dE)
   r.ap1 aU (by omega)
  have X:=atM aV;have Pl:=atM r;clear aV r bm;go_wp2_with fail;refine atV X.out ?_;rintro e w5 ⟨rfl,ys,k5,bo,hp,IQ,an⟩;have aZ:w1.grownBy w5 (some M):=by rw[an];exact XX _ _ _ _ _ _ _
  obtain⟨VN,_⟩:=Pl.out.ap2 hp.length_eq;have ao:=VN.aa (ahN nM w1 M 0 k5 ys.toArray bo);rw[<-an]at ao;obtain⟨A9,c9,bp,dm,_,_⟩:=ao.form (fun _=>rfl);injection bp with j0
  subst j0;clear VN ao X Pl an;obtain⟨V,hV⟩:∃V,V=ys.map (·.val):=⟨_,rfl⟩
  have ap:V.length=K.length:=by rw[hV,auq,hp.length_eq]
  have aY:∀i,i<V.length->V.getD i 0<m+1:=fun i hi=>by rw[Qo hi];simp only[hV,List.getElem_map];exact Fin.isLt _
  have ab:∀(I:World),ai encI 1 I I.heap.size (some ⟨M,0,none⟩) (dT ys)->∀i,i<K.length->I.cell? ⟨M,i,none⟩=some (.int .i64 (V.getD i 0:Nat)):=fun I hs i hi=>by
   have af:i<(dT ys).length:=(by simp[dT];rw[hp.length_eq];exact hi);obtain⟨b,off,hA,_,hc⟩:=hs.at_ af;injection hA with hA
   injection hA with cZ dE
   subst cZ dE;have c0:=hc 0 _ rfl;simp only[atX,auo,atQ]at c0;rw[c0,Qo (by rw[ap];exact hi)];simp[dT,hV]
  have HP:=atM (show ys.Perm K/\V.Pairwise (NZ l)from⟨hp,by rw[hV];exact apN l IQ⟩);have HV:=atM hV;have LX:=atM ap;have Un:=atM aY;have KB:=atM ab;have zZ:=p7.grown aZ (fun e=>by injection e;omega);have a0:=oB.grown aZ (fun e=>by injection e;omega);have eC:ai mO 5 w5 w5.heap.size (some ⟨L,oo,none⟩) l:=nu.pQ aZ (fun a z=>by injection z with z;subst z;show L≠M;omega);have qo:=kH aS aZ (fun g e=>by injection e;omega);have bT:=aZ.size;have n1:M≠C:=by omega
  have n2:w.heap.size≠C:=by omega
  have n3:M<w5.heap.size:=by omega
  have n4:C<w5.heap.size:=by omega
  have n5:w.heap.size<w5.heap.size:=by omega
  clear hp IQ hV ap aY ab p7 oB nu aZ aS px XE mA bk aU iy am;obtain⟨N,hN⟩:∃N,K.length=N:=⟨_,rfl⟩
  rw[hN]at bl Az LX KB|-;clear hN BP;obtain⟨R,hR⟩:∃R,R=kg l (m+1) V left T:=⟨_,rfl⟩
  have bq:=atM hR;go_wp2
  go_loopw [10,11] (fun lf i wr=>∃(f fu:Nat) (E:Int) (T':List Int),f<=N/\i=.int .i64 f/\lf=.int .i64 E/\0<=E/\E<=1000000000/\T'.length=m+1/\N<=f+fu/\Hid (kg l fu (V.drop f) E T'=R)/\RowI wr C T'/\w5.grownBy wr (some C)) (fun _ i _=>N-(intOf i).toNat)
  case atStart=>exact⟨0,m+1,left,T,by omega,rfl,rfl,l0,l1,Hk,by omega,by rw[Hid,hR];rfl,a0,dX _ _⟩
  case round=>
   clear a0 hR;obtain⟨f,fu,E,T',hf,rfl,rfl,f0,f1,bs,bU,HR,XY,Fq⟩:=hrel;have N5:=dm.pQ Fq (fun a z=>by injection z with z;subst z;exact n1);have AL:=eC.pQ Fq (fun a z=>by injection z with z;subst z;exact bi);have N6:=zZ.grown Fq (fun e=>n2 (by injection e));have bV:=Fq.size;by_cases a1:f<N
   ·obtain⟨av,rfl⟩:∃av,fu=av+1:=⟨fu-1,by omega⟩
    have XZ:f<V.length:=(by rw[LX.out];exact a1);have D:=HR.out;rw[apW XZ]at D;obtain⟨bt,az,X0,X1⟩:=apV (l:=l) XZ;rw[LX.out]at az X1;obtain⟨G,hG⟩:∃G,qz l V f=G:=⟨_,rfl⟩
    rw[hG]at D bt az X0 X1;have aC:∀i∈G,i<l.length:=fun i hi=>by
     obtain⟨c,hc,e⟩:=aun.1 hi;have e2:=(X0 c hc).2;rw[atW hc,e]at e2;injection e2 with e2
     rw[e2,HM.out];exact Un.out _ (by rw[LX.out];omega)
    have MG:=atM (apY cV.out.ok aC);have bW:=atM aC;have bv:=atM D;have LY:=atM X0;have Qr:=atM X1;have JF:G.length<=16:=(by omega);have hj:V.getD f 0<l.length:=(by rw[HM.out];exact Un.out f XZ);have Pm:=atM Fq;have py:(f:Int)<(N:Int):=(by omega);clear hG D X0 X1 aC Fq HR XZ;have a2:=atM (fun I hs=>KB.out I hs f a1);generalize V.getD f 0=j at LY Qr hj a2;go_wp2
    go_loopw [12,13,14] (fun cv sv tv I=>∃c t:Nat,c<=G.length/\Hid (t=f+c)/\t<=N/\tv=.int .i64 (t:Int)/\sv=.int .i64 (ax (im l (G.take c)))/\Own encI 1 3 I wr.heap.size cv (im l (G.take c))/\Below wr.heap.size wr I) (fun _ _ tv _=>N-(intOf tv).toNat)
    case atStart=>exact⟨0,f,by omega,rfl,by omega,rfl,rfl,Own.cC _ _,atS _ _⟩
    case round=>
     rename World=>I
     obtain⟨c,t,hc,HT,ht,rfl,rfl,r,J⟩:=hrel;have Hd:=N5.aa J;have pF:=AL.aa J;have JV:=N6.aa J;have br:=J.size;have bX:(j:Int)<((m+1:Nat):Int):=(by rw[HM.out]at hj;omega);go_upto_region 9 with fail
     go_cut [73]from 32 to 90 (fun s Y=>s=.bool (decide (c<G.length))/\Below I.heap.size I Y)
     case first=>
      have z0:=JV.c;have s0:=a2.out I Hd;have eJ:∀n,Below I.heap.size I (I.drewN n):=fun n=>below_drewN (atS _ _) n;have X2:=atM eJ;clear eJ r;by_cases Qs:t<N
      ·have bw:(t:Int)<(N:Int):=(by omega);have s1:=KB.out I Hd t Qs;have hi:V.getD t 0<l.length:=(by rw[HM.out];exact Un.out t (by rw[LX.out];exact Qs));have af:((V.getD t 0:Nat):Int)<((m+1:Nat):Int):=(by rw[HM.out]at hi;omega);obtain⟨b',a3,O,b0,d1,d2⟩:=XV pF hj;injection O with O
       injection O with e1 e2
       subst e1 e2;obtain⟨b',a3,O,_,c1,c2⟩:=XV pF hi;injection O with O
       injection O with e1 e2
       subst e1 e2;have bx:(c<G.length/\dV l (V.getD t 0)=dV l j)\/(¬c<G.length/\dV l (V.getD t 0)≠dV l j):=by
        by_cases F:c<G.length
        ·have:=(LY.out c F).1;rw[<-HT.out]at this;exact .inl ⟨F,this⟩
        ·obtain rfl:c=G.length:=by omega
         have a4:=Qr.out (by rw[<-HT.out];exact Qs);rw[<-HT.out]at a4;exact .inr ⟨F,a4⟩
       clear hi hj Hd pF JV N5 AL N6 J LY Qr;generalize dV l (V.getD t 0)=ki at*;generalize V.getD t 0=i at*;generalize dV l j=kj at*;obtain⟨ri,di⟩:=ki;obtain⟨rj,dj⟩:=kj;simp only at c1 c2 d1 d2;rcases bx with⟨F,hk⟩|⟨F,hk⟩
       ·injection hk with k1 k2
        subst k1 k2;have HC:Hid (decide (c<G.length)=true):=(by simp[Hid,F]);have b1:(ri==ri)=true:=(by simp);have b2:(di==di)=true:=(by simp);clear F
        as_aux_lemma=>go_quiet(fail);go_wp2_with fail;go_meet;exact⟨by rw[HC.out],X2.out _⟩
       ·have HC:Hid (decide (c<G.length)=false):=(by simp[Hid,F]);clear F;by_cases k1:ri=rj
        ·have k2:di≠dj:=fun e=>hk (by rw[k1,e]);subst k1;have b1:(ri==ri)=true:=(by simp);have b2:(di==dj)=false:=(by simpa using k2);clear hk k2
         as_aux_lemma=>go_quiet(fail);go_wp2_with fail;go_meet;exact⟨by rw[HC.out],X2.out _⟩
        ·have b1:(ri==rj)=false:=(by simpa using k1);clear hk k1
         as_aux_lemma=>go_quiet(fail);go_wp2_with fail;go_meet;exact⟨by rw[HC.out],X2.out _⟩
      ·have HC:Hid (decide (c<G.length)=false):=by
        have:=HT.out;simp only[Hid,auA];omega
       have g0:decide ((t:Int)<(N:Int))=false:=(by simp;omega);have g1:decide (t<N)=false:=(by simp;omega);clear Hd pF JV N5 AL N6 J LY Qr
       as_aux_lemma=>go_quiet(fail);go_wp2_with fail;go_meet;exact⟨by rw[HC.out],X2.out _⟩
     case rest=>
      rename World=>Y
      obtain⟨rfl,aD⟩:=hcut;have J:=aA J aD;have r:=r.aa aD;clear Hd pF JV aD br;have Hd:=N5.aa J;have pF:=AL.aa J;have JV:=N6.aa J;have br:=J.size;by_cases F:c<G.length
      ·have gu:decide (c<G.length)=true:=(by simp[F]);have ad:=(LY.out c F)
       rw[<-HT.out]at ad;have Qs:t<N:=(by have:=HT.out;omega);have a5:=atM (apX (l:=l) ad.2);have hi:V.getD t 0<l.length:=(by rw[HM.out];exact Un.out t (by rw[LX.out];exact Qs));have af:((V.getD t 0:Nat):Int)<((m+1:Nat):Int):=(by rw[HM.out]at hi;omega);have Im:=atM (O3 (cV.out.ok _ (Ql hi)));have bw:(t:Int)<(N:Int):=(by omega);have z0:=Bw.cell (w:=Y) (a:=⟨w.heap.size,0,none⟩) JV.lt JV.c;have s1:=Bw.cell (w:=Y) (a:=⟨M,t,none⟩) (by show M<_;omega) (KB.out Y Hd t Qs);have Z:=ab8 pF hi;have qE:L<Y.heap.size:=(by omega);have c0:=Bw.cell (w:=Y) (a:=⟨L,oo+V.getD t 0*5+0,none⟩) qE (Z 0 _ rfl);have c1:=Bw.cell (w:=Y) (a:=⟨L,oo+V.getD t 0*5+1,none⟩) qE (Z 1 _ rfl);have c2:=Bw.cell (w:=Y) (a:=⟨L,oo+V.getD t 0*5+2,none⟩) qE (Z 2 _ rfl);have c3:=Bw.cell (w:=Y) (a:=⟨L,oo+V.getD t 0*5+3,none⟩) qE (Z 3 _ rfl);have c4:=Bw.cell (w:=Y) (a:=⟨L,oo+V.getD t 0*5+4,none⟩) qE (Z 4 _ rfl);simp only[atQ]at c0;have aE:=atM (fun p:Bw Y=>Bw.call p (apL (l.getD (V.getD t 0) gj) p.w'));have bP:(im l (G.take c)).length<=16:=(by simp[im];omega);have Hr:=nv (l:=im l (G.take c)) (B:=1000000000) (fun x hx=>MG.out x (by obtain⟨y,hy,rfl⟩:=aue.1 hx;exact aue.2 ⟨y,auh hy,rfl⟩))
       have b3:=Hr.1;have b4:ax (im l (G.take c))<=16000000000:=(by omega);clear Hr ad Z hi N5 AL N6 Hd pF JV hj;generalize l.getD (V.getD t 0) gj=o at*;generalize V.getD t 0=i at*;go_upto_region 10 with fail
       refine oG (by kernel_rfl) (by kernel_rfl) ?_
       repeat(first|go_big_quiet_step(exact aE.out _)|quiet_step(exact aE.out _))
       refine wpQuiet_nil ?_;intro W2 bz;obtain⟨⟨W9,aJ⟩,a6⟩:=bz;subst a6;have eE:=r.aa aJ;have O4:=aA J aJ;have dP:=O4.size;have lV:=fun q hq=>(eE.bR (g:=q) hq).1;have bA:=Im.out;obtain⟨q0,q1⟩:=bA;generalize b5:iZ o=cl at*;clear z0 s1 c0 c1 c2 c3 c4 aE r aJ;go_wp2_with(at_builtin;(refine lD _ _ 34 cl _ 8 _ B2 underlying34 eE iX (by omega) rfl (fun u hu=>by simp[encI]at hu;subst hu;rfl) (by omega) (by omega) dP (by rfl) (by rfl) (by rfl) (by rfl) (by simp) (by rfl) ?_);intro v5 X3 dh aZ;have aM:=kH O4 aZ lV);go_roundw
       case rel=>
        have aj:∃c' t':Nat,c'<=G.length/\Hid (t'=f+c')/\t'<=N/\Value.int .i64 ((t:Int)+1)=.int .i64 (t':Int)/\Value.int .i64 (ax (im l (G.take c))+cl)=.int .i64 (ax (im l (G.take c')))/\Own encI 1 3 X3 wr.heap.size v5 (im l (G.take c'))/\Below wr.heap.size wr X3:=⟨c+1,t+1,by omega,by have:=HT.out;rw[Hid];omega,by omega,by go_num,by rw[a5.out,F9];simp[ax],by rw[a5.out];exact dh,aM⟩
        first|exact aj|((repeat apply Exists.intro);exact⟨aj,rfl⟩)
       case measure=>simp[intOf];omega
      ·obtain rfl:c=G.length:=by omega
       rw[auv]at r|-;have gu:decide (G.length<G.length)=false:=(by simp);obtain⟨mG,Gw,KC⟩:=ahH (left:=E) (cs:=im l G) f0 (fun x hx=>(MG.out x hx).1);have Fl:Hid (Av E (im l G)=if E<ax (im l G)then en E (im l G)else im l G):=rfl;have VJ:Hid (∀x∈im l G,0<=x/\x<=1000000000):=MG.out;have b6:(im l G).length<=16:=(by simp[im];omega);have X4:Hid ((im l G).length=G.length):=(by simp[Hid,im]);have Fj:Hid ((Av E (im l G)).length=G.length):=(by rw[Hid,mG];exact X4.out);have Fk:=atM KC;have bB:Hid (0<=ax (Av E (im l G))):=Qp Gw;obtain⟨ca,cc,rfl,U,_,_⟩:=r.form iX;have ak:∀a,ca=some a->wr.heap.size<=a.block:=fun a e=>(r.bR (g:=a.block) (by rw[e];rfl)).1;clear mG Gw KC r N5 AL N6 pF JV MG gu F hc hj;generalize Av E (im l G)=P at*;generalize im l G=cm at*
       go_upto_if 94 with fail
       go_cut [13,16,17,18]from 27 to 126 (fun sv pv _ _ wy=>sv=.int .i64 (ax P)/\(∃PA pc,pv=.slice PA P.length pc/\ai encI 1 wy wy.heap.size PA P/\∀a,PA=some a->wr.heap.size<=a.block)/\Below wr.heap.size wr wy)
       case first=>
        by_cases O6:E<ax cm
        ·have Gx:Hid (P=en E cm):=(by rw[Hid,Fl.out];exact atP O6);have bD:Hid (ax P=E):=(by rw[Gx.out];exact TT (by omega));have KE:=atM (ahd E ca cc cm Y U f0 f1 VJ.out (by omega) (by omega));clear U Hd Fl Fk Qr LY;go_wp2_with fail;refine atV KE.out ?_;rintro e w6 ⟨g,rfl,cE,a7,bu⟩;clear KE;go_wp2_with fail;go_meet;have aX:∀n q:Nat,n=q->Value.slice (some ⟨g,0,none⟩) n n=Value.slice (some ⟨g,0,none⟩) q n:=fun n q e=>by rw[e]
         exact⟨by rw[bD.out],⟨some ⟨g,0,none⟩,cm.length,aX _ _ (by rw[Fj.out,X4.out]),by rw[Gx.out];exact a7.slice,fun a e=>by injection e with e;subst e;show _<=g;omega⟩,aA J bu⟩
        ·have Gx:Hid (P=cm):=(by rw[Hid,Fl.out];exact atO O6);clear Fl Fk Fj Qr LY Hd;go_wp2_with fail;go_meet;exact⟨by rw[Gx.out],⟨ca,cc,by rw[Gx.out],by rw[Gx.out];exact U,ak⟩,J⟩
       case rest=>
        rename World=>w6
        obtain⟨rfl,⟨PA,pc,rfl,R6,aQ⟩,bu⟩:=hcut;clear U J ak br Fl VJ Hd;have G2:=XY.aa bu;have cE:=dD Pm.out bu;have cK:=dm.pQ cE (fun a z=>by injection z with z;subst z;exact n1);have BH:=bu.size;have aR:∀a,PA=some a->a.block≠C:=fun a e=>by have:=aQ a e;omega
        clear bu XY;have X5:Hid (f+G.length<=N):=az;go_upto_region 21 with fail
        go_wp2_with fail
        go_loopw [108] (fun kv wz=>∃k:Nat,k<=G.length/\kv=.int .i64 (k:Int)/\RowI wz C (kt T' (G.take k) (P.take k))/\w6.grownBy wz (some C)) (fun kv _=>G.length-(intOf kv).toNat)
        case atStart=>exact⟨0,by omega,rfl,G2,dX _ _⟩
        case round=>
         clear G2
         rename World=>wz
         obtain⟨k,hk,rfl,LZ,I8⟩:=hrel;have Qt:(kt T' (G.take k) (P.take k)).length=m+1:=(by rw[XR];exact bs);by_cases E4:k<G.length
         ·have a8:k<P.length:=(by rw[Fj.out];exact E4);have J7:=cK.pQ I8 (fun a z=>by injection z with z;subst z;exact n1);have a9:=R6.pQ I8 aR;have ES:=(LY.out k E4).2;rw[atW E4]at ES;injection ES with ES
          have X:=atM (ahI G P T' k E4 a8);rw[ES]at X;obtain⟨q,hq⟩:∃q:Nat,q=f+k:=⟨_,rfl⟩
          have b7:(f:Int)+(k:Int)=(q:Int):=(by omega);have ba:q<N:=(by omega);rw[<-hq]at X;have XG:(q:Int)<(N:Int):=(by omega);have s1:=KB.out wz J7 q ba;have hi:V.getD q 0<m+1:=Un.out q (by rw[LX.out];exact ba);obtain⟨pb,po,rfl,b8,bb⟩:=a9.at_ a8;have p0:=bb 0 _ rfl;simp only[atQ,auo]at p0;have af:((V.getD q 0:Nat):Int)<((m+1:Nat):Int):=(by omega);have zt:=LZ.cell (i:=V.getD q 0) (by rw[Qt];exact hi);have ft:=LZ.frozen (V.getD q 0);have b9:=LZ.lt;have Ry:=atM (LZ.set (i:=V.getD q 0) (by rw[Qt];exact hi) P[k]);have aT:=atM I8;have bF:(k:Int)<(P.length:Int):=(by omega);have cb:M≠C:=n1;clear hq bb LZ I8 J7 a9 ES Qt hi aQ aR;generalize V.getD q 0=i at*;generalize P[k]=pk at*;go_wp2;go_roundw
          case rel=>
           have aj:∃k':Nat,k'<=G.length/\Value.int .i64 ((k:Int)+1)=.int .i64 (k':Int)/\RowI (wz.setCell ⟨C,i,none⟩ (.int .i64 pk)) C (kt T' (G.take k') (P.take k'))/\w6.grownBy (wz.setCell ⟨C,i,none⟩ (.int .i64 pk)) (some C):=⟨k+1,by omega,by go_num,by rw[X.out];exact Ry.out,bg aT.out (.inl rfl) _⟩
           first|exact aj|((repeat apply Exists.intro);exact⟨aj,rfl⟩)
          case measure=>simp[intOf];omega
         ·obtain rfl:k=G.length:=by omega
          have bc:P.take G.length=P:=aut (by rw[Fj.out];exact atN _);rw[auv,bc]at LZ Qt;have bF:¬(G.length:Int)<(P.length:Int):=(by rw[Fj.out];omega);have cd:0<=ax P:=bB.out;have ce:=Fk.out;have pG:=atM LZ;have aT:=atM (bL cE I8);have bJ:=atM Qt;clear R6 aQ aR LZ I8 bc cE cK Qt;go_wp2;go_roundw
          case rel=>
           have aj:∃(f' be:Nat) (X6:Int) (T2:List Int),f'<=N/\Value.int .i64 (t:Int)=.int .i64 f'/\Value.int .i64 (E-ax P)=.int .i64 X6/\0<=X6/\X6<=1000000000/\T2.length=m+1/\N<=f'+be/\Hid (kg l be (V.drop f') X6 T2=R)/\RowI wz C T2/\w5.grownBy wz (some C):=⟨t,av,E-ax P,kt T' G P,ht,rfl,rfl,by omega,by omega,bJ.out,by have:=HT.out;omega,by have:=HT.out;rw[this];exact bv.out,pG.out,aT.out⟩
           first|exact aj|((repeat apply Exists.intro);exact⟨aj,rfl⟩)
          case measure=>have:=HT.out;simp[intOf];omega
   ·obtain rfl:N=f:=by omega
    have aj:T'=R:=(by rw[<-HR.out,List.drop_of_length_le (by rw[LX.out];exact atN _),ahr]);subst aj;have bK:=atM XY;have bO:=atM (bL (KL qo (some C)) Fq);clear XY Fq N5 AL N6;go_wp2;go_ret;exact⟨rfl,ys,HP.out.1,by rw[<-HV.out];exact HP.out.2,by rw[<-HV.out,<-bq.out];exact bK.out,bO.out⟩
