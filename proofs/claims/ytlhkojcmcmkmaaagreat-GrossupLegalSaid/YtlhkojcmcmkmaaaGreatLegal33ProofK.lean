/- Conditions: as stated. -/
import Derived.Deep.Slices
import Derived.Deep.Fields
import Derived.ChangeSame
import Derived.ProofKit
import Derived.OpenShut
import Derived.ShutString
import Derived.ChangeOld
import Derived.Test.YtlhkojcmcmkmaaaGreatKEx33
import Derived.Test.YtlhkojcmcmkmaaaGreatKG33p
import Derived.Test.YtlhkojcmcmkmaaaGreatKMixS
set_option maxRecDepth 100000
set_option maxHeartbeats 8000000
namespace Go.Proofs.YtlhkojcmcmkmaaaGreat
open Go.Proofs.Tryz
open Go.ChangeShapes Go.WideShapes Go.ChangeAt Go.RowKit Go.Deep
section
variable {H:Type}{enc:TypeId×Value->H}{P:Program}{w:World}{base:Nat}{spare:Nat->Bool}{held:Bool}
theorem apG{t e:TypeId}{r:Array Field}{B:Nat}{E:List Value}{x:DataW H×List MemPlace}(T:P.underlying t=some (.slice e))(U:P.underlying e=some (.struct r))
  (F:oneCellFields P r=true) (N:P.cellsOf e=r.size) (h:DataW.trod enc P w base spare held B t E=some x):
  (E=[.slice none 0 0]/\x=(.nil,[]))\/
  ∃(a:Addr) (len l m:Nat) (D:Nat->DataW H) (C:Nat->List MemPlace),E=[.slice (some a) len l]/\base<=a.block/\len<=l/\l<=maxLen/\m=(if spare a.block then l else len)/\
   x=(.slice ((List.range len).map D) ((List.range (m-len)).map fun j=>D (len+j)),MemPlace.row a (m*r.size)++(List.range m).flatMap C)/\
   ∀i,i<m->∃(u:List (DataW H×List MemPlace)) (n:Nat),D i=.agg (u.map (·.1))/\C i=u.flatMap (·.2)/\u.length=r.size/\
    ∀(j:Nat) (f:Field),r[j]?=some f->∃(v:Value) (y:DataW H×List MemPlace),w.cell? (a.add (i*r.size+j))=some v/\u[j]?=some y/\DataW.trod enc P w base spare held n f.type [v]=some y:=by
 rcases open_slice T h with V|⟨a,len,l,m,n,D,C,G,X,Y,Z,zE,O,hi⟩
 ·exact .inl V
 ·refine .inr ⟨a,len,l,m,D,C,G,X,Y,Z,zE,by rw[N]at O;exact O,fun i I=>?_⟩;obtain⟨p,Q,Cb⟩:=hi i I;rw[N]at Q;obtain⟨u,n',mq,hy,R,nV,hf⟩:=DataW.trod_struct U Cb;obtain⟨_,II,J⟩:=World.cells?_some Q;simp only[Prod.mk.injEq]at hy;refine⟨u,n',hy.1,hy.2,nV,fun j f K=>?_⟩;obtain⟨ho,hk⟩:=hone_of F j f K;have o9:j<r.size:=(asv.1 K).1;have z:=J j o9;have hv:p[j]?=some (p[j]'(by omega)):=aro (by omega)
  have L:=hf j f K;rw[ho,hk]at L;have M:(p.drop j).take 1=[p[j]'(by omega)]:=by rw[List.drop_eq_getElem_cons (by omega)];rfl
  rw[M]at L;have S:u[j]?=some (u[j]'(by omega)):=aro (by omega)
  refine⟨_,_,?_,S,L.trans S⟩;rw[<-Go.Deep.add_add,z,hv]
end
theorem ahp{B:Type}{Nh:B->List Value}{k:Nat}{w:World}(L:∀x,(Nh x).length=k)(M:0<k)(Q:B->Prop)(a:Addr)(len:Nat)
  (h:∀i,i<len->∃x,Q x/\∀j v,(Nh x)[j]?=some v->w.cell? (a.add (i*k+j))=some v):
  ∃e:List B,e.length=len/\(∀x∈e,Q x)/\aj Nh k w w.heap.size (some a) e:=by
 have N:∃e:List B,e.length=len/\(∀x∈e,Q x)/\∀i x,e[i]?=some x->∀j v,(Nh x)[j]?=some v->w.cell? (a.add (i*k+j))=some v:=by
  induction len with
  |zero=>exact⟨[],rfl,by simp,by simp⟩
  |succ n O=>
   obtain⟨e,C,u,D⟩:=O (fun i hi=>h i (by omega));obtain⟨x,F,G⟩:=h n (by omega);refine⟨e++[x],by simp[C],fun y hy=>?_,fun i y hi j v E=>?_⟩
   ·rcases arE.1 hy with h4|h4
    ·exact u y h4
    ·simp at h4;subst h4;exact F
   ·rcases arp i e.length with h4|h4
    ·rw[asJ h4]at hi;exact D i y hi j v E
    ·rw[List.getElem?_append_right h4]at hi;have R:i-e.length=0:=by
      have:=(arG.1 hi).1;simp at this;exact this
     rw[R]at hi;simp at hi;subst hi;obtain rfl:i=n:=by omega
     exact G j v E
 obtain⟨e,C,u,D⟩:=N;refine⟨e,C,u,fun I=>?_⟩;obtain⟨b,l,z⟩:=a;have S:0<e.length:=asW.2 I;have J:=aro S;have K:(Nh e[0])[0]?=some ((Nh e[0])[0]'(by rw[L];exact M)):=aro _
 have p:=D 0 _ J 0 _ K;simp only[arT,ark,Addr.add,arI]at p;have r:z=none:=by simpa using World.cell?_spot p
 subst r;have T:b<w.heap.size:=World.block_lt_of_cell? w ⟨b,l,none⟩ p;refine⟨b,l,rfl,T,fun i x hi j v E=>?_⟩;have:=D i x hi j v E;have U:(⟨b,l,none⟩:Addr).add (i*k+j)=⟨b,l+i*k+j,none⟩:=by
  unfold Addr.add;split
  ·rename_i V;have C:i*k=0:=(by omega);have u:j=0:=(by omega);subst u;simp
  ·simp[Nat.add_assoc]
 rw[U]at this;exact this
theorem ahq{n:Int}(h:(Lit.int .i64 n).wf=true):G4 n:=by simp[Lit.wf,IntKind.min,IntKind.max,IntKind.signed,IntKind.bits]at h;exact⟨by omega,by omega⟩
theorem apJ{H:Type}{enc:TypeId×Value->H}{W:World}{spare:Nat->Bool}{a:Option Addr}{len r:Nat}{d:DataW H}{p:List MemPlace}(h:DataW.Trod enc prog W 0 spare true 51 (.slice a len r) d p):
  ∃u:List Elem,u.length=len/\aj aN 2 W W.heap.size a u/\(∀x∈u,x.code.size<=maxLen/\G4 x.amount)/\len<=r/\r<=maxLen:=by
 obtain⟨z,y⟩:=h;rcases apG underlying51 underlying69 (by kernel_rfl) (by kernel_rfl) y with⟨e,_⟩|⟨a',B,C,m,D,U,e,_,G,I,J,_,hi⟩
 ·simp[Value.cells]at e;obtain⟨rfl,rfl,rfl⟩:=e;exact⟨[],rfl,aj.cK,by simp,by omega,by unfold maxLen;omega⟩
 ·simp[Value.cells]at e;obtain⟨rfl,rfl,rfl⟩:=e;have V:len<=m:=by rw[J];split<;>omega
  have K:∀i,i<len->∃x:Elem,(x.code.size<=maxLen/\G4 x.amount)/\∀j v,(aN x)[j]?=some v->W.cell? (a'.add (i*2+j))=some v:=by
   intro i L;obtain⟨X,n,_,_,_,y⟩:=hi i (by omega);obtain⟨Y,Z,M,_,t0⟩:=y 0 _ rfl;obtain⟨v1,y1,N,_,t1⟩:=y 1 _ rfl;obtain⟨s,E,_,O⟩:=DataW.trod_string underlying9 t0;obtain⟨k,F,_,Q⟩:=DataW.trod_int underlying3 t1;simp at E F;subst E F;refine⟨⟨s,k⟩,⟨O,ahq Q⟩,fun j v l=>?_⟩
   match j,l with
   |0,l=>simp[aN]at l;subst l;exact M
   |1,l=>simp[aN]at l;subst l;exact N
   |(n+2),l=>simp[aN]at l
  obtain⟨u,R,S,T⟩:=ahp dt (by omega) _ a' len K;exact⟨u,R,T,S,G,I⟩
theorem apK{H:Type}{enc:TypeId×Value->H}{W:World}{a:Option Addr}{len r:Nat}{d:DataW H}{p:List MemPlace}(h:DataW.Trod enc prog W 0 (fun _=>true) true 34 (.slice a len r) d p):
  ∃B:List Int,B.length=len/\aj encI 1 W W.heap.size a B/\(∀x∈B,G4 x)/\len<=r/\r<=maxLen:=by
 obtain⟨C,E⟩:=h;rcases open_ints underlying34 underlying3 (by kernel_rfl) E with⟨e,_⟩|⟨x,l,c,D,e,_,F,G,I,_,u,J⟩
 ·simp[Value.cells]at e;obtain⟨rfl,rfl,rfl⟩:=e;exact⟨[],rfl,aj.cK,by simp,by omega,by unfold maxLen;omega⟩
 ·simp[Value.cells]at e;obtain⟨rfl,rfl,rfl⟩:=e;have K:D.length=r:=by simpa using I
  have L:∀i,i<len->∃y:Int,G4 y/\∀j v,(encI y)[j]?=some v->W.cell? (x.add (i*1+j))=some v:=by
   intro i M;refine⟨D.getD i 0,?_,fun j v z=>?_⟩
   ·apply ahq;apply J;rw[aru,aro (by omega)];exact arc _
   ·match j,z with
    |0,z=>simp[encI]at z;subst z;have:=u i (by omega);simpa using this
    |(n+1),z=>simp[encI]at z
  obtain⟨B,N,O,Q⟩:=ahp (k:=1) (Nh:=encI) (fun _=>rfl) Nat.one_pos _ x len L;exact⟨B,N,Q,O,F,G⟩
open Go.RowKit
theorem apL(B A2:Option Addr)(af GA:Nat)(l:List Int)(p:Int)(ys:List Elem)(w:World)(hI:aj encI 1 w w.heap.size B l)(aT:l.length<=9223372036854775807)(ai:∀x∈l,G4 x)(hO:aj aN 2 w w.heap.size A2 ys)(aV:ys.length<=9223372036854775807)(al:∀x∈ys,x.code.size<=maxLen):
  Calls prog 10 #[.slice B l.length af,.int .i64 p,.slice A2 ys.length GA] w fun e w'=>e=.returned (.bool true)/\Below w.heap.size w w':=by
 have aW:=aq6 al;have N6:Hid (G5 ys=true->ys.length<=140):=fun h=>by unfold G5 at h;simp only[arw,arz]at h;exact h.1
 clear al;go_enter func10,ntmps10;go_wp2_with fail;refine(ajY A2 GA ys _ _ hO aV).mono ?_;rintro e w' ⟨rfl,rfl⟩;cases G2:G5 ys
 ·clear G2;go_wp2_with fail;refine(ZG _).mono ?_;rintro e w1 ⟨rfl,aZ⟩;go_wp2;go_ret;exact⟨rfl,aZ⟩
 have nV:=N6.out G2;clear G2;go_wp2_with fail;refine(alw B l af _ hI aT ai).mono ?_;rintro e w0 ⟨rfl,iF,am⟩;clear ai hI;go_wp2_with fail;refine(aln _ 0 0 (by omega) (by omega) _ (by omega) iF).mono ?_;rintro e w1 ⟨j,rfl,G,_,an,bP,ab⟩;have a7:=iF.lt;have a8:=ab.size;have S:=aq6 G;have OL:Below w.heap.size w w1:=jN am ab (fun q e=>by injection e;omega);have aD:=ah.new w1 45 #[.slice j.Aw j.ws.length j.cw,.slice j.As j.ss.length j.cs,.int .i64 j.tm.t.method,.slice j.tm.Ab j.tm.t.aA.length j.tm.cb,.int .i64 j.tm.t.bg,.int .i64 j.tm.t.bh,.int .i64 j.tm.t.unit,.int .i64 j.tm.t.mode,.slice j.tm.Ar j.tm.t.rows.length j.tm.cr,.int .i64 j.count,.int .i64 j.sh.fixed,.int .i64 j.sh.bE,.int .i64 j.sh.lower,.int .i64 j.sh.share,.int .i64 j.sh.top,.int .i64 j.recover];have cT:=bF w1 (.cells #[.slice j.Aw j.ws.length j.cw,.slice j.As j.ss.length j.cs,.int .i64 j.tm.t.method,.slice j.tm.Ab j.tm.t.aA.length j.tm.cb,.int .i64 j.tm.t.bg,.int .i64 j.tm.t.bh,.int .i64 j.tm.t.unit,.int .i64 j.tm.t.mode,.slice j.tm.Ar j.tm.t.rows.length j.tm.cr,.int .i64 j.count,.int .i64 j.sh.fixed,.int .i64 j.sh.bE,.int .i64 j.sh.lower,.int .i64 j.sh.share,.int .i64 j.sh.top,.int .i64 j.recover] 45);have ad:=(an.ZZ (show w.heap.size+1<=_ by omega)).OM cT;have dy:=bP.aU cT;have DK:=aB OL cT;obtain⟨a0,a1⟩:1<=j.count/\j.count<=53:=⟨G.ok.c0,G.ok.c1⟩
 have j5:=G.ws.len;have a2:w.heap.size<w1.heap.size:=by omega
 clear iF am an bP ab OL cT G;go_upto_region 5 with fail
 generalize w1.alloc (Obj.cells _ _)=w2 at aD ad dy DK|-;generalize w1.heap.size=z at*;have z9:w2.cell? ⟨z,9,none⟩=some (.int .i64 j.count):=aD.cell 9;have a3:=BH (n:=j.count+1) (by omega) (by omega);by_cases h4:4<j.count+1
 all_goals
  go_wp2_with fail;refine(jv _ _ _ _ (by omega) (by omega) (by omega) dy).mono ?_;rintro e w3 ⟨k0,rfl,ao,a4,ig,T⟩;obtain⟨k,rfl⟩:=asH ao;have C:k<=3:=by omega
  have bz:=aD.grown T (by intro e;injection e;omega);have ap:=ad.grown T (fun q e=>by injection e;omega);have EW:Below w.heap.size w w3:=jN DK T (fun q e=>by injection e;omega);clear aD ad DK dy T z9 a3 ao a4 a0 a1
  first|clear h4|skip
  go_wp2_with fail;refine(alo _ _ k _ (by omega) (by omega) ig).mono ?_;rintro e w4 ⟨u,rfl,av,Po,iG,I⟩;have Z:=aq6 av;have Tq:=bF w4 (.cells #[.int .i64 u.ay,.int .i64 u.aw,.int .i64 u.aO,.slice u.Ai u.ins.length u.ci,.slice u.At u.taken.length u.ct] 53);have a5:w.heap.size+1<=w3.heap.size:=ig.lt;have dT:=I.size;have Q:mf w z w4.heap.size j u none ([]:List Elem) (0+110+1+60) (w4.alloc (.cells #[.int .i64 u.ay,.int .i64 u.aw,.int .i64 u.aO,.slice u.Ai u.ins.length u.ci,.slice u.At u.taken.length u.ct] 53)):=
   ⟨(bz.grown I (by intro e;injection e;omega)).alloc _,ah.new _ _ _,(ap.grown I (fun q e=>by injection e;omega)).OM Tq,(Po.ZZ (by omega)).OM Tq,fh.cK _ _,iG.aU Tq,aB (jN EW I (fun q e=>by injection e;omega)) Tq,a2,by omega⟩
  clear bz ap EW ig av Po iG I Tq a5;go_upto_region 6 with fail
  generalize w4.alloc (Obj.cells _ _)=w5 at Q|-;generalize w4.heap.size=F at*;have z0:w5.cell? ⟨z,0,none⟩=some (.slice j.Aw j.ws.length j.cw):=Q.R.cell 0;go_wp2_with fail;refine(ale _ _ j.Aw j.ws j.cw 3 w5 (by omega) (by omega) (by omega) Q.d Q.r.ws.sl (fun a ha=>by have:=Q.r.ws.fr a ha;omega) (by omega)).mono ?_;rintro e w6 ⟨v6,y,rfl,ax,EM,az,ji,dW⟩;have Xe:Hid (∀x∈y,x.code.size<=maxLen):=ax.akU S.out.ws;have H6:=Q.FU ji dW;have aE:=Q.sz;have AZ:=dW;clear z0 ax ji dW;go_wp2_with fail;refine(jv _ _ 4 _ (by omega) (by omega) (by omega) H6.d).mono ?_;rintro e w7 ⟨r7,rfl,a9,ba,gQ,fK⟩;have H7:=H6.FU gQ fK;have C8:=az.kept fK (fun q e=>by injection e;omega);have kj:=ck AZ fK;clear H6 az gQ fK AZ;by_cases h7:r7=0
  ·subst h7;have aJ:=hO.aa H7.aU;have RG:=H7.sz;have a6:w5.heap.size<=w7.heap.size:=kj.size;go_upto_region 9 with(at_builtin;(refine FE (ys:=ys) _ _ 51 GA 24 _ kF underlying51 C8 aJ dt (by omega) rfl kn (by omega) (by omega) a6 (by rfl) (by rfl) (by rfl) (by rfl) (by rfl) ?_);intro v8 w8 Gb gV)
   have aP:=Q.row kj H7.d C8 gV;obtain⟨E,D,rfl,WC⟩:=Gb.fresh dt;have H8:=aP.els (WC.weaken aE);have U:Hid (∀x∈y++ys,x.code.size<=maxLen):=fun x hx=>by
    rcases arE.1 hx with h|h
    ·exact Xe.out x h
    ·exact aW.out x h
   have V:(y++ys).length<=1000:=(by rw[arl];omega);clear Q H7 aP C8 Gb gV WC aJ EM Xe kj;generalize y++ys=y at*;go_wp2_with fail;refine(ae7 _ _ _ (by omega) H8.d).mono ?_;rintro e w9 ⟨c,rfl,Tr,kC,ED⟩;have J:=H8.FU kC ED;have X:Hid (c.size<=maxLen):=(by have:=ae6 c Tr;rw[Hid];unfold maxLen;omega);clear H8 kC ED Tr;obtain⟨Ts,Tt⟩:∃lg,lg=D7 (mD j pQ u [] true (y++[⟨c,p⟩])):=⟨_,rfl⟩
   obtain⟨Tu,Tv⟩:∃er,er=(mD j pQ u [] true (y++[⟨c,p⟩])).err:=⟨_,rfl⟩
   have Ni:=aq6 Tt;have Nj:=aq6 Tv;clear Tt Tv;have K:Hid (∀W,mf w z F j u E y (0+110+1+60+1+4*3+1+1) W->Calls prog 36 #[.agg (ng j),.agg (oK u),.slice E y.length D,.string c,.int .i64 p] W fun e w'=>e=.returned (.tuple #[.int .i64 Ts,.int .i64 Tu])/\Below W.heap.size W w'):=fun W h=>by rw[Ni.out,Nj.out];exact Q9 j u E D y c p W h.r.D8 h.Ke h.e.sl V (Kd S.out.ok Z.out C U.out X.out)
   have L:Hid (∀W,mf w z F j u E y (0+110+1+60+1+4*3+1+1) W->Calls prog 37 #[.agg (ng j),.agg (oK u),.slice E y.length D,.string c,.int .i64 p] W fun e w'=>e=.returned (.tuple #[.int .i64 Ts,.int .i64 Tu])/\Below W.heap.size W w'):=fun W h=>by rw[Ni.out,Nj.out];exact V0 j u E D y c p W h.r.D8 h.Ke h.e.sl V (Kd S.out.ok Z.out C U.out X.out)
   have Tw:=J.R;have Tx:=J.Y;go_wp2_with(first|(refine jK rfl _ _ rfl z rfl Tw underlying45 rfl (by kernel_rfl) ?_)|(refine jK rfl _ _ rfl F rfl Tx underlying53 rfl (by kernel_rfl) ?_));refine(K.out _ J).mono ?_;rintro e dr ⟨rfl,jy⟩;have M:=J.aa jy;clear J jy Tw Tx K;have Ty:=M.R;have Tz:=M.Y;go_wp2_with(first|(refine jK rfl _ _ rfl z rfl Ty underlying45 rfl (by kernel_rfl) ?_)|(refine jK rfl _ _ rfl F rfl Tz underlying53 rfl (by kernel_rfl) ?_));refine(L.out _ M).mono ?_;rintro e fJ ⟨rfl,dI⟩;have Jh:=M.aa dI;clear M dI Ty Tz L;clear Ni Nj;go_wp2_with fail;refine(ae5 _ _ _ (by omega) Jh.d).mono ?_;rintro e ow ⟨n,rfl,n0,n1,jx,Jg⟩;have N:=Jh.FU jx Jg;clear Jh jx Jg;obtain⟨zb,TA⟩:∃lg,lg=D7 (mD j pQ u [] true (y++[⟨c,n⟩])):=⟨_,rfl⟩
   obtain⟨TB,TC⟩:∃er,er=(mD j pQ u [] true (y++[⟨c,n⟩])).err:=⟨_,rfl⟩
   have TD:=aq6 TA;have TE:=aq6 TC;clear TA TC;have K:Hid (∀W,mf w z F j u E y (0+110+1+60+1+4*3+1+1+2) W->Calls prog 36 #[.agg (ng j),.agg (oK u),.slice E y.length D,.string c,.int .i64 n] W fun e w'=>e=.returned (.tuple #[.int .i64 zb,.int .i64 TB])/\Below W.heap.size W w'):=fun W h=>by rw[TD.out,TE.out];exact Q9 j u E D y c n W h.r.D8 h.Ke h.e.sl V (Kd S.out.ok Z.out C U.out X.out)
   have L:Hid (∀W,mf w z F j u E y (0+110+1+60+1+4*3+1+1+2) W->Calls prog 37 #[.agg (ng j),.agg (oK u),.slice E y.length D,.string c,.int .i64 n] W fun e w'=>e=.returned (.tuple #[.int .i64 zb,.int .i64 TB])/\Below W.heap.size W w'):=fun W h=>by rw[TD.out,TE.out];exact V0 j u E D y c n W h.r.D8 h.Ke h.e.sl V (Kd S.out.ok Z.out C U.out X.out)
   have F8:=N.R;have TF:=N.Y;go_wp2_with(first|(refine jK rfl _ _ rfl z rfl F8 underlying45 rfl (by kernel_rfl) ?_)|(refine jK rfl _ _ rfl F rfl TF underlying53 rfl (by kernel_rfl) ?_));refine(K.out _ N).mono ?_;rintro e np ⟨rfl,eL⟩;have O:=N.aa eL;clear N eL F8 TF K;have F9:=O.R;have TG:=O.Y;go_wp2_with(first|(refine jK rfl _ _ rfl z rfl F9 underlying45 rfl (by kernel_rfl) ?_)|(refine jK rfl _ _ rfl F rfl TG underlying53 rfl (by kernel_rfl) ?_));refine(L.out _ O).mono ?_;rintro e F2 ⟨rfl,zu⟩;have ae:=O.aa zu;clear O zu F9 TG L;go_wp2_with fail;refine(ZG _).mono ?_;rintro e oy ⟨rfl,iE⟩;go_wp2;go_ret;exact⟨rfl,aB ae.aU iE⟩
  ·have bb:(r7==0)=false:=(by simpa using h7);obtain⟨E,D,rfl,aS⟩:=C8.fresh dt;have H8:=H7.els (aS.weaken aE);have U:=Xe;have V:y.length<=1000:=(by omega);clear Q H7 C8 aS h7 EM Xe kj;go_wp2_with fail;refine(ae7 _ _ _ (by omega) H8.d).mono ?_;rintro e w9 ⟨c,rfl,Tr,kC,ED⟩;have J:=H8.FU kC ED;have X:Hid (c.size<=maxLen):=(by have:=ae6 c Tr;rw[Hid];unfold maxLen;omega);clear H8 kC ED Tr;obtain⟨Ts,Tt⟩:∃lg,lg=D7 (mD j pQ u [] true (y++[⟨c,p⟩])):=⟨_,rfl⟩
   obtain⟨Tu,Tv⟩:∃er,er=(mD j pQ u [] true (y++[⟨c,p⟩])).err:=⟨_,rfl⟩
   have Ni:=aq6 Tt;have Nj:=aq6 Tv;clear Tt Tv;have K:Hid (∀W,mf w z F j u E y (0+110+1+60+1+4*3+1+1) W->Calls prog 36 #[.agg (ng j),.agg (oK u),.slice E y.length D,.string c,.int .i64 p] W fun e w'=>e=.returned (.tuple #[.int .i64 Ts,.int .i64 Tu])/\Below W.heap.size W w'):=fun W h=>by rw[Ni.out,Nj.out];exact Q9 j u E D y c p W h.r.D8 h.Ke h.e.sl V (Kd S.out.ok Z.out C U.out X.out)
   have L:Hid (∀W,mf w z F j u E y (0+110+1+60+1+4*3+1+1) W->Calls prog 37 #[.agg (ng j),.agg (oK u),.slice E y.length D,.string c,.int .i64 p] W fun e w'=>e=.returned (.tuple #[.int .i64 Ts,.int .i64 Tu])/\Below W.heap.size W w'):=fun W h=>by rw[Ni.out,Nj.out];exact V0 j u E D y c p W h.r.D8 h.Ke h.e.sl V (Kd S.out.ok Z.out C U.out X.out)
   have Tw:=J.R;have Tx:=J.Y;go_wp2_with(first|(refine jK rfl _ _ rfl z rfl Tw underlying45 rfl (by kernel_rfl) ?_)|(refine jK rfl _ _ rfl F rfl Tx underlying53 rfl (by kernel_rfl) ?_));refine(K.out _ J).mono ?_;rintro e dr ⟨rfl,jy⟩;have M:=J.aa jy;clear J jy Tw Tx K;have Ty:=M.R;have Tz:=M.Y;go_wp2_with(first|(refine jK rfl _ _ rfl z rfl Ty underlying45 rfl (by kernel_rfl) ?_)|(refine jK rfl _ _ rfl F rfl Tz underlying53 rfl (by kernel_rfl) ?_));refine(L.out _ M).mono ?_;rintro e fJ ⟨rfl,dI⟩;have Jh:=M.aa dI;clear M dI Ty Tz L;clear Ni Nj;go_wp2_with fail;refine(ae5 _ _ _ (by omega) Jh.d).mono ?_;rintro e ow ⟨n,rfl,n0,n1,jx,Jg⟩;have N:=Jh.FU jx Jg;clear Jh jx Jg;obtain⟨zb,TA⟩:∃lg,lg=D7 (mD j pQ u [] true (y++[⟨c,n⟩])):=⟨_,rfl⟩
   obtain⟨TB,TC⟩:∃er,er=(mD j pQ u [] true (y++[⟨c,n⟩])).err:=⟨_,rfl⟩
   have TD:=aq6 TA;have TE:=aq6 TC;clear TA TC;have K:Hid (∀W,mf w z F j u E y (0+110+1+60+1+4*3+1+1+2) W->Calls prog 36 #[.agg (ng j),.agg (oK u),.slice E y.length D,.string c,.int .i64 n] W fun e w'=>e=.returned (.tuple #[.int .i64 zb,.int .i64 TB])/\Below W.heap.size W w'):=fun W h=>by rw[TD.out,TE.out];exact Q9 j u E D y c n W h.r.D8 h.Ke h.e.sl V (Kd S.out.ok Z.out C U.out X.out)
   have L:Hid (∀W,mf w z F j u E y (0+110+1+60+1+4*3+1+1+2) W->Calls prog 37 #[.agg (ng j),.agg (oK u),.slice E y.length D,.string c,.int .i64 n] W fun e w'=>e=.returned (.tuple #[.int .i64 zb,.int .i64 TB])/\Below W.heap.size W w'):=fun W h=>by rw[TD.out,TE.out];exact V0 j u E D y c n W h.r.D8 h.Ke h.e.sl V (Kd S.out.ok Z.out C U.out X.out)
   have F8:=N.R;have TF:=N.Y;go_wp2_with(first|(refine jK rfl _ _ rfl z rfl F8 underlying45 rfl (by kernel_rfl) ?_)|(refine jK rfl _ _ rfl F rfl TF underlying53 rfl (by kernel_rfl) ?_));refine(K.out _ N).mono ?_;rintro e np ⟨rfl,eL⟩;have O:=N.aa eL;clear N eL F8 TF K;have F9:=O.R;have TG:=O.Y;go_wp2_with(first|(refine jK rfl _ _ rfl z rfl F9 underlying45 rfl (by kernel_rfl) ?_)|(refine jK rfl _ _ rfl F rfl TG underlying53 rfl (by kernel_rfl) ?_));refine(L.out _ O).mono ?_;rintro e F2 ⟨rfl,zu⟩;have ae:=O.aa zu;clear O zu F9 TG L;go_wp2_with fail;refine(ZG _).mono ?_;rintro e oy ⟨rfl,iE⟩;go_wp2;go_ret;exact⟨rfl,aB ae.aU iE⟩
end Go.Proofs.YtlhkojcmcmkmaaaGreat
namespace Go.Proofs.YtlhkojcmcmkmaaaGreat.grossupLegal
open Go.Proofs.Tryz
open Go.ChangeShapes Go.WideShapes Go.ChangeAt Go.RowKit
open Go.ChangeMaps (open_string shut_string)
theorem own:ownKnob Tryz.prog.godebug=none:=by kernel_rfl
theorem laidOut:laidOutB prog=true:=by kernel_rfl
theorem lifted(os:Os)(n:os.Started)(H:Type)(enc:TypeId×Value->H):
  ReturnsInHanded {} Tryz.checked os 10 .any (Rows.grossupLegalSpec.pre6 enc prog Tryz.f10 Rows.grossupLegalRow.domain false) (Rows.grossupLegalSpec.post enc prog Tryz.f10 false true false false):=by
 refine returnsInHanded_of_change (C:=Tryz.checked) own n (by kernel_rfl) func10
  (ChangeSpec.witness6 (enc:=enc) (C:=Tryz.checked) false ⟨#[],#[.slice none 0 0,.int .i64 0,.slice none 0 0],[]⟩ 8 (by kernel_rfl) (by kernel_rfl) (by kernel_rfl) (by kernel_rfl)) ?_
 intro W base args X gs before r L _ _;have l:∀(j:Nat) t v,Tryz.f10.params[j]?=some t->args[j]?=some v->Value.okWide prog W .any base t v:=r;have u:=L;obtain⟨p,q,M,Y,rfl,_,_⟩:=L;have N:DataW.TrodAll enc prog W 0 (fun _=>true) true Tryz.f10.params.toList args.toList X p:=M;rw[Tryz.params10]at N l;obtain⟨O,Z,d0,ab,p0,q0,ad,rfl,rfl,Q,r0⟩:=trodAll_cons N;obtain⟨R,ae,d1,af,p1,q1,rfl,rfl,rfl,h1,r1⟩:=trodAll_cons r0;obtain⟨S,ai,d2,al,p2,q2,rfl,rfl,rfl,T,r2⟩:=trodAll_cons r1;obtain⟨rfl,rfl,rfl⟩:=trodAll_nil r2;obtain rfl:args=#[O,R,S]:=by cases args;simp_all
 obtain⟨rfl,rfl⟩:=trodVars_none Y;obtain⟨a0,am,y,rfl⟩:=okWide_slice underlying34 (l 0 34 O rfl rfl);have U:=Q;have z:∀x∈p0,x.block<W.heap.size:=by obtain⟨m,B⟩:=U;exact DataW.trod_lt m _ _ _ B
 obtain⟨D,rfl,dC,gC,Wc,E⟩:=apK Q;have F:=arq Wc E;obtain⟨n1,rfl,rfl,rfl,G⟩:=open_int underlying3 (l 1 3 R rfl rfl) h1;obtain⟨a2,an,GA,rfl⟩:=okWide_slice underlying51 (l 2 51 S rfl rfl);have V:=T;have MF:∀x∈p2,x.block<W.heap.size:=by obtain⟨m,B⟩:=V;exact DataW.trod_lt m _ _ _ B
 obtain⟨I,rfl,cy,zl,QD,J⟩:=apJ T;have K:=arq QD J;clear M r;refine(apL a0 a2 y GA D n1 I W dC F gC cy K (fun x hx=>(zl x hx).1)).mono fun e W' ⟨he,aU⟩=>?_;subst he;exact⟨_,rfl,_,_,_,[],_,[],u,trodAll_mk1 (shut_bool underlying4 _),(trodAll_cons_mk (Below.trod laidOut (by kernel_rfl) (asr (by kernel_rfl)) U aU z) (trodAll_cons_mk (shut_int underlying3 G) (trodAll_cons_mk (Below.trod laidOut (by kernel_rfl) (asr (by kernel_rfl)) V aU MF) trodAll_mk0))),rfl,aU.frame _,fun h=>by cases h⟩
theorem t4:(Rows.grossupLegalRow.inPlace==Tryz.prog.inPlace 10)=true:=by kernel_rfl
theorem t5:(Rows.grossupLegalRow.unfollowed==Tryz.prog.unfollowed 10)=true:=by kernel_rfl
theorem t6:(Rows.grossupLegalRow.recurses==Tryz.prog.recurses 10)=true:=by kernel_rfl
theorem t7:(Rows.grossupLegalRow.named==Tryz.prog.varsNamed 10)=true:=by kernel_rfl
theorem t8:(Rows.grossupLegalRow.pinned==Rows.grossupLegalRow.pinnedBy)=true:=by kernel_rfl
theorem t9:(Rows.grossupLegalRow.lifted==Tryz.prog.liftsFinal)=true:=by kernel_rfl
theorem tc:joinedFacts prog 10 Tryz.f10 Rows.grossupLegalSpec Rows.grossupLegalRow=true:=by unfold joinedFacts;rw[t4,t5,t6,t7,t8,t9];kernel_rfl
theorem tf:Tryz.pinned.checked.prog.funcNamed Rows.grossupLegalRow.func=some 10:=by kernel_rfl
theorem over:Rows.grossupLegalRow.holds Tryz.pinned (OpenSpec.ofChange Rows.grossupLegalSpec):=
 OpenClaim.holds_of_wide 10 Tryz.f10 rfl rfl rfl rfl rfl rfl rfl ⟨rfl,rfl,rfl,rfl,rfl⟩ rfl rfl rfl rfl rfl tf func10 tc
  (asr (by kernel_rfl)) (by unfold Func.isWrapper;first|(rw[aq9 (by decide+kernel)];kernel_rfl)|(rw[aq8 (by decide+kernel)];exact⟨rfl,rfl⟩))
  (fun os e H enc _=>lifted os e H enc)
theorem proved:Rows.GrossupLegalSaid:=over
#print axioms proved
end Go.Proofs.YtlhkojcmcmkmaaaGreat.grossupLegal
