/- Conditions: as stated. -/
import Derived.Test.YtlhkojcmcmkmaaaGreatSEx33
import Derived.Test.YtlhkojcmcmkmaaaGreatSG33p
import Derived.Test.YtlhkojcmcmkmaaaGreatSR33S
set_option maxRecDepth 100000
set_option maxHeartbeats 8000000
namespace Go.Proofs.YtlhkojcmcmkmaaaGreat
open Go.Proofs.Tryz
open Go.RowKit
theorem nh.ap9{w W:World}{z B:Nat}{l:cY}{n:dD}{E:Option Addr}{p:List Elem}{M k:Nat}{c:ByteArray}(h:nh w z B l n E p M W)(j:G33 k l n p)(C:c.size<=maxLen)(u:Nat)(t:Int):
  Calls prog 43 #[.agg (jX l),.agg (lD n),.slice E p.length u,.string c,.int .i64 t] W fun e w'=>(∃a y,e=.returned (.tuple #[.int .i64 a,.int .i64 y])/\Ht l.t n.t p c t a y)/\Below W.heap.size W w':=
 apC l n E u p c t W h.r.Fv h.yin h.e.sl j.r.ok (by have:=j.r.m23;omega) j.r.fl j.r.lv j.r.kinds (fun D=>j.gr C D)
theorem aqa(B:Option Addr)(T:Nat)(l:List Int)(C:Int)(w:World)(hI:aj encI 1 w w.heap.size B l)(ao:l.length<=9223372036854775807)(U:∀x∈l,Ks x):
  Calls prog 11 #[.slice B l.length T,.int .i64 C] w fun e w'=>e=.returned (.bool true)/\Below w.heap.size w w':=by
 go_enter func11,ntmps11;go_wp2_with fail;refine(alR B l T _ hI ao U).mono ?_;rintro e w0 ⟨rfl,iT,V⟩;clear U hI;go_wp2_with fail;refine(ak6 _ 0 _ (by omega) iT).mono ?_;rintro e w1 ⟨n,rfl,K,X,bS,L⟩;go_wp2_with fail;refine(ald _ (0+160) _ (by omega) bS).mono ?_;rintro e D ⟨k,u,ap,rfl,R5,Jp,dC,G⟩;have aA:=iT.lt;have aJ:=L.size;have aK:=G.size;have gY:Below w.heap.size w D:=kN (kN V L (fun q e=>by injection e;omega)) G (fun q e=>by injection e;omega);have Z:=X.grown G (fun q e=>by injection e;omega);have I:nh w D.heap.size (D.heap.size+1) n u none ([]:List Elem) (0+160+61) ((D.alloc (.cells #[.slice n.Aw n.ws.length n.cw,.slice n.As n.ss.length n.cs,.int .i64 n.tm.t.method,.slice n.tm.Ab n.tm.t.au.length n.tm.cb,.int .i64 n.tm.t.aZ,.int .i64 n.tm.t.bf,.int .i64 n.tm.t.unit,.int .i64 n.tm.t.mode,.slice n.tm.Ar n.tm.t.rows.length n.tm.cr,.int .i64 n.count,.int .i64 n.sh.fixed,.int .i64 n.sh.bn,.int .i64 n.sh.lower,.int .i64 n.sh.share,.int .i64 n.sh.top,.int .i64 n.recover] 45)).alloc (.cells #[.int .i64 u.az,.int .i64 u.ax,.int .i64 u.aN,.slice u.Ai u.ins.length u.ci,.slice u.At u.taken.length u.ct] 53)):=
  nh.mk0 Z Jp dC gY (by omega) (by omega) (by omega)
 clear iT V X bS L Jp dC G gY Z;go_upto_region 3 with fail
 generalize (D.alloc _).alloc _=w3 at I|-;generalize D.heap.size+1=g2 at*;generalize D.heap.size=O at*;have z0:w3.cell? ⟨O,0,none⟩=some (.slice n.Aw n.ws.length n.cw):=I.R.cell 0;have jF:=K.ws.len;go_wp2_with fail;refine(alE _ (0+160+61) n.Aw n.ws n.cw 2 w3 (by omega) (by omega) (by omega) I.d I.r.ws.sl (fun a ha=>by have:=I.r.ws.fr a ha;omega) (by omega)).mono ?_;rintro e w4 ⟨v4,P,rfl,ab,Dn,ad,fK,ae⟩;have HP:Hid (G33 k n u P):=⟨K,R5,ap,ab,Dn⟩
 obtain⟨E,ec,rfl,PK⟩:=ad.fresh dB;have H4:=(I.Dv fK ae).els (PK.weaken I.sz);clear I z0 K R5 ab Dn ad fK ae PK jF;go_wp2_with fail;refine(al3 _ _ _ (by omega) H4.d).mono ?_;rintro e w5 ⟨c,rfl,af,gT,bp⟩;have H5:=H4.Dv gT bp;have ai:Hid (c.size<=maxLen):=by have:=al0 c af;rw[Hid];unfold maxLen;omega
 clear H4 gT bp af;go_wp2_with fail;refine(K3 _ _ _ (by omega) H5.d).mono ?_;rintro e w6 ⟨t,rfl,t0,t1,iR,dS⟩;have H6:=(H5.Dv iR dS).aa (bD w6 (.cells #[.int .i64 t,.int .i64 C] 3));have DA:=FC w6 [t,C] #[.int .i64 t,.int .i64 C] rfl;clear H5 iR dS;go_upto_region 6 with fail
 generalize w6.alloc (Obj.cells _ _)=w7 at H6 DA|-;generalize w6.heap.size=gt at*;go_wp2_with fail
 go_loopw [11] (fun i wr=>∃j:Nat,i=.int .i64 j/\j<=2/\nh w O g2 n u E P (0+160+61+1+4*2+1+2) wr/\aj encI 1 wr wr.heap.size (some ⟨gt,0,none⟩) [t,C]) (fun i _=>2-(intOf i).toNat)
 case atStart=>exact⟨0,rfl,by omega,H6,DA⟩
 case round=>
  rename World=>wr
  obtain⟨j,rfl,j0,Q,M⟩:=hrel;clear H6 DA;by_cases hj:j<2
  ·obtain⟨b,aO,hA,z,hc⟩:=M.at_ (i:=j) (by simpa using hj);injection hA with hA
   injection hA with q1 q2
   subst q1 q2;have S:=hc 0 _ rfl;simp only[arL]at S;simp only[ast,arT]at S;obtain⟨J,al⟩:∃J,J=[t,C][j]'(by simpa using hj):=⟨_,rfl⟩
   rw[<-al]at S;have fH:=Q.R;have Ig:=Q.Y;clear hc al;go_upto_region 9 with fail
   refine NP (aE:=?arB) [0,1,2,3,4,5,6,7] [9,10,11,12,13] 8 42 #[.agg (jX n),.agg (lD u),.slice E P.length ec,.string c,.int .i64 J] (fun x:Int×Int=>Value.tuple #[.int .i64 x.1,.int .i64 x.2]) ?arC (fun x _=>Ht n.t u.t P c J x.1 x.2) (by kernel_rfl) (by kernel_rfl) rfl (by kernel_rfl) (by kernel_rfl) (by rfl) (by kernel_rfl) (by kernel_rfl) (by rfl) (by kernel_rfl) (by kernel_rfl) rfl rfl ?nh ?S33 ?N33 ?R33 ?aqb ?J33 ?M33
   case nh=>
    intro F hF y;simp only[M3.cD,arQ,arR,arS];have av:=aP.dM (F:=F) (a:=⟨gt,j,none⟩) (by exact z) S;have Fe:=aP.V2 (g:=O) (t:=45) (cs:=#[.slice n.Aw n.ws.length n.cw,.slice n.As n.ss.length n.cs,.int .i64 n.tm.t.method,.slice n.tm.Ab n.tm.t.au.length n.tm.cb,.int .i64 n.tm.t.aZ,.int .i64 n.tm.t.bf,.int .i64 n.tm.t.unit,.int .i64 n.tm.t.mode,.slice n.tm.Ar n.tm.t.rows.length n.tm.cr,.int .i64 n.count,.int .i64 n.sh.fixed,.int .i64 n.sh.bn,.int .i64 n.sh.lower,.int .i64 n.sh.share,.int .i64 n.sh.top,.int .i64 n.recover]) y (fun w' z=>ah.aa fH z);have oY:=aP.V2 (g:=g2) (t:=53) (cs:=#[.int .i64 u.az,.int .i64 u.ax,.int .i64 u.aN,.slice u.Ai u.ins.length u.ci,.slice u.At u.taken.length u.ct]) y (fun w' z=>ah.aa Ig z)
    repeat(first|(refine Oa _ _ O rfl rfl rfl Fe underlying45 rfl (by kernel_rfl) ?_;simp only[Act.put,aG,aH,aI])|(refine Oa _ _ g2 rfl rfl rfl oY underlying53 rfl (by kernel_rfl) ?_;simp only[Act.put,aG,aH,aI])|go_big_quiet_step(first|fail)|quiet_step(first|fail))
    refine wpQuiet_nil ?_;rfl
   case S33=>rfl
   case N33=>exact fun _=>by first|rfl|(go_simp;done)|(go_simp;exact⟨rfl,rfl,rfl⟩)|(go_simp;exact⟨rfl,rfl⟩)
   case R33=>exact fun x w1 D hx z=>hx
   case aqb=>exact fun W1 N=>((Q.aa N).solve HP.out ai.out ec J).mono (fun e D ⟨⟨a,er,he,hs⟩,z⟩=>⟨(a,er),he,z,hs⟩)
   case J33=>
    intro x F hF y;simp only[M3.cD,arQ,arR,arS]
    repeat(first|go_big_quiet_step(fail)|quiet_step(fail))
    refine wpQuiet_nil ?_;rfl
   case M33=>
    intro x w9 dQ Gh
    try simp only[Act.put,ar4,ar2,ar3]
    obtain⟨a,ea⟩:=x;simp only at Gh;have Va:=arH Gh;have H9:=Q.aa dQ;have am:=M.aa dQ;have c9:=(dQ.cell (p:=⟨gt,j,none⟩) z).trans S;have ay:gt<w9.heap.size:=asy z dQ.size;have Jm:=H9.R;have an:=H9.Y;clear Q M dQ fH Ig S Gh;go_upto_region 10 with fail
    refine NP (aE:=?arD) [0,1,2,3,4,5,6,7] [9,10,11,12,13] 8 43 #[.agg (jX n),.agg (lD u),.slice E P.length ec,.string c,.int .i64 J] (fun x:Int×Int=>Value.tuple #[.int .i64 x.1,.int .i64 x.2]) ?arE (fun x _=>Ht n.t u.t P c J x.1 x.2) (by kernel_rfl) (by kernel_rfl) rfl (by kernel_rfl) (by kernel_rfl) (by rfl) (by kernel_rfl) (by kernel_rfl) (by rfl) (by kernel_rfl) (by kernel_rfl) rfl rfl ?H34 ?S34 ?N34 ?R34 ?aqc ?J34 ?M34
    case H34=>
     intro F hF y;simp only[M3.cD,arQ,arR,arS];have av:=aP.dM (F:=F) (a:=⟨gt,j,none⟩) (by exact ay) c9;have Fe:=aP.V2 (g:=O) (t:=45) (cs:=#[.slice n.Aw n.ws.length n.cw,.slice n.As n.ss.length n.cs,.int .i64 n.tm.t.method,.slice n.tm.Ab n.tm.t.au.length n.tm.cb,.int .i64 n.tm.t.aZ,.int .i64 n.tm.t.bf,.int .i64 n.tm.t.unit,.int .i64 n.tm.t.mode,.slice n.tm.Ar n.tm.t.rows.length n.tm.cr,.int .i64 n.count,.int .i64 n.sh.fixed,.int .i64 n.sh.bn,.int .i64 n.sh.lower,.int .i64 n.sh.share,.int .i64 n.sh.top,.int .i64 n.recover]) y (fun w' z=>ah.aa Jm z);have oY:=aP.V2 (g:=g2) (t:=53) (cs:=#[.int .i64 u.az,.int .i64 u.ax,.int .i64 u.aN,.slice u.Ai u.ins.length u.ci,.slice u.At u.taken.length u.ct]) y (fun w' z=>ah.aa an z)
     repeat(first|(refine Oa _ _ O rfl rfl rfl Fe underlying45 rfl (by kernel_rfl) ?_;simp only[Act.put,aG,aH,aI])|(refine Oa _ _ g2 rfl rfl rfl oY underlying53 rfl (by kernel_rfl) ?_;simp only[Act.put,aG,aH,aI])|go_big_quiet_step(first|fail)|quiet_step(first|fail))
     refine wpQuiet_nil ?_;rfl
    case S34=>rfl
    case N34=>exact fun _=>by first|rfl|(go_simp;done)|(go_simp;exact⟨rfl,rfl,rfl⟩)|(go_simp;exact⟨rfl,rfl⟩)
    case R34=>exact fun x w1 D hx z=>hx
    case aqc=>exact fun W1 N=>((H9.aa N).ap9 HP.out ai.out ec J).mono (fun e D ⟨⟨a,er,he,hs⟩,z⟩=>⟨(a,er),he,z,hs⟩)
    case J34=>
     intro x F hF y;simp only[M3.cD,arQ,arR,arS]
     repeat(first|go_big_quiet_step(fail)|quiet_step(fail))
     refine wpQuiet_nil ?_;rfl
    case M34=>
     intro x cK iB Hq
     try simp only[Act.put,ar4,ar2,ar3]
     obtain⟨a',aS⟩:=x;simp only at Hq;obtain⟨h1,h2⟩:=Va.out.uniq Hq;subst h1 h2;have Tm:=H9.aa iB;have TL:=am.aa iB;clear H9 am iB Jm an c9 Hq;go_wp2;go_roundw
     case rel=>exact⟨j+1,by go_num,by omega,Tm,TL⟩
     case measure=>simp only[intOf];omega
  ·obtain rfl:j=2:=by omega
   go_wp2_with fail;refine(akB _).mono ?_;rintro e cK ⟨rfl,iB⟩;go_wp2;go_ret;exact⟨rfl,aB Q.aW iB⟩
end Go.Proofs.YtlhkojcmcmkmaaaGreat
namespace Go.Proofs.YtlhkojcmcmkmaaaGreat.grossupSolves
open Go.Proofs.Tryz
open Go.ChangeShapes Go.WideShapes Go.ChangeAt Go.RowKit
open Go.ChangeMaps (open_string shut_string)
theorem own:ownKnob Tryz.prog.godebug=none:=by kernel_rfl
theorem laidOut:laidOutB prog=true:=by kernel_rfl
theorem lifted(os:Os)(l:os.Started)(H:Type)(enc:TypeId×Value->H):
  ReturnsInHanded {} Tryz.checked os 11 .any (Rows.grossupSolvesSpec.pre6 enc prog Tryz.f11 Rows.grossupSolvesRow.domain false) (Rows.grossupSolvesSpec.post enc prog Tryz.f11 false true false false):=by
 refine returnsInHanded_of_change (C:=Tryz.checked) own l (by kernel_rfl) func11
  (ChangeSpec.witness6 (enc:=enc) (C:=Tryz.checked) false ⟨#[],#[.slice none 0 0,.int .i64 0],[]⟩ 8 (by kernel_rfl) (by kernel_rfl) (by kernel_rfl) (by kernel_rfl)) ?_
 intro W base args O gs before r G _ _;have n:∀(j:Nat) t v,Tryz.f11.params[j]?=some t->args[j]?=some v->Value.okWide prog W .any base t v:=r;have u:=G;obtain⟨p,q,I,P,rfl,_,_⟩:=G;have J:DataW.TrodAll enc prog W 0 (fun _=>true) true Tryz.f11.params.toList args.toList O p:=I;rw[Tryz.params11]at J n;obtain⟨K,Q,d0,R,S,q0,T,rfl,rfl,L,U⟩:=trodAll_cons J;obtain⟨M,V,d1,X,p1,q1,rfl,rfl,rfl,Y,Z⟩:=trodAll_cons U;obtain⟨rfl,rfl,rfl⟩:=trodAll_nil Z;obtain rfl:args=#[K,M]:=by cases args;simp_all
 obtain⟨rfl,rfl⟩:=trodVars_none P;obtain⟨a0,ab,y,rfl⟩:=okWide_slice underlying34 (n 0 34 K rfl rfl);have N:=L;have z:∀x∈S,x.block<W.heap.size:=by obtain⟨m,hm⟩:=N;exact DataW.trod_lt m _ _ _ hm
 obtain⟨B,rfl,dE,gK,WN,D⟩:=akE L;have E:=ar0 WN D;obtain⟨n1,rfl,rfl,rfl,F⟩:=open_int underlying3 (n 1 3 M rfl rfl) Y;clear I r;refine(aqa a0 y B n1 W dE E gK).mono fun e W' ⟨he,aW⟩=>?_;subst he;exact⟨_,rfl,_,_,_,[],_,[],u,trodAll_mk1 (shut_bool underlying4 _),(trodAll_cons_mk (Below.trod laidOut (by kernel_rfl) (as7 (by kernel_rfl)) N aW z) (trodAll_cons_mk (shut_int underlying3 F) trodAll_mk0)),rfl,aW.frame _,fun h=>by cases h⟩
theorem t4:(Rows.grossupSolvesRow.inPlace==Tryz.prog.inPlace 11)=true:=by kernel_rfl
theorem t5:(Rows.grossupSolvesRow.unfollowed==Tryz.prog.unfollowed 11)=true:=by kernel_rfl
theorem t6:(Rows.grossupSolvesRow.recurses==Tryz.prog.recurses 11)=true:=by kernel_rfl
theorem t7:(Rows.grossupSolvesRow.named==Tryz.prog.varsNamed 11)=true:=by kernel_rfl
theorem t8:(Rows.grossupSolvesRow.pinned==Rows.grossupSolvesRow.pinnedBy)=true:=by kernel_rfl
theorem t9:(Rows.grossupSolvesRow.lifted==Tryz.prog.liftsFinal)=true:=by kernel_rfl
theorem tc:joinedFacts prog 11 Tryz.f11 Rows.grossupSolvesSpec Rows.grossupSolvesRow=true:=by unfold joinedFacts;rw[t4,t5,t6,t7,t8,t9];kernel_rfl
theorem tf:Tryz.pinned.checked.prog.funcNamed Rows.grossupSolvesRow.func=some 11:=by kernel_rfl
theorem over:Rows.grossupSolvesRow.holds Tryz.pinned (OpenSpec.ofChange Rows.grossupSolvesSpec):=
 OpenClaim.holds_of_wide 11 Tryz.f11 rfl rfl rfl rfl rfl rfl rfl ⟨rfl,rfl,rfl,rfl,rfl⟩ rfl rfl rfl rfl rfl tf func11 tc
  (as7 (by kernel_rfl)) (by unfold Func.isWrapper;first|(rw[arK (by decide+kernel)];kernel_rfl)|(rw[arJ (by decide+kernel)];exact⟨rfl,rfl⟩))
  (fun os e H j _=>lifted os e H j)
theorem proved:Rows.GrossupSolvesSaid:=over
#print axioms proved
end Go.Proofs.YtlhkojcmcmkmaaaGreat.grossupSolves
