/- Conditions: as stated. -/
import Derived.Maps.RangeWalk
import Derived.Maps.OwnOps
import Derived.Maps.Ext
import Derived.Sort.KeysCollected
import Derived.Shelf.SlGeneric
import Derived.Shelf.SlSortCmp.WholeK
import Derived.Shelf.SlSortCmp.NoneTotal
import Derived.Ground.SlsfProg
import Derived.Test.YtlhkojcmcmkmaaaGreatProg
import Derived.Test.YtlhkojcmcmkmaaaGreatKNetM
set_option maxRecDepth 100000
set_option maxHeartbeats 4000000
namespace Go.Proofs.YtlhkojcmcmkmaaaGreat
open Go.Proofs.Tryz
open Go.RowKit
theorem aR.dL{F:World->Prop}{W:World}{a:Addr}{v:Value}(e:a.block<W.heap.size)(h:W.cell? a=some v)(p:aR (fun w'=>Below W.heap.size W w') F):p.w'.cell? a=some v:=(p.h.cell e).trans h
theorem ahY{P:Program}{id:Nat}{Q:Exit->Act->World->Prop}{a aE:Act}{W:World}{L:List Oper}(l:List Nat)(u D:Nat){d:Nat}{t I:TypeId}{zs:Array Value}(j:Array Value){x:Operand}{G y:Oper}
  (T:P.follows .mixedOrders=true) (U:Region.noSelect L.toArray=true) (V:2+l.length=L.length)
  (hi:l.all (fun i=>decide (i<L.toArray.size))=true) (X:M3.BZ .any L.toArray l (Array.replicate L.length false)=true) (hd:M3.j0 a.tmps.size (M3.cL L.toArray l)=true)
  (Y:Region.ready .any L.toArray (M3.lH l (Array.replicate L.length false))=[u]) (Z:Region.ready .any L.toArray ((M3.lH l (Array.replicate L.length false)).setIfInBounds u true)=[D])
  (r3:Region.ready .any L.toArray (((M3.lH l (Array.replicate L.length false)).setIfInBounds u true).setIfInBounds D true)=[])
  (X1:L.toArray[u]?=some G) (Lt:L.toArray[D]?=some y) (X2:G.dst=some d) (X3:G.guard=none) (Fv:y.dst=none) (J:y.guard=none) (Qg:y.op=.store I (.tmp d) x)
  (Nz:∀(b:Act) (w:World),(execOp b.eval G).run P w=.ok (.value (.pointer (some ⟨w.heap.size,0,none⟩))) (w.alloc (.cells zs t)))
  (z:j.size=zs.size) (DC:(P.info? I).map (·.size)=some j.size) (h1:j.toList.all (·.oneCell')=true)
  (H:∀F:World->Prop,fW F->Inhabited (aR (fun w'=>Below W.heap.size W w') F)->wpQuiet P L.toArray (fun w'=>∃p:aR (fun w'=>Below W.heap.size W w') F,w'=p.w') (fun a'=>a'=aE) (M3.cL L.toArray l) a)
  (E:∀g,(aE.put (some d) (.pointer (some ⟨g,0,none⟩))).eval x=.agg j/\(aE.put (some d) (.pointer (some ⟨g,0,none⟩))).eval (.tmp d)=.pointer (some ⟨g,0,none⟩))
  (M:∀g w',W.heap.size<=g->ah w' g t j->Below W.heap.size W w'->Q .normal ((aE.put (some d) (.pointer (some ⟨g,0,none⟩))).put none undef) w'):(Code.region id L.toArray true).wp P Q a W:=by
 have Dp:=fun g=>(E g).1;have Cy:=fun g=>(E g).2;refine M3.iu (C:=fun w'=>Below W.heap.size W w') (iw _ _ (aq7 _)) (arb _ _) l 2 T U V hi X hd H ?_;intro Q0 bM;refine M3.bL [u] Y (by simp) ?_;intro n R _ i e;rw[arQ]at e;subst e;refine M3.bD (.pointer (some ⟨n.heap.size,0,none⟩)) (n.alloc (.cells zs t)) X1 (by simp[Region.wanted,X3]) (Nz _ _) ⟨ew R _,?_⟩;rw[X2];refine M3.bL [D] Z (by simp) ?_;intro r gv K i e;rw[arQ]at e;subst e;have S:=(ah.new n t zs).aa K;have og:=R.size;have B:(execOp (aE.put (some d) (.pointer (some ⟨n.heap.size,0,none⟩))).eval y).run P r=.ok .skip (r.setCells n.heap.size 0 j.toList):=by unfold execOp;simp only[Qg,Cy,Dp,Instr.storeAt,Instr.sureAddr,Sem.run_bind,asz,asC,run_storeVar_mid r n.heap.size 0 I j (by have:=S.there;rwa [<-z]at this) DC (by simpa using h1)]
 have N:=NA n.heap.size j.toList 0 r;have bU:Below W.heap.size W (r.setCells n.heap.size 0 j.toList):=jN gv N (fun q hq=>by injection hq;omega);refine M3.eT (r.setCells n.heap.size 0 j.toList) Lt (by simp[Region.wanted,J]) B ⟨bU,?_⟩;rw[Fv];refine M3.kp r3 ?_;intro w3 lF O;exact bM _ _ (M _ w3 og ((S.T6 z).aa O) lF)
theorem X4{P:Program}{id:Nat}{Q:Exit->Act->World->Prop}{a aE:Act}{W:World}{L:List Oper}(j:List Nat)(r z J:Nat){d dz:Nat}{t N:TypeId}{zs:Array Value}(l:Array Value)(v:Value){x y:Operand}{K B D:Oper}
  (hm:P.follows .mixedOrders=true) (hs:Region.noSelect L.toArray=true) (hn:3+j.length=L.length)
  (hi:j.all (fun i=>decide (i<L.toArray.size))=true) (hB:M3.BZ .any L.toArray j (Array.replicate L.length false)=true) (hd:M3.j0 a.tmps.size (M3.cL L.toArray j)=true)
  (r1:Region.ready .any L.toArray (M3.lH j (Array.replicate L.length false))=[r]) (r2:Region.ready .any L.toArray ((M3.lH j (Array.replicate L.length false)).setIfInBounds r true)=[z])
  (r3:Region.ready .any L.toArray (((M3.lH j (Array.replicate L.length false)).setIfInBounds r true).setIfInBounds z true)=[J])
  (r4:Region.ready .any L.toArray ((((M3.lH j (Array.replicate L.length false)).setIfInBounds r true).setIfInBounds z true).setIfInBounds J true)=[])
  (X1:L.toArray[r]?=some K) (Lt:L.toArray[z]?=some B) (O:L.toArray[J]?=some D) (X2:K.dst=some d) (X3:K.guard=none) (Fv:B.dst=none) (R:B.guard=none) (Qg:B.op=.store N (.tmp d) x)
  (Lu:D.dst=some dz) (S:D.guard=none) (T:D.op=.assign y)
  (Nz:∀(b:Act) (w:World),(execOp b.eval K).run P w=.ok (.value (.pointer (some ⟨w.heap.size,0,none⟩))) (w.alloc (.cells zs t)))
  (G:l.size=zs.size) (DC:(P.info? N).map (·.size)=some l.size) (h1:l.toList.all (·.oneCell')=true)
  (H:∀F:World->Prop,fW F->Inhabited (aR (fun w'=>Below W.heap.size W w') F)->wpQuiet P L.toArray (fun w'=>∃p:aR (fun w'=>Below W.heap.size W w') F,w'=p.w') (fun a'=>a'=aE) (M3.cL L.toArray j) a)
  (E:∀g,(aE.put (some d) (.pointer (some ⟨g,0,none⟩))).eval x=.agg l/\(aE.put (some d) (.pointer (some ⟨g,0,none⟩))).eval (.tmp d)=.pointer (some ⟨g,0,none⟩)/\((aE.put (some d) (.pointer (some ⟨g,0,none⟩))).put none undef).eval y=v)
  (M:∀g w',W.heap.size<=g->ah w' g t l->Below W.heap.size W w'->Q .normal (((aE.put (some d) (.pointer (some ⟨g,0,none⟩))).put none undef).put (some dz) v) w'):(Code.region id L.toArray true).wp P Q a W:=by
 have Dp:=fun g=>(E g).1;have Cy:=fun g=>(E g).2.1;have U:=fun g=>(E g).2.2;refine M3.iu (C:=fun w'=>Below W.heap.size W w') (iw _ _ (aq7 _)) (arb _ _) j 3 hm hs hn hi hB hd H ?_;intro Q0 bM;refine M3.bL [r] r1 (by simp) ?_;intro n aV _ i e;rw[arQ]at e;subst e;refine M3.bD (.pointer (some ⟨n.heap.size,0,none⟩)) (n.alloc (.cells zs t)) X1 (by simp[Region.wanted,X3]) (Nz _ _) ⟨ew aV _,?_⟩;rw[X2];refine M3.bL [z] r2 (by simp) ?_;intro u gv V i e;rw[arQ]at e;subst e;have aD:=(ah.new n t zs).aa V;have og:=aV.size;have I:(execOp (aE.put (some d) (.pointer (some ⟨n.heap.size,0,none⟩))).eval B).run P u=.ok .skip (u.setCells n.heap.size 0 l.toList):=by unfold execOp;simp only[Qg,Cy,Dp,Instr.storeAt,Instr.sureAddr,Sem.run_bind,asz,asC,run_storeVar_mid u n.heap.size 0 N l (by have:=aD.there;rwa [<-G]at this) DC (by simpa using h1)]
 have X:=NA n.heap.size l.toList 0 u;have bU:Below W.heap.size W (u.setCells n.heap.size 0 l.toList):=jN gv X (fun q hq=>by injection hq;omega);refine M3.eT (u.setCells n.heap.size 0 l.toList) Lt (by simp[Region.wanted,R]) I ⟨bU,?_⟩;rw[Fv];have bz:=aD.T6 G;refine M3.bL [J] r3 (by simp) ?_;intro w3 lF Y i e;rw[arQ]at e;subst e;have Z:(execOp ((aE.put (some d) (.pointer (some ⟨n.heap.size,0,none⟩))).put none undef).eval D).run P w3=.ok (.value v) w3:=by unfold execOp;simp only[T,U,asz]
 refine M3.bD v w3 O (by simp[Region.wanted,S]) Z ⟨lF,?_⟩;rw[Lu];refine M3.kp r4 ?_;intro w4 bC ab;exact bM _ _ (M _ w4 og ((bz.aa Y).aa ab) bC)
theorem Qh{P:Program}{id:Nat}{Q:Exit->Act->World->Prop}{a aE:Act}{W:World}{L:List Oper}(e:List Nat)(j:Nat){n:Oper}
  (y:P.follows .mixedOrders=true) (z:Region.noSelect L.toArray=true) (B:1+e.length=L.length)
  (hi:(e.all (fun i=>decide (i<L.toArray.size))&&e.all (M5.Lv .any L.toArray j)&&M3.BZ .any L.toArray e (Array.replicate L.length false))=true) (hd:M3.j0 a.tmps.size (M3.cL L.toArray e)=true)
  (D:Region.ready .any L.toArray (M3.lH e (Array.replicate L.length false))=[j]) (E:Region.ready .any L.toArray ((M3.lH e (Array.replicate L.length false)).setIfInBounds j true)=[])
  (G:L.toArray[j]?=some n) (I:n.dst=none) (u:n.guard=none)
  (H:∀F:World->Prop,fW F->Inhabited (aR (fun w'=>Below W.heap.size W w') F)->wpQuiet P L.toArray (fun w'=>∃p:aR (fun w'=>Below W.heap.size W w') F,w'=p.w') (fun a'=>a'=aE) (M3.cL L.toArray e) a)
  (M:∀w',Below W.heap.size W w'->∃r,(execOp aE.eval n).run P w'=.ok .skip r/\Q .normal (aE.put none undef) r):(Code.region id L.toArray true).wp P Q a W:=by
 refine M5.iu (C:=fun w'=>Below W.heap.size W w') (iw _ _ (aq7 _)) (arb _ _) e 1 j y z B hi hd H ?_;intro R J;refine M5.nG D E ?_;intro K N _;obtain⟨r,l,O⟩:=M K N;refine M3.eT r G (by simp[Region.wanted,u]) l ?_;rw[I];exact J _ _ O
theorem ab5{P:Program}{p:Array Oper}{u:Region.Mode}{C:World->Prop}{s:Nat}{Q:Act->World->Prop}{n:Nat}{l:Array Bool}{a:Act}{w:World}(k:Nat){o:Oper}(v:Value)(y:Region.ready u p l=[k])(B:k≠s)(D:p[k]?=some o)(E:o.guard=none)
  (r:∀w',(execOp a.eval o).run P w'=.ok (.value v) w') (h:M5.cG P u p C s Q n (l.setIfInBounds k true) (a.put o.dst v) w):M5.cG P u p C s Q (n+1) l a w:=by
 intro w' c b;refine⟨fun e=>(by rw[y]at e;cases e),fun j z=>?_⟩;rw[y,arQ]at z;subst z;simp only[aq8 B];exact M3.bD v w' D (by simp[Region.wanted,E]) (r w') ⟨c,M5.Dx h b⟩
theorem T7{P:Program}{id:Nat}{Q:Exit->Act->World->Prop}{a aE:Act}{W:World}{L:List Oper}(e:List Nat)(j n l:Nat){r u B:Oper}(y D:Value)
  (N:P.follows .mixedOrders=true) (O:Region.noSelect L.toArray=true) (R:3+e.length=L.length)
  (hi:(e.all (fun i=>decide (i<L.toArray.size))&&e.all (M5.Lv .any L.toArray l)&&M3.BZ .any L.toArray e (Array.replicate L.length false))=true) (hd:M3.j0 a.tmps.size (M3.cL L.toArray e)=true)
  (S:Region.ready .any L.toArray (M3.lH e (Array.replicate L.length false))=[j]) (T:Region.ready .any L.toArray ((M3.lH e (Array.replicate L.length false)).setIfInBounds j true)=[n])
  (r3:Region.ready .any L.toArray (((M3.lH e (Array.replicate L.length false)).setIfInBounds j true).setIfInBounds n true)=[l])
  (U:Region.ready .any L.toArray ((((M3.lH e (Array.replicate L.length false)).setIfInBounds j true).setIfInBounds n true).setIfInBounds l true)=[])
  (G:(decide (j≠l)&&decide (n≠l))=true)
  (V:L.toArray[j]?=some r) (X:L.toArray[n]?=some u) (Y:L.toArray[l]?=some B) (I:r.guard=none) (J:u.guard=none) (Z:B.dst=none) (K:B.guard=none)
  (H:∀F:World->Prop,fW F->Inhabited (aR (fun w'=>Below W.heap.size W w') F)->wpQuiet P L.toArray (fun w'=>∃p:aR (fun w'=>Below W.heap.size W w') F,w'=p.w') (fun a'=>a'=aE) (M3.cL L.toArray e) a)
  (E1:∀w,(execOp aE.eval r).run P w=.ok (.value y) w) (E2:∀w,(execOp (aE.put r.dst y).eval u).run P w=.ok (.value D) w)
  (M:∀w',Below W.heap.size W w'->∃E,(execOp ((aE.put r.dst y).put u.dst D).eval B).run P w'=.ok .skip E/\Q .normal (((aE.put r.dst y).put u.dst D).put none undef) E):(Code.region id L.toArray true).wp P Q a W:=by
 simp only[arw,arz]at G;refine M5.iu (C:=fun w'=>Below W.heap.size W w') (iw _ _ (aq7 _)) (arb _ _) e 3 l N O R hi hd H ?_;intro Q0 bM;refine ab5 j y S G.1 V I E1 ?_;refine ab5 n D T G.2 X J E2 ?_;refine M5.nG r3 U ?_;intro w1 aV _;obtain⟨E,z,hq⟩:=M w1 aV;refine M3.eT E Y (by simp[Region.wanted,K]) z ?_;rw[Z];exact bM _ _ hq
theorem ah0(k:Int)(c:ByteArray):ag k [⟨c,0⟩]=[]:=by simp[ag,nz]
theorem ab6(k:Int)(c:ByteArray){n:Int}(h:n≠0):ag k [⟨c,n⟩]=[⟨k,c,n⟩]:=by rw[ag,List.filter_cons_of_pos (by simp[nz,h])];rfl
theorem JH{B:World}{g:Nat}{c:mz}{s:jn}{r:List dE}{w:World}(h:dF B g c s r w)(l:Int)(p:ByteArray)(j:Int)(R:r.length<=1000000):
  Calls prog 104 #[.pointer (some ⟨g,0,none⟩),.int .i64 l,.string p,.int .i64 j] w fun e w'=>e=.returned (.tuple #[])/\∃v',dF B g c {s with lv:=v'} (r++ag l [⟨p,j⟩]) w'/\Mv g s.lv w v' w':=by
 have G:=aq6 (fun v' w' ls' n=>h.grow (w':=w') (v':=v') (ls':=ls') (n:=n));have I:=aq6 h;have J:=h.own;have K:=h.aU.size;have L:w.cell? ⟨g,32,none⟩=some s.lv:=h.blk.cell 32;have M:=aq6 h.blk;have u:=aq6 h.far;clear h;go_enter func104,ntmps104;by_cases y:j=0
 ·subst y;go_wp2
  go_end0
  exact⟨rfl,s.lv,by rw[ah0,List.append_nil];exact I.out,Mv.refl _ _ _⟩
 ·have N:=aq6 (ab6 l p y);have O:(j !=0)=true:=by simp[y]
  go_wp2_with(at_builtin;(refine X5 _ _ 25 ⟨l,p,j⟩ _ 32 _ Bq underlying25 J ey (by omega) rfl (zL _) (by omega) (by omega) (by omega) (by rfl) (by rfl) (by rfl) (by rfl) (by simp) (by rfl) ?_);intro S C D E P;obtain⟨T,U,Q,_,_,_,_⟩:=D.kE ey;subst Q;have F:=M.out.grown E (fun e=>u.out e.symm);have f5:=F.frozen 32;have V:C.cell? ⟨g,32,none⟩=some s.lv:=F.cell 32);have z:=G.out _ C _ _ D E P;simp only[arl,ars,arC,ark]at z;rw[<-N.out]at z
  go_end0
  exact⟨rfl,_,z⟩
theorem TT{B:World}{g:Nat}{c:mz}{s:jn}{u:List dE}{w:World}(h:dF B g c s u w)(j:Int)(A:Option Addr)(J:Nat)(l:List Elem)(P:mQ aN 2 w g s.lv A l)(hl:u.length<=1000)(kX:l.length<=128)
  (hb:-1000000000000000<=s.left/\s.left<=1000000000000000) (C:∀x∈l,0<=x.amount/\x.amount<=1000000000000):
  Calls prog 106 #[.pointer (some ⟨g,0,none⟩),.int .i64 j,.slice A l.length J] w fun e w'=>e=.returned (.tuple #[])/\∃p,dF B g c {s with lv:=p,left:=s.left-aQ l} (u++ag j l) w'/\Mv g s.lv w p w':=by
 have Q:=aq6 C;have HI:=aq6 h;have HA:=aq6 P;clear C h P;obtain⟨b0,b1⟩:=hb;have Ie:Hid (∀k,k<=l.length->(ag j (l.take k)).length<=128):=fun k R=>by have:=arJ nz (l.take k);simp only[ag,arV,ar7]at this|-;omega
 have Fx:Hid (∀k,k<=l.length->0<=aQ (l.take k)/\aQ (l.take k)<=128000000000000):=fun k R=>by have:=NB (l.take k) 1000000000000 (fun x C=>Q.out x (arD C));rw[ar7]at this;omega
 go_enter func106,ntmps106;go_wp2_with fail
 go_loopw [10] (fun i wr=>∃(k:Nat) (p:Value),k<=l.length/\i=.int .i64 k/\dF B g c {s with lv:=p,left:=s.left-aQ (l.take k)} (u++ag j (l.take k)) wr/\Mv g s.lv w p wr) (fun i _=>l.length-(intOf i).toNat)
 case atStart=>exact⟨0,s.lv,by omega,rfl,by simpa[ag,aQ]using HI.out,Mv.refl _ _ _⟩
 case round=>
  rename World=>wr
  obtain⟨k,S,R,rfl,r,D⟩:=hrel;by_cases n:k<l.length
  ·obtain⟨b,ad,Cz,kW,K⟩:=(HA.out.mv D).sl.at_ n;have T:=K 0 _ rfl;have c1:=K 1 _ rfl;simp only[ara]at T;rw[Cz];have U:Hid (l.take (k+1)=l.take k++[l[k]]):=arA n;have HS:Hid (aQ (l.take (k+1))=aQ (l.take k)+l[k].amount):=X6 l k n;have gK:(k:Int)<(l.length:Int):=(by omega);obtain⟨x0,x1⟩:=Q.out _ (arc n);obtain⟨s0,s1⟩:=Fx.out k (by omega);have LA:=Ie.out k (by omega);have o8:Hid (ag j (l.take (k+1))=ag j (l.take k)++ag j [l[k]]):=(by rw[Hid,U.out,Qi]);clear K U;generalize l[k]=x at*;generalize aQ (l.take k)=q at*;have E:=ah.new wr 69 #[.string x.code,.int .i64 x.amount];have G:=bF wr (.cells #[.string x.code,.int .i64 x.amount] 69);have nZ:S.ownBlock≠some wr.heap.size:=fun e=>by have:=(r.row _ e).2;omega
   have L:wr.heap.size≠g:=(by have:=r.lt;omega);go_upto_region 3 with fail
   generalize wr.alloc (Obj.cells _ _)=W1 at E G|-;have V:=r.aa G;have X:=D.trans (Mv.aU G);obtain⟨z0,z1⟩:=E.cz2;clear r G T c1 D;go_wp2_with fail;refine(JH V j x.code x.amount (by simp;omega)).mono ?_;rintro e Y ⟨rfl,v2,y,M⟩;have N:=E.mv M L nZ;have Z:=X.trans M;rw[ar6,<-o8.out]at y;have fZ:=y.lt;have Qj:=N.lt;have Lf:Y.cell? ⟨g,33,none⟩=some (.int .i64 (s.left-q)):=y.blk.cell 33;have B0:Y.cell? ⟨wr.heap.size,1,none⟩=some (.int .i64 x.amount):=N.cell 1;clear z0 z1 E N V X M;go_upto_region 4 with fail
   refine T7 (aE:=?Co) [0,1,2,3,4,5,6] 7 8 9 (.pointer (some ⟨g,0,none⟩)) (.pointer (some ⟨g,33,none⟩)) (by kernel_rfl) (by kernel_rfl) rfl (by kernel_rfl) (by rfl) (by kernel_rfl) (by kernel_rfl) (by kernel_rfl) (by kernel_rfl) rfl rfl rfl rfl rfl rfl rfl rfl ?H1 ?E1 ?G1 ?M1
   case H1=>
    intro F hF ab;simp only[M3.cL,arh,ari,arj];have Lg:=aR.dL (F:=F) (a:=⟨g,33,none⟩) (by exact fZ) Lf;have d1:=aR.dL (F:=F) (a:=⟨wr.heap.size,1,none⟩) (by exact Qj) B0
    repeat(first|go_big_quiet_step(first|fail)|quiet_step(first|fail))
    refine wpQuiet_nil ?_;rfl
   case E1=>exact fun _=>by first|rfl|go_simp
   case G1=>exact fun _=>by first|rfl|go_simp
   case M1=>
    intro O z
    try simp only[Act.put,ary]
    have I:=y.aa z;have kG:=Z.trans (Mv.aU z);have Lg:O.cell? ⟨g,33,none⟩=some (.int .i64 (s.left-q)):=I.blk.cell 33;have f33:=I.blk.frozen 33;refine⟨O.setCell ⟨g,33,none⟩ (.int .i64 (s.left-q-x.amount)),by go_simp,?_⟩;have zM:=I.T8 (s.left-q-x.amount);have lU:=kG.trans (Mv.set 33 (.int .i64 (s.left-q-x.amount)));generalize O.setCell ⟨g,33,none⟩ (.int .i64 (s.left-q-x.amount))=w5 at zM lU|-;clear I kG Lg f33 y Z Lf B0;go_wp2;go_roundw
    case rel=>
     have ax:∃(k':Nat) (p:Value),k'<=l.length/\Value.int .i64 ((k:Int)+1)=.int .i64 k'/\dF B g c {s with lv:=p,left:=s.left-aQ (l.take k')} (u++ag j (l.take k')) w5/\Mv g s.lv w p w5:=⟨k+1,v2,by omega,by go_num,by rw[HS.out,<-Int.sub_sub];exact zM,lU⟩
     first|exact ax|((repeat apply Exists.intro);exact⟨ax,rfl⟩)
    case measure=>simp[intOf];omega
  ·obtain rfl:k=l.length:=by omega
   rw[arW]at r;go_wp2
   go_end0
   exact⟨rfl,S,r,D⟩
def CA(a b:ByteArray):Int:=if Op.bytesLess a.toList b.toList then-1 else if !(Op.bytesLess a.toList b.toList||a.toList==b.toList)then 1 else 0
theorem ah2(a:ByteArray)(w:World):Calls prog 126 #[.string a] w fun e w'=>e=.returned (.bool false)/\w=w':=by go_enter func126,ntmps126;go_wp2;go_ret;exact⟨by simp,rfl⟩
theorem T9(a b:ByteArray)(w:World):Calls prog 85 #[.string a,.string b] w fun e w'=>e=.returned (.int .i64 (CA a b))/\w=w':=by
 go_enter func85,ntmps85;go_wp2_with(go_at_call 126;refine(ah2 _ _).mono ?_;rintro e w' ⟨rfl,rfl⟩)
 all_goals go_ret
 all_goals refine⟨?_,rfl⟩
 all_goals(simp[CA, *];try simp_all)
end Go.Proofs.YtlhkojcmcmkmaaaGreat
namespace Go.Proofs.YtlhkojcmcmkmaaaGreat
open Go.Proofs.Tryz
open Go.RowKit Go.Sort Go.Maps
theorem Gz:Keyed prog 9:=string_keyed underlying9
theorem Xn(w:World):(zeroValue 3).run prog w=.ok (.int .i64 0) w:=by kernel_rfl
abbrev PK(n:Int):DataW Unit:=.lit (.int .i64 n)
structure Dn(D:DataW Unit)(K:List UInt8->Bool)(T:List UInt8->Int):Prop where
 isMap:IsMap D
 has:∀c,Maps.has D (.string c)=K c
 at_:∀c,D.atKey (.string c) (PK 0)=PK (T c)
theorem ab7(x:Lit×DataW Unit):∀l,(DataW.insert x l).length=l.length+1
 |[]=>rfl
 |y::l=>by
  rw[DataW.insert];split
  ·rfl
  ·simp[ab7 x l]
theorem aby(l:List (Lit×DataW Unit)):(l.foldr DataW.insert []).length=l.length:=by
 induction l with
 |nil=>rfl
 |cons a l e=>rw[List.foldr_cons,ab7,e];rfl
theorem ab8(s:ByteArray):WideAt.IsKeyLit (key s):=trivial
theorem Dn.empty:Dn (.map []) (fF []) (cC []):=⟨isMap_empty,fun _=>rfl,fun _=>rfl⟩
theorem Dn.Xk{D:DataW Unit}{K K':List UInt8->Bool}{T T':List UInt8->Int}(h:Dn D K T)(s:ByteArray)(n:Int)(l:∀c,K' c=(K c||decide (s.data.toList=c)))(p:∀c,T' c=if s.data.toList=c then n else T c):Dn (D.put (key s) (PK n)) K' T':=by
 refine⟨h.isMap.put _ _,fun c=>?_,fun c=>?_⟩
 ·by_cases e:s.data.toList=c
  ·subst e;rw[show Lit.string s.data.toList=key s from rfl,has_put_same h.isMap (ab8 s),l];simp
  ·rw[has_put_other (fun j=>e (by simpa[key]using j.symm)),h.has,l];simp[e]
 ·by_cases e:s.data.toList=c
  ·subst e;rw[show Lit.string s.data.toList=key s from rfl,atKey_put_same h.isMap (ab8 s),p];simp
  ·rw[atKey_put_other (fun j=>e (by simpa[key]using j.symm)),h.at_,p];simp[e]
theorem Xo{n:Int}(e:-9223372036854775808<=n)(j:n<=9223372036854775807):(Lit.int .i64 n).wf=true:=by simp[Lit.wf,IntKind.min,IntKind.max,IntKind.signed,IntKind.bits];omega
theorem Xl(e:List Elem)(k:Nat)(h:k<e.length)(c:List UInt8):fF (e.take (k+1)) c=(fF (e.take k) c||decide (e[k].code.data.toList=c)):=by rw[arA h,TL];simp[fF]
theorem Xm(e:List Elem)(k:Nat)(h:k<e.length)(c:List UInt8):cC (e.take (k+1)) c=cC (e.take k) c+if e[k].code.data.toList=c then e[k].amount else 0:=by rw[arA h,Nl];simp[cC]
end Go.Proofs.YtlhkojcmcmkmaaaGreat
namespace Go.Proofs
open Go.Shelf
def Tryz.ah3:Go.Shelf.Ren:=⟨fun|6=>170|15=>173|14=>210|28=>219|29=>220|20=>231|21=>232|22=>233|23=>234|24=>235|25=>236|26=>237|27=>238|46=>259|47=>240|48=>241|49=>260|50=>261|57=>269|n=>n,fun|22=>51|24=>69|25=>189|3=>3|39=>192|0=>0|53=>225|55=>227|4=>4|46=>218|45=>217|50=>222|5=>5|9=>9|66=>239|70=>209|76=>255|77=>256|n=>n,fun|n=>n⟩
theorem Tryz.Ua:Go.Proofs.SlLaysF0.n6 prog Tryz.ah3:={
 mixed:=by kernel_rfl
 f6:=⟨Tryz.f170.name,by decide,Tryz.func170.trans (congrArg some (by kernel_rfl))⟩
 f14:=⟨Tryz.f210.name,by decide,Tryz.func210.trans (congrArg some (by kernel_rfl))⟩
 f15:=Tryz.func173.trans (congrArg some (by kernel_rfl))
 f20:=⟨Tryz.f231.name,by decide,Tryz.func231.trans (congrArg some (by kernel_rfl))⟩
 f21:=⟨Tryz.f232.name,by decide,Tryz.func232.trans (congrArg some (by kernel_rfl))⟩
 f22:=⟨Tryz.f233.name,by decide,Tryz.func233.trans (congrArg some (by kernel_rfl))⟩
 f23:=⟨Tryz.f234.name,by decide,Tryz.func234.trans (congrArg some (by kernel_rfl))⟩
 f24:=⟨Tryz.f235.name,by decide,Tryz.func235.trans (congrArg some (by kernel_rfl))⟩
 f25:=⟨Tryz.f236.name,by decide,Tryz.func236.trans (congrArg some (by kernel_rfl))⟩
 f26:=⟨Tryz.f237.name,by decide,Tryz.func237.trans (congrArg some (by kernel_rfl))⟩
 f27:=⟨Tryz.f238.name,by decide,Tryz.func238.trans (congrArg some (by kernel_rfl))⟩
 f28:=Tryz.func219.trans (congrArg some (by kernel_rfl))
 f29:=Tryz.func220.trans (congrArg some (by kernel_rfl))
 f46:=⟨Tryz.f259.name,by decide,Tryz.func259.trans (congrArg some (by kernel_rfl))⟩
 f47:=Tryz.func240.trans (congrArg some (by kernel_rfl))
 f48:=Tryz.func241.trans (congrArg some (by kernel_rfl))
 f49:=⟨Tryz.f260.name,by decide,Tryz.func260.trans (congrArg some (by kernel_rfl))⟩
 f50:=⟨Tryz.f261.name,by decide,Tryz.func261.trans (congrArg some (by kernel_rfl))⟩
 f57:=⟨Tryz.f269.name,by decide,Tryz.func269.trans (congrArg some (by kernel_rfl))⟩
 t0:=underlying0
 a0:=Tryz.isAgg0
 z0:=Tryz.sizeOf0
 v0:=Tryz.zeroValue0
 t3:=underlying3
 a3:=Tryz.isAgg3
 z3:=Tryz.sizeOf3
 v3:=Tryz.zeroValue3
 t4:=underlying4
 a4:=Tryz.isAgg4
 z4:=Tryz.sizeOf4
 v4:=Tryz.zeroValue4
 t5:=underlying5
 a5:=Tryz.isAgg5
 z5:=Tryz.sizeOf5
 v5:=Tryz.zeroValue5
 t9:=underlying9
 a9:=Tryz.isAgg9
 z9:=Tryz.sizeOf9
 v9:=Tryz.zeroValue9
 t22:=underlying51
 a22:=Tryz.isAgg51
 z22:=Tryz.sizeOf51
 v22:=Tryz.zeroValue51
 t25:=underlying189
 a25:=Tryz.isAgg189
 z25:=Tryz.sizeOf189
 v25:=Tryz.zeroValue189
 t39:=underlying192
 a39:=Tryz.isAgg192
 z39:=Tryz.sizeOf192
 v39:=Tryz.zeroValue192
 t45:=underlying217
 a45:=Tryz.isAgg217
 z45:=Tryz.sizeOf217
 v45:=Tryz.zeroValue217
 t46:=underlying218
 a46:=Tryz.isAgg218
 z46:=Tryz.sizeOf218
 v46:=Tryz.zeroValue218
 t50:=underlying222
 a50:=Tryz.isAgg222
 z50:=Tryz.sizeOf222
 v50:=Tryz.zeroValue222
 t53:=underlying225
 a53:=Tryz.isAgg225
 z53:=Tryz.sizeOf225
 v53:=Tryz.zeroValue225
 t55:=underlying227
 a55:=Tryz.isAgg227
 z55:=Tryz.sizeOf227
 v55:=Tryz.zeroValue227
 t66:=underlying239
 a66:=Tryz.isAgg239
 z66:=Tryz.sizeOf239
 v66:=Tryz.zeroValue239
 t70:=underlying209
 a70:=Tryz.isAgg209
 z70:=Tryz.sizeOf209
 v70:=Tryz.zeroValue209
 t76:=underlying255
 a76:=Tryz.isAgg255
 z76:=Tryz.sizeOf255
 v76:=Tryz.zeroValue255
 t77:=underlying256
 a77:=Tryz.isAgg256
 z77:=Tryz.sizeOf256
 v77:=Tryz.zeroValue256}
end Go.Proofs
namespace Go.Proofs
def Tryz.ah4:Go.Shelf.Ren:=⟨fun|6=>196|15=>173|14=>226|28=>219|29=>220|20=>246|21=>247|22=>248|23=>249|24=>250|25=>251|26=>252|27=>253|46=>264|47=>240|48=>241|49=>265|50=>266|57=>271|n=>n,fun|22=>46|24=>166|25=>207|3=>3|39=>192|0=>0|53=>225|55=>227|4=>4|46=>218|45=>217|50=>222|5=>5|9=>9|66=>239|70=>209|76=>255|77=>256|n=>n,fun|n=>n⟩
theorem Tryz.ab9:Go.Proofs.SlLaysF0.n6 prog Tryz.ah4:={
 mixed:=by kernel_rfl
 f6:=⟨Tryz.f196.name,by decide,Tryz.func196.trans (congrArg some (by kernel_rfl))⟩
 f14:=⟨Tryz.f226.name,by decide,Tryz.func226.trans (congrArg some (by kernel_rfl))⟩
 f15:=Tryz.func173.trans (congrArg some (by kernel_rfl))
 f20:=⟨Tryz.f246.name,by decide,Tryz.func246.trans (congrArg some (by kernel_rfl))⟩
 f21:=⟨Tryz.f247.name,by decide,Tryz.func247.trans (congrArg some (by kernel_rfl))⟩
 f22:=⟨Tryz.f248.name,by decide,Tryz.func248.trans (congrArg some (by kernel_rfl))⟩
 f23:=⟨Tryz.f249.name,by decide,Tryz.func249.trans (congrArg some (by kernel_rfl))⟩
 f24:=⟨Tryz.f250.name,by decide,Tryz.func250.trans (congrArg some (by kernel_rfl))⟩
 f25:=⟨Tryz.f251.name,by decide,Tryz.func251.trans (congrArg some (by kernel_rfl))⟩
 f26:=⟨Tryz.f252.name,by decide,Tryz.func252.trans (congrArg some (by kernel_rfl))⟩
 f27:=⟨Tryz.f253.name,by decide,Tryz.func253.trans (congrArg some (by kernel_rfl))⟩
 f28:=Tryz.func219.trans (congrArg some (by kernel_rfl))
 f29:=Tryz.func220.trans (congrArg some (by kernel_rfl))
 f46:=⟨Tryz.f264.name,by decide,Tryz.func264.trans (congrArg some (by kernel_rfl))⟩
 f47:=Tryz.func240.trans (congrArg some (by kernel_rfl))
 f48:=Tryz.func241.trans (congrArg some (by kernel_rfl))
 f49:=⟨Tryz.f265.name,by decide,Tryz.func265.trans (congrArg some (by kernel_rfl))⟩
 f50:=⟨Tryz.f266.name,by decide,Tryz.func266.trans (congrArg some (by kernel_rfl))⟩
 f57:=⟨Tryz.f271.name,by decide,Tryz.func271.trans (congrArg some (by kernel_rfl))⟩
 t0:=underlying0
 a0:=Tryz.isAgg0
 z0:=Tryz.sizeOf0
 v0:=Tryz.zeroValue0
 t3:=underlying3
 a3:=Tryz.isAgg3
 z3:=Tryz.sizeOf3
 v3:=Tryz.zeroValue3
 t4:=underlying4
 a4:=Tryz.isAgg4
 z4:=Tryz.sizeOf4
 v4:=Tryz.zeroValue4
 t5:=underlying5
 a5:=Tryz.isAgg5
 z5:=Tryz.sizeOf5
 v5:=Tryz.zeroValue5
 t9:=underlying9
 a9:=Tryz.isAgg9
 z9:=Tryz.sizeOf9
 v9:=Tryz.zeroValue9
 t22:=underlying46
 a22:=Tryz.isAgg46
 z22:=Tryz.sizeOf46
 v22:=Tryz.zeroValue46
 t25:=underlying207
 a25:=Tryz.isAgg207
 z25:=Tryz.sizeOf207
 v25:=Tryz.zeroValue207
 t39:=underlying192
 a39:=Tryz.isAgg192
 z39:=Tryz.sizeOf192
 v39:=Tryz.zeroValue192
 t45:=underlying217
 a45:=Tryz.isAgg217
 z45:=Tryz.sizeOf217
 v45:=Tryz.zeroValue217
 t46:=underlying218
 a46:=Tryz.isAgg218
 z46:=Tryz.sizeOf218
 v46:=Tryz.zeroValue218
 t50:=underlying222
 a50:=Tryz.isAgg222
 z50:=Tryz.sizeOf222
 v50:=Tryz.zeroValue222
 t53:=underlying225
 a53:=Tryz.isAgg225
 z53:=Tryz.sizeOf225
 v53:=Tryz.zeroValue225
 t55:=underlying227
 a55:=Tryz.isAgg227
 z55:=Tryz.sizeOf227
 v55:=Tryz.zeroValue227
 t66:=underlying239
 a66:=Tryz.isAgg239
 z66:=Tryz.sizeOf239
 v66:=Tryz.zeroValue239
 t70:=underlying209
 a70:=Tryz.isAgg209
 z70:=Tryz.sizeOf209
 v70:=Tryz.zeroValue209
 t76:=underlying255
 a76:=Tryz.isAgg255
 z76:=Tryz.sizeOf255
 v76:=Tryz.zeroValue255
 t77:=underlying256
 a77:=Tryz.isAgg256
 z77:=Tryz.sizeOf256
 v77:=Tryz.zeroValue256}
end Go.Proofs
namespace Go.Proofs.YtlhkojcmcmkmaaaGreat
open Go.Proofs.Tryz
open Go.RowKit Go.Sort Go.Shelf
def NC(x y:Elem):Int:=CA x.code y.code
instance:Inhabited Elem:=⟨⟨⟨#[]⟩,0⟩⟩
def ND(x y:bK):Int:=Ig (mS x.bX y.bX) (CA x.code y.code)
instance:Inhabited bK:=⟨⟨⟨#[]⟩,0,false,0,0,0⟩⟩
theorem Ub(x y:Elem):ltOf NC x y=jc x y:=by
 unfold ltOf NC CA jc;split
 ·rename_i h;simp[h]
 ·rename_i h;have e:Op.bytesLess x.code.toList y.code.toList=false:=by simpa using h
  split<;>simp[e]
theorem ah5:SWO (ltOf NC) where
 irrefl x:=by rw[Ub,jc,Br];simp
 trans x y z e j:=by rw[Ub,jc,Br]at*;simp only[arz]at*;exact List.lt_trans e j
 ntrans x y z e j:=by rw[Ub,jc,Br]at*;simp only[ar4,asb]at*;exact List.le_trans j e
theorem ah6(x y:Elem)(W:World):Calls prog 171 #[.agg #[.string x.code,.int .i64 x.amount],.agg #[.string y.code,.int .i64 y.amount]] W fun e w'=>e=.returned (.int .i64 (NC x y))/\∃q j,w'=grow (W.drewN q) j:=by go_enter func171,ntmps171;go_wp2_with(go_at_call 85;refine(T9 _ _ _).mono ?_;rintro e w' ⟨rfl,rfl⟩);go_ret;exact⟨rfl,0,_,by rw[alloc_eq_grow,alloc_eq_grow,grow_grow];rfl⟩
theorem ah7(w:World)(j l n:Nat)(d:Array Elem)(os:Array Obj):w.grownBy (sortWorldK aN 2 w j l n d os) (some j):=by
 refine⟨rfl,rfl,rfl,size_sortWorldK_c aN 2 w j l n d os,fun i hi p=>?_⟩;have r:j≠i:=fun e=>p (by rw[e]);have u:(putRowK aN 2 (Sort.ahead w n) j l d).heap.size=w.heap.size:=by simp[putRowK,putRow,mapBlock,Sort.ahead]
 show((putRowK aN 2 (Sort.ahead w n) j l d).heap++os)[i]?=w.heap[i]?;rw[asU (by omega)];show(w.heap.modify j _)[i]?=_;rw[asy,aq8 r]
theorem abH(A:Option Addr)(r base:Nat)(l:List Elem)(w:World)(E:Own aN 2 69 w base (.slice A l.length r) l)(S:l.length<4611686018427387904):
  Calls prog 170 #[.slice A l.length r,.func (.func 171) #[] #[]] w fun e w'=>e=.returned (.tuple #[])/\
   ∃G:List Elem,G.Perm l/\G.Pairwise (fun a b=>jc b a=false)/\aj aN 2 w' w'.heap.size A G/\Below base w w':=by
 rcases E.2 with⟨I,T⟩|⟨g,P,J,I,hb,K,hn,hm,hs,U⟩
 ·injection I with p V Q
  obtain rfl:l=[]:=asD T;have z:=AnyF.slices_SortFunc_none {Tryz.Ua with} A r (.func (.func 171) #[] #[]) w;refine arf z fun e w' ⟨L,X⟩=>⟨L,[],List.Perm.refl _,List.Pairwise.nil,aj.cK,by rw[X];exact arb _ _⟩
 ·injection I with p V Q
  subst p Q;have M:=(asv.1 K).1;have Y:∀args w,(callFunc 171 args).run prog w=.ok (.enter 171 args) w:=enters_of func171 (by kernel_rfl) rfl;have Z:CmpLays prog 171 #[] aN 2 NC g 0 l.toArray.size w:=fun _ _ _ _ x y=>ah6 x y _;have R:HoldsK aN 2 w g 0 l.toArray:=by
   intro j D;rw[size_flatK]at D;simp only[List.size_toArray]at D;have C:j/2<l.length:=(by omega);have Dw:j%2<2:=Nat.mod_lt _ (by omega);refine⟨?_,by simp[World.frozen?,K]⟩;rw[get_flatK _ _ _ _ (by simpa using D),ark,cell_of_row w g j J _ (0,0) K];have N:l.toArray[j/2]! =l[j/2]:=(by simp[C]);rw[N];have hu:(aN l[j/2])[j%2]?=some ((aN l[j/2])[j%2]!):=by have B:j%2<(aN l[j/2]).length:=(by rw[dt];exact Dw);rw[aro B,arL (aN l[j/2]) (j%2) B]
   have p:=Ht dt l (j/2) (j%2) _ _ (aro C) hu;rw[show j/2*2+j%2=j by omega]at p;rw[<-U,asK,aq9 (by omega)]at p;simpa using p
  have z:=AnyQ.slices_SortFunc Tryz.Ua 2 Tryz.isAgg69 Tryz.sizeOf69 aN dt kn NC ah5 171 #[] g 0 r l.toArray w Y Z R M (by simpa using S);have LB:Calls prog 170 #[.slice (some ⟨g,0,none⟩) l.length r,.func (.func 171) #[] #[]] w _:=z;refine LB.mono ?_;rintro e w' ⟨L,d',n,os,hp,nW,rfl⟩;obtain⟨F,Uc,O⟩:=hp;refine⟨L,d'.toList,?_,?_,?_,gI (ah7 _ _ _ _ _ _) (by omega) (fun q e=>by injection e;omega)⟩
  ·have e1:l.toArray.size=l.length:=(by simp);rw[e1]at F O;have e2:(d'.extract 0 l.length)=d':=(by rw[<-F];simp);have e3:(l.toArray.extract 0 l.length)=l.toArray:=(by simp);rw[e2,e3]at O;exact O
  ·rw[arZ];intro i j hi D DD;have p:=nW i j (Nat.zero_le _) DD (by rw[<-F];simpa using D);rw[Ub,arL d' i (by simpa using hi),arL d' j (by simpa using D)]at p;simpa using p
  ·intro _;refine⟨g,0,rfl,lt_sortWorldK aN 2 w g 0 n d' os M,fun i x hi j u hu=>?_⟩;have LC:=holdsK_sortWorldK_c aN 2 w g 0 l.toArray d' n os R M F;have CB:i<d'.size:=(by simpa using(arG.1 hi).1);have o9:j<2:=(by have:=(arG.1 hu).1;rwa [dt]at this);have p:=(LC (i*2+j) (by rw[size_flatK];omega)).1;rw[get_flatK _ _ _ _ (by omega),show(i*2+j)/2=i by omega,show(i*2+j)%2=j by omega,arL d' i CB]at p;have N:d'[i]=x:=by
    have:=(arG.1 hi).2;simpa using this
   rw[N]at p;have DF:(aN x)[j]! =u:=by have B:=(arG.1 hu).1;rw[arL (aN x) j B];exact(arG.1 hu).2
   rw[DF]at p;rw[ark];rw[ark]at p;exact p
instance (x y:bK):Decidable (pD x y):=by unfold pD;infer_instance
def NF(x y:bK):Bool:=decide (pD x y)
theorem ah8(a b:ByteArray):decide (CA a b<0)=decide (a.data.toList<b.data.toList):=by
 unfold CA;rw[Br,ByteArray.toList_eq,ByteArray.toList_eq];split
 ·rename_i h;have e:a.data.toList<b.data.toList:=asr h;simp only[e,decide_true];decide
 ·rename_i h;have e:¬a.data.toList<b.data.toList:=fun j=>h (ase j);simp only[e,decide_false];split<;>decide
theorem Ud(x y:bK):ltOf ND x y=NF x y:=by
 have hS:=ah8 x.code y.code;unfold ltOf ND Ig mS NF pD;rcases asE x.bX y.bX with h|h|h
 ·simp[h]
 ·simp only[h,Int.lt_irrefl,arK,ne_eq,not_true,false_or,true_and];exact hS
 ·have e:¬x.bX<y.bX:=by omega
  have j:¬x.bX=y.bX:=by omega
  simp[h,e,j]
theorem ah9:SWO (ltOf ND) where
 irrefl x:=by rw[Ud,NF];exact asp (pD.DG x)
 trans x y z l n:=by rw[Ud,NF]at*;exact ase (pD.tr x y z (asr l) (asr n))
 ntrans x y z l n:=by
  rw[Ud,NF]at*;have p:=of_decide_eq_false l;have j:=of_decide_eq_false n;apply asp;rintro(h|⟨h,u⟩)
  ·rcases asE x.bX y.bX with e|e|e
   ·exact p (.inl e)
   ·exact j (.inl (by omega))
   ·exact j (.inl (by omega))
  ·rcases asE x.bX y.bX with e|e|e
   ·exact p (.inl e)
   ·have B:y.code.data.toList<=x.code.data.toList:=asb.1 (fun r=>p (.inr ⟨e,r⟩));have C:z.code.data.toList<=y.code.data.toList:=asb.1 (fun r=>j (.inr ⟨by omega,r⟩));exact absurd u (asb.2 (List.le_trans C B))
   ·exact j (.inl (by omega))
theorem aia(x y:bK)(W:World):Calls prog 197 #[.agg #[.string x.code,.int .i64 x.bX,.bool x.before,.int .i64 x.amount,.int .i64 x.bJ,.int .i64 x.cap],.agg #[.string y.code,.int .i64 y.bX,.bool y.before,.int .i64 y.amount,.int .i64 y.bJ,.int .i64 y.cap]] W fun e w'=>e=.returned (.int .i64 (ND x y))/\∃q j,w'=grow (W.drewN q) j:=by
 go_enter func197,ntmps197;go_wp2;refine wp_region_still_tail 10 (by kernel_rfl) (by kernel_rfl) ?_;simp only[List.take_succ_cons,List.take_zero,List.drop_succ_cons,List.drop_zero];change wpStill _ _ (World.drew _) (fun a'=>wpList _ _ _ _ a' (World.drew _)) _ _
 iterate 4 still_step
 still_call ((Qk _ _ _).mono fun e w' ⟨l,n⟩=>⟨l,n.symm⟩)
 iterate 4 still_step
 still_call ((T9 _ _ _).mono fun e w' ⟨l,n⟩=>⟨l,n.symm⟩)
 refine wpStill_nil ?_;go_wp2_with fail;refine(aca (mS x.bX y.bX) (CA x.code y.code) _ _ _ _ (by go_simp) (by go_simp)).mono ?_;rintro e p ⟨rfl,rfl⟩;go_wp2;go_ret;exact⟨rfl,1,_,by rw[alloc_eq_grow,alloc_eq_grow,alloc_eq_grow,grow_grow,grow_grow];rfl⟩
theorem aib(w:World)(j l n:Nat)(d:Array bK)(os:Array Obj):w.grownBy (sortWorldK j6 6 w j l n d os) (some j):=by
 refine⟨rfl,rfl,rfl,size_sortWorldK_c j6 6 w j l n d os,fun i hi p=>?_⟩;have r:j≠i:=fun e=>p (by rw[e]);have u:(putRowK j6 6 (Sort.ahead w n) j l d).heap.size=w.heap.size:=by simp[putRowK,putRow,mapBlock,Sort.ahead]
 show((putRowK j6 6 (Sort.ahead w n) j l d).heap++os)[i]?=w.heap[i]?;rw[asU (by omega)];show(w.heap.modify j _)[i]?=_;rw[asy,aq8 r]
theorem aic(A:Option Addr)(r base:Nat)(l:List bK)(w:World)(E:Own j6 6 166 w base (.slice A l.length r) l)(S:l.length<4611686018427387904):
  Calls prog 196 #[.slice A l.length r,.func (.func 197) #[] #[]] w fun e w'=>e=.returned (.tuple #[])/\
   ∃G:List bK,G.Perm l/\G.Pairwise (fun a b=>NF b a=false)/\aj j6 6 w' w'.heap.size A G/\Below base w w':=by
 rcases E.2 with⟨I,T⟩|⟨g,P,J,I,hb,K,hn,hm,hs,U⟩
 ·injection I with p V Q
  obtain rfl:l=[]:=asD T;have z:=AnyF.slices_SortFunc_none {Tryz.ab9 with} A r (.func (.func 197) #[] #[]) w;refine arf z fun e w' ⟨L,X⟩=>⟨L,[],List.Perm.refl _,List.Pairwise.nil,aj.cK,by rw[X];exact arb _ _⟩
 ·injection I with p V Q
  subst p Q;have M:=(asv.1 K).1;have Y:∀args w,(callFunc 197 args).run prog w=.ok (.enter 197 args) w:=enters_of func197 (by kernel_rfl) rfl;have Z:CmpLays prog 197 #[] j6 6 ND g 0 l.toArray.size w:=fun _ _ _ _ x y=>aia x y _;have R:HoldsK j6 6 w g 0 l.toArray:=by
   intro j D;rw[size_flatK]at D;simp only[List.size_toArray]at D;have C:j/6<l.length:=(by omega);have Dw:j%6<6:=Nat.mod_lt _ (by omega);refine⟨?_,by simp[World.frozen?,K]⟩;rw[get_flatK _ _ _ _ (by simpa using D),ark,cell_of_row w g j J _ (0,0) K];have N:l.toArray[j/6]! =l[j/6]:=(by simp[C]);rw[N];have hu:(j6 l[j/6])[j%6]?=some ((j6 l[j/6])[j%6]!):=by have B:j%6<(j6 l[j/6]).length:=(by rw[Ih];exact Dw);rw[aro B,arL (j6 l[j/6]) (j%6) B]
   have p:=Ht Ih l (j/6) (j%6) _ _ (aro C) hu;rw[show j/6*6+j%6=j by omega]at p;rw[<-U,asK,aq9 (by omega)]at p;simpa using p
  have z:=AnyQ.slices_SortFunc Tryz.ab9 6 Tryz.isAgg166 Tryz.sizeOf166 j6 Ih acb ND ah9 197 #[] g 0 r l.toArray w Y Z R M (by simpa using S);have LB:Calls prog 196 #[.slice (some ⟨g,0,none⟩) l.length r,.func (.func 197) #[] #[]] w _:=z;refine LB.mono ?_;rintro e w' ⟨L,d',n,os,hp,nW,rfl⟩;obtain⟨F,Uc,O⟩:=hp;refine⟨L,d'.toList,?_,?_,?_,gI (aib _ _ _ _ _ _) (by omega) (fun q e=>by injection e;omega)⟩
  ·have e1:l.toArray.size=l.length:=(by simp);rw[e1]at F O;have e2:(d'.extract 0 l.length)=d':=(by rw[<-F];simp);have e3:(l.toArray.extract 0 l.length)=l.toArray:=(by simp);rw[e2,e3]at O;exact O
  ·rw[arZ];intro i j hi D DD;have p:=nW i j (Nat.zero_le _) DD (by rw[<-F];simpa using D);rw[Ud,arL d' i (by simpa using hi),arL d' j (by simpa using D)]at p;simpa using p
  ·intro _;refine⟨g,0,rfl,lt_sortWorldK j6 6 w g 0 n d' os M,fun i x hi j u hu=>?_⟩;have LC:=holdsK_sortWorldK_c j6 6 w g 0 l.toArray d' n os R M F;have CB:i<d'.size:=(by simpa using(arG.1 hi).1);have o9:j<6:=(by have:=(arG.1 hu).1;rwa [Ih]at this);have p:=(LC (i*6+j) (by rw[size_flatK];omega)).1;rw[get_flatK _ _ _ _ (by omega),show(i*6+j)/6=i by omega,show(i*6+j)%6=j by omega,arL d' i CB]at p;have N:d'[i]=x:=by
    have:=(arG.1 hi).2;simpa using this
   rw[N]at p;have DF:(j6 x)[j]! =u:=by have B:=(arG.1 hu).1;rw[arL (j6 x) j B];exact(arG.1 hu).2
   rw[DF]at p;rw[ark];rw[ark]at p;exact p
theorem acd(d:bK)(base taken:Int)(w:World)(l:d.code.size<=maxLen)(n:zN d)(p:0<=base)(r:base<=1000000000)(u:0<=taken)(y:taken<=1000000000000):
  Calls prog 198 #[.agg #[.string d.code,.int .i64 d.bX,.bool d.before,.int .i64 d.amount,.int .i64 d.bJ,.int .i64 d.cap],.int .i64 base,.int .i64 taken] w fun e w'=>e=.returned (.tuple #[.int .i64 (GG d base taken),.int .i64 0])/\Below w.heap.size w w':=by
 have j:=Ue (Uf.2 n) (gT.2 ⟨p,r⟩) (gT.2 ⟨u,y⟩);refine(aid d base taken w l ⟨by omega,by omega⟩).mono fun e w' ⟨z,B⟩=>⟨?_,B⟩
 rw[z,j,JI,aq9 j]
theorem ahy(A Y:Option Addr)(M Ii:Nat)(u:List bK)(year:List Elem)(before:Bool)(base z:Int)(w:World)(h:aj j6 6 w w.heap.size A u)(hz:∀x∈u,x.code.size<=maxLen)(hl:u.length<=9223372036854775807)
  (hy:aj aN 2 w w.heap.size Y year) (Fh:∀x∈year,x.code.size<=maxLen) (nV:year.length<=9223372036854775807):
  Calls prog 160 #[.slice A u.length M,.bool before,.int .i64 base,.int .i64 z,.slice Y year.length Ii] w (Cm (il u before base z year) (eC u base z year) w):=by
 have HZ:=aq6 hz;clear hz;have Jr:=aq6 Fh;clear Fh;have zD:∀(n:Int) (W:World),n≠0->eC u base z year=n->Below w.heap.size w W->Cm (il u before base z year) (eC u base z year) w (Ending.returned (.tuple #[.slice none 0 0,.int .i64 n])) W:=
  fun n W U he hb=>Cm.fail (ace (by rw[he];exact U)) he hb
 have p:=aq6 zD;clear zD;go_enter func160,ntmps160;go_wp2_with fail;refine(X7 A M u _ h HZ.out hl).mono ?_;rintro e w1 ⟨rfl,G⟩;by_cases C:fV u=true;rotate_left
 ·have ax:fV u=false:=by simpa using C
  clear C;go_wp2;go_ret2;exact p.out 1 _ (by omega) (Ug (.inl ax)) G
 go_wp2_with fail;refine(TH Y Ii year _ (hy.aa G) Jr.out nV).mono ?_;rintro e w2 ⟨rfl,V⟩;have L:=aB G V;by_cases E:eJ year=true;rotate_left
 ·have Js:eJ year=false:=by simpa using E
  clear E;go_wp2;go_ret2;exact p.out 1 _ (by omega) (Ug (.inr Js)) L
 by_cases X:0<=base;rotate_left
 ·go_wp2;go_ret2;exact p.out 2 _ (by omega) (NG C E (.inl (Ij.2 (.inl (by omega))))) L
 by_cases Z:base<=1000000000;rotate_left
 ·go_wp2;go_ret2;exact p.out 2 _ (by omega) (NG C E (.inl (Ij.2 (.inr (by omega))))) L
 by_cases a3:0<=z;rotate_left
 ·go_wp2;go_ret2;exact p.out 2 _ (by omega) (NG C E (.inr (Ij.2 (.inl (by omega))))) L
 by_cases a4:z<=1000000000;rotate_left
 ·go_wp2;go_ret2;exact p.out 2 _ (by omega) (NG C E (.inr (Ij.2 (.inr (by omega))))) L
 have hE:=X8 C E (gT.2 ⟨X,Z⟩) (gT.2 ⟨a3,a4⟩);have HE:=aq6 hE;have HR:=aq6 (X9 (before:=before) hE);clear hE p;have ab:u.length<=16:=(Ik.1 C).1;have aV:year.length<=128:=(pz.1 E).1;go_wp2_with fail;refine(aif A M u _ (h.aa L) (by omega)).mono ?_;rintro e w3 ⟨v3,rfl,jd,ad⟩;have cW:=aB L ad;obtain⟨A3,c3,rfl,gU,bz,ay,aW⟩:=jd.kE Ih;go_wp2_with fail;refine(aic A3 c3 w2.heap.size u _ jd (by omega)).mono ?_;rintro e N ⟨rfl,j,F,nW,df,af⟩;have eO:Below w.heap.size w N:=cW.trans (af.mono L.size);have dG:=aii C F (nW.imp (fun h=>of_decide_eq_false h));have Nk:=F.length_eq;have bf:∀x∈j,zN x:=fun x hx=>(Ik.1 C).2.1 x (F.mem_iff.1 hx);have ai:∀x∈j,x.code.size<=maxLen:=fun x hx=>HZ.out x (F.mem_iff.1 hx);have al:j.Pairwise (fun a b=>a.code≠b.code):=by rw[dG];exact aij C
 rw[<-dG]at HR;have dg:=aq6 bf;have az:=aq6 ai;have aA:=aq6 al;have D:=aq6 Nk;have aZ:j.length<=16:=by omega
 have zO:=hy.aa eO;have am:=fun c=>ach E c;have Jt:=aq6 am;clear bf ai al dG F nW gU bz jd ad af G V am Nk;have aE:aj j6 6 N N.heap.size A3 j:=df;clear df;obtain⟨n,U⟩:∃n,n=u.length:=⟨_,rfl⟩
 have om:n<=j.length:=by have:=D.out;omega
 have oo:j.length<=n:=by have:=D.out;omega
 rw[<-U];clear D HZ h C E ab ay hl;generalize u.length=n0 at U;clear U;go_wp2_with fail
 go_loopw [13,14,49] (fun v l i wr=>∃k:Nat,k<=j.length/\i=.int .i64 k/\l=.int .i64 (j7 before base year (j.take k) z)/\Own aN 2 69 wr N.heap.size v (tk before base year (j.take k) z)/\Below N.heap.size N wr) (fun _ _ i _=>j.length-(intOf i).toNat)
 case atStart=>exact⟨0,by omega,rfl,rfl,Own.cK _ _,arb _ _⟩
 case round=>
  obtain⟨k,hk,rfl,rfl,r,Q⟩:=hrel;have br:=Q.size;have B1:=Uh (before:=before) (year:=year) (P:=j.take k) (fun x hx=>dg.out x (arD hx)) X Z z a3;by_cases I:k<j.length
  ·have aJ:k<n:=(by omega);obtain⟨b,a0,rfl,hb,O⟩:=(aE.aa Q).at_ I;have c0:=O 0 _ rfl;have c1:=O 1 _ rfl;have c2:=O 2 _ rfl;have c3:=O 3 _ rfl;have c4:=O 4 _ rfl;have c5:=O 5 _ rfl;simp only[ara]at c0;clear O;have R:Hid (j.take (k+1)=j.take k++[j[k]]):=arA I;have LD:=dg.out _ (arc I);have fj:=az.out _ (arc I);generalize an:j7 before base year (j.take k) z=l0 at B1;have GH:=aq6 an;clear an;obtain⟨r1,r2⟩:=B1;have a5:(tk before base year (j.take k) z).length<=16:=arq (Ya _ _) (by simp;omega);by_cases S:j[k].before=before;rotate_left
   ·have Yb:(j[k].before==before)=false:=(by simpa using S);have y:=aq6 (Ql (P:=j.take k) GH.out (aci (base:=base) (year:=year) (l0:=l0) S));clear S;go_wp2;go_roundw
    case rel=>exact⟨k+1,by omega,by go_num,by rw[R.out,y.out.2],by rw[R.out,y.out.1];exact r.alloc _,Q.alloc br _⟩
    case measure=>simp[intOf];omega
   ·have Yb:(j[k].before==before)=true:=(by simpa using S);have Qm:=aq6 S;clear S;obtain⟨t1,t2⟩:=Jt.out j[k].code;obtain⟨q1,q2⟩:=Yc (taken:=mU year j[k].code) LD X Z;go_wp2_with fail;have J:=ah.new wr 166 #[.string j[k].code,.int .i64 j[k].bX,.bool j[k].before,.int .i64 j[k].amount,.int .i64 j[k].bJ,.int .i64 j[k].cap];have Yd:=r.alloc (.cells #[.string j[k].code,.int .i64 j[k].bX,.bool j[k].before,.int .i64 j[k].amount,.int .i64 j[k].bJ,.int .i64 j[k].cap] 166);have lI:=ew Q (.cells #[.string j[k].code,.int .i64 j[k].bX,.bool j[k].before,.int .i64 j[k].amount,.int .i64 j[k].bJ,.int .i64 j[k].cap] 166);have mB:(wr.alloc (Obj.cells #[.string j[k].code,.int .i64 j[k].bX,.bool j[k].before,.int .i64 j[k].amount,.int .i64 j[k].bJ,.int .i64 j[k].cap] 166)).heap.size=wr.heap.size+1:=(by simp);generalize wr.alloc (Obj.cells _ _)=W at mB lI J Yd|-;have LF:=zO.aa lI;have T:wr.heap.size<W.heap.size:=(by omega);clear mB c0 c1 c2 c3 c4 c5;have e0:=Bw.cell (w:=W) (a:=⟨wr.heap.size,0,none⟩) (by exact T) (J.cell 0);have e1:=Bw.cell (w:=W) (a:=⟨wr.heap.size,1,none⟩) (by exact T) (J.cell 1);have e2:=Bw.cell (w:=W) (a:=⟨wr.heap.size,2,none⟩) (by exact T) (J.cell 2);have e3:=Bw.cell (w:=W) (a:=⟨wr.heap.size,3,none⟩) (by exact T) (J.cell 3);have e4:=Bw.cell (w:=W) (a:=⟨wr.heap.size,4,none⟩) (by exact T) (J.cell 4);have e5:=Bw.cell (w:=W) (a:=⟨wr.heap.size,5,none⟩) (by exact T) (J.cell 5);refine pE (by kernel_rfl) (by kernel_rfl) ?_
    repeat(first|go_big_quiet_step((first|exact Bw.call _ (acj Y Ii year _ _ (LF.aa (Bw.h _)) (by omega))|exact Bw.call _ (acd j[k] base (mU year j[k].code) _ fj LD X Z t1 t2)))|quiet_step((first|exact Bw.call _ (acj Y Ii year _ _ (LF.aa (Bw.h _)) (by omega))|exact Bw.call _ (acd j[k] base (mU year j[k].code) _ fj LD X Z t1 t2))))
    refine wpQuiet_nil ?_;intro W2 aO;obtain⟨⟨W9,K⟩,ao⟩:=aO;subst ao;have aD:=J.aa K;have B:=Yd.aa K;have JJ:=aB lI K;have a6:=aD.lt;have z0:=aD.cell 0;simp only[arh,ari]at z0;clear J Yd lI K e0 e1 e2 e3 e4 e5 LF r Q;generalize Qn:GG j[k] base (mU year j[k].code)=wn at q1 q2|-;have Ye:=aq6 Qn;clear Qn;have Xt:=JJ.size;have nH:=fun g hg=>(B.cg (g:=g) hg).1;have HA:Hid (lW before base year j[k] l0=min wn l0):=(by rw[Hid,lW,aq9 Qm.out,Ye.out]);by_cases iT:0<min wn l0
    ·have y:=aq6 (Yf (P:=j.take k) GH.out HA.out iT);have eF:min wn l0<=l0:=(by omega);go_wp2_with(at_builtin;(refine my _ _ 51 ⟨j[k].code,min wn l0⟩ _ 24 _ kF underlying51 B dt (by omega) rfl (kn _) (by omega) (by omega) (by omega) (by rfl) (by rfl) (by rfl) (by rfl) (by simp) (by rfl) ?_);intro v8 w8 cv gV);go_roundw
     case rel=>exact⟨k+1,by omega,by go_num,by rw[R.out,y.out.2],by rw[R.out,y.out.1];exact cv,jN JJ gV nH⟩
     case measure=>simp[intOf];omega
    ·have Bu:lW before base year j[k] l0=0:=(by rw[HA.out];omega);have y:=aq6 (Ql (P:=j.take k) GH.out Bu);clear Bu;have eF:min wn l0<=l0:=(by omega);go_wp2;go_roundw
     case rel=>exact⟨k+1,by omega,by go_num,by rw[R.out,y.out.2];congr 1;omega,by rw[R.out,y.out.1];exact B,JJ⟩
     case measure=>simp[intOf];omega
  ·have ap:j.take k=j:=ar0 (by omega);rw[ap]at r|-;have aJ:¬k<n:=(by omega);clear ap;have aP:(tk before base year j z).length<=16:=arq (Ya _ _) (by omega);have Yg:=aio (before:=before) (base:=base) (year:=year) aA.out z;generalize tk before base year j z=ts at r HR aP Yg;have aS:=aq6 Yg;clear Yg;obtain⟨A5,c5,rfl,cX,eM,oD,oF⟩:=r.kE dt;go_wp2_with fail;refine(abH A5 c5 N.heap.size ts _ r (by omega)).mono ?_;rintro e w6 ⟨rfl,zs,F,nW,PH,bN⟩;have Fj:=F.length_eq;have av:zs=bB ts:=aip F (Xq nW (aS.out.perm F.symm (fun h e=>h e.symm)));have aT:=aq6 av;have PI:=aq6 Fj;clear Fj av F nW;go_wp2;go_ret2;rw[HE.out,HR.out,<-aT.out];refine⟨A5,c5,by rw[PI.out];rfl,PH,by have:=PI.out;omega,oF,(fun a ha=>by have:=eM a ha;have:=eO.size;omega),aB eO (Q.trans bN)⟩
