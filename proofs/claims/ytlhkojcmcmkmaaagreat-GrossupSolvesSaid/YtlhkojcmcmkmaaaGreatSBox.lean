/- Conditions: as stated. -/
import Derived.Maps.RangeWalk
import Derived.Maps.OwnOps
import Derived.Maps.Ext
import Derived.Sort.KeysCollected
import Derived.Shelf.SlGeneric
import Derived.Shelf.SlSortCmp.WholeK
import Derived.Shelf.SlSortCmp.NoneTotal
import Derived.Ground.SlsfProg
import Derived.Test.YtlhkojcmcmkmaaaGreatProg
import Derived.Test.YtlhkojcmcmkmaaaGreatSNetM
set_option maxRecDepth 100000
set_option maxHeartbeats 4000000
namespace Go.Proofs.YtlhkojcmcmkmaaaGreat
open Go.Proofs.Tryz
open Go.RowKit
theorem aP.dM{F:World->Prop}{W:World}{a:Addr}{v:Value}(e:a.block<W.heap.size)(h:W.cell? a=some v)(p:aP (fun w'=>Below W.heap.size W w') F):p.w'.cell? a=some v:=(p.h.cell e).trans h
theorem aic{P:Program}{id:Nat}{Q:Exit->Act->World->Prop}{a aE:Act}{W:World}{L:List Oper}(l:List Nat)(u D:Nat){d:Nat}{t I:TypeId}{zs:Array Value}(j:Array Value){x:Operand}{G y:Oper}
  (T:P.follows .mixedOrders=true) (U:Region.noSelect L.toArray=true) (V:2+l.length=L.length)
  (hi:l.all (fun i=>decide (i<L.toArray.size))=true) (X:M3.Cz .any L.toArray l (Array.replicate L.length false)=true) (hd:M3.kj a.tmps.size (M3.cD L.toArray l)=true)
  (Y:Region.ready .any L.toArray (M3.lX l (Array.replicate L.length false))=[u]) (Z:Region.ready .any L.toArray ((M3.lX l (Array.replicate L.length false)).setIfInBounds u true)=[D])
  (r3:Region.ready .any L.toArray (((M3.lX l (Array.replicate L.length false)).setIfInBounds u true).setIfInBounds D true)=[])
  (Yy:L.toArray[u]?=some G) (L0:L.toArray[D]?=some y) (Yz:G.dst=some d) (YA:G.guard=none) (F6:y.dst=none) (J:y.guard=none) (QG:y.op=.store I (.tmp d) x)
  (N0:∀(b:Act) (w:World),(execOp b.eval G).run P w=.ok (.value (.pointer (some ⟨w.heap.size,0,none⟩))) (w.alloc (.cells zs t)))
  (z:j.size=zs.size) (Ef:(P.info? I).map (·.size)=some j.size) (h1:j.toList.all (·.oneCell')=true)
  (H:∀F:World->Prop,gu F->Inhabited (aP (fun w'=>Below W.heap.size W w') F)->wpQuiet P L.toArray (fun w'=>∃p:aP (fun w'=>Below W.heap.size W w') F,w'=p.w') (fun a'=>a'=aE) (M3.cD L.toArray l) a)
  (E:∀g,(aE.put (some d) (.pointer (some ⟨g,0,none⟩))).eval x=.agg j/\(aE.put (some d) (.pointer (some ⟨g,0,none⟩))).eval (.tmp d)=.pointer (some ⟨g,0,none⟩))
  (M:∀g w',W.heap.size<=g->ah w' g t j->Below W.heap.size W w'->Q .normal ((aE.put (some d) (.pointer (some ⟨g,0,none⟩))).put none undef) w'):(Code.region id L.toArray true).wp P Q a W:=by
 have D1:=fun g=>(E g).1;have Db:=fun g=>(E g).2;refine M3.iq (C:=fun w'=>Below W.heap.size W w') (iM _ _ (arI _)) (arM _ _) l 2 T U V hi X hd H ?_;intro Q0 bO;refine M3.bG [u] Y (by simp) ?_;intro n R _ i e;rw[asv]at e;subst e;refine M3.bw (.pointer (some ⟨n.heap.size,0,none⟩)) (n.alloc (.cells zs t)) Yy (by simp[Region.wanted,YA]) (N0 _ _) ⟨ej R _,?_⟩;rw[Yz];refine M3.bG [D] Z (by simp) ?_;intro r fX K i e;rw[asv]at e;subst e;have S:=(ah.new n t zs).aa K;have nA:=R.size;have B:(execOp (aE.put (some d) (.pointer (some ⟨n.heap.size,0,none⟩))).eval y).run P r=.ok .skip (r.setCells n.heap.size 0 j.toList):=by unfold execOp;simp only[QG,Db,D1,Instr.storeAt,Instr.sureAddr,Sem.run_bind,as6,ata,run_storeVar_mid r n.heap.size 0 I j (by have:=S.there;rwa [<-z]at this) Ef (by simpa using h1)]
 have N:=N2 n.heap.size j.toList 0 r;have bU:Below W.heap.size W (r.setCells n.heap.size 0 j.toList):=kN fX N (fun q hq=>by injection hq;omega);refine M3.eF (r.setCells n.heap.size 0 j.toList) L0 (by simp[Region.wanted,J]) B ⟨bU,?_⟩;rw[F6];refine M3.jZ r3 ?_;intro w3 lV O;exact bO _ _ (M _ w3 nA ((S.Uz z).aa O) lV)
theorem YB{P:Program}{id:Nat}{Q:Exit->Act->World->Prop}{a aE:Act}{W:World}{L:List Oper}(j:List Nat)(r z J:Nat){d dz:Nat}{t N:TypeId}{zs:Array Value}(l:Array Value)(v:Value){x y:Operand}{K B D:Oper}
  (hm:P.follows .mixedOrders=true) (hs:Region.noSelect L.toArray=true) (hn:3+j.length=L.length)
  (hi:j.all (fun i=>decide (i<L.toArray.size))=true) (hB:M3.Cz .any L.toArray j (Array.replicate L.length false)=true) (hd:M3.kj a.tmps.size (M3.cD L.toArray j)=true)
  (r1:Region.ready .any L.toArray (M3.lX j (Array.replicate L.length false))=[r]) (r2:Region.ready .any L.toArray ((M3.lX j (Array.replicate L.length false)).setIfInBounds r true)=[z])
  (r3:Region.ready .any L.toArray (((M3.lX j (Array.replicate L.length false)).setIfInBounds r true).setIfInBounds z true)=[J])
  (r4:Region.ready .any L.toArray ((((M3.lX j (Array.replicate L.length false)).setIfInBounds r true).setIfInBounds z true).setIfInBounds J true)=[])
  (Yy:L.toArray[r]?=some K) (L0:L.toArray[z]?=some B) (O:L.toArray[J]?=some D) (Yz:K.dst=some d) (YA:K.guard=none) (F6:B.dst=none) (R:B.guard=none) (QG:B.op=.store N (.tmp d) x)
  (L1:D.dst=some dz) (S:D.guard=none) (T:D.op=.assign y)
  (N0:∀(b:Act) (w:World),(execOp b.eval K).run P w=.ok (.value (.pointer (some ⟨w.heap.size,0,none⟩))) (w.alloc (.cells zs t)))
  (G:l.size=zs.size) (Ef:(P.info? N).map (·.size)=some l.size) (h1:l.toList.all (·.oneCell')=true)
  (H:∀F:World->Prop,gu F->Inhabited (aP (fun w'=>Below W.heap.size W w') F)->wpQuiet P L.toArray (fun w'=>∃p:aP (fun w'=>Below W.heap.size W w') F,w'=p.w') (fun a'=>a'=aE) (M3.cD L.toArray j) a)
  (E:∀g,(aE.put (some d) (.pointer (some ⟨g,0,none⟩))).eval x=.agg l/\(aE.put (some d) (.pointer (some ⟨g,0,none⟩))).eval (.tmp d)=.pointer (some ⟨g,0,none⟩)/\((aE.put (some d) (.pointer (some ⟨g,0,none⟩))).put none undef).eval y=v)
  (M:∀g w',W.heap.size<=g->ah w' g t l->Below W.heap.size W w'->Q .normal (((aE.put (some d) (.pointer (some ⟨g,0,none⟩))).put none undef).put (some dz) v) w'):(Code.region id L.toArray true).wp P Q a W:=by
 have D1:=fun g=>(E g).1;have Db:=fun g=>(E g).2.1;have U:=fun g=>(E g).2.2;refine M3.iq (C:=fun w'=>Below W.heap.size W w') (iM _ _ (arI _)) (arM _ _) j 3 hm hs hn hi hB hd H ?_;intro Q0 bO;refine M3.bG [r] r1 (by simp) ?_;intro n aU _ i e;rw[asv]at e;subst e;refine M3.bw (.pointer (some ⟨n.heap.size,0,none⟩)) (n.alloc (.cells zs t)) Yy (by simp[Region.wanted,YA]) (N0 _ _) ⟨ej aU _,?_⟩;rw[Yz];refine M3.bG [z] r2 (by simp) ?_;intro u fX V i e;rw[asv]at e;subst e;have aK:=(ah.new n t zs).aa V;have nA:=aU.size;have I:(execOp (aE.put (some d) (.pointer (some ⟨n.heap.size,0,none⟩))).eval B).run P u=.ok .skip (u.setCells n.heap.size 0 l.toList):=by unfold execOp;simp only[QG,Db,D1,Instr.storeAt,Instr.sureAddr,Sem.run_bind,as6,ata,run_storeVar_mid u n.heap.size 0 N l (by have:=aK.there;rwa [<-G]at this) Ef (by simpa using h1)]
 have X:=N2 n.heap.size l.toList 0 u;have bU:Below W.heap.size W (u.setCells n.heap.size 0 l.toList):=kN fX X (fun q hq=>by injection hq;omega);refine M3.eF (u.setCells n.heap.size 0 l.toList) L0 (by simp[Region.wanted,R]) I ⟨bU,?_⟩;rw[F6];have bE:=aK.Uz G;refine M3.bG [J] r3 (by simp) ?_;intro w3 lV Y i e;rw[asv]at e;subst e;have Z:(execOp ((aE.put (some d) (.pointer (some ⟨n.heap.size,0,none⟩))).put none undef).eval D).run P w3=.ok (.value v) w3:=by unfold execOp;simp only[T,U,as6]
 refine M3.bw v w3 O (by simp[Region.wanted,S]) Z ⟨lV,?_⟩;rw[L1];refine M3.jZ r4 ?_;intro w4 bz ab;exact bO _ _ (M _ w4 nA ((bE.aa Y).aa ab) bz)
theorem QH{P:Program}{id:Nat}{Q:Exit->Act->World->Prop}{a aE:Act}{W:World}{L:List Oper}(e:List Nat)(j:Nat){n:Oper}
  (y:P.follows .mixedOrders=true) (z:Region.noSelect L.toArray=true) (B:1+e.length=L.length)
  (hi:(e.all (fun i=>decide (i<L.toArray.size))&&e.all (M5.L3 .any L.toArray j)&&M3.Cz .any L.toArray e (Array.replicate L.length false))=true) (hd:M3.kj a.tmps.size (M3.cD L.toArray e)=true)
  (D:Region.ready .any L.toArray (M3.lX e (Array.replicate L.length false))=[j]) (E:Region.ready .any L.toArray ((M3.lX e (Array.replicate L.length false)).setIfInBounds j true)=[])
  (G:L.toArray[j]?=some n) (I:n.dst=none) (u:n.guard=none)
  (H:∀F:World->Prop,gu F->Inhabited (aP (fun w'=>Below W.heap.size W w') F)->wpQuiet P L.toArray (fun w'=>∃p:aP (fun w'=>Below W.heap.size W w') F,w'=p.w') (fun a'=>a'=aE) (M3.cD L.toArray e) a)
  (M:∀w',Below W.heap.size W w'->∃r,(execOp aE.eval n).run P w'=.ok .skip r/\Q .normal (aE.put none undef) r):(Code.region id L.toArray true).wp P Q a W:=by
 refine M5.iq (C:=fun w'=>Below W.heap.size W w') (iM _ _ (arI _)) (arM _ _) e 1 j y z B hi hd H ?_;intro R J;refine M5.nZ D E ?_;intro K N _;obtain⟨r,l,O⟩:=M K N;refine M3.eF r G (by simp[Region.wanted,u]) l ?_;rw[I];exact J _ _ O
theorem acp{P:Program}{p:Array Oper}{u:Region.Mode}{C:World->Prop}{s:Nat}{Q:Act->World->Prop}{n:Nat}{l:Array Bool}{a:Act}{w:World}(k:Nat){o:Oper}(v:Value)(y:Region.ready u p l=[k])(B:k≠s)(D:p[k]?=some o)(E:o.guard=none)
  (r:∀w',(execOp a.eval o).run P w'=.ok (.value v) w') (h:M5.cM P u p C s Q n (l.setIfInBounds k true) (a.put o.dst v) w):M5.cM P u p C s Q (n+1) l a w:=by
 intro w' c b;refine⟨fun e=>(by rw[y]at e;cases e),fun j z=>?_⟩;rw[y,asv]at z;subst z;simp only[arJ B];exact M3.bw v w' D (by simp[Region.wanted,E]) (r w') ⟨c,M5.Ea h b⟩
theorem UA{P:Program}{id:Nat}{Q:Exit->Act->World->Prop}{a aE:Act}{W:World}{L:List Oper}(e:List Nat)(j n l:Nat){r u B:Oper}(y D:Value)
  (N:P.follows .mixedOrders=true) (O:Region.noSelect L.toArray=true) (R:3+e.length=L.length)
  (hi:(e.all (fun i=>decide (i<L.toArray.size))&&e.all (M5.L3 .any L.toArray l)&&M3.Cz .any L.toArray e (Array.replicate L.length false))=true) (hd:M3.kj a.tmps.size (M3.cD L.toArray e)=true)
  (S:Region.ready .any L.toArray (M3.lX e (Array.replicate L.length false))=[j]) (T:Region.ready .any L.toArray ((M3.lX e (Array.replicate L.length false)).setIfInBounds j true)=[n])
  (r3:Region.ready .any L.toArray (((M3.lX e (Array.replicate L.length false)).setIfInBounds j true).setIfInBounds n true)=[l])
  (U:Region.ready .any L.toArray ((((M3.lX e (Array.replicate L.length false)).setIfInBounds j true).setIfInBounds n true).setIfInBounds l true)=[])
  (G:(decide (j≠l)&&decide (n≠l))=true)
  (V:L.toArray[j]?=some r) (X:L.toArray[n]?=some u) (Y:L.toArray[l]?=some B) (I:r.guard=none) (J:u.guard=none) (Z:B.dst=none) (K:B.guard=none)
  (H:∀F:World->Prop,gu F->Inhabited (aP (fun w'=>Below W.heap.size W w') F)->wpQuiet P L.toArray (fun w'=>∃p:aP (fun w'=>Below W.heap.size W w') F,w'=p.w') (fun a'=>a'=aE) (M3.cD L.toArray e) a)
  (E1:∀w,(execOp aE.eval r).run P w=.ok (.value y) w) (E2:∀w,(execOp (aE.put r.dst y).eval u).run P w=.ok (.value D) w)
  (M:∀w',Below W.heap.size W w'->∃E,(execOp ((aE.put r.dst y).put u.dst D).eval B).run P w'=.ok .skip E/\Q .normal (((aE.put r.dst y).put u.dst D).put none undef) E):(Code.region id L.toArray true).wp P Q a W:=by
 simp only[ar5,ar7]at G;refine M5.iq (C:=fun w'=>Below W.heap.size W w') (iM _ _ (arI _)) (arM _ _) e 3 l N O R hi hd H ?_;intro Q0 bO;refine acp j y S G.1 V I E1 ?_;refine acp n D T G.2 X J E2 ?_;refine M5.nZ r3 U ?_;intro w1 aU _;obtain⟨E,z,hq⟩:=M w1 aU;refine M3.eF E Y (by simp[Region.wanted,K]) z ?_;rw[Z];exact bO _ _ hq
theorem aie(k:Int)(c:ByteArray):ag k [⟨c,0⟩]=[]:=by simp[ag,nz]
theorem acq(k:Int)(c:ByteArray){n:Int}(h:n≠0):ag k [⟨c,n⟩]=[⟨k,c,n⟩]:=by rw[ag,List.filter_cons_of_pos (by simp[nz,h])];rfl
theorem J4{B:World}{g:Nat}{c:mR}{s:jD}{r:List dH}{w:World}(h:dI B g c s r w)(l:Int)(p:ByteArray)(j:Int)(R:r.length<=1000000):
  Calls prog 104 #[.pointer (some ⟨g,0,none⟩),.int .i64 l,.string p,.int .i64 j] w fun e w'=>e=.returned (.tuple #[])/\∃v',dI B g c {s with lv:=v'} (r++ag l [⟨p,j⟩]) w'/\Mv g s.lv w v' w':=by
 have G:=arH (fun v' w' ls' n=>h.grow (w':=w') (v':=v') (ls':=ls') (n:=n));have I:=arH h;have J:=h.own;have K:=h.aW.size;have L:w.cell? ⟨g,32,none⟩=some s.lv:=h.blk.cell 32;have M:=arH h.blk;have u:=arH h.far;clear h;go_enter func104,ntmps104;by_cases y:j=0
 ·subst y;go_wp2
  go_end0
  exact⟨rfl,s.lv,by rw[aie,List.append_nil];exact I.out,Mv.refl _ _ _⟩
 ·have N:=arH (acq l p y);have O:(j !=0)=true:=by simp[y]
  go_wp2_with(at_builtin;(refine YC _ _ 25 ⟨l,p,j⟩ _ 32 _ B1 underlying25 J eG (by omega) rfl (AK _) (by omega) (by omega) (by omega) (by rfl) (by rfl) (by rfl) (by rfl) (by simp) (by rfl) ?_);intro S C D E P;obtain⟨T,U,Q,_,_,_,_⟩:=D.kM eG;subst Q;have F:=M.out.grown E (fun e=>u.out e.symm);have f5:=F.frozen 32;have V:C.cell? ⟨g,32,none⟩=some s.lv:=F.cell 32);have z:=G.out _ C _ _ D E P;simp only[arV,arZ,asa,arT]at z;rw[<-N.out]at z
  go_end0
  exact⟨rfl,_,z⟩
theorem Un{B:World}{g:Nat}{c:mR}{s:jD}{u:List dH}{w:World}(h:dI B g c s u w)(j:Int)(A:Option Addr)(J:Nat)(l:List Elem)(P:nw aQ 2 w g s.lv A l)(hl:u.length<=1000)(lz:l.length<=128)
  (hb:-1000000000000000<=s.left/\s.left<=1000000000000000) (C:∀x∈l,0<=x.amount/\x.amount<=1000000000000):
  Calls prog 106 #[.pointer (some ⟨g,0,none⟩),.int .i64 j,.slice A l.length J] w fun e w'=>e=.returned (.tuple #[])/\∃p,dI B g c {s with lv:=p,left:=s.left-aR l} (u++ag j l) w'/\Mv g s.lv w p w':=by
 have Q:=arH C;have HI:=arH h;have HA:=arH P;clear C h P;obtain⟨b0,b1⟩:=hb;have Eg:Hid (∀k,k<=l.length->(ag j (l.take k)).length<=128):=fun k R=>by have:=asi nz (l.take k);simp only[ag,asu,asA]at this|-;omega
 have AL:Hid (∀k,k<=l.length->0<=aR (l.take k)/\aR (l.take k)<=128000000000000):=fun k R=>by have:=N3 (l.take k) 1000000000000 (fun x C=>Q.out x (ar6 C));rw[asA]at this;omega
 go_enter func106,ntmps106;go_wp2_with fail
 go_loopw [10] (fun i wr=>∃(k:Nat) (p:Value),k<=l.length/\i=.int .i64 k/\dI B g c {s with lv:=p,left:=s.left-aR (l.take k)} (u++ag j (l.take k)) wr/\Mv g s.lv w p wr) (fun i _=>l.length-(intOf i).toNat)
 case atStart=>exact⟨0,s.lv,by omega,rfl,by simpa[ag,aR]using HI.out,Mv.refl _ _ _⟩
 case round=>
  rename World=>wr
  obtain⟨k,S,R,rfl,r,D⟩:=hrel;by_cases n:k<l.length
  ·obtain⟨b,ad,Dc,lx,K⟩:=(HA.out.mv D).sl.at_ n;have T:=K 0 _ rfl;have c1:=K 1 _ rfl;simp only[arL]at T;rw[Dc];have U:Hid (l.take (k+1)=l.take k++[l[k]]):=ar9 n;have HS:Hid (aR (l.take (k+1))=aR (l.take k)+l[k].amount):=YD l k n;have eC:(k:Int)<(l.length:Int):=(by omega);obtain⟨x0,x1⟩:=Q.out _ (arO n);obtain⟨s0,s1⟩:=AL.out k (by omega);have L6:=Eg.out k (by omega);have pG:Hid (ag j (l.take (k+1))=ag j (l.take k)++ag j [l[k]]):=(by rw[Hid,U.out,QI]);clear K U;generalize l[k]=x at*;generalize aR (l.take k)=q at*;have E:=ah.new wr 69 #[.string x.code,.int .i64 x.amount];have G:=bD wr (.cells #[.string x.code,.int .i64 x.amount] 69);have oH:S.ownBlock≠some wr.heap.size:=fun e=>by have:=(r.row _ e).2;omega
   have L:wr.heap.size≠g:=(by have:=r.lt;omega);go_upto_region 3 with fail
   generalize wr.alloc (Obj.cells _ _)=W1 at E G|-;have V:=r.aa G;have X:=D.trans (Mv.aW G);obtain⟨z0,z1⟩:=E.cz2;clear r G T c1 D;go_wp2_with fail;refine(J4 V j x.code x.amount (by simp;omega)).mono ?_;rintro e Y ⟨rfl,v2,y,M⟩;have N:=E.mv M L oH;have Z:=X.trans M;rw[asH,<-pG.out]at y;have gw:=y.lt;have QJ:=N.lt;have LJ:Y.cell? ⟨g,33,none⟩=some (.int .i64 (s.left-q)):=y.blk.cell 33;have CA:Y.cell? ⟨wr.heap.size,1,none⟩=some (.int .i64 x.amount):=N.cell 1;clear z0 z1 E N V X M;go_upto_region 4 with fail
   refine UA (aE:=?CV) [0,1,2,3,4,5,6] 7 8 9 (.pointer (some ⟨g,0,none⟩)) (.pointer (some ⟨g,33,none⟩)) (by kernel_rfl) (by kernel_rfl) rfl (by kernel_rfl) (by rfl) (by kernel_rfl) (by kernel_rfl) (by kernel_rfl) (by kernel_rfl) rfl rfl rfl rfl rfl rfl rfl rfl ?H1 ?E1 ?G1 ?M1
   case H1=>
    intro F hF ab;simp only[M3.cD,arQ,arR,arS];have LK:=aP.dM (F:=F) (a:=⟨g,33,none⟩) (by exact gw) LJ;have d1:=aP.dM (F:=F) (a:=⟨wr.heap.size,1,none⟩) (by exact QJ) CA
    repeat(first|go_big_quiet_step(first|fail)|quiet_step(first|fail))
    refine wpQuiet_nil ?_;rfl
   case E1=>exact fun _=>by first|rfl|go_simp
   case G1=>exact fun _=>by first|rfl|go_simp
   case M1=>
    intro O z
    try simp only[Act.put,ar4]
    have I:=y.aa z;have kP:=Z.trans (Mv.aW z);have LK:O.cell? ⟨g,33,none⟩=some (.int .i64 (s.left-q)):=I.blk.cell 33;have f33:=I.blk.frozen 33;refine⟨O.setCell ⟨g,33,none⟩ (.int .i64 (s.left-q-x.amount)),by go_simp,?_⟩;have kA:=I.UB (s.left-q-x.amount);have mq:=kP.trans (Mv.set 33 (.int .i64 (s.left-q-x.amount)));generalize O.setCell ⟨g,33,none⟩ (.int .i64 (s.left-q-x.amount))=w5 at kA mq|-;clear I kP LK f33 y Z LJ CA;go_wp2;go_roundw
    case rel=>
     have ay:∃(k':Nat) (p:Value),k'<=l.length/\Value.int .i64 ((k:Int)+1)=.int .i64 k'/\dI B g c {s with lv:=p,left:=s.left-aR (l.take k')} (u++ag j (l.take k')) w5/\Mv g s.lv w p w5:=⟨k+1,v2,by omega,by go_num,by rw[HS.out,<-Int.sub_sub];exact kA,mq⟩
     first|exact ay|((repeat apply Exists.intro);exact⟨ay,rfl⟩)
    case measure=>simp[intOf];omega
  ·obtain rfl:k=l.length:=by omega
   rw[asp]at r;go_wp2
   go_end0
   exact⟨rfl,S,r,D⟩
def Dd(a b:ByteArray):Int:=if Op.bytesLess a.toList b.toList then-1 else if !(Op.bytesLess a.toList b.toList||a.toList==b.toList)then 1 else 0
theorem aih(a:ByteArray)(w:World):Calls prog 126 #[.string a] w fun e w'=>e=.returned (.bool false)/\w=w':=by go_enter func126,ntmps126;go_wp2;go_ret;exact⟨by simp,rfl⟩
theorem UC(a b:ByteArray)(w:World):Calls prog 85 #[.string a,.string b] w fun e w'=>e=.returned (.int .i64 (Dd a b))/\w=w':=by
 go_enter func85,ntmps85;go_wp2_with(go_at_call 126;refine(aih _ _).mono ?_;rintro e w' ⟨rfl,rfl⟩)
 all_goals go_ret
 all_goals refine⟨?_,rfl⟩
 all_goals(simp[Dd, *];try simp_all)
end Go.Proofs.YtlhkojcmcmkmaaaGreat
namespace Go.Proofs.YtlhkojcmcmkmaaaGreat
open Go.Proofs.Tryz
open Go.RowKit Go.Sort Go.Maps
theorem G2:Keyed prog 9:=string_keyed underlying9
theorem XU(w:World):(zeroValue 3).run prog w=.ok (.int .i64 0) w:=by kernel_rfl
abbrev Qc(n:Int):DataW Unit:=.lit (.int .i64 n)
structure DZ(D:DataW Unit)(K:List UInt8->Bool)(T:List UInt8->Int):Prop where
 isMap:IsMap D
 has:∀c,Maps.has D (.string c)=K c
 at_:∀c,D.atKey (.string c) (Qc 0)=Qc (T c)
theorem acr(x:Lit×DataW Unit):∀l,(DataW.insert x l).length=l.length+1
 |[]=>rfl
 |y::l=>by
  rw[DataW.insert];split
  ·rfl
  ·simp[acr x l]
theorem abQ(l:List (Lit×DataW Unit)):(l.foldr DataW.insert []).length=l.length:=by
 induction l with
 |nil=>rfl
 |cons a l e=>rw[List.foldr_cons,acr,e];rfl
theorem acs(s:ByteArray):WideAt.IsKeyLit (key s):=trivial
theorem DZ.empty:DZ (.map []) (fN []) (cE []):=⟨isMap_empty,fun _=>rfl,fun _=>rfl⟩
theorem DZ.XR{D:DataW Unit}{K K':List UInt8->Bool}{T T':List UInt8->Int}(h:DZ D K T)(s:ByteArray)(n:Int)(l:∀c,K' c=(K c||decide (s.data.toList=c)))(p:∀c,T' c=if s.data.toList=c then n else T c):DZ (D.put (key s) (Qc n)) K' T':=by
 refine⟨h.isMap.put _ _,fun c=>?_,fun c=>?_⟩
 ·by_cases e:s.data.toList=c
  ·subst e;rw[show Lit.string s.data.toList=key s from rfl,has_put_same h.isMap (acs s),l];simp
  ·rw[has_put_other (fun j=>e (by simpa[key]using j.symm)),h.has,l];simp[e]
 ·by_cases e:s.data.toList=c
  ·subst e;rw[show Lit.string s.data.toList=key s from rfl,atKey_put_same h.isMap (acs s),p];simp
  ·rw[atKey_put_other (fun j=>e (by simpa[key]using j.symm)),h.at_,p];simp[e]
theorem XV{n:Int}(e:-9223372036854775808<=n)(j:n<=9223372036854775807):(Lit.int .i64 n).wf=true:=by simp[Lit.wf,IntKind.min,IntKind.max,IntKind.signed,IntKind.bits];omega
theorem XS(e:List Elem)(k:Nat)(h:k<e.length)(c:List UInt8):fN (e.take (k+1)) c=(fN (e.take k) c||decide (e[k].code.data.toList=c)):=by rw[ar9 h,Uh];simp[fN]
theorem XT(e:List Elem)(k:Nat)(h:k<e.length)(c:List UInt8):cE (e.take (k+1)) c=cE (e.take k) c+if e[k].code.data.toList=c then e[k].amount else 0:=by rw[ar9 h,NN];simp[cE]
end Go.Proofs.YtlhkojcmcmkmaaaGreat
namespace Go.Proofs
open Go.Shelf
def Tryz.aii:Go.Shelf.Ren:=⟨fun|6=>170|15=>173|14=>210|28=>219|29=>220|20=>231|21=>232|22=>233|23=>234|24=>235|25=>236|26=>237|27=>238|46=>259|47=>240|48=>241|49=>260|50=>261|57=>269|n=>n,fun|22=>51|24=>69|25=>189|3=>3|39=>192|0=>0|53=>225|55=>227|4=>4|46=>218|45=>217|50=>222|5=>5|9=>9|66=>239|70=>209|76=>255|77=>256|n=>n,fun|n=>n⟩
theorem Tryz.UD:Go.Proofs.SlLaysF0.n6 prog Tryz.aii:={
 mixed:=by kernel_rfl
 f6:=⟨Tryz.f170.name,by decide,Tryz.func170.trans (congrArg some (by kernel_rfl))⟩
 f14:=⟨Tryz.f210.name,by decide,Tryz.func210.trans (congrArg some (by kernel_rfl))⟩
 f15:=Tryz.func173.trans (congrArg some (by kernel_rfl))
 f20:=⟨Tryz.f231.name,by decide,Tryz.func231.trans (congrArg some (by kernel_rfl))⟩
 f21:=⟨Tryz.f232.name,by decide,Tryz.func232.trans (congrArg some (by kernel_rfl))⟩
 f22:=⟨Tryz.f233.name,by decide,Tryz.func233.trans (congrArg some (by kernel_rfl))⟩
 f23:=⟨Tryz.f234.name,by decide,Tryz.func234.trans (congrArg some (by kernel_rfl))⟩
 f24:=⟨Tryz.f235.name,by decide,Tryz.func235.trans (congrArg some (by kernel_rfl))⟩
 f25:=⟨Tryz.f236.name,by decide,Tryz.func236.trans (congrArg some (by kernel_rfl))⟩
 f26:=⟨Tryz.f237.name,by decide,Tryz.func237.trans (congrArg some (by kernel_rfl))⟩
 f27:=⟨Tryz.f238.name,by decide,Tryz.func238.trans (congrArg some (by kernel_rfl))⟩
 f28:=Tryz.func219.trans (congrArg some (by kernel_rfl))
 f29:=Tryz.func220.trans (congrArg some (by kernel_rfl))
 f46:=⟨Tryz.f259.name,by decide,Tryz.func259.trans (congrArg some (by kernel_rfl))⟩
 f47:=Tryz.func240.trans (congrArg some (by kernel_rfl))
 f48:=Tryz.func241.trans (congrArg some (by kernel_rfl))
 f49:=⟨Tryz.f260.name,by decide,Tryz.func260.trans (congrArg some (by kernel_rfl))⟩
 f50:=⟨Tryz.f261.name,by decide,Tryz.func261.trans (congrArg some (by kernel_rfl))⟩
 f57:=⟨Tryz.f269.name,by decide,Tryz.func269.trans (congrArg some (by kernel_rfl))⟩
 t0:=underlying0
 a0:=Tryz.isAgg0
 z0:=Tryz.sizeOf0
 v0:=Tryz.zeroValue0
 t3:=underlying3
 a3:=Tryz.isAgg3
 z3:=Tryz.sizeOf3
 v3:=Tryz.zeroValue3
 t4:=underlying4
 a4:=Tryz.isAgg4
 z4:=Tryz.sizeOf4
 v4:=Tryz.zeroValue4
 t5:=underlying5
 a5:=Tryz.isAgg5
 z5:=Tryz.sizeOf5
 v5:=Tryz.zeroValue5
 t9:=underlying9
 a9:=Tryz.isAgg9
 z9:=Tryz.sizeOf9
 v9:=Tryz.zeroValue9
 t22:=underlying51
 a22:=Tryz.isAgg51
 z22:=Tryz.sizeOf51
 v22:=Tryz.zeroValue51
 t25:=underlying189
 a25:=Tryz.isAgg189
 z25:=Tryz.sizeOf189
 v25:=Tryz.zeroValue189
 t39:=underlying192
 a39:=Tryz.isAgg192
 z39:=Tryz.sizeOf192
 v39:=Tryz.zeroValue192
 t45:=underlying217
 a45:=Tryz.isAgg217
 z45:=Tryz.sizeOf217
 v45:=Tryz.zeroValue217
 t46:=underlying218
 a46:=Tryz.isAgg218
 z46:=Tryz.sizeOf218
 v46:=Tryz.zeroValue218
 t50:=underlying222
 a50:=Tryz.isAgg222
 z50:=Tryz.sizeOf222
 v50:=Tryz.zeroValue222
 t53:=underlying225
 a53:=Tryz.isAgg225
 z53:=Tryz.sizeOf225
 v53:=Tryz.zeroValue225
 t55:=underlying227
 a55:=Tryz.isAgg227
 z55:=Tryz.sizeOf227
 v55:=Tryz.zeroValue227
 t66:=underlying239
 a66:=Tryz.isAgg239
 z66:=Tryz.sizeOf239
 v66:=Tryz.zeroValue239
 t70:=underlying209
 a70:=Tryz.isAgg209
 z70:=Tryz.sizeOf209
 v70:=Tryz.zeroValue209
 t76:=underlying255
 a76:=Tryz.isAgg255
 z76:=Tryz.sizeOf255
 v76:=Tryz.zeroValue255
 t77:=underlying256
 a77:=Tryz.isAgg256
 z77:=Tryz.sizeOf256
 v77:=Tryz.zeroValue256}
end Go.Proofs
namespace Go.Proofs
def Tryz.aij:Go.Shelf.Ren:=⟨fun|6=>196|15=>173|14=>226|28=>219|29=>220|20=>246|21=>247|22=>248|23=>249|24=>250|25=>251|26=>252|27=>253|46=>264|47=>240|48=>241|49=>265|50=>266|57=>271|n=>n,fun|22=>46|24=>166|25=>207|3=>3|39=>192|0=>0|53=>225|55=>227|4=>4|46=>218|45=>217|50=>222|5=>5|9=>9|66=>239|70=>209|76=>255|77=>256|n=>n,fun|n=>n⟩
theorem Tryz.acu:Go.Proofs.SlLaysF0.n6 prog Tryz.aij:={
 mixed:=by kernel_rfl
 f6:=⟨Tryz.f196.name,by decide,Tryz.func196.trans (congrArg some (by kernel_rfl))⟩
 f14:=⟨Tryz.f226.name,by decide,Tryz.func226.trans (congrArg some (by kernel_rfl))⟩
 f15:=Tryz.func173.trans (congrArg some (by kernel_rfl))
 f20:=⟨Tryz.f246.name,by decide,Tryz.func246.trans (congrArg some (by kernel_rfl))⟩
 f21:=⟨Tryz.f247.name,by decide,Tryz.func247.trans (congrArg some (by kernel_rfl))⟩
 f22:=⟨Tryz.f248.name,by decide,Tryz.func248.trans (congrArg some (by kernel_rfl))⟩
 f23:=⟨Tryz.f249.name,by decide,Tryz.func249.trans (congrArg some (by kernel_rfl))⟩
 f24:=⟨Tryz.f250.name,by decide,Tryz.func250.trans (congrArg some (by kernel_rfl))⟩
 f25:=⟨Tryz.f251.name,by decide,Tryz.func251.trans (congrArg some (by kernel_rfl))⟩
 f26:=⟨Tryz.f252.name,by decide,Tryz.func252.trans (congrArg some (by kernel_rfl))⟩
 f27:=⟨Tryz.f253.name,by decide,Tryz.func253.trans (congrArg some (by kernel_rfl))⟩
 f28:=Tryz.func219.trans (congrArg some (by kernel_rfl))
 f29:=Tryz.func220.trans (congrArg some (by kernel_rfl))
 f46:=⟨Tryz.f264.name,by decide,Tryz.func264.trans (congrArg some (by kernel_rfl))⟩
 f47:=Tryz.func240.trans (congrArg some (by kernel_rfl))
 f48:=Tryz.func241.trans (congrArg some (by kernel_rfl))
 f49:=⟨Tryz.f265.name,by decide,Tryz.func265.trans (congrArg some (by kernel_rfl))⟩
 f50:=⟨Tryz.f266.name,by decide,Tryz.func266.trans (congrArg some (by kernel_rfl))⟩
 f57:=⟨Tryz.f271.name,by decide,Tryz.func271.trans (congrArg some (by kernel_rfl))⟩
 t0:=underlying0
 a0:=Tryz.isAgg0
 z0:=Tryz.sizeOf0
 v0:=Tryz.zeroValue0
 t3:=underlying3
 a3:=Tryz.isAgg3
 z3:=Tryz.sizeOf3
 v3:=Tryz.zeroValue3
 t4:=underlying4
 a4:=Tryz.isAgg4
 z4:=Tryz.sizeOf4
 v4:=Tryz.zeroValue4
 t5:=underlying5
 a5:=Tryz.isAgg5
 z5:=Tryz.sizeOf5
 v5:=Tryz.zeroValue5
 t9:=underlying9
 a9:=Tryz.isAgg9
 z9:=Tryz.sizeOf9
 v9:=Tryz.zeroValue9
 t22:=underlying46
 a22:=Tryz.isAgg46
 z22:=Tryz.sizeOf46
 v22:=Tryz.zeroValue46
 t25:=underlying207
 a25:=Tryz.isAgg207
 z25:=Tryz.sizeOf207
 v25:=Tryz.zeroValue207
 t39:=underlying192
 a39:=Tryz.isAgg192
 z39:=Tryz.sizeOf192
 v39:=Tryz.zeroValue192
 t45:=underlying217
 a45:=Tryz.isAgg217
 z45:=Tryz.sizeOf217
 v45:=Tryz.zeroValue217
 t46:=underlying218
 a46:=Tryz.isAgg218
 z46:=Tryz.sizeOf218
 v46:=Tryz.zeroValue218
 t50:=underlying222
 a50:=Tryz.isAgg222
 z50:=Tryz.sizeOf222
 v50:=Tryz.zeroValue222
 t53:=underlying225
 a53:=Tryz.isAgg225
 z53:=Tryz.sizeOf225
 v53:=Tryz.zeroValue225
 t55:=underlying227
 a55:=Tryz.isAgg227
 z55:=Tryz.sizeOf227
 v55:=Tryz.zeroValue227
 t66:=underlying239
 a66:=Tryz.isAgg239
 z66:=Tryz.sizeOf239
 v66:=Tryz.zeroValue239
 t70:=underlying209
 a70:=Tryz.isAgg209
 z70:=Tryz.sizeOf209
 v70:=Tryz.zeroValue209
 t76:=underlying255
 a76:=Tryz.isAgg255
 z76:=Tryz.sizeOf255
 v76:=Tryz.zeroValue255
 t77:=underlying256
 a77:=Tryz.isAgg256
 z77:=Tryz.sizeOf256
 v77:=Tryz.zeroValue256}
end Go.Proofs
namespace Go.Proofs.YtlhkojcmcmkmaaaGreat
open Go.Proofs.Tryz
open Go.RowKit Go.Sort Go.Shelf
def N4(x y:Elem):Int:=Dd x.code y.code
instance:Inhabited Elem:=⟨⟨⟨#[]⟩,0⟩⟩
def N5(x y:bP):Int:=II (nB x.bY y.bY) (Dd x.code y.code)
instance:Inhabited bP:=⟨⟨⟨#[]⟩,0,false,0,0,0⟩⟩
theorem UE(x y:Elem):ltOf N4 x y=ju x y:=by
 unfold ltOf N4 Dd ju;split
 ·rename_i h;simp[h]
 ·rename_i h;have e:Op.bytesLess x.code.toList y.code.toList=false:=by simpa using h
  split<;>simp[e]
theorem aik:SWO (ltOf N4) where
 irrefl x:=by rw[UE,ju,B2];simp
 trans x y z e j:=by rw[UE,ju,B2]at*;simp only[ar7]at*;exact List.lt_trans e j
 ntrans x y z e j:=by rw[UE,ju,B2]at*;simp only[asF,asM]at*;exact List.le_trans j e
theorem ail(x y:Elem)(W:World):Calls prog 171 #[.agg #[.string x.code,.int .i64 x.amount],.agg #[.string y.code,.int .i64 y.amount]] W fun e w'=>e=.returned (.int .i64 (N4 x y))/\∃q j,w'=grow (W.drewN q) j:=by go_enter func171,ntmps171;go_wp2_with(go_at_call 85;refine(UC _ _ _).mono ?_;rintro e w' ⟨rfl,rfl⟩);go_ret;exact⟨rfl,0,_,by rw[alloc_eq_grow,alloc_eq_grow,grow_grow];rfl⟩
theorem aim(w:World)(j l n:Nat)(d:Array Elem)(os:Array Obj):w.grownBy (sortWorldK aQ 2 w j l n d os) (some j):=by
 refine⟨rfl,rfl,rfl,size_sortWorldK_c aQ 2 w j l n d os,fun i hi p=>?_⟩;have r:j≠i:=fun e=>p (by rw[e]);have u:(putRowK aQ 2 (Sort.ahead w n) j l d).heap.size=w.heap.size:=by simp[putRowK,putRow,mapBlock,Sort.ahead]
 show((putRowK aQ 2 (Sort.ahead w n) j l d).heap++os)[i]?=w.heap[i]?;rw[atu (by omega)];show(w.heap.modify j _)[i]?=_;rw[as5,arJ r]
theorem abZ(A:Option Addr)(r base:Nat)(l:List Elem)(w:World)(E:Own aQ 2 69 w base (.slice A l.length r) l)(S:l.length<4611686018427387904):
  Calls prog 170 #[.slice A l.length r,.func (.func 171) #[] #[]] w fun e w'=>e=.returned (.tuple #[])/\
   ∃G:List Elem,G.Perm l/\G.Pairwise (fun a b=>ju b a=false)/\aj aQ 2 w' w'.heap.size A G/\Below base w w':=by
 rcases E.2 with⟨I,T⟩|⟨g,P,J,I,hb,K,hn,hm,hs,U⟩
 ·injection I with p V Q
  obtain rfl:l=[]:=atb T;have z:=AnyF.slices_SortFunc_none {Tryz.UD with} A r (.func (.func 171) #[] #[]) w;refine arP z fun e w' ⟨L,X⟩=>⟨L,[],List.Perm.refl _,List.Pairwise.nil,aj.cL,by rw[X];exact arM _ _⟩
 ·injection I with p V Q
  subst p Q;have M:=(as1.1 K).1;have Y:∀args w,(callFunc 171 args).run prog w=.ok (.enter 171 args) w:=enters_of func171 (by kernel_rfl) rfl;have Z:CmpLays prog 171 #[] aQ 2 N4 g 0 l.toArray.size w:=fun _ _ _ _ x y=>ail x y _;have R:HoldsK aQ 2 w g 0 l.toArray:=by
   intro j D;rw[size_flatK]at D;simp only[List.size_toArray]at D;have C:j/2<l.length:=(by omega);have D9:j%2<2:=Nat.mod_lt _ (by omega);refine⟨?_,by simp[World.frozen?,K]⟩;rw[get_flatK _ _ _ _ (by simpa using D),arT,cell_of_row w g j J _ (0,0) K];have N:l.toArray[j/2]! =l[j/2]:=(by simp[C]);rw[N];have hu:(aQ l[j/2])[j%2]?=some ((aQ l[j/2])[j%2]!):=by have B:j%2<(aQ l[j/2]).length:=(by rw[dB];exact D9);rw[arW B,asl (aQ l[j/2]) (j%2) B]
   have p:=G4 dB l (j/2) (j%2) _ _ (arW C) hu;rw[show j/2*2+j%2=j by omega]at p;rw[<-U,as3,arK (by omega)]at p;simpa using p
  have z:=AnyQ.slices_SortFunc Tryz.UD 2 Tryz.isAgg69 Tryz.sizeOf69 aQ dB kO N4 aik 171 #[] g 0 r l.toArray w Y Z R M (by simpa using S);have L8:Calls prog 170 #[.slice (some ⟨g,0,none⟩) l.length r,.func (.func 171) #[] #[]] w _:=z;refine L8.mono ?_;rintro e w' ⟨L,d',n,os,hp,oD,rfl⟩;obtain⟨F,UF,O⟩:=hp;refine⟨L,d'.toList,?_,?_,?_,gU (aim _ _ _ _ _ _) (by omega) (fun q e=>by injection e;omega)⟩
  ·have e1:l.toArray.size=l.length:=(by simp);rw[e1]at F O;have e2:(d'.extract 0 l.length)=d':=(by rw[<-F];simp);have e3:(l.toArray.extract 0 l.length)=l.toArray:=(by simp);rw[e2,e3]at O;exact O
  ·rw[asz];intro i j hi D Eh;have p:=oD i j (Nat.zero_le _) Eh (by rw[<-F];simpa using D);rw[UE,asl d' i (by simpa using hi),asl d' j (by simpa using D)]at p;simpa using p
  ·intro _;refine⟨g,0,rfl,lt_sortWorldK aQ 2 w g 0 n d' os M,fun i x hi j u hu=>?_⟩;have L9:=holdsK_sortWorldK_c aQ 2 w g 0 l.toArray d' n os R M F;have B4:i<d'.size:=(by simpa using(ase.1 hi).1);have o7:j<2:=(by have:=(ase.1 hu).1;rwa [dB]at this);have p:=(L9 (i*2+j) (by rw[size_flatK];omega)).1;rw[get_flatK _ _ _ _ (by omega),show(i*2+j)/2=i by omega,show(i*2+j)%2=j by omega,asl d' i B4]at p;have N:d'[i]=x:=by
    have:=(ase.1 hi).2;simpa using this
   rw[N]at p;have Ei:(aQ x)[j]! =u:=by have B:=(ase.1 hu).1;rw[asl (aQ x) j B];exact(ase.1 hu).2
   rw[Ei]at p;rw[arT];rw[arT]at p;exact p
instance (x y:bP):Decidable (qg x y):=by unfold qg;infer_instance
def N6(x y:bP):Bool:=decide (qg x y)
theorem ain(a b:ByteArray):decide (Dd a b<0)=decide (a.data.toList<b.data.toList):=by
 unfold Dd;rw[B2,ByteArray.toList_eq,ByteArray.toList_eq];split
 ·rename_i h;have e:a.data.toList<b.data.toList:=as7 h;simp only[e,decide_true];decide
 ·rename_i h;have e:¬a.data.toList<b.data.toList:=fun j=>h (asN j);simp only[e,decide_false];split<;>decide
theorem UG(x y:bP):ltOf N5 x y=N6 x y:=by
 have hS:=ain x.code y.code;unfold ltOf N5 II nB N6 qg;rcases atc x.bY y.bY with h|h|h
 ·simp[h]
 ·simp only[h,Int.lt_irrefl,asj,ne_eq,not_true,false_or,true_and];exact hS
 ·have e:¬x.bY<y.bY:=by omega
  have j:¬x.bY=y.bY:=by omega
  simp[h,e,j]
theorem aio:SWO (ltOf N5) where
 irrefl x:=by rw[UG,N6];exact asX (qg.Ej x)
 trans x y z l n:=by rw[UG,N6]at*;exact asN (qg.tr x y z (as7 l) (as7 n))
 ntrans x y z l n:=by
  rw[UG,N6]at*;have p:=of_decide_eq_false l;have j:=of_decide_eq_false n;apply asX;rintro(h|⟨h,u⟩)
  ·rcases atc x.bY y.bY with e|e|e
   ·exact p (.inl e)
   ·exact j (.inl (by omega))
   ·exact j (.inl (by omega))
  ·rcases atc x.bY y.bY with e|e|e
   ·exact p (.inl e)
   ·have B:y.code.data.toList<=x.code.data.toList:=asM.1 (fun r=>p (.inr ⟨e,r⟩));have C:z.code.data.toList<=y.code.data.toList:=asM.1 (fun r=>j (.inr ⟨by omega,r⟩));exact absurd u (asM.2 (List.le_trans C B))
   ·exact j (.inl (by omega))
theorem aip(x y:bP)(W:World):Calls prog 197 #[.agg #[.string x.code,.int .i64 x.bY,.bool x.before,.int .i64 x.amount,.int .i64 x.bH,.int .i64 x.cap],.agg #[.string y.code,.int .i64 y.bY,.bool y.before,.int .i64 y.amount,.int .i64 y.bH,.int .i64 y.cap]] W fun e w'=>e=.returned (.int .i64 (N5 x y))/\∃q j,w'=grow (W.drewN q) j:=by
 go_enter func197,ntmps197;go_wp2;refine wp_region_still_tail 10 (by kernel_rfl) (by kernel_rfl) ?_;simp only[List.take_succ_cons,List.take_zero,List.drop_succ_cons,List.drop_zero];change wpStill _ _ (World.drew _) (fun a'=>wpList _ _ _ _ a' (World.drew _)) _ _
 iterate 4 still_step
 still_call ((QK _ _ _).mono fun e w' ⟨l,n⟩=>⟨l,n.symm⟩)
 iterate 4 still_step
 still_call ((UC _ _ _).mono fun e w' ⟨l,n⟩=>⟨l,n.symm⟩)
 refine wpStill_nil ?_;go_wp2_with fail;refine(acv (nB x.bY y.bY) (Dd x.code y.code) _ _ _ _ (by go_simp) (by go_simp)).mono ?_;rintro e p ⟨rfl,rfl⟩;go_wp2;go_ret;exact⟨rfl,1,_,by rw[alloc_eq_grow,alloc_eq_grow,alloc_eq_grow,grow_grow,grow_grow];rfl⟩
theorem aiq(w:World)(j l n:Nat)(d:Array bP)(os:Array Obj):w.grownBy (sortWorldK kB 6 w j l n d os) (some j):=by
 refine⟨rfl,rfl,rfl,size_sortWorldK_c kB 6 w j l n d os,fun i hi p=>?_⟩;have r:j≠i:=fun e=>p (by rw[e]);have u:(putRowK kB 6 (Sort.ahead w n) j l d).heap.size=w.heap.size:=by simp[putRowK,putRow,mapBlock,Sort.ahead]
 show((putRowK kB 6 (Sort.ahead w n) j l d).heap++os)[i]?=w.heap[i]?;rw[atu (by omega)];show(w.heap.modify j _)[i]?=_;rw[as5,arJ r]
theorem air(A:Option Addr)(r base:Nat)(l:List bP)(w:World)(E:Own kB 6 166 w base (.slice A l.length r) l)(S:l.length<4611686018427387904):
  Calls prog 196 #[.slice A l.length r,.func (.func 197) #[] #[]] w fun e w'=>e=.returned (.tuple #[])/\
   ∃G:List bP,G.Perm l/\G.Pairwise (fun a b=>N6 b a=false)/\aj kB 6 w' w'.heap.size A G/\Below base w w':=by
 rcases E.2 with⟨I,T⟩|⟨g,P,J,I,hb,K,hn,hm,hs,U⟩
 ·injection I with p V Q
  obtain rfl:l=[]:=atb T;have z:=AnyF.slices_SortFunc_none {Tryz.acu with} A r (.func (.func 197) #[] #[]) w;refine arP z fun e w' ⟨L,X⟩=>⟨L,[],List.Perm.refl _,List.Pairwise.nil,aj.cL,by rw[X];exact arM _ _⟩
 ·injection I with p V Q
  subst p Q;have M:=(as1.1 K).1;have Y:∀args w,(callFunc 197 args).run prog w=.ok (.enter 197 args) w:=enters_of func197 (by kernel_rfl) rfl;have Z:CmpLays prog 197 #[] kB 6 N5 g 0 l.toArray.size w:=fun _ _ _ _ x y=>aip x y _;have R:HoldsK kB 6 w g 0 l.toArray:=by
   intro j D;rw[size_flatK]at D;simp only[List.size_toArray]at D;have C:j/6<l.length:=(by omega);have D9:j%6<6:=Nat.mod_lt _ (by omega);refine⟨?_,by simp[World.frozen?,K]⟩;rw[get_flatK _ _ _ _ (by simpa using D),arT,cell_of_row w g j J _ (0,0) K];have N:l.toArray[j/6]! =l[j/6]:=(by simp[C]);rw[N];have hu:(kB l[j/6])[j%6]?=some ((kB l[j/6])[j%6]!):=by have B:j%6<(kB l[j/6]).length:=(by rw[IJ];exact D9);rw[arW B,asl (kB l[j/6]) (j%6) B]
   have p:=G4 IJ l (j/6) (j%6) _ _ (arW C) hu;rw[show j/6*6+j%6=j by omega]at p;rw[<-U,as3,arK (by omega)]at p;simpa using p
  have z:=AnyQ.slices_SortFunc Tryz.acu 6 Tryz.isAgg166 Tryz.sizeOf166 kB IJ acw N5 aio 197 #[] g 0 r l.toArray w Y Z R M (by simpa using S);have L8:Calls prog 196 #[.slice (some ⟨g,0,none⟩) l.length r,.func (.func 197) #[] #[]] w _:=z;refine L8.mono ?_;rintro e w' ⟨L,d',n,os,hp,oD,rfl⟩;obtain⟨F,UF,O⟩:=hp;refine⟨L,d'.toList,?_,?_,?_,gU (aiq _ _ _ _ _ _) (by omega) (fun q e=>by injection e;omega)⟩
  ·have e1:l.toArray.size=l.length:=(by simp);rw[e1]at F O;have e2:(d'.extract 0 l.length)=d':=(by rw[<-F];simp);have e3:(l.toArray.extract 0 l.length)=l.toArray:=(by simp);rw[e2,e3]at O;exact O
  ·rw[asz];intro i j hi D Eh;have p:=oD i j (Nat.zero_le _) Eh (by rw[<-F];simpa using D);rw[UG,asl d' i (by simpa using hi),asl d' j (by simpa using D)]at p;simpa using p
  ·intro _;refine⟨g,0,rfl,lt_sortWorldK kB 6 w g 0 n d' os M,fun i x hi j u hu=>?_⟩;have L9:=holdsK_sortWorldK_c kB 6 w g 0 l.toArray d' n os R M F;have B4:i<d'.size:=(by simpa using(ase.1 hi).1);have o7:j<6:=(by have:=(ase.1 hu).1;rwa [IJ]at this);have p:=(L9 (i*6+j) (by rw[size_flatK];omega)).1;rw[get_flatK _ _ _ _ (by omega),show(i*6+j)/6=i by omega,show(i*6+j)%6=j by omega,asl d' i B4]at p;have N:d'[i]=x:=by
    have:=(ase.1 hi).2;simpa using this
   rw[N]at p;have Ei:(kB x)[j]! =u:=by have B:=(ase.1 hu).1;rw[asl (kB x) j B];exact(ase.1 hu).2
   rw[Ei]at p;rw[arT];rw[arT]at p;exact p
theorem acx(d:bP)(base taken:Int)(w:World)(l:d.code.size<=maxLen)(n:AO d)(p:0<=base)(r:base<=1000000000)(u:0<=taken)(y:taken<=1000000000000):
  Calls prog 198 #[.agg #[.string d.code,.int .i64 d.bY,.bool d.before,.int .i64 d.amount,.int .i64 d.bH,.int .i64 d.cap],.int .i64 base,.int .i64 taken] w fun e w'=>e=.returned (.tuple #[.int .i64 (G6 d base taken),.int .i64 0])/\Below w.heap.size w w':=by
 have j:=UH (UI.2 n) (im.2 ⟨p,r⟩) (im.2 ⟨u,y⟩);refine(ais d base taken w l ⟨by omega,by omega⟩).mono fun e w' ⟨z,B⟩=>⟨?_,B⟩
 rw[z,j,J5,arK j]
theorem ahM(A Y:Option Addr)(M IK:Nat)(u:List bP)(year:List Elem)(before:Bool)(base z:Int)(w:World)(h:aj kB 6 w w.heap.size A u)(hz:∀x∈u,x.code.size<=maxLen)(hl:u.length<=9223372036854775807)
  (hy:aj aQ 2 w w.heap.size Y year) (FV:∀x∈year,x.code.size<=maxLen) (pX:year.length<=9223372036854775807):
  Calls prog 160 #[.slice A u.length M,.bool before,.int .i64 base,.int .i64 z,.slice Y year.length IK] w (CT (iI u before base z year) (eK u base z year) w):=by
 have HZ:=arH hz;clear hz;have JN:=arH FV;clear FV;have Az:∀(n:Int) (W:World),n≠0->eK u base z year=n->Below w.heap.size w W->CT (iI u before base z year) (eK u base z year) w (Ending.returned (.tuple #[.slice none 0 0,.int .i64 n])) W:=
  fun n W U he hb=>CT.fail (acy (by rw[he];exact U)) he hb
 have p:=arH Az;clear Az;go_enter func160,ntmps160;go_wp2_with fail;refine(YE A M u _ h HZ.out hl).mono ?_;rintro e w1 ⟨rfl,G⟩;by_cases C:gl u=true;rotate_left
 ·have av:gl u=false:=by simpa using C
  clear C;go_wp2;go_ret2;exact p.out 1 _ (by omega) (UJ (.inl av)) G
 go_wp2_with fail;refine(Ud Y IK year _ (hy.aa G) JN.out pX).mono ?_;rintro e w2 ⟨rfl,V⟩;have L:=aB G V;by_cases E:eP year=true;rotate_left
 ·have JO:eP year=false:=by simpa using E
  clear E;go_wp2;go_ret2;exact p.out 1 _ (by omega) (UJ (.inr JO)) L
 by_cases X:0<=base;rotate_left
 ·go_wp2;go_ret2;exact p.out 2 _ (by omega) (N7 C E (.inl (IL.2 (.inl (by omega))))) L
 by_cases Z:base<=1000000000;rotate_left
 ·go_wp2;go_ret2;exact p.out 2 _ (by omega) (N7 C E (.inl (IL.2 (.inr (by omega))))) L
 by_cases a3:0<=z;rotate_left
 ·go_wp2;go_ret2;exact p.out 2 _ (by omega) (N7 C E (.inr (IL.2 (.inl (by omega))))) L
 by_cases a4:z<=1000000000;rotate_left
 ·go_wp2;go_ret2;exact p.out 2 _ (by omega) (N7 C E (.inr (IL.2 (.inr (by omega))))) L
 have hE:=YF C E (im.2 ⟨X,Z⟩) (im.2 ⟨a3,a4⟩);have HE:=arH hE;have HR:=arH (YG (before:=before) hE);clear hE p;have ab:u.length<=16:=(IM.1 C).1;have aU:year.length<=128:=(pZ.1 E).1;go_wp2_with fail;refine(aiu A M u _ (h.aa L) (by omega)).mono ?_;rintro e w3 ⟨v3,rfl,jv,ad⟩;have cX:=aB L ad;obtain⟨A3,c3,rfl,ir,bE,ay,aV⟩:=jv.kM IJ;go_wp2_with fail;refine(air A3 c3 w2.heap.size u _ jv (by omega)).mono ?_;rintro e N ⟨rfl,j,F,oD,dh,af⟩;have eW:Below w.heap.size w N:=cX.trans (af.mono L.size);have dO:=aiw C F (oD.imp (fun h=>of_decide_eq_false h));have NM:=F.length_eq;have bh:∀x∈j,AO x:=fun x hx=>(IM.1 C).2.1 x (F.mem_iff.1 hx);have ai:∀x∈j,x.code.size<=maxLen:=fun x hx=>HZ.out x (F.mem_iff.1 hx);have al:j.Pairwise (fun a b=>a.code≠b.code):=by rw[dO];exact aix C
 rw[<-dO]at HR;have di:=arH bh;have az:=arH ai;have aA:=arH al;have D:=arH NM;have aZ:j.length<=16:=by omega
 have AP:=hy.aa eW;have am:=fun c=>acB E c;have JP:=arH am;clear bh ai al dO F oD ir bE jv ad af G V am NM;have aE:aj kB 6 N N.heap.size A3 j:=dh;clear dh;obtain⟨n,U⟩:∃n,n=u.length:=⟨_,rfl⟩
 have od:n<=j.length:=by have:=D.out;omega
 have mU:j.length<=n:=by have:=D.out;omega
 rw[<-U];clear D HZ h C E ab ay hl;generalize u.length=n0 at U;clear U;go_wp2_with fail
 go_loopw [13,14,49] (fun v l i wr=>∃k:Nat,k<=j.length/\i=.int .i64 k/\l=.int .i64 (km before base year (j.take k) z)/\Own aQ 2 69 wr N.heap.size v (tk before base year (j.take k) z)/\Below N.heap.size N wr) (fun _ _ i _=>j.length-(intOf i).toNat)
 case atStart=>exact⟨0,by omega,rfl,rfl,Own.cL _ _,arM _ _⟩
 case round=>
  obtain⟨k,hk,rfl,rfl,r,Q⟩:=hrel;have bA:=Q.size;have qh:=UK (before:=before) (year:=year) (P:=j.take k) (fun x hx=>di.out x (ar6 hx)) X Z z a3;by_cases I:k<j.length
  ·have aJ:k<n:=(by omega);obtain⟨b,a0,rfl,hb,O⟩:=(aE.aa Q).at_ I;have c0:=O 0 _ rfl;have c1:=O 1 _ rfl;have c2:=O 2 _ rfl;have c3:=O 3 _ rfl;have c4:=O 4 _ rfl;have c5:=O 5 _ rfl;simp only[arL]at c0;clear O;have R:Hid (j.take (k+1)=j.take k++[j[k]]):=ar9 I;have Ma:=di.out _ (arO I);have fB:=az.out _ (arO I);generalize an:km before base year (j.take k) z=l0 at qh;have G7:=arH an;clear an;obtain⟨r1,r2⟩:=qh;have a5:(tk before base year (j.take k) z).length<=16:=ar0 (YH _ _) (by simp;omega);by_cases S:j[k].before=before;rotate_left
   ·have YI:(j[k].before==before)=false:=(by simpa using S);have y:=arH (QL (P:=j.take k) G7.out (acC (base:=base) (year:=year) (l0:=l0) S));clear S;go_wp2;go_roundw
    case rel=>exact⟨k+1,by omega,by go_num,by rw[R.out,y.out.2],by rw[R.out,y.out.1];exact r.alloc _,Q.alloc bA _⟩
    case measure=>simp[intOf];omega
   ·have YI:(j[k].before==before)=true:=(by simpa using S);have QM:=arH S;clear S;obtain⟨t1,t2⟩:=JP.out j[k].code;obtain⟨q1,q2⟩:=YJ (taken:=nC year j[k].code) Ma X Z;go_wp2_with fail;have J:=ah.new wr 166 #[.string j[k].code,.int .i64 j[k].bY,.bool j[k].before,.int .i64 j[k].amount,.int .i64 j[k].bH,.int .i64 j[k].cap];have YK:=r.alloc (.cells #[.string j[k].code,.int .i64 j[k].bY,.bool j[k].before,.int .i64 j[k].amount,.int .i64 j[k].bH,.int .i64 j[k].cap] 166);have lY:=ej Q (.cells #[.string j[k].code,.int .i64 j[k].bY,.bool j[k].before,.int .i64 j[k].amount,.int .i64 j[k].bH,.int .i64 j[k].cap] 166);have mV:(wr.alloc (Obj.cells #[.string j[k].code,.int .i64 j[k].bY,.bool j[k].before,.int .i64 j[k].amount,.int .i64 j[k].bH,.int .i64 j[k].cap] 166)).heap.size=wr.heap.size+1:=(by simp);generalize wr.alloc (Obj.cells _ _)=W at mV lY J YK|-;have Mb:=AP.aa lY;have T:wr.heap.size<W.heap.size:=(by omega);clear mV c0 c1 c2 c3 c4 c5;have e0:=Bw.cell (w:=W) (a:=⟨wr.heap.size,0,none⟩) (by exact T) (J.cell 0);have e1:=Bw.cell (w:=W) (a:=⟨wr.heap.size,1,none⟩) (by exact T) (J.cell 1);have e2:=Bw.cell (w:=W) (a:=⟨wr.heap.size,2,none⟩) (by exact T) (J.cell 2);have e3:=Bw.cell (w:=W) (a:=⟨wr.heap.size,3,none⟩) (by exact T) (J.cell 3);have e4:=Bw.cell (w:=W) (a:=⟨wr.heap.size,4,none⟩) (by exact T) (J.cell 4);have e5:=Bw.cell (w:=W) (a:=⟨wr.heap.size,5,none⟩) (by exact T) (J.cell 5);refine qi (by kernel_rfl) (by kernel_rfl) ?_
    repeat(first|go_big_quiet_step((first|exact Bw.call _ (acD Y IK year _ _ (Mb.aa (Bw.h _)) (by omega))|exact Bw.call _ (acx j[k] base (nC year j[k].code) _ fB Ma X Z t1 t2)))|quiet_step((first|exact Bw.call _ (acD Y IK year _ _ (Mb.aa (Bw.h _)) (by omega))|exact Bw.call _ (acx j[k] base (nC year j[k].code) _ fB Ma X Z t1 t2))))
    refine wpQuiet_nil ?_;intro W2 aN;obtain⟨⟨W9,K⟩,ao⟩:=aN;subst ao;have aK:=J.aa K;have B:=YK.aa K;have J6:=aB lY K;have a6:=aK.lt;have z0:=aK.cell 0;simp only[arQ,arR]at z0;clear J YK lY K e0 e1 e2 e3 e4 e5 Mb r Q;generalize QN:G6 j[k] base (nC year j[k].code)=wn at q1 q2|-;have YL:=arH QN;clear QN;have X0:=J6.size;have og:=fun g hg=>(B.cm (g:=g) hg).1;have HA:Hid (my before base year j[k] l0=min wn l0):=(by rw[Hid,my,arK QM.out,YL.out]);by_cases jh:0<min wn l0
    ·have y:=arH (YM (P:=j.take k) G7.out HA.out jh);have ey:min wn l0<=l0:=(by omega);go_wp2_with(at_builtin;(refine mQ _ _ 51 ⟨j[k].code,min wn l0⟩ _ 24 _ ll underlying51 B dB (by omega) rfl (kO _) (by omega) (by omega) (by omega) (by rfl) (by rfl) (by rfl) (by rfl) (by simp) (by rfl) ?_);intro v8 w8 cx gB);go_roundw
     case rel=>exact⟨k+1,by omega,by go_num,by rw[R.out,y.out.2],by rw[R.out,y.out.1];exact cx,kN J6 gB og⟩
     case measure=>simp[intOf];omega
    ·have B6:my before base year j[k] l0=0:=(by rw[HA.out];omega);have y:=arH (QL (P:=j.take k) G7.out B6);clear B6;have ey:min wn l0<=l0:=(by omega);go_wp2;go_roundw
     case rel=>exact⟨k+1,by omega,by go_num,by rw[R.out,y.out.2];congr 1;omega,by rw[R.out,y.out.1];exact B,J6⟩
     case measure=>simp[intOf];omega
  ·have ap:j.take k=j:=asB (by omega);rw[ap]at r|-;have aJ:¬k<n:=(by omega);clear ap;have aO:(tk before base year j z).length<=16:=ar0 (YH _ _) (by omega);have YN:=aiC (before:=before) (base:=base) (year:=year) aA.out z;generalize tk before base year j z=ts at r HR aO YN;have aS:=arH YN;clear YN;obtain⟨A5,c5,rfl,cZ,eJ,oW,oX⟩:=r.kM dB;go_wp2_with fail;refine(abZ A5 c5 N.heap.size ts _ r (by omega)).mono ?_;rintro e w6 ⟨rfl,zs,F,oD,P9,bL⟩;have FX:=F.length_eq;have au:zs=bF ts:=aiD F (XX oD (aS.out.perm F.symm (fun h e=>h e.symm)));have aT:=arH au;have Qa:=arH FX;clear FX au F oD;go_wp2;go_ret2;rw[HE.out,HR.out,<-aT.out];refine⟨A5,c5,by rw[Qa.out];rfl,P9,by have:=Qa.out;omega,oX,(fun a ha=>by have:=eJ a ha;have:=eW.size;omega),aB eW (Q.trans bL)⟩
