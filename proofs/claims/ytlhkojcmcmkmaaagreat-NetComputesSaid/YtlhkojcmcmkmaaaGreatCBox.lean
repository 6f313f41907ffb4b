/- Conditions: as stated. -/
import Derived.Maps.RangeWalk
import Derived.Maps.OwnOps
import Derived.Maps.Ext
import Derived.Sort.KeysCollected
import Derived.Test.YtlhkojcmcmkmaaaGreatCNetM
set_option maxRecDepth 100000
set_option maxHeartbeats 1000000
namespace Go.Proofs.YtlhkojcmcmkmaaaGreat
open Go.Proofs.Tryz
open Go.RowKit
theorem aP.dK{F:World->Prop}{W:World}{a:Addr}{v:Value}(e:a.block<W.heap.size)(h:W.cell? a=some v)(p:aP (fun w'=>Below W.heap.size W w') F):p.w'.cell? a=some v:=(p.h.cell e).trans h
theorem akj{P:Program}{id:Nat}{Q:Exit->Act->World->Prop}{a aE:Act}{W:World}{L:List Oper}(l:List Nat)(u D:Nat){d:Nat}{t I:TypeId}{zs:Array Value}(j:Array Value){x:Operand}{G y:Oper}
  (T:P.follows .mixedOrders=true) (U:Region.noSelect L.toArray=true) (V:2+l.length=L.length)
  (hi:l.all (fun i=>decide (i<L.toArray.size))=true) (X:M3.CD .any L.toArray l (Array.replicate L.length false)=true) (hd:M3.kq a.tmps.size (M3.cL L.toArray l)=true)
  (Y:Region.ready .any L.toArray (M3.mq l (Array.replicate L.length false))=[u]) (Z:Region.ready .any L.toArray ((M3.mq l (Array.replicate L.length false)).setIfInBounds u true)=[D])
  (r3:Region.ready .any L.toArray (((M3.mq l (Array.replicate L.length false)).setIfInBounds u true).setIfInBounds D true)=[])
  (ZO:L.toArray[u]?=some G) (Ms:L.toArray[D]?=some y) (ZP:G.dst=some d) (ZQ:G.guard=none) (Gi:y.dst=none) (J:y.guard=none) (ZR:y.op=.store I (.tmp d) x)
  (OI:∀(b:Act) (w:World),(execOp b.eval G).run P w=.ok (.value (.pointer (some ⟨w.heap.size,0,none⟩))) (w.alloc (.cells zs t)))
  (z:j.size=zs.size) (Gj:(P.info? I).map (·.size)=some j.size) (h1:j.toList.all (·.oneCell')=true)
  (H:∀F:World->Prop,gH F->Inhabited (aP (fun w'=>Below W.heap.size W w') F)->wpQuiet P L.toArray (fun w'=>∃p:aP (fun w'=>Below W.heap.size W w') F,w'=p.w') (fun a'=>a'=aE) (M3.cL L.toArray l) a)
  (E:∀g,(aE.put (some d) (.pointer (some ⟨g,0,none⟩))).eval x=.agg j/\(aE.put (some d) (.pointer (some ⟨g,0,none⟩))).eval (.tmp d)=.pointer (some ⟨g,0,none⟩))
  (M:∀g w',W.heap.size<=g->ah w' g t j->Below W.heap.size W w'->Q .normal ((aE.put (some d) (.pointer (some ⟨g,0,none⟩))).put none undef) w'):(Code.region id L.toArray true).wp P Q a W:=by
 have D8:=fun g=>(E g).1;have OJ:=fun g=>(E g).2;refine M3.iN (C:=fun w'=>Below W.heap.size W w') (jk _ _ (atN _)) (atS _ _) l 2 T U V hi X hd H ?_;intro Q0 bS;refine M3.bQ [u] Y (by simp) ?_;intro n R _ i e;rw[auB]at e;subst e;refine M3.bH (.pointer (some ⟨n.heap.size,0,none⟩)) (n.alloc (.cells zs t)) ZO (by simp[Region.wanted,ZQ]) (OI _ _) ⟨eP R _,?_⟩;rw[ZP];refine M3.bQ [D] Z (by simp) ?_;intro r gL K i e;rw[auB]at e;subst e;have S:=(ah.new n t zs).aa K;have oH:=R.size;have B:(execOp (aE.put (some d) (.pointer (some ⟨n.heap.size,0,none⟩))).eval y).run P r=.ok .skip (r.setCells n.heap.size 0 j.toList):=by unfold execOp;simp only[ZR,OJ,D8,Instr.storeAt,Instr.sureAddr,Sem.run_bind,Sem.run_pure,Result.andThen_ok,run_storeVar_mid r n.heap.size 0 I j (by have:=S.there;rwa [<-z]at this) Gj (by simpa using h1)]
 have N:=RJ n.heap.size j.toList 0 r;have bW:Below W.heap.size W (r.setCells n.heap.size 0 j.toList):=kH gL N (fun q hq=>by injection hq;omega);refine M3.fw (r.setCells n.heap.size 0 j.toList) Ms (by simp[Region.wanted,J]) B ⟨bW,?_⟩;rw[Gi];refine M3.kI r3 ?_;intro w3 kJ O;exact bS _ _ (M _ w3 oH ((S.kt z).aa O) kJ)
theorem ZT{P:Program}{id:Nat}{Q:Exit->Act->World->Prop}{a aE:Act}{W:World}{L:List Oper}(j:List Nat)(r z J:Nat){d dz:Nat}{t N:TypeId}{zs:Array Value}(l:Array Value)(v:Value){x y:Operand}{K B D:Oper}
  (hm:P.follows .mixedOrders=true) (hs:Region.noSelect L.toArray=true) (hn:3+j.length=L.length)
  (hi:j.all (fun i=>decide (i<L.toArray.size))=true) (hB:M3.CD .any L.toArray j (Array.replicate L.length false)=true) (hd:M3.kq a.tmps.size (M3.cL L.toArray j)=true)
  (r1:Region.ready .any L.toArray (M3.mq j (Array.replicate L.length false))=[r]) (r2:Region.ready .any L.toArray ((M3.mq j (Array.replicate L.length false)).setIfInBounds r true)=[z])
  (r3:Region.ready .any L.toArray (((M3.mq j (Array.replicate L.length false)).setIfInBounds r true).setIfInBounds z true)=[J])
  (r4:Region.ready .any L.toArray ((((M3.mq j (Array.replicate L.length false)).setIfInBounds r true).setIfInBounds z true).setIfInBounds J true)=[])
  (ZO:L.toArray[r]?=some K) (Ms:L.toArray[z]?=some B) (O:L.toArray[J]?=some D) (ZP:K.dst=some d) (ZQ:K.guard=none) (Gi:B.dst=none) (R:B.guard=none) (ZR:B.op=.store N (.tmp d) x)
  (Mt:D.dst=some dz) (I8:D.guard=none) (S:D.op=.assign y)
  (OI:∀(b:Act) (w:World),(execOp b.eval K).run P w=.ok (.value (.pointer (some ⟨w.heap.size,0,none⟩))) (w.alloc (.cells zs t)))
  (G:l.size=zs.size) (Gj:(P.info? N).map (·.size)=some l.size) (h1:l.toList.all (·.oneCell')=true)
  (H:∀F:World->Prop,gH F->Inhabited (aP (fun w'=>Below W.heap.size W w') F)->wpQuiet P L.toArray (fun w'=>∃p:aP (fun w'=>Below W.heap.size W w') F,w'=p.w') (fun a'=>a'=aE) (M3.cL L.toArray j) a)
  (E:∀g,(aE.put (some d) (.pointer (some ⟨g,0,none⟩))).eval x=.agg l/\(aE.put (some d) (.pointer (some ⟨g,0,none⟩))).eval (.tmp d)=.pointer (some ⟨g,0,none⟩)/\((aE.put (some d) (.pointer (some ⟨g,0,none⟩))).put none undef).eval y=v)
  (M:∀g w',W.heap.size<=g->ah w' g t l->Below W.heap.size W w'->Q .normal (((aE.put (some d) (.pointer (some ⟨g,0,none⟩))).put none undef).put (some dz) v) w'):(Code.region id L.toArray true).wp P Q a W:=by
 have D8:=fun g=>(E g).1;have OJ:=fun g=>(E g).2.1;have T:=fun g=>(E g).2.2;refine M3.iN (C:=fun w'=>Below W.heap.size W w') (jk _ _ (atN _)) (atS _ _) j 3 hm hs hn hi hB hd H ?_;intro Q0 bS;refine M3.bQ [r] r1 (by simp) ?_;intro n ba _ i e;rw[auB]at e;subst e;refine M3.bH (.pointer (some ⟨n.heap.size,0,none⟩)) (n.alloc (.cells zs t)) ZO (by simp[Region.wanted,ZQ]) (OI _ _) ⟨eP ba _,?_⟩;rw[ZP];refine M3.bQ [z] r2 (by simp) ?_;intro u gL U i e;rw[auB]at e;subst e;have aC:=(ah.new n t zs).aa U;have oH:=ba.size;have I:(execOp (aE.put (some d) (.pointer (some ⟨n.heap.size,0,none⟩))).eval B).run P u=.ok .skip (u.setCells n.heap.size 0 l.toList):=by unfold execOp;simp only[ZR,OJ,D8,Instr.storeAt,Instr.sureAddr,Sem.run_bind,Sem.run_pure,Result.andThen_ok,run_storeVar_mid u n.heap.size 0 N l (by have:=aC.there;rwa [<-G]at this) Gj (by simpa using h1)]
 have V:=RJ n.heap.size l.toList 0 u;have bW:Below W.heap.size W (u.setCells n.heap.size 0 l.toList):=kH gL V (fun q hq=>by injection hq;omega);refine M3.fw (u.setCells n.heap.size 0 l.toList) Ms (by simp[Region.wanted,R]) I ⟨bW,?_⟩;rw[Gi];have bA:=aC.kt G;refine M3.bQ [J] r3 (by simp) ?_;intro w3 kJ X i e;rw[auB]at e;subst e;have Y:(execOp ((aE.put (some d) (.pointer (some ⟨n.heap.size,0,none⟩))).put none undef).eval D).run P w3=.ok (.value v) w3:=by unfold execOp;simp only[S,T,Sem.run_pure]
 refine M3.bH v w3 O (by simp[Region.wanted,I8]) Y ⟨kJ,?_⟩;rw[Mt];refine M3.kI r4 ?_;intro w4 bD Z;exact bS _ _ (M _ w4 oH ((bA.aa X).aa Z) bD)
theorem OH{P:Program}{id:Nat}{Q:Exit->Act->World->Prop}{a aE:Act}{W:World}{L:List Oper}(e:List Nat)(j:Nat){n:Oper}
  (y:P.follows .mixedOrders=true) (z:Region.noSelect L.toArray=true) (B:1+e.length=L.length)
  (hi:(e.all (fun i=>decide (i<L.toArray.size))&&e.all (M5.Mu .any L.toArray j)&&M3.CD .any L.toArray e (Array.replicate L.length false))=true) (hd:M3.kq a.tmps.size (M3.cL L.toArray e)=true)
  (D:Region.ready .any L.toArray (M3.mq e (Array.replicate L.length false))=[j]) (E:Region.ready .any L.toArray ((M3.mq e (Array.replicate L.length false)).setIfInBounds j true)=[])
  (G:L.toArray[j]?=some n) (I:n.dst=none) (u:n.guard=none)
  (H:∀F:World->Prop,gH F->Inhabited (aP (fun w'=>Below W.heap.size W w') F)->wpQuiet P L.toArray (fun w'=>∃p:aP (fun w'=>Below W.heap.size W w') F,w'=p.w') (fun a'=>a'=aE) (M3.cL L.toArray e) a)
  (M:∀w',Below W.heap.size W w'->∃r,(execOp aE.eval n).run P w'=.ok .skip r/\Q .normal (aE.put none undef) r):(Code.region id L.toArray true).wp P Q a W:=by
 refine M5.iN (C:=fun w'=>Below W.heap.size W w') (jk _ _ (atN _)) (atS _ _) e 1 j y z B hi hd H ?_;intro R J;refine M5.oI D E ?_;intro K N _;obtain⟨r,l,O⟩:=M K N;refine M3.fw r G (by simp[Region.wanted,u]) l ?_;rw[I];exact J _ _ O
theorem adP{P:Program}{p:Array Oper}{u:Region.Mode}{C:World->Prop}{s:Nat}{Q:Act->World->Prop}{n:Nat}{l:Array Bool}{a:Act}{w:World}(k:Nat){o:Oper}(v:Value)(y:Region.ready u p l=[k])(B:k≠s)(D:p[k]?=some o)(E:o.guard=none)
  (r:∀w',(execOp a.eval o).run P w'=.ok (.value v) w') (h:M5.cS P u p C s Q n (l.setIfInBounds k true) (a.put o.dst v) w):M5.cS P u p C s Q (n+1) l a w:=by
 intro w' c b;refine⟨fun e=>(by rw[y]at e;cases e),fun j z=>?_⟩;rw[y,auB]at z;subst z;simp only[atO B];exact M3.bH v w' D (by simp[Region.wanted,E]) (r w') ⟨c,M5.Ef h b⟩
theorem Vw{P:Program}{id:Nat}{Q:Exit->Act->World->Prop}{a aE:Act}{W:World}{L:List Oper}(e:List Nat)(j n l:Nat){r u B:Oper}(y D:Value)
  (N:P.follows .mixedOrders=true) (O:Region.noSelect L.toArray=true) (R:3+e.length=L.length)
  (hi:(e.all (fun i=>decide (i<L.toArray.size))&&e.all (M5.Mu .any L.toArray l)&&M3.CD .any L.toArray e (Array.replicate L.length false))=true) (hd:M3.kq a.tmps.size (M3.cL L.toArray e)=true)
  (S:Region.ready .any L.toArray (M3.mq e (Array.replicate L.length false))=[j]) (T:Region.ready .any L.toArray ((M3.mq e (Array.replicate L.length false)).setIfInBounds j true)=[n])
  (U:Region.ready .any L.toArray (((M3.mq e (Array.replicate L.length false)).setIfInBounds j true).setIfInBounds n true)=[l])
  (V:Region.ready .any L.toArray ((((M3.mq e (Array.replicate L.length false)).setIfInBounds j true).setIfInBounds n true).setIfInBounds l true)=[])
  (G:(decide (j≠l)&&decide (n≠l))=true)
  (X:L.toArray[j]?=some r) (Y:L.toArray[n]?=some u) (Z:L.toArray[l]?=some B) (I:r.guard=none) (J:u.guard=none) (Gi:B.dst=none) (K:B.guard=none)
  (H:∀F:World->Prop,gH F->Inhabited (aP (fun w'=>Below W.heap.size W w') F)->wpQuiet P L.toArray (fun w'=>∃p:aP (fun w'=>Below W.heap.size W w') F,w'=p.w') (fun a'=>a'=aE) (M3.cL L.toArray e) a)
  (E1:∀w,(execOp aE.eval r).run P w=.ok (.value y) w) (E2:∀w,(execOp (aE.put r.dst y).eval u).run P w=.ok (.value D) w)
  (M:∀w',Below W.heap.size W w'->∃E,(execOp ((aE.put r.dst y).put u.dst D).eval B).run P w'=.ok .skip E/\Q .normal (((aE.put r.dst y).put u.dst D).put none undef) E):(Code.region id L.toArray true).wp P Q a W:=by
 simp only[aub,auc]at G;refine M5.iN (C:=fun w'=>Below W.heap.size W w') (jk _ _ (atN _)) (atS _ _) e 3 l N O R hi hd H ?_;intro Q0 bS;refine adP j y S G.1 X I E1 ?_;refine adP n D T G.2 Y J E2 ?_;refine M5.oI U V ?_;intro w1 ba _;obtain⟨E,z,hq⟩:=M w1 ba;refine M3.fw E Z (by simp[Region.wanted,K]) z ?_;rw[Gi];exact bS _ _ hq
theorem akl(k:Int)(c:ByteArray):ag k [⟨c,0⟩]=[]:=by simp[ag,nz]
theorem adQ(k:Int)(c:ByteArray){n:Int}(h:n≠0):ag k [⟨c,n⟩]=[⟨k,c,n⟩]:=by rw[ag,List.filter_cons_of_pos (by simp[nz,h])];rfl
theorem Kq{B:World}{g:Nat}{c:np}{s:jB}{r:List cH}{w:World}(h:dI B g c s r w)(l:Int)(p:ByteArray)(j:Int)(R:r.length<=1000000):
  Calls prog 104 #[.pointer (some ⟨g,0,none⟩),.int .i64 l,.string p,.int .i64 j] w fun e w'=>e=.returned (.tuple #[])/\∃v',dI B g c {s with lv:=v'} (r++ag l [⟨p,j⟩]) w'/\Mv g s.lv w v' w':=by
 have G:=atM (fun v' w' ls' n=>h.grow (w':=w') (v':=v') (ls':=ls') (n:=n));have I:=atM h;have J:=h.own;have K:=h.bh.size;have L:w.cell? ⟨g,32,none⟩=some s.lv:=h.blk.cell 32;have M:=atM h.blk;have u:=atM h.far;clear h;go_enter func104,ntmps104;by_cases y:j=0
 ·subst y;go_wp2
  go_end0
  exact⟨rfl,s.lv,by rw[akl,avl];exact I.out,Mv.refl _ _ _⟩
 ·have N:=atM (adQ l p y);have O:(j !=0)=true:=by simp[y]
  go_wp2_with(at_builtin;(refine OL _ _ 25 ⟨l,p,j⟩ _ 32 _ B0 underlying25 J eD (by omega) rfl (AP _) (by omega) (by omega) (by omega) (by rfl) (by rfl) (by rfl) (by rfl) (by simp) (by rfl) ?_);intro S C D E P;obtain⟨T,U,Q,_,_,_,_⟩:=D.kX eD;subst Q;have F:=M.out.grown E (fun e=>u.out e.symm);have f5:=F.frozen 32;have V:C.cell? ⟨g,32,none⟩=some s.lv:=F.cell 32);have z:=G.out _ C _ _ D E P;simp only[at3,at4,aug,atX]at z;rw[<-N.out]at z
  go_end0
  exact⟨rfl,_,z⟩
theorem Vc{B:World}{g:Nat}{c:np}{s:jB}{u:List cH}{w:World}(h:dI B g c s u w)(j:Int)(A:Option Addr)(J:Nat)(l:List Elem)(P:nR aN 2 w g s.lv A l)(hl:u.length<=1000)(lI:l.length<=128)
  (hb:-1000000000000000<=s.left/\s.left<=1000000000000000) (C:∀x∈l,0<=x.amount/\x.amount<=1000000000000):
  Calls prog 106 #[.pointer (some ⟨g,0,none⟩),.int .i64 j,.slice A l.length J] w fun e w'=>e=.returned (.tuple #[])/\∃p,dI B g c {s with lv:=p,left:=s.left-aB l} (u++ag j l) w'/\Mv g s.lv w p w':=by
 have Q:=atM C;have HI:=atM h;have HA:=atM P;clear C h P;obtain⟨b0,b1⟩:=hb;have RM:Hid (∀k,k<=l.length->(ag j (l.take k)).length<=128):=fun k R=>by have:=auk nz (l.take k);simp only[ag,auq,auH]at this|-;omega
 have RN:Hid (∀k,k<=l.length->0<=aB (l.take k)/\aB (l.take k)<=128000000000000):=fun k R=>by have:=OM (l.take k) 1000000000000 (fun x C=>Q.out x (auh C));rw[auH]at this;omega
 go_enter func106,ntmps106;go_wp2_with fail
 go_loopw [10] (fun i wr=>∃(k:Nat) (p:Value),k<=l.length/\i=.int .i64 k/\dI B g c {s with lv:=p,left:=s.left-aB (l.take k)} (u++ag j (l.take k)) wr/\Mv g s.lv w p wr) (fun i _=>l.length-(intOf i).toNat)
 case atStart=>exact⟨0,s.lv,by omega,rfl,by simpa[ag,aB]using HI.out,Mv.refl _ _ _⟩
 case round=>
  rename World=>wr
  obtain⟨k,S,R,rfl,r,D⟩:=hrel;by_cases n:k<l.length
  ·obtain⟨b,off,oF,gu,K⟩:=(HA.out.mv D).sl.at_ n;have T:=K 0 _ rfl;have c1:=K 1 _ rfl;simp only[atQ]at T;rw[oF];have U:Hid (l.take (k+1)=l.take k++[l[k]]):=aud n;have HS:Hid (aB (l.take (k+1))=aB (l.take k)+l[k].amount):=ZU l k n;have fL:(k:Int)<(l.length:Int):=(by omega);obtain⟨x0,x1⟩:=Q.out _ (atT n);obtain⟨s0,s1⟩:=RN.out k (by omega);have OO:=RM.out k (by omega);have nV:Hid (ag j (l.take (k+1))=ag j (l.take k)++ag j [l[k]]):=(by rw[Hid,U.out,RO]);clear K U;generalize l[k]=x at*;generalize aB (l.take k)=q at*;have E:=ah.new wr 69 #[.string x.code,.int .i64 x.amount];have G:=bC wr (.cells #[.string x.code,.int .i64 x.amount] 69);have oX:S.ownBlock≠some wr.heap.size:=fun e=>by have:=(r.row _ e).2;omega
   have L:wr.heap.size≠g:=(by have:=r.lt;omega);go_upto_region 3 with fail
   generalize wr.alloc (Obj.cells _ _)=W1 at E G|-;have V:=r.aa G;have X:=D.trans (Mv.bh G);obtain⟨z0,z1⟩:=E.cz2;clear r G T c1 D;go_wp2_with fail;refine(Kq V j x.code x.amount (by simp;omega)).mono ?_;rintro e Y ⟨rfl,v2,y,M⟩;have N:=E.mv M L oX;have Z:=X.trans M;rw[auG,<-nV.out]at y;have fO:=y.lt;have RP:=N.lt;have Mc:Y.cell? ⟨g,33,none⟩=some (.int .i64 (s.left-q)):=y.blk.cell 33;have CE:Y.cell? ⟨wr.heap.size,1,none⟩=some (.int .i64 x.amount):=N.cell 1;clear z0 z1 E N V X M;go_upto_region 4 with fail
   refine Vw (aE:=?C9) [0,1,2,3,4,5,6] 7 8 9 (.pointer (some ⟨g,0,none⟩)) (.pointer (some ⟨g,33,none⟩)) (by kernel_rfl) (by kernel_rfl) rfl (by kernel_rfl) (by rfl) (by kernel_rfl) (by kernel_rfl) (by kernel_rfl) (by kernel_rfl) rfl rfl rfl rfl rfl rfl rfl rfl ?H1 ?E1 ?G1 ?M1
   case H1=>
    intro F hF ab;simp only[M3.cL,atY,at0,at1];have Md:=aP.dK (F:=F) (a:=⟨g,33,none⟩) (by exact fO) Mc;have d1:=aP.dK (F:=F) (a:=⟨wr.heap.size,1,none⟩) (by exact RP) CE
    repeat(first|go_big_quiet_step(first|fail)|quiet_step(first|fail))
    refine wpQuiet_nil ?_;rfl
   case E1=>exact fun _=>by first|rfl|go_simp
   case G1=>exact fun _=>by first|rfl|go_simp
   case M1=>
    intro O z
    try simp only[Act.put,aua]
    have I:=y.aa z;have kY:=Z.trans (Mv.bh z);have Md:O.cell? ⟨g,33,none⟩=some (.int .i64 (s.left-q)):=I.blk.cell 33;have f33:=I.blk.frozen 33;refine⟨O.setCell ⟨g,33,none⟩ (.int .i64 (s.left-q-x.amount)),by go_simp,?_⟩;have AQ:=I.Vz (s.left-q-x.amount);have jY:=kY.trans (Mv.set 33 (.int .i64 (s.left-q-x.amount)));generalize O.setCell ⟨g,33,none⟩ (.int .i64 (s.left-q-x.amount))=w5 at AQ jY|-;clear I kY Md f33 y Z Mc CE;go_wp2;go_roundw
    case rel=>
     have aj:∃(k':Nat) (p:Value),k'<=l.length/\Value.int .i64 ((k:Int)+1)=.int .i64 k'/\dI B g c {s with lv:=p,left:=s.left-aB (l.take k')} (u++ag j (l.take k')) w5/\Mv g s.lv w p w5:=⟨k+1,v2,by omega,by go_num,by rw[HS.out,<-Int.sub_sub];exact AQ,jY⟩
     first|exact aj|((repeat apply Exists.intro);exact⟨aj,rfl⟩)
    case measure=>simp[intOf];omega
  ·obtain rfl:k=l.length:=by omega
   rw[auv]at r;go_wp2
   go_end0
   exact⟨rfl,S,r,D⟩
def Dk(a b:ByteArray):Int:=if Op.bytesLess a.toList b.toList then-1 else if !(Op.bytesLess a.toList b.toList||a.toList==b.toList)then 1 else 0
theorem akn(a:ByteArray)(w:World):Calls prog 126 #[.string a] w fun e w'=>e=.returned (.bool false)/\w=w':=by go_enter func126,ntmps126;go_wp2;go_ret;exact⟨by simp,rfl⟩
theorem VA(a b:ByteArray)(w:World):Calls prog 85 #[.string a,.string b] w fun e w'=>e=.returned (.int .i64 (Dk a b))/\w=w':=by
 go_enter func85,ntmps85;go_wp2_with(go_at_call 126;refine(akn _ _).mono ?_;rintro e w' ⟨rfl,rfl⟩)
 all_goals go_ret
 all_goals refine⟨?_,rfl⟩
 all_goals(simp[Dk, *];try simp_all)
end Go.Proofs.YtlhkojcmcmkmaaaGreat
namespace Go.Proofs.YtlhkojcmcmkmaaaGreat
open Go.Proofs.Tryz
open Go.RowKit Go.Sort Go.Maps
theorem Hm:Keyed prog 9:=string_keyed underlying9
theorem YW(w:World):(zeroValue 3).run prog w=.ok (.int .i64 0) w:=by kernel_rfl
abbrev QW(n:Int):DataW Unit:=.lit (.int .i64 n)
structure D7(D:DataW Unit)(K:List UInt8->Bool)(T:List UInt8->Int):Prop where
 isMap:IsMap D
 has:∀c,Maps.has D (.string c)=K c
 at_:∀c,D.atKey (.string c) (QW 0)=QW (T c)
theorem adR(x:Lit×DataW Unit):∀l,(DataW.insert x l).length=l.length+1
 |[]=>rfl
 |y::l=>by
  rw[DataW.insert];split
  ·rfl
  ·simp[adR x l]
theorem acY(l:List (Lit×DataW Unit)):(l.foldr DataW.insert []).length=l.length:=by
 induction l with
 |nil=>rfl
 |cons a l e=>rw[List.foldr_cons,adR,e];rfl
theorem adS(s:ByteArray):WideAt.IsKeyLit (key s):=trivial
theorem D7.empty:D7 (.map []) (fI []) (cR []):=⟨isMap_empty,fun _=>rfl,fun _=>rfl⟩
theorem D7.YT{D:DataW Unit}{K K':List UInt8->Bool}{T T':List UInt8->Int}(h:D7 D K T)(s:ByteArray)(n:Int)(l:∀c,K' c=(K c||decide (s.data.toList=c)))(p:∀c,T' c=if s.data.toList=c then n else T c):D7 (D.put (key s) (QW n)) K' T':=by
 refine⟨h.isMap.put _ _,fun c=>?_,fun c=>?_⟩
 ·by_cases e:s.data.toList=c
  ·subst e;rw[show Lit.string s.data.toList=key s from rfl,has_put_same h.isMap (adS s),l];simp
  ·rw[has_put_other (fun j=>e (by simpa[key]using j.symm)),h.has,l];simp[e]
 ·by_cases e:s.data.toList=c
  ·subst e;rw[show Lit.string s.data.toList=key s from rfl,atKey_put_same h.isMap (adS s),p];simp
  ·rw[atKey_put_other (fun j=>e (by simpa[key]using j.symm)),h.at_,p];simp[e]
theorem YX{n:Int}(e:-9223372036854775808<=n)(j:n<=9223372036854775807):(Lit.int .i64 n).wf=true:=by simp[Lit.wf,IntKind.min,IntKind.max,IntKind.signed,IntKind.bits];omega
theorem YU(e:List Elem)(k:Nat)(h:k<e.length)(c:List UInt8):fI (e.take (k+1)) c=(fI (e.take k) c||decide (e[k].code.data.toList=c)):=by rw[aud h,U5];simp[fI]
theorem YV(e:List Elem)(k:Nat)(h:k<e.length)(c:List UInt8):cR (e.take (k+1)) c=cR (e.take k) c+if e[k].code.data.toList=c then e[k].amount else 0:=by rw[aud h,QR];simp[cR]
