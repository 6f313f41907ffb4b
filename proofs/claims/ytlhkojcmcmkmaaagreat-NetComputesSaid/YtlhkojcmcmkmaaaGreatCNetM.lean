/- Conditions: as stated. -/
import Derived.Deep.MidRow
import Derived.Test.YtlhkojcmcmkmaaaGreatCMix4
namespace Go.Proofs.YtlhkojcmcmkmaaaGreat
open Go.Proofs.Tryz
open Go.RowKit
structure np where
 r:gJ
 p:fB
 y:fC
 K:Option Addr
 kc:Nat
 kept:List Elem
 first:Bool
structure jB where
 b:eU
 lv:Value
 left:Int
 bv:Value
 av:Value
 tv:Value
 aO:Int
 bj:Int
 Af:Int
 ay:Int
 aw:Int
def ot(c:np)(s:jB):Array Value:=#[.slice c.r.Aw c.r.ws.length c.r.cw,.slice c.r.As c.r.ss.length c.r.cs,.int .i64 c.r.tm.t.method,.slice c.r.tm.Ab c.r.tm.t.aR.length c.r.tm.cb,.int .i64 c.r.tm.t.bJ,.int .i64 c.r.tm.t.bK,.int .i64 c.r.tm.t.unit,.int .i64 c.r.tm.t.mode,.slice c.r.tm.Ar c.r.tm.t.rows.length c.r.tm.cr,.int .i64 c.r.count,.int .i64 c.r.sh.fixed,.int .i64 c.r.sh.bO,.int .i64 c.r.sh.lower,.int .i64 c.r.sh.share,.int .i64 c.r.sh.top,.int .i64 c.r.recover,.int .i64 c.p.deps,.slice c.p.Ad c.p.ds.length c.p.cd,.slice c.p.Ao c.p.os.length c.p.co,.slice c.p.Ae c.p.es.length c.p.ce,.int .i64 c.y.az,.int .i64 c.y.ay,.int .i64 c.y.aQ,.slice c.y.Ai c.y.ins.length c.y.ci,.slice c.y.At c.y.taken.length c.y.ct,.slice c.K c.kept.length c.kc,.bool c.first,.int .i64 s.b.g,.int .i64 s.b.c,.int .i64 s.b.t,.int .i64 s.b.i,.int .i64 s.b.a,s.lv,.int .i64 s.left,s.bv,s.av,s.tv,.int .i64 s.aO,.int .i64 s.bj,.int .i64 s.Af,.int .i64 s.ay,.int .i64 s.aw]
structure Mv(g:Nat)(v:Value)(w:World)(v':Value)(w':World):Prop where
 os:w'.os=w.os
 tape:w'.tape=w.tape
 output:w'.output=w.output
 size:w.heap.size<=w'.heap.size
 block:∀k,k<w.heap.size->k≠g->v.ownBlock≠some k->w'.heap[k]?=w.heap[k]?
 nx:v'.ownBlock=v.ownBlock\/∀q,v'.ownBlock=some q->w.heap.size<=q
section
variable {g:Nat}{v v' v'':Value}{w w' w'':World}
theorem Mv.refl(g:Nat)(v:Value)(w:World):Mv g v w v w:=⟨rfl,rfl,rfl,atN _,fun _ _ _ _=>rfl,.inl rfl⟩
theorem Mv.bh(e:Below w.heap.size w w'):Mv g v w v w':=⟨e.os,e.tape,e.output,e.size,fun k j _ _=>e.block k j,.inl rfl⟩
theorem Mv.trans(h:Mv g v w v' w')(k:Mv g v' w' v'' w''):Mv g v w v'' w'':=by
 refine⟨k.os.trans h.os,k.tape.trans h.tape,k.output.trans h.output,at7 h.size k.size,fun i hi l n=>?_,?_⟩
 ·refine(k.block i (auD hi h.size) l (fun e=>?_)).trans (h.block i hi l n);rcases h.nx with e2|e2
  ·exact n (e2.symm.trans e)
  ·have:=e2 _ e;omega
 ·rcases k.nx with e|e
  ·rcases h.nx with e2|e2
   ·exact .inl (e.trans e2)
   ·exact .inr fun q j=>e2 q (e.symm.trans j)
  ·exact .inr fun q j=>at7 h.size (e q j)
theorem Mv.set(i:Nat)(u:Value):Mv g v w v (w.setCell ⟨g,i,none⟩ u):=
 ⟨rfl,rfl,rfl,by simp[World.setCell],fun k _ e _=>Below.heap_setCell w ⟨g,i,none⟩ u k e,.inl rfl⟩
theorem Mv.app{n:Nat}(j:w.grownBy w' v.ownBlock)(p:v'.ownBlock=v.ownBlock\/v'.ownBlock=some (w.heap.size+n)):Mv g v w v' w':=
 ⟨j.os,j.tape,j.output,j.size,fun k r _ u=>j.block k r (fun e=>u e.symm),by
  rcases p with e|e
  ·exact .inl e
  ·exact .inr fun q l=>by rw[e]at l;injection l;omega⟩
theorem Mv.far{b:Nat}(m:Mv g v w v' w')(n:b<w.heap.size)(j:v.ownBlock≠some b):v'.ownBlock≠some b:=by
 rcases m.nx with e|e
 ·rw[e];exact j
 ·intro l;have:=e _ l;omega
theorem ah.mv{b:Nat}{t:TypeId}{cs:Array Value}(h:ah w b t cs)(m:Mv g v w v' w')(e:b≠g)(j:v.ownBlock≠some b):ah w' b t cs:=(m.block b h.lt e j).trans h
end
structure nR{α:Type}(enc:α->List Value)(k:Nat)(w:World)(g:Nat)(v:Value)(A:Option Addr)(xs:List α):Prop where
 sl:ai enc k w w.heap.size A xs
 ne:xs≠[]->∀a,A=some a->a.block≠g/\v.ownBlock≠some a.block
section
variable {α:Type}{enc:α->List Value}{k g:Nat}{v v':Value}{w w':World}{A:Option Addr}{xs:List α}
theorem nR.mv(h:nR enc k w g v A xs)(m:Mv g v w v' w'):nR enc k w' g v' A xs:=by
 refine⟨fun l=>?_,fun l a z=>?_⟩
 ·obtain⟨b,off,e,p,B⟩:=h.sl l;obtain⟨r,y⟩:=h.ne l _ e;exact⟨b,off,e,auD p m.size,fun i x hi j u C=>(auX (m.block b p r y)).trans (B i x hi j u C)⟩
 ·obtain⟨r,y⟩:=h.ne l a z;refine⟨r,fun e=>?_⟩;rcases m.nx with e2|e2
  ·exact y (e2.symm.trans e)
  ·obtain⟨b,off,n,p,_⟩:=h.sl l;rw[z]at n;injection n with n
   subst n;exact absurd (show w.heap.size<=b from e2 _ e) (by omega)
theorem nR.new(h:ai enc k w' w'.heap.size A xs)(j:∀a,A=some a->w.heap.size<=a.block)(p:g<w.heap.size)(n:∀q,v.ownBlock=some q->q<w.heap.size):nR enc k w' g v A xs:=
 ⟨h,fun _ a l=>⟨by have:=j a l;omega,fun e=>by have:=j a l;have:=n _ e;omega⟩⟩
theorem nR.old{B:Nat}(h:ai enc k w B A xs)(l:B<=w.heap.size)(u:B<=g)(n:∀q,v.ownBlock=some q->B<=q):nR enc k w g v A xs:=by
 refine⟨h.more l,fun p a r=>?_⟩;obtain⟨b,off,j,y,_⟩:=h p;rw[r]at j;injection j with j
 subst j;exact⟨by show b≠g;omega,fun e=>by have:=n b e;omega⟩
end
structure dI(w0:World)(g:Nat)(c:np)(s:jB)(ls:List cH)(w:World):Prop where
 blk:ah w g 103 (ot c s)
 hg:w0.heap.size<=g
 bh:Below w0.heap.size w0 w
 own:Own fV 3 30 w w0.heap.size s.lv ls
 far:s.lv.ownBlock≠some g
namespace dI
variable {w0:World}{g:Nat}{c:np}{s:jB}{ls:List cH}{w w':World}
theorem lt(h:dI w0 g c s ls w):g<w.heap.size:=h.blk.lt
theorem row(h:dI w0 g c s ls w):∀q,s.lv.ownBlock=some q->w0.heap.size<=q/\q<w.heap.size:=fun _ e=>h.own.bR e
theorem aa(h:dI w0 g c s ls w)(e:Below w.heap.size w w'):dI w0 g c s ls w':=⟨h.blk.aa e,h.hg,aA h.bh e,h.own.aa e,h.far⟩
theorem put(h:dI w0 g c s ls w)(i:Nat)(u:Value)(j:jB)(n:(ot c s).setIfInBounds i u=ot c j)(l:j.lv=s.lv):dI w0 g c j ls (w.setCell ⟨g,i,none⟩ u):=
 ⟨n▸h.blk.eh i u,h.hg,iL h.bh h.hg i u,by rw[l];exact h.own.setCell (p:=⟨g,i,none⟩) (fun q r e=>h.far (by rw[r];exact congrArg some e)) u,by rw[l];exact h.far⟩
theorem Vz(h:dI w0 g c s ls w)(x:Int):dI w0 g c {s with left:=x} ls (w.setCell ⟨g,33,none⟩ (.int .i64 x)):=h.put 33 _ _ (by simp[ot]) rfl
theorem ajx(h:dI w0 g c s ls w)(x:Value):dI w0 g c {s with bv:=x} ls (w.setCell ⟨g,34,none⟩ x):=h.put 34 _ _ (by simp[ot]) rfl
theorem ajA(h:dI w0 g c s ls w)(x:Value):dI w0 g c {s with av:=x} ls (w.setCell ⟨g,35,none⟩ x):=h.put 35 _ _ (by simp[ot]) rfl
theorem ada(h:dI w0 g c s ls w)(x:Value):dI w0 g c {s with tv:=x} ls (w.setCell ⟨g,36,none⟩ x):=h.put 36 _ _ (by simp[ot]) rfl
theorem anG(h:dI w0 g c s ls w)(x:Int):dI w0 g c {s with aO:=x} ls (w.setCell ⟨g,37,none⟩ (.int .i64 x)):=h.put 37 _ _ (by simp[ot]) rfl
theorem anH(h:dI w0 g c s ls w)(x:Int):dI w0 g c {s with bj:=x} ls (w.setCell ⟨g,38,none⟩ (.int .i64 x)):=h.put 38 _ _ (by simp[ot]) rfl
theorem anI(h:dI w0 g c s ls w)(x:Int):dI w0 g c {s with Af:=x} ls (w.setCell ⟨g,39,none⟩ (.int .i64 x)):=h.put 39 _ _ (by simp[ot]) rfl
theorem anJ(h:dI w0 g c s ls w)(x:Int):dI w0 g c {s with ay:=x} ls (w.setCell ⟨g,40,none⟩ (.int .i64 x)):=h.put 40 _ _ (by simp[ot]) rfl
theorem anK(h:dI w0 g c s ls w)(x:Int):dI w0 g c {s with aw:=x} ls (w.setCell ⟨g,41,none⟩ (.int .i64 x)):=h.put 41 _ _ (by simp[ot]) rfl
theorem grow{v':Value}{ls':List cH}{n:Nat}(h:dI w0 g c s ls w)(z:Own fV 3 30 w' w0.heap.size v' ls')(j:w.grownBy w' s.lv.ownBlock)(r:v'.ownBlock=s.lv.ownBlock\/v'.ownBlock=some (w.heap.size+n)):
  dI w0 g c {s with lv:=v'} ls' (w'.setCell ⟨g,32,none⟩ v')/\Mv g s.lv w v' (w'.setCell ⟨g,32,none⟩ v'):=by
 have u:v'.ownBlock≠some g:=by
  rcases r with e|e
  ·rw[e];exact h.far
  ·rw[e];intro y;injection y with y;have:=h.lt;omega
 have B:=h.blk.grown j (fun e=>h.far e.symm);have C:Below w0.heap.size w0 w':=kH h.bh j (fun q l=>(h.row q l).1);refine⟨⟨?_,h.hg,iL C h.hg 32 v',z.setCell (p:=⟨g,32,none⟩) (fun q l e=>u (by rw[l];exact congrArg some e)) v',u⟩,(Mv.app j r).trans (Mv.set 32 v')⟩;have:=B.eh 32 v'
 rwa [show(ot c s).setIfInBounds 32 v'=ot c {s with lv:=v'}by simp[ot]]at this
theorem anL(h:dI w0 g c s ls w)(b:eU):dI w0 g c {s with b:=b} ls (((((w.setCell ⟨g,27,none⟩ (.int .i64 b.g)).setCell ⟨g,28,none⟩ (.int .i64 b.c)).setCell ⟨g,29,none⟩ (.int .i64 b.t)).setCell ⟨g,30,none⟩ (.int .i64 b.i)).setCell ⟨g,31,none⟩ (.int .i64 b.a)):=by have e:=h.put 27 (.int .i64 b.g) {s with b:={s.b with g:=b.g}} (by simp[ot]) rfl;have j:=e.put 28 (.int .i64 b.c) {s with b:={s.b with g:=b.g,c:=b.c}} (by simp[ot]) rfl;have l:=j.put 29 (.int .i64 b.t) {s with b:={s.b with g:=b.g,c:=b.c,t:=b.t}} (by simp[ot]) rfl;have n:=l.put 30 (.int .i64 b.i) {s with b:={s.b with g:=b.g,c:=b.c,t:=b.t,i:=b.i}} (by simp[ot]) rfl;exact n.put 31 (.int .i64 b.a) {s with b:=b} (by simp[ot]) rfl
theorem mvB(b:eU)(v:Value):Mv g v w v (((((w.setCell ⟨g,27,none⟩ (.int .i64 b.g)).setCell ⟨g,28,none⟩ (.int .i64 b.c)).setCell ⟨g,29,none⟩ (.int .i64 b.t)).setCell ⟨g,30,none⟩ (.int .i64 b.i)).setCell ⟨g,31,none⟩ (.int .i64 b.a)):=
 ((((Mv.set 27 _).trans (Mv.set 28 _)).trans (Mv.set 29 _)).trans (Mv.set 30 _)).trans (Mv.set 31 _)
theorem year(h:dI w0 g c s ls w)(e:c.y.In w0):c.y.In w:=e.aa h.bh
end dI
theorem Va{P:Program}{id:Nat}{Q:Exit->Act->World->Prop}{a aE:Act}{W:World}{L:List Oper}{z:Type}(j l:List Nat)(n:Nat){r:Oper}(f:FuncId)(args:Array Value)(mk:z->Value)(N:z->Act)(R:z->World->Prop)
  (Y:P.follows .mixedOrders=true) (O:Region.noSelect L.toArray=true) (Z:1+l.length+j.length=L.length)
  (hi:j.all (fun i=>decide (i<L.toArray.size))=true) (hB:M3.CD .any L.toArray j (Array.replicate L.length false)=true) (hd:M3.kq a.tmps.size (M3.cL L.toArray j)=true)
  (hj:l.all (fun i=>decide (i<L.toArray.size))=true) (B:M3.CD .any L.toArray l ((M3.mq j (Array.replicate L.length false)).setIfInBounds n true)=true) (D:M3.kq a.tmps.size (M3.cL L.toArray l)=true)
  (r1:Region.ready .any L.toArray (M3.mq j (Array.replicate L.length false))=[n]) (r2:Region.ready .any L.toArray (M3.mq l ((M3.mq j (Array.replicate L.length false)).setIfInBounds n true))=[])
  (O0:L.toArray[n]?=some r) (E:r.guard=none)
  (H:∀F:World->Prop,gH F->Inhabited (aP (fun w'=>Below W.heap.size W w') F)->wpQuiet P L.toArray (fun w'=>∃p:aP (fun w'=>Below W.heap.size W w') F,w'=p.w') (fun a'=>a'=aE) (M3.cL L.toArray j) a)
  (G:aE.tmps.size=a.tmps.size)
  (u:∀w,(execOp aE.eval r).run P w=.ok (.enter f args) w)
  (hR:∀x,gH (R x))
  (HC:∀w',Below W.heap.size W w'->Calls P f args w' fun e w''=>∃x,e=.returned (mk x)/\Below w'.heap.size w' w''/\R x w'')
  (J:∀x,∀F:World->Prop,gH F->Inhabited (aP (fun w'=>Below W.heap.size W w') F)->wpQuiet P L.toArray (fun w'=>∃p:aP (fun w'=>Below W.heap.size W w') F,w'=p.w') (fun a'=>a'=N x) (M3.cL L.toArray l) (aE.put r.dst (mk x)))
  (M:∀x w',Below W.heap.size W w'->R x w'->Q .normal (N x) w'):(Code.region id L.toArray true).wp P Q a W:=by
 refine M3.iN (C:=fun w'=>Below W.heap.size W w') (jk _ _ (atN _)) (atS _ _) j (1+l.length) Y O Z hi hB hd H ?_;intro Q0 bS;rw[Nat.add_comm 1];refine M3.bQ [n] r1 (by simp) ?_;intro S T _ i y;rw[auB]at y;subst y;refine M3.iY f args O0 (by simp[Region.wanted,E]) (u S) ((HC S T).mono ?_);rintro e U ⟨x,rfl,I,hx⟩;have V:Below W.heap.size W U:=aA T I;refine⟨mk x,rfl,V,?_⟩;have X:=M3.NN (Q:=Q0) (md:=.any) (C:=fun w'=>Below W.heap.size W w') (m:=0) (w:=U) O l _ (aE.put r.dst (mk x)) hj B (M3.IJ (jk _ _ (atN _)) V _ _ (by rw[M3.OC,G];exact D) (J x)) ?_
 ·rw[atX]at X;exact X
 ·refine M3.kI r2 ?_;intro w3 bW K;exact bS _ _ (M x w3 bW (hR x _ _ hx K))
theorem anM{P:Program}{id:Nat}{Q:Exit->Act->World->Prop}{a aE:Act}{W:World}{L:List Oper}{y:Type}(e j:List Nat)(l:Nat){n:Oper}(mk:y->Value)(N:y->Act)(R:y->World->Prop)
  (V:P.follows .mixedOrders=true) (O:Region.noSelect L.toArray=true) (X:1+j.length+e.length=L.length)
  (hi:e.all (fun i=>decide (i<L.toArray.size))=true) (Y:M3.CD .any L.toArray e (Array.replicate L.length false)=true) (hd:M3.kq a.tmps.size (M3.cL L.toArray e)=true)
  (Z:j.all (fun i=>decide (i<L.toArray.size))=true) (z:M3.CD .any L.toArray j ((M3.mq e (Array.replicate L.length false)).setIfInBounds l true)=true) (B:M3.kq a.tmps.size (M3.cL L.toArray j)=true)
  (r1:Region.ready .any L.toArray (M3.mq e (Array.replicate L.length false))=[l]) (r2:Region.ready .any L.toArray (M3.mq j ((M3.mq e (Array.replicate L.length false)).setIfInBounds l true))=[])
  (O0:L.toArray[l]?=some n) (D:n.guard=none)
  (H:∀F:World->Prop,gH F->Inhabited (aP (fun w'=>Below W.heap.size W w') F)->wpQuiet P L.toArray (fun w'=>∃p:aP (fun w'=>Below W.heap.size W w') F,w'=p.w') (fun a'=>a'=aE) (M3.cL L.toArray e) a)
  (E:aE.tmps.size=a.tmps.size)
  (hR:∀x,gH (R x))
  (HC:∀w',Below W.heap.size W w'->∃x w'',(execOp aE.eval n).run P w'=.ok (.value (mk x)) w''/\Below w'.heap.size w' w''/\R x w'')
  (J:∀x,∀F:World->Prop,gH F->Inhabited (aP (fun w'=>Below W.heap.size W w') F)->wpQuiet P L.toArray (fun w'=>∃p:aP (fun w'=>Below W.heap.size W w') F,w'=p.w') (fun a'=>a'=N x) (M3.cL L.toArray j) (aE.put n.dst (mk x)))
  (M:∀x w',Below W.heap.size W w'->R x w'->Q .normal (N x) w'):(Code.region id L.toArray true).wp P Q a W:=by
 refine M3.iN (C:=fun w'=>Below W.heap.size W w') (jk _ _ (atN _)) (atS _ _) e (1+j.length) V O X hi Y hd H ?_;intro Q0 bS;rw[Nat.add_comm 1];refine M3.bQ [l] r1 (by simp) ?_;intro w1 S _ i r;rw[auB]at r;subst r;obtain⟨x,G,u,I,hx⟩:=HC w1 S;have T:Below W.heap.size W G:=aA S I;refine M3.bH (mk x) G O0 (by simp[Region.wanted,D]) u ⟨T,?_⟩;have U:=M3.NN (Q:=Q0) (md:=.any) (C:=fun w'=>Below W.heap.size W w') (m:=0) (w:=G) O j _ (aE.put n.dst (mk x)) Z z (M3.IJ (jk _ _ (atN _)) T _ _ (by rw[M3.OC,E];exact B) (J x)) ?_
 ·rw[atX]at U;exact U
 ·refine M3.kI r2 ?_;intro w3 bW K;exact bS _ _ (M x w3 bW (hR x _ _ hx K))
def Me(w0:World)(j:Int)(K:World->Prop)(e:Ending)(w':World):Prop:=e=.returned (.int .i64 j)/\Below w0.heap.size w0 w'/\(j=0->K w')
theorem OL{P:Program}{α:Type}{enc:α->List Value}{k:Nat}{e:TypeId}{W:World}{base:Nat}{v:Value}{xs:List α}
  {l:Array Oper} {rest:List Oper} {o:Oper} {a:Act} {Q:Exit->Act->World->Prop} {I:Array Value} {H:Nat} (s x:Operand) (t:TypeId) (y:α) (c bytes:Nat) (z:Value)
  (L:(P.info? e).map (fun i=>(i.zero,i.size,i.bytes))=some (some z,k,bytes)) (M:P.underlying t=some (.slice e))
  (n:Own enc k e W base v xs) (N:∀x,(enc x).length=k) (O:0<k) (r:z.cells.size=k) (R:∀u∈enc y,u.oneCell'=true)
  (J:xs.length<4294967296) (B:bytes<=1024) (C:base<=W.heap.size)
  (D:o.guard=none) (S:o.op=.call {callee:=.builtin .append,args:=#[s,x],argTypes:=#[t,t]})
  (T:a.eval s=v) (U:a.eval x=.slice (some ⟨H,0,none⟩) 1 c) (V:W.heap.size=H) (E:I=(enc y).toArray)
  (h:∀v' w',Own enc k e w' base v' (xs++[y])->W.grownBy w' v.ownBlock->(v'.ownBlock=v.ownBlock\/v'.ownBlock=some (W.heap.size+1))->wpList P l Q rest (a.put o.dst v') w'):
  wpList P l Q (o::rest) a (W.alloc (.cells I e)):=by
 subst E;subst V;obtain⟨i,hi,X,F,Y⟩:=info_parts L;refine wpList_append_own_at _ D s x t S base e i z k bytes M hi X F Y r O v xs.length (xs.flatMap enc) T (n.alloc _) ⟨W.heap.size,0,none⟩ 1 c (enc y) U (by rw[N];omega) ?_ R
  (by unfold maxLen;omega) ?_ (by simp;omega) ?_
 ·intro j u Z;have qC:(⟨W.heap.size,0,none⟩:Addr).add j=⟨W.heap.size,j,none⟩:=by unfold Addr.add;split<;>simp_all
  rw[qC,World.cell?_alloc_at _ _ _ _ rfl];simpa using Z
 ·have:(xs.length+1)*bytes<=4294967296*1024:=Nat.mul_le_mul (by omega) B;omega
 ·intro v' w' h2 p _ K;refine h v' w' ?_ ?_ (by rw[at2]at K;exact K)
  ·unfold Own;rw[at3,avt];simpa using h2
  ·exact⟨p.os,p.tape,p.output,at7 (by simp) p.size,fun i hi G=>(p.block i (by simp;omega) G).trans (Below.heap_alloc W _ i hi)⟩
theorem ah.rangeAt{w:World}{g:Nat}{t:TypeId}{cs:Array Value}(h:ah w g t cs):w.rangeAt g 0 cs.toList:=fun j v e=>by rw[atX,h.cell];simpa using e
theorem ah.there{w:World}{g:Nat}{t:TypeId}{cs:Array Value}(h:ah w g t cs):w.there g 0 cs.size:=fun j e=>by rw[atX];exact⟨by rw[h.cell,au8 e];rfl,h.frozen j⟩
theorem RJ(g:Nat):∀(e:List Value) (o:Nat) (w:World),w.grownBy (w.setCells g o e) (some g)
 |[],_,w=>dX _ _
 |v::r,o,w=>by rw[World.setCells];exact bL (bg (p:=⟨g,o,none⟩) (dX _ _) (.inl rfl) v) (RJ g r (o+1) _)
theorem agx{g:Nat}{t:TypeId}:∀(l:List Value) (o:Nat) {w:World} {j:Array Value},ah w g t j->∃e:Array Value,e.size=j.size/\ah (w.setCells g o l) g t e
 |[],_,_,j,h=>⟨j,rfl,h⟩
 |v::r,o,_,j,h=>by obtain⟨e,n,p⟩:=agx r (o+1) (h.eh o v);exact⟨e,by simpa using n,by rw[World.setCells];exact p⟩
theorem ah.kt{w:World}{g:Nat}{t:TypeId}{cs vs:Array Value}(h:ah w g t cs)(p:vs.size=cs.size):ah (w.setCells g 0 vs.toList) g t vs:=by
 obtain⟨j,u,l⟩:=agx vs.toList 0 h;have r:=World.rangeAt_setCells_same w g 0 vs.toList (by have:=h.there;rw[<-p]at this;simpa using this);have e:j=vs:=by
  apply Array.ext_getElem?;intro i;rcases at6 i vs.size with hi|hi
  ·have n:=r i vs[i] (by simp[hi]);rw[atX,l.cell]at n;rw[n,au8 hi]
  ·rw[avf hi,avf (by omega)]
 rw[e]at l;exact l
section
variable {P:Program}
theorem RI{e:Array Oper}{rest:List Oper}{op:Oper}{a:Act}{w:World}{Q:Exit->Act->World->Prop}(j:op.guard=none)(l:TypeId)(x y:Operand)(u:op.op=.store l x y)(n:op.dst=none)
  (g:Nat) {t:TypeId} {cs vs:Array Value} (z:a.eval x=.pointer (some ⟨g,0,none⟩)) (hy:a.eval y=.agg vs) (p:ah w g t cs) (r:vs.size=cs.size)
  (hi:(P.info? l).map (·.size)=some vs.size) (B:vs.toList.all (·.oneCell')=true)
  (h:∀w',ah w' g t vs->w.grownBy w' (some g)->wpList P e Q rest a w'):wpList P e Q (op::rest) a w:=
 wpList_store_mid j l x y u g 0 vs z hy (by have:=p.there;rwa [<-r]at this) hi (by simpa using B) (by rw[n];exact h _ (p.kt r) (RJ _ _ _ _))
theorem agy{g:Nat}{t:TypeId}:∀(l:List Value) (o:Nat) {w:World} {j:Array Value},ah w g t j->o+l.length<=j.size->ah (w.setCells g o l) g t (j.toList.take o++l++j.toList.drop (o+l.length)).toArray
 |[],o,w,j,h,_=>by
  have:(j.toList.take o++[]++j.toList.drop (o+([]:List Value).length)).toArray=j:=by simp
  rw[this];exact h
 |v::r,o,w,j,h,p=>by
  have n:o<j.size:=by simp at p;omega
  have u:=agy r (o+1) (h.eh o v) (by simp at p|-;omega);rw[World.setCells];have e:(j.setIfInBounds o v).toList.take (o+1)++r++(j.setIfInBounds o v).toList.drop (o+1+r.length)=j.toList.take o++(v::r)++j.toList.drop (o+(v::r).length):=by rw[Array.toList_setIfInBounds];have y:o<(j.toList.set o v).length:=(by simpa using n);rw[aud y,List.getElem_set_self,List.take_set_of_le (atN _),List.drop_set_of_lt (by omega),at4];simp[au6,Nat.add_comm 1]
  rw[e]at u;exact u
theorem afF{l:Array Oper}{rest:List Oper}{op:Oper}{a:Act}{w:World}{Q:Exit->Act->World->Prop}(r:op.guard=none)(u:TypeId)(x y:Operand)(D:op.op=.store u x y)(z:op.dst=none)
  (g o:Nat) {t:TypeId} {p e:Array Value} (n:Array Value) (E:a.eval x=.pointer (some ⟨g,o,none⟩)) (hy:a.eval y=.agg e) (B:ah w g t p) (F:o+e.size<=p.size)
  (hi:(P.info? u).map (·.size)=some e.size) (G:e.toList.all (·.oneCell')=true) (C:(p.toList.take o++e.toList++p.toList.drop (o+e.toList.length)).toArray=n)
  (h:∀w',ah w' g t n->w.grownBy w' (some g)->wpList P l Q rest a w'):wpList P l Q (op::rest) a w:=by
 subst C;exact wpList_store_mid r u x y D g o e E hy (fun j I=>⟨by rw[B.cell,au8 (by omega)];rfl,B.frozen _⟩) hi (by simpa using G) (by rw[z];exact h _ (agy e.toList o B (by simpa using F)) (RJ _ _ _ _))
theorem Tc{e:Array Oper}{rest:List Oper}{op:Oper}{a:Act}{w:World}{Q:Exit->Act->World->Prop}(l:op.guard=none)(j:TypeId)(x:Operand)(n:op.op=.load j x)
  (g:Nat) {t:TypeId} {cs:Array Value} {d:TypeDesc} (p:a.eval x=.pointer (some ⟨g,0,none⟩)) (r:ah w g t cs)
  (hu:P.underlying j=some d) (hd:d.isRow=true) (hi:(P.info? j).map (·.size)=some cs.size)
  (h:wpList P e Q rest (a.put op.dst (.agg cs)) w):wpList P e Q (op::rest) a w:=
 wpList_load_mid l j x n g 0 p cs.toList d r.rangeAt hu hd (by simpa using hi) (by simpa using h)
theorem Vv{n:Func}{e:Array Value}{w:World}{s:Tmp}{j t:TypeId}{g:Nat}{cs:Array Value}{d:TypeDesc}(p:n.results=#[.cell s j])(r:e.getD s undef=.pointer (some ⟨g,0,none⟩))(u:ah w g t cs)
  (hu:P.underlying j=some d) (hd:d.isRow=true) (hi:(P.info? j).map (·.size)=some cs.size):(results n e).run P w=.ok (.agg cs) w:=by
 have h:=run_loadVar_mid w g 0 j cs.toList d u.rangeAt hu hd (by simpa using hi);have l:e[s]?.getD undef=.pointer (some ⟨g,0,none⟩):=by simpa using r
 rw[Array.toArray_toList]at h;simp[results,p,l,asAddr,h]
end
