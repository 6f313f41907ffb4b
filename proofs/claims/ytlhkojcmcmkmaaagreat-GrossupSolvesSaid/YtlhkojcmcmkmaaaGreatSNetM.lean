/- Conditions: as stated. -/
import Derived.Deep.MidRow
import Derived.Test.YtlhkojcmcmkmaaaGreatSMix4
namespace Go.Proofs.YtlhkojcmcmkmaaaGreat
open Go.Proofs.Tryz
open Go.RowKit
structure mR where
 r:cY
 p:jw
 y:dD
 K:Option Addr
 kc:Nat
 kept:List Elem
 first:Bool
structure jD where
 b:fF
 lv:Value
 left:Int
 bv:Value
 av:Value
 tv:Value
 aM:Int
 bj:Int
 pS:Int
 ax:Int
 aw:Int
def nS(c:mR)(s:jD):Array Value:=#[.slice c.r.Aw c.r.ws.length c.r.cw,.slice c.r.As c.r.ss.length c.r.cs,.int .i64 c.r.tm.t.method,.slice c.r.tm.Ab c.r.tm.t.au.length c.r.tm.cb,.int .i64 c.r.tm.t.aZ,.int .i64 c.r.tm.t.bf,.int .i64 c.r.tm.t.unit,.int .i64 c.r.tm.t.mode,.slice c.r.tm.Ar c.r.tm.t.rows.length c.r.tm.cr,.int .i64 c.r.count,.int .i64 c.r.sh.fixed,.int .i64 c.r.sh.bn,.int .i64 c.r.sh.lower,.int .i64 c.r.sh.share,.int .i64 c.r.sh.top,.int .i64 c.r.recover,.int .i64 c.p.deps,.slice c.p.Ad c.p.ds.length c.p.cd,.slice c.p.Ao c.p.os.length c.p.co,.slice c.p.Ae c.p.es.length c.p.ce,.int .i64 c.y.az,.int .i64 c.y.ax,.int .i64 c.y.aN,.slice c.y.Ai c.y.ins.length c.y.ci,.slice c.y.At c.y.taken.length c.y.ct,.slice c.K c.kept.length c.kc,.bool c.first,.int .i64 s.b.g,.int .i64 s.b.c,.int .i64 s.b.t,.int .i64 s.b.i,.int .i64 s.b.a,s.lv,.int .i64 s.left,s.bv,s.av,s.tv,.int .i64 s.aM,.int .i64 s.bj,.int .i64 s.pS,.int .i64 s.ax,.int .i64 s.aw]
structure Mv(g:Nat)(v:Value)(w:World)(v':Value)(w':World):Prop where
 os:w'.os=w.os
 tape:w'.tape=w.tape
 output:w'.output=w.output
 size:w.heap.size<=w'.heap.size
 block:∀k,k<w.heap.size->k≠g->v.ownBlock≠some k->w'.heap[k]?=w.heap[k]?
 nx:v'.ownBlock=v.ownBlock\/∀q,v'.ownBlock=some q->w.heap.size<=q
section
variable {g:Nat}{v v' v'':Value}{w w' w'':World}
theorem Mv.refl(g:Nat)(v:Value)(w:World):Mv g v w v w:=⟨rfl,rfl,rfl,arI _,fun _ _ _ _=>rfl,.inl rfl⟩
theorem Mv.aW(e:Below w.heap.size w w'):Mv g v w v w':=⟨e.os,e.tape,e.output,e.size,fun k j _ _=>e.block k j,.inl rfl⟩
theorem Mv.trans(h:Mv g v w v' w')(k:Mv g v' w' v'' w''):Mv g v w v'' w'':=by
 refine⟨k.os.trans h.os,k.tape.trans h.tape,k.output.trans h.output,ar0 h.size k.size,fun i hi l n=>?_,?_⟩
 ·refine(k.block i (asy hi h.size) l (fun e=>?_)).trans (h.block i hi l n);rcases h.nx with e2|e2
  ·exact n (e2.symm.trans e)
  ·have:=e2 _ e;omega
 ·rcases k.nx with e|e
  ·rcases h.nx with e2|e2
   ·exact .inl (e.trans e2)
   ·exact .inr fun q j=>e2 q (e.symm.trans j)
  ·exact .inr fun q j=>ar0 h.size (e q j)
theorem Mv.set(i:Nat)(u:Value):Mv g v w v (w.setCell ⟨g,i,none⟩ u):=
 ⟨rfl,rfl,rfl,by simp[World.setCell],fun k _ e _=>Below.heap_setCell w ⟨g,i,none⟩ u k e,.inl rfl⟩
theorem Mv.app{n:Nat}(j:w.grownBy w' v.ownBlock)(p:v'.ownBlock=v.ownBlock\/v'.ownBlock=some (w.heap.size+n)):Mv g v w v' w':=
 ⟨j.os,j.tape,j.output,j.size,fun k r _ u=>j.block k r (fun e=>u e.symm),by
  rcases p with e|e
  ·exact .inl e
  ·exact .inr fun q l=>by rw[e]at l;injection l;omega⟩
theorem Mv.far{b:Nat}(m:Mv g v w v' w')(n:b<w.heap.size)(j:v.ownBlock≠some b):v'.ownBlock≠some b:=by
 rcases m.nx with e|e
 ·rw[e];exact j
 ·intro l;have:=e _ l;omega
theorem ah.mv{b:Nat}{t:TypeId}{cs:Array Value}(h:ah w b t cs)(m:Mv g v w v' w')(e:b≠g)(j:v.ownBlock≠some b):ah w' b t cs:=(m.block b h.lt e j).trans h
end
structure nw{α:Type}(enc:α->List Value)(k:Nat)(w:World)(g:Nat)(v:Value)(A:Option Addr)(xs:List α):Prop where
 sl:aj enc k w w.heap.size A xs
 ne:xs≠[]->∀a,A=some a->a.block≠g/\v.ownBlock≠some a.block
section
variable {α:Type}{enc:α->List Value}{k g:Nat}{v v':Value}{w w':World}{A:Option Addr}{xs:List α}
theorem nw.mv(h:nw enc k w g v A xs)(m:Mv g v w v' w'):nw enc k w' g v' A xs:=by
 refine⟨fun l=>?_,fun l a B=>?_⟩
 ·obtain⟨b,n,e,r,C⟩:=h.sl l;obtain⟨y,z⟩:=h.ne l _ e;exact⟨b,n,e,asy r m.size,fun i x hi j u D=>(asT (m.block b r y z)).trans (C i x hi j u D)⟩
 ·obtain⟨y,z⟩:=h.ne l a B;refine⟨y,fun e=>?_⟩;rcases m.nx with e2|e2
  ·exact z (e2.symm.trans e)
  ·obtain⟨b,n,p,r,_⟩:=h.sl l;rw[B]at p;injection p with p
   subst p;exact absurd (show w.heap.size<=b from e2 _ e) (by omega)
theorem nw.new(h:aj enc k w' w'.heap.size A xs)(j:∀a,A=some a->w.heap.size<=a.block)(p:g<w.heap.size)(n:∀q,v.ownBlock=some q->q<w.heap.size):nw enc k w' g v A xs:=
 ⟨h,fun _ a l=>⟨by have:=j a l;omega,fun e=>by have:=j a l;have:=n _ e;omega⟩⟩
theorem nw.old{B:Nat}(h:aj enc k w B A xs)(l:B<=w.heap.size)(y:B<=g)(n:∀q,v.ownBlock=some q->B<=q):nw enc k w g v A xs:=by
 refine⟨h.more l,fun p a r=>?_⟩;obtain⟨b,u,j,z,_⟩:=h p;rw[r]at j;injection j with j
 subst j;exact⟨by show b≠g;omega,fun e=>by have:=n b e;omega⟩
end
structure dI(w0:World)(g:Nat)(c:mR)(s:jD)(ls:List dH)(w:World):Prop where
 blk:ah w g 103 (nS c s)
 hg:w0.heap.size<=g
 aW:Below w0.heap.size w0 w
 own:Own iZ 3 30 w w0.heap.size s.lv ls
 far:s.lv.ownBlock≠some g
namespace dI
variable {w0:World}{g:Nat}{c:mR}{s:jD}{ls:List dH}{w w':World}
theorem lt(h:dI w0 g c s ls w):g<w.heap.size:=h.blk.lt
theorem row(h:dI w0 g c s ls w):∀q,s.lv.ownBlock=some q->w0.heap.size<=q/\q<w.heap.size:=fun _ e=>h.own.cm e
theorem aa(h:dI w0 g c s ls w)(e:Below w.heap.size w w'):dI w0 g c s ls w':=⟨h.blk.aa e,h.hg,aB h.aW e,h.own.aa e,h.far⟩
theorem put(h:dI w0 g c s ls w)(i:Nat)(u:Value)(j:jD)(n:(nS c s).setIfInBounds i u=nS c j)(l:j.lv=s.lv):dI w0 g c j ls (w.setCell ⟨g,i,none⟩ u):=
 ⟨n▸h.blk.eu i u,h.hg,iX h.aW h.hg i u,by rw[l];exact h.own.setCell (p:=⟨g,i,none⟩) (fun q r e=>h.far (by rw[r];exact congrArg some e)) u,by rw[l];exact h.far⟩
theorem UB(h:dI w0 g c s ls w)(x:Int):dI w0 g c {s with left:=x} ls (w.setCell ⟨g,33,none⟩ (.int .i64 x)):=h.put 33 _ _ (by simp[nS]) rfl
theorem ahQ(h:dI w0 g c s ls w)(x:Value):dI w0 g c {s with bv:=x} ls (w.setCell ⟨g,34,none⟩ x):=h.put 34 _ _ (by simp[nS]) rfl
theorem ahT(h:dI w0 g c s ls w)(x:Value):dI w0 g c {s with av:=x} ls (w.setCell ⟨g,35,none⟩ x):=h.put 35 _ _ (by simp[nS]) rfl
theorem ab2(h:dI w0 g c s ls w)(x:Value):dI w0 g c {s with tv:=x} ls (w.setCell ⟨g,36,none⟩ x):=h.put 36 _ _ (by simp[nS]) rfl
theorem amK(h:dI w0 g c s ls w)(x:Int):dI w0 g c {s with aM:=x} ls (w.setCell ⟨g,37,none⟩ (.int .i64 x)):=h.put 37 _ _ (by simp[nS]) rfl
theorem amL(h:dI w0 g c s ls w)(x:Int):dI w0 g c {s with bj:=x} ls (w.setCell ⟨g,38,none⟩ (.int .i64 x)):=h.put 38 _ _ (by simp[nS]) rfl
theorem amM(h:dI w0 g c s ls w)(x:Int):dI w0 g c {s with pS:=x} ls (w.setCell ⟨g,39,none⟩ (.int .i64 x)):=h.put 39 _ _ (by simp[nS]) rfl
theorem amN(h:dI w0 g c s ls w)(x:Int):dI w0 g c {s with ax:=x} ls (w.setCell ⟨g,40,none⟩ (.int .i64 x)):=h.put 40 _ _ (by simp[nS]) rfl
theorem amO(h:dI w0 g c s ls w)(x:Int):dI w0 g c {s with aw:=x} ls (w.setCell ⟨g,41,none⟩ (.int .i64 x)):=h.put 41 _ _ (by simp[nS]) rfl
theorem grow{v':Value}{ls':List dH}{n:Nat}(h:dI w0 g c s ls w)(z:Own iZ 3 30 w' w0.heap.size v' ls')(j:w.grownBy w' s.lv.ownBlock)(r:v'.ownBlock=s.lv.ownBlock\/v'.ownBlock=some (w.heap.size+n)):
  dI w0 g c {s with lv:=v'} ls' (w'.setCell ⟨g,32,none⟩ v')/\Mv g s.lv w v' (w'.setCell ⟨g,32,none⟩ v'):=by
 have u:v'.ownBlock≠some g:=by
  rcases r with e|e
  ·rw[e];exact h.far
  ·rw[e];intro y;injection y with y;have:=h.lt;omega
 have B:=h.blk.grown j (fun e=>h.far e.symm);have C:Below w0.heap.size w0 w':=kN h.aW j (fun q l=>(h.row q l).1);refine⟨⟨?_,h.hg,iX C h.hg 32 v',z.setCell (p:=⟨g,32,none⟩) (fun q l e=>u (by rw[l];exact congrArg some e)) v',u⟩,(Mv.app j r).trans (Mv.set 32 v')⟩;have:=B.eu 32 v'
 rwa [show(nS c s).setIfInBounds 32 v'=nS c {s with lv:=v'}by simp[nS]]at this
theorem amA(h:dI w0 g c s ls w)(b:fF):dI w0 g c {s with b:=b} ls (((((w.setCell ⟨g,27,none⟩ (.int .i64 b.g)).setCell ⟨g,28,none⟩ (.int .i64 b.c)).setCell ⟨g,29,none⟩ (.int .i64 b.t)).setCell ⟨g,30,none⟩ (.int .i64 b.i)).setCell ⟨g,31,none⟩ (.int .i64 b.a)):=by have e:=h.put 27 (.int .i64 b.g) {s with b:={s.b with g:=b.g}} (by simp[nS]) rfl;have j:=e.put 28 (.int .i64 b.c) {s with b:={s.b with g:=b.g,c:=b.c}} (by simp[nS]) rfl;have l:=j.put 29 (.int .i64 b.t) {s with b:={s.b with g:=b.g,c:=b.c,t:=b.t}} (by simp[nS]) rfl;have n:=l.put 30 (.int .i64 b.i) {s with b:={s.b with g:=b.g,c:=b.c,t:=b.t,i:=b.i}} (by simp[nS]) rfl;exact n.put 31 (.int .i64 b.a) {s with b:=b} (by simp[nS]) rfl
theorem mvB(b:fF)(v:Value):Mv g v w v (((((w.setCell ⟨g,27,none⟩ (.int .i64 b.g)).setCell ⟨g,28,none⟩ (.int .i64 b.c)).setCell ⟨g,29,none⟩ (.int .i64 b.t)).setCell ⟨g,30,none⟩ (.int .i64 b.i)).setCell ⟨g,31,none⟩ (.int .i64 b.a)):=
 ((((Mv.set 27 _).trans (Mv.set 28 _)).trans (Mv.set 29 _)).trans (Mv.set 30 _)).trans (Mv.set 31 _)
theorem year(h:dI w0 g c s ls w)(e:c.y.In w0):c.y.In w:=e.aa h.aW
end dI
theorem NP{P:Program}{id:Nat}{Q:Exit->Act->World->Prop}{a aE:Act}{W:World}{L:List Oper}{z:Type}(j l:List Nat)(n:Nat){r:Oper}(f:FuncId)(args:Array Value)(mk:z->Value)(N:z->Act)(R:z->World->Prop)
  (Y:P.follows .mixedOrders=true) (O:Region.noSelect L.toArray=true) (Z:1+l.length+j.length=L.length)
  (hi:j.all (fun i=>decide (i<L.toArray.size))=true) (hB:M3.Cz .any L.toArray j (Array.replicate L.length false)=true) (hd:M3.kj a.tmps.size (M3.cD L.toArray j)=true)
  (hj:l.all (fun i=>decide (i<L.toArray.size))=true) (B:M3.Cz .any L.toArray l ((M3.lX j (Array.replicate L.length false)).setIfInBounds n true)=true) (D:M3.kj a.tmps.size (M3.cD L.toArray l)=true)
  (r1:Region.ready .any L.toArray (M3.lX j (Array.replicate L.length false))=[n]) (r2:Region.ready .any L.toArray (M3.lX l ((M3.lX j (Array.replicate L.length false)).setIfInBounds n true))=[])
  (Ot:L.toArray[n]?=some r) (E:r.guard=none)
  (H:∀F:World->Prop,gu F->Inhabited (aP (fun w'=>Below W.heap.size W w') F)->wpQuiet P L.toArray (fun w'=>∃p:aP (fun w'=>Below W.heap.size W w') F,w'=p.w') (fun a'=>a'=aE) (M3.cD L.toArray j) a)
  (G:aE.tmps.size=a.tmps.size)
  (u:∀w,(execOp aE.eval r).run P w=.ok (.enter f args) w)
  (hR:∀x,gu (R x))
  (HC:∀w',Below W.heap.size W w'->Calls P f args w' fun e w''=>∃x,e=.returned (mk x)/\Below w'.heap.size w' w''/\R x w'')
  (J:∀x,∀F:World->Prop,gu F->Inhabited (aP (fun w'=>Below W.heap.size W w') F)->wpQuiet P L.toArray (fun w'=>∃p:aP (fun w'=>Below W.heap.size W w') F,w'=p.w') (fun a'=>a'=N x) (M3.cD L.toArray l) (aE.put r.dst (mk x)))
  (M:∀x w',Below W.heap.size W w'->R x w'->Q .normal (N x) w'):(Code.region id L.toArray true).wp P Q a W:=by
 refine M3.iq (C:=fun w'=>Below W.heap.size W w') (iM _ _ (arI _)) (arM _ _) j (1+l.length) Y O Z hi hB hd H ?_;intro Q0 bO;rw[Nat.add_comm 1];refine M3.bG [n] r1 (by simp) ?_;intro S T _ i y;rw[asv]at y;subst y;refine M3.iw f args Ot (by simp[Region.wanted,E]) (u S) ((HC S T).mono ?_);rintro e U ⟨x,rfl,I,hx⟩;have V:Below W.heap.size W U:=aB T I;refine⟨mk x,rfl,V,?_⟩;have X:=M3.Lm (Q:=Q0) (md:=.any) (C:=fun w'=>Below W.heap.size W w') (m:=0) (w:=U) O l _ (aE.put r.dst (mk x)) hj B (M3.GL (iM _ _ (arI _)) V _ _ (by rw[M3.NY,G];exact D) (J x)) ?_
 ·rw[arT]at X;exact X
 ·refine M3.jZ r2 ?_;intro w3 bU K;exact bO _ _ (M x w3 bU (hR x _ _ hx K))
theorem amP{P:Program}{id:Nat}{Q:Exit->Act->World->Prop}{a aE:Act}{W:World}{L:List Oper}{y:Type}(e j:List Nat)(l:Nat){n:Oper}(mk:y->Value)(N:y->Act)(R:y->World->Prop)
  (V:P.follows .mixedOrders=true) (O:Region.noSelect L.toArray=true) (X:1+j.length+e.length=L.length)
  (hi:e.all (fun i=>decide (i<L.toArray.size))=true) (Y:M3.Cz .any L.toArray e (Array.replicate L.length false)=true) (hd:M3.kj a.tmps.size (M3.cD L.toArray e)=true)
  (Z:j.all (fun i=>decide (i<L.toArray.size))=true) (z:M3.Cz .any L.toArray j ((M3.lX e (Array.replicate L.length false)).setIfInBounds l true)=true) (B:M3.kj a.tmps.size (M3.cD L.toArray j)=true)
  (r1:Region.ready .any L.toArray (M3.lX e (Array.replicate L.length false))=[l]) (r2:Region.ready .any L.toArray (M3.lX j ((M3.lX e (Array.replicate L.length false)).setIfInBounds l true))=[])
  (Ot:L.toArray[l]?=some n) (D:n.guard=none)
  (H:∀F:World->Prop,gu F->Inhabited (aP (fun w'=>Below W.heap.size W w') F)->wpQuiet P L.toArray (fun w'=>∃p:aP (fun w'=>Below W.heap.size W w') F,w'=p.w') (fun a'=>a'=aE) (M3.cD L.toArray e) a)
  (E:aE.tmps.size=a.tmps.size)
  (hR:∀x,gu (R x))
  (HC:∀w',Below W.heap.size W w'->∃x w'',(execOp aE.eval n).run P w'=.ok (.value (mk x)) w''/\Below w'.heap.size w' w''/\R x w'')
  (J:∀x,∀F:World->Prop,gu F->Inhabited (aP (fun w'=>Below W.heap.size W w') F)->wpQuiet P L.toArray (fun w'=>∃p:aP (fun w'=>Below W.heap.size W w') F,w'=p.w') (fun a'=>a'=N x) (M3.cD L.toArray j) (aE.put n.dst (mk x)))
  (M:∀x w',Below W.heap.size W w'->R x w'->Q .normal (N x) w'):(Code.region id L.toArray true).wp P Q a W:=by
 refine M3.iq (C:=fun w'=>Below W.heap.size W w') (iM _ _ (arI _)) (arM _ _) e (1+j.length) V O X hi Y hd H ?_;intro Q0 bO;rw[Nat.add_comm 1];refine M3.bG [l] r1 (by simp) ?_;intro w1 S _ i r;rw[asv]at r;subst r;obtain⟨x,G,u,I,hx⟩:=HC w1 S;have T:Below W.heap.size W G:=aB S I;refine M3.bw (mk x) G Ot (by simp[Region.wanted,D]) u ⟨T,?_⟩;have U:=M3.Lm (Q:=Q0) (md:=.any) (C:=fun w'=>Below W.heap.size W w') (m:=0) (w:=G) O j _ (aE.put n.dst (mk x)) Z z (M3.GL (iM _ _ (arI _)) T _ _ (by rw[M3.NY,E];exact B) (J x)) ?_
 ·rw[arT]at U;exact U
 ·refine M3.jZ r2 ?_;intro w3 bU K;exact bO _ _ (M x w3 bU (hR x _ _ hx K))
def LL(w0:World)(j:Int)(K:World->Prop)(e:Ending)(w':World):Prop:=e=.returned (.int .i64 j)/\Below w0.heap.size w0 w'/\(j=0->K w')
theorem YC{P:Program}{α:Type}{enc:α->List Value}{k:Nat}{e:TypeId}{W:World}{base:Nat}{v:Value}{xs:List α}
  {l:Array Oper} {rest:List Oper} {o:Oper} {a:Act} {Q:Exit->Act->World->Prop} {I:Array Value} {H:Nat} (s x:Operand) (t:TypeId) (y:α) (c bytes:Nat) (z:Value)
  (L:(P.info? e).map (fun i=>(i.zero,i.size,i.bytes))=some (some z,k,bytes)) (M:P.underlying t=some (.slice e))
  (n:Own enc k e W base v xs) (N:∀x,(enc x).length=k) (O:0<k) (r:z.cells.size=k) (R:∀u∈enc y,u.oneCell'=true)
  (J:xs.length<4294967296) (B:bytes<=1024) (C:base<=W.heap.size)
  (D:o.guard=none) (S:o.op=.call {callee:=.builtin .append,args:=#[s,x],argTypes:=#[t,t]})
  (T:a.eval s=v) (U:a.eval x=.slice (some ⟨H,0,none⟩) 1 c) (V:W.heap.size=H) (E:I=(enc y).toArray)
  (h:∀v' w',Own enc k e w' base v' (xs++[y])->W.grownBy w' v.ownBlock->(v'.ownBlock=v.ownBlock\/v'.ownBlock=some (W.heap.size+1))->wpList P l Q rest (a.put o.dst v') w'):
  wpList P l Q (o::rest) a (W.alloc (.cells I e)):=by
 subst E;subst V;obtain⟨i,hi,X,F,Y⟩:=info_parts L;refine wpList_append_own_at _ D s x t S base e i z k bytes M hi X F Y r O v xs.length (xs.flatMap enc) T (n.alloc _) ⟨W.heap.size,0,none⟩ 1 c (enc y) U (by rw[N];omega) ?_ R
  (by unfold maxLen;omega) ?_ (by simp;omega) ?_
 ·intro j u Z;have qf:(⟨W.heap.size,0,none⟩:Addr).add j=⟨W.heap.size,j,none⟩:=by unfold Addr.add;split<;>simp_all
  rw[qf,World.cell?_alloc_at _ _ _ _ rfl];simpa using Z
 ·have:(xs.length+1)*bytes<=4294967296*1024:=Nat.mul_le_mul (by omega) B;omega
 ·intro v' w' h2 p _ K;refine h v' w' ?_ ?_ (by rw[arU]at K;exact K)
  ·unfold Own;rw[arV,ato];simpa using h2
  ·exact⟨p.os,p.tape,p.output,ar0 (by simp) p.size,fun i hi G=>(p.block i (by simp;omega) G).trans (Below.heap_alloc W _ i hi)⟩
theorem ah.rangeAt{w:World}{g:Nat}{t:TypeId}{cs:Array Value}(h:ah w g t cs):w.rangeAt g 0 cs.toList:=fun j v e=>by rw[arT,h.cell];simpa using e
theorem ah.there{w:World}{g:Nat}{t:TypeId}{cs:Array Value}(h:ah w g t cs):w.there g 0 cs.size:=fun j e=>by rw[arT];exact⟨by rw[h.cell,atl e];rfl,h.frozen j⟩
theorem N2(g:Nat):∀(vs:List Value) (o:Nat) (w:World),w.grownBy (w.setCells g o vs) (some g)
 |[],_,w=>fe _ _
 |v::r,o,w=>by rw[World.setCells];exact ck (bm (p:=⟨g,o,none⟩) (fe _ _) (.inl rfl) v) (N2 g r (o+1) _)
theorem afw{g:Nat}{t:TypeId}:∀(l:List Value) (o:Nat) {w:World} {j:Array Value},ah w g t j->∃e:Array Value,e.size=j.size/\ah (w.setCells g o l) g t e
 |[],_,_,j,h=>⟨j,rfl,h⟩
 |v::r,o,_,j,h=>by obtain⟨e,n,p⟩:=afw r (o+1) (h.eu o v);exact⟨e,by simpa using n,by rw[World.setCells];exact p⟩
theorem ah.Uz{w:World}{g:Nat}{t:TypeId}{cs vs:Array Value}(h:ah w g t cs)(p:vs.size=cs.size):ah (w.setCells g 0 vs.toList) g t vs:=by
 obtain⟨j,u,l⟩:=afw vs.toList 0 h;have r:=World.rangeAt_setCells_same w g 0 vs.toList (by have:=h.there;rw[<-p]at this;simpa using this);have e:j=vs:=by
  apply Array.ext_getElem?;intro i;rcases arY i vs.size with hi|hi
  ·have n:=r i vs[i] (by simp[hi]);rw[arT,l.cell]at n;rw[n,atl hi]
  ·rw[atp hi,atp (by omega)]
 rw[e]at l;exact l
section
variable {P:Program}
theorem RA{e:Array Oper}{rest:List Oper}{op:Oper}{a:Act}{w:World}{Q:Exit->Act->World->Prop}(j:op.guard=none)(l:TypeId)(x y:Operand)(u:op.op=.store l x y)(n:op.dst=none)
  (g:Nat) {t:TypeId} {cs vs:Array Value} (z:a.eval x=.pointer (some ⟨g,0,none⟩)) (hy:a.eval y=.agg vs) (p:ah w g t cs) (r:vs.size=cs.size)
  (hi:(P.info? l).map (·.size)=some vs.size) (B:vs.toList.all (·.oneCell')=true)
  (h:∀w',ah w' g t vs->w.grownBy w' (some g)->wpList P e Q rest a w'):wpList P e Q (op::rest) a w:=
 wpList_store_mid j l x y u g 0 vs z hy (by have:=p.there;rwa [<-r]at this) hi (by simpa using B) (by rw[n];exact h _ (p.Uz r) (N2 _ _ _ _))
theorem kJ{e:Array Oper}{rest:List Oper}{op:Oper}{a:Act}{w:World}{Q:Exit->Act->World->Prop}(l:op.guard=none)(j:TypeId)(x:Operand)(n:op.op=.load j x)
  (g:Nat) {t:TypeId} {cs:Array Value} {d:TypeDesc} (p:a.eval x=.pointer (some ⟨g,0,none⟩)) (r:ah w g t cs)
  (hu:P.underlying j=some d) (hd:d.isRow=true) (hi:(P.info? j).map (·.size)=some cs.size)
  (h:wpList P e Q rest (a.put op.dst (.agg cs)) w):wpList P e Q (op::rest) a w:=
 wpList_load_mid l j x n g 0 p cs.toList d r.rangeAt hu hd (by simpa using hi) (by simpa using h)
theorem RB{n:Func}{e:Array Value}{w:World}{s:Tmp}{j t:TypeId}{g:Nat}{cs:Array Value}{d:TypeDesc}(p:n.results=#[.cell s j])(r:e.getD s undef=.pointer (some ⟨g,0,none⟩))(u:ah w g t cs)
  (hu:P.underlying j=some d) (hd:d.isRow=true) (hi:(P.info? j).map (·.size)=some cs.size):(results n e).run P w=.ok (.agg cs) w:=by
 have h:=run_loadVar_mid w g 0 j cs.toList d u.rangeAt hu hd (by simpa using hi);have l:e[s]?.getD undef=.pointer (some ⟨g,0,none⟩):=by simpa using r
 rw[Array.toArray_toList]at h;simp[results,p,l,asAddr,h]
end
