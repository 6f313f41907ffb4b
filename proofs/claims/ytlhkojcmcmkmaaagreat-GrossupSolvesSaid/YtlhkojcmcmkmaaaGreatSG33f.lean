/- Conditions: as stated. -/
import Derived.Test.YtlhkojcmcmkmaaaGreatSG33b
namespace Go.Proofs.YtlhkojcmcmkmaaaGreat
open Go.Proofs.Tryz
open Go.RowKit
structure Pg(m:cY):Prop where
 ok:AU m.t
 m23:m.tm.t.method=2\/m.tm.t.method=3
 fl:∀s∈m.ss,s.floor=0
 lv:jd m.t<=900000
 ws:pI 4 m.ws
 cnt:m.count=12\/m.count=4
def EE(cur:Array Value)(e:List bR):Prop:=∀i x,e[i]?=some x->∀j v,(po x)[j]?=some v->cur[i*8+j]?=some v
theorem EE.own{w:World}{base g r n:Nat}{l:List bR}(h:Own po 8 123 w base (.slice (some ⟨g,0,none⟩) n r) l)(y:n=l.length):∃cur,ah w g 123 cur/\EE cur l:=by
 subst y;rcases h.2 with⟨u,_⟩|⟨F,z,cur,u,G,B,y,I,J,C⟩
 ·cases u
 ·injection u with e K D
  injection e with e
  injection e with e _
  subst e D;refine⟨cur,B,fun i x hi j v E=>?_⟩;have p:=G4 (fun x=>MJ x) l i j x v hi E;rw[<-C,as3]at p;split at p
  ·rw[<-Array.getElem?_toList];exact p
  ·cases p
theorem EE.take{cur:Array Value}{xs:List bR}(h:EE cur xs)(n:Nat):EE cur (xs.take n):=fun i x hi j v e=>by
 refine h i x ?_ j v e;rw[as3]at hi;split at hi
 ·exact hi
 ·cases hi
theorem EE.st{cur:Array Value}{n:List bR}(h:EE cur n){k:Nat}{x:bR}(B:n[k]?=some x)(f:Nat)(G:f<8)(u:Value)(y:bR)(hy:po y=(po x).set f u):EE (cur.setIfInBounds (k*8+f) u) (n.set k y):=fun i z hi j v e=>by
 have C:j<8:=by
  rcases arY j 8 with h|h
  ·exact h
  ·rw[List.getElem?_eq_none (by rw[MJ];exact h)]at e;cases e
 by_cases l:i=k
 ·subst l;have F:i<n.length:=(ase.1 B).1;rw[List.getElem?_set_self F]at hi;injection hi with hi
  subst hi;rw[hy]at e;have p:∃r,(po x)[j]?=some r:=⟨_,arW (by rw[MJ];exact C)⟩
  obtain⟨r,p⟩:=p;have D:=h i x B j r p;by_cases E:j=f
  ·subst E;rw[List.getElem?_set_self (by rw[MJ];exact C)]at e;injection e with e
   subst e;rw[Array.getElem?_setIfInBounds_self_of_lt];exact(as1.1 D).1
  ·rw[List.getElem?_set_ne (Ne.symm E),p]at e;injection e with e
   subst e;rw[Array.getElem?_setIfInBounds_ne (by omega)];exact D
 ·rw[List.getElem?_set_ne (Ne.symm l)]at hi;rw[Array.getElem?_setIfInBounds_ne (by omega)];exact h i z hi j v e
theorem EE.slice{cur:Array Value}{xs:List bR}(h:EE cur xs){W:World}{g B:Nat}(e:ah W g 123 cur)(l:g<B):aj po 8 W B (some ⟨g,0,none⟩) xs:=fun _=>
 ⟨g,0,rfl,l,fun i x hi j v n=>by rw[show(0:Nat)+i*8+j=i*8+j by omega,e.cell];exact h i x hi j v n⟩
theorem oN.wr{l:Type}{j:l->List Value}{k:Nat}{w:World}{lo hi:Nat}{A:Option Addr}{xs:List l}(h:oN j k w lo hi A xs){q:Nat}(n:q<lo\/hi<=q)(i:Nat)(u:Value):oN j k (w.setCell ⟨q,i,none⟩ u) lo hi A xs:=h.grown (row:=some q) (bm (p:=⟨q,i,none⟩) (fe _ _) (.inl rfl) u) (fun p e=>by injection e with e;subst e;exact n)
structure px(w:World)(b g gs h lo hi:Nat)(R:Array Value)(Aw:Option Addr)(ws:List cO)(Ab:Option Addr)(au:List cv)(ss:List bR)(cur:Array Value)(M:Nat)(W:World):Prop where
 r:ah W w.heap.size 45 #[.slice none 0 0,.slice none 0 0,.int .i64 0,.slice none 0 0,.int .i64 0,.int .i64 0,.int .i64 0,.int .i64 0,.slice none 0 0,.int .i64 0,.int .i64 0,.int .i64 0,.int .i64 0,.int .i64 0,.int .i64 0,.int .i64 0]
 x:ah W g 45 R
 s:ss≠[]->ah W gs 123 cur/\gs<g
 c:EE cur ss
 fw:oN gG 6 W (w.heap.size+1) h Aw ws
 l:oN gQ 2 W lo hi Ab au
 d:aX W b M
 G:w.grownBy W (some b)
 n:b<w.heap.size/\w.heap.size<h/\h<=gs/\gs<=g/\g<lo
section
variable {w W W':World}{b g gs h lo hi:Nat}{R:Array Value}{Aw:Option Addr}{ws:List cO}{Ab:Option Addr}{au:List cv}{ss:List bR}{cur:Array Value}{M M':Nat}
theorem oN.aa{l:Type}{j:l->List Value}{k:Nat}{w w':World}{lo hi:Nat}{A:Option Addr}{n:List l}(h:oN j k w lo hi A n)(p:Below w.heap.size w w'):oN j k w' lo hi A n:=h.grown (Mq p none) (fun q e=>by cases e)
theorem px.aa(H:px w b g gs h lo hi R Aw ws Ab au ss cur M W)(e:Below W.heap.size W W'):px w b g gs h lo hi R Aw ws Ab au ss cur M W':=
 ⟨H.r.aa e,H.x.aa e,fun j=>⟨(H.s j).1.aa e,(H.s j).2⟩,H.c,H.fw.aa e,H.l.aa e,H.d.aW e,dx H.G e,H.n⟩
theorem px.alloc(H:px w b g gs h lo hi R Aw ws Ab au ss cur M W)(o:Obj):px w b g gs h lo hi R Aw ws Ab au ss cur M (W.alloc o):=H.aa (bD W o)
theorem px.Dv(H:px w b g gs h lo hi R Aw ws Ab au ss cur M W)(hd:aX W' b M')(j:W.grownBy W' (some b)):px w b g gs h lo hi R Aw ws Ab au ss cur M' W':=by
 obtain⟨u,y,z,B,C⟩:=H.n;exact⟨H.r.grown j (by intro e;injection e;omega),H.x.grown j (by intro e;injection e;omega),fun p=>⟨(H.s p).1.grown j (by intro e;injection e;omega),(H.s p).2⟩,H.c,
  H.fw.grown j (fun q e=>by injection e;omega),H.l.grown j (fun q e=>by injection e;omega),hd,ck H.G j,H.n⟩
theorem px.st(H:px w b g gs h lo hi R Aw ws Ab au ss cur M W){k:Nat}{x:bR}(j:ss[k]?=some x)(f:Nat)(B:f<8)(u:Value)(y:bR)(hy:po y=(po x).set f u):
  px w b g gs h lo hi R Aw ws Ab au (ss.set k y) (cur.setIfInBounds (k*8+f) u) M (W.setCell ⟨gs,k*8+f,none⟩ u):=by
 obtain⟨F,I,C,J,K⟩:=H.n;have z:ss≠[]:=by intro e;rw[e]at j;simp at j
 obtain⟨D,E⟩:=H.s z;exact⟨H.r.far (p:=⟨gs,k*8+f,none⟩) (by show w.heap.size≠gs;omega) u,H.x.far (p:=⟨gs,k*8+f,none⟩) (by show g≠gs;omega) u,fun _=>⟨D.eu _ u,E⟩,H.c.st j f B u y hy,
  H.fw.wr (.inr C) _ u,H.l.wr (.inl (by omega)) _ u,H.d.set (by omega) _ u,bm (p:=⟨gs,k*8+f,none⟩) H.G (.inr (by show w.heap.size<=gs;omega)) u,H.n⟩
theorem px.put(H:px w b g gs h lo hi R Aw ws Ab au ss cur M W)(i:Nat)(u:Value):px w b g gs h lo hi (R.setIfInBounds i u) Aw ws Ab au ss cur M (W.setCell ⟨g,i,none⟩ u):=by
 obtain⟨j,y,z,B,C⟩:=H.n;exact⟨H.r.far (p:=⟨g,i,none⟩) (by show w.heap.size≠g;omega) u,H.x.eu i u,fun e=>⟨(H.s e).1.far (p:=⟨g,i,none⟩) (by have:=(H.s e).2;show gs≠g;omega) u,(H.s e).2⟩,H.c,
  H.fw.wr (.inr (by omega)) _ u,H.l.wr (.inl (by omega)) _ u,H.d.set (by omega) _ u,bm (p:=⟨g,i,none⟩) H.G (.inr (by show w.heap.size<=g;omega)) u,H.n⟩
end
structure Jl(k n:Nat)(ss:List bR):Prop where
 gen:BI 3 ss
 len:ss.length=n
 fl:∀i (hi:i<ss.length),i<k->ss[i].floor=0
theorem Jl.step{k n:Nat}{ss:List bR}(h:Jl k n ss)(l:k<ss.length){u:Int}(z:1<=u)(p:u<=5):Jl (k+1) n (ss.set k {ss[k]with floor:=0,unit:=u}):=by
 have r:=h.gen.ok _ (arO l);obtain⟨d1,d2,d3,d4,d5,d6⟩:=r;refine⟨⟨?_,fun x j=>?_⟩,by rw[List.length_set];exact h.len,fun i hi y=>?_⟩
 ·have e:(ss.set k {ss[k]with floor:=0,unit:=u}).map (·.code)=ss.map (·.code):=by
   rw[List.map_set];refine List.ext_getElem (by simp) fun i p B=>?_;rw[List.getElem_set];split
   ·rename_i e;subst e;simp
   ·rfl
  rw[e];exact h.gen.sub
 ·rcases List.mem_or_eq_of_mem_set j with j|rfl
  ·exact h.gen.ok x j
  ·exact⟨d1,d2,d3,⟨asI 0,by show(0:Int)<=ss[k].dt;omega⟩,⟨by show 1<=u;omega,by show u<=100;omega⟩,d6⟩
 ·rw[List.getElem_set];split
  ·rfl
  ·rw[List.length_set]at hi;exact h.fl i hi (by omega)
