/- Conditions: as stated. -/
import Derived.Deep.CutRange
import Derived.Test.YtlhkojcmcmkmaaaGreatCNetM
import Derived.Test.YtlhkojcmcmkmaaaGreatCP29b
set_option maxRecDepth 100000
set_option maxHeartbeats 16000000
namespace Go.Proofs.YtlhkojcmcmkmaaaGreat
open Go.Proofs.Tryz
open Go.RowKit
def Hv:Nat->Code->Code
 |0,c=>c
 |n+1,.seq _ b=>Hv n b
 |_+1,c=>c
def aku:Code->Code
 |.seq a _=>a
 |c=>c
def Ja(f:Func):Code:=f.body.getD .skip
theorem ei{P:Program}{x y:Code}{Q:Exit->Act->World->Prop}{a:Act}{w:World}(h:∀K:Act->World->Prop,Hid (∀a w,y.wp P Q a w->K a w)->x.wp P (Exit.then K Q) a w):(Code.seq x y).wp P Q a w:=wp_seq_k fun K e=>h K e
theorem Own.Dm{l:Type}{j:l->List Value}{k:Nat}{e:TypeId}{w:World}{base:Nat}{v:Value}{xs:List l}(h:Own j k e w base v xs){g:Nat}(r:g<base):some g≠v.ownBlock:=fun p=>by have:=(h.bR p.symm).1;omega
def jO(W:World)(b:eU)(lH:Int)(e:List cH)(n:Nat)(j:World):Prop:=
 ∃v,ah j W.heap.size 27 #[.int .i64 b.g,.int .i64 b.c,.int .i64 b.t,.int .i64 b.i,.int .i64 b.a,.int .i64 lH,v]/\Own fV 3 30 j (W.heap.size+1) v e/\Below W.heap.size W j/\e.length<=n
theorem ai.adT{W:World}{B:Nat}{A:Option Addr}{l:List Elem}(h:ai aN 2 W B A l){g:Nat}{t:TypeId}{cs:Array Value}(D:ah W g t cs)(p:∀v∈cs,∀s,v≠.string s)(b off:Nat)(E:A=some ⟨b,off,none⟩)(y:l≠[]):b≠g:=by
 intro e;subst e;obtain⟨I,z,j,_,F⟩:=h y;rw[E]at j;injection j with j
 injection j with j G
 subst j G;obtain⟨x,r,rfl⟩:=List.exists_cons_of_ne_nil y;have u:=F 0 x rfl 0 (.string x.code) rfl;simp only[auu,atQ]at u;rw[D.cell]at u;exact p _ (Array.mem_of_getElem? u) x.code rfl
theorem akv{P:Program}{X:Type}{l:X->List Value}{k:Nat}{e:TypeId}{W:World}{base B:Nat}{v:Value}{D p:List X}{A:Option Addr}{m:Nat}(t L:TypeId)(c bytes:Nat)(z:Value)
  (Cz:(P.info? e).map (fun i=>(i.zero,i.size,i.bytes))=some (some z,k,bytes)) (Y:P.underlying t=some (.slice e))
  (r:Own l k e W base v D) (M:ai l k W B A p) (N:∀x,(l x).length=k) (Z:0<k) (O:z.cells.size=k) (h1:∀y,∀u∈l y,u.oneCell'=true)
  (E:D.length+p.length<=4294967296) (Q:bytes<=1024) (F:base<=W.heap.size) (hm:m=p.length):
  ∃G w',(Builtin.append_ #[t,t] L #[v,.slice A m c]).run P W=.ok G w'/\Own l k e w' base G (D++p)/\W.grownBy w' v.ownBlock/\(G.ownBlock=v.ownBlock\/G.ownBlock=some W.heap.size):=by
 subst hm;obtain⟨i,hi,hz,R,hb⟩:=info_parts Cz;have hl:(p.flatMap l).length=p.length*k:=by
  clear M E
  induction p with
  |nil=>simp
  |cons y p ih=>rw[auI,at3,ih,N,at4,Nat.succ_mul];omega
 have gu:(D.length+p.length)*bytes<=140737488355328:=by have:(D.length+p.length)*bytes<=4294967296*1024:=Nat.mul_le_mul E Q;omega
 have E6:∀u∈p.flatMap l,u.oneCell'=true:=by intro u hu;obtain⟨y,_,hy⟩:=List.mem_flatMap.1 hu;exact h1 y u hy
 rcases A with _|ad
 ·have E7:p=[]:=by
   rcases p with _|⟨y,p⟩
   ·rfl
   ·obtain⟨b,off,S,_⟩:=M (by simp);cases S
  subst E7;exact⟨v,W,Zk (P:=P) W base t L e i k Y hi v D.length (D.flatMap l) r c,by simpa using r,dX _ _,.inl rfl⟩
 ·have Re:∀j u,(p.flatMap l)[j]?=some u->W.cell? (ad.add j)=some u:=by
   intro j u hu;have hj:j<p.length*k:=(by rw[<-hl];exact(aui.1 hu).1);have T:p≠[]:=(by intro e;subst e;simp at hj);obtain⟨b,off,U,hb,hc⟩:=M T;injection U with S
   subst S;have qC:(⟨b,off,none⟩:Addr).add j=⟨b,off+j,none⟩:=by unfold Addr.add;split<;>simp_all
   rw[qC];have V:j/k<p.length:=Nat.div_lt_of_lt_mul (by rw[Nat.mul_comm];exact hj);have Ee:j%k<k:=Nat.mod_lt _ Z;have hy:=atW V;have he:(l p[j/k])[j%k]?=some ((l p[j/k])[j%k]'(by rw[N];exact Ee)):=atW _
   have I:=I0 N p (j/k) (j%k) _ _ hy he;have J:=hc _ _ hy _ _ he;have K:j/k*k+j%k=j:=(by rw[Nat.mul_comm];exact Nat.div_add_mod j k);rw[K,hu]at I;rw[au6,K]at J;rw[J,<-I]
  obtain⟨G,w',hr,I,J,_,K⟩:=run_append_own_at (P:=P) W base t L e i z k bytes Y hi hz R hb O Z v D.length (D.flatMap l) r ad p.length c (p.flatMap l) hl Re E6 (by unfold maxLen;omega) gu F;refine⟨G,w',hr,?_,J,K⟩;unfold Own;rw[at3,avt];exact I
theorem M3.Ks{P:Program}{ops:Array Oper}{C:World->Prop}{L:Type}{j:L->List Value}{k:Nat}{e:TypeId}{W:World}{base B:Nat}{v:Value}{E ys:List L}{A:Option Addr}{m:Nat}{o:Oper}{a:Act}{K:Act->World->Prop}{i:Nat}(s x:Operand)(t:TypeId)(c bytes:Nat)(z:Value)
  (M:(P.info? e).map (fun i=>(i.zero,i.size,i.bytes))=some (some z,k,bytes)) (N:P.underlying t=some (.slice e))
  (r:Own j k e W base v E) (O:ai j k W B A ys) (Q:∀x,(j x).length=k) (R:0<k) (F:z.cells.size=k) (S:∀y,∀u∈j y,u.oneCell'=true)
  (D:E.length+ys.length<=4294967296) (G:bytes<=1024) (l:base<=W.heap.size)
  (I:ops[i]?=some o) (J:o.guard=none) (T:o.op=.call {callee:=.builtin .append,args:=#[s,x],argTypes:=#[t,t]})
  (U:a.eval s=v) (V:a.eval x=.slice A m c) (X:m=ys.length)
  (h:∀p w',Own j k e w' base p (E++ys)->W.grownBy w' v.ownBlock->(p.ownBlock=v.ownBlock\/p.ownBlock=some W.heap.size)->K (a.put o.dst p) w'):M3.iW P ops C i K a W:=by
 obtain⟨p,w',Y,Z,h3,h4⟩:=akv (P:=P) t o.type c bytes z M N r O Q R F S D G l X;refine M3.bH p w' I (by simp[Region.wanted,J]) ?_ (h p w' Z h3 h4);unfold execOp;simp only[T,resolve,invoke,builtin,Sem.run_bind,Sem.run_pure,Result.andThen_ok,List.map_toArray,auW,List.map_nil,U,V,Y]
theorem Own.Mx{l:Type}{j:l->List Value}{k:Nat}{e:TypeId}{w w':World}{base:Nat}{v:Value}{xs:List l}{row:Option Nat}(h:Own j k e w base v xs)(p:w.grownBy w' row)(r:∀q,v.ownBlock=some q->row≠some q):Own j k e w' base v xs:=by
 refine World.ownsRow.kept h p ?_;cases u:v.ownBlock with
 |none=>exact .inl rfl
 |some g=>exact .inr (fun y=>r g u y.symm)
def ZW(g:Nat)(w:World):Prop:=g<=w.heap.size
theorem ZW.aa{g:Nat}{w w':World}(h:ZW g w)(e:Below w.heap.size w w'):ZW g w':=at7 h e.size
theorem adU{w:World}{g:Nat}{n:Int}(h:ah w g 3 #[.int .i64 n]):ai encI 1 w w.heap.size (some ⟨g,0,none⟩) [n]:=fun _=>by
 refine⟨g,0,rfl,h.lt,fun i x hi j v e=>?_⟩;obtain rfl:i=0:=by have:=(aui.1 hi).1;simp at this;exact this
 obtain rfl:j=0:=by have:=(aui.1 e).1;simp[encI]at this;exact this
 simp at hi;subst hi;simp[encI]at e;subst e;simp only[auu,atQ];rw[h.cell];rfl
theorem OQ(x:Int):∀u∈encI x,u.oneCell'=true:=by intro u hu;simp[encI]at hu;subst hu;rfl
def adV(W:World)(b:eU)(lH:Int)(ls:List cH)(p i z:Int)(e:List Int)(At:Option Addr)(B D:Nat)(l:Value)(j:World):Prop:=
 ∃v r u y,l=.pointer (some ⟨r,0,none⟩)/\ah j W.heap.size 27 #[.int .i64 b.g,.int .i64 b.c,.int .i64 b.t,.int .i64 b.i,.int .i64 b.a,.int .i64 lH,v]/\Own fV 3 30 j (W.heap.size+1) v ls/\Below W.heap.size W j/\
  ah j r 53 #[.int .i64 p,.int .i64 i,.int .i64 z,.slice u e.length y,.slice At B D]/\Own encI 1 3 j (W.heap.size+1) (.slice u e.length y) e/\W.heap.size<r
structure iO(W:World)(cs:Array Value)(v0:Value)(ls:List cH)(x:Int)(v:Option (Value×List Int))(o n:Option Nat)(w:World):Prop where
 C:Below W.heap.size W w
 S:ah w W.heap.size 27 cs
 L:Own fV 3 30 w (W.heap.size+1) v0 ls
 V:∀r l,v=some (r,l)->Own encI 1 3 w (W.heap.size+1) r l/\∀q,r.ownBlock=some q->v0.ownBlock≠some q/\o≠some q/\n≠some q
 O:∀g,o=some g->ah w g 3 #[.int .i64 x]
 N:∀g,n=some g->ah w g 53 #[.int .i64 0,.int .i64 0,.int .i64 0,.slice none 0 0,.slice none 0 0]/\W.heap.size<g/\v0.ownBlock≠some g
def ZX(w:World)(g:Nat)(a b c d e:Value):World:=((((w.setCell ⟨g,0,none⟩ a).setCell ⟨g,1,none⟩ b).setCell ⟨g,2,none⟩ c).setCell ⟨g,3,none⟩ d).setCell ⟨g,4,none⟩ e
section
variable {W:World}{cs:Array Value}{v0:Value}{ls:List cH}{x:Int}{v:Option (Value×List Int)}{o n:Option Nat}{w w':World}
theorem iO.aa(h:iO W cs v0 ls x v o n w)(j:Below w.heap.size w w'):iO W cs v0 ls x v o n w':=
 ⟨aA h.C j,h.S.aa j,h.L.aa j,fun r l e=>⟨(h.V r l e).1.aa j,(h.V r l e).2⟩,fun g e=>(h.O g e).aa j,fun g e=>⟨(h.N g e).1.aa j,(h.N g e).2⟩⟩
theorem iO.base(h:iO W cs v0 ls x v o n w):W.heap.size+1<=w.heap.size:=h.S.lt
theorem iO.own{r:Value}{l:List Int}(h:iO W cs v0 ls x (some (r,l)) o n w):Own encI 1 3 w (W.heap.size+1) r l:=(h.V r l rfl).1
theorem iO.VC(h:iO W cs v0 ls x none o n w):iO W cs v0 ls x (some (.slice (some ⟨w.heap.size,0,none⟩) 0 0,[])) o n (w.alloc (.cells #[] 3)):=by
 have j:=h.aa (bC w (.cells #[] 3));refine⟨j.C,j.S,j.L,fun r l e=>?_,j.O,j.N⟩;injection e with e
 injection e with u y
 subst u y;refine⟨Own.lit (base:=W.heap.size+1) iX w [] #[] 3 rfl (by simp) h.base,fun q p=>?_⟩;have p:q=w.heap.size:=by injection p with p;exact p.symm
 subst p;refine⟨fun e=>?_,fun e=>?_,fun e=>?_⟩
 ·have:=(h.L.bR e).2;omega
 ·have:=(h.O _ e).lt;omega
 ·have:=(h.N _ e).1.lt;omega
theorem iO.OS(h:iO W cs v0 ls x v none n w):iO W cs v0 ls x v (some w.heap.size) n (w.alloc (.cells #[.int .i64 x] 3)):=by
 have j:=h.aa (bC w (.cells #[.int .i64 x] 3));refine⟨j.C,j.S,j.L,fun r l e=>⟨(j.V r l e).1,fun q p=>⟨((j.V r l e).2 q p).1,fun u=>?_,((j.V r l e).2 q p).2.2⟩⟩,fun g e=>?_,j.N⟩
 ·have:=((h.V r l e).1.bR p).2;injection u with u
  omega
 ·injection e with e
  subst e;exact ah.new _ _ _
theorem iO.My(h:iO W cs v0 ls x v o none w):iO W cs v0 ls x v o (some w.heap.size) (w.alloc (.cells #[.int .i64 0,.int .i64 0,.int .i64 0,.slice none 0 0,.slice none 0 0] 53)):=by
 have j:=h.aa (bC w (.cells #[.int .i64 0,.int .i64 0,.int .i64 0,.slice none 0 0,.slice none 0 0] 53));refine⟨j.C,j.S,j.L,fun r l e=>⟨(j.V r l e).1,fun q p=>⟨((j.V r l e).2 q p).1,((j.V r l e).2 q p).2.1,fun u=>?_⟩⟩,j.O,fun g e=>?_⟩
 ·have:=((h.V r l e).1.bR p).2;injection u with u
  omega
 ·injection e with e
  subst e;exact⟨ah.new _ _ _,h.base,fun e=>by have:=(h.L.bR e).2;omega⟩
theorem iO.app{r y:Value}{l B:List Int}(h:iO W cs v0 ls x (some (r,l)) o n w)(D:Own encI 1 3 w' (W.heap.size+1) y B)(u:w.grownBy w' r.ownBlock)(E:y.ownBlock=r.ownBlock\/y.ownBlock=some w.heap.size):iO W cs v0 ls x (some (y,B)) o n w':=by
 have p:=h.V r l rfl;have F:∀g,n=some g->some g≠r.ownBlock:=fun g e z=>(p.2 g z.symm).2.2 e;have G:∀g,o=some g->some g≠r.ownBlock:=fun g e z=>(p.2 g z.symm).2.1 e;refine⟨kH h.C u (fun q j=>by have:=(p.1.bR j).1;omega),h.S.grown u (fun e=>by have:=(p.1.bR e.symm).1;omega),h.L.Mx u (fun q j e=>(p.2 q e).1 j),fun K M e=>?_,
  fun g e=>(h.O g e).grown u (G g e),fun g e=>⟨(h.N g e).1.grown u (F g e),(h.N g e).2⟩⟩
 injection e with e
 injection e with I J
 subst I J;refine⟨D,fun q j=>?_⟩;rcases E with e|e
 ·exact p.2 q (e▸j)
 ·rw[e]at j;injection j with j
  subst j;refine⟨fun e=>?_,fun e=>?_,fun e=>?_⟩
  ·have:=(h.L.bR e).2;omega
  ·have:=(h.O _ e).lt;omega
  ·have:=(h.N _ e).1.lt;omega
theorem iO.adW(h:iO W cs v0 ls x v o n w):iO W cs v0 ls x v none n w:=
 ⟨h.C,h.S,h.L,fun r l e=>⟨(h.V r l e).1,fun q j=>⟨((h.V r l e).2 q j).1,nofun,((h.V r l e).2 q j).2.2⟩⟩,nofun,h.N⟩
theorem iO.adX{r:Value}{l:List Int}{m:Nat}(h:iO W cs v0 ls x (some (r,l)) o n w)(j:l.length=m):∃A c,r=.slice A m c:=by obtain⟨A,c,e,_⟩:=h.own.form iX;exact⟨A,c,j▸e⟩
theorem iO.akw{g:Nat}(h:iO W cs v0 ls x v o (some g) w):w.cell? ⟨g,0,none⟩=some (.int .i64 0)/\w.cell? ⟨g,1,none⟩=some (.int .i64 0)/\w.cell? ⟨g,2,none⟩=some (.int .i64 0)/\w.cell? ⟨g,3,none⟩=some (.slice none 0 0)/\w.cell? ⟨g,4,none⟩=some (.slice none 0 0)/\
  w.frozen? ⟨g,0,none⟩=false/\w.frozen? ⟨g,1,none⟩=false/\w.frozen? ⟨g,2,none⟩=false/\w.frozen? ⟨g,3,none⟩=false/\w.frozen? ⟨g,4,none⟩=false/\g<w.heap.size:=by
 have e:=(h.N g rfl).1;exact⟨e.cell 0,e.cell 1,e.cell 2,e.cell 3,e.cell 4,e.frozen 0,e.frozen 1,e.frozen 2,e.frozen 3,e.frozen 4,e.lt⟩
theorem iO.fin{b:eU}{lH p i r:Int}{j:List Int}{A At:Option Addr}{c u y g m:Nat}(h:iO W #[.int .i64 b.g,.int .i64 b.c,.int .i64 b.t,.int .i64 b.i,.int .i64 b.a,.int .i64 lH,v0] v0 ls x (some (.slice A m c,j)) o (some g) w)(D:j.length=m):
  adV W b lH ls p i r j At u y (.pointer (some ⟨g,0,none⟩)) (ZX w g (.int .i64 p) (.int .i64 i) (.int .i64 r) (.slice A m c) (.slice At u y)):=by
 subst D;have B:=h.N g rfl;have z:=adY (g:=g) [.int .i64 p,.int .i64 i,.int .i64 r,.slice A j.length c,.slice At u y] 0 (dX w (some g));exact⟨v0,g,A,c,rfl,h.S.grown z (fun e=>by injection e;omega),h.L.Mx z (fun q l e=>by injection e with e;subst e;exact B.2.2 l),kH h.C z (fun q l=>by injection l;omega),
  B.1.fill [.int .i64 p,.int .i64 i,.int .i64 r,.slice A j.length c,.slice At u y] rfl,h.own.Mx z (fun q l e=>by injection e with e;subst e;exact((h.V _ _ rfl).2 g l).2.2 rfl),B.2.1⟩
end
section
variable {P:Program}{ops:Array Oper}{md:Region.Mode}{C:World->Prop}{s:Nat}
theorem M5.OT{Q:Act->World->Prop}{n:Nat}{listed:Array Bool}{a:Act}{w:World}(i j:Nat)(u:Region.ready md ops listed=[i,j])(l:[i,j].contains s=false)
  (h:∀w',C w'->Below w.heap.size w w'->M3.iW P ops C i (fun p e=>C e/\M5.cS P md ops C s Q n (listed.setIfInBounds i true) p e) a w'/\M3.iW P ops C j (fun p e=>C e/\M5.cS P md ops C s Q n (listed.setIfInBounds j true) p e) a w'):M5.cS P md ops C s Q (n+1) listed a w:=
 M5.ZY [i,j] u l rfl fun w' c b k r=>by
  simp only[bY,bZ,atU]at r;rcases r with rfl|rfl
  ·exact(h w' c b).1
  ·exact(h w' c b).2
theorem M5.adZ{Q:Act->World->Prop}{n:Nat}{listed:Array Bool}{a:Act}{w:World}(i j l:Nat)(y:Region.ready md ops listed=[i,j,l])(r:[i,j,l].contains s=false)
  (h:∀w',C w'->Below w.heap.size w w'->M3.iW P ops C i (fun p e=>C e/\M5.cS P md ops C s Q n (listed.setIfInBounds i true) p e) a w'/\M3.iW P ops C j (fun p e=>C e/\M5.cS P md ops C s Q n (listed.setIfInBounds j true) p e) a w'/\M3.iW P ops C l (fun p e=>C e/\M5.cS P md ops C s Q n (listed.setIfInBounds l true) p e) a w'):M5.cS P md ops C s Q (n+1) listed a w:=
 M5.ZY [i,j,l] y r rfl fun w' c b k u=>by
  simp only[bY,bZ,atU]at u;rcases u with rfl|rfl|rfl
  ·exact(h w' c b).1
  ·exact(h w' c b).2.1
  ·exact(h w' c b).2.2
theorem M5.ZZ{A B:Type}{f:A->B->Act}{Q:Act->World->Prop}{n u:Nat}{listed y:Array Bool}{z:Act}{D:World}{H:A->B->World->Prop}
  (j:(∀p r w l,l=listed->H p r w->M5.cS P md ops C s Q n l (f p r) w)->M5.cS P md ops C s Q u y z D) (T:∀p r w,H p r w->M5.cS P md ops C s Q n listed (f p r) w):M5.cS P md ops C s Q u y z D:=j fun _ _ _ _ e h=>e▸T _ _ _ h
theorem M5.Z0{A B D:Type}{f:A->B->D->Act}{Q:Act->World->Prop}{n y:Nat}{listed z:Array Bool}{E:Act}{F:World}{H:A->B->D->World->Prop}
  (j:(∀p r u w l,l=listed->H p r u w->M5.cS P md ops C s Q n l (f p r u) w)->M5.cS P md ops C s Q y z E F) (T:∀p r u w,H p r u w->M5.cS P md ops C s Q n listed (f p r u) w):M5.cS P md ops C s Q y z E F:=j fun _ _ _ _ _ e h=>e▸T _ _ _ _ h
theorem M5.akx{A B D E:Type}{f:A->B->D->E->Act}{Q:Act->World->Prop}{n z:Nat}{listed F:Array Bool}{G:Act}{I:World}{H:A->B->D->E->World->Prop}
  (j:(∀p r u y w l,l=listed->H p r u y w->M5.cS P md ops C s Q n l (f p r u y) w)->M5.cS P md ops C s Q z F G I) (T:∀p r u y w,H p r u y w->M5.cS P md ops C s Q n listed (f p r u y) w):M5.cS P md ops C s Q z F G I:=j fun _ _ _ _ _ _ e h=>e▸T _ _ _ _ _ h
theorem M5.aky{A B D E F G:Type}{f:A->B->D->E->F->G->Act}{Q:Act->World->Prop}{n J:Nat}{listed K:Array Bool}{L:Act}{M:World}{H:A->B->D->E->F->G->World->Prop}
  (j:(∀p r u y z I w l,l=listed->H p r u y z I w->M5.cS P md ops C s Q n l (f p r u y z I) w)->M5.cS P md ops C s Q J K L M) (T:∀p r u y z I w,H p r u y z I w->M5.cS P md ops C s Q n listed (f p r u y z I) w):M5.cS P md ops C s Q J K L M:=j fun _ _ _ _ _ _ _ _ e h=>e▸T _ _ _ _ _ _ _ h
end
theorem akz(W W1:World)(X:Nat)(y:fC)(b:eU)(At:Option Addr)(ct:Nat)(I:List Elem)(ay aO bj aw:Int)(ls:List cH)(K:Act->World->Prop)(Q:Exit->Act->World->Prop)
  {x0 x1 x2 x3 x4 x5 x6 x7 x9 lJ lK Gl Gm lL lM CG lO mK lQ CH CI lR lT lU AR o6 qj B1 Hw Hx Hy qF qG qH Ff Dn AU qI qJ qK qL qM qN qO qP qQ qR qT qU qV qW qX qY qZ rb rf rh rp rq rr ru ry rz rA rB rC rD rE rF rG rH rI rJ rK rL rM rN rO rP rQ rR rS rT rU rV rW rX rY rZ se sf sg si sq sr su sw sx sy sB sD sF sG sH sI sJ sK sL sM sN sO sP sQ sR sS sT sU sV sW sX sY sZ td th tj tq tu tA tB tC tD tE tF tG tH tI tJ tK tL tM tN tO tP tQ tR tS tT tU tV tW tX tY tZ ua ud ue uf ug uh ui uj uk um uo uq ur uu uv uw ux uy uz uA uB uC uD uE uF uG uH uI uJ uK uL uM uN uO uP uQ uR uS uT uU uV uW uX uY uZ vd ve vg vh vk vn vr vt vu vv vw vx vy vz vA vB vC vD vE vF vG vH vI vJ vK vL vM vN vO vP vQ vR vS vT vU vV vW vX vY vZ wj wk wm wu wA wB wC wD wE wF wG wH wI wJ wK wL wM wN wO wP wQ wR wS wT wU wV wW wX wY wZ xa xc xd xe xf xg xh xi xk xl xm xn xo xp xq xr xt xu xv xw xx xy xz xA xB xC xD xE xF xG xH xI xJ xK xL xM xN xO xP xQ xR xS xT xU xV xW xX xY xZ ya yb ye yf yg yh yj yn yo yq yr yt yu yv yx yz yA yB yC yD yE yF yG yH yI yJ yK yL yM yN yO yP yQ yR yS yT yU yV yX yY yZ za ze zf zg zh zi zj zk zl zn zr zu zv zw zx zy zA zB zC zD zE zF zG zH zI zJ AV AW AX AY AZ Ba Bb Bc Bd Be Bf Bg Bh Bi Bj Bk Bl Bn Bo Bp zK zL:Value}
  (bV:ah W X 53 #[.int .i64 y.az,.int .i64 y.ay,.int .i64 y.aQ,.slice y.Ai y.ins.length y.ci,.slice y.At y.taken.length y.ct]) (dN:y.In W) (li:y.ins.length<=100) (b6:-1000000000000000<=aw) (b7:aw<=1000000000000000) (b8:-1000000000000000<=ay) (b9:ay<=1000000000000000) (Kt:-1000000000000000<=y.ay) (Ku:y.ay<=1000000000000000) (Kv:-1000000000000000<=y.aQ) (Kw:y.aQ<=1000000000000000) (Ky:0<=y.az) (Kz:y.az<=1000) (hA:jO W b (b.c-bj-aw) ls 10000 W1)
  (HK:Hid (∀(Z1 al am an ao ap av aC aD aJ aM aR aS aT aU aV aX aY aZ a0 a1:Value) (wx:World),adV W b (b.c-bj-aw) ls (y.az+1) (y.ay+ay) (y.aQ+aw) (y.ins++[aO]) At I.length ct Z1 wx->K {tmps:=List.toArray (x0::x1::x2::x3::x4::x5::x6::x7::(.pointer (some ⟨X,0,none⟩))::x9::lJ::lK::Gl::Gm::lL::lM::CG::lO::mK::lQ::CH::CI::lR::lT::lU::AR::o6::qj::(.int .i64 ay)::(.int .i64 aO)::B1::Hw::Hx::Hy::qF::qG::qH::(.int .i64 aw)::Ff::(.slice At I.length ct)::Dn::(.pointer (some ⟨W.heap.size,0,none⟩))::Z1::qI::qJ::qK::qL::qM::qN::qO::qP::qQ::qR::qT::qU::qV::qW::qX::qY::qZ::rb::rf::rh::rp::rq::rr::ru::ry::rz::rA::rB::rC::rD::rE::rF::rG::rH::rI::rJ::rK::rL::rM::rN::rO::rP::rQ::rR::rS::rT::rU::rV::rW::rX::rY::rZ::se::sf::sg::si::sq::sr::su::sw::sx::sy::sB::sD::sF::sG::sH::sI::sJ::sK::sL::sM::sN::sO::sP::sQ::sR::sS::sT::sU::sV::sW::sX::sY::sZ::td::th::tj::tq::tu::tA::tB::tC::tD::tE::tF::tG::tH::tI::tJ::tK::tL::tM::tN::tO::tP::tQ::tR::tS::tT::tU::tV::tW::tX::tY::tZ::ua::ud::ue::uf::ug::uh::ui::uj::uk::um::uo::uq::ur::uu::uv::uw::ux::uy::uz::uA::uB::uC::uD::uE::uF::uG::uH::uI::uJ::uK::uL::uM::uN::uO::uP::uQ::uR::uS::uT::uU::uV::uW::uX::uY::uZ::vd::ve::vg::vh::vk::vn::vr::vt::vu::vv::vw::vx::vy::vz::vA::vB::vC::vD::vE::vF::vG::vH::vI::vJ::vK::vL::vM::vN::vO::vP::vQ::vR::vS::vT::vU::vV::vW::vX::vY::vZ::wj::wk::wm::wu::wA::wB::wC::wD::wE::wF::wG::wH::wI::wJ::wK::wL::wM::wN::wO::wP::wQ::wR::wS::wT::wU::wV::wW::wX::wY::wZ::xa::xc::xd::xe::xf::xg::xh::xi::xk::xl::xm::xn::xo::xp::xq::xr::xt::xu::xv::xw::xx::xy::xz::xA::xB::xC::xD::xE::xF::xG::xH::xI::xJ::xK::xL::xM::xN::xO::xP::xQ::xR::xS::xT::xU::xV::xW::xX::xY::xZ::ya::yb::ye::yf::yg::yh::yj::yn::yo::yq::yr::yt::yu::yv::yx::yz::yA::yB::yC::yD::yE::yF::yG::yH::yI::yJ::yK::yL::yM::yN::yO::yP::yQ::yR::yS::yT::yU::yV::yX::yY::yZ::za::ze::zf::zg::zh::zi::zj::zk::zl::zn::zr::zu::zv::zw::zx::zy::zA::zB::zC::zD::zE::zF::zG::zH::zI::zJ::al::am::an::ao::ap::av::aC::aD::aJ::aM::aR::aS::aT::aU::aV::aX::aY::aZ::a0::a1::zK::zL::[]),defers:=[]} wx)):
  Code.wp prog (aku (Hv 44 (Ja Tryz.f49))) (Exit.then K Q) {tmps:=List.toArray (x0::x1::x2::x3::x4::x5::x6::x7::(.pointer (some ⟨X,0,none⟩))::x9::lJ::lK::Gl::Gm::lL::lM::CG::lO::mK::lQ::CH::CI::lR::lT::lU::AR::o6::qj::(.int .i64 ay)::(.int .i64 aO)::B1::Hw::Hx::Hy::qF::qG::qH::(.int .i64 aw)::Ff::(.slice At I.length ct)::Dn::(.pointer (some ⟨W.heap.size,0,none⟩))::AU::qI::qJ::qK::qL::qM::qN::qO::qP::qQ::qR::qT::qU::qV::qW::qX::qY::qZ::rb::rf::rh::rp::rq::rr::ru::ry::rz::rA::rB::rC::rD::rE::rF::rG::rH::rI::rJ::rK::rL::rM::rN::rO::rP::rQ::rR::rS::rT::rU::rV::rW::rX::rY::rZ::se::sf::sg::si::sq::sr::su::sw::sx::sy::sB::sD::sF::sG::sH::sI::sJ::sK::sL::sM::sN::sO::sP::sQ::sR::sS::sT::sU::sV::sW::sX::sY::sZ::td::th::tj::tq::tu::tA::tB::tC::tD::tE::tF::tG::tH::tI::tJ::tK::tL::tM::tN::tO::tP::tQ::tR::tS::tT::tU::tV::tW::tX::tY::tZ::ua::ud::ue::uf::ug::uh::ui::uj::uk::um::uo::uq::ur::uu::uv::uw::ux::uy::uz::uA::uB::uC::uD::uE::uF::uG::uH::uI::uJ::uK::uL::uM::uN::uO::uP::uQ::uR::uS::uT::uU::uV::uW::uX::uY::uZ::vd::ve::vg::vh::vk::vn::vr::vt::vu::vv::vw::vx::vy::vz::vA::vB::vC::vD::vE::vF::vG::vH::vI::vJ::vK::vL::vM::vN::vO::vP::vQ::vR::vS::vT::vU::vV::vW::vX::vY::vZ::wj::wk::wm::wu::wA::wB::wC::wD::wE::wF::wG::wH::wI::wJ::wK::wL::wM::wN::wO::wP::wQ::wR::wS::wT::wU::wV::wW::wX::wY::wZ::xa::xc::xd::xe::xf::xg::xh::xi::xk::xl::xm::xn::xo::xp::xq::xr::xt::xu::xv::xw::xx::xy::xz::xA::xB::xC::xD::xE::xF::xG::xH::xI::xJ::xK::xL::xM::xN::xO::xP::xQ::xR::xS::xT::xU::xV::xW::xX::xY::xZ::ya::yb::ye::yf::yg::yh::yj::yn::yo::yq::yr::yt::yu::yv::yx::yz::yA::yB::yC::yD::yE::yF::yG::yH::yI::yJ::yK::yL::yM::yN::yO::yP::yQ::yR::yS::yT::yU::yV::yX::yY::yZ::za::ze::zf::zg::zh::zi::zj::zk::zl::zn::zr::zu::zv::zw::zx::zy::zA::zB::zC::zD::zE::zF::zG::zH::zI::zJ::AV::AW::AX::AY::AZ::Ba::Bb::Bc::Bd::Be::Bf::Bg::Bh::Bi::Bj::Bk::Bl::Bn::Bo::Bp::zK::zL::[]),defers:=[]} W1:=by
 conv=>enter [2];whnf
 obtain⟨v0,dF,eK,dA,pM⟩:=hA;have L:iO W #[.int .i64 b.g,.int .i64 b.c,.int .i64 b.t,.int .i64 b.i,.int .i64 b.a,.int .i64 (b.c-bj-aw),v0] v0 ls aO none none none W1:=⟨dA,dF,eK,nofun,nofun,nofun⟩
 clear dF eK pM;refine M5.iN (C:=fun w'=>Below W.heap.size W w') (jk _ _ (atN _)) dA (aE:=?aE) [0,1,2,3,4,5,6,7,8,9,10,12,13,15,18] 7 21 (by kernel_rfl) (by kernel_rfl) rfl (by kernel_rfl) (by rfl) ?H ?M
 case H=>
  intro F hF a2;simp only[M3.cL,atY,at0,at1];have oA:=bV.lt;obtain⟨z0,z1,z2,z3,z4⟩:=bV.cz5;have e0:∀p:aP (fun w'=>Below W.heap.size W w') F,p.w'.cell? ⟨X,0,none⟩=some (.int .i64 y.az):=fun p=>(p.h.cell (p:=⟨X,0,none⟩) oA).trans z0;have e1:∀p:aP (fun w'=>Below W.heap.size W w') F,p.w'.cell? ⟨X,1,none⟩=some (.int .i64 y.ay):=fun p=>(p.h.cell (p:=⟨X,1,none⟩) oA).trans z1;have e2:∀p:aP (fun w'=>Below W.heap.size W w') F,p.w'.cell? ⟨X,2,none⟩=some (.int .i64 y.aQ):=fun p=>(p.h.cell (p:=⟨X,2,none⟩) oA).trans z2;have e3:∀p:aP (fun w'=>Below W.heap.size W w') F,p.w'.cell? ⟨X,3,none⟩=some (.slice y.Ai y.ins.length y.ci):=fun p=>(p.h.cell (p:=⟨X,3,none⟩) oA).trans z3;clear z0 z1 z2 z3 z4
  repeat(first|go_big_quiet_step(fail))
  refine wpQuiet_nil ?_;rfl
 case M=>
  intro Q0 bS;refine M5.aky (f:=?asa) (n:=1) (listed:=#[true,true,true,true,true,true,true,true,true,true,true,true,true,true,true,true,true,true,true,true,true,false]) (H:=fun(D:Nat) (N:Value) (E:Nat) (Y:Option Addr) (Z:Nat) (z:Nat)=>iO W #[.int .i64 b.g,.int .i64 b.c,.int .i64 b.t,.int .i64 b.i,.int .i64 b.a,.int .i64 (b.c-bj-aw),v0] v0 ls aO (some (.slice Y (y.ins.length+1) Z,y.ins++[aO])) none (some z)) (fun ab=>?akA) ?akB
  case akA=>
   refine M5.akx (f:=?asb) (n:=3) (listed:=#[true,true,true,true,true,true,true,true,true,true,true,true,true,true,true,true,true,false,true,false,true,false]) (H:=fun(D:Nat) (N:Value) (E:Nat) (z:Nat)=>iO W #[.int .i64 b.g,.int .i64 b.c,.int .i64 b.t,.int .i64 b.i,.int .i64 b.a,.int .i64 (b.c-bj-aw),v0] v0 ls aO (some (N,y.ins)) (some E) (some z)) (fun Z2=>?akC) ?akD
   case akC=>
    refine M5.Z0 (f:=?ase) (n:=4) (listed:=#[true,true,true,true,true,true,true,true,true,true,true,true,true,true,false,true,true,false,true,false,true,false]) (H:=fun(D:Nat) (E:Nat) (z:Nat)=>iO W #[.int .i64 b.g,.int .i64 b.c,.int .i64 b.t,.int .i64 b.i,.int .i64 b.a,.int .i64 (b.c-bj-aw),v0] v0 ls aO (some (.slice (some ⟨D,0,none⟩) 0 0,[])) (some E) (some z)) (fun Z3=>?akE) ?akF
    case akE=>
     refine M5.Z0 (f:=?asf) (n:=4) (listed:=#[true,true,true,true,true,true,true,true,true,true,true,true,true,true,true,true,false,false,true,false,true,false]) (H:=fun(D:Nat) (N:Value) (z:Nat)=>iO W #[.int .i64 b.g,.int .i64 b.c,.int .i64 b.t,.int .i64 b.i,.int .i64 b.a,.int .i64 (b.c-bj-aw),v0] v0 ls aO (some (N,y.ins)) none (some z)) (fun ad=>?akG) ?akH
     case akG=>
      refine M5.Z0 (f:=?asg) (n:=4) (listed:=#[true,true,true,true,true,true,true,true,true,true,true,true,true,true,true,true,true,false,true,false,false,false]) (H:=fun(D:Nat) (N:Value) (E:Nat)=>iO W #[.int .i64 b.g,.int .i64 b.c,.int .i64 b.t,.int .i64 b.i,.int .i64 b.a,.int .i64 (b.c-bj-aw),v0] v0 ls aO (some (N,y.ins)) (some E) none) (fun ae=>?akI) ?akJ
      case akI=>
       refine M5.ZZ (f:=?fon) (n:=5) (listed:=#[true,true,true,true,true,true,true,true,true,true,true,false,true,true,false,true,true,false,true,false,true,false]) (H:=fun(E:Nat) (z:Nat)=>iO W #[.int .i64 b.g,.int .i64 b.c,.int .i64 b.t,.int .i64 b.i,.int .i64 b.a,.int .i64 (b.c-bj-aw),v0] v0 ls aO none (some E) (some z)) (fun af=>?mon) ?ton
       case mon=>
        refine M5.ZZ (f:=?fzn) (n:=5) (listed:=#[true,true,true,true,true,true,true,true,true,true,true,true,true,true,false,true,false,false,true,false,true,false]) (H:=fun(D:Nat) (z:Nat)=>iO W #[.int .i64 b.g,.int .i64 b.c,.int .i64 b.t,.int .i64 b.i,.int .i64 b.a,.int .i64 (b.c-bj-aw),v0] v0 ls aO (some (.slice (some ⟨D,0,none⟩) 0 0,[])) none (some z)) (fun aj=>?mzn) ?tzn
        case mzn=>
         refine M5.ZZ (f:=?fzo) (n:=5) (listed:=#[true,true,true,true,true,true,true,true,true,true,true,true,true,true,false,true,true,false,true,false,false,false]) (H:=fun(D:Nat) (E:Nat)=>iO W #[.int .i64 b.g,.int .i64 b.c,.int .i64 b.t,.int .i64 b.i,.int .i64 b.a,.int .i64 (b.c-bj-aw),v0] v0 ls aO (some (.slice (some ⟨D,0,none⟩) 0 0,[])) (some E) none) (fun ak=>?mzo) ?tzo
         case mzo=>
          refine M5.adZ 11 16 20 (by kernel_rfl) (by rfl) fun r B u=>?_;have l:=L.aa u;clear u;refine⟨?_,?_,?_⟩
          ·refine M3.bH (.slice (some ⟨r.heap.size,0,none⟩) 0 0) (r.alloc (.cells #[] 3)) rfl rfl (by go_simp) ⟨B.alloc B.size _,?_⟩;simp only[Act.put,aF,aG,aH,aI,aK,aL];have j:=l.VC;clear l B;generalize r.heap.size=D at j|-;generalize r.alloc _=V at j|-;refine M5.adZ 14 16 20 (by kernel_rfl) (by rfl) fun w3 J u=>?_;have R:=j.aa u;clear u j;refine⟨?_,?_,?_⟩
           ·refine M3.Ks (.tmp 401) (.tmp 403) 34 y.ci 8 _ B2 underlying34 R.own (dN.ins.aa J) iX (by omega) rfl OQ (by simp only[aug];omega) (by omega) R.base rfl rfl rfl rfl rfl rfl ?_;intro N w4 S T U;rw[List.nil_append]at S;have G:=R.app S T U;refine⟨G.C,?_⟩;simp only[Act.put,aF,aG,aH,aI,aK,aL];clear S T U R J;refine M5.OT 16 20 (by kernel_rfl) (by rfl) fun w5 bD u=>?_;have h5:=G.aa u;clear u G;refine⟨?_,?_⟩
            ·refine M3.bH (.slice (some ⟨w5.heap.size,0,none⟩) 1 1) (w5.alloc (.cells #[.int .i64 aO] 3)) rfl rfl (by go_simp) ⟨bD.alloc bD.size _,?_⟩;simp only[Act.put,aF,aG,aH,aI,aK,aL];have h6:=h5.OS;clear h5 bD;generalize w5.heap.size=E at h6|-;generalize w5.alloc _=w6 at h6|-;exact ae D N E _ _ (by kernel_rfl) h6
            ·refine M3.bH (.pointer (some ⟨w5.heap.size,0,none⟩)) (w5.alloc (.cells #[.int .i64 0,.int .i64 0,.int .i64 0,.slice none 0 0,.slice none 0 0] 53)) rfl rfl (by go_simp) ⟨bD.alloc bD.size _,?_⟩;simp only[Act.put,aF,aG,aH,aI,aK,aL];have h6:=h5.My;clear h5 bD;generalize w5.heap.size=z at h6|-;generalize w5.alloc _=w6 at h6|-;exact ad D N z _ _ (by kernel_rfl) h6
           ·refine M3.bH (.slice (some ⟨w3.heap.size,0,none⟩) 1 1) (w3.alloc (.cells #[.int .i64 aO] 3)) rfl rfl (by go_simp) ⟨J.alloc J.size _,?_⟩;simp only[Act.put,aF,aG,aH,aI,aK,aL];have G:=R.OS;clear R J;generalize w3.heap.size=E at G|-;generalize w3.alloc _=w4 at G|-;exact ak D E _ _ (by kernel_rfl) G
           ·refine M3.bH (.pointer (some ⟨w3.heap.size,0,none⟩)) (w3.alloc (.cells #[.int .i64 0,.int .i64 0,.int .i64 0,.slice none 0 0,.slice none 0 0] 53)) rfl rfl (by go_simp) ⟨J.alloc J.size _,?_⟩;simp only[Act.put,aF,aG,aH,aI,aK,aL];have G:=R.My;clear R J;generalize w3.heap.size=z at G|-;generalize w3.alloc _=w4 at G|-;exact aj D z _ _ (by kernel_rfl) G
          ·refine M3.bH (.slice (some ⟨r.heap.size,0,none⟩) 1 1) (r.alloc (.cells #[.int .i64 aO] 3)) rfl rfl (by go_simp) ⟨B.alloc B.size _,?_⟩;simp only[Act.put,aF,aG,aH,aI,aK,aL];have j:=l.OS;clear l B;generalize r.heap.size=E at j|-;generalize r.alloc _=V at j|-;refine M5.OT 11 20 (by kernel_rfl) (by rfl) fun w3 J u=>?_;have R:=j.aa u;clear u j;refine⟨?_,?_⟩
           ·refine M3.bH (.slice (some ⟨w3.heap.size,0,none⟩) 0 0) (w3.alloc (.cells #[] 3)) rfl rfl (by go_simp) ⟨J.alloc J.size _,?_⟩;simp only[Act.put,aF,aG,aH,aI,aK,aL];have G:=R.VC;clear R J;generalize w3.heap.size=D at G|-;generalize w3.alloc _=w4 at G|-;exact ak D E _ _ (by kernel_rfl) G
           ·refine M3.bH (.pointer (some ⟨w3.heap.size,0,none⟩)) (w3.alloc (.cells #[.int .i64 0,.int .i64 0,.int .i64 0,.slice none 0 0,.slice none 0 0] 53)) rfl rfl (by go_simp) ⟨J.alloc J.size _,?_⟩;simp only[Act.put,aF,aG,aH,aI,aK,aL];have G:=R.My;clear R J;generalize w3.heap.size=z at G|-;generalize w3.alloc _=w4 at G|-;exact af E z _ _ (by kernel_rfl) G
          ·refine M3.bH (.pointer (some ⟨r.heap.size,0,none⟩)) (r.alloc (.cells #[.int .i64 0,.int .i64 0,.int .i64 0,.slice none 0 0,.slice none 0 0] 53)) rfl rfl (by go_simp) ⟨B.alloc B.size _,?_⟩;simp only[Act.put,aF,aG,aH,aI,aK,aL];have j:=l.My;clear l B;generalize r.heap.size=z at j|-;generalize r.alloc _=V at j|-;refine M5.OT 11 16 (by kernel_rfl) (by rfl) fun w3 J u=>?_;have R:=j.aa u;clear u j;refine⟨?_,?_⟩
           ·refine M3.bH (.slice (some ⟨w3.heap.size,0,none⟩) 0 0) (w3.alloc (.cells #[] 3)) rfl rfl (by go_simp) ⟨J.alloc J.size _,?_⟩;simp only[Act.put,aF,aG,aH,aI,aK,aL];have G:=R.VC;clear R J;generalize w3.heap.size=D at G|-;generalize w3.alloc _=w4 at G|-;exact aj D z _ _ (by kernel_rfl) G
           ·refine M3.bH (.slice (some ⟨w3.heap.size,0,none⟩) 1 1) (w3.alloc (.cells #[.int .i64 aO] 3)) rfl rfl (by go_simp) ⟨J.alloc J.size _,?_⟩;simp only[Act.put,aF,aG,aH,aI,aK,aL];have G:=R.OS;clear R J;generalize w3.heap.size=E at G|-;generalize w3.alloc _=w4 at G|-;exact af E z _ _ (by kernel_rfl) G
         case tzo=>
          intro D E w0 L;refine M5.OT 14 20 (by kernel_rfl) (by rfl) fun r B u=>?_;have l:=L.aa u;clear u L;refine⟨?_,?_⟩
          ·refine M3.Ks (.tmp 401) (.tmp 403) 34 y.ci 8 _ B2 underlying34 l.own (dN.ins.aa B) iX (by omega) rfl OQ (by simp only[aug];omega) (by omega) l.base rfl rfl rfl rfl rfl rfl ?_;intro N V S T U;rw[List.nil_append]at S;have j:=l.app S T U;refine⟨j.C,?_⟩;simp only[Act.put,aF,aG,aH,aI,aK,aL];clear S T U l B;exact ae D N E _ _ (by kernel_rfl) j
          ·refine M3.bH (.pointer (some ⟨r.heap.size,0,none⟩)) (r.alloc (.cells #[.int .i64 0,.int .i64 0,.int .i64 0,.slice none 0 0,.slice none 0 0] 53)) rfl rfl (by go_simp) ⟨B.alloc B.size _,?_⟩;simp only[Act.put,aF,aG,aH,aI,aK,aL];have j:=l.My;clear l B;generalize r.heap.size=z at j|-;generalize r.alloc _=V at j|-;exact Z3 D E z _ _ (by kernel_rfl) j
        case tzn=>
         intro D z w0 L;refine M5.OT 14 16 (by kernel_rfl) (by rfl) fun r B u=>?_;have l:=L.aa u;clear u L;refine⟨?_,?_⟩
         ·refine M3.Ks (.tmp 401) (.tmp 403) 34 y.ci 8 _ B2 underlying34 l.own (dN.ins.aa B) iX (by omega) rfl OQ (by simp only[aug];omega) (by omega) l.base rfl rfl rfl rfl rfl rfl ?_;intro N V S T U;rw[List.nil_append]at S;have j:=l.app S T U;refine⟨j.C,?_⟩;simp only[Act.put,aF,aG,aH,aI,aK,aL];clear S T U l B;exact ad D N z _ _ (by kernel_rfl) j
         ·refine M3.bH (.slice (some ⟨r.heap.size,0,none⟩) 1 1) (r.alloc (.cells #[.int .i64 aO] 3)) rfl rfl (by go_simp) ⟨B.alloc B.size _,?_⟩;simp only[Act.put,aF,aG,aH,aI,aK,aL];have j:=l.OS;clear l B;generalize r.heap.size=E at j|-;generalize r.alloc _=V at j|-;exact Z3 D E z _ _ (by kernel_rfl) j
       case ton=>intro E z w0 L;refine M5.dH 11 (by kernel_rfl) (by decide) fun r B u=>?_;have l:=L.aa u;clear u L;refine M3.bH (.slice (some ⟨r.heap.size,0,none⟩) 0 0) (r.alloc (.cells #[] 3)) rfl rfl (by go_simp) ⟨B.alloc B.size _,?_⟩;simp only[Act.put,aF,aG,aH,aI,aK,aL];have j:=l.VC;clear l B;generalize r.heap.size=D at j|-;generalize r.alloc _=V at j|-;exact Z3 D E z _ _ (by kernel_rfl) j
      case akJ=>
       intro D N E w0 L;refine M5.OT 17 20 (by kernel_rfl) (by rfl) fun r B u=>?_;have l:=L.aa u;clear u L;refine⟨?_,?_⟩
       ·refine M3.Ks (.tmp 404) (.tmp 406) 34 1 8 _ B2 underlying34 l.own (adU (l.O _ rfl)) iX (by omega) rfl OQ (by simp only[aug,at4];omega) (by omega) l.base rfl rfl rfl rfl rfl rfl ?_;intro vq V S T U;have j:=(l.app S T U).adW;refine⟨j.C,?_⟩;simp only[Act.put,aF,aG,aH,aI,aK,aL];clear S T U l B;obtain⟨Y,Z,e⟩:=j.adX (m:=y.ins.length+1) (by simp);subst e;refine M5.Gn 19 (.agg #[.int .i64 (y.az+1),.int .i64 (y.ay+ay),.int .i64 (y.aQ+aw),.slice Y (y.ins.length+1) Z,.slice At I.length ct]) (by kernel_rfl) rfl (by kernel_rfl) rfl (fun _=>by go_simp) ?_;simp only[Act.put,aF,aG,aH,aI,aK,aL];refine M5.dH 20 (by kernel_rfl) (by decide) fun w3 J u=>?_;have R:=j.aa u;clear u j;refine M3.bH (.pointer (some ⟨w3.heap.size,0,none⟩)) (w3.alloc (.cells #[.int .i64 0,.int .i64 0,.int .i64 0,.slice none 0 0,.slice none 0 0] 53)) rfl rfl (by go_simp) ⟨J.alloc J.size _,?_⟩;simp only[Act.put,aF,aG,aH,aI,aK,aL];have G:=R.My;clear R J;generalize w3.heap.size=z at G|-;generalize w3.alloc _=w4 at G|-;exact ab D N E Y Z z _ _ (by kernel_rfl) G
       ·refine M3.bH (.pointer (some ⟨r.heap.size,0,none⟩)) (r.alloc (.cells #[.int .i64 0,.int .i64 0,.int .i64 0,.slice none 0 0,.slice none 0 0] 53)) rfl rfl (by go_simp) ⟨B.alloc B.size _,?_⟩;simp only[Act.put,aF,aG,aH,aI,aK,aL];have j:=l.My;clear l B;generalize r.heap.size=z at j|-;generalize r.alloc _=V at j|-;exact Z2 D N E z _ _ (by kernel_rfl) j
     case akH=>intro D N z w0 L;refine M5.dH 16 (by kernel_rfl) (by decide) fun r B u=>?_;have l:=L.aa u;clear u L;refine M3.bH (.slice (some ⟨r.heap.size,0,none⟩) 1 1) (r.alloc (.cells #[.int .i64 aO] 3)) rfl rfl (by go_simp) ⟨B.alloc B.size _,?_⟩;simp only[Act.put,aF,aG,aH,aI,aK,aL];have j:=l.OS;clear l B;generalize r.heap.size=E at j|-;generalize r.alloc _=V at j|-;exact Z2 D N E z _ _ (by kernel_rfl) j
    case akF=>intro D E z w0 L;refine M5.dH 14 (by kernel_rfl) (by decide) fun r B u=>?_;have l:=L.aa u;clear u L;refine M3.Ks (.tmp 401) (.tmp 403) 34 y.ci 8 _ B2 underlying34 l.own (dN.ins.aa B) iX (by omega) rfl OQ (by simp only[aug];omega) (by omega) l.base rfl rfl rfl rfl rfl rfl ?_;intro N V S T U;rw[List.nil_append]at S;have j:=l.app S T U;refine⟨j.C,?_⟩;simp only[Act.put,aF,aG,aH,aI,aK,aL];clear S T U l B;exact Z2 D N E z _ _ (by kernel_rfl) j
   case akD=>intro D N E z w0 L;refine M5.dH 17 (by kernel_rfl) (by decide) fun r B u=>?_;have l:=L.aa u;clear u L;refine M3.Ks (.tmp 404) (.tmp 406) 34 1 8 _ B2 underlying34 l.own (adU (l.O _ rfl)) iX (by omega) rfl OQ (by simp only[aug,at4];omega) (by omega) l.base rfl rfl rfl rfl rfl rfl ?_;intro vq V S T U;have j:=(l.app S T U).adW;refine⟨j.C,?_⟩;simp only[Act.put,aF,aG,aH,aI,aK,aL];clear S T U l B;obtain⟨Y,Z,e⟩:=j.adX (m:=y.ins.length+1) (by simp);subst e;refine M5.Gn 19 (.agg #[.int .i64 (y.az+1),.int .i64 (y.ay+ay),.int .i64 (y.aQ+aw),.slice Y (y.ins.length+1) Z,.slice At I.length ct]) (by kernel_rfl) rfl (by kernel_rfl) rfl (fun _=>by go_simp) ?_;simp only[Act.put,aF,aG,aH,aI,aK,aL];exact ab D N E Y Z z _ _ (by kernel_rfl) j
  case akB=>intro D N E Y Z z w0 L;refine M5.oI (by kernel_rfl) (by kernel_rfl) fun r _ u=>?_;have l:=L.aa u;obtain⟨z0,z1,z2,z3,z4,f0,f1,f2,f3,f4,l0⟩:=l.akw;refine M3.fw (ZX r z (.int .i64 (y.az+1)) (.int .i64 (y.ay+ay)) (.int .i64 (y.aQ+aw)) (.slice Y (y.ins.length+1) Z) (.slice At I.length ct)) rfl rfl (by unfold ZX;go_simp) (bS _ _ ?_);simp only[Act.put,aF,aG,aH];exact HK.out _ _ _ _ _ _ _ _ _ _ _ _ _ _ _ _ _ _ _ _ _ _ (l.fin (by simp))
def Gp(W:World)(g:Nat)(v0 e j l p r u:Value):World:=(((((((W.setCell ⟨g,0,none⟩ v0).setCell ⟨g,1,none⟩ e).setCell ⟨g,2,none⟩ j).setCell ⟨g,3,none⟩ l).setCell ⟨g,4,none⟩ p).setCell ⟨g,5,none⟩ r).setCell ⟨g,6,none⟩ u)
def mL(W:World)(g:Nat)(v0 e j l p:Value):World:=(((((W.setCell ⟨g,0,none⟩ v0).setCell ⟨g,1,none⟩ e).setCell ⟨g,2,none⟩ j).setCell ⟨g,3,none⟩ l).setCell ⟨g,4,none⟩ p)
theorem OU(W:World)(g:Nat)(v0 e j l r u y:Value):W.grownBy (Gp W g v0 e j l r u y) (some g):=(bg (p:=⟨g,6,none⟩) (bg (p:=⟨g,5,none⟩) (bg (p:=⟨g,4,none⟩) (bg (p:=⟨g,3,none⟩) (bg (p:=⟨g,2,none⟩) (bg (p:=⟨g,1,none⟩) (bg (p:=⟨g,0,none⟩) (dX W (some g)) (.inl rfl) v0) (.inl rfl) e) (.inl rfl) j) (.inl rfl) l) (.inl rfl) r) (.inl rfl) u) (.inl rfl) y)
theorem Dp(W:World)(g:Nat)(v0 e j l r:Value):W.grownBy (mL W g v0 e j l r) (some g):=(bg (p:=⟨g,4,none⟩) (bg (p:=⟨g,3,none⟩) (bg (p:=⟨g,2,none⟩) (bg (p:=⟨g,1,none⟩) (bg (p:=⟨g,0,none⟩) (dX W (some g)) (.inl rfl) v0) (.inl rfl) e) (.inl rfl) j) (.inl rfl) l) (.inl rfl) r)
theorem Z4{W:World}{g:Nat}{t:TypeId}{z B D E F G I:Value}(h:ah W g t #[z,B,D,E,F,G,I])(v0 e j l p r u:Value):ah (Gp W g v0 e j l p r u) g t #[v0,e,j,l,p,r,u]:=by have y:=h.fill [v0,e,j,l,p,r,u] rfl;simp only[ir,atX,Nat.reduceAdd]at y;exact y
theorem MA{W:World}{g:Nat}{t:TypeId}{u y z B D:Value}(h:ah W g t #[u,y,z,B,D])(v0 e j l p:Value):ah (mL W g v0 e j l p) g t #[v0,e,j,l,p]:=by have r:=h.fill [v0,e,j,l,p] rfl;simp only[ir,atX,Nat.reduceAdd]at r;exact r
structure Ex(gs gn:Nat)(a w:World):Prop where
 os:w.os=a.os
 tape:w.tape=a.tape
 output:w.output=a.output
 size:a.heap.size<=w.heap.size
 block:∀q,q<a.heap.size->q≠gs->q≠gn->w.heap[q]?=a.heap[q]?
theorem Ex.refl(e j:Nat)(a:World):Ex e j a a:=⟨rfl,rfl,rfl,atN _,fun _ _ _ _=>rfl⟩
theorem Ex.jw(j l:Nat)(a:World):gH (Ex j l a):=fun w w' h e=>⟨e.os.trans h.os,e.tape.trans h.tape,e.output.trans h.output,at7 h.size e.size,fun q p r u=>(e.block q (by have:=h.size;omega)).trans (h.block q p r u)⟩
theorem Ex.grown{l p:Nat}{a w w':World}{row:Option Nat}(h:Ex l p a w)(j:w.grownBy w' row)(u:row=some l\/row=some p):Ex l p a w':=⟨j.os.trans h.os,j.tape.trans h.tape,j.output.trans h.output,at7 h.size j.size,fun q y z B=>(j.block q (by have:=h.size;omega) (fun e=>by rcases u with r|r<;>(rw[r]at e;injection e;omega))).trans (h.block q y z B)⟩
theorem Ex.cell{e j:Nat}{a w:World}(h:Ex e j a w){p:Addr}(l:p.block<a.heap.size)(r:p.block≠e)(u:p.block≠j):w.cell? p=a.cell? p:=auX (h.block _ l r u)
theorem ai.ex{y:Type}{r:y->List Value}{k:Nat}{a w:World}{z B:Nat}{A:Option Addr}{l:List y}(h:ai r k a a.heap.size A l)(D:Ex z B a w)(E:l≠[]->∀q off,A=some ⟨q,off,none⟩->q≠z/\q≠B):ai r k w w.heap.size A l:=fun u=>by obtain⟨q,off,e,F,G⟩:=h u;have:=E u q off e;have J:=D.size;exact⟨q,off,e,by omega,fun i x hi j v I=>(D.cell (p:=⟨q,off+i*k+j,none⟩) F this.1 this.2).trans (G i x hi j v I)⟩
theorem Ex.below{j l B:Nat}{z a w:World}(h:Ex j l a w)(e:Below B z a)(r:B<=a.heap.size)(u:B<=j)(y:B<=l):Below B z w:=⟨h.os.trans e.os,h.tape.trans e.tape,h.output.trans e.output,at7 e.size h.size,fun q p=>(h.block q (by omega) (by omega) (by omega)).trans (e.block q p)⟩
theorem Z5(R:Ending->World->Prop)(w W W1:World)(gy l r:Nat)(y:fC)(b:eU)(At:Option Addr)(E:Nat)(j:List Elem)(ay aO bj aw:Int)(ls:List cH)
  {x0 x1 x2 x3 x4 x5 x6 x7 x9 lJ lK lL lM CG lO mK lQ CH CI lR lT lU AR o6 qj B1 Hw Hx Hy qF qG qH Ff Dn AU qI qJ qK qL qM qN qO qP qQ qR qT qU qV qW qX qY qZ rb rf rh rp rq rr ru ry rz rA rB rC rD rE rF rG rH rI rJ rK rL rM rN rO rP rQ rR rS rT rU rV rW rX rY rZ se sf sg si sq sr su sw sx sy sB sD sF sG sH sI sJ sK sL sM sN sO sP sQ sR sS sT sU sV sW sX sY sZ td th tj tq tu tA tB tC tD tE tF tG tH tI tJ tK tL tM tN tO tP tQ tR tS tT tU tV tW tX tY tZ ua ud ue uf ug uh ui uj uk um uo uq ur uu uv uw ux uy uz uA uB uC uD uE uF uG uH uI uJ uK uL uM uN uO uP uQ uR uS uT uU uV uW uX uY uZ vd ve vg vh vk vn vr vt vu vv vw vx vy vz vA vB vC vD vE vF vG vH vI vJ vK vL vM vN vO vP vQ vR vS vT vU vV vW vX vY vZ wj wk wm wu wA wB wC wD wE wF wG wH wI wJ wK wL wM wN wO wP wQ wR wS wT wU wV wW wX wY wZ xa xc xd xe xf xg xh xi xk xl xm xn xo xp xq xr xt xu xv xw xx xy xz xA xB xC xD xE xF xG xH xI xJ xK xL xM xN xO xP xQ xR xS xT xU xV xW xX xY xZ ya yb ye yf yg yh yj yn yo yq yr yt yu yv yx yz yA yB yC yD yE yF yG yH yI yJ yK yL yM yN yO yP yQ yR yS yT yU yV yX yY yZ za ze zf zg zh zi zj zk zl zn zr zu zv zw zx zy zA zB zC zD zE zF zG zH zI zJ AV AW AX AY AZ Ba Bb Bc Bd Be Bf Bg Bh Bi Bj Bk Bl Bn Bo Bp zK zL:Value}
  (ae:Below w.heap.size w W) (bV:ah W gy 53 #[.int .i64 y.az,.int .i64 y.ay,.int .i64 y.aQ,.slice y.Ai y.ins.length y.ci,.slice y.At y.taken.length y.ct]) (cU:ah W l 27 #[.int .i64 0,.int .i64 0,.int .i64 0,.int .i64 0,.int .i64 0,.int .i64 0,.slice none 0 0]) (eB:ah W r 53 #[.int .i64 0,.int .i64 0,.int .i64 0,.slice none 0 0,.slice none 0 0]) (iy:w.heap.size<=l) (ku:w.heap.size<=r) (ab:l≠r) (dN:y.In W) (ht:ai aN 2 W W.heap.size At j) (li:y.ins.length<=100) (b6:-1000000000000000<=aw) (b7:aw<=1000000000000000) (b8:-1000000000000000<=ay) (b9:ay<=1000000000000000) (Kt:-1000000000000000<=y.ay) (Ku:y.ay<=1000000000000000) (Kv:-1000000000000000<=y.aQ) (Kw:y.aQ<=1000000000000000) (Ky:0<=y.az) (Kz:y.az<=1000) (hA:jO W b (b.c-bj-aw) ls 10000 W1) (HR:Hid (∀(A Ai:Option Addr) (c ci:Nat) (w':World),ai fV 3 w' w'.heap.size A (ls)->ai encI 1 w' w'.heap.size Ai (y.ins++[aO])->ai aN 2 w' w'.heap.size At j->Below w.heap.size w w'->R (.returned (.tuple #[.agg #[.int .i64 b.g,.int .i64 b.c,.int .i64 b.t,.int .i64 b.i,.int .i64 b.a,.int .i64 (b.c-bj-aw),.slice A (ls).length c],.agg #[.int .i64 (y.az+1),.int .i64 (y.ay+ay),.int .i64 (y.aQ+aw),.slice Ai (y.ins.length+1) ci,.slice At j.length E],.int .i64 0])) w')):
  Code.wp prog (Hv 44 (Ja Tryz.f49)) (bodyPost prog Tryz.f49 (R)) {tmps:=List.toArray (x0::x1::x2::x3::x4::x5::x6::x7::(.pointer (some ⟨gy,0,none⟩))::x9::lJ::lK::(.pointer (some ⟨l,0,none⟩))::(.pointer (some ⟨r,0,none⟩))::lL::lM::CG::lO::mK::lQ::CH::CI::lR::lT::lU::AR::o6::qj::(.int .i64 ay)::(.int .i64 aO)::B1::Hw::Hx::Hy::qF::qG::qH::(.int .i64 aw)::Ff::(.slice At j.length E)::Dn::(.pointer (some ⟨W.heap.size,0,none⟩))::AU::qI::qJ::qK::qL::qM::qN::qO::qP::qQ::qR::qT::qU::qV::qW::qX::qY::qZ::rb::rf::rh::rp::rq::rr::ru::ry::rz::rA::rB::rC::rD::rE::rF::rG::rH::rI::rJ::rK::rL::rM::rN::rO::rP::rQ::rR::rS::rT::rU::rV::rW::rX::rY::rZ::se::sf::sg::si::sq::sr::su::sw::sx::sy::sB::sD::sF::sG::sH::sI::sJ::sK::sL::sM::sN::sO::sP::sQ::sR::sS::sT::sU::sV::sW::sX::sY::sZ::td::th::tj::tq::tu::tA::tB::tC::tD::tE::tF::tG::tH::tI::tJ::tK::tL::tM::tN::tO::tP::tQ::tR::tS::tT::tU::tV::tW::tX::tY::tZ::ua::ud::ue::uf::ug::uh::ui::uj::uk::um::uo::uq::ur::uu::uv::uw::ux::uy::uz::uA::uB::uC::uD::uE::uF::uG::uH::uI::uJ::uK::uL::uM::uN::uO::uP::uQ::uR::uS::uT::uU::uV::uW::uX::uY::uZ::vd::ve::vg::vh::vk::vn::vr::vt::vu::vv::vw::vx::vy::vz::vA::vB::vC::vD::vE::vF::vG::vH::vI::vJ::vK::vL::vM::vN::vO::vP::vQ::vR::vS::vT::vU::vV::vW::vX::vY::vZ::wj::wk::wm::wu::wA::wB::wC::wD::wE::wF::wG::wH::wI::wJ::wK::wL::wM::wN::wO::wP::wQ::wR::wS::wT::wU::wV::wW::wX::wY::wZ::xa::xc::xd::xe::xf::xg::xh::xi::xk::xl::xm::xn::xo::xp::xq::xr::xt::xu::xv::xw::xx::xy::xz::xA::xB::xC::xD::xE::xF::xG::xH::xI::xJ::xK::xL::xM::xN::xO::xP::xQ::xR::xS::xT::xU::xV::xW::xX::xY::xZ::ya::yb::ye::yf::yg::yh::yj::yn::yo::yq::yr::yt::yu::yv::yx::yz::yA::yB::yC::yD::yE::yF::yG::yH::yI::yJ::yK::yL::yM::yN::yO::yP::yQ::yR::yS::yT::yU::yV::yX::yY::yZ::za::ze::zf::zg::zh::zi::zj::zk::zl::zn::zr::zu::zv::zw::zx::zy::zA::zB::zC::zD::zE::zF::zG::zH::zI::zJ::AV::AW::AX::AY::AZ::Ba::Bb::Bc::Bd::Be::Bf::Bg::Bh::Bi::Bj::Bk::Bl::Bn::Bo::Bp::zK::zL::[]),defers:=[]} W1:=by
 conv=>enter [2];whnf
 refine ei fun K Y=>?_;refine akz W W1 gy y b At E j ay aO bj aw ls K _ bV dN li b6 b7 b8 b9 Kt Ku Kv Kw Ky Kz hA ?_;intro Z1 aD aJ aR aS aT aU aV aX aY aZ a7 a8 a9 bb bc be bi bk bl bm u hcut;refine Y.out _ _ ?_;obtain⟨v,B,G,J,rfl,hS,z,O,Z,hq,KA⟩:=hcut;clear Y K hA;obtain⟨I,L,rfl,_,_,_⟩:=z.form eD;have Fg:=cU.lt;have Fh:=eB.lt;have OV:=cU.below O Fg;have OW:=eB.below O Fh;have Q:W.heap.size≠l:=by omega
 have S:W.heap.size≠r:=by omega
 have Gq:B≠l:=by omega
 have Gr:B≠r:=by omega
 have iG:r≠l:=fun e=>ab e.symm;have E5:=atM OV;have RT:=atM OW;have HS:=atM hS;have HN:=atM Z;have T:=atM z;have HQ:=atM hq;have HT:=atM ht;have H1:=atM cU;have H2:=atM eB;refine ei fun K Y=>?_
 go_cut [14]from 410 to 411 (fun ao Z6=>ao=.int .i64 0/\Ex l r u Z6/\ah Z6 l 27 #[.int .i64 b.g,.int .i64 b.c,.int .i64 b.t,.int .i64 b.i,.int .i64 b.a,.int .i64 (b.c-bj-aw),.slice I ls.length L]/\ah Z6 r 53 #[.int .i64 (y.az+1),.int .i64 (y.ay+ay),.int .i64 (y.aQ+aw),.slice G (y.ins.length+1) J,.slice At j.length E])
 case first=>
  as_aux_lemma=>
   clear HR Y bV dN ht li ae cU eB z hq O E5 RT HS HN T HQ HT H1 H2;rw[at3]at Z;simp only[at4,aug,atX]at Z;refine M3.iN (C:=Ex l r u) (Ex.jw _ _ _) (Ex.refl _ _ _) (aE:=?aE) [0,1] 3 (by kernel_rfl) (by kernel_rfl) rfl (by kernel_rfl) (by kernel_rfl) (by rfl) ?H ?M
   case H=>
    intro F hF aC;simp only[M3.cL,atY,at0,at1];obtain⟨a0,a1,a2,a3,a4,a5,a6⟩:=hS.cz7;obtain⟨n0,n1,n2,n3,n4⟩:=Z.cz5;have U:=hS.lt;have l2:=Z.lt;have e0:∀p:aP (Ex l r u) F,p.w'.cell? ⟨W.heap.size,0,none⟩=some (.int .i64 b.g):=fun p=>(p.h.cell (p:=⟨W.heap.size,0,none⟩) U Q S).trans a0;have e1:∀p:aP (Ex l r u) F,p.w'.cell? ⟨W.heap.size,1,none⟩=some (.int .i64 b.c):=fun p=>(p.h.cell (p:=⟨W.heap.size,1,none⟩) U Q S).trans a1;have e2:∀p:aP (Ex l r u) F,p.w'.cell? ⟨W.heap.size,2,none⟩=some (.int .i64 b.t):=fun p=>(p.h.cell (p:=⟨W.heap.size,2,none⟩) U Q S).trans a2;have e3:∀p:aP (Ex l r u) F,p.w'.cell? ⟨W.heap.size,3,none⟩=some (.int .i64 b.i):=fun p=>(p.h.cell (p:=⟨W.heap.size,3,none⟩) U Q S).trans a3;have e4:∀p:aP (Ex l r u) F,p.w'.cell? ⟨W.heap.size,4,none⟩=some (.int .i64 b.a):=fun p=>(p.h.cell (p:=⟨W.heap.size,4,none⟩) U Q S).trans a4;have e5:∀p:aP (Ex l r u) F,p.w'.cell? ⟨W.heap.size,5,none⟩=some (.int .i64 (b.c-bj-aw)):=fun p=>(p.h.cell (p:=⟨W.heap.size,5,none⟩) U Q S).trans a5;have e6:∀p:aP (Ex l r u) F,p.w'.cell? ⟨W.heap.size,6,none⟩=some (.slice I ls.length L):=fun p=>(p.h.cell (p:=⟨W.heap.size,6,none⟩) U Q S).trans a6;have d0:∀p:aP (Ex l r u) F,p.w'.cell? ⟨B,0,none⟩=some (.int .i64 (y.az+1)):=fun p=>(p.h.cell (p:=⟨B,0,none⟩) l2 Gq Gr).trans n0;have d1:∀p:aP (Ex l r u) F,p.w'.cell? ⟨B,1,none⟩=some (.int .i64 (y.ay+ay)):=fun p=>(p.h.cell (p:=⟨B,1,none⟩) l2 Gq Gr).trans n1;have d2:∀p:aP (Ex l r u) F,p.w'.cell? ⟨B,2,none⟩=some (.int .i64 (y.aQ+aw)):=fun p=>(p.h.cell (p:=⟨B,2,none⟩) l2 Gq Gr).trans n2;have d3:∀p:aP (Ex l r u) F,p.w'.cell? ⟨B,3,none⟩=some (.slice G (y.ins.length+1) J):=fun p=>(p.h.cell (p:=⟨B,3,none⟩) l2 Gq Gr).trans n3;have d4:∀p:aP (Ex l r u) F,p.w'.cell? ⟨B,4,none⟩=some (.slice At j.length E):=fun p=>(p.h.cell (p:=⟨B,4,none⟩) l2 Gq Gr).trans n4;clear a0 a1 a2 a3 a4 a5 a6 n0 n1 n2 n3 n4
    repeat(first|go_big_quiet_step(fail))
    refine wpQuiet_nil ?_;rfl
   case M=>
    intro Q0 bS;refine M3.bQ [2] (by kernel_rfl) (by simp) ?_;intro w1 ba ad i hi;simp only[bY,bZ,atU]at hi;subst hi;have D:=OV.aa ad;have o7:=OW.aa ad;obtain⟨q0,q1,q2,q3,q4,q5,q6⟩:=D.cz7;obtain⟨j5,j6,j7,kx,ky,oJ,oK⟩:=D.fz7;have l3:=D.lt;refine M3.fw (Gp w1 l (.int .i64 b.g) (.int .i64 b.c) (.int .i64 b.t) (.int .i64 b.i) (.int .i64 b.a) (.int .i64 (b.c-bj-aw)) (.slice I ls.length L)) rfl rfl (by unfold Gp;go_simp) ⟨ba.grown (OU _ _ _ _ _ _ _ _ _) (.inl rfl),?_⟩;simp only[Act.put,aF,aG,aH];have V:=Z4 D (.int .i64 b.g) (.int .i64 b.c) (.int .i64 b.t) (.int .i64 b.i) (.int .i64 b.a) (.int .i64 (b.c-bj-aw)) (.slice I ls.length L);have zM:=o7.grown (OU w1 l (.int .i64 b.g) (.int .i64 b.c) (.int .i64 b.t) (.int .i64 b.i) (.int .i64 b.a) (.int .i64 (b.c-bj-aw)) (.slice I ls.length L)) (fun e=>iG (by injection e));clear q0 q1 q2 q3 q4 q5 q6 j5 j6 j7 kx ky oJ oK l3 D o7;generalize Gp w1 l (.int .i64 b.g) (.int .i64 b.c) (.int .i64 b.t) (.int .i64 b.i) (.int .i64 b.a) (.int .i64 (b.c-bj-aw)) (.slice I ls.length L)=w2 at V zM|-;refine M3.bQ [3] (by kernel_rfl) (by simp) ?_;intro w3 bW af i hi;simp only[bY,bZ,atU]at hi;subst hi;have ak:=V.aa af;have gC:=zM.aa af;obtain⟨q0,q1,q2,q3,q4⟩:=gC.cz5;obtain⟨j5,j6,j7,kx,ky⟩:=gC.fz5;have l3:=gC.lt;refine M3.fw (mL w3 r (.int .i64 (y.az+1)) (.int .i64 (y.ay+ay)) (.int .i64 (y.aQ+aw)) (.slice G (y.ins.length+1) J) (.slice At j.length E)) rfl rfl (by unfold mL;go_simp) ⟨bW.grown (Dp _ _ _ _ _ _ _) (.inr rfl),?_⟩;simp only[Act.put,aF,aG,aH];have BX:=MA gC (.int .i64 (y.az+1)) (.int .i64 (y.ay+ay)) (.int .i64 (y.aQ+aw)) (.slice G (y.ins.length+1) J) (.slice At j.length E);have dP:=ak.grown (Dp w3 r (.int .i64 (y.az+1)) (.int .i64 (y.ay+ay)) (.int .i64 (y.aQ+aw)) (.slice G (y.ins.length+1) J) (.slice At j.length E)) (fun e=>ab (by injection e));clear q0 q1 q2 q3 q4 j5 j6 j7 kx ky l3 ak gC V zM;generalize mL w3 r (.int .i64 (y.az+1)) (.int .i64 (y.ay+ay)) (.int .i64 (y.aQ+aw)) (.slice G (y.ins.length+1) J) (.slice At j.length E)=w4 at dP BX|-;refine M3.bQ [4] (by kernel_rfl) (by simp) ?_;intro w5 bD aM i hi;simp only[bY,bZ,atU]at hi;subst hi;refine M3.bH (.int .i64 0) w5 rfl rfl rfl ⟨bD,?_⟩;simp only[Act.put,aF,aG,aH,aI,aK,aL];refine M3.kI (by kernel_rfl) ?_;intro w6 fM bu;refine bS _ _ ?_;have aj:Value.int .i64 0=.int .i64 0/\Ex l r u w6/\ah w6 l 27 #[.int .i64 b.g,.int .i64 b.c,.int .i64 b.t,.int .i64 b.i,.int .i64 b.a,.int .i64 (b.c-bj-aw),.slice I ls.length L]/\ah w6 r 53 #[.int .i64 (y.az+1),.int .i64 (y.ay+ay),.int .i64 (y.aQ+aw),.slice G (y.ins.length+1) J,.slice At j.length E]:=⟨rfl,fM,(dP.aa aM).aa bu,(BX.aa aM).aa bu⟩
    have jm:=atM aj;clear aj dP BX;go_wp2_with fail;go_meet;exact⟨rfl,jm.out.2⟩
 obtain⟨rfl,hE,km,OX⟩:=hcut
 rename World=>N
 refine Y.out _ _ ?_;clear Y K OV OW hS Z;obtain⟨bo,bp,hv,al,OY,_⟩:=T.out.form eD;injection hv with MD ap X
 subst MD X;obtain⟨bq,br,hv,am,an,_⟩:=HQ.out.form iX;injection hv with MD av X
 subst MD X;have f1:ai fV 3 N N.heap.size I ls:=al.ex hE (fun _ q off e=>by have:=OY _ e;simp only at this;omega);have f2:ai encI 1 N N.heap.size G (y.ins++[aO]):=am.ex hE (fun _ q off e=>by have:=an _ e;simp only at this;omega);have f3:ai aN 2 N N.heap.size At j:=(HT.out.aa O).ex hE (fun hl q off e=>⟨HT.out.adT H1.out (by simp) q off e hl,HT.out.adT H2.out (by simp) q off e hl⟩);have f4:Below w.heap.size w N:=hE.below (aA ae O) (by have:=O.size;have:=ae.size;omega) iy ku;have ME:=atM (HR.out I G L J N f1 f2 f3 f4);obtain⟨q0,q1,q2,q3,q4,q5,q6⟩:=km.cz7;obtain⟨r0,r1,r2,r3,r4⟩:=OX.cz5;clear HR f1 f2 f3 f4 al am hE T HQ HT H1 H2 HS HN E5 RT km OX cU eB bV dN ht z hq O ae OY an ap av;go_wp2;refine at5 (v:=_) (by simp[results,results49,go_sem,q0,q1,q2,q3,q4,q5,q6,r0,r1,r2,r3,r4];rfl) rfl ?_;exact ME.out
theorem akK(R:Ending->World->Prop)(w W W1:World)(gy gs gn:Nat)(y:fC)(b:eU)(A5 A6 At:Option Addr)(c5 c6 ct:Nat)(cD cG before own fA gB after ab:List Elem)(left ay aO bj aw:Int)
  {x0 x1 x2 x3 x4 x5 x6 x7 x9 lJ lK lL lM CG lO mK lQ CH CI lR lT lU o6 qj B1 Hw Hx Hy qF qG qH AU qI qJ qK qL qM qN qO qP qQ qR qT qU qV qW qX qY qZ rb rf rh rp rq rr ru ry rz rA rB rC rD rE rF rG rH rI rJ rK rL rM rN rO rP rQ rR rS rT rU rV rW rX rY rZ se sf sg si sq sr su sw sx sy sB sD sF sG sH sI sJ sK sL sM sN sO sP sQ sR sS sT sU sV sW sX sY sZ td th tj tq tu tA tB tC tD tE tF tG tH tI tJ tK tL tM tN tO tP tQ tR tS tT tU tV tW tX tY tZ ua ud ue uf ug uh ui uj uk um uo uq ur uu uv uw ux uy uz uA uB uC uD uE uF uG uH uI uJ uK uL uM uN uO uP uQ uR uS uT uU uV uW uX uY uZ vd ve vg vh vk vn vr vt vu vv vw vx vy vz vA vB vC vD vE vF vG vH vI vJ vK vL vM vN vO vP vQ vR vS vT vU vV vW vX vY vZ wj wk wm wu wA wB wC wD wE wF wG wH wI wJ wK wL wM wN wO wP wQ wR wS wT wU wV wW wX wY wZ xa xc xd xe xf xg xh xi xk xl xm xn xo xp xq xr xt xu xv xw xx xy xz xA xB xC xD xE xF xG xH xI xJ xK xL xM xN xO xP xQ xR xS xT xU xV xW xX xY xZ ya yb ye yf yg yh yj yn yo yq yr yt yu yv yx yz yA yB yC yD yE yF yG yH yI yJ yK yL yM yN yO yP yQ yR yS yT yU yV yX yY yZ za ze zf zg zh zi zj zk zl zn zr zu zv zw zx zy zA zB zC zD zE zF zG zH zI zJ AV AW AX AY AZ Ba Bb Bc Bd Be Bf Bg Bh Bi Bj Bk Bl Bn Bo Bp zK zL:Value}
  (ae:Below w.heap.size w W) (bV:ah W gy 53 #[.int .i64 y.az,.int .i64 y.ay,.int .i64 y.aQ,.slice y.Ai y.ins.length y.ci,.slice y.At y.taken.length y.ct]) (cU:ah W gs 27 #[.int .i64 0,.int .i64 0,.int .i64 0,.int .i64 0,.int .i64 0,.int .i64 0,.slice none 0 0]) (eB:ah W gn 53 #[.int .i64 0,.int .i64 0,.int .i64 0,.slice none 0 0,.slice none 0 0]) (iy:w.heap.size<=gs) (ku:w.heap.size<=gn) (af:gs≠gn) (dN:y.In W) (ht:ai aN 2 W W.heap.size At ab) (li:y.ins.length<=100) (h5:ai aN 2 W W.heap.size A5 gB) (h6:ai aN 2 W W.heap.size A6 after) (l5:gB.length<=1000) (l6:after.length<=1000) (b0:-1000000000000000<=left) (b1:left<=1000000000000000) (b6:-1000000000000000<=aw) (b7:aw<=1000000000000000) (b8:-1000000000000000<=ay) (b9:ay<=1000000000000000) (Kt:-1000000000000000<=y.ay) (Ku:y.ay<=1000000000000000) (Kv:-1000000000000000<=y.aQ) (Kw:y.aQ<=1000000000000000) (Ky:0<=y.az) (Kz:y.az<=1000) (hA:jO W b (b.c-bj-aw) ([]++ag 1 cD++ag 2 cG++ag 3 before++ag 4 own++ag 5 fA) 5000 W1) (HR:Hid (∀(A Ai:Option Addr) (c ci:Nat) (w':World),ai fV 3 w' w'.heap.size A ([]++ag 1 cD++ag 2 cG++ag 3 before++ag 4 own++ag 5 fA++ag 6 [⟨⟨#[]⟩,aw⟩]++ag 7 gB++ag 8 after++ag 9 [⟨⟨#[]⟩,max left 0⟩]++ag 10 [⟨⟨#[]⟩,max (-left) 0⟩])->ai encI 1 w' w'.heap.size Ai (y.ins++[aO])->ai aN 2 w' w'.heap.size At ab->Below w.heap.size w w'->R (.returned (.tuple #[.agg #[.int .i64 b.g,.int .i64 b.c,.int .i64 b.t,.int .i64 b.i,.int .i64 b.a,.int .i64 (b.c-bj-aw),.slice A ([]++ag 1 cD++ag 2 cG++ag 3 before++ag 4 own++ag 5 fA++ag 6 [⟨⟨#[]⟩,aw⟩]++ag 7 gB++ag 8 after++ag 9 [⟨⟨#[]⟩,max left 0⟩]++ag 10 [⟨⟨#[]⟩,max (-left) 0⟩]).length c],.agg #[.int .i64 (y.az+1),.int .i64 (y.ay+ay),.int .i64 (y.aQ+aw),.slice Ai (y.ins.length+1) ci,.slice At ab.length ct],.int .i64 0])) w')):
  Code.wp prog (Hv 39 (Ja Tryz.f49)) (bodyPost prog Tryz.f49 (R)) {tmps:=List.toArray (x0::x1::x2::x3::x4::x5::x6::x7::(.pointer (some ⟨gy,0,none⟩))::x9::lJ::lK::(.pointer (some ⟨gs,0,none⟩))::(.pointer (some ⟨gn,0,none⟩))::lL::lM::CG::lO::mK::lQ::CH::CI::lR::lT::lU::(.int .i64 left)::o6::qj::(.int .i64 ay)::(.int .i64 aO)::B1::Hw::Hx::Hy::qF::qG::qH::(.int .i64 aw)::(.slice A5 gB.length c5)::(.slice At ab.length ct)::(.slice A6 after.length c6)::(.pointer (some ⟨W.heap.size,0,none⟩))::AU::qI::qJ::qK::qL::qM::qN::qO::qP::qQ::qR::qT::qU::qV::qW::qX::qY::qZ::rb::rf::rh::rp::rq::rr::ru::ry::rz::rA::rB::rC::rD::rE::rF::rG::rH::rI::rJ::rK::rL::rM::rN::rO::rP::rQ::rR::rS::rT::rU::rV::rW::rX::rY::rZ::se::sf::sg::si::sq::sr::su::sw::sx::sy::sB::sD::sF::sG::sH::sI::sJ::sK::sL::sM::sN::sO::sP::sQ::sR::sS::sT::sU::sV::sW::sX::sY::sZ::td::th::tj::tq::tu::tA::tB::tC::tD::tE::tF::tG::tH::tI::tJ::tK::tL::tM::tN::tO::tP::tQ::tR::tS::tT::tU::tV::tW::tX::tY::tZ::ua::ud::ue::uf::ug::uh::ui::uj::uk::um::uo::uq::ur::uu::uv::uw::ux::uy::uz::uA::uB::uC::uD::uE::uF::uG::uH::uI::uJ::uK::uL::uM::uN::uO::uP::uQ::uR::uS::uT::uU::uV::uW::uX::uY::uZ::vd::ve::vg::vh::vk::vn::vr::vt::vu::vv::vw::vx::vy::vz::vA::vB::vC::vD::vE::vF::vG::vH::vI::vJ::vK::vL::vM::vN::vO::vP::vQ::vR::vS::vT::vU::vV::vW::vX::vY::vZ::wj::wk::wm::wu::wA::wB::wC::wD::wE::wF::wG::wH::wI::wJ::wK::wL::wM::wN::wO::wP::wQ::wR::wS::wT::wU::wV::wW::wX::wY::wZ::xa::xc::xd::xe::xf::xg::xh::xi::xk::xl::xm::xn::xo::xp::xq::xr::xt::xu::xv::xw::xx::xy::xz::xA::xB::xC::xD::xE::xF::xG::xH::xI::xJ::xK::xL::xM::xN::xO::xP::xQ::xR::xS::xT::xU::xV::xW::xX::xY::xZ::ya::yb::ye::yf::yg::yh::yj::yn::yo::yq::yr::yt::yu::yv::yx::yz::yA::yB::yC::yD::yE::yF::yG::yH::yI::yJ::yK::yL::yM::yN::yO::yP::yQ::yR::yS::yT::yU::yV::yX::yY::yZ::za::ze::zf::zg::zh::zi::zj::zk::zl::zn::zr::zu::zv::zw::zx::zy::zA::zB::zC::zD::zE::zF::zG::zH::zI::zJ::AV::AW::AX::AY::AZ::Ba::Bb::Bc::Bd::Be::Bf::Bg::Bh::Bi::Bj::Bk::Bl::Bn::Bo::Bp::zK::zL::[]),defers:=[]} W1:=by
 conv=>enter [2];whnf
 refine ei fun K T=>?_
 go_cut []from 351 to 358 (fun wx=>jO W b (b.c-bj-aw) ([]++ag 1 cD++ag 2 cG++ag 3 before++ag 4 own++ag 5 fA++ag 6 [⟨⟨#[]⟩,aw⟩]) 6000 wx)
 case first=>
  as_aux_lemma=>
   obtain⟨v0,U,eK,dA,pM⟩:=hA;clear T;have lI:=mM 6 [⟨⟨#[]⟩,aw⟩];simp only[at4,aug]at lI;refine M5.iN (C:=M5.ck W v0) (M5.ck.jw _ _) (M5.ck.of dA U) (aE:=?C9) [0,1,2,3] 5 8 (by kernel_rfl) (by kernel_rfl) rfl (by kernel_rfl) (by rfl) ?H1 ?M1
   case H1=>
    intro F hF ad;simp only[M3.cL,atY,at0,at1];have e0:∀p:aP (M5.ck W v0) F,p.w'.cell? ⟨W.heap.size,6,none⟩=some v0:=fun p=>p.h.2.1
    repeat(first|go_big_quiet_step(fail))
    refine wpQuiet_nil ?_;rfl
   case M1=>
    intro Q0 bS;refine M5.dH 4 (by kernel_rfl) (by decide) ?_;intro D S r;have V:=U.aa r;have u:=eK.aa r;clear r U eK;have kz:=S.1.alloc S.1.size (.cells #[.string ⟨#[]⟩,.int .i64 aw] 69);have cu:=V.alloc (.cells #[.string ⟨#[]⟩,.int .i64 aw] 69);refine M3.bH (.slice (some ⟨D.heap.size,0,none⟩) 1 1) (D.alloc (.cells #[.string ⟨#[]⟩,.int .i64 aw] 69)) rfl rfl (by go_simp) ⟨M5.ck.of kz cu,?_⟩;simp only[Act.put,aF,aG,aH,aI,aK,aL];have Q:=ai.new dG D [⟨⟨#[]⟩,aw⟩] #[.string ⟨#[]⟩,.int .i64 aw] 69 rfl;rw[<-at2 D (.cells #[.string ⟨#[]⟩,.int .i64 aw] 69)]at Q;have j:=u.alloc (.cells #[.string ⟨#[]⟩,.int .i64 aw] 69);generalize D.heap.size=gA at Q|-;generalize D.alloc _=w2 at Q cu j|-;clear kz S;refine M5.dH 5 (by kernel_rfl) (by decide) ?_;intro w3 bW z;have fW:=cu.aa z;have jx:=j.aa z;have mN:=Q.aa z;clear z cu j Q;refine M3.iY 95 #[.int .i64 6,.slice (some ⟨gA,0,none⟩) 1 1] rfl rfl (by go_simp) ?_;refine(Dq 6 (some ⟨gA,0,none⟩) 1 [⟨⟨#[]⟩,aw⟩] _ mN (by simp)).mono ?_;rintro e w4 ⟨vl,rfl,gQ,l⟩;have X:=fW.aa l;have eE:=jx.aa l;refine⟨vl,rfl,M5.ck.of (bW.1.trans (l.mono bW.1.size)) X,?_⟩;simp only[Act.put,aF,aG,aH,aI,aK,aL];obtain⟨Al,cl,rfl,B,_,_⟩:=gQ.form eD;clear gQ l bW;refine M5.dH 6 (by kernel_rfl) (by decide) ?_;intro w5 E G;have dm:=X.aa G;have Y:=eE.aa G;have eC:=B.aa G;clear G X eE B;have dP:W.heap.size+1<=w5.heap.size:=E.2.2;refine M3.nW (.tmp 352) (.tmp 356) 25 cl 32 _ B0 underlying25 Y eC eD (by omega) rfl AP (by omega) (by omega) dP rfl rfl rfl rfl rfl rfl ?_;intro v5 w6 cA Z;have cK:=dm.grown Z (Y.Dm (by omega));refine⟨M5.ck.of (E.1.trans (ib Z E.1.size (fun q hq=>by have:=(Y.bR hq).1;omega))) cK,?_⟩;simp only[Act.put,aF,aG,aH,aI,aK,aL];clear Z eC E dP;refine M5.dH 7 (by kernel_rfl) (by decide) ?_;intro w7 cM bB;have fX:=cK.aa bB;have cN:=cA.aa bB;clear bB cK cA;refine M3.bH (.pointer (some ⟨W.heap.size,6,none⟩)) w7 rfl rfl (by go_simp) ⟨cM,?_⟩;simp only[Act.put,aF,aG,aH,aI,aK,aL];have eI:=cM.1;refine M5.oI (by kernel_rfl) (by kernel_rfl) ?_;intro w8 df bU;have I:=fX.aa bU;have J:=cN.aa bU;have fx:=df.1;have f6:=I.frozen 6;have z6:=df.2.1;have lS:=I.lt;obtain⟨L,M,eX,_,_,_⟩:=J.form eD;generalize ([]++ag 1 cD++ag 2 cG++ag 3 before++ag 4 own++ag 5 fA++ag 6 [⟨⟨#[]⟩,aw⟩]).length=N at eX;subst eX;refine M3.fw (w8.setCell ⟨W.heap.size,6,none⟩ (.slice L N M)) rfl rfl (by go_simp) ?_;simp only[Act.put,aF,aG,aH];clear f6 z6 lS cM df bU eI fX cN;have fQ:=fx.setCell (p:=⟨W.heap.size,6,none⟩) (atN _) (.slice L N M);have O:=I.eh 6 (.slice L N M);have ed:=J.setCell (p:=⟨W.heap.size,6,none⟩) (fun q hq=>by have:=(J.bR hq).1;show q≠W.heap.size;omega) (.slice L N M);simp only[aua,at9,at8]at O;generalize w8.setCell _ _=w9 at O ed fQ|-;refine bS _ _ ?_;have aj:jO W b (b.c-bj-aw) ([]++ag 1 cD++ag 2 cG++ag 3 before++ag 4 own++ag 5 fA++ag 6 [⟨⟨#[]⟩,aw⟩]) 6000 w9:=⟨_,O,ed,fQ,by rw[at3];omega⟩
    clear O ed I J;go_wp2_with fail;go_meet;exact aj
 clear hA;have hA:=hcut;clear hcut;refine T.out _ _ ?_;clear T K;refine ei fun K T=>?_
 go_cut []from 359 to 364 (fun wx=>jO W b (b.c-bj-aw) ([]++ag 1 cD++ag 2 cG++ag 3 before++ag 4 own++ag 5 fA++ag 6 [⟨⟨#[]⟩,aw⟩]++ag 7 gB) 7000 wx)
 case first=>
  as_aux_lemma=>
   obtain⟨v0,U,eK,dA,pM⟩:=hA;clear T;have lI:=mM 7 gB;refine M5.iN (C:=M5.ck W v0) (M5.ck.jw _ _) (M5.ck.of dA U) (aE:=?VD) [0,1,2] 4 6 (by kernel_rfl) (by kernel_rfl) rfl (by kernel_rfl) (by rfl) ?H2 ?M2
   case H2=>
    intro F hF ad;simp only[M3.cL,atY,at0,at1];have e0:∀p:aP (M5.ck W v0) F,p.w'.cell? ⟨W.heap.size,6,none⟩=some v0:=fun p=>p.h.2.1
    repeat(first|go_big_quiet_step(fail))
    refine wpQuiet_nil ?_;rfl
   case M2=>
    intro Q0 bS;refine M5.dH 3 (by kernel_rfl) (by decide) ?_;intro D S r;have V:=U.aa r;have u:=eK.aa r;clear r U eK;refine M3.iY 95 #[.int .i64 7,.slice A5 gB.length c5] rfl rfl (by go_simp) ?_;refine(Dq 7 A5 c5 gB _ (h5.aa S.1) (by omega)).mono ?_;rintro e w4 ⟨vl,rfl,gQ,l⟩;have X:=V.aa l;have eE:=u.aa l;refine⟨vl,rfl,M5.ck.of (S.1.trans (l.mono S.1.size)) X,?_⟩;simp only[Act.put,aF,aG,aH,aI,aK,aL];obtain⟨Al,cl,rfl,B,_,_⟩:=gQ.form eD;clear gQ l S;refine M5.dH 4 (by kernel_rfl) (by decide) ?_;intro w5 E G;have dm:=X.aa G;have Y:=eE.aa G;have eC:=B.aa G;clear G X eE B;have dP:W.heap.size+1<=w5.heap.size:=E.2.2;refine M3.nW (.tmp 360) (.tmp 362) 25 cl 32 _ B0 underlying25 Y eC eD (by omega) rfl AP (by omega) (by omega) dP rfl rfl rfl rfl rfl rfl ?_;intro v5 w6 cA Z;have cK:=dm.grown Z (Y.Dm (by omega));refine⟨M5.ck.of (E.1.trans (ib Z E.1.size (fun q hq=>by have:=(Y.bR hq).1;omega))) cK,?_⟩;simp only[Act.put,aF,aG,aH,aI,aK,aL];clear Z eC E dP;refine M5.dH 5 (by kernel_rfl) (by decide) ?_;intro w7 cM bB;have fX:=cK.aa bB;have cN:=cA.aa bB;clear bB cK cA;refine M3.bH (.pointer (some ⟨W.heap.size,6,none⟩)) w7 rfl rfl (by go_simp) ⟨cM,?_⟩;simp only[Act.put,aF,aG,aH,aI,aK,aL];have eI:=cM.1;refine M5.oI (by kernel_rfl) (by kernel_rfl) ?_;intro w8 df bU;have I:=fX.aa bU;have J:=cN.aa bU;have fx:=df.1;have f6:=I.frozen 6;have z6:=df.2.1;have lS:=I.lt;obtain⟨L,M,eX,_,_,_⟩:=J.form eD;generalize ([]++ag 1 cD++ag 2 cG++ag 3 before++ag 4 own++ag 5 fA++ag 6 [⟨⟨#[]⟩,aw⟩]++ag 7 gB).length=N at eX;subst eX;refine M3.fw (w8.setCell ⟨W.heap.size,6,none⟩ (.slice L N M)) rfl rfl (by go_simp) ?_;simp only[Act.put,aF,aG,aH];clear f6 z6 lS cM df bU eI fX cN;have fQ:=fx.setCell (p:=⟨W.heap.size,6,none⟩) (atN _) (.slice L N M);have O:=I.eh 6 (.slice L N M);have ed:=J.setCell (p:=⟨W.heap.size,6,none⟩) (fun q hq=>by have:=(J.bR hq).1;show q≠W.heap.size;omega) (.slice L N M);simp only[aua,at9,at8]at O;generalize w8.setCell _ _=w9 at O ed fQ|-;refine bS _ _ ?_;have aj:jO W b (b.c-bj-aw) ([]++ag 1 cD++ag 2 cG++ag 3 before++ag 4 own++ag 5 fA++ag 6 [⟨⟨#[]⟩,aw⟩]++ag 7 gB) 7000 w9:=⟨_,O,ed,fQ,by rw[at3];omega⟩
    clear O ed I J;go_wp2_with fail;go_meet;exact aj
 clear hA;have hA:=hcut;clear hcut;refine T.out _ _ ?_;clear T K;refine ei fun K T=>?_
 go_cut []from 365 to 370 (fun wx=>jO W b (b.c-bj-aw) ([]++ag 1 cD++ag 2 cG++ag 3 before++ag 4 own++ag 5 fA++ag 6 [⟨⟨#[]⟩,aw⟩]++ag 7 gB++ag 8 after) 8000 wx)
 case first=>
  as_aux_lemma=>
   obtain⟨v0,U,eK,dA,pM⟩:=hA;clear T;have lI:=mM 8 after;refine M5.iN (C:=M5.ck W v0) (M5.ck.jw _ _) (M5.ck.of dA U) (aE:=?aE3) [0,1,2] 4 6 (by kernel_rfl) (by kernel_rfl) rfl (by kernel_rfl) (by rfl) ?H3 ?M3
   case H3=>
    intro F hF ad;simp only[M3.cL,atY,at0,at1];have e0:∀p:aP (M5.ck W v0) F,p.w'.cell? ⟨W.heap.size,6,none⟩=some v0:=fun p=>p.h.2.1
    repeat(first|go_big_quiet_step(fail))
    refine wpQuiet_nil ?_;rfl
   case M3=>
    intro Q0 bS;refine M5.dH 3 (by kernel_rfl) (by decide) ?_;intro D S r;have V:=U.aa r;have u:=eK.aa r;clear r U eK;refine M3.iY 95 #[.int .i64 8,.slice A6 after.length c6] rfl rfl (by go_simp) ?_;refine(Dq 8 A6 c6 after _ (h6.aa S.1) (by omega)).mono ?_;rintro e w4 ⟨vl,rfl,gQ,l⟩;have X:=V.aa l;have eE:=u.aa l;refine⟨vl,rfl,M5.ck.of (S.1.trans (l.mono S.1.size)) X,?_⟩;simp only[Act.put,aF,aG,aH,aI,aK,aL];obtain⟨Al,cl,rfl,B,_,_⟩:=gQ.form eD;clear gQ l S;refine M5.dH 4 (by kernel_rfl) (by decide) ?_;intro w5 E G;have dm:=X.aa G;have Y:=eE.aa G;have eC:=B.aa G;clear G X eE B;have dP:W.heap.size+1<=w5.heap.size:=E.2.2;refine M3.nW (.tmp 366) (.tmp 368) 25 cl 32 _ B0 underlying25 Y eC eD (by omega) rfl AP (by omega) (by omega) dP rfl rfl rfl rfl rfl rfl ?_;intro v5 w6 cA Z;have cK:=dm.grown Z (Y.Dm (by omega));refine⟨M5.ck.of (E.1.trans (ib Z E.1.size (fun q hq=>by have:=(Y.bR hq).1;omega))) cK,?_⟩;simp only[Act.put,aF,aG,aH,aI,aK,aL];clear Z eC E dP;refine M5.dH 5 (by kernel_rfl) (by decide) ?_;intro w7 cM bB;have fX:=cK.aa bB;have cN:=cA.aa bB;clear bB cK cA;refine M3.bH (.pointer (some ⟨W.heap.size,6,none⟩)) w7 rfl rfl (by go_simp) ⟨cM,?_⟩;simp only[Act.put,aF,aG,aH,aI,aK,aL];have eI:=cM.1;refine M5.oI (by kernel_rfl) (by kernel_rfl) ?_;intro w8 df bU;have I:=fX.aa bU;have J:=cN.aa bU;have fx:=df.1;have f6:=I.frozen 6;have z6:=df.2.1;have lS:=I.lt;obtain⟨L,M,eX,_,_,_⟩:=J.form eD;generalize ([]++ag 1 cD++ag 2 cG++ag 3 before++ag 4 own++ag 5 fA++ag 6 [⟨⟨#[]⟩,aw⟩]++ag 7 gB++ag 8 after).length=N at eX;subst eX;refine M3.fw (w8.setCell ⟨W.heap.size,6,none⟩ (.slice L N M)) rfl rfl (by go_simp) ?_;simp only[Act.put,aF,aG,aH];clear f6 z6 lS cM df bU eI fX cN;have fQ:=fx.setCell (p:=⟨W.heap.size,6,none⟩) (atN _) (.slice L N M);have O:=I.eh 6 (.slice L N M);have ed:=J.setCell (p:=⟨W.heap.size,6,none⟩) (fun q hq=>by have:=(J.bR hq).1;show q≠W.heap.size;omega) (.slice L N M);simp only[aua,at9,at8]at O;generalize w8.setCell _ _=w9 at O ed fQ|-;refine bS _ _ ?_;have aj:jO W b (b.c-bj-aw) ([]++ag 1 cD++ag 2 cG++ag 3 before++ag 4 own++ag 5 fA++ag 6 [⟨⟨#[]⟩,aw⟩]++ag 7 gB++ag 8 after) 8000 w9:=⟨_,O,ed,fQ,by rw[at3];omega⟩
    clear O ed I J;go_wp2_with fail;go_meet;exact aj
 clear hA;have hA:=hcut;clear hcut;refine T.out _ _ ?_;clear T K;rcases(show 0<left\/left=0\/left<0 by omega)with hl|hl|hl
 ·have e1:max left 0=left:=by omega
  have e2:max (-left) 0=0:=by omega
  rw[e1,e2]at HR;clear e1 e2;refine ei fun K T=>?_
  go_cut []from 371 to 379 (fun wx=>jO W b (b.c-bj-aw) ([]++ag 1 cD++ag 2 cG++ag 3 before++ag 4 own++ag 5 fA++ag 6 [⟨⟨#[]⟩,aw⟩]++ag 7 gB++ag 8 after++ag 9 [⟨⟨#[]⟩,left⟩]) 9000 wx)
  case first=>
   as_aux_lemma=>
    obtain⟨v0,U,eK,dA,pM⟩:=hA;clear T;have lI:=mM 9 [⟨⟨#[]⟩,left⟩];simp only[at4,aug]at lI;refine M5.iN (C:=M5.ck W v0) (M5.ck.jw _ _) (M5.ck.of dA U) (aE:=?aE4) [0,1,2,3,4] 5 9 (by kernel_rfl) (by kernel_rfl) rfl (by kernel_rfl) (by rfl) ?H4 ?M4
    case H4=>
     intro F hF ad;simp only[M3.cL,atY,at0,at1];have e0:∀p:aP (M5.ck W v0) F,p.w'.cell? ⟨W.heap.size,6,none⟩=some v0:=fun p=>p.h.2.1
     repeat(first|go_big_quiet_step(fail))
     refine wpQuiet_nil ?_;rfl
    case M4=>
     intro Q0 bS;refine M5.dH 5 (by kernel_rfl) (by decide) ?_;intro D S r;have V:=U.aa r;have u:=eK.aa r;clear r U eK;have kz:=S.1.alloc S.1.size (.cells #[.string ⟨#[]⟩,.int .i64 left] 69);have cu:=V.alloc (.cells #[.string ⟨#[]⟩,.int .i64 left] 69);refine M3.bH (.slice (some ⟨D.heap.size,0,none⟩) 1 1) (D.alloc (.cells #[.string ⟨#[]⟩,.int .i64 left] 69)) rfl rfl (by go_simp) ⟨M5.ck.of kz cu,?_⟩;simp only[Act.put,aF,aG,aH,aI,aK,aL];have Q:=ai.new dG D [⟨⟨#[]⟩,left⟩] #[.string ⟨#[]⟩,.int .i64 left] 69 rfl;rw[<-at2 D (.cells #[.string ⟨#[]⟩,.int .i64 left] 69)]at Q;have j:=u.alloc (.cells #[.string ⟨#[]⟩,.int .i64 left] 69);generalize D.heap.size=gA at Q|-;generalize D.alloc _=w2 at Q cu j|-;clear kz S;refine M5.dH 6 (by kernel_rfl) (by decide) ?_;intro w3 bW z;have fW:=cu.aa z;have jx:=j.aa z;have mN:=Q.aa z;clear z cu j Q;refine M3.iY 95 #[.int .i64 9,.slice (some ⟨gA,0,none⟩) 1 1] rfl rfl (by go_simp) ?_;refine(Dq 9 (some ⟨gA,0,none⟩) 1 [⟨⟨#[]⟩,left⟩] _ mN (by simp)).mono ?_;rintro e w4 ⟨vl,rfl,gQ,l⟩;have X:=fW.aa l;have eE:=jx.aa l;refine⟨vl,rfl,M5.ck.of (bW.1.trans (l.mono bW.1.size)) X,?_⟩;simp only[Act.put,aF,aG,aH,aI,aK,aL];obtain⟨Al,cl,rfl,B,_,_⟩:=gQ.form eD;clear gQ l bW;refine M5.dH 7 (by kernel_rfl) (by decide) ?_;intro w5 E G;have dm:=X.aa G;have Y:=eE.aa G;have eC:=B.aa G;clear G X eE B;have dP:W.heap.size+1<=w5.heap.size:=E.2.2;refine M3.nW (.tmp 372) (.tmp 377) 25 cl 32 _ B0 underlying25 Y eC eD (by omega) rfl AP (by omega) (by omega) dP rfl rfl rfl rfl rfl rfl ?_;intro v5 w6 cA Z;have cK:=dm.grown Z (Y.Dm (by omega));refine⟨M5.ck.of (E.1.trans (ib Z E.1.size (fun q hq=>by have:=(Y.bR hq).1;omega))) cK,?_⟩;simp only[Act.put,aF,aG,aH,aI,aK,aL];clear Z eC E dP;refine M5.dH 8 (by kernel_rfl) (by decide) ?_;intro w7 cM bB;have fX:=cK.aa bB;have cN:=cA.aa bB;clear bB cK cA;refine M3.bH (.pointer (some ⟨W.heap.size,6,none⟩)) w7 rfl rfl (by go_simp) ⟨cM,?_⟩;simp only[Act.put,aF,aG,aH,aI,aK,aL];have eI:=cM.1;refine M5.oI (by kernel_rfl) (by kernel_rfl) ?_;intro w8 df bU;have I:=fX.aa bU;have J:=cN.aa bU;have fx:=df.1;have f6:=I.frozen 6;have z6:=df.2.1;have lS:=I.lt;obtain⟨L,M,eX,_,_,_⟩:=J.form eD;generalize ([]++ag 1 cD++ag 2 cG++ag 3 before++ag 4 own++ag 5 fA++ag 6 [⟨⟨#[]⟩,aw⟩]++ag 7 gB++ag 8 after++ag 9 [⟨⟨#[]⟩,left⟩]).length=N at eX;subst eX;refine M3.fw (w8.setCell ⟨W.heap.size,6,none⟩ (.slice L N M)) rfl rfl (by go_simp) ?_;simp only[Act.put,aF,aG,aH];clear f6 z6 lS cM df bU eI fX cN;have fQ:=fx.setCell (p:=⟨W.heap.size,6,none⟩) (atN _) (.slice L N M);have O:=I.eh 6 (.slice L N M);have ed:=J.setCell (p:=⟨W.heap.size,6,none⟩) (fun q hq=>by have:=(J.bR hq).1;show q≠W.heap.size;omega) (.slice L N M);simp only[aua,at9,at8]at O;generalize w8.setCell _ _=w9 at O ed fQ|-;refine bS _ _ ?_;have aj:jO W b (b.c-bj-aw) ([]++ag 1 cD++ag 2 cG++ag 3 before++ag 4 own++ag 5 fA++ag 6 [⟨⟨#[]⟩,aw⟩]++ag 7 gB++ag 8 after++ag 9 [⟨⟨#[]⟩,left⟩]) 9000 w9:=⟨_,O,ed,fQ,by rw[at3];omega⟩
     clear O ed I J;go_wp2_with fail;go_meet;exact aj
  clear hA;have hA:=hcut;clear hcut;refine T.out _ _ ?_;clear T K;refine ei fun K T=>?_
  go_cut []from 380 to 389 (fun wx=>jO W b (b.c-bj-aw) ([]++ag 1 cD++ag 2 cG++ag 3 before++ag 4 own++ag 5 fA++ag 6 [⟨⟨#[]⟩,aw⟩]++ag 7 gB++ag 8 after++ag 9 [⟨⟨#[]⟩,left⟩]++ag 10 [⟨⟨#[]⟩,0⟩]) 10000 wx)
  case first=>
   as_aux_lemma=>
    obtain⟨v0,U,eK,dA,pM⟩:=hA;clear T;have lI:=mM 10 [⟨⟨#[]⟩,0⟩];simp only[at4,aug]at lI;refine M5.iN (C:=M5.ck W v0) (M5.ck.jw _ _) (M5.ck.of dA U) (aE:=?aE5) [0,1,2,3,4,5] 5 10 (by kernel_rfl) (by kernel_rfl) rfl (by kernel_rfl) (by rfl) ?H5 ?M5
    case H5=>
     intro F hF ad;simp only[M3.cL,atY,at0,at1];have e0:∀p:aP (M5.ck W v0) F,p.w'.cell? ⟨W.heap.size,6,none⟩=some v0:=fun p=>p.h.2.1
     repeat(first|go_big_quiet_step(fail))
     refine wpQuiet_nil ?_;rfl
    case M5=>
     intro Q0 bS;refine M5.dH 6 (by kernel_rfl) (by decide) ?_;intro D S r;have V:=U.aa r;have u:=eK.aa r;clear r U eK;have kz:=S.1.alloc S.1.size (.cells #[.string ⟨#[]⟩,.int .i64 0] 69);have cu:=V.alloc (.cells #[.string ⟨#[]⟩,.int .i64 0] 69);refine M3.bH (.slice (some ⟨D.heap.size,0,none⟩) 1 1) (D.alloc (.cells #[.string ⟨#[]⟩,.int .i64 0] 69)) rfl rfl (by go_simp) ⟨M5.ck.of kz cu,?_⟩;simp only[Act.put,aF,aG,aH,aI,aK,aL];have Q:=ai.new dG D [⟨⟨#[]⟩,0⟩] #[.string ⟨#[]⟩,.int .i64 0] 69 rfl;rw[<-at2 D (.cells #[.string ⟨#[]⟩,.int .i64 0] 69)]at Q;have j:=u.alloc (.cells #[.string ⟨#[]⟩,.int .i64 0] 69);generalize D.heap.size=gA at Q|-;generalize D.alloc _=w2 at Q cu j|-;clear kz S;refine M5.dH 7 (by kernel_rfl) (by decide) ?_;intro w3 bW z;have fW:=cu.aa z;have jx:=j.aa z;have mN:=Q.aa z;clear z cu j Q;refine M3.iY 95 #[.int .i64 10,.slice (some ⟨gA,0,none⟩) 1 1] rfl rfl (by go_simp) ?_;refine(Dq 10 (some ⟨gA,0,none⟩) 1 [⟨⟨#[]⟩,0⟩] _ mN (by simp)).mono ?_;rintro e w4 ⟨vl,rfl,gQ,l⟩;have X:=fW.aa l;have eE:=jx.aa l;refine⟨vl,rfl,M5.ck.of (bW.1.trans (l.mono bW.1.size)) X,?_⟩;simp only[Act.put,aF,aG,aH,aI,aK,aL];obtain⟨Al,cl,rfl,B,_,_⟩:=gQ.form eD;clear gQ l bW;refine M5.dH 8 (by kernel_rfl) (by decide) ?_;intro w5 E G;have dm:=X.aa G;have Y:=eE.aa G;have eC:=B.aa G;clear G X eE B;have dP:W.heap.size+1<=w5.heap.size:=E.2.2;refine M3.nW (.tmp 381) (.tmp 387) 25 cl 32 _ B0 underlying25 Y eC eD (by omega) rfl AP (by omega) (by omega) dP rfl rfl rfl rfl rfl rfl ?_;intro v5 w6 cA Z;have cK:=dm.grown Z (Y.Dm (by omega));refine⟨M5.ck.of (E.1.trans (ib Z E.1.size (fun q hq=>by have:=(Y.bR hq).1;omega))) cK,?_⟩;simp only[Act.put,aF,aG,aH,aI,aK,aL];clear Z eC E dP;refine M5.dH 9 (by kernel_rfl) (by decide) ?_;intro w7 cM bB;have fX:=cK.aa bB;have cN:=cA.aa bB;clear bB cK cA;refine M3.bH (.pointer (some ⟨W.heap.size,6,none⟩)) w7 rfl rfl (by go_simp) ⟨cM,?_⟩;simp only[Act.put,aF,aG,aH,aI,aK,aL];have eI:=cM.1;refine M5.oI (by kernel_rfl) (by kernel_rfl) ?_;intro w8 df bU;have I:=fX.aa bU;have J:=cN.aa bU;have fx:=df.1;have f6:=I.frozen 6;have z6:=df.2.1;have lS:=I.lt;obtain⟨L,M,eX,_,_,_⟩:=J.form eD;generalize ([]++ag 1 cD++ag 2 cG++ag 3 before++ag 4 own++ag 5 fA++ag 6 [⟨⟨#[]⟩,aw⟩]++ag 7 gB++ag 8 after++ag 9 [⟨⟨#[]⟩,left⟩]++ag 10 [⟨⟨#[]⟩,0⟩]).length=N at eX;subst eX;refine M3.fw (w8.setCell ⟨W.heap.size,6,none⟩ (.slice L N M)) rfl rfl (by go_simp) ?_;simp only[Act.put,aF,aG,aH];clear f6 z6 lS cM df bU eI fX cN;have fQ:=fx.setCell (p:=⟨W.heap.size,6,none⟩) (atN _) (.slice L N M);have O:=I.eh 6 (.slice L N M);have ed:=J.setCell (p:=⟨W.heap.size,6,none⟩) (fun q hq=>by have:=(J.bR hq).1;show q≠W.heap.size;omega) (.slice L N M);simp only[aua,at9,at8]at O;generalize w8.setCell _ _=w9 at O ed fQ|-;refine bS _ _ ?_;have aj:jO W b (b.c-bj-aw) ([]++ag 1 cD++ag 2 cG++ag 3 before++ag 4 own++ag 5 fA++ag 6 [⟨⟨#[]⟩,aw⟩]++ag 7 gB++ag 8 after++ag 9 [⟨⟨#[]⟩,left⟩]++ag 10 [⟨⟨#[]⟩,0⟩]) 10000 w9:=⟨_,O,ed,fQ,by rw[at3];omega⟩
     clear O ed I J;go_wp2_with fail;go_meet;exact aj
  clear hA;have hA:=hcut;clear hcut;refine T.out _ _ ?_;clear T K;exact Z5 R w W _ gy gs gn y b At ct ab ay aO bj aw _ ae bV cU eB iy ku af dN ht li b6 b7 b8 b9 Kt Ku Kv Kw Ky Kz hA HR
 ·subst hl;have e1:max (0:Int) 0=0:=by omega
  have e2:max (-(0:Int)) 0=0:=by omega
  rw[e1,e2]at HR;clear e1 e2;refine ei fun K T=>?_
  go_cut []from 371 to 379 (fun wx=>jO W b (b.c-bj-aw) ([]++ag 1 cD++ag 2 cG++ag 3 before++ag 4 own++ag 5 fA++ag 6 [⟨⟨#[]⟩,aw⟩]++ag 7 gB++ag 8 after++ag 9 [⟨⟨#[]⟩,0⟩]) 9000 wx)
  case first=>
   as_aux_lemma=>
    obtain⟨v0,U,eK,dA,pM⟩:=hA;clear T;have lI:=mM 9 [⟨⟨#[]⟩,0⟩];simp only[at4,aug]at lI;refine M5.iN (C:=M5.ck W v0) (M5.ck.jw _ _) (M5.ck.of dA U) (aE:=?aE6) [0,1,2,3,4] 5 9 (by kernel_rfl) (by kernel_rfl) rfl (by kernel_rfl) (by rfl) ?H6 ?M6
    case H6=>
     intro F hF ad;simp only[M3.cL,atY,at0,at1];have e0:∀p:aP (M5.ck W v0) F,p.w'.cell? ⟨W.heap.size,6,none⟩=some v0:=fun p=>p.h.2.1
     repeat(first|go_big_quiet_step(fail))
     refine wpQuiet_nil ?_;rfl
    case M6=>
     intro Q0 bS;refine M5.dH 5 (by kernel_rfl) (by decide) ?_;intro D S r;have V:=U.aa r;have u:=eK.aa r;clear r U eK;have kz:=S.1.alloc S.1.size (.cells #[.string ⟨#[]⟩,.int .i64 0] 69);have cu:=V.alloc (.cells #[.string ⟨#[]⟩,.int .i64 0] 69);refine M3.bH (.slice (some ⟨D.heap.size,0,none⟩) 1 1) (D.alloc (.cells #[.string ⟨#[]⟩,.int .i64 0] 69)) rfl rfl (by go_simp) ⟨M5.ck.of kz cu,?_⟩;simp only[Act.put,aF,aG,aH,aI,aK,aL];have Q:=ai.new dG D [⟨⟨#[]⟩,0⟩] #[.string ⟨#[]⟩,.int .i64 0] 69 rfl;rw[<-at2 D (.cells #[.string ⟨#[]⟩,.int .i64 0] 69)]at Q;have j:=u.alloc (.cells #[.string ⟨#[]⟩,.int .i64 0] 69);generalize D.heap.size=gA at Q|-;generalize D.alloc _=w2 at Q cu j|-;clear kz S;refine M5.dH 6 (by kernel_rfl) (by decide) ?_;intro w3 bW z;have fW:=cu.aa z;have jx:=j.aa z;have mN:=Q.aa z;clear z cu j Q;refine M3.iY 95 #[.int .i64 9,.slice (some ⟨gA,0,none⟩) 1 1] rfl rfl (by go_simp) ?_;refine(Dq 9 (some ⟨gA,0,none⟩) 1 [⟨⟨#[]⟩,0⟩] _ mN (by simp)).mono ?_;rintro e w4 ⟨vl,rfl,gQ,l⟩;have X:=fW.aa l;have eE:=jx.aa l;refine⟨vl,rfl,M5.ck.of (bW.1.trans (l.mono bW.1.size)) X,?_⟩;simp only[Act.put,aF,aG,aH,aI,aK,aL];obtain⟨Al,cl,rfl,B,_,_⟩:=gQ.form eD;clear gQ l bW;refine M5.dH 7 (by kernel_rfl) (by decide) ?_;intro w5 E G;have dm:=X.aa G;have Y:=eE.aa G;have eC:=B.aa G;clear G X eE B;have dP:W.heap.size+1<=w5.heap.size:=E.2.2;refine M3.nW (.tmp 372) (.tmp 377) 25 cl 32 _ B0 underlying25 Y eC eD (by omega) rfl AP (by omega) (by omega) dP rfl rfl rfl rfl rfl rfl ?_;intro v5 w6 cA Z;have cK:=dm.grown Z (Y.Dm (by omega));refine⟨M5.ck.of (E.1.trans (ib Z E.1.size (fun q hq=>by have:=(Y.bR hq).1;omega))) cK,?_⟩;simp only[Act.put,aF,aG,aH,aI,aK,aL];clear Z eC E dP;refine M5.dH 8 (by kernel_rfl) (by decide) ?_;intro w7 cM bB;have fX:=cK.aa bB;have cN:=cA.aa bB;clear bB cK cA;refine M3.bH (.pointer (some ⟨W.heap.size,6,none⟩)) w7 rfl rfl (by go_simp) ⟨cM,?_⟩;simp only[Act.put,aF,aG,aH,aI,aK,aL];have eI:=cM.1;refine M5.oI (by kernel_rfl) (by kernel_rfl) ?_;intro w8 df bU;have I:=fX.aa bU;have J:=cN.aa bU;have fx:=df.1;have f6:=I.frozen 6;have z6:=df.2.1;have lS:=I.lt;obtain⟨L,M,eX,_,_,_⟩:=J.form eD;generalize ([]++ag 1 cD++ag 2 cG++ag 3 before++ag 4 own++ag 5 fA++ag 6 [⟨⟨#[]⟩,aw⟩]++ag 7 gB++ag 8 after++ag 9 [⟨⟨#[]⟩,0⟩]).length=N at eX;subst eX;refine M3.fw (w8.setCell ⟨W.heap.size,6,none⟩ (.slice L N M)) rfl rfl (by go_simp) ?_;simp only[Act.put,aF,aG,aH];clear f6 z6 lS cM df bU eI fX cN;have fQ:=fx.setCell (p:=⟨W.heap.size,6,none⟩) (atN _) (.slice L N M);have O:=I.eh 6 (.slice L N M);have ed:=J.setCell (p:=⟨W.heap.size,6,none⟩) (fun q hq=>by have:=(J.bR hq).1;show q≠W.heap.size;omega) (.slice L N M);simp only[aua,at9,at8]at O;generalize w8.setCell _ _=w9 at O ed fQ|-;refine bS _ _ ?_;have aj:jO W b (b.c-bj-aw) ([]++ag 1 cD++ag 2 cG++ag 3 before++ag 4 own++ag 5 fA++ag 6 [⟨⟨#[]⟩,aw⟩]++ag 7 gB++ag 8 after++ag 9 [⟨⟨#[]⟩,0⟩]) 9000 w9:=⟨_,O,ed,fQ,by rw[at3];omega⟩
     clear O ed I J;go_wp2_with fail;go_meet;exact aj
  clear hA;have hA:=hcut;clear hcut;refine T.out _ _ ?_;clear T K;refine ei fun K T=>?_
  go_cut []from 380 to 389 (fun wx=>jO W b (b.c-bj-aw) ([]++ag 1 cD++ag 2 cG++ag 3 before++ag 4 own++ag 5 fA++ag 6 [⟨⟨#[]⟩,aw⟩]++ag 7 gB++ag 8 after++ag 9 [⟨⟨#[]⟩,0⟩]++ag 10 [⟨⟨#[]⟩,0⟩]) 10000 wx)
  case first=>
   as_aux_lemma=>
    obtain⟨v0,U,eK,dA,pM⟩:=hA;clear T;have lI:=mM 10 [⟨⟨#[]⟩,0⟩];simp only[at4,aug]at lI;refine M5.iN (C:=M5.ck W v0) (M5.ck.jw _ _) (M5.ck.of dA U) (aE:=?aE7) [0,1,2,3,4,5] 5 10 (by kernel_rfl) (by kernel_rfl) rfl (by kernel_rfl) (by rfl) ?H7 ?M7
    case H7=>
     intro F hF ad;simp only[M3.cL,atY,at0,at1];have e0:∀p:aP (M5.ck W v0) F,p.w'.cell? ⟨W.heap.size,6,none⟩=some v0:=fun p=>p.h.2.1
     repeat(first|go_big_quiet_step(fail))
     refine wpQuiet_nil ?_;rfl
    case M7=>
     intro Q0 bS;refine M5.dH 6 (by kernel_rfl) (by decide) ?_;intro D S r;have V:=U.aa r;have u:=eK.aa r;clear r U eK;have kz:=S.1.alloc S.1.size (.cells #[.string ⟨#[]⟩,.int .i64 0] 69);have cu:=V.alloc (.cells #[.string ⟨#[]⟩,.int .i64 0] 69);refine M3.bH (.slice (some ⟨D.heap.size,0,none⟩) 1 1) (D.alloc (.cells #[.string ⟨#[]⟩,.int .i64 0] 69)) rfl rfl (by go_simp) ⟨M5.ck.of kz cu,?_⟩;simp only[Act.put,aF,aG,aH,aI,aK,aL];have Q:=ai.new dG D [⟨⟨#[]⟩,0⟩] #[.string ⟨#[]⟩,.int .i64 0] 69 rfl;rw[<-at2 D (.cells #[.string ⟨#[]⟩,.int .i64 0] 69)]at Q;have j:=u.alloc (.cells #[.string ⟨#[]⟩,.int .i64 0] 69);generalize D.heap.size=gA at Q|-;generalize D.alloc _=w2 at Q cu j|-;clear kz S;refine M5.dH 7 (by kernel_rfl) (by decide) ?_;intro w3 bW z;have fW:=cu.aa z;have jx:=j.aa z;have mN:=Q.aa z;clear z cu j Q;refine M3.iY 95 #[.int .i64 10,.slice (some ⟨gA,0,none⟩) 1 1] rfl rfl (by go_simp) ?_;refine(Dq 10 (some ⟨gA,0,none⟩) 1 [⟨⟨#[]⟩,0⟩] _ mN (by simp)).mono ?_;rintro e w4 ⟨vl,rfl,gQ,l⟩;have X:=fW.aa l;have eE:=jx.aa l;refine⟨vl,rfl,M5.ck.of (bW.1.trans (l.mono bW.1.size)) X,?_⟩;simp only[Act.put,aF,aG,aH,aI,aK,aL];obtain⟨Al,cl,rfl,B,_,_⟩:=gQ.form eD;clear gQ l bW;refine M5.dH 8 (by kernel_rfl) (by decide) ?_;intro w5 E G;have dm:=X.aa G;have Y:=eE.aa G;have eC:=B.aa G;clear G X eE B;have dP:W.heap.size+1<=w5.heap.size:=E.2.2;refine M3.nW (.tmp 381) (.tmp 387) 25 cl 32 _ B0 underlying25 Y eC eD (by omega) rfl AP (by omega) (by omega) dP rfl rfl rfl rfl rfl rfl ?_;intro v5 w6 cA Z;have cK:=dm.grown Z (Y.Dm (by omega));refine⟨M5.ck.of (E.1.trans (ib Z E.1.size (fun q hq=>by have:=(Y.bR hq).1;omega))) cK,?_⟩;simp only[Act.put,aF,aG,aH,aI,aK,aL];clear Z eC E dP;refine M5.dH 9 (by kernel_rfl) (by decide) ?_;intro w7 cM bB;have fX:=cK.aa bB;have cN:=cA.aa bB;clear bB cK cA;refine M3.bH (.pointer (some ⟨W.heap.size,6,none⟩)) w7 rfl rfl (by go_simp) ⟨cM,?_⟩;simp only[Act.put,aF,aG,aH,aI,aK,aL];have eI:=cM.1;refine M5.oI (by kernel_rfl) (by kernel_rfl) ?_;intro w8 df bU;have I:=fX.aa bU;have J:=cN.aa bU;have fx:=df.1;have f6:=I.frozen 6;have z6:=df.2.1;have lS:=I.lt;obtain⟨L,M,eX,_,_,_⟩:=J.form eD;generalize ([]++ag 1 cD++ag 2 cG++ag 3 before++ag 4 own++ag 5 fA++ag 6 [⟨⟨#[]⟩,aw⟩]++ag 7 gB++ag 8 after++ag 9 [⟨⟨#[]⟩,0⟩]++ag 10 [⟨⟨#[]⟩,0⟩]).length=N at eX;subst eX;refine M3.fw (w8.setCell ⟨W.heap.size,6,none⟩ (.slice L N M)) rfl rfl (by go_simp) ?_;simp only[Act.put,aF,aG,aH];clear f6 z6 lS cM df bU eI fX cN;have fQ:=fx.setCell (p:=⟨W.heap.size,6,none⟩) (atN _) (.slice L N M);have O:=I.eh 6 (.slice L N M);have ed:=J.setCell (p:=⟨W.heap.size,6,none⟩) (fun q hq=>by have:=(J.bR hq).1;show q≠W.heap.size;omega) (.slice L N M);simp only[aua,at9,at8]at O;generalize w8.setCell _ _=w9 at O ed fQ|-;refine bS _ _ ?_;have aj:jO W b (b.c-bj-aw) ([]++ag 1 cD++ag 2 cG++ag 3 before++ag 4 own++ag 5 fA++ag 6 [⟨⟨#[]⟩,aw⟩]++ag 7 gB++ag 8 after++ag 9 [⟨⟨#[]⟩,0⟩]++ag 10 [⟨⟨#[]⟩,0⟩]) 10000 w9:=⟨_,O,ed,fQ,by rw[at3];omega⟩
     clear O ed I J;go_wp2_with fail;go_meet;exact aj
  clear hA;have hA:=hcut;clear hcut;refine T.out _ _ ?_;clear T K;exact Z5 R w W _ gy gs gn y b At ct ab ay aO bj aw _ ae bV cU eB iy ku af dN ht li b6 b7 b8 b9 Kt Ku Kv Kw Ky Kz hA HR
 ·have e1:max left 0=0:=by omega
  have e2:max (-left) 0=-left:=by omega
  rw[e1,e2]at HR;clear e1 e2;refine ei fun K T=>?_
  go_cut []from 371 to 379 (fun wx=>jO W b (b.c-bj-aw) ([]++ag 1 cD++ag 2 cG++ag 3 before++ag 4 own++ag 5 fA++ag 6 [⟨⟨#[]⟩,aw⟩]++ag 7 gB++ag 8 after++ag 9 [⟨⟨#[]⟩,0⟩]) 9000 wx)
  case first=>
   as_aux_lemma=>
    obtain⟨v0,U,eK,dA,pM⟩:=hA;clear T;have lI:=mM 9 [⟨⟨#[]⟩,0⟩];simp only[at4,aug]at lI;refine M5.iN (C:=M5.ck W v0) (M5.ck.jw _ _) (M5.ck.of dA U) (aE:=?aE8) [0,1,2,3,4] 5 9 (by kernel_rfl) (by kernel_rfl) rfl (by kernel_rfl) (by rfl) ?H8 ?M8
    case H8=>
     intro F hF ad;simp only[M3.cL,atY,at0,at1];have e0:∀p:aP (M5.ck W v0) F,p.w'.cell? ⟨W.heap.size,6,none⟩=some v0:=fun p=>p.h.2.1
     repeat(first|go_big_quiet_step(fail))
     refine wpQuiet_nil ?_;rfl
    case M8=>
     intro Q0 bS;refine M5.dH 5 (by kernel_rfl) (by decide) ?_;intro D S r;have V:=U.aa r;have u:=eK.aa r;clear r U eK;have kz:=S.1.alloc S.1.size (.cells #[.string ⟨#[]⟩,.int .i64 0] 69);have cu:=V.alloc (.cells #[.string ⟨#[]⟩,.int .i64 0] 69);refine M3.bH (.slice (some ⟨D.heap.size,0,none⟩) 1 1) (D.alloc (.cells #[.string ⟨#[]⟩,.int .i64 0] 69)) rfl rfl (by go_simp) ⟨M5.ck.of kz cu,?_⟩;simp only[Act.put,aF,aG,aH,aI,aK,aL];have Q:=ai.new dG D [⟨⟨#[]⟩,0⟩] #[.string ⟨#[]⟩,.int .i64 0] 69 rfl;rw[<-at2 D (.cells #[.string ⟨#[]⟩,.int .i64 0] 69)]at Q;have j:=u.alloc (.cells #[.string ⟨#[]⟩,.int .i64 0] 69);generalize D.heap.size=gA at Q|-;generalize D.alloc _=w2 at Q cu j|-;clear kz S;refine M5.dH 6 (by kernel_rfl) (by decide) ?_;intro w3 bW z;have fW:=cu.aa z;have jx:=j.aa z;have mN:=Q.aa z;clear z cu j Q;refine M3.iY 95 #[.int .i64 9,.slice (some ⟨gA,0,none⟩) 1 1] rfl rfl (by go_simp) ?_;refine(Dq 9 (some ⟨gA,0,none⟩) 1 [⟨⟨#[]⟩,0⟩] _ mN (by simp)).mono ?_;rintro e w4 ⟨vl,rfl,gQ,l⟩;have X:=fW.aa l;have eE:=jx.aa l;refine⟨vl,rfl,M5.ck.of (bW.1.trans (l.mono bW.1.size)) X,?_⟩;simp only[Act.put,aF,aG,aH,aI,aK,aL];obtain⟨Al,cl,rfl,B,_,_⟩:=gQ.form eD;clear gQ l bW;refine M5.dH 7 (by kernel_rfl) (by decide) ?_;intro w5 E G;have dm:=X.aa G;have Y:=eE.aa G;have eC:=B.aa G;clear G X eE B;have dP:W.heap.size+1<=w5.heap.size:=E.2.2;refine M3.nW (.tmp 372) (.tmp 377) 25 cl 32 _ B0 underlying25 Y eC eD (by omega) rfl AP (by omega) (by omega) dP rfl rfl rfl rfl rfl rfl ?_;intro v5 w6 cA Z;have cK:=dm.grown Z (Y.Dm (by omega));refine⟨M5.ck.of (E.1.trans (ib Z E.1.size (fun q hq=>by have:=(Y.bR hq).1;omega))) cK,?_⟩;simp only[Act.put,aF,aG,aH,aI,aK,aL];clear Z eC E dP;refine M5.dH 8 (by kernel_rfl) (by decide) ?_;intro w7 cM bB;have fX:=cK.aa bB;have cN:=cA.aa bB;clear bB cK cA;refine M3.bH (.pointer (some ⟨W.heap.size,6,none⟩)) w7 rfl rfl (by go_simp) ⟨cM,?_⟩;simp only[Act.put,aF,aG,aH,aI,aK,aL];have eI:=cM.1;refine M5.oI (by kernel_rfl) (by kernel_rfl) ?_;intro w8 df bU;have I:=fX.aa bU;have J:=cN.aa bU;have fx:=df.1;have f6:=I.frozen 6;have z6:=df.2.1;have lS:=I.lt;obtain⟨L,M,eX,_,_,_⟩:=J.form eD;generalize ([]++ag 1 cD++ag 2 cG++ag 3 before++ag 4 own++ag 5 fA++ag 6 [⟨⟨#[]⟩,aw⟩]++ag 7 gB++ag 8 after++ag 9 [⟨⟨#[]⟩,0⟩]).length=N at eX;subst eX;refine M3.fw (w8.setCell ⟨W.heap.size,6,none⟩ (.slice L N M)) rfl rfl (by go_simp) ?_;simp only[Act.put,aF,aG,aH];clear f6 z6 lS cM df bU eI fX cN;have fQ:=fx.setCell (p:=⟨W.heap.size,6,none⟩) (atN _) (.slice L N M);have O:=I.eh 6 (.slice L N M);have ed:=J.setCell (p:=⟨W.heap.size,6,none⟩) (fun q hq=>by have:=(J.bR hq).1;show q≠W.heap.size;omega) (.slice L N M);simp only[aua,at9,at8]at O;generalize w8.setCell _ _=w9 at O ed fQ|-;refine bS _ _ ?_;have aj:jO W b (b.c-bj-aw) ([]++ag 1 cD++ag 2 cG++ag 3 before++ag 4 own++ag 5 fA++ag 6 [⟨⟨#[]⟩,aw⟩]++ag 7 gB++ag 8 after++ag 9 [⟨⟨#[]⟩,0⟩]) 9000 w9:=⟨_,O,ed,fQ,by rw[at3];omega⟩
     clear O ed I J;go_wp2_with fail;go_meet;exact aj
  clear hA;have hA:=hcut;clear hcut;refine T.out _ _ ?_;clear T K;refine ei fun K T=>?_
  go_cut []from 380 to 389 (fun wx=>jO W b (b.c-bj-aw) ([]++ag 1 cD++ag 2 cG++ag 3 before++ag 4 own++ag 5 fA++ag 6 [⟨⟨#[]⟩,aw⟩]++ag 7 gB++ag 8 after++ag 9 [⟨⟨#[]⟩,0⟩]++ag 10 [⟨⟨#[]⟩,(-left)⟩]) 10000 wx)
  case first=>
   as_aux_lemma=>
    obtain⟨v0,U,eK,dA,pM⟩:=hA;clear T;have lI:=mM 10 [⟨⟨#[]⟩,(-left)⟩];simp only[at4,aug]at lI;refine M5.iN (C:=M5.ck W v0) (M5.ck.jw _ _) (M5.ck.of dA U) (aE:=?aE9) [0,1,2,3,4,5] 5 10 (by kernel_rfl) (by kernel_rfl) rfl (by kernel_rfl) (by rfl) ?H9 ?M9
    case H9=>
     intro F hF ad;simp only[M3.cL,atY,at0,at1];have e0:∀p:aP (M5.ck W v0) F,p.w'.cell? ⟨W.heap.size,6,none⟩=some v0:=fun p=>p.h.2.1
     repeat(first|go_big_quiet_step(fail))
     refine wpQuiet_nil ?_;rfl
    case M9=>
     intro Q0 bS;refine M5.dH 6 (by kernel_rfl) (by decide) ?_;intro D S r;have V:=U.aa r;have u:=eK.aa r;clear r U eK;have kz:=S.1.alloc S.1.size (.cells #[.string ⟨#[]⟩,.int .i64 (-left)] 69);have cu:=V.alloc (.cells #[.string ⟨#[]⟩,.int .i64 (-left)] 69);refine M3.bH (.slice (some ⟨D.heap.size,0,none⟩) 1 1) (D.alloc (.cells #[.string ⟨#[]⟩,.int .i64 (-left)] 69)) rfl rfl (by go_simp) ⟨M5.ck.of kz cu,?_⟩;simp only[Act.put,aF,aG,aH,aI,aK,aL];have Q:=ai.new dG D [⟨⟨#[]⟩,(-left)⟩] #[.string ⟨#[]⟩,.int .i64 (-left)] 69 rfl;rw[<-at2 D (.cells #[.string ⟨#[]⟩,.int .i64 (-left)] 69)]at Q;have j:=u.alloc (.cells #[.string ⟨#[]⟩,.int .i64 (-left)] 69);generalize D.heap.size=gA at Q|-;generalize D.alloc _=w2 at Q cu j|-;clear kz S;refine M5.dH 7 (by kernel_rfl) (by decide) ?_;intro w3 bW z;have fW:=cu.aa z;have jx:=j.aa z;have mN:=Q.aa z;clear z cu j Q;refine M3.iY 95 #[.int .i64 10,.slice (some ⟨gA,0,none⟩) 1 1] rfl rfl (by go_simp) ?_;refine(Dq 10 (some ⟨gA,0,none⟩) 1 [⟨⟨#[]⟩,(-left)⟩] _ mN (by simp)).mono ?_;rintro e w4 ⟨vl,rfl,gQ,l⟩;have X:=fW.aa l;have eE:=jx.aa l;refine⟨vl,rfl,M5.ck.of (bW.1.trans (l.mono bW.1.size)) X,?_⟩;simp only[Act.put,aF,aG,aH,aI,aK,aL];obtain⟨Al,cl,rfl,B,_,_⟩:=gQ.form eD;clear gQ l bW;refine M5.dH 8 (by kernel_rfl) (by decide) ?_;intro w5 E G;have dm:=X.aa G;have Y:=eE.aa G;have eC:=B.aa G;clear G X eE B;have dP:W.heap.size+1<=w5.heap.size:=E.2.2;refine M3.nW (.tmp 381) (.tmp 387) 25 cl 32 _ B0 underlying25 Y eC eD (by omega) rfl AP (by omega) (by omega) dP rfl rfl rfl rfl rfl rfl ?_;intro v5 w6 cA Z;have cK:=dm.grown Z (Y.Dm (by omega));refine⟨M5.ck.of (E.1.trans (ib Z E.1.size (fun q hq=>by have:=(Y.bR hq).1;omega))) cK,?_⟩;simp only[Act.put,aF,aG,aH,aI,aK,aL];clear Z eC E dP;refine M5.dH 9 (by kernel_rfl) (by decide) ?_;intro w7 cM bB;have fX:=cK.aa bB;have cN:=cA.aa bB;clear bB cK cA;refine M3.bH (.pointer (some ⟨W.heap.size,6,none⟩)) w7 rfl rfl (by go_simp) ⟨cM,?_⟩;simp only[Act.put,aF,aG,aH,aI,aK,aL];have eI:=cM.1;refine M5.oI (by kernel_rfl) (by kernel_rfl) ?_;intro w8 df bU;have I:=fX.aa bU;have J:=cN.aa bU;have fx:=df.1;have f6:=I.frozen 6;have z6:=df.2.1;have lS:=I.lt;obtain⟨L,M,eX,_,_,_⟩:=J.form eD;generalize ([]++ag 1 cD++ag 2 cG++ag 3 before++ag 4 own++ag 5 fA++ag 6 [⟨⟨#[]⟩,aw⟩]++ag 7 gB++ag 8 after++ag 9 [⟨⟨#[]⟩,0⟩]++ag 10 [⟨⟨#[]⟩,(-left)⟩]).length=N at eX;subst eX;refine M3.fw (w8.setCell ⟨W.heap.size,6,none⟩ (.slice L N M)) rfl rfl (by go_simp) ?_;simp only[Act.put,aF,aG,aH];clear f6 z6 lS cM df bU eI fX cN;have fQ:=fx.setCell (p:=⟨W.heap.size,6,none⟩) (atN _) (.slice L N M);have O:=I.eh 6 (.slice L N M);have ed:=J.setCell (p:=⟨W.heap.size,6,none⟩) (fun q hq=>by have:=(J.bR hq).1;show q≠W.heap.size;omega) (.slice L N M);simp only[aua,at9,at8]at O;generalize w8.setCell _ _=w9 at O ed fQ|-;refine bS _ _ ?_;have aj:jO W b (b.c-bj-aw) ([]++ag 1 cD++ag 2 cG++ag 3 before++ag 4 own++ag 5 fA++ag 6 [⟨⟨#[]⟩,aw⟩]++ag 7 gB++ag 8 after++ag 9 [⟨⟨#[]⟩,0⟩]++ag 10 [⟨⟨#[]⟩,(-left)⟩]) 10000 w9:=⟨_,O,ed,fQ,by rw[at3];omega⟩
     clear O ed I J;go_wp2_with fail;go_meet;exact aj
  clear hA;have hA:=hcut;clear hcut;refine T.out _ _ ?_;clear T K;exact Z5 R w W _ gy gs gn y b At ct ab ay aO bj aw _ ae bV cU eB iy ku af dN ht li b6 b7 b8 b9 Kt Ku Kv Kw Ky Kz hA HR
theorem akL(R:Ending->World->Prop)(w W:World)(gy gs gn gb:Nat)(y:fC)(b:eU)(A0 A1 A2 A3 A4 A5 A6 At:Option Addr)(c0 c1 c2 c3 c4 c5 c6 ct:Nat)(cD cG before own fA gB after N:List Elem)(left ay aO bj aw:Int)
  {x0 x1 x2 x3 x4 x5 x6 x7 x9 lJ lK lL lM lO mK lQ lR lT lU o6 B1 qF qG qH Gs AU qI qJ qK qL qM qN qO qP qQ qR qT qU qV qW qX qY qZ rb rf rh rp rq rr ru ry rz rA rB rC rD rE rF rG rH rI rJ rK rL rM rN rO rP rQ rR rS rT rU rV rW rX rY rZ se sf sg si sq sr su sw sx sy sB sD sF sG sH sI sJ sK sL sM sN sO sP sQ sR sS sT sU sV sW sX sY sZ td th tj tq tu tA tB tC tD tE tF tG tH tI tJ tK tL tM tN tO tP tQ tR tS tT tU tV tW tX tY tZ ua ud ue uf ug uh ui uj uk um uo uq ur uu uv uw ux uy uz uA uB uC uD uE uF uG uH uI uJ uK uL uM uN uO uP uQ uR uS uT uU uV uW uX uY uZ vd ve vg vh vk vn vr vt vu vv vw vx vy vz vA vB vC vD vE vF vG vH vI vJ vK vL vM vN vO vP vQ vR vS vT vU vV vW vX vY vZ wj wk wm wu wA wB wC wD wE wF wG wH wI wJ wK wL wM wN wO wP wQ wR wS wT wU wV wW wX wY wZ xa xc xd xe xf xg xh xi xk xl xm xn xo xp xq xr xt xu xv xw xx xy xz xA xB xC xD xE xF xG xH xI xJ xK xL xM xN xO xP xQ xR xS xT xU xV xW xX xY xZ ya yb ye yf yg yh yj yn yo yq yr yt yu yv yx yz yA yB yC yD yE yF yG yH yI yJ yK yL yM yN yO yP yQ yR yS yT yU yV yX yY yZ za ze zf zg zh zi zj zk zl zn zr zu zv zw zx zy zA zB zC zD zE zF zG zH zI zJ AV AW AX AY AZ Ba Bb Bc Bd Be Bf Bg Bh Bi Bj Bk Bl Bn Bo Bp zK zL:Value}
  (ae:Below w.heap.size w W) (bV:ah W gy 53 #[.int .i64 y.az,.int .i64 y.ay,.int .i64 y.aQ,.slice y.Ai y.ins.length y.ci,.slice y.At y.taken.length y.ct]) (cU:ah W gs 27 #[.int .i64 0,.int .i64 0,.int .i64 0,.int .i64 0,.int .i64 0,.int .i64 0,.slice none 0 0]) (eB:ah W gn 53 #[.int .i64 0,.int .i64 0,.int .i64 0,.slice none 0 0,.slice none 0 0]) (iy:w.heap.size<=gs) (ku:w.heap.size<=gn) (ad:gs≠gn) (dN:y.In W) (ht:ai aN 2 W W.heap.size At N) (li:y.ins.length<=100) (eY:ah W gb 24 (nw b).toArray) (h0:ai aN 2 W W.heap.size A0 cD) (h1:ai aN 2 W W.heap.size A1 cG) (h2:ai aN 2 W W.heap.size A2 before) (h3:ai aN 2 W W.heap.size A3 own) (h4:ai aN 2 W W.heap.size A4 fA) (h5:ai aN 2 W W.heap.size A5 gB) (h6:ai aN 2 W W.heap.size A6 after) (l0:cD.length<=1000) (l1:cG.length<=1000) (l2:before.length<=1000) (l3:own.length<=1000) (l4:fA.length<=1000) (l5:gB.length<=1000) (l6:after.length<=1000) (b0:-1000000000000000<=left) (b1:left<=1000000000000000) (b2:-1000000000000000<=b.c) (b3:b.c<=1000000000000000) (b4:-1000000000000000<=bj) (b5:bj<=1000000000000000) (b6:-1000000000000000<=aw) (b7:aw<=1000000000000000) (b8:-1000000000000000<=ay) (b9:ay<=1000000000000000) (Kt:-1000000000000000<=y.ay) (Ku:y.ay<=1000000000000000) (Kv:-1000000000000000<=y.aQ) (Kw:y.aQ<=1000000000000000) (Ky:0<=y.az) (Kz:y.az<=1000) (HR:Hid (∀(A Ai:Option Addr) (c ci:Nat) (w':World),ai fV 3 w' w'.heap.size A ([]++ag 1 cD++ag 2 cG++ag 3 before++ag 4 own++ag 5 fA++ag 6 [⟨⟨#[]⟩,aw⟩]++ag 7 gB++ag 8 after++ag 9 [⟨⟨#[]⟩,max left 0⟩]++ag 10 [⟨⟨#[]⟩,max (-left) 0⟩])->ai encI 1 w' w'.heap.size Ai (y.ins++[aO])->ai aN 2 w' w'.heap.size At N->Below w.heap.size w w'->R (.returned (.tuple #[.agg #[.int .i64 b.g,.int .i64 b.c,.int .i64 b.t,.int .i64 b.i,.int .i64 b.a,.int .i64 (b.c-bj-aw),.slice A ([]++ag 1 cD++ag 2 cG++ag 3 before++ag 4 own++ag 5 fA++ag 6 [⟨⟨#[]⟩,aw⟩]++ag 7 gB++ag 8 after++ag 9 [⟨⟨#[]⟩,max left 0⟩]++ag 10 [⟨⟨#[]⟩,max (-left) 0⟩]).length c],.agg #[.int .i64 (y.az+1),.int .i64 (y.ay+ay),.int .i64 (y.aQ+aw),.slice Ai (y.ins.length+1) ci,.slice At N.length ct],.int .i64 0])) w')):
  Code.wp prog (Hv 33 (Ja Tryz.f49)) (bodyPost prog Tryz.f49 (R)) {tmps:=List.toArray (x0::x1::x2::x3::x4::x5::x6::x7::(.pointer (some ⟨gy,0,none⟩))::x9::lJ::lK::(.pointer (some ⟨gs,0,none⟩))::(.pointer (some ⟨gn,0,none⟩))::lL::lM::(.pointer (some ⟨gb,0,none⟩))::lO::mK::lQ::(.slice A0 cD.length c0)::(.slice A1 cG.length c1)::lR::lT::lU::(.int .i64 left)::o6::(.slice A2 before.length c2)::(.int .i64 ay)::(.int .i64 aO)::B1::(.slice A3 own.length c3)::(.slice A4 fA.length c4)::(.int .i64 bj)::qF::qG::qH::(.int .i64 aw)::(.slice A5 gB.length c5)::(.slice At N.length ct)::(.slice A6 after.length c6)::Gs::AU::qI::qJ::qK::qL::qM::qN::qO::qP::qQ::qR::qT::qU::qV::qW::qX::qY::qZ::rb::rf::rh::rp::rq::rr::ru::ry::rz::rA::rB::rC::rD::rE::rF::rG::rH::rI::rJ::rK::rL::rM::rN::rO::rP::rQ::rR::rS::rT::rU::rV::rW::rX::rY::rZ::se::sf::sg::si::sq::sr::su::sw::sx::sy::sB::sD::sF::sG::sH::sI::sJ::sK::sL::sM::sN::sO::sP::sQ::sR::sS::sT::sU::sV::sW::sX::sY::sZ::td::th::tj::tq::tu::tA::tB::tC::tD::tE::tF::tG::tH::tI::tJ::tK::tL::tM::tN::tO::tP::tQ::tR::tS::tT::tU::tV::tW::tX::tY::tZ::ua::ud::ue::uf::ug::uh::ui::uj::uk::um::uo::uq::ur::uu::uv::uw::ux::uy::uz::uA::uB::uC::uD::uE::uF::uG::uH::uI::uJ::uK::uL::uM::uN::uO::uP::uQ::uR::uS::uT::uU::uV::uW::uX::uY::uZ::vd::ve::vg::vh::vk::vn::vr::vt::vu::vv::vw::vx::vy::vz::vA::vB::vC::vD::vE::vF::vG::vH::vI::vJ::vK::vL::vM::vN::vO::vP::vQ::vR::vS::vT::vU::vV::vW::vX::vY::vZ::wj::wk::wm::wu::wA::wB::wC::wD::wE::wF::wG::wH::wI::wJ::wK::wL::wM::wN::wO::wP::wQ::wR::wS::wT::wU::wV::wW::wX::wY::wZ::xa::xc::xd::xe::xf::xg::xh::xi::xk::xl::xm::xn::xo::xp::xq::xr::xt::xu::xv::xw::xx::xy::xz::xA::xB::xC::xD::xE::xF::xG::xH::xI::xJ::xK::xL::xM::xN::xO::xP::xQ::xR::xS::xT::xU::xV::xW::xX::xY::xZ::ya::yb::ye::yf::yg::yh::yj::yn::yo::yq::yr::yt::yu::yv::yx::yz::yA::yB::yC::yD::yE::yF::yG::yH::yI::yJ::yK::yL::yM::yN::yO::yP::yQ::yR::yS::yT::yU::yV::yX::yY::yZ::za::ze::zf::zg::zh::zi::zj::zk::zl::zn::zr::zu::zv::zw::zx::zy::zA::zB::zC::zD::zE::zF::zG::zH::zI::zJ::AV::AW::AX::AY::AZ::Ba::Bb::Bc::Bd::Be::Bf::Bg::Bh::Bi::Bj::Bk::Bl::Bn::Bo::Bp::zK::zL::[]),defers:=[]} W:=by
 conv=>enter [2];whnf
 have eR:ah W gb 24 #[.int .i64 b.g,.int .i64 b.c,.int .i64 b.t,.int .i64 b.i,.int .i64 b.a]:=eY;obtain⟨z0,z1,z2,z3,z4⟩:=eR.cz5;have O:=ah.new W 27 #[.int .i64 b.g,.int .i64 b.c,.int .i64 b.t,.int .i64 b.i,.int .i64 b.a,.int .i64 (b.c-bj-aw),.slice none 0 0];have dA:=bC W (.cells #[.int .i64 b.g,.int .i64 b.c,.int .i64 b.t,.int .i64 b.i,.int .i64 b.a,.int .i64 (b.c-bj-aw),.slice none 0 0] 27);refine ei fun K Q=>?_;go_wp2_with fail;refine Q.out _ _ ?_;have hA:jO W b (b.c-bj-aw) [] 0 _:=⟨_,O,Own.cC _ _,dA,by simp⟩
 clear O dA z0 z1 z2 z3 z4 eR Q;generalize World.alloc W _=W1 at hA|-;refine ei fun K Q=>?_
 go_cut []from 321 to 326 (fun wx=>jO W b (b.c-bj-aw) ([]++ag 1 cD) 1000 wx)
 case first=>
  as_aux_lemma=>
   obtain⟨v0,O,eK,dA,pM⟩:=hA;clear Q;have lI:=mM 1 cD;refine M5.iN (C:=M5.ck W v0) (M5.ck.jw _ _) (M5.ck.of dA O) (aE:=?C9) [0,1,2] 4 6 (by kernel_rfl) (by kernel_rfl) rfl (by kernel_rfl) (by rfl) ?H1 ?M1
   case H1=>
    intro F hF ab;simp only[M3.cL,atY,at0,at1];have e0:∀p:aP (M5.ck W v0) F,p.w'.cell? ⟨W.heap.size,6,none⟩=some v0:=fun p=>p.h.2.1
    repeat(first|go_big_quiet_step(fail))
    refine wpQuiet_nil ?_;rfl
   case M1=>
    intro Q0 bS;refine M5.dH 3 (by kernel_rfl) (by decide) ?_;intro w1 z l;have S:=O.aa l;have r:=eK.aa l;clear l O eK;refine M3.iY 95 #[.int .i64 1,.slice A0 cD.length c0] rfl rfl (by go_simp) ?_;refine(Dq 1 A0 c0 cD _ (h0.aa z.1) (by omega)).mono ?_;rintro e w4 ⟨vl,rfl,gQ,j⟩;have T:=S.aa j;have eE:=r.aa j;refine⟨vl,rfl,M5.ck.of (z.1.trans (j.mono z.1.size)) T,?_⟩;simp only[Act.put,aF,aG,aH,aI,aK,aL];obtain⟨Al,cl,rfl,u,_,_⟩:=gQ.form eD;clear gQ j z;refine M5.dH 4 (by kernel_rfl) (by decide) ?_;intro w5 B D;have dm:=T.aa D;have U:=eE.aa D;have eC:=u.aa D;clear D T eE u;have dP:W.heap.size+1<=w5.heap.size:=B.2.2;refine M3.nW (.tmp 322) (.tmp 324) 25 cl 32 _ B0 underlying25 U eC eD (by omega) rfl AP (by omega) (by omega) dP rfl rfl rfl rfl rfl rfl ?_;intro v5 w6 cA V;have X:=dm.grown V (U.Dm (by omega));refine⟨M5.ck.of (B.1.trans (ib V B.1.size (fun q Y=>by have:=(U.bR Y).1;omega))) X,?_⟩;simp only[Act.put,aF,aG,aH,aI,aK,aL];clear V eC B dP;refine M5.dH 5 (by kernel_rfl) (by decide) ?_;intro w7 Z bB;have fX:=X.aa bB;have cN:=cA.aa bB;clear bB X cA;refine M3.bH (.pointer (some ⟨W.heap.size,6,none⟩)) w7 rfl rfl (by go_simp) ⟨Z,?_⟩;simp only[Act.put,aF,aG,aH,aI,aK,aL];have eI:=Z.1;refine M5.oI (by kernel_rfl) (by kernel_rfl) ?_;intro w8 df bU;have E:=fX.aa bU;have G:=cN.aa bU;have fx:=df.1;have f6:=E.frozen 6;have z6:=df.2.1;have lS:=E.lt;obtain⟨I,J,eX,_,_,_⟩:=G.form eD;generalize ([]++ag 1 cD).length=L at eX;subst eX;refine M3.fw (w8.setCell ⟨W.heap.size,6,none⟩ (.slice I L J)) rfl rfl (by go_simp) ?_;simp only[Act.put,aF,aG,aH];clear f6 z6 lS Z df bU eI fX cN;have fQ:=fx.setCell (p:=⟨W.heap.size,6,none⟩) (atN _) (.slice I L J);have M:=E.eh 6 (.slice I L J);have ed:=G.setCell (p:=⟨W.heap.size,6,none⟩) (fun q Y=>by have:=(G.bR Y).1;show q≠W.heap.size;omega) (.slice I L J);simp only[aua,at9,at8]at M;generalize w8.setCell _ _=w9 at M ed fQ|-;refine bS _ _ ?_;have aj:jO W b (b.c-bj-aw) ([]++ag 1 cD) 1000 w9:=⟨_,M,ed,fQ,by rw[at3];omega⟩
    clear M ed E G;go_wp2_with fail;go_meet;exact aj
 clear hA;have hA:=hcut;clear hcut;refine Q.out _ _ ?_;clear Q K;refine ei fun K Q=>?_
 go_cut []from 327 to 332 (fun wx=>jO W b (b.c-bj-aw) ([]++ag 1 cD++ag 2 cG) 2000 wx)
 case first=>
  as_aux_lemma=>
   obtain⟨v0,O,eK,dA,pM⟩:=hA;clear Q;have lI:=mM 2 cG;refine M5.iN (C:=M5.ck W v0) (M5.ck.jw _ _) (M5.ck.of dA O) (aE:=?VD) [0,1,2] 4 6 (by kernel_rfl) (by kernel_rfl) rfl (by kernel_rfl) (by rfl) ?H2 ?M2
   case H2=>
    intro F hF ab;simp only[M3.cL,atY,at0,at1];have e0:∀p:aP (M5.ck W v0) F,p.w'.cell? ⟨W.heap.size,6,none⟩=some v0:=fun p=>p.h.2.1
    repeat(first|go_big_quiet_step(fail))
    refine wpQuiet_nil ?_;rfl
   case M2=>
    intro Q0 bS;refine M5.dH 3 (by kernel_rfl) (by decide) ?_;intro w1 z l;have S:=O.aa l;have r:=eK.aa l;clear l O eK;refine M3.iY 95 #[.int .i64 2,.slice A1 cG.length c1] rfl rfl (by go_simp) ?_;refine(Dq 2 A1 c1 cG _ (h1.aa z.1) (by omega)).mono ?_;rintro e w4 ⟨vl,rfl,gQ,j⟩;have T:=S.aa j;have eE:=r.aa j;refine⟨vl,rfl,M5.ck.of (z.1.trans (j.mono z.1.size)) T,?_⟩;simp only[Act.put,aF,aG,aH,aI,aK,aL];obtain⟨Al,cl,rfl,u,_,_⟩:=gQ.form eD;clear gQ j z;refine M5.dH 4 (by kernel_rfl) (by decide) ?_;intro w5 B D;have dm:=T.aa D;have U:=eE.aa D;have eC:=u.aa D;clear D T eE u;have dP:W.heap.size+1<=w5.heap.size:=B.2.2;refine M3.nW (.tmp 328) (.tmp 330) 25 cl 32 _ B0 underlying25 U eC eD (by omega) rfl AP (by omega) (by omega) dP rfl rfl rfl rfl rfl rfl ?_;intro v5 w6 cA V;have X:=dm.grown V (U.Dm (by omega));refine⟨M5.ck.of (B.1.trans (ib V B.1.size (fun q Y=>by have:=(U.bR Y).1;omega))) X,?_⟩;simp only[Act.put,aF,aG,aH,aI,aK,aL];clear V eC B dP;refine M5.dH 5 (by kernel_rfl) (by decide) ?_;intro w7 Z bB;have fX:=X.aa bB;have cN:=cA.aa bB;clear bB X cA;refine M3.bH (.pointer (some ⟨W.heap.size,6,none⟩)) w7 rfl rfl (by go_simp) ⟨Z,?_⟩;simp only[Act.put,aF,aG,aH,aI,aK,aL];have eI:=Z.1;refine M5.oI (by kernel_rfl) (by kernel_rfl) ?_;intro w8 df bU;have E:=fX.aa bU;have G:=cN.aa bU;have fx:=df.1;have f6:=E.frozen 6;have z6:=df.2.1;have lS:=E.lt;obtain⟨I,J,eX,_,_,_⟩:=G.form eD;generalize ([]++ag 1 cD++ag 2 cG).length=L at eX;subst eX;refine M3.fw (w8.setCell ⟨W.heap.size,6,none⟩ (.slice I L J)) rfl rfl (by go_simp) ?_;simp only[Act.put,aF,aG,aH];clear f6 z6 lS Z df bU eI fX cN;have fQ:=fx.setCell (p:=⟨W.heap.size,6,none⟩) (atN _) (.slice I L J);have M:=E.eh 6 (.slice I L J);have ed:=G.setCell (p:=⟨W.heap.size,6,none⟩) (fun q Y=>by have:=(G.bR Y).1;show q≠W.heap.size;omega) (.slice I L J);simp only[aua,at9,at8]at M;generalize w8.setCell _ _=w9 at M ed fQ|-;refine bS _ _ ?_;have aj:jO W b (b.c-bj-aw) ([]++ag 1 cD++ag 2 cG) 2000 w9:=⟨_,M,ed,fQ,by rw[at3];omega⟩
    clear M ed E G;go_wp2_with fail;go_meet;exact aj
 clear hA;have hA:=hcut;clear hcut;refine Q.out _ _ ?_;clear Q K;refine ei fun K Q=>?_
 go_cut []from 333 to 338 (fun wx=>jO W b (b.c-bj-aw) ([]++ag 1 cD++ag 2 cG++ag 3 before) 3000 wx)
 case first=>
  as_aux_lemma=>
   obtain⟨v0,O,eK,dA,pM⟩:=hA;clear Q;have lI:=mM 3 before;refine M5.iN (C:=M5.ck W v0) (M5.ck.jw _ _) (M5.ck.of dA O) (aE:=?aE3) [0,1,2] 4 6 (by kernel_rfl) (by kernel_rfl) rfl (by kernel_rfl) (by rfl) ?H3 ?M3
   case H3=>
    intro F hF ab;simp only[M3.cL,atY,at0,at1];have e0:∀p:aP (M5.ck W v0) F,p.w'.cell? ⟨W.heap.size,6,none⟩=some v0:=fun p=>p.h.2.1
    repeat(first|go_big_quiet_step(fail))
    refine wpQuiet_nil ?_;rfl
   case M3=>
    intro Q0 bS;refine M5.dH 3 (by kernel_rfl) (by decide) ?_;intro w1 z l;have S:=O.aa l;have r:=eK.aa l;clear l O eK;refine M3.iY 95 #[.int .i64 3,.slice A2 before.length c2] rfl rfl (by go_simp) ?_;refine(Dq 3 A2 c2 before _ (h2.aa z.1) (by omega)).mono ?_;rintro e w4 ⟨vl,rfl,gQ,j⟩;have T:=S.aa j;have eE:=r.aa j;refine⟨vl,rfl,M5.ck.of (z.1.trans (j.mono z.1.size)) T,?_⟩;simp only[Act.put,aF,aG,aH,aI,aK,aL];obtain⟨Al,cl,rfl,u,_,_⟩:=gQ.form eD;clear gQ j z;refine M5.dH 4 (by kernel_rfl) (by decide) ?_;intro w5 B D;have dm:=T.aa D;have U:=eE.aa D;have eC:=u.aa D;clear D T eE u;have dP:W.heap.size+1<=w5.heap.size:=B.2.2;refine M3.nW (.tmp 334) (.tmp 336) 25 cl 32 _ B0 underlying25 U eC eD (by omega) rfl AP (by omega) (by omega) dP rfl rfl rfl rfl rfl rfl ?_;intro v5 w6 cA V;have X:=dm.grown V (U.Dm (by omega));refine⟨M5.ck.of (B.1.trans (ib V B.1.size (fun q Y=>by have:=(U.bR Y).1;omega))) X,?_⟩;simp only[Act.put,aF,aG,aH,aI,aK,aL];clear V eC B dP;refine M5.dH 5 (by kernel_rfl) (by decide) ?_;intro w7 Z bB;have fX:=X.aa bB;have cN:=cA.aa bB;clear bB X cA;refine M3.bH (.pointer (some ⟨W.heap.size,6,none⟩)) w7 rfl rfl (by go_simp) ⟨Z,?_⟩;simp only[Act.put,aF,aG,aH,aI,aK,aL];have eI:=Z.1;refine M5.oI (by kernel_rfl) (by kernel_rfl) ?_;intro w8 df bU;have E:=fX.aa bU;have G:=cN.aa bU;have fx:=df.1;have f6:=E.frozen 6;have z6:=df.2.1;have lS:=E.lt;obtain⟨I,J,eX,_,_,_⟩:=G.form eD;generalize ([]++ag 1 cD++ag 2 cG++ag 3 before).length=L at eX;subst eX;refine M3.fw (w8.setCell ⟨W.heap.size,6,none⟩ (.slice I L J)) rfl rfl (by go_simp) ?_;simp only[Act.put,aF,aG,aH];clear f6 z6 lS Z df bU eI fX cN;have fQ:=fx.setCell (p:=⟨W.heap.size,6,none⟩) (atN _) (.slice I L J);have M:=E.eh 6 (.slice I L J);have ed:=G.setCell (p:=⟨W.heap.size,6,none⟩) (fun q Y=>by have:=(G.bR Y).1;show q≠W.heap.size;omega) (.slice I L J);simp only[aua,at9,at8]at M;generalize w8.setCell _ _=w9 at M ed fQ|-;refine bS _ _ ?_;have aj:jO W b (b.c-bj-aw) ([]++ag 1 cD++ag 2 cG++ag 3 before) 3000 w9:=⟨_,M,ed,fQ,by rw[at3];omega⟩
    clear M ed E G;go_wp2_with fail;go_meet;exact aj
 clear hA;have hA:=hcut;clear hcut;refine Q.out _ _ ?_;clear Q K;refine ei fun K Q=>?_
 go_cut []from 339 to 344 (fun wx=>jO W b (b.c-bj-aw) ([]++ag 1 cD++ag 2 cG++ag 3 before++ag 4 own) 4000 wx)
 case first=>
  as_aux_lemma=>
   obtain⟨v0,O,eK,dA,pM⟩:=hA;clear Q;have lI:=mM 4 own;refine M5.iN (C:=M5.ck W v0) (M5.ck.jw _ _) (M5.ck.of dA O) (aE:=?aE4) [0,1,2] 4 6 (by kernel_rfl) (by kernel_rfl) rfl (by kernel_rfl) (by rfl) ?H4 ?M4
   case H4=>
    intro F hF ab;simp only[M3.cL,atY,at0,at1];have e0:∀p:aP (M5.ck W v0) F,p.w'.cell? ⟨W.heap.size,6,none⟩=some v0:=fun p=>p.h.2.1
    repeat(first|go_big_quiet_step(fail))
    refine wpQuiet_nil ?_;rfl
   case M4=>
    intro Q0 bS;refine M5.dH 3 (by kernel_rfl) (by decide) ?_;intro w1 z l;have S:=O.aa l;have r:=eK.aa l;clear l O eK;refine M3.iY 95 #[.int .i64 4,.slice A3 own.length c3] rfl rfl (by go_simp) ?_;refine(Dq 4 A3 c3 own _ (h3.aa z.1) (by omega)).mono ?_;rintro e w4 ⟨vl,rfl,gQ,j⟩;have T:=S.aa j;have eE:=r.aa j;refine⟨vl,rfl,M5.ck.of (z.1.trans (j.mono z.1.size)) T,?_⟩;simp only[Act.put,aF,aG,aH,aI,aK,aL];obtain⟨Al,cl,rfl,u,_,_⟩:=gQ.form eD;clear gQ j z;refine M5.dH 4 (by kernel_rfl) (by decide) ?_;intro w5 B D;have dm:=T.aa D;have U:=eE.aa D;have eC:=u.aa D;clear D T eE u;have dP:W.heap.size+1<=w5.heap.size:=B.2.2;refine M3.nW (.tmp 340) (.tmp 342) 25 cl 32 _ B0 underlying25 U eC eD (by omega) rfl AP (by omega) (by omega) dP rfl rfl rfl rfl rfl rfl ?_;intro v5 w6 cA V;have X:=dm.grown V (U.Dm (by omega));refine⟨M5.ck.of (B.1.trans (ib V B.1.size (fun q Y=>by have:=(U.bR Y).1;omega))) X,?_⟩;simp only[Act.put,aF,aG,aH,aI,aK,aL];clear V eC B dP;refine M5.dH 5 (by kernel_rfl) (by decide) ?_;intro w7 Z bB;have fX:=X.aa bB;have cN:=cA.aa bB;clear bB X cA;refine M3.bH (.pointer (some ⟨W.heap.size,6,none⟩)) w7 rfl rfl (by go_simp) ⟨Z,?_⟩;simp only[Act.put,aF,aG,aH,aI,aK,aL];have eI:=Z.1;refine M5.oI (by kernel_rfl) (by kernel_rfl) ?_;intro w8 df bU;have E:=fX.aa bU;have G:=cN.aa bU;have fx:=df.1;have f6:=E.frozen 6;have z6:=df.2.1;have lS:=E.lt;obtain⟨I,J,eX,_,_,_⟩:=G.form eD;generalize ([]++ag 1 cD++ag 2 cG++ag 3 before++ag 4 own).length=L at eX;subst eX;refine M3.fw (w8.setCell ⟨W.heap.size,6,none⟩ (.slice I L J)) rfl rfl (by go_simp) ?_;simp only[Act.put,aF,aG,aH];clear f6 z6 lS Z df bU eI fX cN;have fQ:=fx.setCell (p:=⟨W.heap.size,6,none⟩) (atN _) (.slice I L J);have M:=E.eh 6 (.slice I L J);have ed:=G.setCell (p:=⟨W.heap.size,6,none⟩) (fun q Y=>by have:=(G.bR Y).1;show q≠W.heap.size;omega) (.slice I L J);simp only[aua,at9,at8]at M;generalize w8.setCell _ _=w9 at M ed fQ|-;refine bS _ _ ?_;have aj:jO W b (b.c-bj-aw) ([]++ag 1 cD++ag 2 cG++ag 3 before++ag 4 own) 4000 w9:=⟨_,M,ed,fQ,by rw[at3];omega⟩
    clear M ed E G;go_wp2_with fail;go_meet;exact aj
 clear hA;have hA:=hcut;clear hcut;refine Q.out _ _ ?_;clear Q K;refine ei fun K Q=>?_
 go_cut []from 345 to 350 (fun wx=>jO W b (b.c-bj-aw) ([]++ag 1 cD++ag 2 cG++ag 3 before++ag 4 own++ag 5 fA) 5000 wx)
 case first=>
  as_aux_lemma=>
   obtain⟨v0,O,eK,dA,pM⟩:=hA;clear Q;have lI:=mM 5 fA;refine M5.iN (C:=M5.ck W v0) (M5.ck.jw _ _) (M5.ck.of dA O) (aE:=?aE5) [0,1,2] 4 6 (by kernel_rfl) (by kernel_rfl) rfl (by kernel_rfl) (by rfl) ?H5 ?M5
   case H5=>
    intro F hF ab;simp only[M3.cL,atY,at0,at1];have e0:∀p:aP (M5.ck W v0) F,p.w'.cell? ⟨W.heap.size,6,none⟩=some v0:=fun p=>p.h.2.1
    repeat(first|go_big_quiet_step(fail))
    refine wpQuiet_nil ?_;rfl
   case M5=>
    intro Q0 bS;refine M5.dH 3 (by kernel_rfl) (by decide) ?_;intro w1 z l;have S:=O.aa l;have r:=eK.aa l;clear l O eK;refine M3.iY 95 #[.int .i64 5,.slice A4 fA.length c4] rfl rfl (by go_simp) ?_;refine(Dq 5 A4 c4 fA _ (h4.aa z.1) (by omega)).mono ?_;rintro e w4 ⟨vl,rfl,gQ,j⟩;have T:=S.aa j;have eE:=r.aa j;refine⟨vl,rfl,M5.ck.of (z.1.trans (j.mono z.1.size)) T,?_⟩;simp only[Act.put,aF,aG,aH,aI,aK,aL];obtain⟨Al,cl,rfl,u,_,_⟩:=gQ.form eD;clear gQ j z;refine M5.dH 4 (by kernel_rfl) (by decide) ?_;intro w5 B D;have dm:=T.aa D;have U:=eE.aa D;have eC:=u.aa D;clear D T eE u;have dP:W.heap.size+1<=w5.heap.size:=B.2.2;refine M3.nW (.tmp 346) (.tmp 348) 25 cl 32 _ B0 underlying25 U eC eD (by omega) rfl AP (by omega) (by omega) dP rfl rfl rfl rfl rfl rfl ?_;intro v5 w6 cA V;have X:=dm.grown V (U.Dm (by omega));refine⟨M5.ck.of (B.1.trans (ib V B.1.size (fun q Y=>by have:=(U.bR Y).1;omega))) X,?_⟩;simp only[Act.put,aF,aG,aH,aI,aK,aL];clear V eC B dP;refine M5.dH 5 (by kernel_rfl) (by decide) ?_;intro w7 Z bB;have fX:=X.aa bB;have cN:=cA.aa bB;clear bB X cA;refine M3.bH (.pointer (some ⟨W.heap.size,6,none⟩)) w7 rfl rfl (by go_simp) ⟨Z,?_⟩;simp only[Act.put,aF,aG,aH,aI,aK,aL];have eI:=Z.1;refine M5.oI (by kernel_rfl) (by kernel_rfl) ?_;intro w8 df bU;have E:=fX.aa bU;have G:=cN.aa bU;have fx:=df.1;have f6:=E.frozen 6;have z6:=df.2.1;have lS:=E.lt;obtain⟨I,J,eX,_,_,_⟩:=G.form eD;generalize ([]++ag 1 cD++ag 2 cG++ag 3 before++ag 4 own++ag 5 fA).length=L at eX;subst eX;refine M3.fw (w8.setCell ⟨W.heap.size,6,none⟩ (.slice I L J)) rfl rfl (by go_simp) ?_;simp only[Act.put,aF,aG,aH];clear f6 z6 lS Z df bU eI fX cN;have fQ:=fx.setCell (p:=⟨W.heap.size,6,none⟩) (atN _) (.slice I L J);have M:=E.eh 6 (.slice I L J);have ed:=G.setCell (p:=⟨W.heap.size,6,none⟩) (fun q Y=>by have:=(G.bR Y).1;show q≠W.heap.size;omega) (.slice I L J);simp only[aua,at9,at8]at M;generalize w8.setCell _ _=w9 at M ed fQ|-;refine bS _ _ ?_;have aj:jO W b (b.c-bj-aw) ([]++ag 1 cD++ag 2 cG++ag 3 before++ag 4 own++ag 5 fA) 5000 w9:=⟨_,M,ed,fQ,by rw[at3];omega⟩
    clear M ed E G;go_wp2_with fail;go_meet;exact aj
 clear hA;have hA:=hcut;clear hcut;refine Q.out _ _ ?_;clear Q K;exact akK R w W _ gy gs gn y b A5 A6 At c5 c6 ct cD cG before own fA gB after N left ay aO bj aw ae bV cU eB iy ku ad dN ht li h5 h6 l5 l6 b0 b1 b6 b7 b8 b9 Kt Ku Kv Kw Ky Kz hA HR
theorem akM(l:List Elem)(k:Nat)(h:k<l.length)(e:nz l[k]=true):(l.take (k+1)).filter nz=(l.take k).filter nz++[l[k]]:=by rw[aud h,auE];simp[e]
theorem akN(l:List Elem)(k:Nat)(h:k<l.length)(e:nz l[k]=false):(l.take (k+1)).filter nz=(l.take k).filter nz:=by rw[aud h,auE];simp[e]
theorem aen(A B:Option Addr)(U YR:Nat)(l ys:List Elem)(w:World)(h:ai aN 2 w w.heap.size A l)(hz:∀x∈l,x.code.size<=maxLen)(hl:l.length<=9223372036854775806)
  (hy:ai aN 2 w w.heap.size B ys) (F3:∀x∈ys,x.code.size<=maxLen) (oA:ys.length<=9223372036854775806):
  Calls prog 94 #[.slice A l.length U,.slice B ys.length YR] w (EPost (nj l ys) (fh l ys) w):=by
 have HZ:=atM hz;clear hz;have J4:=atM F3;clear F3;have Ay:∀(n:Int) (W:World),n≠0->fh l ys=n->Below w.heap.size w W->EPost (nj l ys) (fh l ys) w (Ending.returned (.tuple #[.slice none 0 0,.int .i64 n])) W:=
  fun n W V he X=>EPost.fail (acU (by rw[he];exact V)) he X
 have y:=atM Ay;clear Ay;go_enter func94,ntmps94;go_wp2_with fail;refine(VE A U l _ h HZ.out (by omega)).mono ?_;rintro e w1 ⟨rfl,K⟩;by_cases O:fE l=true;rotate_left
 ·have Hi:fE l=false:=by simpa using O
  clear O;go_wp2;go_ret2;exact y.out 1 _ (by omega) (U2 (.inl Hi)) K
 have Az:l.length<=128:=(BQ.1 O).1;have QN:=atM (BQ.1 O).2.1;have RU:=atM O;go_wp2_with fail
 go_loopw [6] (fun i wr=>∃k:Nat,k<=ys.length/\i=.int .i64 k/\Hid (∀j,(F:j<ys.length)->j<k->oT ys[j]=true)/\Below w.heap.size w wr) (fun i _=>ys.length-(intOf i).toNat)
 case atStart=>exact⟨0,by omega,rfl,fun j _ F=>absurd F (by omega),K⟩
 case round=>
  obtain⟨k,Q,rfl,z,R⟩:=hrel;have br:=R.size;by_cases r:k<ys.length
  ·obtain⟨b,off,rfl,X,E⟩:=(hy.below R).at_ r;have S:=E 0 _ rfl;have Y:=E 1 _ rfl;simp only[atQ]at S;clear E;have fq:=J4.out _ (atT r);have HN:Hid (oT ys[k]=false->fh l ys=1):=fun hf=>U2 (.inr (by
    rw[List.all_eq_false];exact⟨ys[k],atT _,by simp[hf]⟩))
   go_wp2_with fail;refine(BW _ _ fq).mono ?_;rintro e w2 ⟨rfl,L⟩;have bm:=Jb R L br;have ap:=(L.cell (p:=⟨b,off+k*2+1,none⟩) (by show b<wr.heap.size;omega)).trans Y;have VF:b<w2.heap.size:=(by have:=L.size;omega);clear S Y;by_cases V:bI ys[k].code=true;rotate_left
   ·have ml:bI ys[k].code=false:=(by simpa using V);clear V;go_wp2;go_ret2;exact y.out 1 _ (by omega) (HN.out (by simp[oT,ml])) bm
   by_cases h1:bM ys[k].amount 1000000000=true;rotate_left
   ·have E6:bM ys[k].amount 1000000000=false:=(by simpa using h1);clear h1;go_wp2_with(go_at_call 133;refine(B3 _ _ _).mono ?_;rintro e w' ⟨rfl,rfl⟩);go_ret2;exact y.out 1 _ (by omega) (HN.out (by simp[oT,E6])) bm
   go_wp2_with(go_at_call 133;refine(B3 _ _ _).mono ?_;rintro e w' ⟨rfl,rfl⟩);go_roundw
   case rel=>
    refine⟨k+1,by omega,by go_num,fun j F al=>?_,bm⟩;rcases at6 j k with h3|h3
    ·exact z.out j F h3
    ·obtain rfl:j=k:=by omega
     simp[oT,V,h1]
   case measure=>simp[intOf];omega
  ·have Hj:ys.all oT=true:=by
    rw[List.all_eq_true];intro x G;obtain⟨j,F,rfl⟩:=aun.1 G;exact z.out j F (by omega)
   have L6:=atM Hj;have J5:Hid (∀x∈ys,0<=x.amount/\x.amount<=1000000000):=fun x G=>((U3 x).1 (List.all_eq_true.1 Hj x G)).2;clear Hj;by_cases Oq:128<ys.length
   ·go_wp2;go_ret2;exact y.out 3 _ (by omega) (U4 RU.out L6.out (.inl Oq)) R
   have av:ys.length<=128:=(by omega);obtain⟨wp,rfl⟩:∃wp:World,wp=wr:=⟨_,rfl⟩
   clear z oA hl K O;have Gt:=Own.lit dG wp ([]:List Elem) #[] 69 rfl (by simp) (atN _);have cu:=(h.aa R).OZ (.cells #[] 69);go_wp2_with(at_builtin;(refine Jc (ys:=l) _ _ 51 _ 24 _ nQ underlying51 Gt cu dG (by omega) rfl mF (by simp;omega) (by omega) (by simp) (by rfl) (by rfl) (by rfl) (by rfl) (by rfl) ?_);intro v3 w3 jx Z);have ab:Own aN 2 69 w3 wp.heap.size v3 l:=(by simpa using jx);have ad:=ab.RV;have I:=aA R (Z7 Z);clear jx ab Z Gt cu Q r
   go_loopw [7,8] (fun v i wr=>∃k:Nat,k<=ys.length/\i=.int .i64 k/\mr wr v ((ys.take k).foldl put l)/\Hid (Jd (1000000000000+k*1000000000) ((ys.take k).foldl put l))/\Below w.heap.size w wr) (fun _ i _=>ys.length-(intOf i).toNat)
   case atStart=>exact⟨0,by omega,rfl,ad,fun x G=>by have:=QN.out x G;omega,I⟩
   case round=>
    clear ad I;obtain⟨k,Q,rfl,kL,T,I⟩:=hrel;have Ea:=I.size;have B4:((ys.take k).foldl put l).length<=256:=by have:=aeq (ys.take k) l;have:(ys.take k).length<=128:=(by simp;omega);omega
    by_cases r:k<ys.length
    ·obtain⟨b,off,rfl,X,E⟩:=(hy.below I).at_ r;have S:=E 0 _ rfl;have Y:=E 1 _ rfl;simp only[atQ]at S;clear E;have M:Hid ((ys.take (k+1)).foldl put l=put ((ys.take k).foldl put l) ys[k]):=by
      rw[Hid,aud r,List.foldl_append];rfl
     obtain⟨q1,q2⟩:=J5.out _ (atT r);have RT:=atM (Jd.put (e:=ys[k]) (C:=1000000000) T.out (by omega) (by omega) (by omega) (by omega));generalize (ys.take k).foldl put l=D at kL T B4 M RT;obtain⟨A5,c5,rfl,dm,nO,nP⟩:=kL;go_wp2_with fail;refine(RX A5 c5 D ys[k] _ dm nO nP (by omega) (fun x G=>by have:=T.out x G;omega) (by omega) (by omega)).mono ?_;rintro e w8 ⟨v8,rfl,cx,bU⟩;go_wp2;go_roundw
     case rel=>refine⟨k+1,by omega,by go_num,by rw[M.out];exact cx.RV,?_,aA I bU⟩;intro x G;rw[M.out]at G;have:=RT.out x G;omega
     case measure=>simp[intOf];omega
    ·obtain rfl:k=ys.length:=by omega
     have az:decide ((ys.length:Int)<(ys.length:Int))=false:=(by simp);have aC:decide (ys.length<ys.length)=false:=(by simp);rw[auv]at kL B4 T;have Z8:Hid (nN l ys=(ys.foldl put l).filter nz):=rfl;generalize ys.foldl put l=D at kL B4 T Z8;obtain⟨A5,c5,rfl,dm,nO,nP⟩:=kL;obtain⟨wq,rfl⟩:∃wq:World,wq=wr:=⟨_,rfl⟩
     go_wp2_with fail;clear Q r T hy
     go_loopw [9,10] (fun v i wr=>∃k:Nat,k<=D.length/\i=.int .i64 k/\Own aN 2 69 wr wq.heap.size v ((D.take k).filter nz)/\Below wq.heap.size wq wr) (fun _ i _=>D.length-(intOf i).toNat)
     case atStart=>exact⟨0,by omega,rfl,Own.cC _ _,atS _ _⟩
     case round=>
      obtain⟨k,Q,rfl,u,N⟩:=hrel;have aD:=N.size;by_cases r:k<D.length
      ·obtain⟨b,off,rfl,X,E⟩:=(dm.aa N).at_ r;have S:=E 0 _ rfl;have Y:=E 1 _ rfl;simp only[atQ]at S;clear E;have aE:((D.take k).filter nz).length<=256:=at7 (auk _ _) (by simp;omega);by_cases J:D[k].amount=0
       ·have Gu:(D[k].amount==0)=true:=(by simpa using J);have am:(D[k].amount !=0)=false:=(by simpa using J);have M:=atM (akN D k r (by simp[nz,J]));clear J;go_wp2;go_roundw
        case rel=>exact⟨k+1,by omega,by go_num,by rw[M.out];exact u,N⟩
        case measure=>simp[intOf];omega
       ·have Gu:(D[k].amount==0)=false:=(by simpa using J);have am:(D[k].amount !=0)=true:=(by simpa using J);have M:=atM (akM D k r (by simp[nz,J]));have lV:=fun g hg=>(u.bR (g:=g) hg).1;clear J;go_wp2_with(at_builtin;(refine lD _ _ 51 ⟨D[k].code,D[k].amount⟩ _ 24 _ nQ underlying51 u dG (by omega) rfl (mF _) (by omega) (by omega) (by omega) (by rfl) (by rfl) (by rfl) (by rfl) (by simp) (by rfl) ?_);intro v8 w8 cx ej);go_roundw
        case rel=>exact⟨k+1,by omega,by go_num,by rw[M.out];exact cx,kH N ej lV⟩
        case measure=>simp[intOf];omega
      ·rw[aut (by omega)]at u;have af:=Z8.out;have RY:(D.filter nz).length<=256:=at7 (auk _ _) (by omega);rw[<-af]at u RY;clear af Z8 dm;obtain⟨A6,c6,rfl,cK,iM,aj,an⟩:=u.kX dG;have Je:=atM (fun hh=>U4 (a:=l) (b:=ys) RU.out L6.out (.inr hh));have RZ:=atM (fun hh=>ac6 (a:=l) (b:=ys) RU.out L6.out (by omega) hh);have ak:Hid (fh l ys=0->nj l ys=nN l ys):=ac8;generalize nN l ys=os at u RY cK aj Je RZ ak|-;by_cases QT:128<os.length
       ·have lC:=atM (Je.out QT);go_wp2;go_ret2;exact y.out 3 _ (by omega) lC.out (aA I N)
       have aJ:os.length<=128:=(by omega);have lC:=atM (RZ.out QT);obtain⟨wz,rfl⟩:∃wz:World,wz=wr:=⟨_,rfl⟩
       go_wp2_with fail;clear QT Je RZ r Q
       go_loopw [11] (fun i wr=>∃k:Nat,k<=os.length/\i=.int .i64 k/\Hid (∀j,(F:j<os.length)->j<k->big os[j]=false)/\wr=wz) (fun i _=>os.length-(intOf i).toNat)
       case atStart=>exact⟨0,by omega,rfl,fun j _ F=>absurd F (by omega),rfl⟩
       case round=>
        obtain⟨k,Q,rfl,z,rfl⟩:=hrel;by_cases r:k<os.length
        ·obtain⟨b,off,rfl,X,E⟩:=cK.at_ r;have Y:=E 1 _ rfl;clear E;by_cases ao:1000000000000<os[k].amount
         ·have Ec:Hid (nk os=true):=auy.2 ⟨os[k],atT _,by simp[big,ao]⟩;go_wp2;go_ret2;exact y.out 4 _ (by omega) (by rw[lC.out,Ec.out];rfl) (aA I N)
         ·go_wp2;go_roundw
          case rel=>
           refine⟨k+1,by omega,by go_num,fun j F al=>?_,by first|rfl|trivial⟩;rcases at6 j k with h3|h3
           ·exact z.out j F h3
           ·obtain rfl:j=k:=by omega
            simp[big];omega
          case measure=>simp[intOf];omega
        ·have Ec:Hid (nk os=false):=by
          rw[Hid,nk,auC];intro x G;obtain⟨j,F,rfl⟩:=aun.1 G;simp[z.out j F (by omega)]
         have EY:Hid (fh l ys=0):=(by rw[Hid,lC.out,Ec.out];rfl);go_wp2;go_ret2;rw[EY.out,ak.out EY.out];exact⟨A6,c6,rfl,cK,aj,an,aA I N⟩
theorem aeu(O A:Option Addr)(oc a4:Nat)(S:List Elem)(l:List bn)(aU:Bool)(Z:Int)(w:World)(hO:ai aN 2 w w.heap.size O S)(O0:S.length<=oc)(aE:oc<=maxLen)(h:ai mO 5 w w.heap.size A l)(hl:Bq l)
  (hS:zN l (aB S) Z S Z 0) (a5:aB S<=1000000000) (nu:Z<=1000000000):
  Calls prog 151 #[.slice O S.length oc,.slice A l.length a4,.bool aU,.int .i64 Z] w fun e w'=>∃v,e=.returned (.tuple #[v,.int .i64 (jn S l aU Z).2])/\mr w' v (jn S l aU Z).1/\Below w.heap.size w w':=by
 have ap:=hl.len;have HL:=atM hl;have HS:=atM hS;have Z9:mr w (.slice O S.length oc) S:=⟨O,oc,rfl,hO,O0,aE⟩
 obtain⟨R,hR⟩:∃R,R=jn S l aU Z:=⟨_,rfl⟩
 have HR:Hid (nX l aU (o8 l aU (-1,-1)) (-1,-1) Z S 0=R):=by rw[Hid,hR];rfl
 rw[<-hR];clear hR hl hS hO O0 aE;generalize a6:Value.slice O S.length oc=v0 at Z9|-;clear a6;go_enter func151,ntmps151;go_wp2
 go_loopw [0,3,10,11,12] (fun v lf tk D E wr=>∃(out:List Elem) (left taken:Int) (last:Int×Int),lf=.int .i64 left/\tk=.int .i64 taken/\D=.int .i64 last.1/\E=.int .i64 last.2/\Hid (nX l aU (o8 l aU last) last left out taken=R)/\Hid (zN l (aB S) Z out left taken)/\mr wr v out/\Below w.heap.size w wr) (fun _ _ _ D E _=>o8 l aU (intOf D,intOf E))
 case atStart=>exact⟨S,Z,0,(-1,-1),rfl,rfl,rfl,rfl,HR.out,HS.out,Z9,atS _ _⟩
 case round=>
  clear Z9
  rename World=>Y
  obtain⟨out,left,taken,⟨D,E⟩,rfl,rfl,rfl,rfl,VG,kh,kL,ae⟩:=hrel;have Mr:=h.aa ae;simp only at VG|-;go_wp2
  go_loopw [13,14,15] (fun r d i wr=>∃k q:Nat,k<=l.length/\i=.int .i64 k/\r=.int .i64 (kA l aU (D,E) k).1/\d=.int .i64 (kA l aU (D,E) k).2/\Hid (wr=Y.drewN q)) (fun _ _ i _=>l.length-(intOf i).toNat)
  case atStart=>exact⟨0,0,by omega,rfl,rfl,rfl,rfl⟩
  case round=>
   rename World=>F
   obtain⟨k,q,hk,rfl,rfl,rfl,K⟩:=hrel;by_cases G:k<l.length
   ·have hx:ai mO 5 F F.heap.size A l:=(by rw[K.out];exact Mr.R2 q);obtain⟨b,off,rfl,hb,T⟩:=hx.at_ G;have c1:=T 1 _ rfl;have c2:=T 2 _ rfl;clear T;have I:=atM (akQ (aU:=aU) (last:=(D,E)) G);have fL:(k:Int)<(l.length:Int):=(by omega);generalize kA l aU (D,E) k=p at*;obtain⟨J,U⟩:=p;simp only at I|-;rcases iP:mP aU l[k]with _|_
    ·have a7:((l[k].aT==0)==aU)=false:=by
      rw[mP]at iP;rw[<-iP];congr 1
     rw[MF (.inl iP)]at I;clear iP;go_wp2;go_roundw
     case rel=>
      have y:∃k' M:Nat,k'<=l.length/\Value.int .i64 ((k:Int)+1)=.int .i64 k'/\Value.int .i64 J=.int .i64 (kA l aU (D,E) k').1/\Value.int .i64 U=.int .i64 (kA l aU (D,E) k').2/\Hid (F=Y.drewN M):=⟨k+1,q,by omega,by go_num,by rw[I.out],by rw[I.out],K.out⟩
      first|exact y|((repeat apply Exists.intro);exact⟨y,rfl⟩)
     case measure=>simp[intOf];omega
    ·have a7:((l[k].aT==0)==aU)=true:=by
      rw[mP]at iP;rw[<-iP];congr 1
     have O1:=atM iP;clear iP;rcases(show(l[k].aT<D)\/(l[k].aT=D/\l[k].day<=E)\/(D<l[k].aT)\/(l[k].aT=D/\E<l[k].day)by omega)with a1|⟨a1,a2⟩|a1|⟨a1,a2⟩
     ·have b1:(l[k].aT==D)=false:=(by rw[auj];omega);have HN:Hid (¬dR (D,E) (l[k].aT,l[k].day)):=by unfold Hid dR;simp only;omega
      as_aux_lemma=>
       rw[MF (.inr (.inl HN.out))]at I;go_wp2;go_roundw
       case rel=>
        have y:∃k' M:Nat,k'<=l.length/\Value.int .i64 ((k:Int)+1)=.int .i64 k'/\Value.int .i64 J=.int .i64 (kA l aU (D,E) k').1/\Value.int .i64 U=.int .i64 (kA l aU (D,E) k').2/\Hid (F=Y.drewN M):=⟨k+1,q,by omega,by go_num,by rw[I.out],by rw[I.out],K.out⟩
        first|exact y|((repeat apply Exists.intro);exact⟨y,rfl⟩)
       case measure=>simp[intOf];omega
     ·have b1:(l[k].aT==D)=true:=(by simp[a1]);have b2:¬D<l[k].aT:=(by omega);have HN:Hid (¬dR (D,E) (l[k].aT,l[k].day)):=(by unfold Hid dR;simp only;omega);clear a1
      as_aux_lemma=>
       rw[MF (.inr (.inl HN.out))]at I;go_wp2;go_roundw
       case rel=>
        have y:∃k' M:Nat,k'<=l.length/\Value.int .i64 ((k:Int)+1)=.int .i64 k'/\Value.int .i64 J=.int .i64 (kA l aU (D,E) k').1/\Value.int .i64 U=.int .i64 (kA l aU (D,E) k').2/\Hid (F=Y.drewN M):=⟨k+1,q,by omega,by go_num,by rw[I.out],by rw[I.out],K.out⟩
        first|exact y|((repeat apply Exists.intro);exact⟨y,rfl⟩)
       case measure=>simp[intOf];omega
     ·have Ia:Hid (dR (D,E) (l[k].aT,l[k].day)):=(by unfold Hid dR;simp only;omega);rcases(show(l[k].aT<J)\/(l[k].aT=J/\l[k].day<U)\/(J<l[k].aT)\/(l[k].aT=J/\U<=l[k].day)by omega)with d1|⟨d1,d2⟩|d1|⟨d1,d2⟩
      ·have Gv:Hid (dR (l[k].aT,l[k].day) (J,U)):=by unfold Hid dR;simp only;omega
       as_aux_lemma=>
        rw[VH O1.out Ia.out Gv.out]at I;go_wp2;go_quiet(fail);go_wp2;go_roundw
        case rel=>
         have y:∃k' M:Nat,k'<=l.length/\Value.int .i64 ((k:Int)+1)=.int .i64 k'/\Value.int .i64 l[k].aT=.int .i64 (kA l aU (D,E) k').1/\Value.int .i64 l[k].day=.int .i64 (kA l aU (D,E) k').2/\Hid (F.drewN nq=Y.drewN M):=⟨k+1,q+nq,by omega,by go_num,by rw[I.out],by rw[I.out],by show F.drewN nq=Y.drewN (q+nq);rw[K.out,World.drewN_drewN]⟩
         first|exact y|((repeat apply Exists.intro);exact⟨y,rfl⟩)
        case measure=>simp[intOf];omega
      ·have N:(l[k].aT==J)=true:=(by simp[d1]);have X:¬l[k].aT<J:=(by omega);have Gv:Hid (dR (l[k].aT,l[k].day) (J,U)):=(by unfold Hid dR;simp only;omega);clear d1
       as_aux_lemma=>
        rw[VH O1.out Ia.out Gv.out]at I;go_wp2;go_quiet(fail);go_wp2;go_roundw
        case rel=>
         have y:∃k' M:Nat,k'<=l.length/\Value.int .i64 ((k:Int)+1)=.int .i64 k'/\Value.int .i64 l[k].aT=.int .i64 (kA l aU (D,E) k').1/\Value.int .i64 l[k].day=.int .i64 (kA l aU (D,E) k').2/\Hid (F.drewN nq=Y.drewN M):=⟨k+1,q+nq,by omega,by go_num,by rw[I.out],by rw[I.out],by show F.drewN nq=Y.drewN (q+nq);rw[K.out,World.drewN_drewN]⟩
         first|exact y|((repeat apply Exists.intro);exact⟨y,rfl⟩)
        case measure=>simp[intOf];omega
      ·have N:(l[k].aT==J)=false:=(by rw[auj];omega);have HN:Hid (¬dR (l[k].aT,l[k].day) (J,U)):=by unfold Hid dR;simp only;omega
       as_aux_lemma=>
        rw[MF (.inr (.inr HN.out))]at I;go_wp2;go_roundw
        case rel=>
         have y:∃k' M:Nat,k'<=l.length/\Value.int .i64 ((k:Int)+1)=.int .i64 k'/\Value.int .i64 J=.int .i64 (kA l aU (D,E) k').1/\Value.int .i64 U=.int .i64 (kA l aU (D,E) k').2/\Hid (F=Y.drewN M):=⟨k+1,q,by omega,by go_num,by rw[I.out],by rw[I.out],K.out⟩
         first|exact y|((repeat apply Exists.intro);exact⟨y,rfl⟩)
        case measure=>simp[intOf];omega
      ·have N:(l[k].aT==J)=true:=(by simp[d1]);have X:¬l[k].aT<J:=(by omega);have HN:Hid (¬dR (l[k].aT,l[k].day) (J,U)):=(by unfold Hid dR;simp only;omega);clear d1
       as_aux_lemma=>
        rw[MF (.inr (.inr HN.out))]at I;go_wp2;go_roundw
        case rel=>
         have y:∃k' M:Nat,k'<=l.length/\Value.int .i64 ((k:Int)+1)=.int .i64 k'/\Value.int .i64 J=.int .i64 (kA l aU (D,E) k').1/\Value.int .i64 U=.int .i64 (kA l aU (D,E) k').2/\Hid (F=Y.drewN M):=⟨k+1,q,by omega,by go_num,by rw[I.out],by rw[I.out],K.out⟩
         first|exact y|((repeat apply Exists.intro);exact⟨y,rfl⟩)
        case measure=>simp[intOf];omega
     ·have b1:(l[k].aT==D)=true:=(by simp[a1]);have b2:¬D<l[k].aT:=(by omega);have Ia:Hid (dR (D,E) (l[k].aT,l[k].day)):=(by unfold Hid dR;simp only;omega);clear a1;rcases(show(l[k].aT<J)\/(l[k].aT=J/\l[k].day<U)\/(J<l[k].aT)\/(l[k].aT=J/\U<=l[k].day)by omega)with d1|⟨d1,d2⟩|d1|⟨d1,d2⟩
      ·have Gv:Hid (dR (l[k].aT,l[k].day) (J,U)):=by unfold Hid dR;simp only;omega
       as_aux_lemma=>
        rw[VH O1.out Ia.out Gv.out]at I;go_wp2;go_quiet(fail);go_wp2;go_roundw
        case rel=>
         have y:∃k' M:Nat,k'<=l.length/\Value.int .i64 ((k:Int)+1)=.int .i64 k'/\Value.int .i64 l[k].aT=.int .i64 (kA l aU (D,E) k').1/\Value.int .i64 l[k].day=.int .i64 (kA l aU (D,E) k').2/\Hid (F.drewN nq=Y.drewN M):=⟨k+1,q+nq,by omega,by go_num,by rw[I.out],by rw[I.out],by show F.drewN nq=Y.drewN (q+nq);rw[K.out,World.drewN_drewN]⟩
         first|exact y|((repeat apply Exists.intro);exact⟨y,rfl⟩)
        case measure=>simp[intOf];omega
      ·have N:(l[k].aT==J)=true:=(by simp[d1]);have X:¬l[k].aT<J:=(by omega);have Gv:Hid (dR (l[k].aT,l[k].day) (J,U)):=(by unfold Hid dR;simp only;omega);clear d1
       as_aux_lemma=>
        rw[VH O1.out Ia.out Gv.out]at I;go_wp2;go_quiet(fail);go_wp2;go_roundw
        case rel=>
         have y:∃k' M:Nat,k'<=l.length/\Value.int .i64 ((k:Int)+1)=.int .i64 k'/\Value.int .i64 l[k].aT=.int .i64 (kA l aU (D,E) k').1/\Value.int .i64 l[k].day=.int .i64 (kA l aU (D,E) k').2/\Hid (F.drewN nq=Y.drewN M):=⟨k+1,q+nq,by omega,by go_num,by rw[I.out],by rw[I.out],by show F.drewN nq=Y.drewN (q+nq);rw[K.out,World.drewN_drewN]⟩
         first|exact y|((repeat apply Exists.intro);exact⟨y,rfl⟩)
        case measure=>simp[intOf];omega
      ·have N:(l[k].aT==J)=false:=(by rw[auj];omega);have HN:Hid (¬dR (l[k].aT,l[k].day) (J,U)):=by unfold Hid dR;simp only;omega
       as_aux_lemma=>
        rw[MF (.inr (.inr HN.out))]at I;go_wp2;go_roundw
        case rel=>
         have y:∃k' M:Nat,k'<=l.length/\Value.int .i64 ((k:Int)+1)=.int .i64 k'/\Value.int .i64 J=.int .i64 (kA l aU (D,E) k').1/\Value.int .i64 U=.int .i64 (kA l aU (D,E) k').2/\Hid (F=Y.drewN M):=⟨k+1,q,by omega,by go_num,by rw[I.out],by rw[I.out],K.out⟩
         first|exact y|((repeat apply Exists.intro);exact⟨y,rfl⟩)
        case measure=>simp[intOf];omega
      ·have N:(l[k].aT==J)=true:=(by simp[d1]);have X:¬l[k].aT<J:=(by omega);have HN:Hid (¬dR (l[k].aT,l[k].day) (J,U)):=(by unfold Hid dR;simp only;omega);clear d1
       as_aux_lemma=>
        rw[MF (.inr (.inr HN.out))]at I;go_wp2;go_roundw
        case rel=>
         have y:∃k' M:Nat,k'<=l.length/\Value.int .i64 ((k:Int)+1)=.int .i64 k'/\Value.int .i64 J=.int .i64 (kA l aU (D,E) k').1/\Value.int .i64 U=.int .i64 (kA l aU (D,E) k').2/\Hid (F=Y.drewN M):=⟨k+1,q,by omega,by go_num,by rw[I.out],by rw[I.out],K.out⟩
         first|exact y|((repeat apply Exists.intro);exact⟨y,rfl⟩)
        case measure=>simp[intOf];omega
   ·obtain rfl:k=l.length:=by omega
    rw[akS];have Fi:mr F _ out:=kL.aa (by rw[K.out];exact below_drewN (atS _ _) q);have bm:Below w.heap.size w F:=(by rw[K.out];exact below_drewN ae q);have cu:=h.aa bm;clear K kL ae Mr hk G;by_cases ab:(gS l aU (D,E)).1=10
    ·have j8:((gS l aU (D,E)).1==10)=true:=(by simp[ab]);have ad:=O2 (left:=left) (taken:=taken) (out:=out) (o8 l aU (D,E)) ab;rw[VG.out]at ad;have ak:=atM ad;clear ad ab;go_wp2;go_ret2;rw[ak.out];exact⟨_,rfl,Fi,bm⟩
    ·have j8:((gS l aU (D,E)).1==10)=false:=(by rw[auj];exact ab);have ad:=aew (left:=left) (taken:=taken) (out:=out) ab;have av:=atM (VI ab);rw[VG.out]at ad;have ak:=atM ad;clear ad ab VG;generalize gS l aU (D,E)=key at*;obtain⟨z,B⟩:=key;simp only at j8|-;obtain⟨P,hP⟩:∃P,P=ql l (z,B) left:=⟨_,rfl⟩
     have aJ:=kh.out.l0;have br:=kh.out.t0;have a8:=kh.out.tl;have Ib:left<=1000000000:=(by omega);have bs:taken<=1000000000:=(by omega);have MG:=atM (aex (k:=(z,B)) HL.out.ok);have B4:(l.filter (fY (z,B))).length<=16:=at7 (auk _ _) ap;clear a8;go_wp2
     go_loopw [16,17,18] (fun cv sv i wr=>∃k:Nat,k<=l.length/\i=.int .i64 k/\sv=.int .i64 (ax ((jy l (z,B) k).map iZ))/\Own encI 1 3 wr F.heap.size cv ((jy l (z,B) k).map iZ)/\Below F.heap.size F wr) (fun _ _ i _=>l.length-(intOf i).toNat)
     case atStart=>exact⟨0,by omega,rfl,rfl,Own.cC _ _,atS _ _⟩
     case round=>
      rename World=>w3
      obtain⟨k,hk,rfl,rfl,L,Q⟩:=hrel;have fW:=cu.aa Q;have Ea:=Q.size;by_cases G:k<l.length
      ·obtain⟨b,off,rfl,hb,T⟩:=fW.at_ G;have c0:=T 0 _ rfl;have c1:=T 1 _ rfl;have c2:=T 2 _ rfl;have c3:=T 3 _ rfl;have c4:=T 4 _ rfl;simp only[atQ]at c0;have fL:(k:Int)<(l.length:Int):=(by omega);clear T;have kM:=at7 (aey l (z,B) k) B4;have fJ:∀x∈(jy l (z,B) k).map iZ,0<=x/\x<=1000000000:=fun x hx=>by
        obtain⟨o,ho,rfl⟩:=aue.1 hx;exact O3 (HL.out.ok o (auh (CJ ho)))
       obtain⟨s0,s1⟩:=nv fJ;rw[auq]at s1;have s2:ax ((jy l (z,B) k).map iZ)<=16000000000:=(by omega);obtain⟨q0,q1⟩:=O3 (HL.out.ok _ (atT G));clear s1 fJ;have aQ:fY (z,B) l[k]=false->jy l (z,B) (k+1)=jy l (z,B) k:=aeA G;have R3:=atM aQ;clear aQ;by_cases N:l[k].aT=z
       ·have R4:(l[k].aT==z)=true:=(by simp[N]);by_cases X:l[k].day=B
        ·have R5:(l[k].day==B)=true:=(by simp[X]);have HG:=atM (aaa (key:=(z,B)) G (by simp[fY,N,X]));have al:=fun w=>akT l[k] w;unfold aab at al;have Jf:=atM al;have Jg:((jy l (z,B) k).map iZ).length<=16:=(by rw[auq];exact kM);clear N X al R3;go_wp2_with fail;refine atV (Jf.out _) ?_;rintro e w4 ⟨rfl,V⟩;have eE:=L.aa V;have O4:=aA Q V;have dP:=O4.size;have cO:=cu.aa O4;have lV:=fun q hq=>(eE.bR (g:=q) hq).1;have KB:Hid (∀W,Below F.heap.size F W->∀j v,(mO l[k])[j]?=some v->W.cell? ⟨b,off+k*5+j,none⟩=some v):=by
          intro W hW j v hj;obtain⟨b',bq,am,_,T⟩:=(cu.aa hW).at_ G;injection am with am
          injection am with am a9
          subst am a9;exact T j v hj
         generalize jD:iZ l[k]=cl at*;clear L c0 c1 c2 c3 c4 Q;go_wp2_with(at_builtin;(refine lD _ _ 34 cl _ 8 _ B2 underlying34 eE iX (by omega) rfl (fun u hu=>by simp[encI]at hu;subst hu;rfl) (by omega) (by omega) dP (by rfl) (by rfl) (by rfl) (by rfl) (by simp) (by rfl) ?_);intro v5 w5 dh aZ;have aM:=kH O4 aZ lV;have dd:=KB.out _ aM;have d0:=dd 0 _ rfl;have d1:=dd 1 _ rfl;have d2:=dd 2 _ rfl;have d3:=dd 3 _ rfl;have d4:=dd 4 _ rfl;simp only[atQ]at d0;clear dd);refine atV (Jf.out _) ?_;rintro e w6 ⟨rfl,bu⟩;have cA:=dh.aa bu;have ba:=aA aM bu;have bb:Hid (ax ((jy l (z,B) k).map iZ)+cl=ax ((jy l (z,B) (k+1)).map iZ)):=by rw[Hid,HG.out,auK,F9,List.map_singleton,jD];simp[ax]
         have bc:Hid (Own encI 1 3 w6 F.heap.size v5 ((jy l (z,B) (k+1)).map iZ)):=by rw[Hid,HG.out,auK,List.map_singleton,jD];exact cA
         clear eE dh cA d0 d1 d2 d3 d4 KB Jf;go_wp2;go_roundw
         case rel=>
          have y:∃k':Nat,k'<=l.length/\Value.int .i64 ((k:Int)+1)=.int .i64 k'/\Value.int .i64 (ax ((jy l (z,B) k).map iZ)+cl)=.int .i64 (ax ((jy l (z,B) k').map iZ))/\Own encI 1 3 w6 F.heap.size v5 ((jy l (z,B) k').map iZ)/\Below F.heap.size F w6:=⟨k+1,by omega,by go_num,by rw[bb.out],bc.out,ba⟩
          first|exact y|((repeat apply Exists.intro);exact⟨y,rfl⟩)
         case measure=>simp[intOf];omega
        ·have R5:(l[k].day==B)=false:=(by rw[auj];exact X);have HG:=atM (R3.out (by simp[fY,X]));clear N X R3;go_wp2;go_roundw
         case rel=>
          have y:∃k':Nat,k'<=l.length/\Value.int .i64 ((k:Int)+1)=.int .i64 k'/\Value.int .i64 (ax ((jy l (z,B) k).map iZ))=.int .i64 (ax ((jy l (z,B) k').map iZ))/\Own encI 1 3 w3 F.heap.size _ ((jy l (z,B) k').map iZ)/\Below F.heap.size F w3:=⟨k+1,by omega,by go_num,by rw[HG.out],by rw[HG.out];exact L,Q⟩
          first|exact y|((repeat apply Exists.intro);exact⟨y,rfl⟩)
         case measure=>simp[intOf];omega
       ·have R4:(l[k].aT==z)=false:=(by rw[auj];exact N);have HG:=atM (R3.out (by simp[fY,N]));clear N R3;go_wp2;go_roundw
        case rel=>
         have y:∃k':Nat,k'<=l.length/\Value.int .i64 ((k:Int)+1)=.int .i64 k'/\Value.int .i64 (ax ((jy l (z,B) k).map iZ))=.int .i64 (ax ((jy l (z,B) k').map iZ))/\Own encI 1 3 w3 F.heap.size _ ((jy l (z,B) k').map iZ)/\Below F.heap.size F w3:=⟨k+1,by omega,by go_num,by rw[HG.out],by rw[HG.out];exact L,Q⟩
         first|exact y|((repeat apply Exists.intro);exact⟨y,rfl⟩)
        case measure=>simp[intOf];omega
      ·obtain rfl:k=l.length:=by omega
       rw[aac]at L|-;clear hk G;have mG:=aad l (z,B) left;obtain⟨Gw,KC,_⟩:=aae (l:=l) (k:=(z,B)) (left:=left) HL.out.ok aJ;rw[<-hP]at mG Gw KC;have Fj:=atM mG;have O5:=atM Gw;have Fk:=atM KC;have aR:P.length<=16:=(by omega);have Fl:Hid (P=if left<ax ((l.filter (fY (z,B))).map iZ)then en left ((l.filter (fY (z,B))).map iZ)else(l.filter (fY (z,B))).map iZ):=(by rw[Hid,hP];rfl);have fJ:∀x∈(l.filter (fY (z,B))).map iZ,0<=x/\x<=1000000000:=MG.out;have VJ:=atM fJ;have Jg:(List.map iZ (List.filter (fY (z,B)) l)).length<=16:=(by rw[auq];exact B4);have be:Hid (P.length=(List.map iZ (List.filter (fY (z,B)) l)).length):=(by rw[Hid,mG,auq]);have jD:=L.form iX;obtain⟨ca,cc,rfl,ao,_,_⟩:=jD;have Ea:=Q.size;have KD:=atM hP;have Hs:=atM cu;clear mG Gw KC hP L cu h HR HS B4 MG fJ;generalize List.map iZ (List.filter (fY (z,B)) l)=cm at*
       go_upto_if 146 with fail
       go_cut [19]from 22 to 205 (fun pv wx=>SlI wx pv P/\Below F.heap.size F wx)
       case first=>
        by_cases O6:left<ax cm
        ·have Gx:Hid (P=en left cm):=(by rw[Hid,Fl.out];exact atP O6);have KE:=atM (Vj left ca cc _ w3 ao aJ Ib VJ.out (by omega) (by omega));clear ao KD Fj O5 Fk Fl HL kh ak av Fi bm aR;go_wp2_with fail;refine atV KE.out ?_;rintro e w4 ⟨g,rfl,bt,aS,V⟩;clear KE;go_wp2_with fail;go_meet;have bi:∀n m:Nat,n=m->Value.slice (some ⟨g,0,none⟩) n n=Value.slice (some ⟨g,0,none⟩) m n:=fun n m e=>by rw[e]
         exact⟨⟨some ⟨g,0,none⟩,cm.length,bi _ _ be.out.symm,by rw[Gx.out];exact aS.slice⟩,aA Q V⟩
        ·have Gx:Hid (P=cm):=(by rw[Hid,Fl.out];exact atO O6);clear KD Fj O5 Fk Fl HL kh ak av Fi bm aR;go_wp2_with fail;go_meet;exact⟨⟨ca,cc,by rw[Gx.out],by rw[Gx.out];exact ao⟩,Q⟩
       case rest=>
        obtain⟨⟨PA,pc,rfl,R6⟩,V⟩:=hcut
        rename World=>w4
        have aV:=Fi.aa V;have eo:Below w.heap.size w w4:=aA bm V;have cO:=Hs.out.aa V;clear Fi bm V Q Ea ao Jg;go_wp2_with fail
        go_loopw [0,3,10,20,21] (fun ov lv tv kv iv wr=>∃(k j:Nat) (o:List Elem) (lf tk:Int),k<=l.length/\iv=.int .i64 k/\kv=.int .i64 j/\lv=.int .i64 lf/\tv=.int .i64 tk/\Hid (qm l (z,B) P out left taken k j o lf tk)/\Hid (zN l (aB S) Z o lf tk)/\mr wr ov o/\Below w4.heap.size w4 wr) (fun _ _ _ _ i _=>l.length-(intOf i).toNat)
        case atStart=>exact⟨0,0,out,left,taken,by omega,rfl,rfl,rfl,rfl,qm.start,kh.out,aV,atS _ _⟩
        case round=>
         clear aV kh
         rename World=>w5
         obtain⟨k,j,o,lf,tk,hk,rfl,rfl,rfl,rfl,mQ,KF,az,aM⟩:=hrel;by_cases G:k<l.length
         ·obtain⟨b,off,rfl,hb,T⟩:=(cO.aa aM).at_ G;have c0:=T 0 _ rfl;have c1:=T 1 _ rfl;have c2:=T 2 _ rfl;have c3:=T 3 _ rfl;have c4:=T 4 _ rfl;simp only[atQ]at c0;have fL:(k:Int)<(l.length:Int):=(by omega);clear T;have aX:fY (z,B) l[k]=false->∃(k' j':Nat) (o':List Elem) (Gy Gz:Int),k'<=l.length/\Value.int .i64 ((k:Int)+1)=.int .i64 k'/\Value.int .i64 (j:Int)=.int .i64 j'/\Value.int .i64 lf=.int .i64 Gy/\Value.int .i64 tk=.int .i64 Gz/\Hid (qm l (z,B) P out left taken k' j' o' Gy Gz)/\Hid (zN l (aB S) Z o' Gy Gz)/\mr w5 _ o'/\Below w4.heap.size w4 w5:=fun hg=>⟨k+1,j,o,lf,tk,by omega,by go_num,rfl,rfl,rfl,mQ.out.no G hg,KF.out,az,aM⟩
          have fl:=atM aX;clear aX;by_cases N:l[k].aT=z
          ·have R4:(l[k].aT==z)=true:=(by simp[N]);by_cases X:l[k].day=B
           ·have R5:(l[k].day==B)=true:=(by simp[X]);have hg:fY (z,B) l[k]=true:=(by simp[fY,N,X]);have aC:=mQ.out.lt Fj.out G hg;obtain⟨p0,p1⟩:=mQ.out.bd O5.out Fk.out aC;have R7:=atM (mQ.out.yes Fj.out G hg);have aY:=atM (KF.out.step (atT G) p0 p1);have O7:=KF.out;have bv:=O7.t0;have bw:=O7.l0;have bk:=O7.tl;have RY:=O7.len ap;have R8:=atM (O7.MH a5 nu);have bx:lf<=1000000000:=(by omega);have bz:tk<=1000000000:=(by omega);obtain⟨bp,bl,rfl,bo,Fm⟩:=(R6.aa aM).at_ aC;have d0:=Fm 0 _ rfl;simp only[atQ,auo]at d0;have a0:P[j]=P.getD j 0:=(by rw[atZ,atW aC];rfl);rw[a0]at d0;have jM:(j:Int)<(P.length:Int):=(by omega);clear Fm a0 N X hg mQ KF O7 bk fl;generalize P.getD j 0=pj at*;obtain⟨A5,c5,rfl,dm,nO,nP⟩:=az;by_cases hp:0<pj
            ·have KG:Hid (o9 o l[k] pj=put o ⟨l[k].id,pj⟩):=by rw[Hid,o9,atP hp]
             as_aux_lemma=>
              go_upto_region 29 with fail
              go_still_tail 11,(by kernel_rfl)
              change wpList _ _ _ _ _ w5.drew;have a3:ai aN 2 w5.drew w5.drew.heap.size A5 o:=dm;go_wp2_with fail;refine(RX A5 c5 o ⟨l[k].id,pj⟩ _ a3 nO nP (by omega) R8.out (by show-1000000000000000<=pj;omega) (by show pj<=1000000000000000;omega)).mono ?_;rintro e w6 ⟨v6,rfl,cA,bu⟩;have R9:Below w5.heap.size w5 w6:=⟨bu.os,bu.tape,bu.output,bu.size,bu.block⟩
              have O8:=(R9.cell (p:=⟨bp,bl+j,none⟩) bo).trans d0;have O9:=cA.RV;rw[<-KG.out]at O9;have Sa:=aA aM R9;clear d0 c0 c1 c2 c3 c4 dm a3 cA bu R9 KG aM;go_wp2;go_roundw
              case rel=>
               have y:∃(k' j':Nat) (o':List Elem) (Gy Gz:Int),k'<=l.length/\Value.int .i64 ((k:Int)+1)=.int .i64 k'/\Value.int .i64 ((j:Int)+1)=.int .i64 j'/\Value.int .i64 (lf-pj)=.int .i64 Gy/\Value.int .i64 (tk+pj)=.int .i64 Gz/\Hid (qm l (z,B) P out left taken k' j' o' Gy Gz)/\Hid (zN l (aB S) Z o' Gy Gz)/\mr w6 v6 o'/\Below w4.heap.size w4 w6:=⟨k+1,j+1,_,_,_,by omega,by go_num,by go_num,rfl,rfl,R7.out,aY.out,O9,Sa⟩
               first|exact y|((repeat apply Exists.intro);exact⟨y,rfl⟩)
              case measure=>simp[intOf];omega
            ·have KG:Hid (o9 o l[k] pj=o):=by rw[Hid,o9,atO hp]
             as_aux_lemma=>
              have O9:mr w5 (.slice A5 o.length c5) (o9 o l[k] pj):=(by rw[KG.out];exact⟨A5,c5,rfl,dm,nO,nP⟩);clear KG dm;go_wp2;go_roundw
              case rel=>
               have y:∃(k' j':Nat) (o':List Elem) (Gy Gz:Int),k'<=l.length/\Value.int .i64 ((k:Int)+1)=.int .i64 k'/\Value.int .i64 ((j:Int)+1)=.int .i64 j'/\Value.int .i64 (lf-pj)=.int .i64 Gy/\Value.int .i64 (tk+pj)=.int .i64 Gz/\Hid (qm l (z,B) P out left taken k' j' o' Gy Gz)/\Hid (zN l (aB S) Z o' Gy Gz)/\mr w5 (.slice A5 o.length c5) o'/\Below w4.heap.size w4 w5:=⟨k+1,j+1,_,_,_,by omega,by go_num,by go_num,rfl,rfl,R7.out,aY.out,O9,aM⟩
               first|exact y|((repeat apply Exists.intro);exact⟨y,rfl⟩)
              case measure=>simp[intOf];omega
           ·have R5:(l[k].day==B)=false:=(by rw[auj];exact X);have HG:Hid (fY (z,B) l[k]=false):=(by simp[Hid,fY,X]);clear N X;go_wp2;go_roundw
            case rel=>first|exact fl.out HG.out|((repeat apply Exists.intro);exact⟨fl.out HG.out,rfl⟩)
            case measure=>simp[intOf];omega
          ·have R4:(l[k].aT==z)=false:=(by rw[auj];exact N);have HG:Hid (fY (z,B) l[k]=false):=(by simp[Hid,fY,N]);clear N;go_wp2;go_roundw
           case rel=>first|exact fl.out HG.out|((repeat apply Exists.intro);exact⟨fl.out HG.out,rfl⟩)
           case measure=>simp[intOf];omega
         ·obtain rfl:k=l.length:=by omega
          have MI:=atM (mQ.out.done Fj.out);clear hk G mQ R6 Fj O5 Fk;go_wp2_with fail;go_roundw
          case rel=>
           have y:∃(an:List Elem) (af aD:Int) (last:Int×Int),Value.int .i64 lf=.int .i64 af/\Value.int .i64 tk=.int .i64 aD/\Value.int .i64 z=.int .i64 last.1/\Value.int .i64 B=.int .i64 last.2/\Hid (nX l aU (o8 l aU last) last af an aD=R)/\Hid (zN l (aB S) Z an af aD)/\mr w5 _ an/\Below w.heap.size w w5:=⟨o,lf,tk,(z,B),rfl,rfl,rfl,rfl,by rw[Hid,ak.out,MI.out.1,MI.out.2.1,MI.out.2.2,KD.out],KF.out,az,aA eo aM⟩
           first|exact y|((repeat apply Exists.intro);exact⟨y,rfl⟩)
          case measure=>simp[intOf];exact av.out
theorem akX(s:kB)(net j:Int)(w:World)(h:oL s)(z:0<=net)(B:¬net<=1000000000)(d0:0<=j)(d1:j<=20):Calls prog 149 #[Dr s,.int .i64 net,.int .i64 j] w fun e w'=>e=.returned (.tuple #[.int .i64 0,.int .i64 2])/\Below w.heap.size w w':=by
 have l:=fun w=>aah s net j w h z d0 d1;rw[atO B]at l;have u:=atM l;clear l h;have r:=ah.new w 43 #[.int .i64 s.fixed,.int .i64 s.bO,.int .i64 s.lower,.int .i64 s.share,.int .i64 s.top];have y:=bC w (.cells #[.int .i64 s.fixed,.int .i64 s.bO,.int .i64 s.lower,.int .i64 s.share,.int .i64 s.top] 43);unfold Dr at u|-;go_enter func149,ntmps149;go_upto_region 1 with fail
 generalize w.alloc (Obj.cells _ _)=W at r y|-;obtain⟨D,E,F,G,I⟩:=r.cz5;go_wp2_with fail;refine atV (u.out _) ?_;rintro e K ⟨rfl,p⟩;have J:=aA y p;clear r p D E F G I;go_wp2;go_ret2;exact⟨rfl,J⟩
theorem VK.at_{l:List bn}{left e:Int}{R:List Elem×Int}(h:VK l left [] 0 R)(j:0<=e):zN l (aB R.1) e R.1 e 0:=
 ⟨h.pos,h.code,h.sorted,by omega,by omega,by omega,j⟩
theorem zN.first{l:List bn}{e:Int}(j:0<=e):zN l (aB []) e [] e 0:=
 ⟨by simp,by simp,List.Pairwise.nil,by simp[aB],by omega,by omega,j⟩
theorem akY(s:kB)(net j:Int)(A:Option Addr)(p:Nat)(l:List bn)(w:World)(h:ai mO 5 w w.heap.size A l)(B:oL s)(J:Bq l)(R:0<=net)(S:¬net<=1000000000)(d0:0<=j)(d1:j<=20):
  Calls prog 93 #[Dr s,.int .i64 net,.int .i64 j,.slice A l.length p] w fun e w'=>e=.returned (.tuple #[.slice none 0 0,.int .i64 2])/\Below w.heap.size w w':=by
 have K:=atM (fun w=>VL s w B);have T:Hid (∀W,Below w.heap.size w W->Calls prog 148 #[.slice A l.length p] W fun e w'=>e=.returned (.bool true)/\Below W.heap.size W w'):=fun W U=>aai A p l W (h.aa U) J;have L:=atM (fun w=>akX s net j w B R S d0 d1);clear h B J;have z:=ah.new w 43 #[.int .i64 s.fixed,.int .i64 s.bO,.int .i64 s.lower,.int .i64 s.share,.int .i64 s.top];have M:=bC w (.cells #[.int .i64 s.fixed,.int .i64 s.bO,.int .i64 s.lower,.int .i64 s.share,.int .i64 s.top] 43);unfold Dr at K L|-;go_enter func93,ntmps93;go_upto_region 1 with fail
 generalize w.alloc (Obj.cells _ _)=W at z M|-;obtain⟨D,E,F,G,I⟩:=z.cz5;go_wp2_with fail;refine atV (K.out _) ?_;rintro e Y ⟨rfl,r⟩;have N:=z.aa r;have O:=aA M r;clear z r D E F G I;go_wp2_with fail;refine atV (T.out _ O) ?_;rintro e Z ⟨rfl,u⟩;have Q:=N.aa u;have V:=aA O u;clear N u;obtain⟨D,E,F,G,I⟩:=Q.cz5;go_wp2_with fail;refine atV (L.out _) ?_;rintro e w3 ⟨rfl,y⟩;have X:=aA V y;clear Q y D E F G I;go_wp2;go_ret2;exact⟨rfl,X⟩
theorem akZ(s:kB)(net j:Int)(A:Option Addr)(p:Nat)(l:List bn)(w:World)(h:ai mO 5 w w.heap.size A l)(E:oL s)(S:Bq l)(T:0<=net)(U:net<=1000000000)(d0:0<=j)(d1:j<=20):
  Calls prog 93 #[Dr s,.int .i64 net,.int .i64 j,.slice A l.length p] w fun e w'=>∃v,e=.returned (.tuple #[v,.int .i64 0])/\mr w' v (B6 s net j l)/\Below w.heap.size w w':=by
 have CK:=atM (fun w=>VL s w E);have GA:Hid (∀W,Below w.heap.size w W->Calls prog 148 #[.slice A l.length p] W fun e w'=>e=.returned (.bool true)/\Below W.heap.size W w'):=fun W G=>aai A p l W (h.aa G) S;have GC:=atM (fun w=>ak0 s net j w E T U d0 d1);have Ic:=atM (fun w=>ak1 s net j w E T U d0 d1);obtain⟨_,⟨r0,r1⟩,⟨w0,Ds⟩,_⟩:=KH E T U d0 d1;have I:=(VM E S T U d0 d1).2;have Y:Hid (B6 s net j l=(jn (jn [] l true (net-iH s net j)).1 l false (max (net-ny s net j-(jn [] l true (net-iH s net j)).2) 0)).1):=rfl;have Z:=atM S;clear E S;have V:=ah.new w 43 #[.int .i64 s.fixed,.int .i64 s.bO,.int .i64 s.lower,.int .i64 s.share,.int .i64 s.top];have ae:=bC w (.cells #[.int .i64 s.fixed,.int .i64 s.bO,.int .i64 s.lower,.int .i64 s.share,.int .i64 s.top] 43);unfold Dr at CK GC Ic|-;generalize B6 s net j l=AT at*;generalize iH s net j=J at*;generalize ny s net j=X at*;have AG:Hid (∀W,Below w.heap.size w W->Calls prog 151 #[.slice none 0 0,.slice A l.length p,.bool true,.int .i64 (net-J)] W fun e w'=>∃v,e=.returned (.tuple #[v,.int .i64 (jn [] l true (net-J)).2])/\mr w' v (jn [] l true (net-J)).1/\Below W.heap.size W w'):=fun W G=>
  aeu none A 0 p [] l true (net-J) W ai.cC (by simp) (by unfold maxLen;omega) (h.aa G) Z.out (zN.first (by omega)) (by simp[aB]) (by omega)
 generalize jn [] l true (net-J)=R at*;obtain⟨r,u⟩:=R;have i1:=I.sum;have i2:=I.lo;have i3:=I.hi;simp only[aB]at i1 i2 i3 Y AG;have t0:0<=u:=by omega
 have t1:u<=1000000000:=by omega
 have VN:aB r<=1000000000:=by omega
 have kh:=atM I;clear I i1 i2 i3;have ab:∃x,x=max (net-X-u) 0/\(0<=net-X-u/\x=net-X-u\/net-X-u<0/\x=0):=⟨_,rfl,by omega⟩
 obtain⟨x,hx,ad⟩:=ab;rw[<-hx]at Y;have x0:0<=x:=by omega
 have x1:x<=1000000000:=by omega
 clear hx;have GD:Hid (∀W F y,Below w.heap.size w W->ai aN 2 W W.heap.size F r->r.length<=y->y<=maxLen->Calls prog 151 #[.slice F r.length y,.slice A l.length p,.bool false,.int .i64 x] W fun e w'=>∃v,e=.returned (.tuple #[v,.int .i64 (jn r l false x).2])/\mr w' v (jn r l false x).1/\Below W.heap.size W w'):=fun W F y G h5 h6 h7=>
  aeu F A y p r l false x W h5 h6 h7 (h.aa G) Z.out (kh.out.at_ (R:=(r,u)) x0) VN x1
 clear h Z kh;rcases ad with⟨k1,rfl⟩|⟨k1,rfl⟩
 all_goals
  go_enter func93,ntmps93;go_upto_region 1 with fail
  generalize w.alloc (Obj.cells _ _)=W at V ae|-;obtain⟨K,L,M,N,O⟩:=V.cz5;go_wp2_with fail;refine atV (CK.out _) ?_;rintro e w1 ⟨rfl,z⟩;have aC:=V.aa z;have aS:=aA ae z;clear V z K L M N O;go_wp2_with fail;refine atV (GA.out _ aS) ?_;rintro e w2 ⟨rfl,B⟩;have bA:=aC.aa B;have bm:=aA aS B;clear aC B;obtain⟨K,L,M,N,O⟩:=bA.cz5;go_wp2_with fail;refine atV (GC.out _) ?_;rintro e w3 ⟨rfl,D⟩;have bk:=bA.aa D;have cT:=aA bm D;clear bA D K L M N O;obtain⟨K,L,M,N,O⟩:=bk.cz5;go_wp2_with fail;refine atV (Ic.out _) ?_;rintro e w4 ⟨rfl,Q⟩;have eo:=aA cT Q;clear bk Q K L M N O;go_wp2_with fail;refine atV (AG.out _ eo) ?_;rintro e w5 ⟨v5,rfl,⟨F,y,rfl,h5,h6,h7⟩,aM⟩;have qo:=aA eo aM;go_wp2_with fail;refine atV (GD.out _ F y qo h5 h6 h7) ?_;rintro e w6 ⟨v6,rfl,O9,bu⟩;go_wp2;go_ret2;exact⟨v6,rfl,by rw[Y.out];exact O9,aA qo bu⟩
def Dj(r:gJ)(p:fB)(y:fC)(kept:List Elem)(first:Bool)(e:List Elem):bf:=⟨r.t,p.t,y.t,kept,first,e⟩
def nY(I:bf)(w:World)(e:Ending)(w':World):Prop:=
 (I.err=0/\∃A c j l At p,e=.returned (.tuple #[.agg #[.int .i64 I.b.g,.int .i64 I.b.c,.int .i64 I.b.t,.int .i64 I.b.i,.int .i64 I.b.a,.int .i64 I.lH,.slice A I.lines.length c],.agg #[.int .i64 I.next.az,.int .i64 I.next.ay,.int .i64 I.next.aQ,.slice j I.next.aO.length l,.slice At I.next.taken.length p],.int .i64 0])/\
  ai fV 3 w' w'.heap.size A I.lines/\ai encI 1 w' w'.heap.size j I.next.aO/\ai aN 2 w' w'.heap.size At I.next.taken/\Below w.heap.size w w')\/
 (I.err≠0/\e=.returned (.tuple #[.agg #[.int .i64 0,.int .i64 0,.int .i64 0,.int .i64 0,.int .i64 0,.int .i64 0,.slice none 0 0],.agg #[.int .i64 0,.int .i64 0,.int .i64 0,.slice none 0 0,.slice none 0 0],.int .i64 I.err])/\Below w.heap.size w w')
theorem nY.fail{I:bf}{w w':World}{n:Int}(h:I.err=n)(e:n≠0)(j:Below w.heap.size w w'):nY I w (.returned (.tuple #[.agg #[.int .i64 0,.int .i64 0,.int .i64 0,.int .i64 0,.int .i64 0,.int .i64 0,.slice none 0 0],.agg #[.int .i64 0,.int .i64 0,.int .i64 0,.slice none 0 0,.slice none 0 0],.int .i64 n])) w':=.inr ⟨by rw[h];exact e,by rw[h],j⟩
def iQ(W:World)(e j:Nat):World:=((((((((((((W.setCell ⟨e,0,none⟩ (.int .i64 0)).setCell ⟨e,1,none⟩ (.int .i64 0)).setCell ⟨e,2,none⟩ (.int .i64 0)).setCell ⟨e,3,none⟩ (.int .i64 0)).setCell ⟨e,4,none⟩ (.int .i64 0)).setCell ⟨e,5,none⟩ (.int .i64 0)).setCell ⟨e,6,none⟩ (.slice none 0 0)).setCell ⟨j,0,none⟩ (.int .i64 0)).setCell ⟨j,1,none⟩ (.int .i64 0)).setCell ⟨j,2,none⟩ (.int .i64 0)).setCell ⟨j,3,none⟩ (.slice none 0 0)).setCell ⟨j,4,none⟩ (.slice none 0 0))
theorem Br{W:World}{j l:Nat}(y:ah W j 27 #[.int .i64 0,.int .i64 0,.int .i64 0,.int .i64 0,.int .i64 0,.int .i64 0,.slice none 0 0])(z:ah W l 53 #[.int .i64 0,.int .i64 0,.int .i64 0,.slice none 0 0,.slice none 0 0])(p:j≠l):ah (iQ W j l) j 27 #[.int .i64 0,.int .i64 0,.int .i64 0,.int .i64 0,.int .i64 0,.int .i64 0,.slice none 0 0]/\ah (iQ W j l) l 53 #[.int .i64 0,.int .i64 0,.int .i64 0,.slice none 0 0,.slice none 0 0]:=by have B:=y.fill [.int .i64 0,.int .i64 0,.int .i64 0,.int .i64 0,.int .i64 0,.int .i64 0,.slice none 0 0] rfl;have D:=z.Mm (g':=j) (fun e=>p e.symm) [.int .i64 0,.int .i64 0,.int .i64 0,.int .i64 0,.int .i64 0,.int .i64 0,.slice none 0 0] 0;have r:=B.Mm (g':=l) p [.int .i64 0,.int .i64 0,.int .i64 0,.slice none 0 0,.slice none 0 0] 0;have u:=D.fill [.int .i64 0,.int .i64 0,.int .i64 0,.slice none 0 0,.slice none 0 0] rfl;simp only[ir,atX,Nat.reduceAdd]at r u;exact⟨r,u⟩
theorem Bt{B:Nat}{a:World}{j l:Nat}{y:World}(h:Below B a y)(r:B<=j)(u:B<=l)(W:World)(e:W=y:=by rfl):Below B a (iQ W j l):=by subst e;exact(auQ (p:=⟨l,4,none⟩) (auQ (p:=⟨l,3,none⟩) (auQ (p:=⟨l,2,none⟩) (auQ (p:=⟨l,1,none⟩) (auQ (p:=⟨l,0,none⟩) (auQ (p:=⟨j,6,none⟩) (auQ (p:=⟨j,5,none⟩) (auQ (p:=⟨j,4,none⟩) (auQ (p:=⟨j,3,none⟩) (auQ (p:=⟨j,2,none⟩) (auQ (p:=⟨j,1,none⟩) (auQ (p:=⟨j,0,none⟩) h r (.int .i64 0)) r (.int .i64 0)) r (.int .i64 0)) r (.int .i64 0)) r (.int .i64 0)) r (.int .i64 0)) r (.slice none 0 0)) u (.int .i64 0)) u (.int .i64 0)) u (.int .i64 0)) u (.slice none 0 0)) u (.slice none 0 0))
structure Fo(I:bf):Prop where
 Dl:I.y.az<I.r.count
 GF:eL I.r.fZ I.e (bG I.e)=0
 take:fj I.p.kN I.base (max I.b.c 0) I.y.taken=0
 over:I.Em=false
 MH:cQ I.aw=true
 net:¬(I.first=true/\1000000000<I.net)
theorem Fo.err{I:bf}(h:Fo I):I.err=if fh I.y.taken I.before≠0 then fh I.y.taken I.before else if fj I.p.kN I.base (max I.eu 0) I.iR≠0 then fj I.p.kN I.base (max I.eu 0) I.iR else fh I.iR I.after:=by have j:=h.Dl;have e:=h.MH;unfold bf.err;rw[atO (by omega),h.GF,atO (by simp),h.take,atO (by simp),h.over,atO (by simp),e,atO (by simp),atO h.net]
theorem Fo.aeG{I:bf}(h:Fo I){n:Int}(e:fh I.y.taken I.before=n)(j:n≠0):I.err=n:=by rw[h.err,e,atP j]
theorem Fo.Dc{I:bf}(h:Fo I)(e:fh I.y.taken I.before=0){n:Int}(j:fj I.p.kN I.base (max I.eu 0) I.iR=n)(l:n≠0):I.err=n:=by rw[h.err,e,atO (by simp),j,atP l]
theorem Fo.VO{I:bf}(h:Fo I)(e:fh I.y.taken I.before=0)(j:fj I.p.kN I.base (max I.eu 0) I.iR=0){n:Int}(l:fh I.iR I.after=n):I.err=n:=by rw[h.err,e,atO (by simp),j,atO (by simp),l]
theorem aeH{I:bf}{l:List dx}{k:Nat}(h:k<l.length):I.jP (l.take (k+1))=I.jP (l.take k)+(I.fS l[k]).aD:=by unfold bf.jP;rw[aud h,auK,F9];simp[ax]
theorem aeI{I:bf}{l:List dx}{k:Nat}(h:k<l.length):I.kC (l.take (k+1))=I.kC (l.take k)+(if l[k].ep then(I.fS l[k]).aD else 0):=by unfold bf.kC;rw[aud h,auK,F9];simp[ax]
theorem ak2{I:bf}{l:List dx}{k:Nat}(h:k<l.length):I.gw (l.take (k+1))=I.gw (l.take k)++[⟨l[k].code,(I.fS l[k]).aD⟩]:=by unfold bf.gw;rw[aud h,auK];rfl
theorem ak3{I:bf}{l:List dx}{k:Nat}(h:k<l.length):I.iu (l.take (k+1))=I.iu (l.take k)++[⟨l[k].code,(I.fS l[k]).aV⟩]:=by unfold bf.iu;rw[aud h,auK];rfl
theorem aaj{I:bf}{l:List dx}{k:Nat}(y:l.length<=12)(h:∀s∈l.take k,0<=(I.fS s).aD/\(I.fS s).aD<=1000000000):(0<=I.jP (l.take k)/\I.jP (l.take k)<=12000000000)/\0<=I.kC (l.take k)/\I.kC (l.take k)<=12000000000:=by
 have p:(l.take k).length<=12:=by simp;omega
 have r:=nv (l:=(l.take k).map fun s=>(I.fS s).aD) (B:=1000000000) (fun x e=>by obtain⟨s,j,rfl⟩:=aue.1 e;exact h s j)
 have u:=nv (l:=(l.take k).map fun s=>if s.ep then(I.fS s).aD else 0) (B:=1000000000) (fun x e=>by obtain⟨s,j,rfl⟩:=aue.1 e;have:=h s j;split<;>omega)
 rw[auq]at r u;unfold bf.jP bf.kC;omega
theorem aeJ{I:bf}(h:∀s∈I.r.bF,gI (iE s I.y.aO.length I.eF)=false):I.Em=false:=by unfold bf.Em;rw[auC];intro s e;rw[h s e];simp
theorem aeK{I:bf}{s:dx}(e:s∈I.r.bF)(h:gI (iE s I.y.aO.length I.eF)=true):I.Em=true:=by unfold bf.Em;rw[auy];exact⟨s,e,h⟩
structure Sb(I:bf):Prop where
 Dl:I.y.az<I.r.count
 GF:eL I.r.fZ I.e (bG I.e)=0
 take:fj I.p.kN I.base (max I.b.c 0) I.y.taken=0
theorem Sb.err{I:bf}(h:Sb I)(e:I.Em=true):I.err=4:=by have j:=h.Dl;unfold bf.err;rw[atO (by omega),h.GF,atO (by simp),h.take,atO (by simp),atP e]
theorem ak4{I:bf}{l:List dx}{k:Nat}(h:k<l.length):I.zO (l.take (k+1))=I.zO (l.take k)++(ag 4 [⟨l[k].code,(I.fS l[k]).aD⟩]++ag 5 [⟨l[k].code,(I.fS l[k]).aV⟩]):=by unfold bf.zO;rw[aud h,avt];simp
theorem ak5{I:bf}{s:dx}(e:gI (iE s I.y.aO.length I.eF)=false):AH s I.y.aO.length I.eF=0/\∃rest,qg s I.y.aO.length I.eF=I.fS s::rest:=by
 refine⟨by rw[AH,e];rfl,?_⟩;have l:qg s I.y.aO.length I.eF=E9 s I.y.aO.length I.eF:=by rw[qg,e];rfl
 have j:0<(E9 s I.y.aO.length I.eF).length:=by unfold E9;rw[Jh];simp[nU,bf.eF]
 rw[l];unfold bf.fS;cases p:E9 s I.y.aO.length I.eF with
 |nil=>rw[p]at j;simp at j
 |cons a t=>exact⟨t,by simp⟩
theorem ak6{I:bf}{s:dx}(e:gI (iE s I.y.aO.length I.eF)=true):AH s I.y.aO.length I.eF=4/\qg s I.y.aO.length I.eF=[]:=by rw[AH,qg,e];exact⟨rfl,rfl⟩
theorem ak7(v:gM)(A:Option Addr)(z:Nat)(r:List Int)(w:World)(h:ai encI 1 w w.heap.size A r)(hw:∀x∈r,0<=x/\x<=1000000000)(hl:r.length<=1000)(oV:0<r.length)
  (b0:0<=v.base) (b1:v.base<=1000000000) (e0:0<=v.aD) (e1:v.aD<=1000000000) (r0:0<=v.aV) (r1:v.aV<=1000000000):
  Calls prog 141 #[.agg #[.int .i64 v.base,.int .i64 v.aD,.int .i64 v.aV],.slice A r.length z] w fun e w'=>∃B c,e=.returned (.slice B r.length c)/\ai dY 3 w' w'.heap.size B (nT v r)/\r.length<=c/\(∀a,B=some a->w.heap.size<=a.block)/\Below w.heap.size w w':=by
 have HW:=atM hw;clear hw;have Cw:=adp r.length (by omega);go_enter func141,ntmps141;go_wp2_with fail;have hB:=ah.new w 142 #[.int .i64 v.base,.int .i64 v.aD,.int .i64 v.aV];have E:=bC w (.cells #[.int .i64 v.base,.int .i64 v.aD,.int .i64 v.aV] 142);have hS:=h.aa E;generalize w.alloc (Obj.cells _ _)=W at hB E hS|-
 go_loop [5,6] (fun s i=>∃k:Nat,k<=r.length/\i=.int .i64 k/\s=.int .i64 (ax (r.take k))) (fun _ i=>r.length-(intOf i).toNat)
 case atStart=>exact⟨0,by omega,rfl,rfl⟩
 case round=>
  obtain⟨k,hk,rfl,rfl⟩:=hrel;have G:=nv (l:=r.take k) (B:=1000000000) (fun x hx=>HW.out x (auh hx));simp only[auH]at G;have af:0<=ax (r.take k):=G.1;have aj:ax (r.take k)<=1000000000000:=by omega
  clear G;by_cases I:k<r.length
  ·obtain⟨b,off,rfl,hb,J⟩:=hS.at_ I;have c0:=J 0 _ rfl;simp only[atQ,auo]at c0;obtain⟨x0,x1⟩:=HW.out _ (atT I);have HT:=atM (Q3 r k I);clear J;go_wp2;go_round
   case rel=>exact⟨k+1,by omega,by go_num,by rw[HT.out]⟩
   case measure=>simp[intOf];omega
  ·obtain rfl:k=r.length:=by omega
   rw[auv]at af aj|-;have K:=Own.lit KI W (List.replicate r.length jN) _ 142 rfl (by simp;omega) (atN W.heap.size);rw[List.length_replicate]at K;have U:=eP E (.cells ((List.replicate r.length jN).flatMap dY).toArray 142);have V:=hB.alloc (.cells ((List.replicate r.length jN).flatMap dY).toArray 142);have D:=hS.OZ (.cells ((List.replicate r.length jN).flatMap dY).toArray 142);have aX:w.heap.size<W.heap.size:=hB.lt;clear hS hB E;have F:ah (W.alloc (.cells ((List.replicate r.length jN).flatMap dY).toArray 142)) W.heap.size 142 ((List.replicate r.length jN).flatMap dY).toArray:=ah.new _ _ _;go_upto_region 7 with fail
   generalize W.alloc (Obj.cells ((List.replicate r.length jN).flatMap dY).toArray 142)=W2 at K U V D F|-;have Bu:=F.lt;by_cases hz:ax r=0
   ·have al:(ax r==0)=true:=(by simp[hz]);have HD:Hid (nT v r=(List.replicate r.length jN).set 0 v):=(by rw[Hid,nT,atP hz]);have L:=K.ado KI (by simp) (j:=0) (by simpa using oV) v (.int .i64 v.base) (.int .i64 v.aD) (.int .i64 v.aV) rfl;have bm:=iL (iL (iL U (g:=W.heap.size) (by omega) 0 (.int .i64 v.base)) (g:=W.heap.size) (by omega) 1 (.int .i64 v.aD)) (g:=W.heap.size) (by omega) 2 (.int .i64 v.aV);rw[auu,atX,atX]at L;have M:=atM L;have am:=atM bm;have an:3<=((List.replicate r.length jN).flatMap dY).toArray.size:=(by simp[ajM KI];omega);have q0:W2.cell? ⟨W.heap.size,0,none⟩=some (((List.replicate r.length jN).flatMap dY).toArray[0]'(by omega)):=by rw[F.cell 0,au8]
    have X:W2.cell? ⟨W.heap.size,1,none⟩=some (((List.replicate r.length jN).flatMap dY).toArray[1]'(by omega)):=by rw[F.cell 1,au8]
    have q2:W2.cell? ⟨W.heap.size,2,none⟩=some (((List.replicate r.length jN).flatMap dY).toArray[2]'(by omega)):=by rw[F.cell 2,au8]
    obtain⟨f0,f1,f2⟩:=F.fz3;obtain⟨Y,Z,z2⟩:=V.cz3;generalize ((List.replicate r.length jN).flatMap dY).toArray[0]'(by omega)=y0 at q0
    generalize ((List.replicate r.length jN).flatMap dY).toArray[1]'(by omega)=y1 at X
    generalize ((List.replicate r.length jN).flatMap dY).toArray[2]'(by omega)=y2 at q2
    clear F K L V bm an;go_wp2;go_ret;obtain⟨A9,c9,eX,cP,_⟩:=M.out.kX KI;injection eX with e1 e2 e3
    rw[HD.out];refine⟨some ⟨W.heap.size,0,none⟩,r.length,rfl,?_,atN _,(fun a N=>by injection N with N;subst N;show w.heap.size<=W.heap.size;omega),am.out⟩;rw[e1];exact cP
   ·have al:(ax r==0)=false:=(by simpa using hz);have O:0<ax r:=(by omega);have HD:=atM (ajR v r hz);obtain⟨Y,Z,z2⟩:=V.cz3;rw[<-ajP v r]at K;clear F;go_wp2_with fail;refine(Vj v.base A z r _ D b0 b1 HW.out O hl).mono ?_;rintro e w3 ⟨g3,rfl,aY,ko,Bv⟩;have bA:=V.aa Bv;have fW:=D.aa Bv;have CL:=K.aa Bv;have cT:=aA U Bv;clear V D K U Y Z z2;obtain⟨Y,Z,z2⟩:=bA.cz3;go_wp2_with fail;refine(Vj v.aD A z r _ fW e0 e1 HW.out O hl).mono ?_;rintro e w4 ⟨g4,rfl,a0,AE,u⟩;have bk:=bA.aa u;have cO:=fW.aa u;have pg:=CL.aa u;have eo:=aA cT u;have ab:=ko.aa u;have a1:=Bv.size;have Fp:=ko.lt;clear bA fW CL cT ko Y Z z2 Bv;obtain⟨Y,Z,z2⟩:=bk.cz3;go_wp2_with fail;refine(Vj v.aV A z r _ cO r0 r1 HW.out O hl).mono ?_;rintro e w5 ⟨g5,rfl,aZ,B7,aM⟩;have lW:=pg.aa aM;have qo:=aA eo aM;have Pa:=ab.aa aM;have Pb:=AE.aa aM;have dP:=u.size;have a2:=aM.size;have a3:=AE.lt;have Q:g3≠W.heap.size:=(by omega);have VP:g4≠W.heap.size:=(by omega);have R:g5≠W.heap.size:=(by omega);have Pc:(en v.base r).length=r.length:=Pf _ _;have Gg:(en v.aD r).length=r.length:=Pf _ _;have ad:(en v.aV r).length=r.length:=Pf _ _;have ao:=atM Pc;have Y7:=atM Gg;have ap:=atM ad;clear bk cO pg eo ab AE Y Z z2 u aM Pc Gg ad;go_wp2
    go_loopw [14] (fun i wr=>∃k:Nat,k<=r.length/\i=.int .i64 k/\Own dY 3 142 wr W.heap.size (.slice (some ⟨W.heap.size,0,none⟩) r.length r.length) (Hp v r r.length k)/\RowI wr g3 (en v.base r)/\RowI wr g4 (en v.aD r)/\RowI wr g5 (en v.aV r)/\Below w.heap.size w wr) (fun i _=>r.length-(intOf i).toNat)
    case atStart=>exact⟨0,by omega,rfl,lW,Pa,Pb,B7,qo⟩
    case round=>
     clear lW Pa Pb B7 qo;obtain⟨k,hk,rfl,hO,Pa,Pb,S,E⟩:=hrel;by_cases fO:k<r.length
     ·have x0:=Pa.cell (i:=k) (by rw[ao.out];exact fO);have x1:=Pb.cell (i:=k) (by rw[Y7.out];exact fO);have x2:=S.cell (i:=k) (by rw[ap.out];exact fO);obtain⟨A7,c7,av,fX,_⟩:=hO.kX KI;injection av with az aC aE
      subst az;clear aC aE;obtain⟨b,off,cZ,hb,J⟩:=fX.at_ (i:=k) (by rw[Ru];exact fO);injection cZ with cZ
      injection cZ with cZ dE
      subst cZ dE;have q0:=J 0 _ rfl;have X:=J 1 _ rfl;have q2:=J 2 _ rfl;simp only[atQ,atX]at q0 X q2;generalize (Hp v r r.length k)[k]'_=yy at q0 X q2
      obtain⟨gq,a4,a5,T,_,y,_,_⟩:=hO.some_ (by rw[Ru];omega);injection T with T aJ aQ
      clear aJ aQ;injection T with T
      injection T with T
      subst T;have j5:=y.frozen (k*3);have j6:=y.frozen (k*3+1);have j7:=y.frozen (k*3+2);have L:=hO.ado KI (by rw[Ru]) (j:=k) (by rw[Ru];exact fO) (Zv v r k) (.int .i64 ((en v.base r).getD k 0)) (.int .i64 ((en v.aD r).getD k 0)) (.int .i64 ((en v.aV r).getD k 0)) rfl;rw[ajQ _ _ _ _ fO]at L;have M:=atM L;have aR:=atM (((Pa.far (p:=⟨W.heap.size,k*3,none⟩) Q (.int .i64 ((en v.base r).getD k 0))).far (p:=⟨W.heap.size,k*3+1,none⟩) Q (.int .i64 ((en v.aD r).getD k 0))).far (p:=⟨W.heap.size,k*3+2,none⟩) Q (.int .i64 ((en v.aV r).getD k 0)));have aT:=atM (((Pb.far (p:=⟨W.heap.size,k*3,none⟩) VP (.int .i64 ((en v.base r).getD k 0))).far (p:=⟨W.heap.size,k*3+1,none⟩) VP (.int .i64 ((en v.aD r).getD k 0))).far (p:=⟨W.heap.size,k*3+2,none⟩) VP (.int .i64 ((en v.aV r).getD k 0)));have aU:=atM (((S.far (p:=⟨W.heap.size,k*3,none⟩) R (.int .i64 ((en v.base r).getD k 0))).far (p:=⟨W.heap.size,k*3+1,none⟩) R (.int .i64 ((en v.aD r).getD k 0))).far (p:=⟨W.heap.size,k*3+2,none⟩) R (.int .i64 ((en v.aV r).getD k 0)));have U:=atM (iL (iL (iL E (g:=W.heap.size) (by omega) (k*3) (.int .i64 ((en v.base r).getD k 0))) (g:=W.heap.size) (by omega) (k*3+1) (.int .i64 ((en v.aD r).getD k 0))) (g:=W.heap.size) (by omega) (k*3+2) (.int .i64 ((en v.aV r).getD k 0)));clear L hO Pa Pb S E y fX J;generalize (en v.base r).getD k 0=a6 at*;generalize (en v.aD r).getD k 0=a7 at*;generalize (en v.aV r).getD k 0=a8 at*;go_wp2
      go_region
      go_wp2;go_roundw
      case rel=>exact⟨k+1,by omega,by go_num,M.out.drewN 1,aR.out.drew,aT.out.drew,aU.out.drew,below_drewN U.out 1⟩
      case measure=>simp[intOf];omega
     ·obtain rfl:k=r.length:=by omega
      have HO:=atM hO;clear hO;go_wp2;go_ret;have VQ:=HO.out;rw[HD.out]at VQ;obtain⟨A9,c9,eX,cP,_⟩:=VQ.kX KI;injection eX with X q2 q3
      refine⟨some ⟨W.heap.size,0,none⟩,r.length,rfl,?_,atN _,(fun a N=>by injection N with N;subst N;show w.heap.size<=W.heap.size;omega),E⟩;rw[X];exact cP
def B8(m:List gM)(l:Int)(w:World)(e:Ending)(w':World):Prop:=
 ∃A j,e=.returned (.tuple #[.slice A m.length j,.int .i64 l])/\ai dY 3 w' w'.heap.size A m/\m.length<=j/\(∀a,A=some a->w.heap.size<=a.block)/\Below w.heap.size w w'
theorem alh(s:dx)(A:Option Addr)(a2 n:Nat)(r:List cI)(w:World)(h:ai pS 2 w w.heap.size A r)(jh:∀e∈r,ai encI 1 w w.heap.size e.A e.l)(hs:oD s)(R:Eh n (r.map cI.v)):
  Calls prog 91 #[Eg s,.slice A r.length a2] w (B8 (qg s n (r.map cI.v)) (AH s n (r.map cI.v)) w):=by
 have Dt:r.length<=8:=by have:=R.len;simpa using this
 have ad:0<r.length:=by have:=R.ne;simpa using this
 have ba:=R.nn;have HE:=atM R;have HS:=atM hs;have pw:=atM jh;have af:∀k,(J:k<r.length)->r[k].l.length=n:=fun k J=>R.lens (r[k].v) (aue.2 ⟨_,atT J,rfl⟩);have N:∀k,(J:k<r.length)->0<=r[k].base/\r[k].base<=1000000000:=fun k J=>R.base (r[k].v) (aue.2 ⟨_,atT J,rfl⟩);have al:∀k,(J:k<r.length)->∀x∈r[k].l,0<=x/\x<=1000000000:=fun k J=>R.earlier (r[k].v) (aue.2 ⟨_,atT J,rfl⟩);have En:=atM af;have Pg:=atM N;have ML:=atM al;clear R hs jh af N al;have Cw:=VR (n+1) ((n:Int)+1) (by omega) (by omega);unfold Eg;go_enter func91,ntmps91;go_wp2_with fail;have hB:=ah.new w 123 #[.string s.code,.int .i64 s.aD,.int .i64 s.aV,.int .i64 s.floor,.int .i64 s.dO,.int .i64 s.unit,.int .i64 s.mode,.bool s.ep];have ae:=bC w (.cells #[.string s.code,.int .i64 s.aD,.int .i64 s.aV,.int .i64 s.floor,.int .i64 s.dO,.int .i64 s.unit,.int .i64 s.mode,.bool s.ep] 123);generalize w.alloc (Obj.cells _ _)=W at hB ae|-;have y:=adk s W HS.out;unfold Eg at y;refine y.mono ?_;rintro e w1 ⟨rfl,Q⟩;have ak:=hB.aa Q;have aS:=aA ae Q;have U:=h.aa aS;have am:Hid (∀e∈r,ai encI 1 w1 w1.heap.size e.A e.l):=fun e V=>(pw.out e V).aa aS;have px:w.heap.size<w1.heap.size:=ak.lt;clear hB ae y Q h pw;have bb:((r.length:Int)==0)=false:=by rw[auj];omega
 go_wp2
 go_loop [6] (fun i=>∃k:Nat,k<=r.length/\i=.int .i64 k) (fun i=>r.length-(intOf i).toNat)
 case atStart=>exact⟨0,by omega,rfl⟩
 case round=>
  obtain⟨k,J,rfl⟩:=hrel;by_cases F:k<r.length
  ·obtain⟨b,off,rfl,hb,K⟩:=U.at_ F;have L:=K 0 _ rfl;simp only[atQ]at L;clear K;have G:=En.out k F;rw[G]at L;clear G;go_wp2;go_round
   case rel=>exact⟨k+1,by omega,by go_num⟩
   case measure=>simp[intOf];omega
  ·obtain rfl:k=r.length:=by omega
   clear J F;go_wp2
   go_loopw [7] (fun i wr=>∃k q:Nat,k+1<=r.length/\i=.int .i64 ((k:Int)+1)/\Hid (wr=w1.drewN q)) (fun i _=>r.length-(intOf i).toNat)
   case atStart=>exact⟨0,0,by omega,rfl,rfl⟩
   case round=>
    obtain⟨k,q,J,rfl,hw⟩:=hrel;have cu:ai pS 2 wr wr.heap.size A r:=(by rw[hw.out];exact U.R2 q);obtain⟨b,off,oF,hb,an⟩:=cu.at_ (i:=0) ad;subst oF;have d0:=an 0 _ rfl;have ao:=En.out 0 ad;simp only[atQ,auu]at d0;rw[ao]at d0;clear an ao;by_cases F:k+1<r.length
    ·obtain⟨b',T,D,bc,K⟩:=cu.at_ F;injection D with D
     injection D with D cX
     subst D cX;have L:=K 0 _ rfl;simp only[atQ]at L;clear K;have G:=En.out (k+1) F;rw[G]at L;clear G;go_wp2;go_quiet(fail);go_wp2;go_roundw
     case rel=>exact⟨k+1,q+nq,by omega,by go_num,by show wr.drewN nq=w1.drewN (q+nq);rw[hw.out,World.drewN_drewN]⟩
     case measure=>simp[intOf];omega
    ·have be:¬(k:Int)+1<(r.length:Int):=(by omega);have aC:ah wr w.heap.size 123 #[.string s.code,.int .i64 s.aD,.int .i64 s.aV,.int .i64 s.floor,.int .i64 s.dO,.int .i64 s.unit,.int .i64 s.mode,.bool s.ep]:=(by rw[hw.out];exact ak.drewN q);have bm:Below w.heap.size w wr:=(by rw[hw.out];exact below_drewN aS q);have X:Hid (∀e∈r,ai encI 1 wr wr.heap.size e.A e.l):=fun e V=>by rw[hw.out];exact(am.out e V).R2 q
     have fO:(0:Int)<(r.length:Int):=(by omega);have bi:w.heap.size<wr.heap.size:=aC.lt;have Sc:=RowI.made wr (n+1);have Y:=bC wr (.cells (madeCells #[.int .i64 0] (n+1)) 3);clear ak aS am U hw J F
     rename World=>w2
     go_upto_region 17 with fail
     have Sd:=aA bm Y;have Ph:=aC.aa Y;have Z:=cu.aa Y;have ap:Hid (∀e∈r,ai encI 1 (w2.alloc (.cells (madeCells #[.int .i64 0] (n+1)) 3)) (w2.alloc (.cells (madeCells #[.int .i64 0] (n+1)) 3)).heap.size e.A e.l):=fun e V=>(X.out e V).aa Y;generalize w2.alloc (.cells (madeCells #[.int .i64 0] (n+1)) 3)=W3 at Sc Y Sd Ph Z ap|-;obtain⟨E,Pj⟩:∃g,g=w2.heap.size:=⟨_,rfl⟩
     have bk:w.heap.size<E:=(by omega);have bl:b<E:=(by omega);have av:∀e∈r,∀a,e.A=some a->e.l≠[]->a.block<E:=fun e V a I a3=>by
      obtain⟨b1,Du,cZ,Q,_⟩:=(X.out e V) a3;rw[I]at cZ;injection cZ with cZ
      subst cZ;simp only;omega
     have az:=atM av;rw[<-Pj]at Sc Y|-;clear Pj av aC bm X cu d0 Y;have KJ:=Sc.lt;go_wp2
     go_loopw [8,10] (fun bv i wr=>∃k:Nat,k<=r.length/\i=.int .i64 k/\Own encI 1 3 wr W3.heap.size bv (nU ((r.map cI.v).take k))/\RowI wr E (qD n ((r.map cI.v).take k))/\w.grownBy wr none/\W3.grownBy wr (some E)) (fun _ i _=>r.length-(intOf i).toNat)
     case atStart=>exact⟨0,by omega,rfl,Own.cC _ _,Sc,KL Sd none,dX _ _⟩
     case round=>
      clear Sc
      rename World=>w3
      obtain⟨k,J,rfl,B,hR,Fq,Bu⟩:=hrel;have a4:=Bu.size;have kO:ai pS 2 w3 w3.heap.size (some ⟨b,off,none⟩) r:=Z.pQ Bu (fun a I=>by injection I with I;subst I;simp only;omega);have AK:=Ph.grown Bu (by intro e;injection e;omega);obtain⟨S,CM⟩:∃S,S=qD n ((r.map cI.v).take k):=⟨_,rfl⟩
      have VS:S.length=n+1:=(by rw[CM];exact(HE.out.take k).1);have dF:∀i,0<=S.getD i 0:=fun i=>by rw[CM];exact IY (HE.out.take k).2 i
      have cP:∀i,i<n+1->S.getD i 0<=8000000000:=fun i hi=>by rw[CM];have:=HE.out.ads k (by simpa using J) i hi;omega
      have VT:=atM CM;have mQ:=atM VS;have Ih:=atM dF;have KM:=atM cP;rw[<-CM]at hR;clear CM VS dF cP;by_cases M:k<r.length
      ·obtain⟨b',T,D,gu,K⟩:=kO.at_ M;injection D with D
       injection D with D cX
       subst D cX;have L:=K 0 _ rfl;have c1:=K 1 _ rfl;simp only[atQ]at L;clear K;have G:=En.out k M;obtain⟨p0,p1⟩:=Pg.out k M;have VU:bM r[k].base 1000000000=true:=iK.2 ⟨p0,p1⟩;have aE:Hid (∀wz,W3.grownBy wz (some E)->ai encI 1 wz wz.heap.size r[k].A r[k].l):=fun wz hz=>by
        by_cases VV:r[k].l=[]
        ·rw[VV];exact ai.cC
        ·exact(ap.out _ (atT M)).pQ hz (fun a I=>by have:=az.out _ (atT M) a I VV;omega)
       have O:=ajF r[k].A r[k].cap r[k].l w3 _ (aE.out w3 Bu) (by omega) (ML.out k M);rw[G]at L O;have Sg:=atM O;have HQ:=atM G;have aJ:=atM (ajS (r.map cI.v) k (by simpa using M));have aQ:=atM (Zw n (r.map cI.v) k (by simpa using M));rw[ady M]at aJ aQ;have bo:(nU ((r.map cI.v).take k)).length<=8:=(by simp[nU];omega);clear G O;go_wp2_with fail;refine(adi _ _).mono ?_;rintro e w' ⟨rfl,rfl⟩;rw[VU];go_wp2_with fail;refine atV Sg.out ?_;rintro e w' ⟨rfl,rfl⟩;have Eo:=fun q G=>(B.bR (g:=q) G).1;go_wp2_with(at_builtin;(refine lD _ _ 34 r[k].base _ 8 _ B2 underlying34 B iX (by omega) rfl (fun u hu=>by simp[encI]at hu;subst hu;rfl) (by omega) (by omega) a4 (by rfl) (by rfl) (by rfl) (by rfl) (by simp) (by rfl) ?_);intro v2 w6 cA cE);have ee:=hR.grown cE (fun e=>by have:=Eo _ e.symm;omega);have aR:W3.grownBy w6 (some E):=pT Bu cE (fun g e=>.inl (Eo g e));have z:=adt (x:=r[k].l) ee mQ.out;clear B hR Fq cE ee L c1 kO AK gu
       go_loopw [11] (fun i wr=>∃j:Nat,j<=n/\i=.int .i64 j/\wr.rowIs E 3 (n+1) (Dg S r[k].l j)/\Own encI 1 3 wr W3.heap.size v2 (nU ((r.map cI.v).take k)++[r[k].base])/\W3.grownBy wr (some E)) (fun i _=>n-(intOf i).toNat)
       case atStart=>exact⟨0,by omega,rfl,z,cA,aR⟩
       case round=>
        clear z cA aR
        rename World=>w7
        obtain⟨j,hj,rfl,z,cN,Pk⟩:=hrel;have kO:ai pS 2 w7 w7.heap.size (some ⟨b,off,none⟩) r:=Z.pQ Pk (fun a I=>by injection I with I;subst I;simp only;omega);obtain⟨b',T,D,gu,K⟩:=kO.at_ M;injection D with D
        injection D with D cX
        subst D cX;have L:=K 0 _ rfl;have c1:=K 1 _ rfl;simp only[atQ]at L;rw[HQ.out]at L;clear K;by_cases Sh:j<n
        ·obtain⟨b2,Ep,gv,bp,aT⟩:=(aE.out w7 Pk).at_ (i:=j) (by rw[HQ.out];exact Sh);rw[gv]at L;have d0:=aT 0 _ rfl;simp only[atQ,auo]at d0;clear aT;have Si:=ML.out k M (r[k].l[j]'(by rw[HQ.out];exact Sh)) (atT _)
         have D8:r[k].l[j]'(by rw[HQ.out];exact Sh)=r[k].l.getD j 0:=by rw[atZ,atW];rfl
         rw[D8]at d0 Si;obtain⟨x0,x1⟩:=Si;have q0:=z.cell (i:=j) (by omega);have f0:=z.frozen j;rw[Dg,atO (by omega),Int.add_zero]at q0;have s0:=Ih.out j;have s1:=KM.out j (by omega);have aU:=adu z;have bq:b2≠E:=(by have:=az.out _ (atT M) _ gv (by intro e;have:=HQ.out;rw[e]at this;simp at this;omega);simp only at this;omega);have a5:b≠E:=(by omega);have KN:=atM aU;have Pl:=atM (cN.setCell (p:=⟨E,j,none⟩) (fun q G=>by have:=(cN.bR G).1;simp only;omega) (.int .i64 (S.getD j 0+r[k].l.getD j 0)));have Pm:=atM (bg (p:=⟨E,j,none⟩) Pk (.inl rfl) (.int .i64 (S.getD j 0+r[k].l.getD j 0)));clear z cN Pk aU D8 gv;generalize S.getD j 0=sj at*;generalize r[k].l.getD j 0=xj at*;go_wp2
         go_region
         go_wp2;go_roundw
         case rel=>exact⟨j+1,by omega,by go_num,World.rowIs.of_block KN.out rfl,Pl.out.drewN 1,Sj Pm.out 1⟩
         case measure=>simp[intOf];omega
        ·obtain rfl:j=n:=by omega
         have q0:=z.cell (i:=j) (by omega);have f0:=z.frozen j;rw[Dg,atO (by omega),Int.add_zero]at q0;have s0:=Ih.out j;have s1:=KM.out j (by omega);have ew:=adw (b:=r[k].base) z mQ.out HQ.out;rw[VT.out,<-aQ.out]at ew;have aX:=atM ew;have a5:b≠E:=(by omega);have Pl:=atM (cN.setCell (p:=⟨E,j,none⟩) (fun q G=>by have:=(cN.bR G).1;simp only;omega) (.int .i64 (S.getD j 0+r[k].base)));have Pm:=atM (bg (p:=⟨E,j,none⟩) Pk (.inl rfl) (.int .i64 (S.getD j 0+r[k].base)));have o7:(j:Int)+1-1=(j:Int):=(by omega);rw[<-VT.out]at aX;clear z cN Pk ew;have br:¬(j:Int)<(j:Int):=(by omega);generalize S.getD j 0=sj at*;go_wp2
         go_region
         go_wp2;go_roundw
         case rel=>exact⟨k+1,by omega,by go_num,by rw[aJ.out];exact Pl.out.drewN 1,aX.out.drew,Sj (pT (KL Sd none) Pm.out (fun g e=>.inl (by injection e;omega))) 1,Sj Pm.out 1⟩
         case measure=>simp[intOf];omega
      ·obtain rfl:k=r.length:=by omega
       have mR:(r.map cI.v).take r.length=r.map cI.v:=aut (by simp);rw[mR]at B VT;have eJ:Below w.heap.size w w3:=ib Fq (atN _) (fun g e=>by cases e);have aY:∀x∈S,0<=x/\x<=8000000000:=fun x hx=>by obtain⟨i,hi,rfl⟩:=aun.1 hx;have e:S[i]=S.getD i 0:=(by rw[atZ,atW hi];rfl);rw[e];exact⟨Ih.out i,KM.out i (by rw[<-mQ.out];exact hi)⟩
       have y:=ajJ s (some ⟨E,0,none⟩) (n+1) S w3 hR.slice (by rw[mQ.out];omega) (by rw[mQ.out];omega) (by rw[mQ.out];exact atN _) aY HS.out;rw[mQ.out]at y;unfold Eg I3 at y;have HC:=atM y;obtain⟨A8,c8,rfl,dg,Ge,bt,bu⟩:=B.kX iX;have aZ:(nU (r.map cI.v)).length=r.length:=(by simp[nU]);have a0:=atM aZ;obtain⟨z0,z1,z2,z3,z4,z5,z6,z7⟩:=AK.cz8;clear y Bu Fq kO mR B aZ aY Ge;go_wp2_with fail;refine atV HC.out ?_;rintro e w4 ⟨rfl,ab⟩;have a1:=aA eJ ab;have a6:=dg.aa ab;have hv:Hid (lF s S=iE s n (r.map cI.v)):=(by rw[Hid,VT.out];rfl);obtain⟨y0,y1,y2,y3,y4,y5⟩:=aao HS.out HE.out;rw[hv.out];have ja:=atM (aap HE.out);have Fs:Hid (AH s n (r.map cI.v)=if gI (iE s n (r.map cI.v))then 4 else 0):=rfl;have GG:Hid (qg s n (r.map cI.v)=if gI (iE s n (r.map cI.v))then[]else nT (iE s n (r.map cI.v)) (nU (r.map cI.v))):=rfl;generalize iE s n (r.map cI.v)=v at*;generalize nU (r.map cI.v)=bs at*;generalize AH s n (r.map cI.v)=jE at*;generalize qg s n (r.map cI.v)=jL at*;clear HC hv AK hR ab dg z0 z1 z2 z3 z4 z5 z6 z7 eJ;rcases jf:gI v with _|_
       ·obtain⟨o1,o2,o3⟩:=aeW jf;rw[jf]at Fs GG;clear jf;have qo:=eP a1 (.cells #[.int .i64 v.base,.int .i64 v.aD,.int .i64 v.aV] 142);go_wp2_with fail;have y:=ak7 v A8 c8 bs _ (a6.OZ (.cells #[.int .i64 v.base,.int .i64 v.aD,.int .i64 v.aV] 142)) ja.out (by rw[a0.out];omega) (by rw[a0.out];omega) y0 o1 y1 o2 y2 o3;have a7:=atM y;clear y;refine atV a7.out ?_;rintro e w5 ⟨B5,c5,rfl,dm,nO,Pn,aM⟩;have a8:Hid (∀a,B5=some a->w.heap.size<=a.block):=fun a I=>at7 qo.size (Pn a I);clear Pn;have Er:=aA qo aM;go_wp2;go_ret2;rw[Fs.out,GG.out];refine⟨B5,c5,?_,dm,?_,a8.out,Er⟩
        ·simp[Jh]
        ·simp[Jh];exact nO
       ·rw[jf]at Fs GG;have aj:∀W9:World,Below w.heap.size w W9->B8 jL jE w (Ending.returned (.tuple #[.slice none 0 0,.int .i64 4])) W9:=fun W9 fF=>by
         rw[Fs.out,GG.out];exact⟨none,0,rfl,ai.cC,atN _,(fun a I=>by cases I),fF⟩
        have HF:=atM aj;have qo:=eP a1 (.cells #[.int .i64 v.base,.int .i64 v.aD,.int .i64 v.aV] 142);have a9:1000000000<v.base\/(v.base<=1000000000/\1000000000<v.aD)\/(v.base<=1000000000/\v.aD<=1000000000/\1000000000<v.aV):=by simp only[gI,avn,auc]at jf;omega
        clear aj jf;rcases a9 with k1|⟨k1,k2⟩|⟨k1,k2,k3⟩
        all_goals go_wp2;go_ret2;exact HF.out _ qo
theorem aeX(w W:World)(gp gy G J gb:Nat)(p:fB)(y:fC)(I:bf)(A0 A1 A2 A3 A4 A5:Option Addr)(c0 c1 c2 c3 c4 c5:Nat)
  {x0 x1 x2 x3 x4 x5 x6 x9 lJ lK lL lM lO mK lQ lR lT lU B1 qF qG qH Ji Dn Gs AU qI qJ qK qL qM qN qO qP qQ qR qT qU qV qW qX qY qZ rb rf rh rp rq rr ru ry rz rA rB rC rD rE rF rG rH rI rJ rK rL rM rN rO rP rQ rR rS rT rU rV rW rX rY rZ se sf sg si sq sr su sw sx sy sB sD sF sG sH sI sJ sK sL sM sN sO sP sQ sR sS sT sU sV sW sX sY sZ td th tj tq tu tA tB tC tD tE tF tG tH tI tJ tK tL tM tN tO tP tQ tR tS tT tU tV tW tX tY tZ ua ud ue uf ug uh ui uj uk um uo uq ur uu uv uw ux uy uz uA uB uC uD uE uF uG uH uI uJ uK uL uM uN uO uP uQ uR uS uT uU uV uW uX uY uZ vd ve vg vh vk vn vr vt vu vv vw vx vy vz vA vB vC vD vE vF vG vH vI vJ vK vL vM vN vO vP vQ vR vS vT vU vV vW vX vY vZ wj wk wm wu wA wB wC wD wE wF wG wH wI wJ wK wL wM wN wO wP wQ wR wS wT wU wV wW wX wY wZ xa xc xd xe xf xg xh xi xk xl xm xn xo xp xq xr xt xu xv xw xx xy xz xA xB xC xD xE xF xG xH xI xJ xK xL xM xN xO xP xQ xR xS xT xU xV xW xX xY xZ ya yb ye yf yg yh yj yn yo yq yr yt yu yv yx yz yA yB yC yD yE yF yG yH yI yJ yK yL yM yN yO yP yQ yR yS yT yU yV yX yY yZ za ze zf zg zh zi zj zk zl zn zr zu zv zw zx zy zA zB zC zD zE zF zG zH zI zJ AV AW AX AY AZ Ba Bb Bc Bd Be Bf Bg Bh Bi Bj Bk Bl Bn Bo Bp zK zL:Value}
  (ae:Below w.heap.size w W) (bV:ah W gy 53 #[.int .i64 y.az,.int .i64 y.ay,.int .i64 y.aQ,.slice y.Ai y.ins.length y.ci,.slice y.At y.taken.length y.ct]) (cU:ah W G 27 #[.int .i64 0,.int .i64 0,.int .i64 0,.int .i64 0,.int .i64 0,.int .i64 0,.slice none 0 0]) (eB:ah W J 53 #[.int .i64 0,.int .i64 0,.int .i64 0,.slice none 0 0,.slice none 0 0]) (iy:w.heap.size<=G) (ku:w.heap.size<=J) (F:G≠J) (eM:ah W gp 50 #[.int .i64 p.deps,.slice p.Ad p.ds.length p.cd,.slice p.Ao p.os.length p.co,.slice p.Ae p.es.length p.ce]) (eY:ah W gb 24 (nw I.b).toArray) (kD:I.p.kN=p.ds) (jQ:I.y=y.t) (nA:p.In W) (dN:y.In W) (lX:Fo I) (aX:mJ I) (h0:ai aN 2 W W.heap.size A0 I.cD) (h1:ai aN 2 W W.heap.size A1 I.cG) (h2:ai aN 2 W W.heap.size A2 I.before) (h3:ai aN 2 W W.heap.size A3 (I.gw I.r.bF)) (h4:ai aN 2 W W.heap.size A4 (I.iu I.r.bF)) (h5:ai aN 2 W W.heap.size A5 I.dc) (l0:I.cD.length<=1000) (l1:I.cG.length<=1000) (l3:I.r.bF.length<=12) (l5:I.dc.length<=16) (aj:∀x∈I.dc,0<=x.amount/\x.amount<=1000000000) (b0:-100000000000000<=I.Es) (b1:I.Es<=100000000000000) (b2:-1000000000<=I.b.c) (b3:I.b.c<=1000000000) (b4:0<=I.bj) (b5:I.bj<=12000000000) (b6:-1000000000<=I.aw) (b7:I.aw<=1000000000) (b8:0<=I.ay) (b9:I.ay<=1000000000):
  Code.wp prog (Hv 25 (Ja Tryz.f49)) (bodyPost prog Tryz.f49 (nY I w)) {tmps:=List.toArray (x0::x1::x2::x3::x4::x5::x6::(.pointer (some ⟨gp,0,none⟩))::(.pointer (some ⟨gy,0,none⟩))::x9::lJ::lK::(.pointer (some ⟨G,0,none⟩))::(.pointer (some ⟨J,0,none⟩))::lL::lM::(.pointer (some ⟨gb,0,none⟩))::lO::mK::lQ::(.slice A0 I.cD.length c0)::(.slice A1 I.cG.length c1)::lR::lT::lU::(.int .i64 I.Es)::(.int .i64 I.base)::(.slice A2 I.before.length c2)::(.int .i64 I.ay)::(.int .i64 I.aO)::B1::(.slice A3 (I.gw I.r.bF).length c3)::(.slice A4 (I.iu I.r.bF).length c4)::(.int .i64 I.bj)::qF::qG::qH::(.int .i64 I.aw)::(.slice A5 I.dc.length c5)::Ji::Dn::Gs::AU::qI::qJ::qK::qL::qM::qN::qO::qP::qQ::qR::qT::qU::qV::qW::qX::qY::qZ::rb::rf::rh::rp::rq::rr::ru::ry::rz::rA::rB::rC::rD::rE::rF::rG::rH::rI::rJ::rK::rL::rM::rN::rO::rP::rQ::rR::rS::rT::rU::rV::rW::rX::rY::rZ::se::sf::sg::si::sq::sr::su::sw::sx::sy::sB::sD::sF::sG::sH::sI::sJ::sK::sL::sM::sN::sO::sP::sQ::sR::sS::sT::sU::sV::sW::sX::sY::sZ::td::th::tj::tq::tu::tA::tB::tC::tD::tE::tF::tG::tH::tI::tJ::tK::tL::tM::tN::tO::tP::tQ::tR::tS::tT::tU::tV::tW::tX::tY::tZ::ua::ud::ue::uf::ug::uh::ui::uj::uk::um::uo::uq::ur::uu::uv::uw::ux::uy::uz::uA::uB::uC::uD::uE::uF::uG::uH::uI::uJ::uK::uL::uM::uN::uO::uP::uQ::uR::uS::uT::uU::uV::uW::uX::uY::uZ::vd::ve::vg::vh::vk::vn::vr::vt::vu::vv::vw::vx::vy::vz::vA::vB::vC::vD::vE::vF::vG::vH::vI::vJ::vK::vL::vM::vN::vO::vP::vQ::vR::vS::vT::vU::vV::vW::vX::vY::vZ::wj::wk::wm::wu::wA::wB::wC::wD::wE::wF::wG::wH::wI::wJ::wK::wL::wM::wN::wO::wP::wQ::wR::wS::wT::wU::wV::wW::wX::wY::wZ::xa::xc::xd::xe::xf::xg::xh::xi::xk::xl::xm::xn::xo::xp::xq::xr::xt::xu::xv::xw::xx::xy::xz::xA::xB::xC::xD::xE::xF::xG::xH::xI::xJ::xK::xL::xM::xN::xO::xP::xQ::xR::xS::xT::xU::xV::xW::xX::xY::xZ::ya::yb::ye::yf::yg::yh::yj::yn::yo::yq::yr::yt::yu::yv::yx::yz::yA::yB::yC::yD::yE::yF::yG::yH::yI::yJ::yK::yL::yM::yN::yO::yP::yQ::yR::yS::yT::yU::yV::yX::yY::yZ::za::ze::zf::zg::zh::zi::zj::zk::zl::zn::zr::zu::zv::zw::zx::zy::zA::zB::zC::zD::zE::zF::zG::zH::zI::zJ::AV::AW::AX::AY::AZ::Ba::Bb::Bc::Bd::Be::Bf::Bg::Bh::Bi::Bj::Bk::Bl::Bn::Bo::Bp::zK::zL::[]),defers:=[]} W:=by
 conv=>enter [2];whnf
 have ak:I.y.taken=y.taken:=by rw[jQ];rfl
 have jF:=atM lX;have my:=aX.y;rw[jQ]at my;have bc:0<=y.az:=my.p0;have be:y.az<=53:=my.p1;have bi:0<=y.ay:=my.i0;have aR:y.ay<=y.az*1000000000:=my.i1;have aS:-(y.az*1000000000)<=y.aQ:=my.w0;have aT:y.aQ<=y.az*1000000000:=my.w1;have yl:(y.ins.length:Int)=y.az:=my.len;have li:y.ins.length<=100:=by omega
 have bk:y.ay<=1000000000000:=by omega
 have bl:-1000000000000<=y.aQ:=by omega
 have bo:y.aQ<=1000000000000:=by omega
 clear my aR aS aT yl;have Ii:=atM ak;have Sk:fE y.taken=true:=by rw[<-ak];exact aX.y.taken
 obtain⟨tl,tz⟩:=qB Sk;obtain⟨_,ao,_,_,l2⟩:=F5 (before:=true) lX.take;have oW:∀x∈I.before,x.code.size<=maxLen:=fun x hx=>Fa (ao x hx).1;have Po:gF p.ds=true:=by rw[<-kD];exact aX.p.kN
 obtain⟨dl,dz⟩:=Ma Po;have ap:Hid (∀B,Below W.heap.size W B->Calls prog 94 #[.slice y.At y.taken.length y.ct,.slice A2 I.before.length c2] B (EPost (nj y.taken I.before) (fh y.taken I.before) B)):=fun B hb=>aen y.At A2 y.ct c2 y.taken I.before B (dN.taken.aa hb) tz (by omega) (h2.aa hb) oW (by have:I.before.length<=16:=l2;omega);have KF:Hid (∀B,Below W.heap.size W B->Calls prog 90 #[.slice A5 I.dc.length c5] B fun e w'=>e=.returned (.int .i64 (aB I.dc))/\B=w'):=fun B hb=>aaq A5 c5 I.dc B _ (h5.aa hb) (by omega) (fun x hx=>by have:=aj x hx;omega);have pG:Hid (∀B cF (At:Option Addr) (ct:Nat) (tk:List Elem),Below W.heap.size W B->ai aN 2 B B.heap.size At tk->fE tk=true->Calls prog 89 #[.slice p.Ad p.ds.length p.cd,.bool false,.int .i64 I.base,.int .i64 cF,.slice At tk.length ct] B (EPost (jg p.ds false I.base cF tk) (fj p.ds I.base cF tk) B)):=fun B cF At ct tk hb ht hr=>aeY p.Ad At p.cd ct p.ds tk false I.base cF B (nA.ds.aa hb) dz (by omega) ht (qB hr).2 (by have:=(qB hr).1;omega);have aU:0<=aB I.dc/\aB I.dc<=16000000000:=by
  have h:=OM I.dc 1000000000 aj;have h2:(I.dc.length:Int)*1000000000<=16*1000000000:=by omega
  omega
 obtain⟨s0,s1⟩:=aU;have al:Hid (I.Es-aB I.dc=I.eu):=rfl;have bp:Hid (I.eu-aB I.after=I.iF):=rfl;have aV:I.aO=max I.b.i 0:=rfl;have cV:=atM aX;have lY:=atM kD;have kP:=atM jQ;have bq:I.before.length<=16:=l2;clear l2 ao kD jQ ak Po dz tz lX aX aj aV oW
 -- left-=Sum(dc)
 refine ei fun K j=>?_;go_wp2_with fail;refine atV (KF.out _ (atS _ _)) ?_;rintro e w' ⟨rfl,rfl⟩;go_wp2_with fail;refine j.out _ _ ?_;clear j K KF
 -- R,f:=Add(y.Taken,before)
 obtain⟨y0,y1,y2,y3,y4⟩:=bV.cz5;have VW:Hid (∀n,fj p.ds I.base (max I.eu 0) I.iR=n->n≠0->fh y.taken I.before=0->I.err=n):=fun n h hn h0=>jF.out.Dc (by rw[Ii.out];exact h0) (by rw[lY.out];exact h) hn;have Pp:Hid (jg p.ds false I.base (max I.eu 0) I.iR=I.after):=by rw[Hid,bf.after,lY.out]
 have av:Hid (∀n,fj p.ds I.base (max I.eu 0) I.iR=0->fh I.iR (jg p.ds false I.base (max I.eu 0) I.iR)=n->fh y.taken I.before=0->I.err=n):=fun n h2 h3 h0=>jF.out.VO (by rw[Ii.out];exact h0) (by rw[lY.out];exact h2) (by rw[<-Pp.out];exact h3);have nV:Hid (nj I.iR (jg p.ds false I.base (max I.eu 0) I.iR)=I.Fu):=by rw[Hid,bf.Fu,Pp.out]
 have aY:Hid (I.eu-aB (jg p.ds false I.base (max I.eu 0) I.iR)=I.iF):=by rw[Hid,Pp.out];rfl
 rw[al.out];have M:-100016000000000<=I.eu:=by have:=al.out;omega
 have N:I.eu<=100000000000000:=by have:=al.out;omega
 generalize I.eu=eu at*;refine ei fun K j=>?_;go_wp2_with fail;refine atV (ap.out _ (atS _ _)) ?_;rintro e W2 ⟨VX,VY,rfl,ad,VZ,br,D⟩;have Bx:=bV.aa D;have cy:=cU.aa D;have dt:=eB.aa D;have zS:=eM.aa D;have Jj:=eY.aa D;have bm:=aA ae D;clear y0 y1 y2 y3 y4 ap;go_wp2_with fail;refine j.out _ _ ?_;clear j K;by_cases e1:fh y.taken I.before=0;rotate_left
 ·generalize o7:fh y.taken I.before=n1 at*;have aC:(n1 !=0)=true:=by simp[e1]
  have Pq:=atM o7;have oY:=atM e1;clear o7 e1;refine ei fun K j=>?_;clear j;have jG:=Br cy dt F;have E:=Bt bm iy ku W2;have iG:J≠G:=fun e=>F e.symm;obtain⟨M,N,S,T,U,V,X⟩:=cy.cz7;obtain⟨Y,Z,r2,r3,r4⟩:=dt.cz5;obtain⟨j5,j6,j7,kx,ky,oJ,oK⟩:=cy.fz7;obtain⟨pJ,pK,pL,zT,zU⟩:=dt.fz5;have lq:=cy.lt;have lr:=dt.lt;go_wp2;clear M N S T U V X Y Z r2 r3 r4;change bodyPost _ _ _ _ _ (iQ W2 G J);obtain⟨u,bw⟩:=jG;generalize iQ W2 G J=WW at u bw E|-;obtain⟨M,N,S,T,U,V,X⟩:=u.cz7;obtain⟨Y,Z,r2,r3,r4⟩:=bw.cz5;clear u bw;refine at5 (v:=_) (by simp[results,results49,go_sem,M,N,S,T,U,V,X,Y,Z,r2,r3,r4];rfl) rfl ?_;exact nY.fail (jF.out.aeG (by rw[Ii.out];exact Pq.out) oY.out) oY.out E
 obtain⟨_,_,ab,aD⟩:=Vf e1;rw[<-aD]at ab;have oY:=atM e1;have B9:Hid (nj y.taken I.before=I.iR):=by rw[Hid,bf.iR,Ii.out]
 rw[e1,B9.out];rw[B9.out]at ad VZ ab;have bs:=(qB ab).1;clear e1 aD;generalize I.iR=z at*;refine ei fun K j=>?_;go_wp2_with fail;refine j.out _ _ ?_;clear j K
 -- after,f:=bb(..)
 obtain⟨p0,p1,p2,p3⟩:=zS.cz4;have Sl:Hid (Calls prog 89 #[.slice p.Ad p.ds.length p.cd,.bool false,.int .i64 I.base,.int .i64 (max eu 0),.slice VX z.length VY] W2 (EPost (jg p.ds false I.base (max eu 0) z) (fj p.ds I.base (max eu 0) z) W2)):=pG.out W2 _ VX VY z D ad ab;clear pG;refine ei fun K j=>?_
 go_cut [17,40]from 283 to 292 (fun aZ a0 wx=>∃O c6,a0=.slice O (jg p.ds false I.base (max eu 0) z).length c6/\aZ=.int .i64 (fj p.ds I.base (max eu 0) z)/\ai aN 2 wx wx.heap.size O (jg p.ds false I.base (max eu 0) z)/\Below W2.heap.size W2 wx)
 case first=>
  by_cases hl:0<=eu
  ·have e:max eu 0=eu:=(by omega);have HE:=atM e;rw[e]at Sl;clear e j;go_wp2_with fail;refine atV Sl.out ?_;rintro e w3 ⟨O,c6,rfl,cK,a1,a2,L⟩;go_wp2_with fail;go_meet;rw[HE.out];exact⟨O,c6,rfl,rfl,cK,L⟩
  ·have e:max eu 0=0:=(by omega);have HE:=atM e;rw[e]at Sl;clear e j;go_wp2_with fail;refine atV Sl.out ?_;rintro e w3 ⟨O,c6,rfl,cK,a1,a2,L⟩;go_wp2_with fail;go_meet;rw[HE.out];exact⟨O,c6,rfl,rfl,cK,L⟩
 obtain⟨O,c6,rfl,rfl,cK,L⟩:=hcut
 rename World=>W3
 refine j.out _ _ ?_;clear j K Sl p0 p1 p2 p3;have Bv:=aA D L;have cT:=aA ae Bv;have iT:=cU.aa Bv;have kQ:=eB.aa Bv;have oB:=ad.aa L;clear cy dt zS Bx Jj bm ad;by_cases e2:fj p.ds I.base (max eu 0) z=0;rotate_left
 ·generalize o7:fj p.ds I.base (max eu 0) z=n1 at*;have aC:(n1 !=0)=true:=by simp[e2]
  have Pq:=atM o7;have qp:=atM e2;clear o7 e2;refine ei fun K j=>?_;clear j;have jG:=Br iT kQ F;have E:=Bt cT iy ku W3;have iG:J≠G:=fun e=>F e.symm;obtain⟨M,N,S,T,U,V,X⟩:=iT.cz7;obtain⟨Y,Z,r2,r3,r4⟩:=kQ.cz5;obtain⟨j5,j6,j7,kx,ky,oJ,oK⟩:=iT.fz7;obtain⟨pJ,pK,pL,zT,zU⟩:=kQ.fz5;have lq:=iT.lt;have lr:=kQ.lt;go_wp2;clear M N S T U V X Y Z r2 r3 r4;change bodyPost _ _ _ _ _ (iQ W3 G J);obtain⟨u,bw⟩:=jG;generalize iQ W3 G J=WW at u bw E|-;obtain⟨M,N,S,T,U,V,X⟩:=u.cz7;obtain⟨Y,Z,r2,r3,r4⟩:=bw.cz5;clear u bw;refine at5 (v:=_) (by simp[results,results49,go_sem,M,N,S,T,U,V,X,Y,Z,r2,r3,r4];rfl) rfl ?_;exact nY.fail (VW.out _ rfl qp.out oY.out) qp.out E
 obtain⟨_,am,f0,f1,l6⟩:=F5 (before:=false) e2;have aE:∀x∈jg p.ds false I.base (max eu 0) z,x.code.size<=maxLen:=fun x hx=>Fa (am x hx).1;have Pr:Hid (∀x∈jg p.ds false I.base (max eu 0) z,0<=x.amount/\x.amount<=1000000000):=fun x hx=>(am x hx).2;have qp:=atM e2;rw[e2];have bt:aB (jg p.ds false I.base (max eu 0) z)<=100000000000000:=by omega
 clear e2 am f1;generalize jg p.ds false I.base (max eu 0) z=l at*;refine ei fun K j=>?_;go_wp2_with fail;refine j.out _ _ ?_;clear j K
 -- left-=Sum(after)
 have CN:Hid (Calls prog 90 #[.slice O l.length c6] W3 fun e w'=>e=.returned (.int .i64 (aB l))/\W3=w'):=aaq O c6 l W3 _ cK (by omega) (fun x hx=>by have:=Pr.out x hx;omega);refine ei fun K j=>?_;go_wp2_with fail;refine atV CN.out ?_;rintro e w' ⟨rfl,rfl⟩;go_wp2_with fail;refine j.out _ _ ?_;clear j K CN
 -- R,f=Add(R,after)
 have Sm:Hid (Calls prog 94 #[.slice VX z.length VY,.slice O l.length c6] W3 (EPost (nj z l) (fh z l) W3)):=aen VX O VY c6 z l W3 oB (qB ab).2 (by omega) cK aE (by omega);refine ei fun K j=>?_;go_wp2_with fail;refine atV Sm.out ?_;rintro e W4 ⟨V0,an,rfl,cu,bu,bv,aJ⟩;go_wp2_with fail;refine j.out _ _ ?_;clear j K Sm aE;have Q:=aA Bv aJ;have eo:=aA ae Q;have pU:=cU.aa Q;have Et:=eB.aa Q;by_cases e3:fh z l=0;rotate_left
 ·generalize o7:fh z l=n1 at*;have aC:(n1 !=0)=true:=by simp[e3]
  have Pq:=atM o7;have Je:=atM e3;clear o7 e3;refine ei fun K j=>?_;clear j;have jG:=Br pU Et F;have E:=Bt eo iy ku W4;have iG:J≠G:=fun e=>F e.symm;obtain⟨M,N,S,T,U,V,X⟩:=pU.cz7;obtain⟨Y,Z,r2,r3,r4⟩:=Et.cz5;obtain⟨j5,j6,j7,kx,ky,oJ,oK⟩:=pU.fz7;obtain⟨pJ,pK,pL,zT,zU⟩:=Et.fz5;have lq:=pU.lt;have lr:=Et.lt;go_wp2;clear M N S T U V X Y Z r2 r3 r4;change bodyPost _ _ _ _ _ (iQ W4 G J);obtain⟨u,bw⟩:=jG;generalize iQ W4 G J=WW at u bw E|-;obtain⟨M,N,S,T,U,V,X⟩:=u.cz7;obtain⟨Y,Z,r2,r3,r4⟩:=bw.cz5;clear u bw;refine at5 (v:=_) (by simp[results,results49,go_sem,M,N,S,T,U,V,X,Y,Z,r2,r3,r4];rfl) rfl ?_;exact nY.fail (av.out _ qp.out rfl oY.out) Je.out E
 rw[e3];have Je:=atM e3;clear e3;refine ei fun K j=>?_;go_wp2_with fail;refine j.out _ _ ?_;clear j K;have a3:=dN.aa Q;have KO:=bV.aa Q;have GH:=eY.aa Q;have a4:I.err=0:=av.out 0 qp.out Je.out oY.out;have BZ:[]++ag 1 I.cD++ag 2 I.cG++ag 3 I.before++ag 4 (I.gw I.r.bF)++ag 5 (I.iu I.r.bF)++ag 6 [⟨⟨#[]⟩,I.aw⟩]++ag 7 I.dc++ag 8 l++ag 9 [⟨⟨#[]⟩,max (eu-aB l) 0⟩]++ag 10 [⟨⟨#[]⟩,max (-(eu-aB l)) 0⟩]=I.lines:=by rw[aY.out,Pp.out];rfl
 have a5:(I.gw I.r.bF).length<=1000:=by simp only[bf.gw,auq];omega
 have a6:(I.iu I.r.bF).length<=1000:=by simp only[bf.iu,auq];omega
 have a7:l.length<=1000:=by omega
 have RU:Hid (∀(A Ai:Option Addr) (c ci:Nat) (w':World),ai fV 3 w' w'.heap.size A ([]++ag 1 I.cD++ag 2 I.cG++ag 3 I.before++ag 4 (I.gw I.r.bF)++ag 5 (I.iu I.r.bF)++ag 6 [⟨⟨#[]⟩,I.aw⟩]++ag 7 I.dc++ag 8 l++ag 9 [⟨⟨#[]⟩,max (eu-aB l) 0⟩]++ag 10 [⟨⟨#[]⟩,max (-(eu-aB l)) 0⟩])->ai encI 1 w' w'.heap.size Ai (y.ins++[I.aO])->ai aN 2 w' w'.heap.size V0 (nj z l)->Below w.heap.size w w'->nY I w (.returned (.tuple #[.agg #[.int .i64 I.b.g,.int .i64 I.b.c,.int .i64 I.b.t,.int .i64 I.b.i,.int .i64 I.b.a,.int .i64 (I.b.c-I.bj-I.aw),.slice A ([]++ag 1 I.cD++ag 2 I.cG++ag 3 I.before++ag 4 (I.gw I.r.bF)++ag 5 (I.iu I.r.bF)++ag 6 [⟨⟨#[]⟩,I.aw⟩]++ag 7 I.dc++ag 8 l++ag 9 [⟨⟨#[]⟩,max (eu-aB l) 0⟩]++ag 10 [⟨⟨#[]⟩,max (-(eu-aB l)) 0⟩]).length c],.agg #[.int .i64 (y.az+1),.int .i64 (y.ay+I.ay),.int .i64 (y.aQ+I.aw),.slice Ai (y.ins.length+1) ci,.slice V0 (nj z l).length an],.int .i64 0])) w'):=by
  intro A Ai c ci w' hL hI hT hb;rw[BZ]at hL|-;have a8:I.next.az=y.az+1:=by show I.y.az+1=_;rw[kP.out];rfl
  have a9:I.next.ay=y.ay+I.ay:=by show I.y.ay+I.ay=_;rw[kP.out];rfl
  have ba:I.next.aQ=y.aQ+I.aw:=by show I.y.aQ+I.aw=_;rw[kP.out];rfl
  have aM:I.next.aO=y.ins++[I.aO]:=by show I.y.aO++[I.aO]=_;rw[kP.out];rfl
  have GI:I.next.taken=nj z l:=nV.out.symm;refine .inl ⟨a4,A,c,Ai,ci,V0,an,?_,hL,by rw[aM];exact hI,by rw[GI];exact hT,hb⟩;rw[a8,a9,ba,aM,GI,at3];rfl
 exact akL (nY I w) w W4 gy G J gb y I.b A0 A1 A2 A3 A4 A5 O V0 c0 c1 c2 c3 c4 c5 c6 an I.cD I.cG I.before (I.gw I.r.bF) (I.iu I.r.bF) I.dc l (nj z l) (eu-aB l) I.ay I.aO I.bj I.aw eo KO pU Et iy ku F a3 cu li GH (h0.aa Q) (h1.aa Q) (h2.aa Q) (h3.aa Q) (h4.aa Q) (h5.aa Q) (cK.aa aJ) l0 l1 (by omega) a5 a6 (by omega) a7 (by omega) (by omega) (by omega) (by omega) (by omega) (by omega) (by omega) (by omega) (by omega) (by omega) (by omega) (by omega) (by omega) (by omega) (by omega) (by omega) RU
structure Ps(I:bf):Prop where
 Dl:I.y.az<I.r.count
 GF:eL I.r.fZ I.e (bG I.e)=0
 take:fj I.p.kN I.base (max I.b.c 0) I.y.taken=0
 over:I.Em=false
theorem Ps.err{I:bf}(h:Ps I)(e:cQ I.aw=false):I.err=4:=by have j:=h.Dl;unfold bf.err;rw[atO (by omega),h.GF,atO (by simp),h.take,atO (by simp),h.over,atO (by simp),e,atP rfl]
theorem Ps.Dc{I:bf}(h:Ps I)(e:cQ I.aw=true)(j:I.first=true/\1000000000<I.net):I.err=2:=by have l:=h.Dl;unfold bf.err;rw[atO (by omega),h.GF,atO (by simp),h.take,atO (by simp),h.over,atO (by simp),e,atO (by simp),atP j]
theorem alp(w W:World)(gr gp gy G J gb:Nat)(r:gJ)(p:fB)(y:fC)(I:bf)(Ak A0 A1 A2 A3 A4:Option Addr)(kc c0 c1 c2 c3 c4:Nat)(Pt:Int)(fi:Bool)
  {x0 x1 x2 x5 x9 lJ lK lL lM lO mK lQ lR lT lU B1 qF qG qH MN Ff Ji Dn Gs AU qI qJ qK qL qM qN qO qP qQ qR qT qU qV qW qX qY qZ rb rf rh rp rq rr ru ry rz rA rB rC rD rE rF rG rH rI rJ rK rL rM rN rO rP rQ rR rS rT rU rV rW rX rY rZ se sf sg si sq sr su sw sx sy sB sD sF sG sH sI sJ sK sL sM sN sO sP sQ sR sS sT sU sV sW sX sY sZ td th tj tq tu tA tB tC tD tE tF tG tH tI tJ tK tL tM tN tO tP tQ tR tS tT tU tV tW tX tY tZ ua ud ue uf ug uh ui uj uk um uo uq ur uu uv uw ux uy uz uA uB uC uD uE uF uG uH uI uJ uK uL uM uN uO uP uQ uR uS uT uU uV uW uX uY uZ vd ve vg vh vk vn vr vt vu vv vw vx vy vz vA vB vC vD vE vF vG vH vI vJ vK vL vM vN vO vP vQ vR vS vT vU vV vW vX vY vZ wj wk wm wu wA wB wC wD wE wF wG wH wI wJ wK wL wM wN wO wP wQ wR wS wT wU wV wW wX wY wZ xa xc xd xe xf xg xh xi xk xl xm xn xo xp xq xr xt xu xv xw xx xy xz xA xB xC xD xE xF xG xH xI xJ xK xL xM xN xO xP xQ xR xS xT xU xV xW xX xY xZ ya yb ye yf yg yh yj yn yo yq yr yt yu yv yx yz yA yB yC yD yE yF yG yH yI yJ yK yL yM yN yO yP yQ yR yS yT yU yV yX yY yZ za ze zf zg zh zi zj zk zl zn zr zu zv zw zx zy zA zB zC zD zE zF zG zH zI zJ AV AW AX AY AZ Ba Bb Bc Bd Be Bf Bg Bh Bi Bj Bk Bl Bn Bo Bp zK zL:Value}
  (ae:Below w.heap.size w W) (bV:ah W gy 53 #[.int .i64 y.az,.int .i64 y.ay,.int .i64 y.aQ,.slice y.Ai y.ins.length y.ci,.slice y.At y.taken.length y.ct]) (cU:ah W G 27 #[.int .i64 0,.int .i64 0,.int .i64 0,.int .i64 0,.int .i64 0,.int .i64 0,.slice none 0 0]) (eB:ah W J 53 #[.int .i64 0,.int .i64 0,.int .i64 0,.slice none 0 0,.slice none 0 0]) (iy:w.heap.size<=G) (ku:w.heap.size<=J) (D:G≠J) (py:I.first=fi) (aY:ah W gr 45 #[.slice r.Aw r.ws.length r.cw,.slice r.As r.ss.length r.cs,.int .i64 r.tm.t.method,.slice r.tm.Ab r.tm.t.aR.length r.tm.cb,.int .i64 r.tm.t.bJ,.int .i64 r.tm.t.bK,.int .i64 r.tm.t.unit,.int .i64 r.tm.t.mode,.slice r.tm.Ar r.tm.t.rows.length r.tm.cr,.int .i64 r.count,.int .i64 r.sh.fixed,.int .i64 r.sh.bO,.int .i64 r.sh.lower,.int .i64 r.sh.share,.int .i64 r.sh.top,.int .i64 r.recover]) (eM:ah W gp 50 #[.int .i64 p.deps,.slice p.Ad p.ds.length p.cd,.slice p.Ao p.os.length p.co,.slice p.Ae p.es.length p.ce]) (eY:ah W gb 24 (nw I.b).toArray) (kE:I.r=r.t) (kD:I.p=p.t) (jQ:I.y=y.t) (km:r.In W) (nA:p.In W) (dN:y.In W) (hk:ai aN 2 W W.heap.size Ak I.kept) (lX:Ps I) (L:mJ I) (h0:ai aN 2 W W.heap.size A0 I.cD) (h1:ai aN 2 W W.heap.size A1 I.cG) (h2:ai aN 2 W W.heap.size A2 I.before) (h3:ai aN 2 W W.heap.size A3 (I.gw I.r.bF)) (h4:ai aN 2 W W.heap.size A4 (I.iu I.r.bF)) (l0:I.cD.length<=1000) (l1:I.cG.length<=1000) (MO:I.ay=max Pt 0) (i0:-100000000000<=Pt) (i1:Pt<=1000000000) (b4:0<=I.bj) (b5:I.bj<=12000000000):
  Code.wp prog (Hv 17 (Ja Tryz.f49)) (bodyPost prog Tryz.f49 (nY I w)) {tmps:=List.toArray (x0::x1::x2::(.slice Ak I.kept.length kc)::(.bool fi)::x5::(.pointer (some ⟨gr,0,none⟩))::(.pointer (some ⟨gp,0,none⟩))::(.pointer (some ⟨gy,0,none⟩))::x9::lJ::lK::(.pointer (some ⟨G,0,none⟩))::(.pointer (some ⟨J,0,none⟩))::lL::lM::(.pointer (some ⟨gb,0,none⟩))::lO::mK::lQ::(.slice A0 I.cD.length c0)::(.slice A1 I.cG.length c1)::lR::lT::lU::(.int .i64 I.Ij)::(.int .i64 I.base)::(.slice A2 I.before.length c2)::(.int .i64 Pt)::(.int .i64 I.aO)::B1::(.slice A3 (I.gw I.r.bF).length c3)::(.slice A4 (I.iu I.r.bF).length c4)::(.int .i64 I.bj)::qF::qG::qH::MN::Ff::Ji::Dn::Gs::AU::qI::qJ::qK::qL::qM::qN::qO::qP::qQ::qR::qT::qU::qV::qW::qX::qY::qZ::rb::rf::rh::rp::rq::rr::ru::ry::rz::rA::rB::rC::rD::rE::rF::rG::rH::rI::rJ::rK::rL::rM::rN::rO::rP::rQ::rR::rS::rT::rU::rV::rW::rX::rY::rZ::se::sf::sg::si::sq::sr::su::sw::sx::sy::sB::sD::sF::sG::sH::sI::sJ::sK::sL::sM::sN::sO::sP::sQ::sR::sS::sT::sU::sV::sW::sX::sY::sZ::td::th::tj::tq::tu::tA::tB::tC::tD::tE::tF::tG::tH::tI::tJ::tK::tL::tM::tN::tO::tP::tQ::tR::tS::tT::tU::tV::tW::tX::tY::tZ::ua::ud::ue::uf::ug::uh::ui::uj::uk::um::uo::uq::ur::uu::uv::uw::ux::uy::uz::uA::uB::uC::uD::uE::uF::uG::uH::uI::uJ::uK::uL::uM::uN::uO::uP::uQ::uR::uS::uT::uU::uV::uW::uX::uY::uZ::vd::ve::vg::vh::vk::vn::vr::vt::vu::vv::vw::vx::vy::vz::vA::vB::vC::vD::vE::vF::vG::vH::vI::vJ::vK::vL::vM::vN::vO::vP::vQ::vR::vS::vT::vU::vV::vW::vX::vY::vZ::wj::wk::wm::wu::wA::wB::wC::wD::wE::wF::wG::wH::wI::wJ::wK::wL::wM::wN::wO::wP::wQ::wR::wS::wT::wU::wV::wW::wX::wY::wZ::xa::xc::xd::xe::xf::xg::xh::xi::xk::xl::xm::xn::xo::xp::xq::xr::xt::xu::xv::xw::xx::xy::xz::xA::xB::xC::xD::xE::xF::xG::xH::xI::xJ::xK::xL::xM::xN::xO::xP::xQ::xR::xS::xT::xU::xV::xW::xX::xY::xZ::ya::yb::ye::yf::yg::yh::yj::yn::yo::yq::yr::yt::yu::yv::yx::yz::yA::yB::yC::yD::yE::yF::yG::yH::yI::yJ::yK::yL::yM::yN::yO::yP::yQ::yR::yS::yT::yU::yV::yX::yY::yZ::za::ze::zf::zg::zh::zi::zj::zk::zl::zn::zr::zu::zv::zw::zx::zy::zA::zB::zC::zD::zE::zF::zG::zH::zI::zJ::AV::AW::AX::AY::AZ::Ba::Bb::Bc::Bd::Be::Bf::Bg::Bh::Bi::Bj::Bk::Bl::Bn::Bo::Bp::zK::zL::[]),defers:=[]} W:=by
 conv=>enter [2];whnf
 have qq:=MP (Ik lX.GF).2.2.2;have Z:=qq.2.1;have MQ:=qq.2.2.2.2;clear qq;have b2:-1000000000<=I.b.c:=Z.1;have b3:I.b.c<=1000000000:=Z.2;have a0:-1000000000<=I.b.a:=MQ.1;have a1:I.b.a<=1000000000:=MQ.2;clear Z MQ;have pV:=F5 (before:=true) lX.take;have s0:=pV.2.2.1;have s1:=pV.2.2.2.1;clear pV;have Ib:I.Ij=I.b.c-aB I.before:=rfl;have aT:aB I.before<=max I.b.c 0:=s1;have aU:0<=aB I.before:=s0;have g0:-2000000000<=I.Ij:=by omega
 have g1:I.Ij<=1000000000:=by omega
 have b8:0<=I.ay:=by omega
 have b9:I.ay<=1000000000:=by omega
 have Y:=L.y;rw[jQ]at Y;have ap:0<=y.az:=Y.p0;have aV:y.az<=53:=Y.p1;have av:0<=y.ay:=Y.i0;have aZ:y.ay<=y.az*1000000000:=Y.i1;have a2:-(y.az*1000000000)<=y.aQ:=Y.w0;have a3:y.aQ<=y.az*1000000000:=Y.w1;have mS:=L.r;rw[kE]at mS;have aC:1<=r.count:=mS.c0;have aD:r.count<=53:=mS.c1;have Fc:y.az<r.count:=by have:=lX.Dl;rw[jQ,kE]at this;exact this
 have ab:I.r.bF.length<=12:=L.r.Jk;have aE:Hid (Dv r.tm.t r.count y.az y.ay y.aQ I.ay=I.aw):=by rw[Hid,bf.aw,kE,jQ];rfl
 have Sn:Hid (∀z,Below W.heap.size W z->Calls prog 92 #[.agg #[.int .i64 r.tm.t.method,.slice r.tm.Ab r.tm.t.aR.length r.tm.cb,.int .i64 r.tm.t.bJ,.int .i64 r.tm.t.bK,.int .i64 r.tm.t.unit,.int .i64 r.tm.t.mode,.slice r.tm.Ar r.tm.t.rows.length r.tm.cr],.int .i64 r.count,.agg #[.int .i64 y.az,.int .i64 y.ay,.int .i64 y.aQ,.slice y.Ai y.ins.length y.ci,.slice y.At y.taken.length y.ct],.int .i64 I.ay] z fun e w'=>e=.returned (.tuple #[.int .i64 I.aw,.int .i64 0])/\Below z.heap.size z w'):=fun z hb=>by have:=alq r.tm r.count y.az y.ay y.aQ I.ay y.Ai y.At y.ins.length y.ci y.taken.length y.ct z (km.tm.aa hb) mS.MR aC aD ap Fc b8 b9 av (by omega) (by omega) (by omega);rw[aE.out]at this;exact this
 have eZ:0<=p.deps:=by have:=L.p.d0;rw[kD]at this;exact this
 have bP:p.deps<=20:=by have:=L.p.d1;rw[kD]at this;exact this
 have Dw:Bq p.os:=by have:=L.p.orders;rw[kD]at this;exact this
 have Bz:oL r.sh:=mS.sh;have MS:Hid (I.first=true->I.dc=B6 r.sh I.net p.deps p.os):=fun U=>by rw[bf.dc,atP U,kE,kD];rfl
 have ad:Hid (I.first=false->I.dc=I.kept):=fun U=>by rw[bf.dc,U];rfl
 have Pu:Hid (I.net=max (I.Es-max (I.b.c-I.b.a) 0) 0):=rfl;have oV:0<=I.net:=by rw[Pu.out];omega
 have kh:Hid (∀z,Below W.heap.size W z->(I.net<=1000000000->Calls prog 93 #[.agg #[.int .i64 r.sh.fixed,.int .i64 r.sh.bO,.int .i64 r.sh.lower,.int .i64 r.sh.share,.int .i64 r.sh.top],.int .i64 I.net,.int .i64 p.deps,.slice p.Ao p.os.length p.co] z fun e w'=>∃v,e=.returned (.tuple #[v,.int .i64 0])/\mr w' v (B6 r.sh I.net p.deps p.os)/\Below z.heap.size z w')/\
   (1000000000<I.net->Calls prog 93 #[.agg #[.int .i64 r.sh.fixed,.int .i64 r.sh.bO,.int .i64 r.sh.lower,.int .i64 r.sh.share,.int .i64 r.sh.top],.int .i64 I.net,.int .i64 p.deps,.slice p.Ao p.os.length p.co] z fun e w'=>e=.returned (.tuple #[.slice none 0 0,.int .i64 2])/\Below z.heap.size z w')):=fun z hb=>
  ⟨fun hn=>akZ r.sh I.net p.deps p.Ao p.co p.os z (nA.os.aa hb) Bz Dw oV hn eZ bP,fun hn=>akY r.sh I.net p.deps p.Ao p.co p.os z (nA.os.aa hb) Bz Dw oV (by omega) eZ bP⟩
 have Ec:Hid (¬(I.first=true/\1000000000<I.net)->I.dc.length<=16/\∀x∈I.dc,0<=x.amount/\x.amount<=1000000000):=by
  intro o5;rcases U:I.first with _|_
  ·rw[ad.out U];exact⟨L.kept.len,fun x hx=>⟨((BQ.1 L.kept.aav).2.1 x hx).2.1,L.kept.hi x hx⟩⟩
  ·have o7:I.net<=1000000000:=by
    have:¬1000000000<I.net:=fun h=>o5 ⟨U,h⟩;omega
   rw[MS.out U];have hA:=(VM Bz Dw oV o7 eZ bP).1;exact⟨at7 (V1 hA.sorted hA.code) Dw.len,fun x hx=>⟨hA.pos x hx,by have:=hA.hi x hx;omega⟩⟩
 have T:=atM lX;have cV:=atM L;have pW:=atM kE;have lY:=atM kD;have kP:=atM jQ;have Fw:=atM MO;have af:Hid (I.Ij-I.bj=I.MT):=rfl;have KP:Hid (I.MT-I.aw=I.Es):=rfl;have ja:=atM eY;clear lX L kE kD jQ MO Y mS km Bz Dw oV aZ a2 a3 s0 s1 aU aT Ib
 -- left-=bj
 refine ei fun K l=>?_;go_wp2_with fail;refine l.out _ _ ?_;clear l K;rw[af.out];have g2:-15000000000<=I.MT:=by have:=af.out;omega
 have g3:I.MT<=1000000000:=by have:=af.out;omega
 -- ay=max(ay,0)
 refine ei fun K l=>?_
 go_cut [28]from 216 to 217 (fun v wx=>v=.int .i64 I.ay/\wx=W)
 case first=>
  by_cases hi:0<=Pt
  ·have e:I.ay=Pt:=(by rw[Fw.out];omega);have HE:=atM e;clear e l;go_wp2_with fail;go_meet;exact⟨by rw[HE.out],rfl⟩
  ·have e:I.ay=0:=(by rw[Fw.out];omega);have HE:=atM e;clear e l;go_wp2_with fail;go_meet;exact⟨by rw[HE.out],rfl⟩
 obtain⟨rfl,rfl⟩:=hcut;refine l.out _ _ ?_;clear l K
 -- aw
 obtain⟨M,N,O,Q,R,r5,r6,r7,r8,r9,bX,pz,Jl,Jm,nB,Jn⟩:=aY.cz16;obtain⟨y0,y1,y2,y3,y4⟩:=bV.cz5;refine ei fun K l=>?_;go_wp2_with fail;refine atV (Sn.out _ (atS _ _)) ?_;rintro e E ⟨rfl,j⟩;go_wp2_with fail;refine l.out _ _ ?_;clear l K Sn M N O Q R r5 r6 r7 r8 r9 bX pz Jl Jm nB Jn y0 y1 y2 y3 y4;have bm:=aA ae j;have cy:=cU.aa j;have dt:=eB.aa j
 -- no a4
 refine ei fun K l=>?_;go_wp2_with fail;refine l.out _ _ ?_;clear l K
 -- an a7
 by_cases ha:cQ I.aw=true;rotate_left
 ·have ak:cQ I.aw=false:=by simpa using ha
  have HA:=atM ak;have u:=Fx I.aw E;rw[ak]at u;have HC:=atM u;clear ha ak u;refine ei fun K l=>?_;go_wp2_with fail;refine atV HC.out ?_;rintro e w' ⟨rfl,rfl⟩;clear l;have jG:=Br cy dt D;have S:=Bt bm iy ku E;have iG:J≠G:=fun e=>D e.symm;obtain⟨q0,q1,q2,q3,q4,q5,q6⟩:=cy.cz7;obtain⟨M,N,O,Q,R⟩:=dt.cz5;obtain⟨j5,j6,j7,kx,ky,oJ,oK⟩:=cy.fz7;obtain⟨pJ,pK,pL,zT,zU⟩:=dt.fz5;have lq:=cy.lt;have lr:=dt.lt;go_wp2;clear q0 q1 q2 q3 q4 q5 q6 M N O Q R;change bodyPost _ _ _ _ _ (iQ E G J);obtain⟨B,bw⟩:=jG;generalize iQ E G J=WW at B bw S|-;obtain⟨q0,q1,q2,q3,q4,q5,q6⟩:=B.cz7;obtain⟨M,N,O,Q,R⟩:=bw.cz5;clear B bw;refine at5 (v:=_) (by simp[results,results49,go_sem,q0,q1,q2,q3,q4,q5,q6,M,N,O,Q,R];rfl) rfl ?_;exact nY.fail (T.out.err HA.out) (by omega) S
 obtain⟨b6,b7⟩:=V2.1 ha;have u:=Fx I.aw E;rw[ha]at u;have HC:=atM u;have R8:=atM ha;clear ha u;refine ei fun K l=>?_;go_wp2_with fail;refine atV HC.out ?_;rintro e w' ⟨rfl,rfl⟩;go_wp2_with fail;refine l.out _ _ ?_;clear l K HC
 -- left-=aw
 refine ei fun K l=>?_;go_wp2_with fail;refine l.out _ _ ?_;clear l K;rw[KP.out];have g4:-100000000000<=I.Es:=by have:=KP.out;omega
 have g5:I.Es<=100000000000:=by have:=KP.out;omega
 -- dc:=kept
 refine ei fun K l=>?_;go_wp2_with fail;refine l.out _ _ ?_;clear l K
 -- if first
 have VW:Hid (1000000000<I.net->I.first=true->I.err=2):=fun h U=>T.out.Dc R8.out ⟨U,h⟩;have kR:=aY.aa j;have zS:=eM.aa j;have Jj:ah E gb 24 #[.int .i64 I.b.g,.int .i64 I.b.c,.int .i64 I.b.t,.int .i64 I.b.i,.int .i64 I.b.a]:=ja.out.aa j;have al:=hk.aa j;have mz:=atM py;clear py;have Sp:=atM (kh.out E j);clear kh;refine ei fun K l=>?_;cases fi with
 |false=>
  clear Sp MS;go_wp2_with fail;refine l.out _ _ ?_;clear l K;have ek:=ad.out mz.out;rw[<-ek]at al|-;have o5:¬(I.first=true/\1000000000<I.net):=by rw[mz.out];simp
  obtain⟨l5,am⟩:=Ec.out o5;have ao:Fo I:=⟨T.out.Dl,T.out.GF,T.out.take,T.out.over,R8.out,o5⟩
  exact aeX w E gp gy G J gb p y I A0 A1 A2 A3 A4 Ak c0 c1 c2 c3 c4 kc (aA ae j) (bV.aa j) (cU.aa j) (eB.aa j) iy ku D (eM.aa j) (ja.out.aa j) (by rw[lY.out];rfl) kP.out (nA.aa j) (dN.aa j) ao cV.out (h0.aa j) (h1.aa j) (h2.aa j) (h3.aa j) (h4.aa j) al l0 l1 ab l5 am (by omega) (by omega) b2 b3 b4 b5 b6 b7 b8 b9
 |true=>
  have V3:=atM (MS.out mz.out);have MU:Hid (1000000000<I.net->I.err=2):=fun h=>VW.out h mz.out;clear MS VW ad;obtain⟨M,N,O,Q,R,r5,r6,r7,r8,r9,bX,pz,Jl,Jm,nB,Jn⟩:=kR.cz16;obtain⟨p0,p1,p2,p3⟩:=zS.cz4;obtain⟨v0,v1,v2,v3,v4⟩:=Jj.cz5;go_upto_region 47 with fail
  go_cut [17,38]from 243 to 261 (fun aJ a5 wx=>Below E.heap.size E wx/\((I.net<=1000000000/\aJ=.int .i64 0/\∃V c5,a5=.slice V I.dc.length c5/\ai aN 2 wx wx.heap.size V I.dc)\/(1000000000<I.net/\aJ=.int .i64 2)))
  case first=>
   as_aux_lemma=>
    have aS:Hid (∀n,I.net=n->Calls prog 93 #[.agg #[.int .i64 r.sh.fixed,.int .i64 r.sh.bO,.int .i64 r.sh.lower,.int .i64 r.sh.share,.int .i64 r.sh.top],.int .i64 n,.int .i64 p.deps,.slice p.Ao p.os.length p.co] E fun e w'=>∃v n',e=.returned (.tuple #[v,.int .i64 n'])/\Below E.heap.size E w'/\((I.net<=1000000000/\Value.int .i64 n'=.int .i64 0/\∃V c5,v=.slice V I.dc.length c5/\ai aN 2 w' w'.heap.size V I.dc)\/(1000000000<I.net/\Value.int .i64 n'=.int .i64 2))):=by
     intro n hn;rw[<-hn];by_cases h9:I.net<=1000000000
     ·refine(Sp.out.1 h9).mono ?_;rintro e w5 ⟨v5,rfl,⟨V,c5,rfl,dm,_,_⟩,X⟩;exact⟨_,0,rfl,X,.inl ⟨h9,rfl,V,c5,by rw[V3.out],by rw[V3.out];exact dm⟩⟩
     ·refine(Sp.out.2 (by omega)).mono ?_;rintro e w5 ⟨rfl,X⟩;exact⟨_,2,rfl,X,.inr ⟨by omega,rfl⟩⟩
    clear Sp V3 MU mz kR zS Jj l;go_wp2_with fail
    all_goals refine atV (aS.out _ (by rw[Pu.out];omega)) ?_;rintro e w5 ⟨v5,n5,rfl,aj⟩;have jm:=atM aj;clear aj aS;go_wp2_with fail;go_meet;exact jm.out
  obtain⟨X,a6⟩:=hcut
  rename World=>w5
  clear M N O Q R r5 r6 r7 r8 r9 bX pz Jl Jm nB Jn p0 p1 p2 p3 v0 v1 v2 v3 v4 kR zS Jj;rcases a6 with⟨h9,rfl,V,c5,rfl,dm⟩|⟨h9,rfl⟩
  ·go_wp2_with fail;refine l.out _ _ ?_;clear l K;have F:=aA j X;have o5:¬(I.first=true/\1000000000<I.net):=(by omega);obtain⟨l5,am⟩:=Ec.out o5;have ao:Fo I:=⟨T.out.Dl,T.out.GF,T.out.take,T.out.over,R8.out,o5⟩
   exact aeX w w5 gp gy G J gb p y I A0 A1 A2 A3 A4 V c0 c1 c2 c3 c4 c5 (aA ae F) (bV.aa F) (cU.aa F) (eB.aa F) iy ku D (eM.aa F) (ja.out.aa F) (by rw[lY.out];rfl) kP.out (nA.aa F) (dN.aa F) ao cV.out (h0.aa F) (h1.aa F) (h2.aa F) (h3.aa F) (h4.aa F) dm l0 l1 ab l5 am (by omega) (by omega) b2 b3 b4 b5 b6 b7 b8 b9
  ·have V4:=atM (MU.out h9);have qo:=aA bm X;have Ca:=cy.aa X;have Fy:=dt.aa X;clear cy dt MU l cU eB aY eM bV hk al h0 h1 h2 h3 h4 nA dN X j bm ae Sp V3 Ec Pu aE h9 i0 i1 b4 b5 b2 b3 a0 a1 g0 g1 g2 g3 g4 g5 b8 b9 ap aV av aC aD Fc ab eZ bP b6 b7 l0 l1;have jG:=Br Ca Fy D;have S:=Bt qo iy ku w5;have iG:J≠G:=fun e=>D e.symm;obtain⟨q0,q1,q2,q3,q4,q5,q6⟩:=Ca.cz7;obtain⟨M,N,O,Q,R⟩:=Fy.cz5;obtain⟨j5,j6,j7,kx,ky,oJ,oK⟩:=Ca.fz7;obtain⟨pJ,pK,pL,zT,zU⟩:=Fy.fz5;have lq:=Ca.lt;have lr:=Fy.lt;go_wp2;clear q0 q1 q2 q3 q4 q5 q6 M N O Q R;change bodyPost _ _ _ _ _ (iQ w5 G J);obtain⟨B,bw⟩:=jG;generalize iQ w5 G J=WW at B bw S|-;obtain⟨q0,q1,q2,q3,q4,q5,q6⟩:=B.cz7;obtain⟨M,N,O,Q,R⟩:=bw.cz5;clear B bw;refine at5 (v:=_) (by simp[results,results49,go_sem,q0,q1,q2,q3,q4,q5,q6,M,N,O,Q,R];rfl) rfl ?_;exact nY.fail (V4.out) (by omega) S
structure zV(B:Nat)(a:World)(lb lo:Nat)(lv:gM)(w:World):Prop where
 bh:Below B a w
 c1:w.cell? ⟨lb,lo+1,none⟩=some (.int .i64 lv.aD)
 c2:w.cell? ⟨lb,lo+2,none⟩=some (.int .i64 lv.aV)
 lt:lb<w.heap.size
theorem zV.jw(B:Nat)(a:World)(j l:Nat)(r:gM)(u:B<=a.heap.size):gH (zV B a j l r):=fun _ _ h e=>
 ⟨h.bh.trans (e.mono (at7 u h.bh.size)),(e.cell (p:=⟨j,l+1,none⟩) h.lt).trans h.c1,(e.cell (p:=⟨j,l+2,none⟩) h.lt).trans h.c2,auD h.lt e.size⟩
theorem zV.grown{B:Nat}{a:World}{j p:Nat}{lv:gM}{w w':World}{row:Option Nat}(h:zV B a j p lv w)(l:w.grownBy w' row)(u:B<=a.heap.size)(y:∀q,row=some q->B<=q)(r:row≠some j):zV B a j p lv w':=
 ⟨h.bh.trans (ib l (at7 u h.bh.size) y),(auX (l.block j h.lt (fun e=>r e.symm))).trans h.c1,(auX (l.block j h.lt (fun e=>r e.symm))).trans h.c2,auD h.lt l.size⟩
def Il(u v:Value):Prop:=∀q,u.ownBlock=some q->v.ownBlock≠some q
def Sq(W:World)(r u:List Elem)(e y:Nat)(z:gM)(j l:Value)(p:World):Prop:=
 Own aN 2 69 p W.heap.size j r/\Own aN 2 69 p W.heap.size l u/\Il j l/\zV W.heap.size W e y z p/\(∀q,j.ownBlock=some q->q≠e)/\∀q,l.ownBlock=some q->q≠e
theorem alr(w W:World)(U gp gy Z gn gb:Nat)(r:gJ)(p:fB)(y:fC)(I:bf)(Ak A0 A1 A2 A9:Option Addr)(kc c0 c1 c2 c9:Nat)(es:List cI)(fi:Bool)
  {x0 x1 x2 x5 x9 lJ lK lL lM lO mK lQ lR lT lU qF qG qH MN Ff Ji Dn Gs AU qI qJ qK qL qM qN qO qP qQ qR qT qU qV qW qX qY qZ rb rf rh rp rq rr ru ry rz rA rB rC rD rE rF rG rH rI rJ rK rL rM rN rO rP rQ rR rS rT rU rV rW rX rY rZ se sf sg si sq sr su sw sx sy sB sD sF sG sH sI sJ sK sL sM sN sO sP sQ sR sS sT sU sV sW sX sY sZ td th tj tq tu tA tB tC tD tE tF tG tH tI tJ tK tL tM tN tO tP tQ tR tS tT tU tV tW tX tY tZ ua ud ue uf ug uh ui uj uk um uo uq ur uu uv uw ux uy uz uA uB uC uD uE uF uG uH uI uJ uK uL uM uN uO uP uQ uR uS uT uU uV uW uX uY uZ vd ve vg vh vk vn vr vt vu vv vw vx vy vz vA vB vC vD vE vF vG vH vI vJ vK vL vM vN vO vP vQ vR vS vT vU vV vW vX vY vZ wj wk wm wu wA wB wC wD wE wF wG wH wI wJ wK wL wM wN wO wP wQ wR wS wT wU wV wW wX wY wZ xa xc xd xe xf xg xh xi xk xl xm xn xo xp xq xr xt xu xv xw xx xy xz xA xB xC xD xE xF xG xH xI xJ xK xL xM xN xO xP xQ xR xS xT xU xV xW xX xY xZ ya yb ye yf yg yh yj yn yo yq yr yt yu yv yx yz yA yB yC yD yE yF yG yH yI yJ yK yL yM yN yO yP yQ yR yS yT yU yV yX yY yZ za ze zf zg zh zi zj zk zl zn zr zu zv zw zx zy zA zB zC zD zE zF zG zH zI zJ AV AW AX AY AZ Ba Bb Bc Bd Be Bf Bg Bh Bi Bj Bk Bl Bn Bo Bp zK zL:Value}
  (ae:Below w.heap.size w W) (bV:ah W gy 53 #[.int .i64 y.az,.int .i64 y.ay,.int .i64 y.aQ,.slice y.Ai y.ins.length y.ci,.slice y.At y.taken.length y.ct]) (cU:ah W Z 27 #[.int .i64 0,.int .i64 0,.int .i64 0,.int .i64 0,.int .i64 0,.int .i64 0,.slice none 0 0]) (eB:ah W gn 53 #[.int .i64 0,.int .i64 0,.int .i64 0,.slice none 0 0,.slice none 0 0]) (iy:w.heap.size<=Z) (ku:w.heap.size<=gn) (ab:Z≠gn) (py:I.first=fi) (aY:ah W U 45 #[.slice r.Aw r.ws.length r.cw,.slice r.As r.ss.length r.cs,.int .i64 r.tm.t.method,.slice r.tm.Ab r.tm.t.aR.length r.tm.cb,.int .i64 r.tm.t.bJ,.int .i64 r.tm.t.bK,.int .i64 r.tm.t.unit,.int .i64 r.tm.t.mode,.slice r.tm.Ar r.tm.t.rows.length r.tm.cr,.int .i64 r.count,.int .i64 r.sh.fixed,.int .i64 r.sh.bO,.int .i64 r.sh.lower,.int .i64 r.sh.share,.int .i64 r.sh.top,.int .i64 r.recover]) (eM:ah W gp 50 #[.int .i64 p.deps,.slice p.Ad p.ds.length p.cd,.slice p.Ao p.os.length p.co,.slice p.Ae p.es.length p.ce]) (eY:ah W gb 24 (nw I.b).toArray) (kE:I.r=r.t) (kD:I.p=p.t) (jQ:I.y=y.t) (km:r.In W) (nA:p.In W) (dN:y.In W) (hk:ai aN 2 W W.heap.size Ak I.kept) (am:ai pS 2 W W.heap.size A9 es) (jh:∀e∈es,ai encI 1 W W.heap.size e.A e.l) (Sr:es.map cI.v=I.eF) (lX:Sb I) (aX:mJ I) (h0:ai aN 2 W W.heap.size A0 I.cD) (h1:ai aN 2 W W.heap.size A1 I.cG) (h2:ai aN 2 W W.heap.size A2 I.before) (l0:I.cD.length<=1000) (l1:I.cG.length<=1000):
  Code.wp prog (Hv 16 (Ja Tryz.f49)) (bodyPost prog Tryz.f49 (nY I w)) {tmps:=List.toArray (x0::x1::x2::(.slice Ak I.kept.length kc)::(.bool fi)::x5::(.pointer (some ⟨U,0,none⟩))::(.pointer (some ⟨gp,0,none⟩))::(.pointer (some ⟨gy,0,none⟩))::x9::lJ::lK::(.pointer (some ⟨Z,0,none⟩))::(.pointer (some ⟨gn,0,none⟩))::lL::lM::(.pointer (some ⟨gb,0,none⟩))::lO::mK::lQ::(.slice A0 I.cD.length c0)::(.slice A1 I.cG.length c1)::lR::lT::lU::(.int .i64 I.Ij)::(.int .i64 I.base)::(.slice A2 I.before.length c2)::(.int .i64 (I.b.t-aB I.before))::(.int .i64 I.aO)::(.slice A9 es.length c9)::(.slice none 0 0)::(.slice none 0 0)::(.int .i64 0)::qF::qG::qH::MN::Ff::Ji::Dn::Gs::AU::qI::qJ::qK::qL::qM::qN::qO::qP::qQ::qR::qT::qU::qV::qW::qX::qY::qZ::rb::rf::rh::rp::rq::rr::ru::ry::rz::rA::rB::rC::rD::rE::rF::rG::rH::rI::rJ::rK::rL::rM::rN::rO::rP::rQ::rR::rS::rT::rU::rV::rW::rX::rY::rZ::se::sf::sg::si::sq::sr::su::sw::sx::sy::sB::sD::sF::sG::sH::sI::sJ::sK::sL::sM::sN::sO::sP::sQ::sR::sS::sT::sU::sV::sW::sX::sY::sZ::td::th::tj::tq::tu::tA::tB::tC::tD::tE::tF::tG::tH::tI::tJ::tK::tL::tM::tN::tO::tP::tQ::tR::tS::tT::tU::tV::tW::tX::tY::tZ::ua::ud::ue::uf::ug::uh::ui::uj::uk::um::uo::uq::ur::uu::uv::uw::ux::uy::uz::uA::uB::uC::uD::uE::uF::uG::uH::uI::uJ::uK::uL::uM::uN::uO::uP::uQ::uR::uS::uT::uU::uV::uW::uX::uY::uZ::vd::ve::vg::vh::vk::vn::vr::vt::vu::vv::vw::vx::vy::vz::vA::vB::vC::vD::vE::vF::vG::vH::vI::vJ::vK::vL::vM::vN::vO::vP::vQ::vR::vS::vT::vU::vV::vW::vX::vY::vZ::wj::wk::wm::wu::wA::wB::wC::wD::wE::wF::wG::wH::wI::wJ::wK::wL::wM::wN::wO::wP::wQ::wR::wS::wT::wU::wV::wW::wX::wY::wZ::xa::xc::xd::xe::xf::xg::xh::xi::xk::xl::xm::xn::xo::xp::xq::xr::xt::xu::xv::xw::xx::xy::xz::xA::xB::xC::xD::xE::xF::xG::xH::xI::xJ::xK::xL::xM::xN::xO::xP::xQ::xR::xS::xT::xU::xV::xW::xX::xY::xZ::ya::yb::ye::yf::yg::yh::yj::yn::yo::yq::yr::yt::yu::yv::yx::yz::yA::yB::yC::yD::yE::yF::yG::yH::yI::yJ::yK::yL::yM::yN::yO::yP::yQ::yR::yS::yT::yU::yV::yX::yY::yZ::za::ze::zf::zg::zh::zi::zj::zk::zl::zn::zr::zu::zv::zw::zx::zy::zA::zB::zC::zD::zE::zF::zG::zH::zI::zJ::AV::AW::AX::AY::AZ::Ba::Bb::Bc::Bd::Be::Bf::Bg::Bh::Bi::Bj::Bk::Bl::Bn::Bo::Bp::zK::zL::[]),defers:=[]} W:=by
 conv=>enter [2];whnf
 have qq:=MP (Ik lX.GF).2.2.2;have t0:-1000000000<=I.b.t:=qq.2.2.1.1;have t1:I.b.t<=1000000000:=qq.2.2.1.2;have n1:I.b.i<=1000000000:=qq.2.2.2.1.2;have aC:I.b.c<=1000000000:=qq.2.1.2;have zW:I.aO<=1000000000:=by show max I.b.i 0<=_;omega
 have pV:=F5 (before:=true) lX.take;have s0:0<=aB I.before:=pV.2.2.1;have s1:aB I.before<=max I.b.c 0:=pV.2.2.2.1;have s2:aB I.before<=1000000000:=by omega
 have kL:r.ss.length<=12:=by have:=aX.r.Jk;rw[kE]at this;exact this
 have Ev:I.r.bF=r.ss:=by rw[kE];rfl
 have Pv:=aX.aax lX.Dl zW;have Dx:Hid (∀s∈r.ss,gI (iE s I.y.aO.length I.eF)=false->(0<=(I.fS s).aD/\(I.fS s).aD<=1000000000)/\0<=(I.fS s).aV/\(I.fS s).aV<=1000000000):=fun s Q J=>aX.V5 lX.Dl zW (by rw[Ev];exact Q) J;have HJ:Hid (∀s∈r.ss,∀W',Below W.heap.size W W'->Calls prog 91 #[.agg #[.string s.code,.int .i64 s.aD,.int .i64 s.aV,.int .i64 s.floor,.int .i64 s.dO,.int .i64 s.unit,.int .i64 s.mode,.bool s.ep],.slice A9 es.length c9] W' (B8 (qg s I.y.aO.length I.eF) (AH s I.y.aO.length I.eF) W')):=fun s Q W' hb=>by have:=alh s A9 c9 I.y.aO.length es W' (am.aa hb) (fun e he=>(jh e he).aa hb) (aX.r.MV s (by rw[Ev];exact Q)) (by rw[Sr];exact Pv);rw[Sr]at this;exact this
 have GG:Hid (∀s,gI (iE s I.y.aO.length I.eF)=false->AH s I.y.aO.length I.eF=0/\∃rest,qg s I.y.aO.length I.eF=I.fS s::rest):=fun s J=>by
  refine⟨by rw[AH,J];rfl,?_⟩;have e1:qg s I.y.aO.length I.eF=E9 s I.y.aO.length I.eF:=by rw[qg,J];rfl
  have hl:0<(E9 s I.y.aO.length I.eF).length:=by unfold E9;rw[Jh];simp[nU,bf.eF]
  rw[e1];unfold bf.fS;cases hj:E9 s I.y.aO.length I.eF with
  |nil=>rw[hj]at hl;simp at hl
  |cons a t=>exact⟨t,by simp⟩
 have Fs:Hid (∀s,gI (iE s I.y.aO.length I.eF)=true->AH s I.y.aO.length I.eF=4):=fun s J=>by rw[AH,J];rfl
 have jF:=atM lX;have cV:=atM aX;have pW:=atM kE;have lY:=atM kD;have kP:=atM jQ;have od:=atM Ev;have ja:=atM eY;have mz:=atM py;have V:=km.ss;clear lX aX kE kD jQ Ev eY py qq pV Pv Sr am jh s1 n1 aC zW;refine ei fun K HK=>?_;go_wp2_with fail
 go_loopw [28,31,32,33,34] (fun iv ov ev u kv wr=>∃k:Nat,k<=r.ss.length/\kv=.int .i64 k/\iv=.int .i64 (I.b.t-aB I.before-I.kC (r.ss.take k))/\u=.int .i64 (I.jP (r.ss.take k))/\Own aN 2 69 wr W.heap.size ov (I.gw (r.ss.take k))/\Own aN 2 69 wr W.heap.size ev (I.iu (r.ss.take k))/\Hid (Il ov ev)/\Hid (∀s∈r.ss.take k,gI (iE s I.y.aO.length I.eF)=false)/\Below W.heap.size W wr) (fun _ _ _ _ i _=>r.ss.length-(intOf i).toNat)
 case atStart=>exact⟨0,by omega,rfl,by simp[bf.kC,ax],rfl,Own.cC _ _,Own.cC _ _,(fun q z=>by cases z),(fun s Q=>by simp at Q),atS _ _⟩
 case round=>
  obtain⟨k,Ga,rfl,rfl,rfl,hO,hM,BA,Ew,j⟩:=hrel;have CO:=aY.aa j;have z1:=CO.cell 1;simp only[aq,ar,au]at z1;have MW:=CO.lt;have Vq:=aaj (I:=I) (k:=k) kL (fun s Q=>(Dx.out s (auh Q) (Ew.out s Q)).1);obtain⟨⟨v0,v1⟩,v2,v3⟩:=Vq;by_cases D:k<r.ss.length
  ·obtain⟨L,N,hA,Hr,X⟩:=(V.below j).at_ D;have Pw:=aY.lt;have a0:L<wr.heap.size:=(by have:=j.size;omega);have e0:=X 0 _ rfl;have e1:=X 1 _ rfl;have e2:=X 2 _ rfl;have e3:=X 3 _ rfl;have e4:=X 4 _ rfl;have e5:=X 5 _ rfl;have e6:=X 6 _ rfl;have e7:=X 7 _ rfl;simp only[atQ]at e0;have fL:(k:Int)<(r.ss.length:Int):=(by omega);clear X;rw[hA]at z1;clear hA;have fJ:r.ss[k]∈r.ss:=atT D;have ad:=atM (HJ.out _ fJ wr j);have af:Hid (W.cell? ⟨U,1,none⟩=some (.slice (some ⟨L,N,none⟩) r.ss.length r.cs)):=(j.cell (p:=⟨U,1,none⟩) Pw).symm.trans z1;have EY:Hid (W.cell? ⟨L,N+k*8,none⟩=some (.string r.ss[k].code)):=(j.cell (p:=⟨L,N+k*8,none⟩) Hr).symm.trans e0;have aJ:Hid (W.cell? ⟨L,N+k*8+7,none⟩=some (.bool r.ss[k].ep)):=(j.cell (p:=⟨L,N+k*8+7,none⟩) Hr).symm.trans e7;go_wp2_with fail;refine atV ad.out ?_;rintro e w2 ⟨A5,a1,rfl,dm,KQ,Pn,R⟩;have jR:Below W.heap.size W w2:=aA j R;rcases J:gI (iE r.ss[k] I.y.aO.length I.eF)with _|_;rotate_left
   ·have Ss:=atM (jF.out.err (aeK (by rw[od.out];exact fJ) J));rw[Fs.out _ J];have bm:=aA ae jR;have cy:=cU.aa jR;have dt:=eB.aa jR;clear ad z1 e0 e1 e2 e3 e4 e5 e6 e7 MW CO cU eB aY eM bV hO hM BA Ew dm KQ Pn R jR j h0 h1 h2 hk dN nA km V ae v0 v1 v2 v3 t0 t1 s0 s2 l0 l1 fL fJ J HK;generalize (qg r.ss[k] I.y.aO.length I.eF).length=nn;have jG:=Br cy dt ab;have an:=Bt bm iy ku w2;have iG:gn≠Z:=fun e=>ab e.symm;obtain⟨q0,q1,q2,q3,q4,q5,q6⟩:=cy.cz7;obtain⟨r0,r1,r2,r3,r4⟩:=dt.cz5;obtain⟨j5,j6,j7,kx,ky,oJ,oK⟩:=cy.fz7;obtain⟨pJ,pK,pL,zT,zU⟩:=dt.fz5;have lq:=cy.lt;have lr:=dt.lt;go_wp2;clear q0 q1 q2 q3 q4 q5 q6 r0 r1 r2 r3 r4;change bodyPost _ _ _ _ _ (iQ w2 Z gn);obtain⟨ak,bw⟩:=jG;generalize iQ w2 Z gn=WW at ak bw an|-;obtain⟨q0,q1,q2,q3,q4,q5,q6⟩:=ak.cz7;obtain⟨r0,r1,r2,r3,r4⟩:=bw.cz5;clear ak bw;refine at5 (v:=_) (by simp[results,results49,go_sem,q0,q1,q2,q3,q4,q5,q6,r0,r1,r2,r3,r4];rfl) rfl ?_;exact nY.fail (Ss.out) (by omega) an
   obtain⟨hE,rest,hL⟩:=GG.out _ J;have fl:Hid (∀s∈r.ss.take (k+1),gI (iE s I.y.aO.length I.eF)=false):=by
    intro s Q;rw[aud D]at Q;rcases aul.1 Q with h|h
    ·exact Ew.out s h
    ·simp at h;subst h;exact J
   obtain⟨⟨p0,p1⟩,p2,p3⟩:=Dx.out _ fJ J;rw[hE];rw[hL]at dm KQ|-;have AG:=atM (aeH (I:=I) D);have GD:=atM (aeI (I:=I) D);have Px:=atM (ak2 (I:=I) D);have aM:=atM (ak3 (I:=I) D);generalize I.fS r.ss[k]=u at*;obtain⟨B,E,rfl,Gg,jD⟩:=dm.at_ (i:=0) (by simp);have f1:=jD 1 _ rfl;have f2:=jD 2 _ rfl;simp only[auu,atQ,avv]at f1 f2;have B4:=Pn _ rfl;simp only at B4;simp only[at4]at KQ|-;clear jD;generalize rest.length=nr at KQ|-;have MX:Sq W (I.gw (r.ss.take k)) (I.iu (r.ss.take k)) B E u u31 u32 w2:=⟨hO.aa R,hM.aa R,BA.out,⟨jR,f1,f2,Gg⟩,fun q z=>by have:=(hO.bR z).2;omega,fun q z=>by have:=(hM.bR z).2;omega⟩
   clear ad z1 e0 e1 e2 e3 e4 e5 e6 e7 MW CO hO hM BA Ew dm Pn B4 J hE hL KQ f1 f2 Gg j R jR;go_upto_region 32 with fail
   go_cut [31]from 167 to 180 (fun v wx=>Sq W ((I.gw (r.ss.take k))++[⟨r.ss[k].code,u.aD⟩]) (I.iu (r.ss.take k)) B E u v u32 wx)
   case first=>
    as_aux_lemma=>
     obtain⟨gT,pX,KR,O,M,E7⟩:=MX;clear h0 h1 h2 hk dN nA bV eM cU eB ae Dx HJ GG Fs jF cV pW lY kP od ja mz fl HK V km;have aS:=O.bh.size;refine M3.iN (C:=zV W.heap.size W B E u) (zV.jw _ _ _ _ _ (atN _)) O (aE:=?asu) [0,1,2,3,4,5,6,7,8,9,10,11] 3 (by kernel_rfl) (by kernel_rfl) rfl (by kernel_rfl) (by kernel_rfl) (by rfl) ?alu ?alv
     case alu=>
      intro F hF ao;simp only[M3.cL,atY,at0,at1];have q0:∀p:aP (zV W.heap.size W B E u) F,p.w'.cell? ⟨U,1,none⟩=some (.slice (some ⟨L,N,none⟩) r.ss.length r.cs):=fun p=>(p.h.bh.cell (p:=⟨U,1,none⟩) Pw).trans af.out;have q1:∀p:aP (zV W.heap.size W B E u) F,p.w'.cell? ⟨L,N+k*8,none⟩=some (.string r.ss[k].code):=fun p=>(p.h.bh.cell (p:=⟨L,N+k*8,none⟩) Hr).trans EY.out;have q2:∀p:aP (zV W.heap.size W B E u) F,p.w'.cell? ⟨B,E+1,none⟩=some (.int .i64 u.aD):=fun p=>p.h.c1
      repeat(first|go_big_quiet_step(fail))
      refine wpQuiet_nil ?_;rfl
     case alv=>
      intro Q0 bS;refine M3.bQ [12] (by kernel_rfl) (by simp) ?_;intro S ba j i hi;simp only[bY,bZ,atU]at hi;subst hi;have GJ:=bC S (.cells #[.string r.ss[k].code,.int .i64 u.aD] 69);refine M3.bH (.slice (some ⟨S.heap.size,0,none⟩) 1 1) (S.alloc (.cells #[.string r.ss[k].code,.int .i64 u.aD] 69)) rfl rfl (by go_simp) ⟨zV.jw _ _ _ _ _ (atN _) _ _ ba GJ,?_⟩;simp only[Act.put,aF,aG,aH,aI,aK,aL];have dQ:=ai.new dG S [⟨r.ss[k].code,u.aD⟩] #[.string r.ss[k].code,.int .i64 u.aD] 69 rfl;rw[<-at2 S (.cells #[.string r.ss[k].code,.int .i64 u.aD] 69)]at dQ;have og:=(gT.aa j).aa GJ;have jq:=(pX.aa j).aa GJ;refine M3.bQ [13] (by kernel_rfl) (by simp) ?_;intro w3 bW G i hi;simp only[bY,bZ,atU]at hi;subst hi;have lZ:=og.aa G;have mU:=jq.aa G;have mN:=dQ.aa G;refine M3.Ks (.tmp 167) (.tmp 179) 51 1 24 _ nQ underlying51 lZ mN dG (by omega) rfl mF (by simp only[bf.gw,auq,auH,at4,aug];omega) (by omega) bW.bh.size rfl rfl rfl rfl rfl rfl ?_;intro Y w5 iw aZ ig;have bD:=bW.grown aZ (atN _) (fun q z=>(lZ.bR z).1) (fun e=>M B e rfl);have lW:=mU.Mx aZ (fun q z e=>KR q e z);have Ey:Il Y u32:=by
       intro q z;intro gK;rcases ig with e|e
       ·rw[e]at z;exact KR q z gK
       ·rw[e]at z;injection z with e2
        have:=(mU.bR gK).2;omega
      have Az:∀q,Y.ownBlock=some q->q≠B:=fun q z=>by
       rcases ig with e|e
       ·rw[e]at z;exact M q z
       ·rw[e]at z;injection z with z;have:=bW.lt;omega
      refine⟨bD,?_⟩;simp only[Act.put,aF,aG,aH,aI,aK,aL];refine M3.bQ [14] (by kernel_rfl) (by simp) ?_;intro w6 fM bu i hi;simp only[bY,bZ,atU]at hi;subst hi;refine M3.bH Y w6 rfl rfl rfl ⟨fM,?_⟩;simp only[Act.put,aF,aG,aH,aI,aK,aL];refine M3.kI (by kernel_rfl) ?_;intro w7 cM bB;refine bS _ _ ?_;have T:Sq W ((I.gw (r.ss.take k))++[⟨r.ss[k].code,u.aD⟩]) (I.iu (r.ss.take k)) B E u Y u32 w7:=⟨(iw.aa bu).aa bB,(lW.aa bu).aa bB,Ey,cM,Az,E7⟩
      have jm:=atM T;clear T iw lW lZ mU mN og jq dQ aZ ig Az Ey;go_wp2_with fail;go_meet;exact jm.out
   clear MX;have MX:=hcut;clear hcut;go_upto_region 33 with fail
   go_cut [32]from 181 to 194 (fun v wx=>Sq W ((I.gw (r.ss.take k))++[⟨r.ss[k].code,u.aD⟩]) ((I.iu (r.ss.take k))++[⟨r.ss[k].code,u.aV⟩]) B E u u31 v wx)
   case first=>
    as_aux_lemma=>
     obtain⟨gT,pX,KR,O,M,E7⟩:=MX;clear h0 h1 h2 hk dN nA bV eM cU eB ae Dx HJ GG Fs jF cV pW lY kP od ja mz fl HK V km;have aS:=O.bh.size;refine M3.iN (C:=zV W.heap.size W B E u) (zV.jw _ _ _ _ _ (atN _)) O (aE:=?asv) [0,1,2,3,4,5,6,7,8,9,10,11] 3 (by kernel_rfl) (by kernel_rfl) rfl (by kernel_rfl) (by kernel_rfl) (by rfl) ?alw ?alx
     case alw=>
      intro F hF ao;simp only[M3.cL,atY,at0,at1];have q0:∀p:aP (zV W.heap.size W B E u) F,p.w'.cell? ⟨U,1,none⟩=some (.slice (some ⟨L,N,none⟩) r.ss.length r.cs):=fun p=>(p.h.bh.cell (p:=⟨U,1,none⟩) Pw).trans af.out;have q1:∀p:aP (zV W.heap.size W B E u) F,p.w'.cell? ⟨L,N+k*8,none⟩=some (.string r.ss[k].code):=fun p=>(p.h.bh.cell (p:=⟨L,N+k*8,none⟩) Hr).trans EY.out;have q2:∀p:aP (zV W.heap.size W B E u) F,p.w'.cell? ⟨B,E+2,none⟩=some (.int .i64 u.aV):=fun p=>p.h.c2
      repeat(first|go_big_quiet_step(fail))
      refine wpQuiet_nil ?_;rfl
     case alx=>
      intro Q0 bS;refine M3.bQ [12] (by kernel_rfl) (by simp) ?_;intro S ba j i hi;simp only[bY,bZ,atU]at hi;subst hi;have GJ:=bC S (.cells #[.string r.ss[k].code,.int .i64 u.aV] 69);refine M3.bH (.slice (some ⟨S.heap.size,0,none⟩) 1 1) (S.alloc (.cells #[.string r.ss[k].code,.int .i64 u.aV] 69)) rfl rfl (by go_simp) ⟨zV.jw _ _ _ _ _ (atN _) _ _ ba GJ,?_⟩;simp only[Act.put,aF,aG,aH,aI,aK,aL];have dQ:=ai.new dG S [⟨r.ss[k].code,u.aV⟩] #[.string r.ss[k].code,.int .i64 u.aV] 69 rfl;rw[<-at2 S (.cells #[.string r.ss[k].code,.int .i64 u.aV] 69)]at dQ;have og:=(gT.aa j).aa GJ;have jq:=(pX.aa j).aa GJ;refine M3.bQ [13] (by kernel_rfl) (by simp) ?_;intro w3 bW G i hi;simp only[bY,bZ,atU]at hi;subst hi;have lZ:=og.aa G;have mU:=jq.aa G;have mN:=dQ.aa G;refine M3.Ks (.tmp 181) (.tmp 193) 51 1 24 _ nQ underlying51 mU mN dG (by omega) rfl mF (by simp only[bf.iu,auq,auH,at4,aug];omega) (by omega) bW.bh.size rfl rfl rfl rfl rfl rfl ?_;intro Y w5 iw aZ ig;have bD:=bW.grown aZ (atN _) (fun q z=>(mU.bR z).1) (fun e=>E7 B e rfl);have lW:=lZ.Mx aZ (fun q z e=>KR q z e);have Ey:Il u31 Y:=by
       intro q z gK
       skip
       rcases ig with e|e
       ·rw[e]at gK;exact KR q z gK
       ·rw[e]at gK;injection gK with e2
        have:=(lZ.bR z).2;omega
      have Az:∀q,Y.ownBlock=some q->q≠B:=fun q z=>by
       rcases ig with e|e
       ·rw[e]at z;exact E7 q z
       ·rw[e]at z;injection z with z;have:=bW.lt;omega
      refine⟨bD,?_⟩;simp only[Act.put,aF,aG,aH,aI,aK,aL];refine M3.bQ [14] (by kernel_rfl) (by simp) ?_;intro w6 fM bu i hi;simp only[bY,bZ,atU]at hi;subst hi;refine M3.bH Y w6 rfl rfl rfl ⟨fM,?_⟩;simp only[Act.put,aF,aG,aH,aI,aK,aL];refine M3.kI (by kernel_rfl) ?_;intro w7 cM bB;refine bS _ _ ?_;have T:Sq W ((I.gw (r.ss.take k))++[⟨r.ss[k].code,u.aD⟩]) ((I.iu (r.ss.take k))++[⟨r.ss[k].code,u.aV⟩]) B E u u31 Y w7:=⟨(lW.aa bu).aa bB,(iw.aa bu).aa bB,Ey,cM,M,Az⟩
      have jm:=atM T;clear T iw lW lZ mU mN og jq dQ aZ ig Az Ey;go_wp2_with fail;go_meet;exact jm.out
   clear MX;have MX:=hcut;clear hcut;obtain⟨gT,pX,KR,O,M,E7⟩:=MX
   rename World=>w3
   have f1:=O.c1;have a2:=O.lt;have z1:=(O.bh.cell (p:=⟨U,1,none⟩) Pw).trans af.out;have z7:=(O.bh.cell (p:=⟨L,N+k*8+7,none⟩) Hr).trans aJ.out;have a3:=O.bh.size;rw[<-Px.out]at gT;rw[<-aM.out]at pX;have ap:∀iv,iv=Value.int .i64 (I.b.t-aB I.before-I.kC (r.ss.take (k+1)))->∃k':Nat,k'<=r.ss.length/\Value.int .i64 ((k:Int)+1)=.int .i64 k'/\iv=.int .i64 (I.b.t-aB I.before-I.kC (r.ss.take k'))/\Value.int .i64 (I.jP (r.ss.take k)+u.aD)=.int .i64 (I.jP (r.ss.take k'))/\Own aN 2 69 w3 W.heap.size u31 (I.gw (r.ss.take k'))/\Own aN 2 69 w3 W.heap.size u32 (I.iu (r.ss.take k'))/\Hid (Il u31 u32)/\Hid (∀s∈r.ss.take k',gI (iE s I.y.aO.length I.eF)=false)/\Below W.heap.size W w3:=fun iv aT=>⟨k+1,by omega,by go_num,aT,by rw[AG.out],gT,pX,KR,fl.out,O.bh⟩
   have jm:=atM ap;clear ap gT pX KR M E7;rcases hd:r.ss[k].ep with _|_
   ·rw[hd]at z7;have al:Hid (Value.int .i64 (I.b.t-aB I.before-I.kC (r.ss.take k))=.int .i64 (I.b.t-aB I.before-I.kC (r.ss.take (k+1)))):=(by rw[Hid,GD.out,hd];simp);clear hd;go_wp2;go_roundw
    case rel=>
     have T:=jm.out _ al.out
     first|exact T|((repeat apply Exists.intro);exact⟨T,rfl⟩)
    case measure=>simp[intOf];omega
   ·rw[hd]at z7;have al:Hid (Value.int .i64 (I.b.t-aB I.before-I.kC (r.ss.take k)-u.aD)=.int .i64 (I.b.t-aB I.before-I.kC (r.ss.take (k+1)))):=(by rw[Hid,GD.out,hd];simp;omega);clear hd;go_wp2;go_roundw
    case rel=>
     have T:=jm.out _ al.out
     first|exact T|((repeat apply Exists.intro);exact⟨T,rfl⟩)
    case measure=>simp[intOf];omega
  ·obtain rfl:k=r.ss.length:=by omega
   rw[auv]at hO hM Ew v0 v1 v2 v3|-;have Su:Own aN 2 69 wr W.heap.size u31 (I.gw I.r.bF):=(by rw[od.out];exact hO);have Sv:Own aN 2 69 wr W.heap.size u32 (I.iu I.r.bF):=(by rw[od.out];exact hM);obtain⟨A3,c3,rfl,fW,_,_⟩:=Su.form dG;obtain⟨A4,c4,rfl,cO,_,_⟩:=Sv.form dG;have RM:Hid (I.jP r.ss=I.bj):=(by rw[Hid,bf.bj,od.out]);have pw:Hid (I.ay=max (I.b.t-aB I.before-I.kC r.ss) 0):=(by rw[Hid,bf.ay,od.out]);rw[RM.out]at v0 v1|-;have av:Ps I:=⟨jF.out.Dl,jF.out.GF,jF.out.take,aeJ (by rw[od.out];exact Ew.out)⟩
   have aU:=atM av;clear av hO hM Su Sv BA Ew HJ GG Fs Dx;go_wp2_with fail;refine HK.out _ _ ?_;exact alp w wr U gp gy Z gn gb r p y I Ak A0 A1 A2 A3 A4 kc c0 c1 c2 c3 c4 (I.b.t-aB I.before-I.kC r.ss) fi (aA ae j) (bV.aa j) (cU.aa j) (eB.aa j) iy ku ab mz.out CO (eM.aa j) (ja.out.aa j) pW.out lY.out kP.out (km.aa j) (nA.aa j) (dN.aa j) (hk.aa j) aU.out cV.out (h0.aa j) (h1.aa j) (h2.aa j) fW cO l0 l1 pw.out (by omega) (by omega) v0 v1
theorem alz(w W:World)(gr gp gy gs gn gb:Nat)(r:gJ)(p:fB)(y:fC)(I:bf)(Ak A0 A1:Option Addr)(kc c0 c1:Nat)(fi:Bool)
  {x0 x1 x2 x5 x9 lJ lK lL lM lO mK lQ lR lT lU AR o6 qj af aj B1 Hw Hx Hy qF qG qH MN Ff Ji Dn Gs AU qI qJ qK qL qM qN qO qP qQ qR qT qU qV qW qX qY qZ rb rf rh rp rq rr ru ry rz rA rB rC rD rE rF rG rH rI rJ rK rL rM rN rO rP rQ rR rS rT rU rV rW rX rY rZ se sf sg si sq sr su sw sx sy sB sD sF sG sH sI sJ sK sL sM sN sO sP sQ sR sS sT sU sV sW sX sY sZ td th tj tq tu tA tB tC tD tE tF tG tH tI tJ tK tL tM tN tO tP tQ tR tS tT tU tV tW tX tY tZ ua ud ue uf ug uh ui uj uk um uo uq ur uu uv uw ux uy uz uA uB uC uD uE uF uG uH uI uJ uK uL uM uN uO uP uQ uR uS uT uU uV uW uX uY uZ vd ve vg vh vk vn vr vt vu vv vw vx vy vz vA vB vC vD vE vF vG vH vI vJ vK vL vM vN vO vP vQ vR vS vT vU vV vW vX vY vZ wj wk wm wu wA wB wC wD wE wF wG wH wI wJ wK wL wM wN wO wP wQ wR wS wT wU wV wW wX wY wZ xa xc xd xe xf xg xh xi xk xl xm xn xo xp xq xr xt xu xv xw xx xy xz xA xB xC xD xE xF xG xH xI xJ xK xL xM xN xO xP xQ xR xS xT xU xV xW xX xY xZ ya yb ye yf yg yh yj yn yo yq yr yt yu yv yx yz yA yB yC yD yE yF yG yH yI yJ yK yL yM yN yO yP yQ yR yS yT yU yV yX yY yZ za ze zf zg zh zi zj zk zl zn zr zu zv zw zx zy zA zB zC zD zE zF zG zH zI zJ AV AW AX AY AZ Ba Bb Bc Bd Be Bf Bg Bh Bi Bj Bk Bl Bn Bo Bp zK zL:Value}
  (ae:Below w.heap.size w W) (G:ah W gy 53 #[.int .i64 y.az,.int .i64 y.ay,.int .i64 y.aQ,.slice y.Ai y.ins.length y.ci,.slice y.At y.taken.length y.ct]) (cU:ah W gs 27 #[.int .i64 0,.int .i64 0,.int .i64 0,.int .i64 0,.int .i64 0,.int .i64 0,.slice none 0 0]) (eB:ah W gn 53 #[.int .i64 0,.int .i64 0,.int .i64 0,.slice none 0 0,.slice none 0 0]) (iy:w.heap.size<=gs) (ku:w.heap.size<=gn) (ak:gs≠gn) (py:I.first=fi) (aY:ah W gr 45 #[.slice r.Aw r.ws.length r.cw,.slice r.As r.ss.length r.cs,.int .i64 r.tm.t.method,.slice r.tm.Ab r.tm.t.aR.length r.tm.cb,.int .i64 r.tm.t.bJ,.int .i64 r.tm.t.bK,.int .i64 r.tm.t.unit,.int .i64 r.tm.t.mode,.slice r.tm.Ar r.tm.t.rows.length r.tm.cr,.int .i64 r.count,.int .i64 r.sh.fixed,.int .i64 r.sh.bO,.int .i64 r.sh.lower,.int .i64 r.sh.share,.int .i64 r.sh.top,.int .i64 r.recover]) (J:ah W gp 50 #[.int .i64 p.deps,.slice p.Ad p.ds.length p.cd,.slice p.Ao p.os.length p.co,.slice p.Ae p.es.length p.ce]) (eY:ah W gb 24 (nw I.b).toArray) (kE:I.r=r.t) (kD:I.p=p.t) (jQ:I.y=y.t) (km:r.In W) (F:p.In W) (L:y.In W) (hk:ai aN 2 W W.heap.size Ak I.kept) (Fc:I.y.az<I.r.count) (MZ:eL I.r.fZ I.e (bG I.e)=0) (aX:mJ I) (h0:ai aN 2 W W.heap.size A0 I.cD) (M:ai aN 2 W W.heap.size A1 I.cG) (l0:I.cD.length<=1000) (l1:I.cG.length<=1000):
  Code.wp prog (Hv 7 (Ja Tryz.f49)) (bodyPost prog Tryz.f49 (nY I w)) {tmps:=List.toArray (x0::x1::x2::(.slice Ak I.kept.length kc)::(.bool fi)::x5::(.pointer (some ⟨gr,0,none⟩))::(.pointer (some ⟨gp,0,none⟩))::(.pointer (some ⟨gy,0,none⟩))::x9::lJ::lK::(.pointer (some ⟨gs,0,none⟩))::(.pointer (some ⟨gn,0,none⟩))::lL::lM::(.pointer (some ⟨gb,0,none⟩))::lO::mK::lQ::(.slice A0 I.cD.length c0)::(.slice A1 I.cG.length c1)::lR::lT::lU::AR::o6::qj::af::aj::B1::Hw::Hx::Hy::qF::qG::qH::MN::Ff::Ji::Dn::Gs::AU::qI::qJ::qK::qL::qM::qN::qO::qP::qQ::qR::qT::qU::qV::qW::qX::qY::qZ::rb::rf::rh::rp::rq::rr::ru::ry::rz::rA::rB::rC::rD::rE::rF::rG::rH::rI::rJ::rK::rL::rM::rN::rO::rP::rQ::rR::rS::rT::rU::rV::rW::rX::rY::rZ::se::sf::sg::si::sq::sr::su::sw::sx::sy::sB::sD::sF::sG::sH::sI::sJ::sK::sL::sM::sN::sO::sP::sQ::sR::sS::sT::sU::sV::sW::sX::sY::sZ::td::th::tj::tq::tu::tA::tB::tC::tD::tE::tF::tG::tH::tI::tJ::tK::tL::tM::tN::tO::tP::tQ::tR::tS::tT::tU::tV::tW::tX::tY::tZ::ua::ud::ue::uf::ug::uh::ui::uj::uk::um::uo::uq::ur::uu::uv::uw::ux::uy::uz::uA::uB::uC::uD::uE::uF::uG::uH::uI::uJ::uK::uL::uM::uN::uO::uP::uQ::uR::uS::uT::uU::uV::uW::uX::uY::uZ::vd::ve::vg::vh::vk::vn::vr::vt::vu::vv::vw::vx::vy::vz::vA::vB::vC::vD::vE::vF::vG::vH::vI::vJ::vK::vL::vM::vN::vO::vP::vQ::vR::vS::vT::vU::vV::vW::vX::vY::vZ::wj::wk::wm::wu::wA::wB::wC::wD::wE::wF::wG::wH::wI::wJ::wK::wL::wM::wN::wO::wP::wQ::wR::wS::wT::wU::wV::wW::wX::wY::wZ::xa::xc::xd::xe::xf::xg::xh::xi::xk::xl::xm::xn::xo::xp::xq::xr::xt::xu::xv::xw::xx::xy::xz::xA::xB::xC::xD::xE::xF::xG::xH::xI::xJ::xK::xL::xM::xN::xO::xP::xQ::xR::xS::xT::xU::xV::xW::xX::xY::xZ::ya::yb::ye::yf::yg::yh::yj::yn::yo::yq::yr::yt::yu::yv::yx::yz::yA::yB::yC::yD::yE::yF::yG::yH::yI::yJ::yK::yL::yM::yN::yO::yP::yQ::yR::yS::yT::yU::yV::yX::yY::yZ::za::ze::zf::zg::zh::zi::zj::zk::zl::zn::zr::zu::zv::zw::zx::zy::zA::zB::zC::zD::zE::zF::zG::zH::zI::zJ::AV::AW::AX::AY::AZ::Ba::Bb::Bc::Bd::Be::Bf::Bg::Bh::Bi::Bj::Bk::Bl::Bn::Bo::Bp::zK::zL::[]),defers:=[]} W:=by
 conv=>enter [2];whnf
 have mR:=aX.ae4 MZ;have N:=MP (Ik MZ).2.2.2;have V6:-1000000000<=I.b.c:=N.2.1.1;have aT:I.b.c<=1000000000:=N.2.1.2;have t0:-1000000000<=I.b.t:=N.2.2.1.1;have t1:I.b.t<=1000000000:=N.2.2.1.2;have i0:-1000000000<=I.b.i:=N.2.2.2.1.1;have i1:I.b.i<=1000000000:=N.2.2.2.1.2;have pV:=F5 (before:=true) mR;have s0:0<=aB I.before:=pV.2.2.1;have s1:aB I.before<=max I.b.c 0:=pV.2.2.2.1;have s2:aB I.before<=1000000000:=by omega
 have al:Hid (∀x∈I.before,0<=x.amount/\x.amount<=1000000000):=fun x hx=>(pV.2.1 x hx).2;have aU:I.before.length<=16:=pV.2.2.2.2;have V7:I.p.kN=p.ds:=by rw[kD];rfl
 have V8:I.y.taken=y.taken:=by rw[jQ];rfl
 have Po:gF p.ds=true:=by rw[<-V7];exact aX.p.kN
 have Sk:fE y.taken=true:=by rw[<-V8];exact aX.y.taken
 have pG:Hid (∀D,Below W.heap.size W D->Calls prog 89 #[.slice p.Ad p.ds.length p.cd,.bool true,.int .i64 I.base,.int .i64 (max I.b.c 0),.slice y.At y.taken.length y.ct] D (EPost I.before 0 D)):=fun D hb=>by have:=aeY p.Ad y.At p.cd y.ct p.ds y.taken true I.base (max I.b.c 0) D (F.ds.aa hb) (Ma Po).2 (by have:=(Ma Po).1;omega) (L.taken.aa hb) (qB Sk).2 (by have:=(qB Sk).1;omega);rw[<-V7,<-V8,mR]at this;rw[<-V7,<-V8];exact this
 have U:Hid (I.base=max I.b.c 0):=rfl;have pw:Hid (I.aO=max I.b.i 0):=rfl;have V9:Hid (I.b.c-aB I.before=I.Ij):=rfl;have O:ah W gb 24 #[.int .i64 I.b.g,.int .i64 I.b.c,.int .i64 I.b.t,.int .i64 I.b.i,.int .i64 I.b.a]:=eY;have jF:Hid (Sb I):=⟨Fc,MZ,mR⟩
 have V:=atM aX;have pW:=atM kE;have Q:=atM kD;have X:=atM jQ;have ja:=atM eY;have mz:=atM py;clear aX kE kD jQ eY py N pV mR Fc MZ V7 V8 Po Sk s1;obtain⟨v0,v1,v2,v3,v4⟩:=O.cz5
 -- left,base
 refine ei fun K u=>?_
 go_cut [25,26]from 104 to 108 (fun am an E=>am=.int .i64 I.b.c/\an=.int .i64 I.base/\Below W.heap.size W E)
 case first=>
  as_aux_lemma=>
   clear u h0 M hk L F G J cU eB ae pG jF V pW Q X ja mz O km aY;by_cases hc:0<=I.b.c
   ·have R:Hid (I.base=I.b.c):=(by rw[Hid,U.out];omega);clear U;go_quiet(fail);go_wp2_with fail;go_meet;exact⟨rfl,by rw[R.out],below_drewN (atS _ _) _⟩
   ·have R:Hid (I.base=0):=(by rw[Hid,U.out];omega);clear U;go_quiet(fail);go_wp2_with fail;go_meet;exact⟨rfl,by rw[R.out],below_drewN (atS _ _) _⟩
 obtain⟨rfl,rfl,z⟩:=hcut
 rename World=>W1
 refine u.out _ _ ?_;clear u K v0 v1 v2 v3 v4
 -- before,f:=aS(..)
 have nC:=J.aa z;have BB:=G.aa z;obtain⟨p0,p1,p2,p3⟩:=nC.cz4;obtain⟨y0,y1,y2,y3,y4⟩:=BB.cz5;refine ei fun K u=>?_
 go_cut [17,27]from 109 to 119 (fun ao ap E=>∃S Y,ao=.int .i64 0/\ap=.slice S I.before.length Y/\ai aN 2 E E.heap.size S I.before/\Below W.heap.size W E)
 case first=>
  as_aux_lemma=>
   have B9:=atM (pG.out W1 z);clear u h0 M hk L F G J cU eB ae pG jF V pW Q X ja mz O km aY nC BB;by_cases hc:0<=I.b.c
   ·have e:max I.b.c 0=I.b.c:=(by omega);rw[e]at B9;clear e U;go_wp2_with fail;refine atV B9.out ?_;rintro e w3 ⟨A6,c6,rfl,cK,av,aC,B⟩;go_wp2_with fail;go_meet;exact⟨A6,c6,rfl,rfl,cK,aA z B⟩
   ·have e:max I.b.c 0=0:=(by omega);rw[e]at B9;clear e U;go_wp2_with fail;refine atV B9.out ?_;rintro e w3 ⟨A6,c6,rfl,cK,av,aC,B⟩;go_wp2_with fail;go_meet;exact⟨A6,c6,rfl,rfl,cK,aA z B⟩
 obtain⟨S,Y,rfl,rfl,cu,ab⟩:=hcut
 rename World=>Z
 refine u.out _ _ ?_;clear u K z nC BB p0 p1 p2 p3 y0 y1 y2 y3 y4 pG
 -- no aD
 refine ei fun K u=>?_;go_wp2_with fail;refine u.out _ _ ?_;clear u K
 -- left-=Sum(before)
 have T:Hid (∀D,Below Z.heap.size Z D->Calls prog 90 #[.slice S I.before.length Y] D fun e w'=>e=.returned (.int .i64 (aB I.before))/\D=w'):=fun D hb=>aaq S Y I.before D _ (cu.aa hb) (by omega) (fun x hx=>by have:=al.out x hx;omega);refine ei fun K u=>?_;go_wp2_with fail;refine atV (T.out _ (atS _ _)) ?_;rintro e w' ⟨rfl,rfl⟩;go_wp2_with fail;refine u.out _ _ ?_;clear u K;rw[V9.out]
 -- ay
 have iM:=O.aa ab;obtain⟨v0,v1,v2,v3,v4⟩:=iM.cz5;refine ei fun K u=>?_
 go_cut [28]from 129 to 133 (fun aE E=>aE=.int .i64 (I.b.t-aB I.before)/\Below Z.heap.size Z E)
 case first=>
  as_aux_lemma=>
   clear u h0 M hk L F G J cU eB ae jF V pW Q X ja mz O km aY cu iM;have aJ:Hid (∀n,Calls prog 90 #[.slice S I.before.length Y] (Z.drewN n) fun e w'=>e=.returned (.int .i64 (aB I.before))/\w'=Z.drewN n):=fun n=>(T.out _ (below_drewN (atS _ _) n)).mono fun e w' ⟨M,h2⟩=>⟨M,h2.symm⟩
   go_quiet((go_at_call 90;exact Calls.quiet_of_same (aJ.out _)));go_wp2_with fail;go_meet;exact⟨rfl,below_drewN (atS _ _) _⟩
 obtain⟨rfl,B⟩:=hcut
 rename World=>W3
 refine u.out _ _ ?_;clear u K v0 v1 v2 v3 v4 T;have Sw:Below W.heap.size W W3:=aA ab B;have eI:=O.aa Sw;obtain⟨v0,v1,v2,v3,v4⟩:=eI.cz5
 -- aO
 refine ei fun K u=>?_
 go_cut [29]from 134 to 136 (fun aM E=>aM=.int .i64 I.aO/\E=W3)
 case first=>
  as_aux_lemma=>
   clear u h0 M hk L F G J cU eB ae jF V pW Q X ja mz O km aY cu iM eI;by_cases hc:0<=I.b.i
   ·have R:Hid (I.aO=I.b.i):=(by rw[Hid,pw.out];omega);clear pw;go_wp2_with fail;go_meet;exact⟨by rw[R.out],rfl⟩
   ·have R:Hid (I.aO=0):=(by rw[Hid,pw.out];omega);clear pw;go_wp2_with fail;go_meet;exact⟨by rw[R.out],rfl⟩
 obtain⟨rfl,rfl⟩:=hcut;refine u.out _ _ ?_;clear u K v0 v1 v2 v3 v4 iM eI
 -- all aZ
 have Jo:=J.aa Sw;have Jp:=G.aa Sw;have p3:=Jo.cell 3;have y3:=Jp.cell 3;simp only[aq,ar,au]at p3 y3;have lp:=Jo.lt;have ly:=Jp.lt;have Gt:=Own.lit (base:=wc.heap.size) KT wc [⟨y.Ai,y.ci,y.ins,I.aO⟩] #[.slice y.Ai y.ins.length y.ci,.int .i64 I.aO] 137 rfl (by simp) (atN _);have ad:=F.es.aa (aA Sw (bC wc (.cells #[.slice y.Ai y.ins.length y.ci,.int .i64 I.aO] 137)));have a0:p.es.length<=7:=by have:=V.out.p.Py;rw[Q.out]at this;simpa[fB.t]using this
 simp only[at4,aug]at Gt;refine ei fun K u=>?_;go_wp2_with(at_builtin;(refine Jc (ys:=p.es) _ _ 48 _ 32 _ aay underlying48 Gt ad KT (by omega) rfl aaz (by simp;omega) (by omega) (by rw[at2];omega) (by rfl) (by rfl) (by rfl) (by rfl) (by simp) ?_);intro v9 w9 ed Pj);refine u.out _ _ ?_;clear u K p3 y3 lp ly Jo Jp;have fF:Below wc.heap.size wc w9:=(bC wc _).trans (ib Pj (by rw[at2];omega) (fun q hq=>(Gt.bR hq).1));have j:Below W.heap.size W w9:=aA Sw fF;obtain⟨A9,c9,rfl,cP,_,_⟩:=ed.form KT;clear Pj Gt ad ed
 -- own,aV,bj
 refine ei fun K u=>?_;go_wp2_with fail;refine u.out _ _ ?_;clear u K;refine ei fun K u=>?_;go_wp2_with fail;refine u.out _ _ ?_;clear u K;have Sr:([⟨y.Ai,y.ci,y.ins,I.aO⟩]++p.es:List cI).map cI.v=I.eF:=by rw[bf.eF,X.out,Q.out];rfl
 have jh:∀e∈([⟨y.Ai,y.ci,y.ins,I.aO⟩]++p.es:List cI),ai encI 1 w9 w9.heap.size e.A e.l:=fun e he=>by
  rcases aul.1 he with h|h
  ·simp at h;subst h;exact L.ins.aa j
  ·exact(F.ins e h).aa j
 exact alr w w9 gr gp gy gs gn gb r p y I Ak A0 A1 S A9 kc c0 c1 Y c9 _ fi (aA ae j) (G.aa j) (cU.aa j) (eB.aa j) iy ku ak mz.out (aY.aa j) (J.aa j) (ja.out.aa j) pW.out Q.out X.out (km.aa j) (F.aa j) (L.aa j) (hk.aa j) cP jh Sr jF.out V.out (h0.aa j) (M.aa j) ((cu.aa B).aa fF) l0 l1
theorem alB(w W:World)(O gp gy gs gn gb:Nat)(r:gJ)(p:fB)(y:fC)(I:bf)(Ak A8:Option Addr)(kc c8:Nat)(fi:Bool)
  {x0 x1 x2 x5 x9 lJ lK lL lM lO lQ lR lT lU AR o6 qj al am B1 Hw Hx Hy qF qG qH MN Ff Ji Dn Gs AU qI qJ qK qL qM qN qO qP qQ qR qT qU qV qW qX qY qZ rb rf rh rp rq rr ru ry rz rA rB rC rD rE rF rG rH rI rJ rK rL rM rN rO rP rQ rR rS rT rU rV rW rX rY rZ se sf sg si sq sr su sw sx sy sB sD sF sG sH sI sJ sK sL sM sN sO sP sQ sR sS sT sU sV sW sX sY sZ td th tj tq tu tA tB tC tD tE tF tG tH tI tJ tK tL tM tN tO tP tQ tR tS tT tU tV tW tX tY tZ ua ud ue uf ug uh ui uj uk um uo uq ur uu uv uw ux uy uz uA uB uC uD uE uF uG uH uI uJ uK uL uM uN uO uP uQ uR uS uT uU uV uW uX uY uZ vd ve vg vh vk vn vr vt vu vv vw vx vy vz vA vB vC vD vE vF vG vH vI vJ vK vL vM vN vO vP vQ vR vS vT vU vV vW vX vY vZ wj wk wm wu wA wB wC wD wE wF wG wH wI wJ wK wL wM wN wO wP wQ wR wS wT wU wV wW wX wY wZ xa xc xd xe xf xg xh xi xk xl xm xn xo xp xq xr xt xu xv xw xx xy xz xA xB xC xD xE xF xG xH xI xJ xK xL xM xN xO xP xQ xR xS xT xU xV xW xX xY xZ ya yb ye yf yg yh yj yn yo yq yr yt yu yv yx yz yA yB yC yD yE yF yG yH yI yJ yK yL yM yN yO yP yQ yR yS yT yU yV yX yY yZ za ze zf zg zh zi zj zk zl zn zr zu zv zw zx zy zA zB zC zD zE zF zG zH zI zJ AV AW AX AY AZ Ba Bb Bc Bd Be Bf Bg Bh Bi Bj Bk Bl Bn Bo Bp zK zL:Value}
  (ae:Below w.heap.size w W) (bV:ah W gy 53 #[.int .i64 y.az,.int .i64 y.ay,.int .i64 y.aQ,.slice y.Ai y.ins.length y.ci,.slice y.At y.taken.length y.ct]) (cU:ah W gs 27 #[.int .i64 0,.int .i64 0,.int .i64 0,.int .i64 0,.int .i64 0,.int .i64 0,.slice none 0 0]) (eB:ah W gn 53 #[.int .i64 0,.int .i64 0,.int .i64 0,.slice none 0 0,.slice none 0 0]) (iy:w.heap.size<=gs) (ku:w.heap.size<=gn) (an:gs≠gn) (py:I.first=fi) (aY:ah W O 45 #[.slice r.Aw r.ws.length r.cw,.slice r.As r.ss.length r.cs,.int .i64 r.tm.t.method,.slice r.tm.Ab r.tm.t.aR.length r.tm.cb,.int .i64 r.tm.t.bJ,.int .i64 r.tm.t.bK,.int .i64 r.tm.t.unit,.int .i64 r.tm.t.mode,.slice r.tm.Ar r.tm.t.rows.length r.tm.cr,.int .i64 r.count,.int .i64 r.sh.fixed,.int .i64 r.sh.bO,.int .i64 r.sh.lower,.int .i64 r.sh.share,.int .i64 r.sh.top,.int .i64 r.recover]) (eM:ah W gp 50 #[.int .i64 p.deps,.slice p.Ad p.ds.length p.cd,.slice p.Ao p.os.length p.co,.slice p.Ae p.es.length p.ce]) (eY:ah W gb 24 (nw I.b).toArray) (kE:I.r=r.t) (kD:I.p=p.t) (jQ:I.y=y.t) (km:r.In W) (nA:p.In W) (dN:y.In W) (hk:ai aN 2 W W.heap.size Ak I.kept) (hm:ai aN 2 W W.heap.size A8 I.merged) (Jg:I.merged.length<=1000) (Fc:I.y.az<I.r.count) (MZ:eL I.r.fZ I.e (bG I.e)=0) (aX:mJ I):
  Code.wp prog (Hv 6 (Ja Tryz.f49)) (bodyPost prog Tryz.f49 (nY I w)) {tmps:=List.toArray (x0::x1::x2::(.slice Ak I.kept.length kc)::(.bool fi)::x5::(.pointer (some ⟨O,0,none⟩))::(.pointer (some ⟨gp,0,none⟩))::(.pointer (some ⟨gy,0,none⟩))::x9::lJ::lK::(.pointer (some ⟨gs,0,none⟩))::(.pointer (some ⟨gn,0,none⟩))::lL::lM::(.pointer (some ⟨gb,0,none⟩))::lO::(.slice A8 I.merged.length c8)::lQ::(.slice none 0 0)::(.slice none 0 0)::lR::lT::lU::AR::o6::qj::al::am::B1::Hw::Hx::Hy::qF::qG::qH::MN::Ff::Ji::Dn::Gs::AU::qI::qJ::qK::qL::qM::qN::qO::qP::qQ::qR::qT::qU::qV::qW::qX::qY::qZ::rb::rf::rh::rp::rq::rr::ru::ry::rz::rA::rB::rC::rD::rE::rF::rG::rH::rI::rJ::rK::rL::rM::rN::rO::rP::rQ::rR::rS::rT::rU::rV::rW::rX::rY::rZ::se::sf::sg::si::sq::sr::su::sw::sx::sy::sB::sD::sF::sG::sH::sI::sJ::sK::sL::sM::sN::sO::sP::sQ::sR::sS::sT::sU::sV::sW::sX::sY::sZ::td::th::tj::tq::tu::tA::tB::tC::tD::tE::tF::tG::tH::tI::tJ::tK::tL::tM::tN::tO::tP::tQ::tR::tS::tT::tU::tV::tW::tX::tY::tZ::ua::ud::ue::uf::ug::uh::ui::uj::uk::um::uo::uq::ur::uu::uv::uw::ux::uy::uz::uA::uB::uC::uD::uE::uF::uG::uH::uI::uJ::uK::uL::uM::uN::uO::uP::uQ::uR::uS::uT::uU::uV::uW::uX::uY::uZ::vd::ve::vg::vh::vk::vn::vr::vt::vu::vv::vw::vx::vy::vz::vA::vB::vC::vD::vE::vF::vG::vH::vI::vJ::vK::vL::vM::vN::vO::vP::vQ::vR::vS::vT::vU::vV::vW::vX::vY::vZ::wj::wk::wm::wu::wA::wB::wC::wD::wE::wF::wG::wH::wI::wJ::wK::wL::wM::wN::wO::wP::wQ::wR::wS::wT::wU::wV::wW::wX::wY::wZ::xa::xc::xd::xe::xf::xg::xh::xi::xk::xl::xm::xn::xo::xp::xq::xr::xt::xu::xv::xw::xx::xy::xz::xA::xB::xC::xD::xE::xF::xG::xH::xI::xJ::xK::xL::xM::xN::xO::xP::xQ::xR::xS::xT::xU::xV::xW::xX::xY::xZ::ya::yb::ye::yf::yg::yh::yj::yn::yo::yq::yr::yt::yu::yv::yx::yz::yA::yB::yC::yD::yE::yF::yG::yH::yI::yJ::yK::yL::yM::yN::yO::yP::yQ::yR::yS::yT::yU::yV::yX::yY::yZ::za::ze::zf::zg::zh::zi::zj::zk::zl::zn::zr::zu::zv::zw::zx::zy::zA::zB::zC::zD::zE::zF::zG::zH::zI::zJ::AV::AW::AX::AY::AZ::Ba::Bb::Bc::Bd::Be::Bf::Bg::Bh::Bi::Bj::Bk::Bl::Bn::Bo::Bp::zK::zL::[]),defers:=[]} W:=by
 conv=>enter [2];whnf
 have px:I.r.fZ=r.ws:=by rw[kE];rfl
 have Jq:k9 r.ws=true:=by rw[<-px];exact aX.r.fZ
 have lG:=(KU Jq).1;have Wa:Hid (∀(c:ByteArray) (j:dr),(iA r.ws c).getD nD=j->∃bo,∀Z,Below W.heap.size W Z->Calls prog 80 #[.slice r.Aw r.ws.length r.cw,.string c] Z fun e w'=>e=.returned (.tuple #[.agg #[.string j.code,.int .i64 j.kind,.bool j.jS,.bool j.aO,.bool j.gU,.int .i64 j.eQ],.bool bo])/\Below Z.heap.size Z w'):=fun c j KJ=>⟨(iA r.ws c).isSome,fun Z hb=>by have:=ae6 r.Aw r.cw r.ws c Z (km.ws.aa hb) (by omega);unfold Dy at this;rw[KJ]at this;exact this⟩
 have Q:Hid (∀x:Elem,iB r.ws x=decide (((iA r.ws x.code).getD nD).kind=1)):=fun x=>rfl;have Dz:=atM px;have kS:=atM MZ;have Sx:=atM Fc;have cV:=atM aX;have pW:=atM kE;have lY:=atM kD;have kP:=atM jQ;have ja:=atM eY;have mz:=atM py;have Pw:=aY.lt;have R:=aY.cell 0;simp only[aq,ar]at R;have ao:=atM R;clear aX kE kD jQ eY py MZ Fc px Jq lG R;refine ei fun K HK=>?_;go_wp2_with fail
 go_loopw [20,21,22] (fun ov mv iv wr=>∃k:Nat,k<=I.merged.length/\iv=.int .i64 k/\Own aN 2 69 wr W.heap.size ov ((I.merged.take k).filter (iB r.ws))/\Own aN 2 69 wr W.heap.size mv ((I.merged.take k).filter (fun x=>!iB r.ws x))/\Hid (Il ov mv)/\Below W.heap.size W wr) (fun _ _ i _=>I.merged.length-(intOf i).toNat)
 case atStart=>exact⟨0,by omega,rfl,Own.cC _ _,Own.cC _ _,(fun q z=>by cases z),atS _ _⟩
 case round=>
  obtain⟨k,Ga,rfl,hO,hM,BA,l⟩:=hrel;have Sy:=l.size;by_cases E:k<I.merged.length
  ·obtain⟨mb,mo,rfl,Mf,hc⟩:=(hm.below l).at_ E;have e0:=hc 0 _ rfl;have e1:=hc 1 _ rfl;simp only[atQ]at e0;have fL:(k:Int)<(I.merged.length:Int):=(by omega);have S:mb<wr.heap.size:=(by omega);clear hc;obtain⟨j,KJ⟩:∃j,(iA r.ws I.merged[k].code).getD nD=j:=⟨_,rfl⟩
   obtain⟨bo,ab⟩:=Wa.out I.merged[k].code j KJ;have ad:=atM ab;have D:=Q.out I.merged[k];rw[KJ]at D;clear KJ ab;have z0:=(l.cell (p:=⟨O,0,none⟩) Pw).trans ao.out;have ap:O<wr.heap.size:=(by omega);go_upto_region 12 with fail
   go_cut [23,24]from 76 to 86 (fun av aT wx=>∃g,av=.pointer (some ⟨g,0,none⟩)/\wx.cell? ⟨g,1,none⟩=some (.int .i64 j.kind)/\g<wx.heap.size/\Below wr.heap.size wr wx)
   case first=>
    as_aux_lemma=>
     clear HK hO hM BA hk dN nA bV eM cU eB ae Sx kS cV pW lY kP ja mz Dz Q D Wa aY hm;have aC:=atM z0;have lC:=atM e0;clear z0 e0 e1;refine M3.iN (C:=fun w'=>Below wr.heap.size wr w') (jk _ _ (atN _)) (atS _ _) (aE:=?aE) [0,1,2,3,4,5,6,7,8,9,10] 3 (by kernel_rfl) (by kernel_rfl) rfl (by kernel_rfl) (by kernel_rfl) (by rfl) ?H ?M
     case H=>
      intro F hF aS;simp only[M3.cL,atY,at0,at1];have q0:∀p:aP (fun w'=>Below wr.heap.size wr w') F,p.w'.cell? ⟨O,0,none⟩=some (.slice r.Aw r.ws.length r.cw):=fun p=>(p.h.cell (p:=⟨O,0,none⟩) ap).trans aC.out;have q1:∀p:aP (fun w'=>Below wr.heap.size wr w') F,p.w'.cell? ⟨mb,mo+k*2,none⟩=some (.string I.merged[k].code):=fun p=>(p.h.cell (p:=⟨mb,mo+k*2,none⟩) S).trans lC.out
      repeat(first|go_big_quiet_step((exact aP.call (jk _ _ (atN _)) hF _ (ad.out _ (aA l (aP.h _))))))
      refine wpQuiet_nil ?_;rfl
     case M=>
      intro Q0 bS;refine M3.bQ [11] (by kernel_rfl) (by simp) ?_;intro w1 ba l i hi;simp only[bY,bZ,atU]at hi;subst hi;have L:=ba.alloc ba.size (.cells #[.string ⟨#[]⟩,.int .i64 0,.bool false,.bool false,.bool false,.int .i64 0] 77);refine M3.bH (.pointer (some ⟨w1.heap.size,0,none⟩)) (w1.alloc (.cells #[.string ⟨#[]⟩,.int .i64 0,.bool false,.bool false,.bool false,.int .i64 0] 77)) rfl rfl (by go_simp) ⟨L,?_⟩;simp only[Act.put,aF,aG,aH,aI,aK,aL];have zM:=ah.new w1 77 #[.string ⟨#[]⟩,.int .i64 0,.bool false,.bool false,.bool false,.int .i64 0];have KA:=ba.size;generalize w1.alloc (.cells #[.string ⟨#[]⟩,.int .i64 0,.bool false,.bool false,.bool false,.int .i64 0] 77)=w2 at L zM|-;have gL:=L;clear L;obtain⟨u,nE⟩:∃g,g=w1.heap.size:=⟨_,rfl⟩
      rw[<-nE]at zM KA|-;clear nE;refine M3.bQ [12] (by kernel_rfl) (by simp) ?_;intro w3 bW B i hi;simp only[bY,bZ,atU]at hi;have gC:=zM.aa B;clear zM;subst hi;obtain⟨z0,z1,z2,z3,z4,z5⟩:=gC.cz6;obtain⟨f0,f1,f2,f3,f4,f5⟩:=gC.fz6;have lN:=gC.lt;have hg:World.grownBy w3 ((((((w3.setCell ⟨u,0,none⟩ (.string j.code)).setCell ⟨u,1,none⟩ (.int .i64 j.kind)).setCell ⟨u,2,none⟩ (.bool j.jS)).setCell ⟨u,3,none⟩ (.bool j.aO)).setCell ⟨u,4,none⟩ (.bool j.gU)).setCell ⟨u,5,none⟩ (.int .i64 j.eQ)) (some u):=(bg (p:=⟨u,5,none⟩) (bg (p:=⟨u,4,none⟩) (bg (p:=⟨u,3,none⟩) (bg (p:=⟨u,2,none⟩) (bg (p:=⟨u,1,none⟩) (bg (p:=⟨u,0,none⟩) (dX w3 (some u)) (.inl rfl) (.string j.code)) (.inl rfl) (.int .i64 j.kind)) (.inl rfl) (.bool j.jS)) (.inl rfl) (.bool j.aO)) (.inl rfl) (.bool j.gU)) (.inl rfl) (.int .i64 j.eQ))
      have L:=bW.trans (ib hg bW.size (fun q z=>by injection z;omega));refine M3.fw ((((((w3.setCell ⟨u,0,none⟩ (.string j.code)).setCell ⟨u,1,none⟩ (.int .i64 j.kind)).setCell ⟨u,2,none⟩ (.bool j.jS)).setCell ⟨u,3,none⟩ (.bool j.aO)).setCell ⟨u,4,none⟩ (.bool j.gU)).setCell ⟨u,5,none⟩ (.int .i64 j.eQ)) rfl rfl (by go_simp) ⟨L,?_⟩;simp only[Act.put,aF,aG,aH];have BX:=gC.fill [.string j.code,.int .i64 j.kind,.bool j.jS,.bool j.aO,.bool j.gU,.int .i64 j.eQ] rfl;simp only[ir,atX,Nat.reduceAdd]at BX;clear z0 z1 z2 z3 z4 z5 f0 f1 f2 f3 f4 f5 lN hg;generalize ((((((w3.setCell ⟨u,0,none⟩ (.string j.code)).setCell ⟨u,1,none⟩ (.int .i64 j.kind)).setCell ⟨u,2,none⟩ (.bool j.jS)).setCell ⟨u,3,none⟩ (.bool j.aO)).setCell ⟨u,4,none⟩ (.bool j.gU)).setCell ⟨u,5,none⟩ (.int .i64 j.eQ))=w4 at BX L|-;have kJ:=L;clear L gC;refine M3.bQ [13] (by kernel_rfl) (by simp) ?_;intro G bD aM i hi;simp only[bY,bZ,atU]at hi;have af:=BX.aa aM;clear BX;subst hi;refine M3.bH (.bool bo) G rfl rfl rfl ⟨bD,?_⟩;simp only[Act.put,aF,aG,aH,aI,aK,aL];refine M3.kI (by kernel_rfl) ?_;intro w6 fM bu;refine bS _ _ ?_;have T:=af.aa bu;have U:=T.cell 1;simp only[aq,ar,au]at U;have N:∃g,Value.pointer (some ⟨u,0,none⟩)=.pointer (some ⟨g,0,none⟩)/\World.cell? w6 ⟨g,1,none⟩=some (.int .i64 j.kind)/\g<w6.heap.size/\Below wr.heap.size wr w6:=⟨u,rfl,U,T.lt,fM⟩
      have jm:=atM N;clear N T U af;go_wp2_with fail;go_meet;exact jm.out
   obtain⟨g,rfl,aU,kM,B⟩:=hcut
   rename World=>w4
   have pg:=hO.aa B;have Wb:=hM.aa B;have J:Below W.heap.size W w4:=aA l B;have aV:=J.size;have c0:=(B.cell (p:=⟨mb,mo+k*2,none⟩) S).trans e0;have c1:=(B.cell (p:=⟨mb,mo+k*2+1,none⟩) S).trans e1;have a0:mb<w4.heap.size:=(by have:=B.size;omega);clear hO hM e0 e1 z0 l B ad Wa Sy;by_cases j0:j.kind=1
   ·have aD:(j.kind==1)=true:=(by simp[j0]);rw[j0]at D;simp only[decide_true]at D;clear j0;have Hu:((I.merged.take (k+1)).filter (iB r.ws))=(I.merged.take k).filter (iB r.ws)++[I.merged[k]]:=by
     rw[aud E,auE];simp[D]
    have Fe:((I.merged.take (k+1)).filter (fun x=>!iB r.ws x))=(I.merged.take k).filter (fun x=>!iB r.ws x):=by rw[aud E,auE];simp[D]
    have KV:=atM Hu;have V:=atM Fe;clear Hu Fe D;have B4:=auk (iB r.ws) (I.merged.take k);have aJ:(I.merged.take k).length<=k:=(by simp;omega);go_wp2_with(at_builtin;(refine OL _ _ 51 I.merged[k] _ 24 _ nQ underlying51 pg dG (by omega) rfl (mF _) (by omega) (by omega) (by omega) (by rfl) (by rfl) (by rfl) (by rfl) (by simp) (by rfl) ?_);intro X G iw aZ ig);have aM:Below W.heap.size W G:=J.trans (ib aZ J.size (fun q z=>(pg.bR z).1));have M0:=Wb.Mx aZ (fun q z e=>BA.out q e z);have Ey:Il X u21:=by
     intro q z Y;rcases ig with e|e
     ·rw[e]at z;exact BA.out q z Y
     ·rw[e]at z;injection z with e2
      have:=(Wb.bR Y).2;omega
    go_roundw
    case rel=>
     have N:∃k':Nat,k'<=I.merged.length/\Value.int .i64 ((k:Int)+1)=.int .i64 k'/\Own aN 2 69 G W.heap.size X ((I.merged.take k').filter (iB r.ws))/\Own aN 2 69 G W.heap.size u21 ((I.merged.take k').filter (fun x=>!iB r.ws x))/\Hid (Il X u21)/\Below W.heap.size W G:=⟨k+1,by omega,by go_num,by rw[KV.out];exact iw,by rw[V.out];exact M0,Ey,aM⟩
     first|exact N|((repeat apply Exists.intro);exact⟨N,rfl⟩)
    case measure=>simp[intOf];omega
   ·have aD:(j.kind==1)=false:=(by rw[auj];exact j0);have ak:iB r.ws I.merged[k]=false:=(by rw[D];simp[j0]);clear D;have D:=ak;clear ak j0;have Hu:((I.merged.take (k+1)).filter (iB r.ws))=(I.merged.take k).filter (iB r.ws):=by
     rw[aud E,auE];simp[D]
    have Fe:((I.merged.take (k+1)).filter (fun x=>!iB r.ws x))=(I.merged.take k).filter (fun x=>!iB r.ws x)++[I.merged[k]]:=by rw[aud E,auE];simp[D]
    have KV:=atM Hu;have V:=atM Fe;clear Hu Fe D;have B4:=auk ((fun x=>!iB r.ws x)) (I.merged.take k);have aJ:(I.merged.take k).length<=k:=(by simp;omega);go_wp2_with(at_builtin;(refine OL _ _ 51 I.merged[k] _ 24 _ nQ underlying51 Wb dG (by omega) rfl (mF _) (by omega) (by omega) (by omega) (by rfl) (by rfl) (by rfl) (by rfl) (by simp) (by rfl) ?_);intro X G iw aZ ig);have aM:Below W.heap.size W G:=J.trans (ib aZ J.size (fun q z=>(Wb.bR z).1));have M0:=pg.Mx aZ (fun q z e=>BA.out q z e);have Ey:Il u20 X:=by
     intro q z Y;rcases ig with e|e
     ·rw[e]at Y;exact BA.out q z Y
     ·rw[e]at Y;injection Y with e2
      have:=(pg.bR z).2;omega
    go_roundw
    case rel=>
     have N:∃k':Nat,k'<=I.merged.length/\Value.int .i64 ((k:Int)+1)=.int .i64 k'/\Own aN 2 69 G W.heap.size u20 ((I.merged.take k').filter (iB r.ws))/\Own aN 2 69 G W.heap.size X ((I.merged.take k').filter (fun x=>!iB r.ws x))/\Hid (Il u20 X)/\Below W.heap.size W G:=⟨k+1,by omega,by go_num,by rw[KV.out];exact M0,by rw[V.out];exact iw,Ey,aM⟩
     first|exact N|((repeat apply Exists.intro);exact⟨N,rfl⟩)
    case measure=>simp[intOf];omega
  ·obtain rfl:k=I.merged.length:=by omega
   rw[auv]at hO hM;have Su:Own aN 2 69 wr W.heap.size u20 I.cD:=(by rw[bf.cD,Dz.out];exact hO);have Sv:Own aN 2 69 wr W.heap.size u21 I.cG:=(by rw[bf.cG,Dz.out];exact hM);obtain⟨A0,c0,rfl,fW,_,_⟩:=Su.form dG;obtain⟨A1,c1,rfl,cO,_,_⟩:=Sv.form dG;have l0:I.cD.length<=1000:=at7 (auk _ _) Jg;have l1:I.cG.length<=1000:=at7 (auk _ _) Jg;clear hO hM Su Sv BA Wa Q;go_wp2_with fail;refine HK.out _ _ ?_;exact alz w wr O gp gy gs gn gb r p y I Ak A0 A1 kc c0 c1 fi (aA ae l) (bV.aa l) (cU.aa l) (eB.aa l) iy ku an mz.out (aY.aa l) (eM.aa l) (ja.out.aa l) pW.out lY.out kP.out (km.aa l) (nA.aa l) (dN.aa l) (hk.aa l) Sx.out kS.out cV.out fW cO l0 l1
theorem alE(n:Int):n=0\/n≠0:=by omega
theorem alF{l:List Elem}(h:ey l=0):(bG l).length<=128:=by
 have e:l.length<=128:=by
  unfold ey at h;by_cases j:128<l.length
  ·rw[atP j]at h;cases h
  ·omega
 exact at7 (Wc l) e
theorem alG{I:bf}(h:I.r.count<=I.y.az):I.err=3:=by unfold bf.err;rw[atP h]
theorem alH{I:bf}(h:I.y.az<I.r.count){n:Int}(j:eL I.r.fZ I.e (bG I.e)=n)(l:n≠0):I.err=n:=by unfold bf.err;rw[atO (by omega),j,atP l]
theorem alI(r:gJ)(p:fB)(y:fC)(Ak E:Option Addr)(kc ec:Nat)(kept e:List Elem)(first:Bool)(w:World)(hr:r.In w)(hp:p.In w)(hy:y.In w)(hk:ai aN 2 w w.heap.size Ak kept)(he:ai aN 2 w w.heap.size E e)(iP:e.length<=1000000)(L:mJ (Dj r p y kept first e)):
  Calls prog 49 #[r.val,p.val,y.val,.slice Ak kept.length kc,.bool first,.slice E e.length ec] w (nY (Dj r p y kept first e) w):=by
 obtain⟨I,Y⟩:∃I,I=Dj r p y kept first e:=⟨_,rfl⟩
 rw[<-Y]at L|-;have kE:I.r=r.t:=by rw[Y];rfl
 have kD:I.p=p.t:=by rw[Y];rfl
 have jQ:I.y=y.t:=by rw[Y];rfl
 have af:I.kept=kept:=by rw[Y];rfl
 have aj:I.e=e:=by rw[Y];rfl
 have py:I.first=first:=by rw[Y];rfl
 clear Y;subst af aj;have mS:=L.r;rw[kE]at mS;have Na:=L.p;rw[kD]at Na;have my:=L.y;rw[jQ]at my;have Sz:∀x∈p.es,(x.l.length:Int)=y.az:=fun x hx=>by have:=L.same x.v (by rw[kD];exact aue.2 ⟨x,hx,rfl⟩);rw[jQ]at this;exact this
 have Im:Hid (∀u,Below w.heap.size w u->Calls prog 86 #[.agg #[.slice r.Aw r.ws.length r.cw,.slice r.As r.ss.length r.cs,.int .i64 r.tm.t.method,.slice r.tm.Ab r.tm.t.aR.length r.tm.cb,.int .i64 r.tm.t.bJ,.int .i64 r.tm.t.bK,.int .i64 r.tm.t.unit,.int .i64 r.tm.t.mode,.slice r.tm.Ar r.tm.t.rows.length r.tm.cr,.int .i64 r.count,.int .i64 r.sh.fixed,.int .i64 r.sh.bO,.int .i64 r.sh.lower,.int .i64 r.sh.share,.int .i64 r.sh.top,.int .i64 r.recover],.agg #[.int .i64 p.deps,.slice p.Ad p.ds.length p.cd,.slice p.Ao p.os.length p.co,.slice p.Ae p.es.length p.ce],.agg #[.int .i64 y.az,.int .i64 y.ay,.int .i64 y.aQ,.slice y.Ai y.ins.length y.ci,.slice y.At y.taken.length y.ct],.slice Ak I.kept.length kc] u fun e w'=>e=.returned (.int .i64 (pY y.az r.count))/\Below u.heap.size u w'):=fun u S=>alJ r p y Ak kc I.kept u (hr.aa S) (hp.aa S) (hy.aa S) (hk.aa S) mS Na my L.kept Sz;have Jq:k9 r.ws=true:=mS.fZ;have kS:Hid (∀u,Below w.heap.size w u->Calls prog 87 #[.slice r.Aw r.ws.length r.cw,.slice E I.e.length ec] u fun x w'=>x=.returned (gV r.ws I.e (bG I.e))/\Below u.heap.size u w'):=fun u S=>alK r.Aw E r.cw ec r.ws I.e u (hr.ws.aa S) (KU Jq).2 (by have:=(KU Jq).1;omega) (he.aa S) L.size (by omega);have SA:Hid (∀u,Below w.heap.size w u->Calls prog 88 #[.slice E I.e.length ec] u fun x w'=>∃v,x=.returned (.tuple #[v,.int .i64 (ey I.e)])/\Own aN 2 69 w' u.heap.size v (BC I.e)/\Below u.heap.size u w'):=fun u S=>alL E ec I.e u (he.aa S) L.size (by omega);have px:I.r.fZ=r.ws:=by rw[kE];rfl
 have Fm:(I.r.count=r.count)/\I.y.az=y.az:=by rw[kE,jQ];exact⟨rfl,rfl⟩
 have cV:=atM L;have pW:=atM kE;have lY:=atM kD;have kP:=atM jQ;have mz:=atM py;have Dz:=atM px;have DA:=atM Fm;have Wd:=atM hr;have We:=atM hp;have Wf:=atM hy;have Pz:=atM hk;clear L kE kD jQ py px Fm mS Na my Sz Jq hr hp hy hk he;unfold gJ.val fB.val fC.val;go_enter func49,ntmps49;have aY:=((((ah.new w 45 #[.slice r.Aw r.ws.length r.cw,.slice r.As r.ss.length r.cs,.int .i64 r.tm.t.method,.slice r.tm.Ab r.tm.t.aR.length r.tm.cb,.int .i64 r.tm.t.bJ,.int .i64 r.tm.t.bK,.int .i64 r.tm.t.unit,.int .i64 r.tm.t.mode,.slice r.tm.Ar r.tm.t.rows.length r.tm.cr,.int .i64 r.count,.int .i64 r.sh.fixed,.int .i64 r.sh.bO,.int .i64 r.sh.lower,.int .i64 r.sh.share,.int .i64 r.sh.top,.int .i64 r.recover]).alloc (.cells #[.int .i64 p.deps,.slice p.Ad p.ds.length p.cd,.slice p.Ao p.os.length p.co,.slice p.Ae p.es.length p.ce] 50)).alloc (.cells #[.int .i64 y.az,.int .i64 y.ay,.int .i64 y.aQ,.slice y.Ai y.ins.length y.ci,.slice y.At y.taken.length y.ct] 53)).alloc (.cells #[.int .i64 0,.int .i64 0,.int .i64 0,.int .i64 0,.int .i64 0,.int .i64 0,.slice none 0 0] 27)).alloc (.cells #[.int .i64 0,.int .i64 0,.int .i64 0,.slice none 0 0,.slice none 0 0] 53);have eM:=(((ah.new (w.alloc (.cells #[.slice r.Aw r.ws.length r.cw,.slice r.As r.ss.length r.cs,.int .i64 r.tm.t.method,.slice r.tm.Ab r.tm.t.aR.length r.tm.cb,.int .i64 r.tm.t.bJ,.int .i64 r.tm.t.bK,.int .i64 r.tm.t.unit,.int .i64 r.tm.t.mode,.slice r.tm.Ar r.tm.t.rows.length r.tm.cr,.int .i64 r.count,.int .i64 r.sh.fixed,.int .i64 r.sh.bO,.int .i64 r.sh.lower,.int .i64 r.sh.share,.int .i64 r.sh.top,.int .i64 r.recover] 45)) 50 #[.int .i64 p.deps,.slice p.Ad p.ds.length p.cd,.slice p.Ao p.os.length p.co,.slice p.Ae p.es.length p.ce]).alloc (.cells #[.int .i64 y.az,.int .i64 y.ay,.int .i64 y.aQ,.slice y.Ai y.ins.length y.ci,.slice y.At y.taken.length y.ct] 53)).alloc (.cells #[.int .i64 0,.int .i64 0,.int .i64 0,.int .i64 0,.int .i64 0,.int .i64 0,.slice none 0 0] 27)).alloc (.cells #[.int .i64 0,.int .i64 0,.int .i64 0,.slice none 0 0,.slice none 0 0] 53);have bV:=((ah.new ((w.alloc (.cells #[.slice r.Aw r.ws.length r.cw,.slice r.As r.ss.length r.cs,.int .i64 r.tm.t.method,.slice r.tm.Ab r.tm.t.aR.length r.tm.cb,.int .i64 r.tm.t.bJ,.int .i64 r.tm.t.bK,.int .i64 r.tm.t.unit,.int .i64 r.tm.t.mode,.slice r.tm.Ar r.tm.t.rows.length r.tm.cr,.int .i64 r.count,.int .i64 r.sh.fixed,.int .i64 r.sh.bO,.int .i64 r.sh.lower,.int .i64 r.sh.share,.int .i64 r.sh.top,.int .i64 r.recover] 45)).alloc (.cells #[.int .i64 p.deps,.slice p.Ad p.ds.length p.cd,.slice p.Ao p.os.length p.co,.slice p.Ae p.es.length p.ce] 50)) 53 #[.int .i64 y.az,.int .i64 y.ay,.int .i64 y.aQ,.slice y.Ai y.ins.length y.ci,.slice y.At y.taken.length y.ct]).alloc (.cells #[.int .i64 0,.int .i64 0,.int .i64 0,.int .i64 0,.int .i64 0,.int .i64 0,.slice none 0 0] 27)).alloc (.cells #[.int .i64 0,.int .i64 0,.int .i64 0,.slice none 0 0,.slice none 0 0] 53);have Z:=(ah.new (((w.alloc (.cells #[.slice r.Aw r.ws.length r.cw,.slice r.As r.ss.length r.cs,.int .i64 r.tm.t.method,.slice r.tm.Ab r.tm.t.aR.length r.tm.cb,.int .i64 r.tm.t.bJ,.int .i64 r.tm.t.bK,.int .i64 r.tm.t.unit,.int .i64 r.tm.t.mode,.slice r.tm.Ar r.tm.t.rows.length r.tm.cr,.int .i64 r.count,.int .i64 r.sh.fixed,.int .i64 r.sh.bO,.int .i64 r.sh.lower,.int .i64 r.sh.share,.int .i64 r.sh.top,.int .i64 r.recover] 45)).alloc (.cells #[.int .i64 p.deps,.slice p.Ad p.ds.length p.cd,.slice p.Ao p.os.length p.co,.slice p.Ae p.es.length p.ce] 50)).alloc (.cells #[.int .i64 y.az,.int .i64 y.ay,.int .i64 y.aQ,.slice y.Ai y.ins.length y.ci,.slice y.At y.taken.length y.ct] 53)) 27 #[.int .i64 0,.int .i64 0,.int .i64 0,.int .i64 0,.int .i64 0,.int .i64 0,.slice none 0 0]).alloc (.cells #[.int .i64 0,.int .i64 0,.int .i64 0,.slice none 0 0,.slice none 0 0] 53);have eB:=ah.new ((((w.alloc (.cells #[.slice r.Aw r.ws.length r.cw,.slice r.As r.ss.length r.cs,.int .i64 r.tm.t.method,.slice r.tm.Ab r.tm.t.aR.length r.tm.cb,.int .i64 r.tm.t.bJ,.int .i64 r.tm.t.bK,.int .i64 r.tm.t.unit,.int .i64 r.tm.t.mode,.slice r.tm.Ar r.tm.t.rows.length r.tm.cr,.int .i64 r.count,.int .i64 r.sh.fixed,.int .i64 r.sh.bO,.int .i64 r.sh.lower,.int .i64 r.sh.share,.int .i64 r.sh.top,.int .i64 r.recover] 45)).alloc (.cells #[.int .i64 p.deps,.slice p.Ad p.ds.length p.cd,.slice p.Ao p.os.length p.co,.slice p.Ae p.es.length p.ce] 50)).alloc (.cells #[.int .i64 y.az,.int .i64 y.ay,.int .i64 y.aQ,.slice y.Ai y.ins.length y.ci,.slice y.At y.taken.length y.ct] 53)).alloc (.cells #[.int .i64 0,.int .i64 0,.int .i64 0,.int .i64 0,.int .i64 0,.int .i64 0,.slice none 0 0] 27)) 53 #[.int .i64 0,.int .i64 0,.int .i64 0,.slice none 0 0,.slice none 0 0];have M:=eP (eP (eP (eP (bC w (.cells #[.slice r.Aw r.ws.length r.cw,.slice r.As r.ss.length r.cs,.int .i64 r.tm.t.method,.slice r.tm.Ab r.tm.t.aR.length r.tm.cb,.int .i64 r.tm.t.bJ,.int .i64 r.tm.t.bK,.int .i64 r.tm.t.unit,.int .i64 r.tm.t.mode,.slice r.tm.Ar r.tm.t.rows.length r.tm.cr,.int .i64 r.count,.int .i64 r.sh.fixed,.int .i64 r.sh.bO,.int .i64 r.sh.lower,.int .i64 r.sh.share,.int .i64 r.sh.top,.int .i64 r.recover] 45)) (.cells #[.int .i64 p.deps,.slice p.Ad p.ds.length p.cd,.slice p.Ao p.os.length p.co,.slice p.Ae p.es.length p.ce] 50)) (.cells #[.int .i64 y.az,.int .i64 y.ay,.int .i64 y.aQ,.slice y.Ai y.ins.length y.ci,.slice y.At y.taken.length y.ct] 53)) (.cells #[.int .i64 0,.int .i64 0,.int .i64 0,.int .i64 0,.int .i64 0,.int .i64 0,.slice none 0 0] 27)) (.cells #[.int .i64 0,.int .i64 0,.int .i64 0,.slice none 0 0,.slice none 0 0] 53);simp only[at2]at eM bV Z eB;refine ei fun K j=>?_;go_wp2_with fail;refine j.out _ _ ?_;clear j K;generalize World.alloc _ (Obj.cells #[.int .i64 0,.int .i64 0,.int .i64 0,.slice none 0 0,.slice none 0 0] 53)=W at aY eM bV Z eB M|-;obtain⟨gp,BS⟩:∃g,g=w.heap.size+1:=⟨_,rfl⟩
 obtain⟨gy,DB⟩:∃g,g=w.heap.size+1+1:=⟨_,rfl⟩
 obtain⟨T,CP⟩:∃g,g=w.heap.size+1+1+1:=⟨_,rfl⟩
 obtain⟨U,CQ⟩:∃g,g=w.heap.size+1+1+1+1:=⟨_,rfl⟩
 rw[<-CQ]at eB|-;rw[<-CP]at Z|-;rw[<-DB]at bV|-;rw[<-BS]at eM|-;have iy:w.heap.size<=T:=by omega
 have ku:w.heap.size<=U:=by omega
 have F:T≠U:=by omega
 clear BS DB CP CQ
 -- check
 obtain⟨D,N,O,Q,R,r5,r6,r7,r8,r9,bX,pz,Jl,Jm,nB,Jn⟩:=aY.cz16;obtain⟨p0,p1,p2,p3⟩:=eM.cz4;obtain⟨y0,y1,y2,y3,y4⟩:=bV.cz5;by_cases h3:r.count<=y.az
 ·have G:pY y.az r.count=3:=by rw[pY,atP h3]
  have Ss:Hid (I.err=3):=alG (by rw[DA.out.1,DA.out.2];exact h3);rw[G]at Im;clear G h3;refine ei fun K j=>?_;go_wp2_with fail;refine atV (Im.out _ M) ?_;rintro e W2 ⟨rfl,z⟩;have bm:=aA M z;have cy:=Z.aa z;have dt:=eB.aa z;clear j D N O Q R r5 r6 r7 r8 r9 bX pz Jl Jm nB Jn p0 p1 p2 p3 y0 y1 y2 y3 y4 aY eM bV Z eB M z;have jG:=Br cy dt F;have J:=Bt bm iy ku W2;have iG:U≠T:=fun e=>F e.symm;obtain⟨q0,q1,q2,q3,q4,q5,q6⟩:=cy.cz7;obtain⟨D,N,O,Q,R⟩:=dt.cz5;obtain⟨j5,j6,j7,kx,ky,oJ,oK⟩:=cy.fz7;obtain⟨pJ,pK,pL,zT,zU⟩:=dt.fz5;have lq:=cy.lt;have lr:=dt.lt;go_wp2;clear q0 q1 q2 q3 q4 q5 q6 D N O Q R;change bodyPost _ _ _ _ _ (iQ W2 T U);obtain⟨B,bw⟩:=jG;generalize iQ W2 T U=WW at B bw J|-;obtain⟨q0,q1,q2,q3,q4,q5,q6⟩:=B.cz7;obtain⟨D,N,O,Q,R⟩:=bw.cz5;clear B bw;refine at5 (v:=_) (by simp[results,results49,go_sem,q0,q1,q2,q3,q4,q5,q6,D,N,O,Q,R];rfl) rfl ?_;exact nY.fail (Ss.out) (by omega) J
 have G:pY y.az r.count=0:=by rw[pY,atO h3]
 have Sx:Hid (I.y.az<I.r.count):=by rw[Hid,DA.out.1,DA.out.2];omega
 rw[G]at Im;clear G h3;refine ei fun K j=>?_;go_wp2_with fail;refine atV (Im.out _ M) ?_;rintro e W2 ⟨rfl,z⟩;clear Im D N O Q R r5 r6 r7 r8 r9 bX pz Jl Jm nB Jn p0 p1 p2 p3 y0 y1 y2 y3 y4;go_wp2_with fail;refine j.out _ _ ?_;clear j K;have bm:=aA M z;have kR:=aY.aa z;have D:=kR.cell 0;simp only[aq,ar]at D;have ad:=kR.lt
 -- ao ap
 have V:=atM (kS.out W2 bm);rw[gV]at V;rcases alE (eL r.ws I.e (bG I.e))with ho|ho;rotate_left
 ·have Ss:Hid (I.err=eL r.ws I.e (bG I.e)):=alH Sx.out (by rw[Dz.out]) ho;rw[atO ho]at V;generalize eL r.ws I.e (bG I.e)=n1 at*;have av:(n1 !=0)=true:=by simp[ho]
  have Wh:=atM ho;clear ho;refine ei fun K j=>?_;go_wp2_with fail;refine atV V.out ?_;rintro e W3 ⟨rfl,X⟩;unfold nw ez;go_wp2_with fail;refine j.out _ _ ?_;have Bv:=eP (aA z X) (.cells #[.int .i64 0,.int .i64 0,.int .i64 0,.int .i64 0,.int .i64 0] 24);have cT:=aA M Bv;have iT:=Z.aa Bv;have kQ:=eB.aa Bv;clear j K D ad kR bm V;generalize World.alloc W3 _=W4 at Bv cT iT kQ|-;refine ei fun K j=>?_;clear j aY eM bV Z eB M z X Bv;have jG:=Br iT kQ F;have J:=Bt cT iy ku W4;have iG:U≠T:=fun e=>F e.symm;obtain⟨q0,q1,q2,q3,q4,q5,q6⟩:=iT.cz7;obtain⟨D,N,O,Q,R⟩:=kQ.cz5;obtain⟨j5,j6,j7,kx,ky,oJ,oK⟩:=iT.fz7;obtain⟨pJ,pK,pL,zT,zU⟩:=kQ.fz5;have lq:=iT.lt;have lr:=kQ.lt;go_wp2;clear q0 q1 q2 q3 q4 q5 q6 D N O Q R;change bodyPost _ _ _ _ _ (iQ W4 T U);obtain⟨B,bw⟩:=jG;generalize iQ W4 T U=WW at B bw J|-;obtain⟨q0,q1,q2,q3,q4,q5,q6⟩:=B.cz7;obtain⟨D,N,O,Q,R⟩:=bw.cz5;clear B bw;refine at5 (v:=_) (by simp[results,results49,go_sem,q0,q1,q2,q3,q4,q5,q6,D,N,O,Q,R];rfl) rfl ?_;exact nY.fail (Ss.out) Wh.out J
 have PB:=(Ik ho).2.1;rw[atP ho,ho]at V;have ak:=atM ho;clear ho;have al:Hid (fN r.ws (bG I.e)=I.b):=by rw[Hid,bf.b,Dz.out]
 rw[al.out]at V;unfold nw at V;refine ei fun K j=>?_;go_wp2_with fail;refine atV V.out ?_;rintro e W3 ⟨rfl,X⟩;go_wp2_with fail;refine j.out _ _ ?_;clear j K V D ad kR kS;have eY:=ah.new W3 24 #[.int .i64 I.b.g,.int .i64 I.b.c,.int .i64 I.b.t,.int .i64 I.b.i,.int .i64 I.b.a];have ab:=eP (aA z X) (.cells #[.int .i64 I.b.g,.int .i64 I.b.c,.int .i64 I.b.t,.int .i64 I.b.i,.int .i64 I.b.a] 24);generalize World.alloc W3 _=W4 at eY ab|-;have eo:=aA M ab
 -- no am
 refine ei fun K j=>?_;go_wp2_with fail;refine j.out _ _ ?_;clear j K
 -- merged
 have Wi:=atM (SA.out W4 eo);refine ei fun K j=>?_;go_wp2_with fail;refine atV Wi.out ?_;rintro e W5 ⟨v5,rfl,dh,aM⟩;go_wp2_with fail;refine j.out _ _ ?_;clear j K Wi SA;have an:BC I.e=I.merged:=by rw[BC,atP PB];rfl
 rw[an]at dh;obtain⟨A8,c8,rfl,dg,_,_⟩:=dh.form dG;refine ei fun K j=>?_;go_wp2_with fail;refine j.out _ _ ?_;clear j K;have Jg:I.merged.length<=1000:=by have h1:I.merged.length<=(bG I.e).length:=auk _ _;have h2:=alF PB;omega
 have bu:=aA ab aM;have Er:=aA M bu;exact alB w W5 w.heap.size gp gy T U W3.heap.size r p y I Ak A8 kc c8 first Er (bV.aa bu) (Z.aa bu) (eB.aa bu) iy ku F mz.out (aY.aa bu) (eM.aa bu) (eY.aa aM) pW.out lY.out kP.out (Wd.out.aa Er) (We.out.aa Er) (Wf.out.aa Er) (Pz.out.aa Er) dg Jg Sx.out (by rw[Dz.out];exact ak.out) cV.out
