/- Conditions: as stated. -/
import Derived.Shelf.SlGeneric
import Derived.Shelf.SlSortCmp.Insertion1
import Derived.Test.YtlhkojcmcmkmaaaGreatKMix2
import Derived.Test.YtlhkojcmcmkmaaaGreatKP29b
set_option maxRecDepth 100000
set_option maxHeartbeats 8000000
namespace Go.Proofs.YtlhkojcmcmkmaaaGreat
open Go.Proofs.Tryz
open Go.RowKit Go.Sort Go.Shelf
def api:Go.Shelf.Ren:=⟨fun|20=>257|n=>n,fun|0=>0|3=>3|4=>4|22=>34|24=>3|25=>22|n=>n,fun n=>n⟩
theorem apj:Go.Proofs.SlLaysF.n20 prog api:={
 mixed:=by kernel_rfl
 f20:=⟨Tryz.f257.name,by decide,Tryz.func257.trans (congrArg some (by kernel_rfl))⟩
 t0:=underlying0
 a0:=Tryz.isAgg0
 z0:=Tryz.sizeOf0
 v0:=Tryz.zeroValue0
 t3:=underlying3
 a3:=Tryz.isAgg3
 z3:=Tryz.sizeOf3
 v3:=Tryz.zeroValue3
 t4:=underlying4
 a4:=Tryz.isAgg4
 z4:=Tryz.sizeOf4
 v4:=Tryz.zeroValue4
 t22:=underlying34
 a22:=Tryz.isAgg34
 z22:=Tryz.sizeOf34
 v22:=Tryz.zeroValue34
 a24:=Tryz.isAgg3
 z24:=Tryz.sizeOf3
 t25:=underlying22
 a25:=Tryz.isAgg22
 z25:=Tryz.sizeOf22
 v25:=Tryz.zeroValue22}
def Dl{m:Nat}(i:Fin (m+1)):Value:=.int .i64 (i.val:Int)
def Bh{m:Nat}(e:List (Fin (m+1))):List Int:=e.map fun i=>(i.val:Int)
theorem RowI.holds{m:Nat}{w:World}{g:Nat}{l:List (Fin (m+1))}(h:RowI w g (Bh l)):Holds Dl w g 0 l.toArray:=fun j n=>by
 have e:j<l.length:=by simpa using n
 have p:=h.cell (i:=j) (by simpa[Bh]using e);rw[ark];refine⟨?_,h.frozen j⟩;rw[p,arL _ j n];simp[Bh,Dl,aro e]
theorem RowI.sorted{m:Nat}{w:World}{g:Nat}{p l:List (Fin (m+1))}(h:RowI w g (Bh p))(r:l.length=p.length):RowI (putRow Dl w g 0 l.toArray) g (Bh l)/\w.grownBy (putRow Dl w g 0 l.toArray) (some g):=by
 obtain⟨c,u,y,z⟩:=h;refine⟨⟨putCells Dl 0 l.toArray c,?_,?_,fun i hi=>?_⟩,⟨rfl,rfl,rfl,by simp,fun i hi n=>?_⟩⟩
 ·show(w.heap.modify g _)[g]?=_;rw[asy,aq9 rfl,u];rfl
 ·simp only[putCells,Array.size_mapIdx,y];simp[Bh,r]
 ·have j:i<l.length:=by simpa[Bh]using hi
  have B:=z i (by simp[Bh];omega);simp only[putCells,Array.getElem?_mapIdx,B,Option.map_some];rw[aq9 ⟨Nat.zero_le _,by simpa using j⟩,Nat.sub_zero,arL _ i (by simpa using j)];simp[Bh,Dl,aro j]
 ·have C:¬g=i:=fun e=>n (by rw[e]);show(w.heap.modify g _)[i]?=_;rw[asy,aq8 C]
theorem ahi{p:Type}[Inhabited p](l:p->Value)(w:World)(j n m:Nat)(d:Array p)(os:Array Obj):w.grownBy (sortWorld l w j n m d os) (some j):=by
 refine⟨rfl,rfl,rfl,?_,fun i hi r=>?_⟩
 ·show w.heap.size<=((putRow l (Sort.ahead w m) j n d).heap++os).size;rw[Array.size_append,size_putRow];exact Nat.le_add_right _ _
 ·have u:j≠i:=fun e=>r (by rw[e]);show((putRow l (Sort.ahead w m) j n d).heap++os)[i]?=w.heap[i]?;rw[asU (by rw[size_putRow];exact hi)];show(w.heap.modify j _)[i]?=_;rw[asy,aq8 u]
theorem apk{n:Type}[Inhabited n](e:n->Value)(w:World)(j l m:Nat)(d:Array n)(os:Array Obj):Below (putRow e w j l d).heap.size (putRow e w j l d) (sortWorld e w j l m d os):=by
 refine⟨rfl,rfl,rfl,?_,fun i hi=>?_⟩
 ·show _<=((putRow e (Sort.ahead w m) j l d).heap++os).size;rw[Array.size_append];exact Nat.le_add_right _ _
 ·show((putRow e (Sort.ahead w m) j l d).heap++os)[i]?=_;rw[asU (by simpa using hi)];rfl
theorem apl{m:Nat}(r:Fin (m+1)->Fin (m+1)->Int)(f:Nat)(cb:Array Value)(g p:Nat)(j:List (Fin (m+1)))(w:World)(I:j.Pairwise (fun a b=>a.val<b.val))(hS:SWO (ltOf r))
  (P:∀args w,(callFunc f args).run prog w=.ok (.enter f args) w) (J:CmpLays1 prog f cb Dl r g 0 j.length w) (C:Holds Dl w g 0 j.toArray) (Q:g<w.heap.size) (D:j.length<20):
  Calls prog 207 #[.slice (some ⟨g,0,none⟩) j.length p,.func (.func f) #[] cb] w fun e w'=>e=.returned (.tuple #[])/\
   ∃(l:List (Fin (m+1))) (k:Nat) (os:Array Obj),l.Perm j/\l.Pairwise (fun a b=>lC (ltOf r) (·.val) a b=true)/\w'=sortWorld Dl w g 0 k l.toArray os:=by
 have B:=Any.insertionSortCmpFunc_s apj Dl r f cb g 0 p 0 j.length j.toArray j.toArray w w P (by simpa using J) ⟨fun _=>rfl,C,Q⟩ rfl ⟨0,#[],by rw[sortWorld_none];exact(putRow_self _ _ _ _ _ C).symm⟩ (Nat.zero_le _) (by simp) (by simp;omega);obtain⟨l,K,L,z⟩:=apm (lt:=ltOf r) (idx:=fun i=>i.val) hS (fun a b h=>Fin.ext h) j I;have M:insertionSort (ltOf r) j.toArray 0 j.length=l.toArray:=by rw[<-K]
 rw[M]at B;simp only[List.size_toArray]at B;have N:Hid (l.Perm j/\l.Pairwise (fun a b=>lC (ltOf r) (·.val) a b=true)):=⟨L,z⟩
 clear K L z M C J hS I;have E:Hid (Calls prog 257 #[.slice (some ⟨g,0,none⟩) j.length p,.int .i64 0,.int .i64 j.length,.func (.func f) #[] cb] w fun e w'=>e=.returned (.tuple #[])/\∃(n:Nat) (os:Array Obj),w'=sortWorld Dl w g 0 n l.toArray os):=B.mono fun _ _ ⟨R,n,os,S⟩=>⟨R,n,os,S⟩
 clear B;obtain⟨u,y⟩:∃u,u=l.toArray:=⟨_,rfl⟩
 rw[<-y]at E;obtain⟨n,O⟩:∃n,j.length=n:=⟨_,rfl⟩
 rw[O]at E D|-;have F:=aq6 y;clear O y;have G:Calls prog 230 #[.slice (some ⟨g,0,none⟩) n p,.int .i64 n,.func (.func f) #[] cb] w fun e w'=>e=.returned (.tuple #[])/\∃(k:Nat) (os:Array Obj),w'=sortWorld Dl w g 0 k u os:=by
  go_enter func230,ntmps230;have U:decide ((20:Int)<=(n:Int))=false:=by rw[ar4];omega
  have V:decide ((20:Int)<(n:Int))=false:=by rw[ar4];omega
  go_wp2;refine wp_loop_rounds 1 ?_;rw[rounds_succ];go_wp2_with fail;refine arf E.out ?_;rintro e T ⟨rfl,k,os,rfl⟩;go_wp2;refine wp_loop_rounds 1 ?_;rw[rounds_succ];go_wp2
  go_end0
  exact⟨rfl,k,os,rfl⟩
 go_enter func207,ntmps207;go_wp2_with fail;refine G.mono ?_;rintro e T ⟨rfl,k,os,rfl⟩;go_wp2
 go_end0
 exact⟨rfl,l,k,os,N.out.1,N.out.2,by rw[F.out]⟩
theorem apo{m:Nat}(p:Fin (m+1)->Fin (m+1)->Int)(f:Nat)(cb:Array Value)(g l:Nat)(j:List (Fin (m+1)))(w:World)(B:j.Pairwise (fun a b=>a.val<b.val))(hS:SWO (ltOf p))
  (C:∀args w,(callFunc f args).run prog w=.ok (.enter f args) w) (D:CmpLays1 prog f cb Dl p g 0 j.length w) (r:RowI w g (Bh j)) (u:j.length<20):
  Calls prog 207 #[.slice (some ⟨g,0,none⟩) j.length l,.func (.func f) #[] cb] w fun e w'=>e=.returned (.tuple #[])/\
   ∃n:List (Fin (m+1)),n.Perm j/\n.Pairwise (fun a b=>lC (ltOf p) (·.val) a b=true)/\RowI w' g (Bh n)/\w.grownBy w' (some g):=
 (apl p f cb g l j w B hS C D r.holds r.lt u).mono fun e w' ⟨E,n,k,os,y,F,z⟩=>⟨E,n,y,F,by rw[z];exact(r.sorted y.length_eq).1.aa (apk _ _ _ _ _ _ _),by rw[z];exact ahi _ _ _ _ _ _ _⟩
theorem aoe(f:Nat)(cb:Array Value)(A:Option Addr)(j:Nat)(w:World):
  Calls prog 207 #[.slice A 0 j,.func (.func f) #[] cb] w fun e w'=>e=.returned (.tuple #[])/\w'=w:=by
 have n:∀w:World,Calls prog 257 #[.slice A 0 j,.int .i64 0,.int .i64 0,.func (.func f) #[] cb] w fun e w'=>e=.returned (.tuple #[])/\w'=w:=fun w=>by
  go_enter func257,ntmps257;go_wp2;refine wp_loop_rounds 1 ?_;rw[rounds_succ];go_wp2
  go_end0
  exact⟨rfl,rfl⟩
 have l:∀w:World,Calls prog 230 #[.slice A 0 j,.int .i64 0,.func (.func f) #[] cb] w fun e w'=>e=.returned (.tuple #[])/\w'=w:=fun w=>by
  go_enter func230,ntmps230;go_wp2;refine wp_loop_rounds 1 ?_;rw[rounds_succ];go_wp2_with fail;refine(n _).mono ?_;rintro e p ⟨rfl,rfl⟩;go_wp2;refine wp_loop_rounds 1 ?_;rw[rounds_succ];go_wp2
  go_end0
  exact⟨rfl,rfl⟩
 go_enter func207,ntmps207;go_wp2_with fail;refine(l _).mono ?_;rintro e p ⟨rfl,rfl⟩;go_wp2
 go_end0
 exact⟨rfl,rfl⟩
structure zC(g:Nat)(v:Value)(w:World):Prop where
 c:w.cell? ⟨g,0,none⟩=some v
 lt:g<w.heap.size
theorem zC.jQ(g:Nat)(v:Value):fW (zC g v):=fun _ _ h e=>⟨(e.cell (p:=⟨g,0,none⟩) h.lt).trans h.c,arY h.lt e.size⟩
theorem zC.aa{g:Nat}{v:Value}{w w':World}(h:zC g v w)(e:Below w.heap.size w w'):zC g v w':=zC.jQ g v _ _ h e
theorem zC.grown{g:Nat}{v:Value}{w w':World}{row:Option Nat}(h:zC g v w)(e:w.grownBy w' row)(hr:some g≠row):zC g v w':=⟨(asj (e.block g h.lt hr)).trans h.c,arY h.lt e.size⟩
theorem zC.set{g:Nat}{v:Value}{w:World}(h:zC g v w){g':Nat}(j:g≠g')(i:Nat)(u:Value):zC g v (w.setCell ⟨g',i,none⟩ u):=h.grown (bk (p:=⟨g',i,none⟩) (ft w (some g')) (.inl rfl) u) (fun e=>j (by injection e))
def Jo(n:Nat):List Int:=(List.range n).map fun(i:Nat)=>(i:Int)
theorem abo(n:Nat):(Jo n).length=n:=by simp[Jo]
theorem apq{n k:Nat}(h:k<n):(Jo n).getD k 0=k:=by simp[Jo,List.getElem?_range h]
theorem apr(m:Nat):Bh (List.finRange (m+1))=Jo (m+1):=by
 apply List.ext_getElem
 ·simp[Bh,Jo]
 ·intro i e j;simp[Bh,Jo]
theorem RowI.Wl{w:World}{g n k:Nat}{l:List Int}(h:RowI w g (upto l n k))(e:l.length=n)(j:k<n){v:Int}(p:v=l.getD k 0):RowI (w.setCell ⟨g,k,none⟩ (.int .i64 v)) g (upto l n (k+1)):=by subst p;rw[<-PQ l n k e j];exact h.set (by rw[Bi l n k e (by omega)];exact j) _
theorem aps(l:List Nat)(P:List Int)(i:Nat):P.getD i 0<=(mn P l).getD i 0/\(mn P l).getD i 0<=P.getD i 0+l.length:=by
 induction l generalizing P with
 |nil=>simp[mn]
 |cons a l j=>
  have h:=j (P.set a (P.getD a 0+1));have e:(P.set a (P.getD a 0+1)).getD i 0=P.getD i 0\/(P.set a (P.getD a 0+1)).getD i 0=P.getD i 0+1:=by
   rw[aru,List.getElem?_set,aru];by_cases e:a=i
   ·subst e;by_cases h:a<P.length
    ·right;simp[h]
    ·left;simp[h]
   ·left;simp[e]
  unfold mn at*;rw[asq];simp only[ars,asL];omega
theorem apt(p r n:Nat)(R:List Int)(i j:Nat)(w:World)(hi:i<R.length)(y:j<R.length)(E:R.length=n)(u:zC p (.slice (some ⟨r,0,none⟩) n n) w)(l:∀k,k<R.length->w.cell? ⟨r,k,none⟩=some (.int .i64 (R.getD k 0))):
  Calls prog 254 #[.int .i64 (i:Int),.int .i64 (j:Int),.pointer (some ⟨p,0,none⟩)] w fun e w'=>e=.returned (.int .i64 (mS (R.getD j 0) (R.getD i 0)))/\∃q,w'=w.drewN q:=by
 have F:=u.c;have G:=l i hi;have I:=l j y;have z:(i:Int)<(n:Int):=by omega
 have B:(j:Int)<(n:Int):=by omega
 clear l u;generalize R.getD i 0=J at*;generalize R.getD j 0=K at*;go_enter func254,ntmps254;go_wp2;go_quiet((go_at_call 84;exact Calls.quiet_of_same ((Qk _ _ _).mono fun e w' ⟨C,D⟩=>⟨C,D.symm⟩)));go_wp2;go_ret;exact⟨rfl,nq,rfl⟩
structure ahj(total:Int)(ws:List Int)(w0:World)(gp gr go gh n k:Nat)(w:World):Prop where
 p:RowI w gp (upto (cR total ws) n k)
 r:RowI w gr (upto (kH total ws) n k)
 o:RowI w go (upto (Jo n) n k)
 h:zC gh (.slice (some ⟨gr,0,none⟩) n n) w
 b:Below w0.heap.size w0 w
def Px{m:Nat}(R:List Int)(a b:Fin (m+1)):Int:=mS (R.getD b.val 0) (R.getD a.val 0)
theorem Th{m:Nat}(R:List Int)(a b:Fin (m+1)):ltOf (Px R) a b=decide (R.getD b.val 0<R.getD a.val 0):=by
 unfold ltOf Px mS;generalize R.getD a.val 0=x;generalize R.getD b.val 0=y;by_cases h:y<x
 ·simp[h]
 ·rw[aq8 h];split<;>simp<;>omega
theorem apu{m:Nat}(R:List Int):SWO (ltOf (Px (m:=m) R)) where
 irrefl x:=by rw[Th];simp
 trans x y z e j:=by rw[Th,arz]at*;omega
 ntrans x y z e j:=by rw[Th,ar4]at*;omega
theorem apv{m:Nat}(R:List Int){j:List (Fin (m+1))}(h:j.Pairwise (fun a b=>lC (ltOf (Px R)) (·.val) a b=true)):(j.map (·.val)).Pairwise (K3 R):=by rw[asI];refine h.imp fun{a b} e=>?_;unfold lC at e;rw[Th,Th]at e;simp only[Bool.or_eq_true,arw,Bool.not_eq_true',arz,ar4]at e;unfold K3;omega
theorem apw(n:Nat):(List.finRange n).map (fun i=>i.val)=List.range n:=by
 apply List.ext_getElem
 ·simp
 ·intro i e j;simp
theorem apx(total:Int)(A:Option Addr)(bt:Nat)(j:List Int)(S:Int)(w:World)(h:aj encI 1 w w.heap.size A j)(h0:0<=total)(V:total<=1000000000)(hw:∀x∈j,0<=x/\x<=1000000000)(X:0<aC j)(hS:S=aC j)(bu:aC j<=20000000000)(hl:j.length<20):
  Calls prog 227 #[.int .i64 total,.slice A j.length bt,.int .i64 S] w fun e w'=>∃g,e=.returned (.slice (some ⟨g,0,none⟩) j.length j.length)/\w.heap.size<=g/\RowI w' g (eu total j)/\Below w.heap.size w w':=by
 have Cw:=af2 (total:=total) X;have Ia:Hid (∀k (hk:k<j.length),(0<=total*j[k]/\total*j[k]<=1000000000000000000)/\(total*j[k]).tdiv (aC j)=total*j[k]/aC j/\(total*j[k]).tmod (aC j)=total*j[k]%aC j/\(0<=total*j[k]/aC j/\total*j[k]/aC j<=1000000000)):=fun k hk=>XA h0 V hw X hk;have Xa:∀x∈cR total j,0<=x:=PS h0 (fun x hx=>(hw x hx).1) X;have bv:=Ns (total:=total) X;have Y:Hid (∀k,0<=aC ((cR total j).take k)/\aC ((cR total j).take k)<=total):=fun k=>by have:=anU Xa k;omega
 have Ot:Hid (∀i,0<=(cR total j).getD i 0/\(cR total j).getD i 0<=1000000000):=fun i=>by have:=Jz Xa i;have h2:=ag8 Xa i;omega
 have R:Hid ((cR total j).length=j.length):=by simp[Hid,cR]
 have Bl:Hid ((kH total j).length=j.length):=by simp[Hid,kH]
 have aS:Hid (∀l:List Nat,l.Perm (List.range j.length)->l.Pairwise (K3 (kH total j))->eu total j=mn (cR total j) (l.take (mR total j).toNat)):=fun l V h2=>anT X l V h2;have iT:=XG X;have Ds:=Nt j.length (by omega);have bV:(S==0)=false:=by rw[arS];omega
 have bW:0<S:=by omega
 have HS:=aq6 hS;have aT:Hid (0<=mR total j/\mR total j<=j.length):=Cw;have aV:Hid (mR total j=total-aC (cR total j)):=rfl;clear Xa bv hw X bu Cw;obtain⟨n,hn⟩:∃n,j.length=n:=⟨_,rfl⟩
 have E:=aq6 hn;rw[hn]at Ds iT hl|-;clear hn hS;go_enter func227,ntmps227;go_upto_region 4 with fail
 have jP:=RowI.made w n;have P:=bF w (.cells (madeCells #[.int .i64 0] n) 3);have e1:(w.alloc (.cells (madeCells #[.int .i64 0] n) 3)).heap.size=w.heap.size+1:=by simp
 generalize w.alloc (.cells (madeCells #[.int .i64 0] n) 3)=w1 at jP P e1|-;have jM:=RowI.made w1 n;have Q:=bF w1 (.cells (madeCells #[.int .i64 0] n) 3);have e2:(w1.alloc (.cells (madeCells #[.int .i64 0] n) 3)).heap.size=w.heap.size+1+1:=by simp;omega
 rw[e1]at jM;generalize w1.alloc (.cells (madeCells #[.int .i64 0] n) 3)=w2 at jM Q e2|-;have hH:=ah.new w2 34 #[.slice (some ⟨w.heap.size+1,0,none⟩) n n];have Z:=bF w2 (.cells #[.slice (some ⟨w.heap.size+1,0,none⟩) n n] 34);have e3:(w2.alloc (.cells #[.slice (some ⟨w.heap.size+1,0,none⟩) n n] 34)).heap.size=w.heap.size+1+1+1:=by simp;omega
 rw[e2]at hH;generalize w2.alloc (.cells #[.slice (some ⟨w.heap.size+1,0,none⟩) n n] 34)=w3 at hH Z e3|-;have Cs:=RowI.made w3 n;have J:=bF w3 (.cells (madeCells #[.int .i64 0] n) 3);rw[e3]at Cs;generalize w3.alloc (.cells (madeCells #[.int .i64 0] n) 3)=w4 at Cs J|-;have J9:=aB Z J;have G:ahj total j w w.heap.size (w.heap.size+1) (w.heap.size+1+1+1) (w.heap.size+1+1) n 0 w4:=by
  refine⟨?_,?_,?_,⟨?_,(hH.aa J).lt⟩,aB P (aB Q J9)⟩
  ·rw[Jx];exact(jP.aa Q).aa J9
  ·rw[Jx];exact jM.aa J9
  ·rw[Jx];exact Cs
  ·exact(hH.aa J).cell 0
 clear jP P jM Q hH Z Cs J J9 e1 e2 e3 Ds;obtain⟨B,ab⟩:∃g,g=w.heap.size+1:=⟨_,rfl⟩
 obtain⟨N,ad⟩:∃g,g=B+1:=⟨_,rfl⟩
 obtain⟨O,ae⟩:∃g,g=N+1:=⟨_,rfl⟩
 rw[<-ab,<-ad,<-ae]at G;rw[<-ab,<-ad,<-ae];have n1:w.heap.size≠B:=by omega
 have n2:w.heap.size≠N:=by omega
 have n3:w.heap.size≠O:=by omega
 have n4:B≠N:=by omega
 have n5:B≠O:=by omega
 have n6:N≠O:=by omega
 have n7:w.heap.size<=B:=by omega
 have n8:w.heap.size<=O:=by omega
 clear ab ad ae;go_wp2
 go_loopw [10,27] (fun ms i wr=>∃k:Nat,k<=n/\i=.int .i64 k/\ms=.int .i64 (total-aC ((cR total j).take k))/\ahj total j w w.heap.size B O N n k wr) (fun _ i _=>n-(intOf i).toNat)
 case atStart=>exact⟨0,by omega,rfl,by simp[aC],G⟩
 case round=>
  clear G;obtain⟨k,hk,rfl,rfl,G⟩:=hrel;obtain⟨s0,s1⟩:=Y.out k;by_cases u:k<n
  ·have Jj:k<j.length:=(by rw[E.out];exact u);obtain⟨b1,EE,rfl,P,aW⟩:=(h.aa G.b).at_ Jj;have c0:=aW 0 _ rfl;simp only[ara,arU]at c0;obtain⟨⟨p0,p1⟩,e1,e2,q0,q1⟩:=Ia.out k Jj;have HP:=aq6 (XB (total:=total) Jj);have HR:=aq6 (XC (total:=total) Jj);have D:=aq6 (XE (cR total j) k (by rw[R.out];exact Jj));obtain⟨s2,s3⟩:=Y.out (k+1);rw[D.out,HP.out]at s2 s3;rw[HP.out]at D;rw[<-HS.out]at e1 e2 q0 q1 HP HR s2 s3 D;have gK:(k:Int)<(n:Int):=(by omega);have HD:=aq6 G;clear aW h G;go_upto_region 8 with fail
   refine M3.iu (C:=zC N (.slice (some ⟨B,0,none⟩) n n)) (zC.jQ _ _) HD.out.h (aE:=?aE) [0,1,2,3,4,5,6,7,8,9,10,11,12,13] 4 (by kernel_rfl) (by kernel_rfl) rfl (by kernel_rfl) (by kernel_rfl) (by rfl) ?H ?M
   case H=>
    intro F hF bU;simp only[M3.cL,arh,ari,arj];have q9:∀p:aR (zC N (.slice (some ⟨B,0,none⟩) n n)) F,p.w'.cell? ⟨N,0,none⟩=some (.slice (some ⟨B,0,none⟩) n n):=fun p=>p.h.c
    repeat(go_big_quiet_step(fail))
    refine wpQuiet_nil ?_;rfl
   case M=>
    intro Q0 bM;have aZ:=HD.out.p;have a0:=HD.out.r;have a1:=HD.out.o;have a2:=HD.out.b;clear HD;refine M3.bL [14] (by kernel_rfl) (by simp) ?_;intro wa a3 Ti i hi;rw[arQ]at hi;subst hi;have a4:=aZ.aa Ti;have rwa:=a0.aa Ti;have a5:=a1.aa Ti;have a6:=aB a2 Ti;clear Ti aZ a0 a1 a2;refine M3.bD (.pointer (some ⟨w.heap.size,k,none⟩)) wa rfl rfl (by go_simp) ⟨a3,?_⟩;simp only[Act.put,ary];refine M3.bL [15] (by kernel_rfl) (by simp) ?_;intro wb a7 Tj i hi;rw[arQ]at hi;subst hi;have Tk:=a4.aa Tj;have a8:=rwa.aa Tj;have a9:=a5.aa Tj;have ba:=aB a6 Tj;clear Tj a4 rwa a5 a6;have z:=Tk.cell (i:=k) (by rw[Bi _ _ _ (R.out.trans E.out) (by omega)];exact u);have fz:=Tk.frozen k;have Fj:=Tk.lt;refine M3.eT (wb.setCell ⟨w.heap.size,k,none⟩ (.int .i64 (total*j[k]/S))) rfl rfl (by go_simp) ⟨a7.set (fun e=>n2 e.symm) _ _,?_⟩;simp only[Act.put];have af:=Tk.Wl (R.out.trans E.out) u (v:=total*j[k]/S) HP.out.symm;have ai:=a8.far (p:=⟨w.heap.size,k,none⟩) (fun e=>n1 e.symm) (.int .i64 (total*j[k]/S));have al:=a9.far (p:=⟨w.heap.size,k,none⟩) (fun e=>n3 e.symm) (.int .i64 (total*j[k]/S));have am:=iJ ba (aq7 w.heap.size) k (.int .i64 (total*j[k]/S));generalize wb.setCell ⟨w.heap.size,k,none⟩ (.int .i64 (total*j[k]/S))=wc at af ai al am|-;clear a3 a7 Tk a8 a9 ba z fz Fj;refine M3.bL [16] (by kernel_rfl) (by simp) ?_;intro wd bb Tl i hi;rw[arQ]at hi;subst hi;have bc:=af.aa Tl;have bd:=ai.aa Tl;have be:=al.aa Tl;have bf:=aB am Tl;clear Tl af ai al am;refine M3.bD (.pointer (some ⟨B,k,none⟩)) wd rfl rfl (by go_simp) ⟨bb,?_⟩;simp only[Act.put];refine M3.bL [17] (by kernel_rfl) (by simp) ?_;intro we bg Tm i hi;rw[arQ]at hi;subst hi;have bh:=bc.aa Tm;have Tn:=bd.aa Tm;have bi:=be.aa Tm;have bl:=aB bf Tm;clear Tm bc bd be bf;have z:=Tn.cell (i:=k) (by rw[Bi _ _ _ (Bl.out.trans E.out) (by omega)];exact u);have fz:=Tn.frozen k;have Fj:=Tn.lt;have an:=bg.set (g':=B) (fun e=>n4 e.symm) k (.int .i64 (total*j[k]%S));refine M3.eT (we.setCell ⟨B,k,none⟩ (.int .i64 (total*j[k]%S))) rfl rfl (by go_simp) ⟨an,?_⟩;simp only[Act.put];have ao:=bh.far (p:=⟨B,k,none⟩) n1 (.int .i64 (total*j[k]%S));have ap:=Tn.Wl (Bl.out.trans E.out) u (v:=total*j[k]%S) HR.out.symm;have av:=bi.far (p:=⟨B,k,none⟩) (fun e=>n5 e.symm) (.int .i64 (total*j[k]%S));have ay:=iJ bl n7 k (.int .i64 (total*j[k]%S));generalize we.setCell ⟨B,k,none⟩ (.int .i64 (total*j[k]%S))=wf at ao ap av ay an|-;clear bb bg bh Tn bi bl z fz Fj;refine M3.kp (by kernel_rfl) ?_;intro wg bm K;refine bM _ _ ?_;have az:=ao.aa K;have bn:=ap.aa K;have Tp:=av.aa K;have bo:=aB ay K;clear K ao ap av ay an bM;have zo:=Tp.cell (i:=k) (by rw[Bi _ _ _ (abo n) (by omega)];exact u);have fo:=Tp.frozen k;have lo:=Tp.lt;have zp:=az.cell (i:=k) (by rw[Bi _ _ _ (R.out.trans E.out) (by omega)];exact u);rw[XD _ _ _ u (R.out.trans E.out),HP.out]at zp;generalize (upto (Jo n) n k).getD k 0=oz at zo;have bx:=aq6 az;have D9:=aq6 bn;have bz:=aq6 Tp;have bC:=aq6 bo;have bE:=aq6 bm;have pc:total-aC ((cR total j).take (k+1))=total-aC ((cR total j).take k)-total*j[k]/S:=(by rw[D.out];omega);have Xb:=aq6 pc;clear pc az bn Tp bo bm;generalize aC ((cR total j).take k)=sk at*;go_wp2;go_roundw
    case rel=>refine⟨k+1,by omega,by go_num,by rw[Xb.out],⟨bx.out.far (p:=⟨O,k,none⟩) n3 _,D9.out.far (p:=⟨O,k,none⟩) n5 _,bz.out.Wl (abo n) u (apq u).symm,bE.out.set n6 _ _,iJ bC.out n8 _ _⟩⟩
    case measure=>simp[intOf];omega
  ·obtain rfl:k=n:=by omega
   obtain⟨m,hm⟩:∃m,k=m+1:=⟨k-1,by omega⟩
   have Xc:=G.p;rw[Jy _ _ (R.out.trans E.out)]at Xc;have Su:=G.r;rw[Jy _ _ (Bl.out.trans E.out)]at Su;have aA:=G.o;rw[Jy _ _ (abo k)]at aA;have aD:=G.h;have DU:=G.b;have Bj:=Xc.lt;have Xd:=Bl.out.trans E.out;have L:(List.finRange (m+1)).length=k:=(by simp[hm]);have aJ:=apo (Px (m:=m) (kH total j)) 254 #[.pointer (some ⟨N,0,none⟩)] O k (List.finRange (m+1)) wr
    (by rw[arZ];intro a b ha hb bJ;simpa using bJ) (apu _) (enters_of func254 (by kernel_rfl) rfl)
    (CmpReads.lays (fun mm os dk bX x y=>by have hg:=ahi Dl wr O 0 mm dk os;have jM:=Su.grown hg (fun e=>n5 (by injection e));exact apt N B k (kH total j) x.val y.val _ (by rw[Xd,hm];exact x.isLt) (by rw[Xd,hm];exact y.isLt) Xd (aD.grown hg (fun e=>n6 (by injection e))) (fun q hq=>jM.cell hq)))
    (by rw[apr,<-hm];exact aA) (by rw[L];omega)
   rw[L]at aJ;have D:=aq6 aJ;have Ca:∃I:Nat,total-aC ((cR total j).take k)=(I:Int)/\(mR total j).toNat=I/\I<=k:=by have V:=aT.out;have h2:=aV.out;rw[E.out]at V;refine⟨(mR total j).toNat,?_,rfl,by omega⟩;rw[ar0 (by rw[R.out,E.out];exact aq7 _)];omega
   obtain⟨I,Ca,bp,Ds⟩:=Ca;have Xb:Hid (∀l:List (Fin (m+1)),l.Perm (List.finRange (m+1))->l.Pairwise (fun a b=>lC (ltOf (Px (kH total j))) (·.val) a b=true)->eu total j=mn (cR total j) ((l.map (·.val)).take I)):=fun l V h2=>by rw[aS.out (l.map (·.val)) (by rw[E.out,hm,<-apw];exact V.map _) (apv _ h2),bp]
   rw[Ca];have bq:=aq6 hm;have XX:=XY O 0 k k (I:Int) I rfl Ds (by omega);have QV:=aq6 aD;clear aJ G Su aA aD Xd L Ca bp hm aS aT aV h Ia Y s0 s1;go_wp2_with fail;refine arf D.out ?_;rintro e w5 ⟨rfl,l,hp,br,aO,bw⟩;have HY:=aq6 (Xb.out l hp br);have nV:l.length=k:=(by rw[hp.length_eq,bq.out];simp);have bN:=Xc.grown bw (fun e=>n3 (by injection e));have eM:=jN DU bw (fun q e=>by injection e;omega);have bO:=aq6 nV;clear D Xb hp br Xc DU bw nV;go_wp2
   go_loopw [66] (fun i wr=>∃q:Nat,q<=I/\i=.int .i64 q/\RowI wr w.heap.size (mn (cR total j) ((l.map (·.val)).take q))/\w5.grownBy wr (some w.heap.size)) (fun i _=>I-(intOf i).toNat)
   case atStart=>exact⟨0,by omega,rfl,by simpa[mn]using bN,ft _ _⟩
   case round=>
    rename World=>bZ
    obtain⟨q,hq,rfl,T,iZ⟩:=hrel;by_cases b0:q<I
    ·have aP:q<l.length:=(by rw[bO.out];omega);have bs:=aO.grown iZ (fun e=>n3 (by injection e;omega));have zo:=bs.cell (i:=q) (by simpa[Bh]using aP);have U:(Bh l).getD q 0=((l[q].val:Nat):Int):=(by simp[Bh,aro aP]);rw[U]at zo;have Rf:l[q].val<k:=(by rw[bq.out];exact l[q].isLt);have zg:(l.map (·.val)).take (q+1)=(l.map (·.val)).take q++[l[q].val]:=by
      rw[arA (by simpa using aP)];simp
     obtain⟨x0,x1⟩:=aps ((l.map (·.val)).take q) (cR total j) l[q].val;obtain⟨y0,y1⟩:=Ot.out l[q].val;have CB:(mn (cR total j) ((l.map (·.val)).take q)).length=k:=(by rw[anR,R.out,E.out]);have zp:=T.cell (i:=l[q].val) (by rw[CB];exact Rf);have fp:=T.frozen l[q].val;have lp:=T.lt;have fZ:((l.map (·.val)).take q).length<=q:=(by simp;omega);have bP:=aq6 (T.set (i:=l[q].val) (by rw[CB];exact Rf) ((mn (cR total j) ((l.map (·.val)).take q)).getD l[q].val 0+1));have pA:Hid (mn (cR total j) ((l.map (·.val)).take (q+1))=(mn (cR total j) ((l.map (·.val)).take q)).set l[q].val ((mn (cR total j) ((l.map (·.val)).take q)).getD l[q].val 0+1)):=(by rw[Hid,zg,anS]);have z0:0<=(mn (cR total j) ((l.map (·.val)).take q)).getD l[q].val 0:=(by omega);have z1:(mn (cR total j) ((l.map (·.val)).take q)).getD l[q].val 0<=2000000000:=(by omega);have b2:((l[q].val:Nat):Int)<(k:Int):=(by omega);have b3:(q:Int)<(I:Int):=(by omega);have bQ:=aq6 iZ;clear U zg x0 x1 y0 y1 CB fZ T bs aO iZ;generalize (mn (cR total j) ((l.map (·.val)).take q)).getD l[q].val 0=x at*;generalize l[q].val=v at*;go_wp2;go_roundw
     case rel=>exact⟨q+1,by omega,by go_num,by rw[pA.out];exact bP.out,bk bQ.out (.inl rfl) _⟩
     case measure=>simp[intOf];omega
    ·obtain rfl:q=I:=by omega
     rw[<-HY.out]at T;have bR:=aq6 T;have ax:=jN eM iZ (fun q e=>by injection e;omega);have iU:=aq6 ax;clear T ax iZ aO;go_wp2;go_ret;exact⟨w.heap.size,rfl,aq7 _,bR.out,iU.out⟩
theorem anq(j:Int)(A:Option Addr)(r:Nat)(n:List Int)(w:World)(h:aj encI 1 w w.heap.size A n)(J:0<=j)(K:j<=1000000000)(y:∀x∈n,0<=x/\x<=1000000000)(z:0<aC n)(L:n.length<20):
  Calls prog 204 #[.int .i64 j,.slice A n.length r] w fun e w'=>∃g,e=.returned (.tuple #[.slice (some ⟨g,0,none⟩) n.length n.length,.int .i64 0])/\w.heap.size<=g/\RowI w' g (eu j n)/\Below w.heap.size w w':=by
 have D:=(kV (l:=n) (B:=1000000000) y).2;have E:=aq6 (apx j A r n (aC n) w h J K y z rfl (by omega) L);have F:=aq6 y;have M:=aq6 z;clear y z D;go_enter func204,ntmps204;go_wp2
 go_loop [6,22] (fun N i=>∃k:Nat,k<=n.length/\i=.int .i64 k/\N=.int .i64 (aC (n.take k))) (fun _ i=>n.length-(intOf i).toNat)
 case atStart=>exact⟨0,by omega,rfl,rfl⟩
 case round=>
  obtain⟨k,Y,rfl,rfl⟩:=hrel;have u:=kV (l:=n.take k) (B:=1000000000) (fun x O=>F.out x (arD O));simp only[ar7]at u;obtain⟨P,Q⟩:=u;have R:aC (n.take k)<=20000000000:=by omega
  clear Q;by_cases p:k<n.length
  ·obtain⟨b,S,rfl,D,G⟩:=h.at_ p;have T:=G 0 _ rfl;simp only[ara,arU]at T;have U:=aq6 (PR n k p);obtain⟨Z,x1⟩:=F.out _ (arc p);clear G;go_wp2;go_round
   case rel=>exact⟨k+1,by omega,by go_num,by rw[U.out]⟩
   case measure=>simp[intOf];omega
  ·obtain rfl:k=n.length:=by omega
   rw[ar0 (by omega)]at P R|-;have hz:(aC n==0)=false:=(by rw[arS];have:=M.out;omega);go_wp2_with fail;refine arf E.out ?_;rintro e w1 ⟨g,rfl,V,I,C⟩;have X:=aq6 I;clear I E;go_wp2;go_ret2;exact⟨g,rfl,V,X.out,C⟩
