/- Conditions: as stated. -/
import Derived.Shelf.SlGeneric
import Derived.Shelf.SlSortCmp.Insertion1
import Derived.Test.YtlhkojcmcmkmaaaGreatSMix2
import Derived.Test.YtlhkojcmcmkmaaaGreatSP29b
set_option maxRecDepth 100000
set_option maxHeartbeats 8000000
namespace Go.Proofs.YtlhkojcmcmkmaaaGreat
open Go.Proofs.Tryz
open Go.RowKit Go.Sort Go.Shelf
def apM:Go.Shelf.Ren:=⟨fun|20=>257|n=>n,fun|0=>0|3=>3|4=>4|22=>34|24=>3|25=>22|n=>n,fun n=>n⟩
theorem apN:Go.Proofs.SlLaysF.n20 prog apM:={
 mixed:=by kernel_rfl
 f20:=⟨Tryz.f257.name,by decide,Tryz.func257.trans (congrArg some (by kernel_rfl))⟩
 t0:=underlying0
 a0:=Tryz.isAgg0
 z0:=Tryz.sizeOf0
 v0:=Tryz.zeroValue0
 t3:=underlying3
 a3:=Tryz.isAgg3
 z3:=Tryz.sizeOf3
 v3:=Tryz.zeroValue3
 t4:=underlying4
 a4:=Tryz.isAgg4
 z4:=Tryz.sizeOf4
 v4:=Tryz.zeroValue4
 t22:=underlying34
 a22:=Tryz.isAgg34
 z22:=Tryz.sizeOf34
 v22:=Tryz.zeroValue34
 a24:=Tryz.isAgg3
 z24:=Tryz.sizeOf3
 t25:=underlying22
 a25:=Tryz.isAgg22
 z25:=Tryz.sizeOf22
 v25:=Tryz.zeroValue22}
def DX{m:Nat}(i:Fin (m+1)):Value:=.int .i64 (i.val:Int)
def BS{m:Nat}(e:List (Fin (m+1))):List Int:=e.map fun i=>(i.val:Int)
theorem RowI.holds{m:Nat}{w:World}{g:Nat}{l:List (Fin (m+1))}(h:RowI w g (BS l)):Holds DX w g 0 l.toArray:=fun j n=>by
 have e:j<l.length:=by simpa using n
 have p:=h.cell (i:=j) (by simpa[BS]using e);rw[arT];refine⟨?_,h.frozen j⟩;rw[p,asl _ j n];simp[BS,DX,arW e]
theorem RowI.sorted{m:Nat}{w:World}{g:Nat}{p l:List (Fin (m+1))}(h:RowI w g (BS p))(r:l.length=p.length):RowI (putRow DX w g 0 l.toArray) g (BS l)/\w.grownBy (putRow DX w g 0 l.toArray) (some g):=by
 obtain⟨c,u,y,z⟩:=h;refine⟨⟨putCells DX 0 l.toArray c,?_,?_,fun i hi=>?_⟩,⟨rfl,rfl,rfl,by simp,fun i hi n=>?_⟩⟩
 ·show(w.heap.modify g _)[g]?=_;rw[as5,arK rfl,u];rfl
 ·simp only[putCells,Array.size_mapIdx,y];simp[BS,r]
 ·have j:i<l.length:=by simpa[BS]using hi
  have B:=z i (by simp[BS];omega);simp only[putCells,Array.getElem?_mapIdx,B,Option.map_some];rw[arK ⟨Nat.zero_le _,by simpa using j⟩,Nat.sub_zero,asl _ i (by simpa using j)];simp[BS,DX,arW j]
 ·have C:¬g=i:=fun e=>n (by rw[e]);show(w.heap.modify g _)[i]?=_;rw[as5,arJ C]
theorem ahy{p:Type}[Inhabited p](l:p->Value)(w:World)(j n m:Nat)(d:Array p)(os:Array Obj):w.grownBy (sortWorld l w j n m d os) (some j):=by
 refine⟨rfl,rfl,rfl,?_,fun i hi r=>?_⟩
 ·show w.heap.size<=((putRow l (Sort.ahead w m) j n d).heap++os).size;rw[Array.size_append,size_putRow];exact Nat.le_add_right _ _
 ·have u:j≠i:=fun e=>r (by rw[e]);show((putRow l (Sort.ahead w m) j n d).heap++os)[i]?=w.heap[i]?;rw[atu (by rw[size_putRow];exact hi)];show(w.heap.modify j _)[i]?=_;rw[as5,arJ u]
theorem apO{n:Type}[Inhabited n](e:n->Value)(w:World)(j l m:Nat)(d:Array n)(os:Array Obj):Below (putRow e w j l d).heap.size (putRow e w j l d) (sortWorld e w j l m d os):=by
 refine⟨rfl,rfl,rfl,?_,fun i hi=>?_⟩
 ·show _<=((putRow e (Sort.ahead w m) j l d).heap++os).size;rw[Array.size_append];exact Nat.le_add_right _ _
 ·show((putRow e (Sort.ahead w m) j l d).heap++os)[i]?=_;rw[atu (by simpa using hi)];rfl
theorem apP{m:Nat}(r:Fin (m+1)->Fin (m+1)->Int)(f:Nat)(cb:Array Value)(g p:Nat)(j:List (Fin (m+1)))(w:World)(I:j.Pairwise (fun a b=>a.val<b.val))(hS:SWO (ltOf r))
  (P:∀args w,(callFunc f args).run prog w=.ok (.enter f args) w) (J:CmpLays1 prog f cb DX r g 0 j.length w) (C:Holds DX w g 0 j.toArray) (Q:g<w.heap.size) (D:j.length<20):
  Calls prog 207 #[.slice (some ⟨g,0,none⟩) j.length p,.func (.func f) #[] cb] w fun e w'=>e=.returned (.tuple #[])/\
   ∃(l:List (Fin (m+1))) (k:Nat) (os:Array Obj),l.Perm j/\l.Pairwise (fun a b=>lT (ltOf r) (·.val) a b=true)/\w'=sortWorld DX w g 0 k l.toArray os:=by
 have B:=Any.insertionSortCmpFunc_s apN DX r f cb g 0 p 0 j.length j.toArray j.toArray w w P (by simpa using J) ⟨fun _=>rfl,C,Q⟩ rfl ⟨0,#[],by rw[sortWorld_none];exact(putRow_self _ _ _ _ _ C).symm⟩ (Nat.zero_le _) (by simp) (by simp;omega);obtain⟨l,K,L,z⟩:=apQ (lt:=ltOf r) (idx:=fun i=>i.val) hS (fun a b h=>Fin.ext h) j I;have M:insertionSort (ltOf r) j.toArray 0 j.length=l.toArray:=by rw[<-K]
 rw[M]at B;simp only[List.size_toArray]at B;have N:Hid (l.Perm j/\l.Pairwise (fun a b=>lT (ltOf r) (·.val) a b=true)):=⟨L,z⟩
 clear K L z M C J hS I;have E:Hid (Calls prog 257 #[.slice (some ⟨g,0,none⟩) j.length p,.int .i64 0,.int .i64 j.length,.func (.func f) #[] cb] w fun e w'=>e=.returned (.tuple #[])/\∃(n:Nat) (os:Array Obj),w'=sortWorld DX w g 0 n l.toArray os):=B.mono fun _ _ ⟨R,n,os,S⟩=>⟨R,n,os,S⟩
 clear B;obtain⟨u,y⟩:∃u,u=l.toArray:=⟨_,rfl⟩
 rw[<-y]at E;obtain⟨n,O⟩:∃n,j.length=n:=⟨_,rfl⟩
 rw[O]at E D|-;have F:=arH y;clear O y;have G:Calls prog 230 #[.slice (some ⟨g,0,none⟩) n p,.int .i64 n,.func (.func f) #[] cb] w fun e w'=>e=.returned (.tuple #[])/\∃(k:Nat) (os:Array Obj),w'=sortWorld DX w g 0 k u os:=by
  go_enter func230,ntmps230;have U:decide ((20:Int)<=(n:Int))=false:=by rw[asF];omega
  have V:decide ((20:Int)<(n:Int))=false:=by rw[asF];omega
  go_wp2;refine wp_loop_rounds 1 ?_;rw[rounds_succ];go_wp2_with fail;refine arP E.out ?_;rintro e T ⟨rfl,k,os,rfl⟩;go_wp2;refine wp_loop_rounds 1 ?_;rw[rounds_succ];go_wp2
  go_end0
  exact⟨rfl,k,os,rfl⟩
 go_enter func207,ntmps207;go_wp2_with fail;refine G.mono ?_;rintro e T ⟨rfl,k,os,rfl⟩;go_wp2
 go_end0
 exact⟨rfl,l,k,os,N.out.1,N.out.2,by rw[F.out]⟩
theorem apS{m:Nat}(p:Fin (m+1)->Fin (m+1)->Int)(f:Nat)(cb:Array Value)(g l:Nat)(j:List (Fin (m+1)))(w:World)(B:j.Pairwise (fun a b=>a.val<b.val))(hS:SWO (ltOf p))
  (C:∀args w,(callFunc f args).run prog w=.ok (.enter f args) w) (D:CmpLays1 prog f cb DX p g 0 j.length w) (r:RowI w g (BS j)) (u:j.length<20):
  Calls prog 207 #[.slice (some ⟨g,0,none⟩) j.length l,.func (.func f) #[] cb] w fun e w'=>e=.returned (.tuple #[])/\
   ∃n:List (Fin (m+1)),n.Perm j/\n.Pairwise (fun a b=>lT (ltOf p) (·.val) a b=true)/\RowI w' g (BS n)/\w.grownBy w' (some g):=
 (apP p f cb g l j w B hS C D r.holds r.lt u).mono fun e w' ⟨E,n,k,os,y,F,z⟩=>⟨E,n,y,F,by rw[z];exact(r.sorted y.length_eq).1.aa (apO _ _ _ _ _ _ _),by rw[z];exact ahy _ _ _ _ _ _ _⟩
theorem aoz(f:Nat)(cb:Array Value)(A:Option Addr)(j:Nat)(w:World):
  Calls prog 207 #[.slice A 0 j,.func (.func f) #[] cb] w fun e w'=>e=.returned (.tuple #[])/\w'=w:=by
 have n:∀w:World,Calls prog 257 #[.slice A 0 j,.int .i64 0,.int .i64 0,.func (.func f) #[] cb] w fun e w'=>e=.returned (.tuple #[])/\w'=w:=fun w=>by
  go_enter func257,ntmps257;go_wp2;refine wp_loop_rounds 1 ?_;rw[rounds_succ];go_wp2
  go_end0
  exact⟨rfl,rfl⟩
 have l:∀w:World,Calls prog 230 #[.slice A 0 j,.int .i64 0,.func (.func f) #[] cb] w fun e w'=>e=.returned (.tuple #[])/\w'=w:=fun w=>by
  go_enter func230,ntmps230;go_wp2;refine wp_loop_rounds 1 ?_;rw[rounds_succ];go_wp2_with fail;refine(n _).mono ?_;rintro e p ⟨rfl,rfl⟩;go_wp2;refine wp_loop_rounds 1 ?_;rw[rounds_succ];go_wp2
  go_end0
  exact⟨rfl,rfl⟩
 go_enter func207,ntmps207;go_wp2_with fail;refine(l _).mono ?_;rintro e p ⟨rfl,rfl⟩;go_wp2
 go_end0
 exact⟨rfl,rfl⟩
structure Ay(g:Nat)(v:Value)(w:World):Prop where
 c:w.cell? ⟨g,0,none⟩=some v
 lt:g<w.heap.size
theorem Ay.j5(g:Nat)(v:Value):gu (Ay g v):=fun _ _ h e=>⟨(e.cell (p:=⟨g,0,none⟩) h.lt).trans h.c,asy h.lt e.size⟩
theorem Ay.aa{g:Nat}{v:Value}{w w':World}(h:Ay g v w)(e:Below w.heap.size w w'):Ay g v w':=Ay.j5 g v _ _ h e
theorem Ay.grown{g:Nat}{v:Value}{w w':World}{row:Option Nat}(h:Ay g v w)(e:w.grownBy w' row)(hr:some g≠row):Ay g v w':=⟨(asT (e.block g h.lt hr)).trans h.c,asy h.lt e.size⟩
theorem Ay.set{g:Nat}{v:Value}{w:World}(h:Ay g v w){g':Nat}(j:g≠g')(i:Nat)(u:Value):Ay g v (w.setCell ⟨g',i,none⟩ u):=h.grown (bm (p:=⟨g',i,none⟩) (fe w (some g')) (.inl rfl) u) (fun e=>j (by injection e))
def JM(n:Nat):List Int:=(List.range n).map fun(i:Nat)=>(i:Int)
theorem abI(n:Nat):(JM n).length=n:=by simp[JM]
theorem apT{n k:Nat}(h:k<n):(JM n).getD k 0=k:=by simp[JM,List.getElem?_range h]
theorem apU(m:Nat):BS (List.finRange (m+1))=JM (m+1):=by
 apply List.ext_getElem
 ·simp[BS,JM]
 ·intro i e j;simp[BS,JM]
theorem RowI.WY{w:World}{g n k:Nat}{l:List Int}(h:RowI w g (upto l n k))(e:l.length=n)(j:k<n){v:Int}(p:v=l.getD k 0):RowI (w.setCell ⟨g,k,none⟩ (.int .i64 v)) g (upto l n (k+1)):=by subst p;rw[<-Qh l n k e j];exact h.set (by rw[BU l n k e (by omega)];exact j) _
theorem apV(l:List Nat)(P:List Int)(i:Nat):P.getD i 0<=(mO P l).getD i 0/\(mO P l).getD i 0<=P.getD i 0+l.length:=by
 induction l generalizing P with
 |nil=>simp[mO]
 |cons a l j=>
  have h:=j (P.set a (P.getD a 0+1));have e:(P.set a (P.getD a 0+1)).getD i 0=P.getD i 0\/(P.set a (P.getD a 0+1)).getD i 0=P.getD i 0+1:=by
   rw[ar1,List.getElem?_set,ar1];by_cases e:a=i
   ·subst e;by_cases h:a<P.length
    ·right;simp[h]
    ·left;simp[h]
   ·left;simp[e]
  unfold mO at*;rw[asR];simp only[arZ,atj];omega
theorem apW(p gr n:Nat)(R:List Int)(i j:Nat)(w:World)(hi:i<R.length)(u:j<R.length)(D:R.length=n)(r:Ay p (.slice (some ⟨gr,0,none⟩) n n) w)(l:∀k,k<R.length->w.cell? ⟨gr,k,none⟩=some (.int .i64 (R.getD k 0))):
  Calls prog 254 #[.int .i64 (i:Int),.int .i64 (j:Int),.pointer (some ⟨p,0,none⟩)] w fun e w'=>e=.returned (.int .i64 (nB (R.getD j 0) (R.getD i 0)))/\∃q,w'=w.drewN q:=by
 have E:=r.c;have F:=l i hi;have G:=l j u;have y:(i:Int)<(n:Int):=by omega
 have z:(j:Int)<(n:Int):=by omega
 clear l r;generalize R.getD i 0=I at*;generalize R.getD j 0=J at*;go_enter func254,ntmps254;go_wp2;go_quiet((go_at_call 84;exact Calls.quiet_of_same ((QK _ _ _).mono fun e w' ⟨B,C⟩=>⟨B,C.symm⟩)));go_wp2;go_ret;exact⟨rfl,nq,rfl⟩
structure ahz(total:Int)(ws:List Int)(w0:World)(gp gr go gh n k:Nat)(w:World):Prop where
 p:RowI w gp (upto (cT total ws) n k)
 r:RowI w gr (upto (kQ total ws) n k)
 o:RowI w go (upto (JM n) n k)
 h:Ay gh (.slice (some ⟨gr,0,none⟩) n n) w
 b:Below w0.heap.size w0 w
def PY{m:Nat}(R:List Int)(a b:Fin (m+1)):Int:=nB (R.getD b.val 0) (R.getD a.val 0)
theorem T5{m:Nat}(R:List Int)(a b:Fin (m+1)):ltOf (PY R) a b=decide (R.getD b.val 0<R.getD a.val 0):=by
 unfold ltOf PY nB;generalize R.getD a.val 0=x;generalize R.getD b.val 0=y;by_cases h:y<x
 ·simp[h]
 ·rw[arJ h];split<;>simp<;>omega
theorem apX{m:Nat}(R:List Int):SWO (ltOf (PY (m:=m) R)) where
 irrefl x:=by rw[T5];simp
 trans x y z e j:=by rw[T5,ar7]at*;omega
 ntrans x y z e j:=by rw[T5,asF]at*;omega
theorem apY{m:Nat}(R:List Int){j:List (Fin (m+1))}(h:j.Pairwise (fun a b=>lT (ltOf (PY R)) (·.val) a b=true)):(j.map (·.val)).Pairwise (Lv R):=by rw[ath];refine h.imp fun{a b} e=>?_;unfold lT at e;rw[T5,T5]at e;simp only[Bool.or_eq_true,ar5,Bool.not_eq_true',ar7,asF]at e;unfold Lv;omega
theorem apZ(n:Nat):(List.finRange n).map (fun i=>i.val)=List.range n:=by
 apply List.ext_getElem
 ·simp
 ·intro i e j;simp
theorem ap0(total:Int)(A:Option Addr)(bt:Nat)(j:List Int)(S:Int)(w:World)(h:aj encI 1 w w.heap.size A j)(h0:0<=total)(U:total<=1000000000)(hw:∀x∈j,0<=x/\x<=1000000000)(V:0<aL j)(hS:S=aL j)(bu:aL j<=20000000000)(hl:j.length<20):
  Calls prog 227 #[.int .i64 total,.slice A j.length bt,.int .i64 S] w fun e w'=>∃g,e=.returned (.slice (some ⟨g,0,none⟩) j.length j.length)/\w.heap.size<=g/\RowI w' g (eB total j)/\Below w.heap.size w w':=by
 have C8:=agf (total:=total) V;have IE:Hid (∀k (hk:k<j.length),(0<=total*j[k]/\total*j[k]<=1000000000000000000)/\(total*j[k]).tdiv (aL j)=total*j[k]/aL j/\(total*j[k]).tmod (aL j)=total*j[k]%aL j/\(0<=total*j[k]/aL j/\total*j[k]/aL j<=1000000000)):=fun k hk=>X7 h0 U hw V hk;have XI:∀x∈cT total j,0<=x:=Qj h0 (fun x hx=>(hw x hx).1) V;have bv:=NT (total:=total) V;have X:Hid (∀k,0<=aL ((cT total j).take k)/\aL ((cT total j).take k)<=total):=fun k=>by have:=aof XI k;omega
 have OW:Hid (∀i,0<=(cT total j).getD i 0/\(cT total j).getD i 0<=1000000000):=fun i=>by have:=JV XI i;have h2:=aho XI i;omega
 have Q:Hid ((cT total j).length=j.length):=by simp[Hid,cT]
 have BW:Hid ((kQ total j).length=j.length):=by simp[Hid,kQ]
 have aO:Hid (∀l:List Nat,l.Perm (List.range j.length)->l.Pairwise (Lv (kQ total j))->eB total j=mO (cT total j) (l.take (ny total j).toNat)):=fun l U h2=>aoe V l U h2;have jh:=Yd V;have D5:=NU j.length (by omega);have bV:(S==0)=false:=by rw[ass];omega
 have bW:0<S:=by omega
 have HS:=arH hS;have aS:Hid (0<=ny total j/\ny total j<=j.length):=C8;have aT:Hid (ny total j=total-aL (cT total j)):=rfl;clear XI bv hw V bu C8;obtain⟨n,hn⟩:∃n,j.length=n:=⟨_,rfl⟩
 have D:=arH hn;rw[hn]at D5 jh hl|-;clear hn hS;go_enter func227,ntmps227;go_upto_region 4 with fail
 have fC:=RowI.made w n;have O:=bD w (.cells (madeCells #[.int .i64 0] n) 3);have e1:(w.alloc (.cells (madeCells #[.int .i64 0] n) 3)).heap.size=w.heap.size+1:=by simp
 generalize w.alloc (.cells (madeCells #[.int .i64 0] n) 3)=w1 at fC O e1|-;have iQ:=RowI.made w1 n;have P:=bD w1 (.cells (madeCells #[.int .i64 0] n) 3);have e2:(w1.alloc (.cells (madeCells #[.int .i64 0] n) 3)).heap.size=w.heap.size+1+1:=by simp;omega
 rw[e1]at iQ;generalize w1.alloc (.cells (madeCells #[.int .i64 0] n) 3)=w2 at iQ P e2|-;have hH:=ah.new w2 34 #[.slice (some ⟨w.heap.size+1,0,none⟩) n n];have Y:=bD w2 (.cells #[.slice (some ⟨w.heap.size+1,0,none⟩) n n] 34);have e3:(w2.alloc (.cells #[.slice (some ⟨w.heap.size+1,0,none⟩) n n] 34)).heap.size=w.heap.size+1+1+1:=by simp;omega
 rw[e2]at hH;generalize w2.alloc (.cells #[.slice (some ⟨w.heap.size+1,0,none⟩) n n] 34)=w3 at hH Y e3|-;have CZ:=RowI.made w3 n;have I:=bD w3 (.cells (madeCells #[.int .i64 0] n) 3);rw[e3]at CZ;generalize w3.alloc (.cells (madeCells #[.int .i64 0] n) 3)=w4 at CZ I|-;have Kz:=aB Y I;have E:ahz total j w w.heap.size (w.heap.size+1) (w.heap.size+1+1+1) (w.heap.size+1+1) n 0 w4:=by
  refine⟨?_,?_,?_,⟨?_,(hH.aa I).lt⟩,aB O (aB P Kz)⟩
  ·rw[JT];exact(fC.aa P).aa Kz
  ·rw[JT];exact iQ.aa Kz
  ·rw[JT];exact CZ
  ·exact(hH.aa I).cell 0
 clear fC O iQ P hH Y CZ I Kz e1 e2 e3 D5;obtain⟨gr,Z⟩:∃g,g=w.heap.size+1:=⟨_,rfl⟩
 obtain⟨L,ab⟩:∃g,g=gr+1:=⟨_,rfl⟩
 obtain⟨N,ad⟩:∃g,g=L+1:=⟨_,rfl⟩
 rw[<-Z,<-ab,<-ad]at E;rw[<-Z,<-ab,<-ad];have n1:w.heap.size≠gr:=by omega
 have n2:w.heap.size≠L:=by omega
 have n3:w.heap.size≠N:=by omega
 have n4:gr≠L:=by omega
 have n5:gr≠N:=by omega
 have n6:L≠N:=by omega
 have n7:w.heap.size<=gr:=by omega
 have n8:w.heap.size<=N:=by omega
 clear Z ab ad;go_wp2
 go_loopw [10,27] (fun ms i wr=>∃k:Nat,k<=n/\i=.int .i64 k/\ms=.int .i64 (total-aL ((cT total j).take k))/\ahz total j w w.heap.size gr N L n k wr) (fun _ i _=>n-(intOf i).toNat)
 case atStart=>exact⟨0,by omega,rfl,by simp[aL],E⟩
 case round=>
  clear E;obtain⟨k,hk,rfl,rfl,E⟩:=hrel;obtain⟨s0,s1⟩:=X.out k;by_cases u:k<n
  ·have JH:k<j.length:=(by rw[D.out];exact u);obtain⟨b1,Ff,rfl,O,aU⟩:=(h.aa E.b).at_ JH;have c0:=aU 0 _ rfl;simp only[arL,ast]at c0;obtain⟨⟨p0,p1⟩,e1,e2,q0,q1⟩:=IE.out k JH;have HP:=arH (X8 (total:=total) JH);have HR:=arH (X9 (total:=total) JH);have B:=arH (Yb (cT total j) k (by rw[Q.out];exact JH));obtain⟨s2,s3⟩:=X.out (k+1);rw[B.out,HP.out]at s2 s3;rw[HP.out]at B;rw[<-HS.out]at e1 e2 q0 q1 HP HR s2 s3 B;have eC:(k:Int)<(n:Int):=(by omega);have HD:=arH E;clear aU h E;go_upto_region 8 with fail
   refine M3.iq (C:=Ay L (.slice (some ⟨gr,0,none⟩) n n)) (Ay.j5 _ _) HD.out.h (aE:=?aE) [0,1,2,3,4,5,6,7,8,9,10,11,12,13] 4 (by kernel_rfl) (by kernel_rfl) rfl (by kernel_rfl) (by kernel_rfl) (by rfl) ?H ?M
   case H=>
    intro F hF bU;simp only[M3.cD,arQ,arR,arS];have q9:∀p:aP (Ay L (.slice (some ⟨gr,0,none⟩) n n)) F,p.w'.cell? ⟨L,0,none⟩=some (.slice (some ⟨gr,0,none⟩) n n):=fun p=>p.h.c
    repeat(go_big_quiet_step(fail))
    refine wpQuiet_nil ?_;rfl
   case M=>
    intro Q0 bO;have aV:=HD.out.p;have aZ:=HD.out.r;have a0:=HD.out.o;have a1:=HD.out.b;clear HD;refine M3.bG [14] (by kernel_rfl) (by simp) ?_;intro wa a2 T6 i hi;rw[asv]at hi;subst hi;have a3:=aV.aa T6;have rwa:=aZ.aa T6;have a4:=a0.aa T6;have a5:=aB a1 T6;clear T6 aV aZ a0 a1;refine M3.bw (.pointer (some ⟨w.heap.size,k,none⟩)) wa rfl rfl (by go_simp) ⟨a2,?_⟩;simp only[Act.put,ar4];refine M3.bG [15] (by kernel_rfl) (by simp) ?_;intro wb a6 T7 i hi;rw[asv]at hi;subst hi;have T8:=a3.aa T7;have a7:=rwa.aa T7;have a8:=a4.aa T7;have a9:=aB a5 T7;clear T7 a3 rwa a4 a5;have z:=T8.cell (i:=k) (by rw[BU _ _ _ (Q.out.trans D.out) (by omega)];exact u);have fz:=T8.frozen k;have FX:=T8.lt;refine M3.eF (wb.setCell ⟨w.heap.size,k,none⟩ (.int .i64 (total*j[k]/S))) rfl rfl (by go_simp) ⟨a6.set (fun e=>n2 e.symm) _ _,?_⟩;simp only[Act.put];have ae:=T8.WY (Q.out.trans D.out) u (v:=total*j[k]/S) HP.out.symm;have af:=a7.far (p:=⟨w.heap.size,k,none⟩) (fun e=>n1 e.symm) (.int .i64 (total*j[k]/S));have ai:=a8.far (p:=⟨w.heap.size,k,none⟩) (fun e=>n3 e.symm) (.int .i64 (total*j[k]/S));have al:=iX a9 (arI w.heap.size) k (.int .i64 (total*j[k]/S));generalize wb.setCell ⟨w.heap.size,k,none⟩ (.int .i64 (total*j[k]/S))=wc at ae af ai al|-;clear a2 a6 T8 a7 a8 a9 z fz FX;refine M3.bG [16] (by kernel_rfl) (by simp) ?_;intro wd ba T9 i hi;rw[asv]at hi;subst hi;have bb:=ae.aa T9;have bc:=af.aa T9;have bd:=ai.aa T9;have be:=aB al T9;clear T9 ae af ai al;refine M3.bw (.pointer (some ⟨gr,k,none⟩)) wd rfl rfl (by go_simp) ⟨ba,?_⟩;simp only[Act.put];refine M3.bG [17] (by kernel_rfl) (by simp) ?_;intro we bf Ua i hi;rw[asv]at hi;subst hi;have bg:=bb.aa Ua;have Ub:=bc.aa Ua;have bh:=bd.aa Ua;have bi:=aB be Ua;clear Ua bb bc bd be;have z:=Ub.cell (i:=k) (by rw[BU _ _ _ (BW.out.trans D.out) (by omega)];exact u);have fz:=Ub.frozen k;have FX:=Ub.lt;have am:=bf.set (g':=gr) (fun e=>n4 e.symm) k (.int .i64 (total*j[k]%S));refine M3.eF (we.setCell ⟨gr,k,none⟩ (.int .i64 (total*j[k]%S))) rfl rfl (by go_simp) ⟨am,?_⟩;simp only[Act.put];have an:=bg.far (p:=⟨gr,k,none⟩) n1 (.int .i64 (total*j[k]%S));have ao:=Ub.WY (BW.out.trans D.out) u (v:=total*j[k]%S) HR.out.symm;have ap:=bh.far (p:=⟨gr,k,none⟩) (fun e=>n5 e.symm) (.int .i64 (total*j[k]%S));have au:=iX bi n7 k (.int .i64 (total*j[k]%S));generalize we.setCell ⟨gr,k,none⟩ (.int .i64 (total*j[k]%S))=wf at an ao ap au am|-;clear ba bf bg Ub bh bi z fz FX;refine M3.jZ (by kernel_rfl) ?_;intro wg bk J;refine bO _ _ ?_;have av:=an.aa J;have bl:=ao.aa J;have Uc:=ap.aa J;have bn:=aB au J;clear J an ao ap au am bO;have zo:=Uc.cell (i:=k) (by rw[BU _ _ _ (abI n) (by omega)];exact u);have fo:=Uc.frozen k;have lo:=Uc.lt;have zp:=av.cell (i:=k) (by rw[BU _ _ _ (Q.out.trans D.out) (by omega)];exact u);rw[Ya _ _ _ u (Q.out.trans D.out),HP.out]at zp;generalize (upto (JM n) n k).getD k 0=oz at zo;have bx:=arH av;have RO:=arH bl;have bz:=arH Uc;have bA:=arH bn;have bB:=arH bk;have pJ:total-aL ((cT total j).take (k+1))=total-aL ((cT total j).take k)-total*j[k]/S:=(by rw[B.out];omega);have XJ:=arH pJ;clear pJ av bl Uc bn bk;generalize aL ((cT total j).take k)=sk at*;go_wp2;go_roundw
    case rel=>refine⟨k+1,by omega,by go_num,by rw[XJ.out],⟨bx.out.far (p:=⟨N,k,none⟩) n3 _,RO.out.far (p:=⟨N,k,none⟩) n5 _,bz.out.WY (abI n) u (apT u).symm,bB.out.set n6 _ _,iX bA.out n8 _ _⟩⟩
    case measure=>simp[intOf];omega
  ·obtain rfl:k=n:=by omega
   obtain⟨m,hm⟩:∃m,k=m+1:=⟨k-1,by omega⟩
   have XK:=E.p;rw[JU _ _ (Q.out.trans D.out)]at XK;have Tg:=E.r;rw[JU _ _ (BW.out.trans D.out)]at Tg;have az:=E.o;rw[JU _ _ (abI k)]at az;have aA:=E.h;have Et:=E.b;have BV:=XK.lt;have XL:=BW.out.trans D.out;have K:(List.finRange (m+1)).length=k:=(by simp[hm]);have aJ:=apS (PY (m:=m) (kQ total j)) 254 #[.pointer (some ⟨L,0,none⟩)] N k (List.finRange (m+1)) wr
    (by rw[asz];intro a b ha hb bE;simpa using bE) (apX _) (enters_of func254 (by kernel_rfl) rfl)
    (CmpReads.lays (fun mm os dk bX x y=>by have hg:=ahy DX wr N 0 mm dk os;have iQ:=Tg.grown hg (fun e=>n5 (by injection e));exact apW L gr k (kQ total j) x.val y.val _ (by rw[XL,hm];exact x.isLt) (by rw[XL,hm];exact y.isLt) XL (aA.grown hg (fun e=>n6 (by injection e))) (fun q hq=>iQ.cell hq)))
    (by rw[apU,<-hm];exact az) (by rw[K];omega)
   rw[K]at aJ;have B:=arH aJ;have Af:∃G:Nat,total-aL ((cT total j).take k)=(G:Int)/\(ny total j).toNat=G/\G<=k:=by have U:=aS.out;have h2:=aT.out;rw[D.out]at U;refine⟨(ny total j).toNat,?_,rfl,by omega⟩;rw[asB (by rw[Q.out,D.out];exact arI _)];omega
   obtain⟨G,Af,bo,D5⟩:=Af;have XJ:Hid (∀l:List (Fin (m+1)),l.Perm (List.finRange (m+1))->l.Pairwise (fun a b=>lT (ltOf (PY (kQ total j))) (·.val) a b=true)->eB total j=mO (cT total j) ((l.map (·.val)).take G)):=fun l U h2=>by rw[aO.out (l.map (·.val)) (by rw[D.out,hm,<-apZ];exact U.map _) (apY _ h2),bo]
   rw[Af];have bq:=arH hm;have Yu:=Yv N 0 k k (G:Int) G rfl D5 (by omega);have Rm:=arH aA;clear aJ E Tg az aA XL K Af bo hm aO aS aT h IE X s0 s1;go_wp2_with fail;refine arP B.out ?_;rintro e w5 ⟨rfl,l,hp,br,aK,bp⟩;have HY:=arH (XJ.out l hp br);have pX:l.length=k:=(by rw[hp.length_eq,bq.out];simp);have bH:=XK.grown bp (fun e=>n3 (by injection e));have eJ:=kN Et bp (fun q e=>by injection e;omega);have bL:=arH pX;clear B XJ hp br XK Et bp pX;go_wp2
   go_loopw [66] (fun i wr=>∃q:Nat,q<=G/\i=.int .i64 q/\RowI wr w.heap.size (mO (cT total j) ((l.map (·.val)).take q))/\w5.grownBy wr (some w.heap.size)) (fun i _=>G-(intOf i).toNat)
   case atStart=>exact⟨0,by omega,rfl,by simpa[mO]using bH,fe _ _⟩
   case round=>
    rename World=>bY
    obtain⟨q,hq,rfl,R,jo⟩:=hrel;by_cases b0:q<G
    ·have aN:q<l.length:=(by rw[bL.out];omega);have bs:=aK.grown jo (fun e=>n3 (by injection e;omega));have zo:=bs.cell (i:=q) (by simpa[BS]using aN);have T:(BS l).getD q 0=((l[q].val:Nat):Int):=(by simp[BS,arW aN]);rw[T]at zo;have KD:l[q].val<k:=(by rw[bq.out];exact l[q].isLt);have zU:(l.map (·.val)).take (q+1)=(l.map (·.val)).take q++[l[q].val]:=by
      rw[ar9 (by simpa using aN)];simp
     obtain⟨x0,x1⟩:=apV ((l.map (·.val)).take q) (cT total j) l[q].val;obtain⟨y0,y1⟩:=OW.out l[q].val;have B4:(mO (cT total j) ((l.map (·.val)).take q)).length=k:=(by rw[aoc,Q.out,D.out]);have zp:=R.cell (i:=l[q].val) (by rw[B4];exact KD);have fp:=R.frozen l[q].val;have lp:=R.lt;have gw:((l.map (·.val)).take q).length<=q:=(by simp;omega);have bQ:=arH (R.set (i:=l[q].val) (by rw[B4];exact KD) ((mO (cT total j) ((l.map (·.val)).take q)).getD l[q].val 0+1));have qb:Hid (mO (cT total j) ((l.map (·.val)).take (q+1))=(mO (cT total j) ((l.map (·.val)).take q)).set l[q].val ((mO (cT total j) ((l.map (·.val)).take q)).getD l[q].val 0+1)):=(by rw[Hid,zU,aod]);have z0:0<=(mO (cT total j) ((l.map (·.val)).take q)).getD l[q].val 0:=(by omega);have z1:(mO (cT total j) ((l.map (·.val)).take q)).getD l[q].val 0<=2000000000:=(by omega);have b2:((l[q].val:Nat):Int)<(k:Int):=(by omega);have b3:(q:Int)<(G:Int):=(by omega);have bS:=arH jo;clear T zU x0 x1 y0 y1 B4 gw R bs aK jo;generalize (mO (cT total j) ((l.map (·.val)).take q)).getD l[q].val 0=x at*;generalize l[q].val=v at*;go_wp2;go_roundw
     case rel=>exact⟨q+1,by omega,by go_num,by rw[qb.out];exact bQ.out,bm bS.out (.inl rfl) _⟩
     case measure=>simp[intOf];omega
    ·obtain rfl:q=G:=by omega
     rw[<-HY.out]at R;have bT:=arH R;have ay:=kN eJ jo (fun q e=>by injection e;omega);have ji:=arH ay;clear R ay jo aK;go_wp2;go_ret;exact⟨w.heap.size,rfl,arI _,bT.out,ji.out⟩
theorem anM(j:Int)(A:Option Addr)(r:Nat)(n:List Int)(w:World)(h:aj encI 1 w w.heap.size A n)(J:0<=j)(K:j<=1000000000)(y:∀x∈n,0<=x/\x<=1000000000)(z:0<aL n)(L:n.length<20):
  Calls prog 204 #[.int .i64 j,.slice A n.length r] w fun e w'=>∃g,e=.returned (.tuple #[.slice (some ⟨g,0,none⟩) n.length n.length,.int .i64 0])/\w.heap.size<=g/\RowI w' g (eB j n)/\Below w.heap.size w w':=by
 have D:=(kR (l:=n) (B:=1000000000) y).2;have E:=arH (ap0 j A r n (aL n) w h J K y z rfl (by omega) L);have F:=arH y;have M:=arH z;clear y z D;go_enter func204,ntmps204;go_wp2
 go_loop [6,22] (fun N i=>∃k:Nat,k<=n.length/\i=.int .i64 k/\N=.int .i64 (aL (n.take k))) (fun _ i=>n.length-(intOf i).toNat)
 case atStart=>exact⟨0,by omega,rfl,rfl⟩
 case round=>
  obtain⟨k,Y,rfl,rfl⟩:=hrel;have u:=kR (l:=n.take k) (B:=1000000000) (fun x O=>F.out x (ar6 O));simp only[asA]at u;obtain⟨P,Q⟩:=u;have R:aL (n.take k)<=20000000000:=by omega
  clear Q;by_cases p:k<n.length
  ·obtain⟨b,S,rfl,D,G⟩:=h.at_ p;have T:=G 0 _ rfl;simp only[arL,ast]at T;have U:=arH (Qi n k p);obtain⟨Z,x1⟩:=F.out _ (arO p);clear G;go_wp2;go_round
   case rel=>exact⟨k+1,by omega,by go_num,by rw[U.out]⟩
   case measure=>simp[intOf];omega
  ·obtain rfl:k=n.length:=by omega
   rw[asB (by omega)]at P R|-;have hz:(aL n==0)=false:=(by rw[ass];have:=M.out;omega);go_wp2_with fail;refine arP E.out ?_;rintro e w1 ⟨g,rfl,V,I,C⟩;have X:=arH I;clear I E;go_wp2;go_ret2;exact⟨g,rfl,V,X.out,C⟩
