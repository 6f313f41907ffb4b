/- Conditions: as stated. -/
import Derived.Shelf.SlGeneric
import Derived.Shelf.SlSortCmp.Insertion1
import Derived.Test.YtlhkojcmcmkmaaaGreatCMix2
import Derived.Test.YtlhkojcmcmkmaaaGreatCP29b
set_option maxRecDepth 100000
set_option maxHeartbeats 8000000
namespace Go.Proofs.YtlhkojcmcmkmaaaGreat
open Go.Proofs.Tryz
open Go.RowKit Go.Sort Go.Shelf
def arJ:Go.Shelf.Ren:=⟨fun|20=>257|n=>n,fun|0=>0|3=>3|4=>4|22=>34|24=>3|25=>22|n=>n,fun n=>n⟩
theorem arK:Go.Proofs.SlLaysF.n20 prog arJ:={
 mixed:=by kernel_rfl
 f20:=⟨Tryz.f257.name,by decide,Tryz.func257.trans (congrArg some (by kernel_rfl))⟩
 t0:=underlying0
 a0:=Tryz.isAgg0
 z0:=Tryz.sizeOf0
 v0:=Tryz.zeroValue0
 t3:=underlying3
 a3:=Tryz.isAgg3
 z3:=Tryz.sizeOf3
 v3:=Tryz.zeroValue3
 t4:=underlying4
 a4:=Tryz.isAgg4
 z4:=Tryz.sizeOf4
 v4:=Tryz.zeroValue4
 t22:=underlying34
 a22:=Tryz.isAgg34
 z22:=Tryz.sizeOf34
 v22:=Tryz.zeroValue34
 a24:=Tryz.isAgg3
 z24:=Tryz.sizeOf3
 t25:=underlying22
 a25:=Tryz.isAgg22
 z25:=Tryz.sizeOf22
 v25:=Tryz.zeroValue22}
def nM{m:Nat}(i:Fin (m+1)):Value:=.int .i64 (i.val:Int)
def dT{m:Nat}(e:List (Fin (m+1))):List Int:=e.map fun i=>(i.val:Int)
theorem RowI.holds{m:Nat}{w:World}{g:Nat}{l:List (Fin (m+1))}(h:RowI w g (dT l)):Holds nM w g 0 l.toArray:=fun j n=>by
 have e:j<l.length:=by simpa using n
 have p:=h.cell (i:=j) (by simpa[dT]using e);rw[atX];refine⟨?_,h.frozen j⟩;rw[p,aum _ j n];simp[dT,nM,atW e]
theorem RowI.sorted{m:Nat}{w:World}{g:Nat}{n ys:List (Fin (m+1))}(h:RowI w g (dT n))(p:ys.length=n.length):RowI (putRow nM w g 0 ys.toArray) g (dT ys)/\w.grownBy (putRow nM w g 0 ys.toArray) (some g):=by
 obtain⟨c,r,u,y⟩:=h;refine⟨⟨putCells nM 0 ys.toArray c,?_,?_,fun i hi=>?_⟩,⟨rfl,rfl,rfl,by simp,fun i hi l=>?_⟩⟩
 ·show(w.heap.modify g _)[g]?=_;rw[auU,atP rfl,r];rfl
 ·simp only[putCells,Array.size_mapIdx,u];simp[dT,p]
 ·have j:i<ys.length:=by simpa[dT]using hi
  have z:=y i (by simp[dT];omega);simp only[putCells,Array.getElem?_mapIdx,z,Option.map_some];rw[atP ⟨Nat.zero_le _,by simpa using j⟩,Nat.sub_zero,aum _ i (by simpa using j)];simp[dT,nM,atW j]
 ·have B:¬g=i:=fun e=>l (by rw[e]);show(w.heap.modify g _)[i]?=_;rw[auU,atO B]
theorem XX{n:Type}[Inhabited n](l:n->Value)(w:World)(j off m:Nat)(d:Array n)(os:Array Obj):w.grownBy (sortWorld l w j off m d os) (some j):=by
 refine⟨rfl,rfl,rfl,?_,fun i hi p=>?_⟩
 ·show w.heap.size<=((putRow l (Sort.ahead w m) j off d).heap++os).size;rw[Array.size_append,size_putRow];exact Nat.le_add_right _ _
 ·have r:j≠i:=fun e=>p (by rw[e]);show((putRow l (Sort.ahead w m) j off d).heap++os)[i]?=w.heap[i]?;rw[avA (by rw[size_putRow];exact hi)];show(w.heap.modify j _)[i]?=_;rw[auU,atO r]
theorem ahN{l:Type}[Inhabited l](e:l->Value)(w:World)(j off m:Nat)(d:Array l)(os:Array Obj):Below (putRow e w j off d).heap.size (putRow e w j off d) (sortWorld e w j off m d os):=by
 refine⟨rfl,rfl,rfl,?_,fun i hi=>?_⟩
 ·show _<=((putRow e (Sort.ahead w m) j off d).heap++os).size;rw[Array.size_append];exact Nat.le_add_right _ _
 ·show((putRow e (Sort.ahead w m) j off d).heap++os)[i]?=_;rw[avA (by simpa using hi)];rfl
theorem ahM{m:Nat}(r:Fin (m+1)->Fin (m+1)->Int)(f:Nat)(z:Array Value)(g p:Nat)(j:List (Fin (m+1)))(w:World)(J:j.Pairwise (fun a b=>a.val<b.val))(hS:SWO (ltOf r))
  (Q:∀args w,(callFunc f args).run prog w=.ok (.enter f args) w) (K:CmpLays1 prog f z nM r g 0 j.length w) (D:Holds nM w g 0 j.toArray) (R:g<w.heap.size) (E:j.length<20):
  Calls prog 207 #[.slice (some ⟨g,0,none⟩) j.length p,.func (.func f) #[] z] w fun e w'=>e=.returned (.tuple #[])/\
   ∃(l:List (Fin (m+1))) (k:Nat) (os:Array Obj),l.Perm j/\l.Pairwise (fun a b=>kW (ltOf r) (·.val) a b=true)/\w'=sortWorld nM w g 0 k l.toArray os:=by
 have C:=Any.insertionSortCmpFunc_s arK nM r f z g 0 p 0 j.length j.toArray j.toArray w w Q (by simpa using K) ⟨fun _=>rfl,D,R⟩ rfl ⟨0,#[],by rw[sortWorld_none];exact(putRow_self _ _ _ _ _ D).symm⟩ (Nat.zero_le _) (by simp) (by simp;omega);obtain⟨l,L,M,B⟩:=arL (lt:=ltOf r) (idx:=fun i=>i.val) hS (fun a b h=>Fin.ext h) j J;have N:insertionSort (ltOf r) j.toArray 0 j.length=l.toArray:=by rw[<-L]
 rw[N]at C;simp only[List.size_toArray]at C;have O:Hid (l.Perm j/\l.Pairwise (fun a b=>kW (ltOf r) (·.val) a b=true)):=⟨M,B⟩
 clear L M B N D K hS J;have F:Hid (Calls prog 257 #[.slice (some ⟨g,0,none⟩) j.length p,.int .i64 0,.int .i64 j.length,.func (.func f) #[] z] w fun e w'=>e=.returned (.tuple #[])/\∃(n:Nat) (os:Array Obj),w'=sortWorld nM w g 0 n l.toArray os):=C.mono fun _ _ ⟨S,n,os,T⟩=>⟨S,n,os,T⟩
 clear C;obtain⟨u,y⟩:∃u,u=l.toArray:=⟨_,rfl⟩
 rw[<-y]at F;obtain⟨n,P⟩:∃n,j.length=n:=⟨_,rfl⟩
 rw[P]at F E|-;have G:=atM y;clear P y;have I:Calls prog 230 #[.slice (some ⟨g,0,none⟩) n p,.int .i64 n,.func (.func f) #[] z] w fun e w'=>e=.returned (.tuple #[])/\∃(k:Nat) (os:Array Obj),w'=sortWorld nM w g 0 k u os:=by
  go_enter func230,ntmps230;have V:decide ((20:Int)<=(n:Int))=false:=by rw[auA];omega
  have X:decide ((20:Int)<(n:Int))=false:=by rw[auA];omega
  go_wp2;refine wp_loop_rounds 1 ?_;rw[rounds_succ];go_wp2_with fail;refine atV F.out ?_;rintro e U ⟨rfl,k,os,rfl⟩;go_wp2;refine wp_loop_rounds 1 ?_;rw[rounds_succ];go_wp2
  go_end0
  exact⟨rfl,k,os,rfl⟩
 go_enter func207,ntmps207;go_wp2_with fail;refine I.mono ?_;rintro e U ⟨rfl,k,os,rfl⟩;go_wp2
 go_end0
 exact⟨rfl,l,k,os,O.out.1,O.out.2,by rw[G.out]⟩
theorem arN{m:Nat}(p:Fin (m+1)->Fin (m+1)->Int)(f:Nat)(r:Array Value)(g l:Nat)(j:List (Fin (m+1)))(w:World)(C:j.Pairwise (fun a b=>a.val<b.val))(hS:SWO (ltOf p))
  (D:∀args w,(callFunc f args).run prog w=.ok (.enter f args) w) (E:CmpLays1 prog f r nM p g 0 j.length w) (u:RowI w g (dT j)) (y:j.length<20):
  Calls prog 207 #[.slice (some ⟨g,0,none⟩) j.length l,.func (.func f) #[] r] w fun e w'=>e=.returned (.tuple #[])/\
   ∃n:List (Fin (m+1)),n.Perm j/\n.Pairwise (fun a b=>kW (ltOf p) (·.val) a b=true)/\RowI w' g (dT n)/\w.grownBy w' (some g):=
 (ahM p f r g l j w C hS D E u.holds u.lt y).mono fun e w' ⟨F,n,k,os,z,G,B⟩=>⟨F,n,z,G,by rw[B];exact(u.sorted z.length_eq).1.aa (ahN _ _ _ _ _ _ _),by rw[B];exact XX _ _ _ _ _ _ _⟩
theorem Own.ap1{m:Nat}{w:World}{g cap base:Nat}{xs:List (Fin (m+1))}(h:Own encI 1 3 w base (.slice (some ⟨g,0,none⟩) xs.length cap) (dT xs)):Holds nM w g 0 xs.toArray:=fun j y=>by
 have n:j<xs.length:=by simpa using y
 have p:j<(dT xs).length:=by simpa[dT]using n
 obtain⟨G,z,r,_,_,C,_⟩:=h.known (by intro e;rw[e]at p;simp at p);injection r with l
 injection l with l
 injection l with l
 subst l;obtain⟨A,c,r,hS,_⟩:=h.form (fun _=>rfl);injection r with l
 subst l;obtain⟨b,off,u,_,D⟩:=hS.at_ p;injection u with u
 injection u with E F
 subst E F;have B:=D 0 _ rfl;simp only[atX,auo,atQ]at B;rw[atX];refine⟨?_,C j⟩;rw[B,aum _ j y];simp[dT,nM]
theorem Own.ap2{m:Nat}{w:World}{g cap base:Nat}{xs ys:List (Fin (m+1))}(h:Own encI 1 3 w base (.slice (some ⟨g,0,none⟩) xs.length cap) (dT xs))(M:ys.length=xs.length):Own encI 1 3 (putRow nM w g 0 ys.toArray) base (.slice (some ⟨g,0,none⟩) ys.length cap) (dT ys)/\w.grownBy (putRow nM w g 0 ys.toArray) (some g):=by
 have p:(dT ys).length=ys.length:=by simp[dT]
 have B:∀j:List (Fin (m+1)),(dT j).flatMap encI=j.map nM:=fun j=>by
  induction j with
  |nil=>rfl
  |cons a j C=>simp only[dT,auW,auI]at C|-;rw[C];rfl
 refine⟨⟨by rw[B,p];simp,?_⟩,⟨rfl,rfl,rfl,by simp,fun i hi r=>?_⟩⟩
 ·rcases h.2 with⟨u,_⟩|⟨N,D,l,u,E,F,G,I,J,O⟩
  ·cases u
  ·injection u with n _ y
   injection n with n
   injection n with n
   subst n y;have K:(dT xs).length=xs.length:=(by simp[dT]);rw[K]at G;refine .inr ⟨g,cap,putCells nM 0 ys.toArray l,by rw[p],E,?_,by rw[p];omega,I,by simpa[putCells]using J,?_⟩
   ·show(w.heap.modify g _)[g]?=_;rw[auU,atP rfl,F];rfl
   ·rw[B,p,auo];apply List.ext_getElem?;intro i;rw[avc,au0];by_cases hi:i<ys.length
    ·have z:i<l.size:=(by omega);rw[atP hi];simp only[Array.getElem?_toList,putCells,Array.getElem?_mapIdx,au8 z,Option.map_some];rw[atP ⟨Nat.zero_le _,by simpa using hi⟩,Nat.sub_zero,aum _ i (by simpa using hi),atW hi];simp
    ·rw[atO hi,avu (by omega)];rfl
 ·have L:¬g=i:=fun e=>r (by rw[e]);show(w.heap.modify g _)[i]?=_;rw[auU,atO L]
theorem ahK(f:Nat)(l:Array Value)(A:Option Addr)(j:Nat)(w:World):
  Calls prog 207 #[.slice A 0 j,.func (.func f) #[] l] w fun e w'=>e=.returned (.tuple #[])/\w'=w:=by
 have p:∀w:World,Calls prog 257 #[.slice A 0 j,.int .i64 0,.int .i64 0,.func (.func f) #[] l] w fun e w'=>e=.returned (.tuple #[])/\w'=w:=fun w=>by
  go_enter func257,ntmps257;go_wp2;refine wp_loop_rounds 1 ?_;rw[rounds_succ];go_wp2
  go_end0
  exact⟨rfl,rfl⟩
 have n:∀w:World,Calls prog 230 #[.slice A 0 j,.int .i64 0,.func (.func f) #[] l] w fun e w'=>e=.returned (.tuple #[])/\w'=w:=fun w=>by
  go_enter func230,ntmps230;go_wp2;refine wp_loop_rounds 1 ?_;rw[rounds_succ];go_wp2_with fail;refine(p _).mono ?_;rintro e r ⟨rfl,rfl⟩;go_wp2;refine wp_loop_rounds 1 ?_;rw[rounds_succ];go_wp2
  go_end0
  exact⟨rfl,rfl⟩
 go_enter func207,ntmps207;go_wp2_with fail;refine(n _).mono ?_;rintro e r ⟨rfl,rfl⟩;go_wp2
 go_end0
 exact⟨rfl,rfl⟩
structure qf(g:Nat)(v:Value)(w:World):Prop where
 c:w.cell? ⟨g,0,none⟩=some v
 lt:g<w.heap.size
theorem qf.jw(g:Nat)(v:Value):gH (qf g v):=fun _ _ h e=>⟨(e.cell (p:=⟨g,0,none⟩) h.lt).trans h.c,auD h.lt e.size⟩
theorem qf.aa{g:Nat}{v:Value}{w w':World}(h:qf g v w)(e:Below w.heap.size w w'):qf g v w':=qf.jw g v _ _ h e
theorem qf.grown{g:Nat}{v:Value}{w w':World}{row:Option Nat}(h:qf g v w)(e:w.grownBy w' row)(j:some g≠row):qf g v w':=⟨(auX (e.block g h.lt j)).trans h.c,auD h.lt e.size⟩
theorem qf.set{g:Nat}{v:Value}{w:World}(h:qf g v w){g':Nat}(j:g≠g')(i:Nat)(u:Value):qf g v (w.setCell ⟨g',i,none⟩ u):=h.grown (bg (p:=⟨g',i,none⟩) (dX w (some g')) (.inl rfl) u) (fun e=>j (by injection e))
def J2(n:Nat):List Int:=(List.range n).map fun(i:Nat)=>(i:Int)
theorem acN(n:Nat):(J2 n).length=n:=by simp[J2]
theorem arO{n k:Nat}(h:k<n):(J2 n).getD k 0=k:=by simp[J2,List.getElem?_range h]
theorem arP(m:Nat):dT (List.finRange (m+1))=J2 (m+1):=by
 apply List.ext_getElem
 ·simp[dT,J2]
 ·intro i e j;simp[dT,J2]
theorem RowI.XN{w:World}{g n k:Nat}{l:List Int}(h:RowI w g (upto l n k))(e:l.length=n)(j:k<n){v:Int}(p:v=l.getD k 0):RowI (w.setCell ⟨g,k,none⟩ (.int .i64 v)) g (upto l n (k+1)):=by subst p;rw[<-Q1 l n k e j];exact h.set (by rw[BR l n k e (by omega)];exact j) _
theorem arQ(l:List Nat)(P:List Int)(i:Nat):P.getD i 0<=(nh P l).getD i 0/\(nh P l).getD i 0<=P.getD i 0+l.length:=by
 induction l generalizing P with
 |nil=>simp[nh]
 |cons a l j=>
  have h:=j (P.set a (P.getD a 0+1));have e:(P.set a (P.getD a 0+1)).getD i 0=P.getD i 0\/(P.set a (P.getD a 0+1)).getD i 0=P.getD i 0+1:=by
   rw[atZ,List.getElem?_set,atZ];by_cases e:a=i
   ·subst e;by_cases h:a<P.length
    ·right;simp[h]
    ·left;simp[h]
   ·left;simp[e]
  unfold nh at*;rw[au1];simp only[at4,Int.natCast_add];omega
theorem arR(p r n:Nat)(R:List Int)(i j:Nat)(w:World)(hi:i<R.length)(y:j<R.length)(E:R.length=n)(u:qf p (.slice (some ⟨r,0,none⟩) n n) w)(l:∀k,k<R.length->w.cell? ⟨r,k,none⟩=some (.int .i64 (R.getD k 0))):
  Calls prog 254 #[.int .i64 (i:Int),.int .i64 (j:Int),.pointer (some ⟨p,0,none⟩)] w fun e w'=>e=.returned (.int .i64 (kG (R.getD j 0) (R.getD i 0)))/\∃q,w'=w.drewN q:=by
 have F:=u.c;have G:=l i hi;have I:=l j y;have z:(i:Int)<(n:Int):=by omega
 have B:(j:Int)<(n:Int):=by omega
 clear l u;generalize R.getD i 0=J at*;generalize R.getD j 0=K at*;go_enter func254,ntmps254;go_wp2;go_quiet((go_at_call 84;exact Calls.quiet_of_same ((Ni _ _ _).mono fun e w' ⟨C,D⟩=>⟨C,D.symm⟩)));go_wp2;go_ret;exact⟨rfl,nq,rfl⟩
structure aje(total:Int)(ws:List Int)(w0:World)(gp gr go gh n k:Nat)(w:World):Prop where
 p:RowI w gp (upto (cW total ws) n k)
 r:RowI w gr (upto (k6 total ws) n k)
 o:RowI w go (upto (J2 n) n k)
 h:qf gh (.slice (some ⟨gr,0,none⟩) n n) w
 b:Below w0.heap.size w0 w
def QF{m:Nat}(R:List Int)(a b:Fin (m+1)):Int:=kG (R.getD b.val 0) (R.getD a.val 0)
theorem UR{m:Nat}(R:List Int)(a b:Fin (m+1)):ltOf (QF R) a b=decide (R.getD b.val 0<R.getD a.val 0):=by
 unfold ltOf QF kG;generalize R.getD a.val 0=x;generalize R.getD b.val 0=y;by_cases h:y<x
 ·simp[h]
 ·rw[atO h];split<;>simp<;>omega
theorem arS{m:Nat}(R:List Int):SWO (ltOf (QF (m:=m) R)) where
 irrefl x:=by rw[UR];simp
 trans x y z e j:=by rw[UR,auc]at*;omega
 ntrans x y z e j:=by rw[UR,auA]at*;omega
theorem arT{m:Nat}(R:List Int){j:List (Fin (m+1))}(h:j.Pairwise (fun a b=>kW (ltOf (QF R)) (·.val) a b=true)):(j.map (·.val)).Pairwise (LW R):=by rw[au3];refine h.imp fun{a b} e=>?_;unfold kW at e;rw[UR,UR]at e;simp only[avn,aub,Bool.not_eq_true',auc,auA]at e;unfold LW;omega
theorem arU(n:Nat):(List.finRange n).map (fun i=>i.val)=List.range n:=by
 apply List.ext_getElem
 ·simp
 ·intro i e j;simp
theorem arV(total:Int)(A:Option Addr)(bu:Nat)(j:List Int)(S:Int)(w:World)(h:ai encI 1 w w.heap.size A j)(h0:0<=total)(V:total<=1000000000)(hw:∀x∈j,0<=x/\x<=1000000000)(X:0<ax j)(hS:S=ax j)(bv:ax j<=20000000000)(hl:j.length<20):
  Calls prog 227 #[.int .i64 total,.slice A j.length bu,.int .i64 S] w fun e w'=>∃g,e=.returned (.slice (some ⟨g,0,none⟩) j.length j.length)/\w.heap.size<=g/\RowI w' g (en total j)/\Below w.heap.size w w':=by
 have Df:=ahm (total:=total) X;have Ki:Hid (∀k (hk:k<j.length),(0<=total*j[k]/\total*j[k]<=1000000000000000000)/\(total*j[k]).tdiv (ax j)=total*j[k]/ax j/\(total*j[k]).tmod (ax j)=total*j[k]%ax j/\(0<=total*j[k]/ax j/\total*j[k]/ax j<=1000000000)):=fun k hk=>Y9 h0 V hw X hk;have Gw:∀x∈cW total j,0<=x:=Q4 h0 (fun x hx=>(hw x hx).1) X;have KC:=Ox (total:=total) X;have Fk:Hid (∀k,0<=ax ((cW total j).take k)/\ax ((cW total j).take k)<=total):=fun k=>by have:=ahq Gw k;omega
 have PG:Hid (∀i,0<=(cW total j).getD i 0/\(cW total j).getD i 0<=1000000000):=fun i=>by have:=IY Gw i;have h2:=ach Gw i;omega
 have R:Hid ((cW total j).length=j.length):=by simp[Hid,cW]
 have BU:Hid ((k6 total j).length=j.length):=by simp[Hid,k6]
 have KE:Hid (∀l:List Nat,l.Perm (List.range j.length)->l.Pairwise (LW (k6 total j))->en total j=nh (cW total j) (l.take (nS total j).toNat)):=fun l V h2=>aps X l V h2;have jl:=Ze X;have Cw:=Oy j.length (by omega);have bF:(S==0)=false:=by rw[auj];omega
 have bJ:0<S:=by omega
 have HS:=atM hS;have aR:Hid (0<=nS total j/\nS total j<=j.length):=Df;have aS:Hid (nS total j=total-ax (cW total j)):=rfl;clear Gw KC hw X bv Df;obtain⟨n,hn⟩:∃n,j.length=n:=⟨_,rfl⟩
 have E:=atM hn;rw[hn]at Cw jl hl|-;clear hn hS;go_enter func227,ntmps227;go_upto_region 4 with fail
 have jv:=RowI.made w n;have P:=bC w (.cells (madeCells #[.int .i64 0] n) 3);have e1:(w.alloc (.cells (madeCells #[.int .i64 0] n) 3)).heap.size=w.heap.size+1:=by simp
 generalize w.alloc (.cells (madeCells #[.int .i64 0] n) 3)=w1 at jv P e1|-;have jW:=RowI.made w1 n;have Q:=bC w1 (.cells (madeCells #[.int .i64 0] n) 3);have e2:(w1.alloc (.cells (madeCells #[.int .i64 0] n) 3)).heap.size=w.heap.size+1+1:=by simp;omega
 rw[e1]at jW;generalize w1.alloc (.cells (madeCells #[.int .i64 0] n) 3)=w2 at jW Q e2|-;have hH:=ah.new w2 34 #[.slice (some ⟨w.heap.size+1,0,none⟩) n n];have Y:=bC w2 (.cells #[.slice (some ⟨w.heap.size+1,0,none⟩) n n] 34);have e3:(w2.alloc (.cells #[.slice (some ⟨w.heap.size+1,0,none⟩) n n] 34)).heap.size=w.heap.size+1+1+1:=by simp;omega
 rw[e2]at hH;generalize w2.alloc (.cells #[.slice (some ⟨w.heap.size+1,0,none⟩) n n] 34)=w3 at hH Y e3|-;have AE:=RowI.made w3 n;have J:=bC w3 (.cells (madeCells #[.int .i64 0] n) 3);rw[e3]at AE;generalize w3.alloc (.cells (madeCells #[.int .i64 0] n) 3)=w4 at AE J|-;have YF:=aA Y J;have G:aje total j w w.heap.size (w.heap.size+1) (w.heap.size+1+1+1) (w.heap.size+1+1) n 0 w4:=by
  refine⟨?_,?_,?_,⟨?_,(hH.aa J).lt⟩,aA P (aA Q YF)⟩
  ·rw[Ka];exact(jv.aa Q).aa YF
  ·rw[Ka];exact jW.aa YF
  ·rw[Ka];exact AE
  ·exact(hH.aa J).cell 0
 clear jv P jW Q hH Y AE J YF e1 e2 e3 Cw;obtain⟨B,Z⟩:∃g,g=w.heap.size+1:=⟨_,rfl⟩
 obtain⟨N,ab⟩:∃g,g=B+1:=⟨_,rfl⟩
 obtain⟨O,ad⟩:∃g,g=N+1:=⟨_,rfl⟩
 rw[<-Z,<-ab,<-ad]at G;rw[<-Z,<-ab,<-ad];have n1:w.heap.size≠B:=by omega
 have n2:w.heap.size≠N:=by omega
 have n3:w.heap.size≠O:=by omega
 have n4:B≠N:=by omega
 have n5:B≠O:=by omega
 have n6:N≠O:=by omega
 have n7:w.heap.size<=B:=by omega
 have n8:w.heap.size<=O:=by omega
 clear Z ab ad;go_wp2
 go_loopw [10,27] (fun ms i wr=>∃k:Nat,k<=n/\i=.int .i64 k/\ms=.int .i64 (total-ax ((cW total j).take k))/\aje total j w w.heap.size B O N n k wr) (fun _ i _=>n-(intOf i).toNat)
 case atStart=>exact⟨0,by omega,rfl,by simp[ax],G⟩
 case round=>
  clear G;obtain⟨k,hk,rfl,rfl,G⟩:=hrel;obtain⟨s0,s1⟩:=Fk.out k;by_cases u:k<n
  ·have JT:k<j.length:=(by rw[E.out];exact u);obtain⟨b1,Du,rfl,P,aT⟩:=(h.aa G.b).at_ JT;have c0:=aT 0 _ rfl;simp only[atQ,auo]at c0;obtain⟨⟨p0,p1⟩,e1,e2,q0,q1⟩:=Ki.out k JT;have HP:=atM (Za (total:=total) JT);have HR:=atM (Zb (total:=total) JT);have D:=atM (Q2 (cW total j) k (by rw[R.out];exact JT));obtain⟨s2,s3⟩:=Fk.out (k+1);rw[D.out,HP.out]at s2 s3;rw[HP.out]at D;rw[<-HS.out]at e1 e2 q0 q1 HP HR s2 s3 D;have fL:(k:Int)<(n:Int):=(by omega);have HD:=atM G;clear aT h G;go_upto_region 8 with fail
   refine M3.iN (C:=qf N (.slice (some ⟨B,0,none⟩) n n)) (qf.jw _ _) HD.out.h (aE:=?aE) [0,1,2,3,4,5,6,7,8,9,10,11,12,13] 4 (by kernel_rfl) (by kernel_rfl) rfl (by kernel_rfl) (by kernel_rfl) (by rfl) ?H ?M
   case H=>
    intro F hF bD;simp only[M3.cL,atY,at0,at1];have q9:∀p:aP (qf N (.slice (some ⟨B,0,none⟩) n n)) F,p.w'.cell? ⟨N,0,none⟩=some (.slice (some ⟨B,0,none⟩) n n):=fun p=>p.h.c
    repeat(go_big_quiet_step(fail))
    refine wpQuiet_nil ?_;rfl
   case M=>
    intro Q0 bS;have aU:=HD.out.p;have aV:=HD.out.r;have aX:=HD.out.o;have aY:=HD.out.b;clear HD;refine M3.bQ [14] (by kernel_rfl) (by simp) ?_;intro wa a0 UT i hi;rw[auB]at hi;subst hi;have a1:=aU.aa UT;have rwa:=aV.aa UT;have a2:=aX.aa UT;have a3:=aA aY UT;clear UT aU aV aX aY;refine M3.bH (.pointer (some ⟨w.heap.size,k,none⟩)) wa rfl rfl (by go_simp) ⟨a0,?_⟩;simp only[Act.put,aua];refine M3.bQ [15] (by kernel_rfl) (by simp) ?_;intro wb a4 UU i hi;rw[auB]at hi;subst hi;have UW:=a1.aa UU;have a5:=rwa.aa UU;have a6:=a2.aa UU;have a7:=aA a3 UU;clear UU a1 rwa a2 a3;have z:=UW.cell (i:=k) (by rw[BR _ _ _ (R.out.trans E.out) (by omega)];exact u);have fz:=UW.frozen k;have F4:=UW.lt;refine M3.fw (wb.setCell ⟨w.heap.size,k,none⟩ (.int .i64 (total*j[k]/S))) rfl rfl (by go_simp) ⟨a4.set (fun e=>n2 e.symm) _ _,?_⟩;simp only[Act.put];have ae:=UW.XN (R.out.trans E.out) u (v:=total*j[k]/S) HP.out.symm;have af:=a5.far (p:=⟨w.heap.size,k,none⟩) (fun e=>n1 e.symm) (.int .i64 (total*j[k]/S));have ak:=a6.far (p:=⟨w.heap.size,k,none⟩) (fun e=>n3 e.symm) (.int .i64 (total*j[k]/S));have al:=iL a7 (atN w.heap.size) k (.int .i64 (total*j[k]/S));generalize wb.setCell ⟨w.heap.size,k,none⟩ (.int .i64 (total*j[k]/S))=wc at ae af ak al|-;clear a0 a4 UW a5 a6 a7 z fz F4;refine M3.bQ [16] (by kernel_rfl) (by simp) ?_;intro wd a8 UX i hi;rw[auB]at hi;subst hi;have a9:=ae.aa UX;have ba:=af.aa UX;have bb:=ak.aa UX;have bc:=aA al UX;clear UX ae af ak al;refine M3.bH (.pointer (some ⟨B,k,none⟩)) wd rfl rfl (by go_simp) ⟨a8,?_⟩;simp only[Act.put];refine M3.bQ [17] (by kernel_rfl) (by simp) ?_;intro we be UY i hi;rw[auB]at hi;subst hi;have bi:=a9.aa UY;have UZ:=ba.aa UY;have bk:=bb.aa UY;have bl:=aA bc UY;clear UY a9 ba bb bc;have z:=UZ.cell (i:=k) (by rw[BR _ _ _ (BU.out.trans E.out) (by omega)];exact u);have fz:=UZ.frozen k;have F4:=UZ.lt;have am:=be.set (g':=B) (fun e=>n4 e.symm) k (.int .i64 (total*j[k]%S));refine M3.fw (we.setCell ⟨B,k,none⟩ (.int .i64 (total*j[k]%S))) rfl rfl (by go_simp) ⟨am,?_⟩;simp only[Act.put];have an:=bi.far (p:=⟨B,k,none⟩) n1 (.int .i64 (total*j[k]%S));have ao:=UZ.XN (BU.out.trans E.out) u (v:=total*j[k]%S) HR.out.symm;have ap:=bk.far (p:=⟨B,k,none⟩) (fun e=>n5 e.symm) (.int .i64 (total*j[k]%S));have av:=iL bl n7 k (.int .i64 (total*j[k]%S));generalize we.setCell ⟨B,k,none⟩ (.int .i64 (total*j[k]%S))=wf at an ao ap av am|-;clear a8 be bi UZ bk bl z fz F4;refine M3.kI (by kernel_rfl) ?_;intro wg bm K;refine bS _ _ ?_;have az:=an.aa K;have bo:=ao.aa K;have U0:=ap.aa K;have bp:=aA av K;clear K an ao ap av am bS;have zo:=U0.cell (i:=k) (by rw[BR _ _ _ (acN n) (by omega)];exact u);have fo:=U0.frozen k;have lo:=U0.lt;have zp:=az.cell (i:=k) (by rw[BR _ _ _ (R.out.trans E.out) (by omega)];exact u);rw[Zc _ _ _ u (R.out.trans E.out),HP.out]at zp;generalize (upto (J2 n) n k).getD k 0=oz at zo;have WN:=atM az;have Lh:=atM bo;have bw:=atM U0;have bx:=atM bp;have X4:=atM bm;have pM:total-ax ((cW total j).take (k+1))=total-ax ((cW total j).take k)-total*j[k]/S:=(by rw[D.out];omega);have YG:=atM pM;clear pM az bo U0 bp bm;generalize ax ((cW total j).take k)=sk at*;go_wp2;go_roundw
    case rel=>refine⟨k+1,by omega,by go_num,by rw[YG.out],⟨WN.out.far (p:=⟨O,k,none⟩) n3 _,Lh.out.far (p:=⟨O,k,none⟩) n5 _,bw.out.XN (acN n) u (arO u).symm,X4.out.set n6 _ _,iL bx.out n8 _ _⟩⟩
    case measure=>simp[intOf];omega
  ·obtain rfl:k=n:=by omega
   obtain⟨m,hm⟩:∃m,k=m+1:=⟨k-1,by omega⟩
   have YH:=G.p;rw[Kb _ _ (R.out.trans E.out)]at YH;have TW:=G.r;rw[Kb _ _ (BU.out.trans E.out)]at TW;have aC:=G.o;rw[Kb _ _ (acN k)]at aC;have aD:=G.h;have AK:=G.b;have BS:=YH.lt;have YI:=BU.out.trans E.out;have L:(List.finRange (m+1)).length=k:=(by simp[hm]);have aJ:=arN (QF (m:=m) (k6 total j)) 254 #[.pointer (some ⟨N,0,none⟩)] O k (List.finRange (m+1)) wr
    (by rw[auz];intro a b ha hb bz;simpa using bz) (arS _) (enters_of func254 (by kernel_rfl) rfl)
    (CmpReads.lays (fun mm os dk bK x y=>by have hg:=XX nM wr O 0 mm dk os;have jW:=TW.grown hg (fun e=>n5 (by injection e));exact arR N B k (k6 total j) x.val y.val _ (by rw[YI,hm];exact x.isLt) (by rw[YI,hm];exact y.isLt) YI (aD.grown hg (fun e=>n6 (by injection e))) (fun q hq=>jW.cell hq)))
    (by rw[arP,<-hm];exact aC) (by rw[L];omega)
   rw[L]at aJ;have D:=atM aJ;have qh:∃I:Nat,total-ax ((cW total j).take k)=(I:Int)/\(nS total j).toNat=I/\I<=k:=by have V:=aR.out;have h2:=aS.out;rw[E.out]at V;refine⟨(nS total j).toNat,?_,rfl,by omega⟩;rw[aut (by rw[R.out,E.out];exact atN _)];omega
   obtain⟨I,qh,bq,Cw⟩:=qh;have YG:Hid (∀l:List (Fin (m+1)),l.Perm (List.finRange (m+1))->l.Pairwise (fun a b=>kW (ltOf (QF (k6 total j))) (·.val) a b=true)->en total j=nh (cW total j) ((l.map (·.val)).take I)):=fun l V h2=>by rw[KE.out (l.map (·.val)) (by rw[E.out,hm,<-arU];exact V.map _) (arT _ h2),bq]
   rw[qh];have br:=atM hm;have Zt:=Zu O 0 k k (I:Int) I rfl Cw (by omega);have Pz:=atM aD;clear aJ G TW aC aD YI L qh bq hm KE aR aS h Ki Fk s0 s1;go_wp2_with fail;refine atV D.out ?_;rintro e w5 ⟨rfl,l,hp,IQ,aM,aZ⟩;have HY:=atM (YG.out l hp IQ);have oA:l.length=k:=(by rw[hp.length_eq,br.out];simp);have Nr:=YH.grown aZ (fun e=>n3 (by injection e));have eR:=kH AK aZ (fun q e=>by injection e;omega);have bA:=atM oA;clear D YG hp IQ YH AK aZ oA;go_wp2
   go_loopw [66] (fun i wr=>∃q:Nat,q<=I/\i=.int .i64 q/\RowI wr w.heap.size (nh (cW total j) ((l.map (·.val)).take q))/\w5.grownBy wr (some w.heap.size)) (fun i _=>I-(intOf i).toNat)
   case atStart=>exact⟨0,by omega,rfl,by simpa[nh]using Nr,dX _ _⟩
   case round=>
    rename World=>bO
    obtain⟨q,hq,rfl,T,ju⟩:=hrel;by_cases bP:q<I
    ·have aQ:q<l.length:=(by rw[bA.out];omega);have bs:=aM.grown ju (fun e=>n3 (by injection e;omega));have zo:=bs.cell (i:=q) (by simpa[dT]using aQ);have U:(dT l).getD q 0=((l[q].val:Nat):Int):=(by simp[dT,atW aQ]);rw[U]at zo;have bt:l[q].val<k:=(by rw[br.out];exact l[q].isLt);have mR:(l.map (·.val)).take (q+1)=(l.map (·.val)).take q++[l[q].val]:=by
      rw[aud (by simpa using aQ)];simp
     obtain⟨x0,x1⟩:=arQ ((l.map (·.val)).take q) (cW total j) l[q].val;obtain⟨y0,y1⟩:=PG.out l[q].val;have DU:(nh (cW total j) ((l.map (·.val)).take q)).length=k:=(by rw[apq,R.out,E.out]);have zp:=T.cell (i:=l[q].val) (by rw[DU];exact bt);have fp:=T.frozen l[q].val;have lp:=T.lt;have fO:((l.map (·.val)).take q).length<=q:=(by simp;omega);have Ry:=atM (T.set (i:=l[q].val) (by rw[DU];exact bt) ((nh (cW total j) ((l.map (·.val)).take q)).getD l[q].val 0+1));have pG:Hid (nh (cW total j) ((l.map (·.val)).take (q+1))=(nh (cW total j) ((l.map (·.val)).take q)).set l[q].val ((nh (cW total j) ((l.map (·.val)).take q)).getD l[q].val 0+1)):=(by rw[Hid,mR,apr]);have z0:0<=(nh (cW total j) ((l.map (·.val)).take q)).getD l[q].val 0:=(by omega);have z1:(nh (cW total j) ((l.map (·.val)).take q)).getD l[q].val 0<=2000000000:=(by omega);have bT:((l[q].val:Nat):Int)<(k:Int):=(by omega);have XG:(q:Int)<(I:Int):=(by omega);have bB:=atM ju;clear U mR x0 x1 y0 y1 DU fO T bs aM ju;generalize (nh (cW total j) ((l.map (·.val)).take q)).getD l[q].val 0=x at*;generalize l[q].val=v at*;go_wp2;go_roundw
     case rel=>exact⟨q+1,by omega,by go_num,by rw[pG.out];exact Ry.out,bg bB.out (.inl rfl) _⟩
     case measure=>simp[intOf];omega
    ·obtain rfl:q=I:=by omega
     rw[<-HY.out]at T;have Fl:=atM T;have aj:=kH eR ju (fun q e=>by injection e;omega);have jm:=atM aj;clear T aj ju aM;go_wp2;go_ret;exact⟨w.heap.size,rfl,atN _,Fl.out,jm.out⟩
theorem ahd(j:Int)(A:Option Addr)(r:Nat)(n:List Int)(w:World)(h:ai encI 1 w w.heap.size A n)(J:0<=j)(K:j<=1000000000)(y:∀x∈n,0<=x/\x<=1000000000)(z:0<ax n)(L:n.length<20):
  Calls prog 204 #[.int .i64 j,.slice A n.length r] w fun e w'=>∃g,e=.returned (.tuple #[.slice (some ⟨g,0,none⟩) n.length n.length,.int .i64 0])/\w.heap.size<=g/\RowI w' g (en j n)/\Below w.heap.size w w':=by
 have D:=(nv (l:=n) (B:=1000000000) y).2;have E:=atM (arV j A r n (ax n) w h J K y z rfl (by omega) L);have F:=atM y;have M:=atM z;clear y z D;go_enter func204,ntmps204;go_wp2
 go_loop [6,22] (fun N i=>∃k:Nat,k<=n.length/\i=.int .i64 k/\N=.int .i64 (ax (n.take k))) (fun _ i=>n.length-(intOf i).toNat)
 case atStart=>exact⟨0,by omega,rfl,rfl⟩
 case round=>
  obtain⟨k,X,rfl,rfl⟩:=hrel;have u:=nv (l:=n.take k) (B:=1000000000) (fun x O=>F.out x (auh O));simp only[auH]at u;obtain⟨P,Q⟩:=u;have R:ax (n.take k)<=20000000000:=by omega
  clear Q;by_cases p:k<n.length
  ·obtain⟨b,off,rfl,D,G⟩:=h.at_ p;have S:=G 0 _ rfl;simp only[atQ,auo]at S;have T:=atM (Q3 n k p);obtain⟨Y,Z⟩:=F.out _ (atT p);clear G;go_wp2;go_round
   case rel=>exact⟨k+1,by omega,by go_num,by rw[T.out]⟩
   case measure=>simp[intOf];omega
  ·obtain rfl:k=n.length:=by omega
   rw[aut (by omega)]at P R|-;have hz:(ax n==0)=false:=(by rw[auj];have:=M.out;omega);go_wp2_with fail;refine atV E.out ?_;rintro e w1 ⟨g,rfl,U,I,C⟩;have V:=atM I;clear I E;go_wp2;go_ret2;exact⟨g,rfl,U,V.out,C⟩
