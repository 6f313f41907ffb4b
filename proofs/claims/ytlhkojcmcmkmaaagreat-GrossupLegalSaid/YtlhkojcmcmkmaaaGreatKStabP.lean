/- Conditions: as stated. -/
import Derived.Sort.LotA
import Derived.Test.YtlhkojcmcmkmaaaGreatKNetP
set_option maxRecDepth 100000
set_option maxHeartbeats 2000000
namespace Go.Proofs.YtlhkojcmcmkmaaaGreat
open Go.Proofs.Tryz
open Go.Sort
section
variable {α:Type}[Inhabited α]
theorem aho{lt lt':α->α->Bool}(a:Nat):∀(j:Nat) (d:Array α),j<d.size->(∀i,i<j->lt d[j]! d[i]! =lt' d[j]! d[i]!)->insInner lt a j d=insInner lt' a j d
 |0,d,_,_=>by unfold insInner;rfl
 |j+1,d,e,h=>by
  unfold insInner;rw[<-h j (by omega)];split
  ·refine aho a j _ (by rw[swp_size];omega) fun i hi=>?_;have g:=swp_get d e (show j<d.size by omega);rw[g,g];simp only[show¬i=j by omega,show¬i=j+1 by omega,arI,arK];exact h i (by omega)
  ·rfl
theorem abq{lt:α->α->Bool}(a:Nat)(p:α->Prop):∀(j:Nat) (d:Array α),j<d.size->(∀k,k<=j->p d[k]!)->(insInner lt a j d).size=d.size/\(∀k,k<=j->p (insInner lt a j d)[k]!)/\∀k,j<k->(insInner lt a j d)[k]! =d[k]!
 |0,d,_,h=>by unfold insInner;exact⟨rfl,h,fun _ _=>rfl⟩
 |j+1,d,r,h=>by
  unfold insInner;split
  ·have g:=swp_get d r (show j<d.size by omega);obtain⟨u,y,l⟩:=abq (lt:=lt) a p j (swp d (j+1) j) (by rw[swp_size];omega) (fun k n=>by
    rw[g];simp only[show¬k=j+1 by omega,arK];split
    ·exact h _ (aq7 _)
    ·exact h _ (by omega))
   refine⟨by rw[u,swp_size],fun k n=>?_,fun k n=>?_⟩
   ·by_cases e:k=j+1
    ·subst e;rw[l _ (by omega),g];simp only[show¬j+1=j by omega,arK,arI];exact h j (by omega)
    ·exact y k (by omega)
   ·rw[l k (by omega),g];simp only[show¬k=j+1 by omega,show¬k=j by omega,arK]
  ·exact⟨rfl,h,fun _ _=>rfl⟩
def lC(lt:α->α->Bool)(idx:α->Nat)(x y:α):Bool:=lt x y||(!lt y x&&decide (idx x<idx y))
theorem apz{lt:α->α->Bool}{j:α->Nat}(a b:Nat):∀(m i:Nat) (d:Array α),b-i=m->b<=d.size->(∀p q,p<q->i<=q->q<b->j d[p]!<j d[q]!)->insOuter lt a b i d=insOuter (lC lt j) a b i d:=by
 intro m
 induction m with
 |zero=>intro i d u y h;rw[insOuter,aq8 (by omega)];rw[insOuter,aq8 (by omega)]
 |succ m z=>
  intro i d u y h;have hi:i<b:=by omega
  rw[insOuter,aq9 hi]
  conv=>rhs;rw[insOuter,aq9 hi]
  have e:=aho (lt:=lt) (lt':=lC lt j) a i d (by omega) (fun p n=>by have:=h p i n (aq7 _) hi;unfold lC;rw[show decide (j d[i]!<j d[p]!)=false from asp (by omega),Bool.and_false,Bool.or_false])
  rw[e];obtain⟨D,_,r⟩:=abq (lt:=lC lt j) a (fun _=>True) i d (by omega) (fun _ _=>trivial);refine z (i+1) _ (by omega) (by omega) fun p q B E l=>?_;rw[r q (by omega)];by_cases n:p<=i
  ·obtain⟨_,C,_⟩:=abq (lt:=lC lt j) a (fun x=>j x<j d[q]!) i d (by omega) (fun k F=>h k q (by omega) (by omega) l);exact C p n
  ·rw[r p (by omega)];exact h p q B (by omega) l
omit [Inhabited α]in
theorem apA{lt:α->α->Bool}{j:α->Nat}(h:SWO lt):SWO (lC lt j):=by
 have u:∀x y,lt x y=true->lt y x=false:=fun x y l=>by
  cases e:lt y x with
  |false=>rfl
  |true=>have:=h.trans x y x l e;rw[h.irrefl]at this;cases this
 have T:∀x y,lC lt j x y=true↔lt x y=true\/(lt y x=false/\j x<j y):=fun x y=>by simp[lC]
 have F:∀x y,lC lt j x y=false↔lt x y=false/\(lt y x=true\/j y<=j x):=fun x y=>by simp[lC];intro _;cases lt y x<;>simp
 refine⟨fun x=>(F x x).2 ⟨h.irrefl x,.inr (aq7 _)⟩,fun x y z l n=>?_,fun x y z l n=>?_⟩
 ·rw[T]at*;rcases l with l|⟨l,B⟩<;>rcases n with n|⟨n,C⟩
  ·exact .inl (h.trans _ _ _ l n)
  ·left;cases e:lt x z with
   |true=>rfl
   |false=>have:=h.ntrans _ _ _ e n;rw[l]at this;cases this
  ·left;cases e:lt x z with
   |true=>rfl
   |false=>have:=h.ntrans _ _ _ l e;rw[n]at this;cases this
  ·exact .inr ⟨h.ntrans _ _ _ n l,by omega⟩
 ·rw[F]at*;obtain⟨p,b1⟩:=l;obtain⟨r,b2⟩:=n;refine⟨h.ntrans _ _ _ p r,?_⟩;rcases b1 with b1|b1
  ·left;cases e:lt z x with
   |true=>rfl
   |false=>have:=h.ntrans _ _ _ r e;rw[b1]at this;cases this
  ·rcases b2 with b2|b2
   ·left;cases e:lt z x with
    |true=>rfl
    |false=>have:=h.ntrans _ _ _ e p;rw[b2]at this;cases this
   ·exact .inr (by omega)
theorem apm{lt:α->α->Bool}{idx:α->Nat}(h:SWO lt)(r:∀x y,idx x=idx y->x=y)(l:List α)(u:l.Pairwise (fun a b=>idx a<idx b)):
  ∃z:List α,(insertionSort lt l.toArray 0 l.length).toList=z/\z.Perm l/\z.Pairwise (fun a b=>lC lt idx a b=true):=by
 have e:insertionSort lt l.toArray 0 l.length=insertionSort (lC lt idx) l.toArray 0 l.length:=by unfold insertionSort;refine apz 0 _ _ 1 l.toArray rfl (by simp) fun p q L _ G=>?_;rw[arZ]at u;have:=u p q (by omega) G L;rw[arL _ p (by simp;omega),arL _ q (by simpa using G)];simpa using this
 obtain⟨⟨M,_,I⟩,N⟩:=insertionSort_holds (lt:=lC lt idx) (apA h) l.toArray 0 l.length (Nat.zero_le _) (by simp);rw[e];have B:(insertionSort (lC lt idx) l.toArray 0 l.length).toList.Perm l:=by
  have O:(insertionSort (lC lt idx) l.toArray 0 l.length).extract 0 l.length=insertionSort (lC lt idx) l.toArray 0 l.length:=by refine Array.extract_eq_self_of_le ?_;rw[M];simp
  rw[O]at I;simpa using I
 refine⟨_,rfl,B,?_⟩;have P:l.Nodup:=u.imp fun Q e=>by subst e;omega
 have C:=B.nodup_iff.2 P;rw[arZ];intro i j hi J K;have n:=N i j (Nat.zero_le _) K (by have:=B.length_eq;omega);have D:i<(insertionSort (lC lt idx) l.toArray 0 l.length).size:=by simpa using hi
 have E:j<(insertionSort (lC lt idx) l.toArray 0 l.length).size:=by simpa using J
 rw[arL _ i D,arL _ j E]at n;simp only[Array.getElem_toList];generalize R:(insertionSort (lC lt idx) l.toArray 0 l.length)[i]=x at*;generalize S:(insertionSort (lC lt idx) l.toArray 0 l.length)[j]=y at*;have F:x≠y:=by intro e;have:=arZ.1 C i j hi J K;apply this;simp only[Array.getElem_toList,R,S,e]
 have T:idx x≠idx y:=fun e=>F (r _ _ e);unfold lC at n|-;simp only[Bool.or_eq_false_iff,asV,Bool.not_eq_eq_eq_not,Bool.not_false,ar4,Nat.not_lt]at n;obtain⟨U,h7⟩:=n;rcases h7 with h7|h7
 ·rw[h7];rfl
 ·rw[U];simp;exact .inr (by omega)
end
open Go.RowKit
def nU(t:List cB)(num den:Int):Nat->List cB
 |0=>[]
 |k+1=>lL t num den k++[⟨jk t num den k,(t.getD k gH).bJ⟩]
theorem anN{t:List cB}{num den:Int}{k:Nat}(e:k+1<t.length)(h:jk t num den (k+1)=jk t num den k):nU t num den (k+2)=(nU t num den (k+1)).set ((nU t num den (k+1)).length-1) ⟨jk t num den (k+1),(t.getD (k+1) gH).bJ⟩:=by rw[nU,lL,aq9 (by simp[E9,e,h]),nU];simp
theorem anO{t:List cB}{num den:Int}{k:Nat}(h:jk t num den (k+1)≠jk t num den k):nU t num den (k+2)=nU t num den (k+1)++[⟨jk t num den (k+1),(t.getD (k+1) gH).bJ⟩]:=by rw[nU,lL,aq8 (by simp[E9,h]),nU]
theorem anP{t:List cB}{num den:Int}(h:0<t.length):nU t num den t.length=nQ t num den:=by
 obtain⟨m,e⟩:∃m,t.length=m+1:=⟨t.length-1,by omega⟩
 unfold nQ;rw[e,nU,lL,aq8 (by simp[E9,e])]
theorem anM(t:List cB)(num den:Int)(k:Nat):0<(nU t num den (k+1)).length/\(nU t num den (k+1))[(nU t num den (k+1)).length-1]?=some ⟨jk t num den k,(t.getD k gH).bJ⟩:=by rw[nU];simp
theorem anK{t:List cB}{num den:Int}:∀k,(nU t num den k).length<=k
 |0=>aq7 _
 |k+1=>by
  have key:∀j,(lL t num den j).length<=j:=by
   intro j
   induction j with
   |zero=>exact aq7 _
   |succ j e=>
    rw[lL];split
    ·omega
    ·simp;omega
  have:=key k;rw[nU];simp;omega
def Pn(j rest step e:Int):Bool:=
 if rest=0 then false else if e=1\/e=3 then true else if e=4 then decide (step<=2*rest)else if e=5 then decide (step<2*rest)else if e=6 then decide (step<2*rest)||(decide (2*rest=step)&&decide (j%2=1))else false
theorem anF{n d j:Int}(u:0<=n)(hd:0<d)(E:0<=j)(F:j<=6):eR n d j=n/d+if Pn (n/d) (n%d) d j=true then 1 else 0:=by
 have G:=asg n (show d≠0 by omega);have I:=ash n hd;have y:0<=n/d:=ar5 u (by omega);have z:(n/d).tmod 2=n/d%2:=asO y;have B:n%d≠0->0<n:=fun h=>by
  rcases Int.lt_or_eq_of_le u with h1|h1
  ·exact h1
  ·subst h1;simp at h
 unfold eR Pn CP mS;rw[z];generalize n%d=r at*;generalize n/d=q at*;have C:j=0\/j=1\/j=2\/j=3\/j=4\/j=5\/j=6:=by omega
 by_cases l:r=0
 ·simp[l]
 have D:=B l;have p:q%2=0\/q%2=1:=by omega
 rcases C with rfl|rfl|rfl|rfl|rfl|rfl|rfl<;>simp[l,D]
 ·split<;>split<;>simp_all<;>omega
 ·split<;>split<;>simp_all<;>omega
 ·rcases p with e|e<;>simp[e]<;>(repeat' split)<;>simp_all<;>omega
theorem Wn(A:Option Addr)(C:Nat)(t:List cB)(w:World)(h:aj gG 2 w w.heap.size A t)(n:gY t):
  Calls prog 193 #[.slice A t.length C] w fun e w'=>e=.returned (.bool true)/\Below w.heap.size w w':=by
 have B:=aq6 n;have p:=n.ne;have V:=n.len;have D:=n.zero;rw[jX p]at D;obtain⟨b,E,rfl,X,F⟩:=h.at_ p;have d0:=F 0 _ rfl;simp only[ara,arT]at d0;rw[D]at d0;have Y:(0:Int)<(t.length:Int):=by omega
 clear D F n;go_enter func193,ntmps193;go_wp2
 go_loopw [22] (fun i wr=>∃k:Nat,k<=t.length/\i=.int .i64 k/\Below w.heap.size w wr) (fun i _=>t.length-(intOf i).toNat)
 case atStart=>exact⟨0,by omega,rfl,arb _ _⟩
 case round=>
  obtain⟨k,Z,rfl,r⟩:=hrel;have G:=r.size;by_cases j:k<t.length
  ·have I:aj gG 2 wr w.heap.size (some ⟨b,E,none⟩) t:=h.below r;have L:=B.out.hi k j;have M:=B.out.r0 k j;have N:=B.out.r1 k j;rw[jX j]at L M N;obtain⟨b1,EE,u,O,l⟩:=I.at_ j;injection u with u
   injection u with u P
   subst u P;have J:=l 0 _ rfl;have Q:=l 1 _ rfl;simp only[ara]at J;have gK:(k:Int)<(t.length:Int):=(by omega);have g1:decide (1000000000000<t[k].bW)=false:=(by simp;omega);have g2:decide (t[k].bJ<0)=false:=(by simp;omega);have g3:decide (1000000<t[k].bJ)=false:=(by simp;omega);have jr:b<wr.heap.size:=(by omega);clear l;rcases k with _|m
   ·have fM:(0:Int)<(t.length:Int):=(by omega);simp only[arT,ara]at J Q;go_wp2;go_quiet(fail);go_wp2;go_roundw
    case rel=>exact⟨1,by omega,by go_num,below_drewN (r.alloc G _) _⟩
    case measure=>simp[intOf];omega
   ·have K:m<t.length:=(by omega);have R:=B.out.lh m j;rw[jX K,jX j]at R;obtain⟨b2,FH,y,S,z⟩:=I.at_ K;injection y with y
    injection y with y T
    subst y T;have U:=z 0 _ rfl;simp only[ara]at U;clear z;have g0:decide (t[m+1].bW<=t[m].bW)=false:=(by simp;omega);have Ca:(m:Int)<(t.length:Int):=(by omega);have Mc:(m:Int)+1<(t.length:Int):=(by omega);have hp:decide ((0:Int)<(m:Int)+1)=true:=(by rw[arz];omega);go_wp2;go_quiet(fail);go_wp2;go_roundw
    case rel=>exact⟨m+2,by omega,by go_num,below_drewN (r.alloc G _) _⟩
    case measure=>simp[intOf];omega
  ·go_wp2;go_ret;exact⟨rfl,r⟩
theorem apE(A:Option Addr)(j:Nat)(t:List cB)(inc:Int)(w:World)(h:aj gG 2 w w.heap.size A t)(n:gY t)(p:0<=inc)(r:inc<=1000000000000):
  Calls prog 272 #[.slice A t.length j,.int .i64 inc] w fun e w'=>e=.returned (.int .i64 0)/\Below w.heap.size w w':=by
 go_enter func272,ntmps272;go_wp2_with fail;refine(Wn A j t w h n).mono ?_;rintro e u ⟨rfl,l⟩;go_wp2;go_ret;exact⟨rfl,l⟩
theorem apF(A:Option Addr)(z:Nat)(t:List cB)(inc:Int)(w:World)(h:aj gG 2 w w.heap.size A t)(E:gY t)(V:0<=inc)(X:inc<=1000000000000):
  Calls prog 267 #[.slice A t.length z,.int .i64 inc] w fun e w'=>∃g,e=.returned (.tuple #[.slice (some ⟨g,0,none⟩) t.length t.length,.int .i64 0])/\w.heap.size<=g/\RowI w' g (KX t inc)/\Below w.heap.size w w':=by
 have hl:=E.len;have B:=aq6 E;have Ds:=Nt t.length (by omega);have P:=aq6 (apE A z t inc w h E V X);clear E;go_enter func267,ntmps267;go_wp2_with fail;refine arf P.out ?_;rintro e l ⟨rfl,J⟩;have u:aj gG 2 l l.heap.size A t:=h.aa J;obtain⟨b,Y,rfl,hb,K⟩:=u.at_ B.out.ne;clear P h K;go_upto_region 5 with fail
 have F:=RowI.made l t.length;have G:=bF l (.cells (madeCells #[.int .i64 0] t.length) 3);have Q:=u.aa G;have R:=aB J G;have j:(l.alloc (.cells (madeCells #[.int .i64 0] t.length) 3)).rowIs l.heap.size 3 t.length (Bf t inc 0):=by have L:=F;unfold RowI at L;rw[List.length_replicate]at L;refine L.congr fun i hi=>?_;simp[Bf,asT];split<;>rfl
 generalize l.alloc (.cells (madeCells #[.int .i64 0] t.length) 3)=W at F G Q R j|-;have kY:=F.lt;have Z:=J.size;clear F G u;go_wp2
 go_loopw [22] (fun i wr=>∃k:Nat,k<=t.length/\i=.int .i64 k/\wr.rowIs l.heap.size 3 t.length (Bf t inc k)/\W.grownBy wr (some l.heap.size)) (fun i _=>t.length-(intOf i).toNat)
 case atStart=>exact⟨0,by omega,rfl,j,ft _ _⟩
 case round=>
  clear j;obtain⟨k,hk,rfl,j,C⟩:=hrel;have S:=Q.GS C (fun a M=>by injection M with M;subst M;simp only;omega);have jr:Below w.heap.size w wr:=jN R C (fun g e=>by injection e;omega);have iA:=C.size;by_cases n:k<t.length
  ·have h4:=B.out.I9 n;have h5:=B.out.hi k n;rw[jX n]at h4 h5;obtain⟨b1,EE,r,ab,p⟩:=S.at_ n;injection r with r
   injection r with r N
   subst r N;have c0:=p 0 _ rfl;have c1:=p 1 _ rfl;simp only[ara]at c0;have gK:(k:Int)<(t.length:Int):=(by omega);have f0:=j.frozen k;have z0:=j.cell (i:=k) n;have ad:b≠l.heap.size:=(by omega);have ae:l.heap.size<wr.heap.size:=(by omega);have JW:=aq6 j;have HG:=aq6 C;generalize Bf t inc k k=zz at z0;clear p j C;have T:∀(v:Int),v=fN t inc k->∃k':Nat,k'<=t.length/\Value.int .i64 ((k:Int)+1)=.int .i64 k'/\((wr.setCell ⟨l.heap.size,k,none⟩ (.int .i64 v)).alloc (.cells #[.int .i64 t[k].bW,.int .i64 t[k].bJ] 127)).rowIs l.heap.size 3 t.length (Bf t inc k')/\W.grownBy ((wr.setCell ⟨l.heap.size,k,none⟩ (.int .i64 v)).alloc (.cells #[.int .i64 t[k].bW,.int .i64 t[k].bJ] 127)) (some l.heap.size):=fun v hv=>⟨k+1,by omega,by go_num,(aaC JW.out hv).alloc _,fI (bk HG.out (.inl rfl) _) _⟩
   have I:=aq6 T;clear T;by_cases y:k+1<t.length
   ·have D:=aq6 (afu (inc:=inc) y);have h6:=B.out.I9 y;have h7:=B.out.hi (k+1) y;rw[jX y]at h6 h7;obtain⟨b1,EE,r,af,p⟩:=S.at_ y;injection r with r
    injection r with r N
    subst r N;have c2:=p 0 _ rfl;simp only[ara]at c2;have Sr:(k:Int)+1<(t.length:Int):=(by omega);clear p;go_wp2
    all_goals
     go_roundw
     case rel=>first|exact I.out _ (by rw[D.out];(repeat' split)<;>omega)|((repeat apply Exists.intro);exact⟨I.out _ (by rw[D.out];(repeat' split)<;>omega),rfl⟩)
     case measure=>simp[intOf];omega
   ·have D:=aq6 (afv (inc:=inc) n y);have Sr:¬(k:Int)+1<(t.length:Int):=(by omega);go_wp2
    all_goals
     go_roundw
     case rel=>first|exact I.out _ (by rw[D.out];(repeat' split)<;>omega)|((repeat apply Exists.intro);exact⟨I.out _ (by rw[D.out];(repeat' split)<;>omega),rfl⟩)
     case measure=>simp[intOf];omega
  ·obtain rfl:k=t.length:=by omega
   have U:=afw j;have O:=aq6 U;clear j U;go_wp2;go_ret2;exact⟨l.heap.size,rfl,Z,O.out,jr⟩
theorem anG(A:Option Addr)(l:Nat)(t:List cB)(inc:Int)(w:World)(h:aj gG 2 w w.heap.size A t)(y:gY t)(z:0<=inc)(J:inc<=1000000000000):
  Calls prog 255 #[.slice A t.length l,.int .i64 inc] w fun e w'=>e=.returned (.tuple #[.int .i64 (nh t inc),.int .i64 0])/\Below w.heap.size w w':=by
 have p:=aq6 y;have S:=y.len;have F:=aq6 (apF A l t inc w h y z J);clear y;go_enter func255,ntmps255;go_wp2_with fail;refine arf F.out ?_;rintro e T ⟨g,rfl,U,K,r⟩;have C:=h.aa r;clear F h;go_wp2
 go_loop [8,22] (fun n i=>∃k:Nat,k<=t.length/\i=.int .i64 k/\n=.int .i64 (py t inc k)) (fun _ i=>t.length-(intOf i).toNat)
 case atStart=>exact⟨0,by omega,rfl,rfl⟩
 case round=>
  obtain⟨k,L,rfl,rfl⟩:=hrel;obtain⟨V,M⟩:=ML (inc:=inc) p.out z L;have X:py t inc k<=1000000000000000000:=by omega
  by_cases j:k<t.length
  ·obtain⟨Y,Z,rfl,N,u⟩:=C.at_ j;have c1:=u 1 _ rfl;have O:=K.cell (i:=k) (by rw[aaA];exact j);rw[aaB t inc j]at O;have B:=aq6 (afx t inc k);rw[jX j]at B;obtain⟨G,D⟩:=ML (inc:=inc) p.out z (show k+1<=t.length by omega);rw[B.out]at G D;have P:=Sn (t:=t) (inc:=inc) k;have s1:=afn p.out z j;have I:=p.out.r0 k j;have Q:=p.out.r1 k j;rw[jX j]at I Q;have m0:0<=t[k].bJ*fN t inc k:=arH I P;rw[arO]at B G D;have m1:t[k].bJ*fN t inc k<=1000000000000000000:=(by omega);have m2:py t inc k+t[k].bJ*fN t inc k<=1000000000000000000:=(by omega);clear u M D;generalize fN t inc k=sp at*;generalize E:py t inc k=ex at*;clear E;go_wp2;go_round
   case rel=>exact⟨k+1,by omega,by go_num,by rw[B.out]⟩
   case measure=>simp[intOf];omega
  ·obtain rfl:k=t.length:=by omega
   have R:Hid (nh t inc=py t inc t.length):=rfl;go_wp2;go_ret2;exact⟨by rw[R.out];rfl,r⟩
