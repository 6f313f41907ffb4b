/- Conditions: as stated. -/
import Derived.Sort.LotA
import Derived.Test.YtlhkojcmcmkmaaaGreatSNetP
set_option maxRecDepth 100000
set_option maxHeartbeats 2000000
namespace Go.Proofs.YtlhkojcmcmkmaaaGreat
open Go.Proofs.Tryz
open Go.Sort
section
variable {α:Type}[Inhabited α]
theorem ahE{lt lt':α->α->Bool}(a:Nat):∀(j:Nat) (d:Array α),j<d.size->(∀i,i<j->lt d[j]! d[i]! =lt' d[j]! d[i]!)->insInner lt a j d=insInner lt' a j d
 |0,d,_,_=>by unfold insInner;rfl
 |j+1,d,e,h=>by
  unfold insInner;rw[<-h j (by omega)];split
  ·refine ahE a j _ (by rw[swp_size];omega) fun i hi=>?_;have g:=swp_get d e (show j<d.size by omega);rw[g,g];simp only[show¬i=j by omega,show¬i=j+1 by omega,ash,asj];exact h i (by omega)
  ·rfl
theorem abK{lt:α->α->Bool}(a:Nat)(p:α->Prop):∀(j:Nat) (d:Array α),j<d.size->(∀k,k<=j->p d[k]!)->(insInner lt a j d).size=d.size/\(∀k,k<=j->p (insInner lt a j d)[k]!)/\∀k,j<k->(insInner lt a j d)[k]! =d[k]!
 |0,d,_,h=>by unfold insInner;exact⟨rfl,h,fun _ _=>rfl⟩
 |j+1,d,r,h=>by
  unfold insInner;split
  ·have g:=swp_get d r (show j<d.size by omega);obtain⟨u,y,l⟩:=abK (lt:=lt) a p j (swp d (j+1) j) (by rw[swp_size];omega) (fun k n=>by
    rw[g];simp only[show¬k=j+1 by omega,asj];split
    ·exact h _ (arI _)
    ·exact h _ (by omega))
   refine⟨by rw[u,swp_size],fun k n=>?_,fun k n=>?_⟩
   ·by_cases e:k=j+1
    ·subst e;rw[l _ (by omega),g];simp only[show¬j+1=j by omega,asj,ash];exact h j (by omega)
    ·exact y k (by omega)
   ·rw[l k (by omega),g];simp only[show¬k=j+1 by omega,show¬k=j by omega,asj]
  ·exact⟨rfl,h,fun _ _=>rfl⟩
def lT(lt:α->α->Bool)(idx:α->Nat)(x y:α):Bool:=lt x y||(!lt y x&&decide (idx x<idx y))
theorem ap2{lt:α->α->Bool}{j:α->Nat}(a b:Nat):∀(m i:Nat) (d:Array α),b-i=m->b<=d.size->(∀p q,p<q->i<=q->q<b->j d[p]!<j d[q]!)->insOuter lt a b i d=insOuter (lT lt j) a b i d:=by
 intro m
 induction m with
 |zero=>intro i d u y h;rw[insOuter,arJ (by omega)];rw[insOuter,arJ (by omega)]
 |succ m z=>
  intro i d u y h;have hi:i<b:=by omega
  rw[insOuter,arK hi]
  conv=>rhs;rw[insOuter,arK hi]
  have e:=ahE (lt:=lt) (lt':=lT lt j) a i d (by omega) (fun p l=>by have:=h p i l (arI _) hi;unfold lT;rw[show decide (j d[i]!<j d[p]!)=false from asX (by omega),Bool.and_false,Bool.or_false])
  rw[e];obtain⟨D,_,n⟩:=abK (lt:=lT lt j) a (fun _=>True) i d (by omega) (fun _ _=>trivial);refine z (i+1) _ (by omega) (by omega) fun p q B E r=>?_;rw[n q (by omega)];by_cases l:p<=i
  ·obtain⟨_,C,_⟩:=abK (lt:=lT lt j) a (fun x=>j x<j d[q]!) i d (by omega) (fun k F=>h k q (by omega) (by omega) r);exact C p l
  ·rw[n p (by omega)];exact h p q B (by omega) r
omit [Inhabited α]in
theorem ap3{lt:α->α->Bool}{j:α->Nat}(h:SWO lt):SWO (lT lt j):=by
 have u:∀x y,lt x y=true->lt y x=false:=fun x y l=>by
  cases e:lt y x with
  |false=>rfl
  |true=>have:=h.trans x y x l e;rw[h.irrefl]at this;cases this
 have T:∀x y,lT lt j x y=true↔lt x y=true\/(lt y x=false/\j x<j y):=fun x y=>by simp[lT]
 have F:∀x y,lT lt j x y=false↔lt x y=false/\(lt y x=true\/j y<=j x):=fun x y=>by simp[lT];intro _;cases lt y x<;>simp
 refine⟨fun x=>(F x x).2 ⟨h.irrefl x,.inr (arI _)⟩,fun x y z l n=>?_,fun x y z l n=>?_⟩
 ·rw[T]at*;rcases l with l|⟨l,B⟩<;>rcases n with n|⟨n,C⟩
  ·exact .inl (h.trans _ _ _ l n)
  ·left;cases e:lt x z with
   |true=>rfl
   |false=>have:=h.ntrans _ _ _ e n;rw[l]at this;cases this
  ·left;cases e:lt x z with
   |true=>rfl
   |false=>have:=h.ntrans _ _ _ l e;rw[n]at this;cases this
  ·exact .inr ⟨h.ntrans _ _ _ n l,by omega⟩
 ·rw[F]at*;obtain⟨p,b1⟩:=l;obtain⟨r,b2⟩:=n;refine⟨h.ntrans _ _ _ p r,?_⟩;rcases b1 with b1|b1
  ·left;cases e:lt z x with
   |true=>rfl
   |false=>have:=h.ntrans _ _ _ r e;rw[b1]at this;cases this
  ·rcases b2 with b2|b2
   ·left;cases e:lt z x with
    |true=>rfl
    |false=>have:=h.ntrans _ _ _ e p;rw[b2]at this;cases this
   ·exact .inr (by omega)
theorem apQ{lt:α->α->Bool}{idx:α->Nat}(h:SWO lt)(r:∀x y,idx x=idx y->x=y)(l:List α)(u:l.Pairwise (fun a b=>idx a<idx b)):
  ∃z:List α,(insertionSort lt l.toArray 0 l.length).toList=z/\z.Perm l/\z.Pairwise (fun a b=>lT lt idx a b=true):=by
 have e:insertionSort lt l.toArray 0 l.length=insertionSort (lT lt idx) l.toArray 0 l.length:=by unfold insertionSort;refine ap2 0 _ _ 1 l.toArray rfl (by simp) fun p q L _ G=>?_;rw[asz]at u;have:=u p q (by omega) G L;rw[asl _ p (by simp;omega),asl _ q (by simpa using G)];simpa using this
 obtain⟨⟨M,_,I⟩,N⟩:=insertionSort_holds (lt:=lT lt idx) (ap3 h) l.toArray 0 l.length (Nat.zero_le _) (by simp);rw[e];have B:(insertionSort (lT lt idx) l.toArray 0 l.length).toList.Perm l:=by
  have O:(insertionSort (lT lt idx) l.toArray 0 l.length).extract 0 l.length=insertionSort (lT lt idx) l.toArray 0 l.length:=by refine Array.extract_eq_self_of_le ?_;rw[M];simp
  rw[O]at I;simpa using I
 refine⟨_,rfl,B,?_⟩;have P:l.Nodup:=u.imp fun Q e=>by subst e;omega
 have C:=B.nodup_iff.2 P;rw[asz];intro i j hi J K;have n:=N i j (Nat.zero_le _) K (by have:=B.length_eq;omega);have D:i<(insertionSort (lT lt idx) l.toArray 0 l.length).size:=by simpa using hi
 have E:j<(insertionSort (lT lt idx) l.toArray 0 l.length).size:=by simpa using J
 rw[asl _ i D,asl _ j E]at n;simp only[Array.getElem_toList];generalize R:(insertionSort (lT lt idx) l.toArray 0 l.length)[i]=x at*;generalize S:(insertionSort (lT lt idx) l.toArray 0 l.length)[j]=y at*;have F:x≠y:=by intro e;have:=asz.1 C i j hi J K;apply this;simp only[Array.getElem_toList,R,S,e]
 have T:idx x≠idx y:=fun e=>F (r _ _ e);unfold lT at n|-;simp only[Bool.or_eq_false_iff,Bool.and_eq_false_iff,Bool.not_eq_eq_eq_not,Bool.not_false,asF,Nat.not_lt]at n;obtain⟨U,h7⟩:=n;rcases h7 with h7|h7
 ·rw[h7];rfl
 ·rw[U];simp;exact .inr (by omega)
end
open Go.RowKit
def oB(t:List cv)(num den:Int):Nat->List cv
 |0=>[]
 |k+1=>ma t num den k++[⟨jA t num den k,(t.getD k gS).bH⟩]
theorem an8{t:List cv}{num den:Int}{k:Nat}(e:k+1<t.length)(h:jA t num den (k+1)=jA t num den k):oB t num den (k+2)=(oB t num den (k+1)).set ((oB t num den (k+1)).length-1) ⟨jA t num den (k+1),(t.getD (k+1) gS).bH⟩:=by rw[oB,ma,arK (by simp[FN,e,h]),oB];simp
theorem an9{t:List cv}{num den:Int}{k:Nat}(h:jA t num den (k+1)≠jA t num den k):oB t num den (k+2)=oB t num den (k+1)++[⟨jA t num den (k+1),(t.getD (k+1) gS).bH⟩]:=by rw[oB,ma,arJ (by simp[FN,h]),oB]
theorem aoa{t:List cv}{num den:Int}(h:0<t.length):oB t num den t.length=ou t num den:=by
 obtain⟨m,e⟩:∃m,t.length=m+1:=⟨t.length-1,by omega⟩
 unfold ou;rw[e,oB,ma,arJ (by simp[FN,e])]
theorem an7(t:List cv)(num den:Int)(k:Nat):0<(oB t num den (k+1)).length/\(oB t num den (k+1))[(oB t num den (k+1)).length-1]?=some ⟨jA t num den k,(t.getD k gS).bH⟩:=by rw[oB];simp
theorem an5{t:List cv}{num den:Int}:∀k,(oB t num den k).length<=k
 |0=>arI _
 |k+1=>by
  have key:∀j,(ma t num den j).length<=j:=by
   intro j
   induction j with
   |zero=>exact arI _
   |succ j e=>
    rw[ma];split
    ·omega
    ·simp;omega
  have:=key k;rw[oB];simp;omega
def PM(j rest step e:Int):Bool:=
 if rest=0 then false else if e=1\/e=3 then true else if e=4 then decide (step<=2*rest)else if e=5 then decide (step<2*rest)else if e=6 then decide (step<2*rest)||(decide (2*rest=step)&&decide (j%2=1))else false
theorem an0{n d j:Int}(u:0<=n)(hd:0<d)(E:0<=j)(F:j<=6):eZ n d j=n/d+if PM (n/d) (n%d) d j=true then 1 else 0:=by
 have G:=asP n (show d≠0 by omega);have I:=asQ n hd;have y:0<=n/d:=asG u (by omega);have z:(n/d).tmod 2=n/d%2:=atm y;have B:n%d≠0->0<n:=fun h=>by
  rcases Int.lt_or_eq_of_le u with h1|h1
  ·exact h1
  ·subst h1;simp at h
 unfold eZ PM Dr nB;rw[z];generalize n%d=r at*;generalize n/d=q at*;have C:j=0\/j=1\/j=2\/j=3\/j=4\/j=5\/j=6:=by omega
 by_cases l:r=0
 ·simp[l]
 have D:=B l;have p:q%2=0\/q%2=1:=by omega
 rcases C with rfl|rfl|rfl|rfl|rfl|rfl|rfl<;>simp[l,D]
 ·split<;>split<;>simp_all<;>omega
 ·split<;>split<;>simp_all<;>omega
 ·rcases p with e|e<;>simp[e]<;>(repeat' split)<;>simp_all<;>omega
theorem Xa(A:Option Addr)(C:Nat)(t:List cv)(w:World)(h:aj gQ 2 w w.heap.size A t)(n:ig t):
  Calls prog 193 #[.slice A t.length C] w fun e w'=>e=.returned (.bool true)/\Below w.heap.size w w':=by
 have B:=arH n;have p:=n.ne;have V:=n.len;have D:=n.zero;rw[kh p]at D;obtain⟨b,E,rfl,X,F⟩:=h.at_ p;have d0:=F 0 _ rfl;simp only[arL,asw]at d0;rw[D]at d0;have Y:(0:Int)<(t.length:Int):=by omega
 clear D F n;go_enter func193,ntmps193;go_wp2
 go_loopw [22] (fun i wr=>∃k:Nat,k<=t.length/\i=.int .i64 k/\Below w.heap.size w wr) (fun i _=>t.length-(intOf i).toNat)
 case atStart=>exact⟨0,by omega,rfl,arM _ _⟩
 case round=>
  obtain⟨k,Z,rfl,r⟩:=hrel;have G:=r.size;by_cases j:k<t.length
  ·have I:aj gQ 2 wr w.heap.size (some ⟨b,E,none⟩) t:=h.below r;have L:=B.out.hi k j;have M:=B.out.r0 k j;have N:=B.out.r1 k j;rw[kh j]at L M N;obtain⟨b1,Ff,u,O,l⟩:=I.at_ j;injection u with u
   injection u with u P
   subst u P;have J:=l 0 _ rfl;have Q:=l 1 _ rfl;simp only[arL]at J;have eC:(k:Int)<(t.length:Int):=(by omega);have g1:decide (1000000000000<t[k].bX)=false:=(by simp;omega);have g2:decide (t[k].bH<0)=false:=(by simp;omega);have g3:decide (1000000<t[k].bH)=false:=(by simp;omega);have gY:b<wr.heap.size:=(by omega);clear l;rcases k with _|m
   ·have fS:(0:Int)<(t.length:Int):=(by omega);simp only[asw,arL]at J Q;go_wp2;go_quiet(fail);go_wp2;go_roundw
    case rel=>exact⟨1,by omega,by go_num,below_drewN (r.alloc G _) _⟩
    case measure=>simp[intOf];omega
   ·have K:m<t.length:=(by omega);have R:=B.out.lK m j;rw[kh K,kh j]at R;obtain⟨b2,Ge,y,S,z⟩:=I.at_ K;injection y with y
    injection y with y T
    subst y T;have U:=z 0 _ rfl;simp only[arL]at U;clear z;have g0:decide (t[m+1].bX<=t[m].bX)=false:=(by simp;omega);have Af:(m:Int)<(t.length:Int):=(by omega);have ME:(m:Int)+1<(t.length:Int):=(by omega);have hp:decide ((0:Int)<(m:Int)+1)=true:=(by rw[ar7];omega);go_wp2;go_quiet(fail);go_wp2;go_roundw
    case rel=>exact⟨m+2,by omega,by go_num,below_drewN (r.alloc G _) _⟩
    case measure=>simp[intOf];omega
  ·go_wp2;go_ret;exact⟨rfl,r⟩
theorem ap7(A:Option Addr)(j:Nat)(t:List cv)(inc:Int)(w:World)(h:aj gQ 2 w w.heap.size A t)(n:ig t)(p:0<=inc)(r:inc<=1000000000000):
  Calls prog 272 #[.slice A t.length j,.int .i64 inc] w fun e w'=>e=.returned (.int .i64 0)/\Below w.heap.size w w':=by
 go_enter func272,ntmps272;go_wp2_with fail;refine(Xa A j t w h n).mono ?_;rintro e u ⟨rfl,l⟩;go_wp2;go_ret;exact⟨rfl,l⟩
theorem ap8(A:Option Addr)(z:Nat)(t:List cv)(inc:Int)(w:World)(h:aj gQ 2 w w.heap.size A t)(E:ig t)(V:0<=inc)(X:inc<=1000000000000):
  Calls prog 267 #[.slice A t.length z,.int .i64 inc] w fun e w'=>∃g,e=.returned (.tuple #[.slice (some ⟨g,0,none⟩) t.length t.length,.int .i64 0])/\w.heap.size<=g/\RowI w' g (Lp t inc)/\Below w.heap.size w w':=by
 have hl:=E.len;have B:=arH E;have D5:=NU t.length (by omega);have P:=arH (ap7 A z t inc w h E V X);clear E;go_enter func267,ntmps267;go_wp2_with fail;refine arP P.out ?_;rintro e l ⟨rfl,J⟩;have u:aj gQ 2 l l.heap.size A t:=h.aa J;obtain⟨b,Y,rfl,hb,K⟩:=u.at_ B.out.ne;clear P h K;go_upto_region 5 with fail
 have F:=RowI.made l t.length;have G:=bD l (.cells (madeCells #[.int .i64 0] t.length) 3);have Q:=u.aa G;have R:=aB J G;have j:(l.alloc (.cells (madeCells #[.int .i64 0] t.length) 3)).rowIs l.heap.size 3 t.length (BQ t inc 0):=by have L:=F;unfold RowI at L;rw[List.length_replicate]at L;refine L.congr fun i hi=>?_;simp[BQ,atr];split<;>rfl
 generalize l.alloc (.cells (madeCells #[.int .i64 0] t.length) 3)=W at F G Q R j|-;have lC:=F.lt;have Z:=J.size;clear F G u;go_wp2
 go_loopw [22] (fun i wr=>∃k:Nat,k<=t.length/\i=.int .i64 k/\wr.rowIs l.heap.size 3 t.length (BQ t inc k)/\W.grownBy wr (some l.heap.size)) (fun i _=>t.length-(intOf i).toNat)
 case atStart=>exact⟨0,by omega,rfl,j,fe _ _⟩
 case round=>
  clear j;obtain⟨k,hk,rfl,j,C⟩:=hrel;have S:=Q.Hi C (fun a M=>by injection M with M;subst M;simp only;omega);have gY:Below w.heap.size w wr:=kN R C (fun g e=>by injection e;omega);have iu:=C.size;by_cases n:k<t.length
  ·have h4:=B.out.Jz n;have h5:=B.out.hi k n;rw[kh n]at h4 h5;obtain⟨b1,Ff,r,ab,p⟩:=S.at_ n;injection r with r
   injection r with r N
   subst r N;have c0:=p 0 _ rfl;have c1:=p 1 _ rfl;simp only[arL]at c0;have eC:(k:Int)<(t.length:Int):=(by omega);have f0:=j.frozen k;have z0:=j.cell (i:=k) n;have ad:b≠l.heap.size:=(by omega);have ae:l.heap.size<wr.heap.size:=(by omega);have Ki:=arH j;have HG:=arH C;generalize BQ t inc k k=zz at z0;clear p j C;have T:∀(v:Int),v=fU t inc k->∃k':Nat,k'<=t.length/\Value.int .i64 ((k:Int)+1)=.int .i64 k'/\((wr.setCell ⟨l.heap.size,k,none⟩ (.int .i64 v)).alloc (.cells #[.int .i64 t[k].bX,.int .i64 t[k].bH] 127)).rowIs l.heap.size 3 t.length (BQ t inc k')/\W.grownBy ((wr.setCell ⟨l.heap.size,k,none⟩ (.int .i64 v)).alloc (.cells #[.int .i64 t[k].bX,.int .i64 t[k].bH] 127)) (some l.heap.size):=fun v hv=>⟨k+1,by omega,by go_num,(aaY Ki.out hv).alloc _,fJ (bm HG.out (.inl rfl) _) _⟩
   have I:=arH T;clear T;by_cases y:k+1<t.length
   ·have D:=arH (afH (inc:=inc) y);have h6:=B.out.Jz y;have h7:=B.out.hi (k+1) y;rw[kh y]at h6 h7;obtain⟨b1,Ff,r,af,p⟩:=S.at_ y;injection r with r
    injection r with r N
    subst r N;have c2:=p 0 _ rfl;simp only[arL]at c2;have Te:(k:Int)+1<(t.length:Int):=(by omega);clear p;go_wp2
    all_goals
     go_roundw
     case rel=>first|exact I.out _ (by rw[D.out];(repeat' split)<;>omega)|((repeat apply Exists.intro);exact⟨I.out _ (by rw[D.out];(repeat' split)<;>omega),rfl⟩)
     case measure=>simp[intOf];omega
   ·have D:=arH (afI (inc:=inc) n y);have Te:¬(k:Int)+1<(t.length:Int):=(by omega);go_wp2
    all_goals
     go_roundw
     case rel=>first|exact I.out _ (by rw[D.out];(repeat' split)<;>omega)|((repeat apply Exists.intro);exact⟨I.out _ (by rw[D.out];(repeat' split)<;>omega),rfl⟩)
     case measure=>simp[intOf];omega
  ·obtain rfl:k=t.length:=by omega
   have U:=afJ j;have O:=arH U;clear j U;go_wp2;go_ret2;exact⟨l.heap.size,rfl,Z,O.out,gY⟩
theorem an1(A:Option Addr)(l:Nat)(t:List cv)(inc:Int)(w:World)(h:aj gQ 2 w w.heap.size A t)(y:ig t)(z:0<=inc)(J:inc<=1000000000000):
  Calls prog 255 #[.slice A t.length l,.int .i64 inc] w fun e w'=>e=.returned (.tuple #[.int .i64 (nL t inc),.int .i64 0])/\Below w.heap.size w w':=by
 have p:=arH y;have S:=y.len;have F:=arH (ap8 A l t inc w h y z J);clear y;go_enter func255,ntmps255;go_wp2_with fail;refine arP F.out ?_;rintro e T ⟨g,rfl,U,K,r⟩;have C:=h.aa r;clear F h;go_wp2
 go_loop [8,22] (fun n i=>∃k:Nat,k<=t.length/\i=.int .i64 k/\n=.int .i64 (pW t inc k)) (fun _ i=>t.length-(intOf i).toNat)
 case atStart=>exact⟨0,by omega,rfl,rfl⟩
 case round=>
  obtain⟨k,L,rfl,rfl⟩:=hrel;obtain⟨V,M⟩:=Nk (inc:=inc) p.out z L;have X:pW t inc k<=1000000000000000000:=by omega
  by_cases j:k<t.length
  ·obtain⟨Y,Z,rfl,N,u⟩:=C.at_ j;have c1:=u 1 _ rfl;have O:=K.cell (i:=k) (by rw[aaW];exact j);rw[aaX t inc j]at O;have B:=arH (afK t inc k);rw[kh j]at B;obtain⟨G,D⟩:=Nk (inc:=inc) p.out z (show k+1<=t.length by omega);rw[B.out]at G D;have P:=S9 (t:=t) (inc:=inc) k;have s1:=afA p.out z j;have I:=p.out.r0 k j;have Q:=p.out.r1 k j;rw[kh j]at I Q;have m0:0<=t[k].bH*fU t inc k:=asg I P;rw[asn]at B G D;have m1:t[k].bH*fU t inc k<=1000000000000000000:=(by omega);have m2:pW t inc k+t[k].bH*fU t inc k<=1000000000000000000:=(by omega);clear u M D;generalize fU t inc k=sp at*;generalize E:pW t inc k=ex at*;clear E;go_wp2;go_round
   case rel=>exact⟨k+1,by omega,by go_num,by rw[B.out]⟩
   case measure=>simp[intOf];omega
  ·obtain rfl:k=t.length:=by omega
   have R:Hid (nL t inc=pW t inc t.length):=rfl;go_wp2;go_ret2;exact⟨by rw[R.out];rfl,r⟩
