/- Conditions: as stated. -/
import Derived.Sort.LotA
import Derived.Test.YtlhkojcmcmkmaaaGreatCNetP
set_option maxRecDepth 100000
set_option maxHeartbeats 2000000
namespace Go.Proofs.YtlhkojcmcmkmaaaGreat
open Go.Proofs.Tryz
open Go.Sort
section
variable {α:Type}[Inhabited α]
theorem ajj{lt lt':α->α->Bool}(a:Nat):∀(j:Nat) (d:Array α),j<d.size->(∀i,i<j->lt d[j]! d[i]! =lt' d[j]! d[i]!)->insInner lt a j d=insInner lt' a j d
 |0,d,_,_=>by unfold insInner;rfl
 |j+1,d,e,h=>by
  unfold insInner;rw[<-h j (by omega)];split
  ·refine ajj a j _ (by rw[swp_size];omega) fun i hi=>?_;have g:=swp_get d e (show j<d.size by omega);rw[g,g];simp only[show¬i=j by omega,show¬i=j+1 by omega,aup,auw];exact h i (by omega)
  ·rfl
theorem acP{lt:α->α->Bool}(a:Nat)(p:α->Prop):∀(j:Nat) (d:Array α),j<d.size->(∀k,k<=j->p d[k]!)->(insInner lt a j d).size=d.size/\(∀k,k<=j->p (insInner lt a j d)[k]!)/\∀k,j<k->(insInner lt a j d)[k]! =d[k]!
 |0,d,_,h=>by unfold insInner;exact⟨rfl,h,fun _ _=>rfl⟩
 |j+1,d,r,h=>by
  unfold insInner;split
  ·have g:=swp_get d r (show j<d.size by omega);obtain⟨u,y,l⟩:=acP (lt:=lt) a p j (swp d (j+1) j) (by rw[swp_size];omega) (fun k n=>by
    rw[g];simp only[show¬k=j+1 by omega,auw];split
    ·exact h _ (atN _)
    ·exact h _ (by omega))
   refine⟨by rw[u,swp_size],fun k n=>?_,fun k n=>?_⟩
   ·by_cases e:k=j+1
    ·subst e;rw[l _ (by omega),g];simp only[show¬j+1=j by omega,auw,aup];exact h j (by omega)
    ·exact y k (by omega)
   ·rw[l k (by omega),g];simp only[show¬k=j+1 by omega,show¬k=j by omega,auw]
  ·exact⟨rfl,h,fun _ _=>rfl⟩
def kW(lt:α->α->Bool)(idx:α->Nat)(x y:α):Bool:=lt x y||(!lt y x&&decide (idx x<idx y))
theorem arW{lt:α->α->Bool}{j:α->Nat}(a b:Nat):∀(m i:Nat) (d:Array α),b-i=m->b<=d.size->(∀p q,p<q->i<=q->q<b->j d[p]!<j d[q]!)->insOuter lt a b i d=insOuter (kW lt j) a b i d:=by
 intro m
 induction m with
 |zero=>intro i d y z h;rw[insOuter,atO (by omega)];rw[insOuter,atO (by omega)]
 |succ m B=>
  intro i d y z h;have hi:i<b:=by omega
  rw[insOuter,atP hi]
  conv=>rhs;rw[insOuter,atP hi]
  have e:=ajj (lt:=lt) (lt':=kW lt j) a i d (by omega) (fun p n=>by have:=h p i n (atN _) hi;unfold kW;rw[show decide (j d[i]!<j d[p]!)=false from auO (by omega),Bool.and_false,Bool.or_false])
  rw[e];obtain⟨D,_,u⟩:=acP (lt:=kW lt j) a (fun _=>True) i d (by omega) (fun _ _=>trivial);refine B (i+1) _ (by omega) (by omega) fun p q r E l=>?_;rw[u q (by omega)];by_cases n:p<=i
  ·obtain⟨_,C,_⟩:=acP (lt:=kW lt j) a (fun x=>j x<j d[q]!) i d (by omega) (fun k F=>h k q (by omega) (by omega) l);exact C p n
  ·rw[u p (by omega)];exact h p q r (by omega) l
omit [Inhabited α]in
theorem arX{lt:α->α->Bool}{j:α->Nat}(h:SWO lt):SWO (kW lt j):=by
 have u:∀x y,lt x y=true->lt y x=false:=fun x y l=>by
  cases e:lt y x with
  |false=>rfl
  |true=>have:=h.trans x y x l e;rw[h.irrefl]at this;cases this
 have T:∀x y,kW lt j x y=true↔lt x y=true\/(lt y x=false/\j x<j y):=fun x y=>by simp[kW]
 have F:∀x y,kW lt j x y=false↔lt x y=false/\(lt y x=true\/j y<=j x):=fun x y=>by simp[kW];intro _;cases lt y x<;>simp
 refine⟨fun x=>(F x x).2 ⟨h.irrefl x,.inr (atN _)⟩,fun x y z l n=>?_,fun x y z l n=>?_⟩
 ·rw[T]at*;rcases l with l|⟨l,B⟩<;>rcases n with n|⟨n,C⟩
  ·exact .inl (h.trans _ _ _ l n)
  ·left;cases e:lt x z with
   |true=>rfl
   |false=>have:=h.ntrans _ _ _ e n;rw[l]at this;cases this
  ·left;cases e:lt x z with
   |true=>rfl
   |false=>have:=h.ntrans _ _ _ l e;rw[n]at this;cases this
  ·exact .inr ⟨h.ntrans _ _ _ n l,by omega⟩
 ·rw[F]at*;obtain⟨p,b1⟩:=l;obtain⟨r,b2⟩:=n;refine⟨h.ntrans _ _ _ p r,?_⟩;rcases b1 with b1|b1
  ·left;cases e:lt z x with
   |true=>rfl
   |false=>have:=h.ntrans _ _ _ r e;rw[b1]at this;cases this
  ·rcases b2 with b2|b2
   ·left;cases e:lt z x with
    |true=>rfl
    |false=>have:=h.ntrans _ _ _ e p;rw[b2]at this;cases this
   ·exact .inr (by omega)
theorem arL{lt:α->α->Bool}{idx:α->Nat}(h:SWO lt)(r:∀x y,idx x=idx y->x=y)(l:List α)(u:l.Pairwise (fun a b=>idx a<idx b)):
  ∃z:List α,(insertionSort lt l.toArray 0 l.length).toList=z/\z.Perm l/\z.Pairwise (fun a b=>kW lt idx a b=true):=by
 have e:insertionSort lt l.toArray 0 l.length=insertionSort (kW lt idx) l.toArray 0 l.length:=by unfold insertionSort;refine arW 0 _ _ 1 l.toArray rfl (by simp) fun p q B _ I=>?_;rw[auz]at u;have:=u p q (by omega) I B;rw[aum _ p (by simp;omega),aum _ q (by simpa using I)];simpa using this
 obtain⟨⟨M,_,J⟩,N⟩:=insertionSort_holds (lt:=kW lt idx) (arX h) l.toArray 0 l.length (Nat.zero_le _) (by simp);rw[e];have C:(insertionSort (kW lt idx) l.toArray 0 l.length).toList.Perm l:=by
  have O:(insertionSort (kW lt idx) l.toArray 0 l.length).extract 0 l.length=insertionSort (kW lt idx) l.toArray 0 l.length:=by refine Array.extract_eq_self_of_le ?_;rw[M];simp
  rw[O]at J;simpa using J
 refine⟨_,rfl,C,?_⟩;have P:l.Nodup:=u.imp fun Q e=>by subst e;omega
 have D:=C.nodup_iff.2 P;rw[auz];intro i j hi K L;have n:=N i j (Nat.zero_le _) L (by have:=C.length_eq;omega);have E:i<(insertionSort (kW lt idx) l.toArray 0 l.length).size:=by simpa using hi
 have F:j<(insertionSort (kW lt idx) l.toArray 0 l.length).size:=by simpa using K
 rw[aum _ i E,aum _ j F]at n;simp only[Array.getElem_toList];generalize R:(insertionSort (kW lt idx) l.toArray 0 l.length)[i]=x at*;generalize S:(insertionSort (kW lt idx) l.toArray 0 l.length)[j]=y at*;have G:x≠y:=by intro e;have:=auz.1 D i j hi K L;apply this;simp only[Array.getElem_toList,R,S,e]
 have T:idx x≠idx y:=fun e=>G (r _ _ e);unfold kW at n|-;simp only[Bool.or_eq_false_iff,Bool.and_eq_false_iff,Bool.not_eq_eq_eq_not,Bool.not_false,auA,Nat.not_lt]at n;obtain⟨U,h7⟩:=n;rcases h7 with h7|h7
 ·rw[h7];rfl
 ·rw[U];simp;exact .inr (by omega)
end
open Go.RowKit
def oQ(t:List dv)(num den:Int):Nat->List dv
 |0=>[]
 |k+1=>nL t num den k++[⟨jz t num den k,(t.getD k jc).cB⟩]
theorem apl{t:List dv}{num den:Int}{k:Nat}(e:k+1<t.length)(h:jz t num den (k+1)=jz t num den k):oQ t num den (k+2)=(oQ t num den (k+1)).set ((oQ t num den (k+1)).length-1) ⟨jz t num den (k+1),(t.getD (k+1) jc).cB⟩:=by rw[oQ,nL,atP (by simp[FR,e,h]),oQ];simp
theorem apm{t:List dv}{num den:Int}{k:Nat}(h:jz t num den (k+1)≠jz t num den k):oQ t num den (k+2)=oQ t num den (k+1)++[⟨jz t num den (k+1),(t.getD (k+1) jc).cB⟩]:=by rw[oQ,nL,atO (by simp[FR,h]),oQ]
theorem apn{t:List dv}{num den:Int}(h:0<t.length):oQ t num den t.length=qx t num den:=by
 obtain⟨m,e⟩:∃m,t.length=m+1:=⟨t.length-1,by omega⟩
 unfold qx;rw[e,oQ,nL,atO (by simp[FR,e])]
theorem apk(t:List dv)(num den:Int)(k:Nat):0<(oQ t num den (k+1)).length/\(oQ t num den (k+1))[(oQ t num den (k+1)).length-1]?=some ⟨jz t num den k,(t.getD k jc).cB⟩:=by rw[oQ];simp
theorem api{t:List dv}{num den:Int}:∀k,(oQ t num den k).length<=k
 |0=>atN _
 |k+1=>by
  have key:∀j,(nL t num den j).length<=j:=by
   intro j
   induction j with
   |zero=>exact atN _
   |succ j e=>
    rw[nL];split
    ·omega
    ·simp;omega
  have:=key k;rw[oQ];simp;omega
def Qk(j rest step e:Int):Bool:=
 if rest=0 then false else if e=1\/e=3 then true else if e=4 then decide (step<=2*rest)else if e=5 then decide (step<2*rest)else if e=6 then decide (step<2*rest)||(decide (2*rest=step)&&decide (j%2=1))else false
theorem apd{n d j:Int}(u:0<=n)(hd:0<d)(E:0<=j)(F:j<=6):gY n d j=n/d+if Qk (n/d) (n%d) d j=true then 1 else 0:=by
 have G:=auY n (show d≠0 by omega);have I:=au2 n hd;have y:0<=n/d:=au5 u (by omega);have z:(n/d).tmod 2=n/d%2:=avs y;have B:n%d≠0->0<n:=fun h=>by
  rcases Int.lt_or_eq_of_le u with h1|h1
  ·exact h1
  ·subst h1;simp at h
 unfold gY Qk DC kG;rw[z];generalize n%d=r at*;generalize n/d=q at*;have C:j=0\/j=1\/j=2\/j=3\/j=4\/j=5\/j=6:=by omega
 by_cases l:r=0
 ·simp[l]
 have D:=B l;have p:q%2=0\/q%2=1:=by omega
 rcases C with rfl|rfl|rfl|rfl|rfl|rfl|rfl<;>simp[l,D]
 ·split<;>split<;>simp_all<;>omega
 ·split<;>split<;>simp_all<;>omega
 ·rcases p with e|e<;>simp[e]<;>(repeat' split)<;>simp_all<;>omega
theorem XP(A:Option Addr)(C:Nat)(t:List dv)(w:World)(h:ai ik 2 w w.heap.size A t)(n:ji t):
  Calls prog 193 #[.slice A t.length C] w fun e w'=>e=.returned (.bool true)/\Below w.heap.size w w':=by
 have B:=atM n;have p:=n.ne;have U:=n.len;have D:=n.zero;rw[ke p]at D;obtain⟨b,off,rfl,V,E⟩:=h.at_ p;have d0:=E 0 _ rfl;simp only[atQ,auu]at d0;rw[D]at d0;have X:(0:Int)<(t.length:Int):=by omega
 clear D E n;go_enter func193,ntmps193;go_wp2
 go_loopw [22] (fun i wr=>∃k:Nat,k<=t.length/\i=.int .i64 k/\Below w.heap.size w wr) (fun i _=>t.length-(intOf i).toNat)
 case atStart=>exact⟨0,by omega,rfl,atS _ _⟩
 case round=>
  obtain⟨k,Y,rfl,r⟩:=hrel;have F:=r.size;by_cases j:k<t.length
  ·have G:ai ik 2 wr w.heap.size (some ⟨b,off,none⟩) t:=h.below r;have K:=B.out.hi k j;have L:=B.out.r0 k j;have M:=B.out.r1 k j;rw[ke j]at K L M;obtain⟨Z,Du,u,N,l⟩:=G.at_ j;injection u with u
   injection u with u O
   subst u O;have I:=l 0 _ rfl;have P:=l 1 _ rfl;simp only[atQ]at I;have fL:(k:Int)<(t.length:Int):=(by omega);have g1:decide (1000000000000<t[k].cg)=false:=(by simp;omega);have g2:decide (t[k].cB<0)=false:=(by simp;omega);have g3:decide (1000000<t[k].cB)=false:=(by simp;omega);have eJ:b<wr.heap.size:=(by omega);clear l;rcases k with _|m
   ·have fK:(0:Int)<(t.length:Int):=(by omega);simp only[auu,atQ]at I P;go_wp2;go_quiet(fail);go_wp2;go_roundw
    case rel=>exact⟨1,by omega,by go_num,below_drewN (r.alloc F _) _⟩
    case measure=>simp[intOf];omega
   ·have J:m<t.length:=(by omega);have Q:=B.out.jr m j;rw[ke J,ke j]at Q;obtain⟨b2,Ep,y,R,z⟩:=G.at_ J;injection y with y
    injection y with y S
    subst y S;have T:=z 0 _ rfl;simp only[atQ]at T;clear z;have g0:decide (t[m+1].cg<=t[m].cg)=false:=(by simp;omega);have qh:(m:Int)<(t.length:Int):=(by omega);have Nf:(m:Int)+1<(t.length:Int):=(by omega);have hp:decide ((0:Int)<(m:Int)+1)=true:=(by rw[auc];omega);go_wp2;go_quiet(fail);go_wp2;go_roundw
    case rel=>exact⟨m+2,by omega,by go_num,below_drewN (r.alloc F _) _⟩
    case measure=>simp[intOf];omega
  ·go_wp2;go_ret;exact⟨rfl,r⟩
theorem ar1(A:Option Addr)(j:Nat)(t:List dv)(inc:Int)(w:World)(h:ai ik 2 w w.heap.size A t)(n:ji t)(p:0<=inc)(r:inc<=1000000000000):
  Calls prog 272 #[.slice A t.length j,.int .i64 inc] w fun e w'=>e=.returned (.int .i64 0)/\Below w.heap.size w w':=by
 go_enter func272,ntmps272;go_wp2_with fail;refine(XP A j t w h n).mono ?_;rintro e u ⟨rfl,l⟩;go_wp2;go_ret;exact⟨rfl,l⟩
theorem ar2(A:Option Addr)(z:Nat)(t:List dv)(inc:Int)(w:World)(h:ai ik 2 w w.heap.size A t)(E:ji t)(V:0<=inc)(X:inc<=1000000000000):
  Calls prog 267 #[.slice A t.length z,.int .i64 inc] w fun e w'=>∃g,e=.returned (.tuple #[.slice (some ⟨g,0,none⟩) t.length t.length,.int .i64 0])/\w.heap.size<=g/\RowI w' g (LQ t inc)/\Below w.heap.size w w':=by
 have hl:=E.len;have B:=atM E;have Cw:=Oy t.length (by omega);have P:=atM (ar1 A z t inc w h E V X);clear E;go_enter func267,ntmps267;go_wp2_with fail;refine atV P.out ?_;rintro e l ⟨rfl,J⟩;have u:ai ik 2 l l.heap.size A t:=h.aa J;obtain⟨b,off,rfl,hb,K⟩:=u.at_ B.out.ne;clear P h K;go_upto_region 5 with fail
 have F:=RowI.made l t.length;have G:=bC l (.cells (madeCells #[.int .i64 0] t.length) 3);have Q:=u.aa G;have R:=aA J G;have j:(l.alloc (.cells (madeCells #[.int .i64 0] t.length) 3)).rowIs l.heap.size 3 t.length (BM t inc 0):=by have L:=F;unfold RowI at L;rw[List.length_replicate]at L;refine L.congr fun i hi=>?_;simp[BM,avh];split<;>rfl
 generalize l.alloc (.cells (madeCells #[.int .i64 0] t.length) 3)=W at F G Q R j|-;have kM:=F.lt;have Y:=J.size;clear F G u;go_wp2
 go_loopw [22] (fun i wr=>∃k:Nat,k<=t.length/\i=.int .i64 k/\wr.rowIs l.heap.size 3 t.length (BM t inc k)/\W.grownBy wr (some l.heap.size)) (fun i _=>t.length-(intOf i).toNat)
 case atStart=>exact⟨0,by omega,rfl,j,dX _ _⟩
 case round=>
  clear j;obtain⟨k,hk,rfl,j,C⟩:=hrel;have S:=Q.pQ C (fun a M=>by injection M with M;subst M;simp only;omega);have Z:Below w.heap.size w wr:=kH R C (fun g e=>by injection e;omega);have iy:=C.size;by_cases n:k<t.length
  ·have h4:=B.out.JM n;have h5:=B.out.hi k n;rw[ke n]at h4 h5;obtain⟨b1,Du,r,ab,p⟩:=S.at_ n;injection r with r
   injection r with r N
   subst r N;have c0:=p 0 _ rfl;have c1:=p 1 _ rfl;simp only[atQ]at c0;have fL:(k:Int)<(t.length:Int):=(by omega);have f0:=j.frozen k;have z0:=j.cell (i:=k) n;have ad:b≠l.heap.size:=(by omega);have ae:l.heap.size<wr.heap.size:=(by omega);have KN:=atM j;have HG:=atM C;generalize BM t inc k k=zz at z0;clear p j C;have T:∀(v:Int),v=jK t inc k->∃k':Nat,k'<=t.length/\Value.int .i64 ((k:Int)+1)=.int .i64 k'/\((wr.setCell ⟨l.heap.size,k,none⟩ (.int .i64 v)).alloc (.cells #[.int .i64 t[k].cg,.int .i64 t[k].cB] 127)).rowIs l.heap.size 3 t.length (BM t inc k')/\W.grownBy ((wr.setCell ⟨l.heap.size,k,none⟩ (.int .i64 v)).alloc (.cells #[.int .i64 t[k].cg,.int .i64 t[k].cB] 127)) (some l.heap.size):=fun v hv=>⟨k+1,by omega,by go_num,(abz KN.out hv).alloc _,eG (bg HG.out (.inl rfl) _) _⟩
   have I:=atM T;clear T;by_cases y:k+1<t.length
   ·have D:=atM (agL (inc:=inc) y);have h6:=B.out.JM y;have h7:=B.out.hi (k+1) y;rw[ke y]at h6 h7;obtain⟨b1,Du,r,af,p⟩:=S.at_ y;injection r with r
    injection r with r N
    subst r N;have c2:=p 0 _ rfl;simp only[atQ]at c2;have TU:(k:Int)+1<(t.length:Int):=(by omega);clear p;go_wp2
    all_goals
     go_roundw
     case rel=>first|exact I.out _ (by rw[D.out];(repeat' split)<;>omega)|((repeat apply Exists.intro);exact⟨I.out _ (by rw[D.out];(repeat' split)<;>omega),rfl⟩)
     case measure=>simp[intOf];omega
   ·have D:=atM (agM (inc:=inc) n y);have TU:¬(k:Int)+1<(t.length:Int):=(by omega);go_wp2
    all_goals
     go_roundw
     case rel=>first|exact I.out _ (by rw[D.out];(repeat' split)<;>omega)|((repeat apply Exists.intro);exact⟨I.out _ (by rw[D.out];(repeat' split)<;>omega),rfl⟩)
     case measure=>simp[intOf];omega
  ·obtain rfl:k=t.length:=by omega
   have U:=agN j;have O:=atM U;clear j U;go_wp2;go_ret2;exact⟨l.heap.size,rfl,Y,O.out,Z⟩
theorem ape(A:Option Addr)(l:Nat)(t:List dv)(inc:Int)(w:World)(h:ai ik 2 w w.heap.size A t)(y:ji t)(z:0<=inc)(J:inc<=1000000000000):
  Calls prog 255 #[.slice A t.length l,.int .i64 inc] w fun e w'=>e=.returned (.tuple #[.int .i64 (DX t inc),.int .i64 0])/\Below w.heap.size w w':=by
 have p:=atM y;have S:=y.len;have F:=atM (ar2 A l t inc w h y z J);clear y;go_enter func255,ntmps255;go_wp2_with fail;refine atV F.out ?_;rintro e T ⟨g,rfl,U,K,r⟩;have C:=h.aa r;clear F h;go_wp2
 go_loop [8,22] (fun n i=>∃k:Nat,k<=t.length/\i=.int .i64 k/\n=.int .i64 (qw t inc k)) (fun _ i=>t.length-(intOf i).toNat)
 case atStart=>exact⟨0,by omega,rfl,rfl⟩
 case round=>
  obtain⟨k,L,rfl,rfl⟩:=hrel;obtain⟨V,M⟩:=NS (inc:=inc) p.out z L;have X:qw t inc k<=1000000000000000000:=by omega
  by_cases j:k<t.length
  ·obtain⟨Y,Z,rfl,N,u⟩:=C.at_ j;have c1:=u 1 _ rfl;have O:=K.cell (i:=k) (by rw[abx];exact j);rw[aby t inc j]at O;have B:=atM (agO t inc k);rw[ke j]at B;obtain⟨G,D⟩:=NS (inc:=inc) p.out z (show k+1<=t.length by omega);rw[B.out]at G D;have P:=TS (t:=t) (inc:=inc) k;have s1:=agD p.out z j;have I:=p.out.r0 k j;have Q:=p.out.r1 k j;rw[ke j]at I Q;have m0:0<=t[k].cB*jK t inc k:=aur I P;rw[auZ]at B G D;have m1:t[k].cB*jK t inc k<=1000000000000000000:=(by omega);have m2:qw t inc k+t[k].cB*jK t inc k<=1000000000000000000:=(by omega);clear u M D;generalize jK t inc k=sp at*;generalize E:qw t inc k=ex at*;clear E;go_wp2;go_round
   case rel=>exact⟨k+1,by omega,by go_num,by rw[B.out]⟩
   case measure=>simp[intOf];omega
  ·obtain rfl:k=t.length:=by omega
   have R:Hid (DX t inc=qw t inc t.length):=rfl;go_wp2;go_ret2;exact⟨by rw[R.out];rfl,r⟩
