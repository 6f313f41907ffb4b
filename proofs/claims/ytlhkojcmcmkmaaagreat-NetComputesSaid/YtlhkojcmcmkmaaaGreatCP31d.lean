/- Conditions: as stated. -/
import Derived.Test.YtlhkojcmcmkmaaaGreatCAddD
import Derived.Test.YtlhkojcmcmkmaaaGreatCP31c
set_option maxRecDepth 100000
set_option maxHeartbeats 4000000
namespace Go.Proofs.YtlhkojcmcmkmaaaGreat
open Go.Proofs.Tryz
open Go.RowKit Go.Sort Go.Shelf
def iD(l:List bn)(aU:Bool){n:Nat}:(k:Nat)->k<=n->List (Fin n)
 |0,_=>[]
 |k+1,h=>iD l aU k (by omega)++(if mP aU (l.getD k gj)=true then[⟨k,h⟩]else[])
theorem ahQ(l:List bn)(j:Bool){n:Nat}:∀(k:Nat) (h:k<=n),∀i∈iD l j k h,i.val<k
 |0,_,i,hi=>by simp[iD]at hi
 |k+1,h,i,hi=>by
  rw[iD]at hi;rcases aul.1 hi with e|e
  ·have:=ahQ l j k (by omega) i e;omega
  ·split at e
   ·rw[auB.1 e];exact Nat.lt_succ_self k
   ·simp at e
theorem acf(l:List bn)(aU:Bool){n:Nat}:∀(k:Nat) (h:k<=n),(iD l aU k h).Pairwise (fun a b=>a.val<b.val)
 |0,_=>by simp[iD]
 |k+1,h=>by
  rw[iD,avr];refine⟨acf l aU k (by omega),by split<;>simp,fun a j b e=>?_⟩;have:=ahQ l aU k (by omega) a j;split at e
  ·rw[auB.1 e];exact this
  ·simp at e
theorem Qu(l:List bn)(aU:Bool){n:Nat}:∀(k:Nat) (h:k<=n),(iD l aU k h).length<=k
 |0,_=>by simp[iD]
 |k+1,h=>by have:=Qu l aU k (n:=n) (by omega);rw[iD,at3];split<;>simp<;>omega
theorem ahR(l:List bn)(j:Bool){n:Nat}:∀(k:Nat) (h:k<=n),(iD l j k h).map (·.val)=(List.range k).filter fun i=>mP j (l.getD i gj)
 |0,_=>by simp[iD]
 |k+1,h=>by
  rw[iD,auK,ahR l j k,List.range_succ,auE];congr 1;by_cases e:mP j (l.getD k gj)=true
  ·rw[atP e,List.filter_cons_of_pos (by exact e)];rfl
  ·rw[atO e,List.filter_cons_of_neg (by exact e)];rfl
theorem ahS{m:Nat}(e:List (Fin (m+1)))(i:Fin (m+1)):dT (e++[i])=dT e++[(i.val:Int)]:=by simp[dT]
theorem Own.ahT{l:Type}{j:l->List Value}{k:Nat}{e:TypeId}{w w':World}{base:Nat}{v:Value}{xs:List l}{row:Option Nat}(h:Own j k e w base v xs)(n:w.grownBy w' row)(p:∀q,v.ownBlock=some q->row≠some q):Own j k e w' base v xs:=by
 refine World.ownsRow.kept h n ?_;cases r:v.ownBlock with
 |none=>exact .inl rfl
 |some g=>exact .inr (fun u=>p g r u.symm)
theorem ap9{T:List Int}(h:∀x∈T,0<=x)(i:Nat)(p:Int)(e:0<=p):ax (T.set i p)<=ax T+p:=by
 induction T generalizing i with
 |nil=>simp[ax];exact e
 |cons x T j=>
  have l:=h x (by simp);cases i with
  |zero=>simp only[at9,ax];omega
  |succ i=>have:=j (fun y hy=>h y (by simp[hy])) i;simp only[at8,ax];omega
theorem ahU:∀(g:List Nat) (P T:List Int),(∀x∈T,0<=x)->(∀x∈P,0<=x)->ax (kt T g P)<=ax T+ax P
 |[],P,T,_,j=>by
  have:=Qp j;have e:kt T [] P=T:=by cases P<;>rfl
  rw[e];omega
 |i::g,[],T,_,_=>by simp[kt,ax]
 |i::g,p::P,T,n,j=>by
  have r:=j p (by simp);have u:=ap9 n i p r;have y:=ahU g P (T.set i p) (fun x l=>by
   rcases avB l with e|e
   ·exact n x e
   ·rw[e];exact r) (fun x l=>j x (by simp[l]))
  simp only[kt,ax];omega
theorem aqa{l:List bn}(e:∀o∈l,EM o)(g:List Nat):∀x∈im l g,0<=x:=fun x j=>by
 obtain⟨i,_,rfl⟩:=aue.1 j;by_cases hi:i<l.length
 ·exact(O3 (e _ (Ql hi))).1
 ·rw[atZ,avu (by omega)];decide
theorem ahV{l:List bn}(j:∀o∈l,EM o):∀(n:Nat) (ys:List Nat) (left:Int) (T:List Int),0<=left->(∀x∈T,0<=x)->ax (kg l n ys left T)<=ax T+left/\∀x∈kg l n ys left T,0<=x
 |0,_,left,T,h,e=>by simp only[kg];exact⟨by omega,e⟩
 |n+1,[],left,T,h,e=>by simp only[kg];exact⟨by omega,e⟩
 |n+1,i::r,left,T,h,e=>by obtain⟨_,p,y⟩:=ahH h (aqa j (kf l i r));have z:=ahU (kf l i r) _ T e p;obtain⟨B,u⟩:=ahV j n ((i::r).drop (kf l i r).length) (left-ax (Av left (im l (kf l i r)))) (kt T (kf l i r) (Av left (im l (kf l i r)))) (by omega) (ab2 _ _ _ p e);rw[kg];exact⟨by omega,u⟩
theorem aqb{T:List Int}(h:∀x∈T,0<=x)(k:Nat):0<=ax (T.take k)/\ax (T.take k)<=ax T:=by
 have j:=Qp (l:=T.take k) fun x e=>h x (auh e);have n:=Qp (l:=T.drop k) fun x e=>h x (ave e);have p:ax T=ax (T.take k)+ax (T.drop k):=by rw[<-F9,avd]
 omega
theorem ahW:∀(l:List bn) (T:List Int) (k:Nat) (e:k<l.length) (j:k<T.length),kV (l.take (k+1)) (T.take (k+1))=kV (l.take k) (T.take k)++(if 0<T[k]then[⟨l[k].id,T[k]⟩]else[])
 |o::l,t::T,0,_,_=>by simp[kV]
 |o::l,t::T,k+1,e,j=>by have:=ahW l T k (by simpa using e) (by simpa using j);simp only[avg,kV,List.getElem_cons_succ];rw[this];split<;>simp
theorem aqc(n:Nat):ax (List.replicate n 0)=0:=by
 induction n with
 |zero=>rfl
 |succ n e=>rw[auV,ax,e];rfl
theorem acg{l:List bn}:∀(n:Nat) (ys:List Nat) (left:Int) (T:List Int),(kg l n ys left T).length=T.length
 |0,_,_,_=>by simp only[kg]
 |n+1,[],_,_=>by simp only[kg]
 |n+1,i::r,left,T=>by rw[kg,acg n,XR]
theorem ahX:∀(l:List bn) (T:List Int),(kV l T).length<=l.length
 |[],T=>by cases T<;>simp[kV]
 |o::l,[]=>by simp[kV]
 |o::l,t::T=>by have:=ahX l T;rw[kV];split<;>simp<;>omega
theorem ahY{l:List bn}{n:Nat}(e:l.length=n)(p:∀o∈l,EM o){aU:Bool}{ys:List (Fin n)}(j:ys.Perm (iD l aU n (atN _)))(h:(ys.map (·.val)).Pairwise (NZ l)):Rest l aU (-1,-1) (ys.map (·.val))/\(ys.map (·.val)).length<=l.length:=by
 refine⟨apA p ?_ h,?_⟩
 ·rw[e,<-ahR l aU n (atN _)];exact j.map _
 ·rw[auq,j.length_eq,e];exact Qu l aU n (atN _)
theorem ahZ(A T:Option Addr)(n tc:Nat)(left:Int)(w:World):
  Calls prog 169 #[.slice A 0 n,.slice none 0 0,.int .i64 left,.slice T 0 tc] w fun e w'=>e=.returned (.int .i64 0)/\Below w.heap.size w w':=by
 go_enter func169,ntmps169;go_upto_region 1 with fail
 have r:=bC w (.cells #[.slice A 0 n] 47);generalize w.alloc (.cells #[.slice A 0 n] 47)=W at r|-;have y:=atM (ab7 none 0 [] W (fun h=>absurd rfl h) (by simp));go_wp2_with fail;refine atV y.out ?_;rintro e E ⟨v,rfl,l,p⟩;have B:=aA r p;have C:∃z j,v=.slice z 0 j:=by
  rcases l.2 with⟨u,_⟩|⟨g,j,D,u,_⟩
  ·exact⟨none,0,u⟩
  ·exact⟨some ⟨g,0,none⟩,j,u⟩
 obtain⟨z,j,rfl⟩:=C;clear l y p r;go_wp2_with fail;refine(ahK _ _ _ _ _).mono ?_;rintro e w' ⟨rfl,rfl⟩;go_wp2;refine wp_loop_rounds 1 ?_;rw[rounds_succ];go_wp2;go_ret;exact⟨rfl,B⟩
theorem aqd(s:kB)(net j:Int)(A:Option Addr)(n:Nat)(l:List bn)(w:World)(h:ai mO 5 w w.heap.size A l)(z:oL s)(G:Bq l)(M:0<=net)(N:¬net<=1000000000)(d0:0<=j)(d1:j<=20):
  Calls prog 109 #[.agg #[.int .i64 s.fixed,.int .i64 s.bO,.int .i64 s.lower,.int .i64 s.share,.int .i64 s.top],.int .i64 net,.int .i64 j,.slice A l.length n] w fun e w'=>e=.returned (.tuple #[.slice none 0 0,.int .i64 2])/\Below w.heap.size w w':=by
 have O:=atM (fun w=>Qn s w z);have P:Hid (∀W,Below w.heap.size w W->Calls prog 157 #[.slice A l.length n] W fun e w'=>e=.returned (.bool true)/\Below W.heap.size W w'):=fun W Q=>XU A n l W (h.aa Q) G;have R:=atM (fun w=>apK s net j w z M N d0 d1);clear h z G;have y:=ah.new w 43 #[.int .i64 s.fixed,.int .i64 s.bO,.int .i64 s.lower,.int .i64 s.share,.int .i64 s.top];have I:=bC w (.cells #[.int .i64 s.fixed,.int .i64 s.bO,.int .i64 s.lower,.int .i64 s.share,.int .i64 s.top] 43);go_enter func109,ntmps109;go_upto_region 1 with fail
 generalize w.alloc (Obj.cells _ _)=W at y I|-;obtain⟨B,C,D,E,F⟩:=y.cz5;go_wp2_with fail;refine atV (O.out _) ?_;rintro e U ⟨rfl,p⟩;have J:=y.aa p;have K:=aA I p;clear y p B C D E F;go_wp2_with fail;refine atV (P.out _ K) ?_;rintro e V ⟨rfl,r⟩;have L:=J.aa r;have S:=aA K r;clear J r;obtain⟨B,C,D,E,F⟩:=L.cz5;go_wp2_with fail;refine atV (R.out _) ?_;rintro e w3 ⟨rfl,u⟩;have T:=aA S u;clear L u B C D E F;go_wp2;go_ret2;exact⟨rfl,T⟩
def JW(e:World)(g:Nat)(v:Value)(w:World):Prop:=Below e.heap.size e w/\qf g v w
theorem JW.jw(j:World)(g:Nat)(v:Value):gH (JW j g v):=fun _ _ h e=>⟨aA h.1 e,h.2.aa e⟩
def Uo(u v:Value):Prop:=∀q,u.ownBlock=some q->v.ownBlock≠some q
theorem aqe(s:kB)(net deps:Int)(A:Option Addr)(L m:Nat)(l:List bn)(w:World)(hm:l.length=m+1)(h:ai mO 5 w w.heap.size A l)(hs:oL s)(hl:Bq l)(n0:0<=net)(n1:net<=1000000000)(d0:0<=deps)(d1:deps<=20):
  Calls prog 109 #[.agg #[.int .i64 s.fixed,.int .i64 s.bO,.int .i64 s.lower,.int .i64 s.share,.int .i64 s.top],.int .i64 net,.int .i64 deps,.slice A (m+1) L] w fun e w'=>∃v,e=.returned (.tuple #[v,.int .i64 0])/\SlF w.heap.size w' v (B6 s net deps l)/\Below w.heap.size w w':=by
 have CK:=atM (fun w=>Qn s w hs);have GA:Hid (∀W,Below w.heap.size w W->Calls prog 157 #[.slice A (m+1) L] W fun e w'=>e=.returned (.bool true)/\Below W.heap.size W w'):=fun W hb=>by rw[<-hm];exact XU _ L l W (h.aa hb) hl
 have Ic:=atM (fun w=>ahD s net deps w hs n0 n1 d0 d1);have GC:=atM (fun w=>ahC s net deps w hs n0 n1 d0 d1);obtain⟨_,⟨r0,r1⟩,⟨w0,Ds⟩,_⟩:=KH hs n0 n1 d0 d1;have Qq:m+1<=16:=by rw[<-hm];exact hl.len
 obtain⟨ob,oo,oF,Lk,_⟩:=h (by intro e2;rw[e2]at hm;simp at hm);subst oF;have U:=atM hm;have cV:=atM hl;have a3:=atM (fun ys X=>apB (s:=s) (net:=net) (deps:=deps) hl ys X);clear hs hm hl;have ak:=ah.new w 43 #[.int .i64 s.fixed,.int .i64 s.bO,.int .i64 s.lower,.int .i64 s.share,.int .i64 s.top];have ae:=bC w (.cells #[.int .i64 s.fixed,.int .i64 s.bO,.int .i64 s.lower,.int .i64 s.share,.int .i64 s.top] 43);generalize B6 s net deps l=AT at*;generalize iH s net deps=lo at*;generalize ny s net deps=pr at*;go_enter func109,ntmps109;go_upto_region 1 with fail
 generalize w.alloc (Obj.cells _ _)=W at ak ae|-;obtain⟨z0,z1,z2,z3,z4⟩:=ak.cz5;go_wp2_with fail;refine atV (CK.out _) ?_;rintro e w1 ⟨rfl,N⟩;have aC:=ak.aa N;have aS:=aA ae N;clear ak N z0 z1 z2 z3 z4;go_wp2_with fail;refine atV (GA.out _ aS) ?_;rintro e w2 ⟨rfl,O⟩;have bA:=aC.aa O;have bm:=aA aS O;clear aC O;obtain⟨z0,z1,z2,z3,z4⟩:=bA.cz5;go_wp2_with fail;refine atV (Ic.out _) ?_;rintro e w3 ⟨rfl,af⟩;have bk:=bA.aa af;have cT:=aA bm af;clear bA af z0 z1 z2 z3 z4;obtain⟨z0,z1,z2,z3,z4⟩:=bk.cz5;go_wp2_with fail;refine atV (GC.out _) ?_;rintro e z ⟨rfl,y⟩;have eo:=aA cT y;have al:=h.aa eo;clear bk y z0 z1 z2 z3 z4 cT bm aS ae h GA CK Ic GC;go_wp2
 go_loopw [13,14,56] (fun fv sv P wr=>∃(k:Nat) (B:k<=m+1),P=.int .i64 (k:Int)/\Own encI 1 3 wr z.heap.size fv (dT (iD l true k B))/\Own encI 1 3 wr z.heap.size sv (dT (iD l false k B))/\Hid (Uo fv sv)/\Below z.heap.size z wr) (fun _ _ P _=>m+1-(intOf P).toNat)
 case atStart=>exact⟨0,by omega,rfl,Own.cC _ _,Own.cC _ _,(fun q D=>nomatch D),atS _ _⟩
 case round=>
  rename World=>wr
  obtain⟨k,B,rfl,K,hP,BA,I⟩:=hrel;have AL:=al.aa I;have br:=I.size;by_cases j:k<m+1
  ·have n:=ab8 AL (i:=k) (by rw[U.out];exact j);have fL:(k:Int)<((m+1:Nat):Int):=(by omega);have aX:EM (l.getD k gj):=cV.out.ok _ (Ql (by rw[U.out];exact j));have c0:=n 0 _ rfl;have c1:=n 1 _ rfl;have c2:=n 2 _ rfl;have c3:=n 3 _ rfl;have c4:=n 4 _ rfl;simp only[atQ]at c0;have HT:∀p,Hid (iD l p (k+1) j=iD l p k B++(if mP p (l.getD k gj)=true then[⟨k,j⟩]else[])):=fun p=>rfl;have a4:=Qu l true k B;have a5:=Qu l false k B;have MD:(dT (iD l true k B)).length<=16:=(by simp[dT];omega);have am:(dT (iD l false k B)).length<=16:=(by simp[dT];omega);have dp:=ah.new wr 67 #[.string (l.getD k gj).id,.int .i64 (l.getD k gj).aT,.int .i64 (l.getD k gj).day,.int .i64 (l.getD k gj).amount,.int .i64 (l.getD k gj).total];have Q:=bC wr (.cells #[.string (l.getD k gj).id,.int .i64 (l.getD k gj).aT,.int .i64 (l.getD k gj).day,.int .i64 (l.getD k gj).amount,.int .i64 (l.getD k gj).total] 67);have iP:∀p,mP p (l.getD k gj)=(decide ((l.getD k gj).aT=0)==p):=fun p=>rfl;clear n aX AL a4 a5;generalize l.getD k gj=o at*;go_upto_region 13 with fail
   generalize wr.alloc (Obj.cells _ _)=W1 at dp Q|-;have pg:=K.aa Q;have oZ:=hP.aa Q;have y:Below z.heap.size z W1:=aA I Q;have dP:=y.size;have z1:=dp.cell 1;clear c0 c1 c2 c3 c4 K hP I Q br;by_cases hr:o.aT=0
   ·have a6:(o.aT==0)=true:=(by simp[hr]);have B9:Hid (dT (iD l true (k+1) j)=dT (iD l true k B)++[(k:Int)]):=by
     rw[Hid,(HT true).out,atP (by rw[iP];simp[hr]),ahS]
    have nV:Hid (dT (iD l false (k+1) j)=dT (iD l false k B)):=by rw[Hid,(HT false).out,atO (by rw[iP];simp[hr]),avl]
    clear hr iP HT;go_wp2_with(at_builtin;(refine OL _ _ 34 (k:Int) _ 8 _ B2 underlying34 pg iX (by omega) rfl (fun u hu=>by simp[encI]at hu;subst hu;rfl) (by omega) (by omega) (by omega) (by rfl) (by rfl) (by rfl) (by rfl) (by simp) (by rfl) ?_);intro V Y iw Z ig);have aM:Below z.heap.size z Y:=y.trans (ib Z y.size (fun q D=>(pg.bR D).1));have M0:=oZ.ahT Z (fun q D e=>BA.out q e D);have Ey:Uo V u14:=by
     intro q D gK;rcases ig with e|e
     ·rw[e]at D;exact BA.out q D gK
     ·rw[e]at D;injection D with e2
      have:=(oZ.bR gK).2;omega
    go_roundw
    case rel=>
     have R:∃(k':Nat) (E0:k'<=m+1),Value.int .i64 ((k:Int)+1)=.int .i64 (k':Int)/\Own encI 1 3 Y z.heap.size V (dT (iD l true k' E0))/\Own encI 1 3 Y z.heap.size u14 (dT (iD l false k' E0))/\Hid (Uo V u14)/\Below z.heap.size z Y:=⟨k+1,j,by go_num,by rw[B9.out];exact iw,by rw[nV.out];exact M0,Ey,aM⟩
     first|exact R|((repeat apply Exists.intro);exact⟨R,rfl⟩)
    case measure=>simp[intOf];omega
   ·have a6:(o.aT==0)=false:=(by rw[auj];exact hr);have B9:Hid (dT (iD l true (k+1) j)=dT (iD l true k B)):=by
     rw[Hid,(HT true).out,atO (by rw[iP];simp[hr]),avl]
    have nV:Hid (dT (iD l false (k+1) j)=dT (iD l false k B)++[(k:Int)]):=by rw[Hid,(HT false).out,atP (by rw[iP];simp[hr]),ahS]
    clear hr iP HT;go_wp2_with(at_builtin;(refine OL _ _ 34 (k:Int) _ 8 _ B2 underlying34 oZ iX (by omega) rfl (fun u hu=>by simp[encI]at hu;subst hu;rfl) (by omega) (by omega) (by omega) (by rfl) (by rfl) (by rfl) (by rfl) (by simp) (by rfl) ?_);intro V Y iw Z ig);have aM:Below z.heap.size z Y:=y.trans (ib Z y.size (fun q D=>(oZ.bR D).1));have M0:=pg.ahT Z (fun q D e=>BA.out q D e);have Ey:Uo u13 V:=by
     intro q D gK;rcases ig with e|e
     ·rw[e]at gK;exact BA.out q D gK
     ·rw[e]at gK;injection gK with e2
      have:=(pg.bR D).2;omega
    go_roundw
    case rel=>
     have R:∃(k':Nat) (E0:k'<=m+1),Value.int .i64 ((k:Int)+1)=.int .i64 (k':Int)/\Own encI 1 3 Y z.heap.size u13 (dT (iD l true k' E0))/\Own encI 1 3 Y z.heap.size V (dT (iD l false k' E0))/\Hid (Uo u13 V)/\Below z.heap.size z Y:=⟨k+1,j,by go_num,by rw[B9.out];exact M0,by rw[nV.out];exact iw,Ey,aM⟩
     first|exact R|((repeat apply Exists.intro);exact⟨R,rfl⟩)
    case measure=>simp[intOf];omega
  ·obtain rfl:k=m+1:=by omega
   obtain⟨A1,c1,rfl,av,_,_⟩:=K.form iX;obtain⟨A2,c2,rfl,cu,_,_⟩:=hP.form iX;have MD:(dT (iD l true (m+1) B)).length=(iD l true (m+1) B).length:=(by simp[dT]);have am:(dT (iD l false (m+1) B)).length=(iD l false (m+1) B).length:=(by simp[dT]);rw[MD,am];have N:∀a,A1=some a->z.heap.size<=a.block/\a.block<wr.heap.size:=fun a e=>K.bR (g:=a.block) (by rw[e];rfl);have O:∀a,A2=some a->z.heap.size<=a.block/\a.block<wr.heap.size:=fun a e=>hP.bR (g:=a.block) (by rw[e];rfl);have Cw:=VR (m+1) ((m:Int)+1) (by omega) (by omega);clear K hP BA MD am;go_upto_region 18 with fail
   have hR:=RowI.made wr (m+1);have eJ:=bC wr (.cells (madeCells #[.int .i64 0] (m+1)) 3);generalize wr.alloc (Obj.cells _ _)=W5 at hR eJ|-;have Mr:=av.aa eJ;have Hs:=cu.aa eJ;have X7:=aA I eJ;have eC:=al.aa X7;have bt:=X7.size;have dP:=eo.size;have bv:=hR.lt;have km:=I.size;have az:=Qu l true (m+1) B;have a7:=Qu l false (m+1) B;have E3:=atM (ahJ (some ⟨ob,oo,none⟩) A1 L c1 m l (iD l true (m+1) B) (net-lo) wr.heap.size (List.replicate (m+1) 0) W5 U.out eC cV.out Mr (acf l true _ B) az hR (by simp) (by omega) (by omega) (fun a E=>by injection E with E;subst E;show ob≠_;omega));clear Mr av hR Cw al eJ I;go_wp2_with fail;refine atV E3.out ?_;rintro e w6 ⟨rfl,ys,hp,IQ,G2,cE⟩;obtain⟨aD,oA⟩:=ahY U.out cV.out.ok hp IQ;have ab:=ahV cV.out.ok (m+1) (ys.map (·.val)) (net-lo) (List.replicate (m+1) 0) (by omega) (fun x hx=>by rw[(List.mem_replicate.1 hx).2];exact auJ 0);rw[aqc]at ab;obtain⟨r,oB⟩:∃r,r=kg l (m+1) (ys.map (·.val)) (net-lo) (List.replicate (m+1) 0):=⟨_,rfl⟩
   rw[<-oB]at ab G2;obtain⟨ab,o5⟩:=ab;have B9:Hid (r=kg l l.length (ys.map (·.val)) (net-lo) (List.replicate l.length 0)):=(by rw[Hid,U.out];exact oB);have Hk:r.length=m+1:=(by rw[oB,acg,List.length_replicate]);have Sa:Below z.heap.size z w6:=kH X7 cE (fun g e=>by injection e;omega);have DI:=eC.pQ cE (fun a E=>by injection E with E;subst E;show ob≠_;omega);have cK:=Hs.pQ cE (fun a E=>by have:=(O a E).2;omega);have HQ:=atM (fun X hz ad=>a3.out (ys.map (·.val)) X aD hz r B9.out oA ad);have bw:=G2.lt;have BH:=Sa.size;have bx:=Qp o5;have a8:=atM o5;have aJ:Hid (∀k,0<=ax (r.take k)/\ax (r.take k)<=ax r):=aqb o5;have ES:Hid (∀k,k<m+1->ax (r.take (k+1))=ax (r.take k)+r.getD k 0):=fun k B=>by have E0:k<r.length:=(by omega);rw[aud E0,F9,atZ,atW E0];simp[ax]
   have k8:Hid (∀k,0<=r.getD k 0/\r.getD k 0<=ax r):=fun k=>⟨by
    rw[atZ];by_cases h:k<r.length
    ·rw[atW h];exact o5 _ (atT h)
    ·rw[avu (by omega)];exact auJ 0,ach o5 k⟩
   clear E3 hp IQ aD oA oB B9 X7 eC Hs cu cE N o5 az;have an:=atM G2;go_wp2
   go_loopw [19,91] (fun rv P wz=>∃k:Nat,k<=m+1/\P=.int .i64 (k:Int)/\rv=.int .i64 (net-pr-ax (r.take k))/\Hid (wz=w6)) (fun _ P _=>m+1-(intOf P).toNat)
   case atStart=>exact⟨0,by omega,rfl,by simp[ax],rfl⟩
   case round=>
    rename World=>wz
    obtain⟨k,bz,rfl,rfl,I9⟩:=hrel;have a9:=I9.out;subst a9;by_cases j:k<m+1
    ·have zc:=an.out.cell (i:=k) (by omega);have fL:(k:Int)<((m+1:Nat):Int):=(by omega);have e0:=ES.out k j;have e1:=aJ.out k;have e2:=k8.out k;have HE:=atM e0;clear e0 G2;generalize ax (r.take k)=q at*;generalize r.getD k 0=t at*;go_wp2;go_roundw
     case rel=>exact⟨k+1,j,by go_num,by rw[HE.out,Int.sub_sub (net-pr)],by first|exact rfl|exact trivial⟩
     case measure=>simp[intOf];omega
    ·obtain rfl:k=m+1:=by omega
     have N7:r.take (m+1)=r:=aut (by omega);rw[N7];clear N7 ES aJ k8;have aQ:=atM (ahJ (some ⟨ob,oo,none⟩) A2 L c2 m l (iD l false (m+1) B) (max (net-pr-ax r) 0) wr.heap.size r wz U.out DI cV.out cK (acf l false _ B) a7 an.out Hk (by omega) (by omega) (fun a E=>by injection E with E;subst E;show ob≠_;omega));have G0:=atM (fun(X:List (Fin (m+1))) hp hw=>ahY (aU:=false) U.out cV.out.ok (ys:=X) hp hw);clear G2 cK;generalize iD l false (m+1) B=EL at*;generalize ax r=st at*;go_wp2_with fail;refine atV aQ.out ?_;rintro e G ⟨rfl,X,h1,h2,P2,dJ⟩;obtain⟨aR,ad⟩:=G0.out X h1 h2;obtain⟨ao,_,mR,_⟩:=HQ.out _ aR ad;rw[U.out]at ao mR;have bB:(kg l (m+1) (X.map (·.val)) (max (net-pr-st) 0) r).length=m+1:=(by rw[acg];exact Hk);generalize kg l (m+1) (X.map (·.val)) (max (net-pr-st) 0) r=S at*;have Iu:=DI.pQ dJ (fun a E=>by injection E with E;subst E;show ob≠_;omega);have ba:Below z.heap.size z G:=kH Sa dJ (fun g e=>by injection e;omega);have Pr:=atM (aA eo (ba));have kh:=atM ao;have Ny:=dJ.size;clear aQ G0 h1 h2 aR ad ao mR dJ Sa DI HQ an a8;go_wp2
     go_loopw [23,110] (fun v P T=>∃k:Nat,k<=m+1/\P=.int .i64 (k:Int)/\Own aN 2 69 T G.heap.size v (kV (l.take k) (S.take k))/\Below G.heap.size G T) (fun _ P _=>m+1-(intOf P).toNat)
     case atStart=>exact⟨0,by omega,rfl,Own.cC _ _,atS _ _⟩
     case round=>
      rename World=>T
      obtain⟨k,bD,rfl,K,J⟩:=hrel;by_cases j:k<m+1
      ·have E4:k<l.length:=(by rw[U.out];exact j);have X8:k<S.length:=(by omega);have BG:=atM (ahW l S k E4 X8);have Up:=Iu.aa J;have aV:=P2.aa J;have n:=ab8 Up E4;have aY:l.getD k gj=l[k]:=(by rw[atZ,atW E4];rfl);rw[aY]at n;have c0:=n 0 _ rfl;have c1:=n 1 _ rfl;have bb:=n 2 _ rfl;have c3:=n 3 _ rfl;have c4:=n 4 _ rfl;simp only[atQ]at c0;have zc:=aV.cell (i:=k) X8;have a0:=P2.cell (i:=k) X8;have a1:S.getD k 0=S[k]:=(by rw[atZ,atW X8];rfl);rw[a1]at zc a0;have fL:(k:Int)<((m+1:Nat):Int):=(by omega);have bc:=ahX (l.take k) (S.take k);rw[auH]at bc;have dN:=J.size;have dp:=ah.new T 67 #[.string l[k].id,.int .i64 l[k].aT,.int .i64 l[k].day,.int .i64 l[k].amount,.int .i64 l[k].total];have Q:=bC T (.cells #[.string l[k].id,.int .i64 l[k].aT,.int .i64 l[k].day,.int .i64 l[k].amount,.int .i64 l[k].total] 67);clear n aY a1 Up aV;generalize l[k]=o at*;generalize S[k]=t at*;go_upto_region 34 with fail
       generalize T.alloc (Obj.cells _ _)=W1 at dp Q|-;have pg:=K.aa Q;have y:Below G.heap.size G W1:=aA J Q;have bF:=y.size;have z0:=dp.cell 0;have zt:=(Q.cell (p:=⟨wr.heap.size,k,none⟩) (by show wr.heap.size<_;omega)).trans zc;have be:=fun q D=>(K.bR (g:=q) D).2;clear c0 c1 bb c3 c4 zc K J Q;by_cases h0:0<t
       ·rw[atP h0]at BG;go_upto_region 35 with fail
        have lV:=fun q D=>(pg.bR (g:=q) D).1;have RY:=dp.lt;have bi:=atM z0;have bl:=atM a0;have Pz:=atM fL;clear z0 zt;refine M3.iN (C:=JW G T.heap.size (.string o.id)) (JW.jw _ _ _) ⟨y,bi.out,RY⟩ (aE:=?aE) [0,1,2,3,4,5,6,7] 3 (by kernel_rfl) (by kernel_rfl) rfl (by kernel_rfl) (by kernel_rfl) (by rfl) ?H ?M
        case H=>
         intro F hF bs;simp only[M3.cL,atY,at0,at1];have q0:∀p:aP (JW G T.heap.size (.string o.id)) F,p.w'.cell? ⟨T.heap.size,0,none⟩=some (.string o.id):=fun p=>p.h.2.c;have q1:∀p:aP (JW G T.heap.size (.string o.id)) F,p.w'.cell? ⟨wr.heap.size,k,none⟩=some (.int .i64 t):=fun p=>(p.h.1.cell (p:=⟨wr.heap.size,k,none⟩) (by show wr.heap.size<_;omega)).trans (bl.out)
         repeat(first|go_big_quiet_step(fail))
         refine wpQuiet_nil ?_;rfl
        case M=>
         intro Q0 bS;refine M3.bQ [8] (by kernel_rfl) (by simp) ?_;intro wa a2 MQ i hi;simp only[bY,bZ,atU]at hi;subst hi;have GJ:=bC wa (.cells #[.string o.id,.int .i64 t] 69);refine M3.bH (.slice (some ⟨wa.heap.size,0,none⟩) 1 1) (wa.alloc (.cells #[.string o.id,.int .i64 t] 69)) rfl rfl (by go_simp) ⟨JW.jw _ _ _ _ _ a2 GJ,?_⟩;simp only[Act.put,aF,aG,aH,aI,aK,aL];have dQ:=ai.new dG wa [⟨o.id,t⟩] #[.string o.id,.int .i64 t] 69 rfl;rw[<-at2 wa (.cells #[.string o.id,.int .i64 t] 69)]at dQ;have og:=(pg.aa MQ).aa GJ;have gL:=JW.jw _ _ _ _ _ a2 GJ;refine M3.bQ [9] (by kernel_rfl) (by simp) ?_;intro wb ap gu i hi;simp only[bY,bZ,atU]at hi;subst hi;have lZ:=og.aa gu;have mN:=dQ.aa gu;have bJ:=ap.1.size;refine M3.nW (.tmp 120) (.tmp 128) 51 1 24 _ nQ underlying51 lZ mN dG (by omega) rfl mF (by simp only[at4,aug];omega) (by omega) (by omega) rfl rfl rfl rfl rfl rfl ?_;intro V X3 dh Z;have bu:JW G T.heap.size (.string o.id) X3:=⟨kH ap.1 Z (fun q D=>(lZ.bR D).1),ap.2.grown Z (fun e=>by have:=be _ e.symm;omega)⟩
         refine⟨bu,?_⟩;simp only[Act.put,aF,aG,aH,aI,aK,aL];refine M3.bQ [10] (by kernel_rfl) (by simp) ?_;intro bo fM R9 i hi;simp only[bY,bZ,atU]at hi;subst hi;refine M3.bH V bo rfl rfl rfl ⟨fM,?_⟩;simp only[Act.put,aF,aG,aH,aI,aK,aL];refine M3.kI (by kernel_rfl) ?_;intro w8 df bU;refine bS _ _ ?_;have bp:=atM ((dh.aa R9).aa bU);have bq:=atM df.1;clear dh lZ mN og dQ Z;go_wp2_with fail;go_roundw
         case rel=>
          have R:∃k':Nat,k'<=m+1/\Value.int .i64 ((k:Int)+1)=.int .i64 (k':Int)/\Own aN 2 69 w8 G.heap.size V (kV (l.take k') (S.take k'))/\Below G.heap.size G w8:=⟨k+1,j,by go_num,by rw[BG.out];exact bp.out,bq.out⟩
          first|exact R|((repeat apply Exists.intro);exact⟨R,rfl⟩)
         case measure=>simp[intOf];omega
       ·rw[atO h0,avl]at BG;go_wp2;go_roundw
        case rel=>
         have R:∃k':Nat,k'<=m+1/\Value.int .i64 ((k:Int)+1)=.int .i64 (k':Int)/\Own aN 2 69 W1 G.heap.size _ (kV (l.take k') (S.take k'))/\Below G.heap.size G W1:=⟨k+1,j,by go_num,by rw[BG.out];exact pg,y⟩
         first|exact R|((repeat apply Exists.intro);exact⟨R,rfl⟩)
        case measure=>simp[intOf];omega
      ·obtain rfl:k=m+1:=by omega
       have e1:l.take (m+1)=l:=aut (by rw[U.out];exact atN _);have e2:S.take (m+1)=S:=aut (by omega);rw[e1,e2,<-kh.out]at K;have HO:=atM (K.slF Pr.out.size);have HB:=atM (aA Pr.out J);clear e1 e2 K J P2;go_wp2;go_ret2;exact⟨_,rfl,HO.out,HB.out⟩
theorem aqj(s:kB)(net j:Int)(A:Option Addr)(l:Nat)(w:World)(u:oL s)(L:Bq [])(G:0<=net)(I:net<=1000000000)(d0:0<=j)(d1:j<=20):
  Calls prog 109 #[.agg #[.int .i64 s.fixed,.int .i64 s.bO,.int .i64 s.lower,.int .i64 s.share,.int .i64 s.top],.int .i64 net,.int .i64 j,.slice A 0 l] w fun e w'=>e=.returned (.tuple #[.slice none 0 0,.int .i64 0])/\Below w.heap.size w w':=by
 have M:=atM (fun w=>Qn s w u);have N:Hid (∀W,Calls prog 157 #[.slice A 0 l] W fun e w'=>e=.returned (.bool true)/\Below W.heap.size W w'):=fun W=>XU A l [] W (fun h=>absurd rfl h) L;have O:=atM (fun w=>ahD s net j w u G I d0 d1);have P:=atM (fun w=>ahC s net j w u G I d0 d1);obtain⟨_,⟨r0,r1⟩,⟨w0,Ds⟩,_⟩:=KH u G I d0 d1;clear u L;have F:=ah.new w 43 #[.int .i64 s.fixed,.int .i64 s.bO,.int .i64 s.lower,.int .i64 s.share,.int .i64 s.top];have J:=bC w (.cells #[.int .i64 s.fixed,.int .i64 s.bO,.int .i64 s.lower,.int .i64 s.share,.int .i64 s.top] 43);generalize iH s net j=lo at*;generalize ny s net j=pr at*;have Cw:=VR 0 0 rfl (by omega);go_enter func109,ntmps109;go_upto_region 1 with fail
 generalize w.alloc (Obj.cells _ _)=W at F J|-;obtain⟨y,z,B,C,D⟩:=F.cz5;go_wp2_with fail;refine atV (M.out _) ?_;rintro e w1 ⟨rfl,n⟩;have Q:=F.aa n;have R:=aA J n;clear F n y z B C D;go_wp2_with fail;refine atV (N.out _) ?_;rintro e w2 ⟨rfl,p⟩;have K:=Q.aa p;have S:=aA R p;clear Q p;obtain⟨y,z,B,C,D⟩:=K.cz5;go_wp2_with fail;refine atV (O.out _) ?_;rintro e w3 ⟨rfl,r⟩;have T:=K.aa r;have U:=aA S r;clear K r y z B C D;obtain⟨y,z,B,C,D⟩:=T.cz5;go_wp2_with fail;refine atV (P.out _) ?_;rintro e V ⟨rfl,E⟩;have Y:=aA U E;clear T E y z B C D U S R J N M O P;go_wp2;refine wp_loop_rounds 1 ?_;rw[rounds_succ];go_upto_region 18 with fail
 have X:=bC V (.cells (madeCells #[.int .i64 0] 0) 3);generalize V.alloc (Obj.cells _ _)=W5 at X|-;have Z:=aA Y X;go_wp2_with fail;refine atV (ahZ _ _ _ _ _ _) ?_;rintro e w6 ⟨rfl,bu⟩;have Er:=aA Z bu;go_wp2;refine wp_loop_rounds 1 ?_;rw[rounds_succ];go_wp2_with fail;refine atV (ahZ _ _ _ _ _ _) ?_;rintro e w7 ⟨rfl,bB⟩;have P8:=aA Er bB;go_wp2;refine wp_loop_rounds 1 ?_;rw[rounds_succ];go_wp2;go_ret2;exact⟨rfl,P8⟩
theorem aqk(s:kB)(net e:Int):B6 s net e []=[]:=rfl
def L0(net:Int):Int:=if net<=1000000000 then 0 else 2
def N8(s:kB)(net e:Int)(l:List bn):List Elem:=if net<=1000000000 then B6 s net e l else[]
theorem aql(s:kB)(net j:Int)(A:Option Addr)(n:Nat)(l:List bn)(w:World)(h:ai mO 5 w w.heap.size A l)(y:oL s)(z:Bq l)(B:0<=net)(d0:0<=j)(d1:j<=20):
  Calls prog 109 #[.agg #[.int .i64 s.fixed,.int .i64 s.bO,.int .i64 s.lower,.int .i64 s.share,.int .i64 s.top],.int .i64 net,.int .i64 j,.slice A l.length n] w fun e w'=>∃x:Option Addr×Nat,e=.returned (.tuple #[.slice x.1 (N8 s net j l).length x.2,.int .i64 (L0 net)])/\Below w.heap.size w w'/\L9 (N8 s net j l) w.heap.size x w':=by
 by_cases p:net<=1000000000
 ·rw[L0,N8,atP p,atP p];rcases l with _|⟨o,r⟩
  ·rw[aqk];refine(aqj s net j A n w y z B p d0 d1).mono ?_;rintro e w' ⟨rfl,u⟩;exact⟨(none,0),rfl,u,ai.cC,by simp,by simp,fun a C=>by cases C⟩
  ·refine(aqe s net j A n r.length (o::r) w rfl h y z B p d0 d1).mono ?_;rintro e w' ⟨v,rfl,⟨D,E,rfl,F,G,I,J⟩,u⟩;exact⟨(D,E),rfl,u,F,G,I,J⟩
 ·rw[L0,N8,atO p,atO p];refine(aqd s net j A n l w h y z B p d0 d1).mono ?_;rintro e w' ⟨rfl,u⟩;exact⟨(none,0),rfl,u,ai.cC,by simp,by simp,fun a C=>by cases C⟩
def aci(j:World)(g:Nat)(c:np)(s:jB)(l:List cH)(m:List Elem)(w w':World):Prop:=
 ∃e,dI j g c {s with lv:=e,left:=s.left-aB m} (l++ag 7 m) w'/\Mv g s.lv w e w'
theorem aqm{j:World}{g:Nat}{c:np}{s:jB}{l:List cH}{w:World}(h:dI j g c s l w)(p:ai aN 2 j j.heap.size c.K c.kept)(r:c.first=false)(u:l.length<=1000)(y:c.kept.length<=128)(z:∀x∈c.kept,0<=x.amount/\x.amount<=1000000000000)
  (I:-1000000000000<=s.left) (J:s.left<=1000000000000):
  Calls prog 56 #[.pointer (some ⟨g,0,none⟩)] w (Me j 0 (aci j g c s l c.kept w)):=by
 have B:w.cell? ⟨g,25,none⟩=some (.slice c.K c.kept.length c.kc):=h.blk.cell 25;have C:w.cell? ⟨g,26,none⟩=some (.bool false):=by have:w.cell? ⟨g,26,none⟩=some (.bool c.first):=h.blk.cell 26;rw[this,r]
 have D:nR aN 2 w g s.lv c.K c.kept:=nR.old (p.below h.bh) h.bh.size h.hg (fun q E=>(h.row q E).1);go_enter func56,ntmps56;go_wp2_with fail;refine(Vc h 7 c.K c.kc c.kept D u y (by constructor<;>omega) z).mono ?_;rintro e L ⟨rfl,F,n,G⟩;go_wp2;go_ret;exact⟨rfl,n.bh,fun _=>⟨F,n,G⟩⟩
theorem aqn{C:World}{g:Nat}{c:np}{s:jB}{Q:List cH}{w:World}(h:dI C g c s Q w)(Z:c.p.In C)(hf:c.first=true)(Db:Q.length<=1000)(Bz:oL c.r.sh)(Dw:Bq c.p.os)(d0:0<=c.p.deps)(d1:c.p.deps<=20)
  (l0:-1000000000000<=s.left) (l1:s.left<=1000000000000) (c0:-1000000000<=s.b.c) (c1:s.b.c<=1000000000) (a0:-1000000000<=s.b.a) (a1:s.b.a<=1000000000) (net:Int) (E:net=max (s.left-max (s.b.c-s.b.a) 0) 0)
  (m:List Elem) (hm:m=N8 c.r.sh net c.p.deps c.p.os) (u:Int) (G:u=L0 net) (z:u=0->m.length<=128/\∀x∈m,0<=x.amount/\x.amount<=1000000000000):
  Calls prog 56 #[.pointer (some ⟨g,0,none⟩)] w (Me C u (aci C g c s Q m w)):=by
 have HX:=atM z;have kh:Hid (∀W,Below C.heap.size C W->Calls prog 109 #[.agg #[.int .i64 c.r.sh.fixed,.int .i64 c.r.sh.bO,.int .i64 c.r.sh.lower,.int .i64 c.r.sh.share,.int .i64 c.r.sh.top],.int .i64 net,.int .i64 c.p.deps,.slice c.p.Ao c.p.os.length c.p.co] W fun e w'=>∃x:Option Addr×Nat,e=.returned (.tuple #[.slice x.1 m.length x.2,.int .i64 u])/\Below W.heap.size W w'/\L9 m W.heap.size x w'):=fun W I=>by rw[hm,G];exact aql c.r.sh net c.p.deps c.p.Ao c.p.co c.p.os W (Z.aa I).os Bz Dw (by omega) d0 d1
 have HI:=atM h;have R:w.cell? ⟨g,25,none⟩=some (.slice c.K c.kept.length c.kc):=h.blk.cell 25;have S:w.cell? ⟨g,26,none⟩=some (.bool true):=by have:w.cell? ⟨g,26,none⟩=some (.bool c.first):=h.blk.cell 26;rw[this,hf]
 have Mb:w.cell? ⟨g,28,none⟩=some (.int .i64 s.b.c):=h.blk.cell 28;have Uq:w.cell? ⟨g,31,none⟩=some (.int .i64 s.b.a):=h.blk.cell 31;have J:=h.lt;have Y3:=Bw.cell (w:=w) (a:=⟨g,28,none⟩) (by exact J) Mb;have T:=Bw.cell (w:=w) (a:=⟨g,31,none⟩) (by exact J) Uq;have Pu:=atM E;clear h Z hf Bz Dw hm G z E;go_enter func56,ntmps56;go_upto_region 3 with fail
 refine oG (by kernel_rfl) (by kernel_rfl) ?_
 repeat(first|go_big_quiet_step(fail)|quiet_step(fail))
 refine wpQuiet_nil ?_;intro l U;obtain⟨⟨l,B⟩,L⟩:=U;subst L;have j:=HI.out.aa B;have eT:=Mv.bh (g:=g) (v:=s.lv) B;clear R S Mb Uq Y3 T HI B;obtain⟨D,M⟩:∃D,D=max (s.b.c-s.b.a) 0:=⟨_,rfl⟩
 have f0:0<=D:=by omega
 have f1:D<=2000000000:=by omega
 rw[<-M]at Pu|-;clear M;have y:=j.lt;have WY:l.cell? ⟨g,10,none⟩=some (.int .i64 c.r.sh.fixed):=j.blk.cell 10;have WZ:l.cell? ⟨g,11,none⟩=some (.int .i64 c.r.sh.bO):=j.blk.cell 11;have Xa:l.cell? ⟨g,12,none⟩=some (.int .i64 c.r.sh.lower):=j.blk.cell 12;have Xb:l.cell? ⟨g,13,none⟩=some (.int .i64 c.r.sh.share):=j.blk.cell 13;have Xc:l.cell? ⟨g,14,none⟩=some (.int .i64 c.r.sh.top):=j.blk.cell 14;have N9:l.cell? ⟨g,16,none⟩=some (.int .i64 c.p.deps):=j.blk.cell 16;have Oa:l.cell? ⟨g,18,none⟩=some (.slice c.p.Ao c.p.os.length c.p.co):=j.blk.cell 18;have N:l.cell? ⟨g,33,none⟩=some (.int .i64 s.left):=j.blk.cell 33;have Sm:Hid (∀W,Below l.heap.size l W->Calls prog 109 #[.agg #[.int .i64 c.r.sh.fixed,.int .i64 c.r.sh.bO,.int .i64 c.r.sh.lower,.int .i64 c.r.sh.share,.int .i64 c.r.sh.top],.int .i64 (max (s.left-D) 0),.int .i64 c.p.deps,.slice c.p.Ao c.p.os.length c.p.co] W fun e w'=>∃x:Option Addr×Nat,e=.returned (.tuple #[.slice x.1 m.length x.2,.int .i64 u])/\Below W.heap.size W w'/\L9 m W.heap.size x w'):=fun W I=>by rw[<-Pu.out];exact kh.out W (aA j.bh I)
 clear kh;go_upto_region 4 with fail
 refine Va (aE:=?C9) [0,1,2,3,4,5,6,7,8,9,10,11,12,13,14,15,16,17,18,19,20,21] [23,24,25,26,27] 22 109 #[.agg #[.int .i64 c.r.sh.fixed,.int .i64 c.r.sh.bO,.int .i64 c.r.sh.lower,.int .i64 c.r.sh.share,.int .i64 c.r.sh.top],.int .i64 (max (s.left-D) 0),.int .i64 c.p.deps,.slice c.p.Ao c.p.os.length c.p.co] (fun x:Option Addr×Nat=>.tuple #[.slice x.1 m.length x.2,.int .i64 u]) ?Vb (L9 m l.heap.size) (by kernel_rfl) (by kernel_rfl) rfl (by kernel_rfl) (by kernel_rfl) (by rfl) (by kernel_rfl) (by kernel_rfl) (by rfl) (by kernel_rfl) (by kernel_rfl) rfl rfl ?H1 ?S1 ?N1 ?R1 ?Da ?J1 ?M1
 case H1=>
  intro F hF O;simp only[M3.cL,atY,at0,at1];have ab:=aP.dK (F:=F) (a:=⟨g,10,none⟩) (by exact y) WY;have ad:=aP.dK (F:=F) (a:=⟨g,11,none⟩) (by exact y) WZ;have af:=aP.dK (F:=F) (a:=⟨g,12,none⟩) (by exact y) Xa;have aj:=aP.dK (F:=F) (a:=⟨g,13,none⟩) (by exact y) Xb;have ak:=aP.dK (F:=F) (a:=⟨g,14,none⟩) (by exact y) Xc;have al:=aP.dK (F:=F) (a:=⟨g,16,none⟩) (by exact y) N9;have am:=aP.dK (F:=F) (a:=⟨g,18,none⟩) (by exact y) Oa;have Md:=aP.dK (F:=F) (a:=⟨g,33,none⟩) (by exact y) N
  repeat(first|go_big_quiet_step(first|fail)|quiet_step(first|fail))
  refine wpQuiet_nil ?_;rfl
 case S1=>rfl
 case N1=>exact fun _=>by first|rfl|go_simp
 case R1=>exact fun x w1 w2 z I=>⟨z.1.aa I,z.2⟩
 case Da=>exact fun W1 n=>(Sm.out W1 n).mono (fun e w2 ⟨x,he,h5,h1,h2,h3,h4⟩=>⟨x,he,h5,h1,h2,h3,fun a P=>at7 n.size (h4 a P)⟩)
 case J1=>
  intro x F hF O;simp only[M3.cL,atY,at0,at1]
  repeat(first|go_big_quiet_step(fail)|quiet_step(fail))
  refine wpQuiet_nil ?_;rfl
 case M1=>
  intro x w1 n z
  try simp only[Act.put,aua,at8,at9]
  obtain⟨A,V⟩:=x;obtain⟨hS,_,_,M⟩:=z;have hL:=QX j hS M;have X:=j.aa n;have jX:=eT.trans (Mv.bh n);clear j eT Sm hS M WY WZ Xa Xb Xc N9 Oa N;by_cases Y:u=0;rotate_left
  ·have an:(u !=0)=true:=(by simp[Y]);have ae:=X.bh;go_wp2;go_ret;exact⟨rfl,ae,fun e=>absurd e Y⟩
  ·subst Y;obtain⟨hl,P⟩:=HX.out rfl;go_wp2_with fail;refine(Vc X 7 A V m hL Db hl (by constructor<;>omega) P).mono ?_;rintro e w4 ⟨rfl,v4,mn,kY⟩;have jY:=jX.trans kY;clear X jX hL P;go_wp2;go_ret;exact⟨rfl,mn.bh,fun _=>⟨v4,mn,jY⟩⟩
