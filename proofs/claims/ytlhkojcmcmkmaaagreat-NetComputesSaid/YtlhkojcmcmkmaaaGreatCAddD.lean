/- Conditions: as stated. -/
import Derived.Test.YtlhkojcmcmkmaaaGreatCShelf
set_option maxRecDepth 100000
set_option maxHeartbeats 4000000
namespace Go.Proofs.YtlhkojcmcmkmaaaGreat
open Go.Proofs.Tryz
open Go.RowKit Go.Sort Go.Shelf Go.Maps
structure D6(K:List UInt8->Bool)(T:List UInt8->Int)(left:Lit->Bool)(ys:List Elem):Prop where
 sound:∀x∈ys,K x.code.data.toList=true/\x.amount=T x.code.data.toList/\x.amount≠0/\left (key x.code)=false
 full:∀c,K c=true->left (.string c)=false->T c≠0->∃x∈ys,x.code.data.toList=c
 nodup:ys.Pairwise (fun a b=>a.code≠b.code)
theorem D6.start{D:DataW Unit}{K:List UInt8->Bool}{T:List UInt8->Int}(h:D7 D K T):D6 K T (Maps.has D) []:=
 ⟨by simp,(fun c j e=>by rw[h.has c,j]at e;cases e),List.Pairwise.nil⟩
theorem D6.step{K:List UInt8->Bool}{T:List UInt8->Int}{left:Lit->Bool}{n:List Elem}(h:D6 K T left n){s:ByteArray}{c:Int}(F:left (key s)=true)(G:K s.data.toList=true)(B:T s.data.toList=c):
  (c≠0->D6 K T (fun z=>left z&&!z.sameKey (key s)) (n++[⟨s,c⟩]))/\(c=0->D6 K T (fun z=>left z&&!z.sameKey (key s)) n):=by
 have I:(key s).sameKey (key s)=true:=WideAt.sameKey_self trivial;have C:∀x∈n,K x.code.data.toList=true/\x.amount=T x.code.data.toList/\x.amount≠0/\(left (key x.code)&&!(key x.code).sameKey (key s))=false:=by intro x p;obtain⟨h1,J,L,M⟩:=h.sound x p;exact⟨h1,J,L,by simp[M]⟩
 have D:∀d,K d=true->(left (.string d)&&!(Lit.string d).sameKey (key s))=false->T d≠0->d≠s.data.toList->∃x∈n,x.code.data.toList=d:=by intro d hd j l e;have r:(Lit.string d).sameKey (key s)=false:=sameKey_ne (fun N=>e (by simpa[key]using N));rw[r]at j;simp at j;exact h.full d hd j l
 refine⟨fun u=>⟨fun x p=>?_,fun d hd j l=>?_,?_⟩,fun u=>⟨C,fun d hd j l=>?_,h.nodup⟩⟩
 ·rcases aul.1 p with h1|h1
  ·exact C x h1
  ·simp at h1;subst h1;exact⟨G,B.symm,u,by show(left (key s)&&!(key s).sameKey (key s))=false;rw[I];simp⟩
 ·by_cases e:d=s.data.toList
  ·exact⟨⟨s,c⟩,by simp,e.symm⟩
  ·obtain⟨x,p,O⟩:=D d hd j l e;exact⟨x,by simp[p],O⟩
 ·rw[avr];refine⟨h.nodup,List.pairwise_singleton _ _,fun a y b E=>?_⟩;simp at E;subst E;intro e;have:=(h.sound a y).2.2.2;rw[show key a.code=key s by rw[e],F]at this;cases this
 ·by_cases e:d=s.data.toList
  ·subst e;rw[B]at l;exact absurd u l
  ·exact D d hd j l e
theorem D6.mem{K:List UInt8->Bool}{T:List UInt8->Int}{left:Lit->Bool}{l:List Elem}(h:D6 K T left l)(r:∀z,left z=false)(x:Elem):x∈l↔(K x.code.data.toList=true/\x.amount=T x.code.data.toList/\x.amount≠0):=by
 refine⟨fun e=>⟨(h.sound x e).1,(h.sound x e).2.1,(h.sound x e).2.2.1⟩,fun⟨u,j,B⟩=>?_⟩;obtain⟨y,hy,C⟩:=h.full _ u (r _) (by rw[<-j];exact B);have D:y=x:=by obtain⟨_,n,_⟩:=h.sound y hy;have p:y.code=x.code:=key_inj (by simp[key,C]);obtain⟨a,b⟩:=y;obtain⟨c,d⟩:=x;simp only at p n j;subst p;rw[n,j]
 rw[<-D];exact hy
theorem acT(A B:Option Addr)(al YR:Nat)(p l:List Elem)(w:World)(h:ai aN 2 w w.heap.size A p)(hz:∀x∈p,x.code.size<=maxLen)(hl:p.length<=9223372036854775806)
  (hy:ai aN 2 w w.heap.size B l) (F3:∀x∈l,x.code.size<=maxLen) (oA:l.length<=9223372036854775806):
  Calls prog 110 #[.slice A p.length al,.slice B l.length YR] w (C7 (nj p l) (fh p l) w):=by
 have HZ:=atM hz;clear hz;have J4:=atM F3;clear F3;have Ay:∀(n:Int) (W:World),n≠0->fh p l=n->Below w.heap.size w W->C7 (nj p l) (fh p l) w (Ending.returned (.tuple #[.slice none 0 0,.int .i64 n])) W:=
  fun n W hn he hb=>C7.fail (acU (by rw[he];exact hn)) he hb
 have J:=atM Ay;clear Ay;have D9:=@run_makeMap prog;go_enter func110,ntmps110;go_wp2_with fail;refine(U1 A al p _ h HZ.out (by omega)).mono ?_;rintro e w1 ⟨rfl,af⟩;by_cases hr:fE p=true;rotate_left
 ·have Hi:fE p=false:=by simpa using hr
  clear hr;go_wp2;go_ret2;exact J.out 1 _ (by omega) (U2 (.inl Hi)) af
 have Az:p.length<=128:=(BQ.1 hr).1;have QN:=atM (BQ.1 hr).2.1;have YS:=atM (BQ.1 hr).2.2;go_wp2_with fail
 go_loopw [22] (fun i wr=>∃k:Nat,k<=l.length/\i=.int .i64 k/\Hid (∀j,(hj:j<l.length)->j<k->oT l[j]=true)/\Below w.heap.size w wr) (fun i _=>l.length-(intOf i).toNat)
 case atStart=>exact⟨0,by omega,rfl,fun j _ hj=>absurd hj (by omega),af⟩
 case round=>
  obtain⟨k,hk,rfl,U,ae⟩:=hrel;have br:=ae.size;by_cases r:k<l.length
  ·obtain⟨b,off,rfl,hb,S⟩:=(hy.below ae).at_ r;have c0:=S 0 _ rfl;have c1:=S 1 _ rfl;simp only[atQ]at c0;clear S;have fq:=J4.out _ (atT r);have HN:Hid (oT l[k]=false->fh p l=1):=fun Y=>U2 (.inr (by
    rw[List.all_eq_false];exact⟨l[k],atT _,by simp[Y]⟩))
   by_cases hn:bI l[k].code=true;rotate_left
   ·have ml:bI l[k].code=false:=(by simpa using hn);clear hn;go_wp2_with(go_at_call 82;refine(AA _ _ fq).mono ?_;rintro e w' ⟨rfl,rfl⟩);go_ret2;exact J.out 1 _ (by omega) (HN.out (by simp[oT,ml])) (ae.alloc br _)
   by_cases C:0<=l[k].amount;rotate_left
   ·go_wp2_with(go_at_call 82;refine(AA _ _ fq).mono ?_;rintro e w' ⟨rfl,rfl⟩);go_ret2;exact J.out 1 _ (by omega) (HN.out (by simp[oT,bM];intros;omega)) (ae.alloc br _)
   by_cases h2:l[k].amount<=1000000000;rotate_left
   ·go_wp2_with(go_at_call 82;refine(AA _ _ fq).mono ?_;rintro e w' ⟨rfl,rfl⟩);go_ret2;exact J.out 1 _ (by omega) (HN.out (by simp[oT,bM];intros;omega)) (ae.alloc br _)
   go_wp2_with(go_at_call 82;refine(AA _ _ fq).mono ?_;rintro e w' ⟨rfl,rfl⟩);go_roundw
   case rel=>
    refine⟨k+1,by omega,by go_num,fun j hj a1=>?_,ae.alloc br _⟩;rcases at6 j k with h3|h3
    ·exact U.out j hj h3
    ·obtain rfl:j=k:=by omega
     exact(U3 _).2 ⟨hn,C,h2⟩
   case measure=>simp[intOf];omega
  ·have Hj:l.all oT=true:=by
    rw[List.all_eq_true];intro x hx;obtain⟨j,hj,rfl⟩:=aun.1 hx;exact U.out j hj (by omega)
   have L6:=atM Hj;have J5:Hid (∀x∈l,0<=x.amount/\x.amount<=1000000000):=fun x hx=>((U3 x).1 (List.all_eq_true.1 Hj x hx)).2;clear Hj;by_cases Oq:128<l.length
   ·go_wp2;go_ret2;exact J.out 3 _ (by omega) (U4 hr L6.out (.inl Oq)) ae
   have a2:l.length<=128:=(by omega);obtain⟨M,rfl⟩:∃M:World,M=wr:=⟨_,rfl⟩
   go_wp2_with fail;clear U hk r oA hl af;have QO:(M.alloc (.map #[] 0)).ownsMap prog 9 (plainElem (H:=Unit) prog 3) M.heap.size 0 (.map []):=World.ownsMap_made _ _ _ _;have QP:Below w.heap.size w (M.alloc (.map #[] 0)):=ae.alloc br _
   go_loopw [47] (fun i wr=>∃(k:Nat) (D:DataW Unit),k<=p.length/\i=.int .i64 k/\wr.ownsMap prog 9 (plainElem (H:=Unit) prog 3) M.heap.size k D/\D7 D (fI (p.take k)) (cR (p.take k))/\Below w.heap.size w wr) (fun i _=>p.length-(intOf i).toNat)
   case atStart=>exact⟨0,.map [],by omega,rfl,QO,D7.empty,QP⟩
   case round=>
    clear QO QP;obtain⟨k,D,hk,rfl,u,R,T⟩:=hrel;have Ea:=T.size;by_cases r:k<p.length
    ·obtain⟨b,off,rfl,hb,S⟩:=(h.below T).at_ r;have c0:=S 0 _ rfl;have c1:=S 1 _ rfl;simp only[atQ]at c0;clear S;have fq:=HZ.out _ (atT r);have G:keyOf prog 9 (.string p[k].code)=some (key p[k].code):=WideMaps.keyOf_string_mk underlying9 fq;have K:=u.kept (World.grownBy_alloc wr (Obj.cells #[Value.string p[k].code,Value.int IntKind.i64 p[k].amount] 69) none) (by simp);have L8:=acV (p.take k) p[k].code.data.toList 1000000000000 (by omega) (fun x hx=>(QN.out x (auh hx)).2);have Hk:(p.take k).length<=128:=(by simp;omega);obtain⟨_,aM,aQ⟩:=QN.out _ (atT r);have J6:=R.at_ p[k].code.data.toList;have oB:0<=cR (p.take k) p[k].code.data.toList:=L8.1;have C8:cR (p.take k) p[k].code.data.toList<=128000000000000:=(by omega);have Cs:=R.YT (K':=fI (p.take (k+1))) (T':=cR (p.take (k+1))) p[k].code (cR (p.take k) p[k].code.data.toList+p[k].amount) (YU p k r) (fun c=>by
      rw[YV p k r];split
      ·rename_i e;rw[<-e]
      ·omega)
     have Hl:=atM Cs;have kh:=atM J6;generalize cR (p.take k) p[k].code.data.toList=t0 at oB C8 Hl kh;clear L8 Hk J6 R Cs;go_wp2_with(first
      |(at_lookup;refine wpList_lookup_own_int _ (by rfl) _ _ 181 (by rfl) 9 3 .i64 Hm underlying181 underlying3 (YW _) M.heap.size k D (by rfl) K _ _ (by rfl) G ?_;intro c P aR;obtain rfl:c=t0:=(by have C:=kh.out;rw[show Lit.string p[k].code.data.toList=key p[k].code from rfl,P]at C;injection C with C;injection C))
      |(at_mapUpdate;refine wpList_mapUpdate_own _ (by rfl) _ _ _ 181 (by rfl) 9 3 Hm underlying181 _ M.heap.size k D (by rfl) K (by unfold maxLen;omega) _ _ _ (by rfl) (by rfl) G _ [] (plainElem_int underlying3 (YX (by omega) (by omega))) ?_;intro w1 Q QQ))
     go_roundw
     case rel=>exact⟨k+1,_,by omega,by go_num,Q,Hl.out,(T.alloc Ea _).grown QQ (by simp;omega) (fun g e=>by injection e;omega)⟩
     case measure=>simp[intOf];omega
    ·obtain rfl:k=p.length:=by omega
     have Z:decide ((p.length:Int)<(p.length:Int))=false:=(by simp);have aS:decide (p.length<p.length)=false:=(by simp);rw[auv]at R;obtain⟨E,rfl⟩:∃E:World,E=wr:=⟨_,rfl⟩
     go_wp2_with fail;clear hk r
     go_loopw [61] (fun i wr=>∃(k:Nat) (D:DataW Unit),k<=l.length/\i=.int .i64 k/\wr.ownsMap prog 9 (plainElem (H:=Unit) prog 3) M.heap.size (p.length+k) D/\D7 D (fI (p++l.take k)) (cR (p++l.take k))/\Below w.heap.size w wr) (fun i _=>l.length-(intOf i).toNat)
     case atStart=>exact⟨0,D,by omega,rfl,u,by simpa using R,T⟩
     case round=>
      clear u R T Ea;obtain⟨k,D,hk,rfl,u,R,T⟩:=hrel;have Ea:=T.size;by_cases r:k<l.length
      ·obtain⟨b,off,rfl,hb,S⟩:=(hy.below T).at_ r;have c0:=S 0 _ rfl;have c1:=S 1 _ rfl;simp only[atQ]at c0;clear S;have fq:=J4.out _ (atT r);have G:keyOf prog 9 (.string l[k].code)=some (key l[k].code):=WideMaps.keyOf_string_mk underlying9 fq;have K:=u.kept (World.grownBy_alloc wr (Obj.cells #[Value.string l[k].code,Value.int IntKind.i64 l[k].amount] 69) none) (by simp);have L8:=acV (p++l.take k) l[k].code.data.toList 1000000000000 (by omega) (fun x hx=>by
        rcases aul.1 hx with hx|hx
        ·exact(QN.out x hx).2
        ·have:=J5.out x (auh hx);omega)
       have Hk:(p++l.take k).length<=256:=(by simp;omega);obtain⟨aM,aQ⟩:=J5.out _ (atT r);have J6:=R.at_ l[k].code.data.toList;have oB:0<=cR (p++l.take k) l[k].code.data.toList:=L8.1;have C8:cR (p++l.take k) l[k].code.data.toList<=256000000000000:=(by omega);have Cs:=R.YT (K':=fI (p++l.take (k+1))) (T':=cR (p++l.take (k+1))) l[k].code (cR (p++l.take k) l[k].code.data.toList+l[k].amount) (fun c=>by rw[U5,U5,YU l k r,Bool.or_assoc]) (fun c=>by
        rw[QR,QR,QR,YV l k r];split
        ·rename_i e;rw[<-e];omega
        ·omega)
       have Hl:=atM Cs;have kh:=atM J6;generalize cR (p++l.take k) l[k].code.data.toList=t0 at oB C8 Hl kh;clear L8 Hk J6 R Cs;go_wp2_with(first
        |(at_lookup;refine wpList_lookup_own_int _ (by rfl) _ _ 181 (by rfl) 9 3 .i64 Hm underlying181 underlying3 (YW _) M.heap.size (p.length+k) D (by rfl) K _ _ (by rfl) G ?_;intro c P aR;obtain rfl:c=t0:=(by have C:=kh.out;rw[show Lit.string l[k].code.data.toList=key l[k].code from rfl,P]at C;injection C with C;injection C))
        |(at_mapUpdate;refine wpList_mapUpdate_own _ (by rfl) _ _ _ 181 (by rfl) 9 3 Hm underlying181 _ M.heap.size (p.length+k) D (by rfl) K (by unfold maxLen;omega) _ _ _ (by rfl) (by rfl) G _ [] (plainElem_int underlying3 (YX (by omega) (by omega))) ?_;intro w1 Q QQ))
       go_roundw
       case rel=>exact⟨k+1,_,by omega,by go_num,Q,Hl.out,(T.alloc Ea _).grown QQ (by simp;omega) (fun g e=>by injection e;omega)⟩
       case measure=>simp[intOf];omega
      ·obtain rfl:k=l.length:=by omega
       have Z:decide ((l.length:Int)<(l.length:Int))=false:=(by simp);have aS:decide (l.length<l.length)=false:=(by simp);rw[auv]at R;obtain⟨E,rfl⟩:∃E:World,E=wr:=⟨_,rfl⟩
       clear hk r;have a3:M.heap.size<E.heap.size:=by obtain⟨es,aj,hb,_⟩:=u;exact(ava.1 hb).1
       have V:Maps.size D<=p.length+l.length:=by obtain⟨es,aj,_,_,ml,rfl⟩:=u;rw[Maps.size_eq,acY];simpa using ml
       go_wp2_with(at_range;refine wpList_range_own _ (by rfl) _ 181 (by rfl) 9 3 Hm underlying181 (plainElem (H:=Unit) prog 3) M.heap.size (p.length+l.length) D (by rfl) u ?_;intro w0 ad Z aT)
       go_frame
       go_loopw [13,14] (fun v o wr=>∃left I zs,wr.ranges prog 9 (plainElem (H:=Unit) prog 3) M.heap.size E.heap.size (p.length+l.length) D left I/\Own aN 2 69 wr (E.heap.size+1) v zs/\o=.bool (nk zs)/\D6 (fI (p++l)) (cR (p++l)) left zs/\zs.length+I<=p.length+l.length/\Below E.heap.size E wr) (fun _ _ wr=>wr.rangeLeft M.heap.size E.heap.size)
       case atStart=>exact⟨_,_,[],ad,Own.cC _ _,rfl,D6.start R,by simpa using V,ib Z (atN _) (by simp)⟩
       case round=>
        have am:=atM R;clear u R V Ea ad Z aT;obtain⟨left,I,zs,X,N,rfl,Ct,aZ,U6⟩:=hrel;have br:=U6.size;have km:=X.lt;go_wp2_with(at_next;refine wpList_next_ranges _ (by rfl) _ (by rfl) 9 Hm (plainElem (H:=Unit) prog 3) Value.string (Value.int .i64) (fun key kl hk=>by obtain⟨x,hx,_⟩:=Maps.keyOf_str underlying9 hk;exact⟨_,hx⟩) (fun v y hv=>by obtain⟨c,S,_⟩:=plainElem_int_inv underlying3 hv;exact⟨c,S⟩) M.heap.size E.heap.size (p.length+l.length) _ _ _ (by rfl) X ?_ ?_)
        ·intro O an;have fJ:=Ct.mem an;have QS:zs.Perm (nN p l):=acZ Ct.nodup (ac0 (YY l YS.out)) (fun x=>by rw[fJ,ac1 YS.out]);have ao:nk (nN p l)=nk zs:=by
          rw[Bool.eq_iff_iff,nk,nk,auy,auy];exact⟨fun⟨x,C,h2⟩=>⟨x,QS.mem_iff.2 C,h2⟩,fun⟨x,C,h2⟩=>⟨x,QS.mem_iff.1 C,h2⟩⟩
         have ap:=QS.length_eq;have aU:=atM Ct.nodup;have HP:=atM QS;have av:=atM ao;have AB:=atM ap;have az:=aA T U6;clear fJ QS ao ap Ct O an;by_cases QT:128<zs.length
         ·have lC:=atM (U4 (b:=l) hr L6.out (.inr (by have:=AB.out;omega)));obtain⟨A5,c5,rfl,dm,eR,nO,nP⟩:=N.kX dG;go_wp2;go_ret2;exact J.out 3 _ (by omega) lC.out az
         ·have a4:zs.length<=128:=(by omega);have lC:=atM (ac6 (a:=p) (b:=l) hr L6.out (by omega) (by have:=AB.out;omega));clear QT;rcases jf:nk zs with _|_;rotate_left
          ·have Cu:=atM jf;clear jf;obtain⟨A5,c5,rfl,dm,eR,nO,nP⟩:=N.kX dG;go_wp2;go_ret2;exact J.out 4 _ (by omega) (by rw[lC.out,av.out,Cu.out];rfl) az
          ·have EY:Hid (fh p l=0):=(by rw[Hid,lC.out,av.out,jf];rfl);clear jf;obtain⟨A5,c5,rfl,dm,eR,nO,nP⟩:=N.kX dG;go_wp2_with fail;refine(ac7 A5 c5 (E.heap.size+1) zs _ N (by omega)).mono ?_;rintro e w6 ⟨rfl,us,hp,oU,J7,bu⟩;have F4:=hp.length_eq;have aC:us=nN p l:=U7 (YZ oU (aU.out.perm hp.symm (fun h e=>h e.symm))) (YY l YS.out) (fun x=>by rw[hp.mem_iff,HP.out.mem_iff]);have aV:=atM aC;have QU:=atM F4;clear F4 aC hp oU;go_wp2;go_ret2;rw[EY.out,ac8 EY.out,<-aV.out];exact⟨A5,c5,by rw[QU.out];rfl,J7,by have:=QU.out;omega,nP,(fun a ha=>by have:=eR a ha;have:=T.size;omega),aA T (U6.trans (bu.mono (by omega)))⟩
        ·intro s c kl yd yp w2 a0 G aX hv P L r aD aY a5;obtain⟨x',Eb,rfl,a6⟩:=Maps.keyOf_str underlying9 G;have Y0:x'=s.data.toList:=by
          have C:s=⟨x'.toArray⟩:=(by simpa[encStr]using Eb);rw[C]
         subst Y0;have QV:yd=QW c:=by
          obtain⟨c',C,h2,_⟩:=plainElem_int_inv underlying3 hv;injection C with _ C
          subst C;injection h2
         have U8:fI (p++l) s.data.toList=true:=(by rw[<-am.out.has];exact has_true_of_atKey P);have IV:cR (p++l) s.data.toList=c:=by
          have C:=am.out.at_ s.data.toList;rw[P,QV]at C;injection C with C
          injection C with _ C
          exact C.symm
         have Y1:left (key s)=true:=aX;have F:=N.kept aD (by intro g e;injection e;omega);have bm:Below E.heap.size E w2:=kH U6 aD (by intro g e;injection e;omega);have Y2:=bm.size;have a7:=L.lt;have aE:=atM (Ct.step Y1 U8 IV);clear aY P G Eb hv QV IV Ct;by_cases O:c=0
         ·have oV:(c==0)=true:=(by simp[O]);have J8:=aE.out.2 O;clear O;go_wp2_with fail;go_roundw
          case rel=>
           have Y:∃left I z,w2.ranges prog 9 (plainElem (H:=Unit) prog 3) M.heap.size E.heap.size (p.length+l.length) D left I/\Own aN 2 69 w2 (E.heap.size+1) u13 z/\Value.bool (nk zs)=.bool (nk z)/\D6 (fI (p++l)) (cR (p++l)) left z/\z.length+I<=p.length+l.length/\Below E.heap.size E w2:=⟨_,_,zs,L,F,rfl,J8,by omega,bm⟩
           first|exact Y|((repeat apply Exists.intro);exact⟨Y,rfl⟩)
          case measure=>rw[L.left_eq,X.left_eq];omega
         ·have oV:(c==0)=false:=(by simp[O]);have J8:=aE.out.1 O;have ab:some M.heap.size≠u13.ownBlock:=fun e=>by have:=(F.bR e.symm).1;omega
          have IW:some E.heap.size≠u13.ownBlock:=fun e=>by have:=(F.bR e.symm).1;omega
          have aJ:=fun g hg=>(F.bR (g:=g) hg).1;have Ec:=atM (ajs zs ⟨s,c⟩);clear O;by_cases ak:1000000000000<c
          ·have bP:decide (1000000000000<c)=true:=(by simp[ak]);have HB:Hid (nk (zs++[⟨s,c⟩])=true):=(by rw[Hid,Ec.out];simp[big,ak]);rcases oW:nk zs with _|_
           all_goals
            go_wp2_with(at_builtin;(refine lD _ _ 51 ⟨s,c⟩ _ 24 _ nQ underlying51 F dG (by omega) rfl (mF _) (by omega) (by omega) (by omega) (by rfl) (by rfl) (by rfl) (by rfl) (by simp) (by rfl) ?_);intro v2 w6 cN dJ);go_roundw
            case rel=>
             have Y:∃left I z,w6.ranges prog 9 (plainElem (H:=Unit) prog 3) M.heap.size E.heap.size (p.length+l.length) D left I/\Own aN 2 69 w6 (E.heap.size+1) v2 z/\Value.bool true=.bool (nk z)/\D6 (fI (p++l)) (cR (p++l)) left z/\z.length+I<=p.length+l.length/\Below E.heap.size E w6:=⟨_,_,_,L.kept dJ ab IW,cN,by rw[HB.out],J8,by simp;omega,kH bm dJ (fun g hg=>by have:=aJ g hg;omega)⟩
             first|exact Y|((repeat apply Exists.intro);exact⟨Y,rfl⟩)
            case measure=>rw[(L.kept dJ ab IW).left_eq,X.left_eq];omega
          ·have HB:Hid (nk (zs++[⟨s,c⟩])=nk zs):=(by rw[Hid,Ec.out];simp[big,ak]);rcases oW:nk zs with _|_
           all_goals
            rw[oW]at HB;clear oW;go_wp2_with(at_builtin;(refine lD _ _ 51 ⟨s,c⟩ _ 24 _ nQ underlying51 F dG (by omega) rfl (mF _) (by omega) (by omega) (by omega) (by rfl) (by rfl) (by rfl) (by rfl) (by simp) (by rfl) ?_);intro v2 w6 cN dJ);go_roundw
            case rel=>
             have Y:∃left I z,w6.ranges prog 9 (plainElem (H:=Unit) prog 3) M.heap.size E.heap.size (p.length+l.length) D left I/\Own aN 2 69 w6 (E.heap.size+1) v2 z/\Value.bool _=.bool (nk z)/\D6 (fI (p++l)) (cR (p++l)) left z/\z.length+I<=p.length+l.length/\Below E.heap.size E w6:=⟨_,_,_,L.kept dJ ab IW,cN,by rw[HB.out],J8,by simp;omega,kH bm dJ (fun g hg=>by have:=aJ g hg;omega)⟩
             first|exact Y|((repeat apply Exists.intro);exact⟨Y,rfl⟩)
            case measure=>rw[(L.kept dJ ab IW).left_eq,X.left_eq];omega
open Go.RowKit Go.Sort Go.Shelf
def L9(m:List Elem)(B:Nat)(x:Option Addr×Nat)(w:World):Prop:=ai aN 2 w w.heap.size x.1 m/\m.length<=x.2/\x.2<=maxLen/\∀a,x.1=some a->B<=a.block
theorem ac9{D:World}{g:Nat}{c:np}{s:jB}{J:List cH}{w:World}(h:dI D g c s J w)(E:c.p.In D)(before:Bool)(Y:Option Addr)(r:Nat)(tk:List Elem)(G:s.tv=.slice Y tk.length r)(I:ai aN 2 w w.heap.size Y tk)(hd:gF c.p.ds=true)(B:fE tk=true):
  Calls prog 105 #[.pointer (some ⟨g,0,none⟩),.bool before] w (C7 (jg c.p.ds before (max s.b.c 0) (max s.left 0) tk) (fj c.p.ds (max s.b.c 0) (max s.left 0) tk) w):=by
 have K:Hid (∀W,Below w.heap.size w W->Calls prog 160 #[.slice c.p.Ad c.p.ds.length c.p.cd,.bool before,.int .i64 (max s.b.c 0),.int .i64 (max s.left 0),.slice Y tk.length r] W (C7 (jg c.p.ds before (max s.b.c 0) (max s.left 0) tk) (fj c.p.ds (max s.b.c 0) (max s.left 0) tk) W)):=fun W y=>
  ajt c.p.Ad Y c.p.cd r c.p.ds tk before (max s.b.c 0) (max s.left 0) W ((E.aa (aA h.bh y)).ds) (Ma hd).2 (by have:=(Ma hd).1;omega) (I.aa y) (qB B).2 (by have:=(qB B).1;omega)
 have C:w.cell? ⟨g,17,none⟩=some (.slice c.p.Ad c.p.ds.length c.p.cd):=h.blk.cell 17;have L:w.cell? ⟨g,28,none⟩=some (.int .i64 s.b.c):=h.blk.cell 28;have M:w.cell? ⟨g,33,none⟩=some (.int .i64 s.left):=h.blk.cell 33;have N:w.cell? ⟨g,36,none⟩=some (.slice Y tk.length r):=by have:w.cell? ⟨g,36,none⟩=some s.tv:=h.blk.cell 36;rw[this,G]
 have j:=h.lt;clear h E I hd B G;generalize jg c.p.ds before (max s.b.c 0) (max s.left 0) tk=m at*;generalize fj c.p.ds (max s.b.c 0) (max s.left 0) tk=O at*;go_enter func105,ntmps105;go_upto_region 1 with fail
 refine Va (aE:=?C9) [0,1,2,3,4,5,6,7,8,9,10,11,12,13,14,15,16,17,18,19,20] [22,23,24,25] 21 160 #[.slice c.p.Ad c.p.ds.length c.p.cd,.bool before,.int .i64 (max s.b.c 0),.int .i64 (max s.left 0),.slice Y tk.length r] (fun x:Option Addr×Nat=>.tuple #[.slice x.1 m.length x.2,.int .i64 O]) ?Vb (L9 m w.heap.size) (by kernel_rfl) (by kernel_rfl) rfl (by kernel_rfl) (by kernel_rfl) (by rfl) (by kernel_rfl) (by kernel_rfl) (by rfl) (by kernel_rfl) (by kernel_rfl) rfl rfl ?H1 ?S1 ?N1 ?R1 ?Da ?J1 ?M1
 case H1=>
  intro F hF u;simp only[M3.cL,atY,at0,at1];have P:=aP.dK (F:=F) (a:=⟨g,17,none⟩) (by exact j) C;have Y3:=aP.dK (F:=F) (a:=⟨g,28,none⟩) (by exact j) L;have Md:=aP.dK (F:=F) (a:=⟨g,33,none⟩) (by exact j) M;have Q:=aP.dK (F:=F) (a:=⟨g,36,none⟩) (by exact j) N
  repeat(first|go_big_quiet_step(first|fail)|quiet_step(first|fail))
  refine wpQuiet_nil ?_;rfl
 case S1=>rfl
 case N1=>exact fun _=>by first|rfl|go_simp
 case R1=>exact fun x R S z y=>⟨z.1.aa y,z.2⟩
 case Da=>exact fun T l=>(K.out T l).mono (fun e S ⟨A,n,U,V,X,Z,h4,h5⟩=>⟨(A,n),U,h5,V,X,Z,fun a ha=>at7 l.size (h4 a ha)⟩)
 case J1=>
  intro x F hF u;simp only[M3.cL,atY,at0,at1]
  repeat(first|go_big_quiet_step(fail)|quiet_step(fail))
  refine wpQuiet_nil ?_;rfl
 case M1=>
  intro x R l z
  try simp only[Act.put,aua,at8,at9]
  obtain⟨A,n⟩:=x;obtain⟨x1,x2,x3,x4⟩:=z;go_wp2;go_ret2;exact⟨A,n,rfl,x1,x2,x3,x4,l⟩
theorem QX{e:World}{g:Nat}{c:np}{s:jB}{j:List cH}{w w':World}{A:Option Addr}{m:List Elem}(h:dI e g c s j w)(hS:ai aN 2 w' w'.heap.size A m)(l:∀a,A=some a->w.heap.size<=a.block):nR aN 2 w' g s.lv A m:=
 nR.new hS l h.lt (fun q n=>(h.row q n).2)
def ajv(l:World)(g:Nat)(c:np)(s:jB)(n:List cH)(m:List Elem)(w w':World):Prop:=
 ∃e A j,dI l g c {s with tv:=.slice c.y.At c.y.taken.length c.y.ct,bv:=.slice A m.length j,lv:=e,left:=s.left-aB m} (n++ag 3 m) w'/\Mv g s.lv w e w'/\nR aN 2 w' g e A m
theorem ajw{B:World}{g:Nat}{c:np}{s:jB}{E:List cH}{w:World}(h:dI B g c s E w)(P:c.p.In B)(hy:c.y.In B)(hd:gF c.p.ds=true)(Q:fE c.y.taken=true)(Db:E.length<=1000)(l0:-1000000000000<=s.left)(l1:s.left<=1000000000000)
  (m:List Elem) (n:Int) (F:m=jg c.p.ds true (max s.b.c 0) (max s.left 0) c.y.taken) (r:n=fj c.p.ds (max s.b.c 0) (max s.left 0) c.y.taken):
  Calls prog 53 #[.pointer (some ⟨g,0,none⟩)] w (Me B n (ajv B g c s E m w)):=by
 have G:=fun(u:n=0)=>F5 (before:=true) (r.symm.trans u);rw[<-F]at G;have HF:Hid (n=0->(∀x∈m,0<=x.amount/\x.amount<=1000000000000)/\m.length<=128):=fun u=>by obtain⟨_,R,_,_,b5⟩:=G u;exact⟨fun x S=>by have:=(R x S).2.1;have:=(R x S).2.2;omega,by omega⟩
 have T:=atM h;have U:Hid (∀W,dI B g c {s with tv:=.slice c.y.At c.y.taken.length c.y.ct} E W->Calls prog 105 #[.pointer (some ⟨g,0,none⟩),.bool true] W (C7 m n W)):=fun W V=>by have:=ac9 V P true c.y.At c.y.ct c.y.taken rfl ((hy.aa V.bh).taken) hd Q;rw[F,r];exact this
 have I:w.cell? ⟨g,24,none⟩=some (.slice c.y.At c.y.taken.length c.y.ct):=h.blk.cell 24;have Ot:w.cell? ⟨g,36,none⟩=some s.tv:=h.blk.cell 36;have f36:=h.blk.frozen 36;clear h P hy hd Q G F r;go_enter func53,ntmps53;go_upto_region 2 with fail
 have C:=T.out.ada (.slice c.y.At c.y.taken.length c.y.ct);have J:=Mv.set (w:=w) (v:=s.lv) (g:=g) 36 (.slice c.y.At c.y.taken.length c.y.ct);generalize w.setCell ⟨g,36,none⟩ _=W1 at C J|-;clear I Ot f36 T;go_wp2_with fail;refine(U.out _ C).mono ?_;rintro e K ⟨A,j,rfl,hS,_,_,X,z⟩;have Y:=QX C hS X;have D:=C.aa z;have Z:=J.trans (Mv.bh z);clear C J U hS X z;by_cases u:n=0;rotate_left
 ·have ab:(n !=0)=true:=by simp[u]
  have ae:=D.bh;go_wp2;go_ret;exact⟨rfl,ae,fun e=>absurd e u⟩
 ·subst u;obtain⟨ha,hl⟩:=HF.out rfl;have Y4:K.cell? ⟨g,34,none⟩=some s.bv:=D.blk.cell 34;have f34:=D.blk.frozen 34;go_upto_region 6 with fail
  have L:=D.ajx (.slice A m.length j);have M:=Mv.set (w:=K) (v:=s.lv) (g:=g) 34 (.slice A m.length j);have l:=Y.mv M;have N:=Z.trans M;generalize K.setCell ⟨g,34,none⟩ _=W3 at L N l|-;clear D Z M Y Y4 f34;go_wp2_with fail;refine(Vc L 3 A j m l Db hl (by constructor<;>(show _<=(_:Int))<;>(simp only;omega)) ha).mono ?_;rintro e w4 ⟨rfl,v4,mn,kY⟩;have jY:=N.trans kY;have O:=l.mv kY;clear L N l ha;go_wp2;go_ret;exact⟨rfl,mn.bh,fun _=>⟨v4,A,j,mn,jY,O⟩⟩
def ajy(p:World)(g:Nat)(c:np)(s:jB)(r:List cH)(j m:List Elem)(w w':World):Prop:=
 ∃e l u n y,dI p g c {s with tv:=.slice l j.length u,av:=.slice n m.length y,lv:=e,left:=s.left-aB m} (r++ag 8 m) w'/\Mv g s.lv w e w'/\nR aN 2 w' g e l j/\nR aN 2 w' g e n m
def Dc(a b:Int):Int:=if a≠0 then a else b
theorem ajz{I:World}{g:Nat}{c:np}{s:jB}{V:List cH}{w:World}(h:dI I g c s V w)(hp:c.p.In I)(hy:c.y.In I)(B:Option Addr)(K:Nat)(r:List Elem)(QY:s.bv=.slice B r.length K)(J:nR aN 2 w g s.lv B r)(al:r.length<=128)(oW:∀x∈r,x.code.size<=maxLen)
  (hd:gF c.p.ds=true) (hr:fE c.y.taken=true) (Db:V.length<=1000) (l0:-1000000000000<=s.left) (l1:s.left<=1000000000000)
  (l m:List Elem) (u z:Int) (Y6:l=nj c.y.taken r) (Vd:u=fh c.y.taken r) (hm:m=jg c.p.ds false (max s.b.c 0) (max s.left 0) l) (Ve:z=fj c.p.ds (max s.b.c 0) (max s.left 0) l):
  Calls prog 57 #[.pointer (some ⟨g,0,none⟩)] w (Me I (Dc u z) (ajy I g c s V l m w)):=by
 have hf:=fun(j:z=0)=>F5 (before:=false) (Ve.symm.trans j);rw[<-hm]at hf;have HF:Hid (z=0->(∀x∈m,0<=x.amount/\x.amount<=1000000000000)/\m.length<=128):=fun j=>by obtain⟨_,b2,_,_,b5⟩:=hf j;exact⟨fun x E=>by have:=(b2 x E).2.1;have:=(b2 x E).2.2;omega,by omega⟩
 have HI:=atM h;have Y7:=atM J;have L:Hid (∀W,Below w.heap.size w W->Calls prog 110 #[.slice c.y.At c.y.taken.length c.y.ct,.slice B r.length K] W (C7 l u W)):=fun W X=>by rw[Y6,Vd];exact acT c.y.At B c.y.ct K c.y.taken r W (hy.aa (aA h.bh X)).taken (qB hr).2 (by have:=(qB hr).1;omega) (J.sl.aa X) oW (by omega)
 have HD:Hid (u=0->∀W C c1 M,dI I g c {s with tv:=.slice C l.length c1,bv:=M} V W->ai aN 2 W W.heap.size C l->Calls prog 105 #[.pointer (some ⟨g,0,none⟩),.bool false] W (C7 m z W)):=fun j W C c1 M G hS=>by
  have Ed:fE l=true:=by obtain⟨_,_,k3,k4⟩:=Vf (Vd.symm.trans j);rw[Y6,k4];exact k3
  have:=ac9 G hp false C c1 l rfl hS hd Ed;rw[hm,Ve];exact this
 have N:w.cell? ⟨g,24,none⟩=some (.slice c.y.At c.y.taken.length c.y.ct):=h.blk.cell 24;have QZ:w.cell? ⟨g,34,none⟩=some (.slice B r.length K):=by have:w.cell? ⟨g,34,none⟩=some s.bv:=h.blk.cell 34;rw[this,QY]
 have O:=h.lt;clear h hp hy hd hr hf hm Y6 Vd Ve J oW QY;go_enter func57,ntmps57;go_upto_region 1 with fail
 refine Va (aE:=?C9) [0,1,2,3,4,5,6,7,8] [10,11,12,13,14] 9 110 #[.slice c.y.At c.y.taken.length c.y.ct,.slice B r.length K] (fun x:Option Addr×Nat=>.tuple #[.slice x.1 l.length x.2,.int .i64 u]) ?Vb (L9 l w.heap.size) (by kernel_rfl) (by kernel_rfl) rfl (by kernel_rfl) (by kernel_rfl) (by rfl) (by kernel_rfl) (by kernel_rfl) (by rfl) (by kernel_rfl) (by kernel_rfl) rfl rfl ?H1 ?S1 ?N1 ?R1 ?Da ?J1 ?M1
 case H1=>
  intro F hF P;simp only[M3.cL,atY,at0,at1];have am:=aP.dK (F:=F) (a:=⟨g,24,none⟩) (by exact O) N;have an:=aP.dK (F:=F) (a:=⟨g,34,none⟩) (by exact O) QZ
  repeat(first|go_big_quiet_step(first|fail)|quiet_step(first|fail))
  refine wpQuiet_nil ?_;rfl
 case S1=>rfl
 case N1=>exact fun _=>by first|rfl|go_simp
 case R1=>exact fun x Y w2 E X=>⟨E.1.aa X,E.2⟩
 case Da=>exact fun W1 n=>(L.out W1 n).mono (fun e w2 ⟨A,ab,he,h1,h2,h3,h4,h5⟩=>⟨(A,ab),he,h5,h1,h2,h3,fun a Z=>at7 n.size (h4 a Z)⟩)
 case J1=>
  intro x F hF P;simp only[M3.cL,atY,at0,at1]
  repeat(first|go_big_quiet_step(fail)|quiet_step(fail))
  refine wpQuiet_nil ?_;rfl
 case M1=>
  intro x Y n E
  try simp only[Act.put,aua,at8,at9]
  obtain⟨C,Vg⟩:=x;obtain⟨hS,_,_,oX⟩:=E;have J:=QX HI.out hS oX;have G:=HI.out.aa n;have eT:=Mv.bh (g:=g) (v:=s.lv) n;clear HI L N QZ hS oX n Y7;by_cases j:u=0;rotate_left
  ·have HE:Hid (Dc u z=u):=(by rw[Hid,Dc,atP j]);have ad:(u !=0)=true:=(by simp[j]);have ae:=G.bh;go_wp2;go_ret;rw[HE.out];exact⟨rfl,ae,fun e=>absurd e j⟩
  have HE:Hid (Dc u z=z):=by rw[Hid,Dc,atO (by simp[j])]
  have Ou:=atM (HD.out j);subst j;rw[HE.out];clear HD HE;have Ot:Y.cell? ⟨g,36,none⟩=some s.tv:=G.blk.cell 36;have f36:=G.blk.frozen 36;go_upto_region 5 with fail
  have Q:=G.ada (.slice C l.length Vg);have D:=Mv.set (w:=Y) (v:=s.lv) (g:=g) 36 (.slice C l.length Vg);have nu:=J.mv D;have jX:=eT.trans D;generalize Y.setCell ⟨g,36,none⟩ _=W5 at Q nu jX|-;clear G D J eT Ot f36;go_wp2_with fail;refine(Ou.out W5 C Vg s.bv Q nu.sl).mono ?_;rintro e w6 ⟨A2,Vh,rfl,cu,_,_,R,bu⟩;have S:=QX Q cu R;have T:=Q.aa bu;have Mf:=Mv.bh (g:=g) (v:=s.lv) bu;have U:=nu.mv Mf;have pI:=jX.trans Mf;clear Q nu jX cu R bu Mf Ou;by_cases j:z=0;rotate_left
  ·have ad:(z !=0)=true:=(by simp[j]);have ae:=T.bh;go_wp2;go_ret;exact⟨rfl,ae,fun e=>absurd e j⟩
  ·subst j;obtain⟨Z,hl⟩:=HF.out rfl;have af:w6.cell? ⟨g,35,none⟩=some s.av:=T.blk.cell 35;have f35:=T.blk.frozen 35;go_upto_region 9 with fail
   have IX:=T.ajA (.slice A2 m.length Vh);have D:=Mv.set (w:=w6) (v:=s.lv) (g:=g) 35 (.slice A2 m.length Vh);have Y8:=U.mv D;have Vi:=S.mv D;have kZ:=pI.trans D;generalize w6.setCell ⟨g,35,none⟩ _=W7 at IX Y8 Vi kZ|-;clear T D U S pI af f35;go_wp2_with fail;refine(Vc IX 8 A2 Vh m Vi Db hl (by constructor<;>(show _<=(_:Int))<;>(simp only;omega)) Z).mono ?_;rintro e w8 ⟨rfl,v8,Ov,Cv⟩;have Ow:=kZ.trans Cv;have aj:=Y8.mv Cv;have ak:=Vi.mv Cv;clear IX kZ Y8 Vi Z;go_wp2;go_ret;exact⟨rfl,Ov.bh,fun _=>⟨v8,C,Vg,A2,Vh,Ov,Ow,aj,ak⟩⟩
