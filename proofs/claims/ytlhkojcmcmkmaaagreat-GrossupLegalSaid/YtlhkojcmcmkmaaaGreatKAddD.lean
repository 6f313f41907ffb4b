/- Conditions: as stated. -/
import Derived.Test.YtlhkojcmcmkmaaaGreatKBox
set_option maxRecDepth 100000
set_option maxHeartbeats 4000000
namespace Go.Proofs.YtlhkojcmcmkmaaaGreat
open Go.Proofs.Tryz
open Go.RowKit Go.Sort Go.Shelf Go.Maps
structure Dm(K:List UInt8->Bool)(T:List UInt8->Int)(left:Lit->Bool)(ys:List Elem):Prop where
 sound:∀x∈ys,K x.code.data.toList=true/\x.amount=T x.code.data.toList/\x.amount≠0/\left (key x.code)=false
 full:∀c,K c=true->left (.string c)=false->T c≠0->∃x∈ys,x.code.data.toList=c
 nodup:ys.Pairwise (fun a b=>a.code≠b.code)
theorem Dm.start{D:DataW Unit}{K:List UInt8->Bool}{T:List UInt8->Int}(h:Dn D K T):Dm K T (Maps.has D) []:=
 ⟨by simp,(fun c j e=>by rw[h.has c,j]at e;cases e),List.Pairwise.nil⟩
theorem Dm.step{K:List UInt8->Bool}{T:List UInt8->Int}{left:Lit->Bool}{n:List Elem}(h:Dm K T left n){s:ByteArray}{c:Int}(F:left (key s)=true)(G:K s.data.toList=true)(B:T s.data.toList=c):
  (c≠0->Dm K T (fun z=>left z&&!z.sameKey (key s)) (n++[⟨s,c⟩]))/\(c=0->Dm K T (fun z=>left z&&!z.sameKey (key s)) n):=by
 have I:(key s).sameKey (key s)=true:=WideAt.sameKey_self trivial;have C:∀x∈n,K x.code.data.toList=true/\x.amount=T x.code.data.toList/\x.amount≠0/\(left (key x.code)&&!(key x.code).sameKey (key s))=false:=by intro x p;obtain⟨h1,J,L,M⟩:=h.sound x p;exact⟨h1,J,L,by simp[M]⟩
 have D:∀d,K d=true->(left (.string d)&&!(Lit.string d).sameKey (key s))=false->T d≠0->d≠s.data.toList->∃x∈n,x.code.data.toList=d:=by intro d hd j l e;have r:(Lit.string d).sameKey (key s)=false:=sameKey_ne (fun N=>e (by simpa[key]using N));rw[r]at j;simp at j;exact h.full d hd j l
 refine⟨fun u=>⟨fun x p=>?_,fun d hd j l=>?_,?_⟩,fun u=>⟨C,fun d hd j l=>?_,h.nodup⟩⟩
 ·rcases arE.1 p with h1|h1
  ·exact C x h1
  ·simp at h1;subst h1;exact⟨G,B.symm,u,by show(left (key s)&&!(key s).sameKey (key s))=false;rw[I];simp⟩
 ·by_cases e:d=s.data.toList
  ·exact⟨⟨s,c⟩,by simp,e.symm⟩
  ·obtain⟨x,p,O⟩:=D d hd j l e;exact⟨x,by simp[p],O⟩
 ·rw[List.pairwise_append];refine⟨h.nodup,List.pairwise_singleton _ _,fun a y b E=>?_⟩;simp at E;subst E;intro e;have:=(h.sound a y).2.2.2;rw[show key a.code=key s by rw[e],F]at this;cases this
 ·by_cases e:d=s.data.toList
  ·subst e;rw[B]at l;exact absurd u l
  ·exact D d hd j l e
theorem Dm.mem{K:List UInt8->Bool}{T:List UInt8->Int}{left:Lit->Bool}{l:List Elem}(h:Dm K T left l)(r:∀z,left z=false)(x:Elem):x∈l↔(K x.code.data.toList=true/\x.amount=T x.code.data.toList/\x.amount≠0):=by
 refine⟨fun e=>⟨(h.sound x e).1,(h.sound x e).2.1,(h.sound x e).2.2.1⟩,fun⟨u,j,B⟩=>?_⟩;obtain⟨y,hy,C⟩:=h.full _ u (r _) (by rw[<-j];exact B);have D:y=x:=by obtain⟨_,n,_⟩:=h.sound y hy;have p:y.code=x.code:=key_inj (by simp[key,C]);obtain⟨a,b⟩:=y;obtain⟨c,d⟩:=x;simp only at p n j;subst p;rw[n,j]
 rw[<-D];exact hy
theorem abt(A B:Option Addr)(am Xi:Nat)(p l:List Elem)(w:World)(h:aj aN 2 w w.heap.size A p)(hz:∀x∈p,x.code.size<=maxLen)(hl:p.length<=9223372036854775806)
  (hy:aj aN 2 w w.heap.size B l) (Fh:∀x∈l,x.code.size<=maxLen) (nV:l.length<=9223372036854775806):
  Calls prog 110 #[.slice A p.length am,.slice B l.length Xi] w (Cm (kU p l) (ep p l) w):=by
 have HZ:=aq6 hz;clear hz;have Jr:=aq6 Fh;clear Fh;have zD:∀(n:Int) (W:World),n≠0->ep p l=n->Below w.heap.size w W->Cm (kU p l) (ep p l) w (Ending.returned (.tuple #[.slice none 0 0,.int .i64 n])) W:=
  fun n W hn he hb=>Cm.fail (abu (by rw[he];exact hn)) he hb
 have J:=aq6 zD;clear zD;have zE:=@run_makeMap prog;go_enter func110,ntmps110;go_wp2_with fail;refine(TH A am p _ h HZ.out (by omega)).mono ?_;rintro e w1 ⟨rfl,af⟩;by_cases hr:eJ p=true;rotate_left
 ·have Js:eJ p=false:=by simpa using hr
  clear hr;go_wp2;go_ret2;exact J.out 1 _ (by omega) (TI (.inl Js)) af
 have Fi:p.length<=128:=(pz.1 hr).1;have PA:=aq6 (pz.1 hr).2.1;have Xj:=aq6 (pz.1 hr).2.2;go_wp2_with fail
 go_loopw [22] (fun i wr=>∃k:Nat,k<=l.length/\i=.int .i64 k/\Hid (∀j,(hj:j<l.length)->j<k->nC l[j]=true)/\Below w.heap.size w wr) (fun i _=>l.length-(intOf i).toNat)
 case atStart=>exact⟨0,by omega,rfl,fun j _ hj=>absurd hj (by omega),af⟩
 case round=>
  obtain⟨k,hk,rfl,U,ae⟩:=hrel;have br:=ae.size;by_cases r:k<l.length
  ·obtain⟨b,an,rfl,hb,S⟩:=(hy.below ae).at_ r;have c0:=S 0 _ rfl;have c1:=S 1 _ rfl;simp only[ara]at c0;clear S;have fj:=Jr.out _ (arc r);have HN:Hid (nC l[k]=false->ep p l=1):=fun Y=>TI (.inr (by
    rw[List.all_eq_false];exact⟨l[k],arc _,by simp[Y]⟩))
   by_cases hn:bI l[k].code=true;rotate_left
   ·have mq:bI l[k].code=false:=(by simpa using hn);clear hn;go_wp2_with(go_at_call 82;refine(BO _ _ fj).mono ?_;rintro e w' ⟨rfl,rfl⟩);go_ret2;exact J.out 1 _ (by omega) (HN.out (by simp[nC,mq])) (ae.alloc br _)
   by_cases C:0<=l[k].amount;rotate_left
   ·go_wp2_with(go_at_call 82;refine(BO _ _ fj).mono ?_;rintro e w' ⟨rfl,rfl⟩);go_ret2;exact J.out 1 _ (by omega) (HN.out (by simp[nC,bG];intros;omega)) (ae.alloc br _)
   by_cases h2:l[k].amount<=1000000000;rotate_left
   ·go_wp2_with(go_at_call 82;refine(BO _ _ fj).mono ?_;rintro e w' ⟨rfl,rfl⟩);go_ret2;exact J.out 1 _ (by omega) (HN.out (by simp[nC,bG];intros;omega)) (ae.alloc br _)
   go_wp2_with(go_at_call 82;refine(BO _ _ fj).mono ?_;rintro e w' ⟨rfl,rfl⟩);go_roundw
   case rel=>
    refine⟨k+1,by omega,by go_num,fun j hj a4=>?_,ae.alloc br _⟩;rcases arp j k with h3|h3
    ·exact U.out j hj h3
    ·obtain rfl:j=k:=by omega
     exact(TJ _).2 ⟨hn,C,h2⟩
   case measure=>simp[intOf];omega
  ·have Gw:l.all nC=true:=by
    rw[List.all_eq_true];intro x hx;obtain⟨j,hj,rfl⟩:=arN.1 hx;exact U.out j hj (by omega)
   have La:=aq6 Gw;have Jt:Hid (∀x∈l,0<=x.amount/\x.amount<=1000000000):=fun x hx=>((TJ x).1 (List.all_eq_true.1 Gw x hx)).2;clear Gw;by_cases Nk:128<l.length
   ·go_wp2;go_ret2;exact J.out 3 _ (by omega) (TK hr La.out (.inl Nk)) ae
   have a5:l.length<=128:=(by omega);obtain⟨M,rfl⟩:∃M:World,M=wr:=⟨_,rfl⟩
   go_wp2_with fail;clear U hk r nV hl af;have PB:(M.alloc (.map #[] 0)).ownsMap prog 9 (plainElem (H:=Unit) prog 3) M.heap.size 0 (.map []):=World.ownsMap_made _ _ _ _;have PC:Below w.heap.size w (M.alloc (.map #[] 0)):=ae.alloc br _
   go_loopw [47] (fun i wr=>∃(k:Nat) (D:DataW Unit),k<=p.length/\i=.int .i64 k/\wr.ownsMap prog 9 (plainElem (H:=Unit) prog 3) M.heap.size k D/\Dn D (fF (p.take k)) (cC (p.take k))/\Below w.heap.size w wr) (fun i _=>p.length-(intOf i).toNat)
   case atStart=>exact⟨0,.map [],by omega,rfl,PB,Dn.empty,PC⟩
   case round=>
    clear PB PC;obtain⟨k,D,hk,rfl,u,R,T⟩:=hrel;have Gx:=T.size;by_cases r:k<p.length
    ·obtain⟨b,an,rfl,hb,S⟩:=(h.below T).at_ r;have c0:=S 0 _ rfl;have c1:=S 1 _ rfl;simp only[ara]at c0;clear S;have fj:=HZ.out _ (arc r);have G:keyOf prog 9 (.string p[k].code)=some (key p[k].code):=WideMaps.keyOf_string_mk underlying9 fj;have K:=u.kept (World.grownBy_alloc wr (Obj.cells #[Value.string p[k].code,Value.int IntKind.i64 p[k].amount] 69) none) (by simp);have Lb:=abv (p.take k) p[k].code.data.toList 1000000000000 (by omega) (fun x hx=>(PA.out x (arD hx)).2);have PD:(p.take k).length<=128:=(by simp;omega);obtain⟨_,aO,aP⟩:=PA.out _ (arc r);have Ju:=R.at_ p[k].code.data.toList;have Dq:0<=cC (p.take k) p[k].code.data.toList:=Lb.1;have Cn:cC (p.take k) p[k].code.data.toList<=128000000000000:=(by omega);have BP:=R.Xk (K':=fF (p.take (k+1))) (T':=cC (p.take (k+1))) p[k].code (cC (p.take k) p[k].code.data.toList+p[k].amount) (Xl p k r) (fun c=>by
      rw[Xm p k r];split
      ·rename_i e;rw[<-e]
      ·omega)
     have Gy:=aq6 BP;have zF:=aq6 Ju;generalize cC (p.take k) p[k].code.data.toList=t0 at Dq Cn Gy zF;clear Lb PD Ju R BP;go_wp2_with(first
      |(at_lookup;refine wpList_lookup_own_int _ (by rfl) _ _ 181 (by rfl) 9 3 .i64 Gz underlying181 underlying3 (Xn _) M.heap.size k D (by rfl) K _ _ (by rfl) G ?_;intro c P aS;obtain rfl:c=t0:=(by have C:=zF.out;rw[show Lit.string p[k].code.data.toList=key p[k].code from rfl,P]at C;injection C with C;injection C))
      |(at_mapUpdate;refine wpList_mapUpdate_own _ (by rfl) _ _ _ 181 (by rfl) 9 3 Gz underlying181 _ M.heap.size k D (by rfl) K (by unfold maxLen;omega) _ _ _ (by rfl) (by rfl) G _ [] (plainElem_int underlying3 (Xo (by omega) (by omega))) ?_;intro w1 Q PE))
     go_roundw
     case rel=>exact⟨k+1,_,by omega,by go_num,Q,Gy.out,(T.alloc Gx _).grown PE (by simp;omega) (fun g e=>by injection e;omega)⟩
     case measure=>simp[intOf];omega
    ·obtain rfl:k=p.length:=by omega
     have Z:decide ((p.length:Int)<(p.length:Int))=false:=(by simp);have aT:decide (p.length<p.length)=false:=(by simp);rw[arW]at R;obtain⟨E,rfl⟩:∃E:World,E=wr:=⟨_,rfl⟩
     go_wp2_with fail;clear hk r
     go_loopw [61] (fun i wr=>∃(k:Nat) (D:DataW Unit),k<=l.length/\i=.int .i64 k/\wr.ownsMap prog 9 (plainElem (H:=Unit) prog 3) M.heap.size (p.length+k) D/\Dn D (fF (p++l.take k)) (cC (p++l.take k))/\Below w.heap.size w wr) (fun i _=>l.length-(intOf i).toNat)
     case atStart=>exact⟨0,D,by omega,rfl,u,by simpa using R,T⟩
     case round=>
      clear u R T Gx;obtain⟨k,D,hk,rfl,u,R,T⟩:=hrel;have Gx:=T.size;by_cases r:k<l.length
      ·obtain⟨b,an,rfl,hb,S⟩:=(hy.below T).at_ r;have c0:=S 0 _ rfl;have c1:=S 1 _ rfl;simp only[ara]at c0;clear S;have fj:=Jr.out _ (arc r);have G:keyOf prog 9 (.string l[k].code)=some (key l[k].code):=WideMaps.keyOf_string_mk underlying9 fj;have K:=u.kept (World.grownBy_alloc wr (Obj.cells #[Value.string l[k].code,Value.int IntKind.i64 l[k].amount] 69) none) (by simp);have Lb:=abv (p++l.take k) l[k].code.data.toList 1000000000000 (by omega) (fun x hx=>by
        rcases arE.1 hx with hx|hx
        ·exact(PA.out x hx).2
        ·have:=Jt.out x (arD hx);omega)
       have PD:(p++l.take k).length<=256:=(by simp;omega);obtain⟨aO,aP⟩:=Jt.out _ (arc r);have Ju:=R.at_ l[k].code.data.toList;have Dq:0<=cC (p++l.take k) l[k].code.data.toList:=Lb.1;have Cn:cC (p++l.take k) l[k].code.data.toList<=256000000000000:=(by omega);have BP:=R.Xk (K':=fF (p++l.take (k+1))) (T':=cC (p++l.take (k+1))) l[k].code (cC (p++l.take k) l[k].code.data.toList+l[k].amount) (fun c=>by rw[TL,TL,Xl l k r,Bool.or_assoc]) (fun c=>by
        rw[Nl,Nl,Nl,Xm l k r];split
        ·rename_i e;rw[<-e];omega
        ·omega)
       have Gy:=aq6 BP;have zF:=aq6 Ju;generalize cC (p++l.take k) l[k].code.data.toList=t0 at Dq Cn Gy zF;clear Lb PD Ju R BP;go_wp2_with(first
        |(at_lookup;refine wpList_lookup_own_int _ (by rfl) _ _ 181 (by rfl) 9 3 .i64 Gz underlying181 underlying3 (Xn _) M.heap.size (p.length+k) D (by rfl) K _ _ (by rfl) G ?_;intro c P aS;obtain rfl:c=t0:=(by have C:=zF.out;rw[show Lit.string l[k].code.data.toList=key l[k].code from rfl,P]at C;injection C with C;injection C))
        |(at_mapUpdate;refine wpList_mapUpdate_own _ (by rfl) _ _ _ 181 (by rfl) 9 3 Gz underlying181 _ M.heap.size (p.length+k) D (by rfl) K (by unfold maxLen;omega) _ _ _ (by rfl) (by rfl) G _ [] (plainElem_int underlying3 (Xo (by omega) (by omega))) ?_;intro w1 Q PE))
       go_roundw
       case rel=>exact⟨k+1,_,by omega,by go_num,Q,Gy.out,(T.alloc Gx _).grown PE (by simp;omega) (fun g e=>by injection e;omega)⟩
       case measure=>simp[intOf];omega
      ·obtain rfl:k=l.length:=by omega
       have Z:decide ((l.length:Int)<(l.length:Int))=false:=(by simp);have aT:decide (l.length<l.length)=false:=(by simp);rw[arW]at R;obtain⟨E,rfl⟩:∃E:World,E=wr:=⟨_,rfl⟩
       clear hk r;have a6:M.heap.size<E.heap.size:=by obtain⟨es,ai,hb,_⟩:=u;exact(asv.1 hb).1
       have V:Maps.size D<=p.length+l.length:=by obtain⟨es,ai,_,_,mq,rfl⟩:=u;rw[Maps.size_eq,aby];simpa using mq
       go_wp2_with(at_range;refine wpList_range_own _ (by rfl) _ 181 (by rfl) 9 3 Gz underlying181 (plainElem (H:=Unit) prog 3) M.heap.size (p.length+l.length) D (by rfl) u ?_;intro w0 ad Z aV)
       go_frame
       go_loopw [13,14] (fun v o wr=>∃left I zs,wr.ranges prog 9 (plainElem (H:=Unit) prog 3) M.heap.size E.heap.size (p.length+l.length) D left I/\Own aN 2 69 wr (E.heap.size+1) v zs/\o=.bool (mr zs)/\Dm (fF (p++l)) (cC (p++l)) left zs/\zs.length+I<=p.length+l.length/\Below E.heap.size E wr) (fun _ _ wr=>wr.rangeLeft M.heap.size E.heap.size)
       case atStart=>exact⟨_,_,[],ad,Own.cK _ _,rfl,Dm.start R,by simpa using V,gI Z (aq7 _) (by simp)⟩
       case round=>
        have ao:=aq6 R;clear u R V Gx ad Z aV;obtain⟨left,I,zs,X,N,rfl,BQ,a2,TM⟩:=hrel;have br:=TM.size;have km:=X.lt;go_wp2_with(at_next;refine wpList_next_ranges _ (by rfl) _ (by rfl) 9 Gz (plainElem (H:=Unit) prog 3) Value.string (Value.int .i64) (fun key kl hk=>by obtain⟨x,hx,_⟩:=Maps.keyOf_str underlying9 hk;exact⟨_,hx⟩) (fun v y hv=>by obtain⟨c,S,_⟩:=plainElem_int_inv underlying3 hv;exact⟨c,S⟩) M.heap.size E.heap.size (p.length+l.length) _ _ _ (by rfl) X ?_ ?_)
        ·intro O ap;have jA:=BQ.mem ap;have PF:zs.Perm (lT p l):=abz BQ.nodup (abA (Xp l Xj.out)) (fun x=>by rw[jA,abB Xj.out]);have av:mr (lT p l)=mr zs:=by
          rw[Bool.eq_iff_iff,mr,mr,arX,arX];exact⟨fun⟨x,C,h2⟩=>⟨x,PF.mem_iff.2 C,h2⟩,fun⟨x,C,h2⟩=>⟨x,PF.mem_iff.1 C,h2⟩⟩
         have ax:=PF.length_eq;have aW:=aq6 BQ.nodup;have HP:=aq6 PF;have ay:=aq6 av;have zG:=aq6 ax;have az:=aB T TM;clear jA PF av ax BQ O ap;by_cases PG:128<zs.length
         ·have jm:=aq6 (TK (b:=l) hr La.out (.inr (by have:=zG.out;omega)));obtain⟨A5,c5,rfl,cX,eM,oD,oF⟩:=N.kE dt;go_wp2;go_ret2;exact J.out 3 _ (by omega) jm.out az
         ·have a7:zs.length<=128:=(by omega);have jm:=aq6 (abG (a:=p) (b:=l) hr La.out (by omega) (by have:=zG.out;omega));clear PG;rcases iQ:mr zs with _|_;rotate_left
          ·have BR:=aq6 iQ;clear iQ;obtain⟨A5,c5,rfl,cX,eM,oD,oF⟩:=N.kE dt;go_wp2;go_ret2;exact J.out 4 _ (by omega) (by rw[jm.out,ay.out,BR.out];rfl) az
          ·have Em:Hid (ep p l=0):=(by rw[Hid,jm.out,ay.out,iQ];rfl);clear iQ;obtain⟨A5,c5,rfl,cX,eM,oD,oF⟩:=N.kE dt;go_wp2_with fail;refine(abH A5 c5 (E.heap.size+1) zs _ N (by omega)).mono ?_;rintro e w6 ⟨rfl,us,hp,nW,PH,bN⟩;have Fj:=hp.length_eq;have aA:us=lT p l:=TN (Xq nW (aW.out.perm hp.symm (fun h e=>h e.symm))) (Xp l Xj.out) (fun x=>by rw[hp.mem_iff,HP.out.mem_iff]);have aZ:=aq6 aA;have PI:=aq6 Fj;clear Fj aA hp nW;go_wp2;go_ret2;rw[Em.out,abI Em.out,<-aZ.out];exact⟨A5,c5,by rw[PI.out];rfl,PH,by have:=PI.out;omega,oF,(fun a ha=>by have:=eM a ha;have:=T.size;omega),aB T (TM.trans (bN.mono (by omega)))⟩
        ·intro s c kl yd yp w2 a3 G a0 hv P L r aD a1 a8;obtain⟨x',Hl,rfl,a9⟩:=Maps.keyOf_str underlying9 G;have Xr:x'=s.data.toList:=by
          have C:s=⟨x'.toArray⟩:=(by simpa[encStr]using Hl);rw[C]
         subst Xr;have PJ:yd=PK c:=by
          obtain⟨c',C,h2,_⟩:=plainElem_int_inv underlying3 hv;injection C with _ C
          subst C;injection h2
         have TP:fF (p++l) s.data.toList=true:=(by rw[<-ao.out.has];exact has_true_of_atKey P);have Hm:cC (p++l) s.data.toList=c:=by
          have C:=ao.out.at_ s.data.toList;rw[P,PJ]at C;injection C with C
          injection C with _ C
          exact C.symm
         have Xs:left (key s)=true:=a0;have F:=N.kept aD (by intro g e;injection e;omega);have bu:Below E.heap.size E w2:=jN TM aD (by intro g e;injection e;omega);have Xt:=bu.size;have ba:=L.lt;have aE:=aq6 (BQ.step Xs TP Hm);clear a1 P G Hl hv PJ Hm BQ;by_cases O:c=0
         ·have nX:(c==0)=true:=(by simp[O]);have Jv:=aE.out.2 O;clear O;go_wp2_with fail;go_roundw
          case rel=>
           have Y:∃left I z,w2.ranges prog 9 (plainElem (H:=Unit) prog 3) M.heap.size E.heap.size (p.length+l.length) D left I/\Own aN 2 69 w2 (E.heap.size+1) u13 z/\Value.bool (mr zs)=.bool (mr z)/\Dm (fF (p++l)) (cC (p++l)) left z/\z.length+I<=p.length+l.length/\Below E.heap.size E w2:=⟨_,_,zs,L,F,rfl,Jv,by omega,bu⟩
           first|exact Y|((repeat apply Exists.intro);exact⟨Y,rfl⟩)
          case measure=>rw[L.left_eq,X.left_eq];omega
         ·have nX:(c==0)=false:=(by simp[O]);have Jv:=aE.out.1 O;have ab:some M.heap.size≠u13.ownBlock:=fun e=>by have:=(F.cg e.symm).1;omega
          have Hn:some E.heap.size≠u13.ownBlock:=fun e=>by have:=(F.cg e.symm).1;omega
          have aJ:=fun g hg=>(F.cg (g:=g) hg).1;have Dr:=aq6 (ahx zs ⟨s,c⟩);clear O;by_cases al:1000000000000<c
          ·have bP:decide (1000000000000<c)=true:=(by simp[al]);have HB:Hid (mr (zs++[⟨s,c⟩])=true):=(by rw[Hid,Dr.out];simp[big,al]);rcases nY:mr zs with _|_
           all_goals
            go_wp2_with(at_builtin;(refine my _ _ 51 ⟨s,c⟩ _ 24 _ kF underlying51 F dt (by omega) rfl (kn _) (by omega) (by omega) (by omega) (by rfl) (by rfl) (by rfl) (by rfl) (by simp) (by rfl) ?_);intro v2 w6 cY fK);go_roundw
            case rel=>
             have Y:∃left I z,w6.ranges prog 9 (plainElem (H:=Unit) prog 3) M.heap.size E.heap.size (p.length+l.length) D left I/\Own aN 2 69 w6 (E.heap.size+1) v2 z/\Value.bool true=.bool (mr z)/\Dm (fF (p++l)) (cC (p++l)) left z/\z.length+I<=p.length+l.length/\Below E.heap.size E w6:=⟨_,_,_,L.kept fK ab Hn,cY,by rw[HB.out],Jv,by simp;omega,jN bu fK (fun g hg=>by have:=aJ g hg;omega)⟩
             first|exact Y|((repeat apply Exists.intro);exact⟨Y,rfl⟩)
            case measure=>rw[(L.kept fK ab Hn).left_eq,X.left_eq];omega
          ·have HB:Hid (mr (zs++[⟨s,c⟩])=mr zs):=(by rw[Hid,Dr.out];simp[big,al]);rcases nY:mr zs with _|_
           all_goals
            rw[nY]at HB;clear nY;go_wp2_with(at_builtin;(refine my _ _ 51 ⟨s,c⟩ _ 24 _ kF underlying51 F dt (by omega) rfl (kn _) (by omega) (by omega) (by omega) (by rfl) (by rfl) (by rfl) (by rfl) (by simp) (by rfl) ?_);intro v2 w6 cY fK);go_roundw
            case rel=>
             have Y:∃left I z,w6.ranges prog 9 (plainElem (H:=Unit) prog 3) M.heap.size E.heap.size (p.length+l.length) D left I/\Own aN 2 69 w6 (E.heap.size+1) v2 z/\Value.bool _=.bool (mr z)/\Dm (fF (p++l)) (cC (p++l)) left z/\z.length+I<=p.length+l.length/\Below E.heap.size E w6:=⟨_,_,_,L.kept fK ab Hn,cY,by rw[HB.out],Jv,by simp;omega,jN bu fK (fun g hg=>by have:=aJ g hg;omega)⟩
             first|exact Y|((repeat apply Exists.intro);exact⟨Y,rfl⟩)
            case measure=>rw[(L.kept fK ab Hn).left_eq,X.left_eq];omega
open Go.RowKit Go.Sort Go.Shelf
def Lc(m:List Elem)(B:Nat)(x:Option Addr×Nat)(w:World):Prop:=aj aN 2 w w.heap.size x.1 m/\m.length<=x.2/\x.2<=maxLen/\∀a,x.1=some a->B<=a.block
theorem abJ{D:World}{g:Nat}{c:mz}{s:jn}{J:List dE}{w:World}(h:dF D g c s J w)(E:c.p.In D)(before:Bool)(Y:Option Addr)(r:Nat)(tk:List Elem)(G:s.tv=.slice Y tk.length r)(I:aj aN 2 w w.heap.size Y tk)(hd:fV c.p.ds=true)(B:eJ tk=true):
  Calls prog 105 #[.pointer (some ⟨g,0,none⟩),.bool before] w (Cm (il c.p.ds before (max s.b.c 0) (max s.left 0) tk) (eC c.p.ds (max s.b.c 0) (max s.left 0) tk) w):=by
 have K:Hid (∀W,Below w.heap.size w W->Calls prog 160 #[.slice c.p.Ad c.p.ds.length c.p.cd,.bool before,.int .i64 (max s.b.c 0),.int .i64 (max s.left 0),.slice Y tk.length r] W (Cm (il c.p.ds before (max s.b.c 0) (max s.left 0) tk) (eC c.p.ds (max s.b.c 0) (max s.left 0) tk) W)):=fun W y=>
  ahy c.p.Ad Y c.p.cd r c.p.ds tk before (max s.b.c 0) (max s.left 0) W ((E.aa (aB h.aU y)).ds) (Ld hd).2 (by have:=(Ld hd).1;omega) (I.aa y) (zH B).2 (by have:=(zH B).1;omega)
 have C:w.cell? ⟨g,17,none⟩=some (.slice c.p.Ad c.p.ds.length c.p.cd):=h.blk.cell 17;have L:w.cell? ⟨g,28,none⟩=some (.int .i64 s.b.c):=h.blk.cell 28;have M:w.cell? ⟨g,33,none⟩=some (.int .i64 s.left):=h.blk.cell 33;have N:w.cell? ⟨g,36,none⟩=some (.slice Y tk.length r):=by have:w.cell? ⟨g,36,none⟩=some s.tv:=h.blk.cell 36;rw[this,G]
 have j:=h.lt;clear h E I hd B G;generalize il c.p.ds before (max s.b.c 0) (max s.left 0) tk=m at*;generalize eC c.p.ds (max s.b.c 0) (max s.left 0) tk=O at*;go_enter func105,ntmps105;go_upto_region 1 with fail
 refine TR (aE:=?Co) [0,1,2,3,4,5,6,7,8,9,10,11,12,13,14,15,16,17,18,19,20] [22,23,24,25] 21 160 #[.slice c.p.Ad c.p.ds.length c.p.cd,.bool before,.int .i64 (max s.b.c 0),.int .i64 (max s.left 0),.slice Y tk.length r] (fun x:Option Addr×Nat=>.tuple #[.slice x.1 m.length x.2,.int .i64 O]) ?TS (Lc m w.heap.size) (by kernel_rfl) (by kernel_rfl) rfl (by kernel_rfl) (by kernel_rfl) (by rfl) (by kernel_rfl) (by kernel_rfl) (by rfl) (by kernel_rfl) (by kernel_rfl) rfl rfl ?H1 ?S1 ?N1 ?R1 ?Ho ?J1 ?M1
 case H1=>
  intro F hF u;simp only[M3.cL,arh,ari,arj];have P:=aR.dL (F:=F) (a:=⟨g,17,none⟩) (by exact j) C;have Xu:=aR.dL (F:=F) (a:=⟨g,28,none⟩) (by exact j) L;have Lg:=aR.dL (F:=F) (a:=⟨g,33,none⟩) (by exact j) M;have Q:=aR.dL (F:=F) (a:=⟨g,36,none⟩) (by exact j) N
  repeat(first|go_big_quiet_step(first|fail)|quiet_step(first|fail))
  refine wpQuiet_nil ?_;rfl
 case S1=>rfl
 case N1=>exact fun _=>by first|rfl|go_simp
 case R1=>exact fun x R S z y=>⟨z.1.aa y,z.2⟩
 case Ho=>exact fun T l=>(K.out T l).mono (fun e S ⟨A,n,U,V,X,Z,h4,h5⟩=>⟨(A,n),U,h5,V,X,Z,fun a ha=>arq l.size (h4 a ha)⟩)
 case J1=>
  intro x F hF u;simp only[M3.cL,arh,ari,arj]
  repeat(first|go_big_quiet_step(fail)|quiet_step(fail))
  refine wpQuiet_nil ?_;rfl
 case M1=>
  intro x R l z
  try simp only[Act.put,ary,arv,arx]
  obtain⟨A,n⟩:=x;obtain⟨x1,x2,x3,x4⟩:=z;go_wp2;go_ret2;exact⟨A,n,rfl,x1,x2,x3,x4,l⟩
theorem PL{e:World}{g:Nat}{c:mz}{s:jn}{j:List dE}{w w':World}{A:Option Addr}{m:List Elem}(h:dF e g c s j w)(hS:aj aN 2 w' w'.heap.size A m)(l:∀a,A=some a->w.heap.size<=a.block):mQ aN 2 w' g s.lv A m:=
 mQ.new hS l h.lt (fun q n=>(h.row q n).2)
def ahA(l:World)(g:Nat)(c:mz)(s:jn)(n:List dE)(m:List Elem)(w w':World):Prop:=
 ∃e A j,dF l g c {s with tv:=.slice c.y.At c.y.taken.length c.y.ct,bv:=.slice A m.length j,lv:=e,left:=s.left-aQ m} (n++ag 3 m) w'/\Mv g s.lv w e w'/\mQ aN 2 w' g e A m
theorem ahB{B:World}{g:Nat}{c:mz}{s:jn}{E:List dE}{w:World}(h:dF B g c s E w)(P:c.p.In B)(hy:c.y.In B)(hd:fV c.p.ds=true)(Q:eJ c.y.taken=true)(Cp:E.length<=1000)(l0:-1000000000000<=s.left)(l1:s.left<=1000000000000)
  (m:List Elem) (n:Int) (F:m=il c.p.ds true (max s.b.c 0) (max s.left 0) c.y.taken) (r:n=eC c.p.ds (max s.b.c 0) (max s.left 0) c.y.taken):
  Calls prog 53 #[.pointer (some ⟨g,0,none⟩)] w (Lh B n (ahA B g c s E m w)):=by
 have G:=fun(u:n=0)=>Fk (before:=true) (r.symm.trans u);rw[<-F]at G;have HF:Hid (n=0->(∀x∈m,0<=x.amount/\x.amount<=1000000000000)/\m.length<=128):=fun u=>by obtain⟨_,R,_,_,b5⟩:=G u;exact⟨fun x S=>by have:=(R x S).2.1;have:=(R x S).2.2;omega,by omega⟩
 have T:=aq6 h;have U:Hid (∀W,dF B g c {s with tv:=.slice c.y.At c.y.taken.length c.y.ct} E W->Calls prog 105 #[.pointer (some ⟨g,0,none⟩),.bool true] W (Cm m n W)):=fun W V=>by have:=abJ V P true c.y.At c.y.ct c.y.taken rfl ((hy.aa V.aU).taken) hd Q;rw[F,r];exact this
 have I:w.cell? ⟨g,24,none⟩=some (.slice c.y.At c.y.taken.length c.y.ct):=h.blk.cell 24;have Nn:w.cell? ⟨g,36,none⟩=some s.tv:=h.blk.cell 36;have f36:=h.blk.frozen 36;clear h P hy hd Q G F r;go_enter func53,ntmps53;go_upto_region 2 with fail
 have C:=T.out.abK (.slice c.y.At c.y.taken.length c.y.ct);have J:=Mv.set (w:=w) (v:=s.lv) (g:=g) 36 (.slice c.y.At c.y.taken.length c.y.ct);generalize w.setCell ⟨g,36,none⟩ _=W1 at C J|-;clear I Nn f36 T;go_wp2_with fail;refine(U.out _ C).mono ?_;rintro e K ⟨A,j,rfl,hS,_,_,X,z⟩;have Y:=PL C hS X;have D:=C.aa z;have Z:=J.trans (Mv.aU z);clear C J U hS X z;by_cases u:n=0;rotate_left
 ·have ab:(n !=0)=true:=by simp[u]
  have ae:=D.aU;go_wp2;go_ret;exact⟨rfl,ae,fun e=>absurd e u⟩
 ·subst u;obtain⟨ha,hl⟩:=HF.out rfl;have Xv:K.cell? ⟨g,34,none⟩=some s.bv:=D.blk.cell 34;have f34:=D.blk.frozen 34;go_upto_region 6 with fail
  have L:=D.ahC (.slice A m.length j);have M:=Mv.set (w:=K) (v:=s.lv) (g:=g) 34 (.slice A m.length j);have l:=Y.mv M;have N:=Z.trans M;generalize K.setCell ⟨g,34,none⟩ _=W3 at L N l|-;clear D Z M Y Xv f34;go_wp2_with fail;refine(TT L 3 A j m l Cp hl (by constructor<;>(show _<=(_:Int))<;>(simp only;omega)) ha).mono ?_;rintro e w4 ⟨rfl,v4,lD,kG⟩;have lU:=N.trans kG;have O:=l.mv kG;clear L N l ha;go_wp2;go_ret;exact⟨rfl,lD.aU,fun _=>⟨v4,A,j,lD,lU,O⟩⟩
def ahD(p:World)(g:Nat)(c:mz)(s:jn)(r:List dE)(j m:List Elem)(w w':World):Prop:=
 ∃e l u n y,dF p g c {s with tv:=.slice l j.length u,av:=.slice n m.length y,lv:=e,left:=s.left-aQ m} (r++ag 8 m) w'/\Mv g s.lv w e w'/\mQ aN 2 w' g e l j/\mQ aN 2 w' g e n m
def Cq(a b:Int):Int:=if a≠0 then a else b
theorem ahE{I:World}{g:Nat}{c:mz}{s:jn}{V:List dE}{w:World}(h:dF I g c s V w)(hp:c.p.In I)(hy:c.y.In I)(B:Option Addr)(K:Nat)(r:List Elem)(PM:s.bv=.slice B r.length K)(J:mQ aN 2 w g s.lv B r)(an:r.length<=128)(nY:∀x∈r,x.code.size<=maxLen)
  (hd:fV c.p.ds=true) (hr:eJ c.y.taken=true) (Cp:V.length<=1000) (l0:-1000000000000<=s.left) (l1:s.left<=1000000000000)
  (l m:List Elem) (u z:Int) (Xx:l=kU c.y.taken r) (TU:u=ep c.y.taken r) (hm:m=il c.p.ds false (max s.b.c 0) (max s.left 0) l) (TV:z=eC c.p.ds (max s.b.c 0) (max s.left 0) l):
  Calls prog 57 #[.pointer (some ⟨g,0,none⟩)] w (Lh I (Cq u z) (ahD I g c s V l m w)):=by
 have hf:=fun(j:z=0)=>Fk (before:=false) (TV.symm.trans j);rw[<-hm]at hf;have HF:Hid (z=0->(∀x∈m,0<=x.amount/\x.amount<=1000000000000)/\m.length<=128):=fun j=>by obtain⟨_,b2,_,_,b5⟩:=hf j;exact⟨fun x E=>by have:=(b2 x E).2.1;have:=(b2 x E).2.2;omega,by omega⟩
 have HI:=aq6 h;have PN:=aq6 J;have L:Hid (∀W,Below w.heap.size w W->Calls prog 110 #[.slice c.y.At c.y.taken.length c.y.ct,.slice B r.length K] W (Cm l u W)):=fun W X=>by rw[Xx,TU];exact abt c.y.At B c.y.ct K c.y.taken r W (hy.aa (aB h.aU X)).taken (zH hr).2 (by have:=(zH hr).1;omega) (J.sl.aa X) nY (by omega)
 have HD:Hid (u=0->∀W C c1 M,dF I g c {s with tv:=.slice C l.length c1,bv:=M} V W->aj aN 2 W W.heap.size C l->Calls prog 105 #[.pointer (some ⟨g,0,none⟩),.bool false] W (Cm m z W)):=fun j W C c1 M G hS=>by
  have ab:eJ l=true:=by obtain⟨_,_,k3,k4⟩:=Xy (TU.symm.trans j);rw[Xx,k4];exact k3
  have:=abJ G hp false C c1 l rfl hS hd ab;rw[hm,TV];exact this
 have N:w.cell? ⟨g,24,none⟩=some (.slice c.y.At c.y.taken.length c.y.ct):=h.blk.cell 24;have PO:w.cell? ⟨g,34,none⟩=some (.slice B r.length K):=by have:w.cell? ⟨g,34,none⟩=some s.bv:=h.blk.cell 34;rw[this,PM]
 have O:=h.lt;clear h hp hy hd hr hf hm Xx TU TV J nY PM;go_enter func57,ntmps57;go_upto_region 1 with fail
 refine TR (aE:=?Co) [0,1,2,3,4,5,6,7,8] [10,11,12,13,14] 9 110 #[.slice c.y.At c.y.taken.length c.y.ct,.slice B r.length K] (fun x:Option Addr×Nat=>.tuple #[.slice x.1 l.length x.2,.int .i64 u]) ?TS (Lc l w.heap.size) (by kernel_rfl) (by kernel_rfl) rfl (by kernel_rfl) (by kernel_rfl) (by rfl) (by kernel_rfl) (by kernel_rfl) (by rfl) (by kernel_rfl) (by kernel_rfl) rfl rfl ?H1 ?S1 ?N1 ?R1 ?Ho ?J1 ?M1
 case H1=>
  intro F hF P;simp only[M3.cL,arh,ari,arj];have ao:=aR.dL (F:=F) (a:=⟨g,24,none⟩) (by exact O) N;have ap:=aR.dL (F:=F) (a:=⟨g,34,none⟩) (by exact O) PO
  repeat(first|go_big_quiet_step(first|fail)|quiet_step(first|fail))
  refine wpQuiet_nil ?_;rfl
 case S1=>rfl
 case N1=>exact fun _=>by first|rfl|go_simp
 case R1=>exact fun x Y w2 E X=>⟨E.1.aa X,E.2⟩
 case Ho=>exact fun W1 n=>(L.out W1 n).mono (fun e w2 ⟨A,ad,he,h1,h2,h3,h4,h5⟩=>⟨(A,ad),he,h5,h1,h2,h3,fun a Z=>arq n.size (h4 a Z)⟩)
 case J1=>
  intro x F hF P;simp only[M3.cL,arh,ari,arj]
  repeat(first|go_big_quiet_step(fail)|quiet_step(fail))
  refine wpQuiet_nil ?_;rfl
 case M1=>
  intro x Y n E
  try simp only[Act.put,ary,arv,arx]
  obtain⟨C,TW⟩:=x;obtain⟨hS,_,_,nZ⟩:=E;have J:=PL HI.out hS nZ;have G:=HI.out.aa n;have eF:=Mv.aU (g:=g) (v:=s.lv) n;clear HI L N PO hS nZ n PN;by_cases j:u=0;rotate_left
  ·have HE:Hid (Cq u z=u):=(by rw[Hid,Cq,aq9 j]);have af:(u !=0)=true:=(by simp[j]);have ae:=G.aU;go_wp2;go_ret;rw[HE.out];exact⟨rfl,ae,fun e=>absurd e j⟩
  have HE:Hid (Cq u z=z):=by rw[Hid,Cq,aq8 (by simp[j])]
  have Np:=aq6 (HD.out j);subst j;rw[HE.out];clear HD HE;have Nn:Y.cell? ⟨g,36,none⟩=some s.tv:=G.blk.cell 36;have f36:=G.blk.frozen 36;go_upto_region 5 with fail
  have Q:=G.abK (.slice C l.length TW);have D:=Mv.set (w:=Y) (v:=s.lv) (g:=g) 36 (.slice C l.length TW);have o5:=J.mv D;have jO:=eF.trans D;generalize Y.setCell ⟨g,36,none⟩ _=W5 at Q o5 jO|-;clear G D J eF Nn f36;go_wp2_with fail;refine(Np.out W5 C TW s.bv Q o5.sl).mono ?_;rintro e w6 ⟨A2,GA,rfl,cy,_,_,R,bN⟩;have S:=PL Q cy R;have T:=Q.aa bN;have Li:=Mv.aU (g:=g) (v:=s.lv) bN;have U:=o5.mv Li;have zI:=jO.trans Li;clear Q o5 jO cy R bN Li Np;by_cases j:z=0;rotate_left
  ·have af:(z !=0)=true:=(by simp[j]);have ae:=T.aU;go_wp2;go_ret;exact⟨rfl,ae,fun e=>absurd e j⟩
  ·subst j;obtain⟨Z,hl⟩:=HF.out rfl;have ai:w6.cell? ⟨g,35,none⟩=some s.av:=T.blk.cell 35;have f35:=T.blk.frozen 35;go_upto_region 9 with fail
   have Hp:=T.ahF (.slice A2 m.length GA);have D:=Mv.set (w:=w6) (v:=s.lv) (g:=g) 35 (.slice A2 m.length GA);have Xz:=U.mv D;have TX:=S.mv D;have nD:=zI.trans D;generalize w6.setCell ⟨g,35,none⟩ _=W7 at Hp Xz TX nD|-;clear T D U S zI ai f35;go_wp2_with fail;refine(TT Hp 8 A2 GA m TX Cp hl (by constructor<;>(show _<=(_:Int))<;>(simp only;omega)) Z).mono ?_;rintro e w8 ⟨rfl,v8,Nq,BS⟩;have Nr:=nD.trans BS;have al:=Xz.mv BS;have am:=TX.mv BS;clear Hp nD Xz TX Z;go_wp2;go_ret;exact⟨rfl,Nq.aU,fun _=>⟨v8,C,TW,A2,GA,Nq,Nr,al,am⟩⟩
