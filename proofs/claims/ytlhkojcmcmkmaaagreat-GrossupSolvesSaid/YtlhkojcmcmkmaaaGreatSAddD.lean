/- Conditions: as stated. -/
import Derived.Test.YtlhkojcmcmkmaaaGreatSBox
set_option maxRecDepth 100000
set_option maxHeartbeats 4000000
namespace Go.Proofs.YtlhkojcmcmkmaaaGreat
open Go.Proofs.Tryz
open Go.RowKit Go.Sort Go.Shelf Go.Maps
structure DY(K:List UInt8->Bool)(T:List UInt8->Int)(left:Lit->Bool)(ys:List Elem):Prop where
 sound:∀x∈ys,K x.code.data.toList=true/\x.amount=T x.code.data.toList/\x.amount≠0/\left (key x.code)=false
 full:∀c,K c=true->left (.string c)=false->T c≠0->∃x∈ys,x.code.data.toList=c
 nodup:ys.Pairwise (fun a b=>a.code≠b.code)
theorem DY.start{D:DataW Unit}{K:List UInt8->Bool}{T:List UInt8->Int}(h:DZ D K T):DY K T (Maps.has D) []:=
 ⟨by simp,(fun c j e=>by rw[h.has c,j]at e;cases e),List.Pairwise.nil⟩
theorem DY.step{K:List UInt8->Bool}{T:List UInt8->Int}{left:Lit->Bool}{n:List Elem}(h:DY K T left n){s:ByteArray}{c:Int}(F:left (key s)=true)(G:K s.data.toList=true)(B:T s.data.toList=c):
  (c≠0->DY K T (fun z=>left z&&!z.sameKey (key s)) (n++[⟨s,c⟩]))/\(c=0->DY K T (fun z=>left z&&!z.sameKey (key s)) n):=by
 have I:(key s).sameKey (key s)=true:=WideAt.sameKey_self trivial;have C:∀x∈n,K x.code.data.toList=true/\x.amount=T x.code.data.toList/\x.amount≠0/\(left (key x.code)&&!(key x.code).sameKey (key s))=false:=by intro x p;obtain⟨h1,J,L,M⟩:=h.sound x p;exact⟨h1,J,L,by simp[M]⟩
 have D:∀d,K d=true->(left (.string d)&&!(Lit.string d).sameKey (key s))=false->T d≠0->d≠s.data.toList->∃x∈n,x.code.data.toList=d:=by intro d hd j l e;have r:(Lit.string d).sameKey (key s)=false:=sameKey_ne (fun N=>e (by simpa[key]using N));rw[r]at j;simp at j;exact h.full d hd j l
 refine⟨fun u=>⟨fun x p=>?_,fun d hd j l=>?_,?_⟩,fun u=>⟨C,fun d hd j l=>?_,h.nodup⟩⟩
 ·rcases asf.1 p with h1|h1
  ·exact C x h1
  ·simp at h1;subst h1;exact⟨G,B.symm,u,by show(left (key s)&&!(key s).sameKey (key s))=false;rw[I];simp⟩
 ·by_cases e:d=s.data.toList
  ·exact⟨⟨s,c⟩,by simp,e.symm⟩
  ·obtain⟨x,p,O⟩:=D d hd j l e;exact⟨x,by simp[p],O⟩
 ·rw[List.pairwise_append];refine⟨h.nodup,List.pairwise_singleton _ _,fun a y b E=>?_⟩;simp at E;subst E;intro e;have:=(h.sound a y).2.2.2;rw[show key a.code=key s by rw[e],F]at this;cases this
 ·by_cases e:d=s.data.toList
  ·subst e;rw[B]at l;exact absurd u l
  ·exact D d hd j l e
theorem DY.mem{K:List UInt8->Bool}{T:List UInt8->Int}{left:Lit->Bool}{l:List Elem}(h:DY K T left l)(r:∀z,left z=false)(x:Elem):x∈l↔(K x.code.data.toList=true/\x.amount=T x.code.data.toList/\x.amount≠0):=by
 refine⟨fun e=>⟨(h.sound x e).1,(h.sound x e).2.1,(h.sound x e).2.2.1⟩,fun⟨u,j,B⟩=>?_⟩;obtain⟨y,hy,C⟩:=h.full _ u (r _) (by rw[<-j];exact B);have D:y=x:=by obtain⟨_,n,_⟩:=h.sound y hy;have p:y.code=x.code:=key_inj (by simp[key,C]);obtain⟨a,b⟩:=y;obtain⟨c,d⟩:=x;simp only at p n j;subst p;rw[n,j]
 rw[<-D];exact hy
theorem abL(A B:Option Addr)(am XP:Nat)(p l:List Elem)(w:World)(h:aj aQ 2 w w.heap.size A p)(hz:∀x∈p,x.code.size<=maxLen)(hl:p.length<=9223372036854775806)
  (hy:aj aQ 2 w w.heap.size B l) (FV:∀x∈l,x.code.size<=maxLen) (pX:l.length<=9223372036854775806):
  Calls prog 110 #[.slice A p.length am,.slice B l.length XP] w (CT (lj p l) (eA p l) w):=by
 have HZ:=arH hz;clear hz;have JN:=arH FV;clear FV;have Az:∀(n:Int) (W:World),n≠0->eA p l=n->Below w.heap.size w W->CT (lj p l) (eA p l) w (Ending.returned (.tuple #[.slice none 0 0,.int .i64 n])) W:=
  fun n W hn he hb=>CT.fail (abM (by rw[he];exact hn)) he hb
 have J:=arH Az;clear Az;have D2:=@run_makeMap prog;go_enter func110,ntmps110;go_wp2_with fail;refine(Ud A am p _ h HZ.out (by omega)).mono ?_;rintro e w1 ⟨rfl,af⟩;by_cases hr:eP p=true;rotate_left
 ·have JO:eP p=false:=by simpa using hr
  clear hr;go_wp2;go_ret2;exact J.out 1 _ (by omega) (Ue (.inl JO)) af
 have FW:p.length<=128:=(pZ.1 hr).1;have P2:=arH (pZ.1 hr).2.1;have XQ:=arH (pZ.1 hr).2.2;go_wp2_with fail
 go_loopw [22] (fun i wr=>∃k:Nat,k<=l.length/\i=.int .i64 k/\Hid (∀j,(hj:j<l.length)->j<k->nW l[j]=true)/\Below w.heap.size w wr) (fun i _=>l.length-(intOf i).toNat)
 case atStart=>exact⟨0,by omega,rfl,fun j _ hj=>absurd hj (by omega),af⟩
 case round=>
  obtain⟨k,hk,rfl,U,ae⟩:=hrel;have bA:=ae.size;by_cases r:k<l.length
  ·obtain⟨b,an,rfl,hb,S⟩:=(hy.below ae).at_ r;have c0:=S 0 _ rfl;have c1:=S 1 _ rfl;simp only[arL]at c0;clear S;have fB:=JN.out _ (arO r);have HN:Hid (nW l[k]=false->eA p l=1):=fun Y=>Ue (.inr (by
    rw[List.all_eq_false];exact⟨l[k],arO _,by simp[Y]⟩))
   by_cases hn:bK l[k].code=true;rotate_left
   ·have nv:bK l[k].code=false:=(by simpa using hn);clear hn;go_wp2_with(go_at_call 82;refine(Cq _ _ fB).mono ?_;rintro e w' ⟨rfl,rfl⟩);go_ret2;exact J.out 1 _ (by omega) (HN.out (by simp[nW,nv])) (ae.alloc bA _)
   by_cases C:0<=l[k].amount;rotate_left
   ·go_wp2_with(go_at_call 82;refine(Cq _ _ fB).mono ?_;rintro e w' ⟨rfl,rfl⟩);go_ret2;exact J.out 1 _ (by omega) (HN.out (by simp[nW,bJ];intros;omega)) (ae.alloc bA _)
   by_cases h2:l[k].amount<=1000000000;rotate_left
   ·go_wp2_with(go_at_call 82;refine(Cq _ _ fB).mono ?_;rintro e w' ⟨rfl,rfl⟩);go_ret2;exact J.out 1 _ (by omega) (HN.out (by simp[nW,bJ];intros;omega)) (ae.alloc bA _)
   go_wp2_with(go_at_call 82;refine(Cq _ _ fB).mono ?_;rintro e w' ⟨rfl,rfl⟩);go_roundw
   case rel=>
    refine⟨k+1,by omega,by go_num,fun j hj a4=>?_,ae.alloc bA _⟩;rcases arY j k with h3|h3
    ·exact U.out j hj h3
    ·obtain rfl:j=k:=by omega
     exact(Uf _).2 ⟨hn,C,h2⟩
   case measure=>simp[intOf];omega
  ·have GY:l.all nW=true:=by
    rw[List.all_eq_true];intro x hx;obtain⟨j,hj,rfl⟩:=aso.1 hx;exact U.out j hj (by omega)
   have LD:=arH GY;have JP:Hid (∀x∈l,0<=x.amount/\x.amount<=1000000000):=fun x hx=>((Uf x).1 (List.all_eq_true.1 GY x hx)).2;clear GY;by_cases NM:128<l.length
   ·go_wp2;go_ret2;exact J.out 3 _ (by omega) (Ug hr LD.out (.inl NM)) ae
   have a5:l.length<=128:=(by omega);obtain⟨M,rfl⟩:∃M:World,M=wr:=⟨_,rfl⟩
   go_wp2_with fail;clear U hk r pX hl af;have P3:(M.alloc (.map #[] 0)).ownsMap prog 9 (plainElem (H:=Unit) prog 3) M.heap.size 0 (.map []):=World.ownsMap_made _ _ _ _;have P4:Below w.heap.size w (M.alloc (.map #[] 0)):=ae.alloc bA _
   go_loopw [47] (fun i wr=>∃(k:Nat) (D:DataW Unit),k<=p.length/\i=.int .i64 k/\wr.ownsMap prog 9 (plainElem (H:=Unit) prog 3) M.heap.size k D/\DZ D (fN (p.take k)) (cE (p.take k))/\Below w.heap.size w wr) (fun i _=>p.length-(intOf i).toNat)
   case atStart=>exact⟨0,.map [],by omega,rfl,P3,DZ.empty,P4⟩
   case round=>
    clear P3 P4;obtain⟨k,D,hk,rfl,u,R,T⟩:=hrel;have GZ:=T.size;by_cases r:k<p.length
    ·obtain⟨b,an,rfl,hb,S⟩:=(h.below T).at_ r;have c0:=S 0 _ rfl;have c1:=S 1 _ rfl;simp only[arL]at c0;clear S;have fB:=HZ.out _ (arO r);have G:keyOf prog 9 (.string p[k].code)=some (key p[k].code):=WideMaps.keyOf_string_mk underlying9 fB;have K:=u.kept (World.grownBy_alloc wr (Obj.cells #[Value.string p[k].code,Value.int IntKind.i64 p[k].amount] 69) none) (by simp);have LF:=abN (p.take k) p[k].code.data.toList 1000000000000 (by omega) (fun x hx=>(P2.out x (ar6 hx)).2);have P5:(p.take k).length<=128:=(by simp;omega);obtain⟨_,aN,aO⟩:=P2.out _ (arO r);have JQ:=R.at_ p[k].code.data.toList;have D3:0<=cE (p.take k) p[k].code.data.toList:=LF.1;have CU:cE (p.take k) p[k].code.data.toList<=128000000000000:=(by omega);have Cr:=R.XR (K':=fN (p.take (k+1))) (T':=cE (p.take (k+1))) p[k].code (cE (p.take k) p[k].code.data.toList+p[k].amount) (XS p k r) (fun c=>by
      rw[XT p k r];split
      ·rename_i e;rw[<-e]
      ·omega)
     have G0:=arH Cr;have AA:=arH JQ;generalize cE (p.take k) p[k].code.data.toList=t0 at D3 CU G0 AA;clear LF P5 JQ R Cr;go_wp2_with(first
      |(at_lookup;refine wpList_lookup_own_int _ (by rfl) _ _ 181 (by rfl) 9 3 .i64 G2 underlying181 underlying3 (XU _) M.heap.size k D (by rfl) K _ _ (by rfl) G ?_;intro c P aS;obtain rfl:c=t0:=(by have C:=AA.out;rw[show Lit.string p[k].code.data.toList=key p[k].code from rfl,P]at C;injection C with C;injection C))
      |(at_mapUpdate;refine wpList_mapUpdate_own _ (by rfl) _ _ _ 181 (by rfl) 9 3 G2 underlying181 _ M.heap.size k D (by rfl) K (by unfold maxLen;omega) _ _ _ (by rfl) (by rfl) G _ [] (plainElem_int underlying3 (XV (by omega) (by omega))) ?_;intro w1 Q P6))
     go_roundw
     case rel=>exact⟨k+1,_,by omega,by go_num,Q,G0.out,(T.alloc GZ _).grown P6 (by simp;omega) (fun g e=>by injection e;omega)⟩
     case measure=>simp[intOf];omega
    ·obtain rfl:k=p.length:=by omega
     have Z:decide ((p.length:Int)<(p.length:Int))=false:=(by simp);have aT:decide (p.length<p.length)=false:=(by simp);rw[asp]at R;obtain⟨E,rfl⟩:∃E:World,E=wr:=⟨_,rfl⟩
     go_wp2_with fail;clear hk r
     go_loopw [61] (fun i wr=>∃(k:Nat) (D:DataW Unit),k<=l.length/\i=.int .i64 k/\wr.ownsMap prog 9 (plainElem (H:=Unit) prog 3) M.heap.size (p.length+k) D/\DZ D (fN (p++l.take k)) (cE (p++l.take k))/\Below w.heap.size w wr) (fun i _=>l.length-(intOf i).toNat)
     case atStart=>exact⟨0,D,by omega,rfl,u,by simpa using R,T⟩
     case round=>
      clear u R T GZ;obtain⟨k,D,hk,rfl,u,R,T⟩:=hrel;have GZ:=T.size;by_cases r:k<l.length
      ·obtain⟨b,an,rfl,hb,S⟩:=(hy.below T).at_ r;have c0:=S 0 _ rfl;have c1:=S 1 _ rfl;simp only[arL]at c0;clear S;have fB:=JN.out _ (arO r);have G:keyOf prog 9 (.string l[k].code)=some (key l[k].code):=WideMaps.keyOf_string_mk underlying9 fB;have K:=u.kept (World.grownBy_alloc wr (Obj.cells #[Value.string l[k].code,Value.int IntKind.i64 l[k].amount] 69) none) (by simp);have LF:=abN (p++l.take k) l[k].code.data.toList 1000000000000 (by omega) (fun x hx=>by
        rcases asf.1 hx with hx|hx
        ·exact(P2.out x hx).2
        ·have:=JP.out x (ar6 hx);omega)
       have P5:(p++l.take k).length<=256:=(by simp;omega);obtain⟨aN,aO⟩:=JP.out _ (arO r);have JQ:=R.at_ l[k].code.data.toList;have D3:0<=cE (p++l.take k) l[k].code.data.toList:=LF.1;have CU:cE (p++l.take k) l[k].code.data.toList<=256000000000000:=(by omega);have Cr:=R.XR (K':=fN (p++l.take (k+1))) (T':=cE (p++l.take (k+1))) l[k].code (cE (p++l.take k) l[k].code.data.toList+l[k].amount) (fun c=>by rw[Uh,Uh,XS l k r,Bool.or_assoc]) (fun c=>by
        rw[NN,NN,NN,XT l k r];split
        ·rename_i e;rw[<-e];omega
        ·omega)
       have G0:=arH Cr;have AA:=arH JQ;generalize cE (p++l.take k) l[k].code.data.toList=t0 at D3 CU G0 AA;clear LF P5 JQ R Cr;go_wp2_with(first
        |(at_lookup;refine wpList_lookup_own_int _ (by rfl) _ _ 181 (by rfl) 9 3 .i64 G2 underlying181 underlying3 (XU _) M.heap.size (p.length+k) D (by rfl) K _ _ (by rfl) G ?_;intro c P aS;obtain rfl:c=t0:=(by have C:=AA.out;rw[show Lit.string l[k].code.data.toList=key l[k].code from rfl,P]at C;injection C with C;injection C))
        |(at_mapUpdate;refine wpList_mapUpdate_own _ (by rfl) _ _ _ 181 (by rfl) 9 3 G2 underlying181 _ M.heap.size (p.length+k) D (by rfl) K (by unfold maxLen;omega) _ _ _ (by rfl) (by rfl) G _ [] (plainElem_int underlying3 (XV (by omega) (by omega))) ?_;intro w1 Q P6))
       go_roundw
       case rel=>exact⟨k+1,_,by omega,by go_num,Q,G0.out,(T.alloc GZ _).grown P6 (by simp;omega) (fun g e=>by injection e;omega)⟩
       case measure=>simp[intOf];omega
      ·obtain rfl:k=l.length:=by omega
       have Z:decide ((l.length:Int)<(l.length:Int))=false:=(by simp);have aT:decide (l.length<l.length)=false:=(by simp);rw[asp]at R;obtain⟨E,rfl⟩:∃E:World,E=wr:=⟨_,rfl⟩
       clear hk r;have a6:M.heap.size<E.heap.size:=by obtain⟨es,ai,hb,_⟩:=u;exact(as1.1 hb).1
       have V:Maps.size D<=p.length+l.length:=by obtain⟨es,ai,_,_,nv,rfl⟩:=u;rw[Maps.size_eq,abQ];simpa using nv
       go_wp2_with(at_range;refine wpList_range_own _ (by rfl) _ 181 (by rfl) 9 3 G2 underlying181 (plainElem (H:=Unit) prog 3) M.heap.size (p.length+l.length) D (by rfl) u ?_;intro w0 ad Z aU)
       go_frame
       go_loopw [13,14] (fun v o wr=>∃left I zs,wr.ranges prog 9 (plainElem (H:=Unit) prog 3) M.heap.size E.heap.size (p.length+l.length) D left I/\Own aQ 2 69 wr (E.heap.size+1) v zs/\o=.bool (mP zs)/\DY (fN (p++l)) (cE (p++l)) left zs/\zs.length+I<=p.length+l.length/\Below E.heap.size E wr) (fun _ _ wr=>wr.rangeLeft M.heap.size E.heap.size)
       case atStart=>exact⟨_,_,[],ad,Own.cL _ _,rfl,DY.start R,by simpa using V,gU Z (arI _) (by simp)⟩
       case round=>
        have ao:=arH R;clear u R V GZ ad Z aU;obtain⟨left,I,zs,X,N,rfl,Cs,a2,Ui⟩:=hrel;have bA:=Ui.size;have ky:=X.lt;go_wp2_with(at_next;refine wpList_next_ranges _ (by rfl) _ (by rfl) 9 G2 (plainElem (H:=Unit) prog 3) Value.string (Value.int .i64) (fun key kl hk=>by obtain⟨x,hx,_⟩:=Maps.keyOf_str underlying9 hk;exact⟨_,hx⟩) (fun v y hv=>by obtain⟨c,S,_⟩:=plainElem_int_inv underlying3 hv;exact⟨c,S⟩) M.heap.size E.heap.size (p.length+l.length) _ _ _ (by rfl) X ?_ ?_)
        ·intro O ap;have jM:=Cs.mem ap;have P7:zs.Perm (mn p l):=abR Cs.nodup (abS (XW l XQ.out)) (fun x=>by rw[jM,abT XQ.out]);have au:mP (mn p l)=mP zs:=by
          rw[Bool.eq_iff_iff,mP,mP,asx,asx];exact⟨fun⟨x,C,h2⟩=>⟨x,P7.mem_iff.2 C,h2⟩,fun⟨x,C,h2⟩=>⟨x,P7.mem_iff.1 C,h2⟩⟩
         have av:=P7.length_eq;have aV:=arH Cs.nodup;have HP:=arH P7;have ay:=arH au;have AB:=arH av;have az:=aB T Ui;clear jM P7 au av Cs O ap;by_cases P8:128<zs.length
         ·have jC:=arH (Ug (b:=l) hr LD.out (.inr (by have:=AB.out;omega)));obtain⟨A5,c5,rfl,cZ,eJ,oW,oX⟩:=N.kM dB;go_wp2;go_ret2;exact J.out 3 _ (by omega) jC.out az
         ·have a7:zs.length<=128:=(by omega);have jC:=arH (abY (a:=p) (b:=l) hr LD.out (by omega) (by have:=AB.out;omega));clear P8;rcases je:mP zs with _|_;rotate_left
          ·have Ct:=arH je;clear je;obtain⟨A5,c5,rfl,cZ,eJ,oW,oX⟩:=N.kM dB;go_wp2;go_ret2;exact J.out 4 _ (by omega) (by rw[jC.out,ay.out,Ct.out];rfl) az
          ·have ES:Hid (eA p l=0):=(by rw[Hid,jC.out,ay.out,je];rfl);clear je;obtain⟨A5,c5,rfl,cZ,eJ,oW,oX⟩:=N.kM dB;go_wp2_with fail;refine(abZ A5 c5 (E.heap.size+1) zs _ N (by omega)).mono ?_;rintro e w6 ⟨rfl,us,hp,oD,P9,bL⟩;have FX:=hp.length_eq;have aA:us=mn p l:=Uj (XX oD (aV.out.perm hp.symm (fun h e=>h e.symm))) (XW l XQ.out) (fun x=>by rw[hp.mem_iff,HP.out.mem_iff]);have aZ:=arH aA;have Qa:=arH FX;clear FX aA hp oD;go_wp2;go_ret2;rw[ES.out,ab0 ES.out,<-aZ.out];exact⟨A5,c5,by rw[Qa.out];rfl,P9,by have:=Qa.out;omega,oX,(fun a ha=>by have:=eJ a ha;have:=T.size;omega),aB T (Ui.trans (bL.mono (by omega)))⟩
        ·intro s c kl yd yp w2 a3 G a0 hv P L r aE a1 a8;obtain⟨x',Ip,rfl,a9⟩:=Maps.keyOf_str underlying9 G;have XY:x'=s.data.toList:=by
          have C:s=⟨x'.toArray⟩:=(by simpa[encStr]using Ip);rw[C]
         subst XY;have Qb:yd=Qc c:=by
          obtain⟨c',C,h2,_⟩:=plainElem_int_inv underlying3 hv;injection C with _ C
          subst C;injection h2
         have Uk:fN (p++l) s.data.toList=true:=(by rw[<-ao.out.has];exact has_true_of_atKey P);have Iq:cE (p++l) s.data.toList=c:=by
          have C:=ao.out.at_ s.data.toList;rw[P,Qb]at C;injection C with C
          injection C with _ C
          exact C.symm
         have XZ:left (key s)=true:=a0;have F:=N.kept aE (by intro g e;injection e;omega);have bB:Below E.heap.size E w2:=kN Ui aE (by intro g e;injection e;omega);have X0:=bB.size;have ba:=L.lt;have aJ:=arH (Cs.step XZ Uk Iq);clear a1 P G Ip hv Qb Iq Cs;by_cases O:c=0
         ·have oF:(c==0)=true:=(by simp[O]);have JR:=aJ.out.2 O;clear O;go_wp2_with fail;go_roundw
          case rel=>
           have Y:∃left I z,w2.ranges prog 9 (plainElem (H:=Unit) prog 3) M.heap.size E.heap.size (p.length+l.length) D left I/\Own aQ 2 69 w2 (E.heap.size+1) u13 z/\Value.bool (mP zs)=.bool (mP z)/\DY (fN (p++l)) (cE (p++l)) left z/\z.length+I<=p.length+l.length/\Below E.heap.size E w2:=⟨_,_,zs,L,F,rfl,JR,by omega,bB⟩
           first|exact Y|((repeat apply Exists.intro);exact⟨Y,rfl⟩)
          case measure=>rw[L.left_eq,X.left_eq];omega
         ·have oF:(c==0)=false:=(by simp[O]);have JR:=aJ.out.1 O;have ab:some M.heap.size≠u13.ownBlock:=fun e=>by have:=(F.cm e.symm).1;omega
          have Ir:some E.heap.size≠u13.ownBlock:=fun e=>by have:=(F.cm e.symm).1;omega
          have aK:=fun g hg=>(F.cm (g:=g) hg).1;have D4:=arH (ahL zs ⟨s,c⟩);clear O;by_cases al:1000000000000<c
          ·have bS:decide (1000000000000<c)=true:=(by simp[al]);have HB:Hid (mP (zs++[⟨s,c⟩])=true):=(by rw[Hid,D4.out];simp[big,al]);rcases oG:mP zs with _|_
           all_goals
            go_wp2_with(at_builtin;(refine mQ _ _ 51 ⟨s,c⟩ _ 24 _ ll underlying51 F dB (by omega) rfl (kO _) (by omega) (by omega) (by omega) (by rfl) (by rfl) (by rfl) (by rfl) (by simp) (by rfl) ?_);intro v2 w6 dc ik);go_roundw
            case rel=>
             have Y:∃left I z,w6.ranges prog 9 (plainElem (H:=Unit) prog 3) M.heap.size E.heap.size (p.length+l.length) D left I/\Own aQ 2 69 w6 (E.heap.size+1) v2 z/\Value.bool true=.bool (mP z)/\DY (fN (p++l)) (cE (p++l)) left z/\z.length+I<=p.length+l.length/\Below E.heap.size E w6:=⟨_,_,_,L.kept ik ab Ir,dc,by rw[HB.out],JR,by simp;omega,kN bB ik (fun g hg=>by have:=aK g hg;omega)⟩
             first|exact Y|((repeat apply Exists.intro);exact⟨Y,rfl⟩)
            case measure=>rw[(L.kept ik ab Ir).left_eq,X.left_eq];omega
          ·have HB:Hid (mP (zs++[⟨s,c⟩])=mP zs):=(by rw[Hid,D4.out];simp[big,al]);rcases oG:mP zs with _|_
           all_goals
            rw[oG]at HB;clear oG;go_wp2_with(at_builtin;(refine mQ _ _ 51 ⟨s,c⟩ _ 24 _ ll underlying51 F dB (by omega) rfl (kO _) (by omega) (by omega) (by omega) (by rfl) (by rfl) (by rfl) (by rfl) (by simp) (by rfl) ?_);intro v2 w6 dc ik);go_roundw
            case rel=>
             have Y:∃left I z,w6.ranges prog 9 (plainElem (H:=Unit) prog 3) M.heap.size E.heap.size (p.length+l.length) D left I/\Own aQ 2 69 w6 (E.heap.size+1) v2 z/\Value.bool _=.bool (mP z)/\DY (fN (p++l)) (cE (p++l)) left z/\z.length+I<=p.length+l.length/\Below E.heap.size E w6:=⟨_,_,_,L.kept ik ab Ir,dc,by rw[HB.out],JR,by simp;omega,kN bB ik (fun g hg=>by have:=aK g hg;omega)⟩
             first|exact Y|((repeat apply Exists.intro);exact⟨Y,rfl⟩)
            case measure=>rw[(L.kept ik ab Ir).left_eq,X.left_eq];omega
open Go.RowKit Go.Sort Go.Shelf
def LG(m:List Elem)(B:Nat)(x:Option Addr×Nat)(w:World):Prop:=aj aQ 2 w w.heap.size x.1 m/\m.length<=x.2/\x.2<=maxLen/\∀a,x.1=some a->B<=a.block
theorem ab1{D:World}{g:Nat}{c:mR}{s:jD}{J:List dH}{w:World}(h:dI D g c s J w)(E:c.p.In D)(before:Bool)(Y:Option Addr)(r:Nat)(tk:List Elem)(G:s.tv=.slice Y tk.length r)(I:aj aQ 2 w w.heap.size Y tk)(hd:gl c.p.ds=true)(B:eP tk=true):
  Calls prog 105 #[.pointer (some ⟨g,0,none⟩),.bool before] w (CT (iI c.p.ds before (max s.b.c 0) (max s.left 0) tk) (eK c.p.ds (max s.b.c 0) (max s.left 0) tk) w):=by
 have K:Hid (∀W,Below w.heap.size w W->Calls prog 160 #[.slice c.p.Ad c.p.ds.length c.p.cd,.bool before,.int .i64 (max s.b.c 0),.int .i64 (max s.left 0),.slice Y tk.length r] W (CT (iI c.p.ds before (max s.b.c 0) (max s.left 0) tk) (eK c.p.ds (max s.b.c 0) (max s.left 0) tk) W)):=fun W y=>
  ahM c.p.Ad Y c.p.cd r c.p.ds tk before (max s.b.c 0) (max s.left 0) W ((E.aa (aB h.aW y)).ds) (LH hd).2 (by have:=(LH hd).1;omega) (I.aa y) (AD B).2 (by have:=(AD B).1;omega)
 have C:w.cell? ⟨g,17,none⟩=some (.slice c.p.Ad c.p.ds.length c.p.cd):=h.blk.cell 17;have L:w.cell? ⟨g,28,none⟩=some (.int .i64 s.b.c):=h.blk.cell 28;have M:w.cell? ⟨g,33,none⟩=some (.int .i64 s.left):=h.blk.cell 33;have N:w.cell? ⟨g,36,none⟩=some (.slice Y tk.length r):=by have:w.cell? ⟨g,36,none⟩=some s.tv:=h.blk.cell 36;rw[this,G]
 have j:=h.lt;clear h E I hd B G;generalize iI c.p.ds before (max s.b.c 0) (max s.left 0) tk=m at*;generalize eK c.p.ds (max s.b.c 0) (max s.left 0) tk=O at*;go_enter func105,ntmps105;go_upto_region 1 with fail
 refine NP (aE:=?CV) [0,1,2,3,4,5,6,7,8,9,10,11,12,13,14,15,16,17,18,19,20] [22,23,24,25] 21 160 #[.slice c.p.Ad c.p.ds.length c.p.cd,.bool before,.int .i64 (max s.b.c 0),.int .i64 (max s.left 0),.slice Y tk.length r] (fun x:Option Addr×Nat=>.tuple #[.slice x.1 m.length x.2,.int .i64 O]) ?Um (LG m w.heap.size) (by kernel_rfl) (by kernel_rfl) rfl (by kernel_rfl) (by kernel_rfl) (by rfl) (by kernel_rfl) (by kernel_rfl) (by rfl) (by kernel_rfl) (by kernel_rfl) rfl rfl ?H1 ?S1 ?N1 ?R1 ?Iu ?J1 ?M1
 case H1=>
  intro F hF u;simp only[M3.cD,arQ,arR,arS];have P:=aP.dM (F:=F) (a:=⟨g,17,none⟩) (by exact j) C;have X1:=aP.dM (F:=F) (a:=⟨g,28,none⟩) (by exact j) L;have LK:=aP.dM (F:=F) (a:=⟨g,33,none⟩) (by exact j) M;have Q:=aP.dM (F:=F) (a:=⟨g,36,none⟩) (by exact j) N
  repeat(first|go_big_quiet_step(first|fail)|quiet_step(first|fail))
  refine wpQuiet_nil ?_;rfl
 case S1=>rfl
 case N1=>exact fun _=>by first|rfl|go_simp
 case R1=>exact fun x R S z y=>⟨z.1.aa y,z.2⟩
 case Iu=>exact fun T l=>(K.out T l).mono (fun e S ⟨A,n,U,V,X,Z,h4,h5⟩=>⟨(A,n),U,h5,V,X,Z,fun a ha=>ar0 l.size (h4 a ha)⟩)
 case J1=>
  intro x F hF u;simp only[M3.cD,arQ,arR,arS]
  repeat(first|go_big_quiet_step(fail)|quiet_step(fail))
  refine wpQuiet_nil ?_;rfl
 case M1=>
  intro x R l z
  try simp only[Act.put,ar4,ar2,ar3]
  obtain⟨A,n⟩:=x;obtain⟨x1,x2,x3,x4⟩:=z;go_wp2;go_ret2;exact⟨A,n,rfl,x1,x2,x3,x4,l⟩
theorem Qd{e:World}{g:Nat}{c:mR}{s:jD}{j:List dH}{w w':World}{A:Option Addr}{m:List Elem}(h:dI e g c s j w)(hS:aj aQ 2 w' w'.heap.size A m)(l:∀a,A=some a->w.heap.size<=a.block):nw aQ 2 w' g s.lv A m:=
 nw.new hS l h.lt (fun q n=>(h.row q n).2)
def ahO(l:World)(g:Nat)(c:mR)(s:jD)(n:List dH)(m:List Elem)(w w':World):Prop:=
 ∃e A j,dI l g c {s with tv:=.slice c.y.At c.y.taken.length c.y.ct,bv:=.slice A m.length j,lv:=e,left:=s.left-aR m} (n++ag 3 m) w'/\Mv g s.lv w e w'/\nw aQ 2 w' g e A m
theorem ahP{B:World}{g:Nat}{c:mR}{s:jD}{E:List dH}{w:World}(h:dI B g c s E w)(P:c.p.In B)(hy:c.y.In B)(hd:gl c.p.ds=true)(Q:eP c.y.taken=true)(CW:E.length<=1000)(l0:-1000000000000<=s.left)(l1:s.left<=1000000000000)
  (m:List Elem) (n:Int) (F:m=iI c.p.ds true (max s.b.c 0) (max s.left 0) c.y.taken) (r:n=eK c.p.ds (max s.b.c 0) (max s.left 0) c.y.taken):
  Calls prog 53 #[.pointer (some ⟨g,0,none⟩)] w (LL B n (ahO B g c s E m w)):=by
 have G:=fun(u:n=0)=>FY (before:=true) (r.symm.trans u);rw[<-F]at G;have HF:Hid (n=0->(∀x∈m,0<=x.amount/\x.amount<=1000000000000)/\m.length<=128):=fun u=>by obtain⟨_,R,_,_,b5⟩:=G u;exact⟨fun x S=>by have:=(R x S).2.1;have:=(R x S).2.2;omega,by omega⟩
 have T:=arH h;have U:Hid (∀W,dI B g c {s with tv:=.slice c.y.At c.y.taken.length c.y.ct} E W->Calls prog 105 #[.pointer (some ⟨g,0,none⟩),.bool true] W (CT m n W)):=fun W V=>by have:=ab1 V P true c.y.At c.y.ct c.y.taken rfl ((hy.aa V.aW).taken) hd Q;rw[F,r];exact this
 have I:w.cell? ⟨g,24,none⟩=some (.slice c.y.At c.y.taken.length c.y.ct):=h.blk.cell 24;have NQ:w.cell? ⟨g,36,none⟩=some s.tv:=h.blk.cell 36;have f36:=h.blk.frozen 36;clear h P hy hd Q G F r;go_enter func53,ntmps53;go_upto_region 2 with fail
 have C:=T.out.ab2 (.slice c.y.At c.y.taken.length c.y.ct);have J:=Mv.set (w:=w) (v:=s.lv) (g:=g) 36 (.slice c.y.At c.y.taken.length c.y.ct);generalize w.setCell ⟨g,36,none⟩ _=W1 at C J|-;clear I NQ f36 T;go_wp2_with fail;refine(U.out _ C).mono ?_;rintro e K ⟨A,j,rfl,hS,_,_,X,z⟩;have Y:=Qd C hS X;have D:=C.aa z;have Z:=J.trans (Mv.aW z);clear C J U hS X z;by_cases u:n=0;rotate_left
 ·have ab:(n !=0)=true:=by simp[u]
  have ae:=D.aW;go_wp2;go_ret;exact⟨rfl,ae,fun e=>absurd e u⟩
 ·subst u;obtain⟨ha,hl⟩:=HF.out rfl;have X2:K.cell? ⟨g,34,none⟩=some s.bv:=D.blk.cell 34;have f34:=D.blk.frozen 34;go_upto_region 6 with fail
  have L:=D.ahQ (.slice A m.length j);have M:=Mv.set (w:=K) (v:=s.lv) (g:=g) 34 (.slice A m.length j);have l:=Y.mv M;have N:=Z.trans M;generalize K.setCell ⟨g,34,none⟩ _=W3 at L N l|-;clear D Z M Y X2 f34;go_wp2_with fail;refine(Un L 3 A j m l CW hl (by constructor<;>(show _<=(_:Int))<;>(simp only;omega)) ha).mono ?_;rintro e w4 ⟨rfl,v4,gV,kP⟩;have mq:=N.trans kP;have O:=l.mv kP;clear L N l ha;go_wp2;go_ret;exact⟨rfl,gV.aW,fun _=>⟨v4,A,j,gV,mq,O⟩⟩
def ahR(p:World)(g:Nat)(c:mR)(s:jD)(r:List dH)(j m:List Elem)(w w':World):Prop:=
 ∃e l u n y,dI p g c {s with tv:=.slice l j.length u,av:=.slice n m.length y,lv:=e,left:=s.left-aR m} (r++ag 8 m) w'/\Mv g s.lv w e w'/\nw aQ 2 w' g e l j/\nw aQ 2 w' g e n m
def CX(a b:Int):Int:=if a≠0 then a else b
theorem ahS{I:World}{g:Nat}{c:mR}{s:jD}{V:List dH}{w:World}(h:dI I g c s V w)(hp:c.p.In I)(hy:c.y.In I)(B:Option Addr)(K:Nat)(r:List Elem)(Qe:s.bv=.slice B r.length K)(J:nw aQ 2 w g s.lv B r)(an:r.length<=128)(oG:∀x∈r,x.code.size<=maxLen)
  (hd:gl c.p.ds=true) (hr:eP c.y.taken=true) (CW:V.length<=1000) (l0:-1000000000000<=s.left) (l1:s.left<=1000000000000)
  (l m:List Elem) (u z:Int) (X4:l=lj c.y.taken r) (Uo:u=eA c.y.taken r) (hm:m=iI c.p.ds false (max s.b.c 0) (max s.left 0) l) (Up:z=eK c.p.ds (max s.b.c 0) (max s.left 0) l):
  Calls prog 57 #[.pointer (some ⟨g,0,none⟩)] w (LL I (CX u z) (ahR I g c s V l m w)):=by
 have hf:=fun(j:z=0)=>FY (before:=false) (Up.symm.trans j);rw[<-hm]at hf;have HF:Hid (z=0->(∀x∈m,0<=x.amount/\x.amount<=1000000000000)/\m.length<=128):=fun j=>by obtain⟨_,b2,_,_,b5⟩:=hf j;exact⟨fun x E=>by have:=(b2 x E).2.1;have:=(b2 x E).2.2;omega,by omega⟩
 have HI:=arH h;have Qf:=arH J;have L:Hid (∀W,Below w.heap.size w W->Calls prog 110 #[.slice c.y.At c.y.taken.length c.y.ct,.slice B r.length K] W (CT l u W)):=fun W X=>by rw[X4,Uo];exact abL c.y.At B c.y.ct K c.y.taken r W (hy.aa (aB h.aW X)).taken (AD hr).2 (by have:=(AD hr).1;omega) (J.sl.aa X) oG (by omega)
 have HD:Hid (u=0->∀W C c1 M,dI I g c {s with tv:=.slice C l.length c1,bv:=M} V W->aj aQ 2 W W.heap.size C l->Calls prog 105 #[.pointer (some ⟨g,0,none⟩),.bool false] W (CT m z W)):=fun j W C c1 M G hS=>by
  have ab:eP l=true:=by obtain⟨_,_,k3,k4⟩:=X5 (Uo.symm.trans j);rw[X4,k4];exact k3
  have:=ab1 G hp false C c1 l rfl hS hd ab;rw[hm,Up];exact this
 have N:w.cell? ⟨g,24,none⟩=some (.slice c.y.At c.y.taken.length c.y.ct):=h.blk.cell 24;have Qg:w.cell? ⟨g,34,none⟩=some (.slice B r.length K):=by have:w.cell? ⟨g,34,none⟩=some s.bv:=h.blk.cell 34;rw[this,Qe]
 have O:=h.lt;clear h hp hy hd hr hf hm X4 Uo Up J oG Qe;go_enter func57,ntmps57;go_upto_region 1 with fail
 refine NP (aE:=?CV) [0,1,2,3,4,5,6,7,8] [10,11,12,13,14] 9 110 #[.slice c.y.At c.y.taken.length c.y.ct,.slice B r.length K] (fun x:Option Addr×Nat=>.tuple #[.slice x.1 l.length x.2,.int .i64 u]) ?Um (LG l w.heap.size) (by kernel_rfl) (by kernel_rfl) rfl (by kernel_rfl) (by kernel_rfl) (by rfl) (by kernel_rfl) (by kernel_rfl) (by rfl) (by kernel_rfl) (by kernel_rfl) rfl rfl ?H1 ?S1 ?N1 ?R1 ?Iu ?J1 ?M1
 case H1=>
  intro F hF P;simp only[M3.cD,arQ,arR,arS];have ao:=aP.dM (F:=F) (a:=⟨g,24,none⟩) (by exact O) N;have ap:=aP.dM (F:=F) (a:=⟨g,34,none⟩) (by exact O) Qg
  repeat(first|go_big_quiet_step(first|fail)|quiet_step(first|fail))
  refine wpQuiet_nil ?_;rfl
 case S1=>rfl
 case N1=>exact fun _=>by first|rfl|go_simp
 case R1=>exact fun x Y w2 E X=>⟨E.1.aa X,E.2⟩
 case Iu=>exact fun W1 n=>(L.out W1 n).mono (fun e w2 ⟨A,ad,he,h1,h2,h3,h4,h5⟩=>⟨(A,ad),he,h5,h1,h2,h3,fun a Z=>ar0 n.size (h4 a Z)⟩)
 case J1=>
  intro x F hF P;simp only[M3.cD,arQ,arR,arS]
  repeat(first|go_big_quiet_step(fail)|quiet_step(fail))
  refine wpQuiet_nil ?_;rfl
 case M1=>
  intro x Y n E
  try simp only[Act.put,ar4,ar2,ar3]
  obtain⟨C,Uq⟩:=x;obtain⟨hS,_,_,oH⟩:=E;have J:=Qd HI.out hS oH;have G:=HI.out.aa n;have ey:=Mv.aW (g:=g) (v:=s.lv) n;clear HI L N Qg hS oH n Qf;by_cases j:u=0;rotate_left
  ·have HE:Hid (CX u z=u):=(by rw[Hid,CX,arK j]);have af:(u !=0)=true:=(by simp[j]);have ae:=G.aW;go_wp2;go_ret;rw[HE.out];exact⟨rfl,ae,fun e=>absurd e j⟩
  have HE:Hid (CX u z=z):=by rw[Hid,CX,arJ (by simp[j])]
  have NR:=arH (HD.out j);subst j;rw[HE.out];clear HD HE;have NQ:Y.cell? ⟨g,36,none⟩=some s.tv:=G.blk.cell 36;have f36:=G.blk.frozen 36;go_upto_region 5 with fail
  have Q:=G.ab2 (.slice C l.length Uq);have D:=Mv.set (w:=Y) (v:=s.lv) (g:=g) 36 (.slice C l.length Uq);have pD:=J.mv D;have jY:=ey.trans D;generalize Y.setCell ⟨g,36,none⟩ _=W5 at Q pD jY|-;clear G D J ey NQ f36;go_wp2_with fail;refine(NR.out W5 C Uq s.bv Q pD.sl).mono ?_;rintro e w6 ⟨A2,Ur,rfl,cF,_,_,R,bL⟩;have S:=Qd Q cF R;have T:=Q.aa bL;have LP:=Mv.aW (g:=g) (v:=s.lv) bL;have U:=pD.mv LP;have AE:=jY.trans LP;clear Q pD jY cF R bL LP NR;by_cases j:z=0;rotate_left
  ·have af:(z !=0)=true:=(by simp[j]);have ae:=T.aW;go_wp2;go_ret;exact⟨rfl,ae,fun e=>absurd e j⟩
  ·subst j;obtain⟨Z,hl⟩:=HF.out rfl;have ai:w6.cell? ⟨g,35,none⟩=some s.av:=T.blk.cell 35;have f35:=T.blk.frozen 35;go_upto_region 9 with fail
   have lU:=T.ahT (.slice A2 m.length Ur);have D:=Mv.set (w:=w6) (v:=s.lv) (g:=g) 35 (.slice A2 m.length Ur);have X6:=U.mv D;have Us:=S.mv D;have nX:=AE.trans D;generalize w6.setCell ⟨g,35,none⟩ _=W7 at lU X6 Us nX|-;clear T D U S AE ai f35;go_wp2_with fail;refine(Un lU 8 A2 Ur m Us CW hl (by constructor<;>(show _<=(_:Int))<;>(simp only;omega)) Z).mono ?_;rintro e w8 ⟨rfl,v8,jq,Cu⟩;have NS:=nX.trans Cu;have al:=X6.mv Cu;have am:=Us.mv Cu;clear lU nX X6 Us Z;go_wp2;go_ret;exact⟨rfl,jq.aW,fun _=>⟨v8,C,Uq,A2,Ur,jq,NS,al,am⟩⟩
