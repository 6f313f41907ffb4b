/- Conditions: as stated. -/
import Derived.Test.YtlhkojcmcmkmaaaGreatKP32g
set_option maxRecDepth 100000
set_option maxHeartbeats 8000000
namespace Go.Proofs.YtlhkojcmcmkmaaaGreat
open Go.Proofs.Tryz
open Go.RowKit Go.Sort Go.Shelf Go.Maps
structure Hf(K:List UInt8->Bool)(T:List UInt8->Int)(left:Lit->Bool)(ys:List Elem):Prop where
 sound:∀x∈ys,K x.code.data.toList=true/\x.amount=T x.code.data.toList/\x.amount≠0/\left (key x.code)=false
 full:∀c,K c=true->left (.string c)=false->cx (T c)=true/\(T c≠0->∃x∈ys,x.code.data.toList=c)
 nodup:ys.Pairwise (fun a b=>a.code≠b.code)
theorem Hf.start{D:DataW Unit}{K:List UInt8->Bool}{T:List UInt8->Int}(h:Dn D K T):Hf K T (Maps.has D) []:=
 ⟨by simp,(fun c j e=>by rw[h.has c,j]at e;cases e),List.Pairwise.nil⟩
theorem Hf.step{K:List UInt8->Bool}{T:List UInt8->Int}{left:Lit->Bool}{n:List Elem}(h:Hf K T left n){s:ByteArray}{c:Int}(J:left (key s)=true)(L:K s.data.toList=true)(B:T s.data.toList=c)(M:cx c=true):
  (c≠0->Hf K T (fun z=>left z&&!z.sameKey (key s)) (n++[⟨s,c⟩]))/\(c=0->Hf K T (fun z=>left z&&!z.sameKey (key s)) n):=by
 have N:(key s).sameKey (key s)=true:=WideAt.sameKey_self trivial;have F:∀x∈n,K x.code.data.toList=true/\x.amount=T x.code.data.toList/\x.amount≠0/\(left (key x.code)&&!(key x.code).sameKey (key s))=false:=by intro x p;obtain⟨h1,O,P,Q⟩:=h.sound x p;exact⟨h1,O,P,by simp[Q]⟩
 have G:∀d,K d=true->(left (.string d)&&!(Lit.string d).sameKey (key s))=false->(cx (T d)=true/\(T d≠0->d≠s.data.toList->∃x∈n,x.code.data.toList=d)):=by
  intro d hd j;by_cases e:d=s.data.toList
  ·subst e;exact⟨by rw[B];exact M,fun _ h=>absurd rfl h⟩
  ·have C:(Lit.string d).sameKey (key s)=false:=sameKey_ne (fun R=>e (by simpa[key]using R));rw[C]at j;simp at j;obtain⟨r,u⟩:=h.full d hd j;exact⟨r,fun l _=>u l⟩
 refine⟨fun D=>⟨fun x p=>?_,fun d hd j=>?_,?_⟩,fun D=>⟨F,fun d hd j=>?_,h.nodup⟩⟩
 ·rcases arE.1 p with h1|h1
  ·exact F x h1
  ·simp at h1;subst h1;exact⟨L,B.symm,D,by show(left (key s)&&!(key s).sameKey (key s))=false;rw[N];simp⟩
 ·obtain⟨r,u⟩:=G d hd j;refine⟨r,fun l=>?_⟩;by_cases e:d=s.data.toList
  ·exact⟨⟨s,c⟩,by simp,e.symm⟩
  ·obtain⟨x,p,S⟩:=u l e;exact⟨x,by simp[p],S⟩
 ·rw[List.pairwise_append];refine⟨h.nodup,List.pairwise_singleton _ _,fun a E b I=>?_⟩;simp at I;subst I;intro e;have:=(h.sound a E).2.2.2;rw[show key a.code=key s by rw[e],J]at this;cases this
 ·obtain⟨r,u⟩:=G d hd j;refine⟨r,fun l=>?_⟩;by_cases e:d=s.data.toList
  ·subst e;rw[B]at l;exact absurd D l
  ·exact u l e
def alH(K:List UInt8->Bool)(T:List UInt8->Int)(n:Nat)(w:World)(e:Ending)(w':World):Prop:=
 Below w.heap.size w w'/\(((∃c,K c=true/\cx (T c)=false)/\e=.returned (.tuple #[.slice none 0 0,.int .i64 4]))\/
  ((∀c,K c=true->cx (T c)=true)/\∃A j l,e=.returned (.tuple #[.slice A l.length j,.int .i64 0])/\aj aN 2 w' w'.heap.size A l/\l.length<=n/\l.length<=j/\j<=maxLen/\(∀a,A=some a->w.heap.size<=a.block)/\
   l.Pairwise (fun a b=>jc a b=true)/\∀x:Elem,x∈l↔(K x.code.data.toList=true/\x.amount=T x.code.data.toList/\x.amount≠0)))
theorem alI(B n:Nat)(D:DataW Unit)(K:List UInt8->Bool)(T:List UInt8->Int)(w:World)(C:w.ownsMap prog 9 (plainElem (H:=Unit) prog 3) B n D)(hD:Dn D K T)(hn:n<=100000):
  Calls prog 159 #[.map (some B)] w (alH K T n w):=by
 have ap:B<w.heap.size:=by obtain⟨es,J,hb,_⟩:=C;exact(asv.1 hb).1
 have L:Maps.size D<=n:=by obtain⟨es,J,_,_,mq,rfl⟩:=C;rw[Maps.size_eq,aby];simpa using mq
 go_enter func159,ntmps159;go_wp2_with(at_range;refine wpList_range_own _ (by rfl) _ 181 (by rfl) 9 3 Gz underlying181 (plainElem (H:=Unit) prog 3) B n D (by rfl) C ?_;intro w0 O ab av)
 go_frame
 go_loopw [4,5] (fun v _ wr=>∃left l u,wr.ranges prog 9 (plainElem (H:=Unit) prog 3) B w.heap.size n D left l/\Own aN 2 69 wr (w.heap.size+1) v u/\Hf K T left u/\u.length+l<=n/\Below w.heap.size w wr) (fun _ _ wr=>wr.rangeLeft B w.heap.size)
 case atStart=>exact⟨_,_,[],O,Own.cK _ _,Hf.start hD,by simpa using L,gI ab (aq7 _) (by simp)⟩
 case round=>
  obtain⟨left,l,u,F,E,G,an,ae⟩:=hrel;have br:=ae.size;have km:=F.lt;go_wp2_with(at_next;refine wpList_next_ranges _ (by rfl) _ (by rfl) 9 Gz (plainElem (H:=Unit) prog 3) Value.string (Value.int .i64) (fun key kl hk=>by obtain⟨x,P,_⟩:=Maps.keyOf_str underlying9 hk;exact⟨_,P⟩) (fun v y Z=>by obtain⟨c,N,_⟩:=plainElem_int_inv underlying3 Z;exact⟨c,N⟩) B w.heap.size n _ _ _ (by rfl) F ?_ ?_)
  ·intro r Q;obtain⟨A5,c5,rfl,cX,eM,oD,oF⟩:=E.kE dt;go_wp2_with fail;refine(alJ A5 c5 (w.heap.size+1) u _ E (by omega)).mono ?_;rintro e w1 ⟨rfl,zs,hp,nW,PH,ad⟩;have Fj:=hp.length_eq;go_wp2;go_ret2;refine⟨ae.trans (ad.mono (by omega)),.inr ⟨fun c N=>(G.full c N (Q _)).1,A5,c5,zs,by rw[Fj];rfl,PH,by omega,by omega,oF,(fun a R=>by have:=eM a R;omega),?_,fun x=>?_⟩⟩
   ·exact Xq nW (G.nodup.perm hp.symm (fun h e=>h e.symm))
   ·rw[hp.mem_iff];refine⟨fun P=>⟨(G.sound x P).1,(G.sound x P).2.1,(G.sound x P).2.2.1⟩,fun⟨z,S,h3⟩=>?_⟩;obtain⟨y,hy,Xg⟩:=(G.full _ z (Q _)).2 (by rw[<-S];exact h3);have Xh:y=x:=by
     obtain⟨_,g2,_⟩:=G.sound y hy;have N:y.code=x.code:=key_inj (by simp[key,Xg]);obtain⟨a,b⟩:=y;obtain⟨c,d⟩:=x;simp only at N g2 S;subst N;rw[g2,S]
    rw[<-Xh];exact hy
  ·intro s c kl yd yp w2 ao I af Z M p ax U ai ay;obtain⟨x',Hl,rfl,Fi⟩:=Maps.keyOf_str underlying9 I;have Xr:x'=s.data.toList:=by
    have z:s=⟨x'.toArray⟩:=(by simpa[encStr]using Hl);rw[z]
   subst Xr;have PJ:yd=PK c:=by
    obtain⟨c',z,S,_⟩:=plainElem_int_inv underlying3 Z;injection z with _ z
    subst z;injection S
   have TP:K s.data.toList=true:=(by rw[<-hD.has];exact has_true_of_atKey M);have Hm:T s.data.toList=c:=by
    have z:=hD.at_ s.data.toList;rw[M,PJ]at z;injection z with z
    injection z with _ z
    exact z.symm
   have Xs:left (key s)=true:=af;have j:=E.kept U (by intro g e;injection e;omega);have bu:Below w.heap.size w w2:=ae.grown U br (by intro g e;injection e;omega);have Xt:=bu.size;have az:=p.lt;have HT:=aq6 Hm;clear ai M I Hl Z PJ Hm;by_cases R:cx c=true
   ·have V:=aq6 (G.step Xs TP HT.out R);by_cases r:c=0
    ·have nX:(c !=0)=false:=(by simp[r]);have Jv:=V.out.2 r;clear r;go_wp2_with(go_at_call 158;refine(MC _ _).mono ?_;rintro e w' ⟨rfl,rfl⟩);go_roundw
     case rel=>
      have X:∃left l u,w2.ranges prog 9 (plainElem (H:=Unit) prog 3) B w.heap.size n D left l/\Own aN 2 69 w2 (w.heap.size+1) u4 u/\Hf K T left u/\u.length+l<=n/\Below w.heap.size w w2:=⟨_,_,u,p,j,Jv,by omega,bu⟩
      first|exact X|((repeat apply Exists.intro);exact⟨X,rfl⟩)
     case measure=>rw[p.left_eq,F.left_eq];omega
    ·have nX:(c !=0)=true:=(by simp[r]);have Jv:=V.out.1 r;have Y:some B≠u4.ownBlock:=fun e=>by have:=(j.cg e.symm).1;omega
     have Hn:some w.heap.size≠u4.ownBlock:=fun e=>by have:=(j.cg e.symm).1;omega
     have al:=fun g hg=>(j.cg (g:=g) hg).1;clear r;go_wp2_with(first|(go_at_call 158;refine(MC _ _).mono ?_;rintro e w' ⟨rfl,rfl⟩)|(at_builtin;(refine my _ _ 51 ⟨s,c⟩ _ 24 _ kF underlying51 j dt (by omega) rfl (kn _) (by omega) (by omega) (by omega) (by rfl) (by rfl) (by rfl) (by rfl) (by simp) (by rfl) ?_);intro v2 w6 cY fK));go_roundw
     case rel=>
      have X:∃left l u,w6.ranges prog 9 (plainElem (H:=Unit) prog 3) B w.heap.size n D left l/\Own aN 2 69 w6 (w.heap.size+1) v2 u/\Hf K T left u/\u.length+l<=n/\Below w.heap.size w w6:=⟨_,_,_,p.kept fK Y Hn,cY,Jv,by simp;omega,bu.grown fK Xt (fun g hg=>by have:=al g hg;omega)⟩
      first|exact X|((repeat apply Exists.intro);exact⟨X,rfl⟩)
     case measure=>rw[(p.kept fK Y Hn).left_eq,F.left_eq];omega
   ·have am:cx c=false:=(by simpa using R);clear R;go_wp2_with(go_at_call 158;refine(MC _ _).mono ?_;rintro e w' ⟨rfl,rfl⟩);go_ret2;exact⟨bu,.inl ⟨⟨_,TP,by rw[HT.out];exact am⟩,rfl⟩⟩
open Go.RowKit
theorem Yh(l:List Elem):(bB l).any (fun x=>!cx x.amount)=true↔∃c,fF l c=true/\cx (cC l c)=false:=by
 rw[arX];constructor
 ·rintro⟨x,e,h⟩;rw[mem_sorted (IW l),Q5,Q4]at e;exact⟨_,e.1,by rw[<-e.2];simpa using h⟩
 ·rintro⟨c,j,h⟩;obtain⟨x,e,p⟩:=arX.1 j;have n:x.code.data.toList=c:=by simpa using p
  refine⟨⟨x.code,cC l c⟩,?_,by simp[h]⟩;rw[mem_sorted (IW l),Q5,Q4];exact⟨by show fF l x.code.data.toList=true;rw[n];exact j,by show cC l c=cC l x.code.data.toList;rw[n]⟩
theorem alK(l:List Elem)(c:List UInt8)(h:∀x∈l,cx x.amount=true):-(l.length*1000000000:Int)<=cC l c/\cC l c<=l.length*1000000000:=by
 induction l with
 |nil=>simp[cC]
 |cons a l e=>
  have p:=e (fun x j=>h x (by simp[j]));have r:-1000000000<=a.amount/\a.amount<=1000000000:=by have:=h a (by simp);simpa[cx]using this
  simp only[cC,ars];have n:((l.length+1:Nat):Int)*1000000000=(l.length:Int)*1000000000+1000000000:=by omega
  rw[n];split<;>omega
def alL(m:List Elem)(l:Int)(w:World)(e:Ending)(w':World):Prop:=
 ∃A j,e=.returned (.tuple #[.slice A m.length j,.int .i64 l])/\aj aN 2 w' w'.heap.size A m/\m.length<=j/\j<=maxLen/\Below w.heap.size w w'
def ae8(m:List Elem)(l:Int)(w:World)(e:Ending)(w':World):Prop:=
 ∃A j,e=.returned (.tuple #[.slice A m.length j,.int .i64 l])/\aj aN 2 w' w'.heap.size A m/\m.length<=j/\j<=maxLen/\(∀a,A=some a->w.heap.size<=a.block)/\Below w.heap.size w w'
theorem ae9(A:Option Addr)(ab:Nat)(l:List Elem)(w:World)(h:aj aN 2 w w.heap.size A l)(hz:∀x∈l,x.code.size<=maxLen)(hl:l.length<=9223372036854775806):
  Calls prog 103 #[.slice A l.length ab] w (ae8 (AW l) (dP l) w):=by
 have HZ:=aq6 hz;clear hz;have zD:∀(n:Int) (W:World),n≠0->dP l=n->Below w.heap.size w W->ae8 (AW l) (dP l) w (Ending.returned (.tuple #[.slice none 0 0,.int .i64 n])) W:=by
  intro n W G he Y;have hm:AW l=[]:=by rw[AW,aq8 (by rw[he];exact G)]
  rw[hm,he];exact⟨none,0,rfl,aj.cK,by simp,by unfold maxLen;omega,(fun a ha=>by cases ha),Y⟩
 have u:=aq6 zD;clear zD;have zE:=@run_makeMap prog;by_cases J:128<l.length
 ·have F:Hid (dP l=3):=by simp only[Hid,dP,aq9 J]
  go_enter func103,ntmps103;go_wp2;go_ret2;exact u.out 3 _ (by omega) F.out (arb _ _)
 ·have k9:l.length<=128:=by omega
  clear J hl;go_enter func103,ntmps103;go_wp2
  go_loopw [16] (fun i wr=>∃k:Nat,k<=l.length/\i=.int .i64 k/\Hid (∀j,(z:j<l.length)->j<k->bI l[j].code=true)/\Below w.heap.size w wr) (fun i _=>l.length-(intOf i).toNat)
  case atStart=>exact⟨0,by omega,rfl,fun j _ z=>absurd z (by omega),arb _ _⟩
  case round=>
   obtain⟨k,Z,rfl,r,B⟩:=hrel;have P:=B.size;by_cases p:k<l.length
   ·obtain⟨b,R,rfl,Y,C⟩:=(h.below B).at_ p;have S:=C 0 _ rfl;have c1:=C 1 _ rfl;simp only[ara]at S;clear C;have fj:=HZ.out _ (arc p);by_cases G:bI l[k].code=true
    ·go_wp2_with(go_at_call 82;refine(BO _ _ fj).mono ?_;rintro e w' ⟨rfl,rfl⟩);go_roundw
     case rel=>
      refine⟨k+1,by omega,by go_num,fun j z ad=>?_,B.alloc P _⟩;rcases arp j k with h1|h1
      ·exact r.out j z h1
      ·obtain rfl:j=k:=by omega
       exact G
     case measure=>simp[intOf];omega
    ·have mq:bI l[k].code=false:=(by simpa using G);have F:Hid (dP l=7):=by
      have T:l.any (fun x=>!bI x.code)=true:=arX.2 ⟨l[k],arc _,by simp[mq]⟩;simp only[Hid,dP,aq8 (show¬128<l.length by omega),T,arI]
     clear G;go_wp2_with(go_at_call 82;refine(BO _ _ fj).mono ?_;rintro e w' ⟨rfl,rfl⟩);go_ret2;exact u.out 7 _ (by omega) F.out (B.alloc P _)
   ·have T:Hid (l.any (fun x=>!bI x.code)=false):=by
     rw[Hid,arR];intro x M;obtain⟨j,z,rfl⟩:=arN.1 M;simp[r.out j z (by omega)]
    obtain⟨wo,rfl⟩:∃wo:World,wo=wr:=⟨_,rfl⟩
    go_wp2;clear r Z p
    go_loopw [27] (fun i wr=>∃k:Nat,k<=l.length/\i=.int .i64 k/\Hid (∀j,(z:j<l.length)->j<k->cx l[j].amount=true)/\Below w.heap.size w wr) (fun i _=>l.length-(intOf i).toNat)
    case atStart=>exact⟨0,by omega,rfl,fun j _ z=>absurd z (by omega),B⟩
    case round=>
     obtain⟨k,Z,rfl,r,B⟩:=hrel;have P:=B.size;by_cases p:k<l.length
     ·obtain⟨b,R,rfl,Y,C⟩:=(h.below B).at_ p;have S:=C 0 _ rfl;have c1:=C 1 _ rfl;simp only[ara]at S;clear C;by_cases G:cx l[k].amount=true
      ·go_wp2_with(go_at_call 158;refine(MC _ _).mono ?_;rintro e w' ⟨rfl,rfl⟩);go_roundw
       case rel=>
        refine⟨k+1,by omega,by go_num,fun j z ad=>?_,B.alloc P _⟩;rcases arp j k with h1|h1
        ·exact r.out j z h1
        ·obtain rfl:j=k:=by omega
         exact G
       case measure=>simp[intOf];omega
      ·have mq:cx l[k].amount=false:=(by simpa using G);have F:Hid (dP l=2):=by
        have h2:l.any (fun x=>!cx x.amount)=true:=arX.2 ⟨l[k],arc _,by simp[mq]⟩;simp only[Hid,dP,aq8 (show¬128<l.length by omega),T.out,h2,arI,ar1,arK]
       clear G;go_wp2_with(go_at_call 158;refine(MC _ _).mono ?_;rintro e w' ⟨rfl,rfl⟩);go_ret2;exact u.out 2 _ (by omega) F.out (B.alloc P _)
     ·have N:Hid (∀x∈l,cx x.amount=true):=by
       intro x M;obtain⟨j,z,rfl⟩:=arN.1 M;exact r.out j z (by omega)
      have h2:Hid (l.any (fun x=>!cx x.amount)=false):=by rw[Hid,arR];intro x M;simp[N.out x M]
      obtain⟨I,rfl⟩:∃I:World,I=wr:=⟨_,rfl⟩
      go_wp2;clear r Z p;have PB:(I.alloc (.map #[] 0)).ownsMap prog 9 (plainElem (H:=Unit) prog 3) I.heap.size 0 (.map []):=World.ownsMap_made _ _ _ _;have PC:Below w.heap.size w (I.alloc (.map #[] 0)):=B.alloc P _
      go_loopw [39] (fun i wr=>∃(k:Nat) (D:DataW Unit),k<=l.length/\i=.int .i64 k/\wr.ownsMap prog 9 (plainElem (H:=Unit) prog 3) I.heap.size k D/\Dn D (fF (l.take k)) (cC (l.take k))/\Below w.heap.size w wr) (fun i _=>l.length-(intOf i).toNat)
      case atStart=>exact⟨0,.map [],by omega,rfl,PB,Dn.empty,PC⟩
      case round=>
       clear PB PC;obtain⟨k,D,Z,rfl,K,U,Q⟩:=hrel;have Gx:=Q.size;by_cases p:k<l.length
       ·obtain⟨b,R,rfl,Y,C⟩:=(h.below Q).at_ p;have S:=C 0 _ rfl;have c1:=C 1 _ rfl;simp only[ara]at S;clear C;have fj:=HZ.out _ (arc p);have L:keyOf prog 9 (.string l[k].code)=some (key l[k].code):=WideMaps.keyOf_string_mk underlying9 fj;have E:=K.kept (World.grownBy_alloc wr (Obj.cells #[Value.string l[k].code,Value.int IntKind.i64 l[k].amount] 69) none) (by simp);have Lb:=alK (l.take k) l[k].code.data.toList (fun x M=>N.out x (arD M));have PD:(l.take k).length<=128:=(by simp;omega);have QX:-1000000000<=l[k].amount/\l[k].amount<=1000000000:=(by have:=N.out _ (arc p);simpa[cx]using this);obtain⟨ax,ay⟩:=QX;have Ju:=U.at_ l[k].code.data.toList;have Dq:-1000000000000<=cC (l.take k) l[k].code.data.toList:=(by omega);have Cn:cC (l.take k) l[k].code.data.toList<=1000000000000:=(by omega);have BP:=U.Xk (K':=fF (l.take (k+1))) (T':=cC (l.take (k+1))) l[k].code (cC (l.take k) l[k].code.data.toList+l[k].amount) (Xl l k p) (fun c=>by
         rw[Xm l k p];split
         ·rename_i e;rw[<-e]
         ·omega)
        have Gy:=aq6 BP;have zF:=aq6 Ju;generalize cC (l.take k) l[k].code.data.toList=t0 at Dq Cn Gy zF;clear Lb PD Ju U BP;go_wp2_with(first
         |(at_lookup;refine wpList_lookup_own_int _ (by rfl) _ _ 181 (by rfl) 9 3 .i64 Gz underlying181 underlying3 (Xn _) I.heap.size k D (by rfl) E _ _ (by rfl) L ?_;intro c af az;obtain rfl:c=t0:=(by have h1:=zF.out;rw[show Lit.string l[k].code.data.toList=key l[k].code from rfl,af]at h1;injection h1 with h1;injection h1))
         |(at_mapUpdate;refine wpList_mapUpdate_own _ (by rfl) _ _ _ 181 (by rfl) 9 3 Gz underlying181 _ I.heap.size k D (by rfl) E (by unfold maxLen;omega) _ _ _ (by rfl) (by rfl) L _ [] (plainElem_int underlying3 (Xo (by omega) (by omega))) ?_;intro w1 O PE))
        go_roundw
        case rel=>exact⟨k+1,_,by omega,by go_num,O,Gy.out,(Q.alloc Gx _).grown PE (by simp;omega) (fun g e=>by injection e;omega)⟩
        case measure=>simp[intOf];omega
       ·have ek:l.take k=l:=ar0 (by omega);rw[ek]at U;go_wp2_with fail;refine(alI I.heap.size k D _ _ _ K U (by omega)).mono ?_;rintro e w4 ⟨V,⟨ai,rfl⟩|⟨al,A4,am,ys,rfl,df,aA,an,ao,ap,dG,jA⟩⟩
        ·have F:Hid (dP l=4):=by
          have h4:=(Yh l).2 ai;simp only[Hid,dP,aq8 (show¬128<l.length by omega),T.out,h2.out,h4,arI,ar1,arK]
         go_wp2;go_ret2;exact u.out 4 _ (by omega) F.out (Q.trans (V.mono Gx))
        ·have F:Hid (dP l=0):=by
          have h4:(bB l).any (fun x=>!cx x.amount)=false:=by
           cases hh:(bB l).any (fun x=>!cx x.amount)
           ·rfl
           ·obtain⟨c,av,X⟩:=(Yh l).1 hh;rw[al c av]at X;cases X
          simp only[Hid,dP,aq8 (show¬128<l.length by omega),T.out,h2.out,h4,ar1,arK]
         have HM:Hid (AW l=ys):=(by rw[Hid,AW,aq9 F.out,<-aj8 dG jA]);go_wp2;go_ret2;rw[HM.out,F.out];exact⟨A4,am,rfl,df,an,ao,(fun a ha=>by have:=ap a ha;have:=Q.size;omega),Q.trans (V.mono Gx)⟩
theorem alR(A:Option Addr)(j:Nat)(e:List Elem)(w:World)(h:aj aN 2 w w.heap.size A e)(l:∀x∈e,x.code.size<=maxLen)(n:e.length<=9223372036854775806):
  Calls prog 103 #[.slice A e.length j] w (alL (AW e) (dP e) w):=
 (ae9 A j e w h l n).mono fun _ _ ⟨A,c,p,r,u,z,_,B⟩=>⟨A,c,p,r,u,z,B⟩
theorem alS{l:List Elem}(h:dP l=0):Iq 1000000000 l/\l.length<=128:=by
 have e:¬128<l.length:=by intro e;rw[dP,aq9 e]at h;cases h
 rw[dP,aq8 e]at h;split at h
 ·cases h
 ·split at h
  ·cases h
  ·rename_i j;refine⟨fun x n=>?_,by omega⟩;simp only[Bool.not_eq_true,arR]at j;have:=j x n;simpa[cx]using this
structure nv(w w2 w4 w3:World)(x:Elem)(y:cI)(b:fA)(wx:World):Prop where
 bs:Bs wx w2.heap.size b
 rs:Bs wx w.heap.size eo
 aU:Below w2.heap.size w2 wx
 wg:ah wx w4.heap.size 77 (gu y).toArray
 xb:ah wx w3.heap.size 69 #[.string x.code,.int .i64 x.amount]
 R6:w.heap.size<w2.heap.size
 MF:w2.heap.size<w4.heap.size
 lt3:w2.heap.size<w3.heap.size
section
variable {w w2 w4 w3 wx:World}{x:Elem}{y:cI}{b:fA}
theorem nv.step(h:nv w w2 w4 w3 x y b wx){e:fA}{i:Nat}{u:Value}(j:Bs (wx.setCell ⟨w2.heap.size,i,none⟩ u) w2.heap.size e):nv w w2 w4 w3 x y e (wx.setCell ⟨w2.heap.size,i,none⟩ u):=
 ⟨j,h.rs.far (by have:=h.R6;simp;omega) _,h.aU.setCell (by simp) _,h.wg.far (by have:=h.MF;simp;omega) _,h.xb.far (by have:=h.lt3;simp;omega) _,h.R6,h.MF,h.lt3⟩
theorem nv.aan(h:nv w w2 w4 w3 x y b wx)(n:Int):nv w w2 w4 w3 x y {b with c:=n} (wx.setCell ⟨w2.heap.size,1,none⟩ (.int .i64 n)):=h.step (h.bs.c n)
theorem nv.aao(h:nv w w2 w4 w3 x y b wx)(n:Int):nv w w2 w4 w3 x y {b with t:=n} (wx.setCell ⟨w2.heap.size,2,none⟩ (.int .i64 n)):=h.step (h.bs.t n)
theorem nv.aap(h:nv w w2 w4 w3 x y b wx)(n:Int):nv w w2 w4 w3 x y {b with i:=n} (wx.setCell ⟨w2.heap.size,3,none⟩ (.int .i64 n)):=h.step (h.bs.i n)
theorem nv.aaq(h:nv w w2 w4 w3 x y b wx)(n:Int):nv w w2 w4 w3 x y {b with a:=n} (wx.setCell ⟨w2.heap.size,4,none⟩ (.int .i64 n)):=h.step (h.bs.a n)
end
def E8(b:fA):Nat->Int
 |0=>b.g
 |1=>b.c
 |2=>b.t
 |3=>b.i
 |_=>b.a
theorem alT(b:fA)(w:World):(Instr.index 180 (.agg #[.int .i64 b.g,.int .i64 b.c,.int .i64 b.t,.int .i64 b.i,.int .i64 b.a]) (.int .i64 0)).run prog w=.ok (.int .i64 b.g) w:=by kernel_rfl
theorem alU(b:fA)(w:World):(Instr.index 180 (.agg #[.int .i64 b.g,.int .i64 b.c,.int .i64 b.t,.int .i64 b.i,.int .i64 b.a]) (.int .i64 1)).run prog w=.ok (.int .i64 b.c) w:=by kernel_rfl
theorem alV(b:fA)(w:World):(Instr.index 180 (.agg #[.int .i64 b.g,.int .i64 b.c,.int .i64 b.t,.int .i64 b.i,.int .i64 b.a]) (.int .i64 2)).run prog w=.ok (.int .i64 b.t) w:=by kernel_rfl
theorem alW(b:fA)(w:World):(Instr.index 180 (.agg #[.int .i64 b.g,.int .i64 b.c,.int .i64 b.t,.int .i64 b.i,.int .i64 b.a]) (.int .i64 3)).run prog w=.ok (.int .i64 b.i) w:=by kernel_rfl
theorem alX(b:fA)(w:World):(Instr.index 180 (.agg #[.int .i64 b.g,.int .i64 b.c,.int .i64 b.t,.int .i64 b.i,.int .i64 b.a]) (.int .i64 4)).run prog w=.ok (.int .i64 b.a) w:=by kernel_rfl
theorem alY(b:fA)(k:Nat)(e:k<5)(w:World):(Instr.index 180 (.agg #[.int .i64 b.g,.int .i64 b.c,.int .i64 b.t,.int .i64 b.i,.int .i64 b.a]) (.int .i64 (k:Int))).run prog w=.ok (.int .i64 (E8 b k)) w:=by
 have h:k=0\/k=1\/k=2\/k=3\/k=4:=by omega
 rcases h with rfl|rfl|rfl|rfl|rfl
 ·exact alT b w
 ·exact alU b w
 ·exact alV b w
 ·exact alW b w
 ·exact alX b w
theorem alZ{b:fA}{m:Nat}(e:m<5)(h:cx (E8 b m)=false):nR b=false:=by
 match m,e with
 |0,_=>simp only[E8]at h;simp[nR,h]
 |1,_=>simp only[E8]at h;simp[nR,h]
 |2,_=>simp only[E8]at h;simp[nR,h]
 |3,_=>simp only[E8]at h;simp[nR,h]
 |4,_=>simp only[E8]at h;simp[nR,h]
theorem al0{b:fA}(h:∀j,j<5->cx (E8 b j)=true):nR b=true:=by have e:=h 0 (by omega);have l:=h 1 (by omega);have n:=h 2 (by omega);have p:=h 3 (by omega);have r:=h 4 (by omega);simp only[E8]at e l n p r;simp[nR,e,l,n,p,r]
theorem al1(A E:Option Addr)(af R7:Nat)(p:List cI)(l:List Elem)(w:World)(h:aj gu 6 w w.heap.size A p)(R8:∀x∈p,x.code.size<=maxLen)(aS:p.length<=9223372036854775806)
  (hE:aj aN 2 w w.heap.size E l) (hz:∀x∈l,x.code.size<=maxLen) (hl:l.length<=9223372036854775806):
  Calls prog 102 #[.slice A p.length af,.slice E l.length R7] w fun r w'=>r=.returned (gD p l l)/\Below w.heap.size w w':=by
 have HZ:=aq6 hz;clear hz;have an:=aq6 R8;clear R8;go_enter func102,ntmps102;go_wp2_with fail;have po:Bs (w.alloc (.cells #[.int .i64 0,.int .i64 0,.int .i64 0,.int .i64 0,.int .i64 0] 24)) w.heap.size eo:=ah.new _ _ _;have Z:Below w.heap.size w (w.alloc (.cells #[.int .i64 0,.int .i64 0,.int .i64 0,.int .i64 0,.int .i64 0] 24)):=(arb _ _).alloc (aq7 _) _;generalize w.alloc (.cells #[.int .i64 0,.int .i64 0,.int .i64 0,.int .i64 0,.int .i64 0] 24)=w0 at po Z|-;have ao:w.heap.size<w0.heap.size:=ah.lt po;refine(afa A af p _ ((h.below Z).more (by omega)) an.out (by omega)).mono ?_;rintro e w1 ⟨rfl,ab⟩;have ai:=po.below ab ao;have aT:=Io Z ab (by omega);have aV:=ab.size;by_cases hv:jV p=true
 ·have HV:=aq6 hv;go_wp2_with fail;refine(alR E R7 l _ ((hE.below aT).more (by omega)) HZ.out (by omega)).mono ?_;rintro e w2 ⟨A6,c6,rfl,_,_,_,ad⟩;have aD:=ai.below ad (by omega);have bu:=Io aT ad (by omega);have aW:=ad.size;by_cases h0:dP l=0
  ·have H0:=aq6 h0;rw[h0];obtain⟨ap,Uz⟩:=alS h0;have dU:=hE.below bu;clear h0 po Z ab ad ai aT;go_wp2;have eX:Bs (w2.alloc (.cells #[.int .i64 0,.int .i64 0,.int .i64 0,.int .i64 0,.int .i64 0] 24)) w2.heap.size eo:=ah.new _ _ _;have N:=aD.alloc (Obj.cells #[.int .i64 0,.int .i64 0,.int .i64 0,.int .i64 0,.int .i64 0] 24);have BK:=(arb w2.heap.size w2).alloc (aq7 _) (Obj.cells #[.int .i64 0,.int .i64 0,.int .i64 0,.int .i64 0,.int .i64 0] 24);generalize w2.alloc (.cells #[.int .i64 0,.int .i64 0,.int .i64 0,.int .i64 0,.int .i64 0] 24)=w3 at eX N BK|-
   go_loopw [30] (fun i wr=>∃k:Nat,k<=l.length/\i=.int .i64 k/\Hid (∀j,(F:j<l.length)->j<k->(ee p l[j].code).isSome=true)/\Bs wr w2.heap.size (fC p (l.take k))/\Hg (k*1000000000) (fC p (l.take k))/\Bs wr w.heap.size eo/\Below w2.heap.size w2 wr) (fun i _=>l.length-(intOf i).toNat)
   case atStart=>exact⟨0,by omega,rfl,fun j _ F=>absurd F (by omega),eX,by simp[fC,eo,Hg],N,BK⟩
   case round=>
    clear eX N BK;obtain⟨k,hk,rfl,M,eX,kK,N,ae⟩:=hrel;have br:=ah.lt eX;by_cases al:k<l.length
    ·obtain⟨b,a0,rfl,hb,hc⟩:=(dU.below (ae.mono (by omega))).at_ al;have c0:=hc 0 _ rfl;have c1:=hc 1 _ rfl;simp only[ara]at c0;clear hc;go_wp2_with fail;have R9:=ah.new wr 69 #[Value.string l[k].code,Value.int IntKind.i64 l[k].amount];refine(ZQ A af p l[k].code _ ((h.below ((bu.trans (ae.mono (by omega))).alloc (by omega) _)).more (by simp;omega)) (by omega)).mono ?_;rintro e w4 ⟨rfl,B⟩;have a1:wr.heap.size+1<=w4.heap.size:=(by have:=B.size;simpa using this);have oW:=R9.below B (by simp);have FL:=(eX.alloc _).below B (by simp;omega);have Be:=(N.alloc _).below B (by simp;omega);have eO:=Io (ae.alloc (by omega) _) B (by simp;omega);have dT:wr.heap.size<w4.heap.size:=(by omega);have av:w.heap.size<w4.heap.size:=(by omega);have a2:w2.heap.size<w4.heap.size:=(by omega);have OC:b<w4.heap.size:=(by omega);rcases O:ee p l[k].code with _|y
     ·rw[afb];obtain⟨P,Q,R,r3,S⟩:=Be.cells;obtain⟨G,I,J,K,L⟩:=Be.zx;have HE:Hid (dQ p l l=16):=by
       have hm:missing p l=true:=arX.2 ⟨l[k],arc _,by simp[O]⟩;simp only[Hid,dQ,HV.out,H0.out,hm,arI,Bool.true_eq_false,arK,ne_eq,not_true_eq_false]
      go_wp2;have u:=(Be.put eo).alloc (Obj.cells #[.string ⟨#[]⟩,.int .i64 0,.bool false,.bool false,.bool false,.int .i64 0] 77);have z:Below w.heap.size w _:=(Db (bu.trans (eO.mono (by omega))) (aq7 _) (.int .i64 0) (.int .i64 0) (.int .i64 0) (.int .i64 0) (.int .i64 0)).alloc (by simp;omega) (Obj.cells #[.string ⟨#[]⟩,.int .i64 0,.bool false,.bool false,.bool false,.int .i64 0] 77);simp only[eo]at u;generalize World.alloc _ _=WW at u z|-;obtain⟨z0,z1,z2,z3,z4⟩:=u.cells;refine art (v:=gD p l l) ?_ rfl ⟨rfl,z⟩;rw[gD,HE.out];simp[results,results102,go_sem,z0,z1,z2,z3,z4,mC,eo]
     ·rw[afc];obtain⟨P,Q,R,r3,S⟩:=FL.cells;obtain⟨G,I,J,K,L⟩:=FL.zx;have d1:=oW.cell 1;simp only[ak,aq,ar]at d1;have kr:=ap _ (arc al);obtain⟨ay,az⟩:=kr;have O2:=kK.add (C:=1000000000) (by omega) y ay az;have Sa:fC p (l.take (k+1))=zy (fC p (l.take k)) y l[k].amount:=(by rw[afd p l k al,I8,O];rfl);have EST:=aq6 Sa;have Sb:∀j,(F:j<l.length)->j<k+1->(ee p l[j].code).isSome=true:=by
       intro j F a3;rcases arp j k with h1|h1
       ·exact M.out j F h1
       ·obtain rfl:j=k:=by omega
        rw[O];rfl
      have Qw:=aq6 Sb;clear Sb Sa O c0;generalize fC p (l.take k)=n at*;obtain⟨⟨g1,g2⟩,⟨g3,g4⟩,⟨g5,g6⟩,⟨g7,g8⟩,⟨g9,a4⟩⟩:=kK;have Sc:nv w w2 w4 wr l[k] y ⟨n.g+l[k].amount,n.c,n.t,n.i,n.a⟩ ((w4.setCell ⟨w2.heap.size,0,none⟩ (.int .i64 (n.g+l[k].amount))).alloc (.cells (gu y).toArray 77)):=
       ⟨(FL.g _).alloc _,(Be.far (by simp;omega) _).alloc _,(eO.setCell (by simp) _).alloc (by simp;omega) _,by have:=ah.new (w4.setCell ⟨w2.heap.size,0,none⟩ (.int .i64 (n.g+l[k].amount))) 77 (gu y).toArray;simpa using this,(oW.far (by simp;omega) _).alloc _,by omega,by omega,by omega⟩
      have Sd:=aq6 Sc;clear Sc
      go_upto_if 52 with fail
      generalize am:World.alloc _ _=W0;have T:nv w w2 w4 wr l[k] y ⟨n.g+l[k].amount,n.c,n.t,n.i,n.a⟩ W0:=(by rw[<-am];exact Sd.out);clear am P Q R r3 S G I J K L d1 Sd FL Be eX N ae eO aD R9 oW B c1;obtain⟨P,Q,R,r3,S⟩:=T.bs.cells;obtain⟨G,I,J,K,L⟩:=T.bs.zx;have U:=T.xb.cell 1;have y1:=T.wg.cell 1;have y2:=T.wg.cell 2;have y3:=T.wg.cell 3;have V:=T.wg.cell 4;simp only[gu,arh,ari,arj]at U y1 y2 y3 V
      go_cut [] (fun wx=>nv w w2 w4 wr l[k] y ⟨n.g+l[k].amount,n.c+(if y.kind=1 then l[k].amount else 0),n.t,n.i,n.a⟩ wx)
      case first=>
       by_cases D:y.kind=1
       ·have aA:(y.kind==1)=true:=(by simp[D]);go_wp2;go_meet;have hz:=(T.aan (n.c+l[k].amount))
        simpa[D]using hz
       ·have aA:(y.kind==1)=false:=(by simp[D]);go_wp2;go_meet;simpa[D]using T
      case rest=>
       clear P Q R r3 S G I J K L U y1 y2 y3 V T;have X:=hcut;clear hcut;obtain⟨P,Q,R,r3,S⟩:=X.bs.cells;obtain⟨G,I,J,K,L⟩:=X.bs.zx;have U:=X.xb.cell 1;have y1:=X.wg.cell 1;have y2:=X.wg.cell 2;have y3:=X.wg.cell 3;have V:=X.wg.cell 4;simp only[gu,arh,ari,arj]at U y1 y2 y3 V
       go_upto_if 60 with fail
       go_cut [] (fun wx=>nv w w2 w4 wr l[k] y ⟨n.g+l[k].amount,n.c+(if y.kind=1 then l[k].amount else 0),n.t+(if y.jh=true then l[k].amount else 0),n.i,n.a⟩ wx)
       case first=>
        rcases D:y.jh with _|_;rotate_left
        ·go_wp2;go_meet;have hz:=(X.aao (n.t+l[k].amount))
         simpa[D]using hz
        ·go_wp2;go_meet;simpa[D]using X
       case rest=>
        clear P Q R r3 S G I J K L U y1 y2 y3 V X;have Y:=hcut;clear hcut;obtain⟨P,Q,R,r3,S⟩:=Y.bs.cells;obtain⟨G,I,J,K,L⟩:=Y.bs.zx;have U:=Y.xb.cell 1;have y1:=Y.wg.cell 1;have y2:=Y.wg.cell 2;have y3:=Y.wg.cell 3;have V:=Y.wg.cell 4;simp only[gu,arh,ari,arj]at U y1 y2 y3 V
        go_upto_if 68 with fail
        go_cut [] (fun wx=>nv w w2 w4 wr l[k] y ⟨n.g+l[k].amount,n.c+(if y.kind=1 then l[k].amount else 0),n.t+(if y.jh=true then l[k].amount else 0),n.i+(if y.aF=true then l[k].amount else 0),n.a⟩ wx)
        case first=>
         rcases D:y.aF with _|_;rotate_left
         ·go_wp2;go_meet;have hz:=(Y.aap (n.i+l[k].amount))
          simpa[D]using hz
         ·go_wp2;go_meet;simpa[D]using Y
        case rest=>
         clear P Q R r3 S G I J K L U y1 y2 y3 V Y;have C3:=hcut;clear hcut;obtain⟨P,Q,R,r3,S⟩:=C3.bs.cells;obtain⟨G,I,J,K,L⟩:=C3.bs.zx;have U:=C3.xb.cell 1;have V:=C3.wg.cell 4;simp only[gu,arh,ari,arj]at U V;have ax:∀W',nv w w2 w4 wr l[k] y (zy n y l[k].amount) W'->∃k':Nat,k'<=l.length/\Value.int .i64 ((k:Int)+1)=.int .i64 k'/\Hid (∀j,(F:j<l.length)->j<k'->(ee p l[j].code).isSome=true)/\Bs W' w2.heap.size (fC p (l.take k'))/\Hg (k'*1000000000) (fC p (l.take k'))/\Bs W' w.heap.size eo/\Below w2.heap.size w2 W':=by intro W' hC;refine⟨k+1,by omega,by go_num,Qw.out,by rw[EST.out];exact hC.bs,?_,hC.rs,hC.aU⟩;have e9:((k+1:Nat):Int)*1000000000=(k:Int)*1000000000+1000000000:=(by omega);rw[EST.out,e9];exact O2
         have iU:=aq6 ax;clear ax;rcases D:y.fU with _|_
         ·have C4:nv w w2 w4 wr l[k] y (zy n y l[k].amount) wc:=(by simpa[zy,D]using C3);clear C3;go_wp2;go_roundw
          case rel=>
           have O:=iU.out _ C4
           first|exact O|((repeat apply Exists.intro);exact⟨O,rfl⟩)
          case measure=>simp[intOf];omega
         ·have C4:nv w w2 w4 wr l[k] y (zy n y l[k].amount) (wc.setCell ⟨w2.heap.size,4,none⟩ (.int .i64 (n.a+l[k].amount))):=(by simpa[zy,D]using C3.aaq (n.a+l[k].amount));clear C3;go_wp2;go_roundw
          case rel=>
           have O:=iU.out _ C4
           first|exact O|((repeat apply Exists.intro);exact⟨O,rfl⟩)
          case measure=>simp[intOf];omega
    ·have kr:l.take k=l:=ar0 (by omega);rw[kr]at eX kK;have aE:Hid (missing p l=false):=by
      rw[Hid,missing,arR];intro x hx;obtain⟨j,F,rfl⟩:=arN.1 hx;have:=M.out j F (by omega);rw[Option.isSome_iff_ne_none]at this;simpa using this
     obtain⟨P,Q,R,r3,S⟩:=eX.cells;obtain⟨p0,p1,p2,p3,p4⟩:=N.cells;obtain⟨G,I,J,K,L⟩:=N.zx;have ie:Hid (Below w.heap.size w wr):=bu.trans (ae.mono (by omega));have kB:Hid (dQ p l l=if nR (fC p l)=false then 4 else 0):=by simp only[Hid,dQ,HV.out,H0.out,aE.out,arK,Bool.true_eq_false,ar1,ne_eq,not_true_eq_false]
     have av:w.heap.size<wr.heap.size:=(by omega);clear kr M kK;generalize kW:fC p l=n at*;have aJ:=aq6 kW;clear kW;go_wp2
     go_loop [95] (fun i=>∃k:Nat,k<=5/\i=.int .i64 k/\Hid (∀j,j<k->cx (E8 n j)=true)) (fun i=>5-(intOf i).toNat)
     case atStart=>exact⟨0,by omega,rfl,fun j F=>absurd F (by omega)⟩
     case round=>
      obtain⟨m,hm,rfl,bf⟩:=hrel;by_cases lU:m<5
      ·have a5:=alY n m lU;by_cases ha:cx (E8 n m)=true
       ·go_wp2_with(go_at_call 158;refine(MC _ _).mono ?_;rintro e w' ⟨rfl,rfl⟩);go_round
        case rel=>
         refine⟨m+1,by omega,by go_num,fun j F=>?_⟩;rcases arp j m with h1|h1
         ·exact bf.out j h1
         ·obtain rfl:j=m:=by omega
          exact ha
        case measure=>simp[intOf];omega
       ·have aO:cx (E8 n m)=false:=(by simpa using ha);have HE:Hid (dQ p l l=4):=(by rw[Hid,kB.out,aq9 (alZ lU aO)]);clear ha;go_wp2_with(go_at_call 158;refine(MC _ _).mono ?_;rintro e w' ⟨rfl,rfl⟩);have u:=(N.put eo)
        have z:Below w.heap.size w _:=Db ie.out (aq7 _) (.int .i64 0) (.int .i64 0) (.int .i64 0) (.int .i64 0) (.int .i64 0);simp only[eo]at u;generalize World.setCell _ ⟨w.heap.size,4,none⟩ _=WW at u z|-;obtain⟨z0,z1,z2,z3,z4⟩:=u.cells;refine art (v:=gD p l l) ?_ rfl ⟨rfl,z⟩;rw[gD,HE.out];simp[results,results102,go_sem,z0,z1,z2,z3,z4,mC,eo]
      ·have HE:Hid (dQ p l l=0):=(by rw[Hid,kB.out,aq8 (by rw[al0 (fun j F=>bf.out j (by omega))];simp)]);go_wp2;have u:=(N.put n)
       have z:Below w.heap.size w _:=Db ie.out (aq7 _) (.int .i64 n.g) (.int .i64 n.c) (.int .i64 n.t) (.int .i64 n.i) (.int .i64 n.a);generalize World.setCell _ ⟨w.heap.size,4,none⟩ _=WW at u z|-;obtain⟨z0,z1,z2,z3,z4⟩:=u.cells;refine art (v:=gD p l l) ?_ rfl ⟨rfl,z⟩;rw[gD,HE.out,aq9 rfl,aJ.out];simp[results,results102,go_sem,z0,z1,z2,z3,z4,mC]
  ·have JR:(dP l !=0)=true:=(by simpa using h0);have HE:Hid (dQ p l l=dP l):=by
    rw[Hid,dQ,aq8 (by simp[HV.out]),aq9 h0]
   have H0:=aq6 h0;obtain⟨p0,p1,p2,p3,p4⟩:=aD.cells;obtain⟨G,I,J,K,L⟩:=aD.zx;have ie:=aq6 bu;clear h0;go_wp2;have u:=(aD.put eo)
   have z:Below w.heap.size w _:=Db ie.out (aq7 _) (.int .i64 0) (.int .i64 0) (.int .i64 0) (.int .i64 0) (.int .i64 0);simp only[eo]at u;generalize World.setCell _ ⟨w.heap.size,4,none⟩ _=WW at u z|-;obtain⟨z0,z1,z2,z3,z4⟩:=u.cells;refine art (v:=gD p l l) ?_ rfl ⟨rfl,z⟩;rw[gD,HE.out,aq8 H0.out];simp[results,results102,go_sem,z0,z1,z2,z3,z4,mC,eo]
 ·have aP:jV p=false:=by simpa using hv
  have HE:Hid (dQ p l l=1):=by rw[Hid,dQ,aq9 aP]
  obtain⟨p0,p1,p2,p3,p4⟩:=ai.cells;obtain⟨G,I,J,K,L⟩:=ai.zx;have ie:=aq6 aT;clear hv;go_wp2;have u:=(ai.put eo)
  have z:Below w.heap.size w _:=Db ie.out (aq7 _) (.int .i64 0) (.int .i64 0) (.int .i64 0) (.int .i64 0) (.int .i64 0);simp only[eo]at u;generalize World.setCell _ ⟨w.heap.size,4,none⟩ _=WW at u z|-;obtain⟨z0,z1,z2,z3,z4⟩:=u.cells;refine art (v:=gD p l l) ?_ rfl ⟨rfl,z⟩;rw[gD,HE.out];simp[results,results102,go_sem,z0,z1,z2,z3,z4,mC,eo]
def gi(p:ByteArray->Bool):List Elem->Int
 |[]=>0
 |x::l=>(if p x.code=true then x.amount else 0)+gi p l
theorem akx(p:ByteArray->Bool)(l m:List Elem):gi p (l++m)=gi p l+gi p m:=by
 induction l with
 |nil=>simp[gi]
 |cons a l e=>simp only[List.cons_append,gi,e];omega
theorem al4(p:ByteArray->Bool)(l:List Elem)(e:Elem):gi p (put l e)=gi p l+if p e.code=true then e.amount else 0:=by
 induction l with
 |nil=>simp[put,gi]
 |cons a l j=>
  rw[put];split
  ·simp only[gi,j];omega
  ·split
   ·rename_i h;have n:a.code=e.code:=by
     apply U9;rw[ByteArray.toList_eq,ByteArray.toList_eq]at h;simpa using h
    simp only[gi,n];split<;>omega
   ·simp only[gi];omega
theorem al5(p:ByteArray->Bool)(l:List Elem):∀e,gi p (l.foldl put e)=gi p e+gi p l:=by
 induction l with
 |nil=>intro e;simp[gi]
 |cons a l j=>intro e;rw[asq,j,al4];simp only[gi];omega
theorem al6(p:ByteArray->Bool)(l:List Elem):gi p (bB l)=gi p l:=by rw[bB,al5];simp[gi]
def oU(e:List cI)(c:ByteArray):cI:=(ee e c).getD mI
theorem al7(e:List cI)(l:List Elem):∀b:fA,l.foldl (I8 e) b=⟨b.g+gi (fun _=>true) l,b.c+gi (fun c=>decide ((oU e c).kind=1)) l,b.t+gi (fun c=>(oU e c).jh) l,b.i+gi (fun c=>(oU e c).aF) l,b.a+gi (fun c=>(oU e c).fU) l⟩:=by
 induction l with
 |nil=>intro b;simp[gi]
 |cons x l j=>intro b;rw[asq,j];simp only[I8,zy,gi,oU,arI,Int.add_assoc];by_cases n:((ee e x.code).getD mI).kind=1<;>simp[n]<;>(refine⟨?_,?_,?_⟩<;>congr)
theorem Vl(e:List cI)(l:List Elem):fC e l=⟨gi (fun _=>true) l,gi (fun c=>decide ((oU e c).kind=1)) l,gi (fun c=>(oU e c).jh) l,gi (fun c=>(oU e c).aF) l,gi (fun c=>(oU e c).fU) l⟩:=by rw[fC,al7];simp[eo]
theorem Uk(e:List cI)(l:List Elem):fC e (bB l)=fC e l:=by rw[Vl,Vl];simp only[al6]
theorem acq(n:List cI)(l:List Elem):missing n (bB l)=missing n l:=by
 rw[Bool.eq_iff_iff,missing,missing,arX,arX];constructor
 ·rintro⟨x,j,h⟩;obtain⟨y,hy,e⟩:=U8 j;exact⟨y,hy,by rw[e];exact h⟩
 ·rintro⟨y,hy,h⟩;have p:fF (bB l) y.code.data.toList=true:=by
   rw[Q5];exact arX.2 ⟨y,hy,by simp⟩
  obtain⟨x,j,e⟩:=arX.1 p;have r:x.code=y.code:=U9 (by simpa using e);exact⟨x,j,by rw[r];exact h⟩
theorem al8(e:List cI)(l:List Elem):gD e l (bB l)=gD e l l:=by
 have h:dQ e l (bB l)=dQ e l l:=by simp only[dQ,Uk,acq]
 rw[gD,gD,h,Uk]
open Go.RowKit Go.Sort Go.Shelf
theorem al9{e:List cI}(j:jV e=true){c:ByteArray}(p:(ee e c).isSome=true):((ee e c).getD mI).kind=1\/((ee e c).getD mI).kind=2:=by obtain⟨x,l⟩:=Option.isSome_iff_exists.1 p;rw[l];have r:=List.mem_of_find?_eq_some (show e.find? (Il c)=some x from l);simp only[jV,arw,arz]at j;obtain⟨i,hi,rfl⟩:=arN.1 r;have n:=j.2 i hi;simp only[mJ,arw,Bool.or_eq_true,beq_iff_eq]at n;exact n.1.1.2
def ama(e:World)(g:Nat)(c:mz)(s:jn)(j:List dE)(b:fA)(l:List dE)(w':World):Prop:=
 ∃n,dF e g c {s with b:=b,lv:=n,left:=b.c} (j++l) w'
theorem amb{n:World}{g:Nat}{c:mz}{s:jn}{Q:List dE}{w:World}(h:dF n g c s Q w)(hr:c.r.In n)(E:Option Addr)(U:Nat)(e:List Elem)(hE:aj aN 2 n n.heap.size E e)(R:jV c.r.ws=true)
  (hz:∀x∈e,x.code.size<=maxLen) (EM:e.length<=1000000) (hl:Q.length<=100):
  Calls prog 52 #[.pointer (some ⟨g,0,none⟩),.slice E e.length U] w (Lh n (dQ c.r.ws e (bB e)) (ama n g c s Q (fC c.r.ws (bB e)) (kD c.r.ws ((bB e).filter nz)))):=by
 have V:Hid (∀W,Below n.heap.size n W->Calls prog 102 #[.slice c.r.Aw c.r.ws.length c.r.cw,.slice E e.length U] W fun x w'=>x=.returned (gD c.r.ws e (bB e))/\Below W.heap.size W w'):=fun W I=>by rw[al8];exact al1 c.r.Aw E c.r.cw U c.r.ws e W (hr.ws.aa I) (IM R).2 (by have:=(IM R).1;omega) (hE.aa I) hz (by omega)
 have z0:w.cell? ⟨g,0,none⟩=some (.slice c.r.Aw c.r.ws.length c.r.cw):=h.blk.cell 0;obtain⟨X,p⟩:∃X,X=dQ c.r.ws e (bB e):=⟨_,rfl⟩
 rw[<-p];by_cases h0:X=0;rotate_left
 ·have Y:Hid (gD c.r.ws e (bB e)=.tuple #[.agg #[.int .i64 0,.int .i64 0,.int .i64 0,.int .i64 0,.int .i64 0],.int .i64 X]):=by
   rw[Hid,gD,<-p,aq8 h0];rfl
  rw[Y.out]at V;have Z:=h.aU;clear h hr hE R hz p Y;go_enter func52,ntmps52;go_wp2_with fail;refine(V.out _ Z).mono ?_;rintro x D ⟨rfl,u⟩;have aT:=aB Z u;have aW:(X !=0)=true:=by simp[h0]
  go_upto_region 2 with fail
  have B:=bF D (.cells #[.int .i64 0,.int .i64 0,.int .i64 0,.int .i64 0,.int .i64 0] 24);have bu:=aB aT B;generalize D.alloc (Obj.cells _ _)=W2 at bu|-;go_wp2;go_ret;exact⟨rfl,bu,fun e=>absurd e h0⟩
 ·subst h0;obtain⟨_,k6,VW,VX⟩:=GZ p.symm;have I:=L0 VX;have Y:Hid (gD c.r.ws e (bB e)=.tuple #[.agg #[.int .i64 (fC c.r.ws (bB e)).g,.int .i64 (fC c.r.ws (bB e)).c,.int .i64 (fC c.r.ws (bB e)).t,.int .i64 (fC c.r.ws (bB e)).i,.int .i64 (fC c.r.ws (bB e)).a],.int .i64 0]):=by
   rw[Hid,gD,<-p,aq9 rfl];rfl
  rw[Y.out]at V;have QU:Hid (∀W,Below n.heap.size n W->Calls prog 103 #[.slice E e.length U] W fun x w'=>∃A L,x=.returned (.tuple #[.slice A ((bB e).filter nz).length L,.int .i64 0])/\aj aN 2 w' w'.heap.size A ((bB e).filter nz)/\(∀a,A=some a->W.heap.size<=a.block)/\Below W.heap.size W w'):=fun W I=>by have J:AW e=(bB e).filter nz:=(by rw[AW,aq9 k6]);have:=ae9 E U e W (hE.aa I) hz (by omega);rw[J,k6]at this;exact this.mono fun _ _ ⟨A,L,h1,h2,_,_,h5,h6⟩=>⟨A,L,h1,h2,h5,h6⟩
  have kA:Hid (∀x∈(bB e).filter nz,∀W,Below n.heap.size n W->Calls prog 74 #[.slice c.r.Aw c.r.ws.length c.r.cw,.string x.code] W fun e w'=>e=.returned (.tuple #[.agg (gu ((ee c.r.ws x.code).getD mI)).toArray,.bool true])/\Below W.heap.size W w'):=fun x hx W I=>by
   have hs:(ee c.r.ws x.code).isSome=true:=by have:=arR.1 VW x (Dc hx);cases hh:ee c.r.ws x.code<;>simp_all
   have:=ZQ c.r.Aw c.r.cw c.r.ws x.code W (hr.ws.aa I) (by have:=(IM R).1;omega)
   rwa [AV,hs]at this
  have ao:Hid (∀x∈(bB e).filter nz,((ee c.r.ws x.code).getD mI).kind=1\/((ee c.r.ws x.code).getD mI).kind=2):=fun x hx=>by refine al9 R ?_;have:=arR.1 VW x (Dc hx);cases hh:ee c.r.ws x.code<;>simp_all
  have aS:((bB e).filter nz).length<=128:=arq (arJ _ _) (VY k6).2;have Ie:Hid (∀k,(kD c.r.ws (((bB e).filter nz).take k)).length<=128):=fun k=>by have:=arJ nz (((bB e).filter nz).take k);simp only[kD,arV,ar7]at this|-;omega
  have UW:Hid (∀x∈(bB e).filter nz,x.amount≠0):=fun x hx=>by have:=(ass.1 hx).2;simpa[nz]using this
  have HI:=aq6 h;have Z:=h.aU;clear h hr hE R hz p Y k6 VW VX;generalize (bB e).filter nz=j at*;generalize fC c.r.ws (bB e)=b at*;obtain⟨⟨g0,g1⟩,⟨c0,c1⟩,⟨t0,t1⟩,⟨i0,i1⟩,⟨a0,a1⟩⟩:=I;go_enter func52,ntmps52;go_wp2_with fail;refine(V.out _ Z).mono ?_;rintro x D ⟨rfl,u⟩;have z:=HI.out.aa u;have eF:=Mv.aU (g:=g) (v:=s.lv) u;go_upto_region 2 with fail
  have eX:=ah.new D 24 #[.int .i64 b.g,.int .i64 b.c,.int .i64 b.t,.int .i64 b.i,.int .i64 b.a];have B:=bF D (.cells #[.int .i64 b.g,.int .i64 b.c,.int .i64 b.t,.int .i64 b.i,.int .i64 b.a] 24);have ab:D.heap.size≠g:=by have:=z.lt;omega
  have ad:s.lv.ownBlock≠some D.heap.size:=fun e=>by have:=(z.row _ e).2;omega
  have Ov:=Mv.aU (g:=g) (v:=s.lv) B;have S:=z.aa B;have jO:=eF.trans Ov;generalize D.heap.size=gb at*;generalize D.alloc (Obj.cells _ _)=W2 at eX S jO|-;clear z eF Ov B u HI V;go_wp2_with fail;refine(QU.out _ S.aU).mono ?_;rintro x w3 ⟨A3,c3,rfl,gU,af,M⟩;have ai:=mQ.new gU af S.lt (fun q hq=>(S.row q hq).2);have jY:=S.aa M;have bz:=eX.aa M;have QH:Hid (mQ aN 2 w3 g s.lv A3 j):=ai;clear S jO eX gU af M QU Z ai;go_wp2_with fail
  go_loopw [36] (fun i wr=>∃(k:Nat) (K:Value),k<=j.length/\i=.int .i64 k/\dF n g c {s with lv:=K} (Q++kD c.r.ws (j.take k)) wr/\Mv g s.lv w3 K wr) (fun i _=>j.length-(intOf i).toNat)
  case atStart=>exact⟨0,s.lv,by omega,rfl,by simpa[kD]using jY,Mv.refl _ _ _⟩
  case round=>
   rename World=>wr
   obtain⟨k,vl,hk,rfl,l,J⟩:=hrel;have aZ:=bz.mv J ab ad;have ap:=J.far bz.lt ad;by_cases N:k<j.length
   ·obtain⟨bb,a2,Cz,kW,hc⟩:=(QH.out.mv J).sl.at_ N;have c0:=hc 0 _ rfl;have c1:=hc 1 _ rfl;simp only[ara]at c0;rw[Cz];have jA:=arc N;have o8:Hid (kD c.r.ws (j.take (k+1))=kD c.r.ws (j.take k)++[⟨O3 c.r.ws j[k],j[k].code,j[k].amount⟩]):=by
     rw[Hid,arA N,afe];congr 1;rw[kD,List.filter_cons_of_pos (by simp[nz,UW.out _ jA])];rfl
    have gK:(k:Int)<(j.length:Int):=(by omega);have O:=aq6 (kA.out _ jA);have av:=aq6 (ao.out _ jA);have al:Hid (O3 c.r.ws j[k]=if((ee c.r.ws j[k].code).getD mI).kind=1 then 1 else 2):=by rw[Hid,O3,gX];by_cases hh:((ee c.r.ws j[k].code).getD mI).kind=1<;>simp[hh]
    have am:=UW.out _ jA;have LA:=Ie.out k;clear hc jA;generalize j[k]=x at*;generalize ay:(ee c.r.ws x.code).getD mI=wt at*;have QQ:Hid (∀kd,ag kd [⟨x.code,x.amount⟩]=[⟨kd,x.code,x.amount⟩]):=fun kd=>ab6 kd x.code am;have dB:=ah.new wr 69 #[.string x.code,.int .i64 x.amount];have B:=bF wr (.cells #[.string x.code,.int .i64 x.amount] 69);have nZ:vl.ownBlock≠some wr.heap.size:=fun e=>by have:=(l.row _ e).2;omega
    have a3:wr.heap.size≠g:=(by have:=l.lt;omega);go_upto_region 10 with fail
    generalize wr.alloc (Obj.cells _ _)=W1 at dB B|-;have z:=l.aa B;have eF:=J.trans (Mv.aU B);clear B;generalize wr.heap.size=go at*;have RH:=z.lt;have lj:=dB.lt;have O4:W1.cell? ⟨g,0,none⟩=some (.slice c.r.Aw c.r.ws.length c.r.cw):=z.blk.cell 0;have an:W1.cell? ⟨go,0,none⟩=some (.string x.code):=dB.cell 0;clear l J c0 c1 ay am;go_upto_region 11 with fail
    refine X4 (aE:=?Co) (t:=77) (zs:=#[.string ⟨#[]⟩,.int .i64 0,.bool false,.bool false,.bool false,.int .i64 0]) [0,1,2,3,4,5,6,7,8,9,10] 11 12 13 #[.string wt.code,.int .i64 wt.kind,.bool wt.jh,.bool wt.aF,.bool wt.fU,.int .i64 wt.eK] (.bool true) (by kernel_rfl) (by kernel_rfl) rfl (by kernel_rfl) (by kernel_rfl) (by rfl) (by kernel_rfl) (by kernel_rfl) (by kernel_rfl) (by kernel_rfl) rfl rfl rfl rfl rfl rfl rfl rfl rfl rfl rfl (fun _ _=>by go_simp) rfl (by kernel_rfl) rfl ?H1 ?E1 ?M1
    case H1=>
     intro F hF aV;simp only[M3.cL,arh,ari,arj];have e0:=aR.dL (F:=F) (a:=⟨g,0,none⟩) (by exact RH) O4;have d0:=aR.dL (F:=F) (a:=⟨go,0,none⟩) (by exact lj) an
     repeat(first|go_big_quiet_step(first|(with_reducible exact aR.call (iw _ _ (aq7 _)) hF _ (O.out _ (aB z.aU (aR.h _)))))|quiet_step(first|(with_reducible exact aR.call (iw _ _ (aq7 _)) hF _ (O.out _ (aB z.aU (aR.h _))))))
     refine wpQuiet_nil ?_;rfl
    case E1=>exact fun _=>⟨rfl,rfl,rfl⟩
    case M1=>
     intro g2 w4 a4 oV G
     try simp only[Act.put,ary,arv,arx]
     have lD:=z.aa G;have kG:=eF.trans (Mv.aU G);have P:=dB.aa G;have z1:w4.cell? ⟨g2,1,none⟩=some (.int .i64 wt.kind):=oV.cell 1;have q0:w4.cell? ⟨go,0,none⟩=some (.string x.code):=P.cell 0;have q1:w4.cell? ⟨go,1,none⟩=some (.int .i64 x.amount):=P.cell 1;clear z eF dB G O4 an O oV P;rcases av.out with CN|hk2
     ·have az:(wt.kind==2)=false:=(by simp[CN]);rw[al.out,aq9 CN]at o8;go_wp2_with fail;refine(JH lD 1 x.code x.amount (by simp;omega)).mono ?_;rintro e w5 ⟨rfl,v5,C,T⟩;have zI:=kG.trans T;rw[QQ.out,ar6,<-o8.out]at C;go_wp2;go_roundw
      case rel=>
       have ax:∃(k':Nat) (K:Value),k'<=j.length/\Value.int .i64 ((k:Int)+1)=.int .i64 k'/\dF n g c {s with lv:=K} (Q++kD c.r.ws (j.take k')) w5/\Mv g s.lv w3 K w5:=⟨k+1,v5,by omega,by go_num,C,zI⟩
       first|exact ax|((repeat apply Exists.intro);exact⟨ax,rfl⟩)
      case measure=>simp[intOf];omega
     ·have az:(wt.kind==2)=true:=(by simp[hk2]);rw[al.out,aq8 (by omega)]at o8;go_wp2_with fail;refine(JH lD 2 x.code x.amount (by simp;omega)).mono ?_;rintro e w5 ⟨rfl,v5,C,T⟩;have zI:=kG.trans T;rw[QQ.out,ar6,<-o8.out]at C;go_wp2;go_roundw
      case rel=>
       have ax:∃(k':Nat) (K:Value),k'<=j.length/\Value.int .i64 ((k:Int)+1)=.int .i64 k'/\dF n g c {s with lv:=K} (Q++kD c.r.ws (j.take k')) w5/\Mv g s.lv w3 K w5:=⟨k+1,v5,by omega,by go_num,C,zI⟩
       first|exact ax|((repeat apply Exists.intro);exact⟨ax,rfl⟩)
      case measure=>simp[intOf];omega
   ·obtain rfl:k=j.length:=by omega
    rw[arW]at l;have aA:wr.cell? ⟨g,27,none⟩=some (.int .i64 s.b.g):=l.blk.cell 27;have aD:wr.cell? ⟨g,28,none⟩=some (.int .i64 s.b.c):=l.blk.cell 28;have aJ:wr.cell? ⟨g,29,none⟩=some (.int .i64 s.b.t):=l.blk.cell 29;have aO:wr.cell? ⟨g,30,none⟩=some (.int .i64 s.b.i):=l.blk.cell 30;have aP:wr.cell? ⟨g,31,none⟩=some (.int .i64 s.b.a):=l.blk.cell 31;have f27:=l.blk.frozen 27;have f28:=l.blk.frozen 28;have f29:=l.blk.frozen 29;have f30:=l.blk.frozen 30;have f31:=l.blk.frozen 31;obtain⟨z0,z1,z2,z3,z4⟩:=aZ.cz5;go_upto_region 17 with fail
    have C:=l.amc b;have T:=dF.mvB (g:=g) (w:=wr) b vl;generalize World.setCell _ ⟨g,31,none⟩ _=W5 at C T|-;have eM:=aZ.mv T ab ap;have b1:W5.cell? ⟨gb,1,none⟩=some (.int .i64 b.c):=eM.cell 1;have a5:W5.cell? ⟨g,33,none⟩=some (.int .i64 s.left):=C.blk.cell 33;have f33:=C.blk.frozen 33;clear l J aZ eM z0 z1 z2 z3 z4 aA aD aJ aO aP f27 f28 f29 f30 f31;go_wp2;go_ret;have oG:=C.T8 b.c;exact⟨rfl,oG.aU,fun _=>⟨vl,oG⟩⟩
