/- Conditions: as stated. -/
import Derived.Test.YtlhkojcmcmkmaaaGreatSP32g
set_option maxRecDepth 100000
set_option maxHeartbeats 8000000
namespace Go.Proofs.YtlhkojcmcmkmaaaGreat
open Go.Proofs.Tryz
open Go.RowKit Go.Sort Go.Shelf Go.Maps
structure Ii(K:List UInt8->Bool)(T:List UInt8->Int)(left:Lit->Bool)(ys:List Elem):Prop where
 sound:∀x∈ys,K x.code.data.toList=true/\x.amount=T x.code.data.toList/\x.amount≠0/\left (key x.code)=false
 full:∀c,K c=true->left (.string c)=false->cy (T c)=true/\(T c≠0->∃x∈ys,x.code.data.toList=c)
 nodup:ys.Pairwise (fun a b=>a.code≠b.code)
theorem Ii.start{D:DataW Unit}{K:List UInt8->Bool}{T:List UInt8->Int}(h:DZ D K T):Ii K T (Maps.has D) []:=
 ⟨by simp,(fun c j e=>by rw[h.has c,j]at e;cases e),List.Pairwise.nil⟩
theorem Ii.step{K:List UInt8->Bool}{T:List UInt8->Int}{left:Lit->Bool}{n:List Elem}(h:Ii K T left n){s:ByteArray}{c:Int}(J:left (key s)=true)(L:K s.data.toList=true)(B:T s.data.toList=c)(M:cy c=true):
  (c≠0->Ii K T (fun z=>left z&&!z.sameKey (key s)) (n++[⟨s,c⟩]))/\(c=0->Ii K T (fun z=>left z&&!z.sameKey (key s)) n):=by
 have N:(key s).sameKey (key s)=true:=WideAt.sameKey_self trivial;have F:∀x∈n,K x.code.data.toList=true/\x.amount=T x.code.data.toList/\x.amount≠0/\(left (key x.code)&&!(key x.code).sameKey (key s))=false:=by intro x p;obtain⟨h1,O,P,Q⟩:=h.sound x p;exact⟨h1,O,P,by simp[Q]⟩
 have G:∀d,K d=true->(left (.string d)&&!(Lit.string d).sameKey (key s))=false->(cy (T d)=true/\(T d≠0->d≠s.data.toList->∃x∈n,x.code.data.toList=d)):=by
  intro d hd j;by_cases e:d=s.data.toList
  ·subst e;exact⟨by rw[B];exact M,fun _ h=>absurd rfl h⟩
  ·have C:(Lit.string d).sameKey (key s)=false:=sameKey_ne (fun R=>e (by simpa[key]using R));rw[C]at j;simp at j;obtain⟨r,u⟩:=h.full d hd j;exact⟨r,fun l _=>u l⟩
 refine⟨fun D=>⟨fun x p=>?_,fun d hd j=>?_,?_⟩,fun D=>⟨F,fun d hd j=>?_,h.nodup⟩⟩
 ·rcases asf.1 p with h1|h1
  ·exact F x h1
  ·simp at h1;subst h1;exact⟨L,B.symm,D,by show(left (key s)&&!(key s).sameKey (key s))=false;rw[N];simp⟩
 ·obtain⟨r,u⟩:=G d hd j;refine⟨r,fun l=>?_⟩;by_cases e:d=s.data.toList
  ·exact⟨⟨s,c⟩,by simp,e.symm⟩
  ·obtain⟨x,p,S⟩:=u l e;exact⟨x,by simp[p],S⟩
 ·rw[List.pairwise_append];refine⟨h.nodup,List.pairwise_singleton _ _,fun a E b I=>?_⟩;simp at I;subst I;intro e;have:=(h.sound a E).2.2.2;rw[show key a.code=key s by rw[e],J]at this;cases this
 ·obtain⟨r,u⟩:=G d hd j;refine⟨r,fun l=>?_⟩;by_cases e:d=s.data.toList
  ·subst e;rw[B]at l;exact absurd D l
  ·exact u l e
def al4(K:List UInt8->Bool)(T:List UInt8->Int)(n:Nat)(w:World)(e:Ending)(w':World):Prop:=
 Below w.heap.size w w'/\(((∃c,K c=true/\cy (T c)=false)/\e=.returned (.tuple #[.slice none 0 0,.int .i64 4]))\/
  ((∀c,K c=true->cy (T c)=true)/\∃A j l,e=.returned (.tuple #[.slice A l.length j,.int .i64 0])/\aj aQ 2 w' w'.heap.size A l/\l.length<=n/\l.length<=j/\j<=maxLen/\(∀a,A=some a->w.heap.size<=a.block)/\
   l.Pairwise (fun a b=>ju a b=true)/\∀x:Elem,x∈l↔(K x.code.data.toList=true/\x.amount=T x.code.data.toList/\x.amount≠0)))
theorem al5(B n:Nat)(D:DataW Unit)(K:List UInt8->Bool)(T:List UInt8->Int)(w:World)(C:w.ownsMap prog 9 (plainElem (H:=Unit) prog 3) B n D)(hD:DZ D K T)(hn:n<=100000):
  Calls prog 159 #[.map (some B)] w (al4 K T n w):=by
 have ap:B<w.heap.size:=by obtain⟨es,J,hb,_⟩:=C;exact(as1.1 hb).1
 have L:Maps.size D<=n:=by obtain⟨es,J,_,_,nv,rfl⟩:=C;rw[Maps.size_eq,abQ];simpa using nv
 go_enter func159,ntmps159;go_wp2_with(at_range;refine wpList_range_own _ (by rfl) _ 181 (by rfl) 9 3 G2 underlying181 (plainElem (H:=Unit) prog 3) B n D (by rfl) C ?_;intro w0 O ab au)
 go_frame
 go_loopw [4,5] (fun v _ wr=>∃left l u,wr.ranges prog 9 (plainElem (H:=Unit) prog 3) B w.heap.size n D left l/\Own aQ 2 69 wr (w.heap.size+1) v u/\Ii K T left u/\u.length+l<=n/\Below w.heap.size w wr) (fun _ _ wr=>wr.rangeLeft B w.heap.size)
 case atStart=>exact⟨_,_,[],O,Own.cL _ _,Ii.start hD,by simpa using L,gU ab (arI _) (by simp)⟩
 case round=>
  obtain⟨left,l,u,F,E,G,an,ae⟩:=hrel;have bA:=ae.size;have ky:=F.lt;go_wp2_with(at_next;refine wpList_next_ranges _ (by rfl) _ (by rfl) 9 G2 (plainElem (H:=Unit) prog 3) Value.string (Value.int .i64) (fun key kl hk=>by obtain⟨x,P,_⟩:=Maps.keyOf_str underlying9 hk;exact⟨_,P⟩) (fun v y Z=>by obtain⟨c,N,_⟩:=plainElem_int_inv underlying3 Z;exact⟨c,N⟩) B w.heap.size n _ _ _ (by rfl) F ?_ ?_)
  ·intro r Q;obtain⟨A5,c5,rfl,cZ,eJ,oW,oX⟩:=E.kM dB;go_wp2_with fail;refine(al6 A5 c5 (w.heap.size+1) u _ E (by omega)).mono ?_;rintro e w1 ⟨rfl,zs,hp,oD,P9,ad⟩;have FX:=hp.length_eq;go_wp2;go_ret2;refine⟨ae.trans (ad.mono (by omega)),.inr ⟨fun c N=>(G.full c N (Q _)).1,A5,c5,zs,by rw[FX];rfl,P9,by omega,by omega,oX,(fun a R=>by have:=eJ a R;omega),?_,fun x=>?_⟩⟩
   ·exact XX oD (G.nodup.perm hp.symm (fun h e=>h e.symm))
   ·rw[hp.mem_iff];refine⟨fun P=>⟨(G.sound x P).1,(G.sound x P).2.1,(G.sound x P).2.2.1⟩,fun⟨z,S,h3⟩=>?_⟩;obtain⟨y,hy,XN⟩:=(G.full _ z (Q _)).2 (by rw[<-S];exact h3);have XO:y=x:=by
     obtain⟨_,g2,_⟩:=G.sound y hy;have N:y.code=x.code:=key_inj (by simp[key,XN]);obtain⟨a,b⟩:=y;obtain⟨c,d⟩:=x;simp only at N g2 S;subst N;rw[g2,S]
    rw[<-XO];exact hy
  ·intro s c kl yd yp w2 ao I af Z M p av U ai ay;obtain⟨x',Ip,rfl,FW⟩:=Maps.keyOf_str underlying9 I;have XY:x'=s.data.toList:=by
    have z:s=⟨x'.toArray⟩:=(by simpa[encStr]using Ip);rw[z]
   subst XY;have Qb:yd=Qc c:=by
    obtain⟨c',z,S,_⟩:=plainElem_int_inv underlying3 Z;injection z with _ z
    subst z;injection S
   have Uk:K s.data.toList=true:=(by rw[<-hD.has];exact has_true_of_atKey M);have Iq:T s.data.toList=c:=by
    have z:=hD.at_ s.data.toList;rw[M,Qb]at z;injection z with z
    injection z with _ z
    exact z.symm
   have XZ:left (key s)=true:=af;have j:=E.kept U (by intro g e;injection e;omega);have bB:Below w.heap.size w w2:=ae.grown U bA (by intro g e;injection e;omega);have X0:=bB.size;have az:=p.lt;have HT:=arH Iq;clear ai M I Ip Z Qb Iq;by_cases R:cy c=true
   ·have V:=arH (G.step XZ Uk HT.out R);by_cases r:c=0
    ·have oF:(c !=0)=false:=(by simp[r]);have JR:=V.out.2 r;clear r;go_wp2_with(go_at_call 158;refine(Nd _ _).mono ?_;rintro e w' ⟨rfl,rfl⟩);go_roundw
     case rel=>
      have X:∃left l u,w2.ranges prog 9 (plainElem (H:=Unit) prog 3) B w.heap.size n D left l/\Own aQ 2 69 w2 (w.heap.size+1) u4 u/\Ii K T left u/\u.length+l<=n/\Below w.heap.size w w2:=⟨_,_,u,p,j,JR,by omega,bB⟩
      first|exact X|((repeat apply Exists.intro);exact⟨X,rfl⟩)
     case measure=>rw[p.left_eq,F.left_eq];omega
    ·have oF:(c !=0)=true:=(by simp[r]);have JR:=V.out.1 r;have Y:some B≠u4.ownBlock:=fun e=>by have:=(j.cm e.symm).1;omega
     have Ir:some w.heap.size≠u4.ownBlock:=fun e=>by have:=(j.cm e.symm).1;omega
     have al:=fun g hg=>(j.cm (g:=g) hg).1;clear r;go_wp2_with(first|(go_at_call 158;refine(Nd _ _).mono ?_;rintro e w' ⟨rfl,rfl⟩)|(at_builtin;(refine mQ _ _ 51 ⟨s,c⟩ _ 24 _ ll underlying51 j dB (by omega) rfl (kO _) (by omega) (by omega) (by omega) (by rfl) (by rfl) (by rfl) (by rfl) (by simp) (by rfl) ?_);intro v2 w6 dc ik));go_roundw
     case rel=>
      have X:∃left l u,w6.ranges prog 9 (plainElem (H:=Unit) prog 3) B w.heap.size n D left l/\Own aQ 2 69 w6 (w.heap.size+1) v2 u/\Ii K T left u/\u.length+l<=n/\Below w.heap.size w w6:=⟨_,_,_,p.kept ik Y Ir,dc,JR,by simp;omega,bB.grown ik X0 (fun g hg=>by have:=al g hg;omega)⟩
      first|exact X|((repeat apply Exists.intro);exact⟨X,rfl⟩)
     case measure=>rw[(p.kept ik Y Ir).left_eq,F.left_eq];omega
   ·have am:cy c=false:=(by simpa using R);clear R;go_wp2_with(go_at_call 158;refine(Nd _ _).mono ?_;rintro e w' ⟨rfl,rfl⟩);go_ret2;exact⟨bB,.inl ⟨⟨_,Uk,by rw[HT.out];exact am⟩,rfl⟩⟩
open Go.RowKit
theorem YO(l:List Elem):(bF l).any (fun x=>!cy x.amount)=true↔∃c,fN l c=true/\cy (cE l c)=false:=by
 rw[asx];constructor
 ·rintro⟨x,e,h⟩;rw[mem_sorted (Jg l),Ry,Rx]at e;exact⟨_,e.1,by rw[<-e.2];simpa using h⟩
 ·rintro⟨c,j,h⟩;obtain⟨x,e,p⟩:=asx.1 j;have n:x.code.data.toList=c:=by simpa using p
  refine⟨⟨x.code,cE l c⟩,?_,by simp[h]⟩;rw[mem_sorted (Jg l),Ry,Rx];exact⟨by show fN l x.code.data.toList=true;rw[n];exact j,by show cE l c=cE l x.code.data.toList;rw[n]⟩
theorem al7(l:List Elem)(c:List UInt8)(h:∀x∈l,cy x.amount=true):-(l.length*1000000000:Int)<=cE l c/\cE l c<=l.length*1000000000:=by
 induction l with
 |nil=>simp[cE]
 |cons a l e=>
  have p:=e (fun x j=>h x (by simp[j]));have r:-1000000000<=a.amount/\a.amount<=1000000000:=by have:=h a (by simp);simpa[cy]using this
  simp only[cE,arZ];have n:((l.length+1:Nat):Int)*1000000000=(l.length:Int)*1000000000+1000000000:=by omega
  rw[n];split<;>omega
def al8(m:List Elem)(l:Int)(w:World)(e:Ending)(w':World):Prop:=
 ∃A j,e=.returned (.tuple #[.slice A m.length j,.int .i64 l])/\aj aQ 2 w' w'.heap.size A m/\m.length<=j/\j<=maxLen/\Below w.heap.size w w'
def afo(m:List Elem)(l:Int)(w:World)(e:Ending)(w':World):Prop:=
 ∃A j,e=.returned (.tuple #[.slice A m.length j,.int .i64 l])/\aj aQ 2 w' w'.heap.size A m/\m.length<=j/\j<=maxLen/\(∀a,A=some a->w.heap.size<=a.block)/\Below w.heap.size w w'
theorem afp(A:Option Addr)(ab:Nat)(l:List Elem)(w:World)(h:aj aQ 2 w w.heap.size A l)(hz:∀x∈l,x.code.size<=maxLen)(hl:l.length<=9223372036854775806):
  Calls prog 103 #[.slice A l.length ab] w (afo (BG l) (dU l) w):=by
 have HZ:=arH hz;clear hz;have Az:∀(n:Int) (W:World),n≠0->dU l=n->Below w.heap.size w W->afo (BG l) (dU l) w (Ending.returned (.tuple #[.slice none 0 0,.int .i64 n])) W:=by
  intro n W G he Y;have hm:BG l=[]:=by rw[BG,arJ (by rw[he];exact G)]
  rw[hm,he];exact⟨none,0,rfl,aj.cL,by simp,by unfold maxLen;omega,(fun a ha=>by cases ha),Y⟩
 have u:=arH Az;clear Az;have D2:=@run_makeMap prog;by_cases J:128<l.length
 ·have F:Hid (dU l=3):=by simp only[Hid,dU,arK J]
  go_enter func103,ntmps103;go_wp2;go_ret2;exact u.out 3 _ (by omega) F.out (arM _ _)
 ·have mD:l.length<=128:=by omega
  clear J hl;go_enter func103,ntmps103;go_wp2
  go_loopw [16] (fun i wr=>∃k:Nat,k<=l.length/\i=.int .i64 k/\Hid (∀j,(z:j<l.length)->j<k->bK l[j].code=true)/\Below w.heap.size w wr) (fun i _=>l.length-(intOf i).toNat)
  case atStart=>exact⟨0,by omega,rfl,fun j _ z=>absurd z (by omega),arM _ _⟩
  case round=>
   obtain⟨k,Z,rfl,r,B⟩:=hrel;have P:=B.size;by_cases p:k<l.length
   ·obtain⟨b,R,rfl,Y,C⟩:=(h.below B).at_ p;have S:=C 0 _ rfl;have c1:=C 1 _ rfl;simp only[arL]at S;clear C;have fB:=HZ.out _ (arO p);by_cases G:bK l[k].code=true
    ·go_wp2_with(go_at_call 82;refine(Cq _ _ fB).mono ?_;rintro e w' ⟨rfl,rfl⟩);go_roundw
     case rel=>
      refine⟨k+1,by omega,by go_num,fun j z ad=>?_,B.alloc P _⟩;rcases arY j k with h1|h1
      ·exact r.out j z h1
      ·obtain rfl:j=k:=by omega
       exact G
     case measure=>simp[intOf];omega
    ·have nv:bK l[k].code=false:=(by simpa using G);have F:Hid (dU l=7):=by
      have T:l.any (fun x=>!bK x.code)=true:=asx.2 ⟨l[k],arO _,by simp[nv]⟩;simp only[Hid,dU,arJ (show¬128<l.length by omega),T,ash]
     clear G;go_wp2_with(go_at_call 82;refine(Cq _ _ fB).mono ?_;rintro e w' ⟨rfl,rfl⟩);go_ret2;exact u.out 7 _ (by omega) F.out (B.alloc P _)
   ·have T:Hid (l.any (fun x=>!bK x.code)=false):=by
     rw[Hid,asr];intro x M;obtain⟨j,z,rfl⟩:=aso.1 M;simp[r.out j z (by omega)]
    obtain⟨wo,rfl⟩:∃wo:World,wo=wr:=⟨_,rfl⟩
    go_wp2;clear r Z p
    go_loopw [27] (fun i wr=>∃k:Nat,k<=l.length/\i=.int .i64 k/\Hid (∀j,(z:j<l.length)->j<k->cy l[j].amount=true)/\Below w.heap.size w wr) (fun i _=>l.length-(intOf i).toNat)
    case atStart=>exact⟨0,by omega,rfl,fun j _ z=>absurd z (by omega),B⟩
    case round=>
     obtain⟨k,Z,rfl,r,B⟩:=hrel;have P:=B.size;by_cases p:k<l.length
     ·obtain⟨b,R,rfl,Y,C⟩:=(h.below B).at_ p;have S:=C 0 _ rfl;have c1:=C 1 _ rfl;simp only[arL]at S;clear C;by_cases G:cy l[k].amount=true
      ·go_wp2_with(go_at_call 158;refine(Nd _ _).mono ?_;rintro e w' ⟨rfl,rfl⟩);go_roundw
       case rel=>
        refine⟨k+1,by omega,by go_num,fun j z ad=>?_,B.alloc P _⟩;rcases arY j k with h1|h1
        ·exact r.out j z h1
        ·obtain rfl:j=k:=by omega
         exact G
       case measure=>simp[intOf];omega
      ·have nv:cy l[k].amount=false:=(by simpa using G);have F:Hid (dU l=2):=by
        have h2:l.any (fun x=>!cy x.amount)=true:=asx.2 ⟨l[k],arO _,by simp[nv]⟩;simp only[Hid,dU,arJ (show¬128<l.length by omega),T.out,h2,ash,asC,asj]
       clear G;go_wp2_with(go_at_call 158;refine(Nd _ _).mono ?_;rintro e w' ⟨rfl,rfl⟩);go_ret2;exact u.out 2 _ (by omega) F.out (B.alloc P _)
     ·have N:Hid (∀x∈l,cy x.amount=true):=by
       intro x M;obtain⟨j,z,rfl⟩:=aso.1 M;exact r.out j z (by omega)
      have h2:Hid (l.any (fun x=>!cy x.amount)=false):=by rw[Hid,asr];intro x M;simp[N.out x M]
      obtain⟨I,rfl⟩:∃I:World,I=wr:=⟨_,rfl⟩
      go_wp2;clear r Z p;have P3:(I.alloc (.map #[] 0)).ownsMap prog 9 (plainElem (H:=Unit) prog 3) I.heap.size 0 (.map []):=World.ownsMap_made _ _ _ _;have P4:Below w.heap.size w (I.alloc (.map #[] 0)):=B.alloc P _
      go_loopw [39] (fun i wr=>∃(k:Nat) (D:DataW Unit),k<=l.length/\i=.int .i64 k/\wr.ownsMap prog 9 (plainElem (H:=Unit) prog 3) I.heap.size k D/\DZ D (fN (l.take k)) (cE (l.take k))/\Below w.heap.size w wr) (fun i _=>l.length-(intOf i).toNat)
      case atStart=>exact⟨0,.map [],by omega,rfl,P3,DZ.empty,P4⟩
      case round=>
       clear P3 P4;obtain⟨k,D,Z,rfl,K,U,Q⟩:=hrel;have GZ:=Q.size;by_cases p:k<l.length
       ·obtain⟨b,R,rfl,Y,C⟩:=(h.below Q).at_ p;have S:=C 0 _ rfl;have c1:=C 1 _ rfl;simp only[arL]at S;clear C;have fB:=HZ.out _ (arO p);have L:keyOf prog 9 (.string l[k].code)=some (key l[k].code):=WideMaps.keyOf_string_mk underlying9 fB;have E:=K.kept (World.grownBy_alloc wr (Obj.cells #[Value.string l[k].code,Value.int IntKind.i64 l[k].amount] 69) none) (by simp);have LF:=al7 (l.take k) l[k].code.data.toList (fun x M=>N.out x (ar6 M));have P5:(l.take k).length<=128:=(by simp;omega);have Rp:-1000000000<=l[k].amount/\l[k].amount<=1000000000:=(by have:=N.out _ (arO p);simpa[cy]using this);obtain⟨av,ay⟩:=Rp;have JQ:=U.at_ l[k].code.data.toList;have D3:-1000000000000<=cE (l.take k) l[k].code.data.toList:=(by omega);have CU:cE (l.take k) l[k].code.data.toList<=1000000000000:=(by omega);have Cr:=U.XR (K':=fN (l.take (k+1))) (T':=cE (l.take (k+1))) l[k].code (cE (l.take k) l[k].code.data.toList+l[k].amount) (XS l k p) (fun c=>by
         rw[XT l k p];split
         ·rename_i e;rw[<-e]
         ·omega)
        have G0:=arH Cr;have AA:=arH JQ;generalize cE (l.take k) l[k].code.data.toList=t0 at D3 CU G0 AA;clear LF P5 JQ U Cr;go_wp2_with(first
         |(at_lookup;refine wpList_lookup_own_int _ (by rfl) _ _ 181 (by rfl) 9 3 .i64 G2 underlying181 underlying3 (XU _) I.heap.size k D (by rfl) E _ _ (by rfl) L ?_;intro c af az;obtain rfl:c=t0:=(by have h1:=AA.out;rw[show Lit.string l[k].code.data.toList=key l[k].code from rfl,af]at h1;injection h1 with h1;injection h1))
         |(at_mapUpdate;refine wpList_mapUpdate_own _ (by rfl) _ _ _ 181 (by rfl) 9 3 G2 underlying181 _ I.heap.size k D (by rfl) E (by unfold maxLen;omega) _ _ _ (by rfl) (by rfl) L _ [] (plainElem_int underlying3 (XV (by omega) (by omega))) ?_;intro w1 O P6))
        go_roundw
        case rel=>exact⟨k+1,_,by omega,by go_num,O,G0.out,(Q.alloc GZ _).grown P6 (by simp;omega) (fun g e=>by injection e;omega)⟩
        case measure=>simp[intOf];omega
       ·have ek:l.take k=l:=asB (by omega);rw[ek]at U;go_wp2_with fail;refine(al5 I.heap.size k D _ _ _ K U (by omega)).mono ?_;rintro e w4 ⟨V,⟨ai,rfl⟩|⟨al,A4,am,ys,rfl,dh,aA,an,ao,ap,dO,jM⟩⟩
        ·have F:Hid (dU l=4):=by
          have h4:=(YO l).2 ai;simp only[Hid,dU,arJ (show¬128<l.length by omega),T.out,h2.out,h4,ash,asC,asj]
         go_wp2;go_ret2;exact u.out 4 _ (by omega) F.out (Q.trans (V.mono GZ))
        ·have F:Hid (dU l=0):=by
          have h4:(bF l).any (fun x=>!cy x.amount)=false:=by
           cases hh:(bF l).any (fun x=>!cy x.amount)
           ·rfl
           ·obtain⟨c,au,X⟩:=(YO l).1 hh;rw[al c au]at X;cases X
          simp only[Hid,dU,arJ (show¬128<l.length by omega),T.out,h2.out,h4,asC,asj]
         have HM:Hid (BG l=ys):=(by rw[Hid,BG,arK F.out,<-akm dO jM]);go_wp2;go_ret2;rw[HM.out,F.out];exact⟨A4,am,rfl,dh,an,ao,(fun a ha=>by have:=ap a ha;have:=Q.size;omega),Q.trans (V.mono GZ)⟩
theorem ame(A:Option Addr)(j:Nat)(e:List Elem)(w:World)(h:aj aQ 2 w w.heap.size A e)(l:∀x∈e,x.code.size<=maxLen)(n:e.length<=9223372036854775806):
  Calls prog 103 #[.slice A e.length j] w (al8 (BG e) (dU e) w):=
 (afp A j e w h l n).mono fun _ _ ⟨A,c,p,r,u,z,_,B⟩=>⟨A,c,p,r,u,z,B⟩
theorem amf{l:List Elem}(h:dU l=0):IX 1000000000 l/\l.length<=128:=by
 have e:¬128<l.length:=by intro e;rw[dU,arK e]at h;cases h
 rw[dU,arJ e]at h;split at h
 ·cases h
 ·split at h
  ·cases h
  ·rename_i j;refine⟨fun x n=>?_,by omega⟩;simp only[Bool.not_eq_true,asr]at j;have:=j x n;simpa[cy]using this
structure nR(w w2 w4 w3:World)(x:Elem)(y:cO)(b:fF)(wx:World):Prop where
 bs:Bs wx w2.heap.size b
 rs:Bs wx w.heap.size ew
 aW:Below w2.heap.size w2 wx
 wg:ah wx w4.heap.size 77 (gG y).toArray
 xb:ah wx w3.heap.size 69 #[.string x.code,.int .i64 x.amount]
 SQ:w.heap.size<w2.heap.size
 SR:w2.heap.size<w4.heap.size
 lt3:w2.heap.size<w3.heap.size
section
variable {w w2 w4 w3 wx:World}{x:Elem}{y:cO}{b:fF}
theorem nR.step(h:nR w w2 w4 w3 x y b wx){e:fF}{i:Nat}{u:Value}(j:Bs (wx.setCell ⟨w2.heap.size,i,none⟩ u) w2.heap.size e):nR w w2 w4 w3 x y e (wx.setCell ⟨w2.heap.size,i,none⟩ u):=
 ⟨j,h.rs.far (by have:=h.SQ;simp;omega) _,h.aW.setCell (by simp) _,h.wg.far (by have:=h.SR;simp;omega) _,h.xb.far (by have:=h.lt3;simp;omega) _,h.SQ,h.SR,h.lt3⟩
theorem nR.aaJ(h:nR w w2 w4 w3 x y b wx)(n:Int):nR w w2 w4 w3 x y {b with c:=n} (wx.setCell ⟨w2.heap.size,1,none⟩ (.int .i64 n)):=h.step (h.bs.c n)
theorem nR.aaK(h:nR w w2 w4 w3 x y b wx)(n:Int):nR w w2 w4 w3 x y {b with t:=n} (wx.setCell ⟨w2.heap.size,2,none⟩ (.int .i64 n)):=h.step (h.bs.t n)
theorem nR.aaL(h:nR w w2 w4 w3 x y b wx)(n:Int):nR w w2 w4 w3 x y {b with i:=n} (wx.setCell ⟨w2.heap.size,3,none⟩ (.int .i64 n)):=h.step (h.bs.i n)
theorem nR.aaM(h:nR w w2 w4 w3 x y b wx)(n:Int):nR w w2 w4 w3 x y {b with a:=n} (wx.setCell ⟨w2.heap.size,4,none⟩ (.int .i64 n)):=h.step (h.bs.a n)
end
def FM(b:fF):Nat->Int
 |0=>b.g
 |1=>b.c
 |2=>b.t
 |3=>b.i
 |_=>b.a
theorem amg(b:fF)(w:World):(Instr.index 180 (.agg #[.int .i64 b.g,.int .i64 b.c,.int .i64 b.t,.int .i64 b.i,.int .i64 b.a]) (.int .i64 0)).run prog w=.ok (.int .i64 b.g) w:=by kernel_rfl
theorem amh(b:fF)(w:World):(Instr.index 180 (.agg #[.int .i64 b.g,.int .i64 b.c,.int .i64 b.t,.int .i64 b.i,.int .i64 b.a]) (.int .i64 1)).run prog w=.ok (.int .i64 b.c) w:=by kernel_rfl
theorem ami(b:fF)(w:World):(Instr.index 180 (.agg #[.int .i64 b.g,.int .i64 b.c,.int .i64 b.t,.int .i64 b.i,.int .i64 b.a]) (.int .i64 2)).run prog w=.ok (.int .i64 b.t) w:=by kernel_rfl
theorem amj(b:fF)(w:World):(Instr.index 180 (.agg #[.int .i64 b.g,.int .i64 b.c,.int .i64 b.t,.int .i64 b.i,.int .i64 b.a]) (.int .i64 3)).run prog w=.ok (.int .i64 b.i) w:=by kernel_rfl
theorem amk(b:fF)(w:World):(Instr.index 180 (.agg #[.int .i64 b.g,.int .i64 b.c,.int .i64 b.t,.int .i64 b.i,.int .i64 b.a]) (.int .i64 4)).run prog w=.ok (.int .i64 b.a) w:=by kernel_rfl
theorem aml(b:fF)(k:Nat)(e:k<5)(w:World):(Instr.index 180 (.agg #[.int .i64 b.g,.int .i64 b.c,.int .i64 b.t,.int .i64 b.i,.int .i64 b.a]) (.int .i64 (k:Int))).run prog w=.ok (.int .i64 (FM b k)) w:=by
 have h:k=0\/k=1\/k=2\/k=3\/k=4:=by omega
 rcases h with rfl|rfl|rfl|rfl|rfl
 ·exact amg b w
 ·exact amh b w
 ·exact ami b w
 ·exact amj b w
 ·exact amk b w
theorem amm{b:fF}{m:Nat}(e:m<5)(h:cy (FM b m)=false):ow b=false:=by
 match m,e with
 |0,_=>simp only[FM]at h;simp[ow,h]
 |1,_=>simp only[FM]at h;simp[ow,h]
 |2,_=>simp only[FM]at h;simp[ow,h]
 |3,_=>simp only[FM]at h;simp[ow,h]
 |4,_=>simp only[FM]at h;simp[ow,h]
theorem amn{b:fF}(h:∀j,j<5->cy (FM b j)=true):ow b=true:=by have e:=h 0 (by omega);have l:=h 1 (by omega);have n:=h 2 (by omega);have p:=h 3 (by omega);have r:=h 4 (by omega);simp only[FM]at e l n p r;simp[ow,e,l,n,p,r]
theorem amo(A E:Option Addr)(af SS:Nat)(p:List cO)(l:List Elem)(w:World)(h:aj gG 6 w w.heap.size A p)(SU:∀x∈p,x.code.size<=maxLen)(aT:p.length<=9223372036854775806)
  (hE:aj aQ 2 w w.heap.size E l) (hz:∀x∈l,x.code.size<=maxLen) (hl:l.length<=9223372036854775806):
  Calls prog 102 #[.slice A p.length af,.slice E l.length SS] w fun r w'=>r=.returned (gL p l l)/\Below w.heap.size w w':=by
 have HZ:=arH hz;clear hz;have an:=arH SU;clear SU;go_enter func102,ntmps102;go_wp2_with fail;have pP:Bs (w.alloc (.cells #[.int .i64 0,.int .i64 0,.int .i64 0,.int .i64 0,.int .i64 0] 24)) w.heap.size ew:=ah.new _ _ _;have Z:Below w.heap.size w (w.alloc (.cells #[.int .i64 0,.int .i64 0,.int .i64 0,.int .i64 0,.int .i64 0] 24)):=(arM _ _).alloc (arI _) _;generalize w.alloc (.cells #[.int .i64 0,.int .i64 0,.int .i64 0,.int .i64 0,.int .i64 0] 24)=w0 at pP Z|-;have ao:w.heap.size<w0.heap.size:=ah.lt pP;refine(afq A af p _ ((h.below Z).more (by omega)) an.out (by omega)).mono ?_;rintro e w1 ⟨rfl,ab⟩;have ai:=pP.below ab ao;have aS:=IU Z ab (by omega);have aU:=ab.size;by_cases hv:kf p=true
 ·have HV:=arH hv;go_wp2_with fail;refine(ame E SS l _ ((hE.below aS).more (by omega)) HZ.out (by omega)).mono ?_;rintro e w2 ⟨A6,c6,rfl,_,_,_,ad⟩;have aK:=ai.below ad (by omega);have bB:=IU aS ad (by omega);have aV:=ad.size;by_cases h0:dU l=0
  ·have H0:=arH h0;rw[h0];obtain⟨ap,U5⟩:=amf h0;have dX:=hE.below bB;clear h0 pP Z ab ad ai aS;go_wp2;have fk:Bs (w2.alloc (.cells #[.int .i64 0,.int .i64 0,.int .i64 0,.int .i64 0,.int .i64 0] 24)) w2.heap.size ew:=ah.new _ _ _;have N:=aK.alloc (Obj.cells #[.int .i64 0,.int .i64 0,.int .i64 0,.int .i64 0,.int .i64 0] 24);have Cm:=(arM w2.heap.size w2).alloc (arI _) (Obj.cells #[.int .i64 0,.int .i64 0,.int .i64 0,.int .i64 0,.int .i64 0] 24);generalize w2.alloc (.cells #[.int .i64 0,.int .i64 0,.int .i64 0,.int .i64 0,.int .i64 0] 24)=w3 at fk N Cm|-
   go_loopw [30] (fun i wr=>∃k:Nat,k<=l.length/\i=.int .i64 k/\Hid (∀j,(F:j<l.length)->j<k->(dJ p l[j].code).isSome=true)/\Bs wr w2.heap.size (fI p (l.take k))/\Ij (k*1000000000) (fI p (l.take k))/\Bs wr w.heap.size ew/\Below w2.heap.size w2 wr) (fun i _=>l.length-(intOf i).toNat)
   case atStart=>exact⟨0,by omega,rfl,fun j _ F=>absurd F (by omega),fk,by simp[fI,ew,Ij],N,Cm⟩
   case round=>
    clear fk N Cm;obtain⟨k,hk,rfl,M,fk,kU,N,ae⟩:=hrel;have bA:=ah.lt fk;by_cases al:k<l.length
    ·obtain⟨b,aZ,rfl,hb,hc⟩:=(dX.below (ae.mono (by omega))).at_ al;have c0:=hc 0 _ rfl;have c1:=hc 1 _ rfl;simp only[arL]at c0;clear hc;go_wp2_with fail;have SV:=ah.new wr 69 #[Value.string l[k].code,Value.int IntKind.i64 l[k].amount];refine(aan A af p l[k].code _ ((h.below ((bB.trans (ae.mono (by omega))).alloc (by omega) _)).more (by simp;omega)) (by omega)).mono ?_;rintro e w4 ⟨rfl,B⟩;have a0:wr.heap.size+1<=w4.heap.size:=(by have:=B.size;simpa using this);have pz:=SV.below B (by simp);have Gj:=(fk.alloc _).below B (by simp;omega);have BP:=(N.alloc _).below B (by simp;omega);have eW:=IU (ae.alloc (by omega) _) B (by simp;omega);have ed:wr.heap.size<w4.heap.size:=(by omega);have au:w.heap.size<w4.heap.size:=(by omega);have a1:w2.heap.size<w4.heap.size:=(by omega);have O5:b<w4.heap.size:=(by omega);rcases O:dJ p l[k].code with _|y
     ·rw[afr];obtain⟨P,Q,R,r3,S⟩:=BP.cells;obtain⟨G,I,J,K,L⟩:=BP.Ap;have HE:Hid (dV p l l=16):=by
       have hm:missing p l=true:=asx.2 ⟨l[k],arO _,by simp[O]⟩;simp only[Hid,dV,HV.out,H0.out,hm,ash,Bool.true_eq_false,asj,ne_eq,not_true_eq_false]
      go_wp2;have u:=(BP.put ew).alloc (Obj.cells #[.string ⟨#[]⟩,.int .i64 0,.bool false,.bool false,.bool false,.int .i64 0] 77);have z:Below w.heap.size w _:=(DK (bB.trans (eW.mono (by omega))) (arI _) (.int .i64 0) (.int .i64 0) (.int .i64 0) (.int .i64 0) (.int .i64 0)).alloc (by simp;omega) (Obj.cells #[.string ⟨#[]⟩,.int .i64 0,.bool false,.bool false,.bool false,.int .i64 0] 77);simp only[ew]at u;generalize World.alloc _ _=WW at u z|-;obtain⟨z0,z1,z2,z3,z4⟩:=u.cells;refine arX (v:=gL p l l) ?_ rfl ⟨rfl,z⟩;rw[gL,HE.out];simp[results,results102,go_sem,z0,z1,z2,z3,z4,mW,ew]
     ·rw[afs];obtain⟨P,Q,R,r3,S⟩:=Gj.cells;obtain⟨G,I,J,K,L⟩:=Gj.Ap;have d1:=pz.cell 1;simp only[ak,aq,ar]at d1;have kC:=ap _ (arO al);obtain⟨av,az⟩:=kC;have Pv:=kU.add (C:=1000000000) (by omega) y av az;have SX:fI p (l.take (k+1))=Au (fI p (l.take k)) y l[k].amount:=(by rw[aft p l k al,Jy,O];rfl);have EST:=arH SX;have SY:∀j,(F:j<l.length)->j<k+1->(dJ p l[j].code).isSome=true:=by
       intro j F a2;rcases arY j k with h1|h1
       ·exact M.out j F h1
       ·obtain rfl:j=k:=by omega
        rw[O];rfl
      have QW:=arH SY;clear SY SX O c0;generalize fI p (l.take k)=n at*;obtain⟨⟨g1,g2⟩,⟨g3,g4⟩,⟨g5,g6⟩,⟨g7,g8⟩,⟨g9,a3⟩⟩:=kU;have SZ:nR w w2 w4 wr l[k] y ⟨n.g+l[k].amount,n.c,n.t,n.i,n.a⟩ ((w4.setCell ⟨w2.heap.size,0,none⟩ (.int .i64 (n.g+l[k].amount))).alloc (.cells (gG y).toArray 77)):=
       ⟨(Gj.g _).alloc _,(BP.far (by simp;omega) _).alloc _,(eW.setCell (by simp) _).alloc (by simp;omega) _,by have:=ah.new (w4.setCell ⟨w2.heap.size,0,none⟩ (.int .i64 (n.g+l[k].amount))) 77 (gG y).toArray;simpa using this,(pz.far (by simp;omega) _).alloc _,by omega,by omega,by omega⟩
      have S2:=arH SZ;clear SZ
      go_upto_if 52 with fail
      generalize am:World.alloc _ _=W0;have T:nR w w2 w4 wr l[k] y ⟨n.g+l[k].amount,n.c,n.t,n.i,n.a⟩ W0:=(by rw[<-am];exact S2.out);clear am P Q R r3 S G I J K L d1 S2 Gj BP fk N ae eW aK SV pz B c1;obtain⟨P,Q,R,r3,S⟩:=T.bs.cells;obtain⟨G,I,J,K,L⟩:=T.bs.Ap;have U:=T.xb.cell 1;have y1:=T.wg.cell 1;have y2:=T.wg.cell 2;have y3:=T.wg.cell 3;have V:=T.wg.cell 4;simp only[gG,arQ,arR,arS]at U y1 y2 y3 V
      go_cut [] (fun wx=>nR w w2 w4 wr l[k] y ⟨n.g+l[k].amount,n.c+(if y.kind=1 then l[k].amount else 0),n.t,n.i,n.a⟩ wx)
      case first=>
       by_cases D:y.kind=1
       ·have aA:(y.kind==1)=true:=(by simp[D]);go_wp2;go_meet;have hz:=(T.aaJ (n.c+l[k].amount))
        simpa[D]using hz
       ·have aA:(y.kind==1)=false:=(by simp[D]);go_wp2;go_meet;simpa[D]using T
      case rest=>
       clear P Q R r3 S G I J K L U y1 y2 y3 V T;have X:=hcut;clear hcut;obtain⟨P,Q,R,r3,S⟩:=X.bs.cells;obtain⟨G,I,J,K,L⟩:=X.bs.Ap;have U:=X.xb.cell 1;have y1:=X.wg.cell 1;have y2:=X.wg.cell 2;have y3:=X.wg.cell 3;have V:=X.wg.cell 4;simp only[gG,arQ,arR,arS]at U y1 y2 y3 V
       go_upto_if 60 with fail
       go_cut [] (fun wx=>nR w w2 w4 wr l[k] y ⟨n.g+l[k].amount,n.c+(if y.kind=1 then l[k].amount else 0),n.t+(if y.jy=true then l[k].amount else 0),n.i,n.a⟩ wx)
       case first=>
        rcases D:y.jy with _|_;rotate_left
        ·go_wp2;go_meet;have hz:=(X.aaK (n.t+l[k].amount))
         simpa[D]using hz
        ·go_wp2;go_meet;simpa[D]using X
       case rest=>
        clear P Q R r3 S G I J K L U y1 y2 y3 V X;have Y:=hcut;clear hcut;obtain⟨P,Q,R,r3,S⟩:=Y.bs.cells;obtain⟨G,I,J,K,L⟩:=Y.bs.Ap;have U:=Y.xb.cell 1;have y1:=Y.wg.cell 1;have y2:=Y.wg.cell 2;have y3:=Y.wg.cell 3;have V:=Y.wg.cell 4;simp only[gG,arQ,arR,arS]at U y1 y2 y3 V
        go_upto_if 68 with fail
        go_cut [] (fun wx=>nR w w2 w4 wr l[k] y ⟨n.g+l[k].amount,n.c+(if y.kind=1 then l[k].amount else 0),n.t+(if y.jy=true then l[k].amount else 0),n.i+(if y.aM=true then l[k].amount else 0),n.a⟩ wx)
        case first=>
         rcases D:y.aM with _|_;rotate_left
         ·go_wp2;go_meet;have hz:=(Y.aaL (n.i+l[k].amount))
          simpa[D]using hz
         ·go_wp2;go_meet;simpa[D]using Y
        case rest=>
         clear P Q R r3 S G I J K L U y1 y2 y3 V Y;have C3:=hcut;clear hcut;obtain⟨P,Q,R,r3,S⟩:=C3.bs.cells;obtain⟨G,I,J,K,L⟩:=C3.bs.Ap;have U:=C3.xb.cell 1;have V:=C3.wg.cell 4;simp only[gG,arQ,arR,arS]at U V;have ay:∀W',nR w w2 w4 wr l[k] y (Au n y l[k].amount) W'->∃k':Nat,k'<=l.length/\Value.int .i64 ((k:Int)+1)=.int .i64 k'/\Hid (∀j,(F:j<l.length)->j<k'->(dJ p l[j].code).isSome=true)/\Bs W' w2.heap.size (fI p (l.take k'))/\Ij (k'*1000000000) (fI p (l.take k'))/\Bs W' w.heap.size ew/\Below w2.heap.size w2 W':=by intro W' hC;refine⟨k+1,by omega,by go_num,QW.out,by rw[EST.out];exact hC.bs,?_,hC.rs,hC.aW⟩;have e9:((k+1:Nat):Int)*1000000000=(k:Int)*1000000000+1000000000:=(by omega);rw[EST.out,e9];exact Pv
         have ji:=arH ay;clear ay;rcases D:y.gi with _|_
         ·have C4:nR w w2 w4 wr l[k] y (Au n y l[k].amount) wc:=(by simpa[Au,D]using C3);clear C3;go_wp2;go_roundw
          case rel=>
           have O:=ji.out _ C4
           first|exact O|((repeat apply Exists.intro);exact⟨O,rfl⟩)
          case measure=>simp[intOf];omega
         ·have C4:nR w w2 w4 wr l[k] y (Au n y l[k].amount) (wc.setCell ⟨w2.heap.size,4,none⟩ (.int .i64 (n.a+l[k].amount))):=(by simpa[Au,D]using C3.aaM (n.a+l[k].amount));clear C3;go_wp2;go_roundw
          case rel=>
           have O:=ji.out _ C4
           first|exact O|((repeat apply Exists.intro);exact⟨O,rfl⟩)
          case measure=>simp[intOf];omega
    ·have kC:l.take k=l:=asB (by omega);rw[kC]at fk kU;have aE:Hid (missing p l=false):=by
      rw[Hid,missing,asr];intro x hx;obtain⟨j,F,rfl⟩:=aso.1 hx;have:=M.out j F (by omega);rw[Option.isSome_iff_ne_none]at this;simpa using this
     obtain⟨P,Q,R,r3,S⟩:=fk.cells;obtain⟨p0,p1,p2,p3,p4⟩:=N.cells;obtain⟨G,I,J,K,L⟩:=N.Ap;have gZ:Hid (Below w.heap.size w wr):=bB.trans (ae.mono (by omega));have kI:Hid (dV p l l=if ow (fI p l)=false then 4 else 0):=by simp only[Hid,dV,HV.out,H0.out,aE.out,asj,Bool.true_eq_false,asC,ne_eq,not_true_eq_false]
     have au:w.heap.size<wr.heap.size:=(by omega);clear kC M kU;generalize lx:fI p l=n at*;have aJ:=arH lx;clear lx;go_wp2
     go_loop [95] (fun i=>∃k:Nat,k<=5/\i=.int .i64 k/\Hid (∀j,j<k->cy (FM n j)=true)) (fun i=>5-(intOf i).toNat)
     case atStart=>exact⟨0,by omega,rfl,fun j F=>absurd F (by omega)⟩
     case round=>
      obtain⟨m,hm,rfl,bh⟩:=hrel;by_cases mq:m<5
      ·have a4:=aml n m mq;by_cases ha:cy (FM n m)=true
       ·go_wp2_with(go_at_call 158;refine(Nd _ _).mono ?_;rintro e w' ⟨rfl,rfl⟩);go_round
        case rel=>
         refine⟨m+1,by omega,by go_num,fun j F=>?_⟩;rcases arY j m with h1|h1
         ·exact bh.out j h1
         ·obtain rfl:j=m:=by omega
          exact ha
        case measure=>simp[intOf];omega
       ·have aN:cy (FM n m)=false:=(by simpa using ha);have HE:Hid (dV p l l=4):=(by rw[Hid,kI.out,arK (amm mq aN)]);clear ha;go_wp2_with(go_at_call 158;refine(Nd _ _).mono ?_;rintro e w' ⟨rfl,rfl⟩);have u:=(N.put ew)
        have z:Below w.heap.size w _:=DK gZ.out (arI _) (.int .i64 0) (.int .i64 0) (.int .i64 0) (.int .i64 0) (.int .i64 0);simp only[ew]at u;generalize World.setCell _ ⟨w.heap.size,4,none⟩ _=WW at u z|-;obtain⟨z0,z1,z2,z3,z4⟩:=u.cells;refine arX (v:=gL p l l) ?_ rfl ⟨rfl,z⟩;rw[gL,HE.out];simp[results,results102,go_sem,z0,z1,z2,z3,z4,mW,ew]
      ·have HE:Hid (dV p l l=0):=(by rw[Hid,kI.out,arJ (by rw[amn (fun j F=>bh.out j (by omega))];simp)]);go_wp2;have u:=(N.put n)
       have z:Below w.heap.size w _:=DK gZ.out (arI _) (.int .i64 n.g) (.int .i64 n.c) (.int .i64 n.t) (.int .i64 n.i) (.int .i64 n.a);generalize World.setCell _ ⟨w.heap.size,4,none⟩ _=WW at u z|-;obtain⟨z0,z1,z2,z3,z4⟩:=u.cells;refine arX (v:=gL p l l) ?_ rfl ⟨rfl,z⟩;rw[gL,HE.out,arK rfl,aJ.out];simp[results,results102,go_sem,z0,z1,z2,z3,z4,mW]
  ·have Mj:(dU l !=0)=true:=(by simpa using h0);have HE:Hid (dV p l l=dU l):=by
    rw[Hid,dV,arJ (by simp[HV.out]),arK h0]
   have H0:=arH h0;obtain⟨p0,p1,p2,p3,p4⟩:=aK.cells;obtain⟨G,I,J,K,L⟩:=aK.Ap;have gZ:=arH bB;clear h0;go_wp2;have u:=(aK.put ew)
   have z:Below w.heap.size w _:=DK gZ.out (arI _) (.int .i64 0) (.int .i64 0) (.int .i64 0) (.int .i64 0) (.int .i64 0);simp only[ew]at u;generalize World.setCell _ ⟨w.heap.size,4,none⟩ _=WW at u z|-;obtain⟨z0,z1,z2,z3,z4⟩:=u.cells;refine arX (v:=gL p l l) ?_ rfl ⟨rfl,z⟩;rw[gL,HE.out,arJ H0.out];simp[results,results102,go_sem,z0,z1,z2,z3,z4,mW,ew]
 ·have aO:kf p=false:=by simpa using hv
  have HE:Hid (dV p l l=1):=by rw[Hid,dV,arK aO]
  obtain⟨p0,p1,p2,p3,p4⟩:=ai.cells;obtain⟨G,I,J,K,L⟩:=ai.Ap;have gZ:=arH aS;clear hv;go_wp2;have u:=(ai.put ew)
  have z:Below w.heap.size w _:=DK gZ.out (arI _) (.int .i64 0) (.int .i64 0) (.int .i64 0) (.int .i64 0) (.int .i64 0);simp only[ew]at u;generalize World.setCell _ ⟨w.heap.size,4,none⟩ _=WW at u z|-;obtain⟨z0,z1,z2,z3,z4⟩:=u.cells;refine arX (v:=gL p l l) ?_ rfl ⟨rfl,z⟩;rw[gL,HE.out];simp[results,results102,go_sem,z0,z1,z2,z3,z4,mW,ew]
def gC(p:ByteArray->Bool):List Elem->Int
 |[]=>0
 |x::l=>(if p x.code=true then x.amount else 0)+gC p l
theorem akP(p:ByteArray->Bool)(l m:List Elem):gC p (l++m)=gC p l+gC p m:=by
 induction l with
 |nil=>simp[gC]
 |cons a l e=>simp only[List.cons_append,gC,e];omega
theorem amr(p:ByteArray->Bool)(l:List Elem)(e:Elem):gC p (put l e)=gC p l+if p e.code=true then e.amount else 0:=by
 induction l with
 |nil=>simp[put,gC]
 |cons a l j=>
  rw[put];split
  ·simp only[gC,j];omega
  ·split
   ·rename_i h;have n:a.code=e.code:=by
     apply VD;rw[ByteArray.toList_eq,ByteArray.toList_eq]at h;simpa using h
    simp only[gC,n];split<;>omega
   ·simp only[gC];omega
theorem ams(p:ByteArray->Bool)(l:List Elem):∀e,gC p (l.foldl put e)=gC p e+gC p l:=by
 induction l with
 |nil=>intro e;simp[gC]
 |cons a l j=>intro e;rw[asR,j,amr];simp only[gC];omega
theorem amu(p:ByteArray->Bool)(l:List Elem):gC p (bF l)=gC p l:=by rw[bF,ams];simp[gC]
def pw(e:List cO)(c:ByteArray):cO:=(dJ e c).getD nd
theorem amv(e:List cO)(l:List Elem):∀b:fF,l.foldl (Jy e) b=⟨b.g+gC (fun _=>true) l,b.c+gC (fun c=>decide ((pw e c).kind=1)) l,b.t+gC (fun c=>(pw e c).jy) l,b.i+gC (fun c=>(pw e c).aM) l,b.a+gC (fun c=>(pw e c).gi) l⟩:=by
 induction l with
 |nil=>intro b;simp[gC]
 |cons x l j=>intro b;rw[asR,j];simp only[Jy,Au,gC,pw,ash,Int.add_assoc];by_cases n:((dJ e x.code).getD nd).kind=1<;>simp[n]<;>(refine⟨?_,?_,?_⟩<;>congr)
theorem VO(e:List cO)(l:List Elem):fI e l=⟨gC (fun _=>true) l,gC (fun c=>decide ((pw e c).kind=1)) l,gC (fun c=>(pw e c).jy) l,gC (fun c=>(pw e c).aM) l,gC (fun c=>(pw e c).gi) l⟩:=by rw[fI,amv];simp[ew]
theorem UN(e:List cO)(l:List Elem):fI e (bF l)=fI e l:=by rw[VO,VO];simp only[amu]
theorem acH(n:List cO)(l:List Elem):missing n (bF l)=missing n l:=by
 rw[Bool.eq_iff_iff,missing,missing,asx,asx];constructor
 ·rintro⟨x,j,h⟩;obtain⟨y,hy,e⟩:=VC j;exact⟨y,hy,by rw[e];exact h⟩
 ·rintro⟨y,hy,h⟩;have p:fN (bF l) y.code.data.toList=true:=by
   rw[Ry];exact asx.2 ⟨y,hy,by simp⟩
  obtain⟨x,j,e⟩:=asx.1 p;have r:x.code=y.code:=VD (by simpa using e);exact⟨x,j,by rw[r];exact h⟩
theorem amw(e:List cO)(l:List Elem):gL e l (bF l)=gL e l l:=by
 have h:dV e l (bF l)=dV e l l:=by simp only[dV,UN,acH]
 rw[gL,gL,h,UN]
open Go.RowKit Go.Sort Go.Shelf
theorem amx{e:List cO}(j:kf e=true){c:ByteArray}(p:(dJ e c).isSome=true):((dJ e c).getD nd).kind=1\/((dJ e c).getD nd).kind=2:=by obtain⟨x,l⟩:=Option.isSome_iff_exists.1 p;rw[l];have r:=List.mem_of_find?_eq_some (show e.find? (IP c)=some x from l);simp only[kf,ar5,ar7]at j;obtain⟨i,hi,rfl⟩:=aso.1 r;have n:=j.2 i hi;simp only[ng,ar5,Bool.or_eq_true,beq_iff_eq]at n;exact n.1.1.2
def amy(e:World)(g:Nat)(c:mR)(s:jD)(j:List dH)(b:fF)(l:List dH)(w':World):Prop:=
 ∃n,dI e g c {s with b:=b,lv:=n,left:=b.c} (j++l) w'
theorem amz{n:World}{g:Nat}{c:mR}{s:jD}{Q:List dH}{w:World}(h:dI n g c s Q w)(hr:c.r.In n)(E:Option Addr)(U:Nat)(e:List Elem)(hE:aj aQ 2 n n.heap.size E e)(R:kf c.r.ws=true)
  (hz:∀x∈e,x.code.size<=maxLen) (Dn:e.length<=1000000) (hl:Q.length<=100):
  Calls prog 52 #[.pointer (some ⟨g,0,none⟩),.slice E e.length U] w (LL n (dV c.r.ws e (bF e)) (amy n g c s Q (fI c.r.ws (bF e)) (kL c.r.ws ((bF e).filter nz)))):=by
 have V:Hid (∀W,Below n.heap.size n W->Calls prog 102 #[.slice c.r.Aw c.r.ws.length c.r.cw,.slice E e.length U] W fun x w'=>x=.returned (gL c.r.ws e (bF e))/\Below W.heap.size W w'):=fun W I=>by rw[amw];exact amo c.r.Aw E c.r.cw U c.r.ws e W (hr.ws.aa I) (Hs R).2 (by have:=(Hs R).1;omega) (hE.aa I) hz (by omega)
 have z0:w.cell? ⟨g,0,none⟩=some (.slice c.r.Aw c.r.ws.length c.r.cw):=h.blk.cell 0;obtain⟨X,p⟩:∃X,X=dV c.r.ws e (bF e):=⟨_,rfl⟩
 rw[<-p];by_cases h0:X=0;rotate_left
 ·have Y:Hid (gL c.r.ws e (bF e)=.tuple #[.agg #[.int .i64 0,.int .i64 0,.int .i64 0,.int .i64 0,.int .i64 0],.int .i64 X]):=by
   rw[Hid,gL,<-p,arJ h0];rfl
  rw[Y.out]at V;have Z:=h.aW;clear h hr hE R hz p Y;go_enter func52,ntmps52;go_wp2_with fail;refine(V.out _ Z).mono ?_;rintro x D ⟨rfl,u⟩;have aS:=aB Z u;have aV:(X !=0)=true:=by simp[h0]
  go_upto_region 2 with fail
  have B:=bD D (.cells #[.int .i64 0,.int .i64 0,.int .i64 0,.int .i64 0,.int .i64 0] 24);have bB:=aB aS B;generalize D.alloc (Obj.cells _ _)=W2 at bB|-;go_wp2;go_ret;exact⟨rfl,bB,fun e=>absurd e h0⟩
 ·subst h0;obtain⟨_,lH,Wy,Wz⟩:=Ho p.symm;have I:=Ms Wz;have Y:Hid (gL c.r.ws e (bF e)=.tuple #[.agg #[.int .i64 (fI c.r.ws (bF e)).g,.int .i64 (fI c.r.ws (bF e)).c,.int .i64 (fI c.r.ws (bF e)).t,.int .i64 (fI c.r.ws (bF e)).i,.int .i64 (fI c.r.ws (bF e)).a],.int .i64 0]):=by
   rw[Hid,gL,<-p,arK rfl];rfl
  rw[Y.out]at V;have Dp:Hid (∀W,Below n.heap.size n W->Calls prog 103 #[.slice E e.length U] W fun x w'=>∃A L,x=.returned (.tuple #[.slice A ((bF e).filter nz).length L,.int .i64 0])/\aj aQ 2 w' w'.heap.size A ((bF e).filter nz)/\(∀a,A=some a->W.heap.size<=a.block)/\Below W.heap.size W w'):=fun W I=>by have J:BG e=(bF e).filter nz:=(by rw[BG,arK lH]);have:=afp E U e W (hE.aa I) hz (by omega);rw[J,lH]at this;exact this.mono fun _ _ ⟨A,L,h1,h2,_,_,h5,h6⟩=>⟨A,L,h1,h2,h5,h6⟩
  have jV:Hid (∀x∈(bF e).filter nz,∀W,Below n.heap.size n W->Calls prog 74 #[.slice c.r.Aw c.r.ws.length c.r.cw,.string x.code] W fun e w'=>e=.returned (.tuple #[.agg (gG ((dJ c.r.ws x.code).getD nd)).toArray,.bool true])/\Below W.heap.size W w'):=fun x hx W I=>by
   have hs:(dJ c.r.ws x.code).isSome=true:=by have:=asr.1 Wy x (DL hx);cases hh:dJ c.r.ws x.code<;>simp_all
   have:=aan c.r.Aw c.r.cw c.r.ws x.code W (hr.ws.aa I) (by have:=(Hs R).1;omega)
   rwa [pj,hs]at this
  have ao:Hid (∀x∈(bF e).filter nz,((dJ c.r.ws x.code).getD nd).kind=1\/((dJ c.r.ws x.code).getD nd).kind=2):=fun x hx=>by refine amx R ?_;have:=asr.1 Wy x (DL hx);cases hh:dJ c.r.ws x.code<;>simp_all
  have aT:((bF e).filter nz).length<=128:=ar0 (asi _ _) (WA lH).2;have Eg:Hid (∀k,(kL c.r.ws (((bF e).filter nz).take k)).length<=128):=fun k=>by have:=asi nz (((bF e).filter nz).take k);simp only[kL,asu,asA]at this|-;omega
  have Vq:Hid (∀x∈(bF e).filter nz,x.amount≠0):=fun x hx=>by have:=(asY.1 hx).2;simpa[nz]using this
  have HI:=arH h;have Z:=h.aW;clear h hr hE R hz p Y lH Wy Wz;generalize (bF e).filter nz=j at*;generalize fI c.r.ws (bF e)=b at*;obtain⟨⟨g0,g1⟩,⟨c0,c1⟩,⟨t0,t1⟩,⟨i0,i1⟩,⟨a0,a1⟩⟩:=I;go_enter func52,ntmps52;go_wp2_with fail;refine(V.out _ Z).mono ?_;rintro x D ⟨rfl,u⟩;have z:=HI.out.aa u;have ey:=Mv.aW (g:=g) (v:=s.lv) u;go_upto_region 2 with fail
  have fk:=ah.new D 24 #[.int .i64 b.g,.int .i64 b.c,.int .i64 b.t,.int .i64 b.i,.int .i64 b.a];have B:=bD D (.cells #[.int .i64 b.g,.int .i64 b.c,.int .i64 b.t,.int .i64 b.i,.int .i64 b.a] 24);have ab:D.heap.size≠g:=by have:=z.lt;omega
  have ad:s.lv.ownBlock≠some D.heap.size:=fun e=>by have:=(z.row _ e).2;omega
  have OY:=Mv.aW (g:=g) (v:=s.lv) B;have S:=z.aa B;have jY:=ey.trans OY;generalize D.heap.size=gb at*;generalize D.alloc (Obj.cells _ _)=W2 at fk S jY|-;clear z ey OY B u HI V;go_wp2_with fail;refine(Dp.out _ S.aW).mono ?_;rintro x w3 ⟨A3,c3,rfl,ir,af,M⟩;have ai:=nw.new ir af S.lt (fun q hq=>(S.row q hq).2);have iD:=S.aa M;have bE:=fk.aa M;have Q8:Hid (nw aQ 2 w3 g s.lv A3 j):=ai;clear S jY fk ir af M Dp Z ai;go_wp2_with fail
  go_loopw [36] (fun i wr=>∃(k:Nat) (K:Value),k<=j.length/\i=.int .i64 k/\dI n g c {s with lv:=K} (Q++kL c.r.ws (j.take k)) wr/\Mv g s.lv w3 K wr) (fun i _=>j.length-(intOf i).toNat)
  case atStart=>exact⟨0,s.lv,by omega,rfl,by simpa[kL]using iD,Mv.refl _ _ _⟩
  case round=>
   rename World=>wr
   obtain⟨k,vl,hk,rfl,l,J⟩:=hrel;have bg:=bE.mv J ab ad;have ap:=J.far bE.lt ad;by_cases N:k<j.length
   ·obtain⟨bb,aZ,Dc,lx,hc⟩:=(Q8.out.mv J).sl.at_ N;have c0:=hc 0 _ rfl;have c1:=hc 1 _ rfl;simp only[arL]at c0;rw[Dc];have jM:=arO N;have pG:Hid (kL c.r.ws (j.take (k+1))=kL c.r.ws (j.take k)++[⟨Pw c.r.ws j[k],j[k].code,j[k].amount⟩]):=by
     rw[Hid,ar9 N,afu];congr 1;rw[kL,List.filter_cons_of_pos (by simp[nz,Vq.out _ jM])];rfl
    have eC:(k:Int)<(j.length:Int):=(by omega);have O:=arH (jV.out _ jM);have au:=arH (ao.out _ jM);have al:Hid (Pw c.r.ws j[k]=if((dJ c.r.ws j[k].code).getD nd).kind=1 then 1 else 2):=by rw[Hid,Pw,iA];by_cases hh:((dJ c.r.ws j[k].code).getD nd).kind=1<;>simp[hh]
    have am:=Vq.out _ jM;have L6:=Eg.out k;clear hc jM;generalize j[k]=x at*;generalize av:(dJ c.r.ws x.code).getD nd=wt at*;have Ri:Hid (∀kd,ag kd [⟨x.code,x.amount⟩]=[⟨kd,x.code,x.amount⟩]):=fun kd=>acq kd x.code am;have dA:=ah.new wr 69 #[.string x.code,.int .i64 x.amount];have B:=bD wr (.cells #[.string x.code,.int .i64 x.amount] 69);have oH:vl.ownBlock≠some wr.heap.size:=fun e=>by have:=(l.row _ e).2;omega
    have a2:wr.heap.size≠g:=(by have:=l.lt;omega);go_upto_region 10 with fail
    generalize wr.alloc (Obj.cells _ _)=W1 at dA B|-;have z:=l.aa B;have ey:=J.trans (Mv.aW B);clear B;generalize wr.heap.size=go at*;have Wb:=z.lt;have ku:=dA.lt;have Px:W1.cell? ⟨g,0,none⟩=some (.slice c.r.Aw c.r.ws.length c.r.cw):=z.blk.cell 0;have an:W1.cell? ⟨go,0,none⟩=some (.string x.code):=dA.cell 0;clear l J c0 c1 av am;go_upto_region 11 with fail
    refine YB (aE:=?CV) (t:=77) (zs:=#[.string ⟨#[]⟩,.int .i64 0,.bool false,.bool false,.bool false,.int .i64 0]) [0,1,2,3,4,5,6,7,8,9,10] 11 12 13 #[.string wt.code,.int .i64 wt.kind,.bool wt.jy,.bool wt.aM,.bool wt.gi,.int .i64 wt.eQ] (.bool true) (by kernel_rfl) (by kernel_rfl) rfl (by kernel_rfl) (by kernel_rfl) (by rfl) (by kernel_rfl) (by kernel_rfl) (by kernel_rfl) (by kernel_rfl) rfl rfl rfl rfl rfl rfl rfl rfl rfl rfl rfl (fun _ _=>by go_simp) rfl (by kernel_rfl) rfl ?H1 ?E1 ?M1
    case H1=>
     intro F hF aU;simp only[M3.cD,arQ,arR,arS];have e0:=aP.dM (F:=F) (a:=⟨g,0,none⟩) (by exact Wb) Px;have d0:=aP.dM (F:=F) (a:=⟨go,0,none⟩) (by exact ku) an
     repeat(first|go_big_quiet_step(first|(with_reducible exact aP.call (iM _ _ (arI _)) hF _ (O.out _ (aB z.aW (aP.h _)))))|quiet_step(first|(with_reducible exact aP.call (iM _ _ (arI _)) hF _ (O.out _ (aB z.aW (aP.h _))))))
     refine wpQuiet_nil ?_;rfl
    case E1=>exact fun _=>⟨rfl,rfl,rfl⟩
    case M1=>
     intro g2 w4 a3 mJ G
     try simp only[Act.put,ar4,ar2,ar3]
     have gV:=z.aa G;have kP:=ey.trans (Mv.aW G);have P:=dA.aa G;have z1:w4.cell? ⟨g2,1,none⟩=some (.int .i64 wt.kind):=mJ.cell 1;have q0:w4.cell? ⟨go,0,none⟩=some (.string x.code):=P.cell 0;have q1:w4.cell? ⟨go,1,none⟩=some (.int .i64 x.amount):=P.cell 1;clear z ey dA G Px an O mJ P;rcases au.out with Dm|hk2
     ·have az:(wt.kind==2)=false:=(by simp[Dm]);rw[al.out,arK Dm]at pG;go_wp2_with fail;refine(J4 gV 1 x.code x.amount (by simp;omega)).mono ?_;rintro e w5 ⟨rfl,v5,C,T⟩;have AE:=kP.trans T;rw[Ri.out,asH,<-pG.out]at C;go_wp2;go_roundw
      case rel=>
       have ay:∃(k':Nat) (K:Value),k'<=j.length/\Value.int .i64 ((k:Int)+1)=.int .i64 k'/\dI n g c {s with lv:=K} (Q++kL c.r.ws (j.take k')) w5/\Mv g s.lv w3 K w5:=⟨k+1,v5,by omega,by go_num,C,AE⟩
       first|exact ay|((repeat apply Exists.intro);exact⟨ay,rfl⟩)
      case measure=>simp[intOf];omega
     ·have az:(wt.kind==2)=true:=(by simp[hk2]);rw[al.out,arJ (by omega)]at pG;go_wp2_with fail;refine(J4 gV 2 x.code x.amount (by simp;omega)).mono ?_;rintro e w5 ⟨rfl,v5,C,T⟩;have AE:=kP.trans T;rw[Ri.out,asH,<-pG.out]at C;go_wp2;go_roundw
      case rel=>
       have ay:∃(k':Nat) (K:Value),k'<=j.length/\Value.int .i64 ((k:Int)+1)=.int .i64 k'/\dI n g c {s with lv:=K} (Q++kL c.r.ws (j.take k')) w5/\Mv g s.lv w3 K w5:=⟨k+1,v5,by omega,by go_num,C,AE⟩
       first|exact ay|((repeat apply Exists.intro);exact⟨ay,rfl⟩)
      case measure=>simp[intOf];omega
   ·obtain rfl:k=j.length:=by omega
    rw[asp]at l;have aA:wr.cell? ⟨g,27,none⟩=some (.int .i64 s.b.g):=l.blk.cell 27;have aJ:wr.cell? ⟨g,28,none⟩=some (.int .i64 s.b.c):=l.blk.cell 28;have aK:wr.cell? ⟨g,29,none⟩=some (.int .i64 s.b.t):=l.blk.cell 29;have aN:wr.cell? ⟨g,30,none⟩=some (.int .i64 s.b.i):=l.blk.cell 30;have aO:wr.cell? ⟨g,31,none⟩=some (.int .i64 s.b.a):=l.blk.cell 31;have f27:=l.blk.frozen 27;have f28:=l.blk.frozen 28;have f29:=l.blk.frozen 29;have f30:=l.blk.frozen 30;have f31:=l.blk.frozen 31;obtain⟨z0,z1,z2,z3,z4⟩:=bg.cz5;go_upto_region 17 with fail
    have C:=l.amA b;have T:=dI.mvB (g:=g) (w:=wr) b vl;generalize World.setCell _ ⟨g,31,none⟩ _=W5 at C T|-;have eJ:=bg.mv T ab ap;have b1:W5.cell? ⟨gb,1,none⟩=some (.int .i64 b.c):=eJ.cell 1;have a4:W5.cell? ⟨g,33,none⟩=some (.int .i64 s.left):=C.blk.cell 33;have f33:=C.blk.frozen 33;clear l J bg eJ z0 z1 z2 z3 z4 aA aJ aK aN aO f27 f28 f29 f30 f31;go_wp2;go_ret;have jN:=C.UB b.c;exact⟨rfl,jN.aW,fun _=>⟨vl,jN⟩⟩
