/- Conditions: as stated. -/
import Derived.Test.YtlhkojcmcmkmaaaGreatCP32g
set_option maxRecDepth 100000
set_option maxHeartbeats 4000000
namespace Go.Proofs.YtlhkojcmcmkmaaaGreat
open Go.Proofs.Tryz
open Go.RowKit Go.Sort Go.Shelf Go.Maps
structure II(K:List UInt8->Bool)(T:List UInt8->Int)(left:Lit->Bool)(ys:List Elem):Prop where
 sound:∀x∈ys,K x.code.data.toList=true/\x.amount=T x.code.data.toList/\x.amount≠0/\left (key x.code)=false
 full:∀c,K c=true->left (.string c)=false->cQ (T c)=true/\(T c≠0->∃x∈ys,x.code.data.toList=c)
 nodup:ys.Pairwise (fun a b=>a.code≠b.code)
theorem II.start{D:DataW Unit}{K:List UInt8->Bool}{T:List UInt8->Int}(h:D7 D K T):II K T (Maps.has D) []:=
 ⟨by simp,(fun c j e=>by rw[h.has c,j]at e;cases e),List.Pairwise.nil⟩
theorem II.step{K:List UInt8->Bool}{T:List UInt8->Int}{left:Lit->Bool}{n:List Elem}(h:II K T left n){s:ByteArray}{c:Int}(I:left (key s)=true)(J:K s.data.toList=true)(y:T s.data.toList=c)(L:cQ c=true):
  (c≠0->II K T (fun z=>left z&&!z.sameKey (key s)) (n++[⟨s,c⟩]))/\(c=0->II K T (fun z=>left z&&!z.sameKey (key s)) n):=by
 have M:(key s).sameKey (key s)=true:=WideAt.sameKey_self trivial;have E:∀x∈n,K x.code.data.toList=true/\x.amount=T x.code.data.toList/\x.amount≠0/\(left (key x.code)&&!(key x.code).sameKey (key s))=false:=by intro x p;obtain⟨h1,N,O,P⟩:=h.sound x p;exact⟨h1,N,O,by simp[P]⟩
 have F:∀d,K d=true->(left (.string d)&&!(Lit.string d).sameKey (key s))=false->(cQ (T d)=true/\(T d≠0->d≠s.data.toList->∃x∈n,x.code.data.toList=d)):=by
  intro d hd j;by_cases e:d=s.data.toList
  ·subst e;exact⟨by rw[y];exact L,fun _ h=>absurd rfl h⟩
  ·have B:(Lit.string d).sameKey (key s)=false:=sameKey_ne (fun Q=>e (by simpa[key]using Q));rw[B]at j;simp at j;obtain⟨r,u⟩:=h.full d hd j;exact⟨r,fun l _=>u l⟩
 refine⟨fun C=>⟨fun x p=>?_,fun d hd j=>?_,?_⟩,fun C=>⟨E,fun d hd j=>?_,h.nodup⟩⟩
 ·rcases aul.1 p with h1|h1
  ·exact E x h1
  ·simp at h1;subst h1;exact⟨J,y.symm,C,by show(left (key s)&&!(key s).sameKey (key s))=false;rw[M];simp⟩
 ·obtain⟨r,u⟩:=F d hd j;refine⟨r,fun l=>?_⟩;by_cases e:d=s.data.toList
  ·exact⟨⟨s,c⟩,by simp,e.symm⟩
  ·obtain⟨x,p,R⟩:=u l e;exact⟨x,by simp[p],R⟩
 ·rw[avr];refine⟨h.nodup,List.pairwise_singleton _ _,fun a D b G=>?_⟩;simp at G;subst G;intro e;have:=(h.sound a D).2.2.2;rw[show key a.code=key s by rw[e],I]at this;cases this
 ·obtain⟨r,u⟩:=F d hd j;refine⟨r,fun l=>?_⟩;by_cases e:d=s.data.toList
  ·subst e;rw[y]at l;exact absurd C l
  ·exact u l e
def anl(K:List UInt8->Bool)(T:List UInt8->Int)(n:Nat)(w:World)(e:Ending)(w':World):Prop:=
 Below w.heap.size w w'/\(((∃c,K c=true/\cQ (T c)=false)/\e=.returned (.tuple #[.slice none 0 0,.int .i64 4]))\/
  ((∀c,K c=true->cQ (T c)=true)/\∃A j l,e=.returned (.tuple #[.slice A l.length j,.int .i64 0])/\ai aN 2 w' w'.heap.size A l/\l.length<=n/\l.length<=j/\j<=maxLen/\(∀a,A=some a->w.heap.size<=a.block)/\
   l.Pairwise (fun a b=>ij a b=true)/\∀x:Elem,x∈l↔(K x.code.data.toList=true/\x.amount=T x.code.data.toList/\x.amount≠0)))
theorem anm(B n:Nat)(D:DataW Unit)(K:List UInt8->Bool)(T:List UInt8->Int)(w:World)(C:w.ownsMap prog 9 (plainElem (H:=Unit) prog 3) B n D)(hD:D7 D K T)(hn:n<=100000):
  Calls prog 159 #[.map (some B)] w (anl K T n w):=by
 have ao:B<w.heap.size:=by obtain⟨es,J,hb,_⟩:=C;exact(ava.1 hb).1
 have L:Maps.size D<=n:=by obtain⟨es,J,_,_,ml,rfl⟩:=C;rw[Maps.size_eq,acY];simpa using ml
 go_enter func159,ntmps159;go_wp2_with(at_range;refine wpList_range_own _ (by rfl) _ 181 (by rfl) 9 3 Hm underlying181 (plainElem (H:=Unit) prog 3) B n D (by rfl) C ?_;intro w0 O ab ap)
 go_frame
 go_loopw [4,5] (fun v _ wr=>∃left l u,wr.ranges prog 9 (plainElem (H:=Unit) prog 3) B w.heap.size n D left l/\Own aN 2 69 wr (w.heap.size+1) v u/\II K T left u/\u.length+l<=n/\Below w.heap.size w wr) (fun _ _ wr=>wr.rangeLeft B w.heap.size)
 case atStart=>exact⟨_,_,[],O,Own.cC _ _,II.start hD,by simpa using L,ib ab (atN _) (by simp)⟩
 case round=>
  obtain⟨left,l,u,F,E,G,am,ae⟩:=hrel;have br:=ae.size;have km:=F.lt;go_wp2_with(at_next;refine wpList_next_ranges _ (by rfl) _ (by rfl) 9 Hm (plainElem (H:=Unit) prog 3) Value.string (Value.int .i64) (fun key kl hk=>by obtain⟨x,P,_⟩:=Maps.keyOf_str underlying9 hk;exact⟨_,P⟩) (fun v y Z=>by obtain⟨c,N,_⟩:=plainElem_int_inv underlying3 Z;exact⟨c,N⟩) B w.heap.size n _ _ _ (by rfl) F ?_ ?_)
  ·intro r Q;obtain⟨A5,c5,rfl,dm,eR,nO,nP⟩:=E.kX dG;go_wp2_with fail;refine(ann A5 c5 (w.heap.size+1) u _ E (by omega)).mono ?_;rintro e w1 ⟨rfl,zs,hp,oU,J7,ad⟩;have F4:=hp.length_eq;go_wp2;go_ret2;refine⟨ae.trans (ad.mono (by omega)),.inr ⟨fun c N=>(G.full c N (Q _)).1,A5,c5,zs,by rw[F4];rfl,J7,by omega,by omega,nP,(fun a R=>by have:=eR a R;omega),?_,fun x=>?_⟩⟩
   ·exact YZ oU (G.nodup.perm hp.symm (fun h e=>h e.symm))
   ·rw[hp.mem_iff];refine⟨fun P=>⟨(G.sound x P).1,(G.sound x P).2.1,(G.sound x P).2.2.1⟩,fun⟨z,S,h3⟩=>?_⟩;obtain⟨y,hy,YP⟩:=(G.full _ z (Q _)).2 (by rw[<-S];exact h3);have YQ:y=x:=by
     obtain⟨_,g2,_⟩:=G.sound y hy;have N:y.code=x.code:=key_inj (by simp[key,YP]);obtain⟨a,b⟩:=y;obtain⟨c,d⟩:=x;simp only at N g2 S;subst N;rw[g2,S]
    rw[<-YQ];exact hy
  ·intro s c kl yd yp w2 an I af Z M p av U aj az;obtain⟨x',Eb,rfl,Az⟩:=Maps.keyOf_str underlying9 I;have Y0:x'=s.data.toList:=by
    have z:s=⟨x'.toArray⟩:=(by simpa[encStr]using Eb);rw[z]
   subst Y0;have QV:yd=QW c:=by
    obtain⟨c',z,S,_⟩:=plainElem_int_inv underlying3 Z;injection z with _ z
    subst z;injection S
   have U8:K s.data.toList=true:=(by rw[<-hD.has];exact has_true_of_atKey M);have IV:T s.data.toList=c:=by
    have z:=hD.at_ s.data.toList;rw[M,QV]at z;injection z with z
    injection z with _ z
    exact z.symm
   have Y1:left (key s)=true:=af;have j:=E.kept U (by intro g e;injection e;omega);have bm:Below w.heap.size w w2:=ae.grown U br (by intro g e;injection e;omega);have Y2:=bm.size;have aC:=p.lt;have HT:=atM IV;clear aj M I Eb Z QV IV;by_cases R:cQ c=true
   ·have V:=atM (G.step Y1 U8 HT.out R);by_cases r:c=0
    ·have oV:(c !=0)=false:=(by simp[r]);have J8:=V.out.2 r;clear r;go_wp2_with(go_at_call 158;refine(NK _ _).mono ?_;rintro e w' ⟨rfl,rfl⟩);go_roundw
     case rel=>
      have X:∃left l u,w2.ranges prog 9 (plainElem (H:=Unit) prog 3) B w.heap.size n D left l/\Own aN 2 69 w2 (w.heap.size+1) u4 u/\II K T left u/\u.length+l<=n/\Below w.heap.size w w2:=⟨_,_,u,p,j,J8,by omega,bm⟩
      first|exact X|((repeat apply Exists.intro);exact⟨X,rfl⟩)
     case measure=>rw[p.left_eq,F.left_eq];omega
    ·have oV:(c !=0)=true:=(by simp[r]);have J8:=V.out.1 r;have Y:some B≠u4.ownBlock:=fun e=>by have:=(j.bR e.symm).1;omega
     have IW:some w.heap.size≠u4.ownBlock:=fun e=>by have:=(j.bR e.symm).1;omega
     have ak:=fun g hg=>(j.bR (g:=g) hg).1;clear r;go_wp2_with(first|(go_at_call 158;refine(NK _ _).mono ?_;rintro e w' ⟨rfl,rfl⟩)|(at_builtin;(refine lD _ _ 51 ⟨s,c⟩ _ 24 _ nQ underlying51 j dG (by omega) rfl (mF _) (by omega) (by omega) (by omega) (by rfl) (by rfl) (by rfl) (by rfl) (by simp) (by rfl) ?_);intro v2 w6 cN dJ));go_roundw
     case rel=>
      have X:∃left l u,w6.ranges prog 9 (plainElem (H:=Unit) prog 3) B w.heap.size n D left l/\Own aN 2 69 w6 (w.heap.size+1) v2 u/\II K T left u/\u.length+l<=n/\Below w.heap.size w w6:=⟨_,_,_,p.kept dJ Y IW,cN,J8,by simp;omega,bm.grown dJ Y2 (fun g hg=>by have:=ak g hg;omega)⟩
      first|exact X|((repeat apply Exists.intro);exact⟨X,rfl⟩)
     case measure=>rw[(p.kept dJ Y IW).left_eq,F.left_eq];omega
   ·have al:cQ c=false:=(by simpa using R);clear R;go_wp2_with(go_at_call 158;refine(NK _ _).mono ?_;rintro e w' ⟨rfl,rfl⟩);go_ret2;exact⟨bm,.inl ⟨⟨_,U8,by rw[HT.out];exact al⟩,rfl⟩⟩
open Go.RowKit
theorem ags(l:List Elem):(bG l).any (fun x=>!cQ x.amount)=true↔∃c,fI l c=true/\cQ (cR l c)=false:=by
 rw[auy];constructor
 ·rintro⟨x,e,h⟩;rw[mem_sorted (Jv l),SK,SJ]at e;exact⟨_,e.1,by rw[<-e.2];simpa using h⟩
 ·rintro⟨c,j,h⟩;obtain⟨x,e,p⟩:=auy.1 j;have n:x.code.data.toList=c:=by simpa using p
  refine⟨⟨x.code,cR l c⟩,?_,by simp[h]⟩;rw[mem_sorted (Jv l),SK,SJ];exact⟨by show fI l x.code.data.toList=true;rw[n];exact j,by show cR l c=cR l x.code.data.toList;rw[n]⟩
theorem ano(l:List Elem)(c:List UInt8)(h:∀x∈l,cQ x.amount=true):-(l.length*1000000000:Int)<=cR l c/\cR l c<=l.length*1000000000:=by
 induction l with
 |nil=>simp[cR]
 |cons a l e=>
  have p:=e (fun x j=>h x (by simp[j]));have r:-1000000000<=a.amount/\a.amount<=1000000000:=by have:=h a (by simp);simpa[cQ]using this
  simp only[cR,at4];have n:((l.length+1:Nat):Int)*1000000000=(l.length:Int)*1000000000+1000000000:=by omega
  rw[n];split<;>omega
def anp(m:List Elem)(l:Int)(w:World)(e:Ending)(w':World):Prop:=
 ∃A j,e=.returned (.tuple #[.slice A m.length j,.int .i64 l])/\ai aN 2 w' w'.heap.size A m/\m.length<=j/\j<=maxLen/\Below w.heap.size w w'
def agt(m:List Elem)(l:Int)(w:World)(e:Ending)(w':World):Prop:=
 ∃A j,e=.returned (.tuple #[.slice A m.length j,.int .i64 l])/\ai aN 2 w' w'.heap.size A m/\m.length<=j/\j<=maxLen/\(∀a,A=some a->w.heap.size<=a.block)/\Below w.heap.size w w'
theorem agu(A:Option Addr)(ab:Nat)(l:List Elem)(w:World)(h:ai aN 2 w w.heap.size A l)(hz:∀x∈l,x.code.size<=maxLen)(hl:l.length<=9223372036854775806):
  Calls prog 103 #[.slice A l.length ab] w (agt (BC l) (ey l) w):=by
 have HZ:=atM hz;clear hz;have Ay:∀(n:Int) (W:World),n≠0->ey l=n->Below w.heap.size w W->agt (BC l) (ey l) w (Ending.returned (.tuple #[.slice none 0 0,.int .i64 n])) W:=by
  intro n W F he V;have hm:BC l=[]:=by rw[BC,atO (by rw[he];exact F)]
  rw[hm,he];exact⟨none,0,rfl,ai.cC,by simp,by unfold maxLen;omega,(fun a ha=>by cases ha),V⟩
 have u:=atM Ay;clear Ay;have D9:=@run_makeMap prog;by_cases I:128<l.length
 ·have E:Hid (ey l=3):=by simp only[Hid,ey,atP I]
  go_enter func103,ntmps103;go_wp2;go_ret2;exact u.out 3 _ (by omega) E.out (atS _ _)
 ·have kT:l.length<=128:=by omega
  clear I hl;go_enter func103,ntmps103;go_wp2
  go_loopw [16] (fun i wr=>∃k:Nat,k<=l.length/\i=.int .i64 k/\Hid (∀j,(y:j<l.length)->j<k->bI l[j].code=true)/\Below w.heap.size w wr) (fun i _=>l.length-(intOf i).toNat)
  case atStart=>exact⟨0,by omega,rfl,fun j _ y=>absurd y (by omega),atS _ _⟩
  case round=>
   obtain⟨k,X,rfl,r,z⟩:=hrel;have O:=z.size;by_cases p:k<l.length
   ·obtain⟨b,off,rfl,V,B⟩:=(h.below z).at_ p;have Q:=B 0 _ rfl;have c1:=B 1 _ rfl;simp only[atQ]at Q;clear B;have Y:=HZ.out _ (atT p);by_cases F:bI l[k].code=true
    ·go_wp2_with(go_at_call 82;refine(AA _ _ Y).mono ?_;rintro e w' ⟨rfl,rfl⟩);go_roundw
     case rel=>
      refine⟨k+1,by omega,by go_num,fun j y ad=>?_,z.alloc O _⟩;rcases at6 j k with h1|h1
      ·exact r.out j y h1
      ·obtain rfl:j=k:=by omega
       exact F
     case measure=>simp[intOf];omega
    ·have ml:bI l[k].code=false:=(by simpa using F);have E:Hid (ey l=7):=by
      have R:l.any (fun x=>!bI x.code)=true:=auy.2 ⟨l[k],atT _,by simp[ml]⟩;simp only[Hid,ey,atO (show¬128<l.length by omega),R,aup]
     clear F;go_wp2_with(go_at_call 82;refine(AA _ _ Y).mono ?_;rintro e w' ⟨rfl,rfl⟩);go_ret2;exact u.out 7 _ (by omega) E.out (z.alloc O _)
   ·have R:Hid (l.any (fun x=>!bI x.code)=false):=by
     rw[Hid,auC];intro x L;obtain⟨j,y,rfl⟩:=aun.1 L;simp[r.out j y (by omega)]
    obtain⟨wo,rfl⟩:∃wo:World,wo=wr:=⟨_,rfl⟩
    go_wp2;clear r X p
    go_loopw [27] (fun i wr=>∃k:Nat,k<=l.length/\i=.int .i64 k/\Hid (∀j,(y:j<l.length)->j<k->cQ l[j].amount=true)/\Below w.heap.size w wr) (fun i _=>l.length-(intOf i).toNat)
    case atStart=>exact⟨0,by omega,rfl,fun j _ y=>absurd y (by omega),z⟩
    case round=>
     obtain⟨k,X,rfl,r,z⟩:=hrel;have O:=z.size;by_cases p:k<l.length
     ·obtain⟨b,off,rfl,V,B⟩:=(h.below z).at_ p;have Q:=B 0 _ rfl;have c1:=B 1 _ rfl;simp only[atQ]at Q;clear B;by_cases F:cQ l[k].amount=true
      ·go_wp2_with(go_at_call 158;refine(NK _ _).mono ?_;rintro e w' ⟨rfl,rfl⟩);go_roundw
       case rel=>
        refine⟨k+1,by omega,by go_num,fun j y ad=>?_,z.alloc O _⟩;rcases at6 j k with h1|h1
        ·exact r.out j y h1
        ·obtain rfl:j=k:=by omega
         exact F
       case measure=>simp[intOf];omega
      ·have ml:cQ l[k].amount=false:=(by simpa using F);have E:Hid (ey l=2):=by
        have Z:l.any (fun x=>!cQ x.amount)=true:=auy.2 ⟨l[k],atT _,by simp[ml]⟩;simp only[Hid,ey,atO (show¬128<l.length by omega),R.out,Z,aup,auT,auw]
       clear F;go_wp2_with(go_at_call 158;refine(NK _ _).mono ?_;rintro e w' ⟨rfl,rfl⟩);go_ret2;exact u.out 2 _ (by omega) E.out (z.alloc O _)
     ·have M:Hid (∀x∈l,cQ x.amount=true):=by
       intro x L;obtain⟨j,y,rfl⟩:=aun.1 L;exact r.out j y (by omega)
      have Z:Hid (l.any (fun x=>!cQ x.amount)=false):=by rw[Hid,auC];intro x L;simp[M.out x L]
      obtain⟨G,rfl⟩:∃G:World,G=wr:=⟨_,rfl⟩
      go_wp2;clear r X p;have QO:(G.alloc (.map #[] 0)).ownsMap prog 9 (plainElem (H:=Unit) prog 3) G.heap.size 0 (.map []):=World.ownsMap_made _ _ _ _;have QP:Below w.heap.size w (G.alloc (.map #[] 0)):=z.alloc O _
      go_loopw [39] (fun i wr=>∃(k:Nat) (D:DataW Unit),k<=l.length/\i=.int .i64 k/\wr.ownsMap prog 9 (plainElem (H:=Unit) prog 3) G.heap.size k D/\D7 D (fI (l.take k)) (cR (l.take k))/\Below w.heap.size w wr) (fun i _=>l.length-(intOf i).toNat)
      case atStart=>exact⟨0,.map [],by omega,rfl,QO,D7.empty,QP⟩
      case round=>
       clear QO QP;obtain⟨k,D,X,rfl,J,S,P⟩:=hrel;have Ea:=P.size;by_cases p:k<l.length
       ·obtain⟨b,off,rfl,V,B⟩:=(h.below P).at_ p;have Q:=B 0 _ rfl;have c1:=B 1 _ rfl;simp only[atQ]at Q;clear B;have Y:=HZ.out _ (atT p);have K:keyOf prog 9 (.string l[k].code)=some (key l[k].code):=WideMaps.keyOf_string_mk underlying9 Y;have C:=J.kept (World.grownBy_alloc wr (Obj.cells #[Value.string l[k].code,Value.int IntKind.i64 l[k].amount] 69) none) (by simp);have L8:=ano (l.take k) l[k].code.data.toList (fun x L=>M.out x (auh L));have Hk:(l.take k).length<=128:=(by simp;omega);have SC:-1000000000<=l[k].amount/\l[k].amount<=1000000000:=(by have:=M.out _ (atT p);simpa[cQ]using this);obtain⟨av,az⟩:=SC;have J6:=S.at_ l[k].code.data.toList;have oB:-1000000000000<=cR (l.take k) l[k].code.data.toList:=(by omega);have C8:cR (l.take k) l[k].code.data.toList<=1000000000000:=(by omega);have Cs:=S.YT (K':=fI (l.take (k+1))) (T':=cR (l.take (k+1))) l[k].code (cR (l.take k) l[k].code.data.toList+l[k].amount) (YU l k p) (fun c=>by
         rw[YV l k p];split
         ·rename_i e;rw[<-e]
         ·omega)
        have Hl:=atM Cs;have kh:=atM J6;generalize cR (l.take k) l[k].code.data.toList=t0 at oB C8 Hl kh;clear L8 Hk J6 S Cs;go_wp2_with(first
         |(at_lookup;refine wpList_lookup_own_int _ (by rfl) _ _ 181 (by rfl) 9 3 .i64 Hm underlying181 underlying3 (YW _) G.heap.size k D (by rfl) C _ _ (by rfl) K ?_;intro c af aC;obtain rfl:c=t0:=(by have h1:=kh.out;rw[show Lit.string l[k].code.data.toList=key l[k].code from rfl,af]at h1;injection h1 with h1;injection h1))
         |(at_mapUpdate;refine wpList_mapUpdate_own _ (by rfl) _ _ _ 181 (by rfl) 9 3 Hm underlying181 _ G.heap.size k D (by rfl) C (by unfold maxLen;omega) _ _ _ (by rfl) (by rfl) K _ [] (plainElem_int underlying3 (YX (by omega) (by omega))) ?_;intro w1 N QQ))
        go_roundw
        case rel=>exact⟨k+1,_,by omega,by go_num,N,Hl.out,(P.alloc Ea _).grown QQ (by simp;omega) (fun g e=>by injection e;omega)⟩
        case measure=>simp[intOf];omega
       ·have ek:l.take k=l:=aut (by omega);rw[ek]at S;go_wp2_with fail;refine(anm G.heap.size k D _ _ _ J S (by omega)).mono ?_;rintro e w4 ⟨T,⟨aj,rfl⟩|⟨ak,A4,al,ys,rfl,cO,aD,am,an,ao,dN,fJ⟩⟩
        ·have E:Hid (ey l=4):=by
          have h4:=(ags l).2 aj;simp only[Hid,ey,atO (show¬128<l.length by omega),R.out,Z.out,h4,aup,auT,auw]
         go_wp2;go_ret2;exact u.out 4 _ (by omega) E.out (P.trans (T.mono Ea))
        ·have E:Hid (ey l=0):=by
          have h4:(bG l).any (fun x=>!cQ x.amount)=false:=by
           cases hh:(bG l).any (fun x=>!cQ x.amount)
           ·rfl
           ·obtain⟨c,ap,U⟩:=(ags l).1 hh;rw[ak c ap]at U;cases U
          simp only[Hid,ey,atO (show¬128<l.length by omega),R.out,Z.out,h4,auT,auw]
         have HM:Hid (BC l=ys):=(by rw[Hid,BC,atP E.out,<-amg dN fJ]);go_wp2;go_ret2;rw[HM.out,E.out];exact⟨A4,al,rfl,cO,am,an,(fun a ha=>by have:=ao a ha;have:=P.size;omega),P.trans (T.mono Ea)⟩
theorem anv(A:Option Addr)(j:Nat)(e:List Elem)(w:World)(h:ai aN 2 w w.heap.size A e)(l:∀x∈e,x.code.size<=maxLen)(n:e.length<=9223372036854775806):
  Calls prog 103 #[.slice A e.length j] w (anp (BC e) (ey e) w):=
 (agu A j e w h l n).mono fun _ _ ⟨A,c,p,r,u,y,_,z⟩=>⟨A,c,p,r,u,y,z⟩
