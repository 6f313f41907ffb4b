/- Conditions: as stated. -/
import Derived.WalkSpells
import Derived.WalkLawsBesides
import Derived.Lib.Hide
import Derived.Lib.Strings
import Derived.Deep.RegionWith
import Derived.Deep.DeepCutAuto
import Derived.Test.YtlhkojcmcmkmaaaGreatSData
set_option maxHeartbeats 2000000
namespace Go.Proofs.YtlhkojcmcmkmaaaGreat
open Go.Proofs.Tryz
open Go.RowKit
def cy(n:Int):Bool:=decide (-1000000000<=n/\n<=1000000000)
theorem Nd(n:Int)(w:World):
  Calls prog 158 #[.int .i64 n] w fun e w'=>e=.returned (.bool (cy n))/\w=w':=by
 by_cases l:-1000000000<=n<;>by_cases p:n<=1000000000
 all_goals
  have j:cy n=(decide (-1000000000<=n)&&decide (n<=1000000000)):=by simp[cy]
  have r:=arH j;clear j;go_enter func158,ntmps158;go_wp2;go_ret;exact⟨by rw[r.out];simp[l,p],rfl⟩
def aX(w:World)(b M:Nat):Prop:=∃(A:Option Addr) (l:List Int) (c at_:Nat),
 ah w b 99 #[.slice A l.length c,.int .i64 at_]/\at_<=M/\aj encI 1 w b A l/\l.length<=9223372036854775807/\∀x∈l,Ks x
theorem aX.lt{w:World}{b M:Nat}(h:aX w b M):b<w.heap.size:=by obtain⟨A,l,c,a,e,_⟩:=h;exact e.lt
theorem aX.grown{w w':World}{b M:Nat}{row:Option Nat}(h:aX w b M)(j:w.grownBy w' row)(hr:∀g,row=some g->b<g):aX w' b M:=by have n:=h.lt;obtain⟨A,l,c,a,p,r,u,y,z⟩:=h;exact⟨A,l,c,a,p.grown j (fun e=>by have:=hr b e.symm;omega),r,u.grown j (by omega) (fun g e=>by have:=hr g e;omega),y,z⟩
theorem aX.alloc{w:World}{b M:Nat}(h:aX w b M)(o:Obj):aX (w.alloc o) b M:=h.grown (World.grownBy_alloc w o none) (fun _ e=>by cases e)
theorem aX.mono{w:World}{b M e:Nat}(h:aX w b M)(p:M<=e):aX w b e:=by obtain⟨A,l,c,a,j,r,n⟩:=h;exact⟨A,l,c,a,j,by omega,n⟩
theorem kg(b M:Nat)(n:Int)(w:World)(B:0<n)(Q:n<=4611686018427387904)(R:M<=1000000)(hd:aX w b M):
  Calls prog 34 #[.pointer (some ⟨b,0,none⟩),.int .i64 n] w fun e w'=>∃r:Int,e=.returned (.int .i64 r)/\0<=r/\r<n/\aX w' b (M+1)/\w.grownBy w' (some b):=by
 obtain⟨A,l,c,at_,j,S,y,I,z⟩:=hd;have J:=j.cell 0;have K:=j.cell 1;have f1:=j.frozen 1;have L:=j.lt;simp only[ak,aq,ar]at J K;have fin:∀q:Nat,aX ((w.setCell ⟨b,1,none⟩ (.int .i64 ((at_:Int)+1))).drewN q) b (M+1)/\w.grownBy ((w.setCell ⟨b,1,none⟩ (.int .i64 ((at_:Int)+1))).drewN q) (some b):=by
  intro q;have E:w.grownBy (w.setCell ⟨b,1,none⟩ (.int .i64 ((at_:Int)+1))) (some b):=bm (fe _ _) (.inl rfl) _;refine⟨?_,QZ E q⟩;refine⟨A,l,c,at_+1,?_,by omega,?_,I,z⟩
  ·have:=j.eu 1 (.int .i64 ((at_:Int)+1));have:=this.drewN q;simpa using this
  ·exact(aj.grown y (QZ E q) (by omega) (fun g e=>by injection e with e;omega))
 have C:=arH fin;clear fin;have p:∀v:Int,(v.tmod n<0->∃r:Int,wrap64 (v.tmod n+n)=r/\0<=r/\r<n)/\(0<=v.tmod n->v.tmod n<n):=by
  intro v;refine⟨fun h=>⟨_,rfl,?_⟩,fun _=>Int.tmod_lt_of_pos v B⟩;have T:=Int.lt_tmod_of_pos v B;have:wrap64 (v.tmod n+n)=v.tmod n+n:=by unfold wrap64;omega
  rw[this];omega
 have u:=arH p;clear p;by_cases F:at_<l.length
 ·obtain⟨cb,N,rfl,U,G⟩:=y.at_ F;have D:=G 0 _ rfl;simp only[arL,ast]at D;have hi:=z _ (arO F);clear j y z G;go_enter func34,ntmps34;go_wp2;go_quiet(fail);go_wp2;go_quiet(fail);go_wp2
  ·rename_i h;obtain⟨r,O,P,j⟩:=(u.out _).1 h;go_ret;exact⟨r,by rw[<-O];rfl,P,j,C.out _⟩
  ·rename_i h;go_ret;exact⟨_,rfl,h,(u.out _).2 h,C.out _⟩
 ·clear j y z;go_enter func34,ntmps34;go_wp2;go_quiet(fail);go_wp2;go_ret;exact⟨_,rfl,‹_›,asQ _ B,C.out _⟩
theorem alR(A:Option Addr)(l:List Int)(c:Nat)(w:World)(h:aj encI 1 w w.heap.size A l)(n:l.length<=9223372036854775807)(j:∀x∈l,Ks x):
  Calls prog 19 #[.slice A l.length c] w fun e w'=>e=.returned (.pointer (some ⟨w.heap.size,0,none⟩))/\aX w' w.heap.size 0/\Below w.heap.size w w':=by
 have fin:aX (w.alloc (.cells #[.slice A l.length c,.int .i64 0] 99)) w.heap.size 0:=
  ⟨A,l,c,0,ah.new _ _ _,arI _,h.below ((arM _ _).alloc (arI _) _),n,j⟩
 have p:=arH fin;clear fin h j;go_enter func19,ntmps19;go_wp2;go_ret;exact⟨rfl,p.out,(arM _ _).alloc (arI _) _⟩
theorem Dw(b M:Nat)(w:World)(A:Option Addr)(l:List Int)(c:Nat)(E:M<=1000000)(hd:aX w b M)(n:l≠[])(N:l.length<=1000)(z:aj encI 1 w w.heap.size A l)(B:∀a,A=some a->a.block≠b):
  Calls prog 66 #[.pointer (some ⟨b,0,none⟩),.slice A l.length c] w fun e w'=>∃r:Int,e=.returned (.int .i64 r)/\r∈l/\aX w' b (M+1)/\w.grownBy w' (some b):=by
 have O:0<l.length:=atg.2 n;have F:=hd.lt;obtain⟨cb,p,rfl,u,C⟩:=z n;have y:=B _ rfl;have G:=arH C;clear B C z n;go_enter func66,ntmps66;go_wp2_with fail;refine(kg b M _ _ (by omega) (by omega) E hd).mono ?_;rintro e w' ⟨r,rfl,I,P,J,D⟩;obtain⟨j,rfl⟩:=atf I;have K:j<l.length:=by omega
 have L:=(asT (a:=⟨cb,p+j*1+0,none⟩) (D.block cb u (fun e=>y (by injection e)))).trans (G.out j _ (arW K) 0 _ rfl);simp only[arL,ast]at L;go_wp2;go_ret;exact⟨_,rfl,arO _,J,D⟩
def Am(n:Int):Bool:=decide (97<=n/\n<=122)
def GK(n:Int):Bool:=decide (48<=n/\n<=57)
def DJ(n:Int):Bool:=Am n||GK n||(n==95)
def wl(l:List UInt8):Nat:=if(l.head?.map fun c=>Am (c.toNat:Int))=some true then(l.takeWhile fun c=>DJ (c.toNat:Int)).length else 0
def Ih:List (List UInt8):=[[97,103,114,101,101,109,101,110,116],[105,110,112,117,116],[112,97,115,116],[115,99,97,108,101],[114,117,108,101],[112,97,121],[102,114,111,109],[114,111,117,110,100,101,100],[116,111],[105,102],[116,104,101,110],[101,108,115,101],[97,110,100],[111,114],[110,111,116],[116,114,117,101],[102,97,108,115,101],[109,105,110],[109,97,120],[114,111,117,110,100],[97,118,101,114,97,103,101],[108,97,115,116],[109,111,110,101,121],[104,111,117,114,115],[100,97,121,115],[110,117,109,98,101,114],[98,111,111,108],[100,111,119,110],[117,112],[102,108,111,111,114],[99,101,105,108,105,110,103],[104,97,108,102,95,117,112],[104,97,108,102,95,100,111,119,110],[104,97,108,102,95,101,118,101,110]]
def Ll(s:ByteArray):Bool:=Ih.any fun k=>s.toList==k
def bK(s:ByteArray):Bool:=decide (0<s.size/\s.size<=24)&&(wl s.data.toList==s.size)&&!Ll s
theorem aff(l:List UInt8)(h:∀c,l.head?=some c->Am (c.toNat:Int)=false):wl l=0:=by
 unfold wl;cases e:l.head? with
 |none=>simp
 |some c=>simp[h c e]
theorem alS{j:Type}(p:j->Bool):∀(l:List j) (k:Nat),k<=l.length->(∀i (h:i<l.length),i<k->p l[i]=true)->(∀h:k<l.length,p l[k]=false)->(l.takeWhile p).length=k:=by
 intro l
 induction l with
 |nil=>intro k e _ _;simp at e;simp[e]
 |cons a l y=>
  intro k e n r;cases k with
  |zero=>have:=r (by simp);simp at this;simp[this]
  |succ k=>have u:=n 0 (by simp) (by omega);simp at u;rw[List.takeWhile_cons,arK u,arZ];rw[y k (by simp at e;omega) (fun i hi z=>by have:=n (i+1) (by simp;omega) (by omega);simpa using this) (fun h=>by have:=r (by simp;omega);simpa using this)]
theorem Wo(s:ByteArray)(k:Nat)(l:k<=s.size)(n:∀h:0<s.size,Am (s[0].toNat:Int)=true)(j:0<s.size)
  (p:∀i (h:i<s.size),i<k->DJ (s[i].toNat:Int)=true) (r:∀h:k<s.size,DJ (s[k].toNat:Int)=false):wl s.data.toList=k:=by
 unfold wl;have u:s.data.toList.head?=some s[0]:=by rw[List.head?_eq_getElem?,arW (by simpa using j)];rfl
 rw[u];simp only[Option.map_some,n j,arK];exact alS _ _ k (by simpa using l) (fun i hi e=>p i (by simpa using hi) e) (fun h=>r (by simpa using h))
section
set_option maxHeartbeats 400000
theorem Nf(n:Int)(w:World):
  Calls prog 176 #[.int .u8 n] w fun e w'=>e=.returned (.bool (Am n))/\w=w':=by
 by_cases l:97<=n<;>by_cases p:n<=122
 all_goals
  have j:Am n=(decide (97<=n)&&decide (n<=122)):=by simp[Am]
  have r:=arH j;clear j;go_enter func176,ntmps176;go_wp2;go_ret;exact⟨by rw[r.out];simp[l,p],rfl⟩
theorem Wp(n:Int)(w:World):
  Calls prog 177 #[.int .u8 n] w fun e w'=>e=.returned (.bool (GK n))/\w=w':=by
 by_cases l:48<=n<;>by_cases p:n<=57
 all_goals
  have j:GK n=(decide (48<=n)&&decide (n<=57)):=by simp[GK]
  have r:=arH j;clear j;go_enter func177,ntmps177;go_wp2;go_ret;exact⟨by rw[r.out];simp[l,p],rfl⟩
theorem Ng(n:Int)(w:World):
  Calls prog 224 #[.int .u8 n] w fun e w'=>e=.returned (.bool (Am n))/\w=w':=by
 by_cases l:97<=n<;>by_cases p:n<=122
 all_goals
  have j:Am n=(decide (97<=n)&&decide (n<=122)):=by simp[Am]
  have r:=arH j;clear j;go_enter func224,ntmps224;go_wp2;go_ret;exact⟨by rw[r.out];simp[l,p],rfl⟩
theorem Wq(n:Int)(w:World):
  Calls prog 225 #[.int .u8 n] w fun e w'=>e=.returned (.bool (GK n))/\w=w':=by
 by_cases l:48<=n<;>by_cases p:n<=57
 all_goals
  have j:GK n=(decide (48<=n)&&decide (n<=57)):=by simp[GK]
  have r:=arH j;clear j;go_enter func225,ntmps225;go_wp2;go_ret;exact⟨by rw[r.out];simp[l,p],rfl⟩
end
theorem Ws(s:ByteArray)(h:0<s.size):¬s.toList=[]:=by
 rw[ByteArray.toList_eq];intro e;have:s.data.toList.length=0:=by rw[e];rfl
 have j:s.size=s.data.toList.length:=by simp
 omega
theorem aaE(s:ByteArray)(h:¬0<s.size):s.toList=[]:=by
 rw[ByteArray.toList_eq];have e:s.size=s.data.toList.length:=by simp
 exact atb (by omega)
theorem aaF(s:ByteArray)(h:0<s.size):s.toList.isEmpty=false:=by
 have:=Ws s h;cases e:s.toList with
 |nil=>exact absurd e this
 |cons=>rfl
theorem Wt(s:ByteArray)(w:World)(F:s.size<=maxLen):
  Calls prog 123 #[.string s] w fun e w'=>e=.returned (.int .i64 (wl s.data.toList))/\w=w':=by
 have K:s.size<=9223372036854775807:=F;clear F;by_cases n:0<s.size
 ·have l:=Ws s n;have L:=aaF s n;by_cases p:Am (s[0].toNat:Int)=true
  ·have G:=arH p;go_enter func123,ntmps123;go_wp2_with(go_at_call 176;refine(Nf _ _).mono ?_;rintro e w' ⟨rfl,rfl⟩)
   go_loop [3] (fun i=>∃k:Nat,1<=k/\k<=s.size/\i=.int .i64 k/\Hid (∀i (h:i<s.size),i<k->DJ (s[i].toNat:Int)=true)) (fun i=>s.size-(intOf i).toNat)
   case atStart=>exact⟨1,by omega,by omega,rfl,fun i h h1=>by
    obtain rfl:i=0:=by omega
    simp[DJ,p]⟩
   case round=>
    obtain⟨k,P,I,rfl,j⟩:=hrel;clear p l L;by_cases r:k<s.size
    ·by_cases u:Am (s[k].toNat:Int)=true
     ·go_wp2_with(first|(go_at_call 176;refine(Nf _ _).mono ?_;rintro e w' ⟨rfl,rfl⟩)|(go_at_call 177;refine(Wp _ _).mono ?_;rintro e w' ⟨rfl,rfl⟩));go_round
      case rel=>exact⟨k+1,by omega,by omega,by go_num,fun i h hi=>by
       rcases arY i k with h1|h1
       ·exact j.out i h h1
       ·obtain rfl:i=k:=by omega
        simp[DJ,u]⟩
      case measure=>simp[intOf];omega
     ·have M:Am (s[k].toNat:Int)=false:=(by simpa using u);clear u;by_cases y:GK (s[k].toNat:Int)=true
      ·go_wp2_with(first|(go_at_call 176;refine(Nf _ _).mono ?_;rintro e w' ⟨rfl,rfl⟩)|(go_at_call 177;refine(Wp _ _).mono ?_;rintro e w' ⟨rfl,rfl⟩));go_round
       case rel=>exact⟨k+1,by omega,by omega,by go_num,fun i h hi=>by
        rcases arY i k with h1|h1
        ·exact j.out i h h1
        ·obtain rfl:i=k:=by omega
         simp[DJ,y]⟩
       case measure=>simp[intOf];omega
      ·have N:GK (s[k].toNat:Int)=false:=(by simpa using y);clear y;by_cases z:((s[k].toNat:Int)==95)=true
       ·go_wp2_with(first|(go_at_call 176;refine(Nf _ _).mono ?_;rintro e w' ⟨rfl,rfl⟩)|(go_at_call 177;refine(Wp _ _).mono ?_;rintro e w' ⟨rfl,rfl⟩));go_round
        case rel=>exact⟨k+1,by omega,by omega,by go_num,fun i h hi=>by
         rcases arY i k with h1|h1
         ·exact j.out i h h1
         ·obtain rfl:i=k:=by omega
          simp only[DJ,z,Bool.or_true]⟩
        case measure=>simp[intOf];omega
       ·have B:((s[k].toNat:Int)==95)=false:=(by simpa using z);clear z;go_wp2_with(first|(go_at_call 176;refine(Nf _ _).mono ?_;rintro e w' ⟨rfl,rfl⟩)|(go_at_call 177;refine(Wp _ _).mono ?_;rintro e w' ⟨rfl,rfl⟩));go_ret;rw[Wo s k I (fun _=>G.out) n j.out (fun _=>by simp only[DJ,M,N,B,Bool.or_self])];exact⟨rfl,rfl⟩
    ·go_wp2_with fail;go_ret;rw[Wo s k I (fun _=>G.out) n j.out (fun h=>absurd h r)];exact⟨rfl,rfl⟩
  ·have C:Am (s[0].toNat:Int)=false:=(by simpa using p);have J:wl s.data.toList=0:=by
    apply aff;intro c D;have O:s.data.toList.head?=some s[0]:=by rw[List.head?_eq_getElem?,arW (by simpa using n)];rfl
    rw[O]at D;simp at D;rw[<-D];exact C
   have E:=arH J;clear J p;go_enter func123,ntmps123;go_wp2_with(go_at_call 176;refine(Nf _ _).mono ?_;rintro e w' ⟨rfl,rfl⟩);go_ret;rw[E.out];exact⟨rfl,rfl⟩
 ·have l:=aaE s n;have E:Hid (wl s.data.toList=0):=by
   rw[<-ByteArray.toList_eq,l];rfl
  go_enter func123,ntmps123;go_wp2_with(go_at_call 176;refine(Nf _ _).mono ?_;rintro e w' ⟨rfl,rfl⟩);go_ret;rw[E.out];exact⟨rfl,rfl⟩
theorem Wv(s:ByteArray)(w:World):
  Calls prog 124 #[.string s] w fun e w'=>e=.returned (.bool (Ll s))/\w=w':=by
 go_enter func124,ntmps124;go_wp2
 all_goals go_ret
 all_goals refine⟨?_,rfl⟩
 all_goals first|(simp[Ll,Ih, *];done)|(exfalso;simp_all;done)
theorem Ww(s:ByteArray)(w:World)(G:s.size<=maxLen):
  Calls prog 190 #[.string s,.int .i64 0] w fun e w'=>e=.returned (.int .i64 (wl s.data.toList))/\w=w':=by
 have M:s.size<=9223372036854775807:=G;clear G;by_cases p:0<s.size
 ·have n:=Ws s p;have N:=aaF s p;have I:¬s=ByteArray.empty:=by rintro rfl;simp at p
  by_cases r:Am (s[0].toNat:Int)=true
  ·have J:=arH r;go_enter func190,ntmps190;go_wp2_with(go_at_call 224;refine(Ng _ _).mono ?_;rintro e w' ⟨rfl,rfl⟩)
   go_loop [1] (fun i=>∃k:Nat,0<=k/\k<=s.size/\i=.int .i64 k/\Hid (∀i (h:i<s.size),i<k->DJ (s[i].toNat:Int)=true)) (fun i=>s.size-(intOf i).toNat)
   case atStart=>exact⟨0,by omega,by omega,rfl,fun i h h1=>absurd h1 (by omega)⟩
   case round=>
    obtain⟨k,R,K,rfl,j⟩:=hrel;clear r n N I;by_cases u:k<s.size
    ·by_cases y:Am (s[k].toNat:Int)=true
     ·go_wp2_with(first|(go_at_call 224;refine(Ng _ _).mono ?_;rintro e w' ⟨rfl,rfl⟩)|(go_at_call 225;refine(Wq _ _).mono ?_;rintro e w' ⟨rfl,rfl⟩));go_round
      case rel=>exact⟨k+1,by omega,by omega,by go_num,fun i h hi=>by
       rcases arY i k with h1|h1
       ·exact j.out i h h1
       ·obtain rfl:i=k:=by omega
        simp[DJ,y]⟩
      case measure=>simp[intOf];omega
     ·have O:Am (s[k].toNat:Int)=false:=(by simpa using y);clear y;by_cases z:GK (s[k].toNat:Int)=true
      ·go_wp2_with(first|(go_at_call 224;refine(Ng _ _).mono ?_;rintro e w' ⟨rfl,rfl⟩)|(go_at_call 225;refine(Wq _ _).mono ?_;rintro e w' ⟨rfl,rfl⟩));go_round
       case rel=>exact⟨k+1,by omega,by omega,by go_num,fun i h hi=>by
        rcases arY i k with h1|h1
        ·exact j.out i h h1
        ·obtain rfl:i=k:=by omega
         simp[DJ,z]⟩
       case measure=>simp[intOf];omega
      ·have P:GK (s[k].toNat:Int)=false:=(by simpa using z);clear z;by_cases B:((s[k].toNat:Int)==95)=true
       ·go_wp2_with(first|(go_at_call 224;refine(Ng _ _).mono ?_;rintro e w' ⟨rfl,rfl⟩)|(go_at_call 225;refine(Wq _ _).mono ?_;rintro e w' ⟨rfl,rfl⟩));go_round
        case rel=>exact⟨k+1,by omega,by omega,by go_num,fun i h hi=>by
         rcases arY i k with h1|h1
         ·exact j.out i h h1
         ·obtain rfl:i=k:=by omega
          simp only[DJ,B,Bool.or_true]⟩
        case measure=>simp[intOf];omega
       ·have C:((s[k].toNat:Int)==95)=false:=(by simpa using B);clear B;go_wp2_with(first|(go_at_call 224;refine(Ng _ _).mono ?_;rintro e w' ⟨rfl,rfl⟩)|(go_at_call 225;refine(Wq _ _).mono ?_;rintro e w' ⟨rfl,rfl⟩));go_ret;rw[Wo s k K (fun _=>J.out) p j.out (fun _=>by simp only[DJ,O,P,C,Bool.or_self])];exact⟨rfl,rfl⟩
    ·go_wp2_with fail;go_ret;rw[Wo s k K (fun _=>J.out) p j.out (fun h=>absurd h u)];exact⟨rfl,rfl⟩
  ·have D:Am (s[0].toNat:Int)=false:=(by simpa using r);have L:wl s.data.toList=0:=by
    apply aff;intro c E;have Q:s.data.toList.head?=some s[0]:=by rw[List.head?_eq_getElem?,arW (by simpa using p)];rfl
    rw[Q]at E;simp at E;rw[<-E];exact D
   have F:=arH L;clear L r;go_enter func190,ntmps190;go_wp2_with(go_at_call 224;refine(Ng _ _).mono ?_;rintro e w' ⟨rfl,rfl⟩);go_ret;rw[F.out];exact⟨rfl,rfl⟩
 ·have n:=aaE s p;have I:s=ByteArray.empty:=by
   have h1:s.data.toList=[]:=(by rw[<-ByteArray.toList_eq];exact n);obtain⟨⟨l⟩⟩:=s;simp at h1;subst h1;rfl
  have F:Hid (wl s.data.toList=0):=by rw[<-ByteArray.toList_eq,n];rfl
  go_enter func190,ntmps190;go_wp2_with(go_at_call 224;refine(Ng _ _).mono ?_;rintro e w' ⟨rfl,rfl⟩);go_ret;rw[F.out];exact⟨rfl,rfl⟩
def aaG:Array Value:=#[Value.string {data:=#[97,103,114,101,101,109,101,110,116]},Value.string {data:=#[105,110,112,117,116]},Value.string {data:=#[112,97,115,116]},Value.string {data:=#[115,99,97,108,101]},Value.string {data:=#[114,117,108,101]},Value.string {data:=#[112,97,121]},Value.string {data:=#[102,114,111,109]},Value.string {data:=#[114,111,117,110,100,101,100]},Value.string {data:=#[116,111]},Value.string {data:=#[105,102]},Value.string {data:=#[116,104,101,110]},Value.string {data:=#[101,108,115,101]},Value.string {data:=#[97,110,100]},Value.string {data:=#[111,114]},Value.string {data:=#[110,111,116]},Value.string {data:=#[116,114,117,101]},Value.string {data:=#[102,97,108,115,101]},Value.string {data:=#[109,105,110]},Value.string {data:=#[109,97,120]},Value.string {data:=#[114,111,117,110,100]},Value.string {data:=#[97,118,101,114,97,103,101]},Value.string {data:=#[108,97,115,116]},Value.string {data:=#[109,111,110,101,121]},Value.string {data:=#[104,111,117,114,115]},Value.string {data:=#[100,97,121,115]},Value.string {data:=#[110,117,109,98,101,114]},Value.string {data:=#[98,111,111,108]},Value.string {data:=#[100,111,119,110]},Value.string {data:=#[117,112]},Value.string {data:=#[102,108,111,111,114]},Value.string {data:=#[99,101,105,108,105,110,103]},Value.string {data:=#[104,97,108,102,95,117,112]},Value.string {data:=#[104,97,108,102,95,100,111,119,110]},Value.string {data:=#[104,97,108,102,95,101,118,101,110]}]
def Pu(k:Nat):ByteArray:=⟨(Ih.getD k []).toArray⟩
theorem alT:aaG=(Ih.map fun l=>Value.string ⟨l.toArray⟩).toArray:=rfl
theorem alU(k:Nat)(h:k<34):aaG[k]?=some (.string (Pu k)):=by have e:k<Ih.length:=h;rw[alT,arQ,as2,arW e];simp[Pu,e]
theorem afg(k:Nat):(Pu k).toList=Ih.getD k []:=by rw[ByteArray.toList_eq];simp[Pu]
theorem Wx(s:ByteArray)(w:World):
  Calls prog 191 #[.string s] w fun e w'=>e=.returned (.bool (Ll s))/\Below w.heap.size w w':=by
 go_enter func191,ntmps191;go_wp2;rw[show Obj.cells #[Value.string {data:=#[97,103,114,101,101,109,101,110,116]},Value.string {data:=#[105,110,112,117,116]},Value.string {data:=#[112,97,115,116]},Value.string {data:=#[115,99,97,108,101]},Value.string {data:=#[114,117,108,101]},Value.string {data:=#[112,97,121]},Value.string {data:=#[102,114,111,109]},Value.string {data:=#[114,111,117,110,100,101,100]},Value.string {data:=#[116,111]},Value.string {data:=#[105,102]},Value.string {data:=#[116,104,101,110]},Value.string {data:=#[101,108,115,101]},Value.string {data:=#[97,110,100]},Value.string {data:=#[111,114]},Value.string {data:=#[110,111,116]},Value.string {data:=#[116,114,117,101]},Value.string {data:=#[102,97,108,115,101]},Value.string {data:=#[109,105,110]},Value.string {data:=#[109,97,120]},Value.string {data:=#[114,111,117,110,100]},Value.string {data:=#[97,118,101,114,97,103,101]},Value.string {data:=#[108,97,115,116]},Value.string {data:=#[109,111,110,101,121]},Value.string {data:=#[104,111,117,114,115]},Value.string {data:=#[100,97,121,115]},Value.string {data:=#[110,117,109,98,101,114]},Value.string {data:=#[98,111,111,108]},Value.string {data:=#[100,111,119,110]},Value.string {data:=#[117,112]},Value.string {data:=#[102,108,111,111,114]},Value.string {data:=#[99,101,105,108,105,110,103]},Value.string {data:=#[104,97,108,102,95,117,112]},Value.string {data:=#[104,97,108,102,95,100,111,119,110]},Value.string {data:=#[104,97,108,102,95,101,118,101,110]}] 9=Obj.cells aaG 9 from rfl]
 go_loop [4] (fun i=>∃k:Nat,k<=34/\i=.int .i64 k/\Hid (∀j,j<k->(Ih.getD j []==s.toList)=false)) (fun i=>34-(intOf i).toNat)
 case atStart=>exact⟨0,by omega,rfl,fun j r=>absurd r (by omega)⟩
 case round=>
  obtain⟨k,u,rfl,l⟩:=hrel;by_cases n:k<34
  ·have C:=alU k n;by_cases p:((Pu k).toList==s.toList)=true
   ·go_wp2;go_ret;have u:Ll s=true:=by
     rw[afg]at p;rw[Ll,asx];refine⟨Ih.getD k [],?_,by rw[beq_iff_eq]at p|-;exact p.symm⟩;rw[ar1,arW (show k<Ih.length from n)];exact arO _
    exact⟨by rw[u];rfl,(arM _ _).alloc (arI _) _⟩
   ·have y:((Pu k).toList==s.toList)=false:=(by simpa using p);clear p;go_wp2;go_round
    case rel=>
     refine⟨k+1,by omega,by go_num,fun j r=>?_⟩;rcases arY j k with h1|h1
     ·exact l.out j h1
     ·obtain rfl:j=k:=by omega
      rw[<-afg];exact y
    case measure=>simp[intOf];omega
  ·go_wp2;go_ret;have u:Ll s=false:=by
    rw[Ll,asr];intro x z;obtain⟨j,r,rfl⟩:=aso.1 z;have B:Ih.length=34:=rfl;have:=l.out j (by omega);rw[ar1,arW r]at this;simp at this;simp;exact fun e=>this e.symm
   exact⟨by rw[u];rfl,(arM _ _).alloc (arI _) _⟩
theorem afh(s:ByteArray):wl s.data.toList<=s.size:=by
 unfold wl;have e:s.size=s.data.toList.length:=by simp
 split
 ·rw[e];exact(List.takeWhile_sublist _).length_le
 ·omega
theorem Cq(s:ByteArray)(w:World)(j:s.size<=maxLen):
  Calls prog 82 #[.string s] w fun e w'=>e=.returned (.bool (bK s))/\w=w':=by
 have u:s.size<=9223372036854775807:=j;by_cases n:0<s.size
 ·by_cases p:s.size<=24
  ·have z:=afh s;by_cases l:wl s.data.toList=s.size
   ·have y:((wl s.data.toList:Int)==(s.size:Int))=true:=(by simp[l]);have r:=arH l;clear l;go_enter func82,ntmps82;go_wp2_with(first|(go_at_call 123;refine(Wt _ _ j).mono ?_;rintro e w' ⟨rfl,rfl⟩)|(go_at_call 124;refine(Wv _ _).mono ?_;rintro e w' ⟨rfl,rfl⟩));go_ret;exact⟨by simp[bK,n,p,r.out],rfl⟩
   ·have y:((wl s.data.toList:Int)==(s.size:Int))=false:=(by simp;omega);have r:=arH l;clear l;go_enter func82,ntmps82;go_wp2_with(first|(go_at_call 123;refine(Wt _ _ j).mono ?_;rintro e w' ⟨rfl,rfl⟩)|(go_at_call 124;refine(Wv _ _).mono ?_;rintro e w' ⟨rfl,rfl⟩));go_ret;exact⟨by simp[bK,n,p,r.out],rfl⟩
  ·go_enter func82,ntmps82;go_wp2_with(first|(go_at_call 123;refine(Wt _ _ j).mono ?_;rintro e w' ⟨rfl,rfl⟩)|(go_at_call 124;refine(Wv _ _).mono ?_;rintro e w' ⟨rfl,rfl⟩));go_ret;exact⟨by simp[bK,n,p],rfl⟩
 ·go_enter func82,ntmps82;go_wp2_with(first|(go_at_call 123;refine(Wt _ _ j).mono ?_;rintro e w' ⟨rfl,rfl⟩)|(go_at_call 124;refine(Wv _ _).mono ?_;rintro e w' ⟨rfl,rfl⟩));go_ret;exact⟨by simp[bK,n],rfl⟩
theorem BZ(s:ByteArray)(w:World)(l:s.size<=maxLen):
  Calls prog 152 #[.string s] w fun e w'=>e=.returned (.bool (bK s))/\Below w.heap.size w w':=by
 have z:s.size<=9223372036854775807:=l;by_cases j:0<s.size
 ·have r:=Ws s j;have C:=aaF s j;by_cases u:s.size<=24
  ·have D:=afh s;by_cases n:wl s.data.toList=s.size
   ·have B:((wl s.data.toList:Int)==(s.size:Int))=true:=(by simp[n]);have y:=arH n;clear n;go_enter func152,ntmps152;go_wp2_with(first|(go_at_call 190;refine(Ww _ _ l).mono ?_;rintro e w' ⟨rfl,rfl⟩)|(go_at_call 191;refine(Wx _ _).mono ?_;rintro e w' ⟨rfl,p⟩));go_ret;exact⟨by simp[bK,j,u,y.out],by first|exact p|exact arM _ _⟩
   ·have B:((wl s.data.toList:Int)==(s.size:Int))=false:=(by simp;omega);have y:=arH n;clear n;go_enter func152,ntmps152;go_wp2_with(first|(go_at_call 190;refine(Ww _ _ l).mono ?_;rintro e w' ⟨rfl,rfl⟩)|(go_at_call 191;refine(Wx _ _).mono ?_;rintro e w' ⟨rfl,p⟩));go_ret;exact⟨by simp[bK,j,u,y.out],by first|exact p|exact arM _ _⟩
  ·go_enter func152,ntmps152;go_wp2_with(first|(go_at_call 190;refine(Ww _ _ l).mono ?_;rintro e w' ⟨rfl,rfl⟩)|(go_at_call 191;refine(Wx _ _).mono ?_;rintro e w' ⟨rfl,p⟩));go_ret;exact⟨by simp[bK,j,u],arM _ _⟩
 ·have r:=aaE s j;go_enter func152,ntmps152;go_wp2_with(first|(go_at_call 190;refine(Ww _ _ l).mono ?_;rintro e w' ⟨rfl,rfl⟩)|(go_at_call 191;refine(Wx _ _).mono ?_;rintro e w' ⟨rfl,p⟩));go_ret;exact⟨by simp[bK,j],arM _ _⟩
structure cO where
 code:ByteArray
 kind:Int
 jy:Bool
 aM:Bool
 gi:Bool
 eQ:Int
deriving DecidableEq
def gG(x:cO):List Value:=[.string x.code,.int .i64 x.kind,.bool x.jy,.bool x.aM,.bool x.gi,.int .i64 x.eQ]
structure Elem where
 code:ByteArray
 amount:Int
deriving DecidableEq
def aQ(x:Elem):List Value:=[.string x.code,.int .i64 x.amount]
theorem aad(x:cO):(gG x).length=6:=rfl
theorem dB(x:Elem):(aQ x).length=2:=rfl
theorem alV(x:cO):∀u∈gG x,u.oneCell'=true:=by intro u hu;simp[gG]at hu;rcases hu with rfl|rfl|rfl|rfl|rfl|rfl<;>rfl
theorem kO(x:Elem):∀u∈aQ x,u.oneCell'=true:=by intro u hu;simp[aQ]at hu;rcases hu with rfl|rfl<;>rfl
theorem alW:(Tryz.prog.info? 77).map (fun i=>(i.zero,i.size,i.bytes))=some (some (.agg #[.string ⟨#[]⟩,.int .i64 0,.bool false,.bool false,.bool false,.int .i64 0]),6,40):=by kernel_rfl
theorem ll:(Tryz.prog.info? 69).map (fun i=>(i.zero,i.size,i.bytes))=some (some (.agg #[.string ⟨#[]⟩,.int .i64 0]),2,24):=by kernel_rfl
def aaH:ByteArray:=⟨#[98,111,110,117,115]⟩
def afi:ByteArray:=⟨#[99,97,114]⟩
def afj:ByteArray:=⟨#[110,105,103,104,116]⟩
def afk:ByteArray:=⟨#[115,97,108,97,114,121]⟩
def CQ:List ByteArray:=[aaH,afi,afj,afk]
def aaI:Array Value:=#[.string ⟨#[98,111,110,117,115]⟩,.string ⟨#[99,97,114]⟩,.string ⟨#[110,105,103,104,116]⟩,.string ⟨#[115,97,108,97,114,121]⟩]
def FL(k:Nat):ByteArray:=CQ.getD k aaH
theorem alX(k:Nat)(h:k<4):aaI[k]?=some (.string (FL k)):=by
 match k,h with
 |0,_=>rfl
 |1,_=>rfl
 |2,_=>rfl
 |3,_=>rfl
structure afl(x:cO):Prop where
 code:x.code∈CQ
 kind:x.kind=1\/(x.kind=2/\x.gi=false)
 lo:4000<=x.eQ
 hi:x.eQ<=4003
 sal:x.code=FL 3->x.kind=1
structure pI(k:Nat)(xs:List cO):Prop where
 sub:(xs.map (·.code)).Sublist (CQ.take k)
 ok:∀x∈xs,afl x
theorem pI.cL:pI 0 []:=⟨by simp,by simp⟩
theorem afm(k:Nat)(h:k<4):CQ.take (k+1)=CQ.take k++[FL k]:=by
 match k,h with
 |0,_=>rfl
 |1,_=>rfl
 |2,_=>rfl
 |3,_=>rfl
theorem pI.skip{k:Nat}{e:List cO}(h:pI k e)(j:k<4):pI (k+1) e:=
 ⟨by rw[afm k j];exact h.sub.trans (List.sublist_append_left _ _),h.ok⟩
theorem pI.more{k:Nat}{e:List cO}(h:pI k e)(j:k<4)(x:cO)(l:x.code=FL k)(n:afl x):pI (k+1) (e++[x]):=by
 refine⟨?_,fun y hy=>?_⟩
 ·rw[afm k j,asW];exact h.sub.append (by simp[l])
 ·rcases asf.1 hy with h1|h1
  ·exact h.ok y h1
  ·simp at h1;subst h1;exact n
theorem pI.len{k:Nat}{e:List cO}(h:pI k e):e.length<=4:=by have:=h.sub.length_le;simp[CQ]at this;omega
theorem alY(k:Nat)(h:k<4):((FL k).toList==[99,97,114])=true->FL k≠FL 3:=by
 match k,h with
 |0,_=>decide+kernel
 |1,_=>decide+kernel
 |2,_=>decide+kernel
 |3,_=>decide+kernel
theorem alZ(k:Nat)(h:k<4):FL k∈CQ:=by
 match k,h with
 |0,_=>simp[FL,CQ]
 |1,_=>simp[FL,CQ]
 |2,_=>simp[FL,CQ]
 |3,_=>simp[FL,CQ]
theorem alI(b M:Nat)(w:World)(hM:M<=900000)(hd:aX w b M):
  Calls prog 63 #[.pointer (some ⟨b,0,none⟩)] w fun e w'=>∃v y,e=.returned v/\pI 4 y/\Own gG 6 77 w' w.heap.size v y/\aX w' b (M+20)/\w.grownBy w' (some b):=by
 have X:=hd.lt;go_enter func63,ntmps63;go_wp2_with fail;rw[show Obj.cells #[.string ⟨#[98,111,110,117,115]⟩,.string ⟨#[99,97,114]⟩,.string ⟨#[110,105,103,104,116]⟩,.string ⟨#[115,97,108,97,114,121]⟩] 9=Obj.cells aaI 9 from rfl]
 go_loopw [3,9] (fun v i wr=>∃(k:Nat) (y:List cO),k<=4/\i=.int .i64 k/\pI k y/\Own gG 6 77 wr (w.heap.size+1) v y/\aX wr b (M+5*k)/\ah wr w.heap.size 9 aaI/\w.grownBy wr (some b)) (fun _ i _=>4-(intOf i).toNat)
 case atStart=>exact⟨0,[],by omega,rfl,pI.cL,Own.cL _ _,hd.alloc _,ah.new _ _ _,fJ (fe _ _) _⟩
 case round=>
  obtain⟨k,y,hk,rfl,D,l,E,j,F⟩:=hrel;by_cases B:k<4
  ·have Y:=(j.cell k).trans (alX k B);go_wp2_with fail;refine(kg b (M+5*k) _ _ (by omega) (by omega) (by omega) E).mono ?_;rintro e w1 ⟨r1,rfl,Z,ab,L,n⟩;go_wp2_with fail;refine(kg b (M+5*k+1) _ _ (by omega) (by omega) (by omega) L).mono ?_;rintro e w2 ⟨r2,rfl,ad,ae,N,p⟩;go_wp2_with fail;refine(kg b (M+5*k+1+1) _ _ (by omega) (by omega) (by omega) N).mono ?_;rintro e w3 ⟨r3,rfl,af,ai,O,r⟩;go_wp2_with fail;refine(kg b (M+5*k+1+1+1) _ _ (by omega) (by omega) (by omega) O).mono ?_;rintro e G ⟨P,rfl,R8,al,Q,u⟩;go_wp2_with fail
   all_goals
    refine(kg b (M+5*k+1+1+1+1) _ _ (by omega) (by omega) (by omega) (Q.alloc _)).mono ?_;rintro e w5 ⟨r5,rfl,Wl,aO,R,z⟩;have am:w.heap.size<G.heap.size:=(by have:=j.lt;have:=n.size;have:=p.size;have:=r.size;have:=u.size;omega);have S:=(ah.new G _ _).grown z (by intro e;injection e;omega);obtain⟨d0,d1,d2,d3,d4,d5⟩:=S.cz6;have T:=(((l.kept n (by intro g e;injection e;omega)).kept p (by intro g e;injection e;omega)).kept r (by intro g e;injection e;omega)).kept u (by intro g e;injection e;omega);have I:=(T.alloc (Obj.cells _ _)).kept z (by intro g e;injection e;omega);have C:=((((j.grown n (by intro e;injection e;omega)).grown p (by intro e;injection e;omega)).grown r (by intro e;injection e;omega)).grown u (by intro e;injection e;omega)).alloc (Obj.cells _ _) |>.grown z (by intro e;injection e;omega);have U:=ck (fJ (ck (ck (ck (ck F n) p) r) u) _) z;have an:G.heap.size+1<=w5.heap.size:=(by have:=z.size;simpa using this);have V:=D.len;clear S l T j F n p r u z E L N O Q Y;go_wp2_with(at_builtin;(refine mQ _ _ 36 ⟨_,_,_,_,_,_⟩ _ 40 _ alW underlying36 I aad (by omega) rfl (alV _) (by omega) (by omega) (by omega) (by rfl) (by rfl) (by rfl) (by rfl) (by simp) (by rfl) ?_);intro v2 w6 cI J)
    ·have K:∀g,Value.ownBlock _=some g->w.heap.size+1<=g:=fun g e=>(I.cm e).1;go_roundw
     case rel=>refine⟨k+1,_,by omega,by go_num,?_,cI,(R.grown J (fun g e=>by have:=K g e;omega)).mono (by omega),C.grown J (fun e=>by have:=K _ e.symm;omega),Cf U J (fun g e=>.inl (by have:=K g e;omega))⟩;exact D.more B _ rfl ⟨alZ k B,by first|exact .inl rfl|exact .inr ⟨rfl,rfl⟩,by show _<=(4000+P:Int);omega,by show(4000+P:Int)<=_;omega,fun e=>by first|rfl|exact absurd e (alY k B (by assumption))⟩
     case measure=>simp[intOf];omega
    ·go_roundw
     case rel=>exact⟨k+1,y,by omega,by go_num,D.skip B,I,R.mono (by omega),C,U⟩
     case measure=>simp[intOf];omega
  ·go_wp2;go_ret;obtain rfl:k=4:=by omega
   exact⟨_,y,rfl,D,l.weaken (by omega),E,F⟩
theorem K3(b M:Nat)(w:World)(P:M<=900000)(hd:aX w b M):
  Calls prog 41 #[.pointer (some ⟨b,0,none⟩)] w fun e w'=>∃r:Int,e=.returned (.int .i64 r)/\0<=r/\r<600000/\aX w' b (M+2)/\w.grownBy w' (some b):=by
 have I:=hd.lt;go_enter func41,ntmps41;go_wp2_with fail;refine(kg b M _ _ (by omega) (by omega) (by omega) hd).mono ?_;rintro e J ⟨G,rfl,K,L,z,u⟩;have Q:=z.lt;by_cases B:G=0
 ·subst B;go_wp2_with fail;refine(Dw b (M+1) _ _ [0,0,1,100] _ (by omega) (z.alloc _) (by simp) (by simp) ?_ ?_).mono ?_
  ·exact fun _=>⟨J.heap.size,0,rfl,by simp,fun i x hi j v l=>by
    rw[World.cell?_alloc_at _ _ _ _ rfl]
    match j,l with
    |0,l=>
     match i,hi with
     |0,hi=>simp at hi;subst hi;simpa[encI]using l
     |1,hi=>simp at hi;subst hi;simpa[encI]using l
     |2,hi=>simp at hi;subst hi;simpa[encI]using l
     |3,hi=>simp at hi;subst hi;simpa[encI]using l
     |(n+4),hi=>simp at hi
    |(n+1),l=>simp[encI]at l⟩
  ·intro a C;injection C with C;subst C;simp;omega
  ·rintro e N ⟨y,rfl,O,D,p⟩;go_wp2;go_ret;have:0<=y/\y<600000:=(by simp at O;omega);exact⟨y,rfl,this.1,this.2,D,ck (fJ u _) p⟩
 ·have R:(G==0)=false:=by simpa using B
  clear B;go_wp2_with fail;refine(kg b (M+1) _ _ (by omega) (by omega) (by omega) z).mono ?_;rintro e N ⟨y,rfl,E,F,D,p⟩;go_wp2;go_ret;exact⟨y,rfl,E,F,D,ck u p⟩
theorem aj.new{n:Type}{e:n->List Value}{k:Nat}(p:∀x,(e x).length=k)(w:World)(l:List n)(cs:Array Value)(t:TypeId)(h:cs=(l.flatMap e).toArray):
  aj e k (w.alloc (.cells cs t)) (w.heap.size+1) (some ⟨w.heap.size,0,none⟩) l:=fun _=>by
 subst h;refine⟨w.heap.size,0,rfl,by omega,fun i x hi j v r=>?_⟩;rw[World.cell?_alloc_at _ _ _ _ rfl,arT,arQ];exact G4 p l i j x v hi r
theorem lF(x:Int):(encI x).length=1:=rfl
def SP:List ByteArray:=[aaH,afi,afj,afk,⟨#[97]⟩,⟨#[98]⟩,⟨#[120,49]⟩,⟨#[97,98,99,100,101,102,103,104,105,106,107,108,109,110,111,112,113,114,115,116,117,118,119,120]⟩]
theorem al0:∀s∈SP,s.size<=24:=by decide
def al1(s:ByteArray):List Value:=[.string s]
theorem al2(s:ByteArray):(al1 s).length=1:=rfl
theorem al3(b M:Nat)(w:World)(F:M<=900000)(hd:aX w b M):
  Calls prog 35 #[.pointer (some ⟨b,0,none⟩)] w fun e w'=>∃s:ByteArray,e=.returned (.string s)/\s∈SP/\aX w' b (M+1)/\w.grownBy w' (some b):=by
 have u:=hd.lt;go_enter func35,ntmps35;go_wp2_with fail;have hS:=aj.new al2 w SP _ 9 rfl;refine(kg b M _ _ (by omega) (by omega) (by omega) (hd.alloc _)).mono ?_;rintro e G ⟨I,rfl,p,y,z,l⟩;obtain⟨j,rfl⟩:=atf p;have B:j<SP.length:=by simp[SP];omega
 obtain⟨J,C,n,K,r⟩:=hS.at_ B;injection n with n
 injection n with n D
 subst n D;have E:=(asT (a:=⟨w.heap.size,0+j*1+0,none⟩) (l.block w.heap.size (by simp) (fun e=>by injection e;omega))).trans (r 0 _ rfl);simp only[arL,ast,arT]at E;clear r hS;go_wp2;go_ret;exact⟨_,rfl,arO _,z,ck (fJ (fe _ _) _) l⟩
