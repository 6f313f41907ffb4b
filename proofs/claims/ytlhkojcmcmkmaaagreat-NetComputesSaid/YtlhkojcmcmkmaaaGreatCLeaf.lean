/- Conditions: as stated. -/
import Derived.WalkSpells
import Derived.WalkLawsBesides
import Derived.Lib.Hide
import Derived.Lib.Strings
import Derived.Deep.RegionWith
import Derived.Deep.DeepCutAuto
import Derived.Test.YtlhkojcmcmkmaaaGreatCData
set_option maxHeartbeats 2000000
namespace Go.Proofs.YtlhkojcmcmkmaaaGreat
open Go.Proofs.Tryz
open Go.RowKit
def cQ(n:Int):Bool:=decide (-1000000000<=n/\n<=1000000000)
theorem NK(n:Int)(w:World):
  Calls prog 158 #[.int .i64 n] w fun e w'=>e=.returned (.bool (cQ n))/\w=w':=by
 by_cases l:-1000000000<=n<;>by_cases p:n<=1000000000
 all_goals
  have j:cQ n=(decide (-1000000000<=n)&&decide (n<=1000000000)):=by simp[cQ]
  have r:=atM j;clear j;go_enter func158,ntmps158;go_wp2;go_ret;exact⟨by rw[r.out];simp[l,p],rfl⟩
def aW(w:World)(b M:Nat):Prop:=∃(A:Option Addr) (l:List Int) (c at_:Nat),
 ah w b 99 #[.slice A l.length c,.int .i64 at_]/\at_<=M/\ai encI 1 w b A l/\l.length<=9223372036854775807/\∀x∈l,Kr x
theorem aW.lt{w:World}{b M:Nat}(h:aW w b M):b<w.heap.size:=by obtain⟨A,l,c,a,e,_⟩:=h;exact e.lt
theorem aW.grown{w w':World}{b M:Nat}{row:Option Nat}(h:aW w b M)(j:w.grownBy w' row)(n:∀g,row=some g->b<g):aW w' b M:=by have p:=h.lt;obtain⟨A,l,c,a,r,u,y,z,B⟩:=h;exact⟨A,l,c,a,r.grown j (fun e=>by have:=n b e.symm;omega),u,y.grown j (by omega) (fun g e=>by have:=n g e;omega),z,B⟩
theorem aW.alloc{w:World}{b M:Nat}(h:aW w b M)(o:Obj):aW (w.alloc o) b M:=h.grown (World.grownBy_alloc w o none) (fun _ e=>by cases e)
theorem aW.mono{w:World}{b M e:Nat}(h:aW w b M)(p:M<=e):aW w b e:=by obtain⟨A,l,c,a,j,r,n⟩:=h;exact⟨A,l,c,a,j,by omega,n⟩
theorem il(b M:Nat)(n:Int)(w:World)(B:0<n)(P:n<=4611686018427387904)(Q:M<=1000000)(hd:aW w b M):
  Calls prog 34 #[.pointer (some ⟨b,0,none⟩),.int .i64 n] w fun e w'=>∃r:Int,e=.returned (.int .i64 r)/\0<=r/\r<n/\aW w' b (M+1)/\w.grownBy w' (some b):=by
 obtain⟨A,l,c,at_,j,R,y,I,z⟩:=hd;have J:=j.cell 0;have K:=j.cell 1;have f1:=j.frozen 1;have L:=j.lt;simp only[aq,ar,au]at J K;have fin:∀q:Nat,aW ((w.setCell ⟨b,1,none⟩ (.int .i64 ((at_:Int)+1))).drewN q) b (M+1)/\w.grownBy ((w.setCell ⟨b,1,none⟩ (.int .i64 ((at_:Int)+1))).drewN q) (some b):=by
  intro q;have E:w.grownBy (w.setCell ⟨b,1,none⟩ (.int .i64 ((at_:Int)+1))) (some b):=bg (dX _ _) (.inl rfl) _;refine⟨?_,Sj E q⟩;refine⟨A,l,c,at_+1,?_,by omega,?_,I,z⟩
  ·have:=j.eh 1 (.int .i64 ((at_:Int)+1));have:=this.drewN q;simpa using this
  ·exact(ai.grown y (Sj E q) (by omega) (fun g e=>by injection e with e;omega))
 have C:=atM fin;clear fin;have p:∀v:Int,(v.tmod n<0->∃r:Int,wrap64 (v.tmod n+n)=r/\0<=r/\r<n)/\(0<=v.tmod n->v.tmod n<n):=by
  intro v;refine⟨fun h=>⟨_,rfl,?_⟩,fun _=>Int.tmod_lt_of_pos v B⟩;have S:=Int.lt_tmod_of_pos v B;have:wrap64 (v.tmod n+n)=v.tmod n+n:=by unfold wrap64;omega
  rw[this];omega
 have u:=atM p;clear p;by_cases F:at_<l.length
 ·obtain⟨T,off,rfl,U,G⟩:=y.at_ F;have D:=G 0 _ rfl;simp only[atQ,auo]at D;have hi:=z _ (atT F);clear j y z G;go_enter func34,ntmps34;go_wp2;go_quiet(fail);go_wp2;go_quiet(fail);go_wp2
  ·rename_i h;obtain⟨r,N,O,j⟩:=(u.out _).1 h;go_ret;exact⟨r,by rw[<-N];rfl,O,j,C.out _⟩
  ·rename_i h;go_ret;exact⟨_,rfl,h,(u.out _).2 h,C.out _⟩
 ·clear j y z;go_enter func34,ntmps34;go_wp2;go_quiet(fail);go_wp2;go_ret;exact⟨_,rfl,‹_›,au2 _ B,C.out _⟩
theorem am8(A:Option Addr)(l:List Int)(c:Nat)(w:World)(h:ai encI 1 w w.heap.size A l)(n:l.length<=9223372036854775807)(j:∀x∈l,Kr x):
  Calls prog 19 #[.slice A l.length c] w fun e w'=>e=.returned (.pointer (some ⟨w.heap.size,0,none⟩))/\aW w' w.heap.size 0/\Below w.heap.size w w':=by
 have fin:aW (w.alloc (.cells #[.slice A l.length c,.int .i64 0] 99)) w.heap.size 0:=
  ⟨A,l,c,0,ah.new _ _ _,atN _,h.below ((atS _ _).alloc (atN _) _),n,j⟩
 have p:=atM fin;clear fin h j;go_enter func19,ntmps19;go_wp2;go_ret;exact⟨rfl,p.out,(atS _ _).alloc (atN _) _⟩
theorem FH(b M:Nat)(w:World)(A:Option Addr)(l:List Int)(c:Nat)(E:M<=1000000)(hd:aW w b M)(n:l≠[])(N:l.length<=1000)(y:ai encI 1 w w.heap.size A l)(z:∀a,A=some a->a.block≠b):
  Calls prog 66 #[.pointer (some ⟨b,0,none⟩),.slice A l.length c] w fun e w'=>∃r:Int,e=.returned (.int .i64 r)/\r∈l/\aW w' b (M+1)/\w.grownBy w' (some b):=by
 have O:0<l.length:=avm.2 n;have F:=hd.lt;obtain⟨B,off,rfl,p,C⟩:=y n;have u:=z _ rfl;have G:=atM C;clear z C y n;go_enter func66,ntmps66;go_wp2_with fail;refine(il b M _ _ (by omega) (by omega) E hd).mono ?_;rintro e w' ⟨r,rfl,I,P,J,D⟩;obtain⟨j,rfl⟩:=avq I;have K:j<l.length:=by omega
 have L:=(auX (a:=⟨B,off+j*1+0,none⟩) (D.block B p (fun e=>u (by injection e)))).trans (G.out j _ (atW K) 0 _ rfl);simp only[atQ,auo]at L;go_wp2;go_ret;exact⟨_,rfl,atT _,J,D⟩
def Ac(n:Int):Bool:=decide (97<=n/\n<=122)
def G7(n:Int):Bool:=decide (48<=n/\n<=57)
def DV(n:Int):Bool:=Ac n||G7 n||(n==95)
def wl(l:List UInt8):Nat:=if(l.head?.map fun c=>Ac (c.toNat:Int))=some true then(l.takeWhile fun c=>DV (c.toNat:Int)).length else 0
def IH:List (List UInt8):=[[97,103,114,101,101,109,101,110,116],[105,110,112,117,116],[112,97,115,116],[115,99,97,108,101],[114,117,108,101],[112,97,121],[102,114,111,109],[114,111,117,110,100,101,100],[116,111],[105,102],[116,104,101,110],[101,108,115,101],[97,110,100],[111,114],[110,111,116],[116,114,117,101],[102,97,108,115,101],[109,105,110],[109,97,120],[114,111,117,110,100],[97,118,101,114,97,103,101],[108,97,115,116],[109,111,110,101,121],[104,111,117,114,115],[100,97,121,115],[110,117,109,98,101,114],[98,111,111,108],[100,111,119,110],[117,112],[102,108,111,111,114],[99,101,105,108,105,110,103],[104,97,108,102,95,117,112],[104,97,108,102,95,100,111,119,110],[104,97,108,102,95,101,118,101,110]]
def LK(s:ByteArray):Bool:=IH.any fun k=>s.toList==k
def bI(s:ByteArray):Bool:=decide (0<s.size/\s.size<=24)&&(wl s.data.toList==s.size)&&!LK s
theorem agl(l:List UInt8)(h:∀c,l.head?=some c->Ac (c.toNat:Int)=false):wl l=0:=by
 unfold wl;cases e:l.head? with
 |none=>simp
 |some c=>simp[h c e]
theorem am9{j:Type}(p:j->Bool):∀(l:List j) (k:Nat),k<=l.length->(∀i (h:i<l.length),i<k->p l[i]=true)->(∀h:k<l.length,p l[k]=false)->(l.takeWhile p).length=k:=by
 intro l
 induction l with
 |nil=>intro k e _ _;simp at e;simp[e]
 |cons a l y=>
  intro k e n r;cases k with
  |zero=>have:=r (by simp);simp at this;simp[this]
  |succ k=>have u:=n 0 (by simp) (by omega);simp at u;rw[List.takeWhile_cons,atP u,at4];rw[y k (by simp at e;omega) (fun i hi z=>by have:=n (i+1) (by simp;omega) (by omega);simpa using this) (fun h=>by have:=r (by simp;omega);simpa using this)]
theorem Xh(s:ByteArray)(k:Nat)(l:k<=s.size)(n:∀h:0<s.size,Ac (s[0].toNat:Int)=true)(j:0<s.size)
  (p:∀i (h:i<s.size),i<k->DV (s[i].toNat:Int)=true) (r:∀h:k<s.size,DV (s[k].toNat:Int)=false):wl s.data.toList=k:=by
 unfold wl;have u:s.data.toList.head?=some s[0]:=by rw[List.head?_eq_getElem?,atW (by simpa using j)];rfl
 rw[u];simp only[Option.map_some,n j,atP];exact am9 _ _ k (by simpa using l) (fun i hi e=>p i (by simpa using hi) e) (fun h=>r (by simpa using h))
section
set_option maxHeartbeats 400000
theorem NL(n:Int)(w:World):
  Calls prog 176 #[.int .u8 n] w fun e w'=>e=.returned (.bool (Ac n))/\w=w':=by
 by_cases l:97<=n<;>by_cases p:n<=122
 all_goals
  have j:Ac n=(decide (97<=n)&&decide (n<=122)):=by simp[Ac]
  have r:=atM j;clear j;go_enter func176,ntmps176;go_wp2;go_ret;exact⟨by rw[r.out];simp[l,p],rfl⟩
theorem Xi(n:Int)(w:World):
  Calls prog 177 #[.int .u8 n] w fun e w'=>e=.returned (.bool (G7 n))/\w=w':=by
 by_cases l:48<=n<;>by_cases p:n<=57
 all_goals
  have j:G7 n=(decide (48<=n)&&decide (n<=57)):=by simp[G7]
  have r:=atM j;clear j;go_enter func177,ntmps177;go_wp2;go_ret;exact⟨by rw[r.out];simp[l,p],rfl⟩
theorem NM(n:Int)(w:World):
  Calls prog 224 #[.int .u8 n] w fun e w'=>e=.returned (.bool (Ac n))/\w=w':=by
 by_cases l:97<=n<;>by_cases p:n<=122
 all_goals
  have j:Ac n=(decide (97<=n)&&decide (n<=122)):=by simp[Ac]
  have r:=atM j;clear j;go_enter func224,ntmps224;go_wp2;go_ret;exact⟨by rw[r.out];simp[l,p],rfl⟩
theorem Xj(n:Int)(w:World):
  Calls prog 225 #[.int .u8 n] w fun e w'=>e=.returned (.bool (G7 n))/\w=w':=by
 by_cases l:48<=n<;>by_cases p:n<=57
 all_goals
  have j:G7 n=(decide (48<=n)&&decide (n<=57)):=by simp[G7]
  have r:=atM j;clear j;go_enter func225,ntmps225;go_wp2;go_ret;exact⟨by rw[r.out];simp[l,p],rfl⟩
end
theorem Xk(s:ByteArray)(h:0<s.size):¬s.toList=[]:=by
 rw[ByteArray.toList_eq];intro e;have:s.data.toList.length=0:=by rw[e];rfl
 have j:s.size=s.data.toList.length:=by simp
 omega
theorem abi(s:ByteArray)(h:¬0<s.size):s.toList=[]:=by
 rw[ByteArray.toList_eq];have e:s.size=s.data.toList.length:=by simp
 exact avo (by omega)
theorem abj(s:ByteArray)(h:0<s.size):s.toList.isEmpty=false:=by
 have:=Xk s h;cases e:s.toList with
 |nil=>exact absurd e this
 |cons=>rfl
theorem Xl(s:ByteArray)(w:World)(F:s.size<=maxLen):
  Calls prog 123 #[.string s] w fun e w'=>e=.returned (.int .i64 (wl s.data.toList))/\w=w':=by
 have K:s.size<=9223372036854775807:=F;clear F;by_cases n:0<s.size
 ·have l:=Xk s n;have L:=abj s n;by_cases p:Ac (s[0].toNat:Int)=true
  ·have G:=atM p;go_enter func123,ntmps123;go_wp2_with(go_at_call 176;refine(NL _ _).mono ?_;rintro e w' ⟨rfl,rfl⟩)
   go_loop [3] (fun i=>∃k:Nat,1<=k/\k<=s.size/\i=.int .i64 k/\Hid (∀i (h:i<s.size),i<k->DV (s[i].toNat:Int)=true)) (fun i=>s.size-(intOf i).toNat)
   case atStart=>exact⟨1,by omega,by omega,rfl,fun i h h1=>by
    obtain rfl:i=0:=by omega
    simp[DV,p]⟩
   case round=>
    obtain⟨k,P,I,rfl,j⟩:=hrel;clear p l L;by_cases r:k<s.size
    ·by_cases u:Ac (s[k].toNat:Int)=true
     ·go_wp2_with(first|(go_at_call 176;refine(NL _ _).mono ?_;rintro e w' ⟨rfl,rfl⟩)|(go_at_call 177;refine(Xi _ _).mono ?_;rintro e w' ⟨rfl,rfl⟩));go_round
      case rel=>exact⟨k+1,by omega,by omega,by go_num,fun i h hi=>by
       rcases at6 i k with h1|h1
       ·exact j.out i h h1
       ·obtain rfl:i=k:=by omega
        simp[DV,u]⟩
      case measure=>simp[intOf];omega
     ·have M:Ac (s[k].toNat:Int)=false:=(by simpa using u);clear u;by_cases y:G7 (s[k].toNat:Int)=true
      ·go_wp2_with(first|(go_at_call 176;refine(NL _ _).mono ?_;rintro e w' ⟨rfl,rfl⟩)|(go_at_call 177;refine(Xi _ _).mono ?_;rintro e w' ⟨rfl,rfl⟩));go_round
       case rel=>exact⟨k+1,by omega,by omega,by go_num,fun i h hi=>by
        rcases at6 i k with h1|h1
        ·exact j.out i h h1
        ·obtain rfl:i=k:=by omega
         simp[DV,y]⟩
       case measure=>simp[intOf];omega
      ·have N:G7 (s[k].toNat:Int)=false:=(by simpa using y);clear y;by_cases z:((s[k].toNat:Int)==95)=true
       ·go_wp2_with(first|(go_at_call 176;refine(NL _ _).mono ?_;rintro e w' ⟨rfl,rfl⟩)|(go_at_call 177;refine(Xi _ _).mono ?_;rintro e w' ⟨rfl,rfl⟩));go_round
        case rel=>exact⟨k+1,by omega,by omega,by go_num,fun i h hi=>by
         rcases at6 i k with h1|h1
         ·exact j.out i h h1
         ·obtain rfl:i=k:=by omega
          simp only[DV,z,Bool.or_true]⟩
        case measure=>simp[intOf];omega
       ·have B:((s[k].toNat:Int)==95)=false:=(by simpa using z);clear z;go_wp2_with(first|(go_at_call 176;refine(NL _ _).mono ?_;rintro e w' ⟨rfl,rfl⟩)|(go_at_call 177;refine(Xi _ _).mono ?_;rintro e w' ⟨rfl,rfl⟩));go_ret;rw[Xh s k I (fun _=>G.out) n j.out (fun _=>by simp only[DV,M,N,B,Bool.or_self])];exact⟨rfl,rfl⟩
    ·go_wp2_with fail;go_ret;rw[Xh s k I (fun _=>G.out) n j.out (fun h=>absurd h r)];exact⟨rfl,rfl⟩
  ·have C:Ac (s[0].toNat:Int)=false:=(by simpa using p);have J:wl s.data.toList=0:=by
    apply agl;intro c D;have O:s.data.toList.head?=some s[0]:=by rw[List.head?_eq_getElem?,atW (by simpa using n)];rfl
    rw[O]at D;simp at D;rw[<-D];exact C
   have E:=atM J;clear J p;go_enter func123,ntmps123;go_wp2_with(go_at_call 176;refine(NL _ _).mono ?_;rintro e w' ⟨rfl,rfl⟩);go_ret;rw[E.out];exact⟨rfl,rfl⟩
 ·have l:=abi s n;have E:Hid (wl s.data.toList=0):=by
   rw[<-ByteArray.toList_eq,l];rfl
  go_enter func123,ntmps123;go_wp2_with(go_at_call 176;refine(NL _ _).mono ?_;rintro e w' ⟨rfl,rfl⟩);go_ret;rw[E.out];exact⟨rfl,rfl⟩
theorem Xn(s:ByteArray)(w:World):
  Calls prog 124 #[.string s] w fun e w'=>e=.returned (.bool (LK s))/\w=w':=by
 go_enter func124,ntmps124;go_wp2
 all_goals go_ret
 all_goals refine⟨?_,rfl⟩
 all_goals first|(simp[LK,IH, *];done)|(exfalso;simp_all;done)
theorem Xo(s:ByteArray)(w:World)(G:s.size<=maxLen):
  Calls prog 190 #[.string s,.int .i64 0] w fun e w'=>e=.returned (.int .i64 (wl s.data.toList))/\w=w':=by
 have M:s.size<=9223372036854775807:=G;clear G;by_cases p:0<s.size
 ·have n:=Xk s p;have N:=abj s p;have I:¬s=ByteArray.empty:=by rintro rfl;simp at p
  by_cases r:Ac (s[0].toNat:Int)=true
  ·have J:=atM r;go_enter func190,ntmps190;go_wp2_with(go_at_call 224;refine(NM _ _).mono ?_;rintro e w' ⟨rfl,rfl⟩)
   go_loop [1] (fun i=>∃k:Nat,0<=k/\k<=s.size/\i=.int .i64 k/\Hid (∀i (h:i<s.size),i<k->DV (s[i].toNat:Int)=true)) (fun i=>s.size-(intOf i).toNat)
   case atStart=>exact⟨0,by omega,by omega,rfl,fun i h h1=>absurd h1 (by omega)⟩
   case round=>
    obtain⟨k,R,K,rfl,j⟩:=hrel;clear r n N I;by_cases u:k<s.size
    ·by_cases y:Ac (s[k].toNat:Int)=true
     ·go_wp2_with(first|(go_at_call 224;refine(NM _ _).mono ?_;rintro e w' ⟨rfl,rfl⟩)|(go_at_call 225;refine(Xj _ _).mono ?_;rintro e w' ⟨rfl,rfl⟩));go_round
      case rel=>exact⟨k+1,by omega,by omega,by go_num,fun i h hi=>by
       rcases at6 i k with h1|h1
       ·exact j.out i h h1
       ·obtain rfl:i=k:=by omega
        simp[DV,y]⟩
      case measure=>simp[intOf];omega
     ·have O:Ac (s[k].toNat:Int)=false:=(by simpa using y);clear y;by_cases z:G7 (s[k].toNat:Int)=true
      ·go_wp2_with(first|(go_at_call 224;refine(NM _ _).mono ?_;rintro e w' ⟨rfl,rfl⟩)|(go_at_call 225;refine(Xj _ _).mono ?_;rintro e w' ⟨rfl,rfl⟩));go_round
       case rel=>exact⟨k+1,by omega,by omega,by go_num,fun i h hi=>by
        rcases at6 i k with h1|h1
        ·exact j.out i h h1
        ·obtain rfl:i=k:=by omega
         simp[DV,z]⟩
       case measure=>simp[intOf];omega
      ·have P:G7 (s[k].toNat:Int)=false:=(by simpa using z);clear z;by_cases B:((s[k].toNat:Int)==95)=true
       ·go_wp2_with(first|(go_at_call 224;refine(NM _ _).mono ?_;rintro e w' ⟨rfl,rfl⟩)|(go_at_call 225;refine(Xj _ _).mono ?_;rintro e w' ⟨rfl,rfl⟩));go_round
        case rel=>exact⟨k+1,by omega,by omega,by go_num,fun i h hi=>by
         rcases at6 i k with h1|h1
         ·exact j.out i h h1
         ·obtain rfl:i=k:=by omega
          simp only[DV,B,Bool.or_true]⟩
        case measure=>simp[intOf];omega
       ·have C:((s[k].toNat:Int)==95)=false:=(by simpa using B);clear B;go_wp2_with(first|(go_at_call 224;refine(NM _ _).mono ?_;rintro e w' ⟨rfl,rfl⟩)|(go_at_call 225;refine(Xj _ _).mono ?_;rintro e w' ⟨rfl,rfl⟩));go_ret;rw[Xh s k K (fun _=>J.out) p j.out (fun _=>by simp only[DV,O,P,C,Bool.or_self])];exact⟨rfl,rfl⟩
    ·go_wp2_with fail;go_ret;rw[Xh s k K (fun _=>J.out) p j.out (fun h=>absurd h u)];exact⟨rfl,rfl⟩
  ·have D:Ac (s[0].toNat:Int)=false:=(by simpa using r);have L:wl s.data.toList=0:=by
    apply agl;intro c E;have Q:s.data.toList.head?=some s[0]:=by rw[List.head?_eq_getElem?,atW (by simpa using p)];rfl
    rw[Q]at E;simp at E;rw[<-E];exact D
   have F:=atM L;clear L r;go_enter func190,ntmps190;go_wp2_with(go_at_call 224;refine(NM _ _).mono ?_;rintro e w' ⟨rfl,rfl⟩);go_ret;rw[F.out];exact⟨rfl,rfl⟩
 ·have n:=abi s p;have I:s=ByteArray.empty:=by
   have h1:s.data.toList=[]:=(by rw[<-ByteArray.toList_eq];exact n);obtain⟨⟨l⟩⟩:=s;simp at h1;subst h1;rfl
  have F:Hid (wl s.data.toList=0):=by rw[<-ByteArray.toList_eq,n];rfl
  go_enter func190,ntmps190;go_wp2_with(go_at_call 224;refine(NM _ _).mono ?_;rintro e w' ⟨rfl,rfl⟩);go_ret;rw[F.out];exact⟨rfl,rfl⟩
def abk:Array Value:=#[Value.string {data:=#[97,103,114,101,101,109,101,110,116]},Value.string {data:=#[105,110,112,117,116]},Value.string {data:=#[112,97,115,116]},Value.string {data:=#[115,99,97,108,101]},Value.string {data:=#[114,117,108,101]},Value.string {data:=#[112,97,121]},Value.string {data:=#[102,114,111,109]},Value.string {data:=#[114,111,117,110,100,101,100]},Value.string {data:=#[116,111]},Value.string {data:=#[105,102]},Value.string {data:=#[116,104,101,110]},Value.string {data:=#[101,108,115,101]},Value.string {data:=#[97,110,100]},Value.string {data:=#[111,114]},Value.string {data:=#[110,111,116]},Value.string {data:=#[116,114,117,101]},Value.string {data:=#[102,97,108,115,101]},Value.string {data:=#[109,105,110]},Value.string {data:=#[109,97,120]},Value.string {data:=#[114,111,117,110,100]},Value.string {data:=#[97,118,101,114,97,103,101]},Value.string {data:=#[108,97,115,116]},Value.string {data:=#[109,111,110,101,121]},Value.string {data:=#[104,111,117,114,115]},Value.string {data:=#[100,97,121,115]},Value.string {data:=#[110,117,109,98,101,114]},Value.string {data:=#[98,111,111,108]},Value.string {data:=#[100,111,119,110]},Value.string {data:=#[117,112]},Value.string {data:=#[102,108,111,111,114]},Value.string {data:=#[99,101,105,108,105,110,103]},Value.string {data:=#[104,97,108,102,95,117,112]},Value.string {data:=#[104,97,108,102,95,100,111,119,110]},Value.string {data:=#[104,97,108,102,95,101,118,101,110]}]
def P5(k:Nat):ByteArray:=⟨(IH.getD k []).toArray⟩
theorem ana:abk=(IH.map fun l=>Value.string ⟨l.toArray⟩).toArray:=rfl
theorem anb(k:Nat)(h:k<34):abk[k]?=some (.string (P5 k)):=by have e:k<IH.length:=h;rw[ana,atY,au0,atW e];simp[P5,e]
theorem agm(k:Nat):(P5 k).toList=IH.getD k []:=by rw[ByteArray.toList_eq];simp[P5]
theorem Xp(s:ByteArray)(w:World):
  Calls prog 191 #[.string s] w fun e w'=>e=.returned (.bool (LK s))/\Below w.heap.size w w':=by
 go_enter func191,ntmps191;go_wp2;rw[show Obj.cells #[Value.string {data:=#[97,103,114,101,101,109,101,110,116]},Value.string {data:=#[105,110,112,117,116]},Value.string {data:=#[112,97,115,116]},Value.string {data:=#[115,99,97,108,101]},Value.string {data:=#[114,117,108,101]},Value.string {data:=#[112,97,121]},Value.string {data:=#[102,114,111,109]},Value.string {data:=#[114,111,117,110,100,101,100]},Value.string {data:=#[116,111]},Value.string {data:=#[105,102]},Value.string {data:=#[116,104,101,110]},Value.string {data:=#[101,108,115,101]},Value.string {data:=#[97,110,100]},Value.string {data:=#[111,114]},Value.string {data:=#[110,111,116]},Value.string {data:=#[116,114,117,101]},Value.string {data:=#[102,97,108,115,101]},Value.string {data:=#[109,105,110]},Value.string {data:=#[109,97,120]},Value.string {data:=#[114,111,117,110,100]},Value.string {data:=#[97,118,101,114,97,103,101]},Value.string {data:=#[108,97,115,116]},Value.string {data:=#[109,111,110,101,121]},Value.string {data:=#[104,111,117,114,115]},Value.string {data:=#[100,97,121,115]},Value.string {data:=#[110,117,109,98,101,114]},Value.string {data:=#[98,111,111,108]},Value.string {data:=#[100,111,119,110]},Value.string {data:=#[117,112]},Value.string {data:=#[102,108,111,111,114]},Value.string {data:=#[99,101,105,108,105,110,103]},Value.string {data:=#[104,97,108,102,95,117,112]},Value.string {data:=#[104,97,108,102,95,100,111,119,110]},Value.string {data:=#[104,97,108,102,95,101,118,101,110]}] 9=Obj.cells abk 9 from rfl]
 go_loop [4] (fun i=>∃k:Nat,k<=34/\i=.int .i64 k/\Hid (∀j,j<k->(IH.getD j []==s.toList)=false)) (fun i=>34-(intOf i).toNat)
 case atStart=>exact⟨0,by omega,rfl,fun j r=>absurd r (by omega)⟩
 case round=>
  obtain⟨k,u,rfl,l⟩:=hrel;by_cases n:k<34
  ·have C:=anb k n;by_cases p:((P5 k).toList==s.toList)=true
   ·go_wp2;go_ret;have u:LK s=true:=by
     rw[agm]at p;rw[LK,auy];refine⟨IH.getD k [],?_,by rw[beq_iff_eq]at p|-;exact p.symm⟩;rw[atZ,atW (show k<IH.length from n)];exact atT _
    exact⟨by rw[u];rfl,(atS _ _).alloc (atN _) _⟩
   ·have y:((P5 k).toList==s.toList)=false:=(by simpa using p);clear p;go_wp2;go_round
    case rel=>
     refine⟨k+1,by omega,by go_num,fun j r=>?_⟩;rcases at6 j k with h1|h1
     ·exact l.out j h1
     ·obtain rfl:j=k:=by omega
      rw[<-agm];exact y
    case measure=>simp[intOf];omega
  ·go_wp2;go_ret;have u:LK s=false:=by
    rw[LK,auC];intro x z;obtain⟨j,r,rfl⟩:=aun.1 z;have B:IH.length=34:=rfl;have:=l.out j (by omega);rw[atZ,atW r]at this;simp at this;simp;exact fun e=>this e.symm
   exact⟨by rw[u];rfl,(atS _ _).alloc (atN _) _⟩
theorem agn(s:ByteArray):wl s.data.toList<=s.size:=by
 unfold wl;have e:s.size=s.data.toList.length:=by simp
 split
 ·rw[e];exact(List.takeWhile_sublist _).length_le
 ·omega
theorem AA(s:ByteArray)(w:World)(j:s.size<=maxLen):
  Calls prog 82 #[.string s] w fun e w'=>e=.returned (.bool (bI s))/\w=w':=by
 have u:s.size<=9223372036854775807:=j;by_cases n:0<s.size
 ·by_cases p:s.size<=24
  ·have z:=agn s;by_cases l:wl s.data.toList=s.size
   ·have y:((wl s.data.toList:Int)==(s.size:Int))=true:=(by simp[l]);have r:=atM l;clear l;go_enter func82,ntmps82;go_wp2_with(first|(go_at_call 123;refine(Xl _ _ j).mono ?_;rintro e w' ⟨rfl,rfl⟩)|(go_at_call 124;refine(Xn _ _).mono ?_;rintro e w' ⟨rfl,rfl⟩));go_ret;exact⟨by simp[bI,n,p,r.out],rfl⟩
   ·have y:((wl s.data.toList:Int)==(s.size:Int))=false:=(by simp;omega);have r:=atM l;clear l;go_enter func82,ntmps82;go_wp2_with(first|(go_at_call 123;refine(Xl _ _ j).mono ?_;rintro e w' ⟨rfl,rfl⟩)|(go_at_call 124;refine(Xn _ _).mono ?_;rintro e w' ⟨rfl,rfl⟩));go_ret;exact⟨by simp[bI,n,p,r.out],rfl⟩
  ·go_enter func82,ntmps82;go_wp2_with(first|(go_at_call 123;refine(Xl _ _ j).mono ?_;rintro e w' ⟨rfl,rfl⟩)|(go_at_call 124;refine(Xn _ _).mono ?_;rintro e w' ⟨rfl,rfl⟩));go_ret;exact⟨by simp[bI,n,p],rfl⟩
 ·go_enter func82,ntmps82;go_wp2_with(first|(go_at_call 123;refine(Xl _ _ j).mono ?_;rintro e w' ⟨rfl,rfl⟩)|(go_at_call 124;refine(Xn _ _).mono ?_;rintro e w' ⟨rfl,rfl⟩));go_ret;exact⟨by simp[bI,n],rfl⟩
theorem BW(s:ByteArray)(w:World)(l:s.size<=maxLen):
  Calls prog 152 #[.string s] w fun e w'=>e=.returned (.bool (bI s))/\Below w.heap.size w w':=by
 have z:s.size<=9223372036854775807:=l;by_cases j:0<s.size
 ·have r:=Xk s j;have C:=abj s j;by_cases u:s.size<=24
  ·have D:=agn s;by_cases n:wl s.data.toList=s.size
   ·have B:((wl s.data.toList:Int)==(s.size:Int))=true:=(by simp[n]);have y:=atM n;clear n;go_enter func152,ntmps152;go_wp2_with(first|(go_at_call 190;refine(Xo _ _ l).mono ?_;rintro e w' ⟨rfl,rfl⟩)|(go_at_call 191;refine(Xp _ _).mono ?_;rintro e w' ⟨rfl,p⟩));go_ret;exact⟨by simp[bI,j,u,y.out],by first|exact p|exact atS _ _⟩
   ·have B:((wl s.data.toList:Int)==(s.size:Int))=false:=(by simp;omega);have y:=atM n;clear n;go_enter func152,ntmps152;go_wp2_with(first|(go_at_call 190;refine(Xo _ _ l).mono ?_;rintro e w' ⟨rfl,rfl⟩)|(go_at_call 191;refine(Xp _ _).mono ?_;rintro e w' ⟨rfl,p⟩));go_ret;exact⟨by simp[bI,j,u,y.out],by first|exact p|exact atS _ _⟩
  ·go_enter func152,ntmps152;go_wp2_with(first|(go_at_call 190;refine(Xo _ _ l).mono ?_;rintro e w' ⟨rfl,rfl⟩)|(go_at_call 191;refine(Xp _ _).mono ?_;rintro e w' ⟨rfl,p⟩));go_ret;exact⟨by simp[bI,j,u],atS _ _⟩
 ·have r:=abi s j;go_enter func152,ntmps152;go_wp2_with(first|(go_at_call 190;refine(Xo _ _ l).mono ?_;rintro e w' ⟨rfl,rfl⟩)|(go_at_call 191;refine(Xp _ _).mono ?_;rintro e w' ⟨rfl,p⟩));go_ret;exact⟨by simp[bI,j],atS _ _⟩
structure dr where
 code:ByteArray
 kind:Int
 jS:Bool
 aO:Bool
 gU:Bool
 eQ:Int
deriving DecidableEq
def gX(x:dr):List Value:=[.string x.code,.int .i64 x.kind,.bool x.jS,.bool x.aO,.bool x.gU,.int .i64 x.eQ]
structure Elem where
 code:ByteArray
 amount:Int
deriving DecidableEq
def aN(x:Elem):List Value:=[.string x.code,.int .i64 x.amount]
theorem ZK(x:dr):(gX x).length=6:=rfl
theorem dG(x:Elem):(aN x).length=2:=rfl
theorem anc(x:dr):∀u∈gX x,u.oneCell'=true:=by intro u hu;simp[gX]at hu;rcases hu with rfl|rfl|rfl|rfl|rfl|rfl<;>rfl
theorem mF(x:Elem):∀u∈aN x,u.oneCell'=true:=by intro u hu;simp[aN]at hu;rcases hu with rfl|rfl<;>rfl
theorem ane:(Tryz.prog.info? 77).map (fun i=>(i.zero,i.size,i.bytes))=some (some (.agg #[.string ⟨#[]⟩,.int .i64 0,.bool false,.bool false,.bool false,.int .i64 0]),6,40):=by kernel_rfl
theorem nQ:(Tryz.prog.info? 69).map (fun i=>(i.zero,i.size,i.bytes))=some (some (.agg #[.string ⟨#[]⟩,.int .i64 0]),2,24):=by kernel_rfl
def ago:ByteArray:=⟨#[98,111,110,117,115]⟩
def anf:ByteArray:=⟨#[99,97,114]⟩
def ang:ByteArray:=⟨#[110,105,103,104,116]⟩
def anh:ByteArray:=⟨#[115,97,108,97,114,121]⟩
def CF:List ByteArray:=[ago,anf,ang,anh]
def abl:Array Value:=#[.string ⟨#[98,111,110,117,115]⟩,.string ⟨#[99,97,114]⟩,.string ⟨#[110,105,103,104,116]⟩,.string ⟨#[115,97,108,97,114,121]⟩]
def FQ(k:Nat):ByteArray:=CF.getD k ago
theorem ani(k:Nat)(h:k<4):abl[k]?=some (.string (FQ k)):=by
 match k,h with
 |0,_=>rfl
 |1,_=>rfl
 |2,_=>rfl
 |3,_=>rfl
structure agp(x:dr):Prop where
 code:x.code∈CF
 kind:x.kind=1\/(x.kind=2/\x.gU=false)
 lo:4000<=x.eQ
 hi:x.eQ<=4003
 sal:x.code=FQ 3->x.kind=1
structure Ck(k:Nat)(xs:List dr):Prop where
 sub:(xs.map (·.code)).Sublist (CF.take k)
 ok:∀x∈xs,agp x
theorem Ck.cC:Ck 0 []:=⟨by simp,by simp⟩
theorem agq(k:Nat)(h:k<4):CF.take (k+1)=CF.take k++[FQ k]:=by
 match k,h with
 |0,_=>rfl
 |1,_=>rfl
 |2,_=>rfl
 |3,_=>rfl
theorem Ck.skip{k:Nat}{e:List dr}(h:Ck k e)(j:k<4):Ck (k+1) e:=
 ⟨by rw[agq k j];exact h.sub.trans (List.sublist_append_left _ _),h.ok⟩
theorem Ck.more{k:Nat}{e:List dr}(h:Ck k e)(j:k<4)(x:dr)(l:x.code=FQ k)(n:agp x):Ck (k+1) (e++[x]):=by
 refine⟨?_,fun y hy=>?_⟩
 ·rw[agq k j,auK];exact h.sub.append (by simp[l])
 ·rcases aul.1 hy with h1|h1
  ·exact h.ok y h1
  ·simp at h1;subst h1;exact n
theorem Ck.len{k:Nat}{e:List dr}(h:Ck k e):e.length<=4:=by have:=h.sub.length_le;simp[CF]at this;omega
theorem anj(k:Nat)(h:k<4):((FQ k).toList==[99,97,114])=true->FQ k≠FQ 3:=by
 match k,h with
 |0,_=>decide+kernel
 |1,_=>decide+kernel
 |2,_=>decide+kernel
 |3,_=>decide+kernel
theorem ank(k:Nat)(h:k<4):FQ k∈CF:=by
 match k,h with
 |0,_=>simp[FQ,CF]
 |1,_=>simp[FQ,CF]
 |2,_=>simp[FQ,CF]
 |3,_=>simp[FQ,CF]
theorem amZ(b M:Nat)(w:World)(hM:M<=900000)(hd:aW w b M):
  Calls prog 63 #[.pointer (some ⟨b,0,none⟩)] w fun e w'=>∃v y,e=.returned v/\Ck 4 y/\Own gX 6 77 w' w.heap.size v y/\aW w' b (M+20)/\w.grownBy w' (some b):=by
 have X:=hd.lt;go_enter func63,ntmps63;go_wp2_with fail;rw[show Obj.cells #[.string ⟨#[98,111,110,117,115]⟩,.string ⟨#[99,97,114]⟩,.string ⟨#[110,105,103,104,116]⟩,.string ⟨#[115,97,108,97,114,121]⟩] 9=Obj.cells abl 9 from rfl]
 go_loopw [3,9] (fun v i wr=>∃(k:Nat) (y:List dr),k<=4/\i=.int .i64 k/\Ck k y/\Own gX 6 77 wr (w.heap.size+1) v y/\aW wr b (M+5*k)/\ah wr w.heap.size 9 abl/\w.grownBy wr (some b)) (fun _ i _=>4-(intOf i).toNat)
 case atStart=>exact⟨0,[],by omega,rfl,Ck.cC,Own.cC _ _,hd.alloc _,ah.new _ _ _,eG (dX _ _) _⟩
 case round=>
  obtain⟨k,y,hk,rfl,D,l,E,j,F⟩:=hrel;by_cases B:k<4
  ·have Y:=(j.cell k).trans (ani k B);go_wp2_with fail;refine(il b (M+5*k) _ _ (by omega) (by omega) (by omega) E).mono ?_;rintro e w1 ⟨r1,rfl,Z,ab,L,n⟩;go_wp2_with fail;refine(il b (M+5*k+1) _ _ (by omega) (by omega) (by omega) L).mono ?_;rintro e w2 ⟨r2,rfl,ad,ae,N,p⟩;go_wp2_with fail;refine(il b (M+5*k+1+1) _ _ (by omega) (by omega) (by omega) N).mono ?_;rintro e w3 ⟨r3,rfl,PV,af,O,r⟩;go_wp2_with fail;refine(il b (M+5*k+1+1+1) _ _ (by omega) (by omega) (by omega) O).mono ?_;rintro e G ⟨P,rfl,Nl,aj,Q,u⟩;go_wp2_with fail
   all_goals
    refine(il b (M+5*k+1+1+1+1) _ _ (by omega) (by omega) (by omega) (Q.alloc _)).mono ?_;rintro e w5 ⟨r5,rfl,Tm,aM,R,z⟩;have ak:w.heap.size<G.heap.size:=(by have:=j.lt;have:=n.size;have:=p.size;have:=r.size;have:=u.size;omega);have S:=(ah.new G _ _).grown z (by intro e;injection e;omega);obtain⟨d0,d1,d2,d3,d4,d5⟩:=S.cz6;have T:=(((l.kept n (by intro g e;injection e;omega)).kept p (by intro g e;injection e;omega)).kept r (by intro g e;injection e;omega)).kept u (by intro g e;injection e;omega);have I:=(T.alloc (Obj.cells _ _)).kept z (by intro g e;injection e;omega);have C:=((((j.grown n (by intro e;injection e;omega)).grown p (by intro e;injection e;omega)).grown r (by intro e;injection e;omega)).grown u (by intro e;injection e;omega)).alloc (Obj.cells _ _) |>.grown z (by intro e;injection e;omega);have U:=bL (eG (bL (bL (bL (bL F n) p) r) u) _) z;have al:G.heap.size+1<=w5.heap.size:=(by have:=z.size;simpa using this);have V:=D.len;clear S l T j F n p r u z E L N O Q Y;go_wp2_with(at_builtin;(refine lD _ _ 36 ⟨_,_,_,_,_,_⟩ _ 40 _ ane underlying36 I ZK (by omega) rfl (anc _) (by omega) (by omega) (by omega) (by rfl) (by rfl) (by rfl) (by rfl) (by simp) (by rfl) ?_);intro v2 w6 cA J)
    ·have K:∀g,Value.ownBlock _=some g->w.heap.size+1<=g:=fun g e=>(I.bR e).1;go_roundw
     case rel=>refine⟨k+1,_,by omega,by go_num,?_,cA,(R.grown J (fun g e=>by have:=K g e;omega)).mono (by omega),C.grown J (fun e=>by have:=K _ e.symm;omega),pT U J (fun g e=>.inl (by have:=K g e;omega))⟩;exact D.more B _ rfl ⟨ank k B,by first|exact .inl rfl|exact .inr ⟨rfl,rfl⟩,by show _<=(4000+P:Int);omega,by show(4000+P:Int)<=_;omega,fun e=>by first|rfl|exact absurd e (anj k B (by assumption))⟩
     case measure=>simp[intOf];omega
    ·go_roundw
     case rel=>exact⟨k+1,y,by omega,by go_num,D.skip B,I,R.mono (by omega),C,U⟩
     case measure=>simp[intOf];omega
  ·go_wp2;go_ret;obtain rfl:k=4:=by omega
   exact⟨_,y,rfl,D,l.weaken (by omega),E,F⟩
theorem FM(b M:Nat)(w:World)(P:M<=900000)(hd:aW w b M):
  Calls prog 41 #[.pointer (some ⟨b,0,none⟩)] w fun e w'=>∃r:Int,e=.returned (.int .i64 r)/\0<=r/\r<600000/\aW w' b (M+2)/\w.grownBy w' (some b):=by
 have I:=hd.lt;go_enter func41,ntmps41;go_wp2_with fail;refine(il b M _ _ (by omega) (by omega) (by omega) hd).mono ?_;rintro e J ⟨G,rfl,K,L,z,u⟩;have Q:=z.lt;by_cases B:G=0
 ·subst B;go_wp2_with fail;refine(FH b (M+1) _ _ [0,0,1,100] _ (by omega) (z.alloc _) (by simp) (by simp) ?_ ?_).mono ?_
  ·exact fun _=>⟨J.heap.size,0,rfl,by simp,fun i x hi j v l=>by
    rw[World.cell?_alloc_at _ _ _ _ rfl]
    match j,l with
    |0,l=>
     match i,hi with
     |0,hi=>simp at hi;subst hi;simpa[encI]using l
     |1,hi=>simp at hi;subst hi;simpa[encI]using l
     |2,hi=>simp at hi;subst hi;simpa[encI]using l
     |3,hi=>simp at hi;subst hi;simpa[encI]using l
     |(n+4),hi=>simp at hi
    |(n+1),l=>simp[encI]at l⟩
  ·intro a C;injection C with C;subst C;simp;omega
  ·rintro e N ⟨y,rfl,O,D,p⟩;go_wp2;go_ret;have:0<=y/\y<600000:=(by simp at O;omega);exact⟨y,rfl,this.1,this.2,D,bL (eG u _) p⟩
 ·have R:(G==0)=false:=by simpa using B
  clear B;go_wp2_with fail;refine(il b (M+1) _ _ (by omega) (by omega) (by omega) z).mono ?_;rintro e N ⟨y,rfl,E,F,D,p⟩;go_wp2;go_ret;exact⟨y,rfl,E,F,D,bL u p⟩
theorem ai.new{n:Type}{e:n->List Value}{k:Nat}(p:∀x,(e x).length=k)(w:World)(l:List n)(cs:Array Value)(t:TypeId)(h:cs=(l.flatMap e).toArray):
  ai e k (w.alloc (.cells cs t)) (w.heap.size+1) (some ⟨w.heap.size,0,none⟩) l:=fun _=>by
 subst h;refine⟨w.heap.size,0,rfl,by omega,fun i x hi j v r=>?_⟩;rw[World.cell?_alloc_at _ _ _ _ rfl,atX,atY];exact I0 p l i j x v hi r
theorem iX(x:Int):(encI x).length=1:=rfl
