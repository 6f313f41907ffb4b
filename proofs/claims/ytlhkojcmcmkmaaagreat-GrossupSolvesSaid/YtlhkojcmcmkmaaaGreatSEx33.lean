/- Conditions: as stated. -/
import Derived.Deep.Slices
import Derived.Deep.Fields
import Derived.ChangeSame
import Derived.ProofKit
import Derived.OpenShut
import Derived.ShutString
import Derived.ChangeOld
import Derived.Test.YtlhkojcmcmkmaaaGreatSG33e
set_option maxRecDepth 100000
set_option maxHeartbeats 4000000
namespace Go.Proofs.YtlhkojcmcmkmaaaGreat
open Go.Proofs.Tryz
open Go.RowKit
def Ds:ByteArray:=⟨#[98,97,115,101]⟩
def VG:ByteArray:=⟨#[99,97,114]⟩
def ako:ByteArray:=⟨#[110,111,110,101]⟩
def sA3:ByteArray:=⟨#[97]⟩
def O2:List cO:=[⟨Ds,1,false,true,false,4000⟩,⟨VG,2,true,false,false,4000⟩]
def Kv:bR:=⟨sA3,100000,0,0,1000000,1,4,false⟩
def O3:AQ:=⟨2,[⟨0,0⟩],0,0,1,0,[]⟩
def Fs(e j l:Option Addr):cY:=⟨e,2,O2,j,1,[Kv],⟨O3,l,1,none,0⟩,12,⟨0,0,0,0,0⟩,0⟩
def r3:pH:=⟨O2,[Kv],O3,12,⟨0,0,0,0,0⟩,0⟩
def Rz:dD:=⟨0,0,0,none,0,[],none,0,[]⟩
def y3:AR:=⟨0,0,0,[],[]⟩
theorem akp:mS Kv:=⟨by decide+kernel,by decide,by decide,by decide,by decide,by decide,by decide,by decide,by decide,by decide,by decide,by decide,by decide⟩
theorem akq:ig O3.au:=by
 have e:∀i,i<O3.au.length->i=0:=fun i hi=>by have:i<1:=hi;omega
 refine⟨by decide,by decide,rfl,fun i hi=>?_,fun i hi=>?_,fun i hi=>?_,fun i hi=>?_⟩
 ·have:i+1<1:=hi;omega
 ·obtain rfl:=e i hi;decide
 ·obtain rfl:=e i hi;decide
 ·obtain rfl:=e i hi;decide
theorem akr:nK O3:=⟨by decide,by decide,akq,by decide,by decide,by decide,by decide,by decide,by decide,by decide,by decide,fun h=>absurd h (by decide),fun _=>rfl⟩
theorem aks:ot ⟨0,0,0,0,0⟩:=⟨by decide,by decide,by decide,by decide,by decide,by decide,by decide,by decide,by decide,by decide⟩
theorem akt:kf O2=true:=by decide+kernel
theorem aab:AU r3:=⟨akt,by decide,fun s e=>(by
  have:s=Kv:=by simpa[r3]using e
  subst this;exact akp),List.pairwise_singleton _ _,akr,by decide,by decide,aks,by decide,by decide⟩
theorem aku:Kw y3:=⟨by decide,by decide,rfl,nofun,by decide,by decide,by decide,by decide,by decide+kernel⟩
theorem sz3:Ds.size<=maxLen/\VG.size<=maxLen/\ako.size<=maxLen:=by unfold maxLen;decide
theorem O4:jz r3 y3 [] Ds:=⟨aab,.inl rfl,nofun,by decide,nofun,aku,by decide,by decide,by decide,by decide,nofun,⟨⟨Ds,1,false,true,false,4000⟩,by decide+kernel,rfl⟩,sz3.1,fun s e=>(by
  have:s=Kv:=by simpa[r3]using e
  subst this;rfl),by decide+kernel,fun b j=>(by
  have:b=⟨0,0⟩:=by simpa[r3,O3]using j
  subst this;decide)⟩
def f3:Int->Int:=fL r3 y3 [] Ds
theorem akv:Dt r3=10:=by decide+kernel
theorem aeb:f3 999=899:=by decide+kernel
theorem akw:f3 1000=900:=by decide+kernel
theorem akx:∀k:Nat,k<11->f3 (989+k)<900:=by decide+kernel
theorem aky{k:Int}(n:0<=k)(p:k<1000):f3 k<900:=by
 rcases Int.lt_or_le k 989 with h|h
 ·have e:=O4.aec (a:=k) (b:=999) (by rw[akv];omega);have l:=aeb;unfold f3 at l|-;omega
 ·obtain⟨j,r⟩:=atf (show 0<=k-989 by omega);have e:=akx j (by omega)
  rwa [show 989+(j:Int)=k by omega]at e
theorem ex3:∃v,dJ r3.cB Ds=some v/\v.kind=1:=O4.w
theorem akz{a e:Int}(h:Ht r3 y3 [] Ds 900 a e):a=1000/\e=0:=
 h.uniq (.inr (.inr ⟨ex3,by decide,.inl ⟨rfl,by decide,by decide,by have:=akw;unfold f3 at this;omega,fun k j l=>aky j l⟩⟩))
theorem akA:(Tryz.prog.info? 45).map (·.size)=some 16:=by kernel_rfl
theorem aac(w:World):Calls prog 45 #[] w fun e w'=>∃D E F,e=.returned (Fs D E F).val/\(Fs D E F).In w'/\(D≠none/\E≠none/\F≠none)/\Below w.heap.size w w':=by
 have B:=ah.new w 45 #[.slice none 0 0,.slice none 0 0,.int .i64 0,.slice none 0 0,.int .i64 0,.int .i64 0,.int .i64 0,.int .i64 0,.slice none 0 0,.int .i64 0,.int .i64 0,.int .i64 0,.int .i64 0,.int .i64 0,.int .i64 0,.int .i64 0];have u:=bD w (.cells #[.slice none 0 0,.slice none 0 0,.int .i64 0,.slice none 0 0,.int .i64 0,.int .i64 0,.int .i64 0,.int .i64 0,.slice none 0 0,.int .i64 0,.int .i64 0,.int .i64 0,.int .i64 0,.int .i64 0,.int .i64 0,.int .i64 0] 45);go_enter func45,ntmps45;go_upto_region 1 with fail
 have z:=B.lt;have R:w.heap.size<(w.alloc (Obj.cells #[.slice none 0 0,.slice none 0 0,.int .i64 0,.slice none 0 0,.int .i64 0,.int .i64 0,.int .i64 0,.int .i64 0,.slice none 0 0,.int .i64 0,.int .i64 0,.int .i64 0,.int .i64 0,.int .i64 0,.int .i64 0,.int .i64 0] 45)).heap.size:=z;generalize w.alloc (Obj.cells _ _)=j at B u R z|-;obtain⟨l,N⟩:∃o,o=Obj.cells #[.string Ds,.int .i64 1,.bool false,.bool true,.bool false,.int .i64 4000,.string VG,.int .i64 2,.bool true,.bool false,.bool false,.int .i64 4000] 77:=⟨_,rfl⟩
 obtain⟨n,O⟩:∃o,o=Obj.cells #[.string sA3,.int .i64 100000,.int .i64 0,.int .i64 0,.int .i64 1000000,.int .i64 1,.int .i64 4,.bool false] 123:=⟨_,rfl⟩
 obtain⟨p,Q⟩:∃o,o=Obj.cells #[.int .i64 0,.int .i64 0] 127:=⟨_,rfl⟩
 have y:=aj.new aad j O2 #[.string Ds,.int .i64 1,.bool false,.bool true,.bool false,.int .i64 4000,.string VG,.int .i64 2,.bool true,.bool false,.bool false,.int .i64 4000] 77 rfl;have G:=aj.new MJ (j.alloc l) [Kv] #[.string sA3,.int .i64 100000,.int .i64 0,.int .i64 0,.int .i64 1000000,.int .i64 1,.int .i64 4,.bool false] 123 rfl;have I:=aj.new CK ((j.alloc l).alloc n) [⟨0,0⟩] #[.int .i64 0,.int .i64 0] 127 rfl;rw[<-N]at y;rw[<-O]at G;rw[<-Q]at I;have S:aj gG 6 (((j.alloc l).alloc n).alloc p) (((j.alloc l).alloc n).alloc p).heap.size (some ⟨j.heap.size,0,none⟩) O2:=((y.more (by simp)).IW n).IW p;have T:aj po 8 (((j.alloc l).alloc n).alloc p) (((j.alloc l).alloc n).alloc p).heap.size (some ⟨j.heap.size+1,0,none⟩) [Kv]:=by
  have h:=(G.more (B':=((j.alloc l).alloc n).heap.size) (by simp)).IW p
  rwa [show(j.alloc l).heap.size=j.heap.size+1 from arU _ _]at h
 have U:aj gQ 2 (((j.alloc l).alloc n).alloc p) (((j.alloc l).alloc n).alloc p).heap.size (some ⟨j.heap.size+1+1,0,none⟩) [⟨0,0⟩]:=by
  have h:=I.more (B':=(((j.alloc l).alloc n).alloc p).heap.size) (by simp)
  rwa [show((j.alloc l).alloc n).heap.size=j.heap.size+1+1 by rw[arU,arU]]at h
 have V:=((B.alloc l).alloc n).alloc p;have J:=ej (ej (ej u l) n) p;clear y G I B u;subst N O Q;go_wp2_with(refine RA rfl _ _ _ rfl rfl w.heap.size (cs:=#[.slice none 0 0,.slice none 0 0,.int .i64 0,.slice none 0 0,.int .i64 0,.int .i64 0,.int .i64 0,.int .i64 0,.slice none 0 0,.int .i64 0,.int .i64 0,.int .i64 0,.int .i64 0,.int .i64 0,.int .i64 0,.int .i64 0]) (vs:=#[.slice (some ⟨j.heap.size,0,none⟩) 2 2,.slice (some ⟨j.heap.size+1,0,none⟩) 1 1,.int .i64 2,.slice (some ⟨j.heap.size+1+1,0,none⟩) 1 1,.int .i64 0,.int .i64 0,.int .i64 1,.int .i64 0,.slice none 0 0,.int .i64 12,.int .i64 0,.int .i64 0,.int .i64 0,.int .i64 0,.int .i64 0,.int .i64 0]) rfl rfl V rfl akA rfl ?_;intro X Y C);have Z:Below w.heap.size w X:=kN J C (fun q e=>by injection e;omega);have K:=S.Hi C (fun a r=>by injection r with r;subst r;show j.heap.size≠w.heap.size;omega);have L:=T.Hi C (fun a r=>by injection r with r;subst r;show j.heap.size+1≠w.heap.size;omega);have M:=U.Hi C (fun a r=>by injection r with r;subst r;show j.heap.size+1+1≠w.heap.size;omega);refine arX (RB results45 rfl Y underlying45 rfl (by kernel_rfl)) rfl ?_;exact⟨some ⟨j.heap.size,0,none⟩,some ⟨j.heap.size+1,0,none⟩,some ⟨j.heap.size+1+1,0,none⟩,rfl,⟨K,L,⟨M,aj.cL⟩⟩,⟨nofun,nofun,nofun⟩,Z⟩
theorem akB(w:World):Calls prog 32 #[] w fun e w'=>e=.returned (.bool true)/\Below w.heap.size w w':=by
 have p:∀v∈O2,v.kind=1\/v.kind=2:=by decide+kernel
 have B:∀s∈[Kv],s.floor=0:=by decide+kernel
 have K:Hid (∀j l n W,(Fs j l n).In W->Calls prog 42 #[.agg (jX (Fs j l n)),.agg (lD Rz),.slice none 0 0,.string Ds,.int .i64 900] W fun e w'=>e=.returned (.tuple #[.int .i64 1000,.int .i64 0])/\Below W.heap.size W w'):=fun j l n W h=>by refine(aef (Fs j l n) Rz none 0 [] Ds 900 W h ⟨aj.cL,aj.cL⟩ aj.cL aab (show(2:Int)≠1 by decide) B O4.lv p (fun _=>O4)).mono ?_;rintro e w' ⟨⟨a,er,rfl,Q⟩,C⟩;obtain⟨rfl,rfl⟩:=akz Q;exact⟨rfl,C⟩
 have L:Hid (∀j l n W,(Fs j l n).In W->Calls prog 36 #[.agg (jX (Fs j l n)),.agg (lD Rz),.slice none 0 0,.string Ds,.int .i64 999] W fun e w'=>e=.returned (.tuple #[.int .i64 899,.int .i64 0])/\Below W.heap.size W w'):=fun j l n W h=>by refine(VH (Fs j l n) Rz none 0 [] Ds 999 W h ⟨aj.cL,aj.cL⟩ aj.cL O4 (by decide) (by decide)).mono ?_;rintro e w' ⟨rfl,C⟩;have R:fL (Fs j l n).t Rz.t [] Ds 999=899:=aeb;exact⟨by rw[R],C⟩
 have S:Hid (∀j l n W,(Fs j l n).In W->Calls prog 70 #[.agg (jX (Fs j l n))] W fun e w'=>e=.returned (.bool false)/\Below W.heap.size W w'):=fun j l n W h=>aeg (Fs j l n) W h aab (show(2:Int)≠1 by decide) B O4.lv;clear p B;go_enter func32,ntmps32;go_wp2_with fail;refine(aac _).mono ?_;rintro e T ⟨j,l,n,rfl,M,_,r⟩;go_wp2_with fail;refine(K.out j l n T M).mono ?_;rintro e w2 ⟨rfl,u⟩;have N:=aB r u;clear M r u K;go_wp2_with fail;refine(aac _).mono ?_;rintro e w3 ⟨D,E,F,rfl,O,_,y⟩;go_wp2_with fail;refine(L.out D E F w3 O).mono ?_;rintro e w4 ⟨rfl,z⟩;have U:=aB (aB N y) z;clear O y z L N;go_wp2_with fail;refine(aac _).mono ?_;rintro e V ⟨G,I,J,rfl,X,_,Y⟩;go_wp2_with fail;refine(S.out G I J V X).mono ?_;rintro e w6 ⟨rfl,Z⟩;have RD:=aB (aB U Y) Z;go_wp2;go_ret;exact⟨rfl,RD⟩
open Go.ChangeShapes Go.WideShapes Go.ChangeAt Go.RowKit Go.Deep
section
variable {H:Type}{enc:TypeId×Value->H}{P:Program}{w:World}{base:Nat}{spare:Nat->Bool}{held:Bool}
end
theorem akC{B:Type}{MK:B->List Value}{k:Nat}{w:World}(L:∀x,(MK x).length=k)(M:0<k)(Q:B->Prop)(a:Addr)(len:Nat)
  (h:∀i,i<len->∃x,Q x/\∀j v,(MK x)[j]?=some v->w.cell? (a.add (i*k+j))=some v):
  ∃e:List B,e.length=len/\(∀x∈e,Q x)/\aj MK k w w.heap.size (some a) e:=by
 have N:∃e:List B,e.length=len/\(∀x∈e,Q x)/\∀i x,e[i]?=some x->∀j v,(MK x)[j]?=some v->w.cell? (a.add (i*k+j))=some v:=by
  induction len with
  |zero=>exact⟨[],rfl,by simp,by simp⟩
  |succ n O=>
   obtain⟨e,C,u,D⟩:=O (fun i hi=>h i (by omega));obtain⟨x,F,G⟩:=h n (by omega);refine⟨e++[x],by simp[C],fun y hy=>?_,fun i y hi j v E=>?_⟩
   ·rcases asf.1 hy with h4|h4
    ·exact u y h4
    ·simp at h4;subst h4;exact F
   ·rcases arY i e.length with h4|h4
    ·rw[ati h4]at hi;exact D i y hi j v E
    ·rw[List.getElem?_append_right h4]at hi;have R:i-e.length=0:=by
      have:=(ase.1 hi).1;simp at this;exact this
     rw[R]at hi;simp at hi;subst hi;obtain rfl:i=n:=by omega
     exact G j v E
 obtain⟨e,C,u,D⟩:=N;refine⟨e,C,u,fun I=>?_⟩;obtain⟨b,l,z⟩:=a;have S:0<e.length:=atg.2 I;have J:=arW S;have K:(MK e[0])[0]?=some ((MK e[0])[0]'(by rw[L];exact M)):=arW _
 have p:=D 0 _ J 0 _ K;simp only[asw,arT,Addr.add,ash]at p;have r:z=none:=by simpa using World.cell?_spot p
 subst r;have T:b<w.heap.size:=World.block_lt_of_cell? w ⟨b,l,none⟩ p;refine⟨b,l,rfl,T,fun i x hi j v E=>?_⟩;have:=D i x hi j v E;have U:(⟨b,l,none⟩:Addr).add (i*k+j)=⟨b,l+i*k+j,none⟩:=by
  unfold Addr.add;split
  ·rename_i V;have C:i*k=0:=(by omega);have u:j=0:=(by omega);subst u;simp
  ·simp[Nat.add_assoc]
 rw[U]at this;exact this
theorem akD{n:Int}(h:(Lit.int .i64 n).wf=true):Ks n:=by simp[Lit.wf,IntKind.min,IntKind.max,IntKind.signed,IntKind.bits]at h;exact⟨by omega,by omega⟩
theorem akE{H:Type}{enc:TypeId×Value->H}{W:World}{a:Option Addr}{len r:Nat}{d:DataW H}{p:List MemPlace}(h:DataW.Trod enc prog W 0 (fun _=>true) true 34 (.slice a len r) d p):
  ∃B:List Int,B.length=len/\aj encI 1 W W.heap.size a B/\(∀x∈B,Ks x)/\len<=r/\r<=maxLen:=by
 obtain⟨C,E⟩:=h;rcases open_ints underlying34 underlying3 (by kernel_rfl) E with⟨e,_⟩|⟨x,l,c,D,e,_,F,G,I,_,u,J⟩
 ·simp[Value.cells]at e;obtain⟨rfl,rfl,rfl⟩:=e;exact⟨[],rfl,aj.cL,by simp,by omega,by unfold maxLen;omega⟩
 ·simp[Value.cells]at e;obtain⟨rfl,rfl,rfl⟩:=e;have K:D.length=r:=by simpa using I
  have L:∀i,i<len->∃y:Int,Ks y/\∀j v,(encI y)[j]?=some v->W.cell? (x.add (i*1+j))=some v:=by
   intro i M;refine⟨D.getD i 0,?_,fun j v z=>?_⟩
   ·apply akD;apply J;rw[ar1,arW (by omega)];exact arO _
   ·match j,z with
    |0,z=>simp[encI]at z;subst z;have:=u i (by omega);simpa using this
    |(n+1),z=>simp[encI]at z
  obtain⟨B,N,O,Q⟩:=akC (k:=1) (MK:=encI) (fun _=>rfl) Nat.one_pos _ x len L;exact⟨B,N,Q,O,F,G⟩
