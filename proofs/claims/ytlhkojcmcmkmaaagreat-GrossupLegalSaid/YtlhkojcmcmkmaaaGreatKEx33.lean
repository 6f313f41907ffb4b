/- Conditions: as stated. -/
import Derived.Test.YtlhkojcmcmkmaaaGreatKG33e
set_option maxRecDepth 100000
set_option maxHeartbeats 4000000
namespace Go.Proofs.YtlhkojcmcmkmaaaGreat
open Go.Proofs.Tryz
open Go.RowKit
def CQ:ByteArray:=⟨#[98,97,115,101]⟩
def Vc:ByteArray:=⟨#[99,97,114]⟩
def aka:ByteArray:=⟨#[110,111,110,101]⟩
def ZA:ByteArray:=⟨#[97]⟩
def Oz:List cI:=[⟨CQ,1,false,true,false,4000⟩,⟨Vc,2,true,false,false,4000⟩]
def J6:cm:=⟨ZA,100000,0,0,1000000,1,4,false⟩
def OA:zS:=⟨2,[⟨0,0⟩],0,0,1,0,[]⟩
def ES(e j l:Option Addr):dN:=⟨e,2,Oz,j,1,[J6],⟨OA,l,1,none,0⟩,12,⟨0,0,0,0,0⟩,0⟩
def r3:pF:=⟨Oz,[J6],OA,12,⟨0,0,0,0,0⟩,0⟩
def Q6:dR:=⟨0,0,0,none,0,[],none,0,[]⟩
def y3:Bv:=⟨0,0,0,[],[]⟩
theorem akb:mA J6:=⟨by decide+kernel,by decide,by decide,by decide,by decide,by decide,by decide,by decide,by decide,by decide,by decide,by decide,by decide⟩
theorem akc:gY OA.aA:=by
 have e:∀i,i<OA.aA.length->i=0:=fun i hi=>by have:i<1:=hi;omega
 refine⟨by decide,by decide,rfl,fun i hi=>?_,fun i hi=>?_,fun i hi=>?_,fun i hi=>?_⟩
 ·have:i+1<1:=hi;omega
 ·obtain rfl:=e i hi;decide
 ·obtain rfl:=e i hi;decide
 ·obtain rfl:=e i hi;decide
theorem akd:nP OA:=⟨by decide,by decide,akc,by decide,by decide,by decide,by decide,by decide,by decide,by decide,by decide,fun h=>absurd h (by decide),fun _=>rfl⟩
theorem ake:nM ⟨0,0,0,0,0⟩:=⟨by decide,by decide,by decide,by decide,by decide,by decide,by decide,by decide,by decide,by decide⟩
theorem akf:jV Oz=true:=by decide+kernel
theorem ZB:CC r3:=⟨akf,by decide,fun s e=>(by
  have:s=J6:=by simpa[r3]using e
  subst this;exact akb),List.pairwise_singleton _ _,akd,by decide,by decide,ake,by decide,by decide⟩
theorem akg:J7 y3:=⟨by decide,by decide,rfl,nofun,by decide,by decide,by decide,by decide,by decide+kernel⟩
theorem sz3:CQ.size<=maxLen/\Vc.size<=maxLen/\aka.size<=maxLen:=by unfold maxLen;decide
theorem OB:mK r3 y3 [] CQ:=⟨ZB,.inl rfl,nofun,by decide,nofun,akg,by decide,by decide,by decide,by decide,nofun,⟨⟨CQ,1,false,true,false,4000⟩,by decide+kernel,rfl⟩,sz3.1,fun s e=>(by
  have:s=J6:=by simpa[r3]using e
  subst this;rfl),by decide+kernel,fun b j=>(by
  have:b=⟨0,0⟩:=by simpa[r3,OA]using j
  subst this;decide)⟩
def f3:Int->Int:=fL r3 y3 [] CQ
theorem akh:CR r3=10:=by decide+kernel
theorem adX:f3 999=899:=by decide+kernel
theorem aki:f3 1000=900:=by decide+kernel
theorem akj:∀k:Nat,k<11->f3 (989+k)<900:=by decide+kernel
theorem akk{k:Int}(n:0<=k)(p:k<1000):f3 k<900:=by
 rcases Int.lt_or_le k 989 with h|h
 ·have e:=OB.adY (a:=k) (b:=999) (by rw[akh];omega);have l:=adX;unfold f3 at l|-;omega
 ·obtain⟨j,r⟩:=asH (show 0<=k-989 by omega);have e:=akj j (by omega)
  rwa [show 989+(j:Int)=k by omega]at e
theorem ex3:∃v,ee r3.cN CQ=some v/\v.kind=1:=OB.w
theorem akl{a e:Int}(h:Q7 r3 y3 [] CQ 900 a e):a=1000/\e=0:=
 h.uniq (.inr (.inr ⟨ex3,by decide,.inl ⟨rfl,by decide,by decide,by have:=aki;unfold f3 at this;omega,fun k j l=>akk j l⟩⟩))
theorem akm:(Tryz.prog.info? 45).map (·.size)=some 16:=by kernel_rfl
theorem ZC(w:World):Calls prog 45 #[] w fun e w'=>∃D E F,e=.returned (ES D E F).val/\(ES D E F).In w'/\(D≠none/\E≠none/\F≠none)/\Below w.heap.size w w':=by
 have B:=ah.new w 45 #[.slice none 0 0,.slice none 0 0,.int .i64 0,.slice none 0 0,.int .i64 0,.int .i64 0,.int .i64 0,.int .i64 0,.slice none 0 0,.int .i64 0,.int .i64 0,.int .i64 0,.int .i64 0,.int .i64 0,.int .i64 0,.int .i64 0];have u:=bF w (.cells #[.slice none 0 0,.slice none 0 0,.int .i64 0,.slice none 0 0,.int .i64 0,.int .i64 0,.int .i64 0,.int .i64 0,.slice none 0 0,.int .i64 0,.int .i64 0,.int .i64 0,.int .i64 0,.int .i64 0,.int .i64 0,.int .i64 0] 45);go_enter func45,ntmps45;go_upto_region 1 with fail
 have z:=B.lt;have Q:w.heap.size<(w.alloc (Obj.cells #[.slice none 0 0,.slice none 0 0,.int .i64 0,.slice none 0 0,.int .i64 0,.int .i64 0,.int .i64 0,.int .i64 0,.slice none 0 0,.int .i64 0,.int .i64 0,.int .i64 0,.int .i64 0,.int .i64 0,.int .i64 0,.int .i64 0] 45)).heap.size:=z;generalize w.alloc (Obj.cells _ _)=j at B u Q z|-;obtain⟨l,N⟩:∃o,o=Obj.cells #[.string CQ,.int .i64 1,.bool false,.bool true,.bool false,.int .i64 4000,.string Vc,.int .i64 2,.bool true,.bool false,.bool false,.int .i64 4000] 77:=⟨_,rfl⟩
 obtain⟨n,O⟩:∃o,o=Obj.cells #[.string ZA,.int .i64 100000,.int .i64 0,.int .i64 0,.int .i64 1000000,.int .i64 1,.int .i64 4,.bool false] 123:=⟨_,rfl⟩
 obtain⟨p,P⟩:∃o,o=Obj.cells #[.int .i64 0,.int .i64 0] 127:=⟨_,rfl⟩
 have y:=aj.new ZE j Oz #[.string CQ,.int .i64 1,.bool false,.bool true,.bool false,.int .i64 4000,.string Vc,.int .i64 2,.bool true,.bool false,.bool false,.int .i64 4000] 77 rfl;have G:=aj.new ZF (j.alloc l) [J6] #[.string ZA,.int .i64 100000,.int .i64 0,.int .i64 0,.int .i64 1000000,.int .i64 1,.int .i64 4,.bool false] 123 rfl;have I:=aj.new CS ((j.alloc l).alloc n) [⟨0,0⟩] #[.int .i64 0,.int .i64 0] 127 rfl;rw[<-N]at y;rw[<-O]at G;rw[<-P]at I;have R:aj gu 6 (((j.alloc l).alloc n).alloc p) (((j.alloc l).alloc n).alloc p).heap.size (some ⟨j.heap.size,0,none⟩) Oz:=((y.more (by simp)).Ip n).Ip p;have S:aj EO 8 (((j.alloc l).alloc n).alloc p) (((j.alloc l).alloc n).alloc p).heap.size (some ⟨j.heap.size+1,0,none⟩) [J6]:=by
  have h:=(G.more (B':=((j.alloc l).alloc n).heap.size) (by simp)).Ip p
  rwa [show(j.alloc l).heap.size=j.heap.size+1 from arn _ _]at h
 have T:aj gG 2 (((j.alloc l).alloc n).alloc p) (((j.alloc l).alloc n).alloc p).heap.size (some ⟨j.heap.size+1+1,0,none⟩) [⟨0,0⟩]:=by
  have h:=I.more (B':=(((j.alloc l).alloc n).alloc p).heap.size) (by simp)
  rwa [show((j.alloc l).alloc n).heap.size=j.heap.size+1+1 by rw[arn,arn]]at h
 have U:=((B.alloc l).alloc n).alloc p;have J:=ew (ew (ew u l) n) p;clear y G I B u;subst N O P;go_wp2_with(refine ad0 rfl _ _ _ rfl rfl w.heap.size (cs:=#[.slice none 0 0,.slice none 0 0,.int .i64 0,.slice none 0 0,.int .i64 0,.int .i64 0,.int .i64 0,.int .i64 0,.slice none 0 0,.int .i64 0,.int .i64 0,.int .i64 0,.int .i64 0,.int .i64 0,.int .i64 0,.int .i64 0]) (vs:=#[.slice (some ⟨j.heap.size,0,none⟩) 2 2,.slice (some ⟨j.heap.size+1,0,none⟩) 1 1,.int .i64 2,.slice (some ⟨j.heap.size+1+1,0,none⟩) 1 1,.int .i64 0,.int .i64 0,.int .i64 1,.int .i64 0,.slice none 0 0,.int .i64 12,.int .i64 0,.int .i64 0,.int .i64 0,.int .i64 0,.int .i64 0,.int .i64 0]) rfl rfl U rfl akm rfl ?_;intro V X C);have Y:Below w.heap.size w V:=jN J C (fun q e=>by injection e;omega);have K:=R.GS C (fun a r=>by injection r with r;subst r;show j.heap.size≠w.heap.size;omega);have L:=S.GS C (fun a r=>by injection r with r;subst r;show j.heap.size+1≠w.heap.size;omega);have M:=T.GS C (fun a r=>by injection r with r;subst r;show j.heap.size+1+1≠w.heap.size;omega);refine art (ad1 results45 rfl X underlying45 rfl (by kernel_rfl)) rfl ?_;exact⟨some ⟨j.heap.size,0,none⟩,some ⟨j.heap.size+1,0,none⟩,some ⟨j.heap.size+1+1,0,none⟩,rfl,⟨K,L,⟨M,aj.cK⟩⟩,⟨nofun,nofun,nofun⟩,Y⟩
theorem ZG(w:World):Calls prog 32 #[] w fun e w'=>e=.returned (.bool true)/\Below w.heap.size w w':=by
 have p:∀v∈Oz,v.kind=1\/v.kind=2:=by decide+kernel
 have B:∀s∈[J6],s.floor=0:=by decide+kernel
 have K:Hid (∀j l n W,(ES j l n).In W->Calls prog 42 #[.agg (ng (ES j l n)),.agg (oK Q6),.slice none 0 0,.string CQ,.int .i64 900] W fun e w'=>e=.returned (.tuple #[.int .i64 1000,.int .i64 0])/\Below W.heap.size W w'):=fun j l n W h=>by refine(akn (ES j l n) Q6 none 0 [] CQ 900 W h ⟨aj.cK,aj.cK⟩ aj.cK ZB (show(2:Int)≠1 by decide) B OB.lv p (fun _=>OB)).mono ?_;rintro e w' ⟨⟨a,er,rfl,P⟩,C⟩;obtain⟨rfl,rfl⟩:=akl P;exact⟨rfl,C⟩
 have L:Hid (∀j l n W,(ES j l n).In W->Calls prog 36 #[.agg (ng (ES j l n)),.agg (oK Q6),.slice none 0 0,.string CQ,.int .i64 999] W fun e w'=>e=.returned (.tuple #[.int .i64 899,.int .i64 0])/\Below W.heap.size W w'):=fun j l n W h=>by refine(Vd (ES j l n) Q6 none 0 [] CQ 999 W h ⟨aj.cK,aj.cK⟩ aj.cK OB (by decide) (by decide)).mono ?_;rintro e w' ⟨rfl,C⟩;have Q:fL (ES j l n).t Q6.t [] CQ 999=899:=adX;exact⟨by rw[Q],C⟩
 have R:Hid (∀j l n W,(ES j l n).In W->Calls prog 70 #[.agg (ng (ES j l n))] W fun e w'=>e=.returned (.bool false)/\Below W.heap.size W w'):=fun j l n W h=>ad3 (ES j l n) W h ZB (show(2:Int)≠1 by decide) B OB.lv;clear p B;go_enter func32,ntmps32;go_wp2_with fail;refine(ZC _).mono ?_;rintro e S ⟨j,l,n,rfl,M,_,r⟩;go_wp2_with fail;refine(K.out j l n S M).mono ?_;rintro e w2 ⟨rfl,u⟩;have N:=aB r u;clear M r u K;go_wp2_with fail;refine(ZC _).mono ?_;rintro e w3 ⟨D,E,F,rfl,O,_,y⟩;go_wp2_with fail;refine(L.out D E F w3 O).mono ?_;rintro e w4 ⟨rfl,z⟩;have T:=aB (aB N y) z;clear O y z L N;go_wp2_with fail;refine(ZC _).mono ?_;rintro e U ⟨G,I,J,rfl,V,_,X⟩;go_wp2_with fail;refine(R.out G I J U V).mono ?_;rintro e w6 ⟨rfl,Y⟩;have Z:=aB (aB T X) Y;go_wp2;go_ret;exact⟨rfl,Z⟩
