/- Conditions: as stated. -/
import Derived.Deep.Slices
import Derived.Deep.Fields
import Derived.ChangeSame
import Derived.ProofKit
import Derived.OpenShut
import Derived.ShutString
import Derived.ChangeOld
import Derived.Test.YtlhkojcmcmkmaaaGreatCGenC
namespace Go.Proofs.YtlhkojcmcmkmaaaGreat
open Go.Proofs.Tryz
open Go.RowKit
theorem ako:bI RQ=true:=by decide+kernel
theorem akp:∀c∈CF,bI c=true:=by decide+kernel
theorem ZV.Ht{C:gJ}{z:fB}{n:fC}{kept D:List Elem}(h:ZV C z n kept D)(first:Bool):mJ (Dj C z n kept first D):=by
 obtain⟨k,E,K,p,hy⟩:=h.k;have L:=hy.Dl;have F:=hy.len;refine⟨h.r.ok,⟨p.deps.1,by have:=p.deps.2;show z.deps<=20;omega,p.ds.valid,p.os.akq,?_,?_,?_,?_⟩,⟨?_,?_,?_,?_,hy.inc.1,?_,?_,?_,hy.taken.valid⟩,?_,?_,?_⟩
 ·show(z.es.map cI.v).length<=7;have:=p.len;simp;omega
 ·intro e u;obtain⟨x,j,rfl⟩:=aue.1 u;have:=p.RR x j;show 0<=x.base/\x.base<=_;omega
 ·intro e u;obtain⟨x,j,rfl⟩:=aue.1 u;have:=p.lens x j;show x.l.length<=53;omega
 ·intro e u;obtain⟨x,j,rfl⟩:=aue.1 u;intro y B;have:=p.RS x j y B;omega
 ·show 0<=n.az;omega
 ·show n.az<=53;omega
 ·show(n.ins.length:Int)=n.az;omega
 ·intro x j;have:=hy.ins x j;omega
 ·show n.ay<=n.az*1000000000;have:=hy.inc.2;omega
 ·show-(n.az*1000000000)<=n.aQ;have:=hy.wh.1;omega
 ·show n.aQ<=n.az*1000000000;have:=hy.wh.2;omega
 ·rcases h.kept with e|⟨r,G,M,e⟩
  ·show OP kept;rw[e];exact⟨rfl,by simp,by simp⟩
  ·show OP kept;rw[e];refine⟨BQ.2 ⟨by simp,fun x j=>?_,List.pairwise_singleton _ _⟩,by simp,fun x j=>?_⟩
   ·rw[auB]at j;subst j;exact⟨ako,G,by show r<=_;omega⟩
   ·rw[auB]at j;subst j;show r<=_;omega
 ·intro e u;obtain⟨x,j,rfl⟩:=aue.1 u;have:=p.lens x j;show(x.l.length:Int)=n.az;omega
 ·intro x j;obtain⟨⟨y,I,J⟩,_⟩:=h.e.1 x j;rw[J];exact Fa (akp _ (h.r.ws.ok y I).code)
open Go.ChangeShapes Go.WideShapes Go.ChangeAt Go.RowKit Go.Deep
section
variable {H:Type}{enc:TypeId×Value->H}{P:Program}{w:World}{base:Nat}{spare:Nat->Bool}{held:Bool}
end
theorem akr{z:Type}{Mw:z->List Value}{k:Nat}{w:World}(K:∀x,(Mw x).length=k)(L:0<k)(Q:z->Prop)(a:Addr)(len:Nat)
  (h:∀i,i<len->∃x,Q x/\∀j v,(Mw x)[j]?=some v->w.cell? (a.add (i*k+j))=some v):
  ∃e:List z,e.length=len/\(∀x∈e,Q x)/\ai Mw k w w.heap.size (some a) e:=by
 have M:∃e:List z,e.length=len/\(∀x∈e,Q x)/\∀i x,e[i]?=some x->∀j v,(Mw x)[j]?=some v->w.cell? (a.add (i*k+j))=some v:=by
  induction len with
  |zero=>exact⟨[],rfl,by simp,by simp⟩
  |succ n N=>
   obtain⟨e,B,r,C⟩:=N (fun i hi=>h i (by omega));obtain⟨x,E,F⟩:=h n (by omega);refine⟨e++[x],by simp[B],fun y hy=>?_,fun i y hi j v D=>?_⟩
   ·rcases aul.1 hy with h4|h4
    ·exact r y h4
    ·simp at h4;subst h4;exact E
   ·rcases at6 i e.length with h4|h4
    ·rw[avk h4]at hi;exact C i y hi j v D
    ·rw[List.getElem?_append_right h4]at hi;have O:i-e.length=0:=by
      have:=(aui.1 hi).1;simp at this;exact this
     rw[O]at hi;simp at hi;subst hi;obtain rfl:i=n:=by omega
     exact F j v D
 obtain⟨e,B,r,C⟩:=M;refine⟨e,B,r,fun G=>?_⟩;obtain⟨b,off,u⟩:=a;have R:0<e.length:=avm.2 G;have I:=atW R;have J:(Mw e[0])[0]?=some ((Mw e[0])[0]'(by rw[K];exact L)):=atW _
 have l:=C 0 _ I 0 _ J;simp only[auu,atX,Addr.add,aup]at l;have p:u=none:=by simpa using World.cell?_spot l
 subst p;have S:b<w.heap.size:=World.block_lt_of_cell? w ⟨b,off,none⟩ l;refine⟨b,off,rfl,S,fun i x hi j v D=>?_⟩;have:=C i x hi j v D;have T:(⟨b,off,none⟩:Addr).add (i*k+j)=⟨b,off+i*k+j,none⟩:=by
  unfold Addr.add;split
  ·rename_i U;have B:i*k=0:=(by omega);have r:j=0:=(by omega);subst r;simp
  ·simp[au6]
 rw[T]at this;exact this
theorem aks{n:Int}(h:(Lit.int .i64 n).wf=true):Kr n:=by simp[Lit.wf,IntKind.min,IntKind.max,IntKind.signed,IntKind.bits]at h;exact⟨by omega,by omega⟩
theorem akt{H:Type}{enc:TypeId×Value->H}{W:World}{a:Option Addr}{len r:Nat}{d:DataW H}{p:List MemPlace}(h:DataW.Trod enc prog W 0 (fun _=>true) true 34 (.slice a len r) d p):
  ∃B:List Int,B.length=len/\ai encI 1 W W.heap.size a B/\(∀x∈B,Kr x)/\len<=r/\r<=maxLen:=by
 obtain⟨C,E⟩:=h;rcases open_ints underlying34 underlying3 (by kernel_rfl) E with⟨e,_⟩|⟨x,l,c,D,e,_,F,G,I,_,u,J⟩
 ·simp[Value.cells]at e;obtain⟨rfl,rfl,rfl⟩:=e;exact⟨[],rfl,ai.cC,by simp,by omega,by unfold maxLen;omega⟩
 ·simp[Value.cells]at e;obtain⟨rfl,rfl,rfl⟩:=e;have K:D.length=r:=by simpa using I
  have L:∀i,i<len->∃y:Int,Kr y/\∀j v,(encI y)[j]?=some v->W.cell? (x.add (i*1+j))=some v:=by
   intro i M;refine⟨D.getD i 0,?_,fun j v z=>?_⟩
   ·apply aks;apply J;rw[atZ,atW (by omega)];exact atT _
   ·match j,z with
    |0,z=>simp[encI]at z;subst z;have:=u i (by omega);simpa using this
    |(n+1),z=>simp[encI]at z
  obtain⟨B,N,O,Q⟩:=akr (k:=1) (Mw:=encI) (fun _=>rfl) Nat.one_pos _ x len L;exact⟨B,N,Q,O,F,G⟩
