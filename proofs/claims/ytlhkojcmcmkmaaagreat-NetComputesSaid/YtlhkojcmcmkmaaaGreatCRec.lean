/- Conditions: as stated. -/
import Derived.Test.YtlhkojcmcmkmaaaGreatCR30b
set_option maxRecDepth 100000
set_option maxHeartbeats 4000000
namespace Go.Proofs.YtlhkojcmcmkmaaaGreat
open Go.Proofs.Tryz
structure Rec(α κ:Type) where
 key:α->κ
 MH:α->Int
 set:α->Int->α
 lt:κ->κ->Bool
structure Rec.Law{α κ:Type}(R:Rec α κ):Prop where
 ard:∀x n,R.key (R.set x n)=R.key x
 arf:∀x n,R.MH (R.set x n)=n
 ext:∀x y,R.key x=R.key y->R.MH x=R.MH y->x=y
 irrefl:∀a,R.lt a a=false
 trans:∀a b c,R.lt a b=true->R.lt b c=true->R.lt a c=true
 total:∀a b,R.lt a b=false->R.lt b a=false->a=b
section
variable {α κ:Type}[DecidableEq κ](R:Rec α κ)
def Rec.Mq(l:List α):Prop:=l.Pairwise (fun a b=>R.lt (R.key a) (R.key b)=true)
variable {R}
end
section
variable {α κ:Type}{R:Rec α κ}
end
section
variable {α κ:Type}[DecidableEq κ]{R:Rec α κ}
end
section
variable {α κ:Type}{R:Rec α κ}
end
section
variable {α κ:Type}[DecidableEq κ]{R:Rec α κ}
end
open Go.RowKit
structure cH where
 kind:Int
 code:ByteArray
 amount:Int
deriving DecidableEq
def fV(x:cH):List Value:=[.int .i64 x.kind,.string x.code,.int .i64 x.amount]
theorem eD(x:cH):(fV x).length=3:=rfl
theorem AP(x:cH):∀u∈fV x,u.oneCell'=true:=by intro u hu;simp[fV]at hu;rcases hu with rfl|rfl|rfl<;>rfl
theorem B0:(Tryz.prog.info? 30).map (fun i=>(i.zero,i.size,i.bytes))=some (some (.agg #[.int .i64 0,.string ⟨#[]⟩,.int .i64 0]),3,32):=by kernel_rfl
theorem arh:Tryz.prog.eqGuardType Tryz.prog.depth 30=false:=by kernel_rfl
theorem ari(y:cH)(w:World):Sem.run prog (binOp .neq 30 (.agg #[.int .i64 y.kind,.string y.code,.int .i64 y.amount]) (.agg #[.int .i64 y.kind,.string y.code,.int .i64 y.amount])) w=.ok (.bool false) w:=by
 have u0:=underlying3;have j:=Tryz.isAgg3;have l:=Tryz.sizeOf3;have u1:=underlying9;have n:=Tryz.isAgg9;have p:=Tryz.sizeOf9;have hS:Tryz.prog.underlying 30=some (.struct (Tryz.prog.fieldsOf 30)):=by kernel_rfl
 have e:Tryz.prog.stoodInHeld 30=false:=by kernel_rfl
 rw[run_neq_struct,show(10000:Nat)=9999+1 from rfl,run_equalIn_agg w 9999 30 _ _ hS e];simp only[Program.fieldsOf,underlying30];go_simp
theorem arj(A B:Option Addr)(c d:Nat)(j:List cH)(w:World)(y:ai fV 3 w w.heap.size A j)(hy:ai fV 3 w w.heap.size B j)(G:j.length<=9223372036854775807):
  Calls prog 61 #[.slice A j.length c,.slice B j.length d] w fun e w'=>e=.returned (.bool true)/\∃q,w'=w.drewN q:=by
 have J:((j.length:Int)!=(j.length:Int))=false:=by simp
 go_enter func61,ntmps61;go_wp2
 go_loopw [5] (fun i wr=>∃k q:Nat,k<=j.length/\i=.int .i64 k/\Hid (wr=w.drewN q)) (fun i _=>j.length-(intOf i).toNat)
 case atStart=>exact⟨0,0,by omega,rfl,rfl⟩
 case round=>
  obtain⟨k,q,K,rfl,r⟩:=hrel;have z:ai fV 3 wr w.heap.size A j:=by rw[r.out];exact y
  have u:ai fV 3 wr w.heap.size B j:=by rw[r.out];exact hy
  by_cases p:k<j.length
  ·obtain⟨L,M,rfl,C,l⟩:=z.at_ p;obtain⟨N,O,rfl,D,n⟩:=u.at_ p;have E:=l 0 _ rfl;have P:=l 1 _ rfl;have Q:=l 2 _ rfl;have d0:=n 0 _ rfl;have d1:=n 1 _ rfl;have d2:=n 2 _ rfl;simp only[atQ]at E d0;clear l n;have S:=fun(w:World)=>ari j[k] w;have F:=arh;go_wp2;go_quiet(fail);go_wp2;go_roundw
   case rel=>refine⟨k+1,q+nq,by omega,by go_num,?_⟩;show wr.drewN nq=w.drewN (q+nq);rw[r.out,World.drewN_drewN]
   case measure=>simp[intOf];omega
  ·go_wp2;go_ret;exact⟨rfl,q,r.out⟩
def abC(k:Int):Bool:=k==6||k==9||k==10
def abE(x:cH):Bool:=if abC x.kind then decide (x.code.size=0)else bI x.code
def abD(x:cH):Bool:=decide (1<=x.kind)&&decide (x.kind<=10)&&Cf x.amount&&abE x
def Qd(a b:Int×List UInt8):Bool:=decide (a.1<b.1)||(decide (a.1=b.1)&&decide (a.2<b.2))
def RL:Rec cH (Int×List UInt8):=⟨fun x=>(x.kind,x.code.data.toList),(·.amount),fun x n=>⟨x.kind,x.code,n⟩,Qd⟩
theorem agR{a b:ByteArray}(h:a.data.toList=b.data.toList):a=b:=by obtain⟨⟨l⟩⟩:=a;obtain⟨⟨m⟩⟩:=b;simp at h;rw[h]
theorem TI:RL.Law where
 ard _ _:=rfl
 arf _ _:=rfl
 ext x y j e:=by obtain⟨a,b,c⟩:=x;obtain⟨a',r,u⟩:=y;simp only[RL,Prod.mk.injEq]at j e;obtain⟨rfl,j⟩:=j;rw[agR j,e]
 irrefl a:=by simp[RL,Qd,avi]
 trans a b c j e:=by
  simp only[RL,Qd,avn,aub,auc]at*;rcases j with j|⟨j,l⟩
  ·rcases e with e|⟨e,n⟩
   ·left;omega
   ·left;omega
  ·rcases e with e|⟨e,n⟩
   ·left;omega
   ·exact .inr ⟨by omega,List.lt_trans l n⟩
 total a b j e:=by
  simp only[RL,Qd,Bool.or_eq_false_iff,Bool.and_eq_false_iff,auA]at*;have l:a.1=b.1:=by omega
  have n:¬a.2<b.2:=j.2.resolve_left (fun h=>h l);have p:¬b.2<a.2:=e.2.resolve_left (fun h=>h l.symm);exact Prod.ext l (List.le_antisymm (auP.1 p) (auP.1 n))
structure aaM where
 fZ:List dr
 bF:List dx
 MR:Ek
 count:Int
 sh:kB
 recover:Int
structure aaN where
 deps:Int
 kN:List bN
 orders:List bn
 others:List (List Int×Int)
structure Wx where
 az:Int
 ay:Int
 aQ:Int
 aO:List Int
 taken:List Elem
structure bf where
 r:aaM
 p:aaN
 y:Wx
 kept:List Elem
 first:Bool
 e:List Elem
def ag(kind:Int)(l:List Elem):List cH:=(l.filter nz).map fun x=>⟨kind,x.code,x.amount⟩
def iB(e:List dr)(x:Elem):Bool:=decide (((iA e x.code).getD nD).kind=1)
namespace bf
variable (I:bf)
def b:eU:=fN I.r.fZ (bG I.e)
def merged:List Elem:=(bG I.e).filter nz
def cD:List Elem:=I.merged.filter (iB I.r.fZ)
def cG:List Elem:=I.merged.filter fun x=>!iB I.r.fZ x
def base:Int:=max I.b.c 0
def before:List Elem:=jg I.p.kN true I.base (max I.b.c 0) I.y.taken
def Ij:Int:=I.b.c-aB I.before
def aO:Int:=max I.b.i 0
def eF:List (List Int×Int):=(I.y.aO,I.aO)::I.p.others
def fS(s:dx):gM:=(E9 s I.y.aO.length I.eF).getD 0 jN
def Em:Bool:=I.r.bF.any fun s=>gI (iE s I.y.aO.length I.eF)
def gw(l:List dx):List Elem:=l.map fun s=>⟨s.code,(I.fS s).aD⟩
def iu(l:List dx):List Elem:=l.map fun s=>⟨s.code,(I.fS s).aV⟩
def jP(l:List dx):Int:=ax (l.map fun s=>(I.fS s).aD)
def kC(l:List dx):Int:=ax (l.map fun s=>if s.ep then(I.fS s).aD else 0)
def bj:Int:=I.jP I.r.bF
def ay:Int:=max (I.b.t-aB I.before-I.kC I.r.bF) 0
def MT:Int:=I.Ij-I.bj
def aw:Int:=Dv I.r.MR I.r.count I.y.az I.y.ay I.y.aQ I.ay
def Es:Int:=I.MT-I.aw
def net:Int:=max (I.Es-max (I.b.c-I.b.a) 0) 0
def dc:List Elem:=if I.first then B6 I.r.sh I.net I.p.deps I.p.orders else I.kept
def eu:Int:=I.Es-aB I.dc
def iR:List Elem:=nj I.y.taken I.before
def after:List Elem:=jg I.p.kN false I.base (max I.eu 0) I.iR
def iF:Int:=I.eu-aB I.after
def Fu:List Elem:=nj I.iR I.after
def lH:Int:=I.b.c-I.bj-I.aw
def lines:List cH:=ag 1 I.cD++ag 2 I.cG++ag 3 I.before++ag 4 (I.gw I.r.bF)++ag 5 (I.iu I.r.bF)++ag 6 [⟨⟨#[]⟩,I.aw⟩]++ag 7 I.dc++ag 8 I.after++ag 9 [⟨⟨#[]⟩,max I.iF 0⟩]++ag 10 [⟨⟨#[]⟩,max (-I.iF) 0⟩]
def next:Wx:=⟨I.y.az+1,I.y.ay+I.ay,I.y.aQ+I.aw,I.y.aO++[I.aO],I.Fu⟩
def err:Int:=
 if I.r.count<=I.y.az then 3
 else if eL I.r.fZ I.e (bG I.e)≠0 then eL I.r.fZ I.e (bG I.e)
 else if fj I.p.kN I.base (max I.b.c 0) I.y.taken≠0 then fj I.p.kN I.base (max I.b.c 0) I.y.taken
 else if I.Em=true then 4
 else if cQ I.aw=false then 4
 else if I.first=true/\1000000000<I.net then 2
 else if fh I.y.taken I.before≠0 then fh I.y.taken I.before
 else if fj I.p.kN I.base (max I.eu 0) I.iR≠0 then fj I.p.kN I.base (max I.eu 0) I.iR
 else fh I.iR I.after
end bf
structure PI(r:aaM):Prop where
 fZ:k9 r.fZ=true
 Jk:r.bF.length<=12
 MV:∀s∈r.bF,oD s
 jr:r.bF.Pairwise (fun a b=>Op.bytesLess a.code.toList b.code.toList=true)
 MR:pP r.MR
 c0:1<=r.count
 c1:r.count<=53
 sh:oL r.sh
 v0:0<=r.recover
 v1:r.recover<=1000000
structure TJ(p:aaN):Prop where
 d0:0<=p.deps
 d1:p.deps<=20
 kN:gF p.kN=true
 orders:Bq p.orders
 Py:p.others.length<=7
 base:∀e∈p.others,0<=e.2/\e.2<=1000000000
 lens:∀e∈p.others,e.1.length<=53
 earlier:∀e∈p.others,∀x∈e.1,0<=x/\x<=1000000000
structure TK(y:Wx):Prop where
 p0:0<=y.az
 p1:y.az<=53
 len:(y.aO.length:Int)=y.az
 ins:∀x∈y.aO,0<=x/\x<=1000000000
 i0:0<=y.ay
 i1:y.ay<=y.az*1000000000
 w0:-(y.az*1000000000)<=y.aQ
 w1:y.aQ<=y.az*1000000000
 taken:fE y.taken=true
structure OP(k:List Elem):Prop where
 aav:fE k=true
 len:k.length<=16
 hi:∀x∈k,x.amount<=1000000000
structure mJ(I:bf):Prop where
 r:PI I.r
 p:TJ I.p
 y:TK I.y
 kept:OP I.kept
 same:∀e∈I.p.others,(e.1.length:Int)=I.y.az
 size:∀x∈I.e,x.code.size<=maxLen
def Dh(x y:cH):Bool:=RL.lt (RL.key x) (RL.key y)
theorem aiW:∀(x y:List UInt8),Op.bytesLess x y=decide (x<y)
 |[],[]=>by simp[Op.bytesLess]
 |_::_,[]=>by simp[Op.bytesLess]
 |[],_::_=>by simp[Op.bytesLess]
 |a::x,b::y=>by rw[Op.bytesLess,aiW x y];simp only[List.cons_lt_cons_iff];by_cases e:a<b<;>by_cases j:a=b<;>by_cases l:x<y<;>simp[e,j,l]
theorem apR(x y:cH):Dh x y=(decide (x.kind<y.kind)||(decide (x.kind=y.kind)&&Op.bytesLess x.code.toList y.code.toList)):=by rw[aiW,ByteArray.toList_eq,ByteArray.toList_eq];rfl
def abB(x:cH):Bool:=abD x&&(x.amount !=0)
theorem abI{α:Type}[DecidableEq α]:∀{l m:List α},l.Pairwise (·≠·)->(∀x∈l,x∈m)->l.length<=m.length
 |[],m,_,_=>by simp
 |a::l,m,h,j=>by obtain⟨r,u⟩:=aus.1 h;have n:=j a (by simp);have y:=abI (m:=m.erase a) u (fun x p=>(List.mem_erase_of_ne (fun e=>r x p e.symm)).2 (j x (by simp[p])));rw[List.length_erase_of_mem n]at y;have:=List.length_pos_of_mem n;simp only[at4];omega
theorem agU{l:List bN}{base e:Int}{year:List Elem}(h:fj l base e year=0):gF l=true/\fE year=true/\(0<=base/\base<=1000000000)/\0<=e/\e<=1000000000:=by
 unfold fj at h;split at h
 ·cases h
 ·split at h
  ·cases h
  ·split at h
   ·cases h
   ·split at h
    ·cases h
    ·rename_i a b c d;exact⟨by simpa using a,by simpa using b,iK.1 (by simpa using c),iK.1 (by simpa using d)⟩
theorem ark{c:ByteArray}(h:bI c=true):c.size<=24:=by simp only[bI,aub,auc]at h;exact h.1.1.2
theorem Fa{c:ByteArray}(h:bI c=true):c.size<=maxLen:=at7 (ark h) (by unfold maxLen;omega)
theorem F5{l:List bN}{before:Bool}{base j:Int}{year:List Elem}(h:fj l base j year=0):
  jb (jg l before base j year)/\(∀x∈jg l before base j year,bI x.code=true/\0<=x.amount/\x.amount<=1000000000)/\0<=aB (jg l before base j year)/\aB (jg l before base j year)<=j/\(jg l before base j year).length<=16:=by
 obtain⟨F,O,⟨r,u⟩,z,P⟩:=agU h;obtain⟨Q,B,G⟩:=Ip.1 F;have p:∀x∈DZ l,BF x:=fun x n=>B x ((TZ B x).1 n);rw[aaG h];have D:=agX (before:=before) (year:=year) p r u j z;have E:=agY (before:=before) (year:=year) (DZ l) p r u j z;have J:=Ww (before:=before) (year:=year) p r u j z;have K:∀x∈tk before base year (DZ l) j,0<=x.amount:=fun x n=>by have:=(D x n).2.1;omega
 refine⟨Jv _,fun x n=>?_,?_,?_,?_⟩
 ·obtain⟨y,hy,e⟩:=Wz n;obtain⟨⟨d,hd,L⟩,_⟩:=D y hy;have M:=aiU K n;exact⟨by rw[<-e,L];exact(p d hd).name,M.1,by omega⟩
 ·rw[agZ,E];omega
 ·rw[agZ,E];omega
 ·refine at7 (afn _ _ _ _ _) ?_;have N:(DZ l).Nodup:=(abJ G).imp (fun{a b} C e=>by subst e;exact Ap.EB _ C);have:(DZ l).length<=l.length:=abI N (fun x n=>(TZ B x).1 n);omega
theorem aho{out:List Elem}(h:jb out)(o:bn)(p:Int):jb (o9 out o p):=by
 unfold o9;split
 ·exact sorted_put h _
 ·exact h
theorem aiX:∀(os:List bn) (e:List Int) {out:List Elem},jb out->jb (Ah out os e)
 |[],e,out,h=>by cases e<;>exact h
 |o::r,[],out,h=>h
 |o::r,p::e,out,h=>by rw[Ah];exact aiX r e (aho h o p)
structure VK(l:List bn)(left:Int)(out:List Elem)(taken:Int)(R:List Elem×Int):Prop where
 pos:∀x∈R.1,0<=x.amount
 code:∀x∈R.1,∃o∈l,x.code=o.id
 sorted:jb R.1
 sum:aB R.1-aB out=R.2-taken
 lo:taken<=R.2
 hi:R.2-taken<=left
theorem aiY{l:List bn}{aU:Bool}(B:∀o∈l,EM o):∀(n:Nat) (e:Int×Int) (left:Int) (out:List Elem) (j:Int),0<=left->(∀x∈out,0<=x.amount)->(∀x∈out,∃o∈l,x.code=o.id)->jb out->VK l left out j (nX l aU n e left out j):=by
 intro n
 induction n with
 |zero=>intro e left out j p r u y;exact⟨r,u,y,by simp[nX],by simp[nX],by simp[nX];exact p⟩
 |succ n C=>
  intro e left out j p r u y;rw[nX];split
  ·exact⟨r,u,y,by simp,by simp,by simp;exact p⟩
  ·obtain⟨D,J,K⟩:=aae (k:=gS l aU e) B p;have E:IK l out.length out:=⟨r,u,atN _⟩
   have z:=IK.agJ (l.filter (fY (gS l aU e))) (ql l (gS l aU e) left) E (fun o F=>CJ F);have I:=C (gS l aU e) (left-ax (ql l (gS l aU e) left)) _ (j+ax (ql l (gS l aU e) left)) (by omega) z.pos z.code (aiX _ _ y);have G:=agI (l.filter (fY (gS l aU e))) (ql l (gS l aU e) left) out (aad _ _ _).symm D;refine⟨I.pos,I.code,I.sorted,?_,?_,?_⟩
   ·have:=I.sum;rw[G]at this;omega
   ·have:=I.lo;omega
   ·have:=I.hi;omega
theorem KH{s:kB}{net deps:Int}(h:oL s)(p:0<=net)(r:net<=1000000000)(hd:0<=deps)(j:deps<=20):
  (0<=ng s deps/\ng s deps<=21000000000)/\(0<=ny s net deps/\ny s net deps<=net)/\(0<=iH s net deps/\iH s net deps<=net)/\(0<=s.bO*deps/\s.bO*deps<=20000000000):=by
 have u:0<=s.bO*deps:=aur h.d0 hd;have y:s.bO*deps<=1000000000*20:=auS h.d1 j hd (by omega);have f0:=h.f0;have f1:=h.f1;have z:=h.l0;have l:0<=ng s deps/\ng s deps<=21000000000:=by unfold ng;omega
 refine⟨l,?_,by unfold iH;omega,by omega⟩;unfold ny;split
 ·omega
 ·rename_i n;have e:0<=min net (max s.top (ng s deps))-ng s deps:=by omega
  obtain⟨_,B,C,_⟩:=LL (unit:=1) (mode:=3) e (by omega) h.s0 h.s1 (by omega) (by omega) (by omega) (by omega);have:=acJ (min net (max s.top (ng s deps))-ng s deps) s.share 3 e (by omega) h.s0 h.s1 (by decide);omega
structure agV(net:Int)(l:List bn)(R:List Elem):Prop where
 pos:∀x∈R,0<=x.amount
 hi:∀x∈R,x.amount<=net
 name:∀x∈R,bI x.code=true
 code:∀x∈R,∃o∈l,x.code=o.id
 sorted:jb R
 lo:0<=aB R
 sum:aB R<=net
theorem ahp{l:List Elem}(h:∀x∈l,0<=x.amount):0<=aB l/\∀x∈l,x.amount<=aB l:=by
 induction l with
 |nil=>exact⟨by simp[aB],by simp⟩
 |cons a l n=>
  obtain⟨r,p⟩:=n (fun x j=>h x (by simp[j]));have u:=h a (by simp);refine⟨by simp only[aB];omega,fun x j=>?_⟩;simp only[aB];rcases auf.1 j with e|e
  ·subst e;omega
  ·have:=p x e;omega
theorem VM{s:kB}{net j:Int}{l:List bn}(h:oL s)(n:Bq l)(y:0<=net)(z:net<=1000000000)(hd:0<=j)(B:j<=20):
  agV net l (B6 s net j l)/\VK l (net-iH s net j) [] 0 (jn [] l true (net-iH s net j)):=by
 obtain⟨_,⟨M,N⟩,⟨O,P⟩,_⟩:=KH h y z hd B;have I:=aiY (aU:=true) n.ok (o8 l true (-1,-1)) (-1,-1) (net-iH s net j) [] 0 (by omega) (by simp) (by simp) List.Pairwise.nil;have J:=aiY (aU:=false) n.ok (o8 l false (-1,-1)) (-1,-1) (max (net-ny s net j-(jn [] l true (net-iH s net j)).2) 0) (jn [] l true (net-iH s net j)).1 0 (by omega) I.pos I.code I.sorted;refine⟨?_,I⟩;have C:=I.sum;have Q:=I.lo;have S:=I.hi;have D:=J.sum;have T:=J.lo;have E:=J.hi;have e:B6 s net j l=(jn (jn [] l true (net-iH s net j)).1 l false (max (net-ny s net j-(jn [] l true (net-iH s net j)).2) 0)).1:=rfl;rw[e];simp only[aB]at C;have u:aB (jn (jn [] l true (net-iH s net j)).1 l false (max (net-ny s net j-(jn [] l true (net-iH s net j)).2) 0)).1<=net:=by have F:(jn [] l true (net-iH s net j))=nX l true (o8 l true (-1,-1)) (-1,-1) (net-iH s net j) [] 0:=rfl;have p:(jn (jn [] l true (net-iH s net j)).1 l false (max (net-ny s net j-(jn [] l true (net-iH s net j)).2) 0))=nX l false (o8 l false (-1,-1)) (-1,-1) (max (net-ny s net j-(jn [] l true (net-iH s net j)).2) 0) (jn [] l true (net-iH s net j)).1 0:=rfl;rw[p];rw[F]at D E|-;omega
 obtain⟨G,K⟩:=ahp J.pos;refine⟨J.pos,fun x r=>?_,fun x r=>?_,J.code,J.sorted,G,u⟩
 ·have:=K x r;have p:(jn (jn [] l true (net-iH s net j)).1 l false (max (net-ny s net j-(jn [] l true (net-iH s net j)).2) 0))=nX l false (o8 l false (-1,-1)) (-1,-1) (max (net-ny s net j-(jn [] l true (net-iH s net j)).2) 0) (jn [] l true (net-iH s net j)).1 0:=rfl;rw[p]at u;omega
 ·obtain⟨o,L,e⟩:=J.code x r;rw[e];exact(n.ok o L).name
theorem adx(a b:List Int):(Gf a b).length=min a.length b.length:=by simp[Gf]
theorem adr{n:Nat}(p:List (List Int×Int))(u:∀e∈p,e.1.length=n)(y:∀e∈p,0<=e.2)(z:∀e∈p,∀x∈e.1,0<=x):∀j:List Int,j.length=n+1->(∀x∈j,0<=x)->
  (p.foldl (fun j e=>Gf j (e.1++[e.2])) j).length=n+1/\∀x∈p.foldl (fun j e=>Gf j (e.1++[e.2])) j,0<=x:=by
 induction p with
 |nil=>intro j B r;exact⟨B,r⟩
 |cons e p C=>
  intro j B r;have E:=u e (by simp);refine C (fun x l=>u x (by simp[l])) (fun x l=>y x (by simp[l])) (fun x l=>z x (by simp[l])) _ (by rw[adx];simp;omega) (fun x l=>?_);unfold Gf at l;obtain⟨i,hi,rfl⟩:=aun.1 l;rw[List.getElem_zipWith];simp only[List.length_zipWith,at3,List.length_singleton]at hi;have F:=r _ (atT (show i<j.length by omega));have G:0<=(e.1++[e.2])[i]'(by simp;omega):=by
   have D:(e.1++[e.2])[i]'(by simp;omega)∈e.1++[e.2]:=atT _
   rcases aul.1 D with h|h
   ·exact z e (by simp) _ h
   ·simp at h;rw[h];exact y e (by simp)
  omega
theorem arl{n:Nat}{j:List (List Int×Int)}(h:Eh n j):(qD n j).length=n+1/\∀x∈qD n j,0<=x:=
 adr j h.lens (fun e l=>(h.base e l).1) (fun e l x p=>(h.earlier e l x p).1) _ (by simp) (by intro x p;rw[List.eq_of_mem_replicate p];omega)
theorem aao{s:dx}{n:Nat}{j:List (List Int×Int)}(p:oD s)(h:Eh n j):
  0<=(iE s n j).base/\0<=(iE s n j).aD/\0<=(iE s n j).aV/\(iE s n j).base<=54000000000/\(iE s n j).aD<=54000000100/\(iE s n j).aV<=54000000100:=by
 obtain⟨l,r⟩:=arl h;have:=h.nn;exact anQ p r (by omega) (by intro e;rw[e]at l;simp at l)
theorem aap{n:Nat}{j:List (List Int×Int)}(h:Eh n j):∀x∈nU j,0<=x/\x<=1000000000:=by intro x l;obtain⟨e,p,rfl⟩:=aue.1 l;exact h.base e p
theorem ach{l:List Int}(h:∀x∈l,0<=x)(i:Nat):l.getD i 0<=ax l:=by
 rw[atZ];cases e:l[i]?with
 |none=>simp;have:=nv (l:=l) (B:=ax l) (fun x j=>⟨h x j,EZ h j⟩);omega
 |some v=>exact EZ h (List.mem_of_getElem? e)
theorem Jh(v:gM)(e:List Int):(nT v e).length=e.length:=by unfold nT;split<;>simp
theorem arn{v:gM}{l:List Int}(n:∀x∈l,0<=x/\x<=1000000000)(u:0<=v.base)(y:0<=v.aD)(z:0<=v.aV):∀x∈nT v l,(0<=x.base/\x.base<=v.base)/\(0<=x.aD/\x.aD<=v.aD)/\(0<=x.aV/\x.aV<=v.aV):=by
 intro x j;unfold nT at j;split at j
 ·rcases avB j with e|e
  ·rw[List.eq_of_mem_replicate e];simp only[jN];omega
  ·subst e;omega
 ·rename_i B;have p:0<ax l:=by have:=(nv n).1;omega
  obtain⟨i,_,rfl⟩:=aue.1 j;have key:∀t:Int,0<=t->0<=(en t l).getD i 0/\(en t l).getD i 0<=t:=fun t C=>by have r:=abu C (fun x j=>(n x j).1) p;have:=ach r i;rw[TT p]at this;exact⟨IY r i,this⟩
  exact⟨key _ u,key _ y,key _ z⟩
theorem aeW{v:gM}(h:gI v=false):v.base<=1000000000/\v.aD<=1000000000/\v.aV<=1000000000:=by simp only[gI,Bool.or_eq_false_iff,auA]at h;omega
theorem aro{s:dx}{n:Nat}{e:List (List Int×Int)}(j:oD s)(h:Eh n e)(l:gI (iE s n e)=false):∀x∈E9 s n e,(0<=x.aD/\x.aD<=1000000000)/\0<=x.aV/\x.aV<=1000000000:=by intro x p;obtain⟨a,b,c,_⟩:=aao j h;obtain⟨r,u,y⟩:=aeW l;have:=arn (aap h) a b c x p;omega
section
variable {I:bf}
theorem mJ.aax(h:mJ I)(l:I.y.az<I.r.count)(hi:I.aO<=1000000000):Eh I.y.aO.length I.eF:=by
 have e:=h.y.len;have n:=h.r.c1;have u:=h.p.Py;refine⟨by simp[bf.eF],by simp[bf.eF];omega,by omega,fun x j=>?_,fun x j=>?_,fun x j=>?_⟩
 ·rcases auf.1 j with r|r
  ·subst r;rfl
  ·have:=h.same x r;omega
 ·rcases auf.1 j with r|r
  ·subst r;exact⟨by show 0<=max _ _;omega,hi⟩
  ·exact h.p.base x r
 ·rcases auf.1 j with r|r
  ·subst r;exact h.y.ins
  ·exact h.p.earlier x r
theorem Ik{e:List dr}{l m:List Elem}(h:eL e l m=0):k9 e=true/\ey l=0/\missing e m=false/\qd (fN e m)=true:=by
 unfold eL at h;split at h
 ·cases h
 ·split at h
  ·rename_i j;exact absurd h j
  ·split at h
   ·cases h
   ·split at h
    ·cases h
    ·rename_i a b c d;exact⟨by simpa using a,by simpa using b,by simpa using c,by simpa using d⟩
theorem V2{n:Int}:cQ n=true↔-1000000000<=n/\n<=1000000000:=by simp[cQ]
theorem MP{b:eU}(h:qd b=true):(-1000000000<=b.g/\b.g<=1000000000)/\(-1000000000<=b.c/\b.c<=1000000000)/\(-1000000000<=b.t/\b.t<=1000000000)/\(-1000000000<=b.i/\b.i<=1000000000)/\(-1000000000<=b.a/\b.a<=1000000000):=by simp only[qd,aub,V2]at h;obtain⟨⟨⟨⟨a,b⟩,c⟩,d⟩,e⟩:=h;exact⟨a,b,c,d,e⟩
theorem mJ.ae4(h:mJ I)(j:eL I.r.fZ I.e (bG I.e)=0):fj I.p.kN I.base (max I.b.c 0) I.y.taken=0:=by
 obtain⟨_,⟨l,n⟩,_⟩:=MP (Ik j).2.2.2;have e:I.b.c=(fN I.r.fZ (bG I.e)).c:=rfl;refine aaF h.p.kN h.y.taken (iK.2 ?_) (iK.2 ?_)
 ·unfold bf.base;omega
 ·omega
theorem mJ.V5(h:mJ I)(j:I.y.az<I.r.count)(hi:I.aO<=1000000000){s:dx}(l:s∈I.r.bF)(n:gI (iE s I.y.aO.length I.eF)=false):
  (0<=(I.fS s).aD/\(I.fS s).aD<=1000000000)/\0<=(I.fS s).aV/\(I.fS s).aV<=1000000000:=by
 have p:=aro (h.r.MV s l) (h.aax j hi) n;unfold bf.fS;rw[atZ];cases e:(E9 s I.y.aO.length I.eF)[0]?with
 |none=>simp[jN]
 |some v=>exact p v (List.mem_of_getElem? e)
end
def Dr(s:kB):Value:=.agg #[.int .i64 s.fixed,.int .i64 s.bO,.int .i64 s.lower,.int .i64 s.share,.int .i64 s.top]
theorem YB(n m:Int)(w:World):Calls prog 187 #[.int .i64 n,.int .i64 m] w fun e w'=>e=.returned (.bool (bM n m))/\w=w':=by
 by_cases l:0<=n<;>by_cases p:n<=m
 all_goals
  have j:bM n m=(decide (0<=n)&&decide (n<=m)):=by simp[bM]
  have r:=atM j;clear j;go_enter func187,ntmps187;go_wp2;go_ret;exact⟨by rw[r.out];simp[l,p],rfl⟩
theorem VL(s:kB)(w:World)(h:oL s):Calls prog 147 #[Dr s] w fun e w'=>e=.returned (.bool true)/\Below w.heap.size w w':=by have j:bM s.fixed 1000000000=true:=iK.2 ⟨h.f0,h.f1⟩;have l:bM s.bO 1000000000=true:=iK.2 ⟨h.d0,h.d1⟩;have n:bM s.lower s.fixed=true:=iK.2 ⟨h.l0,h.l1⟩;have p:bM s.top 1000000000=true:=iK.2 ⟨h.t0,h.t1⟩;have r:bM s.share 1000000=true:=iK.2 ⟨h.s0,h.s1⟩;clear h;unfold Dr;go_enter func147,ntmps147;go_wp2_with(go_at_call 187;refine(YB _ _ _).mono ?_;rintro e w' ⟨rfl,rfl⟩;(first|rw[j]|rw[l]|rw[n]|rw[p]|rw[r]));go_ret;exact⟨rfl,bC _ _⟩
theorem aah(s:kB)(net j:Int)(w:World)(h:oL s)(z:0<=net)(d0:0<=j)(d1:j<=20):Calls prog 188 #[Dr s,.int .i64 net,.int .i64 j] w fun e w'=>e=.returned (.int .i64 (if net<=1000000000 then 0 else 2))/\Below w.heap.size w w':=by
 have y:bM j 20=true:=iK.2 ⟨d0,d1⟩;have l:=VL s;unfold Dr at l|-;by_cases p:net<=1000000000
 ·have r:bM net 1000000000=true:=iK.2 ⟨z,p⟩;rw[atP p];go_enter func188,ntmps188;go_wp2_with fail;refine(l _ h).mono ?_;rintro e B ⟨rfl,n⟩;have u:=aA (bC w _) n;go_wp2_with(go_at_call 187;refine(YB _ _ _).mono ?_;rintro e w' ⟨rfl,rfl⟩;(first|rw[r]|rw[y]));go_ret;exact⟨rfl,u⟩
 ·have r:bM net 1000000000=false:=Jt.2 (.inr (by omega));rw[atO p];go_enter func188,ntmps188;go_wp2_with fail;refine(l _ h).mono ?_;rintro e B ⟨rfl,n⟩;have u:=aA (bC w _) n;go_wp2_with(go_at_call 187;refine(YB _ _ _).mono ?_;rintro e w' ⟨rfl,rfl⟩;(first|rw[r]|rw[y]));go_ret;exact⟨rfl,u⟩
theorem ak0(s:kB)(net j:Int)(w:World)(h:oL s)(u:0<=net)(y:net<=1000000000)(d0:0<=j)(d1:j<=20):Calls prog 149 #[Dr s,.int .i64 net,.int .i64 j] w fun e w'=>e=.returned (.tuple #[.int .i64 (iH s net j),.int .i64 0])/\Below w.heap.size w w':=by
 obtain⟨_,_,_,M,N⟩:=KH h u y d0 d1;have O:=h.l0;have P:=h.l1;have f1:=h.f1;have J:Hid (iH s net j=min net (s.lower+s.bO*j)):=rfl;have l:=fun w=>aah s net j w h u d0 d1;rw[atP y]at l;have z:=atM l;clear l h;have r:=ah.new w 43 #[.int .i64 s.fixed,.int .i64 s.bO,.int .i64 s.lower,.int .i64 s.share,.int .i64 s.top];have B:=bC w (.cells #[.int .i64 s.fixed,.int .i64 s.bO,.int .i64 s.lower,.int .i64 s.share,.int .i64 s.top] 43);unfold Dr at z|-;go_enter func149,ntmps149;go_upto_region 1 with fail
 generalize w.alloc (Obj.cells _ _)=W at r B|-;obtain⟨C,D,E,F,G⟩:=r.cz5;go_wp2_with fail;refine atV (z.out _) ?_;rintro e Q ⟨rfl,p⟩;have K:=r.aa p;have L:=aA B p;clear r p C D E F G;obtain⟨C,D,E,F,G⟩:=K.cz5;go_wp2
 all_goals go_ret2;refine⟨?_,L⟩;rw[J.out];exact congrArg (fun n:Int=>Ending.returned (.tuple #[.int .i64 n,.int .i64 0])) (by omega)
theorem ak1(s:kB)(net j:Int)(w:World)(h:oL s)(T:0<=net)(U:net<=1000000000)(d0:0<=j)(d1:j<=20):Calls prog 150 #[Dr s,.int .i64 net,.int .i64 j] w fun e w'=>e=.returned (.tuple #[.int .i64 (ny s net j),.int .i64 0])/\Below w.heap.size w w':=by
 obtain⟨⟨p0,p1⟩,⟨r0,r1⟩,_,q0,q1⟩:=KH h T U d0 d1;have f0:=h.f0;have f1:=h.f1;have t0:=h.t0;have t1:=h.t1;have J:=h.s0;have K:=h.s1;have F:Hid (ny s net j=if net<=ng s j then net else ng s j+gW (min net (max s.top (ng s j))-ng s j) s.share 1000000 1 3):=rfl;have PB:s.fixed+s.bO*j=ng s j:=rfl;have n:=fun w=>aah s net j w h T d0 d1;rw[atP U]at n;have L:=atM n;have KD:=atM PB;clear n h;have r:=ah.new w 43 #[.int .i64 s.fixed,.int .i64 s.bO,.int .i64 s.lower,.int .i64 s.share,.int .i64 s.top];have G:=bC w (.cells #[.int .i64 s.fixed,.int .i64 s.bO,.int .i64 s.lower,.int .i64 s.share,.int .i64 s.top] 43);unfold Dr at L|-;generalize ng s j=u at*;generalize V:ny s net j=X at*;have O5:=atM V;clear V;by_cases y:net<=u
 ·have M:Hid (X=net):=by rw[Hid,F.out,atP y]
  clear F;go_enter func150,ntmps150;go_upto_region 1 with fail
  generalize w.alloc (Obj.cells _ _)=W at r G|-;obtain⟨z,B,C,D,E⟩:=r.cz5;go_wp2_with fail;refine atV (L.out _) ?_;rintro e w1 ⟨rfl,l⟩;have N:=r.aa l;have O:=aA G l;clear r l z B C D E;obtain⟨z,B,C,D,E⟩:=N.cz5;go_wp2;go_ret2;refine⟨?_,O⟩;rw[M.out];rfl
 ·have P:∃p,p=min net (max s.top u)-u/\(net<=s.top/\p=net-u\/s.top<net/\u<=s.top/\p=s.top-u\/s.top<u/\p=0):=⟨_,rfl,by omega⟩
  obtain⟨p,Y,Q⟩:=P;have M:Hid (X=u+gW p s.share 1000000 1 3):=by rw[Hid,F.out,atO y,Y]
  have S:0<=gW p s.share 1000000 1 3/\gW p s.share 1000000 1 3<=1000000000:=by have:=acJ p s.share 3 (by omega) (by omega) J K (by decide);omega
  obtain⟨b0,b1⟩:=S;clear F Y;rcases Q with⟨Z,rfl⟩|⟨Z,k2,rfl⟩|⟨Z,rfl⟩
  all_goals
   go_enter func150,ntmps150;go_upto_region 1 with fail
   generalize w.alloc (Obj.cells _ _)=W at r G|-;obtain⟨z,B,C,D,E⟩:=r.cz5;go_wp2_with fail;refine atV (L.out _) ?_;rintro e w1 ⟨rfl,l⟩;have N:=r.aa l;have O:=aA G l;clear r l z B C D E;obtain⟨z,B,C,D,E⟩:=N.cz5;go_wp2_with fail;refine(Zo _ _ _ _ _ _).mono ?_;rintro e w' ⟨rfl,rfl⟩;go_wp2;go_ret2;refine⟨?_,O⟩;rw[M.out];rfl
theorem akT(o:bn)(w:World):Calls prog 189 #[aab o] w fun e w'=>e=.returned (.int .i64 (iZ o))/\Below w.heap.size w w':=by
 have l:Hid (iZ o=if o.amount=0 then o.total else min o.amount o.total):=rfl;unfold aab;by_cases j:o.amount=0
 ·have p:(o.amount==0)=true:=by simp[j]
  go_enter func189,ntmps189;go_wp2;go_ret;exact⟨by rw[l.out,atP j];rfl,bC _ _⟩
 ·have p:(o.amount==0)=false:=by rw[auj];exact j
  go_enter func189,ntmps189;go_wp2
  all_goals go_ret;refine⟨?_,bC _ _⟩;rw[l.out,atO j];exact congrArg (fun n:Int=>Ending.returned (.int .i64 n)) (by omega)
theorem aai(A:Option Addr)(L:Nat)(l:List bn)(w:World)(h:ai mO 5 w w.heap.size A l)(M:Bq l):
  Calls prog 148 #[.slice A l.length L] w fun e w'=>e=.returned (.bool true)/\Below w.heap.size w w':=by
 have hl:=M.len;have Y:=atM M;clear M;go_enter func148,ntmps148;go_wp2
 go_loopw [3] (fun i wr=>∃k:Nat,k<=l.length/\i=.int .i64 k/\Below w.heap.size w wr) (fun i _=>l.length-(intOf i).toNat)
 case atStart=>exact⟨0,by omega,rfl,atS _ _⟩
 case round=>
  obtain⟨k,hk,rfl,B⟩:=hrel;have Z:=B.size;by_cases r:k<l.length
  ·have n:=Y.out.ok _ (atT r);have N:=Fa n.name;have NW:∀W:World,Calls prog 152 #[.string l[k].id] W fun e w'=>e=.returned (.bool true)/\Below W.heap.size W w':=fun W=>by
    have:=BW l[k].id W N;rw[n.name]at this;exact this
   have Uk:=atM NW;have D:∀(x m:Int),0<=x->x<=m->∀W:World,Calls prog 187 #[.int .i64 x,.int .i64 m] W fun e w'=>e=.returned (.bool true)/\W=w':=fun x m h0 h1 W=>by have:=YB x m W;rw[iK.2 ⟨h0,h1⟩]at this;exact this
   have j1:=D l[k].aT 9 n.r0 n.r1;have j2:=D l[k].day 84005 n.d0 n.d1;have j3:=D l[k].amount 1000000000 n.a0 n.a1;have j4:=D l[k].total 1000000000 n.t0 n.t1;clear D NW n;obtain⟨b,off,rfl,hb,C⟩:=(h.aa B).at_ r;have K:=C 0 _ rfl;have O:=C 1 _ rfl;have P:=C 2 _ rfl;have Q:=C 3 _ rfl;have S:=C 4 _ rfl;simp only[atQ]at K;have fL:(k:Int)<(l.length:Int):=(by omega);clear C;rcases k with _|m
   ·have fK:(0:Int)<(l.length:Int):=(by omega);simp only[auu,atQ]at K O P Q S;go_wp2_with fail;have E:(wr.alloc (Obj.cells #[.string l[0].id,.int .i64 l[0].aT,.int .i64 l[0].day,.int .i64 l[0].amount,.int .i64 l[0].total] 67)).heap.size=wr.heap.size+1:=(by simp);have F:Below w.heap.size w (wr.alloc (Obj.cells #[.string l[0].id,.int .i64 l[0].aT,.int .i64 l[0].day,.int .i64 l[0].amount,.int .i64 l[0].total] 67)):=B.alloc Z _;have j:=ah.new wr 67 #[.string l[0].id,.int .i64 l[0].aT,.int .i64 l[0].day,.int .i64 l[0].amount,.int .i64 l[0].total];generalize wr.alloc (Obj.cells _ _)=W at E F j|-;have e0:=Bw.cell (w:=W) (a:=⟨wr.heap.size,0,none⟩) (by show wr.heap.size<W.heap.size;omega) (j.cell 0);have e1:=Bw.cell (w:=W) (a:=⟨wr.heap.size,1,none⟩) (by show wr.heap.size<W.heap.size;omega) (j.cell 1);have e2:=Bw.cell (w:=W) (a:=⟨wr.heap.size,2,none⟩) (by show wr.heap.size<W.heap.size;omega) (j.cell 2);have e3:=Bw.cell (w:=W) (a:=⟨wr.heap.size,3,none⟩) (by show wr.heap.size<W.heap.size;omega) (j.cell 3);have e4:=Bw.cell (w:=W) (a:=⟨wr.heap.size,4,none⟩) (by show wr.heap.size<W.heap.size;omega) (j.cell 4);have T:Hid (w.heap.size<=W.heap.size):=(by show w.heap.size<=W.heap.size;omega);clear E j K O P Q S;refine oG (by kernel_rfl) (by kernel_rfl) ?_
    repeat(first|go_big_quiet_step((first|exact Bw.call _ (Uk.out _)|with_reducible exact Bw.zX _ (j1 _)|with_reducible exact Bw.zX _ (j2 _)|with_reducible exact Bw.zX _ (j3 _)|with_reducible exact Bw.zX _ (j4 _))))
    refine wpQuiet_nil ?_;intro U u;obtain⟨⟨W9,y⟩,p⟩:=u;subst p;have z:Below w.heap.size w U:=F.trans (y.mono T.out);go_wp2;go_roundw
    case rel=>exact⟨0+1,by omega,by go_num,z⟩
    case measure=>simp[intOf];omega
   ·have mX:m<l.length:=(by omega);obtain⟨b2,Ep,G,ab,J⟩:=(h.aa B).at_ mX;injection G with G
    injection G with G gv
    subst G gv;have V:=J 0 _ rfl;simp only[atQ]at V;clear J;have CS:=auz.1 Y.out.jr m (m+1) mX r (by omega);have Js:b<wr.heap.size:=hb;have qh:(m:Int)<(l.length:Int):=(by omega);have Nf:(m:Int)+1<(l.length:Int):=(by omega);have hp:decide ((0:Int)<(m:Int)+1)=true:=(by rw[auc];omega);go_wp2_with fail;have E:(wr.alloc (Obj.cells #[.string l[m+1].id,.int .i64 l[m+1].aT,.int .i64 l[m+1].day,.int .i64 l[m+1].amount,.int .i64 l[m+1].total] 67)).heap.size=wr.heap.size+1:=(by simp);have F:Below w.heap.size w (wr.alloc (Obj.cells #[.string l[m+1].id,.int .i64 l[m+1].aT,.int .i64 l[m+1].day,.int .i64 l[m+1].amount,.int .i64 l[m+1].total] 67)):=B.alloc Z _;have j:=ah.new wr 67 #[.string l[m+1].id,.int .i64 l[m+1].aT,.int .i64 l[m+1].day,.int .i64 l[m+1].amount,.int .i64 l[m+1].total];have X:=(World.cell?_alloc_past (w:=wr) (Obj.cells #[.string l[m+1].id,.int .i64 l[m+1].aT,.int .i64 l[m+1].day,.int .i64 l[m+1].amount,.int .i64 l[m+1].total] 67) b (off+m*5) Js).trans V;generalize wr.alloc (Obj.cells _ _)=W at E F j X|-;have e0:=Bw.cell (w:=W) (a:=⟨wr.heap.size,0,none⟩) (by show wr.heap.size<W.heap.size;omega) (j.cell 0);have e1:=Bw.cell (w:=W) (a:=⟨wr.heap.size,1,none⟩) (by show wr.heap.size<W.heap.size;omega) (j.cell 1);have e2:=Bw.cell (w:=W) (a:=⟨wr.heap.size,2,none⟩) (by show wr.heap.size<W.heap.size;omega) (j.cell 2);have e3:=Bw.cell (w:=W) (a:=⟨wr.heap.size,3,none⟩) (by show wr.heap.size<W.heap.size;omega) (j.cell 3);have e4:=Bw.cell (w:=W) (a:=⟨wr.heap.size,4,none⟩) (by show wr.heap.size<W.heap.size;omega) (j.cell 4);have ad:=Bw.cell (w:=W) (a:=⟨b,off+m*5,none⟩) (by show b<W.heap.size;omega) X;clear X V;have T:Hid (w.heap.size<=W.heap.size):=(by show w.heap.size<=W.heap.size;omega);clear E j K O P Q S;refine oG (by kernel_rfl) (by kernel_rfl) ?_
    repeat(first|go_big_quiet_step((first|exact Bw.call _ (Uk.out _)|with_reducible exact Bw.zX _ (j1 _)|with_reducible exact Bw.zX _ (j2 _)|with_reducible exact Bw.zX _ (j3 _)|with_reducible exact Bw.zX _ (j4 _))))
    refine wpQuiet_nil ?_;intro U u;obtain⟨⟨W9,y⟩,p⟩:=u;subst p;have z:Below w.heap.size w U:=F.trans (y.mono T.out);go_wp2;go_roundw
    case rel=>exact⟨m+1+1,by omega,by go_num,z⟩
    case measure=>simp[intOf];omega
  ·go_wp2;go_ret;exact⟨rfl,B⟩
