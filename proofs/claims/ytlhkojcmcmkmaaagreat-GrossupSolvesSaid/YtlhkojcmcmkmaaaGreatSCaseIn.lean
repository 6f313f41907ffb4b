/- Conditions: as stated. -/
import Derived.Test.YtlhkojcmcmkmaaaGreatSP32m
import Derived.Test.YtlhkojcmcmkmaaaGreatSGenC
namespace Go.Proofs.YtlhkojcmcmkmaaaGreat
open Go.Proofs.Tryz
open Go.RowKit
theorem aiE(l:List Elem)(c:List UInt8)(B:Int)(z:0<=B)(h:∀x∈l,-B<=x.amount/\x.amount<=B):-(l.length*B:Int)<=cE l c/\cE l c<=l.length*B:=by
 induction l with
 |nil=>simp[cE]
 |cons a l j=>
  have D:=j (fun x p=>h x (by simp[p]));have E:=h a (by simp);simp only[cE,arZ];have u:((l.length+1:Nat):Int)*B=(l.length:Int)*B+B:=by rw[atj,asD];omega
  rw[u];split<;>omega
theorem aiF(p:ByteArray->Bool)(l:List Elem)(B:Int)(D:0<=B)(h:∀x∈l,-B<=x.amount/\x.amount<=B):-(l.length*B:Int)<=gC p l/\gC p l<=l.length*B:=by
 induction l with
 |nil=>simp[gC]
 |cons a l j=>
  have E:=j (fun x u=>h x (by simp[u]));have F:=h a (by simp);simp only[gC,arZ];have z:((l.length+1:Nat):Int)*B=(l.length:Int)*B+B:=by rw[atj,asD];omega
  rw[z];split<;>omega
theorem UL{n:Int}(j:-1000000000<=n)(l:n<=1000000000):cy n=true:=by simp[cy,j,l]
theorem aiG{l:List Elem}(I:l.length<=128)(u:∀x∈l,bK x.code=true)(z:∀x∈l,cy x.amount=true)(B:∀c,cy (cE l c)=true):dU l=0:=by
 have D:l.any (fun x=>!bK x.code)=false:=by rw[asr];intro x p;simp[u x p]
 have E:l.any (fun x=>!cy x.amount)=false:=by rw[asr];intro x p;simp[z x p]
 have F:(bF l).any (fun x=>!cy x.amount)=false:=by
  cases G:(bF l).any (fun x=>!cy x.amount)
  ·rfl
  ·obtain⟨c,_,j⟩:=(YO l).1 G;rw[B c]at j;cases j
 simp only[dU,arJ (show¬128<l.length by omega),D,E,F,asC,asj]
theorem aiH{j:List cO}{y:cO}(hy:y∈j):(dJ j y.code).isNone=false:=by
 cases l:dJ j y.code with
 |some z=>rfl
 |none=>unfold dJ at l;rw[List.find?_eq_none]at l;exact absurd (by simp[IP]) (l y hy)
def pY:UM:=⟨0,[],[],[]⟩
structure aiI(t:AQ)(k:Nat)(y:AR):Prop where
 fg:y.az=k
 len:y.aM.length=k
 ins:∀x∈y.aM,0<=x/\x<=3000000
 inc:0<=y.ax/\y.ax<=3000000*k
 tk:y.taken=[]
 w0:k=0->y.aN=0
 w1:0<k->y.aN=nD t 4 k y.ax
theorem aiJ:N9 pY:=⟨by decide,by decide,by decide+kernel,⟨by decide,fun o l=>(by cases l),List.Pairwise.nil,rfl⟩,by decide,fun e j=>(by cases j),fun e j=>(by cases j),fun e j=>(by cases j)⟩
theorem aiK:eP []=true:=by decide+kernel
theorem acE(b:Bool)(base j:Int)(y:List Elem):iI [] b base j y=[]:=by
 unfold iI;split
 ·rfl
 ·rfl
theorem acF(s:bR)(j:List Int)(x:Int):gI s j.length [(j,x)]=jO s (j++[x]):=by
 have key:∀l:List Int,Ec (List.replicate l.length 0) l=l:=by
  intro l
  induction l with
  |nil=>rfl
  |cons a l p=>show(0+a)::Ec (List.replicate l.length 0) l=a::l;rw[p,Int.zero_add]
 unfold gI pE;simp only[asR,List.foldl_nil];have:=key (j++[x]);rw[arV,atd]at this;rw[this]
theorem aiL{s:bR}{l:List Int}(j:mS s)(p:l≠[])(h:∀x∈l,0<=x)(u:l.length<=54)(z:aL l<=900000000):fO (jO s l)=false:=by
 obtain⟨B,G⟩:=IC j h u;have D:∀x∈l.dropLast,0<=x:=fun x E=>h x ((atq l).subset E);obtain⟨d0,d1⟩:=IC j D (by simp;omega);obtain⟨I,_⟩:=acG j h p;have J:cQ s l<=900000000:=by have:=Yq (s:=s) h;unfold cQ;omega
 obtain⟨_,_,f1,f2,f3,f4,f5⟩:=ID j B (by omega:cQ s l<=500000000000);obtain⟨_,_,F,K,L,N,O⟩:=ID j d0 (by omega:cQ s l.dropLast<=500000000000);simp only[fO,jO,IH,f1,F,Bool.or_eq_false_iff,asF];omega
theorem aiM{l:List cO}{j:List Elem}(h:dV l j j=0):dV l j (bF j)=0:=by rw[dV,acH,UN];exact h
structure YP(r:pH)(k:Nat)(y:AR)(e:List Elem):Prop where
 ro:AU r
 m:r.fT.method=3
 ws:pI 4 r.cB
 ge:GenE r.cB e
 el:e.length<=3
 yi:aiI r.fT k y
 k4:k<4
section
variable {r:pH}{k:Nat}{y:AR}{e:List Elem}
theorem YP.before(I:aY)(h:I.p=pY):I.before=[]:=by unfold aY.before;rw[h];exact acE _ _ _ _
end
section
variable {r:pH}{n:Int}
end
section
variable {wr w w':World}{b M:Nat}{el:Option (Option Addr×List Elem)}{o:Option (Option Addr×List dH×Option Addr×List Int)}{gs gn:Option Nat}{cs cn:Array Value}
end
theorem Oa{P:Program}{ops:Array Oper}{C:World->Prop}{Q:Act->Prop}{o:Oper}{rest:List Oper}{a:Act}(ty:TypeId)(x:Operand)(g:Nat){t:TypeId}{cs:Array Value}{d:TypeDesc}(j:o.guard=none)(l:o.op=.load ty x)(p:a.eval x=.pointer (some ⟨g,0,none⟩))(u:∀w,C w->ah w g t cs)
  (hu:P.underlying ty=some d) (hd:d.isRow=true) (hi:(P.info? ty).map (·.size)=some cs.size) (h:wpQuiet P ops C Q rest (a.put o.dst (.agg cs))):wpQuiet P ops C Q (o::rest) a:=by
 unfold wpQuiet;rw[arK (by simp[Region.wanted,j])];refine⟨.agg cs,fun w z=>?_,h⟩;have hr:=run_loadVar_mid w g 0 ty cs.toList d (u w z).rangeAt hu hd (by simpa using hi);rw[Array.toArray_toList]at hr;unfold Oper.quietAt execOp;simp only[l,p,Instr.loadAt,Instr.sureAddr,Sem.run_bind,as6,ata,hr];exact⟨rfl,rfl⟩
theorem acI{P:Program}{w:World}{g:Nat}{t ty:TypeId}{l vs:Array Value}{o:Oper}{b:Act}{x d:Operand}(p:ah w g t l)(j:vs.size=l.size)(u:(P.info? ty).map (·.size)=some vs.size)(z:vs.toList.all (·.oneCell')=true)
  (B:o.op=.store ty d x) (hd:b.eval d=.pointer (some ⟨g,0,none⟩)) (D:b.eval x=.agg vs):(execOp b.eval o).run P w=.ok .skip (w.setCells g 0 vs.toList):=by
 unfold execOp;simp only[B,hd,D,Instr.storeAt,Instr.sureAddr,Sem.run_bind,as6,ata,run_storeVar_mid w g 0 ty vs (by have:=p.there;rwa [<-j]at this) u (by simpa using z)]
section
variable {wr w w':World}{b M:Nat}{r:pH}{k:Nat}{y:AR}{gs gn:Option Nat}{v:Value}{S Y:Array Value}
end
def pQ:jw:=⟨0,none,0,[],none,0,[],none,0,[]⟩
def lD(y:dD):Array Value:=#[.int .i64 y.az,.int .i64 y.ax,.int .i64 y.aN,.slice y.Ai y.ins.length y.ci,.slice y.At y.taken.length y.ct]
section
variable {m:cY}{w w':World}{lo hi:Nat}
end
section
variable {m:cY}{ym:dD}{b g gy M k:Nat}{wr w:World}{gs gn:Option Nat}{v:Value}
end
section
variable {P:Program}{ops:Array Oper}{md:Region.Mode}{C:World->Prop}{s:Nat}
end
