/- Conditions: as stated. -/
import Derived.Test.YtlhkojcmcmkmaaaGreatKP32m
import Derived.Test.YtlhkojcmcmkmaaaGreatKGenC
namespace Go.Proofs.YtlhkojcmcmkmaaaGreat
open Go.Proofs.Tryz
open Go.RowKit
theorem aiq(l:List Elem)(c:List UInt8)(B:Int)(z:0<=B)(h:∀x∈l,-B<=x.amount/\x.amount<=B):-(l.length*B:Int)<=cC l c/\cC l c<=l.length*B:=by
 induction l with
 |nil=>simp[cC]
 |cons a l j=>
  have D:=j (fun x p=>h x (by simp[p]));have E:=h a (by simp);simp only[cC,ars];have u:((l.length+1:Nat):Int)*B=(l.length:Int)*B+B:=by rw[asL,ar2];omega
  rw[u];split<;>omega
theorem air(p:ByteArray->Bool)(l:List Elem)(B:Int)(D:0<=B)(h:∀x∈l,-B<=x.amount/\x.amount<=B):-(l.length*B:Int)<=gi p l/\gi p l<=l.length*B:=by
 induction l with
 |nil=>simp[gi]
 |cons a l j=>
  have E:=j (fun x u=>h x (by simp[u]));have F:=h a (by simp);simp only[gi,ars];have z:((l.length+1:Nat):Int)*B=(l.length:Int)*B+B:=by rw[asL,ar2];omega
  rw[z];split<;>omega
theorem Ui{n:Int}(j:-1000000000<=n)(l:n<=1000000000):cx n=true:=by simp[cx,j,l]
theorem ais{l:List Elem}(I:l.length<=128)(u:∀x∈l,bI x.code=true)(z:∀x∈l,cx x.amount=true)(B:∀c,cx (cC l c)=true):dP l=0:=by
 have D:l.any (fun x=>!bI x.code)=false:=by rw[arR];intro x p;simp[u x p]
 have E:l.any (fun x=>!cx x.amount)=false:=by rw[arR];intro x p;simp[z x p]
 have F:(bB l).any (fun x=>!cx x.amount)=false:=by
  cases G:(bB l).any (fun x=>!cx x.amount)
  ·rfl
  ·obtain⟨c,_,j⟩:=(Yh l).1 G;rw[B c]at j;cases j
 simp only[dP,aq8 (show¬128<l.length by omega),D,E,F,ar1,arK]
theorem ait{j:List cI}{y:cI}(hy:y∈j):(ee j y.code).isNone=false:=by
 cases l:ee j y.code with
 |some z=>rfl
 |none=>unfold ee at l;rw[List.find?_eq_none]at l;exact absurd (by simp[Il]) (l y hy)
def pY:Uj:=⟨0,[],[],[]⟩
structure aiu(t:zS)(k:Nat)(y:Bv):Prop where
 fe:y.ay=k
 len:y.aF.length=k
 ins:∀x∈y.aF,0<=x/\x<=3000000
 inc:0<=y.aw/\y.aw<=3000000*k
 tk:y.taken=[]
 w0:k=0->y.aO=0
 w1:0<k->y.aO=mV t 4 k y.aw
theorem ack:NI pY:=⟨by decide,by decide,by decide+kernel,⟨by decide,fun o l=>(by cases l),List.Pairwise.nil,rfl⟩,by decide,fun e j=>(by cases j),fun e j=>(by cases j),fun e j=>(by cases j)⟩
theorem acm:eJ []=true:=by decide+kernel
theorem acn(b:Bool)(base j:Int)(y:List Elem):il [] b base j y=[]:=by
 unfold il;split
 ·rfl
 ·rfl
theorem aco(s:cm)(j:List Int)(x:Int):gw s j.length [(j,x)]=jB s (j++[x]):=by
 have key:∀l:List Int,Dz (List.replicate l.length 0) l=l:=by
  intro l
  induction l with
  |nil=>rfl
  |cons a l p=>show(0+a)::Dz (List.replicate l.length 0) l=a::l;rw[p,Int.zero_add]
 unfold gw o6;simp only[asq,List.foldl_nil];have:=key (j++[x]);rw[arl,asF]at this;rw[this]
theorem aiv{s:cm}{l:List Int}(j:mA s)(p:l≠[])(h:∀x∈l,0<=x)(u:l.length<=54)(z:aC l<=900000000):fG (jB s l)=false:=by
 obtain⟨B,G⟩:=Hx j h u;have D:∀x∈l.dropLast,0<=x:=fun x E=>h x ((asS l).subset E);obtain⟨d0,d1⟩:=Hx j D (by simp;omega);obtain⟨I,_⟩:=acp j h p;have J:cP s l<=900000000:=by have:=XT (s:=s) h;unfold cP;omega
 obtain⟨_,_,f1,f2,f3,f4,f5⟩:=Hy j B (by omega:cP s l<=500000000000);obtain⟨_,_,F,K,L,N,O⟩:=Hy j d0 (by omega:cP s l.dropLast<=500000000000);simp only[fG,jB,Ic,f1,F,Bool.or_eq_false_iff,ar4];omega
theorem aiw{l:List cI}{j:List Elem}(h:dQ l j j=0):dQ l j (bB j)=0:=by rw[dQ,acq,Uk];exact h
structure Yi(r:pF)(k:Nat)(y:Bv)(e:List Elem):Prop where
 ro:CC r
 m:r.je.method=3
 ws:pG 4 r.cN
 ge:GenE r.cN e
 el:e.length<=3
 yi:aiu r.je k y
 k4:k<4
section
variable {r:pF}{k:Nat}{y:Bv}{e:List Elem}
theorem Yi.before(I:aY)(h:I.p=pY):I.before=[]:=by unfold aY.before;rw[h];exact acn _ _ _ _
end
section
variable {r:pF}{n:Int}
end
section
variable {wr w w':World}{b M:Nat}{el:Option (Option Addr×List Elem)}{o:Option (Option Addr×List dE×Option Addr×List Int)}{gs gn:Option Nat}{cs cn:Array Value}
end
theorem acr{P:Program}{ops:Array Oper}{C:World->Prop}{Q:Act->Prop}{o:Oper}{rest:List Oper}{a:Act}(ty:TypeId)(x:Operand)(g:Nat){t:TypeId}{cs:Array Value}{d:TypeDesc}(j:o.guard=none)(l:o.op=.load ty x)(p:a.eval x=.pointer (some ⟨g,0,none⟩))(u:∀w,C w->ah w g t cs)
  (hu:P.underlying ty=some d) (hd:d.isRow=true) (hi:(P.info? ty).map (·.size)=some cs.size) (h:wpQuiet P ops C Q rest (a.put o.dst (.agg cs))):wpQuiet P ops C Q (o::rest) a:=by
 unfold wpQuiet;rw[aq9 (by simp[Region.wanted,j])];refine⟨.agg cs,fun w z=>?_,h⟩;have hr:=run_loadVar_mid w g 0 ty cs.toList d (u w z).rangeAt hu hd (by simpa using hi);rw[Array.toArray_toList]at hr;unfold Oper.quietAt execOp;simp only[l,p,Instr.loadAt,Instr.sureAddr,Sem.run_bind,asz,asC,hr];exact⟨rfl,rfl⟩
theorem acs{P:Program}{w:World}{g:Nat}{t ty:TypeId}{l vs:Array Value}{o:Oper}{b:Act}{x d:Operand}(p:ah w g t l)(j:vs.size=l.size)(u:(P.info? ty).map (·.size)=some vs.size)(z:vs.toList.all (·.oneCell')=true)
  (B:o.op=.store ty d x) (hd:b.eval d=.pointer (some ⟨g,0,none⟩)) (D:b.eval x=.agg vs):(execOp b.eval o).run P w=.ok .skip (w.setCells g 0 vs.toList):=by
 unfold execOp;simp only[B,hd,D,Instr.storeAt,Instr.sureAddr,Sem.run_bind,asz,asC,run_storeVar_mid w g 0 ty vs (by have:=p.there;rwa [<-j]at this) u (by simpa using z)]
section
variable {wr w w':World}{b M:Nat}{r:pF}{k:Nat}{y:Bv}{gs gn:Option Nat}{v:Value}{S Y:Array Value}
end
def pQ:iL:=⟨0,none,0,[],none,0,[],none,0,[]⟩
def oK(y:dR):Array Value:=#[.int .i64 y.ay,.int .i64 y.aw,.int .i64 y.aO,.slice y.Ai y.ins.length y.ci,.slice y.At y.taken.length y.ct]
section
variable {m:dN}{w w':World}{lo hi:Nat}
end
section
variable {m:dN}{ym:dR}{b g gy M k:Nat}{wr w:World}{gs gn:Option Nat}{v:Value}
end
section
variable {P:Program}{ops:Array Oper}{md:Region.Mode}{C:World->Prop}{s:Nat}
end
