/- Conditions: as stated. -/
import Derived.Test.YtlhkojcmcmkmaaaGreatCShelf
import Derived.Test.YtlhkojcmcmkmaaaGreatCP31
import Derived.Test.YtlhkojcmcmkmaaaGreatCStab
set_option maxRecDepth 100000
set_option maxHeartbeats 2000000
namespace Go.Proofs.YtlhkojcmcmkmaaaGreat
open Go.Proofs.Tryz
open Go.RowKit Go.Sort Go.Shelf
theorem PY(x:Int):∀u∈encI x,u.oneCell'=true:=by intro u hu;simp[encI]at hu;subst hu;rfl
theorem ab7(A:Option Addr)(l:Nat)(j:List Int)(w:World)(h:ai encI 1 w w.heap.size A j)(D:j.length<=1000000):
  Calls prog 112 #[.slice A j.length l] w fun e w'=>∃v,e=.returned v/\Own encI 1 3 w' w.heap.size v j/\Below w.heap.size w w':=by
 rcases A with _|a
 ·have n:j=[]:=by
   rcases j with _|⟨y,ys⟩
   ·rfl
   ·obtain⟨b,off,p,_⟩:=h (by simp);cases p
  subst n;have r:∀w:World,(binOp .eql 34 (.slice none 0 l) (.slice none 0 0)).run prog w=.ok (.bool true) w:=fun _=>rfl;go_enter func112,ntmps112;go_wp2;go_ret;exact⟨_,rfl,Own.cC _ _,atS _ _⟩
 ·have u:=Own.lit iX w ([]:List Int) #[] 3 rfl (by simp) (atN _);have hS:=h.OZ (.cells #[] 3);have r:∀w:World,(binOp .eql 34 (.slice (some a) j.length l) (.slice none 0 0)).run prog w=.ok (.bool false) w:=fun _=>rfl;go_enter func112,ntmps112;go_wp2_with(at_builtin;(refine Jc (ys:=j) _ _ 34 _ 8 _ B2 underlying34 u hS iX (by omega) rfl PY (by simp;omega) (by omega) (by simp) (by rfl) (by rfl) (by rfl) (by rfl) (by rfl) ?_);intro z E B C);go_ret;exact⟨z,rfl,by simpa using B,Z7 C⟩
def Ul(l:List bn){m:Nat}(a b:Fin (m+1)):Int:=FC (kG (dV l a.val).1 (dV l b.val).1) (kG (dV l a.val).2 (dV l b.val).2)
theorem Um(l:List bn){m:Nat}(a b:Fin (m+1)):ltOf (Ul l) a b=decide (dR (dV l a.val) (dV l b.val)):=by
 rw[ltOf,decide_eq_decide];unfold Ul FC kG dR;generalize (dV l a.val).1=x;generalize (dV l b.val).1=y;generalize (dV l a.val).2=u;generalize (dV l b.val).2=v
 (repeat' split)<;>omega
theorem apM(l:List bn){m:Nat}:SWO (ltOf (Ul (m:=m) l)) where
 irrefl x:=by rw[Um,auA];exact LP _
 trans x y z e j:=by rw[Um,auc]at*;exact Qb e j
 ntrans x y z e j:=by rw[Um,auA]at*;unfold dR at*;omega
theorem apN(l:List bn){m:Nat}{j:List (Fin (m+1))}(h:j.Pairwise (fun a b=>kW (ltOf (Ul l)) (·.val) a b=true)):(j.map (·.val)).Pairwise (NZ l):=by
 rw[au3];refine h.imp fun{a b} hab=>?_;unfold kW at hab;rw[Um,Um]at hab;simp only[avn,aub,Bool.not_eq_true',auc,auA]at hab;by_cases e:dR (dV l a.val) (dV l b.val)
 ·exact .inl e
 ·rcases hab with hab|hab
  ·exact absurd hab e
  ·exact .inr ⟨apy _ _ e hab.1,hab.2⟩
theorem XV{l:List bn}{w:World}{B:Nat}{A:Option Addr}(h:ai mO 5 w B A l){i:Nat}(hi:i<l.length):∃b off,A=some ⟨b,off,none⟩/\b<B/\w.cell? ⟨b,off+i*5+1,none⟩=some (.int .i64 (dV l i).1)/\w.cell? ⟨b,off+i*5+2,none⟩=some (.int .i64 (dV l i).2):=by
 obtain⟨b,off,n,p,j⟩:=h.at_ hi;have e:l.getD i gj=l[i]:=by rw[atZ,atW hi];rfl
 refine⟨b,off,n,p,?_,?_⟩
 ·rw[dV,e];exact j 1 _ rfl
 ·rw[dV,e];exact j 2 _ rfl
theorem apO(D n r:Nat)(A:Option Addr)(l:List bn)(i j:Nat)(w:World)(hi:i<n)(R:j<n)(I:l.length=n)(E:qf D (.slice A n r) w){B:Nat}(u:ai mO 5 w B A l):
  Calls prog 208 #[.int .i64 (i:Int),.int .i64 (j:Int),.pointer (some ⟨D,0,none⟩)] w fun e w'=>e=.returned (.int .i64 (FC (kG (dV l i).1 (dV l j).1) (kG (dV l i).2 (dV l j).2)))/\∃q y,w'=grow (w.drewN q) y:=by
 obtain⟨b,off,F,_,S,T⟩:=XV u (i:=i) (by omega);obtain⟨U,G,p,_,d1,d2⟩:=XV u (i:=j) (by omega);rw[F]at p;injection p with p
 injection p with J K
 subst J K F;have V:=E.c;have L:(i:Int)<(n:Int):=by omega
 have M:(j:Int)<(n:Int):=by omega
 clear E u I;generalize (dV l i).1=N at*;generalize (dV l i).2=O at*;generalize (dV l j).1=P at*;generalize (dV l j).2=Q at*;go_enter func208,ntmps208;go_wp2;refine wp_region_still_tail 22 (by kernel_rfl) (by kernel_rfl) ?_;simp only[avg,List.take_zero,avw,List.drop_zero];change wpStill _ _ (World.drew _) (fun a'=>wpList _ _ _ _ a' (World.drew _)) _ _
 iterate 10 still_step
 still_call ((Ni _ _ _).mono fun e w' ⟨z,C⟩=>⟨z,C.symm⟩)
 iterate 10 still_step
 still_call ((Ni _ _ _).mono fun e w' ⟨z,C⟩=>⟨z,C.symm⟩)
 refine wpStill_nil ?_;go_wp2_with fail;refine(aaS (kG N P) (kG O Q) _ _ _ _ (by go_simp) (by go_simp)).mono ?_;rintro e X ⟨rfl,rfl⟩;go_wp2;go_ret;exact⟨rfl,1,_,by rw[alloc_eq_grow];rfl⟩
end Go.Proofs.YtlhkojcmcmkmaaaGreat
namespace Go.Proofs
open Go.Shelf
def Tryz.apP:Go.Shelf.Ren:=⟨fun|6=>111|15=>173|14=>172|28=>219|29=>220|20=>211|21=>212|22=>213|23=>214|24=>215|25=>216|26=>217|27=>218|46=>239|47=>240|48=>241|49=>242|50=>243|57=>262|n=>n,fun|22=>25|24=>30|25=>97|3=>3|39=>192|0=>0|53=>225|55=>227|4=>4|46=>218|45=>217|50=>222|5=>5|9=>9|66=>239|70=>209|76=>255|77=>256|n=>n,fun|n=>n⟩
theorem Tryz.ahE:Go.Proofs.SlLaysF0.n6 prog Tryz.apP:={
 mixed:=by kernel_rfl
 f6:=⟨Tryz.f111.name,by decide,Tryz.func111.trans (congrArg some (by kernel_rfl))⟩
 f14:=⟨Tryz.f172.name,by decide,Tryz.func172.trans (congrArg some (by kernel_rfl))⟩
 f15:=Tryz.func173.trans (congrArg some (by kernel_rfl))
 f20:=⟨Tryz.f211.name,by decide,Tryz.func211.trans (congrArg some (by kernel_rfl))⟩
 f21:=⟨Tryz.f212.name,by decide,Tryz.func212.trans (congrArg some (by kernel_rfl))⟩
 f22:=⟨Tryz.f213.name,by decide,Tryz.func213.trans (congrArg some (by kernel_rfl))⟩
 f23:=⟨Tryz.f214.name,by decide,Tryz.func214.trans (congrArg some (by kernel_rfl))⟩
 f24:=⟨Tryz.f215.name,by decide,Tryz.func215.trans (congrArg some (by kernel_rfl))⟩
 f25:=⟨Tryz.f216.name,by decide,Tryz.func216.trans (congrArg some (by kernel_rfl))⟩
 f26:=⟨Tryz.f217.name,by decide,Tryz.func217.trans (congrArg some (by kernel_rfl))⟩
 f27:=⟨Tryz.f218.name,by decide,Tryz.func218.trans (congrArg some (by kernel_rfl))⟩
 f28:=Tryz.func219.trans (congrArg some (by kernel_rfl))
 f29:=Tryz.func220.trans (congrArg some (by kernel_rfl))
 f46:=⟨Tryz.f239.name,by decide,Tryz.func239.trans (congrArg some (by kernel_rfl))⟩
 f47:=Tryz.func240.trans (congrArg some (by kernel_rfl))
 f48:=Tryz.func241.trans (congrArg some (by kernel_rfl))
 f49:=⟨Tryz.f242.name,by decide,Tryz.func242.trans (congrArg some (by kernel_rfl))⟩
 f50:=⟨Tryz.f243.name,by decide,Tryz.func243.trans (congrArg some (by kernel_rfl))⟩
 f57:=⟨Tryz.f262.name,by decide,Tryz.func262.trans (congrArg some (by kernel_rfl))⟩
 t0:=underlying0
 a0:=Tryz.isAgg0
 z0:=Tryz.sizeOf0
 v0:=Tryz.zeroValue0
 t3:=underlying3
 a3:=Tryz.isAgg3
 z3:=Tryz.sizeOf3
 v3:=Tryz.zeroValue3
 t4:=underlying4
 a4:=Tryz.isAgg4
 z4:=Tryz.sizeOf4
 v4:=Tryz.zeroValue4
 t5:=underlying5
 a5:=Tryz.isAgg5
 z5:=Tryz.sizeOf5
 v5:=Tryz.zeroValue5
 t9:=underlying9
 a9:=Tryz.isAgg9
 z9:=Tryz.sizeOf9
 v9:=Tryz.zeroValue9
 t22:=underlying25
 a22:=Tryz.isAgg25
 z22:=Tryz.sizeOf25
 v22:=Tryz.zeroValue25
 t25:=underlying97
 a25:=Tryz.isAgg97
 z25:=Tryz.sizeOf97
 v25:=Tryz.zeroValue97
 t39:=underlying192
 a39:=Tryz.isAgg192
 z39:=Tryz.sizeOf192
 v39:=Tryz.zeroValue192
 t45:=underlying217
 a45:=Tryz.isAgg217
 z45:=Tryz.sizeOf217
 v45:=Tryz.zeroValue217
 t46:=underlying218
 a46:=Tryz.isAgg218
 z46:=Tryz.sizeOf218
 v46:=Tryz.zeroValue218
 t50:=underlying222
 a50:=Tryz.isAgg222
 z50:=Tryz.sizeOf222
 v50:=Tryz.zeroValue222
 t53:=underlying225
 a53:=Tryz.isAgg225
 z53:=Tryz.sizeOf225
 v53:=Tryz.zeroValue225
 t55:=underlying227
 a55:=Tryz.isAgg227
 z55:=Tryz.sizeOf227
 v55:=Tryz.zeroValue227
 t66:=underlying239
 a66:=Tryz.isAgg239
 z66:=Tryz.sizeOf239
 v66:=Tryz.zeroValue239
 t70:=underlying209
 a70:=Tryz.isAgg209
 z70:=Tryz.sizeOf209
 v70:=Tryz.zeroValue209
 t76:=underlying255
 a76:=Tryz.isAgg255
 z76:=Tryz.sizeOf255
 v76:=Tryz.zeroValue255
 t77:=underlying256
 a77:=Tryz.isAgg256
 z77:=Tryz.sizeOf256
 v77:=Tryz.zeroValue256}
end Go.Proofs
namespace Go.Proofs.YtlhkojcmcmkmaaaGreat
open Go.Proofs.Tryz
open Go.RowKit Go.Sort Go.Shelf
def Fb(x y:cH):Int:=FC (kG x.kind y.kind) (Dk x.code y.code)
instance:Inhabited cH:=⟨⟨0,⟨#[]⟩,0⟩⟩
theorem adD(x y:cH)(W:World):Calls prog 47 #[.agg #[.int .i64 x.kind,.string x.code,.int .i64 x.amount],.agg #[.int .i64 y.kind,.string y.code,.int .i64 y.amount]] W fun e w'=>e=.returned (.int .i64 (Fb x y))/\∃q j,w'=grow (W.drewN q) j:=by
 go_enter func47,ntmps47;go_wp2;refine wp_region_still_tail 10 (by kernel_rfl) (by kernel_rfl) ?_;simp only[avg,List.take_zero,avw,List.drop_zero];change wpStill _ _ (World.drew _) (fun a'=>wpList _ _ _ _ a' (World.drew _)) _ _
 iterate 4 still_step
 still_call ((Ni _ _ _).mono fun e w' ⟨l,n⟩=>⟨l,n.symm⟩)
 iterate 4 still_step
 still_call ((VA _ _ _).mono fun e w' ⟨l,n⟩=>⟨l,n.symm⟩)
 refine wpStill_nil ?_;go_wp2_with fail;refine(aaS (kG x.kind y.kind) (Dk x.code y.code) _ _ _ _ (by go_simp) (by go_simp)).mono ?_;rintro e p ⟨rfl,rfl⟩;go_wp2;go_ret;exact⟨rfl,1,_,by rw[alloc_eq_grow,alloc_eq_grow,alloc_eq_grow,grow_grow,grow_grow];rfl⟩
theorem apQ(a b:ByteArray):decide (Dk a b<0)=Op.bytesLess a.toList b.toList:=by
 unfold Dk;split
 ·rename_i h;simp[h]
 ·rename_i h;have e:Op.bytesLess a.toList b.toList=false:=by simpa using h
  split<;>simp[e]
theorem Rx(x y:cH):ltOf Fb x y=Dh x y:=by
 rw[apR,<-apQ];unfold ltOf Fb FC kG;rcases avp x.kind y.kind with h|h|h
 ·simp[h]
 ·simp[h]
 ·have e:¬x.kind<y.kind:=by omega
  have j:¬x.kind=y.kind:=by omega
  simp[h,e,j]
theorem Rec.ntrans{n j:Type}{R:Rec n j}(L:R.Law)(a b c:j)(p:R.lt a b=false)(e:R.lt b c=false):R.lt a c=false:=by
 cases h:R.lt a c
 ·rfl
 ·cases l:R.lt b a
  ·have:=L.total _ _ p l;subst this;rw[h]at e;cases e
  ·rw[L.trans _ _ _ l h]at e;cases e
theorem apS:SWO (ltOf Fb) where
 irrefl x:=by rw[Rx];exact TI.irrefl _
 trans x y z e j:=by rw[Rx]at*;exact TI.trans _ _ _ e j
 ntrans x y z e j:=by rw[Rx]at*;exact Rec.ntrans TI _ _ _ e j
theorem apT(w:World)(j off n:Nat)(d:Array cH)(os:Array Obj):w.grownBy (sortWorldK fV 3 w j off n d os) (some j):=by
 refine⟨rfl,rfl,rfl,size_sortWorldK_c fV 3 w j off n d os,fun i hi l=>?_⟩;have p:j≠i:=fun e=>l (by rw[e]);have r:(putRowK fV 3 (Sort.ahead w n) j off d).heap.size=w.heap.size:=by simp[putRowK,putRow,mapBlock,Sort.ahead]
 show((putRowK fV 3 (Sort.ahead w n) j off d).heap++os)[i]?=w.heap[i]?;rw[avA (by omega)];show(w.heap.modify j _)[i]?=_;rw[auU,atO p]
theorem apU(A:Option Addr)(r base:Nat)(l:List cH)(w:World)(E:Own fV 3 30 w base (.slice A l.length r) l)(S:l.length<4611686018427387904):
  Calls prog 111 #[.slice A l.length r,.func (.func 47) #[] #[]] w fun e w'=>e=.returned (.tuple #[])/\
   ∃G:List cH,G.Perm l/\G.Pairwise (fun a b=>Dh b a=false)/\ai fV 3 w' w'.heap.size A G/\w.grownBy w' (Value.slice A l.length r).ownBlock:=by
 rcases E.2 with⟨I,T⟩|⟨g,P,J,I,hb,K,hn,hm,hs,U⟩
 ·injection I with p V Q
  obtain rfl:l=[]:=avo T;have z:=AnyF.slices_SortFunc_none {Tryz.ahE with} A r (.func (.func 47) #[] #[]) w;refine atV z fun e w' ⟨L,X⟩=>⟨L,[],List.Perm.refl _,List.Pairwise.nil,ai.cC,by rw[X];exact dX _ _⟩
 ·injection I with p V Q
  subst p Q;have M:=(ava.1 K).1;have Y:∀args w,(callFunc 47 args).run prog w=.ok (.enter 47 args) w:=enters_of func47 (by kernel_rfl) rfl;have Z:CmpLays prog 47 #[] fV 3 Fb g 0 l.toArray.size w:=fun _ _ _ _ x y=>adD x y _;have R:HoldsK fV 3 w g 0 l.toArray:=by
   intro j D;rw[size_flatK]at D;simp only[List.size_toArray]at D;have C:j/3<l.length:=(by omega);have Ee:j%3<3:=Nat.mod_lt _ (by omega);refine⟨?_,by simp[World.frozen?,K]⟩;rw[get_flatK _ _ _ _ (by simpa using D),atX,cell_of_row w g j J _ (0,0) K];have N:l.toArray[j/3]! =l[j/3]:=(by simp[C]);rw[N];have hu:(fV l[j/3])[j%3]?=some ((fV l[j/3])[j%3]!):=by have B:j%3<(fV l[j/3]).length:=(by rw[eD];exact Ee);rw[atW B,aum (fV l[j/3]) (j%3) B]
   have p:=I0 eD l (j/3) (j%3) _ _ (atW C) hu;rw[show j/3*3+j%3=j by omega]at p;rw[<-U,avc,atP (by omega)]at p;simpa using p
  have z:=AnyQ.slices_SortFunc Tryz.ahE 3 Tryz.isAgg30 Tryz.sizeOf30 fV eD AP Fb apS 47 #[] g 0 r l.toArray w Y Z R M (by simpa using S);have N3:Calls prog 111 #[.slice (some ⟨g,0,none⟩) l.length r,.func (.func 47) #[] #[]] w _:=z;refine N3.mono ?_;rintro e w' ⟨L,d',n,os,hp,oU,rfl⟩;obtain⟨F,XW,O⟩:=hp;refine⟨L,d'.toList,?_,?_,?_,apT _ _ _ _ _ _⟩
  ·have e1:l.toArray.size=l.length:=(by simp);rw[e1]at F O;have e2:(d'.extract 0 l.length)=d':=(by rw[<-F];simp);have e3:(l.toArray.extract 0 l.length)=l.toArray:=(by simp);rw[e2,e3]at O;exact O
  ·rw[auz];intro i j hi D EP;have p:=oU i j (Nat.zero_le _) EP (by rw[<-F];simpa using D);rw[Rx,aum d' i (by simpa using hi),aum d' j (by simpa using D)]at p;simpa using p
  ·intro _;refine⟨g,0,rfl,lt_sortWorldK fV 3 w g 0 n d' os M,fun i x hi j u hu=>?_⟩;have N4:=holdsK_sortWorldK_c fV 3 w g 0 l.toArray d' n os R M F;have DU:i<d'.size:=(by simpa using(aui.1 hi).1);have BK:j<3:=(by have:=(aui.1 hu).1;rwa [eD]at this);have p:=(N4 (i*3+j) (by rw[size_flatK];omega)).1;rw[get_flatK _ _ _ _ (by omega),show(i*3+j)/3=i by omega,show(i*3+j)%3=j by omega,aum d' i DU]at p;have N:d'[i]=x:=by
    have:=(aui.1 hi).2;simpa using this
   rw[N]at p;have ER:(fV x)[j]! =u:=by have B:=(aui.1 hu).1;rw[aum (fV x) j B];exact(aui.1 hu).2
   rw[ER]at p;rw[atX];rw[atX]at p;exact p
