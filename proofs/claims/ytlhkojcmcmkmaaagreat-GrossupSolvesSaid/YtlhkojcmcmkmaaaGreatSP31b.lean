/- Conditions: as stated. -/
import Derived.Test.YtlhkojcmcmkmaaaGreatSBox
import Derived.Test.YtlhkojcmcmkmaaaGreatSP31
import Derived.Test.YtlhkojcmcmkmaaaGreatSStab
set_option maxRecDepth 100000
set_option maxHeartbeats 1000000
namespace Go.Proofs.YtlhkojcmcmkmaaaGreat
open Go.Proofs.Tryz
open Go.RowKit Go.Sort Go.Shelf
theorem Pq(x:Int):∀u∈encI x,u.oneCell'=true:=by intro u hu;simp[encI]at hu;subst hu;rfl
theorem agn(A:Option Addr)(l:Nat)(j:List Int)(w:World)(h:aj encI 1 w w.heap.size A j)(E:j.length<=1000000):
  Calls prog 112 #[.slice A j.length l] w fun e w'=>∃v,e=.returned v/\Own encI 1 3 w' w.heap.size v j/\Below w.heap.size w w':=by
 rcases A with _|a
 ·have n:j=[]:=by
   rcases j with _|⟨y,ys⟩
   ·rfl
   ·obtain⟨b,p,r,_⟩:=h (by simp);cases r
  subst n;have u:∀w:World,(binOp .eql 34 (.slice none 0 l) (.slice none 0 0)).run prog w=.ok (.bool true) w:=fun _=>rfl;go_enter func112,ntmps112;go_wp2;go_ret;exact⟨_,rfl,Own.cL _ _,arM _ _⟩
 ·have z:=Own.lit lF w ([]:List Int) #[] 3 rfl (by simp) (arI _);have hS:=h.IW (.cells #[] 3);have u:∀w:World,(binOp .eql 34 (.slice (some a) j.length l) (.slice none 0 0)).run prog w=.ok (.bool false) w:=fun _=>rfl;go_enter func112,ntmps112;go_wp2_with(at_builtin;(refine He (ys:=j) _ _ 34 _ 8 _ E5 underlying34 z hS lF (by omega) rfl Pq (by simp;omega) (by omega) (by simp) (by rfl) (by rfl) (by rfl) (by rfl) (by rfl) ?_);intro B F C D);go_ret;exact⟨B,rfl,by simpa using C,Y2 D⟩
end Go.Proofs.YtlhkojcmcmkmaaaGreat
namespace Go.Proofs
open Go.Shelf
def Tryz.aos:Go.Shelf.Ren:=⟨fun|6=>111|15=>173|14=>172|28=>219|29=>220|20=>211|21=>212|22=>213|23=>214|24=>215|25=>216|26=>217|27=>218|46=>239|47=>240|48=>241|49=>242|50=>243|57=>262|n=>n,fun|22=>25|24=>30|25=>97|3=>3|39=>192|0=>0|53=>225|55=>227|4=>4|46=>218|45=>217|50=>222|5=>5|9=>9|66=>239|70=>209|76=>255|77=>256|n=>n,fun|n=>n⟩
theorem Tryz.ago:Go.Proofs.SlLaysF0.n6 prog Tryz.aos:={
 mixed:=by kernel_rfl
 f6:=⟨Tryz.f111.name,by decide,Tryz.func111.trans (congrArg some (by kernel_rfl))⟩
 f14:=⟨Tryz.f172.name,by decide,Tryz.func172.trans (congrArg some (by kernel_rfl))⟩
 f15:=Tryz.func173.trans (congrArg some (by kernel_rfl))
 f20:=⟨Tryz.f211.name,by decide,Tryz.func211.trans (congrArg some (by kernel_rfl))⟩
 f21:=⟨Tryz.f212.name,by decide,Tryz.func212.trans (congrArg some (by kernel_rfl))⟩
 f22:=⟨Tryz.f213.name,by decide,Tryz.func213.trans (congrArg some (by kernel_rfl))⟩
 f23:=⟨Tryz.f214.name,by decide,Tryz.func214.trans (congrArg some (by kernel_rfl))⟩
 f24:=⟨Tryz.f215.name,by decide,Tryz.func215.trans (congrArg some (by kernel_rfl))⟩
 f25:=⟨Tryz.f216.name,by decide,Tryz.func216.trans (congrArg some (by kernel_rfl))⟩
 f26:=⟨Tryz.f217.name,by decide,Tryz.func217.trans (congrArg some (by kernel_rfl))⟩
 f27:=⟨Tryz.f218.name,by decide,Tryz.func218.trans (congrArg some (by kernel_rfl))⟩
 f28:=Tryz.func219.trans (congrArg some (by kernel_rfl))
 f29:=Tryz.func220.trans (congrArg some (by kernel_rfl))
 f46:=⟨Tryz.f239.name,by decide,Tryz.func239.trans (congrArg some (by kernel_rfl))⟩
 f47:=Tryz.func240.trans (congrArg some (by kernel_rfl))
 f48:=Tryz.func241.trans (congrArg some (by kernel_rfl))
 f49:=⟨Tryz.f242.name,by decide,Tryz.func242.trans (congrArg some (by kernel_rfl))⟩
 f50:=⟨Tryz.f243.name,by decide,Tryz.func243.trans (congrArg some (by kernel_rfl))⟩
 f57:=⟨Tryz.f262.name,by decide,Tryz.func262.trans (congrArg some (by kernel_rfl))⟩
 t0:=underlying0
 a0:=Tryz.isAgg0
 z0:=Tryz.sizeOf0
 v0:=Tryz.zeroValue0
 t3:=underlying3
 a3:=Tryz.isAgg3
 z3:=Tryz.sizeOf3
 v3:=Tryz.zeroValue3
 t4:=underlying4
 a4:=Tryz.isAgg4
 z4:=Tryz.sizeOf4
 v4:=Tryz.zeroValue4
 t5:=underlying5
 a5:=Tryz.isAgg5
 z5:=Tryz.sizeOf5
 v5:=Tryz.zeroValue5
 t9:=underlying9
 a9:=Tryz.isAgg9
 z9:=Tryz.sizeOf9
 v9:=Tryz.zeroValue9
 t22:=underlying25
 a22:=Tryz.isAgg25
 z22:=Tryz.sizeOf25
 v22:=Tryz.zeroValue25
 t25:=underlying97
 a25:=Tryz.isAgg97
 z25:=Tryz.sizeOf97
 v25:=Tryz.zeroValue97
 t39:=underlying192
 a39:=Tryz.isAgg192
 z39:=Tryz.sizeOf192
 v39:=Tryz.zeroValue192
 t45:=underlying217
 a45:=Tryz.isAgg217
 z45:=Tryz.sizeOf217
 v45:=Tryz.zeroValue217
 t46:=underlying218
 a46:=Tryz.isAgg218
 z46:=Tryz.sizeOf218
 v46:=Tryz.zeroValue218
 t50:=underlying222
 a50:=Tryz.isAgg222
 z50:=Tryz.sizeOf222
 v50:=Tryz.zeroValue222
 t53:=underlying225
 a53:=Tryz.isAgg225
 z53:=Tryz.sizeOf225
 v53:=Tryz.zeroValue225
 t55:=underlying227
 a55:=Tryz.isAgg227
 z55:=Tryz.sizeOf227
 v55:=Tryz.zeroValue227
 t66:=underlying239
 a66:=Tryz.isAgg239
 z66:=Tryz.sizeOf239
 v66:=Tryz.zeroValue239
 t70:=underlying209
 a70:=Tryz.isAgg209
 z70:=Tryz.sizeOf209
 v70:=Tryz.zeroValue209
 t76:=underlying255
 a76:=Tryz.isAgg255
 z76:=Tryz.sizeOf255
 v76:=Tryz.zeroValue255
 t77:=underlying256
 a77:=Tryz.isAgg256
 z77:=Tryz.sizeOf256
 v77:=Tryz.zeroValue256}
end Go.Proofs
namespace Go.Proofs.YtlhkojcmcmkmaaaGreat
open Go.Proofs.Tryz
open Go.RowKit Go.Sort Go.Shelf
def PO(x y:dH):Int:=II (nB x.kind y.kind) (Dd x.code y.code)
instance:Inhabited dH:=⟨⟨0,⟨#[]⟩,0⟩⟩
theorem aot(x y:dH)(W:World):Calls prog 47 #[.agg #[.int .i64 x.kind,.string x.code,.int .i64 x.amount],.agg #[.int .i64 y.kind,.string y.code,.int .i64 y.amount]] W fun e w'=>e=.returned (.int .i64 (PO x y))/\∃q j,w'=grow (W.drewN q) j:=by
 go_enter func47,ntmps47;go_wp2;refine wp_region_still_tail 10 (by kernel_rfl) (by kernel_rfl) ?_;simp only[List.take_succ_cons,List.take_zero,List.drop_succ_cons,List.drop_zero];change wpStill _ _ (World.drew _) (fun a'=>wpList _ _ _ _ a' (World.drew _)) _ _
 iterate 4 still_step
 still_call ((QK _ _ _).mono fun e w' ⟨l,n⟩=>⟨l,n.symm⟩)
 iterate 4 still_step
 still_call ((UC _ _ _).mono fun e w' ⟨l,n⟩=>⟨l,n.symm⟩)
 refine wpStill_nil ?_;go_wp2_with fail;refine(acv (nB x.kind y.kind) (Dd x.code y.code) _ _ _ _ (by go_simp) (by go_simp)).mono ?_;rintro e p ⟨rfl,rfl⟩;go_wp2;go_ret;exact⟨rfl,1,_,by rw[alloc_eq_grow,alloc_eq_grow,alloc_eq_grow,grow_grow,grow_grow];rfl⟩
theorem aou(a b:ByteArray):decide (Dd a b<0)=Op.bytesLess a.toList b.toList:=by
 unfold Dd;split
 ·rename_i h;simp[h]
 ·rename_i h;have e:Op.bytesLess a.toList b.toList=false:=by simpa using h
  split<;>simp[e]
theorem Xe(x y:dH):ltOf PO x y=GM x y:=by
 rw[aov,<-aou];unfold ltOf PO II nB;rcases atc x.kind y.kind with h|h|h
 ·simp[h]
 ·simp[h]
 ·have e:¬x.kind<y.kind:=by omega
  have j:¬x.kind=y.kind:=by omega
  simp[h,e,j]
theorem Rec.ntrans{n j:Type}{R:Rec n j}(L:R.Law)(a b c:j)(p:R.lt a b=false)(e:R.lt b c=false):R.lt a c=false:=by
 cases h:R.lt a c
 ·rfl
 ·cases l:R.lt b a
  ·have:=L.total _ _ p l;subst this;rw[h]at e;cases e
  ·rw[L.trans _ _ _ l h]at e;cases e
theorem aow:SWO (ltOf PO) where
 irrefl x:=by rw[Xe];exact S3.irrefl _
 trans x y z e j:=by rw[Xe]at*;exact S3.trans _ _ _ e j
 ntrans x y z e j:=by rw[Xe]at*;exact Rec.ntrans S3 _ _ _ e j
theorem aox(w:World)(j l n:Nat)(d:Array dH)(os:Array Obj):w.grownBy (sortWorldK iZ 3 w j l n d os) (some j):=by
 refine⟨rfl,rfl,rfl,size_sortWorldK_c iZ 3 w j l n d os,fun i hi p=>?_⟩;have r:j≠i:=fun e=>p (by rw[e]);have u:(putRowK iZ 3 (Sort.ahead w n) j l d).heap.size=w.heap.size:=by simp[putRowK,putRow,mapBlock,Sort.ahead]
 show((putRowK iZ 3 (Sort.ahead w n) j l d).heap++os)[i]?=w.heap[i]?;rw[atu (by omega)];show(w.heap.modify j _)[i]?=_;rw[as5,arJ r]
theorem aoy(A:Option Addr)(r base:Nat)(l:List dH)(w:World)(E:Own iZ 3 30 w base (.slice A l.length r) l)(S:l.length<4611686018427387904):
  Calls prog 111 #[.slice A l.length r,.func (.func 47) #[] #[]] w fun e w'=>e=.returned (.tuple #[])/\
   ∃G:List dH,G.Perm l/\G.Pairwise (fun a b=>GM b a=false)/\aj iZ 3 w' w'.heap.size A G/\w.grownBy w' (Value.slice A l.length r).ownBlock:=by
 rcases E.2 with⟨I,T⟩|⟨g,P,J,I,hb,K,hn,hm,hs,U⟩
 ·injection I with p V Q
  obtain rfl:l=[]:=atb T;have z:=AnyF.slices_SortFunc_none {Tryz.ago with} A r (.func (.func 47) #[] #[]) w;refine arP z fun e w' ⟨L,X⟩=>⟨L,[],List.Perm.refl _,List.Pairwise.nil,aj.cL,by rw[X];exact fe _ _⟩
 ·injection I with p V Q
  subst p Q;have M:=(as1.1 K).1;have Y:∀args w,(callFunc 47 args).run prog w=.ok (.enter 47 args) w:=enters_of func47 (by kernel_rfl) rfl;have Z:CmpLays prog 47 #[] iZ 3 PO g 0 l.toArray.size w:=fun _ _ _ _ x y=>aot x y _;have R:HoldsK iZ 3 w g 0 l.toArray:=by
   intro j D;rw[size_flatK]at D;simp only[List.size_toArray]at D;have C:j/3<l.length:=(by omega);have D9:j%3<3:=Nat.mod_lt _ (by omega);refine⟨?_,by simp[World.frozen?,K]⟩;rw[get_flatK _ _ _ _ (by simpa using D),arT,cell_of_row w g j J _ (0,0) K];have N:l.toArray[j/3]! =l[j/3]:=(by simp[C]);rw[N];have hu:(iZ l[j/3])[j%3]?=some ((iZ l[j/3])[j%3]!):=by have B:j%3<(iZ l[j/3]).length:=(by rw[eG];exact D9);rw[arW B,asl (iZ l[j/3]) (j%3) B]
   have p:=G4 eG l (j/3) (j%3) _ _ (arW C) hu;rw[show j/3*3+j%3=j by omega]at p;rw[<-U,as3,arK (by omega)]at p;simpa using p
  have z:=AnyQ.slices_SortFunc Tryz.ago 3 Tryz.isAgg30 Tryz.sizeOf30 iZ eG AK PO aow 47 #[] g 0 r l.toArray w Y Z R M (by simpa using S);have L8:Calls prog 111 #[.slice (some ⟨g,0,none⟩) l.length r,.func (.func 47) #[] #[]] w _:=z;refine L8.mono ?_;rintro e w' ⟨L,d',n,os,hp,oD,rfl⟩;obtain⟨F,UF,O⟩:=hp;refine⟨L,d'.toList,?_,?_,?_,aox _ _ _ _ _ _⟩
  ·have e1:l.toArray.size=l.length:=(by simp);rw[e1]at F O;have e2:(d'.extract 0 l.length)=d':=(by rw[<-F];simp);have e3:(l.toArray.extract 0 l.length)=l.toArray:=(by simp);rw[e2,e3]at O;exact O
  ·rw[asz];intro i j hi D Eh;have p:=oD i j (Nat.zero_le _) Eh (by rw[<-F];simpa using D);rw[Xe,asl d' i (by simpa using hi),asl d' j (by simpa using D)]at p;simpa using p
  ·intro _;refine⟨g,0,rfl,lt_sortWorldK iZ 3 w g 0 n d' os M,fun i x hi j u hu=>?_⟩;have L9:=holdsK_sortWorldK_c iZ 3 w g 0 l.toArray d' n os R M F;have B4:i<d'.size:=(by simpa using(ase.1 hi).1);have o7:j<3:=(by have:=(ase.1 hu).1;rwa [eG]at this);have p:=(L9 (i*3+j) (by rw[size_flatK];omega)).1;rw[get_flatK _ _ _ _ (by omega),show(i*3+j)/3=i by omega,show(i*3+j)%3=j by omega,asl d' i B4]at p;have N:d'[i]=x:=by
    have:=(ase.1 hi).2;simpa using this
   rw[N]at p;have Ei:(iZ x)[j]! =u:=by have B:=(ase.1 hu).1;rw[asl (iZ x) j B];exact(ase.1 hu).2
   rw[Ei]at p;rw[arT];rw[arT]at p;exact p
