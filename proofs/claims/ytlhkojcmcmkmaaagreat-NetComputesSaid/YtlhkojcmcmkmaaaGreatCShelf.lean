/- Conditions: as stated. -/
import Derived.Shelf.SlGeneric
import Derived.Shelf.SlSortCmp.WholeK
import Derived.Shelf.SlSortCmp.NoneTotal
import Derived.Ground.SlsfProg
import Derived.Test.YtlhkojcmcmkmaaaGreatProg
import Derived.Test.YtlhkojcmcmkmaaaGreatCBox
set_option maxRecDepth 100000
set_option maxHeartbeats 4000000
namespace Go.Proofs
open Go.Shelf
def Tryz.aru:Go.Shelf.Ren:=⟨fun|6=>170|15=>173|14=>210|28=>219|29=>220|20=>231|21=>232|22=>233|23=>234|24=>235|25=>236|26=>237|27=>238|46=>259|47=>240|48=>241|49=>260|50=>261|57=>269|n=>n,fun|22=>51|24=>69|25=>189|3=>3|39=>192|0=>0|53=>225|55=>227|4=>4|46=>218|45=>217|50=>222|5=>5|9=>9|66=>239|70=>209|76=>255|77=>256|n=>n,fun|n=>n⟩
theorem Tryz.Yg:Go.Proofs.SlLaysF0.n6 prog Tryz.aru:={
 mixed:=by kernel_rfl
 f6:=⟨Tryz.f170.name,by decide,Tryz.func170.trans (congrArg some (by kernel_rfl))⟩
 f14:=⟨Tryz.f210.name,by decide,Tryz.func210.trans (congrArg some (by kernel_rfl))⟩
 f15:=Tryz.func173.trans (congrArg some (by kernel_rfl))
 f20:=⟨Tryz.f231.name,by decide,Tryz.func231.trans (congrArg some (by kernel_rfl))⟩
 f21:=⟨Tryz.f232.name,by decide,Tryz.func232.trans (congrArg some (by kernel_rfl))⟩
 f22:=⟨Tryz.f233.name,by decide,Tryz.func233.trans (congrArg some (by kernel_rfl))⟩
 f23:=⟨Tryz.f234.name,by decide,Tryz.func234.trans (congrArg some (by kernel_rfl))⟩
 f24:=⟨Tryz.f235.name,by decide,Tryz.func235.trans (congrArg some (by kernel_rfl))⟩
 f25:=⟨Tryz.f236.name,by decide,Tryz.func236.trans (congrArg some (by kernel_rfl))⟩
 f26:=⟨Tryz.f237.name,by decide,Tryz.func237.trans (congrArg some (by kernel_rfl))⟩
 f27:=⟨Tryz.f238.name,by decide,Tryz.func238.trans (congrArg some (by kernel_rfl))⟩
 f28:=Tryz.func219.trans (congrArg some (by kernel_rfl))
 f29:=Tryz.func220.trans (congrArg some (by kernel_rfl))
 f46:=⟨Tryz.f259.name,by decide,Tryz.func259.trans (congrArg some (by kernel_rfl))⟩
 f47:=Tryz.func240.trans (congrArg some (by kernel_rfl))
 f48:=Tryz.func241.trans (congrArg some (by kernel_rfl))
 f49:=⟨Tryz.f260.name,by decide,Tryz.func260.trans (congrArg some (by kernel_rfl))⟩
 f50:=⟨Tryz.f261.name,by decide,Tryz.func261.trans (congrArg some (by kernel_rfl))⟩
 f57:=⟨Tryz.f269.name,by decide,Tryz.func269.trans (congrArg some (by kernel_rfl))⟩
 t0:=underlying0
 a0:=Tryz.isAgg0
 z0:=Tryz.sizeOf0
 v0:=Tryz.zeroValue0
 t3:=underlying3
 a3:=Tryz.isAgg3
 z3:=Tryz.sizeOf3
 v3:=Tryz.zeroValue3
 t4:=underlying4
 a4:=Tryz.isAgg4
 z4:=Tryz.sizeOf4
 v4:=Tryz.zeroValue4
 t5:=underlying5
 a5:=Tryz.isAgg5
 z5:=Tryz.sizeOf5
 v5:=Tryz.zeroValue5
 t9:=underlying9
 a9:=Tryz.isAgg9
 z9:=Tryz.sizeOf9
 v9:=Tryz.zeroValue9
 t22:=underlying51
 a22:=Tryz.isAgg51
 z22:=Tryz.sizeOf51
 v22:=Tryz.zeroValue51
 t25:=underlying189
 a25:=Tryz.isAgg189
 z25:=Tryz.sizeOf189
 v25:=Tryz.zeroValue189
 t39:=underlying192
 a39:=Tryz.isAgg192
 z39:=Tryz.sizeOf192
 v39:=Tryz.zeroValue192
 t45:=underlying217
 a45:=Tryz.isAgg217
 z45:=Tryz.sizeOf217
 v45:=Tryz.zeroValue217
 t46:=underlying218
 a46:=Tryz.isAgg218
 z46:=Tryz.sizeOf218
 v46:=Tryz.zeroValue218
 t50:=underlying222
 a50:=Tryz.isAgg222
 z50:=Tryz.sizeOf222
 v50:=Tryz.zeroValue222
 t53:=underlying225
 a53:=Tryz.isAgg225
 z53:=Tryz.sizeOf225
 v53:=Tryz.zeroValue225
 t55:=underlying227
 a55:=Tryz.isAgg227
 z55:=Tryz.sizeOf227
 v55:=Tryz.zeroValue227
 t66:=underlying239
 a66:=Tryz.isAgg239
 z66:=Tryz.sizeOf239
 v66:=Tryz.zeroValue239
 t70:=underlying209
 a70:=Tryz.isAgg209
 z70:=Tryz.sizeOf209
 v70:=Tryz.zeroValue209
 t76:=underlying255
 a76:=Tryz.isAgg255
 z76:=Tryz.sizeOf255
 v76:=Tryz.zeroValue255
 t77:=underlying256
 a77:=Tryz.isAgg256
 z77:=Tryz.sizeOf256
 v77:=Tryz.zeroValue256}
end Go.Proofs
namespace Go.Proofs
def Tryz.arv:Go.Shelf.Ren:=⟨fun|6=>196|15=>173|14=>226|28=>219|29=>220|20=>246|21=>247|22=>248|23=>249|24=>250|25=>251|26=>252|27=>253|46=>264|47=>240|48=>241|49=>265|50=>266|57=>271|n=>n,fun|22=>46|24=>166|25=>207|3=>3|39=>192|0=>0|53=>225|55=>227|4=>4|46=>218|45=>217|50=>222|5=>5|9=>9|66=>239|70=>209|76=>255|77=>256|n=>n,fun|n=>n⟩
theorem Tryz.aja:Go.Proofs.SlLaysF0.n6 prog Tryz.arv:={
 mixed:=by kernel_rfl
 f6:=⟨Tryz.f196.name,by decide,Tryz.func196.trans (congrArg some (by kernel_rfl))⟩
 f14:=⟨Tryz.f226.name,by decide,Tryz.func226.trans (congrArg some (by kernel_rfl))⟩
 f15:=Tryz.func173.trans (congrArg some (by kernel_rfl))
 f20:=⟨Tryz.f246.name,by decide,Tryz.func246.trans (congrArg some (by kernel_rfl))⟩
 f21:=⟨Tryz.f247.name,by decide,Tryz.func247.trans (congrArg some (by kernel_rfl))⟩
 f22:=⟨Tryz.f248.name,by decide,Tryz.func248.trans (congrArg some (by kernel_rfl))⟩
 f23:=⟨Tryz.f249.name,by decide,Tryz.func249.trans (congrArg some (by kernel_rfl))⟩
 f24:=⟨Tryz.f250.name,by decide,Tryz.func250.trans (congrArg some (by kernel_rfl))⟩
 f25:=⟨Tryz.f251.name,by decide,Tryz.func251.trans (congrArg some (by kernel_rfl))⟩
 f26:=⟨Tryz.f252.name,by decide,Tryz.func252.trans (congrArg some (by kernel_rfl))⟩
 f27:=⟨Tryz.f253.name,by decide,Tryz.func253.trans (congrArg some (by kernel_rfl))⟩
 f28:=Tryz.func219.trans (congrArg some (by kernel_rfl))
 f29:=Tryz.func220.trans (congrArg some (by kernel_rfl))
 f46:=⟨Tryz.f264.name,by decide,Tryz.func264.trans (congrArg some (by kernel_rfl))⟩
 f47:=Tryz.func240.trans (congrArg some (by kernel_rfl))
 f48:=Tryz.func241.trans (congrArg some (by kernel_rfl))
 f49:=⟨Tryz.f265.name,by decide,Tryz.func265.trans (congrArg some (by kernel_rfl))⟩
 f50:=⟨Tryz.f266.name,by decide,Tryz.func266.trans (congrArg some (by kernel_rfl))⟩
 f57:=⟨Tryz.f271.name,by decide,Tryz.func271.trans (congrArg some (by kernel_rfl))⟩
 t0:=underlying0
 a0:=Tryz.isAgg0
 z0:=Tryz.sizeOf0
 v0:=Tryz.zeroValue0
 t3:=underlying3
 a3:=Tryz.isAgg3
 z3:=Tryz.sizeOf3
 v3:=Tryz.zeroValue3
 t4:=underlying4
 a4:=Tryz.isAgg4
 z4:=Tryz.sizeOf4
 v4:=Tryz.zeroValue4
 t5:=underlying5
 a5:=Tryz.isAgg5
 z5:=Tryz.sizeOf5
 v5:=Tryz.zeroValue5
 t9:=underlying9
 a9:=Tryz.isAgg9
 z9:=Tryz.sizeOf9
 v9:=Tryz.zeroValue9
 t22:=underlying46
 a22:=Tryz.isAgg46
 z22:=Tryz.sizeOf46
 v22:=Tryz.zeroValue46
 t25:=underlying207
 a25:=Tryz.isAgg207
 z25:=Tryz.sizeOf207
 v25:=Tryz.zeroValue207
 t39:=underlying192
 a39:=Tryz.isAgg192
 z39:=Tryz.sizeOf192
 v39:=Tryz.zeroValue192
 t45:=underlying217
 a45:=Tryz.isAgg217
 z45:=Tryz.sizeOf217
 v45:=Tryz.zeroValue217
 t46:=underlying218
 a46:=Tryz.isAgg218
 z46:=Tryz.sizeOf218
 v46:=Tryz.zeroValue218
 t50:=underlying222
 a50:=Tryz.isAgg222
 z50:=Tryz.sizeOf222
 v50:=Tryz.zeroValue222
 t53:=underlying225
 a53:=Tryz.isAgg225
 z53:=Tryz.sizeOf225
 v53:=Tryz.zeroValue225
 t55:=underlying227
 a55:=Tryz.isAgg227
 z55:=Tryz.sizeOf227
 v55:=Tryz.zeroValue227
 t66:=underlying239
 a66:=Tryz.isAgg239
 z66:=Tryz.sizeOf239
 v66:=Tryz.zeroValue239
 t70:=underlying209
 a70:=Tryz.isAgg209
 z70:=Tryz.sizeOf209
 v70:=Tryz.zeroValue209
 t76:=underlying255
 a76:=Tryz.isAgg255
 z76:=Tryz.sizeOf255
 v76:=Tryz.zeroValue255
 t77:=underlying256
 a77:=Tryz.isAgg256
 z77:=Tryz.sizeOf256
 v77:=Tryz.zeroValue256}
end Go.Proofs
namespace Go.Proofs.YtlhkojcmcmkmaaaGreat
open Go.Proofs.Tryz
open Go.RowKit Go.Sort Go.Shelf
def QB(x y:Elem):Int:=Dk x.code y.code
instance:Inhabited Elem:=⟨⟨⟨#[]⟩,0⟩⟩
def QC(x y:bN):Int:=FC (kG x.aT y.aT) (Dk x.code y.code)
instance:Inhabited bN:=⟨⟨⟨#[]⟩,0,false,0,0,0⟩⟩
theorem YD(x y:Elem):ltOf QB x y=ij x y:=by
 unfold ltOf QB Dk ij;split
 ·rename_i h;simp[h]
 ·rename_i h;have e:Op.bytesLess x.code.toList y.code.toList=false:=by simpa using h
  split<;>simp[e]
theorem arw:SWO (ltOf QB) where
 irrefl x:=by rw[YD,ij,Ce];simp
 trans x y z e j:=by rw[YD,ij,Ce]at*;simp only[auc]at*;exact List.lt_trans e j
 ntrans x y z e j:=by rw[YD,ij,Ce]at*;simp only[auA,auP]at*;exact List.le_trans j e
theorem arx(x y:Elem)(W:World):Calls prog 171 #[.agg #[.string x.code,.int .i64 x.amount],.agg #[.string y.code,.int .i64 y.amount]] W fun e w'=>e=.returned (.int .i64 (QB x y))/\∃q j,w'=grow (W.drewN q) j:=by go_enter func171,ntmps171;go_wp2_with(go_at_call 85;refine(VA _ _ _).mono ?_;rintro e w' ⟨rfl,rfl⟩);go_ret;exact⟨rfl,0,_,by rw[alloc_eq_grow,alloc_eq_grow,grow_grow];rfl⟩
theorem ary(w:World)(j off n:Nat)(d:Array Elem)(os:Array Obj):w.grownBy (sortWorldK aN 2 w j off n d os) (some j):=by
 refine⟨rfl,rfl,rfl,size_sortWorldK_c aN 2 w j off n d os,fun i hi l=>?_⟩;have p:j≠i:=fun e=>l (by rw[e]);have r:(putRowK aN 2 (Sort.ahead w n) j off d).heap.size=w.heap.size:=by simp[putRowK,putRow,mapBlock,Sort.ahead]
 show((putRowK aN 2 (Sort.ahead w n) j off d).heap++os)[i]?=w.heap[i]?;rw[avA (by omega)];show(w.heap.modify j _)[i]?=_;rw[auU,atO p]
theorem ac7(A:Option Addr)(r base:Nat)(l:List Elem)(w:World)(E:Own aN 2 69 w base (.slice A l.length r) l)(S:l.length<4611686018427387904):
  Calls prog 170 #[.slice A l.length r,.func (.func 171) #[] #[]] w fun e w'=>e=.returned (.tuple #[])/\
   ∃G:List Elem,G.Perm l/\G.Pairwise (fun a b=>ij b a=false)/\ai aN 2 w' w'.heap.size A G/\Below base w w':=by
 rcases E.2 with⟨I,T⟩|⟨g,P,J,I,hb,K,hn,hm,hs,U⟩
 ·injection I with p V Q
  obtain rfl:l=[]:=avo T;have z:=AnyF.slices_SortFunc_none {Tryz.Yg with} A r (.func (.func 171) #[] #[]) w;refine atV z fun e w' ⟨L,X⟩=>⟨L,[],List.Perm.refl _,List.Pairwise.nil,ai.cC,by rw[X];exact atS _ _⟩
 ·injection I with p V Q
  subst p Q;have M:=(ava.1 K).1;have Y:∀args w,(callFunc 171 args).run prog w=.ok (.enter 171 args) w:=enters_of func171 (by kernel_rfl) rfl;have Z:CmpLays prog 171 #[] aN 2 QB g 0 l.toArray.size w:=fun _ _ _ _ x y=>arx x y _;have R:HoldsK aN 2 w g 0 l.toArray:=by
   intro j D;rw[size_flatK]at D;simp only[List.size_toArray]at D;have C:j/2<l.length:=(by omega);have Ee:j%2<2:=Nat.mod_lt _ (by omega);refine⟨?_,by simp[World.frozen?,K]⟩;rw[get_flatK _ _ _ _ (by simpa using D),atX,cell_of_row w g j J _ (0,0) K];have N:l.toArray[j/2]! =l[j/2]:=(by simp[C]);rw[N];have hu:(aN l[j/2])[j%2]?=some ((aN l[j/2])[j%2]!):=by have B:j%2<(aN l[j/2]).length:=(by rw[dG];exact Ee);rw[atW B,aum (aN l[j/2]) (j%2) B]
   have p:=I0 dG l (j/2) (j%2) _ _ (atW C) hu;rw[show j/2*2+j%2=j by omega]at p;rw[<-U,avc,atP (by omega)]at p;simpa using p
  have z:=AnyQ.slices_SortFunc Tryz.Yg 2 Tryz.isAgg69 Tryz.sizeOf69 aN dG mF QB arw 171 #[] g 0 r l.toArray w Y Z R M (by simpa using S);have N3:Calls prog 170 #[.slice (some ⟨g,0,none⟩) l.length r,.func (.func 171) #[] #[]] w _:=z;refine N3.mono ?_;rintro e w' ⟨L,d',n,os,hp,oU,rfl⟩;obtain⟨F,XW,O⟩:=hp;refine⟨L,d'.toList,?_,?_,?_,ib (ary _ _ _ _ _ _) (by omega) (fun q e=>by injection e;omega)⟩
  ·have e1:l.toArray.size=l.length:=(by simp);rw[e1]at F O;have e2:(d'.extract 0 l.length)=d':=(by rw[<-F];simp);have e3:(l.toArray.extract 0 l.length)=l.toArray:=(by simp);rw[e2,e3]at O;exact O
  ·rw[auz];intro i j hi D EP;have p:=oU i j (Nat.zero_le _) EP (by rw[<-F];simpa using D);rw[YD,aum d' i (by simpa using hi),aum d' j (by simpa using D)]at p;simpa using p
  ·intro _;refine⟨g,0,rfl,lt_sortWorldK aN 2 w g 0 n d' os M,fun i x hi j u hu=>?_⟩;have N4:=holdsK_sortWorldK_c aN 2 w g 0 l.toArray d' n os R M F;have DU:i<d'.size:=(by simpa using(aui.1 hi).1);have BK:j<2:=(by have:=(aui.1 hu).1;rwa [dG]at this);have p:=(N4 (i*2+j) (by rw[size_flatK];omega)).1;rw[get_flatK _ _ _ _ (by omega),show(i*2+j)/2=i by omega,show(i*2+j)%2=j by omega,aum d' i DU]at p;have N:d'[i]=x:=by
    have:=(aui.1 hi).2;simpa using this
   rw[N]at p;have ER:(aN x)[j]! =u:=by have B:=(aui.1 hu).1;rw[aum (aN x) j B];exact(aui.1 hu).2
   rw[ER]at p;rw[atX];rw[atX]at p;exact p
instance (x y:bN):Decidable (Ap x y):=by unfold Ap;infer_instance
def QD(x y:bN):Bool:=decide (Ap x y)
theorem arz(a b:ByteArray):decide (Dk a b<0)=decide (a.data.toList<b.data.toList):=by
 unfold Dk;rw[Ce,ByteArray.toList_eq,ByteArray.toList_eq];split
 ·rename_i h;have e:a.data.toList<b.data.toList:=au9 h;simp only[e,decide_true];decide
 ·rename_i h;have e:¬a.data.toList<b.data.toList:=fun j=>h (auL j);simp only[e,decide_false];split<;>decide
theorem YE(x y:bN):ltOf QC x y=QD x y:=by
 have hS:=arz x.code y.code;unfold ltOf QC FC kG QD Ap;rcases avp x.aT y.aT with h|h|h
 ·simp[h]
 ·simp only[h,Int.lt_irrefl,auw,ne_eq,not_true,false_or,true_and];exact hS
 ·have e:¬x.aT<y.aT:=by omega
  have j:¬x.aT=y.aT:=by omega
  simp[h,e,j]
theorem arA:SWO (ltOf QC) where
 irrefl x:=by rw[YE,QD];exact auO (Ap.EB x)
 trans x y z l n:=by rw[YE,QD]at*;exact auL (Ap.tr x y z (au9 l) (au9 n))
 ntrans x y z l n:=by
  rw[YE,QD]at*;have p:=of_decide_eq_false l;have j:=of_decide_eq_false n;apply auO;rintro(h|⟨h,u⟩)
  ·rcases avp x.aT y.aT with e|e|e
   ·exact p (.inl e)
   ·exact j (.inl (by omega))
   ·exact j (.inl (by omega))
  ·rcases avp x.aT y.aT with e|e|e
   ·exact p (.inl e)
   ·have B:y.code.data.toList<=x.code.data.toList:=auP.1 (fun r=>p (.inr ⟨e,r⟩));have C:z.code.data.toList<=y.code.data.toList:=auP.1 (fun r=>j (.inr ⟨by omega,r⟩));exact absurd u (auP.2 (List.le_trans C B))
   ·exact j (.inl (by omega))
theorem arB(x y:bN)(W:World):Calls prog 197 #[.agg #[.string x.code,.int .i64 x.aT,.bool x.before,.int .i64 x.amount,.int .i64 x.cB,.int .i64 x.cap],.agg #[.string y.code,.int .i64 y.aT,.bool y.before,.int .i64 y.amount,.int .i64 y.cB,.int .i64 y.cap]] W fun e w'=>e=.returned (.int .i64 (QC x y))/\∃q j,w'=grow (W.drewN q) j:=by
 go_enter func197,ntmps197;go_wp2;refine wp_region_still_tail 10 (by kernel_rfl) (by kernel_rfl) ?_;simp only[avg,List.take_zero,avw,List.drop_zero];change wpStill _ _ (World.drew _) (fun a'=>wpList _ _ _ _ a' (World.drew _)) _ _
 iterate 4 still_step
 still_call ((Ni _ _ _).mono fun e w' ⟨l,n⟩=>⟨l,n.symm⟩)
 iterate 4 still_step
 still_call ((VA _ _ _).mono fun e w' ⟨l,n⟩=>⟨l,n.symm⟩)
 refine wpStill_nil ?_;go_wp2_with fail;refine(aaS (kG x.aT y.aT) (Dk x.code y.code) _ _ _ _ (by go_simp) (by go_simp)).mono ?_;rintro e p ⟨rfl,rfl⟩;go_wp2;go_ret;exact⟨rfl,1,_,by rw[alloc_eq_grow,alloc_eq_grow,alloc_eq_grow,grow_grow,grow_grow];rfl⟩
theorem arC(w:World)(j off n:Nat)(d:Array bN)(os:Array Obj):w.grownBy (sortWorldK jH 6 w j off n d os) (some j):=by
 refine⟨rfl,rfl,rfl,size_sortWorldK_c jH 6 w j off n d os,fun i hi l=>?_⟩;have p:j≠i:=fun e=>l (by rw[e]);have r:(putRowK jH 6 (Sort.ahead w n) j off d).heap.size=w.heap.size:=by simp[putRowK,putRow,mapBlock,Sort.ahead]
 show((putRowK jH 6 (Sort.ahead w n) j off d).heap++os)[i]?=w.heap[i]?;rw[avA (by omega)];show(w.heap.modify j _)[i]?=_;rw[auU,atO p]
theorem arD(A:Option Addr)(r base:Nat)(l:List bN)(w:World)(E:Own jH 6 166 w base (.slice A l.length r) l)(S:l.length<4611686018427387904):
  Calls prog 196 #[.slice A l.length r,.func (.func 197) #[] #[]] w fun e w'=>e=.returned (.tuple #[])/\
   ∃G:List bN,G.Perm l/\G.Pairwise (fun a b=>QD b a=false)/\ai jH 6 w' w'.heap.size A G/\Below base w w':=by
 rcases E.2 with⟨I,T⟩|⟨g,P,J,I,hb,K,hn,hm,hs,U⟩
 ·injection I with p V Q
  obtain rfl:l=[]:=avo T;have z:=AnyF.slices_SortFunc_none {Tryz.aja with} A r (.func (.func 197) #[] #[]) w;refine atV z fun e w' ⟨L,X⟩=>⟨L,[],List.Perm.refl _,List.Pairwise.nil,ai.cC,by rw[X];exact atS _ _⟩
 ·injection I with p V Q
  subst p Q;have M:=(ava.1 K).1;have Y:∀args w,(callFunc 197 args).run prog w=.ok (.enter 197 args) w:=enters_of func197 (by kernel_rfl) rfl;have Z:CmpLays prog 197 #[] jH 6 QC g 0 l.toArray.size w:=fun _ _ _ _ x y=>arB x y _;have R:HoldsK jH 6 w g 0 l.toArray:=by
   intro j D;rw[size_flatK]at D;simp only[List.size_toArray]at D;have C:j/6<l.length:=(by omega);have Ee:j%6<6:=Nat.mod_lt _ (by omega);refine⟨?_,by simp[World.frozen?,K]⟩;rw[get_flatK _ _ _ _ (by simpa using D),atX,cell_of_row w g j J _ (0,0) K];have N:l.toArray[j/6]! =l[j/6]:=(by simp[C]);rw[N];have hu:(jH l[j/6])[j%6]?=some ((jH l[j/6])[j%6]!):=by have B:j%6<(jH l[j/6]).length:=(by rw[GM];exact Ee);rw[atW B,aum (jH l[j/6]) (j%6) B]
   have p:=I0 GM l (j/6) (j%6) _ _ (atW C) hu;rw[show j/6*6+j%6=j by omega]at p;rw[<-U,avc,atP (by omega)]at p;simpa using p
  have z:=AnyQ.slices_SortFunc Tryz.aja 6 Tryz.isAgg166 Tryz.sizeOf166 jH GM aaE QC arA 197 #[] g 0 r l.toArray w Y Z R M (by simpa using S);have N3:Calls prog 196 #[.slice (some ⟨g,0,none⟩) l.length r,.func (.func 197) #[] #[]] w _:=z;refine N3.mono ?_;rintro e w' ⟨L,d',n,os,hp,oU,rfl⟩;obtain⟨F,XW,O⟩:=hp;refine⟨L,d'.toList,?_,?_,?_,ib (arC _ _ _ _ _ _) (by omega) (fun q e=>by injection e;omega)⟩
  ·have e1:l.toArray.size=l.length:=(by simp);rw[e1]at F O;have e2:(d'.extract 0 l.length)=d':=(by rw[<-F];simp);have e3:(l.toArray.extract 0 l.length)=l.toArray:=(by simp);rw[e2,e3]at O;exact O
  ·rw[auz];intro i j hi D EP;have p:=oU i j (Nat.zero_le _) EP (by rw[<-F];simpa using D);rw[YE,aum d' i (by simpa using hi),aum d' j (by simpa using D)]at p;simpa using p
  ·intro _;refine⟨g,0,rfl,lt_sortWorldK jH 6 w g 0 n d' os M,fun i x hi j u hu=>?_⟩;have N4:=holdsK_sortWorldK_c jH 6 w g 0 l.toArray d' n os R M F;have DU:i<d'.size:=(by simpa using(aui.1 hi).1);have BK:j<6:=(by have:=(aui.1 hu).1;rwa [GM]at this);have p:=(N4 (i*6+j) (by rw[size_flatK];omega)).1;rw[get_flatK _ _ _ _ (by omega),show(i*6+j)/6=i by omega,show(i*6+j)%6=j by omega,aum d' i DU]at p;have N:d'[i]=x:=by
    have:=(aui.1 hi).2;simpa using this
   rw[N]at p;have ER:(jH x)[j]! =u:=by have B:=(aui.1 hu).1;rw[aum (jH x) j B];exact(aui.1 hu).2
   rw[ER]at p;rw[atX];rw[atX]at p;exact p
theorem ajb(d:bN)(base taken:Int)(w:World)(l:d.code.size<=maxLen)(n:BF d)(p:0<=base)(r:base<=1000000000)(u:0<=taken)(y:taken<=1000000000000):
  Calls prog 198 #[.agg #[.string d.code,.int .i64 d.aT,.bool d.before,.int .i64 d.amount,.int .i64 d.cB,.int .i64 d.cap],.int .i64 base,.int .i64 taken] w fun e w'=>e=.returned (.tuple #[.int .i64 (Io d base taken),.int .i64 0])/\Below w.heap.size w w':=by
 have j:=Wo (Wp.2 n) (iK.2 ⟨p,r⟩) (iK.2 ⟨u,y⟩);refine(alO d base taken w l ⟨by omega,by omega⟩).mono fun e w' ⟨z,B⟩=>⟨?_,B⟩
 rw[z,j,KW,atP j]
theorem ajt(A Y:Option Addr)(M Ju:Nat)(u:List bN)(year:List Elem)(before:Bool)(base z:Int)(w:World)(h:ai jH 6 w w.heap.size A u)(hz:∀x∈u,x.code.size<=maxLen)(hl:u.length<=9223372036854775807)
  (hy:ai aN 2 w w.heap.size Y year) (F3:∀x∈year,x.code.size<=maxLen) (oA:year.length<=9223372036854775807):
  Calls prog 160 #[.slice A u.length M,.bool before,.int .i64 base,.int .i64 z,.slice Y year.length Ju] w (C7 (jg u before base z year) (fj u base z year) w):=by
 have HZ:=atM hz;clear hz;have J4:=atM F3;clear F3;have Ay:∀(n:Int) (W:World),n≠0->fj u base z year=n->Below w.heap.size w W->C7 (jg u before base z year) (fj u base z year) w (Ending.returned (.tuple #[.slice none 0 0,.int .i64 n])) W:=
  fun n W X he hb=>C7.fail (afl (by rw[he];exact X)) he hb
 have p:=atM Ay;clear Ay;go_enter func160,ntmps160;go_wp2_with fail;refine(aaB A M u _ h HZ.out hl).mono ?_;rintro e w1 ⟨rfl,G⟩;by_cases C:gF u=true;rotate_left
 ·have av:gF u=false:=by simpa using C
  clear C;go_wp2;go_ret2;exact p.out 1 _ (by omega) (Wu (.inl av)) G
 go_wp2_with fail;refine(U1 Y Ju year _ (hy.aa G) J4.out oA).mono ?_;rintro e w2 ⟨rfl,Z⟩;have L:=aA G Z;by_cases E:fE year=true;rotate_left
 ·have Hi:fE year=false:=by simpa using E
  clear E;go_wp2;go_ret2;exact p.out 1 _ (by omega) (Wu (.inr Hi)) L
 by_cases a1:0<=base;rotate_left
 ·go_wp2;go_ret2;exact p.out 2 _ (by omega) (PF C E (.inl (Jt.2 (.inl (by omega))))) L
 by_cases a2:base<=1000000000;rotate_left
 ·go_wp2;go_ret2;exact p.out 2 _ (by omega) (PF C E (.inl (Jt.2 (.inr (by omega))))) L
 by_cases a3:0<=z;rotate_left
 ·go_wp2;go_ret2;exact p.out 2 _ (by omega) (PF C E (.inr (Jt.2 (.inl (by omega))))) L
 by_cases a4:z<=1000000000;rotate_left
 ·go_wp2;go_ret2;exact p.out 2 _ (by omega) (PF C E (.inr (Jt.2 (.inr (by omega))))) L
 have hE:=aaF C E (iK.2 ⟨a1,a2⟩) (iK.2 ⟨a3,a4⟩);have HE:=atM hE;have HR:=atM (aaG (before:=before) hE);clear hE p;have ab:u.length<=16:=(Ip.1 C).1;have aY:year.length<=128:=(BQ.1 E).1;go_wp2_with fail;refine(alQ A M u _ (h.aa L) (by omega)).mono ?_;rintro e w3 ⟨v3,rfl,jx,ad⟩;have cT:=aA L ad;obtain⟨A3,c3,rfl,fW,bA,az,aZ⟩:=jx.kX GM;go_wp2_with fail;refine(arD A3 c3 w2.heap.size u _ jx (by omega)).mono ?_;rintro e N ⟨rfl,j,F,oU,cO,af⟩;have eo:Below w.heap.size w N:=cT.trans (af.mono L.size);have dN:=aoo C F (oU.imp (fun h=>of_decide_eq_false h));have Oq:=F.length_eq;have aX:∀x∈j,BF x:=fun x hx=>(Ip.1 C).2.1 x (F.mem_iff.1 hx);have aj:∀x∈j,x.code.size<=maxLen:=fun x hx=>HZ.out x (F.mem_iff.1 hx);have ak:j.Pairwise (fun a b=>a.code≠b.code):=by rw[dN];exact aop C
 rw[<-dN]at HR;have cV:=atM aX;have aD:=atM aj;have aE:=atM ak;have D:=atM Oq;have a0:j.length<=16:=by omega
 have mh:=hy.aa eo;have al:=fun c=>afm E c;have J5:=atM al;clear aX aj ak dN F oU fW bA jx ad af G Z al Oq;have WU:ai jH 6 N N.heap.size A3 j:=cO;clear cO;obtain⟨n,X⟩:∃n,n=u.length:=⟨_,rfl⟩
 have o7:n<=j.length:=by have:=D.out;omega
 have zM:j.length<=n:=by have:=D.out;omega
 rw[<-X];clear D HZ h C E ab az hl;generalize u.length=n0 at X;clear X;go_wp2_with fail
 go_loopw [13,14,49] (fun v l i wr=>∃k:Nat,k<=j.length/\i=.int .i64 k/\l=.int .i64 (kF before base year (j.take k) z)/\Own aN 2 69 wr N.heap.size v (tk before base year (j.take k) z)/\Below N.heap.size N wr) (fun _ _ i _=>j.length-(intOf i).toNat)
 case atStart=>exact⟨0,by omega,rfl,rfl,Own.cC _ _,atS _ _⟩
 case round=>
  obtain⟨k,hk,rfl,rfl,r,S⟩:=hrel;have br:=S.size;have Fz:=Ww (before:=before) (year:=year) (P:=j.take k) (fun x hx=>cV.out x (auh hx)) a1 a2 z a3;by_cases I:k<j.length
  ·have aJ:k<n:=(by omega);obtain⟨b,off,rfl,hb,O⟩:=(WU.aa S).at_ I;have c0:=O 0 _ rfl;have c1:=O 1 _ rfl;have c2:=O 2 _ rfl;have c3:=O 3 _ rfl;have c4:=O 4 _ rfl;have c5:=O 5 _ rfl;simp only[atQ]at c0;clear O;have T:Hid (j.take (k+1)=j.take k++[j[k]]):=aud I;have Nb:=cV.out _ (atT I);have fq:=aD.out _ (atT I);generalize am:kF before base year (j.take k) z=l0 at Fz;have Iq:=atM am;clear am;obtain⟨r1,r2⟩:=Fz;have a5:(tk before base year (j.take k) z).length<=16:=at7 (abK _ _) (by simp;omega);by_cases U:j[k].before=before;rotate_left
   ·have aM:(j[k].before==before)=false:=(by simpa using U);have y:=atM (SE (P:=j.take k) Iq.out (afo (base:=base) (year:=year) (l0:=l0) U));clear U;go_wp2;go_roundw
    case rel=>exact⟨k+1,by omega,by go_num,by rw[T.out,y.out.2],by rw[T.out,y.out.1];exact r.alloc _,S.alloc br _⟩
    case measure=>simp[intOf];omega
   ·have aM:(j[k].before==before)=true:=(by simpa using U);have CC:=atM U;clear U;obtain⟨t1,t2⟩:=J5.out j[k].code;obtain⟨q1,q2⟩:=aaJ (taken:=oh year j[k].code) Nb a1 a2;go_wp2_with fail;have J:=ah.new wr 166 #[.string j[k].code,.int .i64 j[k].aT,.bool j[k].before,.int .i64 j[k].amount,.int .i64 j[k].cB,.int .i64 j[k].cap];have Q:=r.alloc (.cells #[.string j[k].code,.int .i64 j[k].aT,.bool j[k].before,.int .i64 j[k].amount,.int .i64 j[k].cB,.int .i64 j[k].cap] 166);have mB:=eP S (.cells #[.string j[k].code,.int .i64 j[k].aT,.bool j[k].before,.int .i64 j[k].amount,.int .i64 j[k].cB,.int .i64 j[k].cap] 166);have mA:(wr.alloc (Obj.cells #[.string j[k].code,.int .i64 j[k].aT,.bool j[k].before,.int .i64 j[k].amount,.int .i64 j[k].cB,.int .i64 j[k].cap] 166)).heap.size=wr.heap.size+1:=(by simp);generalize wr.alloc (Obj.cells _ _)=W at mA mB J Q|-;have Nc:=mh.aa mB;have V:wr.heap.size<W.heap.size:=(by omega);clear mA c0 c1 c2 c3 c4 c5;have e0:=Bw.cell (w:=W) (a:=⟨wr.heap.size,0,none⟩) (by exact V) (J.cell 0);have e1:=Bw.cell (w:=W) (a:=⟨wr.heap.size,1,none⟩) (by exact V) (J.cell 1);have e2:=Bw.cell (w:=W) (a:=⟨wr.heap.size,2,none⟩) (by exact V) (J.cell 2);have e3:=Bw.cell (w:=W) (a:=⟨wr.heap.size,3,none⟩) (by exact V) (J.cell 3);have e4:=Bw.cell (w:=W) (a:=⟨wr.heap.size,4,none⟩) (by exact V) (J.cell 4);have e5:=Bw.cell (w:=W) (a:=⟨wr.heap.size,5,none⟩) (by exact V) (J.cell 5);refine oG (by kernel_rfl) (by kernel_rfl) ?_
    repeat(first|go_big_quiet_step((first|exact Bw.call _ (afc Y Ju year _ _ (Nc.aa (Bw.h _)) (by omega))|exact Bw.call _ (ajb j[k] base (oh year j[k].code) _ fq Nb a1 a2 t1 t2)))|quiet_step((first|exact Bw.call _ (afc Y Ju year _ _ (Nc.aa (Bw.h _)) (by omega))|exact Bw.call _ (ajb j[k] base (oh year j[k].code) _ fq Nb a1 a2 t1 t2))))
    refine wpQuiet_nil ?_;intro W2 aQ;obtain⟨⟨W9,K⟩,an⟩:=aQ;subst an;have aC:=J.aa K;have B:=Q.aa K;have KZ:=aA mB K;have a6:=aC.lt;have z0:=aC.cell 0;simp only[atY,at0]at z0;clear J Q mB K e0 e1 e2 e3 e4 e5 Nc r S;generalize SF:Io j[k] base (oh year j[k].code)=wn at q1 q2|-;have aR:=atM SF;clear SF;have Y2:=KZ.size;have lV:=fun g hg=>(B.bR (g:=g) hg).1;have HA:Hid (mW before base year j[k] l0=min wn l0):=(by rw[Hid,mW,atP CC.out,aR.out]);by_cases jl:0<min wn l0
    ·have y:=atM (aaK (P:=j.take k) Iq.out HA.out jl);have eT:min wn l0<=l0:=(by omega);go_wp2_with(at_builtin;(refine lD _ _ 51 ⟨j[k].code,min wn l0⟩ _ 24 _ nQ underlying51 B dG (by omega) rfl (mF _) (by omega) (by omega) (by omega) (by rfl) (by rfl) (by rfl) (by rfl) (by simp) (by rfl) ?_);intro v8 w8 cx ej);go_roundw
     case rel=>exact⟨k+1,by omega,by go_num,by rw[T.out,y.out.2],by rw[T.out,y.out.1];exact cx,kH KZ ej lV⟩
     case measure=>simp[intOf];omega
    ·have Cc:mW before base year j[k] l0=0:=(by rw[HA.out];omega);have y:=atM (SE (P:=j.take k) Iq.out Cc);clear Cc;have eT:min wn l0<=l0:=(by omega);go_wp2;go_roundw
     case rel=>exact⟨k+1,by omega,by go_num,by rw[T.out,y.out.2];congr 1;omega,by rw[T.out,y.out.1];exact B,KZ⟩
     case measure=>simp[intOf];omega
  ·have ao:j.take k=j:=aut (by omega);rw[ao]at r|-;have aJ:¬k<n:=(by omega);clear ao;have aS:(tk before base year j z).length<=16:=at7 (abK _ _) (by omega);have R:=aos (before:=before) (base:=base) (year:=year) aE.out z;generalize tk before base year j z=ts at r HR aS R;have aU:=atM R;clear R;obtain⟨A5,c5,rfl,dm,eR,nO,nP⟩:=r.kX dG;go_wp2_with fail;refine(ac7 A5 c5 N.heap.size ts _ r (by omega)).mono ?_;rintro e w6 ⟨rfl,zs,F,oU,J7,bu⟩;have F4:=F.length_eq;have ap:zs=bG ts:=aow F (YZ oU (aU.out.perm F.symm (fun h e=>h e.symm)));have aV:=atM ap;have QU:=atM F4;clear F4 ap F oU;go_wp2;go_ret2;rw[HE.out,HR.out,<-aV.out];refine⟨A5,c5,by rw[QU.out];rfl,J7,by have:=QU.out;omega,nP,(fun a ha=>by have:=eR a ha;have:=eo.size;omega),aA eo (S.trans bu)⟩
