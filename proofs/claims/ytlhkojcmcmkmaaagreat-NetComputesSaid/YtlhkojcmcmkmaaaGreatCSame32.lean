/- Conditions: as stated. -/
import Derived.Test.YtlhkojcmcmkmaaaGreatCCmp0
set_option maxRecDepth 100000
set_option maxHeartbeats 4000000
namespace Go.Proofs.YtlhkojcmcmkmaaaGreat
open Go.Proofs.Tryz
open Go.RowKit
theorem arq(y:eU)(w:World):Sem.run prog (binOp .eql 24 (.agg #[.int .i64 y.g,.int .i64 y.c,.int .i64 y.t,.int .i64 y.i,.int .i64 y.a]) (.agg #[.int .i64 y.g,.int .i64 y.c,.int .i64 y.t,.int .i64 y.i,.int .i64 y.a])) w=.ok (.bool true) w:=by
 have u0:=underlying3;have j:=Tryz.isAgg3;have l:=Tryz.sizeOf3;have hS:Tryz.prog.underlying 24=some (.struct (Tryz.prog.fieldsOf 24)):=by kernel_rfl
 have e:Tryz.prog.stoodInHeld 24=false:=by kernel_rfl
 rw[run_eql_struct,show(10000:Nat)=9999+1 from rfl,run_equalIn_agg w 9999 24 _ _ hS e];simp only[Program.fieldsOf,underlying24];go_simp
theorem ars:Tryz.prog.eqGuardType Tryz.prog.depth 24=false:=by kernel_rfl
theorem ai8(b:eU)(l:Int)(A B:Option Addr)(c d:Nat)(j:List cH)(w:World)(y:ai fV 3 w w.heap.size A j)(z:ai fV 3 w w.heap.size B j)(E:j.length<=1000000):
  Calls prog 25 #[.agg #[.int .i64 b.g,.int .i64 b.c,.int .i64 b.t,.int .i64 b.i,.int .i64 b.a,.int .i64 l,.slice A j.length c],.agg #[.int .i64 b.g,.int .i64 b.c,.int .i64 b.t,.int .i64 b.i,.int .i64 b.a,.int .i64 l,.slice B j.length d]] w fun e w'=>e=.returned (.bool true)/\Below w.heap.size w w':=by
 have F:=fun w=>arq b w;have C:=ars;have n:=eP (bC w (.cells #[.int .i64 b.g,.int .i64 b.c,.int .i64 b.t,.int .i64 b.i,.int .i64 b.a,.int .i64 l,.slice A j.length c] 27)) (.cells #[.int .i64 b.g,.int .i64 b.c,.int .i64 b.t,.int .i64 b.i,.int .i64 b.a,.int .i64 l,.slice B j.length d] 27);have r:=(ah.new w 27 #[.int .i64 b.g,.int .i64 b.c,.int .i64 b.t,.int .i64 b.i,.int .i64 b.a,.int .i64 l,.slice A j.length c]).alloc (.cells #[.int .i64 b.g,.int .i64 b.c,.int .i64 b.t,.int .i64 b.i,.int .i64 b.a,.int .i64 l,.slice B j.length d] 27);have p:=ah.new (w.alloc (.cells #[.int .i64 b.g,.int .i64 b.c,.int .i64 b.t,.int .i64 b.i,.int .i64 b.a,.int .i64 l,.slice A j.length c] 27)) 27 #[.int .i64 b.g,.int .i64 b.c,.int .i64 b.t,.int .i64 b.i,.int .i64 b.a,.int .i64 l,.slice B j.length d];rw[at2]at p;go_enter func25,ntmps25;go_upto_region 1 with fail
 have D:=atM (fun(W:World) (u:Below w.heap.size w W)=>arj A B c d j W (y.aa u) (z.aa u) (by omega));generalize World.alloc (w.alloc _) _=W at n r p|-;obtain⟨G,I,J,K,L,M,N⟩:=r.cz7;obtain⟨O,P,Q,R,S,T,U⟩:=p.cz7;go_wp2_with fail;refine(D.out W n).mono ?_;rintro e w' ⟨rfl,q,rfl⟩;go_wp2;go_ret;exact⟨rfl,below_drewN n q⟩
theorem ai9(p i n:Int)(A B T U:Option Addr)(c d tc r:Nat)(j:List Int)(tk:List Elem)(w:World)(hA:ai encI 1 w w.heap.size A j)(hB:ai encI 1 w w.heap.size B j)(hT:ai aN 2 w w.heap.size T tk)(hU:ai aN 2 w w.heap.size U tk)(hl:j.length<=1000000)(ab:tk.length<=1000000):
  Calls prog 26 #[.agg #[.int .i64 p,.int .i64 i,.int .i64 n,.slice A j.length c,.slice T tk.length tc],.agg #[.int .i64 p,.int .i64 i,.int .i64 n,.slice B j.length d,.slice U tk.length r]] w fun e w'=>e=.returned (.bool true)/\Below w.heap.size w w':=by
 have u:=eP (bC w (.cells #[.int .i64 p,.int .i64 i,.int .i64 n,.slice A j.length c,.slice T tk.length tc] 53)) (.cells #[.int .i64 p,.int .i64 i,.int .i64 n,.slice B j.length d,.slice U tk.length r] 53);have L:=(ah.new w 53 #[.int .i64 p,.int .i64 i,.int .i64 n,.slice A j.length c,.slice T tk.length tc]).alloc (.cells #[.int .i64 p,.int .i64 i,.int .i64 n,.slice B j.length d,.slice U tk.length r] 53);have G:=ah.new (w.alloc (.cells #[.int .i64 p,.int .i64 i,.int .i64 n,.slice A j.length c,.slice T tk.length tc] 53)) 53 #[.int .i64 p,.int .i64 i,.int .i64 n,.slice B j.length d,.slice U tk.length r];rw[at2]at G;have HS:Hid (∀W:World,Below w.heap.size w W->Calls prog 62 #[.slice T tk.length tc,.slice U tk.length r] W fun e w'=>e=.returned (.bool true)/\∃q,w'=W.drewN q):=fun W S=>by
  have:=al7 T U tc r tk tk W W.heap.size (hT.aa S) (hU.aa S) (by omega) (by omega)
  rwa [show PK tk tk=true from by simp[PK]]at this
 have kT:((j.length:Int)!=(j.length:Int))=false:=by simp
 go_enter func26,ntmps26;go_upto_region 1 with fail
 generalize World.alloc (w.alloc _) _=W at u L G|-;have V:=atM (hA.aa u);have X:=atM (hB.aa u);obtain⟨z0,z1,z2,I,z4⟩:=L.cz5;obtain⟨y0,y1,y2,J,y4⟩:=G.cz5;go_wp2_with fail;refine(HS.out W u).mono ?_;rintro e w' ⟨rfl,q,rfl⟩;have M:=below_drewN (atS W.heap.size W) q;clear z0 z1 z2 I z4 y0 y1 y2 J y4;go_wp2_with fail
 go_loopw [5] (fun v wr=>∃k:Nat,k<=j.length/\v=.int .i64 k/\Below W.heap.size W wr) (fun v _=>j.length-(intOf v).toNat)
 case atStart=>exact⟨0,by omega,rfl,M⟩
 case round=>
  rename World=>wr
  obtain⟨k,hk,rfl,l⟩:=hrel;have y:=L.aa l;have z:=G.aa l;have I:=y.cell 3;have J:=z.cell 3;simp only[aq,ar,au]at I J;have N:=y.lt;have O:=z.lt;by_cases C:k<j.length
  ·obtain⟨b1,o1,rfl,P,D⟩:=(V.out.aa l).at_ C;obtain⟨b2,o2,rfl,Q,E⟩:=(X.out.aa l).at_ C;have Y:=D 0 _ rfl;have d0:=E 0 _ rfl;simp only[atQ,auo]at Y d0;have fL:(k:Int)<(j.length:Int):=(by omega);have ad:(j[k]!=j[k])=false:=(by simp);clear D E V X;go_upto_region 6 with fail
   have e3:=Bw.cell (w:=wr) (a:=⟨w.heap.size,3,none⟩) (by exact N) I;have f3:=Bw.cell (w:=wr) (a:=⟨w.heap.size+1,3,none⟩) (by exact O) J;have g0:=Bw.cell (w:=wr) (a:=⟨b1,o1+k,none⟩) (by exact P) Y;have g1:=Bw.cell (w:=wr) (a:=⟨b2,o2+k,none⟩) (by exact Q) d0;refine oG (by kernel_rfl) (by kernel_rfl) ?_
   repeat(go_big_quiet_step(fail))
   refine wpQuiet_nil ?_;intro Z R;obtain⟨⟨Z,Kk⟩,F⟩:=R;subst F;have bu:=aA l Kk;go_wp2;go_roundw
   case rel=>
    have K:∃k':Nat,k'<=j.length/\Value.int .i64 ((k:Int)+1)=.int .i64 k'/\Below W.heap.size W Z:=⟨k+1,by omega,by go_num,bu⟩
    first|exact K|((repeat apply Exists.intro);exact⟨K,rfl⟩)
   case measure=>simp[intOf];omega
  ·obtain rfl:k=j.length:=by omega
   have K:=aA u l;go_wp2;go_ret;exact⟨rfl,K⟩
