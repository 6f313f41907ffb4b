/- Conditions: as stated. -/
import Derived.Test.YtlhkojcmcmkmaaaGreatSAddD
import Derived.Test.YtlhkojcmcmkmaaaGreatSP31c
set_option maxRecDepth 100000
set_option maxHeartbeats 4000000
namespace Go.Proofs.YtlhkojcmcmkmaaaGreat
open Go.Proofs.Tryz
open Go.RowKit Go.Sort Go.Shelf
theorem agp(A T:Option Addr)(n tc:Nat)(left:Int)(w:World):
  Calls prog 169 #[.slice A 0 n,.slice none 0 0,.int .i64 left,.slice T 0 tc] w fun e w'=>e=.returned (.int .i64 0)/\Below w.heap.size w w':=by
 go_enter func169,ntmps169;go_upto_region 1 with fail
 have u:=bD w (.cells #[.slice A 0 n] 47);generalize w.alloc (.cells #[.slice A 0 n] 47)=W at u|-;have p:=arH (agn none 0 [] W (fun h=>absurd rfl h) (by simp));go_wp2_with fail;refine arP p.out ?_;rintro e E ⟨v,rfl,l,r⟩;have B:=aB u r;have C:∃z j,v=.slice z 0 j:=by
  rcases l.2 with⟨y,_⟩|⟨g,j,D,y,_⟩
  ·exact⟨none,0,y⟩
  ·exact⟨some ⟨g,0,none⟩,j,y⟩
 obtain⟨z,j,rfl⟩:=C;clear l p r u;go_wp2_with fail;refine(aoz _ _ _ _ _).mono ?_;rintro e w' ⟨rfl,rfl⟩;go_wp2;refine wp_loop_rounds 1 ?_;rw[rounds_succ];go_wp2;go_ret;exact⟨rfl,B⟩
theorem aoA(s:kV)(net j:Int)(A:Option Addr)(n:Nat)(l:List eX)(w:World)(h:aj Ke 5 w w.heap.size A l)(z:ot s)(G:E8 l)(M:0<=net)(N:¬net<=1000000000)(d0:0<=j)(d1:j<=20):
  Calls prog 109 #[.agg #[.int .i64 s.fixed,.int .i64 s.bn,.int .i64 s.lower,.int .i64 s.share,.int .i64 s.top],.int .i64 net,.int .i64 j,.slice A l.length n] w fun e w'=>e=.returned (.tuple #[.slice none 0 0,.int .i64 2])/\Below w.heap.size w w':=by
 have O:=arH (fun w=>Tx s w z);have P:Hid (∀W,Below w.heap.size w W->Calls prog 157 #[.slice A l.length n] W fun e w'=>e=.returned (.bool true)/\Below W.heap.size W w'):=fun W Q=>abh A n l W (h.aa Q) G;have R:=arH (fun w=>aoq s net j w z M N d0 d1);clear h z G;have y:=ah.new w 43 #[.int .i64 s.fixed,.int .i64 s.bn,.int .i64 s.lower,.int .i64 s.share,.int .i64 s.top];have I:=bD w (.cells #[.int .i64 s.fixed,.int .i64 s.bn,.int .i64 s.lower,.int .i64 s.share,.int .i64 s.top] 43);go_enter func109,ntmps109;go_upto_region 1 with fail
 generalize w.alloc (Obj.cells _ _)=W at y I|-;obtain⟨B,C,D,E,F⟩:=y.cz5;go_wp2_with fail;refine arP (O.out _) ?_;rintro e U ⟨rfl,p⟩;have J:=y.aa p;have K:=aB I p;clear y p B C D E F;go_wp2_with fail;refine arP (P.out _ K) ?_;rintro e V ⟨rfl,r⟩;have L:=J.aa r;have S:=aB K r;clear J r;obtain⟨B,C,D,E,F⟩:=L.cz5;go_wp2_with fail;refine arP (R.out _) ?_;rintro e w3 ⟨rfl,u⟩;have T:=aB S u;clear L u B C D E F;go_wp2;go_ret2;exact⟨rfl,T⟩
def agq(e:World)(g:Nat)(v:Value)(w:World):Prop:=Below e.heap.size e w/\Ay g v w
theorem agq.j5(j:World)(g:Nat)(v:Value):gu (agq j g v):=fun _ _ h e=>⟨aB h.1 e,h.2.aa e⟩
theorem aoB(s:kV)(net j:Int)(A:Option Addr)(l:Nat)(w:World)(u:ot s)(L:E8 [])(G:0<=net)(I:net<=1000000000)(d0:0<=j)(d1:j<=20):
  Calls prog 109 #[.agg #[.int .i64 s.fixed,.int .i64 s.bn,.int .i64 s.lower,.int .i64 s.share,.int .i64 s.top],.int .i64 net,.int .i64 j,.slice A 0 l] w fun e w'=>e=.returned (.tuple #[.slice none 0 0,.int .i64 0])/\Below w.heap.size w w':=by
 have M:=arH (fun w=>Tx s w u);have N:Hid (∀W,Calls prog 157 #[.slice A 0 l] W fun e w'=>e=.returned (.bool true)/\Below W.heap.size W w'):=fun W=>abh A l [] W (fun h=>absurd rfl h) L;have O:=arH (fun w=>aor s net j w u G I d0 d1);have P:=arH (fun w=>aop s net j w u G I d0 d1);obtain⟨_,⟨r0,r1⟩,⟨w0,En⟩,_⟩:=Ml u G I d0 d1;clear u L;have F:=ah.new w 43 #[.int .i64 s.fixed,.int .i64 s.bn,.int .i64 s.lower,.int .i64 s.share,.int .i64 s.top];have J:=bD w (.cells #[.int .i64 s.fixed,.int .i64 s.bn,.int .i64 s.lower,.int .i64 s.share,.int .i64 s.top] 43);generalize jR s net j=lo at*;generalize o8 s net j=pr at*;have D5:=Zd 0 0 rfl (by omega);go_enter func109,ntmps109;go_upto_region 1 with fail
 generalize w.alloc (Obj.cells _ _)=W at F J|-;obtain⟨y,z,B,C,D⟩:=F.cz5;go_wp2_with fail;refine arP (M.out _) ?_;rintro e w1 ⟨rfl,n⟩;have Q:=F.aa n;have R:=aB J n;clear F n y z B C D;go_wp2_with fail;refine arP (N.out _) ?_;rintro e w2 ⟨rfl,p⟩;have K:=Q.aa p;have S:=aB R p;clear Q p;obtain⟨y,z,B,C,D⟩:=K.cz5;go_wp2_with fail;refine arP (O.out _) ?_;rintro e w3 ⟨rfl,r⟩;have T:=K.aa r;have U:=aB S r;clear K r y z B C D;obtain⟨y,z,B,C,D⟩:=T.cz5;go_wp2_with fail;refine arP (P.out _) ?_;rintro e V ⟨rfl,E⟩;have Y:=aB U E;clear T E y z B C D U S R J N M O P;go_wp2;refine wp_loop_rounds 1 ?_;rw[rounds_succ];go_upto_region 18 with fail
 have X:=bD V (.cells (madeCells #[.int .i64 0] 0) 3);generalize V.alloc (Obj.cells _ _)=W5 at X|-;have Z:=aB Y X;go_wp2_with fail;refine arP (agp _ _ _ _ _ _) ?_;rintro e w6 ⟨rfl,bL⟩;have Ev:=aB Z bL;go_wp2;refine wp_loop_rounds 1 ?_;rw[rounds_succ];go_wp2_with fail;refine arP (agp _ _ _ _ _ _) ?_;rintro e w7 ⟨rfl,bk⟩;have PA:=aB Ev bk;go_wp2;refine wp_loop_rounds 1 ?_;rw[rounds_succ];go_wp2;go_ret2;exact⟨rfl,PA⟩
theorem aoC(s:kV)(net e:Int):Fa s net e []=[]:=rfl
def Lx(net:Int):Int:=if net<=1000000000 then 0 else 2
def Nu(s:kV)(net e:Int)(l:List eX):List Elem:=if net<=1000000000 then Fa s net e l else[]
theorem aoD(s:kV)(net j:Int)(A:Option Addr)(n:Nat)(l:List eX)(w:World)(h:aj Ke 5 w w.heap.size A l)(B:ot s)(u:E8 l)(C:0<=net)(d0:0<=j)(d1:j<=20):
  Calls prog 109 #[.agg #[.int .i64 s.fixed,.int .i64 s.bn,.int .i64 s.lower,.int .i64 s.share,.int .i64 s.top],.int .i64 net,.int .i64 j,.slice A l.length n] w fun e w'=>∃x:Option Addr×Nat,e=.returned (.tuple #[.slice x.1 (Nu s net j l).length x.2,.int .i64 (Lx net)])/\Below w.heap.size w w'/\LG (Nu s net j l) w.heap.size x w':=by
 by_cases p:net<=1000000000
 ·rw[Lx,Nu,arK p,arK p];rcases l with _|⟨o,r⟩
  ·rw[aoC];refine(aoB s net j A n w B u C p d0 d1).mono ?_;rintro e w' ⟨rfl,y⟩;exact⟨(none,0),rfl,y,aj.cL,by simp,by simp,fun a z=>by cases z⟩
  ·exact absurd u.nil (List.cons_ne_nil _ _)
 ·rw[Lx,Nu,arJ p,arJ p];refine(aoA s net j A n l w h B u C p d0 d1).mono ?_;rintro e w' ⟨rfl,y⟩;exact⟨(none,0),rfl,y,aj.cL,by simp,by simp,fun a z=>by cases z⟩
def abi(j:World)(g:Nat)(c:mR)(s:jD)(l:List dH)(m:List Elem)(w w':World):Prop:=
 ∃e,dI j g c {s with lv:=e,left:=s.left-aR m} (l++ag 7 m) w'/\Mv g s.lv w e w'
theorem aoE{j:World}{g:Nat}{c:mR}{s:jD}{l:List dH}{w:World}(h:dI j g c s l w)(p:aj aQ 2 j j.heap.size c.K c.kept)(r:c.first=false)(u:l.length<=1000)(y:c.kept.length<=128)(z:∀x∈c.kept,0<=x.amount/\x.amount<=1000000000000)
  (I:-1000000000000<=s.left) (J:s.left<=1000000000000):
  Calls prog 56 #[.pointer (some ⟨g,0,none⟩)] w (LL j 0 (abi j g c s l c.kept w)):=by
 have B:w.cell? ⟨g,25,none⟩=some (.slice c.K c.kept.length c.kc):=h.blk.cell 25;have C:w.cell? ⟨g,26,none⟩=some (.bool false):=by have:w.cell? ⟨g,26,none⟩=some (.bool c.first):=h.blk.cell 26;rw[this,r]
 have D:nw aQ 2 w g s.lv c.K c.kept:=nw.old (p.below h.aW) h.aW.size h.hg (fun q E=>(h.row q E).1);go_enter func56,ntmps56;go_wp2_with fail;refine(Un h 7 c.K c.kc c.kept D u y (by constructor<;>omega) z).mono ?_;rintro e L ⟨rfl,F,n,G⟩;go_wp2;go_ret;exact⟨rfl,n.aW,fun _=>⟨F,n,G⟩⟩
theorem aoF{C:World}{g:Nat}{c:mR}{s:jD}{Q:List dH}{w:World}(h:dI C g c s Q w)(Z:c.p.In C)(hf:c.first=true)(CW:Q.length<=1000)(BC:ot c.r.sh)(Dk:E8 c.p.os)(d0:0<=c.p.deps)(d1:c.p.deps<=20)
  (l0:-1000000000000<=s.left) (l1:s.left<=1000000000000) (c0:-1000000000<=s.b.c) (c1:s.b.c<=1000000000) (a0:-1000000000<=s.b.a) (a1:s.b.a<=1000000000) (net:Int) (E:net=max (s.left-max (s.b.c-s.b.a) 0) 0)
  (m:List Elem) (hm:m=Nu c.r.sh net c.p.deps c.p.os) (u:Int) (G:u=Lx net) (z:u=0->m.length<=128/\∀x∈m,0<=x.amount/\x.amount<=1000000000000):
  Calls prog 56 #[.pointer (some ⟨g,0,none⟩)] w (LL C u (abi C g c s Q m w)):=by
 have HX:=arH z;have AA:Hid (∀W,Below C.heap.size C W->Calls prog 109 #[.agg #[.int .i64 c.r.sh.fixed,.int .i64 c.r.sh.bn,.int .i64 c.r.sh.lower,.int .i64 c.r.sh.share,.int .i64 c.r.sh.top],.int .i64 net,.int .i64 c.p.deps,.slice c.p.Ao c.p.os.length c.p.co] W fun e w'=>∃x:Option Addr×Nat,e=.returned (.tuple #[.slice x.1 m.length x.2,.int .i64 u])/\Below W.heap.size W w'/\LG m W.heap.size x w'):=fun W I=>by rw[hm,G];exact aoD c.r.sh net c.p.deps c.p.Ao c.p.co c.p.os W (Z.aa I).os BC Dk (by omega) d0 d1
 have HI:=arH h;have R:w.cell? ⟨g,25,none⟩=some (.slice c.K c.kept.length c.kc):=h.blk.cell 25;have S:w.cell? ⟨g,26,none⟩=some (.bool true):=by have:w.cell? ⟨g,26,none⟩=some (.bool c.first):=h.blk.cell 26;rw[this,hf]
 have LI:w.cell? ⟨g,28,none⟩=some (.int .i64 s.b.c):=h.blk.cell 28;have Tz:w.cell? ⟨g,31,none⟩=some (.int .i64 s.b.a):=h.blk.cell 31;have J:=h.lt;have X1:=Bw.cell (w:=w) (a:=⟨g,28,none⟩) (by exact J) LI;have T:=Bw.cell (w:=w) (a:=⟨g,31,none⟩) (by exact J) Tz;have OJ:=arH E;clear h Z hf BC Dk hm G z E;go_enter func56,ntmps56;go_upto_region 3 with fail
 refine qi (by kernel_rfl) (by kernel_rfl) ?_
 repeat(first|go_big_quiet_step(fail)|quiet_step(fail))
 refine wpQuiet_nil ?_;intro l U;obtain⟨⟨l,B⟩,L⟩:=U;subst L;have j:=HI.out.aa B;have ey:=Mv.aW (g:=g) (v:=s.lv) B;clear R S LI Tz X1 T HI B;obtain⟨D,M⟩:∃D,D=max (s.b.c-s.b.a) 0:=⟨_,rfl⟩
 have f0:0<=D:=by omega
 have f1:D<=2000000000:=by omega
 rw[<-M]at OJ|-;clear M;have y:=j.lt;have We:l.cell? ⟨g,10,none⟩=some (.int .i64 c.r.sh.fixed):=j.blk.cell 10;have Wf:l.cell? ⟨g,11,none⟩=some (.int .i64 c.r.sh.bn):=j.blk.cell 11;have Wh:l.cell? ⟨g,12,none⟩=some (.int .i64 c.r.sh.lower):=j.blk.cell 12;have Wi:l.cell? ⟨g,13,none⟩=some (.int .i64 c.r.sh.share):=j.blk.cell 13;have Wj:l.cell? ⟨g,14,none⟩=some (.int .i64 c.r.sh.top):=j.blk.cell 14;have Nv:l.cell? ⟨g,16,none⟩=some (.int .i64 c.p.deps):=j.blk.cell 16;have Nw:l.cell? ⟨g,18,none⟩=some (.slice c.p.Ao c.p.os.length c.p.co):=j.blk.cell 18;have N:l.cell? ⟨g,33,none⟩=some (.int .i64 s.left):=j.blk.cell 33;have Q4:Hid (∀W,Below l.heap.size l W->Calls prog 109 #[.agg #[.int .i64 c.r.sh.fixed,.int .i64 c.r.sh.bn,.int .i64 c.r.sh.lower,.int .i64 c.r.sh.share,.int .i64 c.r.sh.top],.int .i64 (max (s.left-D) 0),.int .i64 c.p.deps,.slice c.p.Ao c.p.os.length c.p.co] W fun e w'=>∃x:Option Addr×Nat,e=.returned (.tuple #[.slice x.1 m.length x.2,.int .i64 u])/\Below W.heap.size W w'/\LG m W.heap.size x w'):=fun W I=>by rw[<-OJ.out];exact AA.out W (aB j.aW I)
 clear AA;go_upto_region 4 with fail
 refine NP (aE:=?CV) [0,1,2,3,4,5,6,7,8,9,10,11,12,13,14,15,16,17,18,19,20,21] [23,24,25,26,27] 22 109 #[.agg #[.int .i64 c.r.sh.fixed,.int .i64 c.r.sh.bn,.int .i64 c.r.sh.lower,.int .i64 c.r.sh.share,.int .i64 c.r.sh.top],.int .i64 (max (s.left-D) 0),.int .i64 c.p.deps,.slice c.p.Ao c.p.os.length c.p.co] (fun x:Option Addr×Nat=>.tuple #[.slice x.1 m.length x.2,.int .i64 u]) ?Um (LG m l.heap.size) (by kernel_rfl) (by kernel_rfl) rfl (by kernel_rfl) (by kernel_rfl) (by rfl) (by kernel_rfl) (by kernel_rfl) (by rfl) (by kernel_rfl) (by kernel_rfl) rfl rfl ?H1 ?S1 ?N1 ?R1 ?Iu ?J1 ?M1
 case H1=>
  intro F hF O;simp only[M3.cD,arQ,arR,arS];have ab:=aP.dM (F:=F) (a:=⟨g,10,none⟩) (by exact y) We;have ad:=aP.dM (F:=F) (a:=⟨g,11,none⟩) (by exact y) Wf;have af:=aP.dM (F:=F) (a:=⟨g,12,none⟩) (by exact y) Wh;have ai:=aP.dM (F:=F) (a:=⟨g,13,none⟩) (by exact y) Wi;have al:=aP.dM (F:=F) (a:=⟨g,14,none⟩) (by exact y) Wj;have am:=aP.dM (F:=F) (a:=⟨g,16,none⟩) (by exact y) Nv;have an:=aP.dM (F:=F) (a:=⟨g,18,none⟩) (by exact y) Nw;have LK:=aP.dM (F:=F) (a:=⟨g,33,none⟩) (by exact y) N
  repeat(first|go_big_quiet_step(first|fail)|quiet_step(first|fail))
  refine wpQuiet_nil ?_;rfl
 case S1=>rfl
 case N1=>exact fun _=>by first|rfl|go_simp
 case R1=>exact fun x w1 w2 z I=>⟨z.1.aa I,z.2⟩
 case Iu=>exact fun W1 n=>(Q4.out W1 n).mono (fun e w2 ⟨x,he,h5,h1,h2,h3,h4⟩=>⟨x,he,h5,h1,h2,h3,fun a P=>ar0 n.size (h4 a P)⟩)
 case J1=>
  intro x F hF O;simp only[M3.cD,arQ,arR,arS]
  repeat(first|go_big_quiet_step(fail)|quiet_step(fail))
  refine wpQuiet_nil ?_;rfl
 case M1=>
  intro x w1 n z
  try simp only[Act.put,ar4,ar2,ar3]
  obtain⟨A,V⟩:=x;obtain⟨hS,_,_,M⟩:=z;have hL:=Qd j hS M;have X:=j.aa n;have jY:=ey.trans (Mv.aW n);clear j ey Q4 hS M We Wf Wh Wi Wj Nv Nw N;by_cases Y:u=0;rotate_left
  ·have ao:(u !=0)=true:=(by simp[Y]);have ae:=X.aW;go_wp2;go_ret;exact⟨rfl,ae,fun e=>absurd e Y⟩
  ·subst Y;obtain⟨hl,P⟩:=HX.out rfl;go_wp2_with fail;refine(Un X 7 A V m hL CW hl (by constructor<;>omega) P).mono ?_;rintro e w4 ⟨rfl,v4,gV,kP⟩;have mq:=jY.trans kP;clear X jY hL P;go_wp2;go_ret;exact⟨rfl,gV.aW,fun _=>⟨v4,gV,mq⟩⟩
