/- Conditions: as stated. -/
import Derived.Test.YtlhkojcmcmkmaaaGreatKAddD
import Derived.Test.YtlhkojcmcmkmaaaGreatKP31c
set_option maxRecDepth 100000
set_option maxHeartbeats 4000000
namespace Go.Proofs.YtlhkojcmcmkmaaaGreat
open Go.Proofs.Tryz
open Go.RowKit Go.Sort Go.Shelf
theorem agb(A T:Option Addr)(n tc:Nat)(left:Int)(w:World):
  Calls prog 169 #[.slice A 0 n,.slice none 0 0,.int .i64 left,.slice T 0 tc] w fun e w'=>e=.returned (.int .i64 0)/\Below w.heap.size w w':=by
 go_enter func169,ntmps169;go_upto_region 1 with fail
 have u:=bF w (.cells #[.slice A 0 n] 47);generalize w.alloc (.cells #[.slice A 0 n] 47)=W at u|-;have p:=aq6 (af9 none 0 [] W (fun h=>absurd rfl h) (by simp));go_wp2_with fail;refine arf p.out ?_;rintro e E ⟨v,rfl,l,r⟩;have B:=aB u r;have C:∃z j,v=.slice z 0 j:=by
  rcases l.2 with⟨y,_⟩|⟨g,j,D,y,_⟩
  ·exact⟨none,0,y⟩
  ·exact⟨some ⟨g,0,none⟩,j,y⟩
 obtain⟨z,j,rfl⟩:=C;clear l p r u;go_wp2_with fail;refine(aoe _ _ _ _ _).mono ?_;rintro e w' ⟨rfl,rfl⟩;go_wp2;refine wp_loop_rounds 1 ?_;rw[rounds_succ];go_wp2;go_ret;exact⟨rfl,B⟩
theorem aof(s:kL)(net j:Int)(A:Option Addr)(n:Nat)(l:List eP)(w:World)(h:aj Iu 5 w w.heap.size A l)(z:nM s)(G:Ey l)(M:0<=net)(N:¬net<=1000000000)(d0:0<=j)(d1:j<=20):
  Calls prog 109 #[.agg #[.int .i64 s.fixed,.int .i64 s.bE,.int .i64 s.lower,.int .i64 s.share,.int .i64 s.top],.int .i64 net,.int .i64 j,.slice A l.length n] w fun e w'=>e=.returned (.tuple #[.slice none 0 0,.int .i64 2])/\Below w.heap.size w w':=by
 have O:=aq6 (fun w=>SJ s w z);have P:Hid (∀W,Below w.heap.size w W->Calls prog 157 #[.slice A l.length n] W fun e w'=>e=.returned (.bool true)/\Below W.heap.size W w'):=fun W Q=>aaU A n l W (h.aa Q) G;have R:=aq6 (fun w=>an5 s net j w z M N d0 d1);clear h z G;have y:=ah.new w 43 #[.int .i64 s.fixed,.int .i64 s.bE,.int .i64 s.lower,.int .i64 s.share,.int .i64 s.top];have I:=bF w (.cells #[.int .i64 s.fixed,.int .i64 s.bE,.int .i64 s.lower,.int .i64 s.share,.int .i64 s.top] 43);go_enter func109,ntmps109;go_upto_region 1 with fail
 generalize w.alloc (Obj.cells _ _)=W at y I|-;obtain⟨B,C,D,E,F⟩:=y.cz5;go_wp2_with fail;refine arf (O.out _) ?_;rintro e U ⟨rfl,p⟩;have J:=y.aa p;have K:=aB I p;clear y p B C D E F;go_wp2_with fail;refine arf (P.out _ K) ?_;rintro e V ⟨rfl,r⟩;have L:=J.aa r;have S:=aB K r;clear J r;obtain⟨B,C,D,E,F⟩:=L.cz5;go_wp2_with fail;refine arf (R.out _) ?_;rintro e w3 ⟨rfl,u⟩;have T:=aB S u;clear L u B C D E F;go_wp2;go_ret2;exact⟨rfl,T⟩
def agc(e:World)(g:Nat)(v:Value)(w:World):Prop:=Below e.heap.size e w/\zC g v w
theorem agc.jQ(j:World)(g:Nat)(v:Value):fW (agc j g v):=fun _ _ h e=>⟨aB h.1 e,h.2.aa e⟩
theorem aog(s:kL)(net j:Int)(A:Option Addr)(l:Nat)(w:World)(u:nM s)(L:Ey [])(G:0<=net)(I:net<=1000000000)(d0:0<=j)(d1:j<=20):
  Calls prog 109 #[.agg #[.int .i64 s.fixed,.int .i64 s.bE,.int .i64 s.lower,.int .i64 s.share,.int .i64 s.top],.int .i64 net,.int .i64 j,.slice A 0 l] w fun e w'=>e=.returned (.tuple #[.slice none 0 0,.int .i64 0])/\Below w.heap.size w w':=by
 have M:=aq6 (fun w=>SJ s w u);have N:Hid (∀W,Calls prog 157 #[.slice A 0 l] W fun e w'=>e=.returned (.bool true)/\Below W.heap.size W w'):=fun W=>aaU A l [] W (fun h=>absurd rfl h) L;have O:=aq6 (fun w=>an6 s net j w u G I d0 d1);have P:=aq6 (fun w=>an4 s net j w u G I d0 d1);obtain⟨_,⟨r0,r1⟩,⟨w0,DN⟩,_⟩:=LR u G I d0 d1;clear u L;have F:=ah.new w 43 #[.int .i64 s.fixed,.int .i64 s.bE,.int .i64 s.lower,.int .i64 s.share,.int .i64 s.top];have J:=bF w (.cells #[.int .i64 s.fixed,.int .i64 s.bE,.int .i64 s.lower,.int .i64 s.share,.int .i64 s.top] 43);generalize jF s net j=lo at*;generalize oL s net j=pr at*;have Ds:=YF 0 0 rfl (by omega);go_enter func109,ntmps109;go_upto_region 1 with fail
 generalize w.alloc (Obj.cells _ _)=W at F J|-;obtain⟨y,z,B,C,D⟩:=F.cz5;go_wp2_with fail;refine arf (M.out _) ?_;rintro e w1 ⟨rfl,n⟩;have Q:=F.aa n;have R:=aB J n;clear F n y z B C D;go_wp2_with fail;refine arf (N.out _) ?_;rintro e w2 ⟨rfl,p⟩;have K:=Q.aa p;have S:=aB R p;clear Q p;obtain⟨y,z,B,C,D⟩:=K.cz5;go_wp2_with fail;refine arf (O.out _) ?_;rintro e w3 ⟨rfl,r⟩;have T:=K.aa r;have U:=aB S r;clear K r y z B C D;obtain⟨y,z,B,C,D⟩:=T.cz5;go_wp2_with fail;refine arf (P.out _) ?_;rintro e V ⟨rfl,E⟩;have Y:=aB U E;clear T E y z B C D U S R J N M O P;go_wp2;refine wp_loop_rounds 1 ?_;rw[rounds_succ];go_upto_region 18 with fail
 have X:=bF V (.cells (madeCells #[.int .i64 0] 0) 3);generalize V.alloc (Obj.cells _ _)=W5 at X|-;have Z:=aB Y X;go_wp2_with fail;refine arf (agb _ _ _ _ _ _) ?_;rintro e w6 ⟨rfl,bN⟩;have DX:=aB Z bN;go_wp2;refine wp_loop_rounds 1 ?_;rw[rounds_succ];go_wp2_with fail;refine arf (agb _ _ _ _ _ _) ?_;rintro e w7 ⟨rfl,bp⟩;have O7:=aB DX bp;go_wp2;refine wp_loop_rounds 1 ?_;rw[rounds_succ];go_wp2;go_ret2;exact⟨rfl,O7⟩
theorem aoh(s:kL)(net e:Int):EA s net e []=[]:=rfl
def K4(net:Int):Int:=if net<=1000000000 then 0 else 2
def MT(s:kL)(net e:Int)(l:List eP):List Elem:=if net<=1000000000 then EA s net e l else[]
theorem aoi(s:kL)(net j:Int)(A:Option Addr)(n:Nat)(l:List eP)(w:World)(h:aj Iu 5 w w.heap.size A l)(B:nM s)(u:Ey l)(C:0<=net)(d0:0<=j)(d1:j<=20):
  Calls prog 109 #[.agg #[.int .i64 s.fixed,.int .i64 s.bE,.int .i64 s.lower,.int .i64 s.share,.int .i64 s.top],.int .i64 net,.int .i64 j,.slice A l.length n] w fun e w'=>∃x:Option Addr×Nat,e=.returned (.tuple #[.slice x.1 (MT s net j l).length x.2,.int .i64 (K4 net)])/\Below w.heap.size w w'/\Lc (MT s net j l) w.heap.size x w':=by
 by_cases p:net<=1000000000
 ·rw[K4,MT,aq9 p,aq9 p];rcases l with _|⟨o,r⟩
  ·rw[aoh];refine(aog s net j A n w B u C p d0 d1).mono ?_;rintro e w' ⟨rfl,y⟩;exact⟨(none,0),rfl,y,aj.cK,by simp,by simp,fun a z=>by cases z⟩
  ·exact absurd u.nil (List.cons_ne_nil _ _)
 ·rw[K4,MT,aq8 p,aq8 p];refine(aof s net j A n l w h B u C p d0 d1).mono ?_;rintro e w' ⟨rfl,y⟩;exact⟨(none,0),rfl,y,aj.cK,by simp,by simp,fun a z=>by cases z⟩
def aaV(j:World)(g:Nat)(c:mz)(s:jn)(l:List dE)(m:List Elem)(w w':World):Prop:=
 ∃e,dF j g c {s with lv:=e,left:=s.left-aQ m} (l++ag 7 m) w'/\Mv g s.lv w e w'
theorem aoj{j:World}{g:Nat}{c:mz}{s:jn}{l:List dE}{w:World}(h:dF j g c s l w)(p:aj aN 2 j j.heap.size c.K c.kept)(r:c.first=false)(u:l.length<=1000)(y:c.kept.length<=128)(z:∀x∈c.kept,0<=x.amount/\x.amount<=1000000000000)
  (I:-1000000000000<=s.left) (J:s.left<=1000000000000):
  Calls prog 56 #[.pointer (some ⟨g,0,none⟩)] w (Lh j 0 (aaV j g c s l c.kept w)):=by
 have B:w.cell? ⟨g,25,none⟩=some (.slice c.K c.kept.length c.kc):=h.blk.cell 25;have C:w.cell? ⟨g,26,none⟩=some (.bool false):=by have:w.cell? ⟨g,26,none⟩=some (.bool c.first):=h.blk.cell 26;rw[this,r]
 have D:mQ aN 2 w g s.lv c.K c.kept:=mQ.old (p.below h.aU) h.aU.size h.hg (fun q E=>(h.row q E).1);go_enter func56,ntmps56;go_wp2_with fail;refine(TT h 7 c.K c.kc c.kept D u y (by constructor<;>omega) z).mono ?_;rintro e L ⟨rfl,F,n,G⟩;go_wp2;go_ret;exact⟨rfl,n.aU,fun _=>⟨F,n,G⟩⟩
theorem aok{C:World}{g:Nat}{c:mz}{s:jn}{Q:List dE}{w:World}(h:dF C g c s Q w)(Z:c.p.In C)(hf:c.first=true)(Cp:Q.length<=1000)(AR:nM c.r.sh)(CL:Ey c.p.os)(d0:0<=c.p.deps)(d1:c.p.deps<=20)
  (l0:-1000000000000<=s.left) (l1:s.left<=1000000000000) (c0:-1000000000<=s.b.c) (c1:s.b.c<=1000000000) (a0:-1000000000<=s.b.a) (a1:s.b.a<=1000000000) (net:Int) (E:net=max (s.left-max (s.b.c-s.b.a) 0) 0)
  (m:List Elem) (hm:m=MT c.r.sh net c.p.deps c.p.os) (u:Int) (G:u=K4 net) (z:u=0->m.length<=128/\∀x∈m,0<=x.amount/\x.amount<=1000000000000):
  Calls prog 56 #[.pointer (some ⟨g,0,none⟩)] w (Lh C u (aaV C g c s Q m w)):=by
 have HX:=aq6 z;have zF:Hid (∀W,Below C.heap.size C W->Calls prog 109 #[.agg #[.int .i64 c.r.sh.fixed,.int .i64 c.r.sh.bE,.int .i64 c.r.sh.lower,.int .i64 c.r.sh.share,.int .i64 c.r.sh.top],.int .i64 net,.int .i64 c.p.deps,.slice c.p.Ao c.p.os.length c.p.co] W fun e w'=>∃x:Option Addr×Nat,e=.returned (.tuple #[.slice x.1 m.length x.2,.int .i64 u])/\Below W.heap.size W w'/\Lc m W.heap.size x w'):=fun W I=>by rw[hm,G];exact aoi c.r.sh net c.p.deps c.p.Ao c.p.co c.p.os W (Z.aa I).os AR CL (by omega) d0 d1
 have HI:=aq6 h;have R:w.cell? ⟨g,25,none⟩=some (.slice c.K c.kept.length c.kc):=h.blk.cell 25;have S:w.cell? ⟨g,26,none⟩=some (.bool true):=by have:w.cell? ⟨g,26,none⟩=some (.bool c.first):=h.blk.cell 26;rw[this,hf]
 have Le:w.cell? ⟨g,28,none⟩=some (.int .i64 s.b.c):=h.blk.cell 28;have SL:w.cell? ⟨g,31,none⟩=some (.int .i64 s.b.a):=h.blk.cell 31;have J:=h.lt;have Xu:=Bw.cell (w:=w) (a:=⟨g,28,none⟩) (by exact J) Le;have T:=Bw.cell (w:=w) (a:=⟨g,31,none⟩) (by exact J) SL;have Od:=aq6 E;clear h Z hf AR CL hm G z E;go_enter func56,ntmps56;go_upto_region 3 with fail
 refine pE (by kernel_rfl) (by kernel_rfl) ?_
 repeat(first|go_big_quiet_step(fail)|quiet_step(fail))
 refine wpQuiet_nil ?_;intro l U;obtain⟨⟨l,B⟩,L⟩:=U;subst L;have j:=HI.out.aa B;have eF:=Mv.aU (g:=g) (v:=s.lv) B;clear R S Le SL Xu T HI B;obtain⟨D,M⟩:∃D,D=max (s.b.c-s.b.a) 0:=⟨_,rfl⟩
 have f0:0<=D:=by omega
 have f1:D<=2000000000:=by omega
 rw[<-M]at Od|-;clear M;have y:=j.lt;have VE:l.cell? ⟨g,10,none⟩=some (.int .i64 c.r.sh.fixed):=j.blk.cell 10;have VF:l.cell? ⟨g,11,none⟩=some (.int .i64 c.r.sh.bE):=j.blk.cell 11;have VG:l.cell? ⟨g,12,none⟩=some (.int .i64 c.r.sh.lower):=j.blk.cell 12;have VH:l.cell? ⟨g,13,none⟩=some (.int .i64 c.r.sh.share):=j.blk.cell 13;have VI:l.cell? ⟨g,14,none⟩=some (.int .i64 c.r.sh.top):=j.blk.cell 14;have MU:l.cell? ⟨g,16,none⟩=some (.int .i64 c.p.deps):=j.blk.cell 16;have MV:l.cell? ⟨g,18,none⟩=some (.slice c.p.Ao c.p.os.length c.p.co):=j.blk.cell 18;have N:l.cell? ⟨g,33,none⟩=some (.int .i64 s.left):=j.blk.cell 33;have QC:Hid (∀W,Below l.heap.size l W->Calls prog 109 #[.agg #[.int .i64 c.r.sh.fixed,.int .i64 c.r.sh.bE,.int .i64 c.r.sh.lower,.int .i64 c.r.sh.share,.int .i64 c.r.sh.top],.int .i64 (max (s.left-D) 0),.int .i64 c.p.deps,.slice c.p.Ao c.p.os.length c.p.co] W fun e w'=>∃x:Option Addr×Nat,e=.returned (.tuple #[.slice x.1 m.length x.2,.int .i64 u])/\Below W.heap.size W w'/\Lc m W.heap.size x w'):=fun W I=>by rw[<-Od.out];exact zF.out W (aB j.aU I)
 clear zF;go_upto_region 4 with fail
 refine TR (aE:=?Co) [0,1,2,3,4,5,6,7,8,9,10,11,12,13,14,15,16,17,18,19,20,21] [23,24,25,26,27] 22 109 #[.agg #[.int .i64 c.r.sh.fixed,.int .i64 c.r.sh.bE,.int .i64 c.r.sh.lower,.int .i64 c.r.sh.share,.int .i64 c.r.sh.top],.int .i64 (max (s.left-D) 0),.int .i64 c.p.deps,.slice c.p.Ao c.p.os.length c.p.co] (fun x:Option Addr×Nat=>.tuple #[.slice x.1 m.length x.2,.int .i64 u]) ?TS (Lc m l.heap.size) (by kernel_rfl) (by kernel_rfl) rfl (by kernel_rfl) (by kernel_rfl) (by rfl) (by kernel_rfl) (by kernel_rfl) (by rfl) (by kernel_rfl) (by kernel_rfl) rfl rfl ?H1 ?S1 ?N1 ?R1 ?Ho ?J1 ?M1
 case H1=>
  intro F hF O;simp only[M3.cL,arh,ari,arj];have ab:=aR.dL (F:=F) (a:=⟨g,10,none⟩) (by exact y) VE;have ad:=aR.dL (F:=F) (a:=⟨g,11,none⟩) (by exact y) VF;have af:=aR.dL (F:=F) (a:=⟨g,12,none⟩) (by exact y) VG;have ai:=aR.dL (F:=F) (a:=⟨g,13,none⟩) (by exact y) VH;have al:=aR.dL (F:=F) (a:=⟨g,14,none⟩) (by exact y) VI;have am:=aR.dL (F:=F) (a:=⟨g,16,none⟩) (by exact y) MU;have an:=aR.dL (F:=F) (a:=⟨g,18,none⟩) (by exact y) MV;have Lg:=aR.dL (F:=F) (a:=⟨g,33,none⟩) (by exact y) N
  repeat(first|go_big_quiet_step(first|fail)|quiet_step(first|fail))
  refine wpQuiet_nil ?_;rfl
 case S1=>rfl
 case N1=>exact fun _=>by first|rfl|go_simp
 case R1=>exact fun x w1 w2 z I=>⟨z.1.aa I,z.2⟩
 case Ho=>exact fun W1 n=>(QC.out W1 n).mono (fun e w2 ⟨x,he,h5,h1,h2,h3,h4⟩=>⟨x,he,h5,h1,h2,h3,fun a P=>arq n.size (h4 a P)⟩)
 case J1=>
  intro x F hF O;simp only[M3.cL,arh,ari,arj]
  repeat(first|go_big_quiet_step(fail)|quiet_step(fail))
  refine wpQuiet_nil ?_;rfl
 case M1=>
  intro x w1 n z
  try simp only[Act.put,ary,arv,arx]
  obtain⟨A,V⟩:=x;obtain⟨hS,_,_,M⟩:=z;have hL:=PL j hS M;have X:=j.aa n;have jO:=eF.trans (Mv.aU n);clear j eF QC hS M VE VF VG VH VI MU MV N;by_cases Y:u=0;rotate_left
  ·have ao:(u !=0)=true:=(by simp[Y]);have ae:=X.aU;go_wp2;go_ret;exact⟨rfl,ae,fun e=>absurd e Y⟩
  ·subst Y;obtain⟨hl,P⟩:=HX.out rfl;go_wp2_with fail;refine(TT X 7 A V m hL Cp hl (by constructor<;>omega) P).mono ?_;rintro e w4 ⟨rfl,v4,lD,kG⟩;have lU:=jO.trans kG;clear X jO hL P;go_wp2;go_ret;exact⟨rfl,lD.aU,fun _=>⟨v4,lD,lU⟩⟩
