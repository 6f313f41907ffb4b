/- Conditions: as stated. -/
import Derived.Test.YtlhkojcmcmkmaaaGreatKG33
set_option maxRecDepth 100000
set_option maxHeartbeats 4000000
namespace Go.Proofs.YtlhkojcmcmkmaaaGreat
open Go.Proofs.Tryz
open Go.RowKit
theorem akH(l:List cm)(k:Nat)(h:k<l.length):zv (l.take (k+1))=zv (l.take k)+l[k].az:=by unfold zv;rw[arA h,aso,Hq];simp[aC]
theorem akI(l:List cm)(k:Nat)(h:k<l.length):oT (l.take (k+1))=oT (l.take k)+l[k].unit:=by unfold oT;rw[arA h,aso,Hq];simp[aC]
theorem akJ(l:List cB)(k:Nat)(h:k<l.length):BG (l.take (k+1))=max (BG (l.take k)) l[k].bJ:=by unfold BG;rw[arA h,List.foldl_append];rfl
theorem akK{l:List cB}(h:∀b∈l,b.bJ<=1000000):BG l<=1000000:=by
 have key:∀(l:List cB) (m:Int),m<=1000000->(∀b∈l,b.bJ<=1000000)->l.foldl (fun m b=>max m b.bJ) m<=1000000:=by
  intro l
  induction l with
  |nil=>intro m j _;exact j
  |cons a l p=>intro m j n;rw[asq];exact p _ (by have:=n a (by simp);omega) (fun b e=>n b (by simp[e]))
 exact key l 0 (by omega) h
theorem aen{l:List cm}(h:∀s∈l,0<=s.az/\s.az<=1000000)(p:l.length<=12):0<=zv l/\zv l<=12000000:=by have e:=kV (l:=l.map fun s=>s.az) (B:=1000000) (fun v j=>by obtain⟨s,n,rfl⟩:=arB.1 j;exact h s n);rw[arV]at e;unfold zv;omega
theorem akL{l:List cm}(h:∀s∈l,0<=s.unit/\s.unit<=100)(p:l.length<=12):0<=oT l/\oT l<=1200:=by have e:=kV (l:=l.map fun s=>s.unit) (B:=100) (fun v j=>by obtain⟨s,n,rfl⟩:=arB.1 j;exact h s n);rw[arV]at e;unfold oT;omega
theorem gY.akM{l:List cB}(h:gY l):∀b∈l,0<=b.bJ/\b.bJ<=1000000:=fun b n=>by obtain⟨i,hi,rfl⟩:=List.getElem_of_mem n;have e:=h.r0 i hi;have j:=h.r1 i hi;rw[aru,aro hi]at e j;exact⟨e,j⟩
theorem aeo(m:dN)(w:World)(h:m.In w)(u:CC m.t):Calls prog 121 #[m.val] w fun e w'=>e=.returned (.int .i64 (jW m.t))/\Below w.heap.size w w':=by
 have kg:m.ss.length<=12:=u.CK;have U:m.tm.t.aA.length<=24:=u.je.aA.len;have S:Hid (∀s∈m.ss,0<=s.az/\s.az<=1000000):=fun s I=>⟨(u.nO s I).e0,(u.nO s I).e1⟩
 have V:Hid (∀b∈m.tm.t.aA,0<=b.bJ/\b.bJ<=1000000):=u.je.aA.akM;have z:Hid (∀k,0<=zv (m.ss.take k)/\zv (m.ss.take k)<=12000000):=fun k=>aen (fun s I=>S.out s (arD I)) (by rw[ar7];omega);have B:Hid (∀k,0<=BG (m.tm.t.aA.take k)/\BG (m.tm.t.aA.take k)<=1000000):=fun k=>⟨(Vk _).1,akK fun b K=>(V.out b (arD K)).2⟩
 have X:Hid (jW m.t=zv (m.ss.take m.ss.length)+BG (m.tm.t.aA.take m.tm.t.aA.length)):=by rw[Hid,arW,arW];rfl
 clear u;unfold dN.val;go_enter func121,ntmps121;have J:=ah.new w 45 #[.slice m.Aw m.ws.length m.cw,.slice m.As m.ss.length m.cs,.int .i64 m.tm.t.method,.slice m.tm.Ab m.tm.t.aA.length m.tm.cb,.int .i64 m.tm.t.bg,.int .i64 m.tm.t.bh,.int .i64 m.tm.t.unit,.int .i64 m.tm.t.mode,.slice m.tm.Ar m.tm.t.rows.length m.tm.cr,.int .i64 m.count,.int .i64 m.sh.fixed,.int .i64 m.sh.bE,.int .i64 m.sh.lower,.int .i64 m.sh.share,.int .i64 m.sh.top,.int .i64 m.recover];have C:=bF w (.cells #[.slice m.Aw m.ws.length m.cw,.slice m.As m.ss.length m.cs,.int .i64 m.tm.t.method,.slice m.tm.Ab m.tm.t.aA.length m.tm.cb,.int .i64 m.tm.t.bg,.int .i64 m.tm.t.bh,.int .i64 m.tm.t.unit,.int .i64 m.tm.t.mode,.slice m.tm.Ar m.tm.t.rows.length m.tm.cr,.int .i64 m.count,.int .i64 m.sh.fixed,.int .i64 m.sh.bE,.int .i64 m.sh.lower,.int .i64 m.sh.share,.int .i64 m.sh.top,.int .i64 m.recover] 45);go_upto_region 1 with fail
 generalize w.alloc (Obj.cells _ _)=W at J C|-;have T:W.cell? ⟨w.heap.size,1,none⟩=some (.slice m.As m.ss.length m.cs):=J.cell 1;have D:=h.ss.aa C;have E:=h.tm.aA.aa C;go_wp2_with fail
 go_loopw [3,12] (fun s i wr=>∃k:Nat,k<=m.ss.length/\i=.int .i64 k/\s=.int .i64 (zv (m.ss.take k))/\Below W.heap.size W wr) (fun _ i _=>m.ss.length-(intOf i).toNat)
 case atStart=>exact⟨0,by omega,rfl,rfl,arb _ _⟩
 case round=>
  rename World=>wr
  obtain⟨k,hk,rfl,rfl,j⟩:=hrel;obtain⟨q0,q1⟩:=z.out k;by_cases l:k<m.ss.length
  ·obtain⟨b,L,M,K,n⟩:=(D.aa j).at_ l;have F:=n 0 _ rfl;have N:=n 1 _ rfl;have Y:=n 2 _ rfl;have Z:=n 3 _ rfl;have c4:=n 4 _ rfl;have c5:=n 5 _ rfl;have c6:=n 6 _ rfl;have c7:=n 7 _ rfl;simp only[ara]at F;have gK:(k:Int)<(m.ss.length:Int):=(by omega);have O:=aq6 (akH m.ss k l);obtain⟨x0,x1⟩:=S.out _ (arc l);clear n T;rw[M];generalize m.ss[k]=x at*;generalize zv (m.ss.take k)=q at*;have G:=ah.new wr 123 #[.string x.code,.int .i64 x.az,.int .i64 x.aS,.int .i64 x.floor,.int .i64 x.dw,.int .i64 x.unit,.int .i64 x.mode,.bool x.cA];have r:=bF wr (.cells #[.string x.code,.int .i64 x.az,.int .i64 x.aS,.int .i64 x.floor,.int .i64 x.dw,.int .i64 x.unit,.int .i64 x.mode,.bool x.cA] 123);go_upto_region 5 with fail
   generalize wr.alloc (Obj.cells _ _)=P at G r|-;have p1:P.cell? ⟨wr.heap.size,1,none⟩=some (.int .i64 x.az):=G.cell 1;have Q:=aB j r;clear F N Y Z c4 c5 c6 c7 r j;go_wp2;go_roundw
   case rel=>exact⟨k+1,by omega,by go_num,by rw[O.out],Q⟩
   case measure=>simp[intOf];omega
  ·obtain rfl:k=m.ss.length:=by omega
   have z3:wr.cell? ⟨w.heap.size,3,none⟩=some (.slice m.tm.Ab m.tm.t.aA.length m.tm.cb):=(j.cell (p:=⟨w.heap.size,3,none⟩) J.lt).trans (J.cell 3);have jr:=aB C j;have R:=E.aa j;clear T D E j C;have HQ:=aq6 (z.out m.ss.length);generalize hq:zv (m.ss.take m.ss.length)=q at*;clear hq;go_wp2_with fail
   go_loopw [4,25] (fun s i y=>∃k:Nat,k<=m.tm.t.aA.length/\i=.int .i64 k/\s=.int .i64 (BG (m.tm.t.aA.take k))/\Below wr.heap.size wr y) (fun _ i _=>m.tm.t.aA.length-(intOf i).toNat)
   case atStart=>exact⟨0,by omega,rfl,rfl,arb _ _⟩
   case round=>
    rename World=>y
    obtain⟨k,ab,rfl,rfl,j⟩:=hrel;obtain⟨r0,r1⟩:=B.out k;by_cases l:k<m.tm.t.aA.length
    ·obtain⟨b,L,M,K,n⟩:=(R.aa j).at_ l;have F:=n 0 _ rfl;have N:=n 1 _ rfl;simp only[ara]at F;have gK:(k:Int)<(m.tm.t.aA.length:Int):=(by omega);have O:=aq6 (akJ m.tm.t.aA k l);clear n z3;rw[M];generalize m.tm.t.aA[k]=x at*;generalize BG (m.tm.t.aA.take k)=p at*;have G:=ah.new y 127 #[.int .i64 x.bW,.int .i64 x.bJ];have r:=bF y (.cells #[.int .i64 x.bW,.int .i64 x.bJ] 127);go_upto_region 10 with fail
     generalize y.alloc (Obj.cells _ _)=P at G r|-;have p1:P.cell? ⟨y.heap.size,1,none⟩=some (.int .i64 x.bJ):=G.cell 1;have Q:=aB j r;clear F N r j;by_cases ad:p<x.bJ
     all_goals
      go_wp2;go_roundw
      case rel=>exact⟨k+1,by omega,by go_num,by rw[O.out],Q⟩
      case measure=>simp[intOf];omega
    ·obtain rfl:k=m.tm.t.aA.length:=by omega
     go_wp2;go_ret;have h5:=B.out m.tm.t.aA.length;have h6:=HQ.out;rw[arW]at h5;exact⟨by rw[X.out];simp[go_sem];unfold wrap64;omega,aB jr j⟩
theorem akN(m:dN)(w:World)(h:m.In w)(n:CC m.t)(T:jW m.t<=900000):Calls prog 78 #[m.val] w fun e w'=>e=.returned (.int .i64 (CR m.t))/\Below w.heap.size w w':=by
 have U:m.ss.length<=12:=n.CK;have u0:1<=m.tm.t.unit:=n.je.u0;have u1:m.tm.t.unit<=100:=n.je.u1;have N:Hid (∀s∈m.ss,0<=s.unit/\s.unit<=100):=fun s r=>⟨by have:=(n.nO s r).u0;omega,(n.nO s r).u1⟩
 have G:Hid (∀k,0<=oT (m.ss.take k)/\oT (m.ss.take k)<=1200):=fun k=>akL (fun s r=>N.out s (arD r)) (by rw[ar7];omega);have I:Hid (EU m.t=m.tm.t.unit+2+oT (m.ss.take m.ss.length)):=by rw[Hid,arW];rfl
 have V:Hid (0<=jW m.t):=by have h1:=(aen (l:=m.ss) (fun s r=>⟨(n.nO s r).e0,(n.nO s r).e1⟩) U).1;have h2:=(Vk m.tm.t.aA).1;have h3:jW m.t=zv m.ss+BG m.tm.t.aA:=rfl;rw[Hid];omega
 have X:Hid (∀W,Below w.heap.size w W->Calls prog 121 #[.agg #[.slice m.Aw m.ws.length m.cw,.slice m.As m.ss.length m.cs,.int .i64 m.tm.t.method,.slice m.tm.Ab m.tm.t.aA.length m.tm.cb,.int .i64 m.tm.t.bg,.int .i64 m.tm.t.bh,.int .i64 m.tm.t.unit,.int .i64 m.tm.t.mode,.slice m.tm.Ar m.tm.t.rows.length m.tm.cr,.int .i64 m.count,.int .i64 m.sh.fixed,.int .i64 m.sh.bE,.int .i64 m.sh.lower,.int .i64 m.sh.share,.int .i64 m.sh.top,.int .i64 m.recover]] W fun e w'=>e=.returned (.int .i64 (jW m.t))/\Below W.heap.size W w'):=fun W D=>aeo m W (h.aa D) n;clear n;unfold dN.val;go_enter func78,ntmps78;have E:=ah.new w 45 #[.slice m.Aw m.ws.length m.cw,.slice m.As m.ss.length m.cs,.int .i64 m.tm.t.method,.slice m.tm.Ab m.tm.t.aA.length m.tm.cb,.int .i64 m.tm.t.bg,.int .i64 m.tm.t.bh,.int .i64 m.tm.t.unit,.int .i64 m.tm.t.mode,.slice m.tm.Ar m.tm.t.rows.length m.tm.cr,.int .i64 m.count,.int .i64 m.sh.fixed,.int .i64 m.sh.bE,.int .i64 m.sh.lower,.int .i64 m.sh.share,.int .i64 m.sh.top,.int .i64 m.recover];have F:=bF w (.cells #[.slice m.Aw m.ws.length m.cw,.slice m.As m.ss.length m.cs,.int .i64 m.tm.t.method,.slice m.tm.Ab m.tm.t.aA.length m.tm.cb,.int .i64 m.tm.t.bg,.int .i64 m.tm.t.bh,.int .i64 m.tm.t.unit,.int .i64 m.tm.t.mode,.slice m.tm.Ar m.tm.t.rows.length m.tm.cr,.int .i64 m.count,.int .i64 m.sh.fixed,.int .i64 m.sh.bE,.int .i64 m.sh.lower,.int .i64 m.sh.share,.int .i64 m.sh.top,.int .i64 m.recover] 45);go_upto_region 1 with fail
 generalize w.alloc (Obj.cells _ _)=W at E F|-;have O:W.cell? ⟨w.heap.size,1,none⟩=some (.slice m.As m.ss.length m.cs):=E.cell 1;have P:W.cell? ⟨w.heap.size,6,none⟩=some (.int .i64 m.tm.t.unit):=E.cell 6;have C:=h.ss.aa F;obtain⟨u,hu⟩:∃u,u=m.tm.t.unit:=⟨_,rfl⟩
 rw[<-hu]at u0 u1 P I;clear hu;go_wp2_with fail
 go_loopw [3,13] (fun s i wr=>∃k:Nat,k<=m.ss.length/\i=.int .i64 k/\s=.int .i64 (u+2+oT (m.ss.take k))/\Below W.heap.size W wr) (fun _ i _=>m.ss.length-(intOf i).toNat)
 case atStart=>exact⟨0,by omega,rfl,by simp[oT,aC],arb _ _⟩
 case round=>
  rename World=>wr
  obtain⟨k,hk,rfl,rfl,j⟩:=hrel;obtain⟨q0,q1⟩:=G.out k;by_cases y:k<m.ss.length
  ·obtain⟨b,Y,Z,D,p⟩:=(C.aa j).at_ y;have Q:=p 0 _ rfl;have c1:=p 1 _ rfl;have c2:=p 2 _ rfl;have c3:=p 3 _ rfl;have c4:=p 4 _ rfl;have c5:=p 5 _ rfl;have c6:=p 6 _ rfl;have c7:=p 7 _ rfl;simp only[ara]at Q;have gK:(k:Int)<(m.ss.length:Int):=(by omega);have HT:=aq6 (akI m.ss k y);obtain⟨x0,x1⟩:=N.out _ (arc y);clear p O;rw[Z];generalize m.ss[k]=x at*;generalize oT (m.ss.take k)=q at*;have R:=ah.new wr 123 #[.string x.code,.int .i64 x.az,.int .i64 x.aS,.int .i64 x.floor,.int .i64 x.dw,.int .i64 x.unit,.int .i64 x.mode,.bool x.cA];have J:=bF wr (.cells #[.string x.code,.int .i64 x.az,.int .i64 x.aS,.int .i64 x.floor,.int .i64 x.dw,.int .i64 x.unit,.int .i64 x.mode,.bool x.cA] 123);go_upto_region 5 with fail
   generalize wr.alloc (Obj.cells _ _)=W1 at R J|-;have p1:W1.cell? ⟨wr.heap.size,5,none⟩=some (.int .i64 x.unit):=R.cell 5;have K:=aB j J;clear Q c1 c2 c3 c4 c5 c6 c7 J j;go_wp2;go_roundw
   case rel=>exact⟨k+1,by omega,by go_num,by rw[HT.out];congr 1;omega,K⟩
   case measure=>simp[intOf];omega
  ·obtain rfl:k=m.ss.length:=by omega
   have aZ:=E.aa j;have S:=aB F j;have L:Hid (CR m.t=2*(u+2+oT (m.ss.take m.ss.length))*1000000/(1000000-jW m.t)+2):=(by rw[Hid,CR,I.out]);have QQ:=V.out;clear O P C j F I;generalize oT (m.ss.take m.ss.length)=q at*;have QG:Hid (∀z,Below wr.heap.size wr z->Calls prog 121 #[.agg #[.slice m.Aw m.ws.length m.cw,.slice m.As m.ss.length m.cs,.int .i64 m.tm.t.method,.slice m.tm.Ab m.tm.t.aA.length m.tm.cb,.int .i64 m.tm.t.bg,.int .i64 m.tm.t.bh,.int .i64 m.tm.t.unit,.int .i64 m.tm.t.mode,.slice m.tm.Ar m.tm.t.rows.length m.tm.cr,.int .i64 m.count,.int .i64 m.sh.fixed,.int .i64 m.sh.bE,.int .i64 m.sh.lower,.int .i64 m.sh.share,.int .i64 m.sh.top,.int .i64 m.recover]] z fun e w'=>e=.returned (.int .i64 (jW m.t))/\Below z.heap.size z w'):=fun z D=>X.out z (aB S D);generalize jW m.t=B at*;have ab:¬(1000000-B=0):=(by omega);have M:0<=2*(u+2+q)*1000000:=(by omega);have hq:(2*(u+2+q)*1000000).tdiv (1000000-B)=2*(u+2+q)*1000000/(1000000-B):=asn M;have eQ:0<=2*(u+2+q)*1000000/(1000000-B):=ar5 M (by omega);have bP:2*(u+2+q)*1000000/(1000000-B)<=2*(u+2+q)*1000000:=Int.ediv_le_self _ M;generalize 2*(u+2+q)*1000000/(1000000-B)=dv at*;go_wp2_with(refine jK rfl _ _ rfl w.heap.size rfl aZ underlying45 rfl (by kernel_rfl) ?_);refine(QG.out wr (arb _ _)).mono ?_;rintro e w5 ⟨rfl,K⟩;go_wp2;go_ret;exact⟨by rw[L.out];first|rfl|(simp[go_sem];done)|(simp[go_sem];unfold wrap64;omega),aB S K⟩
theorem ad3(m:dN)(w:World)(h:m.In w)(u:CC m.t)(O:m.tm.t.method≠1)(J:∀s∈m.ss,s.floor=0)(P:jW m.t<=900000):Calls prog 70 #[m.val] w fun e w'=>e=.returned (.bool false)/\Below w.heap.size w w':=by
 have kg:m.ss.length<=12:=u.CK;have Q:=aq6 J;have eF:(m.tm.t.method==1)=false:=by simpa using O
 have K:Hid (∀W,Below w.heap.size w W->Calls prog 99 #[.agg #[.slice m.Aw m.ws.length m.cw,.slice m.As m.ss.length m.cs,.int .i64 m.tm.t.method,.slice m.tm.Ab m.tm.t.aA.length m.tm.cb,.int .i64 m.tm.t.bg,.int .i64 m.tm.t.bh,.int .i64 m.tm.t.unit,.int .i64 m.tm.t.mode,.slice m.tm.Ar m.tm.t.rows.length m.tm.cr,.int .i64 m.count,.int .i64 m.sh.fixed,.int .i64 m.sh.bE,.int .i64 m.sh.lower,.int .i64 m.sh.share,.int .i64 m.sh.top,.int .i64 m.recover]] W fun e w'=>e=.returned (.bool true)/\Below W.heap.size W w'):=fun W y=>aep m W (h.aa y) u;have R:Hid (∀W,Below w.heap.size w W->Calls prog 121 #[.agg #[.slice m.Aw m.ws.length m.cw,.slice m.As m.ss.length m.cs,.int .i64 m.tm.t.method,.slice m.tm.Ab m.tm.t.aA.length m.tm.cb,.int .i64 m.tm.t.bg,.int .i64 m.tm.t.bh,.int .i64 m.tm.t.unit,.int .i64 m.tm.t.mode,.slice m.tm.Ar m.tm.t.rows.length m.tm.cr,.int .i64 m.count,.int .i64 m.sh.fixed,.int .i64 m.sh.bE,.int .i64 m.sh.lower,.int .i64 m.sh.share,.int .i64 m.sh.top,.int .i64 m.recover]] W fun e w'=>e=.returned (.int .i64 (jW m.t))/\Below W.heap.size W w'):=fun W y=>aeo m W (h.aa y) u;clear u J;unfold dN.val;go_enter func70,ntmps70;have z:=ah.new w 45 #[.slice m.Aw m.ws.length m.cw,.slice m.As m.ss.length m.cs,.int .i64 m.tm.t.method,.slice m.tm.Ab m.tm.t.aA.length m.tm.cb,.int .i64 m.tm.t.bg,.int .i64 m.tm.t.bh,.int .i64 m.tm.t.unit,.int .i64 m.tm.t.mode,.slice m.tm.Ar m.tm.t.rows.length m.tm.cr,.int .i64 m.count,.int .i64 m.sh.fixed,.int .i64 m.sh.bE,.int .i64 m.sh.lower,.int .i64 m.sh.share,.int .i64 m.sh.top,.int .i64 m.recover];have B:=bF w (.cells #[.slice m.Aw m.ws.length m.cw,.slice m.As m.ss.length m.cs,.int .i64 m.tm.t.method,.slice m.tm.Ab m.tm.t.aA.length m.tm.cb,.int .i64 m.tm.t.bg,.int .i64 m.tm.t.bh,.int .i64 m.tm.t.unit,.int .i64 m.tm.t.mode,.slice m.tm.Ar m.tm.t.rows.length m.tm.cr,.int .i64 m.count,.int .i64 m.sh.fixed,.int .i64 m.sh.bE,.int .i64 m.sh.lower,.int .i64 m.sh.share,.int .i64 m.sh.top,.int .i64 m.recover] 45);go_upto_region 1 with fail
 generalize w.alloc (Obj.cells _ _)=W at z B|-;go_wp2_with(refine jK rfl _ _ rfl w.heap.size rfl z underlying45 rfl (by kernel_rfl) ?_);refine(K.out _ B).mono ?_;rintro e C ⟨rfl,n⟩;have D:=z.aa n;have E:=aB B n;have S:C.cell? ⟨w.heap.size,1,none⟩=some (.slice m.As m.ss.length m.cs):=D.cell 1;have T:C.cell? ⟨w.heap.size,2,none⟩=some (.int .i64 m.tm.t.method):=D.cell 2;have p:=h.ss.aa E;clear z B n K;go_wp2_with fail
 go_loopw [17] (fun i wr=>∃k:Nat,k<=m.ss.length/\i=.int .i64 k/\Below C.heap.size C wr) (fun i _=>m.ss.length-(intOf i).toNat)
 case atStart=>exact⟨0,by omega,rfl,arb _ _⟩
 case round=>
  rename World=>wr
  obtain⟨k,hk,rfl,j⟩:=hrel;clear S T;by_cases r:k<m.ss.length
  ·obtain⟨b,U,V,y,l⟩:=(p.aa j).at_ r;have L:=l 0 _ rfl;have X:=l 1 _ rfl;have Y:=l 2 _ rfl;have Z:=l 3 _ rfl;have c4:=l 4 _ rfl;have c5:=l 5 _ rfl;have c6:=l 6 _ rfl;have c7:=l 7 _ rfl;simp only[ara]at L;have gK:(k:Int)<(m.ss.length:Int):=(by omega);have F:=aq6 (Q.out _ (arc r));clear l;rw[V];generalize m.ss[k]=x at*;have M:=ah.new wr 123 #[.string x.code,.int .i64 x.az,.int .i64 x.aS,.int .i64 x.floor,.int .i64 x.dw,.int .i64 x.unit,.int .i64 x.mode,.bool x.cA];have G:=bF wr (.cells #[.string x.code,.int .i64 x.az,.int .i64 x.aS,.int .i64 x.floor,.int .i64 x.dw,.int .i64 x.unit,.int .i64 x.mode,.bool x.cA] 123);go_upto_region 6 with fail
   generalize wr.alloc (Obj.cells _ _)=W1 at M G|-;have p3:W1.cell? ⟨wr.heap.size,3,none⟩=some (.int .i64 x.floor):=M.cell 3;rw[F.out]at p3;have I:=aB j G;clear L X Y Z c4 c5 c6 c7 G j;go_wp2;go_roundw
   case rel=>exact⟨k+1,by omega,by go_num,I⟩
   case measure=>simp[intOf];omega
  ·obtain rfl:k=m.ss.length:=by omega
   have aZ:=D.aa j;have N:=aB E j;clear D E p j;go_wp2_with(refine jK rfl _ _ rfl w.heap.size rfl aZ underlying45 rfl (by kernel_rfl) ?_);refine(R.out wr N).mono ?_;rintro e w5 ⟨rfl,I⟩;generalize jW m.t=lv at*;have h9:¬(900000<lv):=(by omega);go_wp2;go_ret;exact⟨by simp[go_sem,h9],aB N I⟩
theorem akO(E F G I:Nat)(p hi:Int)(w:World)(P:Int->Bool)(S:0<=p)(N:p<=hi+1)(T:hi<=100000000)
  (J:∀W,Below w.heap.size w W->∀n,p<=n->n<=hi->Calls prog 76 #[.int .i64 n,.pointer (some ⟨E,0,none⟩),.pointer (some ⟨F,0,none⟩),.pointer (some ⟨G,0,none⟩),.pointer (some ⟨I,0,none⟩)] W fun e w'=>e=.returned (.bool (P n))/\Below W.heap.size W w'):
  Calls prog 75 #[.int .i64 p,.int .i64 hi,.func (.func 76) #[] #[.pointer (some ⟨E,0,none⟩),.pointer (some ⟨F,0,none⟩),.pointer (some ⟨G,0,none⟩),.pointer (some ⟨I,0,none⟩)]] w fun e w'=>(∃n,e=.returned (.int .i64 n)/\p<=n/\n<=hi+1/\(n=hi+1\/P n=true)/\(n=p\/P (n-1)=false))/\Below w.heap.size w w':=by
 have O:=aq6 J;clear J;go_enter func75,ntmps75;go_wp2_with fail
 go_loopw [0,7] (fun a b wr=>∃j l:Int,a=.int .i64 j/\b=.int .i64 l/\p<=j/\j<=l/\l<=hi+1/\Hid (l=hi+1\/P l=true)/\Hid (j=p\/P (j-1)=false)/\Below w.heap.size w wr) (fun a b _=>(intOf b-intOf a).toNat)
 case atStart=>exact⟨p,hi+1,rfl,rfl,by omega,N,by omega,.inl rfl,.inl rfl,arb _ _⟩
 case round=>
  rename World=>wr
  obtain⟨j,l,rfl,rfl,K,U,L,r,M,z⟩:=hrel;by_cases Q:j<l
  ·have hd:(l-j).tdiv 2=(l-j)/2:=asn (by omega);obtain⟨d,C⟩:∃d,d=(l-j)/2:=⟨_,rfl⟩
   rw[<-C]at hd;have d0:0<=d:=(by omega);have d1:j+d<l:=(by omega);have R:=aq6 C;clear C;go_wp2_with fail;refine(O.out wr z (j+d) (by omega) (by omega)).mono ?_;rintro e V ⟨rfl,u⟩;have y:=aB z u;clear z u;cases B:P (j+d)
   ·have D:Hid (P (j+d+1-1)=false):=(by rw[show j+d+1-1=j+d by omega];exact B);clear B;go_wp2;go_roundw
    case rel=>exact⟨j+d+1,l,by go_num,rfl,by omega,by omega,L,r,.inr D.out,y⟩
    case measure=>simp only[intOf];omega
   ·have D:=aq6 B;clear B;go_wp2;go_roundw
    case rel=>exact⟨j,j+d,rfl,rfl,K,by omega,by omega,.inr D.out,M,y⟩
    case measure=>simp only[intOf];have:=R.out;omega
  ·obtain rfl:j=l:=by omega
   go_wp2;go_ret;exact⟨⟨j,rfl,K,L,r.out,M.out⟩,z⟩
theorem akP(E F G I J:Nat)(p hi:Int)(w:World)(P:Int->Bool)(T:0<=p)(O:p<=hi+1)(U:hi<=100000000)
  (K:∀W,Below w.heap.size w W->∀n,p<=n->n<=hi->Calls prog 77 #[.int .i64 n,.pointer (some ⟨E,0,none⟩),.pointer (some ⟨F,0,none⟩),.pointer (some ⟨G,0,none⟩),.pointer (some ⟨I,0,none⟩),.pointer (some ⟨J,0,none⟩)] W fun e w'=>e=.returned (.bool (P n))/\Below W.heap.size W w'):
  Calls prog 75 #[.int .i64 p,.int .i64 hi,.func (.func 77) #[] #[.pointer (some ⟨E,0,none⟩),.pointer (some ⟨F,0,none⟩),.pointer (some ⟨G,0,none⟩),.pointer (some ⟨I,0,none⟩),.pointer (some ⟨J,0,none⟩)]] w fun e w'=>(∃n,e=.returned (.int .i64 n)/\p<=n/\n<=hi+1/\(n=hi+1\/P n=true)/\(n=p\/P (n-1)=false))/\Below w.heap.size w w':=by
 have Q:=aq6 K;clear K;go_enter func75,ntmps75;go_wp2_with fail
 go_loopw [0,7] (fun a b wr=>∃j l:Int,a=.int .i64 j/\b=.int .i64 l/\p<=j/\j<=l/\l<=hi+1/\Hid (l=hi+1\/P l=true)/\Hid (j=p\/P (j-1)=false)/\Below w.heap.size w wr) (fun a b _=>(intOf b-intOf a).toNat)
 case atStart=>exact⟨p,hi+1,rfl,rfl,by omega,O,by omega,.inl rfl,.inl rfl,arb _ _⟩
 case round=>
  rename World=>wr
  obtain⟨j,l,rfl,rfl,L,V,M,r,N,z⟩:=hrel;by_cases R:j<l
  ·have hd:(l-j).tdiv 2=(l-j)/2:=asn (by omega);obtain⟨d,C⟩:∃d,d=(l-j)/2:=⟨_,rfl⟩
   rw[<-C]at hd;have d0:0<=d:=(by omega);have d1:j+d<l:=(by omega);have S:=aq6 C;clear C;go_wp2_with fail;refine(Q.out wr z (j+d) (by omega) (by omega)).mono ?_;rintro e X ⟨rfl,u⟩;have y:=aB z u;clear z u;cases B:P (j+d)
   ·have D:Hid (P (j+d+1-1)=false):=(by rw[show j+d+1-1=j+d by omega];exact B);clear B;go_wp2;go_roundw
    case rel=>exact⟨j+d+1,l,by go_num,rfl,by omega,by omega,M,r,.inr D.out,y⟩
    case measure=>simp only[intOf];omega
   ·have D:=aq6 B;clear B;go_wp2;go_roundw
    case rel=>exact⟨j,j+d,rfl,rfl,L,by omega,by omega,.inr D.out,N,y⟩
    case measure=>simp only[intOf];have:=S.out;omega
  ·obtain rfl:j=l:=by omega
   go_wp2;go_ret;exact⟨⟨j,rfl,L,M,r.out,N.out⟩,z⟩
