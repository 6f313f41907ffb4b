/- Conditions: as stated. -/
import Derived.Test.YtlhkojcmcmkmaaaGreatSG33
set_option maxRecDepth 100000
set_option maxHeartbeats 4000000
namespace Go.Proofs.YtlhkojcmcmkmaaaGreat
open Go.Proofs.Tryz
open Go.RowKit
theorem aey(l:List bR)(k:Nat)(h:k<l.length):kK (l.take (k+1))=kK (l.take k)+l[k].aA:=by unfold kK;rw[ar9 h,asW,Iw];simp[aL]
theorem aez(l:List bR)(k:Nat)(h:k<l.length):k8 (l.take (k+1))=k8 (l.take k)+l[k].unit:=by unfold k8;rw[ar9 h,asW,Iw];simp[aL]
theorem aeA(l:List cv)(k:Nat)(h:k<l.length):mI (l.take (k+1))=max (mI (l.take k)) l[k].bH:=by unfold mI;rw[ar9 h,List.foldl_append];rfl
theorem aeB{l:List cv}(h:∀b∈l,b.bH<=1000000):mI l<=1000000:=by
 have key:∀(l:List cv) (m:Int),m<=1000000->(∀b∈l,b.bH<=1000000)->l.foldl (fun m b=>max m b.bH) m<=1000000:=by
  intro l
  induction l with
  |nil=>intro m j _;exact j
  |cons a l p=>intro m j n;rw[asR];exact p _ (by have:=n a (by simp);omega) (fun b e=>n b (by simp[e]))
 exact key l 0 (by omega) h
theorem aal{l:List bR}(h:∀s∈l,0<=s.aA/\s.aA<=1000000)(p:l.length<=12):0<=kK l/\kK l<=12000000:=by have e:=kR (l:=l.map fun s=>s.aA) (B:=1000000) (fun v j=>by obtain⟨s,n,rfl⟩:=ar8.1 j;exact h s n);rw[asu]at e;unfold kK;omega
theorem aeC{l:List bR}(h:∀s∈l,0<=s.unit/\s.unit<=100)(p:l.length<=12):0<=k8 l/\k8 l<=1200:=by have e:=kR (l:=l.map fun s=>s.unit) (B:=100) (fun v j=>by obtain⟨s,n,rfl⟩:=ar8.1 j;exact h s n);rw[asu]at e;unfold k8;omega
theorem ig.aam{l:List cv}(h:ig l):∀b∈l,0<=b.bH/\b.bH<=1000000:=fun b n=>by obtain⟨i,hi,rfl⟩:=List.getElem_of_mem n;have e:=h.r0 i hi;have j:=h.r1 i hi;rw[ar1,arW hi]at e j;exact⟨e,j⟩
theorem aeD(m:cY)(w:World)(h:m.In w)(u:AU m.t):Calls prog 121 #[m.val] w fun e w'=>e=.returned (.int .i64 (jd m.t))/\Below w.heap.size w w':=by
 have ja:m.ss.length<=12:=u.Cg;have U:m.tm.t.au.length<=24:=u.fT.au.len;have Q:Hid (∀s∈m.ss,0<=s.aA/\s.aA<=1000000):=fun s F=>⟨(u.l9 s F).e0,(u.l9 s F).e1⟩
 have V:Hid (∀b∈m.tm.t.au,0<=b.bH/\b.bH<=1000000):=u.fT.au.aam;have R:Hid (∀k,0<=kK (m.ss.take k)/\kK (m.ss.take k)<=12000000):=fun k=>aal (fun s F=>Q.out s (ar6 F)) (by rw[asA];omega);have S:Hid (∀k,0<=mI (m.tm.t.au.take k)/\mI (m.tm.t.au.take k)<=1000000):=fun k=>⟨(RG _).1,aeB fun b I=>(V.out b (ar6 I)).2⟩
 have X:Hid (jd m.t=kK (m.ss.take m.ss.length)+mI (m.tm.t.au.take m.tm.t.au.length)):=by rw[Hid,asp,asp];rfl
 clear u;unfold cY.val;go_enter func121,ntmps121;have G:=ah.new w 45 #[.slice m.Aw m.ws.length m.cw,.slice m.As m.ss.length m.cs,.int .i64 m.tm.t.method,.slice m.tm.Ab m.tm.t.au.length m.tm.cb,.int .i64 m.tm.t.aZ,.int .i64 m.tm.t.bf,.int .i64 m.tm.t.unit,.int .i64 m.tm.t.mode,.slice m.tm.Ar m.tm.t.rows.length m.tm.cr,.int .i64 m.count,.int .i64 m.sh.fixed,.int .i64 m.sh.bn,.int .i64 m.sh.lower,.int .i64 m.sh.share,.int .i64 m.sh.top,.int .i64 m.recover];have z:=bD w (.cells #[.slice m.Aw m.ws.length m.cw,.slice m.As m.ss.length m.cs,.int .i64 m.tm.t.method,.slice m.tm.Ab m.tm.t.au.length m.tm.cb,.int .i64 m.tm.t.aZ,.int .i64 m.tm.t.bf,.int .i64 m.tm.t.unit,.int .i64 m.tm.t.mode,.slice m.tm.Ar m.tm.t.rows.length m.tm.cr,.int .i64 m.count,.int .i64 m.sh.fixed,.int .i64 m.sh.bn,.int .i64 m.sh.lower,.int .i64 m.sh.share,.int .i64 m.sh.top,.int .i64 m.recover] 45);go_upto_region 1 with fail
 generalize w.alloc (Obj.cells _ _)=W at G z|-;have T:W.cell? ⟨w.heap.size,1,none⟩=some (.slice m.As m.ss.length m.cs):=G.cell 1;have B:=h.ss.aa z;have C:=h.tm.au.aa z;go_wp2_with fail
 go_loopw [3,12] (fun s i wr=>∃k:Nat,k<=m.ss.length/\i=.int .i64 k/\s=.int .i64 (kK (m.ss.take k))/\Below W.heap.size W wr) (fun _ i _=>m.ss.length-(intOf i).toNat)
 case atStart=>exact⟨0,by omega,rfl,rfl,arM _ _⟩
 case round=>
  rename World=>wr
  obtain⟨k,hk,rfl,rfl,j⟩:=hrel;obtain⟨q0,q1⟩:=R.out k;by_cases l:k<m.ss.length
  ·obtain⟨b,J,K,I,n⟩:=(B.aa j).at_ l;have D:=n 0 _ rfl;have L:=n 1 _ rfl;have Y:=n 2 _ rfl;have Z:=n 3 _ rfl;have c4:=n 4 _ rfl;have c5:=n 5 _ rfl;have c6:=n 6 _ rfl;have c7:=n 7 _ rfl;simp only[arL]at D;have eC:(k:Int)<(m.ss.length:Int):=(by omega);have M:=arH (aey m.ss k l);obtain⟨x0,x1⟩:=Q.out _ (arO l);clear n T;rw[K];generalize m.ss[k]=x at*;generalize kK (m.ss.take k)=q at*;have E:=ah.new wr 123 #[.string x.code,.int .i64 x.aA,.int .i64 x.aT,.int .i64 x.floor,.int .i64 x.dt,.int .i64 x.unit,.int .i64 x.mode,.bool x.cA];have r:=bD wr (.cells #[.string x.code,.int .i64 x.aA,.int .i64 x.aT,.int .i64 x.floor,.int .i64 x.dt,.int .i64 x.unit,.int .i64 x.mode,.bool x.cA] 123);go_upto_region 5 with fail
   generalize wr.alloc (Obj.cells _ _)=N at E r|-;have p1:N.cell? ⟨wr.heap.size,1,none⟩=some (.int .i64 x.aA):=E.cell 1;have O:=aB j r;clear D L Y Z c4 c5 c6 c7 r j;go_wp2;go_roundw
   case rel=>exact⟨k+1,by omega,by go_num,by rw[M.out],O⟩
   case measure=>simp[intOf];omega
  ·obtain rfl:k=m.ss.length:=by omega
   have z3:wr.cell? ⟨w.heap.size,3,none⟩=some (.slice m.tm.Ab m.tm.t.au.length m.tm.cb):=(j.cell (p:=⟨w.heap.size,3,none⟩) G.lt).trans (G.cell 3);have gY:=aB z j;have P:=C.aa j;clear T B C j z;have HQ:=arH (R.out m.ss.length);generalize hq:kK (m.ss.take m.ss.length)=q at*;clear hq;go_wp2_with fail
   go_loopw [4,25] (fun s i y=>∃k:Nat,k<=m.tm.t.au.length/\i=.int .i64 k/\s=.int .i64 (mI (m.tm.t.au.take k))/\Below wr.heap.size wr y) (fun _ i _=>m.tm.t.au.length-(intOf i).toNat)
   case atStart=>exact⟨0,by omega,rfl,rfl,arM _ _⟩
   case round=>
    rename World=>y
    obtain⟨k,ab,rfl,rfl,j⟩:=hrel;obtain⟨r0,r1⟩:=S.out k;by_cases l:k<m.tm.t.au.length
    ·obtain⟨b,J,K,I,n⟩:=(P.aa j).at_ l;have D:=n 0 _ rfl;have L:=n 1 _ rfl;simp only[arL]at D;have eC:(k:Int)<(m.tm.t.au.length:Int):=(by omega);have M:=arH (aeA m.tm.t.au k l);clear n z3;rw[K];generalize m.tm.t.au[k]=x at*;generalize mI (m.tm.t.au.take k)=p at*;have E:=ah.new y 127 #[.int .i64 x.bX,.int .i64 x.bH];have r:=bD y (.cells #[.int .i64 x.bX,.int .i64 x.bH] 127);go_upto_region 10 with fail
     generalize y.alloc (Obj.cells _ _)=N at E r|-;have p1:N.cell? ⟨y.heap.size,1,none⟩=some (.int .i64 x.bH):=E.cell 1;have O:=aB j r;clear D L r j;by_cases ad:p<x.bH
     all_goals
      go_wp2;go_roundw
      case rel=>exact⟨k+1,by omega,by go_num,by rw[M.out],O⟩
      case measure=>simp[intOf];omega
    ·obtain rfl:k=m.tm.t.au.length:=by omega
     go_wp2;go_ret;have h5:=S.out m.tm.t.au.length;have h6:=HQ.out;rw[asp]at h5;exact⟨by rw[X.out];simp[go_sem];unfold wrap64;omega,aB gY j⟩
theorem ak0(m:cY)(w:World)(h:m.In w)(n:AU m.t)(T:jd m.t<=900000):Calls prog 78 #[m.val] w fun e w'=>e=.returned (.int .i64 (Dt m.t))/\Below w.heap.size w w':=by
 have U:m.ss.length<=12:=n.Cg;have u0:1<=m.tm.t.unit:=n.fT.u0;have u1:m.tm.t.unit<=100:=n.fT.u1;have N:Hid (∀s∈m.ss,0<=s.unit/\s.unit<=100):=fun s r=>⟨by have:=(n.l9 s r).u0;omega,(n.l9 s r).u1⟩
 have G:Hid (∀k,0<=k8 (m.ss.take k)/\k8 (m.ss.take k)<=1200):=fun k=>aeC (fun s r=>N.out s (ar6 r)) (by rw[asA];omega);have I:Hid (nM m.t=m.tm.t.unit+2+k8 (m.ss.take m.ss.length)):=by rw[Hid,asp];rfl
 have V:Hid (0<=jd m.t):=by have h1:=(aal (l:=m.ss) (fun s r=>⟨(n.l9 s r).e0,(n.l9 s r).e1⟩) U).1;have h2:=(RG m.tm.t.au).1;have h3:jd m.t=kK m.ss+mI m.tm.t.au:=rfl;rw[Hid];omega
 have X:Hid (∀W,Below w.heap.size w W->Calls prog 121 #[.agg #[.slice m.Aw m.ws.length m.cw,.slice m.As m.ss.length m.cs,.int .i64 m.tm.t.method,.slice m.tm.Ab m.tm.t.au.length m.tm.cb,.int .i64 m.tm.t.aZ,.int .i64 m.tm.t.bf,.int .i64 m.tm.t.unit,.int .i64 m.tm.t.mode,.slice m.tm.Ar m.tm.t.rows.length m.tm.cr,.int .i64 m.count,.int .i64 m.sh.fixed,.int .i64 m.sh.bn,.int .i64 m.sh.lower,.int .i64 m.sh.share,.int .i64 m.sh.top,.int .i64 m.recover]] W fun e w'=>e=.returned (.int .i64 (jd m.t))/\Below W.heap.size W w'):=fun W D=>aeD m W (h.aa D) n;clear n;unfold cY.val;go_enter func78,ntmps78;have E:=ah.new w 45 #[.slice m.Aw m.ws.length m.cw,.slice m.As m.ss.length m.cs,.int .i64 m.tm.t.method,.slice m.tm.Ab m.tm.t.au.length m.tm.cb,.int .i64 m.tm.t.aZ,.int .i64 m.tm.t.bf,.int .i64 m.tm.t.unit,.int .i64 m.tm.t.mode,.slice m.tm.Ar m.tm.t.rows.length m.tm.cr,.int .i64 m.count,.int .i64 m.sh.fixed,.int .i64 m.sh.bn,.int .i64 m.sh.lower,.int .i64 m.sh.share,.int .i64 m.sh.top,.int .i64 m.recover];have F:=bD w (.cells #[.slice m.Aw m.ws.length m.cw,.slice m.As m.ss.length m.cs,.int .i64 m.tm.t.method,.slice m.tm.Ab m.tm.t.au.length m.tm.cb,.int .i64 m.tm.t.aZ,.int .i64 m.tm.t.bf,.int .i64 m.tm.t.unit,.int .i64 m.tm.t.mode,.slice m.tm.Ar m.tm.t.rows.length m.tm.cr,.int .i64 m.count,.int .i64 m.sh.fixed,.int .i64 m.sh.bn,.int .i64 m.sh.lower,.int .i64 m.sh.share,.int .i64 m.sh.top,.int .i64 m.recover] 45);go_upto_region 1 with fail
 generalize w.alloc (Obj.cells _ _)=W at E F|-;have O:W.cell? ⟨w.heap.size,1,none⟩=some (.slice m.As m.ss.length m.cs):=E.cell 1;have P:W.cell? ⟨w.heap.size,6,none⟩=some (.int .i64 m.tm.t.unit):=E.cell 6;have C:=h.ss.aa F;obtain⟨u,hu⟩:∃u,u=m.tm.t.unit:=⟨_,rfl⟩
 rw[<-hu]at u0 u1 P I;clear hu;go_wp2_with fail
 go_loopw [3,13] (fun s i wr=>∃k:Nat,k<=m.ss.length/\i=.int .i64 k/\s=.int .i64 (u+2+k8 (m.ss.take k))/\Below W.heap.size W wr) (fun _ i _=>m.ss.length-(intOf i).toNat)
 case atStart=>exact⟨0,by omega,rfl,by simp[k8,aL],arM _ _⟩
 case round=>
  rename World=>wr
  obtain⟨k,hk,rfl,rfl,j⟩:=hrel;obtain⟨q0,q1⟩:=G.out k;by_cases y:k<m.ss.length
  ·obtain⟨b,Y,Z,D,p⟩:=(C.aa j).at_ y;have Q:=p 0 _ rfl;have c1:=p 1 _ rfl;have c2:=p 2 _ rfl;have c3:=p 3 _ rfl;have c4:=p 4 _ rfl;have c5:=p 5 _ rfl;have c6:=p 6 _ rfl;have c7:=p 7 _ rfl;simp only[arL]at Q;have eC:(k:Int)<(m.ss.length:Int):=(by omega);have HT:=arH (aez m.ss k y);obtain⟨x0,x1⟩:=N.out _ (arO y);clear p O;rw[Z];generalize m.ss[k]=x at*;generalize k8 (m.ss.take k)=q at*;have R:=ah.new wr 123 #[.string x.code,.int .i64 x.aA,.int .i64 x.aT,.int .i64 x.floor,.int .i64 x.dt,.int .i64 x.unit,.int .i64 x.mode,.bool x.cA];have J:=bD wr (.cells #[.string x.code,.int .i64 x.aA,.int .i64 x.aT,.int .i64 x.floor,.int .i64 x.dt,.int .i64 x.unit,.int .i64 x.mode,.bool x.cA] 123);go_upto_region 5 with fail
   generalize wr.alloc (Obj.cells _ _)=W1 at R J|-;have p1:W1.cell? ⟨wr.heap.size,5,none⟩=some (.int .i64 x.unit):=R.cell 5;have K:=aB j J;clear Q c1 c2 c3 c4 c5 c6 c7 J j;go_wp2;go_roundw
   case rel=>exact⟨k+1,by omega,by go_num,by rw[HT.out];congr 1;omega,K⟩
   case measure=>simp[intOf];omega
  ·obtain rfl:k=m.ss.length:=by omega
   have bg:=E.aa j;have S:=aB F j;have L:Hid (Dt m.t=2*(u+2+k8 (m.ss.take m.ss.length))*1000000/(1000000-jd m.t)+2):=(by rw[Hid,Dt,I.out]);have Ri:=V.out;clear O P C j F I;generalize k8 (m.ss.take m.ss.length)=q at*;have Q7:Hid (∀z,Below wr.heap.size wr z->Calls prog 121 #[.agg #[.slice m.Aw m.ws.length m.cw,.slice m.As m.ss.length m.cs,.int .i64 m.tm.t.method,.slice m.tm.Ab m.tm.t.au.length m.tm.cb,.int .i64 m.tm.t.aZ,.int .i64 m.tm.t.bf,.int .i64 m.tm.t.unit,.int .i64 m.tm.t.mode,.slice m.tm.Ar m.tm.t.rows.length m.tm.cr,.int .i64 m.count,.int .i64 m.sh.fixed,.int .i64 m.sh.bn,.int .i64 m.sh.lower,.int .i64 m.sh.share,.int .i64 m.sh.top,.int .i64 m.recover]] z fun e w'=>e=.returned (.int .i64 (jd m.t))/\Below z.heap.size z w'):=fun z D=>X.out z (aB S D);generalize jd m.t=B at*;have ab:¬(1000000-B=0):=(by omega);have M:0<=2*(u+2+q)*1000000:=(by omega);have hq:(2*(u+2+q)*1000000).tdiv (1000000-B)=2*(u+2+q)*1000000/(1000000-B):=asK M;have eY:0<=2*(u+2+q)*1000000/(1000000-B):=asG M (by omega);have bS:2*(u+2+q)*1000000/(1000000-B)<=2*(u+2+q)*1000000:=Int.ediv_le_self _ M;generalize 2*(u+2+q)*1000000/(1000000-B)=dv at*;go_wp2_with(refine kJ rfl _ _ rfl w.heap.size rfl bg underlying45 rfl (by kernel_rfl) ?_);refine(Q7.out wr (arM _ _)).mono ?_;rintro e w5 ⟨rfl,K⟩;go_wp2;go_ret;exact⟨by rw[L.out];first|rfl|(simp[go_sem];done)|(simp[go_sem];unfold wrap64;omega),aB S K⟩
theorem aeg(m:cY)(w:World)(h:m.In w)(u:AU m.t)(O:m.tm.t.method≠1)(J:∀s∈m.ss,s.floor=0)(P:jd m.t<=900000):Calls prog 70 #[m.val] w fun e w'=>e=.returned (.bool false)/\Below w.heap.size w w':=by
 have ja:m.ss.length<=12:=u.Cg;have Q:=arH J;have ey:(m.tm.t.method==1)=false:=by simpa using O
 have K:Hid (∀W,Below w.heap.size w W->Calls prog 99 #[.agg #[.slice m.Aw m.ws.length m.cw,.slice m.As m.ss.length m.cs,.int .i64 m.tm.t.method,.slice m.tm.Ab m.tm.t.au.length m.tm.cb,.int .i64 m.tm.t.aZ,.int .i64 m.tm.t.bf,.int .i64 m.tm.t.unit,.int .i64 m.tm.t.mode,.slice m.tm.Ar m.tm.t.rows.length m.tm.cr,.int .i64 m.count,.int .i64 m.sh.fixed,.int .i64 m.sh.bn,.int .i64 m.sh.lower,.int .i64 m.sh.share,.int .i64 m.sh.top,.int .i64 m.recover]] W fun e w'=>e=.returned (.bool true)/\Below W.heap.size W w'):=fun W y=>aeE m W (h.aa y) u;have R:Hid (∀W,Below w.heap.size w W->Calls prog 121 #[.agg #[.slice m.Aw m.ws.length m.cw,.slice m.As m.ss.length m.cs,.int .i64 m.tm.t.method,.slice m.tm.Ab m.tm.t.au.length m.tm.cb,.int .i64 m.tm.t.aZ,.int .i64 m.tm.t.bf,.int .i64 m.tm.t.unit,.int .i64 m.tm.t.mode,.slice m.tm.Ar m.tm.t.rows.length m.tm.cr,.int .i64 m.count,.int .i64 m.sh.fixed,.int .i64 m.sh.bn,.int .i64 m.sh.lower,.int .i64 m.sh.share,.int .i64 m.sh.top,.int .i64 m.recover]] W fun e w'=>e=.returned (.int .i64 (jd m.t))/\Below W.heap.size W w'):=fun W y=>aeD m W (h.aa y) u;clear u J;unfold cY.val;go_enter func70,ntmps70;have z:=ah.new w 45 #[.slice m.Aw m.ws.length m.cw,.slice m.As m.ss.length m.cs,.int .i64 m.tm.t.method,.slice m.tm.Ab m.tm.t.au.length m.tm.cb,.int .i64 m.tm.t.aZ,.int .i64 m.tm.t.bf,.int .i64 m.tm.t.unit,.int .i64 m.tm.t.mode,.slice m.tm.Ar m.tm.t.rows.length m.tm.cr,.int .i64 m.count,.int .i64 m.sh.fixed,.int .i64 m.sh.bn,.int .i64 m.sh.lower,.int .i64 m.sh.share,.int .i64 m.sh.top,.int .i64 m.recover];have B:=bD w (.cells #[.slice m.Aw m.ws.length m.cw,.slice m.As m.ss.length m.cs,.int .i64 m.tm.t.method,.slice m.tm.Ab m.tm.t.au.length m.tm.cb,.int .i64 m.tm.t.aZ,.int .i64 m.tm.t.bf,.int .i64 m.tm.t.unit,.int .i64 m.tm.t.mode,.slice m.tm.Ar m.tm.t.rows.length m.tm.cr,.int .i64 m.count,.int .i64 m.sh.fixed,.int .i64 m.sh.bn,.int .i64 m.sh.lower,.int .i64 m.sh.share,.int .i64 m.sh.top,.int .i64 m.recover] 45);go_upto_region 1 with fail
 generalize w.alloc (Obj.cells _ _)=W at z B|-;go_wp2_with(refine kJ rfl _ _ rfl w.heap.size rfl z underlying45 rfl (by kernel_rfl) ?_);refine(K.out _ B).mono ?_;rintro e C ⟨rfl,n⟩;have D:=z.aa n;have E:=aB B n;have S:C.cell? ⟨w.heap.size,1,none⟩=some (.slice m.As m.ss.length m.cs):=D.cell 1;have T:C.cell? ⟨w.heap.size,2,none⟩=some (.int .i64 m.tm.t.method):=D.cell 2;have p:=h.ss.aa E;clear z B n K;go_wp2_with fail
 go_loopw [17] (fun i wr=>∃k:Nat,k<=m.ss.length/\i=.int .i64 k/\Below C.heap.size C wr) (fun i _=>m.ss.length-(intOf i).toNat)
 case atStart=>exact⟨0,by omega,rfl,arM _ _⟩
 case round=>
  rename World=>wr
  obtain⟨k,hk,rfl,j⟩:=hrel;clear S T;by_cases r:k<m.ss.length
  ·obtain⟨b,U,V,y,l⟩:=(p.aa j).at_ r;have L:=l 0 _ rfl;have X:=l 1 _ rfl;have Y:=l 2 _ rfl;have Z:=l 3 _ rfl;have c4:=l 4 _ rfl;have c5:=l 5 _ rfl;have c6:=l 6 _ rfl;have c7:=l 7 _ rfl;simp only[arL]at L;have eC:(k:Int)<(m.ss.length:Int):=(by omega);have F:=arH (Q.out _ (arO r));clear l;rw[V];generalize m.ss[k]=x at*;have M:=ah.new wr 123 #[.string x.code,.int .i64 x.aA,.int .i64 x.aT,.int .i64 x.floor,.int .i64 x.dt,.int .i64 x.unit,.int .i64 x.mode,.bool x.cA];have G:=bD wr (.cells #[.string x.code,.int .i64 x.aA,.int .i64 x.aT,.int .i64 x.floor,.int .i64 x.dt,.int .i64 x.unit,.int .i64 x.mode,.bool x.cA] 123);go_upto_region 6 with fail
   generalize wr.alloc (Obj.cells _ _)=W1 at M G|-;have p3:W1.cell? ⟨wr.heap.size,3,none⟩=some (.int .i64 x.floor):=M.cell 3;rw[F.out]at p3;have I:=aB j G;clear L X Y Z c4 c5 c6 c7 G j;go_wp2;go_roundw
   case rel=>exact⟨k+1,by omega,by go_num,I⟩
   case measure=>simp[intOf];omega
  ·obtain rfl:k=m.ss.length:=by omega
   have bg:=D.aa j;have N:=aB E j;clear D E p j;go_wp2_with(refine kJ rfl _ _ rfl w.heap.size rfl bg underlying45 rfl (by kernel_rfl) ?_);refine(R.out wr N).mono ?_;rintro e w5 ⟨rfl,I⟩;generalize jd m.t=lv at*;have h9:¬(900000<lv):=(by omega);go_wp2;go_ret;exact⟨by simp[go_sem,h9],aB N I⟩
theorem ak1(F G I J:Nat)(p hi:Int)(w:World)(P:Int->Bool)(S:0<=p)(O:p<=hi+1)(T:hi<=100000000)
  (K:∀W,Below w.heap.size w W->∀n,p<=n->n<=hi->Calls prog 76 #[.int .i64 n,.pointer (some ⟨F,0,none⟩),.pointer (some ⟨G,0,none⟩),.pointer (some ⟨I,0,none⟩),.pointer (some ⟨J,0,none⟩)] W fun e w'=>e=.returned (.bool (P n))/\Below W.heap.size W w'):
  Calls prog 75 #[.int .i64 p,.int .i64 hi,.func (.func 76) #[] #[.pointer (some ⟨F,0,none⟩),.pointer (some ⟨G,0,none⟩),.pointer (some ⟨I,0,none⟩),.pointer (some ⟨J,0,none⟩)]] w fun e w'=>(∃n,e=.returned (.int .i64 n)/\p<=n/\n<=hi+1/\(n=hi+1\/P n=true)/\(n=p\/P (n-1)=false))/\Below w.heap.size w w':=by
 have Q:=arH K;clear K;go_enter func75,ntmps75;go_wp2_with fail
 go_loopw [0,7] (fun a b wr=>∃j l:Int,a=.int .i64 j/\b=.int .i64 l/\p<=j/\j<=l/\l<=hi+1/\Hid (l=hi+1\/P l=true)/\Hid (j=p\/P (j-1)=false)/\Below w.heap.size w wr) (fun a b _=>(intOf b-intOf a).toNat)
 case atStart=>exact⟨p,hi+1,rfl,rfl,by omega,O,by omega,.inl rfl,.inl rfl,arM _ _⟩
 case round=>
  rename World=>wr
  obtain⟨j,l,rfl,rfl,L,U,M,r,N,z⟩:=hrel;by_cases R:j<l
  ·have hd:(l-j).tdiv 2=(l-j)/2:=asK (by omega);obtain⟨d,C⟩:∃d,d=(l-j)/2:=⟨_,rfl⟩
   rw[<-C]at hd;have d0:0<=d:=(by omega);have d1:j+d<l:=(by omega);have D:=arH C;clear C;go_wp2_with fail;refine(Q.out wr z (j+d) (by omega) (by omega)).mono ?_;rintro e V ⟨rfl,u⟩;have y:=aB z u;clear z u;cases B:P (j+d)
   ·have E:Hid (P (j+d+1-1)=false):=(by rw[show j+d+1-1=j+d by omega];exact B);clear B;go_wp2;go_roundw
    case rel=>exact⟨j+d+1,l,by go_num,rfl,by omega,by omega,M,r,.inr E.out,y⟩
    case measure=>simp only[intOf];omega
   ·have E:=arH B;clear B;go_wp2;go_roundw
    case rel=>exact⟨j,j+d,rfl,rfl,L,by omega,by omega,.inr E.out,N,y⟩
    case measure=>simp only[intOf];have:=D.out;omega
  ·obtain rfl:j=l:=by omega
   go_wp2;go_ret;exact⟨⟨j,rfl,L,M,r.out,N.out⟩,z⟩
theorem ak2(F G I J K:Nat)(p hi:Int)(w:World)(P:Int->Bool)(T:0<=p)(Q:p<=hi+1)(U:hi<=100000000)
  (L:∀W,Below w.heap.size w W->∀n,p<=n->n<=hi->Calls prog 77 #[.int .i64 n,.pointer (some ⟨F,0,none⟩),.pointer (some ⟨G,0,none⟩),.pointer (some ⟨I,0,none⟩),.pointer (some ⟨J,0,none⟩),.pointer (some ⟨K,0,none⟩)] W fun e w'=>e=.returned (.bool (P n))/\Below W.heap.size W w'):
  Calls prog 75 #[.int .i64 p,.int .i64 hi,.func (.func 77) #[] #[.pointer (some ⟨F,0,none⟩),.pointer (some ⟨G,0,none⟩),.pointer (some ⟨I,0,none⟩),.pointer (some ⟨J,0,none⟩),.pointer (some ⟨K,0,none⟩)]] w fun e w'=>(∃n,e=.returned (.int .i64 n)/\p<=n/\n<=hi+1/\(n=hi+1\/P n=true)/\(n=p\/P (n-1)=false))/\Below w.heap.size w w':=by
 have R:=arH L;clear L;go_enter func75,ntmps75;go_wp2_with fail
 go_loopw [0,7] (fun a b wr=>∃j l:Int,a=.int .i64 j/\b=.int .i64 l/\p<=j/\j<=l/\l<=hi+1/\Hid (l=hi+1\/P l=true)/\Hid (j=p\/P (j-1)=false)/\Below w.heap.size w wr) (fun a b _=>(intOf b-intOf a).toNat)
 case atStart=>exact⟨p,hi+1,rfl,rfl,by omega,Q,by omega,.inl rfl,.inl rfl,arM _ _⟩
 case round=>
  rename World=>wr
  obtain⟨j,l,rfl,rfl,M,V,N,r,O,z⟩:=hrel;by_cases S:j<l
  ·have hd:(l-j).tdiv 2=(l-j)/2:=asK (by omega);obtain⟨d,C⟩:∃d,d=(l-j)/2:=⟨_,rfl⟩
   rw[<-C]at hd;have d0:0<=d:=(by omega);have d1:j+d<l:=(by omega);have D:=arH C;clear C;go_wp2_with fail;refine(R.out wr z (j+d) (by omega) (by omega)).mono ?_;rintro e X ⟨rfl,u⟩;have y:=aB z u;clear z u;cases B:P (j+d)
   ·have E:Hid (P (j+d+1-1)=false):=(by rw[show j+d+1-1=j+d by omega];exact B);clear B;go_wp2;go_roundw
    case rel=>exact⟨j+d+1,l,by go_num,rfl,by omega,by omega,N,r,.inr E.out,y⟩
    case measure=>simp only[intOf];omega
   ·have E:=arH B;clear B;go_wp2;go_roundw
    case rel=>exact⟨j,j+d,rfl,rfl,M,by omega,by omega,.inr E.out,O,y⟩
    case measure=>simp only[intOf];have:=D.out;omega
  ·obtain rfl:j=l:=by omega
   go_wp2;go_ret;exact⟨⟨j,rfl,M,N,r.out,O.out⟩,z⟩
