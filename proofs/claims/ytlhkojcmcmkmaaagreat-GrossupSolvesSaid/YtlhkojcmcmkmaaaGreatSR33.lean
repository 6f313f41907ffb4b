/- Conditions: as stated. -/
import Derived.Test.YtlhkojcmcmkmaaaGreatSG33b
set_option maxRecDepth 100000
set_option maxHeartbeats 4000000
namespace Go.Proofs.YtlhkojcmcmkmaaaGreat
open Go.Proofs.Tryz
open Go.RowKit
theorem apv(m:cY)(w:World)(h:m.In w)(r:AU m.t):Calls prog 81 #[m.val] w fun e w'=>e=.returned (.int .i64 (2*nM m.t))/\Below w.heap.size w w':=by
 have Q:m.ss.length<=12:=r.Cg;have u0:1<=m.tm.t.unit:=r.fT.u0;have u1:m.tm.t.unit<=100:=r.fT.u1;have G:Hid (∀s∈m.ss,0<=s.unit/\s.unit<=100):=fun s B=>⟨by have:=(r.l9 s B).u0;omega,(r.l9 s B).u1⟩
 have E:Hid (∀k,0<=k8 (m.ss.take k)/\k8 (m.ss.take k)<=1200):=fun k=>aeC (fun s B=>G.out s (ar6 B)) (by rw[asA];omega);have I:Hid (nM m.t=m.tm.t.unit+2+k8 (m.ss.take m.ss.length)):=by rw[Hid,asp];rfl
 clear r;unfold cY.val;go_enter func81,ntmps81;have C:=ah.new w 45 #[.slice m.Aw m.ws.length m.cw,.slice m.As m.ss.length m.cs,.int .i64 m.tm.t.method,.slice m.tm.Ab m.tm.t.au.length m.tm.cb,.int .i64 m.tm.t.aZ,.int .i64 m.tm.t.bf,.int .i64 m.tm.t.unit,.int .i64 m.tm.t.mode,.slice m.tm.Ar m.tm.t.rows.length m.tm.cr,.int .i64 m.count,.int .i64 m.sh.fixed,.int .i64 m.sh.bn,.int .i64 m.sh.lower,.int .i64 m.sh.share,.int .i64 m.sh.top,.int .i64 m.recover];have D:=bD w (.cells #[.slice m.Aw m.ws.length m.cw,.slice m.As m.ss.length m.cs,.int .i64 m.tm.t.method,.slice m.tm.Ab m.tm.t.au.length m.tm.cb,.int .i64 m.tm.t.aZ,.int .i64 m.tm.t.bf,.int .i64 m.tm.t.unit,.int .i64 m.tm.t.mode,.slice m.tm.Ar m.tm.t.rows.length m.tm.cr,.int .i64 m.count,.int .i64 m.sh.fixed,.int .i64 m.sh.bn,.int .i64 m.sh.lower,.int .i64 m.sh.share,.int .i64 m.sh.top,.int .i64 m.recover] 45);go_upto_region 1 with fail
 generalize w.alloc (Obj.cells _ _)=W at C D|-;have J:W.cell? ⟨w.heap.size,6,none⟩=some (.int .i64 m.tm.t.unit):=C.cell 6;have z:=h.ss.aa D;generalize m.tm.t.unit=u at*;go_wp2_with fail
 go_loopw [3,4] (fun s i wr=>∃k:Nat,k<=m.ss.length/\i=.int .i64 k/\s=.int .i64 (u+2+k8 (m.ss.take k))/\Below W.heap.size W wr) (fun _ i _=>m.ss.length-(intOf i).toNat)
 case atStart=>exact⟨0,by omega,rfl,by simp[k8,aL],arM _ _⟩
 case round=>
  rename World=>wr
  obtain⟨k,R,rfl,rfl,j⟩:=hrel;obtain⟨S,T⟩:=E.out k;have K:wr.cell? ⟨w.heap.size,1,none⟩=some (.slice m.As m.ss.length m.cs):=(C.aa j).cell 1;clear J;by_cases p:k<m.ss.length
  ·obtain⟨b,L,M,U,l⟩:=(z.aa j).at_ p;have N:=l 0 _ rfl;have V:=l 1 _ rfl;have X:=l 2 _ rfl;have Y:=l 3 _ rfl;have Z:=l 4 _ rfl;have c5:=l 5 _ rfl;have c6:=l 6 _ rfl;have c7:=l 7 _ rfl;simp only[arL]at N;have eC:(k:Int)<(m.ss.length:Int):=(by omega);have O:=arH (aez m.ss k p);obtain⟨x0,x1⟩:=G.out _ (arO p);clear l;rw[M]at K;generalize m.ss[k]=x at*;generalize k8 (m.ss.take k)=q at*;go_wp2;go_roundw
   case rel=>exact⟨k+1,by omega,by go_num,by rw[O.out];congr 1;omega,j⟩
   case measure=>simp[intOf];omega
  ·obtain rfl:k=m.ss.length:=by omega
   have P:=aB D j;have F:Hid (2*nM m.t=2*(u+2+k8 (m.ss.take m.ss.length))):=(by rw[Hid,I.out]);clear z j D I C;generalize k8 (m.ss.take m.ss.length)=q at*;go_wp2;go_ret;exact⟨by rw[F.out];first|rfl|(simp[go_sem];done)|(simp[go_sem];unfold wrap64;omega),P⟩
theorem apw(m:cY)(w:World)(h:m.In w)(u:AU m.t)(T:m.tm.t.method≠1)(U:∀s∈m.ss,s.floor=0)(K:jd m.t<=900000):Calls prog 79 #[m.val] w fun e w'=>e=.returned (.bool false)/\Below w.heap.size w w':=by
 have ja:m.ss.length<=12:=u.Cg;have ab:m.tm.t.au.length<=24:=u.fT.au.len;have HF:=arH U;have ey:(m.tm.t.method==1)=false:=by simpa using T
 have V:Hid (∀s∈m.ss,0<=s.aA/\s.aA<=1000000):=fun s E=>⟨(u.l9 s E).e0,(u.l9 s E).e1⟩
 have gZ:Hid (∀b∈m.tm.t.au,0<=b.bH/\b.bH<=1000000):=u.fT.au.aam;have VU:Hid (∀k,0<=kK (m.ss.take k)/\kK (m.ss.take k)<=12000000):=fun k=>aal (fun s E=>V.out s (ar6 E)) (by rw[asA];omega);have L:Hid (∀k,0<=mI (m.tm.t.au.take k)/\mI (m.tm.t.au.take k)<=1000000):=fun k=>⟨(RG _).1,aeB fun b B=>(gZ.out b (ar6 B)).2⟩
 have zZ:Hid (mI (m.tm.t.au.take m.tm.t.au.length)+kK (m.ss.take m.ss.length)<=900000):=by rw[Hid,asp,asp];have:jd m.t=kK m.ss+mI m.tm.t.au:=rfl;omega
 have X:Hid (∀W,Below w.heap.size w W->Calls prog 122 #[.agg #[.slice m.Aw m.ws.length m.cw,.slice m.As m.ss.length m.cs,.int .i64 m.tm.t.method,.slice m.tm.Ab m.tm.t.au.length m.tm.cb,.int .i64 m.tm.t.aZ,.int .i64 m.tm.t.bf,.int .i64 m.tm.t.unit,.int .i64 m.tm.t.mode,.slice m.tm.Ar m.tm.t.rows.length m.tm.cr,.int .i64 m.count,.int .i64 m.sh.fixed,.int .i64 m.sh.bn,.int .i64 m.sh.lower,.int .i64 m.sh.share,.int .i64 m.sh.top,.int .i64 m.recover]] W fun e w'=>e=.returned (.bool true)/\Below W.heap.size W w'):=fun W B=>ad5 m W (h.aa B) u;clear u U K T;unfold cY.val;go_enter func79,ntmps79;have F:=ah.new w 45 #[.slice m.Aw m.ws.length m.cw,.slice m.As m.ss.length m.cs,.int .i64 m.tm.t.method,.slice m.tm.Ab m.tm.t.au.length m.tm.cb,.int .i64 m.tm.t.aZ,.int .i64 m.tm.t.bf,.int .i64 m.tm.t.unit,.int .i64 m.tm.t.mode,.slice m.tm.Ar m.tm.t.rows.length m.tm.cr,.int .i64 m.count,.int .i64 m.sh.fixed,.int .i64 m.sh.bn,.int .i64 m.sh.lower,.int .i64 m.sh.share,.int .i64 m.sh.top,.int .i64 m.recover];have G:=bD w (.cells #[.slice m.Aw m.ws.length m.cw,.slice m.As m.ss.length m.cs,.int .i64 m.tm.t.method,.slice m.tm.Ab m.tm.t.au.length m.tm.cb,.int .i64 m.tm.t.aZ,.int .i64 m.tm.t.bf,.int .i64 m.tm.t.unit,.int .i64 m.tm.t.mode,.slice m.tm.Ar m.tm.t.rows.length m.tm.cr,.int .i64 m.count,.int .i64 m.sh.fixed,.int .i64 m.sh.bn,.int .i64 m.sh.lower,.int .i64 m.sh.share,.int .i64 m.sh.top,.int .i64 m.recover] 45);go_upto_region 1 with fail
 generalize w.alloc (Obj.cells _ _)=W at F G|-;go_wp2_with(refine kJ rfl _ _ rfl w.heap.size rfl F underlying45 rfl (by kernel_rfl) ?_);refine(X.out _ G).mono ?_;rintro e M ⟨rfl,z⟩;have I:=F.aa z;have J:=aB G z;have z2:M.cell? ⟨w.heap.size,2,none⟩=some (.int .i64 m.tm.t.method):=I.cell 2;have C:=h.ss.aa J;have D:=h.tm.au.aa J;clear F G z X;go_wp2_with fail;clear z2 ey
 go_loopw [3,4] (fun s i wr=>∃k:Nat,k<=m.tm.t.au.length/\i=.int .i64 k/\s=.int .i64 (mI (m.tm.t.au.take k))/\Below M.heap.size M wr) (fun _ i _=>m.tm.t.au.length-(intOf i).toNat)
 case atStart=>exact⟨0,by omega,rfl,rfl,arM _ _⟩
 case round=>
  rename World=>wr
  obtain⟨k,hk,rfl,rfl,j⟩:=hrel;obtain⟨r0,r1⟩:=L.out k;have Y:wr.cell? ⟨w.heap.size,3,none⟩=some (.slice m.tm.Ab m.tm.t.au.length m.tm.cb):=(I.aa j).cell 3;by_cases l:k<m.tm.t.au.length
  ·obtain⟨b,N,O,B,r⟩:=(D.aa j).at_ l;have P:=r 0 _ rfl;have c1:=r 1 _ rfl;simp only[arL]at P;have eC:(k:Int)<(m.tm.t.au.length:Int):=(by omega);have Q:=arH (aeA m.tm.t.au k l);clear r;rw[O]at Y;generalize m.tm.t.au[k]=x at*;generalize mI (m.tm.t.au.take k)=p at*;by_cases ad:p<x.bH
   all_goals
    go_wp2;go_roundw
    case rel=>exact⟨k+1,by omega,by go_num,by rw[Q.out],j⟩
    case measure=>simp[intOf];omega
  ·obtain rfl:k=m.tm.t.au.length:=by omega
   have gY:=aB J j;have aK:=I.aa j;have R:=C.aa j;have HQ:=arH (L.out m.tm.t.au.length);clear C D j J I L;generalize hq:mI (m.tm.t.au.take m.tm.t.au.length)=q at*;clear hq;go_wp2_with fail
   go_loopw [3,5] (fun s i S=>∃k:Nat,k<=m.ss.length/\i=.int .i64 k/\s=.int .i64 (q+kK (m.ss.take k))/\Below wr.heap.size wr S) (fun _ i _=>m.ss.length-(intOf i).toNat)
   case atStart=>exact⟨0,by omega,rfl,by simp[kK,aL],arM _ _⟩
   case round=>
    rename World=>S
    obtain⟨k,af,rfl,rfl,j⟩:=hrel;obtain⟨s0,s1⟩:=VU.out k;obtain⟨q0,q1⟩:=HQ.out;clear Y;have z1:S.cell? ⟨w.heap.size,1,none⟩=some (.slice m.As m.ss.length m.cs):=(aK.aa j).cell 1;by_cases l:k<m.ss.length
    ·obtain⟨b,N,O,B,r⟩:=(R.aa j).at_ l;have P:=r 0 _ rfl;have c1:=r 1 _ rfl;have c2:=r 2 _ rfl;have c3:=r 3 _ rfl;have c4:=r 4 _ rfl;have c5:=r 5 _ rfl;have c6:=r 6 _ rfl;have c7:=r 7 _ rfl;simp only[arL]at P;have eC:(k:Int)<(m.ss.length:Int):=(by omega);have Q:=arH (aey m.ss k l);have Z:=HF.out _ (arO l);obtain⟨x0,x1⟩:=V.out _ (arO l);clear r;rw[O]at z1;generalize m.ss[k]=x at*;generalize kK (m.ss.take k)=p at*;rw[Z]at c3;clear Z;go_wp2;go_roundw
     case rel=>exact⟨k+1,by omega,by go_num,by rw[Q.out];congr 1;omega,aB (arM _ _) j⟩
     case measure=>simp[intOf];omega
    ·obtain rfl:k=m.ss.length:=by omega
     have al:=zZ.out;generalize kK (m.ss.take m.ss.length)=p at*;go_wp2;go_ret;exact⟨by simp;omega,aB gY j⟩
namespace M3
theorem apx{P:Program}{j:Array Oper}{B:Region.Mode}{C:World->Prop}{Q:Act->World->Prop}{E:Type}(D:E->Array Bool)(l:E->Nat)(r:E->List Nat)(I:E->Act->World->Prop)(m:Nat)
  (hI:∀s a w w',I s a w->Below w.heap.size w w'->I s a w')
  (hr:∀s a w,I s a w->0<l s->Region.ready B j (D s)=r s/\r s≠[])
  (step:∀s a w,C w->I s a w->0<l s->(∀u z p,l u<l s->C p->I u z p->cM P B j C Q (m+l u) (D u) z p)->
   ∀i∈r s,∃k,l s=k+1/\iJ P j C i (fun z p=>C p/\cM P B j C Q (m+k) ((D s).setIfInBounds i true) z p) a w)
  (fin:∀s a w,C w->I s a w->l s=0->cM P B j C Q m (D s) a w):
  ∀(n:Nat) s a w,l s<=n->C w->I s a w->cM P B j C Q (m+l s) (D s) a w:=by
 intro n
 induction n with
 |zero=>
  intro s a w M F h;have h0:l s=0:=by omega
  rw[h0];exact fin s a w F h h0
 |succ n N=>
  intro s a w M F h;rcases Nat.eq_zero_or_pos (l s)with h0|h0
  ·rw[h0];exact fin s a w F h h0
  ·obtain⟨k,O⟩:∃k,l s=k+1:=⟨l s-1,by omega⟩
   rw[O];intro w' G R;have L:=hI s a w w' h R;obtain⟨S,T⟩:=hr s a w' L h0;rw[S];refine⟨fun e=>absurd e T,fun i hi=>?_⟩;obtain⟨k',X,J⟩:=step s a w' G L h0 (fun u z p U V K=>N u z p (by omega) V K) i hi;obtain rfl:k=k':=by omega
   exact J
end M3
theorem Own.ahi{u:Type}{l:u->List Value}{k:Nat}{e t:TypeId}{w:World}{base g:Nat}{v:Value}{xs:List u}{cs:Array Value}(h:Own l k e w base v xs)(z:ah w g t cs)(C:t≠e):v.ownBlock≠some g:=by
 rcases h.2 with⟨p,_⟩|⟨F,B,D,p,G,j,_⟩
 ·rw[p];exact nofun
 ·rw[p];intro r;injection r with r
  subst r;unfold ah at z;rw[z]at j;injection j with j
  injection j with _ E _
  exact C E
def LgV(I:aY)(e j p:Value):Prop:=∃(u z B C D r E F G:Int) (A J At:Option Addr) (l c K L M N:Nat),e=.agg #[.int .i64 u,.int .i64 z,.int .i64 B,.int .i64 C,.int .i64 D,.int .i64 r,.slice A l c]/\j=.agg #[.int .i64 E,.int .i64 F,.int .i64 G,.slice J K L,.slice At M N]/\p=.int .i64 I.err/\(I.err=0->r=I.El)
theorem mX.lgV{I:aY}{w w':World}{e:Ending}(h:mX I w e w'):∃a b c,e=.returned (.tuple #[a,b,c])/\LgV I a b c/\Below w.heap.size w w':=by
 rcases h with⟨j,A,c,p,r,At,u,rfl,-,-,-,l⟩|⟨j,rfl,l⟩
 ·exact⟨_,_,_,rfl,⟨_,_,_,_,_,_,_,_,_,_,_,_,_,_,_,_,_,_,rfl,rfl,by rw[j],fun _=>rfl⟩,l⟩
 ·exact⟨_,_,_,rfl,⟨_,_,_,_,_,_,_,_,_,_,_,_,_,_,_,_,_,_,rfl,rfl,rfl,fun h=>absurd h j⟩,l⟩
abbrev LgS:=Nat×Bool×Bool×Bool
def apy:LgS->Array Bool|(c,n,x,y)=>#[true,true,true,decide (1<=c),true,decide (2<=c),true,true,true,n,decide (3<=c),decide (4<=c),decide (4<=c),decide (4<=c),decide (4<=c),decide (4<=c),x,y,false,false,false]
def nV(b:Bool):Nat:=if b=true then 0 else 1
def oC:LgS->Nat|(c,n,x,y)=>(if c=4 then 0 else 8-c)+nV n+nV x+nV y
def ahj:LgS->List Nat|(c,n,x,y)=>(if c=0 then[3]else[])++(if c=1 then[5]else[])++(if n=false then[9]else[])++(if c=2/\n=true then[10]else[])++(if c=3 then[11]else[])++(if x=false then[16]else[])++(if y=false then[17]else[])
structure PW(W:World)(xs:List Elem)(el:Elem)(c:Nat)(n x y:Bool)(v19 v21 v25 v26 pB pC:Value)(w:World):Prop where
 aW:Below W.heap.size W w
 c4:c<=4
 cn:3<=c->n=true
 f1:c=1->Own aQ 2 69 w W.heap.size v19 ([]:List Elem)
 f2:c=2->Own aQ 2 69 w W.heap.size v21 xs
 f3:c=3->∃A k,v26=.slice A (xs.length+1) k/\aj aQ 2 w w.heap.size A (xs++[el])
 f9:n=true->∃q,v25=.slice (some ⟨q,0,none⟩) 1 1/\aj aQ 2 w w.heap.size (some ⟨q,0,none⟩) [el]/\q<w.heap.size/\(c=1->v19.ownBlock≠some q)/\(c=2->v21.ownBlock≠some q)
 fx:x=true->∃g,pB=.pointer (some ⟨g,0,none⟩)/\W.heap.size<=g/\ah w g 27 #[.int .i64 0,.int .i64 0,.int .i64 0,.int .i64 0,.int .i64 0,.int .i64 0,.slice none 0 0]
 fy:y=true->∃g,pC=.pointer (some ⟨g,0,none⟩)/\W.heap.size<=g/\ah w g 53 #[.int .i64 0,.int .i64 0,.int .i64 0,.slice none 0 0,.slice none 0 0]
section
variable {W w w':World}{xs:List Elem}{el:Elem}{c:Nat}{n x y:Bool}{v19 v21 v25 v26 pB pC:Value}
theorem PW.aa(h:PW W xs el c n x y v19 v21 v25 v26 pB pC w)(j:Below w.heap.size w w'):PW W xs el c n x y v19 v21 v25 v26 pB pC w':=
 ⟨aB h.aW j,h.c4,h.cn,fun e=>(h.f1 e).aa j,fun e=>(h.f2 e).aa j,fun e=>(h.f3 e).imp fun _ h=>h.imp fun _ h=>⟨h.1,h.2.aa j⟩,
  fun e=>(h.f9 e).imp fun _ h=>⟨h.1,h.2.1.aa j,asy h.2.2.1 j.size,h.2.2.2⟩,fun e=>(h.fx e).imp fun _ h=>⟨h.1,h.2.1,h.2.2.aa j⟩,fun e=>(h.fy e).imp fun _ h=>⟨h.1,h.2.1,h.2.2.aa j⟩⟩
theorem PW.app(h:PW W xs el c n x y v19 v21 v25 v26 pB pC w){v:Value}{zs:List Elem}(z:Own aQ 2 69 w W.heap.size v zs)(B:∀q,v25=.slice (some ⟨q,0,none⟩) 1 1->n=true->v.ownBlock≠some q)(u:w.grownBy w' v.ownBlock):
  Below W.heap.size W w'/\(n=true->∃q,v25=.slice (some ⟨q,0,none⟩) 1 1/\aj aQ 2 w' w'.heap.size (some ⟨q,0,none⟩) [el]/\q<w.heap.size/\v.ownBlock≠some q)/\
  (x=true->∃g,pB=.pointer (some ⟨g,0,none⟩)/\W.heap.size<=g/\ah w' g 27 #[.int .i64 0,.int .i64 0,.int .i64 0,.int .i64 0,.int .i64 0,.int .i64 0,.slice none 0 0])/\
  (y=true->∃g,pC=.pointer (some ⟨g,0,none⟩)/\W.heap.size<=g/\ah w' g 53 #[.int .i64 0,.int .i64 0,.int .i64 0,.slice none 0 0,.slice none 0 0]):=
 ⟨kN h.aW u (fun q B=>(z.cm B).1),
  fun e=>by
   obtain⟨q,l,p,j,_⟩:=h.f9 e;have r:=B q l e;exact⟨q,l,p.Jw u (fun a C=>by injection C with C;subst C;exact r),j,r⟩,
  fun e=>by
   obtain⟨g,l,p,j⟩:=h.fx e;exact⟨g,l,p,j.grown u (fun D=>z.ahi j (by decide) D.symm)⟩,
  fun e=>by
   obtain⟨g,l,p,j⟩:=h.fy e;exact⟨g,l,p,j.grown u (fun D=>z.ahi j (by decide) D.symm)⟩⟩
end
theorem apz(r:cY)(j:dD)(A:Option Addr)(X:Nat)(xs:List Elem)(z:ByteArray)(n:Int)(w:World)(hr:r.In w)(hy:j.In w)(hs:aj aQ 2 w w.heap.size A xs)(hl:xs.length<=1000)(bh:oL (Cb r pQ j [] true (xs++[⟨z,n⟩]))):
  Calls prog 37 #[r.val,j.val,.slice A xs.length X,.string z,.int .i64 n] w (aeh (Cb r pQ j [] true (xs++[⟨z,n⟩])) w):=by
 have ai:=(ah.new w 45 #[.slice r.Aw r.ws.length r.cw,.slice r.As r.ss.length r.cs,.int .i64 r.tm.t.method,.slice r.tm.Ab r.tm.t.au.length r.tm.cb,.int .i64 r.tm.t.aZ,.int .i64 r.tm.t.bf,.int .i64 r.tm.t.unit,.int .i64 r.tm.t.mode,.slice r.tm.Ar r.tm.t.rows.length r.tm.cr,.int .i64 r.count,.int .i64 r.sh.fixed,.int .i64 r.sh.bn,.int .i64 r.sh.lower,.int .i64 r.sh.share,.int .i64 r.sh.top,.int .i64 r.recover]).alloc (.cells #[.int .i64 j.az,.int .i64 j.ax,.int .i64 j.aN,.slice j.Ai j.ins.length j.ci,.slice j.At j.taken.length j.ct] 53);have aK:=ah.new (w.alloc (.cells #[.slice r.Aw r.ws.length r.cw,.slice r.As r.ss.length r.cs,.int .i64 r.tm.t.method,.slice r.tm.Ab r.tm.t.au.length r.tm.cb,.int .i64 r.tm.t.aZ,.int .i64 r.tm.t.bf,.int .i64 r.tm.t.unit,.int .i64 r.tm.t.mode,.slice r.tm.Ar r.tm.t.rows.length r.tm.cr,.int .i64 r.count,.int .i64 r.sh.fixed,.int .i64 r.sh.bn,.int .i64 r.sh.lower,.int .i64 r.sh.share,.int .i64 r.sh.top,.int .i64 r.recover] 45)) 53 #[.int .i64 j.az,.int .i64 j.ax,.int .i64 j.aN,.slice j.Ai j.ins.length j.ci,.slice j.At j.taken.length j.ct];rw[arU]at aK;have P:=ej (bD w (.cells #[.slice r.Aw r.ws.length r.cw,.slice r.As r.ss.length r.cs,.int .i64 r.tm.t.method,.slice r.tm.Ab r.tm.t.au.length r.tm.cb,.int .i64 r.tm.t.aZ,.int .i64 r.tm.t.bf,.int .i64 r.tm.t.unit,.int .i64 r.tm.t.mode,.slice r.tm.Ar r.tm.t.rows.length r.tm.cr,.int .i64 r.count,.int .i64 r.sh.fixed,.int .i64 r.sh.bn,.int .i64 r.sh.lower,.int .i64 r.sh.share,.int .i64 r.sh.top,.int .i64 r.recover] 45)) (.cells #[.int .i64 j.az,.int .i64 j.ax,.int .i64 j.aN,.slice j.Ai j.ins.length j.ci,.slice j.At j.taken.length j.ct] 53);have ab:=hr.aa P;have Aa:=hy.aa P;have al:=hs.aa P;obtain⟨I,hI⟩:∃I,I=Cb r pQ j [] true (xs++[⟨z,n⟩]):=⟨_,rfl⟩
 rw[<-hI];have VI:=arH hI;have di:=arH bh;clear hr hy hs bh hI;unfold cY.val dD.val;go_enter func37,ntmps37;go_upto_region 1 with fail
 obtain⟨W,hW⟩:∃W,W=(w.alloc (.cells #[.slice r.Aw r.ws.length r.cw,.slice r.As r.ss.length r.cs,.int .i64 r.tm.t.method,.slice r.tm.Ab r.tm.t.au.length r.tm.cb,.int .i64 r.tm.t.aZ,.int .i64 r.tm.t.bf,.int .i64 r.tm.t.unit,.int .i64 r.tm.t.mode,.slice r.tm.Ar r.tm.t.rows.length r.tm.cr,.int .i64 r.count,.int .i64 r.sh.fixed,.int .i64 r.sh.bn,.int .i64 r.sh.lower,.int .i64 r.sh.share,.int .i64 r.sh.top,.int .i64 r.recover] 45)).alloc (.cells #[.int .i64 j.az,.int .i64 j.ax,.int .i64 j.aN,.slice j.Ai j.ins.length j.ci,.slice j.At j.taken.length j.ct] 53):=⟨_,rfl⟩
 rw[<-hW]at ai aK P ab Aa al|-;have IE:Hid (w.heap.size+2<=W.heap.size):=by rw[Hid,hW,arU,arU];omega
 clear hW;have HC:Hid (∀W',Below W.heap.size W W'->∀V Y,aj aQ 2 W' W'.heap.size V (xs++[⟨z,n⟩])->Calls prog 49 #[.agg #[.slice r.Aw r.ws.length r.cw,.slice r.As r.ss.length r.cs,.int .i64 r.tm.t.method,.slice r.tm.Ab r.tm.t.au.length r.tm.cb,.int .i64 r.tm.t.aZ,.int .i64 r.tm.t.bf,.int .i64 r.tm.t.unit,.int .i64 r.tm.t.mode,.slice r.tm.Ar r.tm.t.rows.length r.tm.cr,.int .i64 r.count,.int .i64 r.sh.fixed,.int .i64 r.sh.bn,.int .i64 r.sh.lower,.int .i64 r.sh.share,.int .i64 r.sh.top,.int .i64 r.recover],.agg #[.int .i64 0,.slice none 0 0,.slice none 0 0,.slice none 0 0],.agg #[.int .i64 j.az,.int .i64 j.ax,.int .i64 j.aN,.slice j.Ai j.ins.length j.ci,.slice j.At j.taken.length j.ct],.slice none 0 0,.bool true,.slice V (xs.length+1) Y] W' (mX I W')):=fun W' K V Y cZ=>by have hC:=ajT r pQ j none V 0 Y [] (xs++[⟨z,n⟩]) true W' (ab.aa K) ⟨aj.cL,aj.cL,aj.cL,fun e he=>by cases he⟩ (Aa.aa K) aj.cL cZ (by simp;omega) di.out;rw[<-VI.out]at hC;rw[show(xs++[(⟨z,n⟩:Elem)]).length=xs.length+1 by simp,show pQ.val=.agg #[.int .i64 0,.slice none 0 0,.slice none 0 0,.slice none 0 0]from rfl]at hC;exact hC
 clear ab Aa;refine M3.iq (C:=fun w'=>Below W.heap.size W w') (iM _ _ (arI _)) (arM _ _) (aE:=?aE) [0,1,2,4,6,7,8] 14 (by kernel_rfl) (by kernel_rfl) rfl (by kernel_rfl) (by kernel_rfl) (by rfl) ?H ?M
 case H=>
  intro F hF am;simp only[M3.cD,arQ,arR,arS];have PJ:∀w',(∃p:aP (fun w'=>Below W.heap.size W w') F,w'=p.w')->ah w' w.heap.size 45 #[.slice r.Aw r.ws.length r.cw,.slice r.As r.ss.length r.cs,.int .i64 r.tm.t.method,.slice r.tm.Ab r.tm.t.au.length r.tm.cb,.int .i64 r.tm.t.aZ,.int .i64 r.tm.t.bf,.int .i64 r.tm.t.unit,.int .i64 r.tm.t.mode,.slice r.tm.Ar r.tm.t.rows.length r.tm.cr,.int .i64 r.count,.int .i64 r.sh.fixed,.int .i64 r.sh.bn,.int .i64 r.sh.lower,.int .i64 r.sh.share,.int .i64 r.sh.top,.int .i64 r.recover]:=by rintro w' ⟨p,rfl⟩;exact ah.aa ai p.h
  have WR:∀w',(∃p:aP (fun w'=>Below W.heap.size W w') F,w'=p.w')->ah w' (w.heap.size+1) 53 #[.int .i64 j.az,.int .i64 j.ax,.int .i64 j.aN,.slice j.Ai j.ins.length j.ci,.slice j.At j.taken.length j.ct]:=by rintro w' ⟨p,rfl⟩;exact ah.aa aK p.h
  repeat(first|(refine Oa _ _ w.heap.size rfl rfl rfl PJ underlying45 rfl (by kernel_rfl) ?_;simp only[Act.put,aG,aH,aI])|(refine Oa _ _ (w.heap.size+1) rfl rfl rfl WR underlying53 rfl (by kernel_rfl) ?_;simp only[Act.put,aG,aH,aI])|go_big_quiet_step(fail))
  refine wpQuiet_nil ?_;rfl
 case M=>
  intro Q0 bO;refine M3.apx (m:=3) apy oC ahj (fun s a w'=>∃v19 v21 v25 v26 G pB pC J B D E,a=⟨List.toArray ((.agg #[.slice r.Aw r.ws.length r.cw,.slice r.As r.ss.length r.cs,.int .i64 r.tm.t.method,.slice r.tm.Ab r.tm.t.au.length r.tm.cb,.int .i64 r.tm.t.aZ,.int .i64 r.tm.t.bf,.int .i64 r.tm.t.unit,.int .i64 r.tm.t.mode,.slice r.tm.Ar r.tm.t.rows.length r.tm.cr,.int .i64 r.count,.int .i64 r.sh.fixed,.int .i64 r.sh.bn,.int .i64 r.sh.lower,.int .i64 r.sh.share,.int .i64 r.sh.top,.int .i64 r.recover])::(.agg #[.int .i64 j.az,.int .i64 j.ax,.int .i64 j.aN,.slice j.Ai j.ins.length j.ci,.slice j.At j.taken.length j.ct])::(.slice A xs.length X)::(.string z)::(.int .i64 n)::(.pointer (some ⟨w.heap.size,0,none⟩))::(.pointer (some ⟨w.heap.size+1,0,none⟩))::undef::undef::undef::(.int .i64 0)::(.int .i64 0)::pB::pC::undef::J::(.agg #[.slice r.Aw r.ws.length r.cw,.slice r.As r.ss.length r.cs,.int .i64 r.tm.t.method,.slice r.tm.Ab r.tm.t.au.length r.tm.cb,.int .i64 r.tm.t.aZ,.int .i64 r.tm.t.bf,.int .i64 r.tm.t.unit,.int .i64 r.tm.t.mode,.slice r.tm.Ar r.tm.t.rows.length r.tm.cr,.int .i64 r.count,.int .i64 r.sh.fixed,.int .i64 r.sh.bn,.int .i64 r.sh.lower,.int .i64 r.sh.share,.int .i64 r.sh.top,.int .i64 r.recover])::(.agg #[.int .i64 0,.slice none 0 0,.slice none 0 0,.slice none 0 0])::(.agg #[.int .i64 j.az,.int .i64 j.ax,.int .i64 j.aN,.slice j.Ai j.ins.length j.ci,.slice j.At j.taken.length j.ct])::v19::(.slice A xs.length X)::v21::(.string z)::(.int .i64 n)::(.agg #[.string z,.int .i64 n])::v25::v26::G::B::D::E::undef::undef::undef::undef::undef::[]),_⟩/\(s.1=4->LgV I B D E)/\PW W xs ⟨z,n⟩ s.1 s.2.1 s.2.2.1 s.2.2.2 v19 v21 v25 v26 pB pC w') ?hI ?hr ?step ?fin 11 (0,false,false,false) _ _ (by decide) (arM _ _) ⟨undef,undef,undef,undef,undef,undef,undef,undef,undef,undef,undef,rfl,nofun,⟨arM _ _,by show 0<=4;omega,fun h=>absurd h (by show¬3<=0;omega),nofun,nofun,nofun,nofun,nofun,nofun⟩⟩
  case hI=>rintro s a L w2 ⟨v19,v21,v25,v26,G,pB,pC,J,B,D,E,rfl,R,hF⟩ K;exact⟨v19,v21,v25,v26,G,pB,pC,J,B,D,E,rfl,R,hF.aa K⟩
  case hr=>
   rintro⟨c,O,x,y⟩ a L ⟨v19,v21,v25,v26,G,pB,pC,J,B,D,E,rfl,R,hF⟩ Z;have hc:=hF.c4;have hn:=hF.cn;simp only at hc hn;clear hF R;rcases c with _|_|_|_|_|c
   rotate_right
   ·omega
   all_goals cases O<;>cases x<;>cases y<;>first|(exact absurd (hn (by decide)) Bool.false_ne_true)|(exact absurd Z (by decide))|exact⟨by kernel_rfl,by decide⟩
  case step=>
   rintro⟨c,O,x,y⟩ a L S ⟨v19,v21,v25,v26,G,pB,pC,J,B,D,E,rfl,R,hF⟩ Z ih i hi;simp only at hF R;have T:W.heap.size<=L.heap.size:=hF.aW.size;simp only[ahj,asf,List.mem_ite_nil_right,asv,or_assoc]at hi;rcases hi with⟨rfl,rfl⟩|⟨rfl,rfl⟩|⟨rfl,rfl⟩|⟨⟨rfl,rfl⟩,rfl⟩|⟨rfl,rfl⟩|⟨rfl,rfl⟩|⟨rfl,rfl⟩
   ·refine⟨oC (1,O,x,y),(by simp only[oC];simp<;>omega),?_⟩;have K:=bD L (.cells #[] 69);have u:=hF.aa K;refine M3.bw (.slice (some ⟨L.heap.size,0,none⟩) 0 0) (L.alloc (.cells #[] 69)) rfl rfl (by go_simp) ⟨aB S K,?_⟩;simp only[Act.put,aC,aD,aF,aG,aH,aI];refine ih (1,O,x,y) _ _ (by simp only[oC];simp<;>omega) (aB S K) ⟨_,v21,v25,v26,G,pB,pC,J,B,D,E,rfl,nofun,⟨u.aW,by show 1<=4;omega,fun h=>absurd h (by show¬3<=1;omega),fun _=>Own.lit dB L [] #[] 69 rfl (by simp) T,nofun,nofun,fun e=>?_,u.fx,u.fy⟩⟩;obtain⟨q,N,e2,e3,_⟩:=hF.f9 e;exact⟨q,N,e2.aa K,asy e3 K.size,fun _ e4=>(by injection e4 with e4;exact absurd e4 (by show L.heap.size≠q;omega)),nofun⟩
   ·refine⟨oC (2,O,x,y),(by simp only[oC];simp<;>omega),?_⟩;refine M3.G9 (.tmp 19) (.tmp 20) 51 X 24 _ ll underlying51 (hF.f1 rfl) (al.aa hF.aW) dB (by omega) rfl kO (by simp;omega) (by omega) T rfl rfl rfl rfl rfl rfl ?_;intro v' w2 U hg an;have hq:∀q,v25=.slice (some ⟨q,0,none⟩) 1 1->O=true->v19.ownBlock≠some q:=fun q e hn=>by
     obtain⟨q',N,_,_,e2,_⟩:=hF.f9 hn;rw[e]at N;injection N with N
     injection N with N
     injection N with N
     subst N;exact e2 rfl
    obtain⟨k1,k2,k3,k4⟩:=hF.app (hF.f1 rfl) hq hg;refine⟨k1,?_⟩;simp only[Act.put,aC,aD,aF,aG,aH,aI];refine ih (2,O,x,y) _ _ (by simp only[oC];simp<;>omega) k1 ⟨v19,v',v25,v26,G,pB,pC,J,B,D,E,rfl,nofun,⟨k1,by show 2<=4;omega,fun h=>absurd h (by show¬3<=2;omega),nofun,fun _=>U,nofun,fun e=>?_,k3,k4⟩⟩;obtain⟨q,N,e2,e3,e4⟩:=k2 e;refine⟨q,N,e2,asy e3 hg.size,nofun,fun _ e5=>?_⟩;rcases an with h|h
    ·exact e4 (h▸e5)
    ·rw[h]at e5;injection e5 with e5;omega
   ·have av:¬3<=c:=fun h=>by have:=hF.cn h;cases this
    refine⟨oC (c,true,x,y),(by simp only[oC,nV];simp<;>omega),?_⟩;have K:=bD L (.cells #[.string z,.int .i64 n] 69);have u:=hF.aa K;refine M3.bw (.slice (some ⟨L.heap.size,0,none⟩) 1 1) (L.alloc (.cells #[.string z,.int .i64 n] 69)) rfl rfl (by go_simp) ⟨aB S K,?_⟩;simp only[Act.put,aC,aD,aF,aG,aH,aI];refine ih (c,true,x,y) _ _ (by simp only[oC,nV];simp) (aB S K) ⟨v19,v21,_,v26,G,pB,pC,J,B,D,E,rfl,fun h=>absurd h (by show¬c=4;omega),⟨u.aW,hF.c4,fun _=>rfl,u.f1,u.f2,fun h=>absurd h (by show¬c=3;omega),fun _=>⟨L.heap.size,rfl,?_,by rw[arU];omega,fun h e=>?_,fun h e=>?_⟩,u.fx,u.fy⟩⟩
    ·exact aj.new dB L [⟨z,n⟩] #[.string z,.int .i64 n] 69 rfl |>.more (by rw[arU];omega)
    ·have:=((hF.f1 h).cm e).2;omega
    ·have:=((hF.f2 h).cm e).2;omega
   ·refine⟨oC (3,true,x,y),(by simp only[oC];simp<;>omega),?_⟩;obtain⟨q,rfl,hS,oY,_,jr⟩:=hF.f9 rfl;refine M3.G9 (.tmp 21) (.tmp 25) 51 1 24 _ ll underlying51 (hF.f2 rfl) (hS) dB (by omega) rfl kO (by simp;omega) (by omega) T rfl rfl rfl rfl rfl rfl ?_;intro v' w2 U hg an;have hq:∀q',Value.slice (some ⟨q,0,none⟩) 1 1=.slice (some ⟨q',0,none⟩) 1 1->true=true->v21.ownBlock≠some q':=fun q' e hn=>by
     injection e with N
     injection N with N
     injection N with N
     subst N;exact jr rfl
    obtain⟨k1,k2,k3,k4⟩:=hF.app (hF.f2 rfl) hq hg;refine⟨k1,?_⟩;simp only[Act.put,aC,aD,aF,aG,aH,aI];obtain⟨V,Y,rfl,cZ,-,-,-⟩:=U.kM dB;refine ih (3,true,x,y) _ _ (by simp only[oC];simp<;>omega) k1 ⟨v19,v21,_,_,G,pB,pC,J,B,D,E,rfl,nofun,⟨k1,by show 3<=4;omega,fun _=>rfl,nofun,nofun,fun _=>⟨V,Y,by rw[arV];rfl,cZ⟩,fun e=>?_,k3,k4⟩⟩;obtain⟨q',N,e2,e3,e4⟩:=k2 e;exact⟨q',N,e2,asy e3 hg.size,nofun,nofun⟩
   ·obtain rfl:O=true:=hF.cn (by show 3<=3;omega);refine⟨4+nV x+nV y,(by simp only[oC,nV];simp<;>omega),?_⟩;obtain⟨V,Y,rfl,cZ⟩:=hF.f3 rfl;refine M3.iw 49 #[.agg #[.slice r.Aw r.ws.length r.cw,.slice r.As r.ss.length r.cs,.int .i64 r.tm.t.method,.slice r.tm.Ab r.tm.t.au.length r.tm.cb,.int .i64 r.tm.t.aZ,.int .i64 r.tm.t.bf,.int .i64 r.tm.t.unit,.int .i64 r.tm.t.mode,.slice r.tm.Ar r.tm.t.rows.length r.tm.cr,.int .i64 r.count,.int .i64 r.sh.fixed,.int .i64 r.sh.bn,.int .i64 r.sh.lower,.int .i64 r.sh.share,.int .i64 r.sh.top,.int .i64 r.recover],.agg #[.int .i64 0,.slice none 0 0,.slice none 0 0,.slice none 0 0],.agg #[.int .i64 j.az,.int .i64 j.ax,.int .i64 j.aN,.slice j.Ai j.ins.length j.ci,.slice j.At j.taken.length j.ct],.slice none 0 0,.bool true,.slice V (xs.length+1) Y] rfl rfl (by go_simp) ?_;refine(HC.out L hF.aW V Y cZ).mono ?_;rintro e w2 ap;obtain⟨a,b,c,rfl,hV,Q⟩:=ap.lgV;have fX:=aB S Q;have u:=hF.aa Q;refine⟨_,rfl,fX,?_⟩;simp only[Act.put,aC,aD,aF,aG,aH,aI];have hN:=ih (4,true,x,y) _ w2 (by show 0+0+nV x+nV y<5+0+nV x+nV y;omega) fX ⟨v19,v21,v25,.slice V (xs.length+1) Y,.tuple #[a,b,c],pB,pC,.tuple #[a,b,c],a,b,c,rfl,fun _=>hV,⟨u.aW,arI _,fun _=>rfl,nofun,nofun,nofun,fun e=>(u.f9 e).imp fun q h=>⟨h.1,h.2.1,h.2.2.1,nofun,nofun⟩,u.fx,u.fy⟩⟩;rw[show 3+(4+nV x+nV y)=3+oC (4,true,x,y)+4 by show _=3+(0+0+nV x+nV y)+4;omega];cases x<;>cases y
    all_goals
     refine M3.Lm (by kernel_rfl) [12,13,14,15] _ _ (by kernel_rfl) (by kernel_rfl) (M3.GL (iM _ _ (arI _)) fX _ _ (by kernel_rfl) ?_) hN;intro F hF am;simp only[M3.cD,arQ,arR,arS]
     repeat(first|go_big_quiet_step(fail))
     refine wpQuiet_nil ?_;rfl
   ·refine⟨oC (c,O,true,y),(by simp only[oC,nV];simp<;>omega),?_⟩;have K:=bD L (.cells #[.int .i64 0,.int .i64 0,.int .i64 0,.int .i64 0,.int .i64 0,.int .i64 0,.slice none 0 0] 27);have u:=hF.aa K;refine M3.bw (.pointer (some ⟨L.heap.size,0,none⟩)) (L.alloc (.cells #[.int .i64 0,.int .i64 0,.int .i64 0,.int .i64 0,.int .i64 0,.int .i64 0,.slice none 0 0] 27)) rfl rfl (by go_simp) ⟨aB S K,?_⟩;simp only[Act.put,aC,aD,aF,aG,aH,aI];exact ih (c,O,true,y) _ _ (by simp only[oC,nV];simp) (aB S K) ⟨v19,v21,v25,v26,G,_,pC,J,B,D,E,rfl,R,⟨u.aW,hF.c4,hF.cn,u.f1,u.f2,u.f3,u.f9,fun _=>⟨_,rfl,T,ah.new _ _ _⟩,u.fy⟩⟩
   ·refine⟨oC (c,O,x,true),(by simp only[oC,nV];simp<;>omega),?_⟩;have K:=bD L (.cells #[.int .i64 0,.int .i64 0,.int .i64 0,.slice none 0 0,.slice none 0 0] 53);have u:=hF.aa K;refine M3.bw (.pointer (some ⟨L.heap.size,0,none⟩)) (L.alloc (.cells #[.int .i64 0,.int .i64 0,.int .i64 0,.slice none 0 0,.slice none 0 0] 53)) rfl rfl (by go_simp) ⟨aB S K,?_⟩;simp only[Act.put,aC,aD,aF,aG,aH,aI];exact ih (c,O,x,true) _ _ (by simp only[oC,nV];simp) (aB S K) ⟨v19,v21,v25,v26,G,pB,_,J,B,D,E,rfl,R,⟨u.aW,hF.c4,hF.cn,u.f1,u.f2,u.f3,u.f9,u.fx,fun _=>⟨_,rfl,T,ah.new _ _ _⟩⟩⟩
  case fin=>
   rintro⟨c,O,x,y⟩ a L S ⟨v19,v21,v25,v26,G,pB,pC,J,B,D,E,rfl,R,hF⟩ Z;simp only[oC]at Z;simp only at hF R;obtain rfl:O=true:=by cases O with|false=>simp[nV]at Z|true=>rfl
   obtain rfl:x=true:=by cases x with|false=>simp[nV]at Z|true=>rfl
   obtain rfl:y=true:=by cases y with|false=>simp[nV]at Z|true=>rfl
   obtain rfl:c=4:=by
    have:=hF.c4;by_cases h:c=4
    ·exact h
    ·rw[arJ h]at Z;omega
   obtain⟨a0,a1,a2,a3,a4,lg,Ln,y1,y2,A1,Ai,At,l,k,ni,ci,nt,ct,rfl,rfl,rfl,GS⟩:=R rfl;obtain⟨gs,rfl,iu,dW⟩:=hF.fx rfl;obtain⟨gy,rfl,Ci,bV⟩:=hF.fy rfl;have ao:gs≠gy:=by
    rintro rfl;unfold ah at dW bV;rw[dW]at bV;injection bV with bV
    injection bV with _ h2 _
    exact absurd h2 (by decide)
   clear R Z hF;refine M3.bG [18] (by kernel_rfl) (by simp) ?_;intro w2 fX Q i hi;simp only[bM,bN,arN]at hi;subst hi;have cg:=dW.aa Q;have o9:=bV.aa Q;have ie:=cg.Uz (vs:=#[.int .i64 a0,.int .i64 a1,.int .i64 a2,.int .i64 a3,.int .i64 a4,.int .i64 lg,.slice A1 l k]) rfl;have ad:=N2 gs (#[.int .i64 a0,.int .i64 a1,.int .i64 a2,.int .i64 a3,.int .i64 a4,.int .i64 lg,.slice A1 l k]:Array Value).toList 0 w2;have Fl:=o9.grown ad (by intro e;injection e with e;exact ao e.symm);have bU:Below W.heap.size W _:=kN fX ad (fun q e=>by injection e with e;subst e;exact iu);refine M3.eF _ rfl rfl (acI (vs:=#[.int .i64 a0,.int .i64 a1,.int .i64 a2,.int .i64 a3,.int .i64 a4,.int .i64 lg,.slice A1 l k]) (ty:=27) (d:=.tmp 12) (x:=.tmp 28) cg rfl (by kernel_rfl) rfl rfl rfl rfl) ⟨bU,?_⟩;simp only[Act.put,aC,aD,aF];generalize w2.setCells gs 0 _=w3 at*;refine M3.bG [19] (by kernel_rfl) (by simp) ?_;intro w4 lV ae i hi;simp only[bM,bN,arN]at hi;subst hi;have nH:=ie.aa ae;have Gi:=Fl.aa ae;have bp:=N2 gy (#[.int .i64 Ln,.int .i64 y1,.int .i64 y2,.slice Ai ni ci,.slice At nt ct]:Array Value).toList 0 w4;have pO:=nH.grown bp (by intro e;injection e with e;exact ao e);have bz:Below W.heap.size W _:=kN lV bp (fun q e=>by injection e with e;subst e;exact Ci);refine M3.eF _ rfl rfl (acI (vs:=#[.int .i64 Ln,.int .i64 y1,.int .i64 y2,.slice Ai ni ci,.slice At nt ct]) (ty:=53) (d:=.tmp 13) (x:=.tmp 29) Gi rfl (by kernel_rfl) rfl rfl rfl rfl) ⟨bz,?_⟩;simp only[Act.put,aC,aD,aF];generalize w4.setCells gy 0 _=w5 at*;refine M3.bG [20] (by kernel_rfl) (by simp) ?_;intro w6 ft bL i hi;simp only[bM,bN,arN]at hi;subst hi;have Nx:=pO.aa bL;refine M3.bw (.int .i64 I.err) w6 rfl rfl (by go_simp) ⟨ft,?_⟩;simp only[Act.put,aC,aD,aF,aG,aH,aI];refine M3.jZ (by kernel_rfl) ?_;intro w7 cC bk;refine bO _ _ ?_;have Ny:=Nx.aa bk;have gY:=P.trans (cC.mono (by have:=P.size;omega));have z5:w7.cell? ⟨gs,5,none⟩=some (.int .i64 lg):=Ny.cell 5;clear dW bV cg o9 ie Fl nH Gi pO Nx Ny ad bp S fX bU lV bz ft cC Q ae bL bk bO HC VI di;by_cases pR:I.err=0
   ·have PX:Hid (Hu I=lg):=(by rw[Hid,Hu,arK pR,GS pR]);have jC:=arH pR;rw[pR];clear pR GS;go_wp2;go_ret2;exact⟨by rw[PX.out,jC.out];simp[go_sem],gY⟩
   ·have PX:Hid (Hu I=0):=(by rw[Hid,Hu,arJ pR]);clear GS;obtain⟨er,af⟩:∃er,er=I.err:=⟨_,rfl⟩
    rw[<-af]at pR|-;have jC:=arH af;clear af;have O6:(er !=0)=true:=(by simpa using pR);go_wp2;go_ret2;exact⟨by rw[PX.out,jC.out];simp[go_sem],gY⟩
