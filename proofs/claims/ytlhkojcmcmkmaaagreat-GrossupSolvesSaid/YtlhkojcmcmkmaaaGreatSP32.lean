/- Conditions: as stated. -/
import Derived.Test.YtlhkojcmcmkmaaaGreatSP31
import Derived.Test.YtlhkojcmcmkmaaaGreatSP30
import Derived.Test.YtlhkojcmcmkmaaaGreatSP28
set_option maxRecDepth 100000
set_option maxHeartbeats 4000000
namespace Go.Proofs.YtlhkojcmcmkmaaaGreat
open Go.Proofs.Tryz
open Go.RowKit
theorem abj(n:Int)(w:World)(j:0<=n)(l:n<=1000000000):Calls prog 68 #[.int .i64 n] w fun e w'=>e=.returned (.bool true)/\w=w':=by go_enter func68,ntmps68;go_wp2;go_ret;exact⟨rfl,rfl⟩
theorem aeE(m:cY)(w:World)(h:m.In w)(C:AU m.t):Calls prog 99 #[m.val] w fun e w'=>e=.returned (.bool true)/\Below w.heap.size w w':=by
 have HR:=arH C;have hv:kf m.ws=true:=C.cB;obtain⟨jF,Gq⟩:=Hs hv;have ja:m.ss.length<=12:=C.Cg;have Vi:1<=m.count:=C.c0;have al:m.count<=53:=C.c1;have v0:0<=m.recover:=C.v0;have v1:m.recover<=1000000:=C.v1;have HW:Hid (∀W,Below w.heap.size w W->Calls prog 153 #[.slice m.Aw m.ws.length m.cw] W fun e w'=>e=.returned (.bool true)/\Below W.heap.size W w'):=fun W hb=>by
  have:=afq m.Aw m.cw m.ws W (h.ws.aa hb) Gq (by omega)
  rwa [hv]at this
 have HT:Hid (∀W,Below w.heap.size w W->Calls prog 155 #[.agg #[.int .i64 m.tm.t.method,.slice m.tm.Ab m.tm.t.au.length m.tm.cb,.int .i64 m.tm.t.aZ,.int .i64 m.tm.t.bf,.int .i64 m.tm.t.unit,.int .i64 m.tm.t.mode,.slice m.tm.Ar m.tm.t.rows.length m.tm.cr]] W fun e w'=>e=.returned (.bool true)/\Below W.heap.size W w'):=fun W hb=>Xc m.tm W (h.tm.aa hb) C.fT;have HS:Hid (∀W,Calls prog 113 #[.agg #[.int .i64 m.sh.fixed,.int .i64 m.sh.bn,.int .i64 m.sh.lower,.int .i64 m.sh.share,.int .i64 m.sh.top]] W fun e w'=>e=.returned (.bool true)/\Below W.heap.size W w'):=fun W=>Tx m.sh W C.sh;clear C hv Gq;unfold cY.val;go_enter func99,ntmps99;have hB:=ah.new w 45 #[.slice m.Aw m.ws.length m.cw,.slice m.As m.ss.length m.cs,.int .i64 m.tm.t.method,.slice m.tm.Ab m.tm.t.au.length m.tm.cb,.int .i64 m.tm.t.aZ,.int .i64 m.tm.t.bf,.int .i64 m.tm.t.unit,.int .i64 m.tm.t.mode,.slice m.tm.Ar m.tm.t.rows.length m.tm.cr,.int .i64 m.count,.int .i64 m.sh.fixed,.int .i64 m.sh.bn,.int .i64 m.sh.lower,.int .i64 m.sh.share,.int .i64 m.sh.top,.int .i64 m.recover];have ae:=bD w (.cells #[.slice m.Aw m.ws.length m.cw,.slice m.As m.ss.length m.cs,.int .i64 m.tm.t.method,.slice m.tm.Ab m.tm.t.au.length m.tm.cb,.int .i64 m.tm.t.aZ,.int .i64 m.tm.t.bf,.int .i64 m.tm.t.unit,.int .i64 m.tm.t.mode,.slice m.tm.Ar m.tm.t.rows.length m.tm.cr,.int .i64 m.count,.int .i64 m.sh.fixed,.int .i64 m.sh.bn,.int .i64 m.sh.lower,.int .i64 m.sh.share,.int .i64 m.sh.top,.int .i64 m.recover] 45);go_upto_region 1 with fail
 generalize w.alloc (Obj.cells _ _)=W at hB ae|-;obtain⟨R,u,S,T,U,V,X,Y,Z,z9,kX,kY,y,kZ,k6,k7⟩:=hB.cz16;go_wp2_with fail;refine(HW.out _ ae).mono ?_;rintro e D ⟨rfl,I⟩;have ai:=hB.aa I;have aS:=aB ae I;clear hB ae I R u S T U V X Y Z z9 kX kY y kZ k6 k7;have u:=ai.cell 1;simp only[ak,aq,ar]at u;have ab:=h.ss.aa aS;go_wp2_with fail
 go_loopw [18] (fun i wr=>∃k:Nat,k<=m.ss.length/\i=.int .i64 k/\Below D.heap.size D wr) (fun i _=>m.ss.length-(intOf i).toNat)
 case atStart=>exact⟨0,by omega,rfl,arM _ _⟩
 case round=>
  rename World=>wr
  obtain⟨k,hk,rfl,z⟩:=hrel;have J:=ai.aa z;have Ru:=J.lt;clear u;have u:=J.cell 1;simp only[ak,aq,ar]at u;by_cases K:k<m.ss.length
  ·obtain⟨b,ad,hA,hb,E⟩:=(ab.aa z).at_ K;have c0:=E 0 _ rfl;have c1:=E 1 _ rfl;have c2:=E 2 _ rfl;have c3:=E 3 _ rfl;have c4:=E 4 _ rfl;have c5:=E 5 _ rfl;have c6:=E 6 _ rfl;have c7:=E 7 _ rfl;simp only[arL]at c0;have eC:(k:Int)<(m.ss.length:Int):=(by omega);clear E;have OZ:=arH (fun W=>af0 m.ss[k] W (HR.out.l9 _ (arO K)));rw[hA]at u;rcases k with _|n
   ·have fS:(0:Int)<(m.ss.length:Int):=(by omega);simp only[asw,arL]at c0 c1 c2 c3 c4 c5 c6 c7;have j:=ah.new wr 123 #[.string m.ss[0].code,.int .i64 m.ss[0].aA,.int .i64 m.ss[0].aT,.int .i64 m.ss[0].floor,.int .i64 m.ss[0].dt,.int .i64 m.ss[0].unit,.int .i64 m.ss[0].mode,.bool m.ss[0].cA];have F:=bD wr (.cells #[.string m.ss[0].code,.int .i64 m.ss[0].aA,.int .i64 m.ss[0].aT,.int .i64 m.ss[0].floor,.int .i64 m.ss[0].dt,.int .i64 m.ss[0].unit,.int .i64 m.ss[0].mode,.bool m.ss[0].cA] 123);go_upto_region 6 with fail
    generalize wr.alloc (Obj.cells _ _)=l at j F|-;have r:=j.lt;have L:Below D.heap.size D l:=aB z F;have M:=J.aa F;have QJ:=M.lt;have q0:=Bw.cell (w:=l) (a:=⟨wr.heap.size,0,none⟩) r (j.cell 0);have q1:=Bw.cell (w:=l) (a:=⟨wr.heap.size,1,none⟩) r (j.cell 1);have q2:=Bw.cell (w:=l) (a:=⟨wr.heap.size,2,none⟩) r (j.cell 2);have q3:=Bw.cell (w:=l) (a:=⟨wr.heap.size,3,none⟩) r (j.cell 3);have q4:=Bw.cell (w:=l) (a:=⟨wr.heap.size,4,none⟩) r (j.cell 4);have q5:=Bw.cell (w:=l) (a:=⟨wr.heap.size,5,none⟩) r (j.cell 5);have q6:=Bw.cell (w:=l) (a:=⟨wr.heap.size,6,none⟩) r (j.cell 6);have q7:=Bw.cell (w:=l) (a:=⟨wr.heap.size,7,none⟩) r (j.cell 7);have e1:=Bw.cell (w:=l) (a:=⟨w.heap.size,1,none⟩) QJ (M.cell 1);rw[hA]at e1;clear u c0 c1 c2 c3 c4 c5 c6 c7 j M;refine qi (by kernel_rfl) (by kernel_rfl) ?_
    repeat(first|go_big_quiet_step(exact Bw.call _ (OZ.out _)))
    refine wpQuiet_nil ?_;intro W2 N;obtain⟨⟨W9,O⟩,B⟩:=N;subst B;have P:Below D.heap.size D W2:=aB L O;go_wp2;go_roundw
    case rel=>exact⟨0+1,by omega,by go_num,P⟩
    case measure=>simp[intOf];omega
   ·have mE:n<m.ss.length:=(by omega);obtain⟨b2,Ge,cU,G,af⟩:=(ab.aa z).at_ mE;rw[hA]at cU;injection cU with cU
    injection cU with cU fY
    subst cU fY;have p0:=af 0 _ rfl;simp only[arL]at p0;clear af;have CI:=asz.1 HR.out.lK n (n+1) mE K (by omega);have am:Op.bytesLess m.ss[n].code.toList m.ss[n+1].code.toList=true:=CI;clear CI;have Af:(n:Int)<(m.ss.length:Int):=(by omega);have ME:(n:Int)+1<(m.ss.length:Int):=(by omega);have hp:decide ((0:Int)<(n:Int)+1)=true:=(by rw[ar7];omega);have j:=ah.new wr 123 #[.string m.ss[n+1].code,.int .i64 m.ss[n+1].aA,.int .i64 m.ss[n+1].aT,.int .i64 m.ss[n+1].floor,.int .i64 m.ss[n+1].dt,.int .i64 m.ss[n+1].unit,.int .i64 m.ss[n+1].mode,.bool m.ss[n+1].cA];have F:=bD wr (.cells #[.string m.ss[n+1].code,.int .i64 m.ss[n+1].aA,.int .i64 m.ss[n+1].aT,.int .i64 m.ss[n+1].floor,.int .i64 m.ss[n+1].dt,.int .i64 m.ss[n+1].unit,.int .i64 m.ss[n+1].mode,.bool m.ss[n+1].cA] 123);go_upto_region 6 with fail
    generalize wr.alloc (Obj.cells _ _)=l at j F|-;have r:=j.lt;have L:Below D.heap.size D l:=aB z F;have M:=J.aa F;have QJ:=M.lt;have q0:=Bw.cell (w:=l) (a:=⟨wr.heap.size,0,none⟩) r (j.cell 0);have q1:=Bw.cell (w:=l) (a:=⟨wr.heap.size,1,none⟩) r (j.cell 1);have q2:=Bw.cell (w:=l) (a:=⟨wr.heap.size,2,none⟩) r (j.cell 2);have q3:=Bw.cell (w:=l) (a:=⟨wr.heap.size,3,none⟩) r (j.cell 3);have q4:=Bw.cell (w:=l) (a:=⟨wr.heap.size,4,none⟩) r (j.cell 4);have q5:=Bw.cell (w:=l) (a:=⟨wr.heap.size,5,none⟩) r (j.cell 5);have q6:=Bw.cell (w:=l) (a:=⟨wr.heap.size,6,none⟩) r (j.cell 6);have q7:=Bw.cell (w:=l) (a:=⟨wr.heap.size,7,none⟩) r (j.cell 7);have e1:=Bw.cell (w:=l) (a:=⟨w.heap.size,1,none⟩) QJ (M.cell 1);rw[hA]at e1;have q9:=Bw.cell (w:=l) (a:=⟨b,ad+n*8,none⟩) (by have:=F.size;show b<_;omega) ((F.cell (p:=⟨b,ad+n*8,none⟩) (by exact hb)).trans p0);clear p0;clear u c0 c1 c2 c3 c4 c5 c6 c7 j M;refine qi (by kernel_rfl) (by kernel_rfl) ?_
    repeat(first|go_big_quiet_step(exact Bw.call _ (OZ.out _)))
    refine wpQuiet_nil ?_;intro W2 N;obtain⟨⟨W9,O⟩,B⟩:=N;subst B;have P:Below D.heap.size D W2:=aB L O;go_wp2;go_roundw
    case rel=>exact⟨n+1+1,by omega,by go_num,P⟩
    case measure=>simp[intOf];omega
  ·clear u;obtain⟨R,u,S,T,U,V,X,Y,Z,z9,kX,kY,y,kZ,k6,k7⟩:=J.cz16;have eW:=aB aS z;go_wp2_with fail;refine(HT.out _ eW).mono ?_;rintro e w2 ⟨rfl,G⟩;have aK:=J.aa G;have bB:=aB eW G;clear J G R u S T U V X Y Z z9 kX kY y kZ k6 k7;obtain⟨R,u,S,T,U,V,X,Y,Z,z9,kX,kY,y,kZ,k6,k7⟩:=aK.cz16;go_wp2_with fail;refine(HS.out _).mono ?_;rintro e w3 ⟨rfl,Q⟩;have bE:=aK.aa Q;have cX:=aB bB Q;clear aK Q R u S T U V X Y Z z9 kX kY y kZ k6 k7;obtain⟨R,u,S,T,U,V,X,Y,Z,z9,kX,kY,y,kZ,k6,k7⟩:=bE.cz16;go_wp2;go_ret;exact⟨rfl,cX⟩
theorem aoG(m:jw)(w:World)(h:m.In w)(r:N9 m.t):Calls prog 100 #[m.val] w fun e w'=>e=.returned (.bool true)/\Below w.heap.size w w':=by
 have d0:0<=m.deps:=r.d0;have d1:m.deps<=20:=r.d1;have Dn:m.es.length<=7:=by have:=r.OP;simpa[jw.t]using this
 have I:∀e∈m.es,e.v∈m.t.others:=fun e z=>ar8.2 ⟨e,z,rfl⟩;have HE:Hid (∀e∈m.es,(0<=e.base/\e.base<=1000000000)/\e.l.length<=53/\∀x∈e.l,0<=x/\x<=1000000000):=fun e z=>⟨r.base _ (I e z),r.lens _ (I e z),r.earlier _ (I e z)⟩
 have hd:gl m.ds=true:=r.j9;obtain⟨ab,V⟩:=LH hd;have X:Hid (∀W,Below w.heap.size w W->Calls prog 156 #[.slice m.Ad m.ds.length m.cd] W fun e w'=>e=.returned (.bool true)/\Below W.heap.size W w'):=fun W J=>by
  have:=YE m.Ad m.cd m.ds W (h.ds.aa J) V (by omega)
  rwa [hd]at this
 have Y:Hid (∀W,Below w.heap.size w W->Calls prog 157 #[.slice m.Ao m.os.length m.co] W fun e w'=>e=.returned (.bool true)/\Below W.heap.size W w'):=fun W J=>abh m.Ao m.co m.os W (h.os.aa J) r.orders;clear r hd V I;unfold jw.val;go_enter func100,ntmps100;have K:=ah.new w 50 #[.int .i64 m.deps,.slice m.Ad m.ds.length m.cd,.slice m.Ao m.os.length m.co,.slice m.Ae m.es.length m.ce];have L:=bD w (.cells #[.int .i64 m.deps,.slice m.Ad m.ds.length m.cd,.slice m.Ao m.os.length m.co,.slice m.Ae m.es.length m.ce] 50);go_upto_region 1 with fail
 generalize w.alloc (Obj.cells _ _)=W at K L|-;obtain⟨M,N,O,C⟩:=K.cz4;go_wp2_with fail;refine(X.out _ L).mono ?_;rintro e w1 ⟨rfl,n⟩;have P:=K.aa n;have Q:=aB L n;clear K L n M N O C;obtain⟨M,N,O,C⟩:=P.cz4;go_wp2_with fail;refine(Y.out _ Q).mono ?_;rintro e D ⟨rfl,u⟩;have Z:=P.aa u;have R:=aB Q u;clear P Q u M N O C;have C:=Z.cell 3;simp only[ak,aq,ar]at C;have S:=h.es.aa R;have oK:Hid (∀e∈m.es,aj encI 1 D D.heap.size e.A e.l):=fun e z=>(h.ins e z).aa R;clear h X Y Z;go_wp2_with fail
 go_loopw [34] (fun i wr=>∃k:Nat,k<=m.es.length/\i=.int .i64 k/\Below D.heap.size D wr) (fun i _=>m.es.length-(intOf i).toNat)
 case atStart=>exact⟨0,by omega,rfl,arM _ _⟩
 case round=>
  rename World=>wr
  clear C;obtain⟨k,hk,rfl,p⟩:=hrel;have bA:=p.size;by_cases B:k<m.es.length
  ·obtain⟨b,ad,hA,J,T⟩:=(S.aa p).at_ B;have c0:=T 0 _ rfl;have c1:=T 1 _ rfl;simp only[arL]at c0;have eC:(k:Int)<(m.es.length:Int):=(by omega);clear T;rw[hA];clear hA;obtain⟨⟨b0,b1⟩,lz,E⟩:=HE.out _ (arO B);have Pz:=arH E;have jg:=oK.out _ (arO B);have dA:=ah.new wr 137 #[.slice m.es[k].A m.es[k].l.length m.es[k].cap,.int .i64 m.es[k].base];have U:=bD wr (.cells #[.slice m.es[k].A m.es[k].l.length m.es[k].cap,.int .i64 m.es[k].base] 137);clear E;go_upto_region 8 with fail
   generalize wr.alloc (Obj.cells _ _)=W1 at dA U|-;have n:=aB p U;have U7:=jg.aa n;clear c0 c1 U p jg bA;obtain⟨M,N⟩:=dA.cz2;go_wp2_with fail;refine(abj _ _ b0 b1).mono ?_;rintro e w' ⟨rfl,rfl⟩;go_wp2_with fail
   go_loop [51] (fun i=>∃j:Nat,j<=m.es[k].l.length/\i=.int .i64 j) (fun i=>m.es[k].l.length-(intOf i).toNat)
   case atStart=>exact⟨0,by omega,rfl⟩
   case round=>
    obtain⟨j,hj,rfl⟩:=hrel;by_cases o7:j<m.es[k].l.length
    ·obtain⟨b2,Ge,dP,u,F⟩:=U7.at_ o7;have Sv:=F 0 _ rfl;simp only[arL,ast]at Sv;have kz:(j:Int)<(m.es[k].l.length:Int):=(by omega);clear F;rw[dP];obtain⟨x0,x1⟩:=Pz.out _ (arO o7);go_wp2_with fail;refine(abj _ _ x0 x1).mono ?_;rintro e w' ⟨rfl,rfl⟩;go_wp2;go_round
     case rel=>
      have y:∃G:Nat,G<=m.es[k].l.length/\Value.int .i64 ((j:Int)+1)=.int .i64 G:=⟨j+1,by omega,by go_num⟩
      first|exact y|(refine⟨trivial,?_⟩;(repeat apply Exists.intro);exact⟨y,rfl⟩)|((repeat apply Exists.intro);exact⟨y,rfl⟩)
     case measure=>simp[intOf];omega
    ·go_wp2;go_roundw
     case rel=>
      have y:∃G:Nat,G<=m.es.length/\Value.int .i64 ((k:Int)+1)=.int .i64 G/\Below D.heap.size D W1:=⟨k+1,by omega,by go_num,n⟩
      first|exact y|((repeat apply Exists.intro);exact⟨y,rfl⟩)
     case measure=>simp[intOf];omega
  ·have y:=aB R p;go_wp2;go_ret;exact⟨rfl,y⟩
theorem aoH(m:dD)(w:World)(h:m.In w)(Q:Kw m.t):Calls prog 29 #[m.val] w fun e w'=>e=.returned (.bool true)/\Below w.heap.size w w':=by
 obtain⟨r,ax,B,J,K,j,At,u,l⟩:=m;obtain⟨R,S,n,C,T,U,V,X,y⟩:=Q;simp only[dD.t]at R S n C T U V X y;obtain⟨L,D⟩:=h;simp only at L D;have E:=arH C;obtain⟨Y,M⟩:=AD y;have Z:Hid (∀W,Below w.heap.size w W->Calls prog 69 #[.slice At l.length u] W fun e w'=>e=.returned (.bool true)/\Below W.heap.size W w'):=fun W N=>by
  have:=Ud At u l W (D.aa N) M (by omega)
  rwa [y]at this
 have ab:j.length<=53:=by omega
 have ad:(r !=(j.length:Int))=false:=by simp[n]
 have mD:=arH n;clear C y M n D;unfold dD.val;simp only;go_enter func29,ntmps29;have O:=ah.new w 53 #[.int .i64 r,.int .i64 ax,.int .i64 B,.slice J j.length K,.slice At l.length u];have z:=bD w (.cells #[.int .i64 r,.int .i64 ax,.int .i64 B,.slice J j.length K,.slice At l.length u] 53);go_upto_region 1 with fail
 generalize w.alloc (Obj.cells _ _)=W at O z|-;obtain⟨z0,z1,z2,z3,z4⟩:=O.cz5;have F:=L.aa z;go_wp2_with fail
 go_loop [25] (fun i=>∃k:Nat,k<=j.length/\i=.int .i64 k) (fun i=>j.length-(intOf i).toNat)
 case atStart=>exact⟨0,by omega,rfl⟩
 case round=>
  obtain⟨k,hk,rfl⟩:=hrel;by_cases p:k<j.length
  ·obtain⟨b,af,hA,N,P⟩:=F.at_ p;have c0:=P 0 _ rfl;simp only[arL,ast]at c0;have eC:(k:Int)<(j.length:Int):=(by omega);clear P;rw[hA];obtain⟨x0,x1⟩:=E.out _ (arO p);go_wp2_with fail;refine(abj _ _ x0 x1).mono ?_;rintro e w' ⟨rfl,rfl⟩;go_wp2;go_round
   case rel=>
    have G:∃k':Nat,k'<=j.length/\Value.int .i64 ((k:Int)+1)=.int .i64 k':=⟨k+1,by omega,by go_num⟩
    first|exact G|(refine⟨trivial,?_⟩;(repeat apply Exists.intro);exact⟨G,rfl⟩)|((repeat apply Exists.intro);exact⟨G,rfl⟩)
   case measure=>simp[intOf];omega
  ·have ai:-(r*1000000000)<=B:=(by omega);go_wp2_with fail;refine(Z.out _ z).mono ?_;rintro e w1 ⟨rfl,I⟩;have aS:=aB z I;go_wp2;go_ret;exact⟨rfl,aS⟩
theorem aoI(K:Option Addr)(u:Nat)(kept:List Elem)(w:World)(y:aj aQ 2 w w.heap.size K kept)(F:WB kept):Calls prog 101 #[.slice K kept.length u] w fun e w'=>e=.returned (.bool true)/\Below w.heap.size w w':=by
 obtain⟨z,Q,D⟩:=F;obtain⟨_,E⟩:=AD z;have G:Hid (Calls prog 69 #[.slice K kept.length u] w fun e w'=>e=.returned (.bool true)/\Below w.heap.size w w'):=by
  have:=Ud K u kept w y E (by omega)
  rwa [z]at this
 have B:=arH D;clear z E D;go_enter func101,ntmps101;go_wp2_with fail;refine G.out.mono ?_;rintro e p ⟨rfl,l⟩;have I:=y.aa l;clear y;go_wp2_with fail
 go_loopw [15] (fun i wr=>∃k:Nat,k<=kept.length/\i=.int .i64 k/\Below p.heap.size p wr) (fun i _=>kept.length-(intOf i).toNat)
 case atStart=>exact⟨0,by omega,rfl,arM _ _⟩
 case round=>
  rename World=>wr
  obtain⟨k,R,rfl,j⟩:=hrel;have J:=j.size;by_cases n:k<kept.length
  ·obtain⟨b,L,M,S,C⟩:=(I.aa j).at_ n;have N:=C 0 _ rfl;have T:=C 1 _ rfl;simp only[arL]at N;have U:(k:Int)<(kept.length:Int):=(by omega);clear C;rw[M];have O:=B.out _ (arO n);have P:=j.alloc J (.cells #[.string kept[k].code,.int .i64 kept[k].amount] 69);go_wp2;go_roundw
   case rel=>
    have r:∃k':Nat,k'<=kept.length/\Value.int .i64 ((k:Int)+1)=.int .i64 k'/\Below p.heap.size p _:=⟨k+1,by omega,by go_num,P⟩
    first|exact r|((repeat apply Exists.intro);exact⟨r,rfl⟩)
   case measure=>simp[intOf];omega
  ·have r:=aB l j;go_wp2;go_ret;exact⟨rfl,r⟩
theorem aoJ(r:cY)(p:jw)(y:dD)(K:Option Addr)(U:Nat)(kept:List Elem)(w:World)(hr:r.In w)(V:p.In w)(hy:y.In w)(hk:aj aQ 2 w w.heap.size K kept)
  (J:AU r.t) (X:N9 p.t) (L:Kw y.t) (hK:WB kept) (hS:∀e∈p.es,(e.l.length:Int)=y.az):
  Calls prog 51 #[r.val,p.val,y.val,.slice K kept.length U] w fun e w'=>e=.returned (.int .i64 (pk y.az r.count))/\Below w.heap.size w w':=by
 have HV:Hid (∀W,Below w.heap.size w W->Calls prog 99 #[.agg #[.slice r.Aw r.ws.length r.cw,.slice r.As r.ss.length r.cs,.int .i64 r.tm.t.method,.slice r.tm.Ab r.tm.t.au.length r.tm.cb,.int .i64 r.tm.t.aZ,.int .i64 r.tm.t.bf,.int .i64 r.tm.t.unit,.int .i64 r.tm.t.mode,.slice r.tm.Ar r.tm.t.rows.length r.tm.cr,.int .i64 r.count,.int .i64 r.sh.fixed,.int .i64 r.sh.bn,.int .i64 r.sh.lower,.int .i64 r.sh.share,.int .i64 r.sh.top,.int .i64 r.recover]] W fun e w'=>e=.returned (.bool true)/\Below W.heap.size W w'):=fun W C=>aeE r W (hr.aa C) J;have HP:Hid (∀W,Below w.heap.size w W->Calls prog 100 #[.agg #[.int .i64 p.deps,.slice p.Ad p.ds.length p.cd,.slice p.Ao p.os.length p.co,.slice p.Ae p.es.length p.ce]] W fun e w'=>e=.returned (.bool true)/\Below W.heap.size W w'):=fun W C=>aoG p W (V.aa C) X;have HY:Hid (∀W,Below w.heap.size w W->Calls prog 29 #[.agg #[.int .i64 y.az,.int .i64 y.ax,.int .i64 y.aN,.slice y.Ai y.ins.length y.ci,.slice y.At y.taken.length y.ct]] W fun e w'=>e=.returned (.bool true)/\Below W.heap.size W w'):=fun W C=>aoH y W (hy.aa C) L;have HK:Hid (∀W,Below w.heap.size w W->Calls prog 101 #[.slice K kept.length U] W fun e w'=>e=.returned (.bool true)/\Below W.heap.size W w'):=fun W C=>aoI K U kept W (hk.aa C) hK;have HS:=arH hS;have Dn:p.es.length<=7:=by have:=X.OP;simpa[jw.t]using this
 have y0:0<=y.az:=L.p0;have y1:y.az<=53:=L.p1;have r0:1<=r.count:=J.c0;have r1:r.count<=53:=J.c1;clear J X L hK hS hr hy hk;unfold cY.val jw.val dD.val;go_enter func51,ntmps51;have M:=((ah.new w 45 #[.slice r.Aw r.ws.length r.cw,.slice r.As r.ss.length r.cs,.int .i64 r.tm.t.method,.slice r.tm.Ab r.tm.t.au.length r.tm.cb,.int .i64 r.tm.t.aZ,.int .i64 r.tm.t.bf,.int .i64 r.tm.t.unit,.int .i64 r.tm.t.mode,.slice r.tm.Ar r.tm.t.rows.length r.tm.cr,.int .i64 r.count,.int .i64 r.sh.fixed,.int .i64 r.sh.bn,.int .i64 r.sh.lower,.int .i64 r.sh.share,.int .i64 r.sh.top,.int .i64 r.recover]).alloc (.cells #[.int .i64 p.deps,.slice p.Ad p.ds.length p.cd,.slice p.Ao p.os.length p.co,.slice p.Ae p.es.length p.ce] 50)).alloc (.cells #[.int .i64 y.az,.int .i64 y.ax,.int .i64 y.aN,.slice y.Ai y.ins.length y.ci,.slice y.At y.taken.length y.ct] 53);have N:=(ah.new (w.alloc (.cells #[.slice r.Aw r.ws.length r.cw,.slice r.As r.ss.length r.cs,.int .i64 r.tm.t.method,.slice r.tm.Ab r.tm.t.au.length r.tm.cb,.int .i64 r.tm.t.aZ,.int .i64 r.tm.t.bf,.int .i64 r.tm.t.unit,.int .i64 r.tm.t.mode,.slice r.tm.Ar r.tm.t.rows.length r.tm.cr,.int .i64 r.count,.int .i64 r.sh.fixed,.int .i64 r.sh.bn,.int .i64 r.sh.lower,.int .i64 r.sh.share,.int .i64 r.sh.top,.int .i64 r.recover] 45)) 50 #[.int .i64 p.deps,.slice p.Ad p.ds.length p.cd,.slice p.Ao p.os.length p.co,.slice p.Ae p.es.length p.ce]).alloc (.cells #[.int .i64 y.az,.int .i64 y.ax,.int .i64 y.aN,.slice y.Ai y.ins.length y.ci,.slice y.At y.taken.length y.ct] 53);have O:=ah.new ((w.alloc (.cells #[.slice r.Aw r.ws.length r.cw,.slice r.As r.ss.length r.cs,.int .i64 r.tm.t.method,.slice r.tm.Ab r.tm.t.au.length r.tm.cb,.int .i64 r.tm.t.aZ,.int .i64 r.tm.t.bf,.int .i64 r.tm.t.unit,.int .i64 r.tm.t.mode,.slice r.tm.Ar r.tm.t.rows.length r.tm.cr,.int .i64 r.count,.int .i64 r.sh.fixed,.int .i64 r.sh.bn,.int .i64 r.sh.lower,.int .i64 r.sh.share,.int .i64 r.sh.top,.int .i64 r.recover] 45)).alloc (.cells #[.int .i64 p.deps,.slice p.Ad p.ds.length p.cd,.slice p.Ao p.os.length p.co,.slice p.Ae p.es.length p.ce] 50)) 53 #[.int .i64 y.az,.int .i64 y.ax,.int .i64 y.aN,.slice y.Ai y.ins.length y.ci,.slice y.At y.taken.length y.ct];have P:=ej (ej (bD w (.cells #[.slice r.Aw r.ws.length r.cw,.slice r.As r.ss.length r.cs,.int .i64 r.tm.t.method,.slice r.tm.Ab r.tm.t.au.length r.tm.cb,.int .i64 r.tm.t.aZ,.int .i64 r.tm.t.bf,.int .i64 r.tm.t.unit,.int .i64 r.tm.t.mode,.slice r.tm.Ar r.tm.t.rows.length r.tm.cr,.int .i64 r.count,.int .i64 r.sh.fixed,.int .i64 r.sh.bn,.int .i64 r.sh.lower,.int .i64 r.sh.share,.int .i64 r.sh.top,.int .i64 r.recover] 45)) (.cells #[.int .i64 p.deps,.slice p.Ad p.ds.length p.cd,.slice p.Ao p.os.length p.co,.slice p.Ae p.es.length p.ce] 50)) (.cells #[.int .i64 y.az,.int .i64 y.ax,.int .i64 y.aN,.slice y.Ai y.ins.length y.ci,.slice y.At y.taken.length y.ct] 53);simp only[arU]at N O;go_upto_region 1 with fail
 generalize World.alloc _ (Obj.cells #[.int .i64 y.az,.int .i64 y.ax,.int .i64 y.aN,.slice y.Ai y.ins.length y.ci,.slice y.At y.taken.length y.ct] 53)=W at M N O P|-;obtain⟨E,F,G,D,Y,z5,z6,z7,z8,Q,kX,kY,Z,kZ,k6,k7⟩:=M.cz16;go_wp2_with fail;refine(HV.out _ P).mono ?_;rintro e w1 ⟨rfl,j⟩;have CE:=M.aa j;have nc:=N.aa j;have BF:=O.aa j;have aS:=aB P j;clear M N O P j E F G D Y z5 z6 z7 z8 Q kX kY Z kZ k6 k7;obtain⟨E,F,G,D⟩:=nc.cz4;go_wp2_with fail;refine(HP.out _ aS).mono ?_;rintro e w2 ⟨rfl,u⟩;have kH:=CE.aa u;have zV:=nc.aa u;have o9:=BF.aa u;have bB:=aB aS u;clear CE nc BF aS u E F G D;obtain⟨E,F,G,D,Y⟩:=o9.cz5;go_wp2_with fail;refine(HY.out _ bB).mono ?_;rintro e w3 ⟨rfl,z⟩;have S7:=kH.aa z;have Jb:=zV.aa z;have Fl:=o9.aa z;have cX:=aB bB z;clear kH zV o9 bB z E F G D Y;go_wp2_with fail;refine(HK.out _ cX).mono ?_;rintro e R ⟨rfl,B⟩;have BP:=S7.aa B;have S8:=Jb.aa B;have Gi:=Fl.aa B;have eW:=aB cX B;clear S7 Jb Fl cX B;have Q:=BP.cell 9;have D:=S8.cell 3;have Ln:=Gi.cell 0;simp only[ak,aq,ar]at Q D Ln;have ab:=V.es.aa eW;clear HV HP HY HK V;by_cases nA:r.count<=y.az
 ·have HE:Hid (pk y.az r.count=3):=by rw[Hid,pk,arK nA]
  go_wp2;go_ret;exact⟨by rw[HE.out];rfl,eW⟩
 ·have HE:Hid (pk y.az r.count=0):=by rw[Hid,pk,arJ nA]
  go_wp2_with fail
  go_loopw [37] (fun i wr=>∃k:Nat,k<=p.es.length/\i=.int .i64 k/\Below R.heap.size R wr) (fun i _=>p.es.length-(intOf i).toNat)
  case atStart=>exact⟨0,by omega,rfl,arM _ _⟩
  case round=>
   rename World=>wr
   clear Q D Ln;obtain⟨k,D7,rfl,n⟩:=hrel;have bA:=n.size;by_cases I:k<p.es.length
   ·obtain⟨b,ad,hA,C,hc⟩:=(ab.aa n).at_ I;have c0:=hc 0 _ rfl;have c1:=hc 1 _ rfl;simp only[arL]at c0;have eC:(k:Int)<(p.es.length:Int):=(by omega);clear hc;rw[hA];have af:((p.es[k].l.length:Int)!=y.az)=false:=(by rw[HS.out _ (arO I)];simp);have dA:=ah.new wr 137 #[.slice p.es[k].A p.es[k].l.length p.es[k].cap,.int .i64 p.es[k].base];have S:=bD wr (.cells #[.slice p.es[k].A p.es[k].l.length p.es[k].cap,.int .i64 p.es[k].base] 137);have fQ:=(Gi.aa n).aa S;go_upto_region 8 with fail
    generalize wr.alloc (Obj.cells _ _)=W1 at dA S fQ|-;have j:=aB n S;have e0:=dA.cell 0;have e9:=fQ.cell 0;simp only[ak,aq]at e0 e9;clear c0 c1 S n bA dA fQ;go_wp2;go_roundw
    case rel=>
     have T:∃k':Nat,k'<=p.es.length/\Value.int .i64 ((k:Int)+1)=.int .i64 k'/\Below R.heap.size R W1:=⟨k+1,by omega,by go_num,j⟩
     first|exact T|((repeat apply Exists.intro);exact⟨T,rfl⟩)
    case measure=>simp[intOf];omega
   ·have T:=aB eW n;go_wp2;go_ret;exact⟨by rw[HE.out];rfl,T⟩
