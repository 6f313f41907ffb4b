/- Conditions: as stated. -/
import Derived.Test.YtlhkojcmcmkmaaaGreatSAlc
import Derived.Test.YtlhkojcmcmkmaaaGreatSNetS
set_option maxRecDepth 100000
set_option maxHeartbeats 4000000
namespace Go.Proofs.YtlhkojcmcmkmaaaGreat
open Go.Proofs.Tryz
open Go.RowKit
theorem adU(e:List bP)(i:Nat)(x:bP)(l:Bool)(j:i=0\/(∃p,e[i-1]?=some p/\l=Op.bytesLess p.code.toList x.code.toList)):
  lJ e i x=decide (bK x.code=true/\(i=0\/l=true)/\0<=x.bY/\x.bY<=99/\0<=x.amount/\x.amount<=1000000000/\0<=x.cap/\x.cap<=1000000000/\0<=x.bH/\x.bH<=1000000):=by
 rw[Bool.eq_iff_iff];rcases j with rfl|⟨p,n,rfl⟩
 ·simp[lJ,BH,bJ,and_assoc]
 ·simp[lJ,BH,bJ,n,and_assoc]
theorem adV(e:List Elem)(i:Nat)(x:Elem)(l:Bool)(j:i=0\/(∃p,e[i-1]?=some p/\l=Op.bytesLess p.code.toList x.code.toList)):
  mC e i x=decide (bK x.code=true/\(i=0\/l=true)/\0<=x.amount/\x.amount<=1000000000000):=by
 rw[Bool.eq_iff_iff];rcases j with rfl|⟨p,n,rfl⟩
 ·simp[mC,BH,bJ]
 ·simp[mC,BH,bJ,n,and_assoc]
theorem YE(A:Option Addr)(K:Nat)(l:List bP)(w:World)(h:aj kB 6 w w.heap.size A l)(P:∀x∈l,x.code.size<=maxLen)(T:l.length<=9223372036854775807):
    Calls prog 156 #[.slice A l.length K] w fun e w'=>e=.returned (.bool (gl l))/\Below w.heap.size w w':=by
  have U:=arH P;clear P;by_cases u:16<l.length
  · have V:Hid (gl l=false):=Vt u
    go_enter func156,ntmps156;go_wp2;go_ret;exact⟨by rw[V.out];rfl,arM _ _⟩
  · have X:l.length<=16:=by omega
    clear u T;go_enter func156,ntmps156;go_wp2
    go_loopw [10] (fun i wr=>∃k:Nat,k<=l.length/\i=.int .i64 k/\Hid (∀j,(y:j<l.length)->j<k->lJ l j l[j]=true)/\Below w.heap.size w wr) (fun i _=>l.length-(intOf i).toNat)
    case atStart=>exact⟨0,by omega,rfl,fun j _ y=>absurd y (by omega),arM _ _⟩
    case round=>
      obtain⟨k,hk,rfl,n,p⟩:=hrel;by_cases z:k<l.length
      · obtain⟨b,Y,rfl,hb,B⟩:=(h.below p).at_ z
        have Z:=B 0 _ rfl;have c1:=B 1 _ rfl;have c2:=B 2 _ rfl;have c3:=B 3 _ rfl;have c4:=B 4 _ rfl;have c5:=B 5 _ rfl;simp only[arL]at Z;have Q:=U.out _ (arO z);have C:=p.size;have J:Hid (lJ l k l[k]=false->gl l=false):=Vu z;clear B;have R:Below w.heap.size w (wr.alloc (.cells (kB l[k]).toArray 166)):=p.alloc C _;rcases arY 0 k with fS|fS;rotate_left
        · have E:=adU l k l[k] true (.inl (by omega))
          have ab:decide ((0:Int)<(k:Int))=false:=(by simp;omega);have ad:decide (0<k)=false:=(by simp;omega);have F:=arH E;clear E;go_wp2_with(go_at_call 82;refine(Cq _ _ Q).mono ?_;rintro e w' ⟨rfl,rfl⟩)
          · have r:(!bK l[k].code)=true:=by assumption
            go_ret;exact⟨by rw[J.out (by simp at r;simp[lJ,r])];rfl,R⟩
          · have r:(!bK l[k].code)=false:=by assumption
            go_quiet(fail);go_wp2
            all_goals first
              |(
                 go_ret;refine⟨?_,below_drewN (p.alloc C _) _⟩;have L:lJ l (k) l[k]=false:=by
                   go_light
                   rw[F.out];apply asX;rintro⟨h1,M,h3,h4,h5,h6,h7,h8,h9,N⟩
                   first|omega|(simp_all;done)|(simp_all;omega)
                 rw[J.out L];rfl)
              |(
                 go_roundw
                 case rel=>
                   have G:∀j,(y:j<l.length)->j<k+1->lJ l j l[j]=true:=by
                     intro j y O;rcases arY j (k)with h1|h1
                     · exact n.out j y h1
                     · obtain rfl:j=k:=by omega
                       go_light
                       rw[F.out];apply asN;refine⟨by simpa using r,by omega,?_,?_,?_,?_,?_,?_,?_,?_⟩
                       all_goals first|omega|(simp_all;done)|(simp_all;omega)
                   first|exact⟨k+1,by omega,by go_num,G,below_drewN (p.alloc C _) _⟩|((repeat apply Exists.intro);exact⟨⟨k+1,by omega,by go_num,G,below_drewN (p.alloc C _) _⟩,rfl⟩)
                 case measure=>simp[intOf];omega)
        · obtain⟨m,rfl⟩:∃m,k=m+1:=⟨k-1,by omega⟩
          obtain⟨b',S,D,af,I⟩:=(h.below p).at_ (show m<l.length by omega);injection D with D
          injection D with h1 M
          subst h1 M;have p0:=I 0 _ rfl;simp only[arL]at p0;have E:=adU l (m+1) l[m+1] _ (.inr ⟨l[m],by simp,rfl⟩);have F:=arH E;have Jf:b<wr.heap.size:=(by omega);clear I E;go_wp2_with(go_at_call 82;refine(Cq _ _ Q).mono ?_;rintro e w' ⟨rfl,rfl⟩)
          · have r:(!bK l[m+1].code)=true:=by assumption
            go_ret;exact⟨by rw[J.out (by simp at r;simp[lJ,r])];rfl,R⟩
          · have r:(!bK l[m+1].code)=false:=by assumption
            go_quiet(fail);go_wp2
            all_goals first
              |(
                 go_ret;refine⟨?_,below_drewN (p.alloc C _) _⟩;have L:lJ l (m+1) l[m+1]=false:=by
                   go_light
                   rw[F.out];apply asX;rintro⟨h1,M,h3,h4,h5,h6,h7,h8,h9,N⟩
                   first|omega|(simp_all;done)|(simp_all;omega)
                 rw[J.out L];rfl)
              |(
                 go_roundw
                 case rel=>
                   have G:∀j,(y:j<l.length)->j<m+1+1->lJ l j l[j]=true:=by
                     intro j y O;rcases arY j (m+1)with h1|h1
                     · exact n.out j y h1
                     · obtain rfl:j=m+1:=by omega
                       go_light
                       rw[F.out];apply asN;refine⟨by simpa using r,.inr (by simp_all),?_,?_,?_,?_,?_,?_,?_,?_⟩
                       all_goals first|omega|(simp_all;done)|(simp_all;omega)
                   first|exact⟨m+1+1,by omega,by go_num,G,below_drewN (p.alloc C _) _⟩|((repeat apply Exists.intro);exact⟨⟨m+1+1,by omega,by go_num,G,below_drewN (p.alloc C _) _⟩,rfl⟩)
                 case measure=>simp[intOf];omega)
      · go_wp2
        go_ret;have hv:gl l=true:=Vv X (fun i hi=>n.out i hi (by omega));exact⟨by rw[hv];rfl,p⟩
theorem Ud(A:Option Addr)(J:Nat)(l:List Elem)(w:World)(h:aj aQ 2 w w.heap.size A l)(O:∀x∈l,x.code.size<=maxLen)(S:l.length<=9223372036854775807):
    Calls prog 69 #[.slice A l.length J] w fun e w'=>e=.returned (.bool (eP l))/\Below w.heap.size w w':=by
  have T:=arH O;clear O;by_cases u:128<l.length
  · have U:Hid (eP l=false):=Vt u
    go_enter func69,ntmps69;go_wp2;go_ret;exact⟨by rw[U.out];rfl,arM _ _⟩
  · have V:l.length<=128:=by omega
    clear u S;go_enter func69,ntmps69;go_wp2
    go_loopw [10] (fun i wr=>∃k:Nat,k<=l.length/\i=.int .i64 k/\Hid (∀j,(y:j<l.length)->j<k->mC l j l[j]=true)/\Below w.heap.size w wr) (fun i _=>l.length-(intOf i).toNat)
    case atStart=>exact⟨0,by omega,rfl,fun j _ y=>absurd y (by omega),arM _ _⟩
    case round=>
      obtain⟨k,hk,rfl,n,p⟩:=hrel;by_cases z:k<l.length
      · obtain⟨b,X,rfl,hb,K⟩:=(h.below p).at_ z
        have Y:=K 0 _ rfl;have c1:=K 1 _ rfl;simp only[arL]at Y;have P:=T.out _ (arO z);have B:=p.size;have I:Hid (mC l k l[k]=false->eP l=false):=Vu z;clear K;have Q:Below w.heap.size w (wr.alloc (.cells (aQ l[k]).toArray 69)):=p.alloc B _;rcases arY 0 k with fS|fS;rotate_left
        · have D:=adV l k l[k] true (.inl (by omega))
          have Z:decide ((0:Int)<(k:Int))=false:=(by simp;omega);have ab:decide (0<k)=false:=(by simp;omega);have E:=arH D;clear D;go_wp2_with(go_at_call 82;refine(Cq _ _ P).mono ?_;rintro e w' ⟨rfl,rfl⟩)
          · have r:(!bK l[k].code)=true:=by assumption
            go_ret;exact⟨by rw[I.out (by simp at r;simp[mC,r])];rfl,Q⟩
          · have r:(!bK l[k].code)=false:=by assumption
            go_quiet(fail);go_wp2
            all_goals first
              |(
                 go_ret;refine⟨?_,below_drewN (p.alloc B _) _⟩;have L:mC l (k) l[k]=false:=by
                   go_light
                   rw[E.out];apply asX;rintro⟨h1,M,h3,h4⟩
                   first|omega|(simp_all;done)|(simp_all;omega)
                 rw[I.out L];rfl)
              |(
                 go_roundw
                 case rel=>
                   have F:∀j,(y:j<l.length)->j<k+1->mC l j l[j]=true:=by
                     intro j y N;rcases arY j (k)with h1|h1
                     · exact n.out j y h1
                     · obtain rfl:j=k:=by omega
                       go_light
                       rw[E.out];apply asN;refine⟨by simpa using r,by omega,?_,?_⟩
                       all_goals first|omega|(simp_all;done)|(simp_all;omega)
                   first|exact⟨k+1,by omega,by go_num,F,below_drewN (p.alloc B _) _⟩|((repeat apply Exists.intro);exact⟨⟨k+1,by omega,by go_num,F,below_drewN (p.alloc B _) _⟩,rfl⟩)
                 case measure=>simp[intOf];omega)
        · obtain⟨m,rfl⟩:∃m,k=m+1:=⟨k-1,by omega⟩
          obtain⟨b',R,C,ad,G⟩:=(h.below p).at_ (show m<l.length by omega);injection C with C
          injection C with h1 M
          subst h1 M;have p0:=G 0 _ rfl;simp only[arL]at p0;have D:=adV l (m+1) l[m+1] _ (.inr ⟨l[m],by simp,rfl⟩);have E:=arH D;have Jf:b<wr.heap.size:=(by omega);clear G D;go_wp2_with(go_at_call 82;refine(Cq _ _ P).mono ?_;rintro e w' ⟨rfl,rfl⟩)
          · have r:(!bK l[m+1].code)=true:=by assumption
            go_ret;exact⟨by rw[I.out (by simp at r;simp[mC,r])];rfl,Q⟩
          · have r:(!bK l[m+1].code)=false:=by assumption
            go_quiet(fail);go_wp2
            all_goals first
              |(
                 go_ret;refine⟨?_,below_drewN (p.alloc B _) _⟩;have L:mC l (m+1) l[m+1]=false:=by
                   go_light
                   rw[E.out];apply asX;rintro⟨h1,M,h3,h4⟩
                   first|omega|(simp_all;done)|(simp_all;omega)
                 rw[I.out L];rfl)
              |(
                 go_roundw
                 case rel=>
                   have F:∀j,(y:j<l.length)->j<m+1+1->mC l j l[j]=true:=by
                     intro j y N;rcases arY j (m+1)with h1|h1
                     · exact n.out j y h1
                     · obtain rfl:j=m+1:=by omega
                       go_light
                       rw[E.out];apply asN;refine⟨by simpa using r,.inr (by simp_all),?_,?_⟩
                       all_goals first|omega|(simp_all;done)|(simp_all;omega)
                   first|exact⟨m+1+1,by omega,by go_num,F,below_drewN (p.alloc B _) _⟩|((repeat apply Exists.intro);exact⟨⟨m+1+1,by omega,by go_num,F,below_drewN (p.alloc B _) _⟩,rfl⟩)
                 case measure=>simp[intOf];omega)
      · go_wp2
        go_ret;have hv:eP l=true:=Vv V (fun i hi=>n.out i hi (by omega));exact⟨by rw[hv];rfl,p⟩
theorem B9(n m:Int)(w:World):Calls prog 133 #[.int .i64 n,.int .i64 m] w fun e w'=>e=.returned (.bool (bJ n m))/\w=w':=by
 by_cases l:0<=n<;>by_cases p:n<=m
 all_goals
  have j:bJ n m=(decide (0<=n)&&decide (n<=m)):=by simp[bJ]
  have r:=arH j;clear j;go_enter func133,ntmps133;go_wp2;go_ret;exact⟨by rw[r.out];simp[l,p],rfl⟩
theorem Z0(A:Option Addr)(V:Nat)(l:List bP)(w:World)(h:aj kB 6 w w.heap.size A l)(hz:∀x∈l,x.code.size<=maxLen)(hl:l.length<=9223372036854775807):
    Calls prog 132 #[.slice A l.length V] w fun e w'=>e=.returned (.bool (gl l))/\Below w.heap.size w w':=by
  have HZ:=arH hz;clear hz;by_cases B:16<l.length
  · have HV:Hid (gl l=false):=Vt B
    go_enter func132,ntmps132;go_wp2;go_ret;exact⟨by rw[HV.out];rfl,arM _ _⟩
  · have mD:l.length<=16:=by omega
    clear B hl;go_enter func132,ntmps132;go_wp2
    go_loopw [3] (fun i wr=>∃k:Nat,k<=l.length/\i=.int .i64 k/\Hid (∀j,(C:j<l.length)->j<k->lJ l j l[j]=true)/\Below w.heap.size w wr) (fun i _=>l.length-(intOf i).toNat)
    case atStart=>exact⟨0,by omega,rfl,fun j _ C=>absurd C (by omega),arM _ _⟩
    case round=>
      obtain⟨k,hk,rfl,u,M⟩:=hrel;by_cases E:k<l.length
      · obtain⟨b,O,rfl,hb,F⟩:=(h.below M).at_ E
        have X:=F 0 _ rfl;have c1:=F 1 _ rfl;have c2:=F 2 _ rfl;have c3:=F 3 _ rfl;have c4:=F 4 _ rfl;have c5:=F 5 _ rfl;simp only[arL]at X;have T:=HZ.out _ (arO E);have bA:=M.size;have gF:Hid (lJ l k l[k]=false->gl l=false):=Vu E;clear F;have Jf:b<wr.heap.size:=(by omega);rcases arY 0 k with fS|fS
        · obtain⟨m,rfl⟩:∃m,k=m+1:=⟨k-1,by omega⟩
          obtain⟨b',ad,G,af,P⟩:=(h.below M).at_ (show m<l.length by omega);injection G with G
          injection G with h1 h2
          subst h1 h2;have Y:=P 0 _ rfl;simp only[arL]at Y;have Q:=arH (Vw bP.code l m l[m+1] (by omega));clear P;go_wp2_with fail;have I:(wr.alloc (Obj.cells #[.string l[m+1].code,.int .i64 l[m+1].bY,.bool l[m+1].before,.int .i64 l[m+1].amount,.int .i64 l[m+1].bH,.int .i64 l[m+1].cap] 166)).heap.size=wr.heap.size+1:=(by simp);have R:Below w.heap.size w (wr.alloc (Obj.cells #[.string l[m+1].code,.int .i64 l[m+1].bY,.bool l[m+1].before,.int .i64 l[m+1].amount,.int .i64 l[m+1].bH,.int .i64 l[m+1].cap] 166)):=M.alloc bA _;have n:=ah.new wr 166 #[.string l[m+1].code,.int .i64 l[m+1].bY,.bool l[m+1].before,.int .i64 l[m+1].amount,.int .i64 l[m+1].bH,.int .i64 l[m+1].cap];have Z:=(World.cell?_alloc_past (w:=wr) (Obj.cells #[.string l[m+1].code,.int .i64 l[m+1].bY,.bool l[m+1].before,.int .i64 l[m+1].amount,.int .i64 l[m+1].bH,.int .i64 l[m+1].cap] 166) b (O+m*6) Jf).trans Y;generalize wr.alloc (Obj.cells _ _)=W at I R n Z|-;have Z1:=arH I;have e0:=Bw.cell (w:=W) (a:=⟨wr.heap.size,0,none⟩) (by show wr.heap.size<W.heap.size;omega) (n.cell 0);have e1:=Bw.cell (w:=W) (a:=⟨wr.heap.size,1,none⟩) (by show wr.heap.size<W.heap.size;omega) (n.cell 1);have e3:=Bw.cell (w:=W) (a:=⟨wr.heap.size,3,none⟩) (by show wr.heap.size<W.heap.size;omega) (n.cell 3);have e5:=Bw.cell (w:=W) (a:=⟨wr.heap.size,5,none⟩) (by show wr.heap.size<W.heap.size;omega) (n.cell 5);have e4:=Bw.cell (w:=W) (a:=⟨wr.heap.size,4,none⟩) (by show wr.heap.size<W.heap.size;omega) (n.cell 4);have ai:=Bw.cell (w:=W) (a:=⟨b,O+m*6,none⟩) (by show b<W.heap.size;omega) Z;clear Z Y;have CH:Hid (w.heap.size<=W.heap.size):=(by show w.heap.size<=W.heap.size;omega);clear I n X c1 c2 c3 c4 c5;have J:((bK l[m+1].code)=false)\/((bK l[m+1].code)=true/\(Op.bytesLess l[m].code.toList l[m+1].code.toList)=false)\/((bK l[m+1].code)=true/\(Op.bytesLess l[m].code.toList l[m+1].code.toList)=true/\(bJ l[m+1].bY 99)=false)\/((bK l[m+1].code)=true/\(Op.bytesLess l[m].code.toList l[m+1].code.toList)=true/\(bJ l[m+1].bY 99)=true/\(bJ l[m+1].amount 1000000000)=false)\/((bK l[m+1].code)=true/\(Op.bytesLess l[m].code.toList l[m+1].code.toList)=true/\(bJ l[m+1].bY 99)=true/\(bJ l[m+1].amount 1000000000)=true/\(bJ l[m+1].cap 1000000000)=false)\/((bK l[m+1].code)=true/\(Op.bytesLess l[m].code.toList l[m+1].code.toList)=true/\(bJ l[m+1].bY 99)=true/\(bJ l[m+1].amount 1000000000)=true/\(bJ l[m+1].cap 1000000000)=true/\(bJ l[m+1].bH 1000000)=false)\/((bK l[m+1].code)=true/\(Op.bytesLess l[m].code.toList l[m+1].code.toList)=true/\(bJ l[m+1].bY 99)=true/\(bJ l[m+1].amount 1000000000)=true/\(bJ l[m+1].cap 1000000000)=true/\(bJ l[m+1].bH 1000000)=true):=by
            go_light
            generalize bK l[m+1].code=q0;generalize Op.bytesLess l[m].code.toList l[m+1].code.toList=q1;generalize bJ l[m+1].bY 99=q2;generalize bJ l[m+1].amount 1000000000=q3;generalize bJ l[m+1].cap 1000000000=q4;generalize bJ l[m+1].bH 1000000=q5;cases q0<;>cases q1<;>cases q2<;>cases q3<;>cases q4<;>cases q5<;>simp
          rcases J with r|⟨r,z⟩|⟨r,z,D⟩|⟨r,z,D,N⟩|⟨r,z,D,N,U⟩|⟨r,z,D,N,U,a5⟩|⟨r,z,D,N,U,a5⟩
          all_goals
            refine qi (by kernel_rfl) (by kernel_rfl) ?_
            repeat(first|go_big_quiet_step((first|exact Bw.call _ (BZ _ _ T)|exact Bw.Ac _ (B9 _ _ _)))|quiet_step((first|exact Bw.call _ (BZ _ _ T)|exact Bw.Ac _ (B9 _ _ _))))
            refine wpQuiet_nil ?_;intro W2 K;obtain⟨⟨W9,L⟩,y⟩:=K;subst y;have p:Below w.heap.size w W2:=R.trans (L.mono CH.out);go_wp2
            first
              |(
                 go_ret;refine⟨?_,p⟩;have hq:lJ l (m+1) l[m+1]=false:=by
                   go_light
                   simp only[lJ,Q.out];simp[*]
                 rw[gF.out hq];rfl)
              |(
                 go_roundw
                 case rel=>
                   have S:∀j,(C:j<l.length)->j<m+1+1->lJ l j l[j]=true:=by
                     intro j C ab;rcases arY j (m+1)with h1|h1
                     · exact u.out j C h1
                     · obtain rfl:j=m+1:=by omega
                       go_light
                       simp only[lJ,Q.out];simp[*]
                   first|exact⟨m+1+1,by omega,by go_num,S,p⟩|((repeat apply Exists.intro);exact⟨⟨m+1+1,by omega,by go_num,S,p⟩,rfl⟩)
                 case measure=>simp[intOf];omega)
        · have Q:Hid (BH bP.code l k l[k]=true):=by
            have e:k=0:=(by omega);unfold Hid BH;simp[e]
          have al:decide ((0:Int)<(k:Int))=false:=(by simp;omega);have am:decide (0<k)=false:=(by simp;omega);go_wp2_with fail;have I:(wr.alloc (Obj.cells #[.string l[k].code,.int .i64 l[k].bY,.bool l[k].before,.int .i64 l[k].amount,.int .i64 l[k].bH,.int .i64 l[k].cap] 166)).heap.size=wr.heap.size+1:=(by simp);have R:Below w.heap.size w (wr.alloc (Obj.cells #[.string l[k].code,.int .i64 l[k].bY,.bool l[k].before,.int .i64 l[k].amount,.int .i64 l[k].bH,.int .i64 l[k].cap] 166)):=M.alloc bA _;have n:=ah.new wr 166 #[.string l[k].code,.int .i64 l[k].bY,.bool l[k].before,.int .i64 l[k].amount,.int .i64 l[k].bH,.int .i64 l[k].cap];generalize wr.alloc (Obj.cells _ _)=W at I R n|-;have Z1:=arH I;have e0:=Bw.cell (w:=W) (a:=⟨wr.heap.size,0,none⟩) (by show wr.heap.size<W.heap.size;omega) (n.cell 0);have e1:=Bw.cell (w:=W) (a:=⟨wr.heap.size,1,none⟩) (by show wr.heap.size<W.heap.size;omega) (n.cell 1);have e3:=Bw.cell (w:=W) (a:=⟨wr.heap.size,3,none⟩) (by show wr.heap.size<W.heap.size;omega) (n.cell 3);have e5:=Bw.cell (w:=W) (a:=⟨wr.heap.size,5,none⟩) (by show wr.heap.size<W.heap.size;omega) (n.cell 5);have e4:=Bw.cell (w:=W) (a:=⟨wr.heap.size,4,none⟩) (by show wr.heap.size<W.heap.size;omega) (n.cell 4);have CH:Hid (w.heap.size<=W.heap.size):=(by show w.heap.size<=W.heap.size;omega);clear I n X c1 c2 c3 c4 c5;have J:((bK l[k].code)=false)\/((bK l[k].code)=true/\(bJ l[k].bY 99)=false)\/((bK l[k].code)=true/\(bJ l[k].bY 99)=true/\(bJ l[k].amount 1000000000)=false)\/((bK l[k].code)=true/\(bJ l[k].bY 99)=true/\(bJ l[k].amount 1000000000)=true/\(bJ l[k].cap 1000000000)=false)\/((bK l[k].code)=true/\(bJ l[k].bY 99)=true/\(bJ l[k].amount 1000000000)=true/\(bJ l[k].cap 1000000000)=true/\(bJ l[k].bH 1000000)=false)\/((bK l[k].code)=true/\(bJ l[k].bY 99)=true/\(bJ l[k].amount 1000000000)=true/\(bJ l[k].cap 1000000000)=true/\(bJ l[k].bH 1000000)=true):=by
            go_light
            generalize bK l[k].code=q0;generalize bJ l[k].bY 99=q1;generalize bJ l[k].amount 1000000000=q2;generalize bJ l[k].cap 1000000000=q3;generalize bJ l[k].bH 1000000=q4;cases q0<;>cases q1<;>cases q2<;>cases q3<;>cases q4<;>simp
          rcases J with r|⟨r,z⟩|⟨r,z,D⟩|⟨r,z,D,N⟩|⟨r,z,D,N,U⟩|⟨r,z,D,N,U⟩
          all_goals
            refine qi (by kernel_rfl) (by kernel_rfl) ?_
            repeat(first|go_big_quiet_step((first|exact Bw.call _ (BZ _ _ T)|exact Bw.Ac _ (B9 _ _ _)))|quiet_step((first|exact Bw.call _ (BZ _ _ T)|exact Bw.Ac _ (B9 _ _ _))))
            refine wpQuiet_nil ?_;intro W2 K;obtain⟨⟨W9,L⟩,y⟩:=K;subst y;have p:Below w.heap.size w W2:=R.trans (L.mono CH.out);go_wp2
            first
              |(
                 go_ret;refine⟨?_,p⟩;have hq:lJ l (k) l[k]=false:=by
                   go_light
                   simp only[lJ,Q.out];simp[*]
                 rw[gF.out hq];rfl)
              |(
                 go_roundw
                 case rel=>
                   have S:∀j,(C:j<l.length)->j<k+1->lJ l j l[j]=true:=by
                     intro j C ab;rcases arY j (k)with h1|h1
                     · exact u.out j C h1
                     · obtain rfl:j=k:=by omega
                       go_light
                       simp only[lJ,Q.out];simp[*]
                   first|exact⟨k+1,by omega,by go_num,S,p⟩|((repeat apply Exists.intro);exact⟨⟨k+1,by omega,by go_num,S,p⟩,rfl⟩)
                 case measure=>simp[intOf];omega)
      · go_wp2
        go_ret;have hv:gl l=true:=Vv mD (fun i hi=>u.out i hi (by omega));exact⟨by rw[hv];rfl,M⟩
theorem UR(A:Option Addr)(Q:Nat)(l:List Elem)(w:World)(h:aj aQ 2 w w.heap.size A l)(hz:∀x∈l,x.code.size<=maxLen)(hl:l.length<=9223372036854775807):
    Calls prog 129 #[.slice A l.length Q] w fun e w'=>e=.returned (.bool (eP l))/\Below w.heap.size w w':=by
  have HZ:=arH hz;clear hz;by_cases y:128<l.length
  · have HV:Hid (eP l=false):=Vt y
    go_enter func129,ntmps129;go_wp2;go_ret;exact⟨by rw[HV.out];rfl,arM _ _⟩
  · have mD:l.length<=128:=by omega
    clear y hl;go_enter func129,ntmps129;go_wp2
    go_loopw [3] (fun i wr=>∃k:Nat,k<=l.length/\i=.int .i64 k/\Hid (∀j,(z:j<l.length)->j<k->mC l j l[j]=true)/\Below w.heap.size w wr) (fun i _=>l.length-(intOf i).toNat)
    case atStart=>exact⟨0,by omega,rfl,fun j _ z=>absurd z (by omega),arM _ _⟩
    case round=>
      obtain⟨k,hk,rfl,p,G⟩:=hrel;by_cases B:k<l.length
      · obtain⟨b,r,rfl,hb,R⟩:=(h.below G).at_ B
        have J:=R 0 _ rfl;have N:=R 1 _ rfl;simp only[arL]at J;have O:=HZ.out _ (arO B);have bA:=G.size;have gF:Hid (mC l k l[k]=false->eP l=false):=Vu B;clear R;have Jf:b<wr.heap.size:=(by omega);rcases arY 0 k with fS|fS
        · obtain⟨m,rfl⟩:∃m,k=m+1:=⟨k-1,by omega⟩
          obtain⟨b',ad,C,af,K⟩:=(h.below G).at_ (show m<l.length by omega);injection C with C
          injection C with h1 h2
          subst h1 h2;have S:=K 0 _ rfl;simp only[arL]at S;have L:=arH (Vw Elem.code l m l[m+1] (by omega));clear K;go_wp2_with fail;have e0:=Bw.cell (w:=wr) (a:=⟨b,r+(m+1)*2,none⟩) (by show b<wr.heap.size;omega) J;have e1:=Bw.cell (w:=wr) (a:=⟨b,r+(m+1)*2+1,none⟩) (by show b<wr.heap.size;omega) N;have ai:=Bw.cell (w:=wr) (a:=⟨b,r+m*2,none⟩) (by show b<wr.heap.size;omega) S;clear S;have T:Hid (w.heap.size<=wr.heap.size):=bA;have U:=G;clear J N;have D:((bK l[m+1].code)=false)\/((bK l[m+1].code)=true/\(Op.bytesLess l[m].code.toList l[m+1].code.toList)=false)\/((bK l[m+1].code)=true/\(Op.bytesLess l[m].code.toList l[m+1].code.toList)=true/\(bJ l[m+1].amount 1000000000000)=false)\/((bK l[m+1].code)=true/\(Op.bytesLess l[m].code.toList l[m+1].code.toList)=true/\(bJ l[m+1].amount 1000000000000)=true):=by
            go_light
            generalize bK l[m+1].code=V;generalize Op.bytesLess l[m].code.toList l[m+1].code.toList=X;generalize bJ l[m+1].amount 1000000000000=q2;cases V<;>cases X<;>cases q2<;>simp
          rcases D with I|⟨I,P⟩|⟨I,P,a2⟩|⟨I,P,a2⟩
          all_goals
            refine qi (by kernel_rfl) (by kernel_rfl) ?_
            repeat(first|go_big_quiet_step((first|exact Bw.call _ (BZ _ _ O)|exact Bw.Ac _ (B9 _ _ _)))|quiet_step((first|exact Bw.call _ (BZ _ _ O)|exact Bw.Ac _ (B9 _ _ _))))
            refine wpQuiet_nil ?_;intro Y E;obtain⟨⟨W9,F⟩,u⟩:=E;subst u;have n:Below w.heap.size w Y:=U.trans (F.mono T.out);go_wp2
            first
              |(
                 go_ret;refine⟨?_,n⟩;have Z:mC l (m+1) l[m+1]=false:=by
                   go_light
                   simp only[mC,L.out];simp[*]
                 rw[gF.out Z];rfl)
              |(
                 go_roundw
                 case rel=>
                   have M:∀j,(z:j<l.length)->j<m+1+1->mC l j l[j]=true:=by
                     intro j z ab;rcases arY j (m+1)with h1|h1
                     · exact p.out j z h1
                     · obtain rfl:j=m+1:=by omega
                       go_light
                       simp only[mC,L.out];simp[*]
                   first|exact⟨m+1+1,by omega,by go_num,M,n⟩|((repeat apply Exists.intro);exact⟨⟨m+1+1,by omega,by go_num,M,n⟩,rfl⟩)
                 case measure=>simp[intOf];omega)
        · have L:Hid (BH Elem.code l k l[k]=true):=by
            have e:k=0:=(by omega);unfold Hid BH;simp[e]
          have al:decide ((0:Int)<(k:Int))=false:=(by simp;omega);have am:decide (0<k)=false:=(by simp;omega);go_wp2_with fail;have e0:=Bw.cell (w:=wr) (a:=⟨b,r+(k)*2,none⟩) (by show b<wr.heap.size;omega) J;have e1:=Bw.cell (w:=wr) (a:=⟨b,r+(k)*2+1,none⟩) (by show b<wr.heap.size;omega) N;have T:Hid (w.heap.size<=wr.heap.size):=bA;have U:=G;clear J N;have D:((bK l[k].code)=false)\/((bK l[k].code)=true/\(bJ l[k].amount 1000000000000)=false)\/((bK l[k].code)=true/\(bJ l[k].amount 1000000000000)=true):=by
            go_light
            generalize bK l[k].code=V;generalize bJ l[k].amount 1000000000000=X;cases V<;>cases X<;>simp
          rcases D with I|⟨I,P⟩|⟨I,P⟩
          all_goals
            refine qi (by kernel_rfl) (by kernel_rfl) ?_
            repeat(first|go_big_quiet_step((first|exact Bw.call _ (BZ _ _ O)|exact Bw.Ac _ (B9 _ _ _)))|quiet_step((first|exact Bw.call _ (BZ _ _ O)|exact Bw.Ac _ (B9 _ _ _))))
            refine wpQuiet_nil ?_;intro Y E;obtain⟨⟨W9,F⟩,u⟩:=E;subst u;have n:Below w.heap.size w Y:=U.trans (F.mono T.out);go_wp2
            first
              |(
                 go_ret;refine⟨?_,n⟩;have Z:mC l (k) l[k]=false:=by
                   go_light
                   simp only[mC,L.out];simp[*]
                 rw[gF.out Z];rfl)
              |(
                 go_roundw
                 case rel=>
                   have M:∀j,(z:j<l.length)->j<k+1->mC l j l[j]=true:=by
                     intro j z ab;rcases arY j (k)with h1|h1
                     · exact p.out j z h1
                     · obtain rfl:j=k:=by omega
                       go_light
                       simp only[mC,L.out];simp[*]
                   first|exact⟨k+1,by omega,by go_num,M,n⟩|((repeat apply Exists.intro);exact⟨⟨k+1,by omega,by go_num,M,n⟩,rfl⟩)
                 case measure=>simp[intOf];omega)
      · go_wp2
        go_ret;have hv:eP l=true:=Vv mD (fun i hi=>p.out i hi (by omega));exact⟨by rw[hv];rfl,G⟩
theorem adW{a b v:Int}(h:a=b):Ending.returned (.tuple #[.int .i64 a,.int .i64 v])=.returned (.tuple #[.int .i64 b,.int .i64 v]):=by rw[h]
theorem acD(A:Option Addr)(z:Nat)(n:List Elem)(c:ByteArray)(w:World)(h:aj aQ 2 w w.heap.size A n)(K:n.length<=9223372036854775806):
  Calls prog 199 #[.slice A n.length z,.string c] w fun e w'=>e=.returned (.int .i64 (nC n c))/\Below w.heap.size w w':=by
 go_enter func199,ntmps199;go_wp2
 go_loopw [9] (fun i wr=>∃k:Nat,k<=n.length/\i=.int .i64 k/\Hid (∀j,(r:j<n.length)->j<k->(n[j].code.toList==c.toList)=false)/\Below w.heap.size w wr) (fun i _=>n.length-(intOf i).toNat)
 case atStart=>exact⟨0,by omega,rfl,fun j _ r=>absurd r (by omega),arM _ _⟩
 case round=>
  obtain⟨k,L,rfl,p,u⟩:=hrel;have E:=u.size;by_cases y:k<n.length
  ·obtain⟨b,F,rfl,M,B⟩:=(h.below u).at_ y;have G:=B 0 _ rfl;have N:=B 1 _ rfl;simp only[arL]at G;clear B;by_cases C:(n[k].code.toList==c.toList)=true
   ·have D:=arH (adX y p.out C);go_wp2;go_ret;exact⟨by rw[D.out];rfl,u.alloc E _⟩
   ·have I:(n[k].code.toList==c.toList)=false:=(by simpa using C);clear C;go_wp2;go_roundw
    case rel=>
     refine⟨k+1,by omega,by go_num,fun j r J=>?_,u.alloc E _⟩;rcases arY j k with h1|h1
     ·exact p.out j r h1
     ·obtain rfl:j=k:=by omega
      exact I
    case measure=>simp[intOf];omega
  ·have D:=arH (adY (l:=n) (c:=c) (fun j r=>p.out j r (by omega)));go_wp2;go_ret;exact⟨by rw[D.out];rfl,u⟩
theorem adZ(A:Option Addr)(y:Nat)(n:List Elem)(c:ByteArray)(w:World)(B:Nat)(h:aj aQ 2 w B A n)(J:n.length<=9223372036854775806):
  Calls prog 135 #[.slice A n.length y,.string c] w fun e w'=>e=.returned (.int .i64 (nC n c))/\w=w':=by
 go_enter func135,ntmps135;go_wp2
 go_loop [5] (fun i=>∃k:Nat,k<=n.length/\i=.int .i64 k/\Hid (∀j,(r:j<n.length)->j<k->(n[j].code.toList==c.toList)=false)) (fun i=>n.length-(intOf i).toNat)
 case atStart=>exact⟨0,by omega,rfl,fun j _ r=>absurd r (by omega)⟩
 case round=>
  obtain⟨k,K,rfl,p⟩:=hrel;by_cases u:k<n.length
  ·obtain⟨b,E,rfl,L,z⟩:=h.at_ u;have F:=z 0 _ rfl;have M:=z 1 _ rfl;simp only[arL]at F;clear z;by_cases C:(n[k].code.toList==c.toList)=true
   ·have D:=arH (adX u p.out C);go_wp2;go_ret;exact⟨by rw[D.out];rfl,rfl⟩
   ·have G:(n[k].code.toList==c.toList)=false:=(by simpa using C);clear C;go_wp2;go_round
    case rel=>
     refine⟨k+1,by omega,by go_num,fun j r I=>?_⟩;rcases arY j k with h1|h1
     ·exact p.out j r h1
     ·obtain rfl:j=k:=by omega
      exact G
    case measure=>simp[intOf];omega
  ·have D:=arH (adY (l:=n) (c:=c) (fun j r=>p.out j r (by omega)));go_wp2;go_ret;exact⟨by rw[D.out];rfl,rfl⟩
theorem YD(e:List Elem)(k:Nat)(h:k<e.length):aR (e.take (k+1))=aR (e.take k)+e[k].amount:=by rw[ar9 h,ad0];simp[aR]
theorem Zq(A:Option Addr)(p:Nat)(j:List Elem)(w:World)(B:Nat)(h:aj aQ 2 w B A j)(L:j.length<=1000)(n:∀x∈j,0<=x.amount/\x.amount<=1000000000000):
  Calls prog 90 #[.slice A j.length p] w fun e w'=>e=.returned (.int .i64 (aR j))/\w=w':=by
 have u:=arH n;clear n;go_enter func90,ntmps90;go_wp2
 go_loop [3,4] (fun s i=>∃k:Nat,k<=j.length/\i=.int .i64 k/\s=.int .i64 (aR (j.take k))) (fun _ i=>j.length-(intOf i).toNat)
 case atStart=>exact⟨0,by omega,rfl,rfl⟩
 case round=>
  obtain⟨k,M,rfl,rfl⟩:=hrel;by_cases l:k<j.length
  ·obtain⟨b,z,rfl,N,y⟩:=h.at_ l;have O:=y 1 _ rfl;clear y;have C:=arH (YD j k l);have D:=N3 (j.take k) 1000000000000 (fun x n=>u.out x (ar6 n));have E:=u.out _ (arO l);obtain⟨F,G⟩:=E;obtain⟨I,r⟩:=D;have J:aR (j.take k)<=1000000000000000:=by
    have:(j.take k).length<=1000:=(by simp;omega);omega
   clear r;go_wp2;go_round
   case rel=>exact⟨k+1,by omega,by go_num,by rw[C.out]⟩
   case measure=>simp[intOf];omega
  ·have K:Hid (j.take k=j):=asB (by omega);go_wp2;go_ret;exact⟨by rw[K.out];rfl,rfl⟩
theorem ad1{d:bP}{base taken p:Int}(e:Gp d base taken=0)(j:gM base d.bH 1000000 1 4=p):J5 d base taken=if 0<d.cap then min (min (d.amount+p) 1000000000) (max (d.cap-taken) 0)else min (d.amount+p) 1000000000:=by rw[J5,arK e,G6,OU,j]
theorem ad2{d:bP}{base taken:Int}(h:gl [d]=false):Gp d base taken=1:=by rw[Gp,arK h]
theorem OV{d:bP}{base taken:Int}(h:gl [d]=true)(h2:bJ base 1000000000=false\/bJ taken 1000000000000=false):Gp d base taken=2:=by
 rw[Gp,arJ (by simp[h])];rcases h2 with h2|h2
 ·rw[arK h2]
 ·rw[arK h2];split<;>rfl
theorem UH{d:bP}{base taken:Int}(h:gl [d]=true)(e:bJ base 1000000000=true)(j:bJ taken 1000000000000=true):Gp d base taken=0:=by rw[Gp,arJ (by simp[h]),arJ (by simp[e]),arJ (by simp[j])]
theorem Kt{d:bP}{base taken:Int}(h:Gp d base taken≠0):J5 d base taken=0:=by rw[J5,arJ h]
theorem ais(d:bP)(base taken:Int)(w:World)(J:d.code.size<=maxLen)(K:Ks taken):
  Calls prog 198 #[.agg #[.string d.code,.int .i64 d.bY,.bool d.before,.int .i64 d.amount,.int .i64 d.bH,.int .i64 d.cap],.int .i64 base,.int .i64 taken] w fun e w'=>e=.returned (.tuple #[.int .i64 (J5 d base taken),.int .i64 (Gp d base taken)])/\Below w.heap.size w w':=by
 obtain⟨t1,t2⟩:=K;go_enter func198,ntmps198;go_wp2_with fail;have D:=(ah.new w 166 #[.string d.code,.int .i64 d.bY,.bool d.before,.int .i64 d.amount,.int .i64 d.bH,.int .i64 d.cap]).alloc (.cells #[.string d.code,.int .i64 d.bY,.bool d.before,.int .i64 d.amount,.int .i64 d.bH,.int .i64 d.cap] 166);have hS:=aj.new IJ (w.alloc (.cells #[.string d.code,.int .i64 d.bY,.bool d.before,.int .i64 d.amount,.int .i64 d.bH,.int .i64 d.cap] 166)) [d] #[.string d.code,.int .i64 d.bY,.bool d.before,.int .i64 d.amount,.int .i64 d.bH,.int .i64 d.cap] 166 rfl;rw[arU]at hS;refine(YE _ 1 [d] _ (hS.more (by simp)) (by simpa using J) (by simp)).mono ?_;rintro e L ⟨rfl,r⟩;have u:Below w.heap.size w L:=aB (ej (ej (arM _ _) _) _) r;have y:=D.aa r;have T:=y.lt;obtain⟨U,V,X,Y,Z,z5⟩:=y.cz6;clear r D hS y;by_cases n:gl [d]=true
 ·have E:=UI.1 n;by_cases F:0<=base
  ·by_cases G:base<=1000000000
   ·by_cases M:0<=taken
    ·by_cases N:taken<=1000000000000
     ·have z:=UH n (im.2 ⟨F,G⟩) (im.2 ⟨M,N⟩);obtain⟨I,O,P,_,_⟩:=Z2 E F G;obtain⟨_,_,_,a0,a1,c0,c1,_,_⟩:=E;have Q:=arH I;clear I;generalize B:gM base d.bH 1000000 1 4=p at O P;have R:=arH B;have S:=arH (ad1 z B);have j:=arH z;clear B z;go_wp2_with fail;refine(Vx _ _ _ _ _ _).mono ?_;rintro e w' ⟨rfl,q,rfl⟩;rw[Q.out,R.out];go_wp2
      all_goals go_ret2;refine⟨?_,below_drewN u q⟩;rw[S.out,j.out];exact adW (by first|omega|(simp_all;done)|(simp_all;omega))
     ·have j:=arH (OV (base:=base) n (.inr (IL.2 (.inr (show 1000000000000<taken by omega)))));have l:=arH (Kt (d:=d) (base:=base) (taken:=taken) (by rw[j.out];decide));go_wp2;go_ret2;exact⟨by rw[j.out,l.out];rfl,u⟩
    ·have j:=arH (OV (base:=base) n (.inr (IL.2 (.inl (show taken<0 by omega)))));have l:=arH (Kt (d:=d) (base:=base) (taken:=taken) (by rw[j.out];decide));go_wp2;go_ret2;exact⟨by rw[j.out,l.out];rfl,u⟩
   ·have j:=arH (OV (taken:=taken) n (.inl (IL.2 (.inr (show 1000000000<base by omega)))));have l:=arH (Kt (d:=d) (base:=base) (taken:=taken) (by rw[j.out];decide));go_wp2;go_ret2;exact⟨by rw[j.out,l.out];rfl,u⟩
  ·have j:=arH (OV (taken:=taken) n (.inl (IL.2 (.inl (show base<0 by omega)))));have l:=arH (Kt (d:=d) (base:=base) (taken:=taken) (by rw[j.out];decide));go_wp2;go_ret2;exact⟨by rw[j.out,l.out];rfl,u⟩
 ·have C:gl [d]=false:=by simpa using n
  have j:=arH (ad2 (base:=base) (taken:=taken) C);have l:=arH (Kt (d:=d) (base:=base) (taken:=taken) (by rw[j.out];decide));clear n;go_wp2;go_ret2;exact⟨by rw[j.out,l.out];rfl,u⟩
theorem ajZ(d:bP)(base taken:Int)(w:World)(J:d.code.size<=maxLen)(K:Ks taken):
  Calls prog 134 #[.agg #[.string d.code,.int .i64 d.bY,.bool d.before,.int .i64 d.amount,.int .i64 d.bH,.int .i64 d.cap],.int .i64 base,.int .i64 taken] w fun e w'=>e=.returned (.tuple #[.int .i64 (J5 d base taken),.int .i64 (Gp d base taken)])/\Below w.heap.size w w':=by
 obtain⟨t1,t2⟩:=K;go_enter func134,ntmps134;go_wp2_with fail;have F:=(ah.new w 166 #[.string d.code,.int .i64 d.bY,.bool d.before,.int .i64 d.amount,.int .i64 d.bH,.int .i64 d.cap]).alloc (.cells #[.string d.code,.int .i64 d.bY,.bool d.before,.int .i64 d.amount,.int .i64 d.bH,.int .i64 d.cap] 166);have hS:=aj.new IJ (w.alloc (.cells #[.string d.code,.int .i64 d.bY,.bool d.before,.int .i64 d.amount,.int .i64 d.bH,.int .i64 d.cap] 166)) [d] #[.string d.code,.int .i64 d.bY,.bool d.before,.int .i64 d.amount,.int .i64 d.bH,.int .i64 d.cap] 166 rfl;rw[arU]at hS;refine(Z0 _ 1 [d] _ (hS.more (by simp)) (by simpa using J) (by simp)).mono ?_;rintro e L ⟨rfl,l⟩;have z:Below w.heap.size w L:=aB (ej (ej (arM _ _) _) _) l;have B:=F.aa l;have V:=B.lt;obtain⟨X,Y,Z,z3,z4,z5⟩:=B.cz6;clear l F hS B;by_cases n:gl [d]=true
 ·have G:=UI.1 n;by_cases r:bJ base 1000000000=true
  ·by_cases u:bJ taken 1000000000000=true
   ·have C:=UH n r u;have M:=Vy r;have N:=Vz r;have g3:=Vy u;have g4:=Vz u;obtain⟨I,O,P,_,_⟩:=Z2 G M N;obtain⟨_,_,_,a0,a1,c0,c1,_,_⟩:=G;have Q:=arH I;clear I;generalize D:gM base d.bH 1000000 1 4=p at O P;have R:=arH D;have S:=arH (ad1 C D);have j:=arH C;clear D C;go_wp2_with(go_at_call 133;refine(B9 _ _ _).mono ?_;rintro e w' ⟨rfl,rfl⟩);refine(Yo _ _ _ _ _ _).mono ?_;rintro e w' ⟨rfl,rfl⟩;rw[Q.out,R.out];go_wp2
    all_goals go_ret2;refine⟨?_,z⟩;rw[S.out,j.out];exact adW (by first|omega|(simp_all;done)|(simp_all;omega))
   ·have T:bJ taken 1000000000000=false:=(by simpa using u);have j:=arH (OV (base:=base) n (.inr T));have y:=arH (Kt (d:=d) (base:=base) (taken:=taken) (by rw[j.out];decide));clear u;go_wp2_with(go_at_call 133;refine(B9 _ _ _).mono ?_;rintro e w' ⟨rfl,rfl⟩);go_ret2;exact⟨by rw[j.out,y.out];rfl,z⟩
  ·have U:bJ base 1000000000=false:=(by simpa using r);have j:=arH (OV (taken:=taken) n (.inl U));have y:=arH (Kt (d:=d) (base:=base) (taken:=taken) (by rw[j.out];decide));clear r;go_wp2_with(go_at_call 133;refine(B9 _ _ _).mono ?_;rintro e w' ⟨rfl,rfl⟩);go_ret2;exact⟨by rw[j.out,y.out];rfl,z⟩
 ·have E:gl [d]=false:=by simpa using n
  have j:=arH (ad2 (base:=base) (taken:=taken) E);have y:=arH (Kt (d:=d) (base:=base) (taken:=taken) (by rw[j.out];decide));clear n;go_wp2;go_ret2;exact⟨by rw[j.out,y.out];rfl,z⟩
theorem aiu(A:Option Addr)(l:Nat)(j:List bP)(w:World)(h:aj kB 6 w w.heap.size A j)(E:j.length<=1000000):
  Calls prog 195 #[.slice A j.length l] w fun e w'=>∃v,e=.returned v/\Own kB 6 166 w' w.heap.size v j/\Below w.heap.size w w':=by
 rcases A with _|a
 ·have n:j=[]:=by
   rcases j with _|⟨y,ys⟩
   ·rfl
   ·obtain⟨b,p,r,_⟩:=h (by simp);cases r
  subst n;have u:∀w:World,(binOp .eql 46 (.slice none 0 l) (.slice none 0 0)).run prog w=.ok (.bool true) w:=fun _=>rfl;go_enter func195,ntmps195;go_wp2;go_ret;exact⟨_,rfl,Own.cL _ _,arM _ _⟩
 ·have z:=Own.lit IJ w ([]:List bP) #[] 166 rfl (by simp) (arI _);have hS:=h.IW (.cells #[] 166);have u:∀w:World,(binOp .eql 46 (.slice (some a) j.length l) (.slice none 0 0)).run prog w=.ok (.bool false) w:=fun _=>rfl;go_enter func195,ntmps195;go_wp2_with(at_builtin;(refine He (ys:=j) _ _ 46 _ 56 _ aj0 underlying46 z hS IJ (by omega) rfl acw (by simp;omega) (by omega) (by simp) (by rfl) (by rfl) (by rfl) (by rfl) (by rfl) ?_);intro B F C D);go_ret;exact⟨B,rfl,by simpa using C,Y2 D⟩
def EPost(m:List Elem)(l:Int)(w:World)(e:Ending)(w':World):Prop:=
 ∃A j,e=.returned (.tuple #[.slice A m.length j,.int .i64 l])/\aj aQ 2 w' w'.heap.size A m/\m.length<=j/\j<=maxLen/\Below w.heap.size w w'
theorem EPost.fail{m:List Elem}{e n:Int}{w W:World}(j:m=[])(l:e=n)(p:Below w.heap.size w W):EPost m e w (Ending.returned (.tuple #[.slice none 0 0,.int .i64 n])) W:=by subst j l;exact⟨none,0,rfl,aj.cL,by simp,by unfold maxLen;omega,p⟩
def CT(m:List Elem)(l:Int)(w:World)(e:Ending)(w':World):Prop:=
 ∃A j,e=.returned (.tuple #[.slice A m.length j,.int .i64 l])/\aj aQ 2 w' w'.heap.size A m/\m.length<=j/\j<=maxLen/\(∀a,A=some a->w.heap.size<=a.block)/\Below w.heap.size w w'
theorem CT.fail{m:List Elem}{e n:Int}{w W:World}(j:m=[])(l:e=n)(p:Below w.heap.size w W):CT m e w (Ending.returned (.tuple #[.slice none 0 0,.int .i64 n])) W:=by subst j l;exact⟨none,0,rfl,aj.cL,by simp,by unfold maxLen;omega,(fun a r=>by cases r),p⟩
theorem ad3(d:bP)(base taken:Int)(w:World)(l:d.code.size<=maxLen)(n:AO d)(p:0<=base)(r:base<=1000000000)(u:0<=taken)(y:taken<=1000000000000):
  Calls prog 134 #[.agg #[.string d.code,.int .i64 d.bY,.bool d.before,.int .i64 d.amount,.int .i64 d.bH,.int .i64 d.cap],.int .i64 base,.int .i64 taken] w fun e w'=>e=.returned (.tuple #[.int .i64 (G6 d base taken),.int .i64 0])/\Below w.heap.size w w':=by
 have j:=UH (UI.2 n) (im.2 ⟨p,r⟩) (im.2 ⟨u,y⟩);refine(ajZ d base taken w l ⟨by omega,by omega⟩).mono fun e w' ⟨z,B⟩=>⟨?_,B⟩
 rw[z,j,J5,arK j]
def zS(wr:World)(v:Value)(m:List Elem):Prop:=∃A c,v=.slice A m.length c/\aj aQ 2 wr wr.heap.size A m/\m.length<=c/\c<=maxLen
theorem zS.aa{w w':World}{v:Value}{m:List Elem}(h:zS w v m)(e:Below w.heap.size w w'):zS w' v m:=by obtain⟨A,c,j,l,n,p⟩:=h;exact⟨A,c,j,l.aa e,n,p⟩
theorem zS.cL(w:World):zS w (.slice none 0 0) []:=⟨none,0,rfl,aj.cL,by simp,by unfold maxLen;omega⟩
def SlF(B:Nat)(wr:World)(v:Value)(m:List Elem):Prop:=∃A c,v=.slice A m.length c/\aj aQ 2 wr wr.heap.size A m/\m.length<=c/\c<=maxLen/\∀a,A=some a->B<=a.block
theorem Own.UT{w:World}{base:Nat}{e:TypeId}{v:Value}{m:List Elem}(h:Own aQ 2 e w base v m):zS w v m:=by obtain⟨A,c,j,l,_,n,p⟩:=h.kM dB;exact⟨A,c,j,l,n,p⟩
theorem adH(A Y:Option Addr)(ab IK:Nat)(j:List bP)(year:List Elem)(before:Bool)(base y:Int)(w:World)(h:aj kB 6 w w.heap.size A j)(hz:∀x∈j,x.code.size<=maxLen)(hl:j.length<=9223372036854775807)
  (hy:aj aQ 2 w w.heap.size Y year) (FV:∀x∈year,x.code.size<=maxLen) (pX:year.length<=9223372036854775807):
  Calls prog 89 #[.slice A j.length ab,.bool before,.int .i64 base,.int .i64 y,.slice Y year.length IK] w (EPost (iI j before base y year) (eK j base y year) w):=by
 have HZ:=arH hz;clear hz;have JN:=arH FV;clear FV;have Az:∀(n:Int) (W:World),n≠0->eK j base y year=n->Below w.heap.size w W->EPost (iI j before base y year) (eK j base y year) w (Ending.returned (.tuple #[.slice none 0 0,.int .i64 n])) W:=
  fun n W hn he J=>EPost.fail (acy (by rw[he];exact hn)) he J
 have z:=arH Az;clear Az;go_enter func89,ntmps89;go_wp2_with fail;refine(Z0 A ab j _ h HZ.out hl).mono ?_;rintro e w1 ⟨rfl,K⟩;by_cases N:gl j=true;rotate_left
 ·have an:gl j=false:=by simpa using N
  clear N;go_wp2;go_ret2;exact z.out 1 _ (by omega) (UJ (.inl an)) K
 go_wp2_with fail;refine(UR Y IK year _ (hy.aa K) JN.out pX).mono ?_;rintro e O ⟨rfl,ad⟩;have T:=aB K ad;by_cases L:eP year=true;rotate_left
 ·have JO:eP year=false:=by simpa using L
  clear L;go_wp2;go_ret2;exact z.out 1 _ (by omega) (UJ (.inr JO)) T
 by_cases U:bJ base 1000000000=true;rotate_left
 ·have VA:bJ base 1000000000=false:=by simpa using U
  clear U;go_wp2_with(go_at_call 133;refine(B9 _ _ _).mono ?_;rintro e w' ⟨rfl,rfl⟩);go_ret2;exact z.out 2 _ (by omega) (N7 N L (.inl VA)) T
 by_cases V:bJ y 1000000000=true;rotate_left
 ·have ao:bJ y 1000000000=false:=by simpa using V
  clear V;go_wp2_with(go_at_call 133;refine(B9 _ _ _).mono ?_;rintro e w' ⟨rfl,rfl⟩);go_ret2;exact z.out 2 _ (by omega) (N7 N L (.inr ao)) T
 have hE:=YF N L U V;have HE:=arH hE;have HR:=arH (YG (before:=before) hE);have a1:=Vy U;have a2:=Vz U;have a3:=Vy V;have a4:=Vz V;clear hE z;have af:j.length<=16:=(IM.1 N).1;have az:year.length<=128:=(pZ.1 L).1;have di:=arH (IM.1 N).2.1;have JP:=arH (fun c=>acB L c);have Rs:=h.aa T;have jk:=hy.aa T;go_wp2_with(go_at_call 133;refine(B9 _ _ _).mono ?_;rintro e w' ⟨rfl,rfl⟩);clear N L U V K ad h hy hl pX
 go_loopw [12,3,13] (fun v l i wr=>∃r:Nat,r<=100/\i=.int .i64 r/\l=.int .i64 (km before base year (EC j r) y)/\zS wr v (bF (tk before base year (EC j r) y))/\Below O.heap.size O wr) (fun _ _ i _=>100-(intOf i).toNat)
 case atStart=>exact⟨0,by omega,rfl,rfl,zS.cL _,arM _ _⟩
 case round=>
  obtain⟨r,L,rfl,rfl,E,F⟩:=hrel;by_cases aA:r<100
  ·have aE:decide ((r:Int)<=99)=true:=(by simp;omega);obtain⟨wo,rfl⟩:∃wo:World,wo=wr:=⟨_,rfl⟩
   rw[<-aj1 j r]at E|-;go_wp2_with fail
   go_loopw [12,3,14] (fun v l i wr=>∃k:Nat,k<=j.length/\i=.int .i64 k/\l=.int .i64 (km before base year (pre j r k) y)/\zS wr v (bF (tk before base year (pre j r k) y))/\Below O.heap.size O wr) (fun _ _ i _=>j.length-(intOf i).toNat)
   case atStart=>exact⟨0,by omega,rfl,rfl,E,F⟩
   case round=>
    clear E F;obtain⟨k,hk,rfl,rfl,E,F⟩:=hrel;have bA:=F.size;have Z4:∀x∈pre j r k,AO x:=fun x X=>di.out x (aj2 X);have qh:=UK (before:=before) (year:=year) Z4 a1 a2 y a3;have OW:=arH (aj3 Z4 before year a1 a2 a3);have ai:=ar0 (ad4 (pre j r k) before base year y) (aj4 j af r k);clear Z4;by_cases G:k<j.length
    ·obtain⟨b,B,rfl,J,S⟩:=(Rs.aa F).at_ G;have c0:=S 0 _ rfl;have c1:=S 1 _ rfl;have c2:=S 2 _ rfl;have c3:=S 3 _ rfl;have c4:=S 4 _ rfl;have Q:=S 5 _ rfl;simp only[arL]at c0;clear S;have Ma:=di.out _ (arO G);have fB:=HZ.out _ (arO G);generalize al:km before base year (pre j r k) y=l0 at qh;have Z:=arH al;clear al;obtain⟨r1,r2⟩:=qh;by_cases R:j[k].bY=(r:Int)
     rotate_left
     ·have ap:(j[k].bY==(r:Int))=false:=(by simpa using R);have au:(j[k].bY !=(r:Int))=true:=(by simpa using R);have D:=arH (aj7 j r k G R);clear R;go_wp2;go_roundw
      case rel=>exact⟨k+1,by omega,by go_num,by rw[D.out,Z.out],by rw[D.out];exact E,F⟩
      case measure=>simp[intOf];omega
     have ap:(j[k].bY==(r:Int))=true:=(by simpa using R);have au:(j[k].bY !=(r:Int))=false:=(by simpa using R);have D:=arH (aj8 j r k G R);clear R;by_cases Ek:j[k].before=before;rotate_left
     ·have YI:(j[k].before==before)=false:=(by simpa using Ek);have u:=arH (QL (P:=pre j r k) Z.out (acC (base:=base) (year:=year) (l0:=l0) Ek));clear Ek;go_wp2;go_roundw
      case rel=>exact⟨k+1,by omega,by go_num,by rw[D.out,u.out.2],by rw[D.out,u.out.1];exact E,F⟩
      case measure=>simp[intOf];omega
     ·have YI:(j[k].before==before)=true:=(by simpa using Ek);have QM:=arH Ek;clear Ek;obtain⟨t1,t2⟩:=JP.out j[k].code;obtain⟨q1,q2⟩:=YJ (taken:=nC year j[k].code) Ma a1 a2;go_wp2_with fail;have Mb:=jk.aa F;have e0:=Bw.cell (w:=wr) (a:=⟨b,B+k*6,none⟩) (by exact J) c0;have e1:=Bw.cell (w:=wr) (a:=⟨b,B+k*6+1,none⟩) (by exact J) c1;have e2:=Bw.cell (w:=wr) (a:=⟨b,B+k*6+2,none⟩) (by exact J) c2;have e3:=Bw.cell (w:=wr) (a:=⟨b,B+k*6+3,none⟩) (by exact J) c3;have e4:=Bw.cell (w:=wr) (a:=⟨b,B+k*6+4,none⟩) (by exact J) c4;have e5:=Bw.cell (w:=wr) (a:=⟨b,B+k*6+5,none⟩) (by exact J) Q;refine qi (by kernel_rfl) (by kernel_rfl) ?_
      repeat(first|go_big_quiet_step((first|exact Bw.Ac _ (adZ Y IK year _ _ _ (Mb.aa (Bw.h _)) (by omega))|exact Bw.call _ (ad3 j[k] base (nC year j[k].code) _ fB Ma a1 a2 t1 t2)))|quiet_step((first|exact Bw.Ac _ (adZ Y IK year _ _ _ (Mb.aa (Bw.h _)) (by omega))|exact Bw.call _ (ad3 j[k] base (nC year j[k].code) _ fB Ma a1 a2 t1 t2))))
      refine wpQuiet_nil ?_;intro W2 av;obtain⟨⟨W9,I⟩,am⟩:=av;subst am;have OX:=E.aa I;have J6:=aB F I;have z0:=(I.cell (p:=⟨b,B+k*6,none⟩) J).trans c0;have aJ:b<W2.heap.size:=asy J I.size;clear e0 e1 e2 e3 e4 e5 Mb F E c0 c1 c2 c3 c4 Q I;generalize QN:G6 j[k] base (nC year j[k].code)=C at q1 q2|-;have YL:=arH QN;clear QN;have HA:Hid (my before base year j[k] l0=min C l0):=(by rw[Hid,my,arK QM.out,YL.out]);have ey:min C l0<=l0:=(by omega);rcases(show min C l0=l0/\l0<C\/min C l0=C/\C<=l0 by omega)with⟨OY,ay⟩|⟨OY,ay⟩
      ·rw[OY]at HA ey;by_cases jh:0<l0
       ·have u:=arH (YM (P:=pre j r k) Z.out HA.out jh);have Fo:=arH (Z5 (tk before base year (pre j r k) y) ⟨j[k].code,l0⟩);generalize bF (tk before base year (pre j r k) y)=ms at OX OW ai Fo;obtain⟨A5,Q,rfl,cZ,oW,oX⟩:=OX;go_wp2_with fail;refine(UU A5 Q ms ⟨j[k].code,l0⟩ _ cZ oW oX (by omega) (fun x X=>by have:=OW.out x X;omega) (by show _<=l0;omega) (by show l0<=_;omega)).mono ?_;rintro e w8 ⟨v8,rfl,cx,bQ⟩;go_wp2;go_roundw
        case rel=>
         have M:∃k':Nat,k'<=j.length/\Value.int .i64 ((k:Int)+1)=.int .i64 k'/\Value.int .i64 (l0-l0)=.int .i64 (km before base year (pre j r k') y)/\zS w8 v8 (bF (tk before base year (pre j r k') y))/\Below O.heap.size O w8:=
          ⟨k+1,by omega,by go_num,by rw[D.out,u.out.2],by rw[D.out,u.out.1,Fo.out];exact cx.UT,aB J6 bQ⟩
         first|exact M|(simp only[Int.sub_self]at M;exact M)|((repeat apply Exists.intro);exact⟨M,rfl⟩)
        case measure=>simp[intOf];omega
       ·have B6:my before base year j[k] l0=0:=(by rw[HA.out];omega);have u:=arH (QL (P:=pre j r k) Z.out B6);clear B6;go_wp2;go_roundw
        case rel=>exact⟨k+1,by omega,by go_num,by rw[D.out,u.out.2];congr 1;omega,by rw[D.out,u.out.1];exact OX,J6⟩
        case measure=>simp[intOf];omega
      ·have aK:¬l0<C:=(by omega);rw[OY]at HA ey;by_cases jh:0<C
       ·have u:=arH (YM (P:=pre j r k) Z.out HA.out jh);have Fo:=arH (Z5 (tk before base year (pre j r k) y) ⟨j[k].code,C⟩);generalize bF (tk before base year (pre j r k) y)=ms at OX OW ai Fo;obtain⟨A5,Q,rfl,cZ,oW,oX⟩:=OX;go_wp2_with fail;refine(UU A5 Q ms ⟨j[k].code,C⟩ _ cZ oW oX (by omega) (fun x X=>by have:=OW.out x X;omega) (by show _<=C;omega) (by show C<=_;omega)).mono ?_;rintro e w8 ⟨v8,rfl,cx,bQ⟩;go_wp2;go_roundw
        case rel=>
         have M:∃k':Nat,k'<=j.length/\Value.int .i64 ((k:Int)+1)=.int .i64 k'/\Value.int .i64 (l0-C)=.int .i64 (km before base year (pre j r k') y)/\zS w8 v8 (bF (tk before base year (pre j r k') y))/\Below O.heap.size O w8:=
          ⟨k+1,by omega,by go_num,by rw[D.out,u.out.2],by rw[D.out,u.out.1,Fo.out];exact cx.UT,aB J6 bQ⟩
         first|exact M|(simp only[Int.sub_self]at M;exact M)|((repeat apply Exists.intro);exact⟨M,rfl⟩)
        case measure=>simp[intOf];omega
       ·have B6:my before base year j[k] l0=0:=(by rw[HA.out];omega);have u:=arH (QL (P:=pre j r k) Z.out B6);clear B6;go_wp2;go_roundw
        case rel=>exact⟨k+1,by omega,by go_num,by rw[D.out,u.out.2];congr 1;omega,by rw[D.out,u.out.1];exact OX,J6⟩
        case measure=>simp[intOf];omega
    ·obtain rfl:k=j.length:=by omega
     have aN:decide ((j.length:Int)<(j.length:Int))=false:=(by simp);have aO:decide (j.length<j.length)=false:=(by simp);rw[aj9]at E|-;go_wp2_with fail;go_roundw
     case rel=>exact⟨r+1,by omega,by go_num,rfl,E,F⟩
     case measure=>simp[intOf];omega
  ·obtain rfl:r=100:=by omega
   rw[aka]at E|-;obtain⟨A5,Q,rfl,cZ,oW,oX⟩:=E;have X:decide ((100:Int)<=99)=false:=(by decide);go_wp2;go_ret2;rw[HE.out,HR.out];exact⟨A5,Q,rfl,cZ,oW,oX,aB T F⟩
structure cY where
 Aw:Option Addr
 cw:Nat
 ws:List cO
 As:Option Addr
 cs:Nat
 ss:List bR
 tm:iP
 count:Int
 sh:kV
 recover:Int
def cY.t(m:cY):pH:=⟨m.ws,m.ss,m.tm.t,m.count,m.sh,m.recover⟩
def cY.val(m:cY):Value:=.agg #[.slice m.Aw m.ws.length m.cw,.slice m.As m.ss.length m.cs,.int .i64 m.tm.t.method,.slice m.tm.Ab m.tm.t.au.length m.tm.cb,.int .i64 m.tm.t.aZ,.int .i64 m.tm.t.bf,.int .i64 m.tm.t.unit,.int .i64 m.tm.t.mode,.slice m.tm.Ar m.tm.t.rows.length m.tm.cr,.int .i64 m.count,.int .i64 m.sh.fixed,.int .i64 m.sh.bn,.int .i64 m.sh.lower,.int .i64 m.sh.share,.int .i64 m.sh.top,.int .i64 m.recover]
structure cY.In(m:cY)(w:World):Prop where
 ws:aj gG 6 w w.heap.size m.Aw m.ws
 ss:aj po 8 w w.heap.size m.As m.ss
 tm:m.tm.In w
theorem cY.In.aa{m:cY}{w w':World}(h:m.In w)(e:Below w.heap.size w w'):m.In w':=⟨h.ws.aa e,h.ss.aa e,h.tm.aa e⟩
structure jw where
 deps:Int
 Ad:Option Addr
 cd:Nat
 ds:List bP
 Ao:Option Addr
 co:Nat
 os:List eX
 Ae:Option Addr
 ce:Nat
 es:List cS
def jw.t(m:jw):UM:=⟨m.deps,m.ds,m.os,m.es.map cS.v⟩
def jw.val(m:jw):Value:=.agg #[.int .i64 m.deps,.slice m.Ad m.ds.length m.cd,.slice m.Ao m.os.length m.co,.slice m.Ae m.es.length m.ce]
structure jw.In(m:jw)(w:World):Prop where
 ds:aj kB 6 w w.heap.size m.Ad m.ds
 os:aj Ke 5 w w.heap.size m.Ao m.os
 es:aj Ce 2 w w.heap.size m.Ae m.es
 ins:∀e∈m.es,aj encI 1 w w.heap.size e.A e.l
theorem jw.In.aa{m:jw}{w w':World}(h:m.In w)(j:Below w.heap.size w w'):m.In w':=⟨h.ds.aa j,h.os.aa j,h.es.aa j,fun e l=>(h.ins e l).aa j⟩
structure dD where
 az:Int
 ax:Int
 aN:Int
 Ai:Option Addr
 ci:Nat
 ins:List Int
 At:Option Addr
 ct:Nat
 taken:List Elem
def dD.t(m:dD):AR:=⟨m.az,m.ax,m.aN,m.ins,m.taken⟩
def dD.val(m:dD):Value:=.agg #[.int .i64 m.az,.int .i64 m.ax,.int .i64 m.aN,.slice m.Ai m.ins.length m.ci,.slice m.At m.taken.length m.ct]
structure dD.In(m:dD)(w:World):Prop where
 ins:aj encI 1 w w.heap.size m.Ai m.ins
 taken:aj aQ 2 w w.heap.size m.At m.taken
theorem dD.In.aa{m:dD}{w w':World}(h:m.In w)(e:Below w.heap.size w w'):m.In w':=⟨h.ins.aa e,h.taken.aa e⟩
theorem akb(n m:Int)(w:World):Calls prog 175 #[.int .i64 n,.int .i64 m] w fun e w'=>e=.returned (.bool (bJ n m))/\w=w':=by
 by_cases l:0<=n<;>by_cases p:n<=m
 all_goals
  have j:bJ n m=(decide (0<=n)&&decide (n<=m)):=by simp[bJ]
  have r:=arH j;clear j;go_enter func175,ntmps175;go_wp2;go_ret;exact⟨by rw[r.out];simp[l,p],rfl⟩
theorem MD{n m:Int}(j:0<=n)(l:n<=m)(w:World):Calls prog 175 #[.int .i64 n,.int .i64 m] w fun e w'=>e=.returned (.bool true)/\w=w':=by
 have:=akb n m w
 rwa [im.2 ⟨j,l⟩]at this
theorem Hs{e:List cO}(h:kf e=true):e.length<=64/\∀x∈e,x.code.size<=maxLen:=by simp only[kf,ar5,ar7]at h;refine⟨h.1,fun x l=>?_⟩;obtain⟨i,hi,rfl⟩:=aso.1 l;have j:=h.2 i hi;simp only[ng,ar5]at j;exact Hl j.1.1.1.1
theorem ad5(m:cY)(w:World)(h:m.In w)(z:AU m.t):Calls prog 122 #[m.val] w fun e w'=>e=.returned (.bool true)/\Below w.heap.size w w':=by
 have HR:=arH z;have hv:kf m.ws=true:=z.cB;obtain⟨jF,Gq⟩:=Hs hv;have ja:m.ss.length<=12:=z.Cg;have D:1<=m.count:=z.c0;have c1:m.count<=53:=z.c1;have v0:0<=m.recover:=z.v0;have v1:m.recover<=1000000:=z.v1;have HW:Hid (∀W,Below w.heap.size w W->Calls prog 130 #[.slice m.Aw m.ws.length m.cw] W fun e w'=>e=.returned (.bool true)/\Below W.heap.size W w'):=fun W l=>by
  have:=ad6 m.Aw m.cw m.ws W (h.ws.aa l) Gq (by omega)
  rwa [hv]at this
 have HT:Hid (∀W,Below w.heap.size w W->Calls prog 142 #[.agg #[.int .i64 m.tm.t.method,.slice m.tm.Ab m.tm.t.au.length m.tm.cb,.int .i64 m.tm.t.aZ,.int .i64 m.tm.t.bf,.int .i64 m.tm.t.unit,.int .i64 m.tm.t.mode,.slice m.tm.Ar m.tm.t.rows.length m.tm.cr]] W fun e w'=>e=.returned (.bool true)/\Below W.heap.size W w'):=fun W l=>VB m.tm W (h.tm.aa l) z.fT;have HS:Hid (∀W,Calls prog 147 #[.agg #[.int .i64 m.sh.fixed,.int .i64 m.sh.bn,.int .i64 m.sh.lower,.int .i64 m.sh.share,.int .i64 m.sh.top]] W fun e w'=>e=.returned (.bool true)/\Below W.heap.size W w'):=fun W=>UX m.sh W z.sh;clear z hv Gq;unfold cY.val;go_enter func122,ntmps122;have hB:=ah.new w 45 #[.slice m.Aw m.ws.length m.cw,.slice m.As m.ss.length m.cs,.int .i64 m.tm.t.method,.slice m.tm.Ab m.tm.t.au.length m.tm.cb,.int .i64 m.tm.t.aZ,.int .i64 m.tm.t.bf,.int .i64 m.tm.t.unit,.int .i64 m.tm.t.mode,.slice m.tm.Ar m.tm.t.rows.length m.tm.cr,.int .i64 m.count,.int .i64 m.sh.fixed,.int .i64 m.sh.bn,.int .i64 m.sh.lower,.int .i64 m.sh.share,.int .i64 m.sh.top,.int .i64 m.recover];have ae:=bD w (.cells #[.slice m.Aw m.ws.length m.cw,.slice m.As m.ss.length m.cs,.int .i64 m.tm.t.method,.slice m.tm.Ab m.tm.t.au.length m.tm.cb,.int .i64 m.tm.t.aZ,.int .i64 m.tm.t.bf,.int .i64 m.tm.t.unit,.int .i64 m.tm.t.mode,.slice m.tm.Ar m.tm.t.rows.length m.tm.cr,.int .i64 m.count,.int .i64 m.sh.fixed,.int .i64 m.sh.bn,.int .i64 m.sh.lower,.int .i64 m.sh.share,.int .i64 m.sh.top,.int .i64 m.recover] 45);go_upto_region 1 with fail
 generalize w.alloc (Obj.cells _ _)=W at hB ae|-;obtain⟨E,r,F,G,I,J,K,L,M,N,O,P,p,Q,R,S⟩:=hB.cz16;go_wp2_with fail;refine(HW.out _ ae).mono ?_;rintro e w1 ⟨rfl,T⟩;have ai:=hB.aa T;have aS:=aB ae T;clear hB ae T E r F G I J K L M N O P p Q R S;obtain⟨E,r,F,G,I,J,K,L,M,N,O,P,p,Q,R,S⟩:=ai.cz16;go_wp2_with fail;refine(HT.out _ aS).mono ?_;rintro e w2 ⟨rfl,B⟩;have aK:=ai.aa B;have bB:=aB aS B;clear ai aS B E r F G I J K L M N O P p Q R S;obtain⟨E,r,F,G,I,J,K,L,M,N,O,P,p,Q,R,S⟩:=aK.cz16;go_wp2_with fail;refine(HS.out _).mono ?_;rintro e w3 ⟨rfl,U⟩;have bE:=aK.aa U;have cX:=aB bB U;clear aK bB U E r F G I J K L M N O P p Q R S;obtain⟨E,r,F,G,I,J,K,L,M,N,O,P,p,Q,R,S⟩:=bE.cz16;go_wp2_with fail;refine(MD v0 v1 _).mono ?_;rintro e w' ⟨rfl,rfl⟩;clear E r F G I J K L M N O P p Q R S;have ab:=h.ss.aa cX;go_wp2_with fail
 go_loopw [3] (fun i wr=>∃k:Nat,k<=m.ss.length/\i=.int .i64 k/\Below w3.heap.size w3 wr) (fun i _=>m.ss.length-(intOf i).toNat)
 case atStart=>exact⟨0,by omega,rfl,arM _ _⟩
 case round=>
  obtain⟨k,hk,rfl,u⟩:=hrel;have dg:=bE.aa u;have Ru:=dg.lt;have r:=dg.cell 1;simp only[ak,aq,ar]at r;by_cases V:k<m.ss.length
  ·obtain⟨b,j,hA,l,C⟩:=(ab.aa u).at_ V;have D:=C 0 _ rfl;have c1:=C 1 _ rfl;have c2:=C 2 _ rfl;have c3:=C 3 _ rfl;have c4:=C 4 _ rfl;have c5:=C 5 _ rfl;have c6:=C 6 _ rfl;have c7:=C 7 _ rfl;simp only[arL]at D;have eC:(k:Int)<(m.ss.length:Int):=(by omega);clear C;have OZ:=arH (fun W=>aca m.ss[k] W (HR.out.l9 _ (arO V)));unfold Eb at OZ;rw[hA]at r;rcases k with _|n
   ·have fS:(0:Int)<(m.ss.length:Int):=(by omega);simp only[asw,arL]at D c1 c2 c3 c4 c5 c6 c7;have q0:=Bw.cell (w:=wr) (a:=⟨b,j,none⟩) (by exact l) D;have q1:=Bw.cell (w:=wr) (a:=⟨b,j+1,none⟩) (by exact l) c1;have q2:=Bw.cell (w:=wr) (a:=⟨b,j+2,none⟩) (by exact l) c2;have q3:=Bw.cell (w:=wr) (a:=⟨b,j+3,none⟩) (by exact l) c3;have q4:=Bw.cell (w:=wr) (a:=⟨b,j+4,none⟩) (by exact l) c4;have q5:=Bw.cell (w:=wr) (a:=⟨b,j+5,none⟩) (by exact l) c5;have q6:=Bw.cell (w:=wr) (a:=⟨b,j+6,none⟩) (by exact l) c6;have q7:=Bw.cell (w:=wr) (a:=⟨b,j+7,none⟩) (by exact l) c7;have e1:=Bw.cell (w:=wr) (a:=⟨w.heap.size,1,none⟩) (by exact Ru) r;go_upto_region 6 with fail
    clear r D c1 c2 c3 c4 c5 c6 c7;refine qi (by kernel_rfl) (by kernel_rfl) ?_
    repeat(first|go_big_quiet_step(exact Bw.call _ (OZ.out _)))
    refine wpQuiet_nil ?_;intro W2 X;obtain⟨⟨W9,Y⟩,y⟩:=X;subst y;have Z:Below w3.heap.size w3 W2:=aB u Y;go_wp2;go_roundw
    case rel=>exact⟨0+1,by omega,by go_num,Z⟩
    case measure=>simp[intOf];omega
   ·have mE:n<m.ss.length:=(by omega);obtain⟨b2,Ge,cU,B,ad⟩:=(ab.aa u).at_ mE;rw[hA]at cU;injection cU with cU
    injection cU with cU fY
    subst cU fY;have p0:=ad 0 _ rfl;simp only[arL]at p0;clear ad;have CI:=asz.1 HR.out.lK n (n+1) mE V (by omega);have af:Op.bytesLess m.ss[n].code.toList m.ss[n+1].code.toList=true:=CI;clear CI;have Af:(n:Int)<(m.ss.length:Int):=(by omega);have ME:(n:Int)+1<(m.ss.length:Int):=(by omega);have hp:decide ((0:Int)<(n:Int)+1)=true:=(by rw[ar7];omega);have q0:=Bw.cell (w:=wr) (a:=⟨b,j+(n+1)*8,none⟩) (by exact l) D;have q1:=Bw.cell (w:=wr) (a:=⟨b,j+(n+1)*8+1,none⟩) (by exact l) c1;have q2:=Bw.cell (w:=wr) (a:=⟨b,j+(n+1)*8+2,none⟩) (by exact l) c2;have q3:=Bw.cell (w:=wr) (a:=⟨b,j+(n+1)*8+3,none⟩) (by exact l) c3;have q4:=Bw.cell (w:=wr) (a:=⟨b,j+(n+1)*8+4,none⟩) (by exact l) c4;have q5:=Bw.cell (w:=wr) (a:=⟨b,j+(n+1)*8+5,none⟩) (by exact l) c5;have q6:=Bw.cell (w:=wr) (a:=⟨b,j+(n+1)*8+6,none⟩) (by exact l) c6;have q7:=Bw.cell (w:=wr) (a:=⟨b,j+(n+1)*8+7,none⟩) (by exact l) c7;have e1:=Bw.cell (w:=wr) (a:=⟨w.heap.size,1,none⟩) (by exact Ru) r;have q9:=Bw.cell (w:=wr) (a:=⟨b,j+n*8,none⟩) (by exact l) p0;clear p0;go_upto_region 6 with fail
    clear r D c1 c2 c3 c4 c5 c6 c7;refine qi (by kernel_rfl) (by kernel_rfl) ?_
    repeat(first|go_big_quiet_step(exact Bw.call _ (OZ.out _)))
    refine wpQuiet_nil ?_;intro W2 X;obtain⟨⟨W9,Y⟩,y⟩:=X;subst y;have Z:Below w3.heap.size w3 W2:=aB u Y;go_wp2;go_roundw
    case rel=>exact⟨n+1+1,by omega,by go_num,Z⟩
    case measure=>simp[intOf];omega
  ·go_wp2;go_ret;exact⟨rfl,aB cX u⟩
