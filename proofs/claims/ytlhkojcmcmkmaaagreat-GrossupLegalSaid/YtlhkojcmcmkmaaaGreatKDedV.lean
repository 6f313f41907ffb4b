/- Conditions: as stated. -/
import Derived.Test.YtlhkojcmcmkmaaaGreatKAlc
import Derived.Test.YtlhkojcmcmkmaaaGreatKNetS
set_option maxRecDepth 100000
set_option maxHeartbeats 4000000
namespace Go.Proofs.YtlhkojcmcmkmaaaGreat
open Go.Proofs.Tryz
open Go.RowKit
theorem adH(e:List bK)(i:Nat)(x:bK)(l:Bool)(j:i=0\/(∃p,e[i-1]?=some p/\l=Op.bytesLess p.code.toList x.code.toList)):
  k8 e i x=decide (bI x.code=true/\(i=0\/l=true)/\0<=x.bX/\x.bX<=99/\0<=x.amount/\x.amount<=1000000000/\0<=x.cap/\x.cap<=1000000000/\0<=x.bJ/\x.bJ<=1000000):=by
 rw[Bool.eq_iff_iff];rcases j with rfl|⟨p,n,rfl⟩
 ·simp[k8,AX,bG,and_assoc]
 ·simp[k8,AX,bG,n,and_assoc]
theorem adI(e:List Elem)(i:Nat)(x:Elem)(l:Bool)(j:i=0\/(∃p,e[i-1]?=some p/\l=Op.bytesLess p.code.toList x.code.toList)):
  l7 e i x=decide (bI x.code=true/\(i=0\/l=true)/\0<=x.amount/\x.amount<=1000000000000):=by
 rw[Bool.eq_iff_iff];rcases j with rfl|⟨p,n,rfl⟩
 ·simp[l7,AX,bG]
 ·simp[l7,AX,bG,n,and_assoc]
theorem X7(A:Option Addr)(K:Nat)(l:List bK)(w:World)(h:aj j6 6 w w.heap.size A l)(P:∀x∈l,x.code.size<=maxLen)(T:l.length<=9223372036854775807):
    Calls prog 156 #[.slice A l.length K] w fun e w'=>e=.returned (.bool (fV l))/\Below w.heap.size w w':=by
  have U:=aq6 P;clear P;by_cases u:16<l.length
  · have V:Hid (fV l=false):=UZ u
    go_enter func156,ntmps156;go_wp2;go_ret;exact⟨by rw[V.out];rfl,arb _ _⟩
  · have X:l.length<=16:=by omega
    clear u T;go_enter func156,ntmps156;go_wp2
    go_loopw [10] (fun i wr=>∃k:Nat,k<=l.length/\i=.int .i64 k/\Hid (∀j,(y:j<l.length)->j<k->k8 l j l[j]=true)/\Below w.heap.size w wr) (fun i _=>l.length-(intOf i).toNat)
    case atStart=>exact⟨0,by omega,rfl,fun j _ y=>absurd y (by omega),arb _ _⟩
    case round=>
      obtain⟨k,hk,rfl,n,p⟩:=hrel;by_cases z:k<l.length
      · obtain⟨b,Y,rfl,hb,B⟩:=(h.below p).at_ z
        have Z:=B 0 _ rfl;have c1:=B 1 _ rfl;have c2:=B 2 _ rfl;have c3:=B 3 _ rfl;have c4:=B 4 _ rfl;have c5:=B 5 _ rfl;simp only[ara]at Z;have Q:=U.out _ (arc z);have C:=p.size;have J:Hid (k8 l k l[k]=false->fV l=false):=U0 z;clear B;have R:Below w.heap.size w (wr.alloc (.cells (j6 l[k]).toArray 166)):=p.alloc C _;rcases arp 0 k with fM|fM;rotate_left
        · have E:=adH l k l[k] true (.inl (by omega))
          have ab:decide ((0:Int)<(k:Int))=false:=(by simp;omega);have ad:decide (0<k)=false:=(by simp;omega);have F:=aq6 E;clear E;go_wp2_with(go_at_call 82;refine(BO _ _ Q).mono ?_;rintro e w' ⟨rfl,rfl⟩)
          · have r:(!bI l[k].code)=true:=by assumption
            go_ret;exact⟨by rw[J.out (by simp at r;simp[k8,r])];rfl,R⟩
          · have r:(!bI l[k].code)=false:=by assumption
            go_quiet(fail);go_wp2
            all_goals first
              |(
                 go_ret;refine⟨?_,below_drewN (p.alloc C _) _⟩;have L:k8 l (k) l[k]=false:=by
                   go_light
                   rw[F.out];apply asp;rintro⟨h1,M,h3,h4,h5,h6,h7,h8,h9,N⟩
                   first|omega|(simp_all;done)|(simp_all;omega)
                 rw[J.out L];rfl)
              |(
                 go_roundw
                 case rel=>
                   have G:∀j,(y:j<l.length)->j<k+1->k8 l j l[j]=true:=by
                     intro j y O;rcases arp j (k)with h1|h1
                     · exact n.out j y h1
                     · obtain rfl:j=k:=by omega
                       go_light
                       rw[F.out];apply ase;refine⟨by simpa using r,by omega,?_,?_,?_,?_,?_,?_,?_,?_⟩
                       all_goals first|omega|(simp_all;done)|(simp_all;omega)
                   first|exact⟨k+1,by omega,by go_num,G,below_drewN (p.alloc C _) _⟩|((repeat apply Exists.intro);exact⟨⟨k+1,by omega,by go_num,G,below_drewN (p.alloc C _) _⟩,rfl⟩)
                 case measure=>simp[intOf];omega)
        · obtain⟨m,rfl⟩:∃m,k=m+1:=⟨k-1,by omega⟩
          obtain⟨b',S,D,af,I⟩:=(h.below p).at_ (show m<l.length by omega);injection D with D
          injection D with h1 M
          subst h1 M;have p0:=I 0 _ rfl;simp only[ara]at p0;have E:=adH l (m+1) l[m+1] _ (.inr ⟨l[m],by simp,rfl⟩);have F:=aq6 E;have IU:b<wr.heap.size:=(by omega);clear I E;go_wp2_with(go_at_call 82;refine(BO _ _ Q).mono ?_;rintro e w' ⟨rfl,rfl⟩)
          · have r:(!bI l[m+1].code)=true:=by assumption
            go_ret;exact⟨by rw[J.out (by simp at r;simp[k8,r])];rfl,R⟩
          · have r:(!bI l[m+1].code)=false:=by assumption
            go_quiet(fail);go_wp2
            all_goals first
              |(
                 go_ret;refine⟨?_,below_drewN (p.alloc C _) _⟩;have L:k8 l (m+1) l[m+1]=false:=by
                   go_light
                   rw[F.out];apply asp;rintro⟨h1,M,h3,h4,h5,h6,h7,h8,h9,N⟩
                   first|omega|(simp_all;done)|(simp_all;omega)
                 rw[J.out L];rfl)
              |(
                 go_roundw
                 case rel=>
                   have G:∀j,(y:j<l.length)->j<m+1+1->k8 l j l[j]=true:=by
                     intro j y O;rcases arp j (m+1)with h1|h1
                     · exact n.out j y h1
                     · obtain rfl:j=m+1:=by omega
                       go_light
                       rw[F.out];apply ase;refine⟨by simpa using r,.inr (by simp_all),?_,?_,?_,?_,?_,?_,?_,?_⟩
                       all_goals first|omega|(simp_all;done)|(simp_all;omega)
                   first|exact⟨m+1+1,by omega,by go_num,G,below_drewN (p.alloc C _) _⟩|((repeat apply Exists.intro);exact⟨⟨m+1+1,by omega,by go_num,G,below_drewN (p.alloc C _) _⟩,rfl⟩)
                 case measure=>simp[intOf];omega)
      · go_wp2
        go_ret;have hv:fV l=true:=U1 X (fun i hi=>n.out i hi (by omega));exact⟨by rw[hv];rfl,p⟩
theorem TH(A:Option Addr)(J:Nat)(l:List Elem)(w:World)(h:aj aN 2 w w.heap.size A l)(O:∀x∈l,x.code.size<=maxLen)(S:l.length<=9223372036854775807):
    Calls prog 69 #[.slice A l.length J] w fun e w'=>e=.returned (.bool (eJ l))/\Below w.heap.size w w':=by
  have T:=aq6 O;clear O;by_cases u:128<l.length
  · have U:Hid (eJ l=false):=UZ u
    go_enter func69,ntmps69;go_wp2;go_ret;exact⟨by rw[U.out];rfl,arb _ _⟩
  · have V:l.length<=128:=by omega
    clear u S;go_enter func69,ntmps69;go_wp2
    go_loopw [10] (fun i wr=>∃k:Nat,k<=l.length/\i=.int .i64 k/\Hid (∀j,(y:j<l.length)->j<k->l7 l j l[j]=true)/\Below w.heap.size w wr) (fun i _=>l.length-(intOf i).toNat)
    case atStart=>exact⟨0,by omega,rfl,fun j _ y=>absurd y (by omega),arb _ _⟩
    case round=>
      obtain⟨k,hk,rfl,n,p⟩:=hrel;by_cases z:k<l.length
      · obtain⟨b,X,rfl,hb,K⟩:=(h.below p).at_ z
        have Y:=K 0 _ rfl;have c1:=K 1 _ rfl;simp only[ara]at Y;have P:=T.out _ (arc z);have B:=p.size;have I:Hid (l7 l k l[k]=false->eJ l=false):=U0 z;clear K;have Q:Below w.heap.size w (wr.alloc (.cells (aN l[k]).toArray 69)):=p.alloc B _;rcases arp 0 k with fM|fM;rotate_left
        · have D:=adI l k l[k] true (.inl (by omega))
          have Z:decide ((0:Int)<(k:Int))=false:=(by simp;omega);have ab:decide (0<k)=false:=(by simp;omega);have E:=aq6 D;clear D;go_wp2_with(go_at_call 82;refine(BO _ _ P).mono ?_;rintro e w' ⟨rfl,rfl⟩)
          · have r:(!bI l[k].code)=true:=by assumption
            go_ret;exact⟨by rw[I.out (by simp at r;simp[l7,r])];rfl,Q⟩
          · have r:(!bI l[k].code)=false:=by assumption
            go_quiet(fail);go_wp2
            all_goals first
              |(
                 go_ret;refine⟨?_,below_drewN (p.alloc B _) _⟩;have L:l7 l (k) l[k]=false:=by
                   go_light
                   rw[E.out];apply asp;rintro⟨h1,M,h3,h4⟩
                   first|omega|(simp_all;done)|(simp_all;omega)
                 rw[I.out L];rfl)
              |(
                 go_roundw
                 case rel=>
                   have F:∀j,(y:j<l.length)->j<k+1->l7 l j l[j]=true:=by
                     intro j y N;rcases arp j (k)with h1|h1
                     · exact n.out j y h1
                     · obtain rfl:j=k:=by omega
                       go_light
                       rw[E.out];apply ase;refine⟨by simpa using r,by omega,?_,?_⟩
                       all_goals first|omega|(simp_all;done)|(simp_all;omega)
                   first|exact⟨k+1,by omega,by go_num,F,below_drewN (p.alloc B _) _⟩|((repeat apply Exists.intro);exact⟨⟨k+1,by omega,by go_num,F,below_drewN (p.alloc B _) _⟩,rfl⟩)
                 case measure=>simp[intOf];omega)
        · obtain⟨m,rfl⟩:∃m,k=m+1:=⟨k-1,by omega⟩
          obtain⟨b',R,C,ad,G⟩:=(h.below p).at_ (show m<l.length by omega);injection C with C
          injection C with h1 M
          subst h1 M;have p0:=G 0 _ rfl;simp only[ara]at p0;have D:=adI l (m+1) l[m+1] _ (.inr ⟨l[m],by simp,rfl⟩);have E:=aq6 D;have IU:b<wr.heap.size:=(by omega);clear G D;go_wp2_with(go_at_call 82;refine(BO _ _ P).mono ?_;rintro e w' ⟨rfl,rfl⟩)
          · have r:(!bI l[m+1].code)=true:=by assumption
            go_ret;exact⟨by rw[I.out (by simp at r;simp[l7,r])];rfl,Q⟩
          · have r:(!bI l[m+1].code)=false:=by assumption
            go_quiet(fail);go_wp2
            all_goals first
              |(
                 go_ret;refine⟨?_,below_drewN (p.alloc B _) _⟩;have L:l7 l (m+1) l[m+1]=false:=by
                   go_light
                   rw[E.out];apply asp;rintro⟨h1,M,h3,h4⟩
                   first|omega|(simp_all;done)|(simp_all;omega)
                 rw[I.out L];rfl)
              |(
                 go_roundw
                 case rel=>
                   have F:∀j,(y:j<l.length)->j<m+1+1->l7 l j l[j]=true:=by
                     intro j y N;rcases arp j (m+1)with h1|h1
                     · exact n.out j y h1
                     · obtain rfl:j=m+1:=by omega
                       go_light
                       rw[E.out];apply ase;refine⟨by simpa using r,.inr (by simp_all),?_,?_⟩
                       all_goals first|omega|(simp_all;done)|(simp_all;omega)
                   first|exact⟨m+1+1,by omega,by go_num,F,below_drewN (p.alloc B _) _⟩|((repeat apply Exists.intro);exact⟨⟨m+1+1,by omega,by go_num,F,below_drewN (p.alloc B _) _⟩,rfl⟩)
                 case measure=>simp[intOf];omega)
      · go_wp2
        go_ret;have hv:eJ l=true:=U1 V (fun i hi=>n.out i hi (by omega));exact⟨by rw[hv];rfl,p⟩
theorem BA(n m:Int)(w:World):Calls prog 133 #[.int .i64 n,.int .i64 m] w fun e w'=>e=.returned (.bool (bG n m))/\w=w':=by
 by_cases l:0<=n<;>by_cases p:n<=m
 all_goals
  have j:bG n m=(decide (0<=n)&&decide (n<=m)):=by simp[bG]
  have r:=aq6 j;clear j;go_enter func133,ntmps133;go_wp2;go_ret;exact⟨by rw[r.out];simp[l,p],rfl⟩
theorem Zp(A:Option Addr)(V:Nat)(l:List bK)(w:World)(h:aj j6 6 w w.heap.size A l)(hz:∀x∈l,x.code.size<=maxLen)(hl:l.length<=9223372036854775807):
    Calls prog 132 #[.slice A l.length V] w fun e w'=>e=.returned (.bool (fV l))/\Below w.heap.size w w':=by
  have HZ:=aq6 hz;clear hz;by_cases B:16<l.length
  · have HV:Hid (fV l=false):=UZ B
    go_enter func132,ntmps132;go_wp2;go_ret;exact⟨by rw[HV.out];rfl,arb _ _⟩
  · have k9:l.length<=16:=by omega
    clear B hl;go_enter func132,ntmps132;go_wp2
    go_loopw [3] (fun i wr=>∃k:Nat,k<=l.length/\i=.int .i64 k/\Hid (∀j,(C:j<l.length)->j<k->k8 l j l[j]=true)/\Below w.heap.size w wr) (fun i _=>l.length-(intOf i).toNat)
    case atStart=>exact⟨0,by omega,rfl,fun j _ C=>absurd C (by omega),arb _ _⟩
    case round=>
      obtain⟨k,hk,rfl,u,M⟩:=hrel;by_cases E:k<l.length
      · obtain⟨b,O,rfl,hb,F⟩:=(h.below M).at_ E
        have X:=F 0 _ rfl;have c1:=F 1 _ rfl;have c2:=F 2 _ rfl;have c3:=F 3 _ rfl;have c4:=F 4 _ rfl;have c5:=F 5 _ rfl;simp only[ara]at X;have T:=HZ.out _ (arc E);have br:=M.size;have gl:Hid (k8 l k l[k]=false->fV l=false):=U0 E;clear F;have IU:b<wr.heap.size:=(by omega);rcases arp 0 k with fM|fM
        · obtain⟨m,rfl⟩:∃m,k=m+1:=⟨k-1,by omega⟩
          obtain⟨b',ad,G,af,P⟩:=(h.below M).at_ (show m<l.length by omega);injection G with G
          injection G with h1 h2
          subst h1 h2;have Y:=P 0 _ rfl;simp only[ara]at Y;have Q:=aq6 (U2 bK.code l m l[m+1] (by omega));clear P;go_wp2_with fail;have I:(wr.alloc (Obj.cells #[.string l[m+1].code,.int .i64 l[m+1].bX,.bool l[m+1].before,.int .i64 l[m+1].amount,.int .i64 l[m+1].bJ,.int .i64 l[m+1].cap] 166)).heap.size=wr.heap.size+1:=(by simp);have R:Below w.heap.size w (wr.alloc (Obj.cells #[.string l[m+1].code,.int .i64 l[m+1].bX,.bool l[m+1].before,.int .i64 l[m+1].amount,.int .i64 l[m+1].bJ,.int .i64 l[m+1].cap] 166)):=M.alloc br _;have n:=ah.new wr 166 #[.string l[m+1].code,.int .i64 l[m+1].bX,.bool l[m+1].before,.int .i64 l[m+1].amount,.int .i64 l[m+1].bJ,.int .i64 l[m+1].cap];have Z:=(World.cell?_alloc_past (w:=wr) (Obj.cells #[.string l[m+1].code,.int .i64 l[m+1].bX,.bool l[m+1].before,.int .i64 l[m+1].amount,.int .i64 l[m+1].bJ,.int .i64 l[m+1].cap] 166) b (O+m*6) IU).trans Y;generalize wr.alloc (Obj.cells _ _)=W at I R n Z|-;have Zq:=aq6 I;have e0:=Bw.cell (w:=W) (a:=⟨wr.heap.size,0,none⟩) (by show wr.heap.size<W.heap.size;omega) (n.cell 0);have e1:=Bw.cell (w:=W) (a:=⟨wr.heap.size,1,none⟩) (by show wr.heap.size<W.heap.size;omega) (n.cell 1);have e3:=Bw.cell (w:=W) (a:=⟨wr.heap.size,3,none⟩) (by show wr.heap.size<W.heap.size;omega) (n.cell 3);have e5:=Bw.cell (w:=W) (a:=⟨wr.heap.size,5,none⟩) (by show wr.heap.size<W.heap.size;omega) (n.cell 5);have e4:=Bw.cell (w:=W) (a:=⟨wr.heap.size,4,none⟩) (by show wr.heap.size<W.heap.size;omega) (n.cell 4);have ai:=Bw.cell (w:=W) (a:=⟨b,O+m*6,none⟩) (by show b<W.heap.size;omega) Z;clear Z Y;have B8:Hid (w.heap.size<=W.heap.size):=(by show w.heap.size<=W.heap.size;omega);clear I n X c1 c2 c3 c4 c5;have J:((bI l[m+1].code)=false)\/((bI l[m+1].code)=true/\(Op.bytesLess l[m].code.toList l[m+1].code.toList)=false)\/((bI l[m+1].code)=true/\(Op.bytesLess l[m].code.toList l[m+1].code.toList)=true/\(bG l[m+1].bX 99)=false)\/((bI l[m+1].code)=true/\(Op.bytesLess l[m].code.toList l[m+1].code.toList)=true/\(bG l[m+1].bX 99)=true/\(bG l[m+1].amount 1000000000)=false)\/((bI l[m+1].code)=true/\(Op.bytesLess l[m].code.toList l[m+1].code.toList)=true/\(bG l[m+1].bX 99)=true/\(bG l[m+1].amount 1000000000)=true/\(bG l[m+1].cap 1000000000)=false)\/((bI l[m+1].code)=true/\(Op.bytesLess l[m].code.toList l[m+1].code.toList)=true/\(bG l[m+1].bX 99)=true/\(bG l[m+1].amount 1000000000)=true/\(bG l[m+1].cap 1000000000)=true/\(bG l[m+1].bJ 1000000)=false)\/((bI l[m+1].code)=true/\(Op.bytesLess l[m].code.toList l[m+1].code.toList)=true/\(bG l[m+1].bX 99)=true/\(bG l[m+1].amount 1000000000)=true/\(bG l[m+1].cap 1000000000)=true/\(bG l[m+1].bJ 1000000)=true):=by
            go_light
            generalize bI l[m+1].code=q0;generalize Op.bytesLess l[m].code.toList l[m+1].code.toList=q1;generalize bG l[m+1].bX 99=q2;generalize bG l[m+1].amount 1000000000=q3;generalize bG l[m+1].cap 1000000000=q4;generalize bG l[m+1].bJ 1000000=q5;cases q0<;>cases q1<;>cases q2<;>cases q3<;>cases q4<;>cases q5<;>simp
          rcases J with r|⟨r,z⟩|⟨r,z,D⟩|⟨r,z,D,N⟩|⟨r,z,D,N,U⟩|⟨r,z,D,N,U,a5⟩|⟨r,z,D,N,U,a5⟩
          all_goals
            refine pE (by kernel_rfl) (by kernel_rfl) ?_
            repeat(first|go_big_quiet_step((first|exact Bw.call _ (Bo _ _ T)|exact Bw.zt _ (BA _ _ _)))|quiet_step((first|exact Bw.call _ (Bo _ _ T)|exact Bw.zt _ (BA _ _ _))))
            refine wpQuiet_nil ?_;intro W2 K;obtain⟨⟨W9,L⟩,y⟩:=K;subst y;have p:Below w.heap.size w W2:=R.trans (L.mono B8.out);go_wp2
            first
              |(
                 go_ret;refine⟨?_,p⟩;have hq:k8 l (m+1) l[m+1]=false:=by
                   go_light
                   simp only[k8,Q.out];simp[*]
                 rw[gl.out hq];rfl)
              |(
                 go_roundw
                 case rel=>
                   have S:∀j,(C:j<l.length)->j<m+1+1->k8 l j l[j]=true:=by
                     intro j C ab;rcases arp j (m+1)with h1|h1
                     · exact u.out j C h1
                     · obtain rfl:j=m+1:=by omega
                       go_light
                       simp only[k8,Q.out];simp[*]
                   first|exact⟨m+1+1,by omega,by go_num,S,p⟩|((repeat apply Exists.intro);exact⟨⟨m+1+1,by omega,by go_num,S,p⟩,rfl⟩)
                 case measure=>simp[intOf];omega)
        · have Q:Hid (AX bK.code l k l[k]=true):=by
            have e:k=0:=(by omega);unfold Hid AX;simp[e]
          have al:decide ((0:Int)<(k:Int))=false:=(by simp;omega);have am:decide (0<k)=false:=(by simp;omega);go_wp2_with fail;have I:(wr.alloc (Obj.cells #[.string l[k].code,.int .i64 l[k].bX,.bool l[k].before,.int .i64 l[k].amount,.int .i64 l[k].bJ,.int .i64 l[k].cap] 166)).heap.size=wr.heap.size+1:=(by simp);have R:Below w.heap.size w (wr.alloc (Obj.cells #[.string l[k].code,.int .i64 l[k].bX,.bool l[k].before,.int .i64 l[k].amount,.int .i64 l[k].bJ,.int .i64 l[k].cap] 166)):=M.alloc br _;have n:=ah.new wr 166 #[.string l[k].code,.int .i64 l[k].bX,.bool l[k].before,.int .i64 l[k].amount,.int .i64 l[k].bJ,.int .i64 l[k].cap];generalize wr.alloc (Obj.cells _ _)=W at I R n|-;have Zq:=aq6 I;have e0:=Bw.cell (w:=W) (a:=⟨wr.heap.size,0,none⟩) (by show wr.heap.size<W.heap.size;omega) (n.cell 0);have e1:=Bw.cell (w:=W) (a:=⟨wr.heap.size,1,none⟩) (by show wr.heap.size<W.heap.size;omega) (n.cell 1);have e3:=Bw.cell (w:=W) (a:=⟨wr.heap.size,3,none⟩) (by show wr.heap.size<W.heap.size;omega) (n.cell 3);have e5:=Bw.cell (w:=W) (a:=⟨wr.heap.size,5,none⟩) (by show wr.heap.size<W.heap.size;omega) (n.cell 5);have e4:=Bw.cell (w:=W) (a:=⟨wr.heap.size,4,none⟩) (by show wr.heap.size<W.heap.size;omega) (n.cell 4);have B8:Hid (w.heap.size<=W.heap.size):=(by show w.heap.size<=W.heap.size;omega);clear I n X c1 c2 c3 c4 c5;have J:((bI l[k].code)=false)\/((bI l[k].code)=true/\(bG l[k].bX 99)=false)\/((bI l[k].code)=true/\(bG l[k].bX 99)=true/\(bG l[k].amount 1000000000)=false)\/((bI l[k].code)=true/\(bG l[k].bX 99)=true/\(bG l[k].amount 1000000000)=true/\(bG l[k].cap 1000000000)=false)\/((bI l[k].code)=true/\(bG l[k].bX 99)=true/\(bG l[k].amount 1000000000)=true/\(bG l[k].cap 1000000000)=true/\(bG l[k].bJ 1000000)=false)\/((bI l[k].code)=true/\(bG l[k].bX 99)=true/\(bG l[k].amount 1000000000)=true/\(bG l[k].cap 1000000000)=true/\(bG l[k].bJ 1000000)=true):=by
            go_light
            generalize bI l[k].code=q0;generalize bG l[k].bX 99=q1;generalize bG l[k].amount 1000000000=q2;generalize bG l[k].cap 1000000000=q3;generalize bG l[k].bJ 1000000=q4;cases q0<;>cases q1<;>cases q2<;>cases q3<;>cases q4<;>simp
          rcases J with r|⟨r,z⟩|⟨r,z,D⟩|⟨r,z,D,N⟩|⟨r,z,D,N,U⟩|⟨r,z,D,N,U⟩
          all_goals
            refine pE (by kernel_rfl) (by kernel_rfl) ?_
            repeat(first|go_big_quiet_step((first|exact Bw.call _ (Bo _ _ T)|exact Bw.zt _ (BA _ _ _)))|quiet_step((first|exact Bw.call _ (Bo _ _ T)|exact Bw.zt _ (BA _ _ _))))
            refine wpQuiet_nil ?_;intro W2 K;obtain⟨⟨W9,L⟩,y⟩:=K;subst y;have p:Below w.heap.size w W2:=R.trans (L.mono B8.out);go_wp2
            first
              |(
                 go_ret;refine⟨?_,p⟩;have hq:k8 l (k) l[k]=false:=by
                   go_light
                   simp only[k8,Q.out];simp[*]
                 rw[gl.out hq];rfl)
              |(
                 go_roundw
                 case rel=>
                   have S:∀j,(C:j<l.length)->j<k+1->k8 l j l[j]=true:=by
                     intro j C ab;rcases arp j (k)with h1|h1
                     · exact u.out j C h1
                     · obtain rfl:j=k:=by omega
                       go_light
                       simp only[k8,Q.out];simp[*]
                   first|exact⟨k+1,by omega,by go_num,S,p⟩|((repeat apply Exists.intro);exact⟨⟨k+1,by omega,by go_num,S,p⟩,rfl⟩)
                 case measure=>simp[intOf];omega)
      · go_wp2
        go_ret;have hv:fV l=true:=U1 k9 (fun i hi=>u.out i hi (by omega));exact⟨by rw[hv];rfl,M⟩
theorem Un(A:Option Addr)(Q:Nat)(l:List Elem)(w:World)(h:aj aN 2 w w.heap.size A l)(hz:∀x∈l,x.code.size<=maxLen)(hl:l.length<=9223372036854775807):
    Calls prog 129 #[.slice A l.length Q] w fun e w'=>e=.returned (.bool (eJ l))/\Below w.heap.size w w':=by
  have HZ:=aq6 hz;clear hz;by_cases y:128<l.length
  · have HV:Hid (eJ l=false):=UZ y
    go_enter func129,ntmps129;go_wp2;go_ret;exact⟨by rw[HV.out];rfl,arb _ _⟩
  · have k9:l.length<=128:=by omega
    clear y hl;go_enter func129,ntmps129;go_wp2
    go_loopw [3] (fun i wr=>∃k:Nat,k<=l.length/\i=.int .i64 k/\Hid (∀j,(z:j<l.length)->j<k->l7 l j l[j]=true)/\Below w.heap.size w wr) (fun i _=>l.length-(intOf i).toNat)
    case atStart=>exact⟨0,by omega,rfl,fun j _ z=>absurd z (by omega),arb _ _⟩
    case round=>
      obtain⟨k,hk,rfl,p,G⟩:=hrel;by_cases B:k<l.length
      · obtain⟨b,r,rfl,hb,R⟩:=(h.below G).at_ B
        have J:=R 0 _ rfl;have N:=R 1 _ rfl;simp only[ara]at J;have O:=HZ.out _ (arc B);have br:=G.size;have gl:Hid (l7 l k l[k]=false->eJ l=false):=U0 B;clear R;have IU:b<wr.heap.size:=(by omega);rcases arp 0 k with fM|fM
        · obtain⟨m,rfl⟩:∃m,k=m+1:=⟨k-1,by omega⟩
          obtain⟨b',ad,C,af,K⟩:=(h.below G).at_ (show m<l.length by omega);injection C with C
          injection C with h1 h2
          subst h1 h2;have S:=K 0 _ rfl;simp only[ara]at S;have L:=aq6 (U2 Elem.code l m l[m+1] (by omega));clear K;go_wp2_with fail;have e0:=Bw.cell (w:=wr) (a:=⟨b,r+(m+1)*2,none⟩) (by show b<wr.heap.size;omega) J;have e1:=Bw.cell (w:=wr) (a:=⟨b,r+(m+1)*2+1,none⟩) (by show b<wr.heap.size;omega) N;have ai:=Bw.cell (w:=wr) (a:=⟨b,r+m*2,none⟩) (by show b<wr.heap.size;omega) S;clear S;have T:Hid (w.heap.size<=wr.heap.size):=br;have U:=G;clear J N;have D:((bI l[m+1].code)=false)\/((bI l[m+1].code)=true/\(Op.bytesLess l[m].code.toList l[m+1].code.toList)=false)\/((bI l[m+1].code)=true/\(Op.bytesLess l[m].code.toList l[m+1].code.toList)=true/\(bG l[m+1].amount 1000000000000)=false)\/((bI l[m+1].code)=true/\(Op.bytesLess l[m].code.toList l[m+1].code.toList)=true/\(bG l[m+1].amount 1000000000000)=true):=by
            go_light
            generalize bI l[m+1].code=V;generalize Op.bytesLess l[m].code.toList l[m+1].code.toList=X;generalize bG l[m+1].amount 1000000000000=q2;cases V<;>cases X<;>cases q2<;>simp
          rcases D with I|⟨I,P⟩|⟨I,P,a2⟩|⟨I,P,a2⟩
          all_goals
            refine pE (by kernel_rfl) (by kernel_rfl) ?_
            repeat(first|go_big_quiet_step((first|exact Bw.call _ (Bo _ _ O)|exact Bw.zt _ (BA _ _ _)))|quiet_step((first|exact Bw.call _ (Bo _ _ O)|exact Bw.zt _ (BA _ _ _))))
            refine wpQuiet_nil ?_;intro Y E;obtain⟨⟨W9,F⟩,u⟩:=E;subst u;have n:Below w.heap.size w Y:=U.trans (F.mono T.out);go_wp2
            first
              |(
                 go_ret;refine⟨?_,n⟩;have Z:l7 l (m+1) l[m+1]=false:=by
                   go_light
                   simp only[l7,L.out];simp[*]
                 rw[gl.out Z];rfl)
              |(
                 go_roundw
                 case rel=>
                   have M:∀j,(z:j<l.length)->j<m+1+1->l7 l j l[j]=true:=by
                     intro j z ab;rcases arp j (m+1)with h1|h1
                     · exact p.out j z h1
                     · obtain rfl:j=m+1:=by omega
                       go_light
                       simp only[l7,L.out];simp[*]
                   first|exact⟨m+1+1,by omega,by go_num,M,n⟩|((repeat apply Exists.intro);exact⟨⟨m+1+1,by omega,by go_num,M,n⟩,rfl⟩)
                 case measure=>simp[intOf];omega)
        · have L:Hid (AX Elem.code l k l[k]=true):=by
            have e:k=0:=(by omega);unfold Hid AX;simp[e]
          have al:decide ((0:Int)<(k:Int))=false:=(by simp;omega);have am:decide (0<k)=false:=(by simp;omega);go_wp2_with fail;have e0:=Bw.cell (w:=wr) (a:=⟨b,r+(k)*2,none⟩) (by show b<wr.heap.size;omega) J;have e1:=Bw.cell (w:=wr) (a:=⟨b,r+(k)*2+1,none⟩) (by show b<wr.heap.size;omega) N;have T:Hid (w.heap.size<=wr.heap.size):=br;have U:=G;clear J N;have D:((bI l[k].code)=false)\/((bI l[k].code)=true/\(bG l[k].amount 1000000000000)=false)\/((bI l[k].code)=true/\(bG l[k].amount 1000000000000)=true):=by
            go_light
            generalize bI l[k].code=V;generalize bG l[k].amount 1000000000000=X;cases V<;>cases X<;>simp
          rcases D with I|⟨I,P⟩|⟨I,P⟩
          all_goals
            refine pE (by kernel_rfl) (by kernel_rfl) ?_
            repeat(first|go_big_quiet_step((first|exact Bw.call _ (Bo _ _ O)|exact Bw.zt _ (BA _ _ _)))|quiet_step((first|exact Bw.call _ (Bo _ _ O)|exact Bw.zt _ (BA _ _ _))))
            refine wpQuiet_nil ?_;intro Y E;obtain⟨⟨W9,F⟩,u⟩:=E;subst u;have n:Below w.heap.size w Y:=U.trans (F.mono T.out);go_wp2
            first
              |(
                 go_ret;refine⟨?_,n⟩;have Z:l7 l (k) l[k]=false:=by
                   go_light
                   simp only[l7,L.out];simp[*]
                 rw[gl.out Z];rfl)
              |(
                 go_roundw
                 case rel=>
                   have M:∀j,(z:j<l.length)->j<k+1->l7 l j l[j]=true:=by
                     intro j z ab;rcases arp j (k)with h1|h1
                     · exact p.out j z h1
                     · obtain rfl:j=k:=by omega
                       go_light
                       simp only[l7,L.out];simp[*]
                   first|exact⟨k+1,by omega,by go_num,M,n⟩|((repeat apply Exists.intro);exact⟨⟨k+1,by omega,by go_num,M,n⟩,rfl⟩)
                 case measure=>simp[intOf];omega)
      · go_wp2
        go_ret;have hv:eJ l=true:=U1 k9 (fun i hi=>p.out i hi (by omega));exact⟨by rw[hv];rfl,G⟩
theorem adJ{a b v:Int}(h:a=b):Ending.returned (.tuple #[.int .i64 a,.int .i64 v])=.returned (.tuple #[.int .i64 b,.int .i64 v]):=by rw[h]
theorem acj(A:Option Addr)(z:Nat)(n:List Elem)(c:ByteArray)(w:World)(h:aj aN 2 w w.heap.size A n)(K:n.length<=9223372036854775806):
  Calls prog 199 #[.slice A n.length z,.string c] w fun e w'=>e=.returned (.int .i64 (mU n c))/\Below w.heap.size w w':=by
 go_enter func199,ntmps199;go_wp2
 go_loopw [9] (fun i wr=>∃k:Nat,k<=n.length/\i=.int .i64 k/\Hid (∀j,(r:j<n.length)->j<k->(n[j].code.toList==c.toList)=false)/\Below w.heap.size w wr) (fun i _=>n.length-(intOf i).toNat)
 case atStart=>exact⟨0,by omega,rfl,fun j _ r=>absurd r (by omega),arb _ _⟩
 case round=>
  obtain⟨k,L,rfl,p,u⟩:=hrel;have E:=u.size;by_cases y:k<n.length
  ·obtain⟨b,F,rfl,M,B⟩:=(h.below u).at_ y;have G:=B 0 _ rfl;have N:=B 1 _ rfl;simp only[ara]at G;clear B;by_cases C:(n[k].code.toList==c.toList)=true
   ·have D:=aq6 (adK y p.out C);go_wp2;go_ret;exact⟨by rw[D.out];rfl,u.alloc E _⟩
   ·have I:(n[k].code.toList==c.toList)=false:=(by simpa using C);clear C;go_wp2;go_roundw
    case rel=>
     refine⟨k+1,by omega,by go_num,fun j r J=>?_,u.alloc E _⟩;rcases arp j k with h1|h1
     ·exact p.out j r h1
     ·obtain rfl:j=k:=by omega
      exact I
    case measure=>simp[intOf];omega
  ·have D:=aq6 (adL (l:=n) (c:=c) (fun j r=>p.out j r (by omega)));go_wp2;go_ret;exact⟨by rw[D.out];rfl,u⟩
theorem adM(A:Option Addr)(y:Nat)(n:List Elem)(c:ByteArray)(w:World)(B:Nat)(h:aj aN 2 w B A n)(J:n.length<=9223372036854775806):
  Calls prog 135 #[.slice A n.length y,.string c] w fun e w'=>e=.returned (.int .i64 (mU n c))/\w=w':=by
 go_enter func135,ntmps135;go_wp2
 go_loop [5] (fun i=>∃k:Nat,k<=n.length/\i=.int .i64 k/\Hid (∀j,(r:j<n.length)->j<k->(n[j].code.toList==c.toList)=false)) (fun i=>n.length-(intOf i).toNat)
 case atStart=>exact⟨0,by omega,rfl,fun j _ r=>absurd r (by omega)⟩
 case round=>
  obtain⟨k,K,rfl,p⟩:=hrel;by_cases u:k<n.length
  ·obtain⟨b,E,rfl,L,z⟩:=h.at_ u;have F:=z 0 _ rfl;have M:=z 1 _ rfl;simp only[ara]at F;clear z;by_cases C:(n[k].code.toList==c.toList)=true
   ·have D:=aq6 (adK u p.out C);go_wp2;go_ret;exact⟨by rw[D.out];rfl,rfl⟩
   ·have G:(n[k].code.toList==c.toList)=false:=(by simpa using C);clear C;go_wp2;go_round
    case rel=>
     refine⟨k+1,by omega,by go_num,fun j r I=>?_⟩;rcases arp j k with h1|h1
     ·exact p.out j r h1
     ·obtain rfl:j=k:=by omega
      exact G
    case measure=>simp[intOf];omega
  ·have D:=aq6 (adL (l:=n) (c:=c) (fun j r=>p.out j r (by omega)));go_wp2;go_ret;exact⟨by rw[D.out];rfl,rfl⟩
theorem X6(e:List Elem)(k:Nat)(h:k<e.length):aQ (e.take (k+1))=aQ (e.take k)+e[k].amount:=by rw[arA h,adN];simp[aQ]
theorem YS(A:Option Addr)(p:Nat)(j:List Elem)(w:World)(B:Nat)(h:aj aN 2 w B A j)(L:j.length<=1000)(n:∀x∈j,0<=x.amount/\x.amount<=1000000000000):
  Calls prog 90 #[.slice A j.length p] w fun e w'=>e=.returned (.int .i64 (aQ j))/\w=w':=by
 have u:=aq6 n;clear n;go_enter func90,ntmps90;go_wp2
 go_loop [3,4] (fun s i=>∃k:Nat,k<=j.length/\i=.int .i64 k/\s=.int .i64 (aQ (j.take k))) (fun _ i=>j.length-(intOf i).toNat)
 case atStart=>exact⟨0,by omega,rfl,rfl⟩
 case round=>
  obtain⟨k,M,rfl,rfl⟩:=hrel;by_cases l:k<j.length
  ·obtain⟨b,z,rfl,N,y⟩:=h.at_ l;have O:=y 1 _ rfl;clear y;have C:=aq6 (X6 j k l);have D:=NB (j.take k) 1000000000000 (fun x n=>u.out x (arD n));have E:=u.out _ (arc l);obtain⟨F,G⟩:=E;obtain⟨I,r⟩:=D;have J:aQ (j.take k)<=1000000000000000:=by
    have:(j.take k).length<=1000:=(by simp;omega);omega
   clear r;go_wp2;go_round
   case rel=>exact⟨k+1,by omega,by go_num,by rw[C.out]⟩
   case measure=>simp[intOf];omega
  ·have K:Hid (j.take k=j):=ar0 (by omega);go_wp2;go_ret;exact⟨by rw[K.out];rfl,rfl⟩
theorem adO{d:bK}{base taken p:Int}(e:FQ d base taken=0)(j:gF base d.bJ 1000000 1 4=p):JI d base taken=if 0<d.cap then min (min (d.amount+p) 1000000000) (max (d.cap-taken) 0)else min (d.amount+p) 1000000000:=by rw[JI,aq9 e,GG,Oo,j]
theorem adP{d:bK}{base taken:Int}(h:fV [d]=false):FQ d base taken=1:=by rw[FQ,aq9 h]
theorem Oq{d:bK}{base taken:Int}(h:fV [d]=true)(h2:bG base 1000000000=false\/bG taken 1000000000000=false):FQ d base taken=2:=by
 rw[FQ,aq8 (by simp[h])];rcases h2 with h2|h2
 ·rw[aq9 h2]
 ·rw[aq9 h2];split<;>rfl
theorem Ue{d:bK}{base taken:Int}(h:fV [d]=true)(e:bG base 1000000000=true)(j:bG taken 1000000000000=true):FQ d base taken=0:=by rw[FQ,aq8 (by simp[h]),aq8 (by simp[e]),aq8 (by simp[j])]
theorem J4{d:bK}{base taken:Int}(h:FQ d base taken≠0):JI d base taken=0:=by rw[JI,aq8 h]
theorem aid(d:bK)(base taken:Int)(w:World)(J:d.code.size<=maxLen)(K:G4 taken):
  Calls prog 198 #[.agg #[.string d.code,.int .i64 d.bX,.bool d.before,.int .i64 d.amount,.int .i64 d.bJ,.int .i64 d.cap],.int .i64 base,.int .i64 taken] w fun e w'=>e=.returned (.tuple #[.int .i64 (JI d base taken),.int .i64 (FQ d base taken)])/\Below w.heap.size w w':=by
 obtain⟨t1,t2⟩:=K;go_enter func198,ntmps198;go_wp2_with fail;have D:=(ah.new w 166 #[.string d.code,.int .i64 d.bX,.bool d.before,.int .i64 d.amount,.int .i64 d.bJ,.int .i64 d.cap]).alloc (.cells #[.string d.code,.int .i64 d.bX,.bool d.before,.int .i64 d.amount,.int .i64 d.bJ,.int .i64 d.cap] 166);have hS:=aj.new Ih (w.alloc (.cells #[.string d.code,.int .i64 d.bX,.bool d.before,.int .i64 d.amount,.int .i64 d.bJ,.int .i64 d.cap] 166)) [d] #[.string d.code,.int .i64 d.bX,.bool d.before,.int .i64 d.amount,.int .i64 d.bJ,.int .i64 d.cap] 166 rfl;rw[arn]at hS;refine(X7 _ 1 [d] _ (hS.more (by simp)) (by simpa using J) (by simp)).mono ?_;rintro e L ⟨rfl,r⟩;have u:Below w.heap.size w L:=aB (ew (ew (arb _ _) _) _) r;have y:=D.aa r;have T:=y.lt;obtain⟨U,V,X,Y,Z,z5⟩:=y.cz6;clear r D hS y;by_cases n:fV [d]=true
 ·have E:=Uf.1 n;by_cases F:0<=base
  ·by_cases G:base<=1000000000
   ·by_cases M:0<=taken
    ·by_cases N:taken<=1000000000000
     ·have z:=Ue n (gT.2 ⟨F,G⟩) (gT.2 ⟨M,N⟩);obtain⟨I,O,P,_,_⟩:=Zr E F G;obtain⟨_,_,_,a0,a1,c0,c1,_,_⟩:=E;have Q:=aq6 I;clear I;generalize B:gF base d.bJ 1000000 1 4=p at O P;have R:=aq6 B;have S:=aq6 (adO z B);have j:=aq6 z;clear B z;go_wp2_with fail;refine(U3 _ _ _ _ _ _).mono ?_;rintro e w' ⟨rfl,q,rfl⟩;rw[Q.out,R.out];go_wp2
      all_goals go_ret2;refine⟨?_,below_drewN u q⟩;rw[S.out,j.out];exact adJ (by first|omega|(simp_all;done)|(simp_all;omega))
     ·have j:=aq6 (Oq (base:=base) n (.inr (Ij.2 (.inr (show 1000000000000<taken by omega)))));have l:=aq6 (J4 (d:=d) (base:=base) (taken:=taken) (by rw[j.out];decide));go_wp2;go_ret2;exact⟨by rw[j.out,l.out];rfl,u⟩
    ·have j:=aq6 (Oq (base:=base) n (.inr (Ij.2 (.inl (show taken<0 by omega)))));have l:=aq6 (J4 (d:=d) (base:=base) (taken:=taken) (by rw[j.out];decide));go_wp2;go_ret2;exact⟨by rw[j.out,l.out];rfl,u⟩
   ·have j:=aq6 (Oq (taken:=taken) n (.inl (Ij.2 (.inr (show 1000000000<base by omega)))));have l:=aq6 (J4 (d:=d) (base:=base) (taken:=taken) (by rw[j.out];decide));go_wp2;go_ret2;exact⟨by rw[j.out,l.out];rfl,u⟩
  ·have j:=aq6 (Oq (taken:=taken) n (.inl (Ij.2 (.inl (show base<0 by omega)))));have l:=aq6 (J4 (d:=d) (base:=base) (taken:=taken) (by rw[j.out];decide));go_wp2;go_ret2;exact⟨by rw[j.out,l.out];rfl,u⟩
 ·have C:fV [d]=false:=by simpa using n
  have j:=aq6 (adP (base:=base) (taken:=taken) C);have l:=aq6 (J4 (d:=d) (base:=base) (taken:=taken) (by rw[j.out];decide));clear n;go_wp2;go_ret2;exact⟨by rw[j.out,l.out];rfl,u⟩
theorem ajJ(d:bK)(base taken:Int)(w:World)(J:d.code.size<=maxLen)(K:G4 taken):
  Calls prog 134 #[.agg #[.string d.code,.int .i64 d.bX,.bool d.before,.int .i64 d.amount,.int .i64 d.bJ,.int .i64 d.cap],.int .i64 base,.int .i64 taken] w fun e w'=>e=.returned (.tuple #[.int .i64 (JI d base taken),.int .i64 (FQ d base taken)])/\Below w.heap.size w w':=by
 obtain⟨t1,t2⟩:=K;go_enter func134,ntmps134;go_wp2_with fail;have F:=(ah.new w 166 #[.string d.code,.int .i64 d.bX,.bool d.before,.int .i64 d.amount,.int .i64 d.bJ,.int .i64 d.cap]).alloc (.cells #[.string d.code,.int .i64 d.bX,.bool d.before,.int .i64 d.amount,.int .i64 d.bJ,.int .i64 d.cap] 166);have hS:=aj.new Ih (w.alloc (.cells #[.string d.code,.int .i64 d.bX,.bool d.before,.int .i64 d.amount,.int .i64 d.bJ,.int .i64 d.cap] 166)) [d] #[.string d.code,.int .i64 d.bX,.bool d.before,.int .i64 d.amount,.int .i64 d.bJ,.int .i64 d.cap] 166 rfl;rw[arn]at hS;refine(Zp _ 1 [d] _ (hS.more (by simp)) (by simpa using J) (by simp)).mono ?_;rintro e L ⟨rfl,l⟩;have z:Below w.heap.size w L:=aB (ew (ew (arb _ _) _) _) l;have B:=F.aa l;have V:=B.lt;obtain⟨X,Y,Z,z3,z4,z5⟩:=B.cz6;clear l F hS B;by_cases n:fV [d]=true
 ·have G:=Uf.1 n;by_cases r:bG base 1000000000=true
  ·by_cases u:bG taken 1000000000000=true
   ·have C:=Ue n r u;have M:=U4 r;have N:=U5 r;have g3:=U4 u;have g4:=U5 u;obtain⟨I,O,P,_,_⟩:=Zr G M N;obtain⟨_,_,_,a0,a1,c0,c1,_,_⟩:=G;have Q:=aq6 I;clear I;generalize D:gF base d.bJ 1000000 1 4=p at O P;have R:=aq6 D;have S:=aq6 (adO C D);have j:=aq6 C;clear D C;go_wp2_with(go_at_call 133;refine(BA _ _ _).mono ?_;rintro e w' ⟨rfl,rfl⟩);refine(XR _ _ _ _ _ _).mono ?_;rintro e w' ⟨rfl,rfl⟩;rw[Q.out,R.out];go_wp2
    all_goals go_ret2;refine⟨?_,z⟩;rw[S.out,j.out];exact adJ (by first|omega|(simp_all;done)|(simp_all;omega))
   ·have T:bG taken 1000000000000=false:=(by simpa using u);have j:=aq6 (Oq (base:=base) n (.inr T));have y:=aq6 (J4 (d:=d) (base:=base) (taken:=taken) (by rw[j.out];decide));clear u;go_wp2_with(go_at_call 133;refine(BA _ _ _).mono ?_;rintro e w' ⟨rfl,rfl⟩);go_ret2;exact⟨by rw[j.out,y.out];rfl,z⟩
  ·have U:bG base 1000000000=false:=(by simpa using r);have j:=aq6 (Oq (taken:=taken) n (.inl U));have y:=aq6 (J4 (d:=d) (base:=base) (taken:=taken) (by rw[j.out];decide));clear r;go_wp2_with(go_at_call 133;refine(BA _ _ _).mono ?_;rintro e w' ⟨rfl,rfl⟩);go_ret2;exact⟨by rw[j.out,y.out];rfl,z⟩
 ·have E:fV [d]=false:=by simpa using n
  have j:=aq6 (adP (base:=base) (taken:=taken) E);have y:=aq6 (J4 (d:=d) (base:=base) (taken:=taken) (by rw[j.out];decide));clear n;go_wp2;go_ret2;exact⟨by rw[j.out,y.out];rfl,z⟩
theorem aif(A:Option Addr)(l:Nat)(j:List bK)(w:World)(h:aj j6 6 w w.heap.size A j)(E:j.length<=1000000):
  Calls prog 195 #[.slice A j.length l] w fun e w'=>∃v,e=.returned v/\Own j6 6 166 w' w.heap.size v j/\Below w.heap.size w w':=by
 rcases A with _|a
 ·have n:j=[]:=by
   rcases j with _|⟨y,ys⟩
   ·rfl
   ·obtain⟨b,p,r,_⟩:=h (by simp);cases r
  subst n;have u:∀w:World,(binOp .eql 46 (.slice none 0 l) (.slice none 0 0)).run prog w=.ok (.bool true) w:=fun _=>rfl;go_enter func195,ntmps195;go_wp2;go_ret;exact⟨_,rfl,Own.cK _ _,arb _ _⟩
 ·have z:=Own.lit Ih w ([]:List bK) #[] 166 rfl (by simp) (aq7 _);have hS:=h.Ip (.cells #[] 166);have u:∀w:World,(binOp .eql 46 (.slice (some a) j.length l) (.slice none 0 0)).run prog w=.ok (.bool false) w:=fun _=>rfl;go_enter func195,ntmps195;go_wp2_with(at_builtin;(refine FE (ys:=j) _ _ 46 _ 56 _ ajK underlying46 z hS Ih (by omega) rfl acb (by simp;omega) (by omega) (by simp) (by rfl) (by rfl) (by rfl) (by rfl) (by rfl) ?_);intro B F C D);go_ret;exact⟨B,rfl,by simpa using C,Yu D⟩
def EPost(m:List Elem)(l:Int)(w:World)(e:Ending)(w':World):Prop:=
 ∃A j,e=.returned (.tuple #[.slice A m.length j,.int .i64 l])/\aj aN 2 w' w'.heap.size A m/\m.length<=j/\j<=maxLen/\Below w.heap.size w w'
theorem EPost.fail{m:List Elem}{e n:Int}{w W:World}(j:m=[])(l:e=n)(p:Below w.heap.size w W):EPost m e w (Ending.returned (.tuple #[.slice none 0 0,.int .i64 n])) W:=by subst j l;exact⟨none,0,rfl,aj.cK,by simp,by unfold maxLen;omega,p⟩
def Cm(m:List Elem)(l:Int)(w:World)(e:Ending)(w':World):Prop:=
 ∃A j,e=.returned (.tuple #[.slice A m.length j,.int .i64 l])/\aj aN 2 w' w'.heap.size A m/\m.length<=j/\j<=maxLen/\(∀a,A=some a->w.heap.size<=a.block)/\Below w.heap.size w w'
theorem Cm.fail{m:List Elem}{e n:Int}{w W:World}(j:m=[])(l:e=n)(p:Below w.heap.size w W):Cm m e w (Ending.returned (.tuple #[.slice none 0 0,.int .i64 n])) W:=by subst j l;exact⟨none,0,rfl,aj.cK,by simp,by unfold maxLen;omega,(fun a r=>by cases r),p⟩
theorem adQ(d:bK)(base taken:Int)(w:World)(l:d.code.size<=maxLen)(n:zN d)(p:0<=base)(r:base<=1000000000)(u:0<=taken)(y:taken<=1000000000000):
  Calls prog 134 #[.agg #[.string d.code,.int .i64 d.bX,.bool d.before,.int .i64 d.amount,.int .i64 d.bJ,.int .i64 d.cap],.int .i64 base,.int .i64 taken] w fun e w'=>e=.returned (.tuple #[.int .i64 (GG d base taken),.int .i64 0])/\Below w.heap.size w w':=by
 have j:=Ue (Uf.2 n) (gT.2 ⟨p,r⟩) (gT.2 ⟨u,y⟩);refine(ajJ d base taken w l ⟨by omega,by omega⟩).mono fun e w' ⟨z,B⟩=>⟨?_,B⟩
 rw[z,j,JI,aq9 j]
def ze(wr:World)(v:Value)(m:List Elem):Prop:=∃A c,v=.slice A m.length c/\aj aN 2 wr wr.heap.size A m/\m.length<=c/\c<=maxLen
theorem ze.aa{w w':World}{v:Value}{m:List Elem}(h:ze w v m)(e:Below w.heap.size w w'):ze w' v m:=by obtain⟨A,c,j,l,n,p⟩:=h;exact⟨A,c,j,l.aa e,n,p⟩
theorem ze.cK(w:World):ze w (.slice none 0 0) []:=⟨none,0,rfl,aj.cK,by simp,by unfold maxLen;omega⟩
def SlF(B:Nat)(wr:World)(v:Value)(m:List Elem):Prop:=∃A c,v=.slice A m.length c/\aj aN 2 wr wr.heap.size A m/\m.length<=c/\c<=maxLen/\∀a,A=some a->B<=a.block
theorem Own.Uo{w:World}{base:Nat}{e:TypeId}{v:Value}{m:List Elem}(h:Own aN 2 e w base v m):ze w v m:=by obtain⟨A,c,j,l,_,n,p⟩:=h.kE dt;exact⟨A,c,j,l,n,p⟩
theorem adr(A Y:Option Addr)(ab Ii:Nat)(j:List bK)(year:List Elem)(before:Bool)(base y:Int)(w:World)(h:aj j6 6 w w.heap.size A j)(hz:∀x∈j,x.code.size<=maxLen)(hl:j.length<=9223372036854775807)
  (hy:aj aN 2 w w.heap.size Y year) (Fh:∀x∈year,x.code.size<=maxLen) (nV:year.length<=9223372036854775807):
  Calls prog 89 #[.slice A j.length ab,.bool before,.int .i64 base,.int .i64 y,.slice Y year.length Ii] w (EPost (il j before base y year) (eC j base y year) w):=by
 have HZ:=aq6 hz;clear hz;have Jr:=aq6 Fh;clear Fh;have zD:∀(n:Int) (W:World),n≠0->eC j base y year=n->Below w.heap.size w W->EPost (il j before base y year) (eC j base y year) w (Ending.returned (.tuple #[.slice none 0 0,.int .i64 n])) W:=
  fun n W hn he J=>EPost.fail (ace (by rw[he];exact hn)) he J
 have z:=aq6 zD;clear zD;go_enter func89,ntmps89;go_wp2_with fail;refine(Zp A ab j _ h HZ.out hl).mono ?_;rintro e w1 ⟨rfl,K⟩;by_cases N:fV j=true;rotate_left
 ·have an:fV j=false:=by simpa using N
  clear N;go_wp2;go_ret2;exact z.out 1 _ (by omega) (Ug (.inl an)) K
 go_wp2_with fail;refine(Un Y Ii year _ (hy.aa K) Jr.out nV).mono ?_;rintro e O ⟨rfl,ad⟩;have T:=aB K ad;by_cases L:eJ year=true;rotate_left
 ·have Js:eJ year=false:=by simpa using L
  clear L;go_wp2;go_ret2;exact z.out 1 _ (by omega) (Ug (.inr Js)) T
 by_cases U:bG base 1000000000=true;rotate_left
 ·have U6:bG base 1000000000=false:=by simpa using U
  clear U;go_wp2_with(go_at_call 133;refine(BA _ _ _).mono ?_;rintro e w' ⟨rfl,rfl⟩);go_ret2;exact z.out 2 _ (by omega) (NG N L (.inl U6)) T
 by_cases V:bG y 1000000000=true;rotate_left
 ·have ao:bG y 1000000000=false:=by simpa using V
  clear V;go_wp2_with(go_at_call 133;refine(BA _ _ _).mono ?_;rintro e w' ⟨rfl,rfl⟩);go_ret2;exact z.out 2 _ (by omega) (NG N L (.inr ao)) T
 have hE:=X8 N L U V;have HE:=aq6 hE;have HR:=aq6 (X9 (before:=before) hE);have a1:=U4 U;have a2:=U5 U;have a3:=U4 V;have a4:=U5 V;clear hE z;have af:j.length<=16:=(Ik.1 N).1;have az:year.length<=128:=(pz.1 L).1;have dg:=aq6 (Ik.1 N).2.1;have Jt:=aq6 (fun c=>ach L c);have QZ:=h.aa T;have iV:=hy.aa T;go_wp2_with(go_at_call 133;refine(BA _ _ _).mono ?_;rintro e w' ⟨rfl,rfl⟩);clear N L U V K ad h hy hl nV
 go_loopw [12,3,13] (fun v l i wr=>∃r:Nat,r<=100/\i=.int .i64 r/\l=.int .i64 (j7 before base year (D5 j r) y)/\ze wr v (bB (tk before base year (D5 j r) y))/\Below O.heap.size O wr) (fun _ _ i _=>100-(intOf i).toNat)
 case atStart=>exact⟨0,by omega,rfl,rfl,ze.cK _,arb _ _⟩
 case round=>
  obtain⟨r,L,rfl,rfl,E,F⟩:=hrel;by_cases aA:r<100
  ·have aD:decide ((r:Int)<=99)=true:=(by simp;omega);obtain⟨wo,rfl⟩:∃wo:World,wo=wr:=⟨_,rfl⟩
   rw[<-ajL j r]at E|-;go_wp2_with fail
   go_loopw [12,3,14] (fun v l i wr=>∃k:Nat,k<=j.length/\i=.int .i64 k/\l=.int .i64 (j7 before base year (pre j r k) y)/\ze wr v (bB (tk before base year (pre j r k) y))/\Below O.heap.size O wr) (fun _ _ i _=>j.length-(intOf i).toNat)
   case atStart=>exact⟨0,by omega,rfl,rfl,E,F⟩
   case round=>
    clear E F;obtain⟨k,hk,rfl,rfl,E,F⟩:=hrel;have br:=F.size;have Zt:∀x∈pre j r k,zN x:=fun x X=>dg.out x (ajM X);have B1:=Uh (before:=before) (year:=year) Zt a1 a2 y a3;have Ot:=aq6 (ajN Zt before year a1 a2 a3);have ai:=arq (adR (pre j r k) before base year y) (ajO j af r k);clear Zt;by_cases G:k<j.length
    ·obtain⟨b,B,rfl,J,S⟩:=(QZ.aa F).at_ G;have c0:=S 0 _ rfl;have c1:=S 1 _ rfl;have c2:=S 2 _ rfl;have c3:=S 3 _ rfl;have c4:=S 4 _ rfl;have Q:=S 5 _ rfl;simp only[ara]at c0;clear S;have LD:=dg.out _ (arc G);have fj:=HZ.out _ (arc G);generalize al:j7 before base year (pre j r k) y=l0 at B1;have Z:=aq6 al;clear al;obtain⟨r1,r2⟩:=B1;by_cases R:j[k].bX=(r:Int)
     rotate_left
     ·have ap:(j[k].bX==(r:Int))=false:=(by simpa using R);have av:(j[k].bX !=(r:Int))=true:=(by simpa using R);have D:=aq6 (ajR j r k G R);clear R;go_wp2;go_roundw
      case rel=>exact⟨k+1,by omega,by go_num,by rw[D.out,Z.out],by rw[D.out];exact E,F⟩
      case measure=>simp[intOf];omega
     have ap:(j[k].bX==(r:Int))=true:=(by simpa using R);have av:(j[k].bX !=(r:Int))=false:=(by simpa using R);have D:=aq6 (ajS j r k G R);clear R;by_cases DI:j[k].before=before;rotate_left
     ·have Yb:(j[k].before==before)=false:=(by simpa using DI);have u:=aq6 (Ql (P:=pre j r k) Z.out (aci (base:=base) (year:=year) (l0:=l0) DI));clear DI;go_wp2;go_roundw
      case rel=>exact⟨k+1,by omega,by go_num,by rw[D.out,u.out.2],by rw[D.out,u.out.1];exact E,F⟩
      case measure=>simp[intOf];omega
     ·have Yb:(j[k].before==before)=true:=(by simpa using DI);have Qm:=aq6 DI;clear DI;obtain⟨t1,t2⟩:=Jt.out j[k].code;obtain⟨q1,q2⟩:=Yc (taken:=mU year j[k].code) LD a1 a2;go_wp2_with fail;have LF:=iV.aa F;have e0:=Bw.cell (w:=wr) (a:=⟨b,B+k*6,none⟩) (by exact J) c0;have e1:=Bw.cell (w:=wr) (a:=⟨b,B+k*6+1,none⟩) (by exact J) c1;have e2:=Bw.cell (w:=wr) (a:=⟨b,B+k*6+2,none⟩) (by exact J) c2;have e3:=Bw.cell (w:=wr) (a:=⟨b,B+k*6+3,none⟩) (by exact J) c3;have e4:=Bw.cell (w:=wr) (a:=⟨b,B+k*6+4,none⟩) (by exact J) c4;have e5:=Bw.cell (w:=wr) (a:=⟨b,B+k*6+5,none⟩) (by exact J) Q;refine pE (by kernel_rfl) (by kernel_rfl) ?_
      repeat(first|go_big_quiet_step((first|exact Bw.zt _ (adM Y Ii year _ _ _ (LF.aa (Bw.h _)) (by omega))|exact Bw.call _ (adQ j[k] base (mU year j[k].code) _ fj LD a1 a2 t1 t2)))|quiet_step((first|exact Bw.zt _ (adM Y Ii year _ _ _ (LF.aa (Bw.h _)) (by omega))|exact Bw.call _ (adQ j[k] base (mU year j[k].code) _ fj LD a1 a2 t1 t2))))
      refine wpQuiet_nil ?_;intro W2 ax;obtain⟨⟨W9,I⟩,am⟩:=ax;subst am;have Ou:=E.aa I;have JJ:=aB F I;have z0:=(I.cell (p:=⟨b,B+k*6,none⟩) J).trans c0;have aE:b<W2.heap.size:=arY J I.size;clear e0 e1 e2 e3 e4 e5 LF F E c0 c1 c2 c3 c4 Q I;generalize Qn:GG j[k] base (mU year j[k].code)=C at q1 q2|-;have Ye:=aq6 Qn;clear Qn;have HA:Hid (lW before base year j[k] l0=min C l0):=(by rw[Hid,lW,aq9 Qm.out,Ye.out]);have eF:min C l0<=l0:=(by omega);rcases(show min C l0=l0/\l0<C\/min C l0=C/\C<=l0 by omega)with⟨Ov,ay⟩|⟨Ov,ay⟩
      ·rw[Ov]at HA eF;by_cases iT:0<l0
       ·have u:=aq6 (Yf (P:=pre j r k) Z.out HA.out iT);have EN:=aq6 (Zu (tk before base year (pre j r k) y) ⟨j[k].code,l0⟩);generalize bB (tk before base year (pre j r k) y)=ms at Ou Ot ai EN;obtain⟨A5,Q,rfl,cX,oD,oF⟩:=Ou;go_wp2_with fail;refine(Up A5 Q ms ⟨j[k].code,l0⟩ _ cX oD oF (by omega) (fun x X=>by have:=Ot.out x X;omega) (by show _<=l0;omega) (by show l0<=_;omega)).mono ?_;rintro e w8 ⟨v8,rfl,cv,bR⟩;go_wp2;go_roundw
        case rel=>
         have M:∃k':Nat,k'<=j.length/\Value.int .i64 ((k:Int)+1)=.int .i64 k'/\Value.int .i64 (l0-l0)=.int .i64 (j7 before base year (pre j r k') y)/\ze w8 v8 (bB (tk before base year (pre j r k') y))/\Below O.heap.size O w8:=
          ⟨k+1,by omega,by go_num,by rw[D.out,u.out.2],by rw[D.out,u.out.1,EN.out];exact cv.Uo,aB JJ bR⟩
         first|exact M|(simp only[Int.sub_self]at M;exact M)|((repeat apply Exists.intro);exact⟨M,rfl⟩)
        case measure=>simp[intOf];omega
       ·have Bu:lW before base year j[k] l0=0:=(by rw[HA.out];omega);have u:=aq6 (Ql (P:=pre j r k) Z.out Bu);clear Bu;go_wp2;go_roundw
        case rel=>exact⟨k+1,by omega,by go_num,by rw[D.out,u.out.2];congr 1;omega,by rw[D.out,u.out.1];exact Ou,JJ⟩
        case measure=>simp[intOf];omega
      ·have aJ:¬l0<C:=(by omega);rw[Ov]at HA eF;by_cases iT:0<C
       ·have u:=aq6 (Yf (P:=pre j r k) Z.out HA.out iT);have EN:=aq6 (Zu (tk before base year (pre j r k) y) ⟨j[k].code,C⟩);generalize bB (tk before base year (pre j r k) y)=ms at Ou Ot ai EN;obtain⟨A5,Q,rfl,cX,oD,oF⟩:=Ou;go_wp2_with fail;refine(Up A5 Q ms ⟨j[k].code,C⟩ _ cX oD oF (by omega) (fun x X=>by have:=Ot.out x X;omega) (by show _<=C;omega) (by show C<=_;omega)).mono ?_;rintro e w8 ⟨v8,rfl,cv,bR⟩;go_wp2;go_roundw
        case rel=>
         have M:∃k':Nat,k'<=j.length/\Value.int .i64 ((k:Int)+1)=.int .i64 k'/\Value.int .i64 (l0-C)=.int .i64 (j7 before base year (pre j r k') y)/\ze w8 v8 (bB (tk before base year (pre j r k') y))/\Below O.heap.size O w8:=
          ⟨k+1,by omega,by go_num,by rw[D.out,u.out.2],by rw[D.out,u.out.1,EN.out];exact cv.Uo,aB JJ bR⟩
         first|exact M|(simp only[Int.sub_self]at M;exact M)|((repeat apply Exists.intro);exact⟨M,rfl⟩)
        case measure=>simp[intOf];omega
       ·have Bu:lW before base year j[k] l0=0:=(by rw[HA.out];omega);have u:=aq6 (Ql (P:=pre j r k) Z.out Bu);clear Bu;go_wp2;go_roundw
        case rel=>exact⟨k+1,by omega,by go_num,by rw[D.out,u.out.2];congr 1;omega,by rw[D.out,u.out.1];exact Ou,JJ⟩
        case measure=>simp[intOf];omega
    ·obtain rfl:k=j.length:=by omega
     have aO:decide ((j.length:Int)<(j.length:Int))=false:=(by simp);have aP:decide (j.length<j.length)=false:=(by simp);rw[ajT]at E|-;go_wp2_with fail;go_roundw
     case rel=>exact⟨r+1,by omega,by go_num,rfl,E,F⟩
     case measure=>simp[intOf];omega
  ·obtain rfl:r=100:=by omega
   rw[ajU]at E|-;obtain⟨A5,Q,rfl,cX,oD,oF⟩:=E;have X:decide ((100:Int)<=99)=false:=(by decide);go_wp2;go_ret2;rw[HE.out,HR.out];exact⟨A5,Q,rfl,cX,oD,oF,aB T F⟩
structure dN where
 Aw:Option Addr
 cw:Nat
 ws:List cI
 As:Option Addr
 cs:Nat
 ss:List cm
 tm:iD
 count:Int
 sh:kL
 recover:Int
def dN.t(m:dN):pF:=⟨m.ws,m.ss,m.tm.t,m.count,m.sh,m.recover⟩
def dN.val(m:dN):Value:=.agg #[.slice m.Aw m.ws.length m.cw,.slice m.As m.ss.length m.cs,.int .i64 m.tm.t.method,.slice m.tm.Ab m.tm.t.aA.length m.tm.cb,.int .i64 m.tm.t.bg,.int .i64 m.tm.t.bh,.int .i64 m.tm.t.unit,.int .i64 m.tm.t.mode,.slice m.tm.Ar m.tm.t.rows.length m.tm.cr,.int .i64 m.count,.int .i64 m.sh.fixed,.int .i64 m.sh.bE,.int .i64 m.sh.lower,.int .i64 m.sh.share,.int .i64 m.sh.top,.int .i64 m.recover]
structure dN.In(m:dN)(w:World):Prop where
 ws:aj gu 6 w w.heap.size m.Aw m.ws
 ss:aj EO 8 w w.heap.size m.As m.ss
 tm:m.tm.In w
theorem dN.In.aa{m:dN}{w w':World}(h:m.In w)(e:Below w.heap.size w w'):m.In w':=⟨h.ws.aa e,h.ss.aa e,h.tm.aa e⟩
structure iL where
 deps:Int
 Ad:Option Addr
 cd:Nat
 ds:List bK
 Ao:Option Addr
 co:Nat
 os:List eP
 Ae:Option Addr
 ce:Nat
 es:List cM
def iL.t(m:iL):Uj:=⟨m.deps,m.ds,m.os,m.es.map cM.v⟩
def iL.val(m:iL):Value:=.agg #[.int .i64 m.deps,.slice m.Ad m.ds.length m.cd,.slice m.Ao m.os.length m.co,.slice m.Ae m.es.length m.ce]
structure iL.In(m:iL)(w:World):Prop where
 ds:aj j6 6 w w.heap.size m.Ad m.ds
 os:aj Iu 5 w w.heap.size m.Ao m.os
 es:aj AL 2 w w.heap.size m.Ae m.es
 ins:∀e∈m.es,aj encI 1 w w.heap.size e.A e.l
theorem iL.In.aa{m:iL}{w w':World}(h:m.In w)(j:Below w.heap.size w w'):m.In w':=⟨h.ds.aa j,h.os.aa j,h.es.aa j,fun e l=>(h.ins e l).aa j⟩
structure dR where
 ay:Int
 aw:Int
 aO:Int
 Ai:Option Addr
 ci:Nat
 ins:List Int
 At:Option Addr
 ct:Nat
 taken:List Elem
def dR.t(m:dR):Bv:=⟨m.ay,m.aw,m.aO,m.ins,m.taken⟩
def dR.val(m:dR):Value:=.agg #[.int .i64 m.ay,.int .i64 m.aw,.int .i64 m.aO,.slice m.Ai m.ins.length m.ci,.slice m.At m.taken.length m.ct]
structure dR.In(m:dR)(w:World):Prop where
 ins:aj encI 1 w w.heap.size m.Ai m.ins
 taken:aj aN 2 w w.heap.size m.At m.taken
theorem dR.In.aa{m:dR}{w w':World}(h:m.In w)(e:Below w.heap.size w w'):m.In w':=⟨h.ins.aa e,h.taken.aa e⟩
theorem ajV(n m:Int)(w:World):Calls prog 175 #[.int .i64 n,.int .i64 m] w fun e w'=>e=.returned (.bool (bG n m))/\w=w':=by
 by_cases l:0<=n<;>by_cases p:n<=m
 all_goals
  have j:bG n m=(decide (0<=n)&&decide (n<=m)):=by simp[bG]
  have r:=aq6 j;clear j;go_enter func175,ntmps175;go_wp2;go_ret;exact⟨by rw[r.out];simp[l,p],rfl⟩
theorem Mb{n m:Int}(j:0<=n)(l:n<=m)(w:World):Calls prog 175 #[.int .i64 n,.int .i64 m] w fun e w'=>e=.returned (.bool true)/\w=w':=by
 have:=ajV n m w
 rwa [gT.2 ⟨j,l⟩]at this
theorem IM{e:List cI}(h:jV e=true):e.length<=64/\∀x∈e,x.code.size<=maxLen:=by simp only[jV,arw,arz]at h;refine⟨h.1,fun x l=>?_⟩;obtain⟨i,hi,rfl⟩:=arN.1 l;have j:=h.2 i hi;simp only[mJ,arw]at j;exact GW j.1.1.1.1
theorem ajW(m:dN)(w:World)(h:m.In w)(z:CC m.t):Calls prog 122 #[m.val] w fun e w'=>e=.returned (.bool true)/\Below w.heap.size w w':=by
 have HR:=aq6 z;have hv:jV m.ws=true:=z.cN;obtain⟨j5,IV⟩:=IM hv;have kg:m.ss.length<=12:=z.CK;have D:1<=m.count:=z.c0;have c1:m.count<=53:=z.c1;have v0:0<=m.recover:=z.v0;have v1:m.recover<=1000000:=z.v1;have HW:Hid (∀W,Below w.heap.size w W->Calls prog 130 #[.slice m.Aw m.ws.length m.cw] W fun e w'=>e=.returned (.bool true)/\Below W.heap.size W w'):=fun W l=>by
  have:=adS m.Aw m.cw m.ws W (h.ws.aa l) IV (by omega)
  rwa [hv]at this
 have HT:Hid (∀W,Below w.heap.size w W->Calls prog 142 #[.agg #[.int .i64 m.tm.t.method,.slice m.tm.Ab m.tm.t.aA.length m.tm.cb,.int .i64 m.tm.t.bg,.int .i64 m.tm.t.bh,.int .i64 m.tm.t.unit,.int .i64 m.tm.t.mode,.slice m.tm.Ar m.tm.t.rows.length m.tm.cr]] W fun e w'=>e=.returned (.bool true)/\Below W.heap.size W w'):=fun W l=>U7 m.tm W (h.tm.aa l) z.je;have HS:Hid (∀W,Calls prog 147 #[.agg #[.int .i64 m.sh.fixed,.int .i64 m.sh.bE,.int .i64 m.sh.lower,.int .i64 m.sh.share,.int .i64 m.sh.top]] W fun e w'=>e=.returned (.bool true)/\Below W.heap.size W w'):=fun W=>Ur m.sh W z.sh;clear z hv IV;unfold dN.val;go_enter func122,ntmps122;have hB:=ah.new w 45 #[.slice m.Aw m.ws.length m.cw,.slice m.As m.ss.length m.cs,.int .i64 m.tm.t.method,.slice m.tm.Ab m.tm.t.aA.length m.tm.cb,.int .i64 m.tm.t.bg,.int .i64 m.tm.t.bh,.int .i64 m.tm.t.unit,.int .i64 m.tm.t.mode,.slice m.tm.Ar m.tm.t.rows.length m.tm.cr,.int .i64 m.count,.int .i64 m.sh.fixed,.int .i64 m.sh.bE,.int .i64 m.sh.lower,.int .i64 m.sh.share,.int .i64 m.sh.top,.int .i64 m.recover];have ae:=bF w (.cells #[.slice m.Aw m.ws.length m.cw,.slice m.As m.ss.length m.cs,.int .i64 m.tm.t.method,.slice m.tm.Ab m.tm.t.aA.length m.tm.cb,.int .i64 m.tm.t.bg,.int .i64 m.tm.t.bh,.int .i64 m.tm.t.unit,.int .i64 m.tm.t.mode,.slice m.tm.Ar m.tm.t.rows.length m.tm.cr,.int .i64 m.count,.int .i64 m.sh.fixed,.int .i64 m.sh.bE,.int .i64 m.sh.lower,.int .i64 m.sh.share,.int .i64 m.sh.top,.int .i64 m.recover] 45);go_upto_region 1 with fail
 generalize w.alloc (Obj.cells _ _)=W at hB ae|-;obtain⟨E,r,F,G,I,J,K,L,M,N,O,P,p,Q,R,S⟩:=hB.cz16;go_wp2_with fail;refine(HW.out _ ae).mono ?_;rintro e w1 ⟨rfl,T⟩;have ai:=hB.aa T;have aT:=aB ae T;clear hB ae T E r F G I J K L M N O P p Q R S;obtain⟨E,r,F,G,I,J,K,L,M,N,O,P,p,Q,R,S⟩:=ai.cz16;go_wp2_with fail;refine(HT.out _ aT).mono ?_;rintro e w2 ⟨rfl,B⟩;have aD:=ai.aa B;have bu:=aB aT B;clear ai aT B E r F G I J K L M N O P p Q R S;obtain⟨E,r,F,G,I,J,K,L,M,N,O,P,p,Q,R,S⟩:=aD.cz16;go_wp2_with fail;refine(HS.out _).mono ?_;rintro e w3 ⟨rfl,U⟩;have bz:=aD.aa U;have cW:=aB bu U;clear aD bu U E r F G I J K L M N O P p Q R S;obtain⟨E,r,F,G,I,J,K,L,M,N,O,P,p,Q,R,S⟩:=bz.cz16;go_wp2_with fail;refine(Mb v0 v1 _).mono ?_;rintro e w' ⟨rfl,rfl⟩;clear E r F G I J K L M N O P p Q R S;have ab:=h.ss.aa cW;go_wp2_with fail
 go_loopw [3] (fun i wr=>∃k:Nat,k<=m.ss.length/\i=.int .i64 k/\Below w3.heap.size w3 wr) (fun i _=>m.ss.length-(intOf i).toNat)
 case atStart=>exact⟨0,by omega,rfl,arb _ _⟩
 case round=>
  obtain⟨k,hk,rfl,u⟩:=hrel;have dc:=bz.aa u;have Q1:=dc.lt;have r:=dc.cell 1;simp only[ak,aq,ar]at r;by_cases V:k<m.ss.length
  ·obtain⟨b,j,hA,l,C⟩:=(ab.aa u).at_ V;have D:=C 0 _ rfl;have c1:=C 1 _ rfl;have c2:=C 2 _ rfl;have c3:=C 3 _ rfl;have c4:=C 4 _ rfl;have c5:=C 5 _ rfl;have c6:=C 6 _ rfl;have c7:=C 7 _ rfl;simp only[ara]at D;have gK:(k:Int)<(m.ss.length:Int):=(by omega);clear C;have Ow:=aq6 (fun W=>abS m.ss[k] W (HR.out.nO _ (arc V)));unfold Dy at Ow;rw[hA]at r;rcases k with _|n
   ·have fM:(0:Int)<(m.ss.length:Int):=(by omega);simp only[arT,ara]at D c1 c2 c3 c4 c5 c6 c7;have q0:=Bw.cell (w:=wr) (a:=⟨b,j,none⟩) (by exact l) D;have q1:=Bw.cell (w:=wr) (a:=⟨b,j+1,none⟩) (by exact l) c1;have q2:=Bw.cell (w:=wr) (a:=⟨b,j+2,none⟩) (by exact l) c2;have q3:=Bw.cell (w:=wr) (a:=⟨b,j+3,none⟩) (by exact l) c3;have q4:=Bw.cell (w:=wr) (a:=⟨b,j+4,none⟩) (by exact l) c4;have q5:=Bw.cell (w:=wr) (a:=⟨b,j+5,none⟩) (by exact l) c5;have q6:=Bw.cell (w:=wr) (a:=⟨b,j+6,none⟩) (by exact l) c6;have q7:=Bw.cell (w:=wr) (a:=⟨b,j+7,none⟩) (by exact l) c7;have e1:=Bw.cell (w:=wr) (a:=⟨w.heap.size,1,none⟩) (by exact Q1) r;go_upto_region 6 with fail
    clear r D c1 c2 c3 c4 c5 c6 c7;refine pE (by kernel_rfl) (by kernel_rfl) ?_
    repeat(first|go_big_quiet_step(exact Bw.call _ (Ow.out _)))
    refine wpQuiet_nil ?_;intro W2 X;obtain⟨⟨W9,Y⟩,y⟩:=X;subst y;have Z:Below w3.heap.size w3 W2:=aB u Y;go_wp2;go_roundw
    case rel=>exact⟨0+1,by omega,by go_num,Z⟩
    case measure=>simp[intOf];omega
   ·have lK:n<m.ss.length:=(by omega);obtain⟨b2,FH,cS,B,ad⟩:=(ab.aa u).at_ lK;rw[hA]at cS;injection cS with cS
    injection cS with cS fQ
    subst cS fQ;have p0:=ad 0 _ rfl;simp only[ara]at p0;clear ad;have B9:=arZ.1 HR.out.lh n (n+1) lK V (by omega);have af:Op.bytesLess m.ss[n].code.toList m.ss[n+1].code.toList=true:=B9;clear B9;have Ca:(n:Int)<(m.ss.length:Int):=(by omega);have Mc:(n:Int)+1<(m.ss.length:Int):=(by omega);have hp:decide ((0:Int)<(n:Int)+1)=true:=(by rw[arz];omega);have q0:=Bw.cell (w:=wr) (a:=⟨b,j+(n+1)*8,none⟩) (by exact l) D;have q1:=Bw.cell (w:=wr) (a:=⟨b,j+(n+1)*8+1,none⟩) (by exact l) c1;have q2:=Bw.cell (w:=wr) (a:=⟨b,j+(n+1)*8+2,none⟩) (by exact l) c2;have q3:=Bw.cell (w:=wr) (a:=⟨b,j+(n+1)*8+3,none⟩) (by exact l) c3;have q4:=Bw.cell (w:=wr) (a:=⟨b,j+(n+1)*8+4,none⟩) (by exact l) c4;have q5:=Bw.cell (w:=wr) (a:=⟨b,j+(n+1)*8+5,none⟩) (by exact l) c5;have q6:=Bw.cell (w:=wr) (a:=⟨b,j+(n+1)*8+6,none⟩) (by exact l) c6;have q7:=Bw.cell (w:=wr) (a:=⟨b,j+(n+1)*8+7,none⟩) (by exact l) c7;have e1:=Bw.cell (w:=wr) (a:=⟨w.heap.size,1,none⟩) (by exact Q1) r;have q9:=Bw.cell (w:=wr) (a:=⟨b,j+n*8,none⟩) (by exact l) p0;clear p0;go_upto_region 6 with fail
    clear r D c1 c2 c3 c4 c5 c6 c7;refine pE (by kernel_rfl) (by kernel_rfl) ?_
    repeat(first|go_big_quiet_step(exact Bw.call _ (Ow.out _)))
    refine wpQuiet_nil ?_;intro W2 X;obtain⟨⟨W9,Y⟩,y⟩:=X;subst y;have Z:Below w3.heap.size w3 W2:=aB u Y;go_wp2;go_roundw
    case rel=>exact⟨n+1+1,by omega,by go_num,Z⟩
    case measure=>simp[intOf];omega
  ·go_wp2;go_ret;exact⟨rfl,aB cW u⟩
