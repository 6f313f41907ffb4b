/- Conditions: as stated. -/
import Derived.Test.YtlhkojcmcmkmaaaGreatCAlc
import Derived.Test.YtlhkojcmcmkmaaaGreatCNetS
set_option maxRecDepth 100000
set_option maxHeartbeats 4000000
namespace Go.Proofs.YtlhkojcmcmkmaaaGreat
open Go.Proofs.Tryz
open Go.RowKit
theorem ae9(e:List bN)(i:Nat)(x:bN)(l:Bool)(j:i=0\/(∃p,e[i-1]?=some p/\l=Op.bytesLess p.code.toList x.code.toList)):
  l7 e i x=decide (bI x.code=true/\(i=0\/l=true)/\0<=x.aT/\x.aT<=99/\0<=x.amount/\x.amount<=1000000000/\0<=x.cap/\x.cap<=1000000000/\0<=x.cB/\x.cB<=1000000):=by
 rw[Bool.eq_iff_iff];rcases j with rfl|⟨p,n,rfl⟩
 ·simp[l7,BD,bM,and_assoc]
 ·simp[l7,BD,bM,n,and_assoc]
theorem afa(e:List Elem)(i:Nat)(x:Elem)(l:Bool)(j:i=0\/(∃p,e[i-1]?=some p/\l=Op.bytesLess p.code.toList x.code.toList)):
  mV e i x=decide (bI x.code=true/\(i=0\/l=true)/\0<=x.amount/\x.amount<=1000000000000):=by
 rw[Bool.eq_iff_iff];rcases j with rfl|⟨p,n,rfl⟩
 ·simp[mV,BD,bM]
 ·simp[mV,BD,bM,n,and_assoc]
theorem aaB(A:Option Addr)(K:Nat)(l:List bN)(w:World)(h:ai jH 6 w w.heap.size A l)(P:∀x∈l,x.code.size<=maxLen)(T:l.length<=9223372036854775807):
    Calls prog 156 #[.slice A l.length K] w fun e w'=>e=.returned (.bool (gF l))/\Below w.heap.size w w':=by
  have U:=atM P;clear P;by_cases u:16<l.length
  · have V:Hid (gF l=false):=Wk u
    go_enter func156,ntmps156;go_wp2;go_ret;exact⟨by rw[V.out];rfl,atS _ _⟩
  · have X:l.length<=16:=by omega
    clear u T;go_enter func156,ntmps156;go_wp2
    go_loopw [10] (fun i wr=>∃k:Nat,k<=l.length/\i=.int .i64 k/\Hid (∀j,(y:j<l.length)->j<k->l7 l j l[j]=true)/\Below w.heap.size w wr) (fun i _=>l.length-(intOf i).toNat)
    case atStart=>exact⟨0,by omega,rfl,fun j _ y=>absurd y (by omega),atS _ _⟩
    case round=>
      obtain⟨k,hk,rfl,n,p⟩:=hrel;by_cases z:k<l.length
      · obtain⟨b,off,rfl,hb,B⟩:=(h.below p).at_ z
        have Y:=B 0 _ rfl;have c1:=B 1 _ rfl;have c2:=B 2 _ rfl;have c3:=B 3 _ rfl;have c4:=B 4 _ rfl;have c5:=B 5 _ rfl;simp only[atQ]at Y;have Q:=U.out _ (atT z);have C:=p.size;have J:Hid (l7 l k l[k]=false->gF l=false):=Wl z;clear B;have R:Below w.heap.size w (wr.alloc (.cells (jH l[k]).toArray 166)):=p.alloc C _;rcases at6 0 k with fK|fK;rotate_left
        · have E:=ae9 l k l[k] true (.inl (by omega))
          have Z:decide ((0:Int)<(k:Int))=false:=(by simp;omega);have ab:decide (0<k)=false:=(by simp;omega);have F:=atM E;clear E;go_wp2_with(go_at_call 82;refine(AA _ _ Q).mono ?_;rintro e w' ⟨rfl,rfl⟩)
          · have r:(!bI l[k].code)=true:=by assumption
            go_ret;exact⟨by rw[J.out (by simp at r;simp[l7,r])];rfl,R⟩
          · have r:(!bI l[k].code)=false:=by assumption
            go_quiet(fail);go_wp2
            all_goals first
              |(
                 go_ret;refine⟨?_,below_drewN (p.alloc C _) _⟩;have L:l7 l (k) l[k]=false:=by
                   go_light
                   rw[F.out];apply auO;rintro⟨h1,M,h3,h4,h5,h6,h7,h8,h9,N⟩
                   first|omega|(simp_all;done)|(simp_all;omega)
                 rw[J.out L];rfl)
              |(
                 go_roundw
                 case rel=>
                   have G:∀j,(y:j<l.length)->j<k+1->l7 l j l[j]=true:=by
                     intro j y O;rcases at6 j (k)with h1|h1
                     · exact n.out j y h1
                     · obtain rfl:j=k:=by omega
                       go_light
                       rw[F.out];apply auL;refine⟨by simpa using r,by omega,?_,?_,?_,?_,?_,?_,?_,?_⟩
                       all_goals first|omega|(simp_all;done)|(simp_all;omega)
                   first|exact⟨k+1,by omega,by go_num,G,below_drewN (p.alloc C _) _⟩|((repeat apply Exists.intro);exact⟨⟨k+1,by omega,by go_num,G,below_drewN (p.alloc C _) _⟩,rfl⟩)
                 case measure=>simp[intOf];omega)
        · obtain⟨m,rfl⟩:∃m,k=m+1:=⟨k-1,by omega⟩
          obtain⟨b',S,D,ad,I⟩:=(h.below p).at_ (show m<l.length by omega);injection D with D
          injection D with h1 M
          subst h1 M;have p0:=I 0 _ rfl;simp only[atQ]at p0;have E:=ae9 l (m+1) l[m+1] _ (.inr ⟨l[m],by simp,rfl⟩);have F:=atM E;have Js:b<wr.heap.size:=(by omega);clear I E;go_wp2_with(go_at_call 82;refine(AA _ _ Q).mono ?_;rintro e w' ⟨rfl,rfl⟩)
          · have r:(!bI l[m+1].code)=true:=by assumption
            go_ret;exact⟨by rw[J.out (by simp at r;simp[l7,r])];rfl,R⟩
          · have r:(!bI l[m+1].code)=false:=by assumption
            go_quiet(fail);go_wp2
            all_goals first
              |(
                 go_ret;refine⟨?_,below_drewN (p.alloc C _) _⟩;have L:l7 l (m+1) l[m+1]=false:=by
                   go_light
                   rw[F.out];apply auO;rintro⟨h1,M,h3,h4,h5,h6,h7,h8,h9,N⟩
                   first|omega|(simp_all;done)|(simp_all;omega)
                 rw[J.out L];rfl)
              |(
                 go_roundw
                 case rel=>
                   have G:∀j,(y:j<l.length)->j<m+1+1->l7 l j l[j]=true:=by
                     intro j y O;rcases at6 j (m+1)with h1|h1
                     · exact n.out j y h1
                     · obtain rfl:j=m+1:=by omega
                       go_light
                       rw[F.out];apply auL;refine⟨by simpa using r,.inr (by simp_all),?_,?_,?_,?_,?_,?_,?_,?_⟩
                       all_goals first|omega|(simp_all;done)|(simp_all;omega)
                   first|exact⟨m+1+1,by omega,by go_num,G,below_drewN (p.alloc C _) _⟩|((repeat apply Exists.intro);exact⟨⟨m+1+1,by omega,by go_num,G,below_drewN (p.alloc C _) _⟩,rfl⟩)
                 case measure=>simp[intOf];omega)
      · go_wp2
        go_ret;have hv:gF l=true:=Wm X (fun i hi=>n.out i hi (by omega));exact⟨by rw[hv];rfl,p⟩
theorem U1(A:Option Addr)(J:Nat)(l:List Elem)(w:World)(h:ai aN 2 w w.heap.size A l)(O:∀x∈l,x.code.size<=maxLen)(S:l.length<=9223372036854775807):
    Calls prog 69 #[.slice A l.length J] w fun e w'=>e=.returned (.bool (fE l))/\Below w.heap.size w w':=by
  have T:=atM O;clear O;by_cases u:128<l.length
  · have U:Hid (fE l=false):=Wk u
    go_enter func69,ntmps69;go_wp2;go_ret;exact⟨by rw[U.out];rfl,atS _ _⟩
  · have V:l.length<=128:=by omega
    clear u S;go_enter func69,ntmps69;go_wp2
    go_loopw [10] (fun i wr=>∃k:Nat,k<=l.length/\i=.int .i64 k/\Hid (∀j,(y:j<l.length)->j<k->mV l j l[j]=true)/\Below w.heap.size w wr) (fun i _=>l.length-(intOf i).toNat)
    case atStart=>exact⟨0,by omega,rfl,fun j _ y=>absurd y (by omega),atS _ _⟩
    case round=>
      obtain⟨k,hk,rfl,n,p⟩:=hrel;by_cases z:k<l.length
      · obtain⟨b,off,rfl,hb,K⟩:=(h.below p).at_ z
        have X:=K 0 _ rfl;have c1:=K 1 _ rfl;simp only[atQ]at X;have P:=T.out _ (atT z);have B:=p.size;have I:Hid (mV l k l[k]=false->fE l=false):=Wl z;clear K;have Q:Below w.heap.size w (wr.alloc (.cells (aN l[k]).toArray 69)):=p.alloc B _;rcases at6 0 k with fK|fK;rotate_left
        · have D:=afa l k l[k] true (.inl (by omega))
          have Y:decide ((0:Int)<(k:Int))=false:=(by simp;omega);have Z:decide (0<k)=false:=(by simp;omega);have E:=atM D;clear D;go_wp2_with(go_at_call 82;refine(AA _ _ P).mono ?_;rintro e w' ⟨rfl,rfl⟩)
          · have r:(!bI l[k].code)=true:=by assumption
            go_ret;exact⟨by rw[I.out (by simp at r;simp[mV,r])];rfl,Q⟩
          · have r:(!bI l[k].code)=false:=by assumption
            go_quiet(fail);go_wp2
            all_goals first
              |(
                 go_ret;refine⟨?_,below_drewN (p.alloc B _) _⟩;have L:mV l (k) l[k]=false:=by
                   go_light
                   rw[E.out];apply auO;rintro⟨h1,M,h3,h4⟩
                   first|omega|(simp_all;done)|(simp_all;omega)
                 rw[I.out L];rfl)
              |(
                 go_roundw
                 case rel=>
                   have F:∀j,(y:j<l.length)->j<k+1->mV l j l[j]=true:=by
                     intro j y N;rcases at6 j (k)with h1|h1
                     · exact n.out j y h1
                     · obtain rfl:j=k:=by omega
                       go_light
                       rw[E.out];apply auL;refine⟨by simpa using r,by omega,?_,?_⟩
                       all_goals first|omega|(simp_all;done)|(simp_all;omega)
                   first|exact⟨k+1,by omega,by go_num,F,below_drewN (p.alloc B _) _⟩|((repeat apply Exists.intro);exact⟨⟨k+1,by omega,by go_num,F,below_drewN (p.alloc B _) _⟩,rfl⟩)
                 case measure=>simp[intOf];omega)
        · obtain⟨m,rfl⟩:∃m,k=m+1:=⟨k-1,by omega⟩
          obtain⟨b',R,C,ab,G⟩:=(h.below p).at_ (show m<l.length by omega);injection C with C
          injection C with h1 M
          subst h1 M;have p0:=G 0 _ rfl;simp only[atQ]at p0;have D:=afa l (m+1) l[m+1] _ (.inr ⟨l[m],by simp,rfl⟩);have E:=atM D;have Js:b<wr.heap.size:=(by omega);clear G D;go_wp2_with(go_at_call 82;refine(AA _ _ P).mono ?_;rintro e w' ⟨rfl,rfl⟩)
          · have r:(!bI l[m+1].code)=true:=by assumption
            go_ret;exact⟨by rw[I.out (by simp at r;simp[mV,r])];rfl,Q⟩
          · have r:(!bI l[m+1].code)=false:=by assumption
            go_quiet(fail);go_wp2
            all_goals first
              |(
                 go_ret;refine⟨?_,below_drewN (p.alloc B _) _⟩;have L:mV l (m+1) l[m+1]=false:=by
                   go_light
                   rw[E.out];apply auO;rintro⟨h1,M,h3,h4⟩
                   first|omega|(simp_all;done)|(simp_all;omega)
                 rw[I.out L];rfl)
              |(
                 go_roundw
                 case rel=>
                   have F:∀j,(y:j<l.length)->j<m+1+1->mV l j l[j]=true:=by
                     intro j y N;rcases at6 j (m+1)with h1|h1
                     · exact n.out j y h1
                     · obtain rfl:j=m+1:=by omega
                       go_light
                       rw[E.out];apply auL;refine⟨by simpa using r,.inr (by simp_all),?_,?_⟩
                       all_goals first|omega|(simp_all;done)|(simp_all;omega)
                   first|exact⟨m+1+1,by omega,by go_num,F,below_drewN (p.alloc B _) _⟩|((repeat apply Exists.intro);exact⟨⟨m+1+1,by omega,by go_num,F,below_drewN (p.alloc B _) _⟩,rfl⟩)
                 case measure=>simp[intOf];omega)
      · go_wp2
        go_ret;have hv:fE l=true:=Wm V (fun i hi=>n.out i hi (by omega));exact⟨by rw[hv];rfl,p⟩
theorem B3(n m:Int)(w:World):Calls prog 133 #[.int .i64 n,.int .i64 m] w fun e w'=>e=.returned (.bool (bM n m))/\w=w':=by
 by_cases l:0<=n<;>by_cases p:n<=m
 all_goals
  have j:bM n m=(decide (0<=n)&&decide (n<=m)):=by simp[bM]
  have r:=atM j;clear j;go_enter func133,ntmps133;go_wp2;go_ret;exact⟨by rw[r.out];simp[l,p],rfl⟩
theorem aaC(A:Option Addr)(U:Nat)(l:List bN)(w:World)(h:ai jH 6 w w.heap.size A l)(hz:∀x∈l,x.code.size<=maxLen)(hl:l.length<=9223372036854775807):
    Calls prog 132 #[.slice A l.length U] w fun e w'=>e=.returned (.bool (gF l))/\Below w.heap.size w w':=by
  have HZ:=atM hz;clear hz;by_cases B:16<l.length
  · have HV:Hid (gF l=false):=Wk B
    go_enter func132,ntmps132;go_wp2;go_ret;exact⟨by rw[HV.out];rfl,atS _ _⟩
  · have kT:l.length<=16:=by omega
    clear B hl;go_enter func132,ntmps132;go_wp2
    go_loopw [3] (fun i wr=>∃k:Nat,k<=l.length/\i=.int .i64 k/\Hid (∀j,(C:j<l.length)->j<k->l7 l j l[j]=true)/\Below w.heap.size w wr) (fun i _=>l.length-(intOf i).toNat)
    case atStart=>exact⟨0,by omega,rfl,fun j _ C=>absurd C (by omega),atS _ _⟩
    case round=>
      obtain⟨k,hk,rfl,u,M⟩:=hrel;by_cases E:k<l.length
      · obtain⟨b,off,rfl,hb,F⟩:=(h.below M).at_ E
        have V:=F 0 _ rfl;have c1:=F 1 _ rfl;have c2:=F 2 _ rfl;have c3:=F 3 _ rfl;have c4:=F 4 _ rfl;have c5:=F 5 _ rfl;simp only[atQ]at V;have S:=HZ.out _ (atT E);have br:=M.size;have fl:Hid (l7 l k l[k]=false->gF l=false):=Wl E;clear F;have Js:b<wr.heap.size:=(by omega);rcases at6 0 k with fK|fK
        · obtain⟨m,rfl⟩:∃m,k=m+1:=⟨k-1,by omega⟩
          obtain⟨b',ad,G,af,O⟩:=(h.below M).at_ (show m<l.length by omega);injection G with G
          injection G with h1 h2
          subst h1 h2;have X:=O 0 _ rfl;simp only[atQ]at X;have P:=atM (Wn bN.code l m l[m+1] (by omega));clear O;go_wp2_with fail;have I:(wr.alloc (Obj.cells #[.string l[m+1].code,.int .i64 l[m+1].aT,.bool l[m+1].before,.int .i64 l[m+1].amount,.int .i64 l[m+1].cB,.int .i64 l[m+1].cap] 166)).heap.size=wr.heap.size+1:=(by simp);have Q:Below w.heap.size w (wr.alloc (Obj.cells #[.string l[m+1].code,.int .i64 l[m+1].aT,.bool l[m+1].before,.int .i64 l[m+1].amount,.int .i64 l[m+1].cB,.int .i64 l[m+1].cap] 166)):=M.alloc br _;have n:=ah.new wr 166 #[.string l[m+1].code,.int .i64 l[m+1].aT,.bool l[m+1].before,.int .i64 l[m+1].amount,.int .i64 l[m+1].cB,.int .i64 l[m+1].cap];have Y:=(World.cell?_alloc_past (w:=wr) (Obj.cells #[.string l[m+1].code,.int .i64 l[m+1].aT,.bool l[m+1].before,.int .i64 l[m+1].amount,.int .i64 l[m+1].cB,.int .i64 l[m+1].cap] 166) b (off+m*6) Js).trans X;generalize wr.alloc (Obj.cells _ _)=W at I Q n Y|-;have Z:=atM I;have e0:=Bw.cell (w:=W) (a:=⟨wr.heap.size,0,none⟩) (by show wr.heap.size<W.heap.size;omega) (n.cell 0);have e1:=Bw.cell (w:=W) (a:=⟨wr.heap.size,1,none⟩) (by show wr.heap.size<W.heap.size;omega) (n.cell 1);have e3:=Bw.cell (w:=W) (a:=⟨wr.heap.size,3,none⟩) (by show wr.heap.size<W.heap.size;omega) (n.cell 3);have e5:=Bw.cell (w:=W) (a:=⟨wr.heap.size,5,none⟩) (by show wr.heap.size<W.heap.size;omega) (n.cell 5);have e4:=Bw.cell (w:=W) (a:=⟨wr.heap.size,4,none⟩) (by show wr.heap.size<W.heap.size;omega) (n.cell 4);have aj:=Bw.cell (w:=W) (a:=⟨b,off+m*6,none⟩) (by show b<W.heap.size;omega) Y;clear Y X;have CR:Hid (w.heap.size<=W.heap.size):=(by show w.heap.size<=W.heap.size;omega);clear I n V c1 c2 c3 c4 c5;have J:((bI l[m+1].code)=false)\/((bI l[m+1].code)=true/\(Op.bytesLess l[m].code.toList l[m+1].code.toList)=false)\/((bI l[m+1].code)=true/\(Op.bytesLess l[m].code.toList l[m+1].code.toList)=true/\(bM l[m+1].aT 99)=false)\/((bI l[m+1].code)=true/\(Op.bytesLess l[m].code.toList l[m+1].code.toList)=true/\(bM l[m+1].aT 99)=true/\(bM l[m+1].amount 1000000000)=false)\/((bI l[m+1].code)=true/\(Op.bytesLess l[m].code.toList l[m+1].code.toList)=true/\(bM l[m+1].aT 99)=true/\(bM l[m+1].amount 1000000000)=true/\(bM l[m+1].cap 1000000000)=false)\/((bI l[m+1].code)=true/\(Op.bytesLess l[m].code.toList l[m+1].code.toList)=true/\(bM l[m+1].aT 99)=true/\(bM l[m+1].amount 1000000000)=true/\(bM l[m+1].cap 1000000000)=true/\(bM l[m+1].cB 1000000)=false)\/((bI l[m+1].code)=true/\(Op.bytesLess l[m].code.toList l[m+1].code.toList)=true/\(bM l[m+1].aT 99)=true/\(bM l[m+1].amount 1000000000)=true/\(bM l[m+1].cap 1000000000)=true/\(bM l[m+1].cB 1000000)=true):=by
            go_light
            generalize bI l[m+1].code=q0;generalize Op.bytesLess l[m].code.toList l[m+1].code.toList=q1;generalize bM l[m+1].aT 99=q2;generalize bM l[m+1].amount 1000000000=q3;generalize bM l[m+1].cap 1000000000=q4;generalize bM l[m+1].cB 1000000=q5;cases q0<;>cases q1<;>cases q2<;>cases q3<;>cases q4<;>cases q5<;>simp
          rcases J with r|⟨r,z⟩|⟨r,z,D⟩|⟨r,z,D,N⟩|⟨r,z,D,N,T⟩|⟨r,z,D,N,T,a5⟩|⟨r,z,D,N,T,a5⟩
          all_goals
            refine oG (by kernel_rfl) (by kernel_rfl) ?_
            repeat(first|go_big_quiet_step((first|exact Bw.call _ (BW _ _ S)|exact Bw.zX _ (B3 _ _ _)))|quiet_step((first|exact Bw.call _ (BW _ _ S)|exact Bw.zX _ (B3 _ _ _))))
            refine wpQuiet_nil ?_;intro W2 K;obtain⟨⟨W9,L⟩,y⟩:=K;subst y;have p:Below w.heap.size w W2:=Q.trans (L.mono CR.out);go_wp2
            first
              |(
                 go_ret;refine⟨?_,p⟩;have hq:l7 l (m+1) l[m+1]=false:=by
                   go_light
                   simp only[l7,P.out];simp[*]
                 rw[fl.out hq];rfl)
              |(
                 go_roundw
                 case rel=>
                   have R:∀j,(C:j<l.length)->j<m+1+1->l7 l j l[j]=true:=by
                     intro j C ab;rcases at6 j (m+1)with h1|h1
                     · exact u.out j C h1
                     · obtain rfl:j=m+1:=by omega
                       go_light
                       simp only[l7,P.out];simp[*]
                   first|exact⟨m+1+1,by omega,by go_num,R,p⟩|((repeat apply Exists.intro);exact⟨⟨m+1+1,by omega,by go_num,R,p⟩,rfl⟩)
                 case measure=>simp[intOf];omega)
        · have P:Hid (BD bN.code l k l[k]=true):=by
            have e:k=0:=(by omega);unfold Hid BD;simp[e]
          have ak:decide ((0:Int)<(k:Int))=false:=(by simp;omega);have al:decide (0<k)=false:=(by simp;omega);go_wp2_with fail;have I:(wr.alloc (Obj.cells #[.string l[k].code,.int .i64 l[k].aT,.bool l[k].before,.int .i64 l[k].amount,.int .i64 l[k].cB,.int .i64 l[k].cap] 166)).heap.size=wr.heap.size+1:=(by simp);have Q:Below w.heap.size w (wr.alloc (Obj.cells #[.string l[k].code,.int .i64 l[k].aT,.bool l[k].before,.int .i64 l[k].amount,.int .i64 l[k].cB,.int .i64 l[k].cap] 166)):=M.alloc br _;have n:=ah.new wr 166 #[.string l[k].code,.int .i64 l[k].aT,.bool l[k].before,.int .i64 l[k].amount,.int .i64 l[k].cB,.int .i64 l[k].cap];generalize wr.alloc (Obj.cells _ _)=W at I Q n|-;have Z:=atM I;have e0:=Bw.cell (w:=W) (a:=⟨wr.heap.size,0,none⟩) (by show wr.heap.size<W.heap.size;omega) (n.cell 0);have e1:=Bw.cell (w:=W) (a:=⟨wr.heap.size,1,none⟩) (by show wr.heap.size<W.heap.size;omega) (n.cell 1);have e3:=Bw.cell (w:=W) (a:=⟨wr.heap.size,3,none⟩) (by show wr.heap.size<W.heap.size;omega) (n.cell 3);have e5:=Bw.cell (w:=W) (a:=⟨wr.heap.size,5,none⟩) (by show wr.heap.size<W.heap.size;omega) (n.cell 5);have e4:=Bw.cell (w:=W) (a:=⟨wr.heap.size,4,none⟩) (by show wr.heap.size<W.heap.size;omega) (n.cell 4);have CR:Hid (w.heap.size<=W.heap.size):=(by show w.heap.size<=W.heap.size;omega);clear I n V c1 c2 c3 c4 c5;have J:((bI l[k].code)=false)\/((bI l[k].code)=true/\(bM l[k].aT 99)=false)\/((bI l[k].code)=true/\(bM l[k].aT 99)=true/\(bM l[k].amount 1000000000)=false)\/((bI l[k].code)=true/\(bM l[k].aT 99)=true/\(bM l[k].amount 1000000000)=true/\(bM l[k].cap 1000000000)=false)\/((bI l[k].code)=true/\(bM l[k].aT 99)=true/\(bM l[k].amount 1000000000)=true/\(bM l[k].cap 1000000000)=true/\(bM l[k].cB 1000000)=false)\/((bI l[k].code)=true/\(bM l[k].aT 99)=true/\(bM l[k].amount 1000000000)=true/\(bM l[k].cap 1000000000)=true/\(bM l[k].cB 1000000)=true):=by
            go_light
            generalize bI l[k].code=q0;generalize bM l[k].aT 99=q1;generalize bM l[k].amount 1000000000=q2;generalize bM l[k].cap 1000000000=q3;generalize bM l[k].cB 1000000=q4;cases q0<;>cases q1<;>cases q2<;>cases q3<;>cases q4<;>simp
          rcases J with r|⟨r,z⟩|⟨r,z,D⟩|⟨r,z,D,N⟩|⟨r,z,D,N,T⟩|⟨r,z,D,N,T⟩
          all_goals
            refine oG (by kernel_rfl) (by kernel_rfl) ?_
            repeat(first|go_big_quiet_step((first|exact Bw.call _ (BW _ _ S)|exact Bw.zX _ (B3 _ _ _)))|quiet_step((first|exact Bw.call _ (BW _ _ S)|exact Bw.zX _ (B3 _ _ _))))
            refine wpQuiet_nil ?_;intro W2 K;obtain⟨⟨W9,L⟩,y⟩:=K;subst y;have p:Below w.heap.size w W2:=Q.trans (L.mono CR.out);go_wp2
            first
              |(
                 go_ret;refine⟨?_,p⟩;have hq:l7 l (k) l[k]=false:=by
                   go_light
                   simp only[l7,P.out];simp[*]
                 rw[fl.out hq];rfl)
              |(
                 go_roundw
                 case rel=>
                   have R:∀j,(C:j<l.length)->j<k+1->l7 l j l[j]=true:=by
                     intro j C ab;rcases at6 j (k)with h1|h1
                     · exact u.out j C h1
                     · obtain rfl:j=k:=by omega
                       go_light
                       simp only[l7,P.out];simp[*]
                   first|exact⟨k+1,by omega,by go_num,R,p⟩|((repeat apply Exists.intro);exact⟨⟨k+1,by omega,by go_num,R,p⟩,rfl⟩)
                 case measure=>simp[intOf];omega)
      · go_wp2
        go_ret;have hv:gF l=true:=Wm kT (fun i hi=>u.out i hi (by omega));exact⟨by rw[hv];rfl,M⟩
theorem VE(A:Option Addr)(P:Nat)(l:List Elem)(w:World)(h:ai aN 2 w w.heap.size A l)(hz:∀x∈l,x.code.size<=maxLen)(hl:l.length<=9223372036854775807):
    Calls prog 129 #[.slice A l.length P] w fun e w'=>e=.returned (.bool (fE l))/\Below w.heap.size w w':=by
  have HZ:=atM hz;clear hz;by_cases u:128<l.length
  · have HV:Hid (fE l=false):=Wk u
    go_enter func129,ntmps129;go_wp2;go_ret;exact⟨by rw[HV.out];rfl,atS _ _⟩
  · have kT:l.length<=128:=by omega
    clear u hl;go_enter func129,ntmps129;go_wp2
    go_loopw [3] (fun i wr=>∃k:Nat,k<=l.length/\i=.int .i64 k/\Hid (∀j,(y:j<l.length)->j<k->mV l j l[j]=true)/\Below w.heap.size w wr) (fun i _=>l.length-(intOf i).toNat)
    case atStart=>exact⟨0,by omega,rfl,fun j _ y=>absurd y (by omega),atS _ _⟩
    case round=>
      obtain⟨k,hk,rfl,p,F⟩:=hrel;by_cases z:k<l.length
      · obtain⟨b,off,rfl,hb,Q⟩:=(h.below F).at_ z
        have I:=Q 0 _ rfl;have M:=Q 1 _ rfl;simp only[atQ]at I;have N:=HZ.out _ (atT z);have br:=F.size;have fl:Hid (mV l k l[k]=false->fE l=false):=Wl z;clear Q;have Js:b<wr.heap.size:=(by omega);rcases at6 0 k with fK|fK
        · obtain⟨m,rfl⟩:∃m,k=m+1:=⟨k-1,by omega⟩
          obtain⟨b',ab,B,ad,J⟩:=(h.below F).at_ (show m<l.length by omega);injection B with B
          injection B with h1 h2
          subst h1 h2;have R:=J 0 _ rfl;simp only[atQ]at R;have K:=atM (Wn Elem.code l m l[m+1] (by omega));clear J;go_wp2_with fail;have e0:=Bw.cell (w:=wr) (a:=⟨b,off+(m+1)*2,none⟩) (by show b<wr.heap.size;omega) I;have e1:=Bw.cell (w:=wr) (a:=⟨b,off+(m+1)*2+1,none⟩) (by show b<wr.heap.size;omega) M;have af:=Bw.cell (w:=wr) (a:=⟨b,off+m*2,none⟩) (by show b<wr.heap.size;omega) R;clear R;have S:Hid (w.heap.size<=wr.heap.size):=br;have T:=F;clear I M;have C:((bI l[m+1].code)=false)\/((bI l[m+1].code)=true/\(Op.bytesLess l[m].code.toList l[m+1].code.toList)=false)\/((bI l[m+1].code)=true/\(Op.bytesLess l[m].code.toList l[m+1].code.toList)=true/\(bM l[m+1].amount 1000000000000)=false)\/((bI l[m+1].code)=true/\(Op.bytesLess l[m].code.toList l[m+1].code.toList)=true/\(bM l[m+1].amount 1000000000000)=true):=by
            go_light
            generalize bI l[m+1].code=U;generalize Op.bytesLess l[m].code.toList l[m+1].code.toList=V;generalize bM l[m+1].amount 1000000000000=q2;cases U<;>cases V<;>cases q2<;>simp
          rcases C with G|⟨G,O⟩|⟨G,O,a2⟩|⟨G,O,a2⟩
          all_goals
            refine oG (by kernel_rfl) (by kernel_rfl) ?_
            repeat(first|go_big_quiet_step((first|exact Bw.call _ (BW _ _ N)|exact Bw.zX _ (B3 _ _ _)))|quiet_step((first|exact Bw.call _ (BW _ _ N)|exact Bw.zX _ (B3 _ _ _))))
            refine wpQuiet_nil ?_;intro X D;obtain⟨⟨W9,E⟩,r⟩:=D;subst r;have n:Below w.heap.size w X:=T.trans (E.mono S.out);go_wp2
            first
              |(
                 go_ret;refine⟨?_,n⟩;have Y:mV l (m+1) l[m+1]=false:=by
                   go_light
                   simp only[mV,K.out];simp[*]
                 rw[fl.out Y];rfl)
              |(
                 go_roundw
                 case rel=>
                   have L:∀j,(y:j<l.length)->j<m+1+1->mV l j l[j]=true:=by
                     intro j y Z;rcases at6 j (m+1)with h1|h1
                     · exact p.out j y h1
                     · obtain rfl:j=m+1:=by omega
                       go_light
                       simp only[mV,K.out];simp[*]
                   first|exact⟨m+1+1,by omega,by go_num,L,n⟩|((repeat apply Exists.intro);exact⟨⟨m+1+1,by omega,by go_num,L,n⟩,rfl⟩)
                 case measure=>simp[intOf];omega)
        · have K:Hid (BD Elem.code l k l[k]=true):=by
            have e:k=0:=(by omega);unfold Hid BD;simp[e]
          have aj:decide ((0:Int)<(k:Int))=false:=(by simp;omega);have ak:decide (0<k)=false:=(by simp;omega);go_wp2_with fail;have e0:=Bw.cell (w:=wr) (a:=⟨b,off+(k)*2,none⟩) (by show b<wr.heap.size;omega) I;have e1:=Bw.cell (w:=wr) (a:=⟨b,off+(k)*2+1,none⟩) (by show b<wr.heap.size;omega) M;have S:Hid (w.heap.size<=wr.heap.size):=br;have T:=F;clear I M;have C:((bI l[k].code)=false)\/((bI l[k].code)=true/\(bM l[k].amount 1000000000000)=false)\/((bI l[k].code)=true/\(bM l[k].amount 1000000000000)=true):=by
            go_light
            generalize bI l[k].code=U;generalize bM l[k].amount 1000000000000=V;cases U<;>cases V<;>simp
          rcases C with G|⟨G,O⟩|⟨G,O⟩
          all_goals
            refine oG (by kernel_rfl) (by kernel_rfl) ?_
            repeat(first|go_big_quiet_step((first|exact Bw.call _ (BW _ _ N)|exact Bw.zX _ (B3 _ _ _)))|quiet_step((first|exact Bw.call _ (BW _ _ N)|exact Bw.zX _ (B3 _ _ _))))
            refine wpQuiet_nil ?_;intro X D;obtain⟨⟨W9,E⟩,r⟩:=D;subst r;have n:Below w.heap.size w X:=T.trans (E.mono S.out);go_wp2
            first
              |(
                 go_ret;refine⟨?_,n⟩;have Y:mV l (k) l[k]=false:=by
                   go_light
                   simp only[mV,K.out];simp[*]
                 rw[fl.out Y];rfl)
              |(
                 go_roundw
                 case rel=>
                   have L:∀j,(y:j<l.length)->j<k+1->mV l j l[j]=true:=by
                     intro j y Z;rcases at6 j (k)with h1|h1
                     · exact p.out j y h1
                     · obtain rfl:j=k:=by omega
                       go_light
                       simp only[mV,K.out];simp[*]
                   first|exact⟨k+1,by omega,by go_num,L,n⟩|((repeat apply Exists.intro);exact⟨⟨k+1,by omega,by go_num,L,n⟩,rfl⟩)
                 case measure=>simp[intOf];omega)
      · go_wp2
        go_ret;have hv:fE l=true:=Wm kT (fun i hi=>p.out i hi (by omega));exact⟨by rw[hv];rfl,F⟩
theorem afb{a b v:Int}(h:a=b):Ending.returned (.tuple #[.int .i64 a,.int .i64 v])=.returned (.tuple #[.int .i64 b,.int .i64 v]):=by rw[h]
theorem afc(A:Option Addr)(z:Nat)(n:List Elem)(c:ByteArray)(w:World)(h:ai aN 2 w w.heap.size A n)(J:n.length<=9223372036854775806):
  Calls prog 199 #[.slice A n.length z,.string c] w fun e w'=>e=.returned (.int .i64 (oh n c))/\Below w.heap.size w w':=by
 go_enter func199,ntmps199;go_wp2
 go_loopw [9] (fun i wr=>∃k:Nat,k<=n.length/\i=.int .i64 k/\Hid (∀j,(r:j<n.length)->j<k->(n[j].code.toList==c.toList)=false)/\Below w.heap.size w wr) (fun i _=>n.length-(intOf i).toNat)
 case atStart=>exact⟨0,by omega,rfl,fun j _ r=>absurd r (by omega),atS _ _⟩
 case round=>
  obtain⟨k,K,rfl,p,u⟩:=hrel;have E:=u.size;by_cases y:k<n.length
  ·obtain⟨b,off,rfl,L,B⟩:=(h.below u).at_ y;have F:=B 0 _ rfl;have M:=B 1 _ rfl;simp only[atQ]at F;clear B;by_cases C:(n[k].code.toList==c.toList)=true
   ·have D:=atM (afd y p.out C);go_wp2;go_ret;exact⟨by rw[D.out];rfl,u.alloc E _⟩
   ·have G:(n[k].code.toList==c.toList)=false:=(by simpa using C);clear C;go_wp2;go_roundw
    case rel=>
     refine⟨k+1,by omega,by go_num,fun j r I=>?_,u.alloc E _⟩;rcases at6 j k with h1|h1
     ·exact p.out j r h1
     ·obtain rfl:j=k:=by omega
      exact G
    case measure=>simp[intOf];omega
  ·have D:=atM (afe (l:=n) (c:=c) (fun j r=>p.out j r (by omega)));go_wp2;go_ret;exact⟨by rw[D.out];rfl,u⟩
theorem aff(A:Option Addr)(y:Nat)(n:List Elem)(c:ByteArray)(w:World)(B:Nat)(h:ai aN 2 w B A n)(I:n.length<=9223372036854775806):
  Calls prog 135 #[.slice A n.length y,.string c] w fun e w'=>e=.returned (.int .i64 (oh n c))/\w=w':=by
 go_enter func135,ntmps135;go_wp2
 go_loop [5] (fun i=>∃k:Nat,k<=n.length/\i=.int .i64 k/\Hid (∀j,(r:j<n.length)->j<k->(n[j].code.toList==c.toList)=false)) (fun i=>n.length-(intOf i).toNat)
 case atStart=>exact⟨0,by omega,rfl,fun j _ r=>absurd r (by omega)⟩
 case round=>
  obtain⟨k,J,rfl,p⟩:=hrel;by_cases u:k<n.length
  ·obtain⟨b,off,rfl,K,z⟩:=h.at_ u;have E:=z 0 _ rfl;have L:=z 1 _ rfl;simp only[atQ]at E;clear z;by_cases C:(n[k].code.toList==c.toList)=true
   ·have D:=atM (afd u p.out C);go_wp2;go_ret;exact⟨by rw[D.out];rfl,rfl⟩
   ·have F:(n[k].code.toList==c.toList)=false:=(by simpa using C);clear C;go_wp2;go_round
    case rel=>
     refine⟨k+1,by omega,by go_num,fun j r G=>?_⟩;rcases at6 j k with h1|h1
     ·exact p.out j r h1
     ·obtain rfl:j=k:=by omega
      exact F
    case measure=>simp[intOf];omega
  ·have D:=atM (afe (l:=n) (c:=c) (fun j r=>p.out j r (by omega)));go_wp2;go_ret;exact⟨by rw[D.out];rfl,rfl⟩
theorem ZU(e:List Elem)(k:Nat)(h:k<e.length):aB (e.take (k+1))=aB (e.take k)+e[k].amount:=by rw[aud h,afg];simp[aB]
theorem aaq(A:Option Addr)(p:Nat)(j:List Elem)(w:World)(B:Nat)(h:ai aN 2 w B A j)(K:j.length<=1000)(n:∀x∈j,0<=x.amount/\x.amount<=1000000000000):
  Calls prog 90 #[.slice A j.length p] w fun e w'=>e=.returned (.int .i64 (aB j))/\w=w':=by
 have u:=atM n;clear n;go_enter func90,ntmps90;go_wp2
 go_loop [3,4] (fun s i=>∃k:Nat,k<=j.length/\i=.int .i64 k/\s=.int .i64 (aB (j.take k))) (fun _ i=>j.length-(intOf i).toNat)
 case atStart=>exact⟨0,by omega,rfl,rfl⟩
 case round=>
  obtain⟨k,L,rfl,rfl⟩:=hrel;by_cases l:k<j.length
  ·obtain⟨b,off,rfl,M,y⟩:=h.at_ l;have N:=y 1 _ rfl;clear y;have z:=atM (ZU j k l);have C:=OM (j.take k) 1000000000000 (fun x n=>u.out x (auh n));have D:=u.out _ (atT l);obtain⟨E,F⟩:=D;obtain⟨G,r⟩:=C;have I:aB (j.take k)<=1000000000000000:=by
    have:(j.take k).length<=1000:=(by simp;omega);omega
   clear r;go_wp2;go_round
   case rel=>exact⟨k+1,by omega,by go_num,by rw[z.out]⟩
   case measure=>simp[intOf];omega
  ·have J:Hid (j.take k=j):=aut (by omega);go_wp2;go_ret;exact⟨by rw[J.out];rfl,rfl⟩
theorem afh{d:bN}{base taken p:Int}(e:GL d base taken=0)(j:gW base d.cB 1000000 1 4=p):KW d base taken=if 0<d.cap then min (min (d.amount+p) 1000000000) (max (d.cap-taken) 0)else min (d.amount+p) 1000000000:=by rw[KW,atP e,Io,PD,j]
theorem afi{d:bN}{base taken:Int}(h:gF [d]=false):GL d base taken=1:=by rw[GL,atP h]
theorem PE{d:bN}{base taken:Int}(h:gF [d]=true)(h2:bM base 1000000000=false\/bM taken 1000000000000=false):GL d base taken=2:=by
 rw[GL,atO (by simp[h])];rcases h2 with h2|h2
 ·rw[atP h2]
 ·rw[atP h2];split<;>rfl
theorem Wo{d:bN}{base taken:Int}(h:gF [d]=true)(e:bM base 1000000000=true)(j:bM taken 1000000000000=true):GL d base taken=0:=by rw[GL,atO (by simp[h]),atO (by simp[e]),atO (by simp[j])]
theorem KX{d:bN}{base taken:Int}(h:GL d base taken≠0):KW d base taken=0:=by rw[KW,atO h]
theorem alO(d:bN)(base taken:Int)(w:World)(J:d.code.size<=maxLen)(K:Kr taken):
  Calls prog 198 #[.agg #[.string d.code,.int .i64 d.aT,.bool d.before,.int .i64 d.amount,.int .i64 d.cB,.int .i64 d.cap],.int .i64 base,.int .i64 taken] w fun e w'=>e=.returned (.tuple #[.int .i64 (KW d base taken),.int .i64 (GL d base taken)])/\Below w.heap.size w w':=by
 obtain⟨t1,t2⟩:=K;go_enter func198,ntmps198;go_wp2_with fail;have D:=(ah.new w 166 #[.string d.code,.int .i64 d.aT,.bool d.before,.int .i64 d.amount,.int .i64 d.cB,.int .i64 d.cap]).alloc (.cells #[.string d.code,.int .i64 d.aT,.bool d.before,.int .i64 d.amount,.int .i64 d.cB,.int .i64 d.cap] 166);have hS:=ai.new GM (w.alloc (.cells #[.string d.code,.int .i64 d.aT,.bool d.before,.int .i64 d.amount,.int .i64 d.cB,.int .i64 d.cap] 166)) [d] #[.string d.code,.int .i64 d.aT,.bool d.before,.int .i64 d.amount,.int .i64 d.cB,.int .i64 d.cap] 166 rfl;rw[at2]at hS;refine(aaB _ 1 [d] _ (hS.more (by simp)) (by simpa using J) (by simp)).mono ?_;rintro e L ⟨rfl,r⟩;have u:Below w.heap.size w L:=aA (eP (eP (atS _ _) _) _) r;have y:=D.aa r;have T:=y.lt;obtain⟨U,V,X,Y,Z,z5⟩:=y.cz6;clear r D hS y;by_cases n:gF [d]=true
 ·have E:=Wp.1 n;by_cases F:0<=base
  ·by_cases G:base<=1000000000
   ·by_cases M:0<=taken
    ·by_cases N:taken<=1000000000000
     ·have z:=Wo n (iK.2 ⟨F,G⟩) (iK.2 ⟨M,N⟩);obtain⟨I,O,P,_,_⟩:=aaD E F G;obtain⟨_,_,_,a0,a1,c0,c1,_,_⟩:=E;have Q:=atM I;clear I;generalize B:gW base d.cB 1000000 1 4=p at O P;have R:=atM B;have S:=atM (afh z B);have j:=atM z;clear B z;go_wp2_with fail;refine(Wq _ _ _ _ _ _).mono ?_;rintro e w' ⟨rfl,q,rfl⟩;rw[Q.out,R.out];go_wp2
      all_goals go_ret2;refine⟨?_,below_drewN u q⟩;rw[S.out,j.out];exact afb (by first|omega|(simp_all;done)|(simp_all;omega))
     ·have j:=atM (PE (base:=base) n (.inr (Jt.2 (.inr (show 1000000000000<taken by omega)))));have l:=atM (KX (d:=d) (base:=base) (taken:=taken) (by rw[j.out];decide));go_wp2;go_ret2;exact⟨by rw[j.out,l.out];rfl,u⟩
    ·have j:=atM (PE (base:=base) n (.inr (Jt.2 (.inl (show taken<0 by omega)))));have l:=atM (KX (d:=d) (base:=base) (taken:=taken) (by rw[j.out];decide));go_wp2;go_ret2;exact⟨by rw[j.out,l.out];rfl,u⟩
   ·have j:=atM (PE (taken:=taken) n (.inl (Jt.2 (.inr (show 1000000000<base by omega)))));have l:=atM (KX (d:=d) (base:=base) (taken:=taken) (by rw[j.out];decide));go_wp2;go_ret2;exact⟨by rw[j.out,l.out];rfl,u⟩
  ·have j:=atM (PE (taken:=taken) n (.inl (Jt.2 (.inl (show base<0 by omega)))));have l:=atM (KX (d:=d) (base:=base) (taken:=taken) (by rw[j.out];decide));go_wp2;go_ret2;exact⟨by rw[j.out,l.out];rfl,u⟩
 ·have C:gF [d]=false:=by simpa using n
  have j:=atM (afi (base:=base) (taken:=taken) C);have l:=atM (KX (d:=d) (base:=base) (taken:=taken) (by rw[j.out];decide));clear n;go_wp2;go_ret2;exact⟨by rw[j.out,l.out];rfl,u⟩
theorem alP(d:bN)(base taken:Int)(w:World)(K:d.code.size<=maxLen)(L:Kr taken):
  Calls prog 134 #[.agg #[.string d.code,.int .i64 d.aT,.bool d.before,.int .i64 d.amount,.int .i64 d.cB,.int .i64 d.cap],.int .i64 base,.int .i64 taken] w fun e w'=>e=.returned (.tuple #[.int .i64 (KW d base taken),.int .i64 (GL d base taken)])/\Below w.heap.size w w':=by
 obtain⟨t1,t2⟩:=L;go_enter func134,ntmps134;go_wp2_with fail;have G:=(ah.new w 166 #[.string d.code,.int .i64 d.aT,.bool d.before,.int .i64 d.amount,.int .i64 d.cB,.int .i64 d.cap]).alloc (.cells #[.string d.code,.int .i64 d.aT,.bool d.before,.int .i64 d.amount,.int .i64 d.cB,.int .i64 d.cap] 166);have hS:=ai.new GM (w.alloc (.cells #[.string d.code,.int .i64 d.aT,.bool d.before,.int .i64 d.amount,.int .i64 d.cB,.int .i64 d.cap] 166)) [d] #[.string d.code,.int .i64 d.aT,.bool d.before,.int .i64 d.amount,.int .i64 d.cB,.int .i64 d.cap] 166 rfl;rw[at2]at hS;refine(aaC _ 1 [d] _ (hS.more (by simp)) (by simpa using K) (by simp)).mono ?_;rintro e M ⟨rfl,l⟩;have z:Below w.heap.size w M:=aA (eP (eP (atS _ _) _) _) l;have B:=G.aa l;have V:=B.lt;obtain⟨X,Y,Z,z3,z4,z5⟩:=B.cz6;clear l G hS B;by_cases n:gF [d]=true
 ·have I:=Wp.1 n;by_cases r:bM base 1000000000=true
  ·by_cases u:bM taken 1000000000000=true
   ·have C:=Wo n r u;have N:=Ws r;have O:=Wt r;have g3:=Ws u;have g4:=Wt u;obtain⟨J,P,Q,_,_⟩:=aaD I N O;obtain⟨_,_,_,a0,a1,c0,c1,_,_⟩:=I;have R:=atM J;clear J;generalize D:gW base d.cB 1000000 1 4=p at P Q;have S:=atM D;have T:=atM (afh C D);have j:=atM C;clear D C;go_wp2_with(go_at_call 133;refine(B3 _ _ _).mono ?_;rintro e w' ⟨rfl,rfl⟩);refine(Zo _ _ _ _ _ _).mono ?_;rintro e w' ⟨rfl,rfl⟩;rw[R.out,S.out];go_wp2
    all_goals go_ret2;refine⟨?_,z⟩;rw[T.out,j.out];exact afb (by first|omega|(simp_all;done)|(simp_all;omega))
   ·have E:bM taken 1000000000000=false:=(by simpa using u);have j:=atM (PE (base:=base) n (.inr E));have y:=atM (KX (d:=d) (base:=base) (taken:=taken) (by rw[j.out];decide));clear u;go_wp2_with(go_at_call 133;refine(B3 _ _ _).mono ?_;rintro e w' ⟨rfl,rfl⟩);go_ret2;exact⟨by rw[j.out,y.out];rfl,z⟩
  ·have U:bM base 1000000000=false:=(by simpa using r);have j:=atM (PE (taken:=taken) n (.inl U));have y:=atM (KX (d:=d) (base:=base) (taken:=taken) (by rw[j.out];decide));clear r;go_wp2_with(go_at_call 133;refine(B3 _ _ _).mono ?_;rintro e w' ⟨rfl,rfl⟩);go_ret2;exact⟨by rw[j.out,y.out];rfl,z⟩
 ·have F:gF [d]=false:=by simpa using n
  have j:=atM (afi (base:=base) (taken:=taken) F);have y:=atM (KX (d:=d) (base:=base) (taken:=taken) (by rw[j.out];decide));clear n;go_wp2;go_ret2;exact⟨by rw[j.out,y.out];rfl,z⟩
theorem alQ(A:Option Addr)(l:Nat)(j:List bN)(w:World)(h:ai jH 6 w w.heap.size A j)(D:j.length<=1000000):
  Calls prog 195 #[.slice A j.length l] w fun e w'=>∃v,e=.returned v/\Own jH 6 166 w' w.heap.size v j/\Below w.heap.size w w':=by
 rcases A with _|a
 ·have n:j=[]:=by
   rcases j with _|⟨y,ys⟩
   ·rfl
   ·obtain⟨b,off,p,_⟩:=h (by simp);cases p
  subst n;have r:∀w:World,(binOp .eql 46 (.slice none 0 l) (.slice none 0 0)).run prog w=.ok (.bool true) w:=fun _=>rfl;go_enter func195,ntmps195;go_wp2;go_ret;exact⟨_,rfl,Own.cC _ _,atS _ _⟩
 ·have u:=Own.lit GM w ([]:List bN) #[] 166 rfl (by simp) (atN _);have hS:=h.OZ (.cells #[] 166);have r:∀w:World,(binOp .eql 46 (.slice (some a) j.length l) (.slice none 0 0)).run prog w=.ok (.bool false) w:=fun _=>rfl;go_enter func195,ntmps195;go_wp2_with(at_builtin;(refine Jc (ys:=j) _ _ 46 _ 56 _ afj underlying46 u hS GM (by omega) rfl aaE (by simp;omega) (by omega) (by simp) (by rfl) (by rfl) (by rfl) (by rfl) (by rfl) ?_);intro z E B C);go_ret;exact⟨z,rfl,by simpa using B,Z7 C⟩
def EPost(m:List Elem)(l:Int)(w:World)(e:Ending)(w':World):Prop:=
 ∃A j,e=.returned (.tuple #[.slice A m.length j,.int .i64 l])/\ai aN 2 w' w'.heap.size A m/\m.length<=j/\j<=maxLen/\Below w.heap.size w w'
theorem EPost.fail{m:List Elem}{e n:Int}{w W:World}(j:m=[])(l:e=n)(p:Below w.heap.size w W):EPost m e w (Ending.returned (.tuple #[.slice none 0 0,.int .i64 n])) W:=by subst j l;exact⟨none,0,rfl,ai.cC,by simp,by unfold maxLen;omega,p⟩
def C7(m:List Elem)(l:Int)(w:World)(e:Ending)(w':World):Prop:=
 ∃A j,e=.returned (.tuple #[.slice A m.length j,.int .i64 l])/\ai aN 2 w' w'.heap.size A m/\m.length<=j/\j<=maxLen/\(∀a,A=some a->w.heap.size<=a.block)/\Below w.heap.size w w'
theorem C7.fail{m:List Elem}{e n:Int}{w W:World}(j:m=[])(l:e=n)(p:Below w.heap.size w W):C7 m e w (Ending.returned (.tuple #[.slice none 0 0,.int .i64 n])) W:=by subst j l;exact⟨none,0,rfl,ai.cC,by simp,by unfold maxLen;omega,(fun a r=>by cases r),p⟩
theorem afk(d:bN)(base taken:Int)(w:World)(l:d.code.size<=maxLen)(n:BF d)(p:0<=base)(r:base<=1000000000)(u:0<=taken)(y:taken<=1000000000000):
  Calls prog 134 #[.agg #[.string d.code,.int .i64 d.aT,.bool d.before,.int .i64 d.amount,.int .i64 d.cB,.int .i64 d.cap],.int .i64 base,.int .i64 taken] w fun e w'=>e=.returned (.tuple #[.int .i64 (Io d base taken),.int .i64 0])/\Below w.heap.size w w':=by
 have j:=Wo (Wp.2 n) (iK.2 ⟨p,r⟩) (iK.2 ⟨u,y⟩);refine(alP d base taken w l ⟨by omega,by omega⟩).mono fun e w' ⟨z,B⟩=>⟨?_,B⟩
 rw[z,j,KW,atP j]
def mr(wr:World)(v:Value)(m:List Elem):Prop:=∃A c,v=.slice A m.length c/\ai aN 2 wr wr.heap.size A m/\m.length<=c/\c<=maxLen
theorem mr.aa{w w':World}{v:Value}{m:List Elem}(h:mr w v m)(e:Below w.heap.size w w'):mr w' v m:=by obtain⟨A,c,j,l,n,p⟩:=h;exact⟨A,c,j,l.aa e,n,p⟩
theorem mr.cC(w:World):mr w (.slice none 0 0) []:=⟨none,0,rfl,ai.cC,by simp,by unfold maxLen;omega⟩
def SlF(B:Nat)(wr:World)(v:Value)(m:List Elem):Prop:=∃A c,v=.slice A m.length c/\ai aN 2 wr wr.heap.size A m/\m.length<=c/\c<=maxLen/\∀a,A=some a->B<=a.block
theorem Own.slF{w:World}{base B:Nat}{e:TypeId}{v:Value}{m:List Elem}(h:Own aN 2 e w base v m)(j:B<=base):SlF B w v m:=by obtain⟨A,c,l,n,p,r,u⟩:=h.kX dG;exact⟨A,c,l,n,r,u,fun a y=>at7 j (p a y)⟩
theorem Own.RV{w:World}{base:Nat}{e:TypeId}{v:Value}{m:List Elem}(h:Own aN 2 e w base v m):mr w v m:=by obtain⟨A,c,j,l,_,n,p⟩:=h.kX dG;exact⟨A,c,j,l,n,p⟩
theorem aeY(A Y:Option Addr)(ab Ju:Nat)(j:List bN)(year:List Elem)(before:Bool)(base y:Int)(w:World)(h:ai jH 6 w w.heap.size A j)(hz:∀x∈j,x.code.size<=maxLen)(hl:j.length<=9223372036854775807)
  (hy:ai aN 2 w w.heap.size Y year) (F3:∀x∈year,x.code.size<=maxLen) (oA:year.length<=9223372036854775807):
  Calls prog 89 #[.slice A j.length ab,.bool before,.int .i64 base,.int .i64 y,.slice Y year.length Ju] w (EPost (jg j before base y year) (fj j base y year) w):=by
 have HZ:=atM hz;clear hz;have J4:=atM F3;clear F3;have Ay:∀(n:Int) (W:World),n≠0->fj j base y year=n->Below w.heap.size w W->EPost (jg j before base y year) (fj j base y year) w (Ending.returned (.tuple #[.slice none 0 0,.int .i64 n])) W:=
  fun n W hn he I=>EPost.fail (afl (by rw[he];exact hn)) he I
 have z:=atM Ay;clear Ay;go_enter func89,ntmps89;go_wp2_with fail;refine(aaC A ab j _ h HZ.out hl).mono ?_;rintro e w1 ⟨rfl,J⟩;by_cases M:gF j=true;rotate_left
 ·have am:gF j=false:=by simpa using M
  clear M;go_wp2;go_ret2;exact z.out 1 _ (by omega) (Wu (.inl am)) J
 go_wp2_with fail;refine(VE Y Ju year _ (hy.aa J) J4.out oA).mono ?_;rintro e N ⟨rfl,ad⟩;have T:=aA J ad;by_cases K:fE year=true;rotate_left
 ·have Hi:fE year=false:=by simpa using K
  clear K;go_wp2;go_ret2;exact z.out 1 _ (by omega) (Wu (.inr Hi)) T
 by_cases U:bM base 1000000000=true;rotate_left
 ·have Wv:bM base 1000000000=false:=by simpa using U
  clear U;go_wp2_with(go_at_call 133;refine(B3 _ _ _).mono ?_;rintro e w' ⟨rfl,rfl⟩);go_ret2;exact z.out 2 _ (by omega) (PF M K (.inl Wv)) T
 by_cases V:bM y 1000000000=true;rotate_left
 ·have an:bM y 1000000000=false:=by simpa using V
  clear V;go_wp2_with(go_at_call 133;refine(B3 _ _ _).mono ?_;rintro e w' ⟨rfl,rfl⟩);go_ret2;exact z.out 2 _ (by omega) (PF M K (.inr an)) T
 have hE:=aaF M K U V;have HE:=atM hE;have HR:=atM (aaG (before:=before) hE);have a1:=Ws U;have a2:=Wt U;have a3:=Ws V;have a4:=Wt V;clear hE z;have af:j.length<=16:=(Ip.1 M).1;have aE:year.length<=128:=(BQ.1 K).1;have cV:=atM (Ip.1 M).2.1;have J5:=atM (fun c=>afm K c);have KY:=h.aa T;have jq:=hy.aa T;go_wp2_with(go_at_call 133;refine(B3 _ _ _).mono ?_;rintro e w' ⟨rfl,rfl⟩);clear M K U V J ad h hy hl oA
 go_loopw [12,3,13] (fun v l i wr=>∃r:Nat,r<=100/\i=.int .i64 r/\l=.int .i64 (kF before base year (EA j r) y)/\mr wr v (bG (tk before base year (EA j r) y))/\Below N.heap.size N wr) (fun _ _ i _=>100-(intOf i).toNat)
 case atStart=>exact⟨0,by omega,rfl,rfl,mr.cC _,atS _ _⟩
 case round=>
  obtain⟨r,K,rfl,rfl,D,E⟩:=hrel;by_cases aJ:r<100
  ·have aM:decide ((r:Int)<=99)=true:=(by simp;omega);obtain⟨wo,rfl⟩:∃wo:World,wo=wr:=⟨_,rfl⟩
   rw[<-alS j r]at D|-;go_wp2_with fail
   go_loopw [12,3,14] (fun v l i wr=>∃k:Nat,k<=j.length/\i=.int .i64 k/\l=.int .i64 (kF before base year (pre j r k) y)/\mr wr v (bG (tk before base year (pre j r k) y))/\Below N.heap.size N wr) (fun _ _ i _=>j.length-(intOf i).toNat)
   case atStart=>exact⟨0,by omega,rfl,rfl,D,E⟩
   case round=>
    clear D E;obtain⟨k,hk,rfl,rfl,D,E⟩:=hrel;have br:=E.size;have R:∀x∈pre j r k,BF x:=fun x X=>cV.out x (alT X);have Fz:=Ww (before:=before) (year:=year) R a1 a2 y a3;have PG:=atM (alU R before year a1 a2 a3);have aj:=at7 (afn (pre j r k) before base year y) (alV j af r k);clear R;by_cases F:k<j.length
    ·obtain⟨b,off,rfl,I,S⟩:=(KY.aa E).at_ F;have c0:=S 0 _ rfl;have c1:=S 1 _ rfl;have c2:=S 2 _ rfl;have c3:=S 3 _ rfl;have c4:=S 4 _ rfl;have O:=S 5 _ rfl;simp only[atQ]at c0;clear S;have Nb:=cV.out _ (atT F);have fq:=HZ.out _ (atT F);generalize ak:kF before base year (pre j r k) y=l0 at Fz;have Z:=atM ak;clear ak;obtain⟨r1,r2⟩:=Fz;by_cases Q:j[k].aT=(r:Int)
     rotate_left
     ·have ao:(j[k].aT==(r:Int))=false:=(by simpa using Q);have ap:(j[k].aT !=(r:Int))=true:=(by simpa using Q);have C:=atM (alY j r k F Q);clear Q;go_wp2;go_roundw
      case rel=>exact⟨k+1,by omega,by go_num,by rw[C.out,Z.out],by rw[C.out];exact D,E⟩
      case measure=>simp[intOf];omega
     have ao:(j[k].aT==(r:Int))=true:=(by simpa using Q);have ap:(j[k].aT !=(r:Int))=false:=(by simpa using Q);have C:=atM (alZ j r k F Q);clear Q;by_cases Cb:j[k].before=before;rotate_left
     ·have av:(j[k].before==before)=false:=(by simpa using Cb);have u:=atM (SE (P:=pre j r k) Z.out (afo (base:=base) (year:=year) (l0:=l0) Cb));clear Cb;go_wp2;go_roundw
      case rel=>exact⟨k+1,by omega,by go_num,by rw[C.out,u.out.2],by rw[C.out,u.out.1];exact D,E⟩
      case measure=>simp[intOf];omega
     ·have av:(j[k].before==before)=true:=(by simpa using Cb);have CC:=atM Cb;clear Cb;obtain⟨t1,t2⟩:=J5.out j[k].code;obtain⟨q1,q2⟩:=aaJ (taken:=oh year j[k].code) Nb a1 a2;go_wp2_with fail;have Nc:=jq.aa E;have e0:=Bw.cell (w:=wr) (a:=⟨b,off+k*6,none⟩) (by exact I) c0;have e1:=Bw.cell (w:=wr) (a:=⟨b,off+k*6+1,none⟩) (by exact I) c1;have e2:=Bw.cell (w:=wr) (a:=⟨b,off+k*6+2,none⟩) (by exact I) c2;have e3:=Bw.cell (w:=wr) (a:=⟨b,off+k*6+3,none⟩) (by exact I) c3;have e4:=Bw.cell (w:=wr) (a:=⟨b,off+k*6+4,none⟩) (by exact I) c4;have e5:=Bw.cell (w:=wr) (a:=⟨b,off+k*6+5,none⟩) (by exact I) O;refine oG (by kernel_rfl) (by kernel_rfl) ?_
      repeat(first|go_big_quiet_step((first|exact Bw.zX _ (aff Y Ju year _ _ _ (Nc.aa (Bw.h _)) (by omega))|exact Bw.call _ (afk j[k] base (oh year j[k].code) _ fq Nb a1 a2 t1 t2)))|quiet_step((first|exact Bw.zX _ (aff Y Ju year _ _ _ (Nc.aa (Bw.h _)) (by omega))|exact Bw.call _ (afk j[k] base (oh year j[k].code) _ fq Nb a1 a2 t1 t2))))
      refine wpQuiet_nil ?_;intro W2 az;obtain⟨⟨W9,G⟩,al⟩:=az;subst al;have Fi:=D.aa G;have KZ:=aA E G;have z0:=(G.cell (p:=⟨b,off+k*6,none⟩) I).trans c0;have aQ:b<W2.heap.size:=auD I G.size;clear e0 e1 e2 e3 e4 e5 Nc E D c0 c1 c2 c3 c4 O G;generalize SF:Io j[k] base (oh year j[k].code)=B at q1 q2|-;have aC:=atM SF;clear SF;have HA:Hid (mW before base year j[k] l0=min B l0):=(by rw[Hid,mW,atP CC.out,aC.out]);have eT:min B l0<=l0:=(by omega);rcases(show min B l0=l0/\l0<B\/min B l0=B/\B<=l0 by omega)with⟨PH,aD⟩|⟨PH,aD⟩
      ·rw[PH]at HA eT;by_cases jl:0<l0
       ·have u:=atM (aaK (P:=pre j r k) Z.out HA.out jl);have BG:=atM (aaL (tk before base year (pre j r k) y) ⟨j[k].code,l0⟩);generalize bG (tk before base year (pre j r k) y)=ms at Fi PG aj BG;obtain⟨A5,O,rfl,dm,nO,nP⟩:=Fi;go_wp2_with fail;refine(RX A5 O ms ⟨j[k].code,l0⟩ _ dm nO nP (by omega) (fun x X=>by have:=PG.out x X;omega) (by show _<=l0;omega) (by show l0<=_;omega)).mono ?_;rintro e w8 ⟨v8,rfl,cx,bU⟩;go_wp2;go_roundw
        case rel=>
         have L:∃k':Nat,k'<=j.length/\Value.int .i64 ((k:Int)+1)=.int .i64 k'/\Value.int .i64 (l0-l0)=.int .i64 (kF before base year (pre j r k') y)/\mr w8 v8 (bG (tk before base year (pre j r k') y))/\Below N.heap.size N w8:=
          ⟨k+1,by omega,by go_num,by rw[C.out,u.out.2],by rw[C.out,u.out.1,BG.out];exact cx.RV,aA KZ bU⟩
         first|exact L|(simp only[Int.sub_self]at L;exact L)|((repeat apply Exists.intro);exact⟨L,rfl⟩)
        case measure=>simp[intOf];omega
       ·have Cc:mW before base year j[k] l0=0:=(by rw[HA.out];omega);have u:=atM (SE (P:=pre j r k) Z.out Cc);clear Cc;go_wp2;go_roundw
        case rel=>exact⟨k+1,by omega,by go_num,by rw[C.out,u.out.2];congr 1;omega,by rw[C.out,u.out.1];exact Fi,KZ⟩
        case measure=>simp[intOf];omega
      ·have aR:¬l0<B:=(by omega);rw[PH]at HA eT;by_cases jl:0<B
       ·have u:=atM (aaK (P:=pre j r k) Z.out HA.out jl);have BG:=atM (aaL (tk before base year (pre j r k) y) ⟨j[k].code,B⟩);generalize bG (tk before base year (pre j r k) y)=ms at Fi PG aj BG;obtain⟨A5,O,rfl,dm,nO,nP⟩:=Fi;go_wp2_with fail;refine(RX A5 O ms ⟨j[k].code,B⟩ _ dm nO nP (by omega) (fun x X=>by have:=PG.out x X;omega) (by show _<=B;omega) (by show B<=_;omega)).mono ?_;rintro e w8 ⟨v8,rfl,cx,bU⟩;go_wp2;go_roundw
        case rel=>
         have L:∃k':Nat,k'<=j.length/\Value.int .i64 ((k:Int)+1)=.int .i64 k'/\Value.int .i64 (l0-B)=.int .i64 (kF before base year (pre j r k') y)/\mr w8 v8 (bG (tk before base year (pre j r k') y))/\Below N.heap.size N w8:=
          ⟨k+1,by omega,by go_num,by rw[C.out,u.out.2],by rw[C.out,u.out.1,BG.out];exact cx.RV,aA KZ bU⟩
         first|exact L|(simp only[Int.sub_self]at L;exact L)|((repeat apply Exists.intro);exact⟨L,rfl⟩)
        case measure=>simp[intOf];omega
       ·have Cc:mW before base year j[k] l0=0:=(by rw[HA.out];omega);have u:=atM (SE (P:=pre j r k) Z.out Cc);clear Cc;go_wp2;go_roundw
        case rel=>exact⟨k+1,by omega,by go_num,by rw[C.out,u.out.2];congr 1;omega,by rw[C.out,u.out.1];exact Fi,KZ⟩
        case measure=>simp[intOf];omega
    ·obtain rfl:k=j.length:=by omega
     have aS:decide ((j.length:Int)<(j.length:Int))=false:=(by simp);have aU:decide (j.length<j.length)=false:=(by simp);rw[al0]at D|-;go_wp2_with fail;go_roundw
     case rel=>exact⟨r+1,by omega,by go_num,rfl,D,E⟩
     case measure=>simp[intOf];omega
  ·obtain rfl:r=100:=by omega
   rw[al1]at D|-;obtain⟨A5,O,rfl,dm,nO,nP⟩:=D;have X:decide ((100:Int)<=99)=false:=(by decide);go_wp2;go_ret2;rw[HE.out,HR.out];exact⟨A5,O,rfl,dm,nO,nP,aA T E⟩
structure gJ where
 Aw:Option Addr
 cw:Nat
 ws:List dr
 As:Option Addr
 cs:Nat
 ss:List dx
 tm:iU
 count:Int
 sh:kB
 recover:Int
def gJ.t(m:gJ):aaM:=⟨m.ws,m.ss,m.tm.t,m.count,m.sh,m.recover⟩
def gJ.val(m:gJ):Value:=.agg #[.slice m.Aw m.ws.length m.cw,.slice m.As m.ss.length m.cs,.int .i64 m.tm.t.method,.slice m.tm.Ab m.tm.t.aR.length m.tm.cb,.int .i64 m.tm.t.bJ,.int .i64 m.tm.t.bK,.int .i64 m.tm.t.unit,.int .i64 m.tm.t.mode,.slice m.tm.Ar m.tm.t.rows.length m.tm.cr,.int .i64 m.count,.int .i64 m.sh.fixed,.int .i64 m.sh.bO,.int .i64 m.sh.lower,.int .i64 m.sh.share,.int .i64 m.sh.top,.int .i64 m.recover]
structure gJ.In(m:gJ)(w:World):Prop where
 ws:ai gX 6 w w.heap.size m.Aw m.ws
 ss:ai Ir 8 w w.heap.size m.As m.ss
 tm:m.tm.In w
theorem gJ.In.aa{m:gJ}{w w':World}(h:m.In w)(e:Below w.heap.size w w'):m.In w':=⟨h.ws.aa e,h.ss.aa e,h.tm.aa e⟩
structure fB where
 deps:Int
 Ad:Option Addr
 cd:Nat
 ds:List bN
 Ao:Option Addr
 co:Nat
 os:List bn
 Ae:Option Addr
 ce:Nat
 es:List cI
def fB.t(m:fB):aaN:=⟨m.deps,m.ds,m.os,m.es.map cI.v⟩
def fB.val(m:fB):Value:=.agg #[.int .i64 m.deps,.slice m.Ad m.ds.length m.cd,.slice m.Ao m.os.length m.co,.slice m.Ae m.es.length m.ce]
structure fB.In(m:fB)(w:World):Prop where
 ds:ai jH 6 w w.heap.size m.Ad m.ds
 os:ai mO 5 w w.heap.size m.Ao m.os
 es:ai pS 2 w w.heap.size m.Ae m.es
 ins:∀e∈m.es,ai encI 1 w w.heap.size e.A e.l
theorem fB.In.aa{m:fB}{w w':World}(h:m.In w)(j:Below w.heap.size w w'):m.In w':=⟨h.ds.aa j,h.os.aa j,h.es.aa j,fun e l=>(h.ins e l).aa j⟩
structure fC where
 az:Int
 ay:Int
 aQ:Int
 Ai:Option Addr
 ci:Nat
 ins:List Int
 At:Option Addr
 ct:Nat
 taken:List Elem
def fC.t(m:fC):Wx:=⟨m.az,m.ay,m.aQ,m.ins,m.taken⟩
def fC.val(m:fC):Value:=.agg #[.int .i64 m.az,.int .i64 m.ay,.int .i64 m.aQ,.slice m.Ai m.ins.length m.ci,.slice m.At m.taken.length m.ct]
structure fC.In(m:fC)(w:World):Prop where
 ins:ai encI 1 w w.heap.size m.Ai m.ins
 taken:ai aN 2 w w.heap.size m.At m.taken
theorem fC.In.aa{m:fC}{w w':World}(h:m.In w)(e:Below w.heap.size w w'):m.In w':=⟨h.ins.aa e,h.taken.aa e⟩
theorem al2(n m:Int)(w:World):Calls prog 175 #[.int .i64 n,.int .i64 m] w fun e w'=>e=.returned (.bool (bM n m))/\w=w':=by
 by_cases l:0<=n<;>by_cases p:n<=m
 all_goals
  have j:bM n m=(decide (0<=n)&&decide (n<=m)):=by simp[bM]
  have r:=atM j;clear j;go_enter func175,ntmps175;go_wp2;go_ret;exact⟨by rw[r.out];simp[l,p],rfl⟩
theorem Nd{n m:Int}(j:0<=n)(l:n<=m)(w:World):Calls prog 175 #[.int .i64 n,.int .i64 m] w fun e w'=>e=.returned (.bool true)/\w=w':=by
 have:=al2 n m w
 rwa [iK.2 ⟨j,l⟩]at this
theorem KU{e:List dr}(h:k9 e=true):e.length<=64/\∀x∈e,x.code.size<=maxLen:=by simp only[k9,aub,auc]at h;refine⟨h.1,fun x l=>?_⟩;obtain⟨i,hi,rfl⟩:=aun.1 l;have j:=h.2 i hi;simp only[oM,aub]at j;exact Fa j.1.1.1.1
theorem al3(m:gJ)(w:World)(h:m.In w)(y:PI m.t):Calls prog 122 #[m.val] w fun e w'=>e=.returned (.bool true)/\Below w.heap.size w w':=by
 have HR:=atM y;have hv:k9 m.ws=true:=y.fZ;obtain⟨lG,I9⟩:=KU hv;have kL:m.ss.length<=12:=y.Jk;have C:1<=m.count:=y.c0;have Z:m.count<=53:=y.c1;have v0:0<=m.recover:=y.v0;have v1:m.recover<=1000000:=y.v1;have HW:Hid (∀W,Below w.heap.size w W->Calls prog 130 #[.slice m.Aw m.ws.length m.cw] W fun e w'=>e=.returned (.bool true)/\Below W.heap.size W w'):=fun W j=>by
  have:=afq m.Aw m.cw m.ws W (h.ws.aa j) I9 (by omega)
  rwa [hv]at this
 have HT:Hid (∀W,Below w.heap.size w W->Calls prog 142 #[.agg #[.int .i64 m.tm.t.method,.slice m.tm.Ab m.tm.t.aR.length m.tm.cb,.int .i64 m.tm.t.bJ,.int .i64 m.tm.t.bK,.int .i64 m.tm.t.unit,.int .i64 m.tm.t.mode,.slice m.tm.Ar m.tm.t.rows.length m.tm.cr]] W fun e w'=>e=.returned (.bool true)/\Below W.heap.size W w'):=fun W j=>Wy m.tm W (h.tm.aa j) y.MR;have HS:Hid (∀W,Calls prog 147 #[.agg #[.int .i64 m.sh.fixed,.int .i64 m.sh.bO,.int .i64 m.sh.lower,.int .i64 m.sh.share,.int .i64 m.sh.top]] W fun e w'=>e=.returned (.bool true)/\Below W.heap.size W w'):=fun W=>VL m.sh W y.sh;clear y hv I9;unfold gJ.val;go_enter func122,ntmps122;have hB:=ah.new w 45 #[.slice m.Aw m.ws.length m.cw,.slice m.As m.ss.length m.cs,.int .i64 m.tm.t.method,.slice m.tm.Ab m.tm.t.aR.length m.tm.cb,.int .i64 m.tm.t.bJ,.int .i64 m.tm.t.bK,.int .i64 m.tm.t.unit,.int .i64 m.tm.t.mode,.slice m.tm.Ar m.tm.t.rows.length m.tm.cr,.int .i64 m.count,.int .i64 m.sh.fixed,.int .i64 m.sh.bO,.int .i64 m.sh.lower,.int .i64 m.sh.share,.int .i64 m.sh.top,.int .i64 m.recover];have ae:=bC w (.cells #[.slice m.Aw m.ws.length m.cw,.slice m.As m.ss.length m.cs,.int .i64 m.tm.t.method,.slice m.tm.Ab m.tm.t.aR.length m.tm.cb,.int .i64 m.tm.t.bJ,.int .i64 m.tm.t.bK,.int .i64 m.tm.t.unit,.int .i64 m.tm.t.mode,.slice m.tm.Ar m.tm.t.rows.length m.tm.cr,.int .i64 m.count,.int .i64 m.sh.fixed,.int .i64 m.sh.bO,.int .i64 m.sh.lower,.int .i64 m.sh.share,.int .i64 m.sh.top,.int .i64 m.recover] 45);go_upto_region 1 with fail
 generalize w.alloc (Obj.cells _ _)=W at hB ae|-;obtain⟨D,p,E,F,G,I,J,K,L,M,N,O,l,P,Q,R⟩:=hB.cz16;go_wp2_with fail;refine(HW.out _ ae).mono ?_;rintro e w1 ⟨rfl,S⟩;have ak:=hB.aa S;have aS:=aA ae S;clear hB ae S D p E F G I J K L M N O l P Q R;obtain⟨D,p,E,F,G,I,J,K,L,M,N,O,l,P,Q,R⟩:=ak.cz16;go_wp2_with fail;refine(HT.out _ aS).mono ?_;rintro e w2 ⟨rfl,z⟩;have aC:=ak.aa z;have bm:=aA aS z;clear ak aS z D p E F G I J K L M N O l P Q R;obtain⟨D,p,E,F,G,I,J,K,L,M,N,O,l,P,Q,R⟩:=aC.cz16;go_wp2_with fail;refine(HS.out _).mono ?_;rintro e w3 ⟨rfl,T⟩;have bA:=aC.aa T;have cT:=aA bm T;clear aC bm T D p E F G I J K L M N O l P Q R;obtain⟨D,p,E,F,G,I,J,K,L,M,N,O,l,P,Q,R⟩:=bA.cz16;go_wp2_with fail;refine(Nd v0 v1 _).mono ?_;rintro e w' ⟨rfl,rfl⟩;clear D p E F G I J K L M N O l P Q R;have ab:=h.ss.aa cT;go_wp2_with fail
 go_loopw [3] (fun i wr=>∃k:Nat,k<=m.ss.length/\i=.int .i64 k/\Below w3.heap.size w3 wr) (fun i _=>m.ss.length-(intOf i).toNat)
 case atStart=>exact⟨0,by omega,rfl,atS _ _⟩
 case round=>
  obtain⟨k,hk,rfl,r⟩:=hrel;have bk:=bA.aa r;have SG:=bk.lt;have p:=bk.cell 1;simp only[aq,ar,au]at p;by_cases U:k<m.ss.length
  ·obtain⟨b,off,hA,j,B⟩:=(ab.aa r).at_ U;have C:=B 0 _ rfl;have Z:=B 1 _ rfl;have c2:=B 2 _ rfl;have c3:=B 3 _ rfl;have c4:=B 4 _ rfl;have c5:=B 5 _ rfl;have c6:=B 6 _ rfl;have c7:=B 7 _ rfl;simp only[atQ]at C;have fL:(k:Int)<(m.ss.length:Int):=(by omega);clear B;have PJ:=atM (fun W=>adk m.ss[k] W (HR.out.MV _ (atT U)));unfold Eg at PJ;rw[hA]at p;rcases k with _|n
   ·have fK:(0:Int)<(m.ss.length:Int):=(by omega);simp only[auu,atQ]at C Z c2 c3 c4 c5 c6 c7;have q0:=Bw.cell (w:=wr) (a:=⟨b,off,none⟩) (by exact j) C;have q1:=Bw.cell (w:=wr) (a:=⟨b,off+1,none⟩) (by exact j) Z;have q2:=Bw.cell (w:=wr) (a:=⟨b,off+2,none⟩) (by exact j) c2;have q3:=Bw.cell (w:=wr) (a:=⟨b,off+3,none⟩) (by exact j) c3;have q4:=Bw.cell (w:=wr) (a:=⟨b,off+4,none⟩) (by exact j) c4;have q5:=Bw.cell (w:=wr) (a:=⟨b,off+5,none⟩) (by exact j) c5;have q6:=Bw.cell (w:=wr) (a:=⟨b,off+6,none⟩) (by exact j) c6;have q7:=Bw.cell (w:=wr) (a:=⟨b,off+7,none⟩) (by exact j) c7;have e1:=Bw.cell (w:=wr) (a:=⟨w.heap.size,1,none⟩) (by exact SG) p;go_upto_region 6 with fail
    clear p C Z c2 c3 c4 c5 c6 c7;refine oG (by kernel_rfl) (by kernel_rfl) ?_
    repeat(first|go_big_quiet_step(exact Bw.call _ (PJ.out _)))
    refine wpQuiet_nil ?_;intro W2 V;obtain⟨⟨W9,X⟩,u⟩:=V;subst u;have Y:Below w3.heap.size w3 W2:=aA r X;go_wp2;go_roundw
    case rel=>exact⟨0+1,by omega,by go_num,Y⟩
    case measure=>simp[intOf];omega
   ·have mX:n<m.ss.length:=(by omega);obtain⟨b2,Ep,cX,z,ad⟩:=(ab.aa r).at_ mX;rw[hA]at cX;injection cX with cX
    injection cX with cX gv
    subst cX gv;have p0:=ad 0 _ rfl;simp only[atQ]at p0;clear ad;have CS:=auz.1 HR.out.jr n (n+1) mX U (by omega);have af:Op.bytesLess m.ss[n].code.toList m.ss[n+1].code.toList=true:=CS;clear CS;have qh:(n:Int)<(m.ss.length:Int):=(by omega);have Nf:(n:Int)+1<(m.ss.length:Int):=(by omega);have hp:decide ((0:Int)<(n:Int)+1)=true:=(by rw[auc];omega);have q0:=Bw.cell (w:=wr) (a:=⟨b,off+(n+1)*8,none⟩) (by exact j) C;have q1:=Bw.cell (w:=wr) (a:=⟨b,off+(n+1)*8+1,none⟩) (by exact j) Z;have q2:=Bw.cell (w:=wr) (a:=⟨b,off+(n+1)*8+2,none⟩) (by exact j) c2;have q3:=Bw.cell (w:=wr) (a:=⟨b,off+(n+1)*8+3,none⟩) (by exact j) c3;have q4:=Bw.cell (w:=wr) (a:=⟨b,off+(n+1)*8+4,none⟩) (by exact j) c4;have q5:=Bw.cell (w:=wr) (a:=⟨b,off+(n+1)*8+5,none⟩) (by exact j) c5;have q6:=Bw.cell (w:=wr) (a:=⟨b,off+(n+1)*8+6,none⟩) (by exact j) c6;have q7:=Bw.cell (w:=wr) (a:=⟨b,off+(n+1)*8+7,none⟩) (by exact j) c7;have e1:=Bw.cell (w:=wr) (a:=⟨w.heap.size,1,none⟩) (by exact SG) p;have q9:=Bw.cell (w:=wr) (a:=⟨b,off+n*8,none⟩) (by exact j) p0;clear p0;go_upto_region 6 with fail
    clear p C Z c2 c3 c4 c5 c6 c7;refine oG (by kernel_rfl) (by kernel_rfl) ?_
    repeat(first|go_big_quiet_step(exact Bw.call _ (PJ.out _)))
    refine wpQuiet_nil ?_;intro W2 V;obtain⟨⟨W9,X⟩,u⟩:=V;subst u;have Y:Below w3.heap.size w3 W2:=aA r X;go_wp2;go_roundw
    case rel=>exact⟨n+1+1,by omega,by go_num,Y⟩
    case measure=>simp[intOf];omega
  ·go_wp2;go_ret;exact⟨rfl,aA cT r⟩
