/- Conditions: as stated. -/
import Derived.Test.YtlhkojcmcmkmaaaGreatCMapS
set_option maxRecDepth 100000
set_option maxHeartbeats 8000000
namespace Go.Proofs.YtlhkojcmcmkmaaaGreat
open Go.Proofs.Tryz
open Go.RowKit
theorem aox{l:List Elem}(h:ey l=0):Jd 1000000000 l/\l.length<=128:=by
 have e:¬128<l.length:=by intro e;rw[ey,atP e]at h;cases h
 rw[ey,atO e]at h;split at h
 ·cases h
 ·split at h
  ·cases h
  ·rename_i j;refine⟨fun x n=>?_,by omega⟩;simp only[Bool.not_eq_true,auC]at j;have:=j x n;simpa[cQ]using this
structure ou(w w2 w4 w3:World)(x:Elem)(y:dr)(b:eU)(wx:World):Prop where
 bs:Bs wx w2.heap.size b
 rs:Bs wx w.heap.size ez
 bh:Below w2.heap.size w2 wx
 wg:ah wx w4.heap.size 77 (gX y).toArray
 xb:ah wx w3.heap.size 69 #[.string x.code,.int .i64 x.amount]
 T3:w.heap.size<w2.heap.size
 T4:w2.heap.size<w4.heap.size
 lt3:w2.heap.size<w3.heap.size
section
variable {w w2 w4 w3 wx:World}{x:Elem}{y:dr}{b:eU}
theorem ou.step(h:ou w w2 w4 w3 x y b wx){e:eU}{i:Nat}{u:Value}(j:Bs (wx.setCell ⟨w2.heap.size,i,none⟩ u) w2.heap.size e):ou w w2 w4 w3 x y e (wx.setCell ⟨w2.heap.size,i,none⟩ u):=
 ⟨j,h.rs.far (by have:=h.T3;simp;omega) _,h.bh.setCell (by simp) _,h.wg.far (by have:=h.T4;simp;omega) _,h.xb.far (by have:=h.lt3;simp;omega) _,h.T3,h.T4,h.lt3⟩
theorem ou.abM(h:ou w w2 w4 w3 x y b wx)(n:Int):ou w w2 w4 w3 x y {b with c:=n} (wx.setCell ⟨w2.heap.size,1,none⟩ (.int .i64 n)):=h.step (h.bs.c n)
theorem ou.abN(h:ou w w2 w4 w3 x y b wx)(n:Int):ou w w2 w4 w3 x y {b with t:=n} (wx.setCell ⟨w2.heap.size,2,none⟩ (.int .i64 n)):=h.step (h.bs.t n)
theorem ou.abO(h:ou w w2 w4 w3 x y b wx)(n:Int):ou w w2 w4 w3 x y {b with i:=n} (wx.setCell ⟨w2.heap.size,3,none⟩ (.int .i64 n)):=h.step (h.bs.i n)
theorem ou.abP(h:ou w w2 w4 w3 x y b wx)(n:Int):ou w w2 w4 w3 x y {b with a:=n} (wx.setCell ⟨w2.heap.size,4,none⟩ (.int .i64 n)):=h.step (h.bs.a n)
end
def FV(b:eU):Nat->Int
 |0=>b.g
 |1=>b.c
 |2=>b.t
 |3=>b.i
 |_=>b.a
theorem aoy(b:eU)(w:World):(Instr.index 180 (.agg #[.int .i64 b.g,.int .i64 b.c,.int .i64 b.t,.int .i64 b.i,.int .i64 b.a]) (.int .i64 0)).run prog w=.ok (.int .i64 b.g) w:=by kernel_rfl
theorem aoz(b:eU)(w:World):(Instr.index 180 (.agg #[.int .i64 b.g,.int .i64 b.c,.int .i64 b.t,.int .i64 b.i,.int .i64 b.a]) (.int .i64 1)).run prog w=.ok (.int .i64 b.c) w:=by kernel_rfl
theorem aoA(b:eU)(w:World):(Instr.index 180 (.agg #[.int .i64 b.g,.int .i64 b.c,.int .i64 b.t,.int .i64 b.i,.int .i64 b.a]) (.int .i64 2)).run prog w=.ok (.int .i64 b.t) w:=by kernel_rfl
theorem aoB(b:eU)(w:World):(Instr.index 180 (.agg #[.int .i64 b.g,.int .i64 b.c,.int .i64 b.t,.int .i64 b.i,.int .i64 b.a]) (.int .i64 3)).run prog w=.ok (.int .i64 b.i) w:=by kernel_rfl
theorem aoC(b:eU)(w:World):(Instr.index 180 (.agg #[.int .i64 b.g,.int .i64 b.c,.int .i64 b.t,.int .i64 b.i,.int .i64 b.a]) (.int .i64 4)).run prog w=.ok (.int .i64 b.a) w:=by kernel_rfl
theorem aoD(b:eU)(k:Nat)(e:k<5)(w:World):(Instr.index 180 (.agg #[.int .i64 b.g,.int .i64 b.c,.int .i64 b.t,.int .i64 b.i,.int .i64 b.a]) (.int .i64 (k:Int))).run prog w=.ok (.int .i64 (FV b k)) w:=by
 have h:k=0\/k=1\/k=2\/k=3\/k=4:=by omega
 rcases h with rfl|rfl|rfl|rfl|rfl
 ·exact aoy b w
 ·exact aoz b w
 ·exact aoA b w
 ·exact aoB b w
 ·exact aoC b w
theorem aoE{b:eU}{m:Nat}(e:m<5)(h:cQ (FV b m)=false):qd b=false:=by
 match m,e with
 |0,_=>simp only[FV]at h;simp[qd,h]
 |1,_=>simp only[FV]at h;simp[qd,h]
 |2,_=>simp only[FV]at h;simp[qd,h]
 |3,_=>simp only[FV]at h;simp[qd,h]
 |4,_=>simp only[FV]at h;simp[qd,h]
theorem aoF{b:eU}(h:∀j,j<5->cQ (FV b j)=true):qd b=true:=by have e:=h 0 (by omega);have l:=h 1 (by omega);have n:=h 2 (by omega);have p:=h 3 (by omega);have r:=h 4 (by omega);simp only[FV]at e l n p r;simp[qd,e,l,n,p,r]
theorem aoG(A E:Option Addr)(al T5:Nat)(p:List dr)(l:List Elem)(w:World)(h:ai gX 6 w w.heap.size A p)(T6:∀x∈p,x.code.size<=maxLen)(aU:p.length<=9223372036854775806)
  (hE:ai aN 2 w w.heap.size E l) (hz:∀x∈l,x.code.size<=maxLen) (hl:l.length<=9223372036854775806):
  Calls prog 102 #[.slice A p.length al,.slice E l.length T5] w fun r w'=>r=.returned (gV p l l)/\Below w.heap.size w w':=by
 have HZ:=atM hz;clear hz;have ao:=atM T6;clear T6;go_enter func102,ntmps102;go_wp2_with fail;have qi:Bs (w.alloc (.cells #[.int .i64 0,.int .i64 0,.int .i64 0,.int .i64 0,.int .i64 0] 24)) w.heap.size ez:=ah.new _ _ _;have ab:Below w.heap.size w (w.alloc (.cells #[.int .i64 0,.int .i64 0,.int .i64 0,.int .i64 0,.int .i64 0] 24)):=(atS _ _).alloc (atN _) _;generalize w.alloc (.cells #[.int .i64 0,.int .i64 0,.int .i64 0,.int .i64 0,.int .i64 0] 24)=w0 at qi ab|-;have ap:w.heap.size<w0.heap.size:=ah.lt qi;refine(ag0 A al p _ ((h.below ab).more (by omega)) ao.out (by omega)).mono ?_;rintro e w1 ⟨rfl,ad⟩;have ak:=qi.below ad ap;have aS:=Jb ab ad (by omega);have aV:=ad.size;by_cases hv:k9 p=true
 ·have HV:=atM hv;go_wp2_with fail;refine(anv E T5 l _ ((hE.below aS).more (by omega)) HZ.out (by omega)).mono ?_;rintro e w2 ⟨A6,c6,rfl,_,_,_,af⟩;have aC:=ak.below af (by omega);have bm:=Jb aS af (by omega);have aZ:=af.size;by_cases h0:ey l=0
  ·have H0:=atM h0;rw[h0];obtain⟨av,VS⟩:=aox h0;have dQ:=hE.below bm;clear h0 qi ab ad af ak aS;go_wp2;have eY:Bs (w2.alloc (.cells #[.int .i64 0,.int .i64 0,.int .i64 0,.int .i64 0,.int .i64 0] 24)) w2.heap.size ez:=ah.new _ _ _;have N:=aC.alloc (Obj.cells #[.int .i64 0,.int .i64 0,.int .i64 0,.int .i64 0,.int .i64 0] 24);have Cn:=(atS w2.heap.size w2).alloc (atN _) (Obj.cells #[.int .i64 0,.int .i64 0,.int .i64 0,.int .i64 0,.int .i64 0] 24);generalize w2.alloc (.cells #[.int .i64 0,.int .i64 0,.int .i64 0,.int .i64 0,.int .i64 0] 24)=w3 at eY N Cn|-
   go_loopw [30] (fun i wr=>∃k:Nat,k<=l.length/\i=.int .i64 k/\Hid (∀j,(F:j<l.length)->j<k->(iA p l[j].code).isSome=true)/\Bs wr w2.heap.size (fN p (l.take k))/\IP (k*1000000000) (fN p (l.take k))/\Bs wr w.heap.size ez/\Below w2.heap.size w2 wr) (fun i _=>l.length-(intOf i).toNat)
   case atStart=>exact⟨0,by omega,rfl,fun j _ F=>absurd F (by omega),eY,by simp[fN,ez,IP],N,Cn⟩
   case round=>
    clear eY N Cn;obtain⟨k,hk,rfl,M,eY,k8,N,ae⟩:=hrel;have br:=ah.lt eY;by_cases am:k<l.length
    ·obtain⟨b,off,rfl,hb,hc⟩:=(dQ.below (ae.mono (by omega))).at_ am;have c0:=hc 0 _ rfl;have c1:=hc 1 _ rfl;simp only[atQ]at c0;clear hc;go_wp2_with fail;have T7:=ah.new wr 69 #[Value.string l[k].code,Value.int IntKind.i64 l[k].amount];refine(ag1 A al p l[k].code _ ((h.below ((bm.trans (ae.mono (by omega))).alloc (by omega) _)).more (by simp;omega)) (by omega)).mono ?_;rintro e w4 ⟨rfl,B⟩;have a0:wr.heap.size+1<=w4.heap.size:=(by have:=B.size;simpa using this);have j9:=T7.below B (by simp);have GH:=(eY.alloc _).below B (by simp;omega);have BL:=(N.alloc _).below B (by simp;omega);have eo:=Jb (ae.alloc (by omega) _) B (by simp;omega);have dP:wr.heap.size<w4.heap.size:=(by omega);have az:w.heap.size<w4.heap.size:=(by omega);have a1:w2.heap.size<w4.heap.size:=(by omega);have Hc:b<w4.heap.size:=(by omega);rcases O:iA p l[k].code with _|y
     ·rw[ag2];obtain⟨P,Q,R,S,T⟩:=BL.cells;obtain⟨G,I,J,K,L⟩:=BL.Au;have HE:Hid (eL p l l=16):=by
       have hm:missing p l=true:=auy.2 ⟨l[k],atT _,by simp[O]⟩;simp only[Hid,eL,HV.out,H0.out,hm,aup,Bool.true_eq_false,auw,ne_eq,not_true_eq_false]
      go_wp2;have u:=(BL.put ez).alloc (Obj.cells #[.string ⟨#[]⟩,.int .i64 0,.bool false,.bool false,.bool false,.int .i64 0] 77);have z:Below w.heap.size w _:=(D1 (bm.trans (eo.mono (by omega))) (atN _) (.int .i64 0) (.int .i64 0) (.int .i64 0) (.int .i64 0) (.int .i64 0)).alloc (by simp;omega) (Obj.cells #[.string ⟨#[]⟩,.int .i64 0,.bool false,.bool false,.bool false,.int .i64 0] 77);simp only[ez]at u;generalize World.alloc _ _=WW at u z|-;obtain⟨z0,z1,z2,z3,z4⟩:=u.cells;refine at5 (v:=gV p l l) ?_ rfl ⟨rfl,z⟩;rw[gV,HE.out];simp[results,results102,go_sem,z0,z1,z2,z3,z4,nw,ez]
     ·rw[ag3];obtain⟨P,Q,R,S,T⟩:=GH.cells;obtain⟨G,I,J,K,L⟩:=GH.Au;have d1:=j9.cell 1;simp only[aq,ar,au]at d1;have kO:=av _ (atT am);obtain⟨aD,aE⟩:=kO;have Qf:=k8.add (C:=1000000000) (by omega) y aD aE;have T8:fN p (l.take (k+1))=Am (fN p (l.take k)) y l[k].amount:=(by rw[ag4 p l k am,JP,O];rfl);have EST:=atM T8;have T9:∀j,(F:j<l.length)->j<k+1->(iA p l[j].code).isSome=true:=by
       intro j F a2;rcases at6 j k with h1|h1
       ·exact M.out j F h1
       ·obtain rfl:j=k:=by omega
        rw[O];rfl
      have Sg:=atM T9;clear T9 T8 O c0;generalize fN p (l.take k)=n at*;obtain⟨⟨g1,g2⟩,⟨g3,g4⟩,⟨g5,g6⟩,⟨g7,g8⟩,⟨g9,a3⟩⟩:=k8;have Ua:ou w w2 w4 wr l[k] y ⟨n.g+l[k].amount,n.c,n.t,n.i,n.a⟩ ((w4.setCell ⟨w2.heap.size,0,none⟩ (.int .i64 (n.g+l[k].amount))).alloc (.cells (gX y).toArray 77)):=
       ⟨(GH.g _).alloc _,(BL.far (by simp;omega) _).alloc _,(eo.setCell (by simp) _).alloc (by simp;omega) _,by have:=ah.new (w4.setCell ⟨w2.heap.size,0,none⟩ (.int .i64 (n.g+l[k].amount))) 77 (gX y).toArray;simpa using this,(j9.far (by simp;omega) _).alloc _,by omega,by omega,by omega⟩
      have Ub:=atM Ua;clear Ua
      go_upto_if 52 with fail
      generalize an:World.alloc _ _=W0;have U:ou w w2 w4 wr l[k] y ⟨n.g+l[k].amount,n.c,n.t,n.i,n.a⟩ W0:=(by rw[<-an];exact Ub.out);clear an P Q R S T G I J K L d1 Ub GH BL eY N ae eo aC T7 j9 B c1;obtain⟨P,Q,R,S,T⟩:=U.bs.cells;obtain⟨G,I,J,K,L⟩:=U.bs.Au;have V:=U.xb.cell 1;have y1:=U.wg.cell 1;have y2:=U.wg.cell 2;have y3:=U.wg.cell 3;have X:=U.wg.cell 4;simp only[gX,atY,at0,at1]at V y1 y2 y3 X
      go_cut [] (fun wx=>ou w w2 w4 wr l[k] y ⟨n.g+l[k].amount,n.c+(if y.kind=1 then l[k].amount else 0),n.t,n.i,n.a⟩ wx)
      case first=>
       by_cases D:y.kind=1
       ·have aJ:(y.kind==1)=true:=(by simp[D]);go_wp2;go_meet;have hz:=(U.abM (n.c+l[k].amount))
        simpa[D]using hz
       ·have aJ:(y.kind==1)=false:=(by simp[D]);go_wp2;go_meet;simpa[D]using U
      case rest=>
       clear P Q R S T G I J K L V y1 y2 y3 X U;have Y:=hcut;clear hcut;obtain⟨P,Q,R,S,T⟩:=Y.bs.cells;obtain⟨G,I,J,K,L⟩:=Y.bs.Au;have V:=Y.xb.cell 1;have y1:=Y.wg.cell 1;have y2:=Y.wg.cell 2;have y3:=Y.wg.cell 3;have X:=Y.wg.cell 4;simp only[gX,atY,at0,at1]at V y1 y2 y3 X
       go_upto_if 60 with fail
       go_cut [] (fun wx=>ou w w2 w4 wr l[k] y ⟨n.g+l[k].amount,n.c+(if y.kind=1 then l[k].amount else 0),n.t+(if y.jS=true then l[k].amount else 0),n.i,n.a⟩ wx)
       case first=>
        rcases D:y.jS with _|_;rotate_left
        ·go_wp2;go_meet;have hz:=(Y.abN (n.t+l[k].amount))
         simpa[D]using hz
        ·go_wp2;go_meet;simpa[D]using Y
       case rest=>
        clear P Q R S T G I J K L V y1 y2 y3 X Y;have Z:=hcut;clear hcut;obtain⟨P,Q,R,S,T⟩:=Z.bs.cells;obtain⟨G,I,J,K,L⟩:=Z.bs.Au;have V:=Z.xb.cell 1;have y1:=Z.wg.cell 1;have y2:=Z.wg.cell 2;have y3:=Z.wg.cell 3;have X:=Z.wg.cell 4;simp only[gX,atY,at0,at1]at V y1 y2 y3 X
        go_upto_if 68 with fail
        go_cut [] (fun wx=>ou w w2 w4 wr l[k] y ⟨n.g+l[k].amount,n.c+(if y.kind=1 then l[k].amount else 0),n.t+(if y.jS=true then l[k].amount else 0),n.i+(if y.aO=true then l[k].amount else 0),n.a⟩ wx)
        case first=>
         rcases D:y.aO with _|_;rotate_left
         ·go_wp2;go_meet;have hz:=(Z.abO (n.i+l[k].amount))
          simpa[D]using hz
         ·go_wp2;go_meet;simpa[D]using Z
        case rest=>
         clear P Q R S T G I J K L V y1 y2 y3 X Z;have C3:=hcut;clear hcut;obtain⟨P,Q,R,S,T⟩:=C3.bs.cells;obtain⟨G,I,J,K,L⟩:=C3.bs.Au;have V:=C3.xb.cell 1;have X:=C3.wg.cell 4;simp only[gX,atY,at0,at1]at V X;have aj:∀W',ou w w2 w4 wr l[k] y (Am n y l[k].amount) W'->∃k':Nat,k'<=l.length/\Value.int .i64 ((k:Int)+1)=.int .i64 k'/\Hid (∀j,(F:j<l.length)->j<k'->(iA p l[j].code).isSome=true)/\Bs W' w2.heap.size (fN p (l.take k'))/\IP (k'*1000000000) (fN p (l.take k'))/\Bs W' w.heap.size ez/\Below w2.heap.size w2 W':=by intro W' hC;refine⟨k+1,by omega,by go_num,Sg.out,by rw[EST.out];exact hC.bs,?_,hC.rs,hC.bh⟩;have e9:((k+1:Nat):Int)*1000000000=(k:Int)*1000000000+1000000000:=(by omega);rw[EST.out,e9];exact Qf
         have jm:=atM aj;clear aj;rcases D:y.gU with _|_
         ·have C4:ou w w2 w4 wr l[k] y (Am n y l[k].amount) wc:=(by simpa[Am,D]using C3);clear C3;go_wp2;go_roundw
          case rel=>
           have O:=jm.out _ C4
           first|exact O|((repeat apply Exists.intro);exact⟨O,rfl⟩)
          case measure=>simp[intOf];omega
         ·have C4:ou w w2 w4 wr l[k] y (Am n y l[k].amount) (wc.setCell ⟨w2.heap.size,4,none⟩ (.int .i64 (n.a+l[k].amount))):=(by simpa[Am,D]using C3.abP (n.a+l[k].amount));clear C3;go_wp2;go_roundw
          case rel=>
           have O:=jm.out _ C4
           first|exact O|((repeat apply Exists.intro);exact⟨O,rfl⟩)
          case measure=>simp[intOf];omega
    ·have kO:l.take k=l:=aut (by omega);rw[kO]at eY k8;have aM:Hid (missing p l=false):=by
      rw[Hid,missing,auC];intro x hx;obtain⟨j,F,rfl⟩:=aun.1 hx;have:=M.out j F (by omega);rw[Option.isSome_iff_ne_none]at this;simpa using this
     obtain⟨P,Q,R,S,T⟩:=eY.cells;obtain⟨p0,p1,p2,p3,p4⟩:=N.cells;obtain⟨G,I,J,K,L⟩:=N.Au;have ja:Hid (Below w.heap.size w wr):=bm.trans (ae.mono (by omega));have kS:Hid (eL p l l=if qd (fN p l)=false then 4 else 0):=by simp only[Hid,eL,HV.out,H0.out,aM.out,auw,Bool.true_eq_false,auT,ne_eq,not_true_eq_false]
     have az:w.heap.size<wr.heap.size:=(by omega);clear kO M k8;generalize gu:fN p l=n at*;have aQ:=atM gu;clear gu;go_wp2
     go_loop [95] (fun i=>∃k:Nat,k<=5/\i=.int .i64 k/\Hid (∀j,j<k->cQ (FV n j)=true)) (fun i=>5-(intOf i).toNat)
     case atStart=>exact⟨0,by omega,rfl,fun j F=>absurd F (by omega)⟩
     case round=>
      obtain⟨m,hm,rfl,aX⟩:=hrel;by_cases jY:m<5
      ·have a4:=aoD n m jY;by_cases ha:cQ (FV n m)=true
       ·go_wp2_with(go_at_call 158;refine(NK _ _).mono ?_;rintro e w' ⟨rfl,rfl⟩);go_round
        case rel=>
         refine⟨m+1,by omega,by go_num,fun j F=>?_⟩;rcases at6 j m with h1|h1
         ·exact aX.out j h1
         ·obtain rfl:j=m:=by omega
          exact ha
        case measure=>simp[intOf];omega
       ·have aR:cQ (FV n m)=false:=(by simpa using ha);have HE:Hid (eL p l l=4):=(by rw[Hid,kS.out,atP (aoE jY aR)]);clear ha;go_wp2_with(go_at_call 158;refine(NK _ _).mono ?_;rintro e w' ⟨rfl,rfl⟩);have u:=(N.put ez)
        have z:Below w.heap.size w _:=D1 ja.out (atN _) (.int .i64 0) (.int .i64 0) (.int .i64 0) (.int .i64 0) (.int .i64 0);simp only[ez]at u;generalize World.setCell _ ⟨w.heap.size,4,none⟩ _=WW at u z|-;obtain⟨z0,z1,z2,z3,z4⟩:=u.cells;refine at5 (v:=gV p l l) ?_ rfl ⟨rfl,z⟩;rw[gV,HE.out];simp[results,results102,go_sem,z0,z1,z2,z3,z4,nw,ez]
      ·have HE:Hid (eL p l l=0):=(by rw[Hid,kS.out,atO (by rw[aoF (fun j F=>aX.out j (by omega))];simp)]);go_wp2;have u:=(N.put n)
       have z:Below w.heap.size w _:=D1 ja.out (atN _) (.int .i64 n.g) (.int .i64 n.c) (.int .i64 n.t) (.int .i64 n.i) (.int .i64 n.a);generalize World.setCell _ ⟨w.heap.size,4,none⟩ _=WW at u z|-;obtain⟨z0,z1,z2,z3,z4⟩:=u.cells;refine at5 (v:=gV p l l) ?_ rfl ⟨rfl,z⟩;rw[gV,HE.out,atP rfl,aQ.out];simp[results,results102,go_sem,z0,z1,z2,z3,z4,nw]
  ·have Gu:(ey l !=0)=true:=(by simpa using h0);have HE:Hid (eL p l l=ey l):=by
    rw[Hid,eL,atO (by simp[HV.out]),atP h0]
   have H0:=atM h0;obtain⟨p0,p1,p2,p3,p4⟩:=aC.cells;obtain⟨G,I,J,K,L⟩:=aC.Au;have ja:=atM bm;clear h0;go_wp2;have u:=(aC.put ez)
   have z:Below w.heap.size w _:=D1 ja.out (atN _) (.int .i64 0) (.int .i64 0) (.int .i64 0) (.int .i64 0) (.int .i64 0);simp only[ez]at u;generalize World.setCell _ ⟨w.heap.size,4,none⟩ _=WW at u z|-;obtain⟨z0,z1,z2,z3,z4⟩:=u.cells;refine at5 (v:=gV p l l) ?_ rfl ⟨rfl,z⟩;rw[gV,HE.out,atO H0.out];simp[results,results102,go_sem,z0,z1,z2,z3,z4,nw,ez]
 ·have aT:k9 p=false:=by simpa using hv
  have HE:Hid (eL p l l=1):=by rw[Hid,eL,atP aT]
  obtain⟨p0,p1,p2,p3,p4⟩:=ak.cells;obtain⟨G,I,J,K,L⟩:=ak.Au;have ja:=atM aS;clear hv;go_wp2;have u:=(ak.put ez)
  have z:Below w.heap.size w _:=D1 ja.out (atN _) (.int .i64 0) (.int .i64 0) (.int .i64 0) (.int .i64 0) (.int .i64 0);simp only[ez]at u;generalize World.setCell _ ⟨w.heap.size,4,none⟩ _=WW at u z|-;obtain⟨z0,z1,z2,z3,z4⟩:=u.cells;refine at5 (v:=gV p l l) ?_ rfl ⟨rfl,z⟩;rw[gV,HE.out];simp[results,results102,go_sem,z0,z1,z2,z3,z4,nw,ez]
def kK(p:ByteArray->Bool):List Elem->Int
 |[]=>0
 |x::l=>(if p x.code=true then x.amount else 0)+kK p l
theorem aoK(p:ByteArray->Bool)(l:List Elem)(e:Elem):kK p (put l e)=kK p l+if p e.code=true then e.amount else 0:=by
 induction l with
 |nil=>simp[put,kK]
 |cons a l j=>
  rw[put];split
  ·simp only[kK,j];omega
  ·split
   ·rename_i h;have n:a.code=e.code:=by
     apply WA;rw[ByteArray.toList_eq,ByteArray.toList_eq]at h;simpa using h
    simp only[kK,n];split<;>omega
   ·simp only[kK];omega
theorem aoL(p:ByteArray->Bool)(l:List Elem):∀e,kK p (l.foldl put e)=kK p e+kK p l:=by
 induction l with
 |nil=>intro e;simp[kK]
 |cons a l j=>intro e;rw[au1,j,aoK];simp only[kK];omega
theorem aoM(p:ByteArray->Bool)(l:List Elem):kK p (bG l)=kK p l:=by rw[bG,aoL];simp[kK]
def JS(e:List dr)(c:ByteArray):dr:=(iA e c).getD nD
theorem aoN(e:List dr)(l:List Elem):∀b:eU,l.foldl (JP e) b=⟨b.g+kK (fun _=>true) l,b.c+kK (fun c=>decide ((JS e c).kind=1)) l,b.t+kK (fun c=>(JS e c).jS) l,b.i+kK (fun c=>(JS e c).aO) l,b.a+kK (fun c=>(JS e c).gU) l⟩:=by
 induction l with
 |nil=>intro b;simp[kK]
 |cons x l j=>intro b;rw[au1,j];simp only[JP,Am,kK,JS,aup,Int.add_assoc];by_cases n:((iA e x.code).getD nD).kind=1<;>simp[n]<;>(refine⟨?_,?_,?_⟩<;>congr)
theorem ZH(e:List dr)(l:List Elem):fN e l=⟨kK (fun _=>true) l,kK (fun c=>decide ((JS e c).kind=1)) l,kK (fun c=>(JS e c).jS) l,kK (fun c=>(JS e c).aO) l,kK (fun c=>(JS e c).gU) l⟩:=by rw[fN,aoN];simp[ez]
theorem ag5(e:List dr)(l:List Elem):fN e (bG l)=fN e l:=by rw[ZH,ZH];simp only[aoM]
theorem aoO(n:List dr)(l:List Elem):missing n (bG l)=missing n l:=by
 rw[Bool.eq_iff_iff,missing,missing,auy,auy];constructor
 ·rintro⟨x,j,h⟩;obtain⟨y,hy,e⟩:=Wz j;exact⟨y,hy,by rw[e];exact h⟩
 ·rintro⟨y,hy,h⟩;have p:fI (bG l) y.code.data.toList=true:=by
   rw[SK];exact auy.2 ⟨y,hy,by simp⟩
  obtain⟨x,j,e⟩:=auy.1 p;have r:x.code=y.code:=WA (by simpa using e);exact⟨x,j,by rw[r];exact h⟩
theorem aoP(e:List dr)(l:List Elem):gV e l (bG l)=gV e l l:=by
 have h:eL e l (bG l)=eL e l l:=by simp only[eL,ag5,aoO]
 rw[gV,gV,h,ag5]
open Go.RowKit Go.Sort Go.Shelf
theorem aoQ{e:List dr}(j:k9 e=true){c:ByteArray}(p:(iA e c).isSome=true):((iA e c).getD nD).kind=1\/((iA e c).getD nD).kind=2:=by obtain⟨x,l⟩:=Option.isSome_iff_exists.1 p;rw[l];have r:=List.mem_of_find?_eq_some (show e.find? (NX c)=some x from l);simp only[k9,aub,auc]at j;obtain⟨i,hi,rfl⟩:=aun.1 r;have n:=j.2 i hi;simp only[oM,aub,avn,beq_iff_eq]at n;exact n.1.1.2
def aoR(e:World)(g:Nat)(c:np)(s:jB)(j:List cH)(b:eU)(l:List cH)(w':World):Prop:=
 ∃n,dI e g c {s with b:=b,lv:=n,left:=b.c} (j++l) w'
theorem aoS{n:World}{g:Nat}{c:np}{s:jB}{Q:List cH}{w:World}(h:dI n g c s Q w)(hr:c.r.In n)(E:Option Addr)(U:Nat)(e:List Elem)(hE:ai aN 2 n n.heap.size E e)(R:k9 c.r.ws=true)
  (hz:∀x∈e,x.code.size<=maxLen) (iP:e.length<=1000000) (hl:Q.length<=100):
  Calls prog 52 #[.pointer (some ⟨g,0,none⟩),.slice E e.length U] w (Me n (eL c.r.ws e (bG e)) (aoR n g c s Q (fN c.r.ws (bG e)) (kU c.r.ws ((bG e).filter nz)))):=by
 have V:Hid (∀W,Below n.heap.size n W->Calls prog 102 #[.slice c.r.Aw c.r.ws.length c.r.cw,.slice E e.length U] W fun x w'=>x=.returned (gV c.r.ws e (bG e))/\Below W.heap.size W w'):=fun W I=>by rw[aoP];exact aoG c.r.Aw E c.r.cw U c.r.ws e W (hr.ws.aa I) (KU R).2 (by have:=(KU R).1;omega) (hE.aa I) hz (by omega)
 have z0:w.cell? ⟨g,0,none⟩=some (.slice c.r.Aw c.r.ws.length c.r.cw):=h.blk.cell 0;obtain⟨X,p⟩:∃X,X=eL c.r.ws e (bG e):=⟨_,rfl⟩
 rw[<-p];by_cases h0:X=0;rotate_left
 ·have Y:Hid (gV c.r.ws e (bG e)=.tuple #[.agg #[.int .i64 0,.int .i64 0,.int .i64 0,.int .i64 0,.int .i64 0],.int .i64 X]):=by
   rw[Hid,gV,<-p,atO h0];rfl
  rw[Y.out]at V;have Z:=h.bh;clear h hr hE R hz p Y;go_enter func52,ntmps52;go_wp2_with fail;refine(V.out _ Z).mono ?_;rintro x D ⟨rfl,u⟩;have aS:=aA Z u;have aR:(X !=0)=true:=by simp[h0]
  go_upto_region 2 with fail
  have B:=bC D (.cells #[.int .i64 0,.int .i64 0,.int .i64 0,.int .i64 0,.int .i64 0] 24);have bm:=aA aS B;generalize D.alloc (Obj.cells _ _)=W2 at bm|-;go_wp2;go_ret;exact⟨rfl,bm,fun e=>absurd e h0⟩
 ·subst h0;obtain⟨_,lX,Xw,Xx⟩:=Ik p.symm;have I:=MP Xx;have Y:Hid (gV c.r.ws e (bG e)=.tuple #[.agg #[.int .i64 (fN c.r.ws (bG e)).g,.int .i64 (fN c.r.ws (bG e)).c,.int .i64 (fN c.r.ws (bG e)).t,.int .i64 (fN c.r.ws (bG e)).i,.int .i64 (fN c.r.ws (bG e)).a],.int .i64 0]):=by
   rw[Hid,gV,<-p,atP rfl];rfl
  rw[Y.out]at V;have SA:Hid (∀W,Below n.heap.size n W->Calls prog 103 #[.slice E e.length U] W fun x w'=>∃A L,x=.returned (.tuple #[.slice A ((bG e).filter nz).length L,.int .i64 0])/\ai aN 2 w' w'.heap.size A ((bG e).filter nz)/\(∀a,A=some a->W.heap.size<=a.block)/\Below W.heap.size W w'):=fun W I=>by have J:BC e=(bG e).filter nz:=(by rw[BC,atP lX]);have:=agu E U e W (hE.aa I) hz (by omega);rw[J,lX]at this;exact this.mono fun _ _ ⟨A,L,h1,h2,_,_,h5,h6⟩=>⟨A,L,h1,h2,h5,h6⟩
  have mz:Hid (∀x∈(bG e).filter nz,∀W,Below n.heap.size n W->Calls prog 74 #[.slice c.r.Aw c.r.ws.length c.r.cw,.string x.code] W fun e w'=>e=.returned (.tuple #[.agg (gX ((iA c.r.ws x.code).getD nD)).toArray,.bool true])/\Below W.heap.size W w'):=fun x hx W I=>by
   have hs:(iA c.r.ws x.code).isSome=true:=by have:=auC.1 Xw x (CJ hx);cases hh:iA c.r.ws x.code<;>simp_all
   have:=ag1 c.r.Aw c.r.cw c.r.ws x.code W (hr.ws.aa I) (by have:=(KU R).1;omega)
   rwa [Dy,hs]at this
  have Zx:Hid (∀x∈(bG e).filter nz,((iA c.r.ws x.code).getD nD).kind=1\/((iA c.r.ws x.code).getD nD).kind=2):=fun x hx=>by refine aoQ R ?_;have:=auC.1 Xw x (CJ hx);cases hh:iA c.r.ws x.code<;>simp_all
  have aM:((bG e).filter nz).length<=128:=at7 (auk _ _) (Xy lX).2;have RM:Hid (∀k,(kU c.r.ws (((bG e).filter nz).take k)).length<=128):=fun k=>by have:=auk nz (((bG e).filter nz).take k);simp only[kU,auq,auH]at this|-;omega
  have Wh:Hid (∀x∈(bG e).filter nz,x.amount≠0):=fun x hx=>by have:=(auR.1 hx).2;simpa[nz]using this
  have HI:=atM h;have Z:=h.bh;clear h hr hE R hz p Y lX Xw Xx;generalize (bG e).filter nz=j at*;generalize fN c.r.ws (bG e)=b at*;obtain⟨⟨g0,g1⟩,⟨c0,c1⟩,⟨t0,t1⟩,⟨i0,i1⟩,⟨a0,a1⟩⟩:=I;go_enter func52,ntmps52;go_wp2_with fail;refine(V.out _ Z).mono ?_;rintro x D ⟨rfl,u⟩;have z:=HI.out.aa u;have eT:=Mv.bh (g:=g) (v:=s.lv) u;go_upto_region 2 with fail
  have eY:=ah.new D 24 #[.int .i64 b.g,.int .i64 b.c,.int .i64 b.t,.int .i64 b.i,.int .i64 b.a];have B:=bC D (.cells #[.int .i64 b.g,.int .i64 b.c,.int .i64 b.t,.int .i64 b.i,.int .i64 b.a] 24);have ab:D.heap.size≠g:=by have:=z.lt;omega
  have ad:s.lv.ownBlock≠some D.heap.size:=fun e=>by have:=(z.row _ e).2;omega
  have PH:=Mv.bh (g:=g) (v:=s.lv) B;have S:=z.aa B;have jX:=eT.trans PH;generalize D.heap.size=gb at*;generalize D.alloc (Obj.cells _ _)=W2 at eY S jX|-;clear z eT PH B u HI V;go_wp2_with fail;refine(SA.out _ S.bh).mono ?_;rintro x w3 ⟨A3,c3,rfl,fW,af,M⟩;have ak:=nR.new fW af S.lt (fun q hq=>(S.row q hq).2);have kn:=S.aa M;have bA:=eY.aa M;have KP:Hid (nR aN 2 w3 g s.lv A3 j):=ak;clear S jX eY fW af M SA Z ak;go_wp2_with fail
  go_loopw [36] (fun i wr=>∃(k:Nat) (K:Value),k<=j.length/\i=.int .i64 k/\dI n g c {s with lv:=K} (Q++kU c.r.ws (j.take k)) wr/\Mv g s.lv w3 K wr) (fun i _=>j.length-(intOf i).toNat)
  case atStart=>exact⟨0,s.lv,by omega,rfl,by simpa[kU]using kn,Mv.refl _ _ _⟩
  case round=>
   rename World=>wr
   obtain⟨k,vl,hk,rfl,l,J⟩:=hrel;have aY:=bA.mv J ab ad;have an:=J.far bA.lt ad;by_cases N:k<j.length
   ·obtain⟨bb,off,oF,gu,hc⟩:=(KP.out.mv J).sl.at_ N;have c0:=hc 0 _ rfl;have c1:=hc 1 _ rfl;simp only[atQ]at c0;rw[oF];have fJ:=atT N;have nV:Hid (kU c.r.ws (j.take (k+1))=kU c.r.ws (j.take k)++[⟨P6 c.r.ws j[k],j[k].code,j[k].amount⟩]):=by
     rw[Hid,aud N,agw];congr 1;rw[kU,List.filter_cons_of_pos (by simp[nz,Wh.out _ fJ])];rfl
    have fL:(k:Int)<(j.length:Int):=(by omega);have O:=atM (mz.out _ fJ);have Gv:=atM (Zx.out _ fJ);have al:Hid (P6 c.r.ws j[k]=if((iA c.r.ws j[k].code).getD nD).kind=1 then 1 else 2):=by rw[Hid,P6,iB];by_cases hh:((iA c.r.ws j[k].code).getD nD).kind=1<;>simp[hh]
    have am:=Wh.out _ fJ;have OO:=RM.out k;clear hc fJ;generalize j[k]=x at*;generalize ao:(iA c.r.ws x.code).getD nD=wt at*;have V9:Hid (∀kd,ag kd [⟨x.code,x.amount⟩]=[⟨kd,x.code,x.amount⟩]):=fun kd=>adQ kd x.code am;have dp:=ah.new wr 69 #[.string x.code,.int .i64 x.amount];have B:=bC wr (.cells #[.string x.code,.int .i64 x.amount] 69);have oX:vl.ownBlock≠some wr.heap.size:=fun e=>by have:=(l.row _ e).2;omega
    have aT:wr.heap.size≠g:=(by have:=l.lt;omega);go_upto_region 10 with fail
    generalize wr.alloc (Obj.cells _ _)=W1 at dp B|-;have z:=l.aa B;have eT:=J.trans (Mv.bh B);clear B;generalize wr.heap.size=go at*;have NA:=z.lt;have mI:=dp.lt;have Qg:W1.cell? ⟨g,0,none⟩=some (.slice c.r.Aw c.r.ws.length c.r.cw):=z.blk.cell 0;have I5:W1.cell? ⟨go,0,none⟩=some (.string x.code):=dp.cell 0;clear l J c0 c1 ao am;go_upto_region 11 with fail
    refine ZT (aE:=?C9) (t:=77) (zs:=#[.string ⟨#[]⟩,.int .i64 0,.bool false,.bool false,.bool false,.int .i64 0]) [0,1,2,3,4,5,6,7,8,9,10] 11 12 13 #[.string wt.code,.int .i64 wt.kind,.bool wt.jS,.bool wt.aO,.bool wt.gU,.int .i64 wt.eQ] (.bool true) (by kernel_rfl) (by kernel_rfl) rfl (by kernel_rfl) (by kernel_rfl) (by rfl) (by kernel_rfl) (by kernel_rfl) (by kernel_rfl) (by kernel_rfl) rfl rfl rfl rfl rfl rfl rfl rfl rfl rfl rfl (fun _ _=>by go_simp) rfl (by kernel_rfl) rfl ?H1 ?E1 ?M1
    case H1=>
     intro F hF aQ;simp only[M3.cL,atY,at0,at1];have e0:=aP.dK (F:=F) (a:=⟨g,0,none⟩) (by exact NA) Qg;have d0:=aP.dK (F:=F) (a:=⟨go,0,none⟩) (by exact mI) I5
     repeat(first|go_big_quiet_step(first|(with_reducible exact aP.call (jk _ _ (atN _)) hF _ (O.out _ (aA z.bh (aP.h _)))))|quiet_step(first|(with_reducible exact aP.call (jk _ _ (atN _)) hF _ (O.out _ (aA z.bh (aP.h _))))))
     refine wpQuiet_nil ?_;rfl
    case E1=>exact fun _=>⟨rfl,rfl,rfl⟩
    case M1=>
     intro g2 w4 aU pZ G
     try simp only[Act.put,aua,at8,at9]
     have mn:=z.aa G;have kY:=eT.trans (Mv.bh G);have P:=dp.aa G;have z1:w4.cell? ⟨g2,1,none⟩=some (.int .i64 wt.kind):=pZ.cell 1;have q0:w4.cell? ⟨go,0,none⟩=some (.string x.code):=P.cell 0;have q1:w4.cell? ⟨go,1,none⟩=some (.int .i64 x.amount):=P.cell 1;clear z eT dp G Qg I5 O pZ P;rcases Gv.out with j0|hk2
     ·have ap:(wt.kind==2)=false:=(by simp[j0]);rw[al.out,atP j0]at nV;go_wp2_with fail;refine(Kq mn 1 x.code x.amount (by simp;omega)).mono ?_;rintro e w5 ⟨rfl,v5,C,T⟩;have pI:=kY.trans T;rw[V9.out,auG,<-nV.out]at C;go_wp2;go_roundw
      case rel=>
       have aj:∃(k':Nat) (K:Value),k'<=j.length/\Value.int .i64 ((k:Int)+1)=.int .i64 k'/\dI n g c {s with lv:=K} (Q++kU c.r.ws (j.take k')) w5/\Mv g s.lv w3 K w5:=⟨k+1,v5,by omega,by go_num,C,pI⟩
       first|exact aj|((repeat apply Exists.intro);exact⟨aj,rfl⟩)
      case measure=>simp[intOf];omega
     ·have ap:(wt.kind==2)=true:=(by simp[hk2]);rw[al.out,atO (by omega)]at nV;go_wp2_with fail;refine(Kq mn 2 x.code x.amount (by simp;omega)).mono ?_;rintro e w5 ⟨rfl,v5,C,T⟩;have pI:=kY.trans T;rw[V9.out,auG,<-nV.out]at C;go_wp2;go_roundw
      case rel=>
       have aj:∃(k':Nat) (K:Value),k'<=j.length/\Value.int .i64 ((k:Int)+1)=.int .i64 k'/\dI n g c {s with lv:=K} (Q++kU c.r.ws (j.take k')) w5/\Mv g s.lv w3 K w5:=⟨k+1,v5,by omega,by go_num,C,pI⟩
       first|exact aj|((repeat apply Exists.intro);exact⟨aj,rfl⟩)
      case measure=>simp[intOf];omega
   ·obtain rfl:k=j.length:=by omega
    rw[auv]at l;have av:wr.cell? ⟨g,27,none⟩=some (.int .i64 s.b.g):=l.blk.cell 27;have az:wr.cell? ⟨g,28,none⟩=some (.int .i64 s.b.c):=l.blk.cell 28;have aC:wr.cell? ⟨g,29,none⟩=some (.int .i64 s.b.t):=l.blk.cell 29;have aD:wr.cell? ⟨g,30,none⟩=some (.int .i64 s.b.i):=l.blk.cell 30;have aJ:wr.cell? ⟨g,31,none⟩=some (.int .i64 s.b.a):=l.blk.cell 31;have f27:=l.blk.frozen 27;have f28:=l.blk.frozen 28;have f29:=l.blk.frozen 29;have f30:=l.blk.frozen 30;have f31:=l.blk.frozen 31;obtain⟨z0,z1,z2,z3,z4⟩:=aY.cz5;go_upto_region 17 with fail
    have C:=l.anL b;have T:=dI.mvB (g:=g) (w:=wr) b vl;generalize World.setCell _ ⟨g,31,none⟩ _=W5 at C T|-;have eR:=aY.mv T ab an;have b1:W5.cell? ⟨gb,1,none⟩=some (.int .i64 b.c):=eR.cell 1;have aV:W5.cell? ⟨g,33,none⟩=some (.int .i64 s.left):=C.blk.cell 33;have f33:=C.blk.frozen 33;clear l J aY eR z0 z1 z2 z3 z4 av az aC aD aJ f27 f28 f29 f30 f31;go_wp2;go_ret;have pH:=C.Vz b.c;exact⟨rfl,pH.bh,fun _=>⟨vl,pH⟩⟩
