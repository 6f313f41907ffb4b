/- Joined texts: TgV4 TgU TgZ. Conditions: as stated. -/
import Derived.Deep.DeepCutAuto
import Derived.Test.YtopekilofdadnaaGreatDoorJTvN
import Derived.Test.YtopekilofdadnaaGreatDoorJTgC3
import Derived.Test.YtopekilofdadnaaGreatDoorJTgV2
namespace Go.Proofs.YtopekilofdadnaaGreatDoor
open Go.RowKit Go.Sort Go.Shelf
theorem addPc_len (l:List PcT) (p:PcT) : (addPc l p).length≤l.length+1:=by
 unfold addPc
 split
 ·
  simp
 ·
  split
  ·
   simp
  ·
   simp
theorem divL_end {r:BandsT} {day t : Int} {K:Nat} {d:DvS} {F:Int} (h : ¬ F < t) : divL r day t K d F = d:=by
 cases K with
 | zero=>rfl
 | succ K=>rw [divL,if_neg h]
theorem divL_step {r:BandsT} {day t : Int} {K:Nat} {d:DvS} {F:Int} (h:F < t) (hK : (t - F).toNat≤K) : ∃ K',(t - (F+(nextB r d day (t - F)).2)).toNat≤K' ∧
  divL r day t K d F = divL r day t K' { nextD r d day (t - F) with pcs:=addPc d.pcs ⟨day,⟨F,F+(nextB r d day (t - F)).2⟩,(nextB r d day (t - F)).1⟩ } (F+(nextB r d day (t - F)).2):=by
 obtain ⟨K',rfl⟩ : ∃ K',K = K'+1:=⟨K - 1,by omega⟩
 have h1:=nextB_pos r d day (most:=t - F) (by omega)
 refine ⟨K',by omega,?_⟩
 rw [divL,if_pos h]
theorem sum_pre : ∀ (l:List SpT) (k:Nat),(∀ s ∈ l,s.iv.f < s.iv.t)→((l.take k).map fun s=>s.iv.t - s.iv.f).sum≤(l.map fun s=>s.iv.t - s.iv.f).sum
 | [],_,_=>by simp
 | s :: l,0,h=>by
  have h1:=sum_pre l 0 fun x hx=>h x (by simp [hx])
  have h2:=h s (by simp)
  simp only [List.take_zero,List.map_nil,List.sum_nil,List.map_cons,List.sum_cons] at h1 ⊢
  omega
 | s :: l,k+1,h=>by
  have h1:=sum_pre l k fun x hx=>h x (by simp [hx])
  simp only [List.take_succ_cons,List.map_cons,List.sum_cons]
  omega
structure DvBd (T:Int) (N:Nat) (st:DvS) : Prop where
 d:∀ x,0≤st.days x∧st.days x≤T
 w:∀ x,0≤st.weeks x∧st.weeks x≤T
 p:(st.pcs.length:Int)≤T
 n:(N:Int)≤2 * T
theorem upd_bd {m:Int→Int} {T n k : Int} (h : ∀ x,0≤m x∧m x≤T) (hn:0≤n) : ∀ x,0≤upd m k (m k+n) x∧upd m k (m k+n) x≤T+n:=fun x=>by
 unfold upd
 have h1:=h x
 have h2:=h k
 split <;> omega
theorem DvBd.next {T:Int} {N:Nat} {st:DvS} (h:DvBd T N st) (r:BandsT) (day most : Int) (p:PcT) (hm:1≤most) : DvBd (T+(nextB r st day most).2) (N+2) { nextD r st day most with pcs:=addPc st.pcs p }:=by
 have h1:=nextB_pos r st day hm
 have h2:=addPc_len st.pcs p
 have h3:=h.p
 have h4:=h.n
 refine ⟨?_,?_,?_,?_⟩
 ·
  show ∀ x,0≤upd _ _ _ x∧_
  exact upd_bd h.d (by omega)
 ·
  intro x
  have hw:=h.w x
  have hu:=upd_bd (k:=monN day) h.w (show 0≤(nextB r st day most).2 by omega) x
  simp only [nextD]
  split
  ·
   omega
  ·
   exact hu
 ·
  show ((addPc st.pcs p).length:Int)≤_
  omega
 ·
  omega
theorem Own.le_cap {α:Type} {enc:α→List Value} {k:Nat} {e:TypeId} {w:World} {base n c : Nat} {A:Option Addr} {xs:List α} (h:Own enc k e w base (.slice A n c) xs) : xs.length≤c:=by
 rcases h.2 with ⟨_,h0⟩ | ⟨g,cap,cur,hv,_,_,hn,_⟩
 ·
  omega
 ·
  injection hv with _ _ h3
  rw [h3]
  exact hn
def DividePost (r:BandsT) (W:List WorkT) (w:World) (e:Ending) (w' : World) : Prop :=
 ∃ A c,e = .returned (.tuple #[.slice A (divN r (sortedN W)).length c,.int .i64 0])∧SliceOf encPc 4 w' w'.heap.size A (divN r (sortedN W))∧(divN r (sortedN W)).length≤100000∧Below w.heap.size w w'∧(divN r (sortedN W)).length≤c
section
set_option maxHeartbeats 8000000
set_option maxRecDepth 100000
theorem divideO (b:BandsM) (A:Option Addr) (c:Nat) (W:List WorkM) (w:World) (hb:BandsIn w b) (hI:WorksIn w A W) (hW:SpansOk (W.map WorkM.t)) : Calls Tryz.prog 27 #[b.val,.slice A W.length c] w (DividePost b.t (W.map WorkM.t) w):=by
 have HW:=Lib.hid hW
 obtain ⟨bn,bA,bc,bl,bB,bd',bw⟩:=b
 have hb0:=below_new w (.cells #[.string bn,.slice bA bl.length bc,.slice bB bw.length bd'] 48)
 have hB0:=Blk.new w 48 #[.string bn,.slice bA bl.length bc,.slice bB bw.length bd']
 have HB:=Lib.hid (hb.adv hb0)
 have HI:=Lib.hid (hI.adv hb0)
 clear hb hI hW
 show Calls Tryz.prog 27 #[.agg #[.string bn,.slice bA bl.length bc,.slice bB bw.length bd'],.slice A W.length c] w _
 have hmm:=@run_makeMap Tryz.prog
 generalize hWW:w.alloc (.cells #[.string bn,.slice bA bl.length bc,.slice bB bw.length bd'] 48) = W0 at hb0 hB0 HB HI
 have HWW:=Lib.hid hWW
 clear hWW
 go_enter Tryz.func27,Tryz.ntmps27
 go_wp2_with fail
 rw [HWW.out]
 refine (validO ⟨bn,bA,bc,bl,bB,bd',bw⟩ _ HB.out).mono ?_
 rintro e w1 ⟨rfl,hb1⟩
 have hB1:=hB0.adv hb1
 have HI1:=Lib.hid (HI.out.adv hb1)
 have HB1:=Lib.hid (HB.out.adv hb1)
 have hbel1:=bel_adv hb0 hb1
 clear hb1 hB0 HI HB hb0 HWW
 go_wp2_with fail
 refine (spansO A c W _ HI1.out HW.out).mono ?_
 rintro e w2 ⟨A2,c2,rfl,hS2,hb2⟩
 have hB2:=hB1.adv hb2
 have HB2:=Lib.hid (HB1.out.adv hb2)
 have hbel2:=bel_adv hbel1 hb2
 have hbl2:=hB2.lt
 have z0:=hB2.cell 0
 have z1:=hB2.cell 1
 have z2:=hB2.cell 2
 simp only [nqg,nqh,nqi] at z0 z1 z2
 have HOKS:Hid (∀ s ∈ sortedN (W.map WorkM.t),(0≤s.iv.f∧s.iv.f < s.iv.t∧s.iv.t≤120968640)∧0≤s.day∧s.day≤84005):=fun s hs=>by
  have hm:=(uniC_perm (C:=spC) _ HW.out.ne).mem_iff.1 hs
  refine ⟨HW.out.ok s hm,?_⟩
  obtain ⟨x,hx,hv⟩:=List.mem_flatMap.1 hm
  obtain ⟨v,_,rfl⟩:=List.mem_map.1 hv
  exact HW.out.day x hx
 have HTOT:=Lib.hid HW.out.tot
 have HSL:Hid ((sortedN (W.map WorkM.t)).length≤1000000):=by rw [Hid,show (sortedN (W.map WorkM.t)).length = _ from (uniC_perm (C:=spC) _ HW.out.ne).length_eq]; exact HW.out.len
 have HDIV:Hid (divN (BandsM.mk bn bA bc bl bB bd' bw).t (sortedN (W.map WorkM.t)) = ((sortedN (W.map WorkM.t)).foldl (fun d s=>divL (BandsM.mk bn bA bc bl bB bd' bw).t s.day s.iv.t (s.iv.t - s.iv.f).toNat d s.iv.f) dv0).pcs):=rfl
 generalize hse:sortedN (W.map WorkM.t) = S at hS2 HOKS HTOT HSL HDIV ⊢
 have HSE:=Lib.hid hse
 clear hse
 have hsl:=HSL.out
 clear hb2 hB1 HI1 HB1 hbel1 hB2
 go_wp2
 have hD0:DvAt w2 (((w2.alloc (.map #[] 0)).alloc (.map #[] 0)).alloc (.cells #[.string bn,.slice bA bl.length bc,.slice bB bw.length bd',.map (some w2.heap.size),.map (some (w2.heap.size+1)),.slice none 0 0] 165)) (w2.heap.size+1+1) w2.heap.size (w2.heap.size+1) 0 ⟨bn,bA,bc,bl,bB,bd',bw⟩ (.slice none 0 0) dv0:=by
  refine ⟨Blk.newAt _ _ (by simp),⟨_,((MapAt.made keyI w2).alloc _).alloc _,fun _=>rfl⟩,⟨fun _=>none,?_,fun _=>rfl⟩,Own.nil_ _ _,by omega,bel_alloc (bel_alloc (below_new _ _) _) _,by omega,by omega,by omega,HB2.out⟩
  ·
   have:=(MapAt.made keyI (w2.alloc (.map #[] 0))).alloc (.cells #[.string bn,.slice bA bl.length bc,.slice bB bw.length bd',.map (some w2.heap.size),.map (some (w2.heap.size+1)),.slice none 0 0] 165)
   rw [World.size_alloc] at this
   exact this
 go_loopw [34] (fun i wr=>∃ (k N:Nat) (V:Value) (st:DvS) (T:Int),k≤S.length∧i = .int .i64 k∧DvAt w2 wr (w2.heap.size+1+1) w2.heap.size (w2.heap.size+1) N ⟨bn,bA,bc,bl,bB,bd',bw⟩ V st∧Hid (DvBd T N st)∧Hid (T = ((S.take k).map fun s=>s.iv.t - s.iv.f).sum)∧Hid (st = (S.take k).foldl (fun d s=>divL (BandsM.mk bn bA bc bl bB bd' bw).t s.day s.iv.t (s.iv.t - s.iv.f).toNat d s.iv.f) dv0)) (fun i _=>S.length - (intOf i).toNat)
 case atStart=>exact ⟨0,0,_,dv0,0,by omega,rfl,hD0,⟨fun x=>⟨by show (0:Int)≤0; omega,by show (0:Int)≤0; omega⟩,fun x=>⟨by show (0:Int)≤0; omega,by show (0:Int)≤0; omega⟩,by simp [dv0],by omega⟩,rfl,rfl⟩
 case round =>
  clear hD0 z0 z1 z2 hmm
  obtain ⟨k,N,V,st,T,hk,rfl,hD,hBD,hT,hE⟩:=hrel
  have hbs:=hD.bel.size
  by_cases hlt:k < S.length
  ·
   obtain ⟨⟨g1,g2,g3⟩,g4,g5⟩:=HOKS.out _ (List.getElem_mem hlt)
   have HT1:Hid (((S.take (k+1)).map fun s=>s.iv.t - s.iv.f).sum = T+(S[k].iv.t - S[k].iv.f)):=by rw [Hid,map_take_one _ _ _ hlt,List.sum_append,hT.out]; simp
   have HE1:Hid ((S.take (k+1)).foldl (fun d s=>divL (BandsM.mk bn bA bc bl bB bd' bw).t s.day s.iv.t (s.iv.t - s.iv.f).toNat d s.iv.f) dv0 = divL (BandsM.mk bn bA bc bl bB bd' bw).t S[k].day S[k].iv.t (S[k].iv.t - S[k].iv.f).toNat st S[k].iv.f):=by rw [Hid,List.take_succ_eq_append_getElem hlt,List.foldl_append,← hE.out]; rfl
   have htot:T+(S[k].iv.t - S[k].iv.f)≤100000:=by
    rw [← HT1.out]
    exact Int.le_trans (sum_pre S (k+1) fun s hs=>(HOKS.out s hs).1.2.1) HTOT.out
   have hT0:0≤T:=by have:=(hBD.out.d 0); omega
   obtain ⟨q,off,rfl,hq,hc⟩:=(hS2.below hD.bel).at_ hlt
   have c0:=hc 0 _ rfl
   have c1:=hc 1 _ rfl
   have c2:=hc 2 _ rfl
   simp only [Nat.add_zero] at c0
   have hqw:q < wr.heap.size:=by omega
   have hki:(k:Int) < (S.length:Int):=by omega
   clear hc hT hE
   generalize S[k] = x at c0 c1 c2 g1 g2 g3 g4 g5 HT1 HE1 htot
   obtain ⟨day,f,t⟩:=x
   simp only at c0 c1 c2 g1 g2 g3 g4 g5 HT1 HE1 htot
   have hBX:=Blk.new wr 167 #[.int .i64 day,.int .i64 f,.int .i64 t]
   have hDA:=hD.adv (below_new wr (.cells #[.int .i64 day,.int .i64 f,.int .i64 t] 167))
   clear hD
   go_wp2
   generalize hb8:wr.heap.size = b8 at hBX ⊢
   generalize wr.alloc (.cells #[.int .i64 day,.int .i64 f,.int .i64 t] 167) = W8 at hBX hDA ⊢
   clear hb8 c0 c1 c2 hqw hbs
   go_loopw [12] (fun j wz=>∃ (F:Int) (K N':Nat) (V':Value) (st':DvS),j = .int .i64 F∧f≤F∧F≤t∧(t - F).toNat≤K∧DvAt w2 wz (w2.heap.size+1+1) w2.heap.size (w2.heap.size+1) N' ⟨bn,bA,bc,bl,bB,bd',bw⟩ V' st'∧Hid (DvBd (T+(F - f)) N' st')∧Blk wz b8 167 #[.int .i64 day,.int .i64 f,.int .i64 t]∧Hid (divL (BandsM.mk bn bA bc bl bB bd' bw).t day t (t - f).toNat st f = divL (BandsM.mk bn bA bc bl bB bd' bw).t day t K st' F)) (fun j _=>(t - intOf j).toNat)
   case atStart=>exact ⟨f,(t - f).toNat,N,V,st,rfl,by omega,by omega,by omega,hDA,by rw [Int.sub_self,Int.add_zero]; exact hBD.out,hBX,rfl⟩
   case round =>
    clear hDA hBX
    obtain ⟨F,K,N',V',st',rfl,F1,F2,hK,hD,hBD',hBX,hE⟩:=hrel
    have hbl:=hBX.lt
    have HBX:=Lib.hid hBX
    have x0:=hBX.cell 0
    have x1:=hBX.cell 1
    have x2:=hBX.cell 2
    simp only [nqg,nqh,nqi] at x0 x1 x2
    by_cases hF:F < t
    ·
     obtain ⟨K',hK',hst⟩:=divL_step (r:=(BandsM.mk bn bA bc bl bB bd' bw).t) (d:=st') (day:=day) hF hK
     have HST:=Lib.hid (hE.out.trans hst)
     have hnp:=nextB_pos (BandsM.mk bn bA bc bl bB bd' bw).t st' day (most:=t - F) (by omega)
     obtain ⟨n1,n2⟩:=hnp
     have HNX:=Lib.hid (fun p=>hBD'.out.next (BandsM.mk bn bA bc bl bB bd' bw).t day (t - F) p (by omega))
     have hdd:=hBD'.out.d day
     have hdw:=hBD'.out.w (monN day)
     have hdp:=hBD'.out.p
     have hdn:=hBD'.out.n
     have hNb:N'≤1000000:=by omega
     have hTB:(0≤st'.days day∧st'.days day≤200000)∧0≤st'.weeks (monN day)∧st'.weeks (monN day)≤200000:=by omega
     have HTB:=Lib.hid hTB
     have HD:=Lib.hid hD
     have hpl:st'.pcs.length≤1000000:=by omega
     clear hE hst hdd hdw hdn hTB hD hBX hdp
     go_wp2_with fail
     refine (nextO w2 _ _ _ N' _ V' st' day (t - F) _ HD.out ⟨g4,g5⟩ ⟨by omega,by omega⟩ hNb HTB.out).mono ?_
     rintro e w5 ⟨rfl,hD5,hK5,hs5⟩
     have hBX5:=hK5 _ _ _ HBX.out (by decide) (by decide)
     have hbl5:=hBX5.lt
     have HBX5:=Lib.hid hBX5
     have HD5:=Lib.hid hD5
     have hpl5:(nextD (BandsM.mk bn bA bc bl bB bd' bw).t st' day (t - F)).pcs.length≤1000000:=hpl
     clear x0 x1 x2 hbl
     have x0:=hBX5.cell 0
     have x1:=hBX5.cell 1
     have x2:=hBX5.cell 2
     simp only [nqg,nqh,nqi] at x0 x1 x2
     generalize hNB:nextB (BandsM.mk bn bA bc bl bB bd' bw).t st' day (t - F) = nb at HST HNX n1 n2 hK' ⊢
     obtain ⟨band,n⟩:=nb
     simp only at HST HNX n1 n2 hK'
     have HP5:Hid ((nextD (BandsM.mk bn bA bc bl bB bd' bw).t st' day (t - F)).pcs = st'.pcs):=rfl
     generalize nextD (BandsM.mk bn bA bc bl bB bd' bw).t st' day (t - F) = st5 at HD5 HST HNX hpl5 HP5
     rw [← HP5.out] at HST HNX
     clear HP5
     clear hNB hD5 hK5 hBX5
     go_wp2_with fail
     refine (addO w2 _ _ _ (N'+2) _ V' st5 day F (F+n) band _ HD5.out hpl5).mono ?_
     rintro e w6 ⟨rfl,⟨V6,hD6⟩,hK6,hs6⟩
     have HBX6:=Lib.hid (hK6 _ _ _ HBX5.out (by decide) (by decide))
     have HD6:=Lib.hid hD6
     clear hD6 hK6
     go_wp2
     go_roundw
     case rel=>exact ⟨F+n,K',N'+2,V6,_,rfl,by omega,by omega,hK',HD6.out,by rw [show T+(F+n - f) = T+(F - f)+n by omega]; exact HNX.out _,HBX6.out,HST.out⟩
     case measure=>simp [intOf]; omega
    ·
     obtain rfl:F = t:=by omega
     have hst:=hE.out
     rw [divL_end (K:=K) (by omega),← HE1.out] at hst
     have HST:=Lib.hid hst
     have HD:=Lib.hid hD
     clear hst hE hD
     go_wp2
     go_roundw
     case rel=>exact ⟨k+1,N',V',st',T+(F - f),by omega,by go_num,HD.out,hBD'.out,HT1.out.symm,HST.out.symm⟩
     case measure=>simp [intOf]; omega
  ·
   obtain rfl:k = S.length:=by omega
   have hE2:=hE.out
   rw [List.take_length] at hE2
   have HPC:Hid (st.pcs = divN (BandsM.mk bn bA bc bl bB bd' bw).t S):=by rw [Hid,HDIV.out,hE2]
   have hT2:=hT.out
   rw [List.take_length] at hT2
   have hlen:st.pcs.length≤100000:=by
    have:=hBD.out.p
    have:=HTOT.out
    omega
   obtain ⟨A3,c3,hv3,hS3,_,_⟩:=hD.pcs.form encPc_len
   subst hv3
   have hcap3:=hD.pcs.le_cap
   have hbelF:=bel_adv hbel2 hD.bel
   have hBlk:=hD.blk
   have hbl:=hBlk.lt
   have y0:=hBlk.cell 0
   have y1:=hBlk.cell 1
   have y2:=hBlk.cell 2
   have y3:=hBlk.cell 3
   have y4:=hBlk.cell 4
   have y5:=hBlk.cell 5
   simp only [nqg,nqh,nqi] at y0 y1 y2 y3 y4 y5
   have HS3:=Lib.hid hS3
   clear hE hE2 hT hT2 hBD hD hBlk hS3
   go_wp2
   go_ret2
   exact ⟨A3,c3,by rw [HSE.out,← HPC.out]; rfl,by rw [HSE.out,← HPC.out]; exact HS3.out,by rw [HSE.out,← HPC.out]; exact hlen,hbelF,by rw [HSE.out,← HPC.out]; exact hcap3⟩
end
end Go.Proofs.YtopekilofdadnaaGreatDoor
namespace Go.Proofs.YtopekilofdadnaaGreatDoor
open Go.RowKit Go.Sort Go.Shelf
def idxS (ks:List ByteArray) (k:ByteArray) : Option Nat:=ks.findIdx? (fun x=>decide (x = k))
theorem idxS_app (ks:List ByteArray) (a k : ByteArray) (h:idxS ks a = none) : idxS (ks++[a]) k = if k = a then some ks.length else idxS ks k:=by
 unfold idxS at *
 rw [List.findIdx?_append]
 by_cases e:k = a
 ·
  subst e
  rw [h,if_pos rfl]
  simp
 ·
  rw [if_neg e]
  cases hk:List.findIdx? (fun x=>decide (x = k)) ks with
  | some i=>rfl
  | none=>simp [show ¬ a = k from fun x=>e x.symm]
theorem idxS_some {ks:List ByteArray} {k:ByteArray} {i:Nat} (h:idxS ks k = some i) : ∃ hi : i < ks.length,ks[i] = k:=by
 unfold idxS at h
 obtain ⟨hi,h1,_⟩:=List.findIdx?_eq_some_iff_getElem.1 h
 exact ⟨hi,by simpa using h1⟩
theorem idxS_none {ks:List ByteArray} {k:ByteArray} (h:idxS ks k = none) : k ∉ ks:=by
 unfold idxS at h
 rw [List.findIdx?_eq_none_iff] at h
 intro hk
 simpa using h k hk
def idxSF (ks:List ByteArray) (q:ByteArray) : Option Value:=(idxS ks q).map fun i=>.int .i64 (i:Nat)
theorem putTm_new {l:List TmT} {c:ByteArray} (h:idxS (l.map (·.name)) c = none) (n:Int) : putTm l c n = l++[⟨c,n⟩]:=by
 have hn:=idxS_none h
 unfold putTm
 rw [if_neg]
 simp only [List.any_eq_true,decide_eq_true_eq,not_exists,not_and]
 intro x hx h1
 exact hn (List.mem_map.2 ⟨x,hx,h1⟩)
theorem putTm_at {l:List TmT} {c:ByteArray} {j:Nat} (hj:j < l.length) (hk:l[j].name = c) (nd : (l.map (·.name)).Nodup) (n:Int) : putTm l c n = l.set j ⟨l[j].name,l[j].min+n⟩:=by
 unfold putTm
 rw [if_pos]
 ·
  refine List.ext_getElem (by simp) fun i h1 h2=>?_
  have hi:i < l.length:=by simpa using h1
  simp only [List.getElem_map,List.getElem_set]
  by_cases e:j = i
  ·
   subst e
   rw [if_pos rfl,if_pos hk]
  ·
   rw [if_neg e,if_neg]
   intro a
   rw [List.Nodup,List.pairwise_iff_getElem] at nd
   rcases Nat.lt_or_ge i j with hl | hl
   ·
    exact nd i j (by simpa using hi) (by simpa using hj) hl (by simpa using a.trans hk.symm)
   ·
    exact nd j i (by simpa using hj) (by simpa using hi) (by omega) (by simpa using hk.trans a.symm)
 ·
  simp only [List.any_eq_true,decide_eq_true_eq]
  exact ⟨_,List.getElem_mem hj,hk⟩
theorem names_set {l:List TmT} {j:Nat} (hj:j < l.length) (n:Int) : (l.set j ⟨l[j].name,n⟩).map (·.name) = l.map (·.name):=by
 refine List.ext_getElem (by simp) fun i h1 h2=>?_
 simp only [List.getElem_map,List.getElem_set]
 split
 ·
  subst j; rfl
 ·
  rfl
theorem totN_take (l:List PcT) (day:Int) (k:Nat) (h:k < l.length) : totN (l.take (k+1)) day = if l[k].day = day then putTm (totN (l.take k) day) l[k].band (l[k].iv.t - l[k].iv.f) else totN (l.take k) day:=by
 rw [List.take_succ_eq_append_getElem h]
 unfold totN
 rw [List.foldl_append]
 rfl
structure TPlaced (wx:World) (base g0 k : Nat) (c:ByteArray) (old:List TmT) (v5 v9 : Value) (l:List TmT) (j:Nat) : Prop where
 h9:v9 = .int .i64 (j:Nat)
 hj:j < l.length
 row:Own encTm 2 64 wx base v5 l
 key:l[j].name = c
 len:l.length≤k+1
 nd:(l.map (·.name)).Nodup
 map:MapAt keyS wx g0 (k+1) (idxSF (l.map (·.name)))
 put:∀ n,putTm old c n = l.set j ⟨l[j].name,l[j].min+n⟩
 bd:∀ (i:Nat) (h:i < l.length),0≤l[i].min∧l[i].min≤k * 120968640
structure PiecesOk (l:List PcT) : Prop where
 len:l.length≤4096
 ok:∀ p ∈ l,0≤p.iv.f∧p.iv.f < p.iv.t∧p.iv.t≤120968640
 nm:∀ p ∈ l,p.band.size≤24
section
set_option maxHeartbeats 8000000
set_option maxRecDepth 100000
theorem totalsO (A:Option Addr) (c:Nat) (l:List PcT) (day:Int) (w:World) (hS:SliceOf encPc 4 w w.heap.size A l) (hl:PiecesOk l) (hc4:l.length≤c) :
  Calls Tryz.prog 68 #[.slice A l.length c,.int .i64 day] w fun e w'=>∃ v,e = .returned v∧Own encTm 2 64 w' w.heap.size v (totN l day)∧Below w.heap.size w w':=by
 have HL:=Lib.hid hl
 have hln:=hl.len
 clear hl
 have hmm:=@run_makeMap Tryz.prog
 have hmin:min l.length 4096 = l.length:=by omega
 go_enter Tryz.func68,Tryz.ntmps68
 go_wp2
 have hm0:=MapAt.made keyS w
 have hbl0:=below_new w (.map #[] 0)
 go_loopw [5,18] (fun v i wr=>∃ (k:Nat) (V:Value) (ts:List TmT),V = v∧k≤l.length∧i = .int .i64 k∧Own encTm 2 64 wr (w.heap.size+1) V ts∧ts.length≤k∧(ts.map (·.name)).Nodup∧MapAt keyS wr w.heap.size k (idxSF (ts.map (·.name)))∧Hid (ts = totN (l.take k) day)∧Hid (∀ (i:Nat) (h:i < ts.length),0≤ts[i].min∧ts[i].min≤k * 120968640)∧Below w.heap.size w wr) (fun _ i _=>l.length - (intOf i).toNat)
 case atStart=>exact ⟨0,_,[],rfl,by omega,rfl,Own.nil_ _ _,by simp,by simp,hm0.congr (fun x _=>rfl),rfl,fun i h=>by simp at h,hbl0⟩
 case round =>
  clear hm0 hbl0 hmm
  obtain ⟨k,V,ts,rfl,hk,rfl,hown,htl,hnd,hM,hE,hBD,hbr⟩:=hrel
  have hbs:=hbr.size
  have hMl:=hM.lt
  obtain ⟨DA,dc,hv⟩:=hown.slice encTm_len
  subst hv
  by_cases hlt:k < l.length
  ·
   obtain ⟨g1,g2,g3⟩:=HL.out.ok _ (List.getElem_mem hlt)
   have g4:=HL.out.nm _ (List.getElem_mem hlt)
   have HT:=Lib.hid (totN_take l day k hlt)
   rw [← hE.out] at HT
   obtain ⟨q,off,rfl,hq,hc⟩:=(hS.below hbr).at_ hlt
   have c0:=hc 0 _ rfl
   have c1:=hc 1 _ rfl
   have c2:=hc 2 _ rfl
   have c3:=hc 3 _ rfl
   simp only [Nat.add_zero] at c0
   have hqw:q < wr.heap.size:=by omega
   have hki:(k:Int) < (l.length:Int):=by omega
   clear hc hE
   generalize l[k] = x at c0 c1 c2 c3 HT g1 g2 g3 g4
   obtain ⟨pd,⟨pf,pt⟩,pb⟩:=x
   simp only at c0 c1 c2 c3 HT g1 g2 g3 g4
   have hBX:=Blk.new wr 172 #[.int .i64 pd,.int .i64 pf,.int .i64 pt,.string pb]
   have hownA:=hown.alloc (.cells #[.int .i64 pd,.int .i64 pf,.int .i64 pt,.string pb] 172)
   have hbrA:=bel_alloc hbr (.cells #[.int .i64 pd,.int .i64 pf,.int .i64 pt,.string pb] 172)
   have hMA:=hM.alloc (.cells #[.int .i64 pd,.int .i64 pf,.int .i64 pt,.string pb] 172)
   clear hown hbr hM
   by_cases hpd:pd = day
   ·
    rw [if_pos hpd] at HT
    have hnq:(pd != day) = false:=by simp [hpd]
    have HPD:=Lib.hid hpd
    clear hpd
    go_wp2_with fail
    refine (validIvO pf pt _ g1 g2 g3).mono ?_
    rintro e w3 ⟨rfl,hb3⟩
    have hBX3:=hBX.adv hb3
    have hown3:=hownA.adv hb3
    have hbr3:=bel_adv hbrA hb3
    have hM3:=hMA.adv hb3
    have hMl3:=hM3.lt
    have hbl3:=hBX3.lt
    have x0:=hBX3.cell 0
    have x1:=hBX3.cell 1
    have x2:=hBX3.cell 2
    have x3:=hBX3.cell 3
    simp only [nqg,nqh,nqi] at x0 x1 x2 x3
    have HBX3:=Lib.hid hBX3
    have HOWN3:=Lib.hid hown3
    have HBR3:=Lib.hid hbr3
    have HND:=Lib.hid hnd
    have hb3s:=hbr3.size
    have HG:Hid (keyS.good pb):=by show pb.size≤maxLen; unfold maxLen; omega
    obtain ⟨V1,hV⟩ : ∃ V1,(idxSF (ts.map (·.name)) pb).getD (.int .i64 0) = V1:=⟨_,rfl⟩
    obtain ⟨C,hC⟩ : ∃ C,(idxSF (ts.map (·.name)) pb).isSome = C:=⟨_,rfl⟩
    have HV:=Lib.hid hV
    have HC:=Lib.hid hC
    clear hV hC hb3 hBX hownA hbrA hMA hBX3 hown3 hbr3 c0 c1 c2 c3 hqw
    go_upto_if 40 with (at_lookup; go_loud (refine wpList_ask (E:=keyS) (f:=idxSF (ts.map (·.name))) (by rfl) _ _ 138 (by rfl) Tryz.underlying138 (.int .i64 0) (zeroInt _) hM3 pb HG.out (by rfl) (by rfl) V1 C HV.out HC.out ?_))
    go_cut [5,9] (fun v5 v9 wx=>∃ l2 j,TPlaced wx (w.heap.size+1) w.heap.size k pb ts v5 v9 l2 j∧Blk wx wr.heap.size 172 #[.int .i64 pd,.int .i64 pf,.int .i64 pt,.string pb]∧RowKit.Below w.heap.size w wx)
    case first =>
     rcases hix:idxS (ts.map (·.name)) pb with _ | j
     ·
      have hcf:C = false:=by rw [← HC.out,idxSF,hix]; rfl
      subst hcf
      have HNEW:Hid (∀ y,idxSF ((ts++[(⟨pb,0⟩ : TmT)]).map (·.name)) y = if y = pb then some (.int .i64 (ts.length:Nat)) else idxSF (ts.map (·.name)) y):=fun y=>by
       unfold idxSF
       rw [List.map_append,List.map_singleton,idxS_app _ _ _ hix]
       split
       ·
        simp
       ·
        rfl
      have HN1:Hid (idxSF ((ts++[(⟨pb,0⟩ : TmT)]).map (·.name)) pb = some (.int .i64 (ts.length:Nat))):=by rw [Hid,HNEW.out,if_pos rfl]
      have HN2:Hid (∀ y,y ≠ pb→idxSF ((ts++[(⟨pb,0⟩ : TmT)]).map (·.name)) y = idxSF (ts.map (·.name)) y):=fun y hy=>by rw [HNEW.out,if_neg hy]
      have HIX:=Lib.hid hix
      clear hix HNEW hnd
      go_wp2_with (first
       | (at_mapUpdate; go_loud (refine wpList_set (E:=keyS) (f:=idxSF (ts.map (·.name))) (idxSF ((ts++[(⟨pb,0⟩ : TmT)]).map (·.name))) (by rfl) _ _ _ 138 (by rfl) Tryz.underlying138 hM3 (by unfold maxLen; omega) pb HG.out (.int .i64 (ts.length:Nat)) (by rfl) (by rfl) (by rfl) HN1.out HN2.out ?_); intro w4 hm4 hg4; have hBX4:=HBX3.out.grown hg4 (by simp; omega); have m0:=hBX4.cell 0; have m1:=hBX4.cell 1; have m2:=hBX4.cell 2; have m3:=hBX4.cell 3; simp only [nqg,nqh,nqi] at m0 m1 m2 m3; have hbl4:=hBX4.lt; have HOW4:=Lib.hid (HOWN3.out.kept hg4 (fun g e=>by injection e; omega)); have HG4:=Lib.hid hg4; have hws4:=hg4.size; clear hBX4 hg4)
       | (at_builtin; go_loud (refine wpList_append_one _ _ 59 (⟨pb,0⟩ : TmT) _ 24 _ infoTm Tryz.underlying59 HOW4.out encTm_len (by omega) rfl (encTm_one _) (by omega) (by omega) (by omega) (by rfl) (by rfl) (by rfl) (by rfl) (by simp) (by rfl) ?_); intro v5 w5 hown5 hg5))
      go_meet
      refine ⟨ts++[⟨pb,0⟩],ts.length,⟨rfl,by simp,hown5,by simp,by simp; omega,?_,?_,?_,?_⟩,?_,?_⟩
      ·
       rw [List.map_append,List.nodup_append]
       refine ⟨HND.out,by simp,fun a ha b hb=>?_⟩
       rw [List.map_singleton,List.mem_singleton] at hb
       subst hb
       intro e
       subst e
       exact idxS_none HIX.out ha
      ·
       exact hm4.kept hg5 (fun e=>by have:=(HOW4.out.block_lt e.symm).1; omega)
      ·
       intro n
       rw [putTm_new HIX.out,List.getElem_append_right (by omega)]
       simp
      ·
       intro i hi
       by_cases hl3:i < ts.length
       ·
        rw [List.getElem_append_left hl3]; exact hBD.out i hl3
       ·
        rw [List.getElem_append_right (by omega)]
        simp
        omega
      ·
       exact (HBX3.out.grown HG4.out (by simp; omega)).grown hg5 (fun e=>HOW4.out.notBlk (HBX3.out.grown HG4.out (by simp; omega)) (by decide) e.symm)
      ·
       exact bel_only (bel_only HBR3.out HG4.out (fun g e=>by injection e; omega)) hg5 (fun g e=>by have:=(HOW4.out.block_lt e).1; omega)
     ·
      have hct:C = true:=by rw [← HC.out,idxSF,hix]; rfl
      have hvj:V1 = .int .i64 (j:Nat):=by rw [← HV.out,idxSF,hix]; rfl
      subst hct
      subst hvj
      obtain ⟨hj1,hj2⟩:=idxS_some hix
      have hj3:j < ts.length:=by simpa using hj1
      have hj4:ts[j].name = pb:=by simpa using hj2
      have HJ4:=Lib.hid hj4
      clear hix hj2 hj4 hnd
      go_wp2
      go_meet
      exact ⟨ts,j,⟨rfl,hj3,HOWN3.out,HJ4.out,by omega,HND.out,hM3.mono (by omega),fun n=>putTm_at hj3 HJ4.out HND.out n,hBD.out⟩,HBX3.out,HBR3.out⟩
    case rest =>
     clear HBX3 HOWN3 HBR3 HND HV HC hnd hM3 hMl3 hbl3 x0 x1 x2 x3
     obtain ⟨l2,j,hPl,hBX,hbr⟩:=hcut
     obtain ⟨h9,hj,hrow,hkey,hlen2,hnd2,hmap2,hput,hbd2⟩:=hPl
     subst h9
     obtain ⟨g,cap,cur,hv5,hgb,hBg,hcap,hcm⟩:=hrow.some_ (by omega)
     subst hv5
     obtain ⟨A0,c0',hv0,hS0,_,_⟩:=hrow.form encTm_len
     injection hv0 with hv1 hv2 hv3
     subst hv1 hv3
     obtain ⟨gb,go,hg0,_,hcl⟩:=hS0.at_ hj
     injection hg0 with hg0
     injection hg0 with hg1 hg2
     subst hg1 hg2
     have z1:=hcl 1 _ rfl
     simp only [Nat.zero_add] at z1
     have HCC:Hid (cur[j * 2+1]? = some (.int .i64 l2[j].min)):=by rw [Hid,← hBg.cell]; exact z1
     obtain ⟨bd1,bd2⟩:=hbd2 j hj
     have HROW:=Lib.hid hrow
     have HBG:=Lib.hid hBg
     have HPUT:=Lib.hid hput
     have HND2:=Lib.hid hnd2
     have HMAP:=Lib.hid hmap2
     have HBR:=Lib.hid hbr
     have HBD2:=Lib.hid hbd2
     have HKEY:=Lib.hid hkey
     have hgl:=hBg.lt
     have hxl:=hBX.lt
     have hmlt:=hmap2.lt
     have hji:(j:Int) < (l2.length:Int):=by omega
     have hj0:(0:Int)≤(j:Int):=by omega
     have x0:=hBX.cell 0
     have x1:=hBX.cell 1
     have x2:=hBX.cell 2
     have x3:=hBX.cell 3
     simp only [nqg,nqh,nqi] at x0 x1 x2 x3
     obtain ⟨mn,hmn⟩ : ∃ mn,l2[j].min = mn:=⟨_,rfl⟩
     rw [hmn] at z1 HCC bd1 bd2
     have HMN:=Lib.hid hmn
     clear hv2 hS0 hcl hput hnd2 hbr hrow hBg hbd2 hmap2 hkey hBX hmn
     go_upto_region 12 with fail
     refine wp_region_fin2 (aE:=?aEA) [0,1,2,3,4,5,6,7,8,9,10,11,12] 13 14 15 (.pointer (some ⟨g,j * 2,none⟩)) (.pointer (some ⟨g,j * 2+1,none⟩)) (by kernel_rfl) (by kernel_rfl) rfl (by kernel_rfl) (by rfl) (by kernel_rfl) (by kernel_rfl) (by kernel_rfl) (by kernel_rfl) rfl rfl rfl rfl rfl rfl rfl rfl ?HA ?EA ?GA ?MA
     case HA =>
      intro F hF inst
      simp only [M3.opsAt,List.getElem?_toArray,List.getElem?_cons_zero,List.getElem?_cons_succ]
      have e1:=BwC.cellB (F:=F) (a:=⟨g,j * 2+1,none⟩) (by exact hgl) z1
      have d0:=BwC.cellB (F:=F) (a:=⟨wr.heap.size,0,none⟩) (by exact hxl) x0
      have d1:=BwC.cellB (F:=F) (a:=⟨wr.heap.size,1,none⟩) (by exact hxl) x1
      have d2:=BwC.cellB (F:=F) (a:=⟨wr.heap.size,2,none⟩) (by exact hxl) x2
      have d3:=BwC.cellB (F:=F) (a:=⟨wr.heap.size,3,none⟩) (by exact hxl) x3
      repeat (first | go_big_quiet_step (first | fail) | quiet_step (first | fail))
      refine wpQuiet_nil ?_
      rfl
     case EA=>exact fun _=>by first | rfl | go_simp
     case GA=>exact fun _=>by first | rfl | go_simp
     case MA =>
      intro w7 hb7
      try simp only [Act.put,List.setIfInBounds_toArray]
      have hB7:=HBG.out.adv hb7
      have y1:=hB7.cell (j * 2+1)
      rw [HCC.out] at y1
      have f1:=hB7.frozen (j * 2+1)
      refine ⟨w7.setCell ⟨g,j * 2+1,none⟩ (.int .i64 (mn+(pt - pf))),by go_simp,?_⟩
      have hR7:=HROW.out.adv hb7
      have hset:=Own.setk encTm_len rfl hR7 hj ⟨l2[j].name,l2[j].min+(pt - pf)⟩ 1 (.int .i64 (l2[j].min+(pt - pf))) (by omega) rfl
      have hs7:w7.grownBy (w7.setCell ⟨g,j * 2+1,none⟩ (.int .i64 (mn+(pt - pf)))) (some g):=only_setCell (only_refl _ _) (.inl rfl) _
      have hMf:=(HMAP.out.adv hb7).kept hs7 (by simp; omega)
      have hbf:=bel_only (bel_adv HBR.out hb7) hs7 (fun q e=>by injection e; omega)
      rw [HMN.out] at hset
      have HSET:=Lib.hid hset
      have HMF:=Lib.hid hMf
      have HBF:=Lib.hid hbf
      have HTF:Hid (totN (l.take (k+1)) day = l2.set j ⟨l2[j].name,mn+(pt - pf)⟩):=by rw [Hid,HT.out,HPUT.out,HMN.out]
      have HNF:Hid ((l2.set j ⟨l2[j].name,mn+(pt - pf)⟩).map (·.name) = l2.map (·.name)):=names_set hj _
      clear hset hMf hbf hs7 hR7 hB7 y1 f1 z1 x0 x1 x2 x3
      go_wp2
      go_roundw
      case rel =>
       refine ⟨k+1,_,l2.set j ⟨l2[j].name,mn+(pt - pf)⟩,rfl,by omega,by go_num,by simpa using HSET.out,by simpa using hlen2,by rw [HNF.out]; exact HND2.out,by rw [HNF.out]; exact HMF.out,HTF.out.symm,?_,HBF.out⟩
       intro i hi
       have hi':i < l2.length:=by simpa using hi
       have h1:=HBD2.out i hi'
       by_cases e:i = j
       ·
        subst e
        rw [List.getElem_set_self]
        show 0≤mn+(pt - pf)∧mn+(pt - pf)≤_
        omega
       ·
        rw [List.getElem_set_ne (fun x=>e x.symm)]
        omega
      case measure=>simp [intOf]; omega
   ·
    rw [if_neg hpd] at HT
    have hnq:(pd != day) = true:=by simp [hpd]
    have HT2:=Lib.hid HT.out.symm
    have HOWN:=Lib.hid hownA
    have HBDK:=hBD
    clear hpd hownA hBX
    go_wp2
    go_roundw
    case rel=>exact ⟨k+1,_,ts,rfl,by omega,by go_num,HOWN.out,by omega,hnd,hMA.mono (by omega),HT2.out,fun i h=>by have:=HBDK.out i h; omega,hbrA⟩
    case measure=>simp [intOf]; omega
  ·
   obtain rfl:k = l.length:=by omega
   have hE2:=hE.out
   rw [List.take_length] at hE2
   have HE2:=Lib.hid hE2
   have HOWN:=Lib.hid (hown.weaken (base':=w.heap.size) (by omega))
   clear hE hE2 hM hnd hown
   go_wp2
   go_ret
   exact ⟨_,rfl,by rw [← HE2.out]; exact HOWN.out,hbr⟩
end
end Go.Proofs.YtopekilofdadnaaGreatDoor
namespace Go.Proofs.YtopekilofdadnaaGreatDoor
open Go.RowKit Go.Sort Go.Shelf
def aggRo (x:RowM) : Value:=.agg #[.int .i64 x.d,.slice x.A x.ti.length x.c,.slice x.B x.an.length x.e]
def RowM.ownT (x:RowM) : Option Nat:=(Value.slice x.A x.ti.length x.c).ownBlock
def RowM.ownA (x:RowM) : Option Nat:=(Value.slice x.B x.an.length x.e).ownBlock
structure SheetAt (w:World) (base bs gd N : Nat) (a b : Int) (rows:Int→Option RowM) : Prop where
 blk:Blk w bs 108 #[.int .i64 a,.int .i64 b,.map (some gd)]
 map:MapAt keyI w gd N (fun x=>(rows x).map aggRo)
 day:∀ x y,rows x = some y→y.d = x
 ti:∀ x y,rows x = some y→Own encTm 2 64 w base (.slice y.A y.ti.length y.c) y.ti
 an:∀ x y,rows x = some y→Own encAn 2 198 w base (.slice y.B y.an.length y.e) y.an
 apT:∀ x x' y y',x ≠ x'→rows x = some y→rows x' = some y'→∀ g,y.ownT = some g→y'.ownT ≠ some g
 apA:∀ x x' y y',x ≠ x'→rows x = some y→rows x' = some y'→∀ g,y.ownA = some g→y'.ownA ≠ some g
 lgd:base≤gd
 lbs:base≤bs
 rng:∀ x y,rows x = some y→a≤x∧x≤b
theorem MapAt.notBlk {P:Program} {k:TypeId} {κ:Type} {E:KeyE P k κ} {w:World} {g n q : Nat} {f:κ→Option Value} {t:TypeId} {cs:Array Value} (h:MapAt E w g n f) (hB:Blk w q t cs) : q ≠ g:=fun e=>by
 subst e
 obtain ⟨D,⟨es,clock,h1,_⟩,_⟩:=h
 unfold Blk at hB
 rw [h1] at hB
 cases hB
theorem MapAt.notOwn {P:Program} {k:TypeId} {κ:Type} {E:KeyE P k κ} {w:World} {g n : Nat} {f:κ→Option Value} {α:Type} {enc:α→List Value} {kk base : Nat} {e:TypeId} {v:Value} {l:List α} (h:MapAt E w g n f) (ho:Own enc kk e w base v l) : v.ownBlock ≠ some g:=fun hg=>by
 obtain ⟨cur,hc⟩:=ho.obj hg
 exact h.notBlk (q:=g) (t:=e) (cs:=cur) hc rfl
section
variable {w w':World} {base bs gd N:Nat} {a b:Int} {rows:Int→Option RowM}
theorem SheetAt.adv (h:SheetAt w base bs gd N a b rows) (hb:Below w.heap.size w w') : SheetAt w' base bs gd N a b rows :=
 ⟨h.blk.adv hb,h.map.adv hb,h.day,fun x y hy=>(h.ti x y hy).adv hb,fun x y hy=>(h.an x y hy).adv hb,h.apT,h.apA,h.lgd,h.lbs,h.rng⟩
theorem SheetAt.putT {w1:World} {d:Int} {y:RowM} {t:TmT} {A' : Option Addr} {c' : Nat} (h:SheetAt w base bs gd N a b rows) (hy : ∀ z,rows d = some z→z = y) (hyT:Own encTm 2 64 w base (.slice y.A y.ti.length y.c) y.ti) (hyA:Own encAn 2 198 w base (.slice y.B y.an.length y.e) y.an)
  (hno:rows d = none→y.A = none∧y.B = none)
  (ho:Own encTm 2 64 w1 base (.slice A' (y.ti++[t]).length c') (y.ti++[t])) (hg:w.grownBy w1 y.ownT) (halt:(Value.slice A' (y.ti++[t]).length c').ownBlock = y.ownT ∨ ∃ q,w.heap.size≤q∧(Value.slice A' (y.ti++[t]).length c').ownBlock = some q)
  (hm:MapAt keyI w' gd (N+1) (fun x=>(if x = d then some ⟨d,A',c',y.ti++[t],y.B,y.e,y.an⟩ else rows x).map aggRo)) (hg2:w1.grownBy w' (some gd)) (hrg:a≤d∧d≤b) :
  SheetAt w' base bs gd (N+1) a b (fun x=>if x = d then some ⟨d,A',c',y.ti++[t],y.B,y.e,y.an⟩ else rows x):=by
 have hm1:MapAt keyI w1 gd N (fun x=>(rows x).map aggRo):=h.map.kept hg (fun e=>h.map.notOwn hyT e.symm)
 have hB1:=h.blk.grown hg (fun e=>hyT.notBlk h.blk (by decide) e.symm)
 have apy:∀ x z,x ≠ d→rows x = some z→∀ g,z.ownT = some g→y.ownT ≠ some g:=fun x z hx hz g hg' e=>by
  cases hr:rows d with
  | none=>rw [RowM.ownT,(hno hr).1] at e; cases e
  | some z'=>rw [hy z' hr] at hr; exact h.apT x d z y hx hz hr g hg' e
 have keepT:∀ x z,x ≠ d→rows x = some z→Own encTm 2 64 w' base (.slice z.A z.ti.length z.c) z.ti:=fun x z hx hz=>by
  have h1:=(h.ti x z hz).keptNe hg (fun q hq e=>apy x z hx hz q hq e)
  exact h1.keptNe hg2 (fun q hq e=>hm1.notOwn h1 (by rw [hq]; exact e.symm))
 have keepA:∀ {B e l},Own encAn 2 198 w base (.slice B (List.length l) e) l→Own encAn 2 198 w' base (.slice B (List.length l) e) l:=fun ho'=>by
  have h1:=ho'.keptNe hg (fun q hq e=>ho'.types hyT (by decide) hq e)
  exact h1.keptNe hg2 (fun q hq e=>hm1.notOwn h1 (by rw [hq]; exact e.symm))
 have hlt:∀ x z,rows x = some z→∀ q,z.ownT = some q→q < w.heap.size:=fun x z hz q hq=>((h.ti x z hz).block_lt hq).2
 refine ⟨hB1.grown hg2 (fun e=>hm1.notBlk hB1 (by injection e)),hm,fun x z hz=>?_,fun x z hz=>?_,fun x z hz=>?_,fun x x' z z' hne hz hz' g hg' e=>?_,fun x x' z z' hne hz hz' g hg' e=>?_,h.lgd,h.lbs,fun x z hz=>?_⟩
 rotate_right 1
 ·
  split at hz
  ·
   rename_i e; rw [e]; exact hrg
  ·
   exact h.rng x z hz
 ·
  split at hz
  ·
   rename_i e; injection hz with hz; rw [← hz,e]
  ·
   exact h.day x z hz
 ·
  split at hz
  ·
   injection hz with hz
   rw [← hz]
   exact ho.keptNe hg2 (fun q hq e=>hm1.notOwn ho (by rw [hq]; exact e.symm))
  ·
   rename_i e; exact keepT x z e hz
 ·
  split at hz
  ·
   injection hz with hz
   rw [← hz]
   exact keepA hyA
  ·
   exact keepA (h.an x z hz)
 ·
  split at hz
  ·
   split at hz'
   ·
    rename_i e1 e2; exact hne (by rw [e1,e2])
   ·
    rename_i e1 e2
    injection hz with hz
    rw [← hz] at hg'
    rcases halt with ha | ⟨q,h1,h2⟩
    ·
     exact apy x' z' e2 hz' g e (by rw [← ha]; exact hg')
    ·
     have h3:=hlt x' z' hz' g e
     have h4:(Value.slice A' (y.ti++[t]).length c').ownBlock = some g:=hg'
     rw [h2] at h4
     injection h4 with h4
     omega
  ·
   split at hz'
   ·
    rename_i e1 e2
    injection hz' with hz'
    rw [← hz'] at e
    rcases halt with ha | ⟨q,h1,h2⟩
    ·
     exact apy x z e1 hz g hg' (by rw [← ha]; exact e)
    ·
     have h3:=hlt x z hz g hg'
     have h4:(Value.slice A' (y.ti++[t]).length c').ownBlock = some g:=e
     rw [h2] at h4
     injection h4 with h4
     omega
   ·
    exact h.apT x x' z z' hne hz hz' g hg' e
 ·
  have apA:∀ x z,x ≠ d→rows x = some z→∀ g,z.ownA = some g→y.ownA ≠ some g:=fun x z hx hz g hg' e=>by
   cases hr:rows d with
   | none=>rw [RowM.ownA,(hno hr).2] at e; cases e
   | some z'=>rw [hy z' hr] at hr; exact h.apA x d z y hx hz hr g hg' e
  split at hz
  ·
   split at hz'
   ·
    rename_i e1 e2; exact hne (by rw [e1,e2])
   ·
    rename_i e1 e2
    injection hz with hz
    rw [← hz] at hg'
    exact apA x' z' e2 hz' g e hg'
  ·
   split at hz'
   ·
    rename_i e1 e2
    injection hz' with hz'
    rw [← hz'] at e
    exact apA x z e1 hz g hg' e
   ·
    exact h.apA x x' z z' hne hz hz' g hg' e
end
end Go.Proofs.YtopekilofdadnaaGreatDoor
