/- Joined texts: Alc. Conditions: as stated. -/
import Derived.Test.YtjncpgbhokjbfaaGreatJ07
import Derived.Test.YtjncpgbhokjbfaaGreatJ18
namespace Go.Proofs.YtjncpgbhokjbfaaGreat
open Go.RowKit
theorem alc_sizes {total:Int} {ws:List Int} (h0:0≤total) (h1:total≤1000000000) (hw : ∀ x ∈ ws,0≤x∧x≤1000000000) (hs:0 < sumI ws) {k:Nat} (hk:k < ws.length) :
  (0≤total * ws[k]∧total * ws[k]≤1000000000000000000)∧(total * ws[k]).tdiv (sumI ws) = total * ws[k] / sumI ws∧(total * ws[k]).tmod (sumI ws) = total * ws[k] % sumI ws∧(0≤total * ws[k] / sumI ws∧total * ws[k] / sumI ws≤1000000000):=by
 obtain ⟨a,b⟩:=hw _ (List.getElem_mem hk)
 have p0:0≤total * ws[k]:=Int.mul_nonneg h0 a
 have p1:total * ws[k]≤1000000000 * 1000000000:=Int.mul_le_mul h1 b a (by omega)
 have hle:ws[k]≤sumI ws:=sumI_mem (fun x hx=>(hw x hx).1) (List.getElem_mem hk)
 refine ⟨by omega,Int.tdiv_eq_ediv_of_nonneg p0,Int.tmod_eq_emod_of_nonneg p0,Int.ediv_nonneg p0 (by omega),?_⟩
 refine Int.le_trans (Int.ediv_le_of_le_mul hs ?_) h1
 exact Int.mul_le_mul_of_nonneg_left hle h0
theorem alcP_at {total:Int} {ws:List Int} {k:Nat} (hk:k < ws.length) : (alcP total ws).getD k 0 = total * ws[k] / sumI ws:=by
 rw [List.getD_eq_getElem?_getD,alcP,List.getElem?_map,List.getElem?_eq_getElem hk]; rfl
theorem alcR_at {total:Int} {ws:List Int} {k:Nat} (hk:k < ws.length) : (alcR total ws).getD k 0 = total * ws[k] % sumI ws:=by
 rw [List.getD_eq_getElem?_getD,alcR,List.getElem?_map,List.getElem?_eq_getElem hk]; rfl
def upto (l:List Int) (n k : Nat) : List Int:=l.take k++List.replicate (n - k) 0
theorem upto_zero (l:List Int) (n:Nat) : upto l n 0 = List.replicate n 0:=by simp [upto]
theorem upto_all (l:List Int) (n:Nat) (h:l.length = n) : upto l n n = l:=by simp [upto,← h]
theorem upto_len (l:List Int) (n k : Nat) (h:l.length = n) (hk:k≤n) : (upto l n k).length = n:=by simp [upto]; omega
theorem upto_set (l:List Int) (n k : Nat) (h:l.length = n) (hk:k < n) : (upto l n k).set k (l.getD k 0) = upto l n (k+1):=by
 have hk':k < l.length:=by omega
 have e1:List.replicate (n - k) (0:Int) = 0 :: List.replicate (n - (k+1)) 0:=by
  rw [show n - k = (n - (k+1))+1 by omega]; rfl
 have e2:l.getD k 0 = l[k]:=by rw [List.getD_eq_getElem?_getD,List.getElem?_eq_getElem hk']; rfl
 unfold upto
 rw [e1,e2,List.take_succ_eq_append_getElem hk',List.set_append_right _ _ (by simp; omega),show k - (l.take k).length = 0 by simp; omega,List.set_cons_zero,List.append_assoc]
 rfl
theorem upto_at (l:List Int) (n k : Nat) (hk:k < n) (hl:l.length = n) : (upto l n (k+1)).getD k 0 = l.getD k 0:=by
 have hk':k < l.length:=by omega
 unfold upto
 rw [List.getD_eq_getElem?_getD,List.getElem?_append_left (by simp; omega),List.getElem?_take,if_pos (by omega),List.getD_eq_getElem?_getD]
theorem sumI_takeD (l:List Int) (k:Nat) (h:k < l.length) : sumI (l.take (k+1)) = sumI (l.take k)+l.getD k 0:=by
 rw [sumI_take l k h,List.getD_eq_getElem?_getD,List.getElem?_eq_getElem h]; rfl
structure AlcAt (total:Int) (ws:List Int) (m:Nat) (P R : List Int) : Prop where
 eq:alcGo m P R = allocN total ws
 pos:∀ x ∈ P,0≤x
 sum:sumI P+m = total
 lp:P.length = ws.length
 lr:R.length = ws.length
theorem AlcAt.start {total:Int} {ws:List Int} (h0:0≤total) (hw : ∀ x ∈ ws,0≤x∧x≤1000000000) (hs:0 < sumI ws) : AlcAt total ws (alcM total ws).toNat (alcP total ws) (alcR total ws):=by
 have:=alcP_sum_le (total:=total) hs
 refine ⟨rfl,alcP_nonneg h0 (fun x hx=>(hw x hx).1) hs,?_,by simp [alcP],by simp [alcR]⟩
 unfold alcM; omega
theorem AlcAt.next {total:Int} {ws:List Int} {m:Nat} {P R : List Int} (h:AlcAt total ws (m+1) P R) (hn:0 < ws.length) : AlcAt total ws m (P.set (bestI R) (P.getD (bestI R) 0+1)) (R.set (bestI R) (-1)):=by
 have hb:=bestI_lt (r:=R) (by rw [h.lr]; exact hn)
 have h1:=h.lp
 have h2:=h.lr
 refine ⟨by have:=h.eq; rwa [alcGo] at this,fun x hx=>?_,?_,by simpa using h1,by simpa using h2⟩
 ·
  rcases List.mem_or_eq_of_mem_set hx with e | e
  ·
   exact h.pos x e
  ·
   have:=getD_nonneg h.pos (bestI R); omega
 ·
  rw [sumI_set _ _ _ (by omega)]
  have:=h.sum
  omega
theorem AlcAt.le {total:Int} {ws:List Int} {m:Nat} {P R : List Int} (h:AlcAt total ws m P R) (i:Nat) : 0≤P.getD i 0∧P.getD i 0≤total:=by
 refine ⟨getD_nonneg h.pos i,?_⟩
 have h2:P.getD i 0≤sumI P:=by
  rw [List.getD_eq_getElem?_getD]
  cases e:P[i]? with
  | none =>
   simp
   exact (sumI_bd (l:=P) (B:=sumI P) (fun x hx=>⟨h.pos x hx,sumI_mem h.pos hx⟩)).1
  | some v=>exact sumI_mem h.pos (List.mem_of_getElem? e)
 have:=h.sum
 omega
set_option maxRecDepth 100000 in
set_option maxHeartbeats 4000000 in
theorem allocate2_ok (total:Int) (A:Option Addr) (cap:Nat) (ws:List Int) (w:World) (h:SliceOf encI 1 w w.heap.size A ws) (h0:0≤total) (h1:total≤1000000000) (hw : ∀ x ∈ ws,0≤x∧x≤1000000000) (hs:0 < sumI ws) (hl:ws.length≤1000) :
  Calls Tryz.prog 145 #[.int .i64 total,.slice A ws.length cap] w fun e w'=>∃ g,e = .returned (.tuple #[.slice (some ⟨g,0,none⟩) ws.length ws.length,.int .i64 0])∧w.heap.size≤g∧RowI w' g (allocN total ws)∧Below w.heap.size w w':=by
 have HW:=Lib.hid hw; clear hw
 have hmk:=make_ints ws.length (by omega)
 have hn0:=sumI_pos_len hs
 go_enter Tryz.func145,Tryz.ntmps145
 go_wp2
 go_loop [6,7] (fun s i=>∃ k:Nat,k≤ws.length∧i = .int .i64 k∧s = .int .i64 (sumI (ws.take k))) (fun _ i=>ws.length - (intOf i).toNat)
 case atStart=>exact ⟨0,by omega,rfl,rfl⟩
 case round =>
  obtain ⟨k,hk,rfl,rfl⟩:=hrel
  have hb1:=sumI_bd (l:=ws.take k) (B:=1000000000) (fun x hx=>HW.out x (List.mem_of_mem_take hx))
  simp only [List.length_take] at hb1
  have hb2:0≤sumI (ws.take k):=hb1.1
  have hb3:sumI (ws.take k)≤1000000000000:=by omega
  by_cases hlt:k < ws.length
  ·
   obtain ⟨b,off,rfl,hb,hc⟩:=h.at_ hlt
   have c0:=hc 0 _ rfl
   simp only [Nat.add_zero,Nat.mul_one] at c0
   obtain ⟨x0,x1⟩:=HW.out _ (List.getElem_mem hlt)
   have HT:=Lib.hid (sumI_take ws k hlt)
   clear hc hb1
   go_wp2
   go_round
   case rel=>exact ⟨k+1,by omega,by go_num,by rw [HT.out]⟩
   case measure=>simp [intOf]; omega
  ·
   obtain rfl:k = ws.length:=by omega
   rw [List.take_length] at hb2 hb3 ⊢
   have hne:(sumI ws == 0) = false:=by simp; omega
   go_wp2
   go_region
   ·
    have hP:=((RowI.made w ws.length).alloc (Obj.cells (madeCells #[.int .i64 0] ws.length) 3)).drew
    have hR:=(RowI.made (w.alloc (Obj.cells (madeCells #[.int .i64 0] ws.length) 3)) ws.length).drew
    have hB:Below w.heap.size w ((w.alloc (Obj.cells (madeCells #[.int .i64 0] ws.length) 3)).alloc (Obj.cells (madeCells #[.int .i64 0] ws.length) 3)).drew:=below_drewN (bel_alloc (below_new w _) _) 1
    rw [World.size_alloc] at hR
    obtain ⟨gP,hgP⟩ : ∃ gP,gP = w.heap.size:=⟨_,rfl⟩
    obtain ⟨gR,hgR⟩ : ∃ gR,gR = w.heap.size+1:=⟨_,rfl⟩
    have hne:gP ≠ gR:=by omega
    have hgp:w.heap.size≤gP:=by omega
    have hgr:w.heap.size≤gR:=by omega
    rw [← hgR] at hR ⊢
    rw [← hgP] at hP ⊢
    clear hgP hgR
    generalize ((w.alloc (Obj.cells (madeCells #[.int .i64 0] ws.length) 3)).alloc (Obj.cells (madeCells #[.int .i64 0] ws.length) 3)).drew = W at hP hR hB ⊢
    go_wp2
    go_loopw [11,12] (fun m i wr=>∃ k:Nat,k≤ws.length∧i = .int .i64 k∧m = .int .i64 (total - sumI ((alcP total ws).take k))∧RowI wr gP (upto (alcP total ws) ws.length k)∧RowI wr gR (upto (alcR total ws) ws.length k)∧Below w.heap.size w wr) (fun _ i _=>ws.length - (intOf i).toNat)
    case atStart=>exact ⟨0,by omega,rfl,by simp [sumI],by rw [upto_zero]; exact hP,by rw [upto_zero]; exact hR,hB⟩
    case round =>
     clear hP hR hB
     obtain ⟨k,hk,rfl,rfl,hP,hR,hB⟩:=hrel
     have hp0:=alcP_nonneg (total:=total) (ws:=ws) h0 (fun x hx=>(HW.out x hx).1) hs
     have hPl:(alcP total ws).length = ws.length:=by simp [alcP]
     have hRl:(alcR total ws).length = ws.length:=by simp [alcR]
     have hq1:0≤sumI ((alcP total ws).take k):=(sumI_bd (l:=(alcP total ws).take k) (B:=sumI ((alcP total ws).take k)) (fun x hx=>⟨hp0 x (List.mem_of_mem_take hx),sumI_mem (fun y hy=>hp0 y (List.mem_of_mem_take hy)) hx⟩)).1
     have hq2:sumI ((alcP total ws).take k)≤total:=by
      have e:=congrArg sumI (List.take_append_drop k (alcP total ws))
      rw [sumI_append] at e
      have d0:0≤sumI ((alcP total ws).drop k):=(sumI_bd (l:=(alcP total ws).drop k) (B:=sumI ((alcP total ws).drop k)) (fun x hx=>⟨hp0 x (List.mem_of_mem_drop hx),sumI_mem (fun y hy=>hp0 y (List.mem_of_mem_drop hy)) hx⟩)).1
      have:=alcP_sum_le (total:=total) hs
      omega
     by_cases hlt:k < ws.length
     ·
      obtain ⟨b,off,rfl,hb,hc⟩:=(h.below hB).at_ hlt
      have c0:=hc 0 _ rfl
      simp only [Nat.add_zero,Nat.mul_one] at c0
      clear hc
      obtain ⟨⟨y1,y2⟩,y3,y4,y5,y6⟩:=alc_sizes h0 h1 HW.out hs hlt
      have HT:=Lib.hid (sumI_takeD (alcP total ws) k (by rw [hPl]; exact hlt))
      have e1:=alcP_at (total:=total) hlt
      have e2:=alcR_at (total:=total) hlt
      have HE1:=Lib.hid e1
      have fP:=hP.frozen k
      have fR:=hR.frozen k
      have zP:=hP.cell (i:=k) (by rw [upto_len _ _ _ hPl hk]; exact hlt)
      have zR:=hR.cell (i:=k) (by rw [upto_len _ _ _ hRl hk]; exact hlt)
      have hP1:=(hP.set (i:=k) (by rw [upto_len _ _ _ hPl hk]; exact hlt) ((alcP total ws).getD k 0)).far (p:=⟨gR,k,none⟩) hne (.int .i64 ((alcR total ws).getD k 0))
      have hR1:=(hR.far (p:=⟨gP,k,none⟩) (fun e=>hne e.symm) (.int .i64 ((alcP total ws).getD k 0))).set (i:=k) (by rw [upto_len _ _ _ hRl hk]; exact hlt) ((alcR total ws).getD k 0)
      rw [upto_set _ _ _ hPl hlt,e1,e2] at hP1
      rw [upto_set _ _ _ hRl hlt,e1,e2] at hR1
      have hB1:=(below_put (below_put hB hgp k (.int .i64 (total * ws[k] / sumI ws))) hgr k (.int .i64 (total * ws[k] % sumI ws)))
      have HP1:=Lib.hid hP1.drew
      have HR1:=Lib.hid hR1.drew
      have HB1:=Lib.hid (below_drewN hB1 1)
      clear hP1 hR1 e1 e2 hB1
      go_wp2
      go_region
      have hP1:=HP1.out
      have hR1:=HR1.out
      have hB1:Below w.heap.size w ((wr.setCell ⟨gP,k,none⟩ (.int .i64 (total * ws[k] / sumI ws))).setCell ⟨gR,k,none⟩ (.int .i64 (total * ws[k] % sumI ws))).drew:=HB1.out
      generalize ((wr.setCell ⟨gP,k,none⟩ (.int .i64 (total * ws[k] / sumI ws))).setCell ⟨gR,k,none⟩ (.int .i64 (total * ws[k] % sumI ws))).drew = W2 at hP1 hR1 hB1 ⊢
      have zQ:=hP1.cell (i:=k) (by rw [upto_len _ _ _ hPl hlt]; exact hlt)
      rw [upto_at _ _ _ hlt hPl,HE1.out] at zQ
      clear HP1 HR1 HB1 hP hR hB zP zR fP fR c0
      go_wp2
      go_roundw
      case rel=>exact ⟨k+1,by omega,by go_num,by rw [HT.out,HE1.out]; congr 1; omega,hP1,hR1,hB1⟩
      case measure=>simp [intOf]; omega
     ·
      obtain rfl:k = ws.length:=by omega
      rw [upto_all _ _ hPl] at hP
      rw [upto_all _ _ hRl] at hR
      rw [List.take_of_length_le (by omega)] at hq1 hq2 ⊢
      have hA:=AlcAt.start (total:=total) (ws:=ws) h0 HW.out hs
      have hmm:total - sumI (alcP total ws) = (alcM total ws).toNat:=by unfold alcM; omega
      rw [hmm]
      generalize (alcM total ws).toNat = M at hA
      generalize alcP total ws = P0 at hA hP
      generalize alcR total ws = R0 at hA hR
      clear hmm hq1 hq2 hp0 hPl hRl
      go_wp2
      go_loopw [11] (fun mv wr2=>∃ (m:Nat) (P R:List Int),mv = .int .i64 m∧m≤1000000000∧AlcAt total ws m P R∧RowI wr2 gP P∧RowI wr2 gR R∧Below w.heap.size w wr2) (fun mv _=>(intOf mv).toNat)
      case atStart=>exact ⟨M,P0,R0,rfl,by have:=hA.sum; have:=(sumI_bd (l:=P0) (B:=sumI P0) (fun x hx=>⟨hA.pos x hx,sumI_mem hA.pos hx⟩)).1; omega,hA,hP,hR,hB⟩
      case round =>
       rename World=>w2
       clear hA hP hR hB
       obtain ⟨m,P,R,rfl,hm9,hA,hP,hR,hB⟩:=hrel
       have HAA:=Lib.hid hA
       have hlP:=hA.lp
       have hlR:=hA.lr
       clear hA
       rcases m with _ | m
       ·
        go_wp2
        go_loop [15] (fun i=>i = .int .i64 0) (fun _=>0)
        case atStart=>rfl
        case round =>
        subst hrel
        go_wp2
        go_ret2
        have:=HAA.out.eq
        rw [alcGo] at this
        rw [← this]
        exact ⟨gP,rfl,hgp,hP,hB⟩
       ·
        have hmp:(0:Int) < ((m+1:Nat) : Int):=by omega
        have HLP:=Lib.hid hlP
        have HLR:=Lib.hid hlR
        clear hlP hlR
        go_wp2
        go_loopw [13,14] (fun bv i wr3=>∃ k q:Nat,k+1≤ws.length∧i = .int .i64 ((k:Int)+1)∧bv = .int .i64 (bestTo R k)∧Hid (wr3 = w2.drewN q)) (fun _ i _=>ws.length - (intOf i).toNat)
        case atStart=>exact ⟨0,0,by omega,rfl,rfl,rfl⟩
        case round =>
         obtain ⟨k,q,hk,rfl,rfl,hw3⟩:=hrel
         have hkl:(k:Int)+1≤1000:=by omega
         have hble:=bestTo_le R k
         have hR3:RowI wr gR R:=by rw [hw3.out]; exact hR.drewN q
         by_cases hlt:k+1 < ws.length
         ·
          have z1:=hR3.cell (i:=k+1) (by rw [HLR.out]; exact hlt)
          have z2:=hR3.cell (i:=bestTo R k) (by rw [HLR.out]; omega)
          have hbb:bestTo R k < ws.length:=by omega
          have hbs:bestTo R (k+1) = if R.getD (bestTo R k) 0 < R.getD (k+1) 0 then k+1 else bestTo R k:=rfl
          have HBS:=Lib.hid hbs
          clear hbs
          generalize hbt:bestTo R k = bt at *
          generalize R.getD bt 0 = x1 at *
          generalize R.getD (k+1) 0 = x2 at *
          clear hbt
          by_cases hx:x1 < x2
          ·
           go_wp2
           go_quiet (fail)
           go_wp2
           go_roundw
           case rel=>exact ⟨k+1,q+nq,by omega,by go_num,by rw [HBS.out,if_pos hx]; go_num,by show wr.drewN nq = w2.drewN (q+nq); rw [hw3.out,World.drewN_drewN]⟩
           case measure=>simp [intOf]; omega
          ·
           go_wp2
           go_quiet (fail)
           go_wp2
           go_roundw
           case rel =>
            have hfin:∃ k' q':Nat,k'+1≤ws.length∧Value.int .i64 ((k:Int)+1+1) = .int .i64 ((k':Int)+1)∧Value.int .i64 (bt:Int) = .int .i64 (bestTo R k')∧Hid (wr.drewN nq = w2.drewN q'):=⟨k+1,q+nq,by omega,by go_num,by rw [HBS.out,if_neg (by omega)],by show wr.drewN nq = w2.drewN (q+nq); rw [hw3.out,World.drewN_drewN]⟩
            first | exact hfin | ((repeat apply Exists.intro); exact ⟨hfin,rfl⟩)
           case measure=>simp [intOf]; omega
         ·
          have hkk:k = R.length - 1:=by have:=HLR.out; omega
          have hbI:bestTo R k = bestI R:=by rw [hkk]; rfl
          have hbl:=bestI_lt (r:=R) (by rw [HLR.out]; exact hn0)
          have hblw:bestI R < ws.length:=by have:=HLR.out; omega
          rw [hbI] at hble ⊢
          have hP3:RowI wr gP P:=by rw [hw3.out]; exact hP.drewN q
          have hB3:Below w.heap.size w wr:=by rw [hw3.out]; exact below_drewN hB q
          have HN:=Lib.hid (HAA.out.next hn0)
          obtain ⟨p1,p2⟩:=HAA.out.le (bestI R)
          have zP:=hP3.cell (i:=bestI R) (by rw [HLP.out]; exact hblw)
          have fP:=hP3.frozen (bestI R)
          have hP4:=(hP3.set (i:=bestI R) (by rw [HLP.out]; exact hblw) (P.getD (bestI R) 0+1)).far (p:=⟨gR,bestI R,none⟩) hne (.int .i64 (-1))
          have hR4:=(hR3.far (p:=⟨gP,bestI R,none⟩) (fun e=>hne e.symm) (.int .i64 (P.getD (bestI R) 0+1))).set (i:=bestI R) hbl (-1)
          have fR:(wr.setCell ⟨gP,bestI R,none⟩ (.int .i64 (P.getD (bestI R) 0+1))).frozen? ⟨gR,bestI R,none⟩ = false:=(hR3.far (p:=⟨gP,bestI R,none⟩) (fun e=>hne e.symm) (.int .i64 (P.getD (bestI R) 0+1))).frozen (bestI R)
          have zR:=(hR3.far (p:=⟨gP,bestI R,none⟩) (fun e=>hne e.symm) (.int .i64 (P.getD (bestI R) 0+1))).cell (i:=bestI R) hbl
          have HP4:=Lib.hid hP4
          have HR4:=Lib.hid hR4
          have HB4:=Lib.hid (below_put (below_put hB3 hgp (bestI R) (.int .i64 (P.getD (bestI R) 0+1))) hgr (bestI R) (.int .i64 (-1)))
          clear hP4 hR4 hbI hkk HAA
          generalize hbq:bestI R = bq at *
          generalize P.getD bq 0 = pq at *
          have hlt':¬ (k:Int)+1 < (ws.length:Int):=by omega
          clear hbq
          go_wp2
          go_roundw
          case rel=>exact ⟨m,_,_,by go_num,by omega,HN.out,HP4.out,HR4.out,HB4.out⟩
          case measure=>simp [intOf]
   ·
    have hR:=((RowI.made w ws.length).alloc (Obj.cells (madeCells #[.int .i64 0] ws.length) 3)).drew
    have hP:=(RowI.made (w.alloc (Obj.cells (madeCells #[.int .i64 0] ws.length) 3)) ws.length).drew
    have hB:Below w.heap.size w ((w.alloc (Obj.cells (madeCells #[.int .i64 0] ws.length) 3)).alloc (Obj.cells (madeCells #[.int .i64 0] ws.length) 3)).drew:=below_drewN (bel_alloc (below_new w _) _) 1
    rw [World.size_alloc] at hP
    obtain ⟨gR,hgR⟩ : ∃ gR,gR = w.heap.size:=⟨_,rfl⟩
    obtain ⟨gP,hgP⟩ : ∃ gP,gP = w.heap.size+1:=⟨_,rfl⟩
    have hne:gP ≠ gR:=by omega
    have hgp:w.heap.size≤gP:=by omega
    have hgr:w.heap.size≤gR:=by omega
    rw [← hgP] at hP ⊢
    rw [← hgR] at hR ⊢
    clear hgP hgR
    generalize ((w.alloc (Obj.cells (madeCells #[.int .i64 0] ws.length) 3)).alloc (Obj.cells (madeCells #[.int .i64 0] ws.length) 3)).drew = W at hP hR hB ⊢
    go_wp2
    go_loopw [11,12] (fun m i wr=>∃ k:Nat,k≤ws.length∧i = .int .i64 k∧m = .int .i64 (total - sumI ((alcP total ws).take k))∧RowI wr gP (upto (alcP total ws) ws.length k)∧RowI wr gR (upto (alcR total ws) ws.length k)∧Below w.heap.size w wr) (fun _ i _=>ws.length - (intOf i).toNat)
    case atStart=>exact ⟨0,by omega,rfl,by simp [sumI],by rw [upto_zero]; exact hP,by rw [upto_zero]; exact hR,hB⟩
    case round =>
     clear hP hR hB
     obtain ⟨k,hk,rfl,rfl,hP,hR,hB⟩:=hrel
     have hp0:=alcP_nonneg (total:=total) (ws:=ws) h0 (fun x hx=>(HW.out x hx).1) hs
     have hPl:(alcP total ws).length = ws.length:=by simp [alcP]
     have hRl:(alcR total ws).length = ws.length:=by simp [alcR]
     have hq1:0≤sumI ((alcP total ws).take k):=(sumI_bd (l:=(alcP total ws).take k) (B:=sumI ((alcP total ws).take k)) (fun x hx=>⟨hp0 x (List.mem_of_mem_take hx),sumI_mem (fun y hy=>hp0 y (List.mem_of_mem_take hy)) hx⟩)).1
     have hq2:sumI ((alcP total ws).take k)≤total:=by
      have e:=congrArg sumI (List.take_append_drop k (alcP total ws))
      rw [sumI_append] at e
      have d0:0≤sumI ((alcP total ws).drop k):=(sumI_bd (l:=(alcP total ws).drop k) (B:=sumI ((alcP total ws).drop k)) (fun x hx=>⟨hp0 x (List.mem_of_mem_drop hx),sumI_mem (fun y hy=>hp0 y (List.mem_of_mem_drop hy)) hx⟩)).1
      have:=alcP_sum_le (total:=total) hs
      omega
     by_cases hlt:k < ws.length
     ·
      obtain ⟨b,off,rfl,hb,hc⟩:=(h.below hB).at_ hlt
      have c0:=hc 0 _ rfl
      simp only [Nat.add_zero,Nat.mul_one] at c0
      clear hc
      obtain ⟨⟨y1,y2⟩,y3,y4,y5,y6⟩:=alc_sizes h0 h1 HW.out hs hlt
      have HT:=Lib.hid (sumI_takeD (alcP total ws) k (by rw [hPl]; exact hlt))
      have e1:=alcP_at (total:=total) hlt
      have e2:=alcR_at (total:=total) hlt
      have HE1:=Lib.hid e1
      have fP:=hP.frozen k
      have fR:=hR.frozen k
      have zP:=hP.cell (i:=k) (by rw [upto_len _ _ _ hPl hk]; exact hlt)
      have zR:=hR.cell (i:=k) (by rw [upto_len _ _ _ hRl hk]; exact hlt)
      have hP1:=(hP.set (i:=k) (by rw [upto_len _ _ _ hPl hk]; exact hlt) ((alcP total ws).getD k 0)).far (p:=⟨gR,k,none⟩) hne (.int .i64 ((alcR total ws).getD k 0))
      have hR1:=(hR.far (p:=⟨gP,k,none⟩) (fun e=>hne e.symm) (.int .i64 ((alcP total ws).getD k 0))).set (i:=k) (by rw [upto_len _ _ _ hRl hk]; exact hlt) ((alcR total ws).getD k 0)
      rw [upto_set _ _ _ hPl hlt,e1,e2] at hP1
      rw [upto_set _ _ _ hRl hlt,e1,e2] at hR1
      have hB1:=(below_put (below_put hB hgp k (.int .i64 (total * ws[k] / sumI ws))) hgr k (.int .i64 (total * ws[k] % sumI ws)))
      have HP1:=Lib.hid hP1.drew
      have HR1:=Lib.hid hR1.drew
      have HB1:=Lib.hid (below_drewN hB1 1)
      clear hP1 hR1 e1 e2 hB1
      go_wp2
      go_region
      have hP1:=HP1.out
      have hR1:=HR1.out
      have hB1:Below w.heap.size w ((wr.setCell ⟨gP,k,none⟩ (.int .i64 (total * ws[k] / sumI ws))).setCell ⟨gR,k,none⟩ (.int .i64 (total * ws[k] % sumI ws))).drew:=HB1.out
      generalize ((wr.setCell ⟨gP,k,none⟩ (.int .i64 (total * ws[k] / sumI ws))).setCell ⟨gR,k,none⟩ (.int .i64 (total * ws[k] % sumI ws))).drew = W2 at hP1 hR1 hB1 ⊢
      have zQ:=hP1.cell (i:=k) (by rw [upto_len _ _ _ hPl hlt]; exact hlt)
      rw [upto_at _ _ _ hlt hPl,HE1.out] at zQ
      clear HP1 HR1 HB1 hP hR hB zP zR fP fR c0
      go_wp2
      go_roundw
      case rel=>exact ⟨k+1,by omega,by go_num,by rw [HT.out,HE1.out]; congr 1; omega,hP1,hR1,hB1⟩
      case measure=>simp [intOf]; omega
     ·
      obtain rfl:k = ws.length:=by omega
      rw [upto_all _ _ hPl] at hP
      rw [upto_all _ _ hRl] at hR
      rw [List.take_of_length_le (by omega)] at hq1 hq2 ⊢
      have hA:=AlcAt.start (total:=total) (ws:=ws) h0 HW.out hs
      have hmm:total - sumI (alcP total ws) = (alcM total ws).toNat:=by unfold alcM; omega
      rw [hmm]
      generalize (alcM total ws).toNat = M at hA
      generalize alcP total ws = P0 at hA hP
      generalize alcR total ws = R0 at hA hR
      clear hmm hq1 hq2 hp0 hPl hRl
      go_wp2
      go_loopw [11] (fun mv wr2=>∃ (m:Nat) (P R:List Int),mv = .int .i64 m∧m≤1000000000∧AlcAt total ws m P R∧RowI wr2 gP P∧RowI wr2 gR R∧Below w.heap.size w wr2) (fun mv _=>(intOf mv).toNat)
      case atStart=>exact ⟨M,P0,R0,rfl,by have:=hA.sum; have:=(sumI_bd (l:=P0) (B:=sumI P0) (fun x hx=>⟨hA.pos x hx,sumI_mem hA.pos hx⟩)).1; omega,hA,hP,hR,hB⟩
      case round =>
       rename World=>w2
       clear hA hP hR hB
       obtain ⟨m,P,R,rfl,hm9,hA,hP,hR,hB⟩:=hrel
       have HAA:=Lib.hid hA
       have hlP:=hA.lp
       have hlR:=hA.lr
       clear hA
       rcases m with _ | m
       ·
        go_wp2
        go_loop [15] (fun i=>i = .int .i64 0) (fun _=>0)
        case atStart=>rfl
        case round =>
        subst hrel
        go_wp2
        go_ret2
        have:=HAA.out.eq
        rw [alcGo] at this
        rw [← this]
        exact ⟨gP,rfl,hgp,hP,hB⟩
       ·
        have hmp:(0:Int) < ((m+1:Nat) : Int):=by omega
        have HLP:=Lib.hid hlP
        have HLR:=Lib.hid hlR
        clear hlP hlR
        go_wp2
        go_loopw [13,14] (fun bv i wr3=>∃ k q:Nat,k+1≤ws.length∧i = .int .i64 ((k:Int)+1)∧bv = .int .i64 (bestTo R k)∧Hid (wr3 = w2.drewN q)) (fun _ i _=>ws.length - (intOf i).toNat)
        case atStart=>exact ⟨0,0,by omega,rfl,rfl,rfl⟩
        case round =>
         obtain ⟨k,q,hk,rfl,rfl,hw3⟩:=hrel
         have hkl:(k:Int)+1≤1000:=by omega
         have hble:=bestTo_le R k
         have hR3:RowI wr gR R:=by rw [hw3.out]; exact hR.drewN q
         by_cases hlt:k+1 < ws.length
         ·
          have z1:=hR3.cell (i:=k+1) (by rw [HLR.out]; exact hlt)
          have z2:=hR3.cell (i:=bestTo R k) (by rw [HLR.out]; omega)
          have hbb:bestTo R k < ws.length:=by omega
          have hbs:bestTo R (k+1) = if R.getD (bestTo R k) 0 < R.getD (k+1) 0 then k+1 else bestTo R k:=rfl
          have HBS:=Lib.hid hbs
          clear hbs
          generalize hbt:bestTo R k = bt at *
          generalize R.getD bt 0 = x1 at *
          generalize R.getD (k+1) 0 = x2 at *
          clear hbt
          by_cases hx:x1 < x2
          ·
           go_wp2
           go_quiet (fail)
           go_wp2
           go_roundw
           case rel=>exact ⟨k+1,q+nq,by omega,by go_num,by rw [HBS.out,if_pos hx]; go_num,by show wr.drewN nq = w2.drewN (q+nq); rw [hw3.out,World.drewN_drewN]⟩
           case measure=>simp [intOf]; omega
          ·
           go_wp2
           go_quiet (fail)
           go_wp2
           go_roundw
           case rel =>
            have hfin:∃ k' q':Nat,k'+1≤ws.length∧Value.int .i64 ((k:Int)+1+1) = .int .i64 ((k':Int)+1)∧Value.int .i64 (bt:Int) = .int .i64 (bestTo R k')∧Hid (wr.drewN nq = w2.drewN q'):=⟨k+1,q+nq,by omega,by go_num,by rw [HBS.out,if_neg (by omega)],by show wr.drewN nq = w2.drewN (q+nq); rw [hw3.out,World.drewN_drewN]⟩
            first | exact hfin | ((repeat apply Exists.intro); exact ⟨hfin,rfl⟩)
           case measure=>simp [intOf]; omega
         ·
          have hkk:k = R.length - 1:=by have:=HLR.out; omega
          have hbI:bestTo R k = bestI R:=by rw [hkk]; rfl
          have hbl:=bestI_lt (r:=R) (by rw [HLR.out]; exact hn0)
          have hblw:bestI R < ws.length:=by have:=HLR.out; omega
          rw [hbI] at hble ⊢
          have hP3:RowI wr gP P:=by rw [hw3.out]; exact hP.drewN q
          have hB3:Below w.heap.size w wr:=by rw [hw3.out]; exact below_drewN hB q
          have HN:=Lib.hid (HAA.out.next hn0)
          obtain ⟨p1,p2⟩:=HAA.out.le (bestI R)
          have zP:=hP3.cell (i:=bestI R) (by rw [HLP.out]; exact hblw)
          have fP:=hP3.frozen (bestI R)
          have hP4:=(hP3.set (i:=bestI R) (by rw [HLP.out]; exact hblw) (P.getD (bestI R) 0+1)).far (p:=⟨gR,bestI R,none⟩) hne (.int .i64 (-1))
          have hR4:=(hR3.far (p:=⟨gP,bestI R,none⟩) (fun e=>hne e.symm) (.int .i64 (P.getD (bestI R) 0+1))).set (i:=bestI R) hbl (-1)
          have fR:(wr.setCell ⟨gP,bestI R,none⟩ (.int .i64 (P.getD (bestI R) 0+1))).frozen? ⟨gR,bestI R,none⟩ = false:=(hR3.far (p:=⟨gP,bestI R,none⟩) (fun e=>hne e.symm) (.int .i64 (P.getD (bestI R) 0+1))).frozen (bestI R)
          have zR:=(hR3.far (p:=⟨gP,bestI R,none⟩) (fun e=>hne e.symm) (.int .i64 (P.getD (bestI R) 0+1))).cell (i:=bestI R) hbl
          have HP4:=Lib.hid hP4
          have HR4:=Lib.hid hR4
          have HB4:=Lib.hid (below_put (below_put hB3 hgp (bestI R) (.int .i64 (P.getD (bestI R) 0+1))) hgr (bestI R) (.int .i64 (-1)))
          clear hP4 hR4 hbI hkk HAA
          generalize hbq:bestI R = bq at *
          generalize P.getD bq 0 = pq at *
          have hlt':¬ (k:Int)+1 < (ws.length:Int):=by omega
          clear hbq
          go_wp2
          go_roundw
          case rel=>exact ⟨m,_,_,by go_num,by omega,HN.out,HP4.out,HR4.out,HB4.out⟩
          case measure=>simp [intOf]
end Go.Proofs.YtjncpgbhokjbfaaGreat
