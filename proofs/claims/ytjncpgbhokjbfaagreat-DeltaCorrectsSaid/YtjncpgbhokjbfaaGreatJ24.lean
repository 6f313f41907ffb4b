/- Joined texts: DedV2 DedW TakeR. Conditions: as stated. -/
import Derived.Deep.Light
import Derived.Test.YtjncpgbhokjbfaaGreatJ06
import Derived.Test.YtjncpgbhokjbfaaGreatJ10
import Derived.Test.YtjncpgbhokjbfaaGreatJ23
namespace Go.Proofs.YtjncpgbhokjbfaaGreat
open Go.RowKit
set_option maxHeartbeats 400000 in
theorem in_any (n m : Int) (w:World) : Calls Tryz.prog 93 #[.int .i64 n,.int .i64 m] w fun e w'=>e = .returned (.bool (inB n m))∧w = w':=by
 by_cases h1:0≤n <;> by_cases h2:n≤m
 all_goals
  have hb:inB n m = (decide (0≤n) && decide (n≤m)):=by simp [inB]
  have HB:=Lib.hid hb; clear hb
  go_enter Tryz.func93,Tryz.ntmps93
  go_wp2
  go_ret
  exact ⟨by rw [HB.out]; simp [h1,h2],rfl⟩
set_option maxHeartbeats 4000000 in
theorem valid27_any (A:Option Addr) (cap:Nat) (xs:List DedT) (w:World) (h:SliceOf encD 6 w w.heap.size A xs) (hz : ∀ x ∈ xs,x.code.size≤maxLen) (hl:xs.length≤9223372036854775807) :
    Calls Tryz.prog 92 #[.slice A xs.length cap] w fun e w'=>e = .returned (.bool (validD xs))∧Below w.heap.size w w':=by
  have HZ:=Lib.hid hz; clear hz
  by_cases hlen:16 < xs.length
  · have HV:Hid (validD xs = false):=allOk_long hlen
    go_enter Tryz.func92,Tryz.ntmps92
    go_wp2
    go_ret
    exact ⟨by rw [HV.out]; rfl,Below.refl _ _⟩
  · have hlen':xs.length≤16:=by omega
    clear hlen hl
    go_enter Tryz.func92,Tryz.ntmps92
    go_wp2
    go_loopw [3] (fun i wr=>∃ k:Nat,k≤xs.length∧i = .int .i64 k∧Hid (∀ j,(hj:j < xs.length)→j < k→okD xs j xs[j] = true)∧Below w.heap.size w wr) (fun i _=>xs.length - (intOf i).toNat)
    case atStart=>exact ⟨0,by omega,rfl,fun j _ hj=>absurd hj (by omega),Below.refl _ _⟩
    case round =>
      obtain ⟨k,hk,rfl,hall,hbel⟩:=hrel
      by_cases hlt:k < xs.length
      · obtain ⟨b,off,rfl,hb,hc⟩:=(h.below hbel).at_ hlt
        have c0:=hc 0 _ rfl
        have c1:=hc 1 _ rfl
        have c2:=hc 2 _ rfl
        have c3:=hc 3 _ rfl
        have c4:=hc 4 _ rfl
        have c5:=hc 5 _ rfl
        simp only [Nat.add_zero] at c0
        have hzk:=HZ.out _ (List.getElem_mem hlt)
        have hbs:=hbel.size
        have HNO:Hid (okD xs k xs[k] = false→validD xs = false):=allOk_no hlt
        clear hc
        have hbwr:b < wr.heap.size:=by omega
        rcases Nat.lt_or_ge 0 k with hk0 | hk0
        · obtain ⟨m,rfl⟩ : ∃ m,k = m+1:=⟨k - 1,by omega⟩
          obtain ⟨b',off',hA',hb',hc'⟩:=(h.below hbel).at_ (show m < xs.length by omega)
          injection hA' with hA'
          injection hA' with h1 h2
          subst h1 h2
          have p0:=hc' 0 _ rfl
          simp only [Nat.add_zero] at p0
          have HA:=Lib.hid (ascAt_succ DedT.code xs m xs[m+1] (by omega))
          clear hc'
          go_wp2_with fail
          have hWl:(wr.alloc (Obj.cells #[.string xs[m+1].code,.int .i64 xs[m+1].rank,.bool xs[m+1].before,.int .i64 xs[m+1].amount,.int .i64 xs[m+1].rate,.int .i64 xs[m+1].cap] 162)).heap.size = wr.heap.size+1:=by simp
          have hWb:Below w.heap.size w (wr.alloc (Obj.cells #[.string xs[m+1].code,.int .i64 xs[m+1].rank,.bool xs[m+1].before,.int .i64 xs[m+1].amount,.int .i64 xs[m+1].rate,.int .i64 xs[m+1].cap] 162)):=hbel.alloc hbs _
          have hWB:=Blk.new wr 162 #[.string xs[m+1].code,.int .i64 xs[m+1].rank,.bool xs[m+1].before,.int .i64 xs[m+1].amount,.int .i64 xs[m+1].rate,.int .i64 xs[m+1].cap]
          have hWp:=(World.cell?_alloc_past (w:=wr) (Obj.cells #[.string xs[m+1].code,.int .i64 xs[m+1].rank,.bool xs[m+1].before,.int .i64 xs[m+1].amount,.int .i64 xs[m+1].rate,.int .i64 xs[m+1].cap] 162) b (off+m * 6) hbwr).trans p0
          generalize wr.alloc (Obj.cells _ _) = W at hWl hWb hWB hWp ⊢
          have HWl:=Lib.hid hWl
          have e0:=Bw.cell (w:=W) (a:=⟨wr.heap.size,0,none⟩) (by show wr.heap.size < W.heap.size; omega) (hWB.cell 0)
          have e1:=Bw.cell (w:=W) (a:=⟨wr.heap.size,1,none⟩) (by show wr.heap.size < W.heap.size; omega) (hWB.cell 1)
          have e3:=Bw.cell (w:=W) (a:=⟨wr.heap.size,3,none⟩) (by show wr.heap.size < W.heap.size; omega) (hWB.cell 3)
          have e5:=Bw.cell (w:=W) (a:=⟨wr.heap.size,5,none⟩) (by show wr.heap.size < W.heap.size; omega) (hWB.cell 5)
          have e4:=Bw.cell (w:=W) (a:=⟨wr.heap.size,4,none⟩) (by show wr.heap.size < W.heap.size; omega) (hWB.cell 4)
          have e99:=Bw.cell (w:=W) (a:=⟨b,off+m * 6,none⟩) (by show b < W.heap.size; omega) hWp
          clear hWp p0
          have HWs:Hid (w.heap.size≤W.heap.size):=by show w.heap.size≤W.heap.size; omega
          clear hWl hWB c0 c1 c2 c3 c4 c5
          have hcs:((nameB xs[m+1].code) = false) ∨ ((nameB xs[m+1].code) = true∧(Op.bytesLess xs[m].code.toList xs[m+1].code.toList) = false) ∨ ((nameB xs[m+1].code) = true∧(Op.bytesLess xs[m].code.toList xs[m+1].code.toList) = true∧(inB xs[m+1].rank 99) = false) ∨ ((nameB xs[m+1].code) = true∧(Op.bytesLess xs[m].code.toList xs[m+1].code.toList) = true∧(inB xs[m+1].rank 99) = true∧(inB xs[m+1].amount 1000000000) = false) ∨ ((nameB xs[m+1].code) = true∧(Op.bytesLess xs[m].code.toList xs[m+1].code.toList) = true∧(inB xs[m+1].rank 99) = true∧(inB xs[m+1].amount 1000000000) = true∧(inB xs[m+1].cap 1000000000) = false) ∨ ((nameB xs[m+1].code) = true∧(Op.bytesLess xs[m].code.toList xs[m+1].code.toList) = true∧(inB xs[m+1].rank 99) = true∧(inB xs[m+1].amount 1000000000) = true∧(inB xs[m+1].cap 1000000000) = true∧(inB xs[m+1].rate 1000000) = false) ∨ ((nameB xs[m+1].code) = true∧(Op.bytesLess xs[m].code.toList xs[m+1].code.toList) = true∧(inB xs[m+1].rank 99) = true∧(inB xs[m+1].amount 1000000000) = true∧(inB xs[m+1].cap 1000000000) = true∧(inB xs[m+1].rate 1000000) = true):=by
            go_light
            generalize nameB xs[m+1].code = q0
            generalize Op.bytesLess xs[m].code.toList xs[m+1].code.toList = q1
            generalize inB xs[m+1].rank 99 = q2
            generalize inB xs[m+1].amount 1000000000 = q3
            generalize inB xs[m+1].cap 1000000000 = q4
            generalize inB xs[m+1].rate 1000000 = q5
            cases q0 <;> cases q1 <;> cases q2 <;> cases q3 <;> cases q4 <;> cases q5 <;> simp
          rcases hcs with a0 | ⟨a0,a1⟩ | ⟨a0,a1,a2⟩ | ⟨a0,a1,a2,a3⟩ | ⟨a0,a1,a2,a3,a4⟩ | ⟨a0,a1,a2,a3,a4,a5⟩ | ⟨a0,a1,a2,a3,a4,a5⟩
          all_goals
            refine wp_region_below (by kernel_rfl) (by kernel_rfl) ?_
            repeat (first | go_big_quiet_step ((first | exact Bw.call _ (isName17_any _ _ hzk) | exact Bw.call_same _ (in_any _ _ _))) | quiet_step ((first | exact Bw.call _ (isName17_any _ _ hzk) | exact Bw.call_same _ (in_any _ _ _))))
            refine wpQuiet_nil ?_
            intro W2 hw'
            obtain ⟨⟨W9,hW2⟩,hw''⟩:=hw'
            subst hw''
            have hW3:Below w.heap.size w W2:=hWb.trans (hW2.mono HWs.out)
            go_wp2
            first
              | (go_ret
                 refine ⟨?_,hW3⟩
                 have hq:okD xs (m+1) xs[m+1] = false:=by
                   go_light
                   simp only [okD,HA.out]
                   simp [*]
                 rw [HNO.out hq]; rfl)
              | (go_roundw
                 case rel =>
                   have hok:∀ j,(hj:j < xs.length)→j < m+1+1→okD xs j xs[j] = true:=by
                     intro j hj hjk
                     rcases Nat.lt_or_ge j (m+1) with h1 | h1
                     · exact hall.out j hj h1
                     · obtain rfl:j = m+1:=by omega
                       go_light
                       simp only [okD,HA.out]
                       simp [*]
                   first | exact ⟨m+1+1,by omega,by go_num,hok,hW3⟩ | ((repeat apply Exists.intro); exact ⟨⟨m+1+1,by omega,by go_num,hok,hW3⟩,rfl⟩)
                 case measure=>simp [intOf]; omega)
        · have HA:Hid (ascAt DedT.code xs k xs[k] = true):=by
            have e:k = 0:=by omega
            unfold Hid ascAt
            simp [e]
          have hg0:decide ((0:Int) < (k:Int)) = false:=by simp; omega
          have hg1:decide (0 < k) = false:=by simp; omega
          go_wp2_with fail
          have hWl:(wr.alloc (Obj.cells #[.string xs[k].code,.int .i64 xs[k].rank,.bool xs[k].before,.int .i64 xs[k].amount,.int .i64 xs[k].rate,.int .i64 xs[k].cap] 162)).heap.size = wr.heap.size+1:=by simp
          have hWb:Below w.heap.size w (wr.alloc (Obj.cells #[.string xs[k].code,.int .i64 xs[k].rank,.bool xs[k].before,.int .i64 xs[k].amount,.int .i64 xs[k].rate,.int .i64 xs[k].cap] 162)):=hbel.alloc hbs _
          have hWB:=Blk.new wr 162 #[.string xs[k].code,.int .i64 xs[k].rank,.bool xs[k].before,.int .i64 xs[k].amount,.int .i64 xs[k].rate,.int .i64 xs[k].cap]
          generalize wr.alloc (Obj.cells _ _) = W at hWl hWb hWB  ⊢
          have HWl:=Lib.hid hWl
          have e0:=Bw.cell (w:=W) (a:=⟨wr.heap.size,0,none⟩) (by show wr.heap.size < W.heap.size; omega) (hWB.cell 0)
          have e1:=Bw.cell (w:=W) (a:=⟨wr.heap.size,1,none⟩) (by show wr.heap.size < W.heap.size; omega) (hWB.cell 1)
          have e3:=Bw.cell (w:=W) (a:=⟨wr.heap.size,3,none⟩) (by show wr.heap.size < W.heap.size; omega) (hWB.cell 3)
          have e5:=Bw.cell (w:=W) (a:=⟨wr.heap.size,5,none⟩) (by show wr.heap.size < W.heap.size; omega) (hWB.cell 5)
          have e4:=Bw.cell (w:=W) (a:=⟨wr.heap.size,4,none⟩) (by show wr.heap.size < W.heap.size; omega) (hWB.cell 4)
          have HWs:Hid (w.heap.size≤W.heap.size):=by show w.heap.size≤W.heap.size; omega
          clear hWl hWB c0 c1 c2 c3 c4 c5
          have hcs:((nameB xs[k].code) = false) ∨ ((nameB xs[k].code) = true∧(inB xs[k].rank 99) = false) ∨ ((nameB xs[k].code) = true∧(inB xs[k].rank 99) = true∧(inB xs[k].amount 1000000000) = false) ∨ ((nameB xs[k].code) = true∧(inB xs[k].rank 99) = true∧(inB xs[k].amount 1000000000) = true∧(inB xs[k].cap 1000000000) = false) ∨ ((nameB xs[k].code) = true∧(inB xs[k].rank 99) = true∧(inB xs[k].amount 1000000000) = true∧(inB xs[k].cap 1000000000) = true∧(inB xs[k].rate 1000000) = false) ∨ ((nameB xs[k].code) = true∧(inB xs[k].rank 99) = true∧(inB xs[k].amount 1000000000) = true∧(inB xs[k].cap 1000000000) = true∧(inB xs[k].rate 1000000) = true):=by
            go_light
            generalize nameB xs[k].code = q0
            generalize inB xs[k].rank 99 = q1
            generalize inB xs[k].amount 1000000000 = q2
            generalize inB xs[k].cap 1000000000 = q3
            generalize inB xs[k].rate 1000000 = q4
            cases q0 <;> cases q1 <;> cases q2 <;> cases q3 <;> cases q4 <;> simp
          rcases hcs with a0 | ⟨a0,a1⟩ | ⟨a0,a1,a2⟩ | ⟨a0,a1,a2,a3⟩ | ⟨a0,a1,a2,a3,a4⟩ | ⟨a0,a1,a2,a3,a4⟩
          all_goals
            refine wp_region_below (by kernel_rfl) (by kernel_rfl) ?_
            repeat (first | go_big_quiet_step ((first | exact Bw.call _ (isName17_any _ _ hzk) | exact Bw.call_same _ (in_any _ _ _))) | quiet_step ((first | exact Bw.call _ (isName17_any _ _ hzk) | exact Bw.call_same _ (in_any _ _ _))))
            refine wpQuiet_nil ?_
            intro W2 hw'
            obtain ⟨⟨W9,hW2⟩,hw''⟩:=hw'
            subst hw''
            have hW3:Below w.heap.size w W2:=hWb.trans (hW2.mono HWs.out)
            go_wp2
            first
              | (go_ret
                 refine ⟨?_,hW3⟩
                 have hq:okD xs (k) xs[k] = false:=by
                   go_light
                   simp only [okD,HA.out]
                   simp [*]
                 rw [HNO.out hq]; rfl)
              | (go_roundw
                 case rel =>
                   have hok:∀ j,(hj:j < xs.length)→j < k+1→okD xs j xs[j] = true:=by
                     intro j hj hjk
                     rcases Nat.lt_or_ge j (k) with h1 | h1
                     · exact hall.out j hj h1
                     · obtain rfl:j = k:=by omega
                       go_light
                       simp only [okD,HA.out]
                       simp [*]
                   first | exact ⟨k+1,by omega,by go_num,hok,hW3⟩ | ((repeat apply Exists.intro); exact ⟨⟨k+1,by omega,by go_num,hok,hW3⟩,rfl⟩)
                 case measure=>simp [intOf]; omega)
      · go_wp2
        go_ret
        have hv:validD xs = true:=allOk_yes hlen' (fun i hi=>hall.out i hi (by omega))
        exact ⟨by rw [hv]; rfl,hbel⟩
set_option maxHeartbeats 4000000 in
theorem rec27_any (A:Option Addr) (cap:Nat) (xs:List Elem) (w:World) (h:SliceOf encE 2 w w.heap.size A xs) (hz : ∀ x ∈ xs,x.code.size≤maxLen) (hl:xs.length≤9223372036854775807) :
    Calls Tryz.prog 89 #[.slice A xs.length cap] w fun e w'=>e = .returned (.bool (recB xs))∧Below w.heap.size w w':=by
  have HZ:=Lib.hid hz; clear hz
  by_cases hlen:128 < xs.length
  · have HV:Hid (recB xs = false):=allOk_long hlen
    go_enter Tryz.func89,Tryz.ntmps89
    go_wp2
    go_ret
    exact ⟨by rw [HV.out]; rfl,Below.refl _ _⟩
  · have hlen':xs.length≤128:=by omega
    clear hlen hl
    go_enter Tryz.func89,Tryz.ntmps89
    go_wp2
    go_loopw [3] (fun i wr=>∃ k:Nat,k≤xs.length∧i = .int .i64 k∧Hid (∀ j,(hj:j < xs.length)→j < k→okR xs j xs[j] = true)∧Below w.heap.size w wr) (fun i _=>xs.length - (intOf i).toNat)
    case atStart=>exact ⟨0,by omega,rfl,fun j _ hj=>absurd hj (by omega),Below.refl _ _⟩
    case round =>
      obtain ⟨k,hk,rfl,hall,hbel⟩:=hrel
      by_cases hlt:k < xs.length
      · obtain ⟨b,off,rfl,hb,hc⟩:=(h.below hbel).at_ hlt
        have c0:=hc 0 _ rfl
        have c1:=hc 1 _ rfl
        simp only [Nat.add_zero] at c0
        have hzk:=HZ.out _ (List.getElem_mem hlt)
        have hbs:=hbel.size
        have HNO:Hid (okR xs k xs[k] = false→recB xs = false):=allOk_no hlt
        clear hc
        have hbwr:b < wr.heap.size:=by omega
        rcases Nat.lt_or_ge 0 k with hk0 | hk0
        · obtain ⟨m,rfl⟩ : ∃ m,k = m+1:=⟨k - 1,by omega⟩
          obtain ⟨b',off',hA',hb',hc'⟩:=(h.below hbel).at_ (show m < xs.length by omega)
          injection hA' with hA'
          injection hA' with h1 h2
          subst h1 h2
          have p0:=hc' 0 _ rfl
          simp only [Nat.add_zero] at p0
          have HA:=Lib.hid (ascAt_succ Elem.code xs m xs[m+1] (by omega))
          clear hc'
          go_wp2_with fail
          have e0:=Bw.cell (w:=wr) (a:=⟨b,off+(m+1) * 2,none⟩) (by show b < wr.heap.size; omega) c0
          have e1:=Bw.cell (w:=wr) (a:=⟨b,off+(m+1) * 2+1,none⟩) (by show b < wr.heap.size; omega) c1
          have e99:=Bw.cell (w:=wr) (a:=⟨b,off+m * 2,none⟩) (by show b < wr.heap.size; omega) p0
          clear p0
          have HWs:Hid (w.heap.size≤wr.heap.size):=hbs
          have hWb:=hbel
          clear c0 c1
          have hcs:((nameB xs[m+1].code) = false) ∨ ((nameB xs[m+1].code) = true∧(Op.bytesLess xs[m].code.toList xs[m+1].code.toList) = false) ∨ ((nameB xs[m+1].code) = true∧(Op.bytesLess xs[m].code.toList xs[m+1].code.toList) = true∧(inB xs[m+1].amount 1000000000000) = false) ∨ ((nameB xs[m+1].code) = true∧(Op.bytesLess xs[m].code.toList xs[m+1].code.toList) = true∧(inB xs[m+1].amount 1000000000000) = true):=by
            go_light
            generalize nameB xs[m+1].code = q0
            generalize Op.bytesLess xs[m].code.toList xs[m+1].code.toList = q1
            generalize inB xs[m+1].amount 1000000000000 = q2
            cases q0 <;> cases q1 <;> cases q2 <;> simp
          rcases hcs with a0 | ⟨a0,a1⟩ | ⟨a0,a1,a2⟩ | ⟨a0,a1,a2⟩
          all_goals
            refine wp_region_below (by kernel_rfl) (by kernel_rfl) ?_
            repeat (first | go_big_quiet_step ((first | exact Bw.call _ (isName17_any _ _ hzk) | exact Bw.call_same _ (in_any _ _ _))) | quiet_step ((first | exact Bw.call _ (isName17_any _ _ hzk) | exact Bw.call_same _ (in_any _ _ _))))
            refine wpQuiet_nil ?_
            intro W2 hw'
            obtain ⟨⟨W9,hW2⟩,hw''⟩:=hw'
            subst hw''
            have hW3:Below w.heap.size w W2:=hWb.trans (hW2.mono HWs.out)
            go_wp2
            first
              | (go_ret
                 refine ⟨?_,hW3⟩
                 have hq:okR xs (m+1) xs[m+1] = false:=by
                   go_light
                   simp only [okR,HA.out]
                   simp [*]
                 rw [HNO.out hq]; rfl)
              | (go_roundw
                 case rel =>
                   have hok:∀ j,(hj:j < xs.length)→j < m+1+1→okR xs j xs[j] = true:=by
                     intro j hj hjk
                     rcases Nat.lt_or_ge j (m+1) with h1 | h1
                     · exact hall.out j hj h1
                     · obtain rfl:j = m+1:=by omega
                       go_light
                       simp only [okR,HA.out]
                       simp [*]
                   first | exact ⟨m+1+1,by omega,by go_num,hok,hW3⟩ | ((repeat apply Exists.intro); exact ⟨⟨m+1+1,by omega,by go_num,hok,hW3⟩,rfl⟩)
                 case measure=>simp [intOf]; omega)
        · have HA:Hid (ascAt Elem.code xs k xs[k] = true):=by
            have e:k = 0:=by omega
            unfold Hid ascAt
            simp [e]
          have hg0:decide ((0:Int) < (k:Int)) = false:=by simp; omega
          have hg1:decide (0 < k) = false:=by simp; omega
          go_wp2_with fail
          have e0:=Bw.cell (w:=wr) (a:=⟨b,off+(k) * 2,none⟩) (by show b < wr.heap.size; omega) c0
          have e1:=Bw.cell (w:=wr) (a:=⟨b,off+(k) * 2+1,none⟩) (by show b < wr.heap.size; omega) c1
          have HWs:Hid (w.heap.size≤wr.heap.size):=hbs
          have hWb:=hbel
          clear c0 c1
          have hcs:((nameB xs[k].code) = false) ∨ ((nameB xs[k].code) = true∧(inB xs[k].amount 1000000000000) = false) ∨ ((nameB xs[k].code) = true∧(inB xs[k].amount 1000000000000) = true):=by
            go_light
            generalize nameB xs[k].code = q0
            generalize inB xs[k].amount 1000000000000 = q1
            cases q0 <;> cases q1 <;> simp
          rcases hcs with a0 | ⟨a0,a1⟩ | ⟨a0,a1⟩
          all_goals
            refine wp_region_below (by kernel_rfl) (by kernel_rfl) ?_
            repeat (first | go_big_quiet_step ((first | exact Bw.call _ (isName17_any _ _ hzk) | exact Bw.call_same _ (in_any _ _ _))) | quiet_step ((first | exact Bw.call _ (isName17_any _ _ hzk) | exact Bw.call_same _ (in_any _ _ _))))
            refine wpQuiet_nil ?_
            intro W2 hw'
            obtain ⟨⟨W9,hW2⟩,hw''⟩:=hw'
            subst hw''
            have hW3:Below w.heap.size w W2:=hWb.trans (hW2.mono HWs.out)
            go_wp2
            first
              | (go_ret
                 refine ⟨?_,hW3⟩
                 have hq:okR xs (k) xs[k] = false:=by
                   go_light
                   simp only [okR,HA.out]
                   simp [*]
                 rw [HNO.out hq]; rfl)
              | (go_roundw
                 case rel =>
                   have hok:∀ j,(hj:j < xs.length)→j < k+1→okR xs j xs[j] = true:=by
                     intro j hj hjk
                     rcases Nat.lt_or_ge j (k) with h1 | h1
                     · exact hall.out j hj h1
                     · obtain rfl:j = k:=by omega
                       go_light
                       simp only [okR,HA.out]
                       simp [*]
                   first | exact ⟨k+1,by omega,by go_num,hok,hW3⟩ | ((repeat apply Exists.intro); exact ⟨⟨k+1,by omega,by go_num,hok,hW3⟩,rfl⟩)
                 case measure=>simp [intOf]; omega)
      · go_wp2
        go_ret
        have hv:recB xs = true:=allOk_yes hlen' (fun i hi=>hall.out i hi (by omega))
        exact ⟨by rw [hv]; rfl,hbel⟩
end Go.Proofs.YtjncpgbhokjbfaaGreat
namespace Go.Proofs.YtjncpgbhokjbfaaGreat
open Go.RowKit
theorem ret_tup {a b v : Int} (h:a = b) : Ending.returned (.tuple #[.int .i64 a,.int .i64 v]) = .returned (.tuple #[.int .i64 b,.int .i64 v]):=by rw [h]
set_option maxHeartbeats 1000000 in
theorem at26_any (A:Option Addr) (cap:Nat) (xs:List Elem) (c:ByteArray) (w:World) (B:Nat) (h:SliceOf encE 2 w B A xs) (hl:xs.length≤9223372036854775806) :
  Calls Tryz.prog 95 #[.slice A xs.length cap,.string c] w fun e w'=>e = .returned (.int .i64 (atE xs c))∧w = w':=by
 go_enter Tryz.func95,Tryz.ntmps95
 go_wp2
 go_loop [5] (fun i=>∃ k:Nat,k≤xs.length∧i = .int .i64 k∧Hid (∀ j,(hj:j < xs.length)→j < k→(xs[j].code.toList == c.toList) = false)) (fun i=>xs.length - (intOf i).toNat)
 case atStart=>exact ⟨0,by omega,rfl,fun j _ hj=>absurd hj (by omega)⟩
 case round =>
  obtain ⟨k,hk,rfl,hall⟩:=hrel
  by_cases hlt:k < xs.length
  ·
   obtain ⟨b,off,rfl,hb,hc⟩:=h.at_ hlt
   have c0:=hc 0 _ rfl
   have c1:=hc 1 _ rfl
   simp only [Nat.add_zero] at c0
   clear hc
   by_cases he:(xs[k].code.toList == c.toList) = true
   ·
    have HV:=Lib.hid (atE_at hlt hall.out he)
    go_wp2
    go_ret
    exact ⟨by rw [HV.out]; rfl,rfl⟩
   ·
    have he':(xs[k].code.toList == c.toList) = false:=by simpa using he
    clear he
    go_wp2
    go_round
    case rel =>
     refine ⟨k+1,by omega,by go_num,fun j hj hjk=>?_⟩
     rcases Nat.lt_or_ge j k with h1 | h1
     ·
      exact hall.out j hj h1
     ·
      obtain rfl:j = k:=by omega
      exact he'
    case measure=>simp [intOf]; omega
  ·
   have HV:=Lib.hid (atE_none (l:=xs) (c:=c) (fun j hj=>hall.out j hj (by omega)))
   go_wp2
   go_ret
   exact ⟨by rw [HV.out]; rfl,rfl⟩
theorem sumE_take (xs:List Elem) (k:Nat) (h:k < xs.length) : sumE (xs.take (k+1)) = sumE (xs.take k)+xs[k].amount:=by
 rw [List.take_succ_eq_append_getElem h,sumE_append]; simp [sumE]
set_option maxHeartbeats 1000000 in
theorem sum27_any (A:Option Addr) (cap:Nat) (xs:List Elem) (w:World) (B:Nat) (h:SliceOf encE 2 w B A xs) (hl:xs.length≤1000) (hx : ∀ x ∈ xs,0≤x.amount∧x.amount≤1000000000000) :
  Calls Tryz.prog 55 #[.slice A xs.length cap] w fun e w'=>e = .returned (.int .i64 (sumE xs))∧w = w':=by
 have HX:=Lib.hid hx
 clear hx
 go_enter Tryz.func55,Tryz.ntmps55
 go_wp2
 go_loop [3,4] (fun s i=>∃ k:Nat,k≤xs.length∧i = .int .i64 k∧s = .int .i64 (sumE (xs.take k))) (fun _ i=>xs.length - (intOf i).toNat)
 case atStart=>exact ⟨0,by omega,rfl,rfl⟩
 case round =>
  obtain ⟨k,hk,rfl,rfl⟩:=hrel
  by_cases hlt:k < xs.length
  ·
   obtain ⟨b,off,rfl,hb,hc⟩:=h.at_ hlt
   have c1:=hc 1 _ rfl
   clear hc
   have HT:=Lib.hid (sumE_take xs k hlt)
   have hbd:=sumE_bd (xs.take k) 1000000000000 (fun x hx=>HX.out x (List.mem_of_mem_take hx))
   have hxk:=HX.out _ (List.getElem_mem hlt)
   obtain ⟨hx1,hx2⟩:=hxk
   obtain ⟨hs1,hs2⟩:=hbd
   have hs3:sumE (xs.take k)≤1000000000000000:=by
    have:(xs.take k).length≤1000:=by simp; omega
    omega
   clear hs2
   go_wp2
   go_round
   case rel=>exact ⟨k+1,by omega,by go_num,by rw [HT.out]⟩
   case measure=>simp [intOf]; omega
  ·
   have HV:Hid (xs.take k = xs):=List.take_of_length_le (by omega)
   go_wp2
   go_ret
   exact ⟨by rw [HV.out]; rfl,rfl⟩
theorem wantR_ok {d:DedT} {base taken p : Int} (hE:wantE d base taken = 0) (hp:partN base d.rate 1000000 1 4 = p) : wantR d base taken = if 0 < d.cap then min (min (d.amount+p) 1000000000) (max (d.cap - taken) 0) else min (d.amount+p) 1000000000:=by
 rw [wantR,if_pos hE,wantN,wantA,hp]
theorem wantE_1 {d:DedT} {base taken : Int} (h:validD [d] = false) : wantE d base taken = 1:=by rw [wantE,if_pos h]
theorem wantE_2 {d:DedT} {base taken : Int} (h:validD [d] = true) (h2:inB base 1000000000 = false ∨ inB taken 1000000000000 = false) : wantE d base taken = 2:=by
 rw [wantE,if_neg (by simp [h])]
 rcases h2 with h2 | h2
 ·
  rw [if_pos h2]
 ·
  rw [if_pos h2]; split <;> rfl
theorem wantE_0 {d:DedT} {base taken : Int} (h:validD [d] = true) (h1:inB base 1000000000 = true) (h2:inB taken 1000000000000 = true) : wantE d base taken = 0:=by
 rw [wantE,if_neg (by simp [h]),if_neg (by simp [h1]),if_neg (by simp [h2])]
theorem wantR_no {d:DedT} {base taken : Int} (h:wantE d base taken ≠ 0) : wantR d base taken = 0:=by rw [wantR,if_neg h]
set_option maxHeartbeats 2000000 in
theorem wanted27_any (d:DedT) (base taken : Int) (w:World) (hz:d.code.size≤maxLen) (ht:I64 taken) :
  Calls Tryz.prog 94 #[.agg #[.string d.code,.int .i64 d.rank,.bool d.before,.int .i64 d.amount,.int .i64 d.rate,.int .i64 d.cap],.int .i64 base,.int .i64 taken] w fun e w'=>e = .returned (.tuple #[.int .i64 (wantR d base taken),.int .i64 (wantE d base taken)])∧Below w.heap.size w w':=by
 obtain ⟨t1,t2⟩:=ht
 go_enter Tryz.func94,Tryz.ntmps94
 go_wp2_with fail
 have hBx:=(Blk.new w 162 #[.string d.code,.int .i64 d.rank,.bool d.before,.int .i64 d.amount,.int .i64 d.rate,.int .i64 d.cap]).alloc (.cells #[.string d.code,.int .i64 d.rank,.bool d.before,.int .i64 d.amount,.int .i64 d.rate,.int .i64 d.cap] 162)
 have hS:=SliceOf.new encD_len (w.alloc (.cells #[.string d.code,.int .i64 d.rank,.bool d.before,.int .i64 d.amount,.int .i64 d.rate,.int .i64 d.cap] 162)) [d] #[.string d.code,.int .i64 d.rank,.bool d.before,.int .i64 d.amount,.int .i64 d.rate,.int .i64 d.cap] 162 rfl
 rw [World.size_alloc] at hS
 refine (valid27_any _ 1 [d] _ (hS.more (by simp)) (by simpa using hz) (by simp)).mono ?_
 rintro e w1 ⟨rfl,hb1⟩
 have hbel:Below w.heap.size w w1:=bel_adv (bel_alloc (bel_alloc (Below.refl _ _) _) _) hb1
 have hB1:=hBx.adv hb1
 have hl1:=hB1.lt
 have z0:=hB1.cell 0
 have z1:=hB1.cell 1
 have z2:=hB1.cell 2
 have z3:=hB1.cell 3
 have z4:=hB1.cell 4
 have z5:=hB1.cell 5
 simp only [nqg,nqh,nqi] at z0 z1 z2 z3 z4 z5
 clear hb1 hBx hS hB1
 by_cases hv:validD [d] = true
 ·
  have hok:=validD_one.1 hv
  by_cases h1:inB base 1000000000 = true
  ·
   by_cases h3:inB taken 1000000000000 = true
   ·
    have hE:=wantE_0 hv h1 h3
    have g1:=inB_lo h1
    have g2:=inB_hi h1
    have g3:=inB_lo h3
    have g4:=inB_hi h3
    obtain ⟨q1,q2,q3,_,_⟩:=wantA_bd hok g1 g2
    obtain ⟨_,_,_,a0,a1,c0,c1,_,_⟩:=hok
    have HQ:=Lib.hid q1
    clear q1
    generalize hp:partN base d.rate 1000000 1 4 = p at q2 q3
    have HP:=Lib.hid hp
    have HW:=Lib.hid (wantR_ok hE hp)
    have HE:=Lib.hid hE
    clear hp hE
    go_wp2_with (go_at_call 93; refine (in_any _ _ _).mono ?_; rintro e w' ⟨rfl,rfl⟩)
    refine (part2_any _ _ _ _ _ _).mono ?_
    rintro e w' ⟨rfl,rfl⟩
    rw [HQ.out,HP.out]
    go_wp2
    all_goals
     go_ret2
     refine ⟨?_,hbel⟩
     rw [HW.out,HE.out]
     exact ret_tup (by first | omega | (simp_all; done) | (simp_all; omega))
   ·
    have h3':inB taken 1000000000000 = false:=by simpa using h3
    have HE:=Lib.hid (wantE_2 (base:=base) hv (.inr h3'))
    have HR:=Lib.hid (wantR_no (d:=d) (base:=base) (taken:=taken) (by rw [HE.out]; decide))
    clear h3
    go_wp2_with (go_at_call 93; refine (in_any _ _ _).mono ?_; rintro e w' ⟨rfl,rfl⟩)
    go_ret2
    exact ⟨by rw [HE.out,HR.out]; rfl,hbel⟩
  ·
   have h1':inB base 1000000000 = false:=by simpa using h1
   have HE:=Lib.hid (wantE_2 (taken:=taken) hv (.inl h1'))
   have HR:=Lib.hid (wantR_no (d:=d) (base:=base) (taken:=taken) (by rw [HE.out]; decide))
   clear h1
   go_wp2_with (go_at_call 93; refine (in_any _ _ _).mono ?_; rintro e w' ⟨rfl,rfl⟩)
   go_ret2
   exact ⟨by rw [HE.out,HR.out]; rfl,hbel⟩
 ·
  have hv':validD [d] = false:=by simpa using hv
  have HE:=Lib.hid (wantE_1 (base:=base) (taken:=taken) hv')
  have HR:=Lib.hid (wantR_no (d:=d) (base:=base) (taken:=taken) (by rw [HE.out]; decide))
  clear hv
  go_wp2
  go_ret2
  exact ⟨by rw [HE.out,HR.out]; rfl,hbel⟩
end Go.Proofs.YtjncpgbhokjbfaaGreat
namespace Go.Proofs.YtjncpgbhokjbfaaGreat
open Go.RowKit
def EPost (m:List Elem) (er:Int) (w:World) (e:Ending) (w' : World) : Prop :=
 ∃ A cap,e = .returned (.tuple #[.slice A m.length cap,.int .i64 er])∧SliceOf encE 2 w' w'.heap.size A m∧m.length≤cap∧cap≤maxLen∧Below w.heap.size w w'
theorem EPost.fail {m:List Elem} {er n : Int} {w W : World} (hm:m = []) (he:er = n) (hb:Below w.heap.size w W) : EPost m er w (Ending.returned (.tuple #[.slice none 0 0,.int .i64 n])) W:=by
 subst hm he
 exact ⟨none,0,rfl,SliceOf.nil_,by simp,by unfold maxLen; omega,hb⟩
theorem wanted27_ok (d:DedT) (base taken : Int) (w:World) (hz:d.code.size≤maxLen) (hok:DedOk d) (h1:0≤base) (h2:base≤1000000000) (h3:0≤taken) (h4:taken≤1000000000000) :
  Calls Tryz.prog 94 #[.agg #[.string d.code,.int .i64 d.rank,.bool d.before,.int .i64 d.amount,.int .i64 d.rate,.int .i64 d.cap],.int .i64 base,.int .i64 taken] w fun e w'=>e = .returned (.tuple #[.int .i64 (wantN d base taken),.int .i64 0])∧Below w.heap.size w w':=by
 have hE:=wantE_0 (validD_one.2 hok) (inB_iff.2 ⟨h1,h2⟩) (inB_iff.2 ⟨h3,h4⟩)
 refine (wanted27_any d base taken w hz ⟨by omega,by omega⟩).mono fun e w' ⟨he,hb⟩=>⟨?_,hb⟩
 rw [he,hE,wantR,if_pos hE]
end Go.Proofs.YtjncpgbhokjbfaaGreat
