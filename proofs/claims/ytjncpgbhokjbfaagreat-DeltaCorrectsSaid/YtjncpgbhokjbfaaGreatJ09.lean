/- Joined texts: Wage2. Conditions: as stated. -/
import Derived.Test.YtjncpgbhokjbfaaGreatJ02
namespace Go.Proofs.YtjncpgbhokjbfaaGreat
open Go.RowKit
set_option maxHeartbeats 2000000 in
theorem valid26_any (A:Option Addr) (cap:Nat) (xs:List WageT) (w:World) (h:SliceOf encW 6 w w.heap.size A xs) (hz : ∀ x ∈ xs,x.code.size≤maxLen) (hl:xs.length≤9223372036854775807) :
    Calls Tryz.prog 90 #[.slice A xs.length cap] w fun e w'=>e = .returned (.bool (validB xs))∧Below w.heap.size w w':=by
  have HZ:=Lib.hid hz; clear hz
  by_cases hlen:64 < xs.length
  · have HV:Hid (validB xs = false):=by simp [Hid,validB]; intro; omega
    go_enter Tryz.func90,Tryz.ntmps90
    go_wp2
    go_ret
    exact ⟨by rw [HV.out]; rfl,Below.refl _ _⟩
  · have hlen':xs.length≤64:=by omega
    clear hlen hl
    go_enter Tryz.func90,Tryz.ntmps90
    go_wp2
    go_loopw [3] (fun i wr=>∃ k:Nat,k≤xs.length∧i = .int .i64 k∧Hid (∀ j,(hj:j < xs.length)→j < k→okAt xs j xs[j] = true)∧Below w.heap.size w wr) (fun i _=>xs.length - (intOf i).toNat)
    case atStart=>exact ⟨0,by omega,rfl,fun j _ hj=>absurd hj (by omega),Below.refl _ _⟩
    case round =>
      obtain ⟨k,hk,rfl,hall,hbel⟩:=hrel
      by_cases hlt:k < xs.length
      · obtain ⟨b,off,rfl,hb,hc⟩:=(h.below hbel).at_ hlt
        have c0:=hc 0 _ rfl
        have c1:=hc 1 _ rfl
        have c2:=hc 2 _ rfl
        have c3:=hc 3 _ rfl
        have c4:=hc 4 _ rfl
        have c5:=hc 5 _ rfl
        simp only [Nat.add_zero] at c0
        have hzk:=HZ.out _ (List.getElem_mem hlt)
        have hbs:=hbel.size
        have HNO:=Lib.hid (@validB_no xs k hlt)
        clear hc
        rcases Nat.lt_or_ge 0 k with hk0 | hk0
        · obtain ⟨m,rfl⟩ : ∃ m,k = m+1:=⟨k - 1,by omega⟩
          obtain ⟨b',off',hA',hb',hc'⟩:=(h.below hbel).at_ (show m < xs.length by omega)
          injection hA' with hA'
          injection hA' with h1 h2
          subst h1 h2
          have p0:=hc' 0 _ rfl
          simp only [Nat.add_zero] at p0
          have hO:=okAt_eq xs (m+1) xs[m+1] _ (.inr ⟨xs[m],by simp,rfl⟩)
          have HO:=Lib.hid hO
          have hbwr:b < wr.heap.size:=by omega
          clear hc' hO
          go_wp2_with fail
          have hWl:(wr.alloc (Obj.cells #[Value.string xs[m+1].code,Value.int IntKind.i64 xs[m+1].kind,Value.bool xs[m+1].taxable,Value.bool xs[m+1].insured,Value.bool xs[m+1].attachable,Value.int IntKind.i64 xs[m+1].account] 61)).heap.size = wr.heap.size+1:=by simp
          have hWb:Below w.heap.size w (wr.alloc (Obj.cells #[Value.string xs[m+1].code,Value.int IntKind.i64 xs[m+1].kind,Value.bool xs[m+1].taxable,Value.bool xs[m+1].insured,Value.bool xs[m+1].attachable,Value.int IntKind.i64 xs[m+1].account] 61)):=hbel.alloc hbs _
          have hWB:=Blk.new wr 61 #[Value.string xs[m+1].code,Value.int IntKind.i64 xs[m+1].kind,Value.bool xs[m+1].taxable,Value.bool xs[m+1].insured,Value.bool xs[m+1].attachable,Value.int IntKind.i64 xs[m+1].account]
          have hWp:=(World.cell?_alloc_past (w:=wr) (Obj.cells #[Value.string xs[m+1].code,Value.int IntKind.i64 xs[m+1].kind,Value.bool xs[m+1].taxable,Value.bool xs[m+1].insured,Value.bool xs[m+1].attachable,Value.int IntKind.i64 xs[m+1].account] 61) b (off+m * 6) hbwr).trans p0
          generalize wr.alloc (Obj.cells _ _) = W at hWl hWb hWB hWp ⊢
          have HWl:=Lib.hid hWl
          have e0:=Bw.cell (w:=W) (a:=⟨wr.heap.size,0,none⟩) (by show wr.heap.size < W.heap.size; omega) (hWB.cell 0)
          have e1:=Bw.cell (w:=W) (a:=⟨wr.heap.size,1,none⟩) (by show wr.heap.size < W.heap.size; omega) (hWB.cell 1)
          have e4:=Bw.cell (w:=W) (a:=⟨wr.heap.size,4,none⟩) (by show wr.heap.size < W.heap.size; omega) (hWB.cell 4)
          have e5:=Bw.cell (w:=W) (a:=⟨wr.heap.size,5,none⟩) (by show wr.heap.size < W.heap.size; omega) (hWB.cell 5)
          have e9:=Bw.cell (w:=W) (a:=⟨b,off+m * 6,none⟩) (by show b < W.heap.size; omega) hWp
          clear hWp p0
          have HWs:Hid (w.heap.size≤W.heap.size):=by show w.heap.size≤W.heap.size; omega
          clear hWl hWB c0 c1 c2 c3 c4 c5
          have hcs:nameB xs[m+1].code = false ∨ (nameB xs[m+1].code = true∧(Op.bytesLess xs[m].code.toList xs[m+1].code.toList) = false) ∨ (nameB xs[m+1].code = true∧(Op.bytesLess xs[m].code.toList xs[m+1].code.toList) = true∧((xs[m+1].kind == 1) = false∧(xs[m+1].kind != 1) = true∧(xs[m+1].kind == 2) = false∧(xs[m+1].kind != 2) = true)) ∨
              (nameB xs[m+1].code = true∧(Op.bytesLess xs[m].code.toList xs[m+1].code.toList) = true∧((xs[m+1].kind == 1) = true∧(xs[m+1].kind != 1) = false∧(xs[m+1].kind == 2) = false∧(xs[m+1].kind != 2) = true)∧decide (xs[m+1].account < 1000) = true) ∨
              (nameB xs[m+1].code = true∧(Op.bytesLess xs[m].code.toList xs[m+1].code.toList) = true∧((xs[m+1].kind == 1) = true∧(xs[m+1].kind != 1) = false∧(xs[m+1].kind == 2) = false∧(xs[m+1].kind != 2) = true)∧decide (xs[m+1].account < 1000) = false∧decide (9999 < xs[m+1].account) = true) ∨
              (nameB xs[m+1].code = true∧(Op.bytesLess xs[m].code.toList xs[m+1].code.toList) = true∧((xs[m+1].kind == 1) = true∧(xs[m+1].kind != 1) = false∧(xs[m+1].kind == 2) = false∧(xs[m+1].kind != 2) = true)∧decide (xs[m+1].account < 1000) = false∧decide (9999 < xs[m+1].account) = false) ∨
              (nameB xs[m+1].code = true∧(Op.bytesLess xs[m].code.toList xs[m+1].code.toList) = true∧((xs[m+1].kind == 1) = false∧(xs[m+1].kind != 1) = true∧(xs[m+1].kind == 2) = true∧(xs[m+1].kind != 2) = false)∧xs[m+1].attachable = true) ∨
              (nameB xs[m+1].code = true∧(Op.bytesLess xs[m].code.toList xs[m+1].code.toList) = true∧((xs[m+1].kind == 1) = false∧(xs[m+1].kind != 1) = true∧(xs[m+1].kind == 2) = true∧(xs[m+1].kind != 2) = false)∧xs[m+1].attachable = false∧decide (xs[m+1].account < 1000) = true) ∨
              (nameB xs[m+1].code = true∧(Op.bytesLess xs[m].code.toList xs[m+1].code.toList) = true∧((xs[m+1].kind == 1) = false∧(xs[m+1].kind != 1) = true∧(xs[m+1].kind == 2) = true∧(xs[m+1].kind != 2) = false)∧xs[m+1].attachable = false∧decide (xs[m+1].account < 1000) = false∧decide (9999 < xs[m+1].account) = true) ∨
              (nameB xs[m+1].code = true∧(Op.bytesLess xs[m].code.toList xs[m+1].code.toList) = true∧((xs[m+1].kind == 1) = false∧(xs[m+1].kind != 1) = true∧(xs[m+1].kind == 2) = true∧(xs[m+1].kind != 2) = false)∧xs[m+1].attachable = false∧decide (xs[m+1].account < 1000) = false∧decide (9999 < xs[m+1].account) = false):=by
            go_light
            clear HO HNO e0 e1 e4 e5 hall
            generalize nameB xs[m+1].code = q1
            generalize Op.bytesLess xs[m].code.toList xs[m+1].code.toList = q2
            generalize xs[m+1].kind = q3
            generalize xs[m+1].attachable = q4
            generalize xs[m+1].account = q5
            cases q1
            · simp
            · by_cases z1:q3 = 1
              · subst z1
                by_cases z2:q5 < 1000 <;> by_cases z3:9999 < q5 <;> cases q2 <;> simp [z2,z3]
              · by_cases z4:q3 = 2
                · subst z4
                  by_cases z2:q5 < 1000 <;> by_cases z3:9999 < q5 <;> cases q4 <;> cases q2 <;> simp [z2,z3]
                · cases q2 <;> simp [z1,z4]
          rcases hcs with a1 | ⟨a1,a2⟩ | ⟨a1,a2,k1,k2,k3,k4⟩ | ⟨a1,a2,⟨k1,k2,k3,k4⟩,d1⟩ | ⟨a1,a2,⟨k1,k2,k3,k4⟩,d1,d2⟩ | ⟨a1,a2,⟨k1,k2,k3,k4⟩,d1,d2⟩ | ⟨a1,a2,⟨k1,k2,k3,k4⟩,t1⟩ | ⟨a1,a2,⟨k1,k2,k3,k4⟩,t1,d1⟩ | ⟨a1,a2,⟨k1,k2,k3,k4⟩,t1,d1,d2⟩ | ⟨a1,a2,⟨k1,k2,k3,k4⟩,t1,d1,d2⟩
          all_goals
            refine wp_region_below (by kernel_rfl) (by kernel_rfl) ?_
            repeat (first | go_big_quiet_step ((exact Bw.call _ (isName17_any _ _ hzk))) | quiet_step ((exact Bw.call _ (isName17_any _ _ hzk))))
            refine wpQuiet_nil ?_
            intro W2 hw'
            obtain ⟨⟨W9,hW2⟩,hw''⟩:=hw'
            subst hw''
            have hW3:Below w.heap.size w W2:=hWb.trans (hW2.mono HWs.out)
            go_wp2
            first
              | (go_ret
                 refine ⟨?_,hW3⟩
                 have hq:okAt xs (m+1) xs[m+1] = false:=by
                   go_light
                   rw [HO.out]
                   apply decide_eq_false
                   rintro ⟨h1,h2,h3,h4,h5,h6⟩
                   first | omega | (simp_all; done) | (simp_all; omega)
                 rw [HNO.out hq]; rfl)
              | (go_roundw
                 case rel =>
                   have hok:∀ j,(hj:j < xs.length)→j < m+1+1→okAt xs j xs[j] = true:=by
                     intro j hj hjk
                     rcases Nat.lt_or_ge j (m+1) with h1 | h1
                     · exact hall.out j hj h1
                     · obtain rfl:j = m+1:=by omega
                       go_light
                       rw [HO.out]
                       apply decide_eq_true
                       refine ⟨by assumption,.inr (by assumption),?_,?_,?_,?_⟩
                       all_goals first | omega | (simp_all; done) | (simp_all; omega)
                   first | exact ⟨m+1+1,by omega,by go_num,hok,hW3⟩ | ((repeat apply Exists.intro); exact ⟨⟨m+1+1,by omega,by go_num,hok,hW3⟩,rfl⟩)
                 case measure=>simp [intOf]; omega)
        · have hO:=okAt_eq xs k xs[k] true (.inl (by omega))
          have HO:=Lib.hid hO
          have hg0:decide ((0:Int) < (k:Int)) = false:=by simp; omega
          have hg1:decide (0 < k) = false:=by simp; omega
          clear hO
          go_wp2_with fail
          have hWl:(wr.alloc (Obj.cells #[Value.string xs[k].code,Value.int IntKind.i64 xs[k].kind,Value.bool xs[k].taxable,Value.bool xs[k].insured,Value.bool xs[k].attachable,Value.int IntKind.i64 xs[k].account] 61)).heap.size = wr.heap.size+1:=by simp
          have hWb:Below w.heap.size w (wr.alloc (Obj.cells #[Value.string xs[k].code,Value.int IntKind.i64 xs[k].kind,Value.bool xs[k].taxable,Value.bool xs[k].insured,Value.bool xs[k].attachable,Value.int IntKind.i64 xs[k].account] 61)):=hbel.alloc hbs _
          have hWB:=Blk.new wr 61 #[Value.string xs[k].code,Value.int IntKind.i64 xs[k].kind,Value.bool xs[k].taxable,Value.bool xs[k].insured,Value.bool xs[k].attachable,Value.int IntKind.i64 xs[k].account]
          generalize wr.alloc (Obj.cells _ _) = W at hWl hWb hWB  ⊢
          have HWl:=Lib.hid hWl
          have e0:=Bw.cell (w:=W) (a:=⟨wr.heap.size,0,none⟩) (by show wr.heap.size < W.heap.size; omega) (hWB.cell 0)
          have e1:=Bw.cell (w:=W) (a:=⟨wr.heap.size,1,none⟩) (by show wr.heap.size < W.heap.size; omega) (hWB.cell 1)
          have e4:=Bw.cell (w:=W) (a:=⟨wr.heap.size,4,none⟩) (by show wr.heap.size < W.heap.size; omega) (hWB.cell 4)
          have e5:=Bw.cell (w:=W) (a:=⟨wr.heap.size,5,none⟩) (by show wr.heap.size < W.heap.size; omega) (hWB.cell 5)
          have HWs:Hid (w.heap.size≤W.heap.size):=by show w.heap.size≤W.heap.size; omega
          clear hWl hWB c0 c1 c2 c3 c4 c5
          have hcs:nameB xs[k].code = false ∨ (nameB xs[k].code = true∧((xs[k].kind == 1) = false∧(xs[k].kind != 1) = true∧(xs[k].kind == 2) = false∧(xs[k].kind != 2) = true)) ∨
              (nameB xs[k].code = true∧((xs[k].kind == 1) = true∧(xs[k].kind != 1) = false∧(xs[k].kind == 2) = false∧(xs[k].kind != 2) = true)∧decide (xs[k].account < 1000) = true) ∨
              (nameB xs[k].code = true∧((xs[k].kind == 1) = true∧(xs[k].kind != 1) = false∧(xs[k].kind == 2) = false∧(xs[k].kind != 2) = true)∧decide (xs[k].account < 1000) = false∧decide (9999 < xs[k].account) = true) ∨
              (nameB xs[k].code = true∧((xs[k].kind == 1) = true∧(xs[k].kind != 1) = false∧(xs[k].kind == 2) = false∧(xs[k].kind != 2) = true)∧decide (xs[k].account < 1000) = false∧decide (9999 < xs[k].account) = false) ∨
              (nameB xs[k].code = true∧((xs[k].kind == 1) = false∧(xs[k].kind != 1) = true∧(xs[k].kind == 2) = true∧(xs[k].kind != 2) = false)∧xs[k].attachable = true) ∨
              (nameB xs[k].code = true∧((xs[k].kind == 1) = false∧(xs[k].kind != 1) = true∧(xs[k].kind == 2) = true∧(xs[k].kind != 2) = false)∧xs[k].attachable = false∧decide (xs[k].account < 1000) = true) ∨
              (nameB xs[k].code = true∧((xs[k].kind == 1) = false∧(xs[k].kind != 1) = true∧(xs[k].kind == 2) = true∧(xs[k].kind != 2) = false)∧xs[k].attachable = false∧decide (xs[k].account < 1000) = false∧decide (9999 < xs[k].account) = true) ∨
              (nameB xs[k].code = true∧((xs[k].kind == 1) = false∧(xs[k].kind != 1) = true∧(xs[k].kind == 2) = true∧(xs[k].kind != 2) = false)∧xs[k].attachable = false∧decide (xs[k].account < 1000) = false∧decide (9999 < xs[k].account) = false):=by
            go_light
            clear HO HNO e0 e1 e4 e5 hall
            generalize nameB xs[k].code = q1
            generalize xs[k].kind = q3
            generalize xs[k].attachable = q4
            generalize xs[k].account = q5
            cases q1
            · simp
            · by_cases z1:q3 = 1
              · subst z1
                by_cases z2:q5 < 1000 <;> by_cases z3:9999 < q5 <;> simp [z2,z3]
              · by_cases z4:q3 = 2
                · subst z4
                  by_cases z2:q5 < 1000 <;> by_cases z3:9999 < q5 <;> cases q4 <;> simp [z2,z3]
                · simp [z1,z4]
          rcases hcs with a1 | ⟨a1,k1,k2,k3,k4⟩ | ⟨a1,⟨k1,k2,k3,k4⟩,d1⟩ | ⟨a1,⟨k1,k2,k3,k4⟩,d1,d2⟩ | ⟨a1,⟨k1,k2,k3,k4⟩,d1,d2⟩ | ⟨a1,⟨k1,k2,k3,k4⟩,t1⟩ | ⟨a1,⟨k1,k2,k3,k4⟩,t1,d1⟩ | ⟨a1,⟨k1,k2,k3,k4⟩,t1,d1,d2⟩ | ⟨a1,⟨k1,k2,k3,k4⟩,t1,d1,d2⟩
          all_goals
            refine wp_region_below (by kernel_rfl) (by kernel_rfl) ?_
            repeat (first | go_big_quiet_step ((exact Bw.call _ (isName17_any _ _ hzk))) | quiet_step ((exact Bw.call _ (isName17_any _ _ hzk))))
            refine wpQuiet_nil ?_
            intro W2 hw'
            obtain ⟨⟨W9,hW2⟩,hw''⟩:=hw'
            subst hw''
            have hW3:Below w.heap.size w W2:=hWb.trans (hW2.mono HWs.out)
            go_wp2
            first
              | (go_ret
                 refine ⟨?_,hW3⟩
                 have hq:okAt xs (k) xs[k] = false:=by
                   go_light
                   rw [HO.out]
                   apply decide_eq_false
                   rintro ⟨h1,h2,h3,h4,h5,h6⟩
                   first | omega | (simp_all; done) | (simp_all; omega)
                 rw [HNO.out hq]; rfl)
              | (go_roundw
                 case rel =>
                   have hok:∀ j,(hj:j < xs.length)→j < k+1→okAt xs j xs[j] = true:=by
                     intro j hj hjk
                     rcases Nat.lt_or_ge j (k) with h1 | h1
                     · exact hall.out j hj h1
                     · obtain rfl:j = k:=by omega
                       go_light
                       rw [HO.out]
                       apply decide_eq_true
                       refine ⟨by assumption,by omega,?_,?_,?_,?_⟩
                       all_goals first | omega | (simp_all; done) | (simp_all; omega)
                   first | exact ⟨k+1,by omega,by go_num,hok,hW3⟩ | ((repeat apply Exists.intro); exact ⟨⟨k+1,by omega,by go_num,hok,hW3⟩,rfl⟩)
                 case measure=>simp [intOf]; omega)
      · go_wp2
        go_ret
        exact ⟨by rw [validB_yes hlen' (fun i hi=>hall.out i hi (by omega))]; rfl,hbel⟩
end Go.Proofs.YtjncpgbhokjbfaaGreat
