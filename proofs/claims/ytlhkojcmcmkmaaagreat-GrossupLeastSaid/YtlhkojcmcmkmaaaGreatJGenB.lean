/- Joined texts: GenB. Conditions: as stated. -/
import Derived.Deep.CutRange
import Derived.Test.YtlhkojcmcmkmaaaGreatJGenT
namespace Go.Proofs.YtlhkojcmcmkmaaaGreat
open Go.RowKit
def brMax (p:Bool) : Int:=if p = true then 450000 else 1000000
theorem brMax_le (p:Bool) : brMax p≤1000000:=by cases p <;> decide
theorem brMax_ge (p:Bool) : 150000≤brMax p:=by cases p <;> decide
structure BrG (mx:Int) (xs:List BrT) : Prop where
 ne:0 < xs.length
 zero:(xs.getD 0 zBr).frm = 0
 asc:∀ i,i+1 < xs.length→(xs.getD i zBr).frm < (xs.getD (i+1) zBr).frm
 fr:∀ i,i < xs.length→0≤(xs.getD i zBr).frm∧(xs.getD i zBr).frm≤3000001 * i
 ra:∀ i,i < xs.length→0≤(xs.getD i zBr).rate∧(xs.getD i zBr).rate≤mx
theorem BrG.one {r mx : Int} (h0:0≤r) (h1:r≤mx) : BrG mx [⟨0,r⟩]:=by
 refine ⟨by simp,rfl,fun i hi=>?_,fun i hi=>?_,fun i hi=>?_⟩
 ·
  simp at hi
 ·
  simp at hi; subst hi; exact ⟨Int.le_refl _,Int.le_refl _⟩
 ·
  simp at hi; subst hi
  exact ⟨h0,h1⟩
theorem BrG.snoc {xs:List BrT} {m:Nat} {mx:Int} (h:BrG mx xs) (hm:m+1 = xs.length) {f t : Int} (h0 : (xs.getD m zBr).frm < f) (h1:f≤(xs.getD m zBr).frm+3000001) (h2:0≤t) (h3:t≤mx) : BrG mx (xs++[⟨f,t⟩]):=by
 have hf:=h.fr m (by omega)
 refine ⟨by simp,?_,fun i hi=>?_,fun i hi=>?_,fun i hi=>?_⟩
 ·
  rw [getD_snoc_lt h.ne]; exact h.zero
 ·
  simp only [List.length_append,List.length_cons,List.length_nil] at hi
  rcases Nat.lt_or_ge (i+1) xs.length with hl | hl
  ·
   rw [getD_snoc_lt hl,getD_snoc_lt (by omega)]; exact h.asc i hl
  ·
   have e1:i+1 = xs.length:=by omega
   have e2:i = m:=by omega
   rw [getD_snoc_lt (show i < xs.length by omega),e1,getD_snoc_eq,e2]; exact h0
 all_goals
  simp only [List.length_append,List.length_cons,List.length_nil] at hi
  rcases Nat.lt_or_ge i xs.length with hl | hl
 ·
  rw [getD_snoc_lt hl]; exact h.fr i hl
 ·
  have e1:i = xs.length:=by omega
  rw [e1,getD_snoc_eq]
  show 0≤f∧f≤_
  omega
 ·
  rw [getD_snoc_lt hl]; exact h.ra i hl
 ·
  have e1:i = xs.length:=by omega
  rw [e1,getD_snoc_eq]
  exact ⟨h2,h3⟩
theorem BrG.ok {xs:List BrT} {mx:Int} (h:BrG mx xs) (hm:mx≤1000000) (hl:xs.length≤4) : BrOk xs :=
 ⟨h.ne,by omega,h.zero,h.asc,fun i hi=>by have:=h.fr i hi; omega,fun i hi=>(h.ra i hi).1,fun i hi=>Int.le_trans (h.ra i hi).2 hm⟩
def CutBr (W:World) (b M g : Nat) (f r : Int) (s:Value) (wx:World) : Prop :=
 ∃ (gN:Nat) (F R:Int),s = .pointer (some ⟨gN,0,none⟩)∧W.heap.size≤gN∧Blk wx gN 127 #[.int .i64 F,.int .i64 R]∧Blk wx g 127 #[.int .i64 f,.int .i64 r]∧DeckIn wx b M∧W.grownBy wx (some b)∧f < F∧F≤f+3000001∧0≤R∧R≤1000000
set_option maxRecDepth 100000 in
set_option maxHeartbeats 4000000 in
theorem brackets_anyP (b M : Nat) (p:Bool) (w:World) (hM:M≤600000) (hd:DeckIn w b M) :
  Calls Tryz.prog 73 #[.pointer (some ⟨b,0,none⟩),.bool p] w fun e w'=>∃ v xs,e = .returned v∧(BrOk xs∧∀ x ∈ xs,x.rate≤brMax p)∧Own encBr 2 127 w' w.heap.size v xs∧DeckIn w' b (M+17)∧w.grownBy w' (some b):=by
 have hlt:=hd.lt
 go_enter Tryz.func73,Tryz.ntmps73
 go_wp2_with fail
 refine (pick_new b M w [0,100000,150000] _ _ _ rfl rfl (by omega) hd (by simp) (by simp)).mono ?_
 rintro e w1 ⟨r1,rfl,hm1,hd1,hg1⟩
 have hmx:=brMax_le p
 have hdr1:0≤r1∧r1≤brMax p:=by have:=brMax_ge p; simp at hm1; omega
 have hown0:=Own.lit (base:=w.heap.size) encBr_len w1 [⟨0,r1⟩] #[.int .i64 0,.int .i64 r1] 127 rfl (by simp) hg1.size
 simp only [List.length_cons,List.length_nil] at hown0
 go_wp2_with fail
 refine (next_any b (M+1) _ _ (by omega) (by omega) (by omega) (hd1.alloc _)).mono ?_
 rintro e w2 ⟨r2,rfl,ha2,hb2,hd2,hg2⟩
 obtain ⟨k0,rfl⟩:=Int.eq_ofNat_of_zero_le ha2
 have hown2:=hown0.kept hg2 (by intro g e; injection e; omega)
 have hG2:w.grownBy w2 (some b):=only_trans (only_alloc hg1 _) hg2
 clear hown0 hg1 hg2 hd1 hd hm1
 go_wp2_with fail
 go_loopw [5,6] (fun v i wr=>∃ (k:Nat) (xs:List BrT),k≤3∧i = .int .i64 k∧xs.length+k≤4∧Hid (BrG (brMax p) xs)∧Own encBr 2 127 wr w.heap.size v xs∧DeckIn wr b (M+2+5 * (3 - k))∧w.grownBy wr (some b)) (fun _ i _=>(intOf i).toNat)
 case atStart=>exact ⟨k0,[⟨0,r1⟩],by omega,rfl,by simp; omega,BrG.one hdr1.1 hdr1.2,hown2,hd2.mono (by omega),hG2⟩
 case round =>
  obtain ⟨k,xs,hk,rfl,hlen,hgen,hown,hdk,hg⟩:=hrel
  by_cases hk0:0 < k
  ·
   obtain ⟨m,hm⟩ : ∃ m,xs.length = m+1:=⟨xs.length - 1,by have:=hgen.out.ne; omega⟩
   obtain ⟨A,c,rfl,hS,hfA,_⟩:=hown.form encBr_len
   have hmx:m < xs.length:=by omega
   obtain ⟨bb,off,rfl,hbb,hc⟩:=hS.at_ hmx
   have c0:=hc 0 _ rfl
   have c1:=hc 1 _ rfl
   simp only [Nat.add_zero] at c0
   clear hc hS
   obtain ⟨f,hf⟩ : ∃ f,f = xs[m].frm:=⟨_,rfl⟩
   obtain ⟨r,ht⟩ : ∃ r,r = xs[m].rate:=⟨_,rfl⟩
   rw [← hf] at c0
   rw [← ht] at c1
   have ef:(xs.getD m zBr).frm = f:=by rw [hf,List.getD_eq_getElem?_getD,List.getElem?_eq_getElem hmx]; rfl
   have et:(xs.getD m zBr).rate = r:=by rw [ht,List.getD_eq_getElem?_getD,List.getElem?_eq_getElem hmx]; rfl
   have hfb:=hgen.out.fr m hmx
   have htb:=hgen.out.ra m hmx
   rw [ef] at hfb
   rw [et] at htb
   have hfb1:f≤12000004:=by omega
   clear hf ht
   have HM:=Lib.hid hm
   go_upto_region 6 with fail
   try rw [← HM.out]
   clear hm
   have hX0:=Blk.new wr 127 #[.int .i64 f,.int .i64 r]
   have hd0:=hdk.alloc (Obj.cells #[.int .i64 f,.int .i64 r] 127)
   have hgW:=only_alloc hg (Obj.cells #[.int .i64 f,.int .i64 r] 127)
   have hownW:=hown.alloc (Obj.cells #[.int .i64 f,.int .i64 r] 127)
   have hgb:b < wr.heap.size:=hdk.lt
   have hgW2:wr.heap.size < (wr.alloc (Obj.cells #[.int .i64 f,.int .i64 r] 127)).heap.size:=by rw [World.size_alloc]; omega
   clear hown hdk hg c0 c1 hd2 hown2 hG2 hfA
   have hown:=hownW
   clear hownW
   generalize wr.alloc (Obj.cells #[.int .i64 f,.int .i64 r] 127) = W at *
   generalize hgN:M+2+5 * (3 - k) = N at *
   generalize hgg0:wr.heap.size = g at *
   have hG0:=only_refl W (some b)
   have hs0:w.heap.size≤W.heap.size:=hgW.size
   generalize hvv:Value.slice (some ⟨bb,off,none⟩) xs.length c = v at *
   go_cut [8] from 26 to 37 (fun s8 wx=>CutBr W b (N+4) g f r s8 wx)
   case first =>
    as_aux_lemma =>
     refine M5.wp_region_sel (C:=fun w'=>Blk w' g 127 #[.int .i64 f,.int .i64 r]) (stable_blk _ _ _) (hX0) (aE:=?aE1) [0,1,2,3,4,9] 8 13 (by kernel_rfl) (by kernel_rfl) rfl (by kernel_rfl) (by rfl) ?H1 ?M1
     case H1 =>
      intro F hF inst
      simp only [M3.opsAt,List.getElem?_toArray,List.getElem?_cons_zero,List.getElem?_cons_succ]
      have e0:∀ p:BwC (fun w'=>Blk w' g 127 #[.int .i64 f,.int .i64 r]) F,p.w'.cell? ⟨g,0,none⟩ = some (.int .i64 f):=fun p=>(Blk.cell p.h 0).trans rfl
      repeat (first | go_big_quiet_step (fail))
      refine wpQuiet_nil ?_
      rfl
     case M1 =>
      intro Q0 hQ0
      refine M5.mix_pair 5 12 (by kernel_rfl) (by rfl) ?_
      intro w1 hC1 hb1
      have hX1:=hX0.adv hb1
      have hd1:=hd0.bel hb1
      have hG1:=only_adv hG0 hb1
      clear hb1 hX0 hd0 hG0
      refine ⟨?_,?_⟩
      ·
       as_aux_lemma =>
        refine M3.mix_call 34 #[.pointer (some ⟨b,0,none⟩),.int .i64 3000000] rfl rfl (by go_simp) ?_
        refine (next_any b (N) 3000000 w1 (by omega) (by omega) (by omega) hd1).mono ?_
        rintro e w2 ⟨r5,rfl,ha2,hb2,hd2,hg2⟩
        have hX2:=hX1.grown hg2 (by intro e; injection e; omega)
        have hG2:=only_trans hG1 hg2
        refine ⟨_,rfl,hX2,?_⟩
        simp only [Act.put,nqa,nqb,nqc,nqd,nqe,nqf]
        clear hg2 hC1 hd1 hX1 hG1
        refine M5.mix_pair 6 12 (by kernel_rfl) (by rfl) ?_
        intro w3 hC3 hb3
        have hX3:=hX2.adv hb3
        have hd3:=hd2.bel hb3
        have hG3:=only_adv hG2 hb3
        clear hb3 hX2 hd2 hG2
        refine ⟨?_,?_⟩
        ·
         as_aux_lemma =>
          refine M3.mix_val (.slice (some ⟨w3.heap.size,0,none⟩) 3 3) (w3.alloc (.cells #[.int .i64 0,.int .i64 99,.int .i64 r5] 3)) rfl rfl (by go_simp) ⟨hX3.alloc _,?_⟩
          simp only [Act.put,nqa,nqb,nqc,nqd,nqe,nqf]
          have hL4:=lit_ints w3 [0,99,r5] #[.int .i64 0,.int .i64 99,.int .i64 r5] rfl
          have hX4:=hX3.alloc (.cells #[.int .i64 0,.int .i64 99,.int .i64 r5] 3)
          have hd4:=hd3.alloc (.cells #[.int .i64 0,.int .i64 99,.int .i64 r5] 3)
          have hG4:=only_alloc hG3 (.cells #[.int .i64 0,.int .i64 99,.int .i64 r5] 3)
          have hq4:b < w3.heap.size:=hd3.lt
          clear hC3 hX3 hd3 hG3
          generalize w3.alloc (.cells #[.int .i64 0,.int .i64 99,.int .i64 r5] 3) = w4 at *
          generalize w3.heap.size = q at *
          refine M5.mix_pair 7 12 (by kernel_rfl) (by rfl) ?_
          intro w5 hC5 hb5
          have hX5:=hX4.adv hb5
          have hd5:=hd4.bel hb5
          have hG5:=only_adv hG4 hb5
          have hL5:=hL4.adv hb5
          clear hb5 hX4 hd4 hG4 hL4
          refine ⟨?_,?_⟩
          ·
           as_aux_lemma =>
            refine M3.mix_call 66 #[.pointer (some ⟨b,0,none⟩),.slice (some ⟨q,0,none⟩) 3 3] rfl rfl (by go_simp) ?_
            refine (pick_any b (N+1) w5 (some ⟨q,0,none⟩) [0,99,r5] 3 (by omega) hd5 (by simp) (by simp) hL5 (by intro a ha; injection ha with ha; subst ha; show q ≠ b; omega)).mono ?_
            rintro e w6 ⟨r7,rfl,hm6,hd6,hg6⟩
            have hX6:=hX5.grown hg6 (by intro e; injection e; omega)
            have hG6:=only_trans hG5 hg6
            refine ⟨_,rfl,hX6,?_⟩
            simp only [Act.put,nqa,nqb,nqc,nqd,nqe,nqf]
            clear hg6 hC5 hd5 hX5 hG5
            clear hL5
            have hdr7:0≤r7∧r7 < 3000000:=by simp at hm6; omega
            clear hm6
            refine M5.mix_take 8 (.int .i64 (f+1+r7)) (by kernel_rfl) rfl (by kernel_rfl) rfl (fun _=>by have e:=wrap_in (n:=f+1+r7) (by omega) (by omega); go_simp) ?_
            simp only [Act.put,nqa,nqb,nqc,nqd,nqe,nqf]
            refine M5.mix_pair 10 12 (by kernel_rfl) (by rfl) ?_
            intro w7 hC7 hb7
            have hX7:=hX6.adv hb7
            have hd7:=hd6.bel hb7
            have hG7:=only_adv hG6 hb7
            clear hb7 hX6 hd6 hG6
            refine ⟨?_,?_⟩
            ·
             as_aux_lemma =>
              refine M3.mix_call 120 #[.pointer (some ⟨b,0,none⟩)] rfl rfl (by go_simp) ?_
              refine (rate_any b (N+1+1) w7 (by omega) hd7).mono ?_
              rintro e w8 ⟨r10,rfl,ha8,hb8,hd8,hg8⟩
              have hX8:=hX7.grown hg8 (by intro e; injection e; omega)
              have hG8:=only_trans hG7 hg8
              refine ⟨_,rfl,hX8,?_⟩
              simp only [Act.put,nqa,nqb,nqc,nqd,nqe,nqf]
              clear hg8 hC7 hd7 hX7 hG7
              refine M5.mix_take 11 (.agg #[.int .i64 (f+1+r7),.int .i64 r10]) (by kernel_rfl) rfl (by kernel_rfl) rfl (fun _=>by go_simp) ?_
              simp only [Act.put,nqa,nqb,nqc,nqd,nqe,nqf]
              refine M5.mix_one 12 (by kernel_rfl) (by decide) ?_
              intro w9 hC9 hb9
              have hX9:=hX8.adv hb9
              have hd9:=hd8.bel hb9
              have hG9:=only_adv hG8 hb9
              clear hb9 hX8 hd8 hG8
              have hWN:W.heap.size≤w9.heap.size:=hG9.size
              refine M3.mix_val (.pointer (some ⟨w9.heap.size,0,none⟩)) (w9.alloc (.cells #[.int .i64 0,.int .i64 0] 127)) rfl rfl (by go_simp) ⟨hX9.alloc _,?_⟩
              simp only [Act.put,nqa,nqb,nqc,nqd,nqe,nqf]
              have hN10:=Blk.new w9 127 #[.int .i64 0,.int .i64 0]
              have hX10:=hX9.alloc (.cells #[.int .i64 0,.int .i64 0] 127)
              have hd10:=hd9.alloc (.cells #[.int .i64 0,.int .i64 0] 127)
              have hG10:=only_alloc hG9 (.cells #[.int .i64 0,.int .i64 0] 127)
              clear hC9 hX9 hd9 hG9
              generalize w9.alloc (.cells #[.int .i64 0,.int .i64 0] 127) = w10 at *
              generalize w9.heap.size = gN at *
              refine M5.mix_last (by kernel_rfl) (by kernel_rfl) ?_
              intro w11 hC11 hb11
              have hX11:=hX10.adv hb11
              have hd11:=hd10.bel hb11
              have hG11:=only_adv hG10 hb11
              have hN11:=hN10.adv hb11
              clear hb11 hC11 hX10 hd10 hG10 hN10
              have z0:=hN11.cell 0
              have z1:=hN11.cell 1
              simp only [nqg,nqh,nqi] at z0 z1
              have fz0:=hN11.frozen 0
              have fz1:=hN11.frozen 1
              have lN:=hN11.lt
              have hN12:=hN11.fill [.int .i64 (f+1+r7),.int .i64 r10] rfl
              simp only [putAll,Nat.zero_add] at hN12
              have hX12:=(hX11.far (p:=⟨gN,0,none⟩) (by show g ≠ gN; omega) (.int .i64 (f+1+r7))).far (p:=⟨gN,1,none⟩) (by show g ≠ gN; omega) (.int .i64 r10)
              have hd12:=(hd11.set (g:=gN) (by omega) 0 (.int .i64 (f+1+r7))).set (g:=gN) (by omega) 1 (.int .i64 r10)
              have hG12:=only_setCell (p:=⟨gN,1,none⟩) (only_setCell (p:=⟨gN,0,none⟩) hG11 (.inr hWN) (.int .i64 (f+1+r7))) (.inr hWN) (.int .i64 r10)
              refine M3.mix_skip ((w11.setCell ⟨gN,0,none⟩ (.int .i64 (f+1+r7))).setCell ⟨gN,1,none⟩ (.int .i64 r10)) rfl rfl (by go_simp) (hQ0 _ _ ?_)
              simp only [Act.put,nqa,nqb,nqc]
              clear z0 z1 fz0 fz1 lN hX11 hd11 hG11 hN11
              generalize ((w11.setCell ⟨gN,0,none⟩ (.int .i64 (f+1+r7))).setCell ⟨gN,1,none⟩ (.int .i64 r10)) = w12 at *
              clear hQ0
              go_wp2_with fail
              go_meet
              exact ⟨gN,f+1+r7,r10,rfl,hWN,hN12,hX12,hd12,hG12,by omega,by omega,by omega,by omega⟩
            ·
             as_aux_lemma =>
              have hWN:W.heap.size≤w7.heap.size:=hG7.size
              refine M3.mix_val (.pointer (some ⟨w7.heap.size,0,none⟩)) (w7.alloc (.cells #[.int .i64 0,.int .i64 0] 127)) rfl rfl (by go_simp) ⟨hX7.alloc _,?_⟩
              simp only [Act.put,nqa,nqb,nqc,nqd,nqe,nqf]
              have hN8:=Blk.new w7 127 #[.int .i64 0,.int .i64 0]
              have hX8:=hX7.alloc (.cells #[.int .i64 0,.int .i64 0] 127)
              have hd8:=hd7.alloc (.cells #[.int .i64 0,.int .i64 0] 127)
              have hG8:=only_alloc hG7 (.cells #[.int .i64 0,.int .i64 0] 127)
              clear hC7 hX7 hd7 hG7
              generalize w7.alloc (.cells #[.int .i64 0,.int .i64 0] 127) = w8 at *
              generalize w7.heap.size = gN at *
              refine M5.mix_one 10 (by kernel_rfl) (by decide) ?_
              intro w9 hC9 hb9
              have hX9:=hX8.adv hb9
              have hd9:=hd8.bel hb9
              have hG9:=only_adv hG8 hb9
              have hN9:=hN8.adv hb9
              clear hb9 hX8 hd8 hG8 hN8
              refine M3.mix_call 120 #[.pointer (some ⟨b,0,none⟩)] rfl rfl (by go_simp) ?_
              refine (rate_any b (N+1+1) w9 (by omega) hd9).mono ?_
              rintro e w10 ⟨r10,rfl,ha10,hb10,hd10,hg10⟩
              have hX10:=hX9.grown hg10 (by intro e; injection e; omega)
              have hG10:=only_trans hG9 hg10
              have hN10:=hN9.grown hg10 (by intro e; injection e; omega)
              refine ⟨_,rfl,hX10,?_⟩
              simp only [Act.put,nqa,nqb,nqc,nqd,nqe,nqf]
              clear hg10 hC9 hd9 hX9 hG9 hN9
              refine M5.mix_take 11 (.agg #[.int .i64 (f+1+r7),.int .i64 r10]) (by kernel_rfl) rfl (by kernel_rfl) rfl (fun _=>by go_simp) ?_
              simp only [Act.put,nqa,nqb,nqc,nqd,nqe,nqf]
              refine M5.mix_last (by kernel_rfl) (by kernel_rfl) ?_
              intro w11 hC11 hb11
              have hX11:=hX10.adv hb11
              have hd11:=hd10.bel hb11
              have hG11:=only_adv hG10 hb11
              have hN11:=hN10.adv hb11
              clear hb11 hC11 hX10 hd10 hG10 hN10
              have z0:=hN11.cell 0
              have z1:=hN11.cell 1
              simp only [nqg,nqh,nqi] at z0 z1
              have fz0:=hN11.frozen 0
              have fz1:=hN11.frozen 1
              have lN:=hN11.lt
              have hN12:=hN11.fill [.int .i64 (f+1+r7),.int .i64 r10] rfl
              simp only [putAll,Nat.zero_add] at hN12
              have hX12:=(hX11.far (p:=⟨gN,0,none⟩) (by show g ≠ gN; omega) (.int .i64 (f+1+r7))).far (p:=⟨gN,1,none⟩) (by show g ≠ gN; omega) (.int .i64 r10)
              have hd12:=(hd11.set (g:=gN) (by omega) 0 (.int .i64 (f+1+r7))).set (g:=gN) (by omega) 1 (.int .i64 r10)
              have hG12:=only_setCell (p:=⟨gN,1,none⟩) (only_setCell (p:=⟨gN,0,none⟩) hG11 (.inr hWN) (.int .i64 (f+1+r7))) (.inr hWN) (.int .i64 r10)
              refine M3.mix_skip ((w11.setCell ⟨gN,0,none⟩ (.int .i64 (f+1+r7))).setCell ⟨gN,1,none⟩ (.int .i64 r10)) rfl rfl (by go_simp) (hQ0 _ _ ?_)
              simp only [Act.put,nqa,nqb,nqc]
              clear z0 z1 fz0 fz1 lN hX11 hd11 hG11 hN11
              generalize ((w11.setCell ⟨gN,0,none⟩ (.int .i64 (f+1+r7))).setCell ⟨gN,1,none⟩ (.int .i64 r10)) = w12 at *
              clear hQ0
              go_wp2_with fail
              go_meet
              exact ⟨gN,f+1+r7,r10,rfl,hWN,hN12,hX12,hd12,hG12,by omega,by omega,by omega,by omega⟩
          ·
           as_aux_lemma =>
            have hWN:W.heap.size≤w5.heap.size:=hG5.size
            refine M3.mix_val (.pointer (some ⟨w5.heap.size,0,none⟩)) (w5.alloc (.cells #[.int .i64 0,.int .i64 0] 127)) rfl rfl (by go_simp) ⟨hX5.alloc _,?_⟩
            simp only [Act.put,nqa,nqb,nqc,nqd,nqe,nqf]
            have hN6:=Blk.new w5 127 #[.int .i64 0,.int .i64 0]
            have hX6:=hX5.alloc (.cells #[.int .i64 0,.int .i64 0] 127)
            have hd6:=hd5.alloc (.cells #[.int .i64 0,.int .i64 0] 127)
            have hG6:=only_alloc hG5 (.cells #[.int .i64 0,.int .i64 0] 127)
            have hL6:=hL5.advA (.cells #[.int .i64 0,.int .i64 0] 127)
            clear hC5 hX5 hd5 hG5 hL5
            generalize w5.alloc (.cells #[.int .i64 0,.int .i64 0] 127) = w6 at *
            generalize w5.heap.size = gN at *
            refine M5.mix_one 7 (by kernel_rfl) (by decide) ?_
            intro w7 hC7 hb7
            have hX7:=hX6.adv hb7
            have hd7:=hd6.bel hb7
            have hG7:=only_adv hG6 hb7
            have hL7:=hL6.adv hb7
            have hN7:=hN6.adv hb7
            clear hb7 hX6 hd6 hG6 hL6 hN6
            refine M3.mix_call 66 #[.pointer (some ⟨b,0,none⟩),.slice (some ⟨q,0,none⟩) 3 3] rfl rfl (by go_simp) ?_
            refine (pick_any b (N+1) w7 (some ⟨q,0,none⟩) [0,99,r5] 3 (by omega) hd7 (by simp) (by simp) hL7 (by intro a ha; injection ha with ha; subst ha; show q ≠ b; omega)).mono ?_
            rintro e w8 ⟨r7,rfl,hm8,hd8,hg8⟩
            have hX8:=hX7.grown hg8 (by intro e; injection e; omega)
            have hG8:=only_trans hG7 hg8
            have hN8:=hN7.grown hg8 (by intro e; injection e; omega)
            refine ⟨_,rfl,hX8,?_⟩
            simp only [Act.put,nqa,nqb,nqc,nqd,nqe,nqf]
            clear hg8 hC7 hd7 hX7 hG7 hN7
            clear hL7
            have hdr7:0≤r7∧r7 < 3000000:=by simp at hm8; omega
            clear hm8
            refine M5.mix_take 8 (.int .i64 (f+1+r7)) (by kernel_rfl) rfl (by kernel_rfl) rfl (fun _=>by have e:=wrap_in (n:=f+1+r7) (by omega) (by omega); go_simp) ?_
            simp only [Act.put,nqa,nqb,nqc,nqd,nqe,nqf]
            refine M5.mix_one 10 (by kernel_rfl) (by decide) ?_
            intro w9 hC9 hb9
            have hX9:=hX8.adv hb9
            have hd9:=hd8.bel hb9
            have hG9:=only_adv hG8 hb9
            have hN9:=hN8.adv hb9
            clear hb9 hX8 hd8 hG8 hN8
            refine M3.mix_call 120 #[.pointer (some ⟨b,0,none⟩)] rfl rfl (by go_simp) ?_
            refine (rate_any b (N+1+1) w9 (by omega) hd9).mono ?_
            rintro e w10 ⟨r10,rfl,ha10,hb10,hd10,hg10⟩
            have hX10:=hX9.grown hg10 (by intro e; injection e; omega)
            have hG10:=only_trans hG9 hg10
            have hN10:=hN9.grown hg10 (by intro e; injection e; omega)
            refine ⟨_,rfl,hX10,?_⟩
            simp only [Act.put,nqa,nqb,nqc,nqd,nqe,nqf]
            clear hg10 hC9 hd9 hX9 hG9 hN9
            refine M5.mix_take 11 (.agg #[.int .i64 (f+1+r7),.int .i64 r10]) (by kernel_rfl) rfl (by kernel_rfl) rfl (fun _=>by go_simp) ?_
            simp only [Act.put,nqa,nqb,nqc,nqd,nqe,nqf]
            refine M5.mix_last (by kernel_rfl) (by kernel_rfl) ?_
            intro w11 hC11 hb11
            have hX11:=hX10.adv hb11
            have hd11:=hd10.bel hb11
            have hG11:=only_adv hG10 hb11
            have hN11:=hN10.adv hb11
            clear hb11 hC11 hX10 hd10 hG10 hN10
            have z0:=hN11.cell 0
            have z1:=hN11.cell 1
            simp only [nqg,nqh,nqi] at z0 z1
            have fz0:=hN11.frozen 0
            have fz1:=hN11.frozen 1
            have lN:=hN11.lt
            have hN12:=hN11.fill [.int .i64 (f+1+r7),.int .i64 r10] rfl
            simp only [putAll,Nat.zero_add] at hN12
            have hX12:=(hX11.far (p:=⟨gN,0,none⟩) (by show g ≠ gN; omega) (.int .i64 (f+1+r7))).far (p:=⟨gN,1,none⟩) (by show g ≠ gN; omega) (.int .i64 r10)
            have hd12:=(hd11.set (g:=gN) (by omega) 0 (.int .i64 (f+1+r7))).set (g:=gN) (by omega) 1 (.int .i64 r10)
            have hG12:=only_setCell (p:=⟨gN,1,none⟩) (only_setCell (p:=⟨gN,0,none⟩) hG11 (.inr hWN) (.int .i64 (f+1+r7))) (.inr hWN) (.int .i64 r10)
            refine M3.mix_skip ((w11.setCell ⟨gN,0,none⟩ (.int .i64 (f+1+r7))).setCell ⟨gN,1,none⟩ (.int .i64 r10)) rfl rfl (by go_simp) (hQ0 _ _ ?_)
            simp only [Act.put,nqa,nqb,nqc]
            clear z0 z1 fz0 fz1 lN hX11 hd11 hG11 hN11
            generalize ((w11.setCell ⟨gN,0,none⟩ (.int .i64 (f+1+r7))).setCell ⟨gN,1,none⟩ (.int .i64 r10)) = w12 at *
            clear hQ0
            go_wp2_with fail
            go_meet
            exact ⟨gN,f+1+r7,r10,rfl,hWN,hN12,hX12,hd12,hG12,by omega,by omega,by omega,by omega⟩
        ·
         as_aux_lemma =>
          have hWN:W.heap.size≤w3.heap.size:=hG3.size
          refine M3.mix_val (.pointer (some ⟨w3.heap.size,0,none⟩)) (w3.alloc (.cells #[.int .i64 0,.int .i64 0] 127)) rfl rfl (by go_simp) ⟨hX3.alloc _,?_⟩
          simp only [Act.put,nqa,nqb,nqc,nqd,nqe,nqf]
          have hN4:=Blk.new w3 127 #[.int .i64 0,.int .i64 0]
          have hX4:=hX3.alloc (.cells #[.int .i64 0,.int .i64 0] 127)
          have hd4:=hd3.alloc (.cells #[.int .i64 0,.int .i64 0] 127)
          have hG4:=only_alloc hG3 (.cells #[.int .i64 0,.int .i64 0] 127)
          clear hC3 hX3 hd3 hG3
          generalize w3.alloc (.cells #[.int .i64 0,.int .i64 0] 127) = w4 at *
          generalize w3.heap.size = gN at *
          refine M5.mix_one 6 (by kernel_rfl) (by decide) ?_
          intro w5 hC5 hb5
          have hX5:=hX4.adv hb5
          have hd5:=hd4.bel hb5
          have hG5:=only_adv hG4 hb5
          have hN5:=hN4.adv hb5
          clear hb5 hX4 hd4 hG4 hN4
          refine M3.mix_val (.slice (some ⟨w5.heap.size,0,none⟩) 3 3) (w5.alloc (.cells #[.int .i64 0,.int .i64 99,.int .i64 r5] 3)) rfl rfl (by go_simp) ⟨hX5.alloc _,?_⟩
          simp only [Act.put,nqa,nqb,nqc,nqd,nqe,nqf]
          have hL6:=lit_ints w5 [0,99,r5] #[.int .i64 0,.int .i64 99,.int .i64 r5] rfl
          have hX6:=hX5.alloc (.cells #[.int .i64 0,.int .i64 99,.int .i64 r5] 3)
          have hd6:=hd5.alloc (.cells #[.int .i64 0,.int .i64 99,.int .i64 r5] 3)
          have hG6:=only_alloc hG5 (.cells #[.int .i64 0,.int .i64 99,.int .i64 r5] 3)
          have hN6:=hN5.alloc (.cells #[.int .i64 0,.int .i64 99,.int .i64 r5] 3)
          have hq6:b < w5.heap.size:=hd5.lt
          clear hC5 hX5 hd5 hG5 hN5
          generalize w5.alloc (.cells #[.int .i64 0,.int .i64 99,.int .i64 r5] 3) = w6 at *
          generalize w5.heap.size = q at *
          refine M5.mix_one 7 (by kernel_rfl) (by decide) ?_
          intro w7 hC7 hb7
          have hX7:=hX6.adv hb7
          have hd7:=hd6.bel hb7
          have hG7:=only_adv hG6 hb7
          have hN7:=hN6.adv hb7
          have hL7:=hL6.adv hb7
          clear hb7 hX6 hd6 hG6 hN6 hL6
          refine M3.mix_call 66 #[.pointer (some ⟨b,0,none⟩),.slice (some ⟨q,0,none⟩) 3 3] rfl rfl (by go_simp) ?_
          refine (pick_any b (N+1) w7 (some ⟨q,0,none⟩) [0,99,r5] 3 (by omega) hd7 (by simp) (by simp) hL7 (by intro a ha; injection ha with ha; subst ha; show q ≠ b; omega)).mono ?_
          rintro e w8 ⟨r7,rfl,hm8,hd8,hg8⟩
          have hX8:=hX7.grown hg8 (by intro e; injection e; omega)
          have hG8:=only_trans hG7 hg8
          have hN8:=hN7.grown hg8 (by intro e; injection e; omega)
          refine ⟨_,rfl,hX8,?_⟩
          simp only [Act.put,nqa,nqb,nqc,nqd,nqe,nqf]
          clear hg8 hC7 hd7 hX7 hG7 hN7
          clear hL7
          have hdr7:0≤r7∧r7 < 3000000:=by simp at hm8; omega
          clear hm8
          refine M5.mix_take 8 (.int .i64 (f+1+r7)) (by kernel_rfl) rfl (by kernel_rfl) rfl (fun _=>by have e:=wrap_in (n:=f+1+r7) (by omega) (by omega); go_simp) ?_
          simp only [Act.put,nqa,nqb,nqc,nqd,nqe,nqf]
          refine M5.mix_one 10 (by kernel_rfl) (by decide) ?_
          intro w9 hC9 hb9
          have hX9:=hX8.adv hb9
          have hd9:=hd8.bel hb9
          have hG9:=only_adv hG8 hb9
          have hN9:=hN8.adv hb9
          clear hb9 hX8 hd8 hG8 hN8
          refine M3.mix_call 120 #[.pointer (some ⟨b,0,none⟩)] rfl rfl (by go_simp) ?_
          refine (rate_any b (N+1+1) w9 (by omega) hd9).mono ?_
          rintro e w10 ⟨r10,rfl,ha10,hb10,hd10,hg10⟩
          have hX10:=hX9.grown hg10 (by intro e; injection e; omega)
          have hG10:=only_trans hG9 hg10
          have hN10:=hN9.grown hg10 (by intro e; injection e; omega)
          refine ⟨_,rfl,hX10,?_⟩
          simp only [Act.put,nqa,nqb,nqc,nqd,nqe,nqf]
          clear hg10 hC9 hd9 hX9 hG9 hN9
          refine M5.mix_take 11 (.agg #[.int .i64 (f+1+r7),.int .i64 r10]) (by kernel_rfl) rfl (by kernel_rfl) rfl (fun _=>by go_simp) ?_
          simp only [Act.put,nqa,nqb,nqc,nqd,nqe,nqf]
          refine M5.mix_last (by kernel_rfl) (by kernel_rfl) ?_
          intro w11 hC11 hb11
          have hX11:=hX10.adv hb11
          have hd11:=hd10.bel hb11
          have hG11:=only_adv hG10 hb11
          have hN11:=hN10.adv hb11
          clear hb11 hC11 hX10 hd10 hG10 hN10
          have z0:=hN11.cell 0
          have z1:=hN11.cell 1
          simp only [nqg,nqh,nqi] at z0 z1
          have fz0:=hN11.frozen 0
          have fz1:=hN11.frozen 1
          have lN:=hN11.lt
          have hN12:=hN11.fill [.int .i64 (f+1+r7),.int .i64 r10] rfl
          simp only [putAll,Nat.zero_add] at hN12
          have hX12:=(hX11.far (p:=⟨gN,0,none⟩) (by show g ≠ gN; omega) (.int .i64 (f+1+r7))).far (p:=⟨gN,1,none⟩) (by show g ≠ gN; omega) (.int .i64 r10)
          have hd12:=(hd11.set (g:=gN) (by omega) 0 (.int .i64 (f+1+r7))).set (g:=gN) (by omega) 1 (.int .i64 r10)
          have hG12:=only_setCell (p:=⟨gN,1,none⟩) (only_setCell (p:=⟨gN,0,none⟩) hG11 (.inr hWN) (.int .i64 (f+1+r7))) (.inr hWN) (.int .i64 r10)
          refine M3.mix_skip ((w11.setCell ⟨gN,0,none⟩ (.int .i64 (f+1+r7))).setCell ⟨gN,1,none⟩ (.int .i64 r10)) rfl rfl (by go_simp) (hQ0 _ _ ?_)
          simp only [Act.put,nqa,nqb,nqc]
          clear z0 z1 fz0 fz1 lN hX11 hd11 hG11 hN11
          generalize ((w11.setCell ⟨gN,0,none⟩ (.int .i64 (f+1+r7))).setCell ⟨gN,1,none⟩ (.int .i64 r10)) = w12 at *
          clear hQ0
          go_wp2_with fail
          go_meet
          exact ⟨gN,f+1+r7,r10,rfl,hWN,hN12,hX12,hd12,hG12,by omega,by omega,by omega,by omega⟩
      ·
       as_aux_lemma =>
        have hWN:W.heap.size≤w1.heap.size:=hG1.size
        refine M3.mix_val (.pointer (some ⟨w1.heap.size,0,none⟩)) (w1.alloc (.cells #[.int .i64 0,.int .i64 0] 127)) rfl rfl (by go_simp) ⟨hX1.alloc _,?_⟩
        simp only [Act.put,nqa,nqb,nqc,nqd,nqe,nqf]
        have hN2:=Blk.new w1 127 #[.int .i64 0,.int .i64 0]
        have hX2:=hX1.alloc (.cells #[.int .i64 0,.int .i64 0] 127)
        have hd2:=hd1.alloc (.cells #[.int .i64 0,.int .i64 0] 127)
        have hG2:=only_alloc hG1 (.cells #[.int .i64 0,.int .i64 0] 127)
        clear hC1 hX1 hd1 hG1
        generalize w1.alloc (.cells #[.int .i64 0,.int .i64 0] 127) = w2 at *
        generalize w1.heap.size = gN at *
        refine M5.mix_one 5 (by kernel_rfl) (by decide) ?_
        intro w3 hC3 hb3
        have hX3:=hX2.adv hb3
        have hd3:=hd2.bel hb3
        have hG3:=only_adv hG2 hb3
        have hN3:=hN2.adv hb3
        clear hb3 hX2 hd2 hG2 hN2
        refine M3.mix_call 34 #[.pointer (some ⟨b,0,none⟩),.int .i64 3000000] rfl rfl (by go_simp) ?_
        refine (next_any b (N) 3000000 w3 (by omega) (by omega) (by omega) hd3).mono ?_
        rintro e w4 ⟨r5,rfl,ha4,hb4,hd4,hg4⟩
        have hX4:=hX3.grown hg4 (by intro e; injection e; omega)
        have hG4:=only_trans hG3 hg4
        have hN4:=hN3.grown hg4 (by intro e; injection e; omega)
        refine ⟨_,rfl,hX4,?_⟩
        simp only [Act.put,nqa,nqb,nqc,nqd,nqe,nqf]
        clear hg4 hC3 hd3 hX3 hG3 hN3
        refine M5.mix_one 6 (by kernel_rfl) (by decide) ?_
        intro w5 hC5 hb5
        have hX5:=hX4.adv hb5
        have hd5:=hd4.bel hb5
        have hG5:=only_adv hG4 hb5
        have hN5:=hN4.adv hb5
        clear hb5 hX4 hd4 hG4 hN4
        refine M3.mix_val (.slice (some ⟨w5.heap.size,0,none⟩) 3 3) (w5.alloc (.cells #[.int .i64 0,.int .i64 99,.int .i64 r5] 3)) rfl rfl (by go_simp) ⟨hX5.alloc _,?_⟩
        simp only [Act.put,nqa,nqb,nqc,nqd,nqe,nqf]
        have hL6:=lit_ints w5 [0,99,r5] #[.int .i64 0,.int .i64 99,.int .i64 r5] rfl
        have hX6:=hX5.alloc (.cells #[.int .i64 0,.int .i64 99,.int .i64 r5] 3)
        have hd6:=hd5.alloc (.cells #[.int .i64 0,.int .i64 99,.int .i64 r5] 3)
        have hG6:=only_alloc hG5 (.cells #[.int .i64 0,.int .i64 99,.int .i64 r5] 3)
        have hN6:=hN5.alloc (.cells #[.int .i64 0,.int .i64 99,.int .i64 r5] 3)
        have hq6:b < w5.heap.size:=hd5.lt
        clear hC5 hX5 hd5 hG5 hN5
        generalize w5.alloc (.cells #[.int .i64 0,.int .i64 99,.int .i64 r5] 3) = w6 at *
        generalize w5.heap.size = q at *
        refine M5.mix_one 7 (by kernel_rfl) (by decide) ?_
        intro w7 hC7 hb7
        have hX7:=hX6.adv hb7
        have hd7:=hd6.bel hb7
        have hG7:=only_adv hG6 hb7
        have hN7:=hN6.adv hb7
        have hL7:=hL6.adv hb7
        clear hb7 hX6 hd6 hG6 hN6 hL6
        refine M3.mix_call 66 #[.pointer (some ⟨b,0,none⟩),.slice (some ⟨q,0,none⟩) 3 3] rfl rfl (by go_simp) ?_
        refine (pick_any b (N+1) w7 (some ⟨q,0,none⟩) [0,99,r5] 3 (by omega) hd7 (by simp) (by simp) hL7 (by intro a ha; injection ha with ha; subst ha; show q ≠ b; omega)).mono ?_
        rintro e w8 ⟨r7,rfl,hm8,hd8,hg8⟩
        have hX8:=hX7.grown hg8 (by intro e; injection e; omega)
        have hG8:=only_trans hG7 hg8
        have hN8:=hN7.grown hg8 (by intro e; injection e; omega)
        refine ⟨_,rfl,hX8,?_⟩
        simp only [Act.put,nqa,nqb,nqc,nqd,nqe,nqf]
        clear hg8 hC7 hd7 hX7 hG7 hN7
        clear hL7
        have hdr7:0≤r7∧r7 < 3000000:=by simp at hm8; omega
        clear hm8
        refine M5.mix_take 8 (.int .i64 (f+1+r7)) (by kernel_rfl) rfl (by kernel_rfl) rfl (fun _=>by have e:=wrap_in (n:=f+1+r7) (by omega) (by omega); go_simp) ?_
        simp only [Act.put,nqa,nqb,nqc,nqd,nqe,nqf]
        refine M5.mix_one 10 (by kernel_rfl) (by decide) ?_
        intro w9 hC9 hb9
        have hX9:=hX8.adv hb9
        have hd9:=hd8.bel hb9
        have hG9:=only_adv hG8 hb9
        have hN9:=hN8.adv hb9
        clear hb9 hX8 hd8 hG8 hN8
        refine M3.mix_call 120 #[.pointer (some ⟨b,0,none⟩)] rfl rfl (by go_simp) ?_
        refine (rate_any b (N+1+1) w9 (by omega) hd9).mono ?_
        rintro e w10 ⟨r10,rfl,ha10,hb10,hd10,hg10⟩
        have hX10:=hX9.grown hg10 (by intro e; injection e; omega)
        have hG10:=only_trans hG9 hg10
        have hN10:=hN9.grown hg10 (by intro e; injection e; omega)
        refine ⟨_,rfl,hX10,?_⟩
        simp only [Act.put,nqa,nqb,nqc,nqd,nqe,nqf]
        clear hg10 hC9 hd9 hX9 hG9 hN9
        refine M5.mix_take 11 (.agg #[.int .i64 (f+1+r7),.int .i64 r10]) (by kernel_rfl) rfl (by kernel_rfl) rfl (fun _=>by go_simp) ?_
        simp only [Act.put,nqa,nqb,nqc,nqd,nqe,nqf]
        refine M5.mix_last (by kernel_rfl) (by kernel_rfl) ?_
        intro w11 hC11 hb11
        have hX11:=hX10.adv hb11
        have hd11:=hd10.bel hb11
        have hG11:=only_adv hG10 hb11
        have hN11:=hN10.adv hb11
        clear hb11 hC11 hX10 hd10 hG10 hN10
        have z0:=hN11.cell 0
        have z1:=hN11.cell 1
        simp only [nqg,nqh,nqi] at z0 z1
        have fz0:=hN11.frozen 0
        have fz1:=hN11.frozen 1
        have lN:=hN11.lt
        have hN12:=hN11.fill [.int .i64 (f+1+r7),.int .i64 r10] rfl
        simp only [putAll,Nat.zero_add] at hN12
        have hX12:=(hX11.far (p:=⟨gN,0,none⟩) (by show g ≠ gN; omega) (.int .i64 (f+1+r7))).far (p:=⟨gN,1,none⟩) (by show g ≠ gN; omega) (.int .i64 r10)
        have hd12:=(hd11.set (g:=gN) (by omega) 0 (.int .i64 (f+1+r7))).set (g:=gN) (by omega) 1 (.int .i64 r10)
        have hG12:=only_setCell (p:=⟨gN,1,none⟩) (only_setCell (p:=⟨gN,0,none⟩) hG11 (.inr hWN) (.int .i64 (f+1+r7))) (.inr hWN) (.int .i64 r10)
        refine M3.mix_skip ((w11.setCell ⟨gN,0,none⟩ (.int .i64 (f+1+r7))).setCell ⟨gN,1,none⟩ (.int .i64 r10)) rfl rfl (by go_simp) (hQ0 _ _ ?_)
        simp only [Act.put,nqa,nqb,nqc]
        clear z0 z1 fz0 fz1 lN hX11 hd11 hG11 hN11
        generalize ((w11.setCell ⟨gN,0,none⟩ (.int .i64 (f+1+r7))).setCell ⟨gN,1,none⟩ (.int .i64 r10)) = w12 at *
        clear hQ0
        go_wp2_with fail
        go_meet
        exact ⟨gN,f+1+r7,r10,rfl,hWN,hN12,hX12,hd12,hG12,by omega,by omega,by omega,by omega⟩
   case rest =>
    obtain ⟨gN,F,R,rfl,hWN,hN0,hX1,hd1,hG1,hF0,hF1,hR0,hR1⟩:=hcut
    rename World=>w0
    clear hX0 hd0 hG0
    have hX0:=hX1
    have hd0:=hd1
    have hG0:=hG1
    clear hX1 hd1 hG1
    generalize hgN':N+4 = N' at *
    rcases p with _ | _
    ·
     have hmx':brMax false = 1000000:=rfl
     have z0:=hN0.cell 0
     have z1:=hN0.cell 1
     simp only [nqg,nqh,nqi] at z0 z1
     have lN:=hN0.lt
     have ho0:=hown.kept hG0 (by intro g e; injection e; omega)
     have hbs:w.heap.size≤w0.heap.size:=by have:=hG0.size; omega
     have hgg:=only_trans hgW hG0
     clear hown hG0 hX0 hN0 hgW
     go_wp2_with (at_builtin; (refine wpList_append_one _ _ 38 ⟨F,R⟩ _ 16 _ infoBr Tryz.underlying38 ho0 encBr_len (by omega) rfl (encBr_one _) (by omega) (by omega) hbs (by rfl) (by rfl) (by rfl) (by rfl) (by simp) (by rfl) ?_); intro v8 w28 hown8 hg8)
     have hr8:∀ q,Value.ownBlock _ = some q→w.heap.size≤q:=fun q e=>(ho0.block_lt e).1
     have hgen':=hgen.out.snoc HM.out.symm (f:=F) (t:=R) (by rw [ef]; omega) (by rw [ef]; omega) (by omega) (by omega)
     have hlen':(xs++[(⟨F,R⟩ : BrT)]).length = xs.length+1:=by simp
     go_roundw
     case rel =>
      have hfin:∃ (k':Nat) (xs':List BrT),k'≤3∧Value.int .i64 ((k:Int) - 1) = .int .i64 k'∧xs'.length+k'≤4∧Hid (BrG (brMax _) xs')∧Own encBr 2 127 w28 w.heap.size v8 xs'∧DeckIn w28 b (M+2+5 * (3 - k'))∧w.grownBy w28 (some b):=⟨k - 1,_,by omega,by go_num,by rw [hlen']; omega,hgen',hown8,(hd0.grown hg8 (fun q e=>by have:=hr8 q e; omega)).mono (by omega),only_then hgg hg8 (fun q e=>.inl (hr8 q e))⟩
      first | exact hfin | ((repeat apply Exists.intro); exact ⟨hfin,rfl⟩)
     case measure=>simp [intOf]; omega
    ·
     have hmx':brMax true = 450000:=rfl
     go_upto_region 8 with fail
     refine M3.wp_region_sel (C:=fun w'=>Blk w' g 127 #[.int .i64 f,.int .i64 r]) (stable_blk _ _ _) (hX0) (aE:=?aE2) [0,1,2] 6 (by kernel_rfl) (by kernel_rfl) rfl (by kernel_rfl) (by kernel_rfl) (by rfl) ?H2 ?M2
     case H2 =>
      intro F hF inst
      simp only [M3.opsAt,List.getElem?_toArray,List.getElem?_cons_zero,List.getElem?_cons_succ]
      have e1:∀ p:BwC (fun w'=>Blk w' g 127 #[.int .i64 f,.int .i64 r]) F,p.w'.cell? ⟨g,1,none⟩ = some (.int .i64 r):=fun p=>(Blk.cell p.h 1).trans rfl
      repeat (first | go_big_quiet_step (fail))
      refine wpQuiet_nil ?_
      rfl
     case M2 =>
      intro Q0 hQ0
      refine M3.mix_step [3] (by kernel_rfl) (by simp) ?_
      intro w11 hC11 hb11 i hi
      simp only [nqj,nqk,or_false] at hi
      subst hi
      have hX11:=hX0.adv hb11
      have hd11:=hd0.bel hb11
      have hG11:=only_adv hG0 hb11
      have hN11:=hN0.adv hb11
      clear hb11 hX0 hd0 hG0 hN0
      refine M3.mix_val (.slice (some ⟨w11.heap.size,0,none⟩) 3 3) (w11.alloc (.cells #[.int .i64 0,.int .i64 50000,.int .i64 120000] 3)) rfl rfl (by go_simp) ⟨hX11.alloc _,?_⟩
      simp only [Act.put,nqa,nqb,nqc,nqd,nqe,nqf]
      have hL12:=lit_ints w11 [0,50000,120000] #[.int .i64 0,.int .i64 50000,.int .i64 120000] rfl
      have hX12:=hX11.alloc (.cells #[.int .i64 0,.int .i64 50000,.int .i64 120000] 3)
      have hd12:=hd11.alloc (.cells #[.int .i64 0,.int .i64 50000,.int .i64 120000] 3)
      have hG12:=only_alloc hG11 (.cells #[.int .i64 0,.int .i64 50000,.int .i64 120000] 3)
      have hN12:=hN11.alloc (.cells #[.int .i64 0,.int .i64 50000,.int .i64 120000] 3)
      have hq12:b < w11.heap.size:=hd11.lt
      clear hC11 hX11 hd11 hG11 hN11
      generalize w11.alloc (.cells #[.int .i64 0,.int .i64 50000,.int .i64 120000] 3) = w12 at *
      generalize w11.heap.size = q at *
      refine M3.mix_step [4] (by kernel_rfl) (by simp) ?_
      intro w13 hC13 hb13 i hi
      simp only [nqj,nqk,or_false] at hi
      subst hi
      have hX13:=hX12.adv hb13
      have hd13:=hd12.bel hb13
      have hG13:=only_adv hG12 hb13
      have hN13:=hN12.adv hb13
      have hL13:=hL12.adv hb13
      clear hb13 hX12 hd12 hG12 hN12 hL12
      refine M3.mix_call 66 #[.pointer (some ⟨b,0,none⟩),.slice (some ⟨q,0,none⟩) 3 3] rfl rfl (by go_simp) ?_
      refine (pick_any b (N') w13 (some ⟨q,0,none⟩) [0,50000,120000] 3 (by omega) hd13 (by simp) (by simp) hL13 (by intro a ha; injection ha with ha; subst ha; show q ≠ b; omega)).mono ?_
      rintro e w14 ⟨r14,rfl,hm14,hd14,hg14⟩
      have hX14:=hX13.grown hg14 (by intro e; injection e; omega)
      have hG14:=only_trans hG13 hg14
      have hN14:=hN13.grown hg14 (by intro e; injection e; omega)
      refine ⟨_,rfl,hX14,?_⟩
      simp only [Act.put,nqa,nqb,nqc,nqd,nqe,nqf]
      clear hg14 hC13 hd13 hX13 hG13 hN13
      clear hL13
      have hdr14:0≤r14∧r14≤120000:=by simp at hm14; omega
      clear hm14
      refine M3.mix_step [5] (by kernel_rfl) (by simp) ?_
      intro w15 hC15 hb15 i hi
      simp only [nqj,nqk,or_false] at hi
      subst hi
      have hX15:=hX14.adv hb15
      have hd15:=hd14.bel hb15
      have hG15:=only_adv hG14 hb15
      have hN15:=hN14.adv hb15
      clear hb15 hX14 hd14 hG14 hN14
      refine M3.mix_val (.int .i64 (r+r14)) w15 rfl rfl (by have e:=wrap_in (n:=r+r14) (by omega) (by omega); go_simp) ⟨hX15,?_⟩
      simp only [Act.put,nqa,nqb,nqc,nqd,nqe,nqf]
      clear hC15
      refine M3.mix_step [6] (by kernel_rfl) (by simp) ?_
      intro w16 hC16 hb16 i hi
      simp only [nqj,nqk,or_false] at hi
      subst hi
      have hX16:=hX15.adv hb16
      have hd16:=hd15.bel hb16
      have hG16:=only_adv hG15 hb16
      have hN16:=hN15.adv hb16
      clear hb16 hX15 hd15 hG15 hN15
      obtain ⟨m,hm,hm0,hm1⟩ : ∃ m:Int,(m = if 450000 < r+r14 then 450000 else r+r14)∧0≤m∧m≤450000:=⟨_,rfl,by split <;> omega,by split <;> omega⟩
      refine M3.mix_val (.int .i64 m) w16 rfl rfl (by subst hm; split <;> rename_i hle <;> go_simp <;> omega) ⟨hX16,?_⟩
      simp only [Act.put,nqa,nqb,nqc,nqd,nqe,nqf]
      clear hC16
      clear hm
      refine M3.mix_step [7] (by kernel_rfl) (by simp) ?_
      intro w17 hC17 hb17 i hi
      simp only [nqj,nqk,or_false] at hi
      subst hi
      have hX17:=hX16.adv hb17
      have hd17:=hd16.bel hb17
      have hG17:=only_adv hG16 hb17
      have hN17:=hN16.adv hb17
      clear hb17 hX16 hd16 hG16 hN16
      refine M3.mix_val (.pointer (some ⟨gN,1,none⟩)) w17 rfl rfl (by go_simp) ⟨hX17,?_⟩
      simp only [Act.put,nqa,nqb,nqc,nqd,nqe,nqf]
      clear hC17
      refine M3.mix_step [8] (by kernel_rfl) (by simp) ?_
      intro w18 hC18 hb18 i hi
      simp only [nqj,nqk,or_false] at hi
      subst hi
      have hX18:=hX17.adv hb18
      have hd18:=hd17.bel hb18
      have hG18:=only_adv hG17 hb18
      have hN18:=hN17.adv hb18
      clear hb18 hX17 hd17 hG17 hN17
      have z:=hN18.cell 1
      have fz:=hN18.frozen 1
      have lg:=hN18.lt
      simp only [nqg,nqh,nqi] at z
      have hN19:=hN18.set_ 1 (.int .i64 m)
      simp only [List.setIfInBounds_toArray,List.set_cons_succ,List.set_cons_zero] at hN19
      have hX19:=hX18.far (p:=⟨gN,1,none⟩) (by show g ≠ gN; omega) (.int .i64 m)
      have hd19:=hd18.set (g:=gN) (by omega) 1 (.int .i64 m)
      have hG19:=only_setCell (p:=⟨gN,1,none⟩) hG18 (.inr hWN) (.int .i64 m)
      refine M3.mix_skip (w18.setCell ⟨gN,1,none⟩ (.int .i64 m)) rfl rfl (by go_simp) ⟨hX19,?_⟩
      simp only [Act.put,nqa,nqb,nqc]
      clear z fz lg hX18 hN18 hd18 hG18 hC18
      generalize w18.setCell ⟨gN,1,none⟩ (.int .i64 m) = w19 at *
      refine M3.mix_end (by kernel_rfl) ?_
      intro w20 hC20 hb20
      refine hQ0 _ _ ?_
      have hX20:=hX19.adv hb20
      have hd20:=hd19.bel hb20
      have hG20:=only_adv hG19 hb20
      have hN20:=hN19.adv hb20
      clear hb20 hC20 hQ0 hX19 hd19 hG19 hN19
      have z0:=hN20.cell 0
      have z1:=hN20.cell 1
      simp only [nqg,nqh,nqi] at z0 z1
      have lN:=hN20.lt
      have ho20:=hown.kept hG20 (by intro g e; injection e; omega)
      have hbs:w.heap.size≤w20.heap.size:=by have:=hG20.size; omega
      have hgg:=only_trans hgW hG20
      clear hown hG20 hX20 hN20 hgW
      go_wp2_with (at_builtin; (refine wpList_append_one _ _ 38 ⟨F,m⟩ _ 16 _ infoBr Tryz.underlying38 ho20 encBr_len (by omega) rfl (encBr_one _) (by omega) (by omega) hbs (by rfl) (by rfl) (by rfl) (by rfl) (by simp) (by rfl) ?_); intro v8 w28 hown8 hg8)
      have hr8:∀ q,Value.ownBlock _ = some q→w.heap.size≤q:=fun q e=>(ho20.block_lt e).1
      have hgen':=hgen.out.snoc HM.out.symm (f:=F) (t:=m) (by rw [ef]; omega) (by rw [ef]; omega) (by omega) (by omega)
      have hlen':(xs++[(⟨F,m⟩ : BrT)]).length = xs.length+1:=by simp
      go_roundw
      case rel =>
       have hfin:∃ (k':Nat) (xs':List BrT),k'≤3∧Value.int .i64 ((k:Int) - 1) = .int .i64 k'∧xs'.length+k'≤4∧Hid (BrG (brMax _) xs')∧Own encBr 2 127 w28 w.heap.size v8 xs'∧DeckIn w28 b (M+2+5 * (3 - k'))∧w.grownBy w28 (some b):=⟨k - 1,_,by omega,by go_num,by rw [hlen']; omega,hgen',hown8,(hd20.grown hg8 (fun q e=>by have:=hr8 q e; omega)).mono (by omega),only_then hgg hg8 (fun q e=>.inl (hr8 q e))⟩
       first | exact hfin | ((repeat apply Exists.intro); exact ⟨hfin,rfl⟩)
      case measure=>simp [intOf]; omega
  ·
   go_wp2_with fail
   go_ret
   exact ⟨_,xs,rfl,⟨hgen.out.ok hmx (by omega),fun x hx=>by
    obtain ⟨i,hi,rfl⟩:=List.getElem_of_mem hx
    have:=(hgen.out.ra i hi).2
    rwa [List.getD_eq_getElem?_getD,List.getElem?_eq_getElem hi] at this⟩,hown,hdk.mono (by omega),hg⟩
theorem brackets_any (b M : Nat) (p:Bool) (w:World) (hM:M≤600000) (hd:DeckIn w b M) :
  Calls Tryz.prog 73 #[.pointer (some ⟨b,0,none⟩),.bool p] w fun e w'=>∃ v xs,e = .returned v∧BrOk xs∧Own encBr 2 127 w' w.heap.size v xs∧DeckIn w' b (M+17)∧w.grownBy w' (some b) :=
 (brackets_anyP b M p w hM hd).mono fun _ _ ⟨v,xs,h1,h2,h3⟩=>⟨v,xs,h1,h2.1,h3⟩
end Go.Proofs.YtlhkojcmcmkmaaaGreat
