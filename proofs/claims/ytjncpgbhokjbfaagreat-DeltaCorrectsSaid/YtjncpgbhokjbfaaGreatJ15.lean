/- Joined texts: GenT2 Mix4. Conditions: as stated. -/
import Derived.Test.YtjncpgbhokjbfaaGreatJ13
import Derived.Test.YtjncpgbhokjbfaaGreatJ14
namespace Go.Proofs.YtjncpgbhokjbfaaGreat
open Go.RowKit
theorem wrap_in {n:Int} (h1 : -9223372036854775808≤n) (h2:n≤9223372036854775807) : IntKind.i64.wrap n = n:=by rw [IntKind.wrap_i64]; omega
structure RowsG (xs:List RowT) : Prop where
 ne:0 < xs.length
 zero:(xs.getD 0 zRw).frm = 0
 asc:∀ i,i+1 < xs.length→(xs.getD i zRw).frm < (xs.getD (i+1) zRw).frm
 fr:∀ i,i < xs.length→0≤(xs.getD i zRw).frm∧(xs.getD i zRw).frm≤100000 * i
 tx:∀ i,i < xs.length→0≤(xs.getD i zRw).tax∧(xs.getD i zRw).tax≤100+20000 * i
theorem getD_snoc_lt {α:Type} {xs:List α} {x z : α} {i:Nat} (h:i < xs.length) : (xs++[x]).getD i z = xs.getD i z:=by
 rw [List.getD_eq_getElem?_getD,List.getD_eq_getElem?_getD,List.getElem?_append_left h]
theorem getD_snoc_eq {α:Type} {xs:List α} {x z : α} : (xs++[x]).getD xs.length z = x:=by
 rw [List.getD_eq_getElem?_getD,List.getElem?_append_right (Nat.le_refl _)]; simp
theorem RowsG.one {r:Int} (h0:0≤r) (h1:r≤100) : RowsG [⟨0,r⟩]:=by
 refine ⟨by simp,rfl,fun i hi=>?_,fun i hi=>?_,fun i hi=>?_⟩
 ·
  simp at hi
 ·
  simp at hi; subst hi; exact ⟨Int.le_refl _,Int.le_refl _⟩
 ·
  simp at hi; subst hi
  show 0≤r∧r≤100+20000 * 0
  omega
theorem RowsG.snoc {xs:List RowT} {m:Nat} (h:RowsG xs) (hm:m+1 = xs.length) {f t : Int} (h0 : (xs.getD m zRw).frm < f) (h1:f≤(xs.getD m zRw).frm+100000) (h2 : (xs.getD m zRw).tax≤t) (h3:t≤(xs.getD m zRw).tax+20000) : RowsG (xs++[⟨f,t⟩]):=by
 have hf:=h.fr m (by omega)
 have ht:=h.tx m (by omega)
 refine ⟨by simp,?_,fun i hi=>?_,fun i hi=>?_,fun i hi=>?_⟩
 ·
  rw [getD_snoc_lt h.ne]; exact h.zero
 ·
  simp only [List.length_append,List.length_cons,List.length_nil] at hi
  rcases Nat.lt_or_ge (i+1) xs.length with hl | hl
  ·
   rw [getD_snoc_lt hl,getD_snoc_lt (by omega)]; exact h.asc i hl
  ·
   have e1:i+1 = xs.length:=by omega
   have e2:i = m:=by omega
   rw [getD_snoc_lt (show i < xs.length by omega),e1,getD_snoc_eq,e2]; exact h0
 all_goals
  simp only [List.length_append,List.length_cons,List.length_nil] at hi
  rcases Nat.lt_or_ge i xs.length with hl | hl
 ·
  rw [getD_snoc_lt hl]; exact h.fr i hl
 ·
  have e1:i = xs.length:=by omega
  rw [e1,getD_snoc_eq]
  show 0≤f∧f≤_
  omega
 ·
  rw [getD_snoc_lt hl]; exact h.tx i hl
 ·
  have e1:i = xs.length:=by omega
  rw [e1,getD_snoc_eq]
  show 0≤t∧t≤_
  omega
theorem RowsG.ok {xs:List RowT} (h:RowsG xs) (hl:xs.length≤6) : RowsOk xs :=
 ⟨h.ne,by omega,h.zero,h.asc,fun i hi=>by have:=h.fr i hi; omega,fun i hi=>by have:=h.tx i hi; omega,fun i hi=>by have:=h.tx i hi; omega⟩
set_option maxRecDepth 100000 in
set_option maxHeartbeats 2000000 in
theorem rows_any (b M : Nat) (w:World) (hM:M≤600000) (hd:DeckIn w b M) :
  Calls Tryz.prog 138 #[.pointer (some ⟨b,0,none⟩)] w fun e w'=>∃ v xs,e = .returned v∧RowsOk xs∧Own encRw 2 207 w' w.heap.size v xs∧DeckIn w' b (M+10)∧w.grownBy w' (some b):=by
 have hlt:=hd.lt
 go_enter Tryz.func138,Tryz.ntmps138
 go_wp2_with fail
 refine (pick_new b M w [0,0,100] _ _ _ rfl rfl (by omega) hd (by simp) (by simp)).mono ?_
 rintro e w1 ⟨r1,rfl,hm1,hd1,hg1⟩
 have hdr1:0≤r1∧r1≤100:=by simp at hm1; omega
 have hown0:=Own.lit (base:=w.heap.size) encRw_len w1 [⟨0,r1⟩] #[.int .i64 0,.int .i64 r1] 207 rfl (by simp) hg1.size
 simp only [List.length_cons,List.length_nil] at hown0
 go_wp2_with fail
 refine (next_any b (M+1) _ _ (by omega) (by omega) (by omega) (hd1.alloc _)).mono ?_
 rintro e w2 ⟨r2,rfl,ha2,hb2,hd2,hg2⟩
 obtain ⟨k0,rfl⟩:=Int.eq_ofNat_of_zero_le ha2
 have hown2:=hown0.kept hg2 (by intro g e; injection e; omega)
 have hG2:w.grownBy w2 (some b):=only_trans (only_alloc hg1 _) hg2
 clear hown0 hg1 hg2 hd1 hd hm1
 go_wp2_with fail
 go_loopw [3,4] (fun v i wr=>∃ (k:Nat) (xs:List RowT),k≤4∧i = .int .i64 k∧xs.length+k≤5∧Hid (RowsG xs)∧Own encRw 2 207 wr w.heap.size v xs∧DeckIn wr b (M+2+2 * (4 - k))∧w.grownBy wr (some b)) (fun _ i _=>(intOf i).toNat)
 case atStart=>exact ⟨k0,[⟨0,r1⟩],by omega,rfl,by simp; omega,RowsG.one hdr1.1 hdr1.2,hown2,hd2.mono (by omega),hG2⟩
 case round =>
  obtain ⟨k,xs,hk,rfl,hlen,hgen,hown,hdk,hg⟩:=hrel
  by_cases hk0:0 < k
  ·
   obtain ⟨m,hm⟩ : ∃ m,xs.length = m+1:=⟨xs.length - 1,by have:=hgen.out.ne; omega⟩
   have HO:=Lib.hid hown
   obtain ⟨A,c,rfl,hS,hfA,_⟩:=hown.form encRw_len
   have hmx:m < xs.length:=by omega
   obtain ⟨bb,off,rfl,hbb,hc⟩:=hS.at_ hmx
   have c0:=hc 0 _ rfl
   have c1:=hc 1 _ rfl
   simp only [Nat.add_zero] at c0
   clear hc hS
   try rw [hm]
   obtain ⟨f,hf⟩ : ∃ f,f = xs[m].frm:=⟨_,rfl⟩
   obtain ⟨t,ht⟩ : ∃ t,t = xs[m].tax:=⟨_,rfl⟩
   rw [← hf] at c0
   rw [← ht] at c1
   have ef:(xs.getD m zRw).frm = f:=by rw [hf,List.getD_eq_getElem?_getD,List.getElem?_eq_getElem hmx]; rfl
   have et:(xs.getD m zRw).tax = t:=by rw [ht,List.getD_eq_getElem?_getD,List.getElem?_eq_getElem hmx]; rfl
   have hfb:=hgen.out.fr m hmx
   have htb:=hgen.out.tx m hmx
   rw [ef] at hfb
   rw [et] at htb
   have hfb1:f≤500000:=by omega
   have htb1:t≤200000:=by omega
   clear hf ht
   have HM:=Lib.hid hm
   try rw [hm]
   go_upto_region 6 with fail
   rw [← HM.out]
   clear hm
   have hX0:=Blk.new wr 207 #[.int .i64 f,.int .i64 t]
   have hd0:=hdk.alloc (Obj.cells #[.int .i64 f,.int .i64 t] 207)
   have hGw0:=only_alloc hg (Obj.cells #[.int .i64 f,.int .i64 t] 207)
   have ho0:=hown.alloc (Obj.cells #[.int .i64 f,.int .i64 t] 207)
   have hgb:b < wr.heap.size:=hdk.lt
   clear hown HO hdk hg c0 c1 hd2 hown2 hG2 hfA
   generalize wr.alloc (Obj.cells #[.int .i64 f,.int .i64 t] 207) = w0 at *
   have hXo:some wr.heap.size ≠ (Value.slice (some ⟨bb,off,none⟩) xs.length c).ownBlock:=(fun e=>by injection e; omega:some wr.heap.size ≠ some bb)
   generalize hgN:M+2+2 * (4 - k) = N at *
   generalize hgg:wr.heap.size = g at *
   generalize hvv:Value.slice (some ⟨bb,off,none⟩) xs.length c = v at *
   refine M3.wp_region_sel (C:=fun w'=>Blk w' g 207 #[.int .i64 f,.int .i64 t]) (stable_blk _ _ _) (hX0) (aE:=?aE1) [0,1,2,3,4,7,8,9] 8 (by kernel_rfl) (by kernel_rfl) rfl (by kernel_rfl) (by kernel_rfl) (by rfl) ?H1 ?M1
   case H1 =>
    intro F hF inst
    simp only [M3.opsAt,List.getElem?_toArray,List.getElem?_cons_zero,List.getElem?_cons_succ]
    have e0:∀ p:BwC (fun w'=>Blk w' g 207 #[.int .i64 f,.int .i64 t]) F,p.w'.cell? ⟨g,0,none⟩ = some (.int .i64 f):=fun p=>(Blk.cell p.h 0).trans rfl
    have e1:∀ p:BwC (fun w'=>Blk w' g 207 #[.int .i64 f,.int .i64 t]) F,p.w'.cell? ⟨g,1,none⟩ = some (.int .i64 t):=fun p=>(Blk.cell p.h 1).trans rfl
    repeat (first | go_big_quiet_step (fail))
    refine wpQuiet_nil ?_
    rfl
   case M1 =>
    intro Q0 hQ0
    refine M3.mix_step [5] (by kernel_rfl) (by simp) ?_
    intro w1 hC1 hb1 i hi
    simp only [nqj,nqk,or_false] at hi
    subst hi
    have hX1:=hX0.adv hb1
    have hd1:=hd0.bel hb1
    have hGw1:=only_adv hGw0 hb1
    have ho1:=ho0.adv hb1
    clear hb1 hX0 hd0 hGw0 ho0
    refine M3.mix_call 11 #[.pointer (some ⟨b,0,none⟩),.int .i64 100000] rfl rfl (by go_simp) ?_
    refine (next_any b (N) 100000 w1 (by omega) (by omega) (by omega) hd1).mono ?_
    rintro e w2 ⟨r5,rfl,ha2,hb2,hd2,hg2⟩
    have hX2:=hX1.grown hg2 (by intro e; injection e; omega)
    have hGw2:=only_trans hGw1 hg2
    have ho2:=ho1.kept hg2 (by intro g e; injection e; omega)
    refine ⟨_,rfl,hX2,?_⟩
    simp only [Act.put,nqa,nqb,nqc,nqd,nqe,nqf]
    clear hg2 hC1 hd1 hX1 hGw1 ho1
    refine M3.mix_step [6,10] (by kernel_rfl) (by simp) ?_
    intro w3 hC3 hb3 i hi
    simp only [nqj,nqk,or_false] at hi
    have hX3:=hX2.adv hb3
    have hd3:=hd2.bel hb3
    have hGw3:=only_adv hGw2 hb3
    have ho3:=ho2.adv hb3
    clear hb3 hX2 hd2 hGw2 ho2
    rcases hi with rfl | rfl
    ·
     refine M3.mix_val (.int .i64 (f+1+r5)) w3 rfl rfl (by have e:=wrap_in (n:=f+1+r5) (by omega) (by omega); go_simp) ⟨hX3,?_⟩
     simp only [Act.put,nqa,nqb,nqc,nqd,nqe,nqf]
     clear hC3
     refine M3.mix_step [10] (by kernel_rfl) (by simp) ?_
     intro w4 hC4 hb4 i hi
     simp only [nqj,nqk,or_false] at hi
     subst hi
     have hX4:=hX3.adv hb4
     have hd4:=hd3.bel hb4
     have hGw4:=only_adv hGw3 hb4
     have ho4:=ho3.adv hb4
     clear hb4 hX3 hd3 hGw3 ho3
     refine M3.mix_call 11 #[.pointer (some ⟨b,0,none⟩),.int .i64 20000] rfl rfl (by go_simp) ?_
     refine (next_any b (N+1) 20000 w4 (by omega) (by omega) (by omega) hd4).mono ?_
     rintro e w5 ⟨r10,rfl,ha5,hb5,hd5,hg5⟩
     have hX5:=hX4.grown hg5 (by intro e; injection e; omega)
     have hGw5:=only_trans hGw4 hg5
     have ho5:=ho4.kept hg5 (by intro g e; injection e; omega)
     refine ⟨_,rfl,hX5,?_⟩
     simp only [Act.put,nqa,nqb,nqc,nqd,nqe,nqf]
     clear hg5 hC4 hd4 hX4 hGw4 ho4
     refine M3.mix_step [11] (by kernel_rfl) (by simp) ?_
     intro w6 hC6 hb6 i hi
     simp only [nqj,nqk,or_false] at hi
     subst hi
     have hX6:=hX5.adv hb6
     have hd6:=hd5.bel hb6
     have hGw6:=only_adv hGw5 hb6
     have ho6:=ho5.adv hb6
     clear hb6 hX5 hd5 hGw5 ho5
     refine M3.mix_val (.int .i64 (t+r10)) w6 rfl rfl (by have e:=wrap_in (n:=t+r10) (by omega) (by omega); go_simp) ⟨hX6,?_⟩
     simp only [Act.put,nqa,nqb,nqc,nqd,nqe,nqf]
     clear hC6
     refine M3.mix_step [12] (by kernel_rfl) (by simp) ?_
     intro w7 hC7 hb7 i hi
     simp only [nqj,nqk,or_false] at hi
     subst hi
     have hX7:=hX6.adv hb7
     have hd7:=hd6.bel hb7
     have hGw7:=only_adv hGw6 hb7
     have ho7:=ho6.adv hb7
     clear hb7 hX6 hd6 hGw6 ho6
     refine M3.mix_val (.agg #[.int .i64 (f+1+r5),.int .i64 (t+r10)]) w7 rfl rfl (by go_simp) ⟨hX7,?_⟩
     simp only [Act.put,nqa,nqb,nqc,nqd,nqe,nqf]
     clear hC7
     refine M3.mix_step [13] (by kernel_rfl) (by simp) ?_
     intro w8 hC8 hb8 i hi
     simp only [nqj,nqk,or_false] at hi
     subst hi
     have hX8:=hX7.adv hb8
     have hd8:=hd7.bel hb8
     have hGw8:=only_adv hGw7 hb8
     have ho8:=ho7.adv hb8
     clear hb8 hX7 hd7 hGw7 ho7
     refine M3.mix_val (.slice (some ⟨w8.heap.size,0,none⟩) 1 1) (w8.alloc (.cells #[.int .i64 (f+1+r5),.int .i64 (t+r10)] 207)) rfl rfl (by go_simp) ⟨hX8.alloc _,?_⟩
     simp only [Act.put,nqa,nqb,nqc,nqd,nqe,nqf]
     have hE9:=(SliceOf.new encRw_len w8 [⟨f+1+r5,t+r10⟩] #[.int .i64 (f+1+r5),.int .i64 (t+r10)] 207 rfl).more (B':=(w8.alloc (.cells #[.int .i64 (f+1+r5),.int .i64 (t+r10)] 207)).heap.size) (by rw [World.size_alloc]; omega)
     have hX9:=hX8.alloc (.cells #[.int .i64 (f+1+r5),.int .i64 (t+r10)] 207)
     have hd9:=hd8.alloc (.cells #[.int .i64 (f+1+r5),.int .i64 (t+r10)] 207)
     have hGw9:=only_alloc hGw8 (.cells #[.int .i64 (f+1+r5),.int .i64 (t+r10)] 207)
     have ho9:=ho8.alloc (.cells #[.int .i64 (f+1+r5),.int .i64 (t+r10)] 207)
     clear hC8 hX8 hd8 hGw8 ho8
     generalize w8.alloc (.cells #[.int .i64 (f+1+r5),.int .i64 (t+r10)] 207) = w9 at *
     generalize w8.heap.size = q at *
     refine M3.mix_step [14] (by kernel_rfl) (by simp) ?_
     intro w10 hC10 hb10 i hi
     simp only [nqj,nqk,or_false] at hi
     subst hi
     have hX10:=hX9.adv hb10
     have hd10:=hd9.bel hb10
     have hGw10:=only_adv hGw9 hb10
     have ho10:=ho9.adv hb10
     have hE10:=hE9.adv hb10
     clear hb10 hX9 hd9 hGw9 ho9 hE9
     have hbs:w.heap.size≤w10.heap.size:=hGw10.size
     refine M3.mix_append (.tmp 23) (.tmp 36) 67 1 16 _ infoRw Tryz.underlying67 ho10 hE10 encRw_len (by omega) rfl encRw_one (by simp; omega) (by omega) hbs rfl rfl rfl rfl rfl rfl ?_
     intro v11 w11 ho11 hg11
     have hr11:∀ q,Value.ownBlock _ = some q→w.heap.size≤q:=fun q hq=>(ho10.block_lt hq).1
     have hd11:=hd10.grown hg11 (fun q hq=>by have:=hr11 q hq; omega)
     have hGw11:=only_then hGw10 hg11 (fun q hq=>.inl (hr11 q hq))
     have hX11:=hX10.grown hg11 hXo
     refine ⟨hX11,?_⟩
     simp only [Act.put,nqa,nqb,nqc,nqd,nqe,nqf]
     clear hg11 hr11 hbs hC10 hE10 ho10 hd10 hGw10 hX10
     refine M3.mix_step [15] (by kernel_rfl) (by simp) ?_
     intro w12 hC12 hb12 i hi
     simp only [nqj,nqk,or_false] at hi
     subst hi
     have hX12:=hX11.adv hb12
     have hd12:=hd11.bel hb12
     have hGw12:=only_adv hGw11 hb12
     have ho12:=ho11.adv hb12
     clear hb12 hX11 hd11 hGw11 ho11
     refine M3.mix_val v11 w12 rfl rfl rfl ⟨hC12,?_⟩
     simp only [Act.put,nqa,nqb,nqc,nqd,nqe,nqf]
     clear hC12
     refine M3.mix_end (by kernel_rfl) ?_
     intro w13 hC13 hb13
     refine hQ0 _ _ ?_
     have hX13:=hX12.adv hb13
     have hd13:=hd12.bel hb13
     have hGw13:=only_adv hGw12 hb13
     have ho13:=ho12.adv hb13
     clear hb13 hC13 hQ0 hX12 hd12 hGw12 ho12
     have hgen':=hgen.out.snoc HM.out.symm (f:=f+1+r5) (t:=t+r10) (by rw [ef]; omega) (by rw [ef]; omega) (by rw [et]; omega) (by rw [et]; omega)
     have hlen':(xs++[(⟨f+1+r5,t+r10⟩ : RowT)]).length = xs.length+1:=by simp
     go_wp2_with fail
     go_roundw
     case rel =>
      have hfin:∃ (k':Nat) (xs':List RowT),k'≤4∧Value.int .i64 ((k:Int) - 1) = .int .i64 k'∧xs'.length+k'≤5∧Hid (RowsG xs')∧Own encRw 2 207 w13 w.heap.size _ xs'∧DeckIn w13 b (M+2+2 * (4 - k'))∧w.grownBy w13 (some b):=⟨k - 1,_,by omega,by go_num,by rw [hlen']; omega,hgen',ho13,hd13.mono (by omega),hGw13⟩
      first | exact hfin | ((repeat apply Exists.intro); exact ⟨hfin,rfl⟩)
     case measure=>simp [intOf]; omega
    ·
     refine M3.mix_call 11 #[.pointer (some ⟨b,0,none⟩),.int .i64 20000] rfl rfl (by go_simp) ?_
     refine (next_any b (N+1) 20000 w3 (by omega) (by omega) (by omega) hd3).mono ?_
     rintro e w4 ⟨r10,rfl,ha4,hb4,hd4,hg4⟩
     have hX4:=hX3.grown hg4 (by intro e; injection e; omega)
     have hGw4:=only_trans hGw3 hg4
     have ho4:=ho3.kept hg4 (by intro g e; injection e; omega)
     refine ⟨_,rfl,hX4,?_⟩
     simp only [Act.put,nqa,nqb,nqc,nqd,nqe,nqf]
     clear hg4 hC3 hd3 hX3 hGw3 ho3
     refine M3.mix_step [6,11] (by kernel_rfl) (by simp) ?_
     intro w5 hC5 hb5 i hi
     simp only [nqj,nqk,or_false] at hi
     have hX5:=hX4.adv hb5
     have hd5:=hd4.bel hb5
     have hGw5:=only_adv hGw4 hb5
     have ho5:=ho4.adv hb5
     clear hb5 hX4 hd4 hGw4 ho4
     rcases hi with rfl | rfl
     ·
      refine M3.mix_val (.int .i64 (f+1+r5)) w5 rfl rfl (by have e:=wrap_in (n:=f+1+r5) (by omega) (by omega); go_simp) ⟨hX5,?_⟩
      simp only [Act.put,nqa,nqb,nqc,nqd,nqe,nqf]
      clear hC5
      refine M3.mix_step [11] (by kernel_rfl) (by simp) ?_
      intro w6 hC6 hb6 i hi
      simp only [nqj,nqk,or_false] at hi
      subst hi
      have hX6:=hX5.adv hb6
      have hd6:=hd5.bel hb6
      have hGw6:=only_adv hGw5 hb6
      have ho6:=ho5.adv hb6
      clear hb6 hX5 hd5 hGw5 ho5
      refine M3.mix_val (.int .i64 (t+r10)) w6 rfl rfl (by have e:=wrap_in (n:=t+r10) (by omega) (by omega); go_simp) ⟨hX6,?_⟩
      simp only [Act.put,nqa,nqb,nqc,nqd,nqe,nqf]
      clear hC6
      refine M3.mix_step [12] (by kernel_rfl) (by simp) ?_
      intro w7 hC7 hb7 i hi
      simp only [nqj,nqk,or_false] at hi
      subst hi
      have hX7:=hX6.adv hb7
      have hd7:=hd6.bel hb7
      have hGw7:=only_adv hGw6 hb7
      have ho7:=ho6.adv hb7
      clear hb7 hX6 hd6 hGw6 ho6
      refine M3.mix_val (.agg #[.int .i64 (f+1+r5),.int .i64 (t+r10)]) w7 rfl rfl (by go_simp) ⟨hX7,?_⟩
      simp only [Act.put,nqa,nqb,nqc,nqd,nqe,nqf]
      clear hC7
      refine M3.mix_step [13] (by kernel_rfl) (by simp) ?_
      intro w8 hC8 hb8 i hi
      simp only [nqj,nqk,or_false] at hi
      subst hi
      have hX8:=hX7.adv hb8
      have hd8:=hd7.bel hb8
      have hGw8:=only_adv hGw7 hb8
      have ho8:=ho7.adv hb8
      clear hb8 hX7 hd7 hGw7 ho7
      refine M3.mix_val (.slice (some ⟨w8.heap.size,0,none⟩) 1 1) (w8.alloc (.cells #[.int .i64 (f+1+r5),.int .i64 (t+r10)] 207)) rfl rfl (by go_simp) ⟨hX8.alloc _,?_⟩
      simp only [Act.put,nqa,nqb,nqc,nqd,nqe,nqf]
      have hE9:=(SliceOf.new encRw_len w8 [⟨f+1+r5,t+r10⟩] #[.int .i64 (f+1+r5),.int .i64 (t+r10)] 207 rfl).more (B':=(w8.alloc (.cells #[.int .i64 (f+1+r5),.int .i64 (t+r10)] 207)).heap.size) (by rw [World.size_alloc]; omega)
      have hX9:=hX8.alloc (.cells #[.int .i64 (f+1+r5),.int .i64 (t+r10)] 207)
      have hd9:=hd8.alloc (.cells #[.int .i64 (f+1+r5),.int .i64 (t+r10)] 207)
      have hGw9:=only_alloc hGw8 (.cells #[.int .i64 (f+1+r5),.int .i64 (t+r10)] 207)
      have ho9:=ho8.alloc (.cells #[.int .i64 (f+1+r5),.int .i64 (t+r10)] 207)
      clear hC8 hX8 hd8 hGw8 ho8
      generalize w8.alloc (.cells #[.int .i64 (f+1+r5),.int .i64 (t+r10)] 207) = w9 at *
      generalize w8.heap.size = q at *
      refine M3.mix_step [14] (by kernel_rfl) (by simp) ?_
      intro w10 hC10 hb10 i hi
      simp only [nqj,nqk,or_false] at hi
      subst hi
      have hX10:=hX9.adv hb10
      have hd10:=hd9.bel hb10
      have hGw10:=only_adv hGw9 hb10
      have ho10:=ho9.adv hb10
      have hE10:=hE9.adv hb10
      clear hb10 hX9 hd9 hGw9 ho9 hE9
      have hbs:w.heap.size≤w10.heap.size:=hGw10.size
      refine M3.mix_append (.tmp 23) (.tmp 36) 67 1 16 _ infoRw Tryz.underlying67 ho10 hE10 encRw_len (by omega) rfl encRw_one (by simp; omega) (by omega) hbs rfl rfl rfl rfl rfl rfl ?_
      intro v11 w11 ho11 hg11
      have hr11:∀ q,Value.ownBlock _ = some q→w.heap.size≤q:=fun q hq=>(ho10.block_lt hq).1
      have hd11:=hd10.grown hg11 (fun q hq=>by have:=hr11 q hq; omega)
      have hGw11:=only_then hGw10 hg11 (fun q hq=>.inl (hr11 q hq))
      have hX11:=hX10.grown hg11 hXo
      refine ⟨hX11,?_⟩
      simp only [Act.put,nqa,nqb,nqc,nqd,nqe,nqf]
      clear hg11 hr11 hbs hC10 hE10 ho10 hd10 hGw10 hX10
      refine M3.mix_step [15] (by kernel_rfl) (by simp) ?_
      intro w12 hC12 hb12 i hi
      simp only [nqj,nqk,or_false] at hi
      subst hi
      have hX12:=hX11.adv hb12
      have hd12:=hd11.bel hb12
      have hGw12:=only_adv hGw11 hb12
      have ho12:=ho11.adv hb12
      clear hb12 hX11 hd11 hGw11 ho11
      refine M3.mix_val v11 w12 rfl rfl rfl ⟨hC12,?_⟩
      simp only [Act.put,nqa,nqb,nqc,nqd,nqe,nqf]
      clear hC12
      refine M3.mix_end (by kernel_rfl) ?_
      intro w13 hC13 hb13
      refine hQ0 _ _ ?_
      have hX13:=hX12.adv hb13
      have hd13:=hd12.bel hb13
      have hGw13:=only_adv hGw12 hb13
      have ho13:=ho12.adv hb13
      clear hb13 hC13 hQ0 hX12 hd12 hGw12 ho12
      have hgen':=hgen.out.snoc HM.out.symm (f:=f+1+r5) (t:=t+r10) (by rw [ef]; omega) (by rw [ef]; omega) (by rw [et]; omega) (by rw [et]; omega)
      have hlen':(xs++[(⟨f+1+r5,t+r10⟩ : RowT)]).length = xs.length+1:=by simp
      go_wp2_with fail
      go_roundw
      case rel =>
       have hfin:∃ (k':Nat) (xs':List RowT),k'≤4∧Value.int .i64 ((k:Int) - 1) = .int .i64 k'∧xs'.length+k'≤5∧Hid (RowsG xs')∧Own encRw 2 207 w13 w.heap.size _ xs'∧DeckIn w13 b (M+2+2 * (4 - k'))∧w.grownBy w13 (some b):=⟨k - 1,_,by omega,by go_num,by rw [hlen']; omega,hgen',ho13,hd13.mono (by omega),hGw13⟩
       first | exact hfin | ((repeat apply Exists.intro); exact ⟨hfin,rfl⟩)
      case measure=>simp [intOf]; omega
     ·
      refine M3.mix_val (.int .i64 (t+r10)) w5 rfl rfl (by have e:=wrap_in (n:=t+r10) (by omega) (by omega); go_simp) ⟨hX5,?_⟩
      simp only [Act.put,nqa,nqb,nqc,nqd,nqe,nqf]
      clear hC5
      refine M3.mix_step [6] (by kernel_rfl) (by simp) ?_
      intro w6 hC6 hb6 i hi
      simp only [nqj,nqk,or_false] at hi
      subst hi
      have hX6:=hX5.adv hb6
      have hd6:=hd5.bel hb6
      have hGw6:=only_adv hGw5 hb6
      have ho6:=ho5.adv hb6
      clear hb6 hX5 hd5 hGw5 ho5
      refine M3.mix_val (.int .i64 (f+1+r5)) w6 rfl rfl (by have e:=wrap_in (n:=f+1+r5) (by omega) (by omega); go_simp) ⟨hX6,?_⟩
      simp only [Act.put,nqa,nqb,nqc,nqd,nqe,nqf]
      clear hC6
      refine M3.mix_step [12] (by kernel_rfl) (by simp) ?_
      intro w7 hC7 hb7 i hi
      simp only [nqj,nqk,or_false] at hi
      subst hi
      have hX7:=hX6.adv hb7
      have hd7:=hd6.bel hb7
      have hGw7:=only_adv hGw6 hb7
      have ho7:=ho6.adv hb7
      clear hb7 hX6 hd6 hGw6 ho6
      refine M3.mix_val (.agg #[.int .i64 (f+1+r5),.int .i64 (t+r10)]) w7 rfl rfl (by go_simp) ⟨hX7,?_⟩
      simp only [Act.put,nqa,nqb,nqc,nqd,nqe,nqf]
      clear hC7
      refine M3.mix_step [13] (by kernel_rfl) (by simp) ?_
      intro w8 hC8 hb8 i hi
      simp only [nqj,nqk,or_false] at hi
      subst hi
      have hX8:=hX7.adv hb8
      have hd8:=hd7.bel hb8
      have hGw8:=only_adv hGw7 hb8
      have ho8:=ho7.adv hb8
      clear hb8 hX7 hd7 hGw7 ho7
      refine M3.mix_val (.slice (some ⟨w8.heap.size,0,none⟩) 1 1) (w8.alloc (.cells #[.int .i64 (f+1+r5),.int .i64 (t+r10)] 207)) rfl rfl (by go_simp) ⟨hX8.alloc _,?_⟩
      simp only [Act.put,nqa,nqb,nqc,nqd,nqe,nqf]
      have hE9:=(SliceOf.new encRw_len w8 [⟨f+1+r5,t+r10⟩] #[.int .i64 (f+1+r5),.int .i64 (t+r10)] 207 rfl).more (B':=(w8.alloc (.cells #[.int .i64 (f+1+r5),.int .i64 (t+r10)] 207)).heap.size) (by rw [World.size_alloc]; omega)
      have hX9:=hX8.alloc (.cells #[.int .i64 (f+1+r5),.int .i64 (t+r10)] 207)
      have hd9:=hd8.alloc (.cells #[.int .i64 (f+1+r5),.int .i64 (t+r10)] 207)
      have hGw9:=only_alloc hGw8 (.cells #[.int .i64 (f+1+r5),.int .i64 (t+r10)] 207)
      have ho9:=ho8.alloc (.cells #[.int .i64 (f+1+r5),.int .i64 (t+r10)] 207)
      clear hC8 hX8 hd8 hGw8 ho8
      generalize w8.alloc (.cells #[.int .i64 (f+1+r5),.int .i64 (t+r10)] 207) = w9 at *
      generalize w8.heap.size = q at *
      refine M3.mix_step [14] (by kernel_rfl) (by simp) ?_
      intro w10 hC10 hb10 i hi
      simp only [nqj,nqk,or_false] at hi
      subst hi
      have hX10:=hX9.adv hb10
      have hd10:=hd9.bel hb10
      have hGw10:=only_adv hGw9 hb10
      have ho10:=ho9.adv hb10
      have hE10:=hE9.adv hb10
      clear hb10 hX9 hd9 hGw9 ho9 hE9
      have hbs:w.heap.size≤w10.heap.size:=hGw10.size
      refine M3.mix_append (.tmp 23) (.tmp 36) 67 1 16 _ infoRw Tryz.underlying67 ho10 hE10 encRw_len (by omega) rfl encRw_one (by simp; omega) (by omega) hbs rfl rfl rfl rfl rfl rfl ?_
      intro v11 w11 ho11 hg11
      have hr11:∀ q,Value.ownBlock _ = some q→w.heap.size≤q:=fun q hq=>(ho10.block_lt hq).1
      have hd11:=hd10.grown hg11 (fun q hq=>by have:=hr11 q hq; omega)
      have hGw11:=only_then hGw10 hg11 (fun q hq=>.inl (hr11 q hq))
      have hX11:=hX10.grown hg11 hXo
      refine ⟨hX11,?_⟩
      simp only [Act.put,nqa,nqb,nqc,nqd,nqe,nqf]
      clear hg11 hr11 hbs hC10 hE10 ho10 hd10 hGw10 hX10
      refine M3.mix_step [15] (by kernel_rfl) (by simp) ?_
      intro w12 hC12 hb12 i hi
      simp only [nqj,nqk,or_false] at hi
      subst hi
      have hX12:=hX11.adv hb12
      have hd12:=hd11.bel hb12
      have hGw12:=only_adv hGw11 hb12
      have ho12:=ho11.adv hb12
      clear hb12 hX11 hd11 hGw11 ho11
      refine M3.mix_val v11 w12 rfl rfl rfl ⟨hC12,?_⟩
      simp only [Act.put,nqa,nqb,nqc,nqd,nqe,nqf]
      clear hC12
      refine M3.mix_end (by kernel_rfl) ?_
      intro w13 hC13 hb13
      refine hQ0 _ _ ?_
      have hX13:=hX12.adv hb13
      have hd13:=hd12.bel hb13
      have hGw13:=only_adv hGw12 hb13
      have ho13:=ho12.adv hb13
      clear hb13 hC13 hQ0 hX12 hd12 hGw12 ho12
      have hgen':=hgen.out.snoc HM.out.symm (f:=f+1+r5) (t:=t+r10) (by rw [ef]; omega) (by rw [ef]; omega) (by rw [et]; omega) (by rw [et]; omega)
      have hlen':(xs++[(⟨f+1+r5,t+r10⟩ : RowT)]).length = xs.length+1:=by simp
      go_wp2_with fail
      go_roundw
      case rel =>
       have hfin:∃ (k':Nat) (xs':List RowT),k'≤4∧Value.int .i64 ((k:Int) - 1) = .int .i64 k'∧xs'.length+k'≤5∧Hid (RowsG xs')∧Own encRw 2 207 w13 w.heap.size _ xs'∧DeckIn w13 b (M+2+2 * (4 - k'))∧w.grownBy w13 (some b):=⟨k - 1,_,by omega,by go_num,by rw [hlen']; omega,hgen',ho13,hd13.mono (by omega),hGw13⟩
       first | exact hfin | ((repeat apply Exists.intro); exact ⟨hfin,rfl⟩)
      case measure=>simp [intOf]; omega
  ·
   go_wp2_with fail
   go_ret
   exact ⟨_,xs,rfl,hgen.out.ok (by omega),hown,hdk.mono (by omega),hg⟩
end Go.Proofs.YtjncpgbhokjbfaaGreat
namespace Go.Proofs.YtjncpgbhokjbfaaGreat
open Go.RowKit
namespace M5
section
variable {P:Program} {ops:Array Oper} {md:Region.Mode} {C:World→Prop} {s:Nat}
def wpMix (P:Program) (md:Region.Mode) (ops:Array Oper) (C:World→Prop) (s:Nat) (Q:Act→World→Prop) : Nat→Array Bool→Act→World→Prop
 | 0,listed,a,w=>∀ w',C w'→Below w.heap.size w w'→Region.ready md ops listed = []∧Q a w'
 | fuel+1,listed,a,w=>∀ w',C w'→Below w.heap.size w w' →
  (Region.ready md ops listed = []→Q a w') ∧
  ∀ i ∈ Region.ready md ops listed,M3.stepM P ops C i (fun a1 w1=>if i = s then Region.ready md ops (listed.setIfInBounds i true) = []∧Q a1 w1 else C w1∧wpMix P md ops C s Q fuel (listed.setIfInBounds i true) a1 w1) a w'
theorem wpMix_mono {Q:Act→World→Prop} : ∀ {n:Nat} {listed:Array Bool} {a:Act} {w w2 : World},wpMix P md ops C s Q n listed a w→Below w.heap.size w w2→wpMix P md ops C s Q n listed a w2
 | 0,_,_,_,_,h,hb=>fun w' c b=>h w' c (hb.trans (b.mono hb.size))
 | _+1,_,_,_,_,h,hb=>fun w' c b=>h w' c (hb.trans (b.mono hb.size))
theorem wpAny_done {Q' : Exit→Act→World→Prop} : ∀ (fuel:Nat) {listed:Array Bool} {a:Act} {w:World},Region.ready md ops listed = []→Q' .normal a w→wpAny P md ops Q' fuel listed a w
 | 0,_,_,_,h,q=>⟨h,q⟩
 | _+1,_,_,_,h,q=>⟨fun _=>q,fun i hi=>by rw [h] at hi; cases hi⟩
theorem wpAny_of_mix {Q:Act→World→Prop} {Q' : Exit→Act→World→Prop} (hQ : ∀ a w,Q a w→Q' .normal a w) : ∀ (fuel:Nat) (listed:Array Bool) (a:Act) (w:World),C w→wpMix P md ops C s Q fuel listed a w→wpAny P md ops Q' fuel listed a w
 | 0,_,_,w,hw,h=>⟨(h w hw (Below.refl _ _)).1,hQ _ _ (h w hw (Below.refl _ _)).2⟩
 | fuel+1,listed,_,w,hw,h=>⟨fun h0=>hQ _ _ ((h w hw (Below.refl _ _)).1 h0),fun i hi=>M3.wpOp_of_stepM hw (M3.stepM_mono (fun a' w' h'=>by
  by_cases his:i = s
  ·
   rw [if_pos his] at h'
   exact wpAny_done fuel h'.1 (hQ _ _ h'.2)
  ·
   rw [if_neg his] at h'
   exact wpAny_of_mix hQ fuel _ a' w' h'.1 h'.2) ((h w hw (Below.refl _ _)).2 i hi))⟩
theorem wpMix_first {Q:Act→World→Prop} {i:Nat} {oi os : Oper} {v:Value} (hi:ops[i]? = some oi) (hsel : ∀ (j:Nat) (o:Oper) cs b,ops[j]? = some o→o.op ≠ .select cs b)
  (hos:ops[s]? = some os) (hbs:∃ e ∈ os.after,Region.binds md e = true∧e.on = i) :
  ∀ (fuel:Nat) (listed:Array Bool) (a:Act) (w:World),
   (∀ j oj,ops[j]? = some oj→j ≠ i→listed.getD j true = false→(∀ e ∈ oj.after,Region.binds md e = true→e.on ≠ i)→oi.apart ops oj = true)→i ≠ s →
   i ∈ Region.ready md ops listed→M3.YieldsB P ops C oi v a →
   wpMix P md ops C s Q fuel (listed.setIfInBounds i true) (a.put oi.dst v) w→wpMix P md ops C s Q (fuel+1) listed a w:=by
 intro fuel
 induction fuel with
 | zero =>
  intro listed a w _ his hr hy H w' hC hb
  refine ⟨fun h=>(by rw [h] at hr; cases hr),fun j hj=>?_⟩
  by_cases hji:j = i
  ·
   subst hji
   rw [show (fun a1 w1=>if j = s then Region.ready md ops (listed.setIfInBounds j true) = []∧Q a1 w1 else C w1∧wpMix P md ops C s Q 0 (listed.setIfInBounds j true) a1 w1) = (fun a1 w1=>C w1∧wpMix P md ops C s Q 0 (listed.setIfInBounds j true) a1 w1) from by funext a1 w1; rw [if_neg his]]
   exact .inl ⟨oi,v,hi,hy,fun w'' c b=>⟨c,wpMix_mono H (hb.trans (b.mono hb.size))⟩⟩
  ·
   have:=ready_mono hj hji
   rw [(H w' hC hb).1] at this
   cases this
 | succ fuel ih =>
  intro listed a w hfree his hr hy H w' hC hb
  refine ⟨fun h=>(by rw [h] at hr; cases hr),fun j hj=>?_⟩
  by_cases hji:j = i
  ·
   subst hji
   rw [show (fun a1 w1=>if j = s then Region.ready md ops (listed.setIfInBounds j true) = []∧Q a1 w1 else C w1∧wpMix P md ops C s Q (fuel+1) (listed.setIfInBounds j true) a1 w1) = (fun a1 w1=>C w1∧wpMix P md ops C s Q (fuel+1) (listed.setIfInBounds j true) a1 w1) from by funext a1 w1; rw [if_neg his]]
   exact .inl ⟨oi,v,hi,hy,fun w'' c b=>⟨c,wpMix_mono H (hb.trans (b.mono hb.size))⟩⟩
  ·
   have h1:=(H w' hC hb).2 j (ready_mono hj hji)
   obtain ⟨hjun,oj,hoj,hall⟩:=mem_ready.1 hj
   have hnot:∀ e ∈ oj.after,Region.binds md e = true→e.on ≠ i:=fun e he hb heq=>by
    have h1:=hall e he hb
    have h0:=(mem_ready.1 hr).1
    rw [heq] at h1
    rcases Nat.lt_or_ge i listed.size with h' | h'
    ·
     simp [h'] at h0 h1; rw [h0] at h1; cases h1
    ·
     simp [Array.getElem?_eq_none h'] at h1
   have hjs:¬ j = s:=fun e=>by
    subst e
    rw [hos] at hoj
    injection hoj with hoj
    subst hoj
    obtain ⟨e,he,hb',hon⟩:=hbs
    exact hnot e he hb' hon
   simp only [if_neg hjs] at h1 ⊢
   have h2:=M3.stepM_put hoj (hfree j oj hoj hji hjun hnot) (fun cs b=>hsel i oi cs b hi) (fun cs b=>hsel j oj cs b hoj) hy h1
   have hfree':∀ k ok,ops[k]? = some ok→k ≠ i→(listed.setIfInBounds j true).getD k true = false →
     (∀ e ∈ ok.after,Region.binds md e = true→e.on ≠ i)→oi.apart ops ok = true:=fun k ok hk hki hun hno=>by
    refine hfree k ok hk hki ?_ hno
    by_cases hjk:j = k
    ·
     subst hjk; exact hjun
    ·
     rw [getD_set_ne true hjk] at hun; exact hun
   refine M3.stepM_mono (fun a' w1 h3=>⟨h3.2.1,ih (listed.setIfInBounds j true) a' w1 hfree' his (ready_mono hr (Ne.symm hji)) h3.1 ?_⟩) h2
   rw [Array.setIfInBounds_comm _ _ hji]
   exact h3.2.2
def lastOf (md:Region.Mode) (ops:Array Oper) (s k : Nat) : Bool:=decide (k ≠ s) && match ops[s]? with
 | some os=>os.after.any (fun e=>Region.binds md e && e.on == k)
 | none=>false
theorem lastOf_spec {k:Nat} (h:lastOf md ops s k = true) : k ≠ s∧∃ os,ops[s]? = some os∧∃ e ∈ os.after,Region.binds md e = true∧e.on = k:=by
 unfold lastOf at h
 rw [Bool.and_eq_true] at h
 refine ⟨of_decide_eq_true h.1,?_⟩
 have h2:=h.2
 split at h2
 ·
  rename_i os ho
  obtain ⟨e,he,hb⟩:=Array.any_eq_true'.1 h2
  simp only [Bool.and_eq_true,beq_iff_eq] at hb
  exact ⟨os,ho,e,he,hb.1,hb.2⟩
 ·
  cases h2
theorem wpMix_sel {Q:Act→World→Prop} {aE:Act} {val:Oper→Value} (hs:Region.noSelect ops = true) {m:Nat} {w:World} : ∀ (is:List Nat) (listed:Array Bool) (a:Act),is.all (fun i=>decide (i < ops.size)) = true→is.all (lastOf md ops s) = true →
  M3.lexSel md ops is listed = true→M3.LexV P ops C aE val (M3.opsAt ops is) a→wpMix P md ops C s Q m (M3.listSel is listed) aE w→wpMix P md ops C s Q (m+is.length) listed a w
 | [],_,_,_,_,_,h,hM=>by cases h; exact hM
 | k :: r,listed,a,hl,hla,hB,h,hM=>by
  simp only [List.all_cons,Bool.and_eq_true,decide_eq_true_eq] at hl hla
  have h0 : ops[k]? = some (ops[k]'hl.1) := Array.getElem?_eq_getElem hl.1
  simp only [M3.lexSel,Bool.and_eq_true] at hB
  obtain ⟨⟨hr,hf⟩,hB'⟩:=hB
  simp only [M3.opsAt,h0] at h
  obtain ⟨hks,os,hos,hbs⟩:=lastOf_spec hla.1
  exact wpMix_first h0 (Region.noSelect_spec hs) hos hbs (m+r.length) listed a w (Region.free_spec h0 hf) hks (by simpa using hr) h.1
   (wpMix_sel hs r _ _ hl.2 hla.2 hB' h.2 hM)
theorem mix_one {Q:Act→World→Prop} {n:Nat} {listed:Array Bool} {a:Act} {w:World} (i:Nat) (hr:Region.ready md ops listed = [i]) (hne : ¬ i = s)
  (h:∀ w',C w'→Below w.heap.size w w'→M3.stepM P ops C i (fun a1 w1=>C w1∧wpMix P md ops C s Q n (listed.setIfInBounds i true) a1 w1) a w') : wpMix P md ops C s Q (n+1) listed a w:=by
 intro w' c b
 refine ⟨fun e=>(by rw [hr] at e; cases e),fun j hj=>?_⟩
 rw [hr,List.mem_singleton] at hj
 subst hj
 simp only [if_neg hne]
 exact h w' c b
theorem mix_many {Q:Act→World→Prop} {n:Nat} {listed:Array Bool} {a:Act} {w:World} (rs:List Nat) (hr:Region.ready md ops listed = rs) (hne:rs.contains s = false) (h0:rs.isEmpty = false)
  (h:∀ w',C w'→Below w.heap.size w w'→∀ i ∈ rs,M3.stepM P ops C i (fun a1 w1=>C w1∧wpMix P md ops C s Q n (listed.setIfInBounds i true) a1 w1) a w') : wpMix P md ops C s Q (n+1) listed a w:=by
 subst hr
 intro w' c b
 refine ⟨fun e=>(by rw [e] at h0; cases h0),fun j hj=>?_⟩
 have hjs:¬ j = s:=fun e=>by
  subst e
  have:(Region.ready md ops listed).contains j = true:=by simpa using hj
  rw [this] at hne; cases hne
 simp only [if_neg hjs]
 exact h w' c b j hj
theorem mix_last {Q:Act→World→Prop} {n:Nat} {listed:Array Bool} {a:Act} {w:World} (hr:Region.ready md ops listed = [s]) (hr2:Region.ready md ops (listed.setIfInBounds s true) = [])
  (h:∀ w',C w'→Below w.heap.size w w'→M3.stepM P ops C s Q a w') : wpMix P md ops C s Q (n+1) listed a w:=by
 intro w' c b
 refine ⟨fun e=>(by rw [hr] at e; cases e),fun j hj=>?_⟩
 rw [hr,List.mem_singleton] at hj
 subst hj
 simp only [if_true]
 exact M3.stepM_mono (fun a1 w1 q=>⟨hr2,q⟩) (h w' c b)
theorem mix_take {Q:Act→World→Prop} {n:Nat} {listed:Array Bool} {a:Act} {w:World} (i:Nat) {o:Oper} (v:Value) (hs:Region.noSelect ops = true) (ho:ops[i]? = some o)
  (hr:((Region.ready md ops listed).contains i && Region.free md ops listed i && lastOf md ops s i) = true) (hw:Region.wanted o (yielded ops a.tmps) = true) (hrun:∀ w',(execOp a.eval o).run P w' = .ok (.value v) w')
  (h:wpMix P md ops C s Q n (listed.setIfInBounds i true) (a.put o.dst v) w) : wpMix P md ops C s Q (n+1) listed a w:=by
 simp only [Bool.and_eq_true] at hr
 obtain ⟨⟨h1,h2⟩,h3⟩:=hr
 obtain ⟨hks,os,hos,hbs⟩:=lastOf_spec h3
 refine wpMix_first ho (Region.noSelect_spec hs) hos hbs n listed a w (Region.free_spec ho h2) hks (by simpa using h1) (.inl ⟨hw,fun w' _=>?_⟩) h
 unfold Oper.quietAt
 rw [hrun]
 exact ⟨rfl,rfl⟩
end
section
variable {P:Program} {C:World→Prop}
theorem wp_region_sel (hC0:Stable C) {id:Nat} {Q:Exit→Act→World→Prop} {a aE : Act} {W:World} (hW:C W) {L:List Oper} (is:List Nat) (m s : Nat) (hm:P.follows .mixedOrders = true) (hs:Region.noSelect L.toArray = true) (hn:m+is.length = L.length)
  (hi:(is.all (fun i=>decide (i < L.toArray.size)) && is.all (lastOf .any L.toArray s) && M3.lexSel .any L.toArray is (Array.replicate L.length false)) = true) (hd:M3.dstsOk a.tmps.size (M3.opsAt L.toArray is) = true)
  (H:∀ F:World→Prop,Stable F→Inhabited (BwC C F)→wpQuiet P L.toArray (fun w'=>∃ p:BwC C F,w' = p.w') (fun a'=>a' = aE) (M3.opsAt L.toArray is) a)
  (M:∀ Q0:Act→World→Prop,(∀ a w,Q .normal a w→Q0 a w)→wpMix P .any L.toArray C s Q0 m (M3.listSel is (Array.replicate L.length false)) aE W) : (Code.region id L.toArray true).wp P Q a W:=by
 simp only [Bool.and_eq_true] at hi
 refine wp_region_any hm ?_
 have h1:=wpMix_sel (md:=.any) hs is (Array.replicate L.length false) a hi.1.1 hi.1.2 hi.2 (M3.lexC_of hC0 hW _ a hd H) (M _ fun _ _ h=>h)
 have h2:=wpAny_of_mix (Q':=Q) (fun _ _ h=>h) _ _ _ { W with drawn:=W.drawn+1 } (hC0 _ _ hW (show Below W.heap.size W { W with drawn:=W.drawn+1 } from below_drewN (Below.refl _ _) 1)) (wpMix_mono h1 (below_drewN (Below.refl W.heap.size W) 1))
 rw [hn] at h2
 simpa using h2
end
def LnC (W:World) (v0:Value) (w' : World) : Prop:=Below W.heap.size W w'∧w'.cell? ⟨W.heap.size,6,none⟩ = some v0∧W.heap.size < w'.heap.size
theorem LnC.stable (W:World) (v0:Value) : Stable (LnC W v0):=fun _ _ ⟨h1,h2,h3⟩ hb=>⟨h1.trans (hb.mono h1.size),(hb.cell h3).trans h2,Nat.lt_of_lt_of_le h3 hb.size⟩
theorem LnC.of {W w' : World} {v0 a b c d e f : Value} {t:TypeId} (h:Below W.heap.size W w') (hS:Blk w' W.heap.size t #[a,b,c,d,e,f,v0]) : LnC W v0 w':=⟨h,(hS.cell 6).trans rfl,hS.lt⟩
end M5
end Go.Proofs.YtjncpgbhokjbfaaGreat
