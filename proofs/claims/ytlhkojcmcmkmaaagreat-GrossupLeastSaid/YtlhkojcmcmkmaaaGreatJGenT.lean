/- Joined texts: GenT GenT2 Mix5. Conditions: as stated. -/
import Derived.Test.YtlhkojcmcmkmaaaGreatJMix4
import Derived.Test.YtlhkojcmcmkmaaaGreatJGenS
namespace Go.Proofs.YtlhkojcmcmkmaaaGreat
open Go.RowKit
def codesS : List ByteArray:=[⟨#[99,97,114,101]⟩,⟨#[104,101,97,108,116,104]⟩,⟨#[112,101,110,115,105,111,110]⟩]
def cellsS : Array Value:=#[.string ⟨#[99,97,114,101]⟩,.string ⟨#[104,101,97,108,116,104]⟩,.string ⟨#[112,101,110,115,105,111,110]⟩]
def codeS (k:Nat) : ByteArray:=codesS.getD k ⟨#[]⟩
theorem cellsS_at (k:Nat) (h:k < 3) : cellsS[k]? = some (.string (codeS k)):=by
 match k,h with
 | 0,_=>rfl
 | 1,_=>rfl
 | 2,_=>rfl
theorem takeS (k:Nat) (h:k < 3) : codesS.take (k+1) = codesS.take k++[codeS k]:=by
 match k,h with
 | 0,_=>rfl
 | 1,_=>rfl
 | 2,_=>rfl
theorem codesS_name : ∀ c ∈ codesS,nameB c = true:=by decide +kernel
theorem codesS_asc : codesS.Pairwise (fun a b=>Op.bytesLess a.toList b.toList = true):=by decide +kernel
structure GenSc (k:Nat) (xs:List SchT) : Prop where
 sub:(xs.map (·.code)).Sublist (codesS.take k)
 ok:∀ x ∈ xs,DrawnS x
theorem GenSc.nil_ : GenSc 0 []:=⟨by simp,by simp⟩
theorem GenSc.skip {k:Nat} {xs:List SchT} (h:GenSc k xs) (hk:k < 3) : GenSc (k+1) xs:=⟨by rw [takeS k hk]; exact h.sub.trans (List.sublist_append_left _ _),h.ok⟩
theorem GenSc.more {k:Nat} {xs:List SchT} (h:GenSc k xs) (hk:k < 3) (x:SchT) (hc:x.code = codeS k) (hx:DrawnS x) : GenSc (k+1) (xs++[x]):=by
 refine ⟨?_,fun y hy=>?_⟩
 ·
  rw [takeS k hk,List.map_append]
  exact h.sub.append (by simp [hc])
 ·
  rcases List.mem_append.1 hy with h1 | h1
  ·
   exact h.ok y h1
  ·
   simp at h1; subst h1; exact hx
theorem GenSc.len {k:Nat} {xs:List SchT} (h:GenSc k xs) : xs.length≤3:=by
 have:=h.sub.length_le
 simp [codesS] at this
 omega
theorem GenSc.schs {k:Nat} {xs:List SchT} (h:GenSc k xs) : (∀ s ∈ xs,SchOk s)∧xs.Pairwise (fun a b=>Op.bytesLess a.code.toList b.code.toList = true):=by
 refine ⟨fun x hx=>?_,?_⟩
 ·
  exact (h.ok x hx).ok (codesS_name _ (List.mem_of_mem_take (h.sub.subset (List.mem_map_of_mem hx))))
 ·
  have h1:=codesS_asc.sublist (h.sub.trans (List.take_sublist _ _))
  exact List.pairwise_map.1 h1
set_option maxRecDepth 100000 in
set_option maxHeartbeats 2000000 in
theorem schemes_any (b M : Nat) (w:World) (hM:M≤600000) (hd:DeckIn w b M) :
  Calls Tryz.prog 64 #[.pointer (some ⟨b,0,none⟩)] w fun e w'=>∃ v xs,e = .returned v∧GenSc 3 xs∧Own encSch 8 123 w' w.heap.size v xs∧DeckIn w' b (M+33)∧w.grownBy w' (some b):=by
 have hlt:=hd.lt
 go_enter Tryz.func64,Tryz.ntmps64
 go_wp2_with fail
 rw [show Obj.cells #[.string ⟨#[99,97,114,101]⟩,.string ⟨#[104,101,97,108,116,104]⟩,.string ⟨#[112,101,110,115,105,111,110]⟩] 9 = Obj.cells cellsS 9 from rfl]
 go_loopw [3,8] (fun v i wr=>∃ (k:Nat) (xs:List SchT),k≤3∧i = .int .i64 k∧GenSc k xs∧Own encSch 8 123 wr (w.heap.size+1) v xs∧DeckIn wr b (M+11 * k)∧Blk wr w.heap.size 9 cellsS∧w.grownBy wr (some b)) (fun _ i _=>3 - (intOf i).toNat)
 case atStart=>exact ⟨0,[],by omega,rfl,GenSc.nil_,Own.nil_ _ _,hd.alloc _,Blk.new _ _ _,only_alloc (only_refl _ _) _⟩
 case round =>
  obtain ⟨k,xs,hk,rfl,hgen,hown,hdk,hblk,hg⟩:=hrel
  by_cases hltk:k < 3
  ·
   have c0:=(hblk.cell k).trans (cellsS_at k hltk)
   go_wp2_with fail
   refine (next_any b (M+11 * k) _ _ (by omega) (by omega) (by omega) hdk).mono ?_
   rintro e w1 ⟨r1,rfl,ha1,hb1,hd1,hg1⟩
   have hs0:=hblk.lt
   by_cases hr:0 < r1
   ·
    go_wp2_with fail
    refine (scheme_any b (M+11 * k+1) (codeS k) _ (by omega) hd1).mono ?_
    rintro e w7 ⟨s,rfl,hsc,hss,hd7,hg7⟩
    have hG:=only_trans hg1 hg7
    have hown7:=hown.kept hG (by intro g e; injection e; omega)
    have hblk7:=hblk.grown hG (by intro e; injection e; omega)
    have hgg:=only_trans hg hG
    have hs7:=hG.size
    have hlen:=hgen.len
    have HSC:=Lib.hid hsc
    clear hown hblk hg hg1 hg7 hdk hd1 c0 hG hsc
    obtain ⟨c',x1,x2,x3,x4,x5,x6,x7⟩:=s
    simp only at HSC
    go_wp2_with (at_builtin; (refine wpList_append_one _ _ 37 ⟨c',x1,x2,x3,x4,x5,x6,x7⟩ _ 72 _ infoSch Tryz.underlying37 hown7 encSch_len (by omega) rfl (encSch_one _) (by omega) (by omega) (by omega) (by rfl) (by rfl) (by rfl) (by rfl) (by simp) (by rfl) ?_); intro v2 w8 hown8 hg8)
    have hr8:∀ g,Value.ownBlock _ = some g→w.heap.size+1≤g:=fun g e=>(hown7.block_lt e).1
    go_roundw
    case rel =>
     refine ⟨k+1,_,by omega,by go_num,?_,hown8,(hd7.grown hg8 (fun g e=>by have:=hr8 g e; omega)).mono (by omega),hblk7.grown hg8 (fun e=>by have:=hr8 _ e.symm; omega),only_then hgg hg8 (fun g e=>.inl (by have:=hr8 g e; omega))⟩
     exact hgen.more hltk _ HSC.out hss
    case measure=>simp [intOf]; omega
   ·
    have hown1:=hown.kept hg1 (by intro g e; injection e; omega)
    have hblk1:=hblk.grown hg1 (by intro e; injection e; omega)
    go_wp2_with fail
    go_roundw
    case rel=>exact ⟨k+1,xs,by omega,by go_num,hgen.skip hltk,hown1,hd1.mono (by omega),hblk1,only_trans hg hg1⟩
    case measure=>simp [intOf]; omega
  ·
   go_wp2
   go_ret
   obtain rfl:k = 3:=by omega
   exact ⟨_,xs,rfl,hgen,hown.weaken (by omega),hdk,hg⟩
end Go.Proofs.YtlhkojcmcmkmaaaGreat
namespace Go.Proofs.YtlhkojcmcmkmaaaGreat
open Go.RowKit
theorem wrap_in {n:Int} (h1 : -9223372036854775808≤n) (h2:n≤9223372036854775807) : IntKind.i64.wrap n = n:=by rw [IntKind.wrap_i64]; omega
structure RowsG (xs:List RowT) : Prop where
 ne:0 < xs.length
 zero:(xs.getD 0 zRw).frm = 0
 asc:∀ i,i+1 < xs.length→(xs.getD i zRw).frm < (xs.getD (i+1) zRw).frm
 fr:∀ i,i < xs.length→0≤(xs.getD i zRw).frm∧(xs.getD i zRw).frm≤100000 * i
 tx:∀ i,i < xs.length→0≤(xs.getD i zRw).tax∧(xs.getD i zRw).tax≤100+20000 * i
theorem getD_snoc_lt {α:Type} {xs:List α} {x z : α} {i:Nat} (h:i < xs.length) : (xs++[x]).getD i z = xs.getD i z:=by
 rw [List.getD_eq_getElem?_getD,List.getD_eq_getElem?_getD,List.getElem?_append_left h]
theorem getD_snoc_eq {α:Type} {xs:List α} {x z : α} : (xs++[x]).getD xs.length z = x:=by
 rw [List.getD_eq_getElem?_getD,List.getElem?_append_right (Nat.le_refl _)]; simp
theorem RowsG.one {r:Int} (h0:0≤r) (h1:r≤100) : RowsG [⟨0,r⟩]:=by
 refine ⟨by simp,rfl,fun i hi=>?_,fun i hi=>?_,fun i hi=>?_⟩
 ·
  simp at hi
 ·
  simp at hi; subst hi; exact ⟨Int.le_refl _,Int.le_refl _⟩
 ·
  simp at hi; subst hi
  show 0≤r∧r≤100+20000 * 0
  omega
theorem RowsG.snoc {xs:List RowT} {m:Nat} (h:RowsG xs) (hm:m+1 = xs.length) {f t : Int} (h0 : (xs.getD m zRw).frm < f) (h1:f≤(xs.getD m zRw).frm+100000) (h2 : (xs.getD m zRw).tax≤t) (h3:t≤(xs.getD m zRw).tax+20000) : RowsG (xs++[⟨f,t⟩]):=by
 have hf:=h.fr m (by omega)
 have ht:=h.tx m (by omega)
 refine ⟨by simp,?_,fun i hi=>?_,fun i hi=>?_,fun i hi=>?_⟩
 ·
  rw [getD_snoc_lt h.ne]; exact h.zero
 ·
  simp only [List.length_append,List.length_cons,List.length_nil] at hi
  rcases Nat.lt_or_ge (i+1) xs.length with hl | hl
  ·
   rw [getD_snoc_lt hl,getD_snoc_lt (by omega)]; exact h.asc i hl
  ·
   have e1:i+1 = xs.length:=by omega
   have e2:i = m:=by omega
   rw [getD_snoc_lt (show i < xs.length by omega),e1,getD_snoc_eq,e2]; exact h0
 all_goals
  simp only [List.length_append,List.length_cons,List.length_nil] at hi
  rcases Nat.lt_or_ge i xs.length with hl | hl
 ·
  rw [getD_snoc_lt hl]; exact h.fr i hl
 ·
  have e1:i = xs.length:=by omega
  rw [e1,getD_snoc_eq]
  show 0≤f∧f≤_
  omega
 ·
  rw [getD_snoc_lt hl]; exact h.tx i hl
 ·
  have e1:i = xs.length:=by omega
  rw [e1,getD_snoc_eq]
  show 0≤t∧t≤_
  omega
theorem RowsG.ok {xs:List RowT} (h:RowsG xs) (hl:xs.length≤6) : RowsOk xs :=
 ⟨h.ne,by omega,h.zero,h.asc,fun i hi=>by have:=h.fr i hi; omega,fun i hi=>by have:=h.tx i hi; omega,fun i hi=>by have:=h.tx i hi; omega⟩
set_option maxRecDepth 100000 in
set_option maxHeartbeats 2000000 in
theorem rows_any (b M : Nat) (w:World) (hM:M≤600000) (hd:DeckIn w b M) :
  Calls Tryz.prog 119 #[.pointer (some ⟨b,0,none⟩)] w fun e w'=>∃ v xs,e = .returned v∧RowsOk xs∧Own encRw 2 93 w' w.heap.size v xs∧DeckIn w' b (M+10)∧w.grownBy w' (some b):=by
 have hlt:=hd.lt
 go_enter Tryz.func119,Tryz.ntmps119
 go_wp2_with fail
 refine (pick_new b M w [0,0,100] _ _ _ rfl rfl (by omega) hd (by simp) (by simp)).mono ?_
 rintro e w1 ⟨r1,rfl,hm1,hd1,hg1⟩
 have hdr1:0≤r1∧r1≤100:=by simp at hm1; omega
 have hown0:=Own.lit (base:=w.heap.size) encRw_len w1 [⟨0,r1⟩] #[.int .i64 0,.int .i64 r1] 93 rfl (by simp) hg1.size
 simp only [List.length_cons,List.length_nil] at hown0
 go_wp2_with fail
 refine (next_any b (M+1) _ _ (by omega) (by omega) (by omega) (hd1.alloc _)).mono ?_
 rintro e w2 ⟨r2,rfl,ha2,hb2,hd2,hg2⟩
 obtain ⟨k0,rfl⟩:=Int.eq_ofNat_of_zero_le ha2
 have hown2:=hown0.kept hg2 (by intro g e; injection e; omega)
 have hG2:w.grownBy w2 (some b):=only_trans (only_alloc hg1 _) hg2
 clear hown0 hg1 hg2 hd1 hd hm1
 go_wp2_with fail
 go_loopw [3,4] (fun v i wr=>∃ (k:Nat) (xs:List RowT),k≤4∧i = .int .i64 k∧xs.length+k≤5∧Hid (RowsG xs)∧Own encRw 2 93 wr w.heap.size v xs∧DeckIn wr b (M+2+2 * (4 - k))∧w.grownBy wr (some b)) (fun _ i _=>(intOf i).toNat)
 case atStart=>exact ⟨k0,[⟨0,r1⟩],by omega,rfl,by simp; omega,RowsG.one hdr1.1 hdr1.2,hown2,hd2.mono (by omega),hG2⟩
 case round =>
  obtain ⟨k,xs,hk,rfl,hlen,hgen,hown,hdk,hg⟩:=hrel
  by_cases hk0:0 < k
  ·
   obtain ⟨m,hm⟩ : ∃ m,xs.length = m+1:=⟨xs.length - 1,by have:=hgen.out.ne; omega⟩
   have HO:=Lib.hid hown
   obtain ⟨A,c,rfl,hS,hfA,_⟩:=hown.form encRw_len
   have hmx:m < xs.length:=by omega
   obtain ⟨bb,off,rfl,hbb,hc⟩:=hS.at_ hmx
   have c0:=hc 0 _ rfl
   have c1:=hc 1 _ rfl
   simp only [Nat.add_zero] at c0
   clear hc hS
   try rw [hm]
   obtain ⟨f,hf⟩ : ∃ f,f = xs[m].frm:=⟨_,rfl⟩
   obtain ⟨t,ht⟩ : ∃ t,t = xs[m].tax:=⟨_,rfl⟩
   rw [← hf] at c0
   rw [← ht] at c1
   have ef:(xs.getD m zRw).frm = f:=by rw [hf,List.getD_eq_getElem?_getD,List.getElem?_eq_getElem hmx]; rfl
   have et:(xs.getD m zRw).tax = t:=by rw [ht,List.getD_eq_getElem?_getD,List.getElem?_eq_getElem hmx]; rfl
   have hfb:=hgen.out.fr m hmx
   have htb:=hgen.out.tx m hmx
   rw [ef] at hfb
   rw [et] at htb
   have hfb1:f≤500000:=by omega
   have htb1:t≤200000:=by omega
   clear hf ht
   have HM:=Lib.hid hm
   try rw [hm]
   go_upto_region 6 with fail
   rw [← HM.out]
   clear hm
   have hX0:=Blk.new wr 93 #[.int .i64 f,.int .i64 t]
   have hd0:=hdk.alloc (Obj.cells #[.int .i64 f,.int .i64 t] 93)
   have hGw0:=only_alloc hg (Obj.cells #[.int .i64 f,.int .i64 t] 93)
   have ho0:=hown.alloc (Obj.cells #[.int .i64 f,.int .i64 t] 93)
   have hgb:b < wr.heap.size:=hdk.lt
   clear hown HO hdk hg c0 c1 hd2 hown2 hG2 hfA
   generalize wr.alloc (Obj.cells #[.int .i64 f,.int .i64 t] 93) = w0 at *
   have hXo:some wr.heap.size ≠ (Value.slice (some ⟨bb,off,none⟩) xs.length c).ownBlock:=(fun e=>by injection e; omega:some wr.heap.size ≠ some bb)
   generalize hgN:M+2+2 * (4 - k) = N at *
   generalize hgg:wr.heap.size = g at *
   generalize hvv:Value.slice (some ⟨bb,off,none⟩) xs.length c = v at *
   refine M3.wp_region_sel (C:=fun w'=>Blk w' g 93 #[.int .i64 f,.int .i64 t]) (stable_blk _ _ _) (hX0) (aE:=?aE1) [0,1,2,3,4,7,8,9] 8 (by kernel_rfl) (by kernel_rfl) rfl (by kernel_rfl) (by kernel_rfl) (by rfl) ?H1 ?M1
   case H1 =>
    intro F hF inst
    simp only [M3.opsAt,List.getElem?_toArray,List.getElem?_cons_zero,List.getElem?_cons_succ]
    have e0:∀ p:BwC (fun w'=>Blk w' g 93 #[.int .i64 f,.int .i64 t]) F,p.w'.cell? ⟨g,0,none⟩ = some (.int .i64 f):=fun p=>(Blk.cell p.h 0).trans rfl
    have e1:∀ p:BwC (fun w'=>Blk w' g 93 #[.int .i64 f,.int .i64 t]) F,p.w'.cell? ⟨g,1,none⟩ = some (.int .i64 t):=fun p=>(Blk.cell p.h 1).trans rfl
    repeat (first | go_big_quiet_step (fail))
    refine wpQuiet_nil ?_
    rfl
   case M1 =>
    intro Q0 hQ0
    refine M3.mix_step [5] (by kernel_rfl) (by simp) ?_
    intro w1 hC1 hb1 i hi
    simp only [nqj,nqk,or_false] at hi
    subst hi
    have hX1:=hX0.adv hb1
    have hd1:=hd0.bel hb1
    have hGw1:=only_adv hGw0 hb1
    have ho1:=ho0.adv hb1
    clear hb1 hX0 hd0 hGw0 ho0
    refine M3.mix_call 34 #[.pointer (some ⟨b,0,none⟩),.int .i64 100000] rfl rfl (by go_simp) ?_
    refine (next_any b (N) 100000 w1 (by omega) (by omega) (by omega) hd1).mono ?_
    rintro e w2 ⟨r5,rfl,ha2,hb2,hd2,hg2⟩
    have hX2:=hX1.grown hg2 (by intro e; injection e; omega)
    have hGw2:=only_trans hGw1 hg2
    have ho2:=ho1.kept hg2 (by intro g e; injection e; omega)
    refine ⟨_,rfl,hX2,?_⟩
    simp only [Act.put,nqa,nqb,nqc,nqd,nqe,nqf]
    clear hg2 hC1 hd1 hX1 hGw1 ho1
    refine M3.mix_step [6,10] (by kernel_rfl) (by simp) ?_
    intro w3 hC3 hb3 i hi
    simp only [nqj,nqk,or_false] at hi
    have hX3:=hX2.adv hb3
    have hd3:=hd2.bel hb3
    have hGw3:=only_adv hGw2 hb3
    have ho3:=ho2.adv hb3
    clear hb3 hX2 hd2 hGw2 ho2
    rcases hi with rfl | rfl
    ·
     refine M3.mix_val (.int .i64 (f+1+r5)) w3 rfl rfl (by have e:=wrap_in (n:=f+1+r5) (by omega) (by omega); go_simp) ⟨hX3,?_⟩
     simp only [Act.put,nqa,nqb,nqc,nqd,nqe,nqf]
     clear hC3
     refine M3.mix_step [10] (by kernel_rfl) (by simp) ?_
     intro w4 hC4 hb4 i hi
     simp only [nqj,nqk,or_false] at hi
     subst hi
     have hX4:=hX3.adv hb4
     have hd4:=hd3.bel hb4
     have hGw4:=only_adv hGw3 hb4
     have ho4:=ho3.adv hb4
     clear hb4 hX3 hd3 hGw3 ho3
     refine M3.mix_call 34 #[.pointer (some ⟨b,0,none⟩),.int .i64 20000] rfl rfl (by go_simp) ?_
     refine (next_any b (N+1) 20000 w4 (by omega) (by omega) (by omega) hd4).mono ?_
     rintro e w5 ⟨r10,rfl,ha5,hb5,hd5,hg5⟩
     have hX5:=hX4.grown hg5 (by intro e; injection e; omega)
     have hGw5:=only_trans hGw4 hg5
     have ho5:=ho4.kept hg5 (by intro g e; injection e; omega)
     refine ⟨_,rfl,hX5,?_⟩
     simp only [Act.put,nqa,nqb,nqc,nqd,nqe,nqf]
     clear hg5 hC4 hd4 hX4 hGw4 ho4
     refine M3.mix_step [11] (by kernel_rfl) (by simp) ?_
     intro w6 hC6 hb6 i hi
     simp only [nqj,nqk,or_false] at hi
     subst hi
     have hX6:=hX5.adv hb6
     have hd6:=hd5.bel hb6
     have hGw6:=only_adv hGw5 hb6
     have ho6:=ho5.adv hb6
     clear hb6 hX5 hd5 hGw5 ho5
     refine M3.mix_val (.int .i64 (t+r10)) w6 rfl rfl (by have e:=wrap_in (n:=t+r10) (by omega) (by omega); go_simp) ⟨hX6,?_⟩
     simp only [Act.put,nqa,nqb,nqc,nqd,nqe,nqf]
     clear hC6
     refine M3.mix_step [12] (by kernel_rfl) (by simp) ?_
     intro w7 hC7 hb7 i hi
     simp only [nqj,nqk,or_false] at hi
     subst hi
     have hX7:=hX6.adv hb7
     have hd7:=hd6.bel hb7
     have hGw7:=only_adv hGw6 hb7
     have ho7:=ho6.adv hb7
     clear hb7 hX6 hd6 hGw6 ho6
     refine M3.mix_val (.agg #[.int .i64 (f+1+r5),.int .i64 (t+r10)]) w7 rfl rfl (by go_simp) ⟨hX7,?_⟩
     simp only [Act.put,nqa,nqb,nqc,nqd,nqe,nqf]
     clear hC7
     refine M3.mix_step [13] (by kernel_rfl) (by simp) ?_
     intro w8 hC8 hb8 i hi
     simp only [nqj,nqk,or_false] at hi
     subst hi
     have hX8:=hX7.adv hb8
     have hd8:=hd7.bel hb8
     have hGw8:=only_adv hGw7 hb8
     have ho8:=ho7.adv hb8
     clear hb8 hX7 hd7 hGw7 ho7
     refine M3.mix_val (.slice (some ⟨w8.heap.size,0,none⟩) 1 1) (w8.alloc (.cells #[.int .i64 (f+1+r5),.int .i64 (t+r10)] 93)) rfl rfl (by go_simp) ⟨hX8.alloc _,?_⟩
     simp only [Act.put,nqa,nqb,nqc,nqd,nqe,nqf]
     have hE9:=(SliceOf.new encRw_len w8 [⟨f+1+r5,t+r10⟩] #[.int .i64 (f+1+r5),.int .i64 (t+r10)] 93 rfl).more (B':=(w8.alloc (.cells #[.int .i64 (f+1+r5),.int .i64 (t+r10)] 93)).heap.size) (by rw [World.size_alloc]; omega)
     have hX9:=hX8.alloc (.cells #[.int .i64 (f+1+r5),.int .i64 (t+r10)] 93)
     have hd9:=hd8.alloc (.cells #[.int .i64 (f+1+r5),.int .i64 (t+r10)] 93)
     have hGw9:=only_alloc hGw8 (.cells #[.int .i64 (f+1+r5),.int .i64 (t+r10)] 93)
     have ho9:=ho8.alloc (.cells #[.int .i64 (f+1+r5),.int .i64 (t+r10)] 93)
     clear hC8 hX8 hd8 hGw8 ho8
     generalize w8.alloc (.cells #[.int .i64 (f+1+r5),.int .i64 (t+r10)] 93) = w9 at *
     generalize w8.heap.size = q at *
     refine M3.mix_step [14] (by kernel_rfl) (by simp) ?_
     intro w10 hC10 hb10 i hi
     simp only [nqj,nqk,or_false] at hi
     subst hi
     have hX10:=hX9.adv hb10
     have hd10:=hd9.bel hb10
     have hGw10:=only_adv hGw9 hb10
     have ho10:=ho9.adv hb10
     have hE10:=hE9.adv hb10
     clear hb10 hX9 hd9 hGw9 ho9 hE9
     have hbs:w.heap.size≤w10.heap.size:=hGw10.size
     refine M3.mix_append (.tmp 23) (.tmp 36) 39 1 16 _ infoRw Tryz.underlying39 ho10 hE10 encRw_len (by omega) rfl encRw_one (by simp; omega) (by omega) hbs rfl rfl rfl rfl rfl rfl ?_
     intro v11 w11 ho11 hg11
     have hr11:∀ q,Value.ownBlock _ = some q→w.heap.size≤q:=fun q hq=>(ho10.block_lt hq).1
     have hd11:=hd10.grown hg11 (fun q hq=>by have:=hr11 q hq; omega)
     have hGw11:=only_then hGw10 hg11 (fun q hq=>.inl (hr11 q hq))
     have hX11:=hX10.grown hg11 hXo
     refine ⟨hX11,?_⟩
     simp only [Act.put,nqa,nqb,nqc,nqd,nqe,nqf]
     clear hg11 hr11 hbs hC10 hE10 ho10 hd10 hGw10 hX10
     refine M3.mix_step [15] (by kernel_rfl) (by simp) ?_
     intro w12 hC12 hb12 i hi
     simp only [nqj,nqk,or_false] at hi
     subst hi
     have hX12:=hX11.adv hb12
     have hd12:=hd11.bel hb12
     have hGw12:=only_adv hGw11 hb12
     have ho12:=ho11.adv hb12
     clear hb12 hX11 hd11 hGw11 ho11
     refine M3.mix_val v11 w12 rfl rfl rfl ⟨hC12,?_⟩
     simp only [Act.put,nqa,nqb,nqc,nqd,nqe,nqf]
     clear hC12
     refine M3.mix_end (by kernel_rfl) ?_
     intro w13 hC13 hb13
     refine hQ0 _ _ ?_
     have hX13:=hX12.adv hb13
     have hd13:=hd12.bel hb13
     have hGw13:=only_adv hGw12 hb13
     have ho13:=ho12.adv hb13
     clear hb13 hC13 hQ0 hX12 hd12 hGw12 ho12
     have hgen':=hgen.out.snoc HM.out.symm (f:=f+1+r5) (t:=t+r10) (by rw [ef]; omega) (by rw [ef]; omega) (by rw [et]; omega) (by rw [et]; omega)
     have hlen':(xs++[(⟨f+1+r5,t+r10⟩ : RowT)]).length = xs.length+1:=by simp
     go_wp2_with fail
     go_roundw
     case rel =>
      have hfin:∃ (k':Nat) (xs':List RowT),k'≤4∧Value.int .i64 ((k:Int) - 1) = .int .i64 k'∧xs'.length+k'≤5∧Hid (RowsG xs')∧Own encRw 2 93 w13 w.heap.size _ xs'∧DeckIn w13 b (M+2+2 * (4 - k'))∧w.grownBy w13 (some b):=⟨k - 1,_,by omega,by go_num,by rw [hlen']; omega,hgen',ho13,hd13.mono (by omega),hGw13⟩
      first | exact hfin | ((repeat apply Exists.intro); exact ⟨hfin,rfl⟩)
     case measure=>simp [intOf]; omega
    ·
     refine M3.mix_call 34 #[.pointer (some ⟨b,0,none⟩),.int .i64 20000] rfl rfl (by go_simp) ?_
     refine (next_any b (N+1) 20000 w3 (by omega) (by omega) (by omega) hd3).mono ?_
     rintro e w4 ⟨r10,rfl,ha4,hb4,hd4,hg4⟩
     have hX4:=hX3.grown hg4 (by intro e; injection e; omega)
     have hGw4:=only_trans hGw3 hg4
     have ho4:=ho3.kept hg4 (by intro g e; injection e; omega)
     refine ⟨_,rfl,hX4,?_⟩
     simp only [Act.put,nqa,nqb,nqc,nqd,nqe,nqf]
     clear hg4 hC3 hd3 hX3 hGw3 ho3
     refine M3.mix_step [6,11] (by kernel_rfl) (by simp) ?_
     intro w5 hC5 hb5 i hi
     simp only [nqj,nqk,or_false] at hi
     have hX5:=hX4.adv hb5
     have hd5:=hd4.bel hb5
     have hGw5:=only_adv hGw4 hb5
     have ho5:=ho4.adv hb5
     clear hb5 hX4 hd4 hGw4 ho4
     rcases hi with rfl | rfl
     ·
      refine M3.mix_val (.int .i64 (f+1+r5)) w5 rfl rfl (by have e:=wrap_in (n:=f+1+r5) (by omega) (by omega); go_simp) ⟨hX5,?_⟩
      simp only [Act.put,nqa,nqb,nqc,nqd,nqe,nqf]
      clear hC5
      refine M3.mix_step [11] (by kernel_rfl) (by simp) ?_
      intro w6 hC6 hb6 i hi
      simp only [nqj,nqk,or_false] at hi
      subst hi
      have hX6:=hX5.adv hb6
      have hd6:=hd5.bel hb6
      have hGw6:=only_adv hGw5 hb6
      have ho6:=ho5.adv hb6
      clear hb6 hX5 hd5 hGw5 ho5
      refine M3.mix_val (.int .i64 (t+r10)) w6 rfl rfl (by have e:=wrap_in (n:=t+r10) (by omega) (by omega); go_simp) ⟨hX6,?_⟩
      simp only [Act.put,nqa,nqb,nqc,nqd,nqe,nqf]
      clear hC6
      refine M3.mix_step [12] (by kernel_rfl) (by simp) ?_
      intro w7 hC7 hb7 i hi
      simp only [nqj,nqk,or_false] at hi
      subst hi
      have hX7:=hX6.adv hb7
      have hd7:=hd6.bel hb7
      have hGw7:=only_adv hGw6 hb7
      have ho7:=ho6.adv hb7
      clear hb7 hX6 hd6 hGw6 ho6
      refine M3.mix_val (.agg #[.int .i64 (f+1+r5),.int .i64 (t+r10)]) w7 rfl rfl (by go_simp) ⟨hX7,?_⟩
      simp only [Act.put,nqa,nqb,nqc,nqd,nqe,nqf]
      clear hC7
      refine M3.mix_step [13] (by kernel_rfl) (by simp) ?_
      intro w8 hC8 hb8 i hi
      simp only [nqj,nqk,or_false] at hi
      subst hi
      have hX8:=hX7.adv hb8
      have hd8:=hd7.bel hb8
      have hGw8:=only_adv hGw7 hb8
      have ho8:=ho7.adv hb8
      clear hb8 hX7 hd7 hGw7 ho7
      refine M3.mix_val (.slice (some ⟨w8.heap.size,0,none⟩) 1 1) (w8.alloc (.cells #[.int .i64 (f+1+r5),.int .i64 (t+r10)] 93)) rfl rfl (by go_simp) ⟨hX8.alloc _,?_⟩
      simp only [Act.put,nqa,nqb,nqc,nqd,nqe,nqf]
      have hE9:=(SliceOf.new encRw_len w8 [⟨f+1+r5,t+r10⟩] #[.int .i64 (f+1+r5),.int .i64 (t+r10)] 93 rfl).more (B':=(w8.alloc (.cells #[.int .i64 (f+1+r5),.int .i64 (t+r10)] 93)).heap.size) (by rw [World.size_alloc]; omega)
      have hX9:=hX8.alloc (.cells #[.int .i64 (f+1+r5),.int .i64 (t+r10)] 93)
      have hd9:=hd8.alloc (.cells #[.int .i64 (f+1+r5),.int .i64 (t+r10)] 93)
      have hGw9:=only_alloc hGw8 (.cells #[.int .i64 (f+1+r5),.int .i64 (t+r10)] 93)
      have ho9:=ho8.alloc (.cells #[.int .i64 (f+1+r5),.int .i64 (t+r10)] 93)
      clear hC8 hX8 hd8 hGw8 ho8
      generalize w8.alloc (.cells #[.int .i64 (f+1+r5),.int .i64 (t+r10)] 93) = w9 at *
      generalize w8.heap.size = q at *
      refine M3.mix_step [14] (by kernel_rfl) (by simp) ?_
      intro w10 hC10 hb10 i hi
      simp only [nqj,nqk,or_false] at hi
      subst hi
      have hX10:=hX9.adv hb10
      have hd10:=hd9.bel hb10
      have hGw10:=only_adv hGw9 hb10
      have ho10:=ho9.adv hb10
      have hE10:=hE9.adv hb10
      clear hb10 hX9 hd9 hGw9 ho9 hE9
      have hbs:w.heap.size≤w10.heap.size:=hGw10.size
      refine M3.mix_append (.tmp 23) (.tmp 36) 39 1 16 _ infoRw Tryz.underlying39 ho10 hE10 encRw_len (by omega) rfl encRw_one (by simp; omega) (by omega) hbs rfl rfl rfl rfl rfl rfl ?_
      intro v11 w11 ho11 hg11
      have hr11:∀ q,Value.ownBlock _ = some q→w.heap.size≤q:=fun q hq=>(ho10.block_lt hq).1
      have hd11:=hd10.grown hg11 (fun q hq=>by have:=hr11 q hq; omega)
      have hGw11:=only_then hGw10 hg11 (fun q hq=>.inl (hr11 q hq))
      have hX11:=hX10.grown hg11 hXo
      refine ⟨hX11,?_⟩
      simp only [Act.put,nqa,nqb,nqc,nqd,nqe,nqf]
      clear hg11 hr11 hbs hC10 hE10 ho10 hd10 hGw10 hX10
      refine M3.mix_step [15] (by kernel_rfl) (by simp) ?_
      intro w12 hC12 hb12 i hi
      simp only [nqj,nqk,or_false] at hi
      subst hi
      have hX12:=hX11.adv hb12
      have hd12:=hd11.bel hb12
      have hGw12:=only_adv hGw11 hb12
      have ho12:=ho11.adv hb12
      clear hb12 hX11 hd11 hGw11 ho11
      refine M3.mix_val v11 w12 rfl rfl rfl ⟨hC12,?_⟩
      simp only [Act.put,nqa,nqb,nqc,nqd,nqe,nqf]
      clear hC12
      refine M3.mix_end (by kernel_rfl) ?_
      intro w13 hC13 hb13
      refine hQ0 _ _ ?_
      have hX13:=hX12.adv hb13
      have hd13:=hd12.bel hb13
      have hGw13:=only_adv hGw12 hb13
      have ho13:=ho12.adv hb13
      clear hb13 hC13 hQ0 hX12 hd12 hGw12 ho12
      have hgen':=hgen.out.snoc HM.out.symm (f:=f+1+r5) (t:=t+r10) (by rw [ef]; omega) (by rw [ef]; omega) (by rw [et]; omega) (by rw [et]; omega)
      have hlen':(xs++[(⟨f+1+r5,t+r10⟩ : RowT)]).length = xs.length+1:=by simp
      go_wp2_with fail
      go_roundw
      case rel =>
       have hfin:∃ (k':Nat) (xs':List RowT),k'≤4∧Value.int .i64 ((k:Int) - 1) = .int .i64 k'∧xs'.length+k'≤5∧Hid (RowsG xs')∧Own encRw 2 93 w13 w.heap.size _ xs'∧DeckIn w13 b (M+2+2 * (4 - k'))∧w.grownBy w13 (some b):=⟨k - 1,_,by omega,by go_num,by rw [hlen']; omega,hgen',ho13,hd13.mono (by omega),hGw13⟩
       first | exact hfin | ((repeat apply Exists.intro); exact ⟨hfin,rfl⟩)
      case measure=>simp [intOf]; omega
     ·
      refine M3.mix_val (.int .i64 (t+r10)) w5 rfl rfl (by have e:=wrap_in (n:=t+r10) (by omega) (by omega); go_simp) ⟨hX5,?_⟩
      simp only [Act.put,nqa,nqb,nqc,nqd,nqe,nqf]
      clear hC5
      refine M3.mix_step [6] (by kernel_rfl) (by simp) ?_
      intro w6 hC6 hb6 i hi
      simp only [nqj,nqk,or_false] at hi
      subst hi
      have hX6:=hX5.adv hb6
      have hd6:=hd5.bel hb6
      have hGw6:=only_adv hGw5 hb6
      have ho6:=ho5.adv hb6
      clear hb6 hX5 hd5 hGw5 ho5
      refine M3.mix_val (.int .i64 (f+1+r5)) w6 rfl rfl (by have e:=wrap_in (n:=f+1+r5) (by omega) (by omega); go_simp) ⟨hX6,?_⟩
      simp only [Act.put,nqa,nqb,nqc,nqd,nqe,nqf]
      clear hC6
      refine M3.mix_step [12] (by kernel_rfl) (by simp) ?_
      intro w7 hC7 hb7 i hi
      simp only [nqj,nqk,or_false] at hi
      subst hi
      have hX7:=hX6.adv hb7
      have hd7:=hd6.bel hb7
      have hGw7:=only_adv hGw6 hb7
      have ho7:=ho6.adv hb7
      clear hb7 hX6 hd6 hGw6 ho6
      refine M3.mix_val (.agg #[.int .i64 (f+1+r5),.int .i64 (t+r10)]) w7 rfl rfl (by go_simp) ⟨hX7,?_⟩
      simp only [Act.put,nqa,nqb,nqc,nqd,nqe,nqf]
      clear hC7
      refine M3.mix_step [13] (by kernel_rfl) (by simp) ?_
      intro w8 hC8 hb8 i hi
      simp only [nqj,nqk,or_false] at hi
      subst hi
      have hX8:=hX7.adv hb8
      have hd8:=hd7.bel hb8
      have hGw8:=only_adv hGw7 hb8
      have ho8:=ho7.adv hb8
      clear hb8 hX7 hd7 hGw7 ho7
      refine M3.mix_val (.slice (some ⟨w8.heap.size,0,none⟩) 1 1) (w8.alloc (.cells #[.int .i64 (f+1+r5),.int .i64 (t+r10)] 93)) rfl rfl (by go_simp) ⟨hX8.alloc _,?_⟩
      simp only [Act.put,nqa,nqb,nqc,nqd,nqe,nqf]
      have hE9:=(SliceOf.new encRw_len w8 [⟨f+1+r5,t+r10⟩] #[.int .i64 (f+1+r5),.int .i64 (t+r10)] 93 rfl).more (B':=(w8.alloc (.cells #[.int .i64 (f+1+r5),.int .i64 (t+r10)] 93)).heap.size) (by rw [World.size_alloc]; omega)
      have hX9:=hX8.alloc (.cells #[.int .i64 (f+1+r5),.int .i64 (t+r10)] 93)
      have hd9:=hd8.alloc (.cells #[.int .i64 (f+1+r5),.int .i64 (t+r10)] 93)
      have hGw9:=only_alloc hGw8 (.cells #[.int .i64 (f+1+r5),.int .i64 (t+r10)] 93)
      have ho9:=ho8.alloc (.cells #[.int .i64 (f+1+r5),.int .i64 (t+r10)] 93)
      clear hC8 hX8 hd8 hGw8 ho8
      generalize w8.alloc (.cells #[.int .i64 (f+1+r5),.int .i64 (t+r10)] 93) = w9 at *
      generalize w8.heap.size = q at *
      refine M3.mix_step [14] (by kernel_rfl) (by simp) ?_
      intro w10 hC10 hb10 i hi
      simp only [nqj,nqk,or_false] at hi
      subst hi
      have hX10:=hX9.adv hb10
      have hd10:=hd9.bel hb10
      have hGw10:=only_adv hGw9 hb10
      have ho10:=ho9.adv hb10
      have hE10:=hE9.adv hb10
      clear hb10 hX9 hd9 hGw9 ho9 hE9
      have hbs:w.heap.size≤w10.heap.size:=hGw10.size
      refine M3.mix_append (.tmp 23) (.tmp 36) 39 1 16 _ infoRw Tryz.underlying39 ho10 hE10 encRw_len (by omega) rfl encRw_one (by simp; omega) (by omega) hbs rfl rfl rfl rfl rfl rfl ?_
      intro v11 w11 ho11 hg11
      have hr11:∀ q,Value.ownBlock _ = some q→w.heap.size≤q:=fun q hq=>(ho10.block_lt hq).1
      have hd11:=hd10.grown hg11 (fun q hq=>by have:=hr11 q hq; omega)
      have hGw11:=only_then hGw10 hg11 (fun q hq=>.inl (hr11 q hq))
      have hX11:=hX10.grown hg11 hXo
      refine ⟨hX11,?_⟩
      simp only [Act.put,nqa,nqb,nqc,nqd,nqe,nqf]
      clear hg11 hr11 hbs hC10 hE10 ho10 hd10 hGw10 hX10
      refine M3.mix_step [15] (by kernel_rfl) (by simp) ?_
      intro w12 hC12 hb12 i hi
      simp only [nqj,nqk,or_false] at hi
      subst hi
      have hX12:=hX11.adv hb12
      have hd12:=hd11.bel hb12
      have hGw12:=only_adv hGw11 hb12
      have ho12:=ho11.adv hb12
      clear hb12 hX11 hd11 hGw11 ho11
      refine M3.mix_val v11 w12 rfl rfl rfl ⟨hC12,?_⟩
      simp only [Act.put,nqa,nqb,nqc,nqd,nqe,nqf]
      clear hC12
      refine M3.mix_end (by kernel_rfl) ?_
      intro w13 hC13 hb13
      refine hQ0 _ _ ?_
      have hX13:=hX12.adv hb13
      have hd13:=hd12.bel hb13
      have hGw13:=only_adv hGw12 hb13
      have ho13:=ho12.adv hb13
      clear hb13 hC13 hQ0 hX12 hd12 hGw12 ho12
      have hgen':=hgen.out.snoc HM.out.symm (f:=f+1+r5) (t:=t+r10) (by rw [ef]; omega) (by rw [ef]; omega) (by rw [et]; omega) (by rw [et]; omega)
      have hlen':(xs++[(⟨f+1+r5,t+r10⟩ : RowT)]).length = xs.length+1:=by simp
      go_wp2_with fail
      go_roundw
      case rel =>
       have hfin:∃ (k':Nat) (xs':List RowT),k'≤4∧Value.int .i64 ((k:Int) - 1) = .int .i64 k'∧xs'.length+k'≤5∧Hid (RowsG xs')∧Own encRw 2 93 w13 w.heap.size _ xs'∧DeckIn w13 b (M+2+2 * (4 - k'))∧w.grownBy w13 (some b):=⟨k - 1,_,by omega,by go_num,by rw [hlen']; omega,hgen',ho13,hd13.mono (by omega),hGw13⟩
       first | exact hfin | ((repeat apply Exists.intro); exact ⟨hfin,rfl⟩)
      case measure=>simp [intOf]; omega
  ·
   go_wp2_with fail
   go_ret
   exact ⟨_,xs,rfl,hgen.out.ok (by omega),hown,hdk.mono (by omega),hg⟩
end Go.Proofs.YtlhkojcmcmkmaaaGreat
namespace Go.Proofs.YtlhkojcmcmkmaaaGreat
open Go.RowKit
namespace M5
variable {P:Program} {ops:Array Oper} {md:Region.Mode} {C:World→Prop} {s:Nat}
theorem mix_pair {Q:Act→World→Prop} {n:Nat} {listed:Array Bool} {a:Act} {w:World} (i j : Nat) (hr:Region.ready md ops listed = [i,j]) (hne : [i,j].contains s = false)
  (h:∀ w',C w'→Below w.heap.size w w'→M3.stepM P ops C i (fun a1 w1=>C w1∧wpMix P md ops C s Q n (listed.setIfInBounds i true) a1 w1) a w'∧M3.stepM P ops C j (fun a1 w1=>C w1∧wpMix P md ops C s Q n (listed.setIfInBounds j true) a1 w1) a w') : wpMix P md ops C s Q (n+1) listed a w :=
 mix_many [i,j] hr hne rfl fun w' c b k hk=>by
  simp only [nqj,nqk,or_false] at hk
  rcases hk with rfl | rfl
  ·
   exact (h w' c b).1
  ·
   exact (h w' c b).2
end M5
end Go.Proofs.YtlhkojcmcmkmaaaGreat
