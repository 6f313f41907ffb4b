/- Joined texts: Year32 Year32Proof. Conditions: as stated. -/
import Derived.Test.YtlhkojcmcmkmaaaGreatRows
import Derived.Test.YtlhkojcmcmkmaaaGreatJB32
import Derived.Test.YtlhkojcmcmkmaaaGreatJCaseIn
import Derived.Test.YtlhkojcmcmkmaaaGreatProt32ProofJ
import Derived.Test.YtlhkojcmcmkmaaaGreatJYearP
namespace Go.Proofs.YtlhkojcmcmkmaaaGreat
open Go.RowKit
set_option maxRecDepth 100000 in
set_option maxHeartbeats 16000000 in
theorem year32_walk (B:Option Addr) (lcap:Nat) (l:List Int) (w:World) (hI:SliceOf encI 1 w w.heap.size B l) (hIl:l.length≤9223372036854775807) (hIb : ∀ x ∈ l,I64 x) :
  Calls Tryz.prog 9 #[.slice B l.length lcap] w fun e w'=>e = .returned (.bool true)∧RowKit.Below w.heap.size w w':=by
 go_enter Tryz.func9,Tryz.ntmps9
 go_wp2_with fail
 refine (new_any B l lcap _ hI hIl hIb).mono ?_
 rintro e w0 ⟨rfl,hdk,hb0⟩
 clear hIb hI
 go_wp2_with fail
 refine (rules_any _ 0 3 (by omega) (by omega) _ (by omega) hdk).mono ?_
 rintro e w1 ⟨m,rfl,hrg,hmi,hRF,hd1,hg1⟩
 have HRG:=Lib.hid hrg
 have HMI:=Lib.hid hmi
 have hb1:RowKit.Below w.heap.size w w1:=bel_only hb0 hg1 (fun q e=>by injection e; omega)
 have hlt0:=hdk.lt
 clear hrg hmi hdk hb0
 go_upto_region 3 with (refine wpList_store_blk rfl _ _ _ rfl rfl w1.heap.size rfl rfl (Blk.new w1 45 #[.slice none 0 0,.slice none 0 0,.int .i64 0,.slice none 0 0,.int .i64 0,.int .i64 0,.int .i64 0,.int .i64 0,.slice none 0 0,.int .i64 0,.int .i64 0,.int .i64 0,.int .i64 0,.int .i64 0,.int .i64 0,.int .i64 0]) rfl sizeRules32 rfl ?_; intro w2 hX2 hg2)
 have hs1:=hX2.lt
 have hb2:RowKit.Below w1.heap.size w1 w2:=(below_new w1 (.cells #[.slice none 0 0,.slice none 0 0,.int .i64 0,.slice none 0 0,.int .i64 0,.int .i64 0,.int .i64 0,.int .i64 0,.slice none 0 0,.int .i64 0,.int .i64 0,.int .i64 0,.int .i64 0,.int .i64 0,.int .i64 0,.int .i64 0] 45)).trans (only_below hg2 (by rw [World.size_alloc]; omega) (fun q e=>by injection e; omega))
 have hz1:=hg1.size
 have hRB1:=(hRF.toB).lower (lo':=w.heap.size+1) (by omega)
 have hRB2:=hRB1.grown (row:=none) (only_of_below hb2 none) (Nat.le_refl _) (fun q e=>by cases e)
 have hd2:=hd1.bel hb2
 have hbw2:=bel_adv hb1 hb2
 have x9:w2.cell? ⟨w1.heap.size,9,none⟩ = some (.int .i64 m.count):=hX2.cell 9
 have f9:=hX2.frozen 9
 have hX3:Blk (w2.setCell ⟨w1.heap.size,9,none⟩ (.int .i64 4)) w1.heap.size 45 (rQv m):=hX2.set_ 9 (.int .i64 4)
 have hRB3:=hRB2.grown (row:=some w1.heap.size) (only_setCell (p:=⟨w1.heap.size,9,none⟩) (only_refl _ _) (.inl rfl) (.int .i64 4)) (by omega) (fun q e=>by injection e; omega)
 have hd3:=hd2.set (g:=w1.heap.size) (by omega) 9 (.int .i64 4)
 have hbw3:=bel_set hbw2 (g:=w1.heap.size) (by have:=hb1.size; omega) 9 (.int .i64 4)
 have hbg:w.heap.size < w1.heap.size:=by omega
 clear hRF hd1 hg1 hg2 hb1 hb2 hRB1 hRB2 hd2 hbw2 hX2 hz1
 go_upto_region 4 with fail
 clear x9 f9
 generalize w2.setCell _ _ = w3 at hX3 hRB3 hd3 hbw3 ⊢
 have hgl:=hX3.lt
 have hY4:Blk (w3.alloc (.cells zYear 53)) w3.heap.size 53 (yQv ⟨0,0,0,none,0,[],none,0,[]⟩):=Blk.new w3 _ _
 have hbn:=below_new w3 (.cells zYear 53)
 have hH4:NyH m ⟨0,0,0,none,0,[],none,0,[]⟩ w.heap.size w1.heap.size w3.heap.size 110 0 (w3.alloc (.cells zYear 53)) :=
  ⟨hRB3.grown (row:=none) (only_of_below hbn none) (by omega) (fun q e=>by cases e),FrS.nil_ _ _,YInv.zero _,(hd3.bel hbn).mono (by omega),hX3.adv hbn,hY4,hbg,hgl⟩
 have hbw4:=bel_adv hbw3 hbn
 unfold zYear at hH4 hbw4
 clear hX3 hRB3 hd3 hbw3 hbn hY4 hs1
 go_upto_region 6 with fail
 generalize w3.alloc _ = w4 at hH4 hbw4 ⊢
 generalize w3.heap.size = gy at *
 generalize w1.heap.size = g at *
 have HME:Hid (m.tm.t.method = 3):=by
  rcases HMI.out with h | h
  ·
   omega
  ·
   exact h
 clear HMI
 obtain ⟨b,hbe⟩ : ∃ b,b = w.heap.size:=⟨_,rfl⟩
 rw [← hbe] at hH4 hbg hlt0 ⊢
 have HBE:=Lib.hid hbe
 clear hbe
 go_wp2_with fail
 go_loopw [6,7] (fun tx i wr=>∃ (k M:Nat) (ym:YearM),k≤4∧M = 110+13 * k∧i = .int .i64 k∧tx = .int .i64 ym.withheld∧NyH m ym b g gy M k wr∧RowKit.Below w.heap.size w wr) (fun _ i _=>4 - (intOf i).toNat)
 case atStart=>exact ⟨0,110,_,by omega,rfl,rfl,rfl,hH4,hbw4⟩
 case round =>
  rename World=>wr
  obtain ⟨k,M,ym,hk,hM,rfl,rfl,hH,hbr⟩:=hrel
  have HNH:=Lib.hid hH
  have hblt:b < wr.heap.size:=hH.D.lt
  have hM8:M≤800000:=by omega
  have HMV:=Lib.hid hM
  clear hH hM hH4 hbw4
  by_cases hk4:k < 4
  ·
   have hk4i:(k:Int) < 4:=by omega
   go_upto_region 9 with fail
   have hbg':=hbg
   have hgy:=hgl
   go_cut [8,9,10] from 24 to 35 (fun s8 s9 s10 wx=>s10 = .int .i64 0∧∃ (gs gn:Nat) (es:List Elem) (A B:Option Addr) (S Y:Array Value),s8 = .pointer (some ⟨gs,0,none⟩)∧s9 = .pointer (some ⟨gn,0,none⟩)∧Per m.t k ym.t es∧(∀ x ∈ es,x.code.size≤maxLen)∧NyV (inY m.t ym.t es) S Y A B∧NySt wr b (M+13) none (some (A,(inY m.t ym.t es).lines,B,(inY m.t ym.t es).next.insured)) (some gs) (some gn) S Y wx)
   case first =>
    as_aux_lemma =>
     have h0:NySt wr b M none none none none zSlip zYear wr:=NySt.start HNH.out.D
     refine M5.wp_region_sel (C:=fun w'=>wr.grownBy w' (some b)) (gb_stable wr b) (only_refl _ _) (aE:=?aE) [0,1,2,3,4,5] 11 16 (by kernel_rfl) (by kernel_rfl) rfl (by kernel_rfl) (by rfl) ?H ?M
     case H =>
      intro F hF inst
      simp only [M3.opsAt,List.getElem?_toArray,List.getElem?_cons_zero,List.getElem?_cons_succ]
      have hR:∀ w',(∃ p:BwC (fun w'=>wr.grownBy w' (some b)) F,w' = p.w')→Blk w' g 45 (rQv m):=fun w' hw=>by obtain ⟨p,rfl⟩:=hw; exact HNH.out.R.grown p.h (fun e=>by injection e; omega)
      have hY:∀ w',(∃ p:BwC (fun w'=>wr.grownBy w' (some b)) F,w' = p.w')→Blk w' gy 53 (yQv ym):=fun w' hw=>by obtain ⟨p,rfl⟩:=hw; exact HNH.out.Y.grown p.h (fun e=>by injection e; omega)
      have e0:∀ p:BwC (fun w'=>wr.grownBy w' (some b)) F,p.w'.cell? ⟨g,0,none⟩ = some (.slice m.Aw m.ws.length m.cw):=fun p=>(hR p.w' ⟨p,rfl⟩).cell 0
      refine quiet_load_blk _ _ g rfl rfl rfl hR Tryz.underlying45 rfl (by kernel_rfl) ?_
      simp only [Act.put,nqa,nqb,nqc,nqd,nqe,nqf]
      go_big_quiet_step (fail)
      refine quiet_load_blk _ _ gy rfl rfl rfl hY Tryz.underlying53 rfl (by kernel_rfl) ?_
      simp only [Act.put,nqa,nqb,nqc,nqd,nqe,nqf]
      repeat (first | go_big_quiet_step (fail))
      refine wpQuiet_nil ?_
      rfl
     case M =>
      intro Q0 hQ0
      refine M5.share5 (f:=?fecsn) (n:=3) (listed:=#[true,true,true,true,true,true,true,true,true,true,true,true,true,true,false,false,false]) (H:=fun (v:Value) (S:Array Value) (Y:Array Value) (gS:Nat) (gN:Nat)=>NyC wr b (M+13) m.t k ym.t (some gS) (some gN) S Y) (fun Tecsn=>?mecsn) ?tecsn
      case mecsn =>
       refine M5.share4 (f:=?fecs) (n:=4) (listed:=#[true,true,true,true,true,true,true,true,true,true,true,true,true,false,false,false,false]) (H:=fun (v:Value) (S:Array Value) (Y:Array Value) (gS:Nat)=>NyC wr b (M+13) m.t k ym.t (some gS) none S Y) (fun Tecs=>?mecs) ?tecs
       case mecs =>
        refine M5.share4 (f:=?fecn) (n:=4) (listed:=#[true,true,true,true,true,true,true,true,true,true,true,true,false,true,false,false,false]) (H:=fun (v:Value) (S:Array Value) (Y:Array Value) (gN:Nat)=>NyC wr b (M+13) m.t k ym.t none (some gN) S Y) (fun Tecn=>?mecn) ?tecn
        case mecn =>
         refine M5.share3 (f:=?fesn) (n:=8) (listed:=#[true,true,true,true,true,true,true,false,false,false,false,false,true,true,false,false,false]) (H:=fun (v:Value) (gS:Nat) (gN:Nat)=>NyE wr b (M+13) m.t k ym.t (some gS) (some gN) v) (fun Tesn=>?mesn) ?tesn
         case mesn =>
          refine M5.share2 (f:=?fes) (n:=9) (listed:=#[true,true,true,true,true,true,true,false,false,false,false,false,true,false,false,false,false]) (H:=fun (v:Value) (gS:Nat)=>NyE wr b (M+13) m.t k ym.t (some gS) none v) (fun Tes=>?mes) ?tes
          case mes =>
           refine M5.share2 (f:=?fen) (n:=9) (listed:=#[true,true,true,true,true,true,true,false,false,false,false,false,false,true,false,false,false]) (H:=fun (v:Value) (gN:Nat)=>NyE wr b (M+13) m.t k ym.t none (some gN) v) (fun Ten=>?men) ?ten
           case men =>
            refine M5.share2 (f:=?fsn) (n:=9) (listed:=#[true,true,true,true,true,true,false,false,false,false,false,false,true,true,false,false,false]) (H:=fun (gS:Nat) (gN:Nat)=>NySt wr b M none none (some gS) (some gN) zSlip zYear) (fun Tsn=>?msn) ?tsn
            case msn =>
             refine M5.mix_three 6 12 13 (by kernel_rfl) (by rfl) fun w1 hC1 hb=>?_
             have h1:=h0.adv hb
             clear hb
             refine ⟨?_,?_,?_⟩
             ·
              refine M3.mix_call 28 #[.pointer (some ⟨b,0,none⟩),.slice m.Aw m.ws.length m.cw,.int .i64 3] rfl rfl (by go_simp) ?_
              refine (ny_draw HNH.out HRG.out HME.out hk4 hM8 h1).mono ?_
              rintro e w2 ⟨v,rfl,h2⟩
              refine ⟨_,rfl,h2.C,?_⟩
              simp only [Act.put,nqa,nqb,nqc,nqd,nqe,nqf]
              clear h1 hC1
              refine M5.mix_three 7 12 13 (by kernel_rfl) (by rfl) fun w3 hC3 hb=>?_
              have h3:=h2.adv hb
              clear hb h2
              refine ⟨?_,?_,?_⟩
              ·
               refine M3.mix_call 21 #[.agg (rQv m),.agg pQv,.agg (yQv ym),.slice none 0 0,.bool true,v] rfl rfl (by unfold pQv; go_simp) ?_
               refine (ny_comp HNH.out h3).mono ?_
               rintro e w4 ⟨S,Y,rfl,h4⟩
               refine ⟨_,rfl,h4.C,?_⟩
               simp only [Act.put,nqa,nqb,nqc,nqd,nqe,nqf]
               clear h3 hC3
               refine M5.mix_take 8 (.tuple #[.agg S,.agg Y,.int .i64 0]) (by kernel_rfl) rfl (by kernel_rfl) rfl (fun _=>by go_simp) ?_
               simp only [Act.put,nqa,nqb,nqc,nqd,nqe,nqf]
               refine M5.mix_take 9 (.agg S) (by kernel_rfl) rfl (by kernel_rfl) rfl (fun _=>by go_simp) ?_
               simp only [Act.put,nqa,nqb,nqc,nqd,nqe,nqf]
               refine M5.mix_take 10 (.agg Y) (by kernel_rfl) rfl (by kernel_rfl) rfl (fun _=>by go_simp) ?_
               simp only [Act.put,nqa,nqb,nqc,nqd,nqe,nqf]
               refine M5.mix_take 11 (.int .i64 0) (by kernel_rfl) rfl (by kernel_rfl) rfl (fun _=>by go_simp) ?_
               simp only [Act.put,nqa,nqb,nqc,nqd,nqe,nqf]
               refine M5.mix_pair 12 13 (by kernel_rfl) (by rfl) fun w5 hC5 hb=>?_
               have h5:=h4.adv hb
               clear hb h4
               refine ⟨?_,?_⟩
               ·
                refine M3.mix_val (.pointer (some ⟨w5.heap.size,0,none⟩)) (w5.alloc (.cells zSlip 27)) rfl rfl (by unfold zSlip; go_simp) ⟨only_alloc hC5 _,?_⟩
                simp only [Act.put,nqa,nqb,nqc,nqd,nqe,nqf]
                have h6:=h5.mks
                clear h5 hC5
                generalize w5.heap.size = gS at h6 ⊢
                generalize w5.alloc _ = w6 at h6 ⊢
                exact Tecs v S Y gS _ _ (by kernel_rfl) h6
               ·
                refine M3.mix_val (.pointer (some ⟨w5.heap.size,0,none⟩)) (w5.alloc (.cells zYear 53)) rfl rfl (by unfold zYear; go_simp) ⟨only_alloc hC5 _,?_⟩
                simp only [Act.put,nqa,nqb,nqc,nqd,nqe,nqf]
                have h6:=h5.mkn
                clear h5 hC5
                generalize w5.heap.size = gN at h6 ⊢
                generalize w5.alloc _ = w6 at h6 ⊢
                exact Tecn v S Y gN _ _ (by kernel_rfl) h6
              ·
               refine M3.mix_val (.pointer (some ⟨w3.heap.size,0,none⟩)) (w3.alloc (.cells zSlip 27)) rfl rfl (by unfold zSlip; go_simp) ⟨only_alloc hC3 _,?_⟩
               simp only [Act.put,nqa,nqb,nqc,nqd,nqe,nqf]
               have h4:=h3.mks
               clear h3 hC3
               generalize w3.heap.size = gS at h4 ⊢
               generalize w3.alloc _ = w4 at h4 ⊢
               exact Tes v gS _ _ (by kernel_rfl) h4
              ·
               refine M3.mix_val (.pointer (some ⟨w3.heap.size,0,none⟩)) (w3.alloc (.cells zYear 53)) rfl rfl (by unfold zYear; go_simp) ⟨only_alloc hC3 _,?_⟩
               simp only [Act.put,nqa,nqb,nqc,nqd,nqe,nqf]
               have h4:=h3.mkn
               clear h3 hC3
               generalize w3.heap.size = gN at h4 ⊢
               generalize w3.alloc _ = w4 at h4 ⊢
               exact Ten v gN _ _ (by kernel_rfl) h4
             ·
              refine M3.mix_val (.pointer (some ⟨w1.heap.size,0,none⟩)) (w1.alloc (.cells zSlip 27)) rfl rfl (by unfold zSlip; go_simp) ⟨only_alloc hC1 _,?_⟩
              simp only [Act.put,nqa,nqb,nqc,nqd,nqe,nqf]
              have h2:=h1.mks
              clear h1 hC1
              generalize w1.heap.size = gS at h2 ⊢
              generalize w1.alloc _ = w2 at h2 ⊢
              refine M5.mix_pair 6 13 (by kernel_rfl) (by rfl) fun w3 hC3 hb=>?_
              have h3:=h2.adv hb
              clear hb h2
              refine ⟨?_,?_⟩
              ·
               refine M3.mix_call 28 #[.pointer (some ⟨b,0,none⟩),.slice m.Aw m.ws.length m.cw,.int .i64 3] rfl rfl (by go_simp) ?_
               refine (ny_draw HNH.out HRG.out HME.out hk4 hM8 h3).mono ?_
               rintro e w4 ⟨v,rfl,h4⟩
               refine ⟨_,rfl,h4.C,?_⟩
               simp only [Act.put,nqa,nqb,nqc,nqd,nqe,nqf]
               clear h3 hC3
               exact Tes v gS _ _ (by kernel_rfl) h4
              ·
               refine M3.mix_val (.pointer (some ⟨w3.heap.size,0,none⟩)) (w3.alloc (.cells zYear 53)) rfl rfl (by unfold zYear; go_simp) ⟨only_alloc hC3 _,?_⟩
               simp only [Act.put,nqa,nqb,nqc,nqd,nqe,nqf]
               have h4:=h3.mkn
               clear h3 hC3
               generalize w3.heap.size = gN at h4 ⊢
               generalize w3.alloc _ = w4 at h4 ⊢
               exact Tsn gS gN _ _ (by kernel_rfl) h4
             ·
              refine M3.mix_val (.pointer (some ⟨w1.heap.size,0,none⟩)) (w1.alloc (.cells zYear 53)) rfl rfl (by unfold zYear; go_simp) ⟨only_alloc hC1 _,?_⟩
              simp only [Act.put,nqa,nqb,nqc,nqd,nqe,nqf]
              have h2:=h1.mkn
              clear h1 hC1
              generalize w1.heap.size = gN at h2 ⊢
              generalize w1.alloc _ = w2 at h2 ⊢
              refine M5.mix_pair 6 12 (by kernel_rfl) (by rfl) fun w3 hC3 hb=>?_
              have h3:=h2.adv hb
              clear hb h2
              refine ⟨?_,?_⟩
              ·
               refine M3.mix_call 28 #[.pointer (some ⟨b,0,none⟩),.slice m.Aw m.ws.length m.cw,.int .i64 3] rfl rfl (by go_simp) ?_
               refine (ny_draw HNH.out HRG.out HME.out hk4 hM8 h3).mono ?_
               rintro e w4 ⟨v,rfl,h4⟩
               refine ⟨_,rfl,h4.C,?_⟩
               simp only [Act.put,nqa,nqb,nqc,nqd,nqe,nqf]
               clear h3 hC3
               exact Ten v gN _ _ (by kernel_rfl) h4
              ·
               refine M3.mix_val (.pointer (some ⟨w3.heap.size,0,none⟩)) (w3.alloc (.cells zSlip 27)) rfl rfl (by unfold zSlip; go_simp) ⟨only_alloc hC3 _,?_⟩
               simp only [Act.put,nqa,nqb,nqc,nqd,nqe,nqf]
               have h4:=h3.mks
               clear h3 hC3
               generalize w3.heap.size = gS at h4 ⊢
               generalize w3.alloc _ = w4 at h4 ⊢
               exact Tsn gS gN _ _ (by kernel_rfl) h4
            case tsn =>
             intro gS gN w0 h0
             refine M5.mix_one 6 (by kernel_rfl) (by decide) fun w1 hC1 hb=>?_
             have h1:=h0.adv hb
             clear hb h0
             refine M3.mix_call 28 #[.pointer (some ⟨b,0,none⟩),.slice m.Aw m.ws.length m.cw,.int .i64 3] rfl rfl (by go_simp) ?_
             refine (ny_draw HNH.out HRG.out HME.out hk4 hM8 h1).mono ?_
             rintro e w2 ⟨v,rfl,h2⟩
             refine ⟨_,rfl,h2.C,?_⟩
             simp only [Act.put,nqa,nqb,nqc,nqd,nqe,nqf]
             clear h1 hC1
             exact Tesn v gS gN _ _ (by kernel_rfl) h2
           case ten =>
            intro v gN w0 h0
            refine M5.mix_pair 7 12 (by kernel_rfl) (by rfl) fun w1 hC1 hb=>?_
            have h1:=h0.adv hb
            clear hb h0
            refine ⟨?_,?_⟩
            ·
             refine M3.mix_call 21 #[.agg (rQv m),.agg pQv,.agg (yQv ym),.slice none 0 0,.bool true,v] rfl rfl (by unfold pQv; go_simp) ?_
             refine (ny_comp HNH.out h1).mono ?_
             rintro e w2 ⟨S,Y,rfl,h2⟩
             refine ⟨_,rfl,h2.C,?_⟩
             simp only [Act.put,nqa,nqb,nqc,nqd,nqe,nqf]
             clear h1 hC1
             refine M5.mix_take 8 (.tuple #[.agg S,.agg Y,.int .i64 0]) (by kernel_rfl) rfl (by kernel_rfl) rfl (fun _=>by go_simp) ?_
             simp only [Act.put,nqa,nqb,nqc,nqd,nqe,nqf]
             refine M5.mix_take 9 (.agg S) (by kernel_rfl) rfl (by kernel_rfl) rfl (fun _=>by go_simp) ?_
             simp only [Act.put,nqa,nqb,nqc,nqd,nqe,nqf]
             refine M5.mix_take 10 (.agg Y) (by kernel_rfl) rfl (by kernel_rfl) rfl (fun _=>by go_simp) ?_
             simp only [Act.put,nqa,nqb,nqc,nqd,nqe,nqf]
             refine M5.mix_take 11 (.int .i64 0) (by kernel_rfl) rfl (by kernel_rfl) rfl (fun _=>by go_simp) ?_
             simp only [Act.put,nqa,nqb,nqc,nqd,nqe,nqf]
             exact Tecn v S Y gN _ _ (by kernel_rfl) h2
            ·
             refine M3.mix_val (.pointer (some ⟨w1.heap.size,0,none⟩)) (w1.alloc (.cells zSlip 27)) rfl rfl (by unfold zSlip; go_simp) ⟨only_alloc hC1 _,?_⟩
             simp only [Act.put,nqa,nqb,nqc,nqd,nqe,nqf]
             have h2:=h1.mks
             clear h1 hC1
             generalize w1.heap.size = gS at h2 ⊢
             generalize w1.alloc _ = w2 at h2 ⊢
             exact Tesn v gS gN _ _ (by kernel_rfl) h2
          case tes =>
           intro v gS w0 h0
           refine M5.mix_pair 7 13 (by kernel_rfl) (by rfl) fun w1 hC1 hb=>?_
           have h1:=h0.adv hb
           clear hb h0
           refine ⟨?_,?_⟩
           ·
            refine M3.mix_call 21 #[.agg (rQv m),.agg pQv,.agg (yQv ym),.slice none 0 0,.bool true,v] rfl rfl (by unfold pQv; go_simp) ?_
            refine (ny_comp HNH.out h1).mono ?_
            rintro e w2 ⟨S,Y,rfl,h2⟩
            refine ⟨_,rfl,h2.C,?_⟩
            simp only [Act.put,nqa,nqb,nqc,nqd,nqe,nqf]
            clear h1 hC1
            refine M5.mix_take 8 (.tuple #[.agg S,.agg Y,.int .i64 0]) (by kernel_rfl) rfl (by kernel_rfl) rfl (fun _=>by go_simp) ?_
            simp only [Act.put,nqa,nqb,nqc,nqd,nqe,nqf]
            refine M5.mix_take 9 (.agg S) (by kernel_rfl) rfl (by kernel_rfl) rfl (fun _=>by go_simp) ?_
            simp only [Act.put,nqa,nqb,nqc,nqd,nqe,nqf]
            refine M5.mix_take 10 (.agg Y) (by kernel_rfl) rfl (by kernel_rfl) rfl (fun _=>by go_simp) ?_
            simp only [Act.put,nqa,nqb,nqc,nqd,nqe,nqf]
            refine M5.mix_take 11 (.int .i64 0) (by kernel_rfl) rfl (by kernel_rfl) rfl (fun _=>by go_simp) ?_
            simp only [Act.put,nqa,nqb,nqc,nqd,nqe,nqf]
            exact Tecs v S Y gS _ _ (by kernel_rfl) h2
           ·
            refine M3.mix_val (.pointer (some ⟨w1.heap.size,0,none⟩)) (w1.alloc (.cells zYear 53)) rfl rfl (by unfold zYear; go_simp) ⟨only_alloc hC1 _,?_⟩
            simp only [Act.put,nqa,nqb,nqc,nqd,nqe,nqf]
            have h2:=h1.mkn
            clear h1 hC1
            generalize w1.heap.size = gN at h2 ⊢
            generalize w1.alloc _ = w2 at h2 ⊢
            exact Tesn v gS gN _ _ (by kernel_rfl) h2
         case tesn =>
          intro v gS gN w0 h0
          refine M5.mix_one 7 (by kernel_rfl) (by decide) fun w1 hC1 hb=>?_
          have h1:=h0.adv hb
          clear hb h0
          refine M3.mix_call 21 #[.agg (rQv m),.agg pQv,.agg (yQv ym),.slice none 0 0,.bool true,v] rfl rfl (by unfold pQv; go_simp) ?_
          refine (ny_comp HNH.out h1).mono ?_
          rintro e w2 ⟨S,Y,rfl,h2⟩
          refine ⟨_,rfl,h2.C,?_⟩
          simp only [Act.put,nqa,nqb,nqc,nqd,nqe,nqf]
          clear h1 hC1
          refine M5.mix_take 8 (.tuple #[.agg S,.agg Y,.int .i64 0]) (by kernel_rfl) rfl (by kernel_rfl) rfl (fun _=>by go_simp) ?_
          simp only [Act.put,nqa,nqb,nqc,nqd,nqe,nqf]
          refine M5.mix_take 9 (.agg S) (by kernel_rfl) rfl (by kernel_rfl) rfl (fun _=>by go_simp) ?_
          simp only [Act.put,nqa,nqb,nqc,nqd,nqe,nqf]
          refine M5.mix_take 10 (.agg Y) (by kernel_rfl) rfl (by kernel_rfl) rfl (fun _=>by go_simp) ?_
          simp only [Act.put,nqa,nqb,nqc,nqd,nqe,nqf]
          refine M5.mix_take 11 (.int .i64 0) (by kernel_rfl) rfl (by kernel_rfl) rfl (fun _=>by go_simp) ?_
          simp only [Act.put,nqa,nqb,nqc,nqd,nqe,nqf]
          exact Tecsn v S Y gS gN _ _ (by kernel_rfl) h2
        case tecn =>
         intro v S Y gN w0 h0
         refine M5.mix_one 12 (by kernel_rfl) (by decide) fun w1 hC1 hb=>?_
         have h1:=h0.adv hb
         clear hb h0
         refine M3.mix_val (.pointer (some ⟨w1.heap.size,0,none⟩)) (w1.alloc (.cells zSlip 27)) rfl rfl (by unfold zSlip; go_simp) ⟨only_alloc hC1 _,?_⟩
         simp only [Act.put,nqa,nqb,nqc,nqd,nqe,nqf]
         have h2:=h1.mks
         clear h1 hC1
         generalize w1.heap.size = gS at h2 ⊢
         generalize w1.alloc _ = w2 at h2 ⊢
         exact Tecsn v S Y gS gN _ _ (by kernel_rfl) h2
       case tecs =>
        intro v S Y gS w0 h0
        refine M5.mix_one 13 (by kernel_rfl) (by decide) fun w1 hC1 hb=>?_
        have h1:=h0.adv hb
        clear hb h0
        refine M3.mix_val (.pointer (some ⟨w1.heap.size,0,none⟩)) (w1.alloc (.cells zYear 53)) rfl rfl (by unfold zYear; go_simp) ⟨only_alloc hC1 _,?_⟩
        simp only [Act.put,nqa,nqb,nqc,nqd,nqe,nqf]
        have h2:=h1.mkn
        clear h1 hC1
        generalize w1.heap.size = gN at h2 ⊢
        generalize w1.alloc _ = w2 at h2 ⊢
        exact Tecsn v S Y gS gN _ _ (by kernel_rfl) h2
      case tecsn =>
       intro v S Y gS gN w0 h0
       obtain ⟨es,A,B,hp,hz,hv,h1⟩:=h0
       have HV:=Lib.hid hv
       obtain ⟨i0,i1,i2,i3,i4,i5,n1,c1,j0,j1,j2,n2,c2,T',n3,c3,rfl,rfl⟩:=hv.form
       clear hv
       refine M5.mix_one 14 (by kernel_rfl) (by decide) fun w1 _ hb=>?_
       have h2:=h1.adv hb
       have h3:=h2.fills hblt #[.int .i64 i0,.int .i64 i1,.int .i64 i2,.int .i64 i3,.int .i64 i4,.int .i64 i5,.slice A n1 c1] rfl
       refine M3.mix_skip (w1.setCells gS 0 (#[.int .i64 i0,.int .i64 i1,.int .i64 i2,.int .i64 i3,.int .i64 i4,.int .i64 i5,.slice A n1 c1] : Array Value).toList) rfl rfl (run_store_agg (vs:=#[.int .i64 i0,.int .i64 i1,.int .i64 i2,.int .i64 i3,.int .i64 i4,.int .i64 i5,.slice A n1 c1]) (ty:=27) (d:=.tmp 8) (x:=.tmp 33) (h2.S gS rfl).1 rfl sizeSlipY rfl rfl rfl rfl) ⟨h3.G,?_⟩
       simp only [Act.put,nqa,nqb,nqc,nqd,nqe,nqf]
       clear h1 h2 hb
       generalize w1.setCells gS 0 _ = w3 at h3 ⊢
       refine M5.mix_one 15 (by kernel_rfl) (by decide) fun w4 _ hb=>?_
       have h4:=h3.adv hb
       have h5:=h4.filln hblt #[.int .i64 j0,.int .i64 j1,.int .i64 j2,.slice B n2 c2,.slice T' n3 c3] rfl
       refine M3.mix_skip (w4.setCells gN 0 (#[.int .i64 j0,.int .i64 j1,.int .i64 j2,.slice B n2 c2,.slice T' n3 c3] : Array Value).toList) rfl rfl (run_store_agg (vs:=#[.int .i64 j0,.int .i64 j1,.int .i64 j2,.slice B n2 c2,.slice T' n3 c3]) (ty:=53) (d:=.tmp 9) (x:=.tmp 34) (h4.N gN rfl).1 rfl sizeYearY rfl rfl rfl rfl) ⟨h5.G,?_⟩
       simp only [Act.put,nqa,nqb,nqc,nqd,nqe,nqf]
       clear h3 h4 hb
       generalize w4.setCells gN 0 _ = w5 at h5 ⊢
       refine M5.mix_last (by kernel_rfl) (by kernel_rfl) fun w6 _ hb=>?_
       have h6:=h5.adv hb
       refine M3.mix_val (.int .i64 0) w6 rfl rfl rfl (hQ0 _ _ ?_)
       simp only [Act.put,nqa,nqb,nqc,nqd,nqe,nqf]
       clear h5 hb
       go_wp2_with fail
       go_meet
       exact ⟨rfl,gS,gN,es,A,B,_,_,rfl,rfl,hp,hz,HV.out,h6⟩
   case rest =>
    obtain ⟨rfl,gs,gn,es,A2,B2,S,Y,rfl,rfl,hp,hz,hv,hst⟩:=hcut
    rename World=>w5
    obtain ⟨c2,d2,T2,t2,rfl,rfl⟩:=hv
    obtain ⟨hS5,hgs,_⟩:=hst.S gs rfl
    obtain ⟨hN5,hgn⟩:=hst.N gn rfl
    obtain ⟨hL5,_⟩:=hst.L _ _ _ _ rfl
    obtain ⟨hI5,hfi⟩:=hst.I _ _ _ _ rfl
    have hG5:=hst.G
    have hD5:=hst.D
    have hb5:RowKit.Below w.heap.size w w5:=bel_only hbr hG5 (fun q e=>by injection e; rw [← HBE.out] at *; omega)
    have herr:=hp.err hz
    have hbal:=(hp.in_ hz).slBal herr
    have HNX:=Lib.hid (hp.next hz)
    have HTX:Hid (sumK 6 (inY m.t ym.t es).lines = (inY m.t ym.t es).tax):=by rw [Hid,sumK_lines]; simp
    have htk:(inY m.t ym.t es).next.taken = []:=HNX.out.tk
    have htb:=hp.taxb hz
    have hwb:=HNH.out.inv.wh hp.ro.tar (by omega)
    have hper:(inY m.t ym.t es).next.periods = (k:Int)+1:=by have:=HNX.out.per; omega
    have HPE:=Lib.hid hper
    have hYO:=HNX.out.ok hp.ro.tar (by omega)
    have HVY:Hid (∀ W,RowKit.Below w5.heap.size w5 W→Calls Tryz.prog 29 #[.agg #[.int .i64 (inY m.t ym.t es).next.periods,.int .i64 (inY m.t ym.t es).next.income,.int .i64 (inY m.t ym.t es).next.withheld,.slice B2 (inY m.t ym.t es).next.insured.length d2,.slice T2 (inY m.t ym.t es).next.taken.length t2]] W fun e w'=>e = .returned (.bool true)∧RowKit.Below W.heap.size W w'):=fun W hb =>
     yearP32 ⟨(inY m.t ym.t es).next.periods,(inY m.t ym.t es).next.income,(inY m.t ym.t es).next.withheld,B2,d2,(inY m.t ym.t es).next.insured,T2,t2,(inY m.t ym.t es).next.taken⟩ W ⟨hI5.adv hb,by rw [htk]; exact SliceOf.nil_⟩ hYO
    have HSU:=Lib.hid (fun W (hb:RowKit.Below w5.heap.size w5 W)=>sum32_any A2 c2 (inY m.t ym.t es).lines 6 W (hL5.adv hb) hbal.len (fun x hx=>⟨(hbal.fm x hx).lo,(hbal.fm x hx).hi⟩))
    have hT2:Hid ((inY m.t ym.t es).next.withheld = ym.withheld+(inY m.t ym.t es).tax):=rfl
    have hwb1:0≤ym.withheld:=hwb.1
    have hwb2:ym.withheld≤3000000 * k+100:=hwb.2
    have HFI:=Lib.hid (fun a ha=>(hfi a ha).1)
    generalize hII:inY m.t ym.t es = I at *
    clear hst hbal hYO hp hz herr hwb hper htk hfi
    have hpe:(I.next.periods != (k:Int)+1) = false:=by rw [HPE.out]; simp
    have hnl:=hN5.lt
    have hsl:=hS5.lt
    have y0:=hN5.cell 0
    have y1:=hN5.cell 1
    have y2:=hN5.cell 2
    have y3:=hN5.cell 3
    have y4:=hN5.cell 4
    simp only [nqg,nqh,nqi] at y0 y1 y2 y3 y4
    go_wp2_with fail
    refine (HVY.out w5 (Below.refl _ _)).mono ?_
    rintro e w6 ⟨rfl,hb6⟩
    have hN6:=hN5.adv hb6
    have hS6:=hS5.adv hb6
    clear y0 y1 y2 y3 y4 HVY
    have y0:=hN6.cell 0
    have y1:=hN6.cell 1
    have y2:=hN6.cell 2
    have y3:=hN6.cell 3
    have y4:=hN6.cell 4
    simp only [nqg,nqh,nqi] at y0 y1 y2 y3 y4
    have z6:w6.cell? ⟨gs,6,none⟩ = some (.slice A2 I.lines.length c2):=hS6.cell 6
    go_wp2_with fail
    refine (HSU.out w6 hb6).mono ?_
    rintro e w7 ⟨he,rfl⟩
    rw [HTX.out] at he
    subst he
    have hY6:=(HNH.out.Y.grown hG5 (fun e=>by injection e; omega)).adv hb6
    have hI6:=hI5.adv hb6
    have hD6:=hD5.bel hb6
    have hb56:=bel_adv hb5 hb6
    have hR6:=(HNH.out.rf.grown hG5 (by have:=HNH.out.R.lt; omega) (fun q e=>by injection e; omega)).grown (row:=none) (only_of_below hb6 none) (by have:=hG5.size; have:=HNH.out.R.lt; omega) (fun q e=>by cases e)
    have hRb6:=(HNH.out.R.grown hG5 (fun e=>by injection e; omega)).adv hb6
    have hgz:gy < wr.heap.size:=HNH.out.Y.lt
    have HYG:=Lib.hid (Nat.le_trans hb56.size (Nat.le_refl _))
    clear hS5 hN5 hL5 hI5 hD5 hb5 hG5 hb6 hN6 hS6 hsl hnl HSU HTX hpe
    unfold yQv at hY6
    go_wp2_with (refine wpList_store_blk rfl _ _ _ rfl rfl gy rfl rfl hY6 rfl sizeYearY rfl ?_; intro w8 hY8 hg8)
    have hgy2:w.heap.size≤gy:=by rw [← HBE.out]; omega
    have hH8:NyH m ⟨I.next.periods,I.next.income,I.next.withheld,B2,d2,I.next.insured,T2,t2,I.next.taken⟩ b g gy (M+13) (k+1) w8 :=
     ⟨hR6.grown hg8 (by have:=hRb6.lt; omega) (fun q e=>by injection e; omega),⟨hI6.advG hg8 (fun a ha=>by have:=HFI.out a ha; omega),fun a ha=>by have:=HFI.out a ha; omega⟩,HNX.out,hD6.grown hg8 (fun q e=>by injection e; omega),hRb6.grown hg8 (fun e=>by injection e; omega),hY8,hbg,hgl⟩
    have hb8:=bel_only hb56 hg8 (fun q e=>by injection e; omega)
    go_roundw
    case rel=>exact ⟨k+1,M+13,_,by omega,by have:=HMV.out; omega,by go_num,by rw [hT2.out],hH8,hb8⟩
    case measure=>simp [intOf]; omega
  ·
   obtain rfl:k = 4:=by omega
   have hR0:=HNH.out.R
   have hY0:=HNH.out.Y
   have hlr:=hR0.lt
   have hN4:=HNH.out.inv
   have hwi:=HNH.out.inv.wh HRG.out.ok.tar (by omega)
   have hsz:w.heap.size≤wr.heap.size:=hbr.size
   go_upto_region 15 with (first | (refine wpList_load_blk rfl _ _ rfl g rfl hR0 Tryz.underlying45 rfl (by kernel_rfl) ?_) | (refine wpList_store_blk rfl _ _ _ rfl rfl wr.heap.size rfl rfl (Blk.new wr 45 #[.slice none 0 0,.slice none 0 0,.int .i64 0,.slice none 0 0,.int .i64 0,.int .i64 0,.int .i64 0,.int .i64 0,.slice none 0 0,.int .i64 0,.int .i64 0,.int .i64 0,.int .i64 0,.int .i64 0,.int .i64 0,.int .i64 0]) rfl sizeRules32 rfl ?_; intro w2' hX2 hg2))
   have hb2:RowKit.Below wr.heap.size wr w2':=(below_new wr (.cells #[.slice none 0 0,.slice none 0 0,.int .i64 0,.slice none 0 0,.int .i64 0,.int .i64 0,.int .i64 0,.int .i64 0,.slice none 0 0,.int .i64 0,.int .i64 0,.int .i64 0,.int .i64 0,.int .i64 0,.int .i64 0,.int .i64 0] 45)).trans (only_below hg2 (by rw [World.size_alloc]; omega) (fun q e=>by injection e; omega))
   have hY2:=hY0.adv hb2
   have hRi:=(HNH.out.rf.grown (row:=none) (only_of_below hb2 none) (by omega) (fun q e=>by cases e))
   have hbw2:=bel_adv hbr hb2
   have hs2:=hb2.size
   unfold rQv at hX2
   clear hb2 hg2 hR0 hY0 hbr
   have x9:=hX2.cell 9
   have x1:=hX2.cell 1
   have f9:=hX2.frozen 9
   have f1:=hX2.frozen 1
   simp only [nqg,nqh,nqi] at x9 x1
   have hX3:=(hX2.set_ 9 (.int .i64 1)).set_ 1 (.slice none 0 0)
   simp only [List.setIfInBounds_toArray,List.set_cons_succ,List.set_cons_zero] at hX3
   have hbw3:=bel_set (bel_set hbw2 hsz 9 (.int .i64 1)) hsz 1 (.slice none 0 0)
   have hY3:=(hY2.far (p:=⟨wr.heap.size,9,none⟩) (by show gy ≠ wr.heap.size; have:=HNH.out.Y.lt; omega) (.int .i64 1)).far (p:=⟨wr.heap.size,1,none⟩) (by show gy ≠ wr.heap.size; have:=HNH.out.Y.lt; omega) (.slice none 0 0)
   have hRi3:=((hRi.grown (row:=some wr.heap.size) (only_setCell (p:=⟨wr.heap.size,9,none⟩) (only_refl _ _) (.inl rfl) (.int .i64 1)) (by omega) (fun q e=>by injection e; omega)).grown (row:=some wr.heap.size) (only_setCell (p:=⟨wr.heap.size,1,none⟩) (only_refl _ _) (.inl rfl) (.slice none 0 0)) (by rw [World.size_setCell]; omega) (fun q e=>by injection e; omega))
   clear hX2 hbw2 hY2 hRi
   go_upto_region 16 with fail
   clear x9 x1 f9 f1
   generalize (w2'.setCell _ _).setCell _ _ = w3' at hX3 hbw3 hY3 hRi3 ⊢
   have hgz:wr.heap.size < w3'.heap.size:=hX3.lt
   have hgy3:gy < w3'.heap.size:=hY3.lt
   have hgyz:gy < wr.heap.size:=HNH.out.Y.lt
   have hinc:=hN4.inc
   have hw4:ym.withheld = dueN m.tm.t 4 4 ym.income:=hN4.w1 (by omega)
   have HW4:=Lib.hid hw4
   have hinc0:0≤ym.income:=hinc.1
   have hinc1:ym.income≤12000000:=by have:ym.income≤3000000 * ((4:Nat) : Int):=hinc.2; omega
   clear hN4 hwi hinc hw4
   generalize wr.heap.size = gz at *
   have hX4:=hX3.alloc (.cells #[.string cAll,.int .i64 1,.bool true,.bool false,.bool false,.int .i64 4000] 77)
   have x0:=hX4.cell 0
   have f0:=hX4.frozen 0
   simp only [List.getElem?_toArray,List.getElem?_cons_zero] at x0
   have hs3:(w3'.setCell ⟨gz,0,none⟩ (.slice (some ⟨w3'.heap.size,0,none⟩) 1 1)).heap.size = w3'.heap.size:=World.size_setCell _ _ _
   have hX5:=(hX3.set_ 0 (.slice (some ⟨w3'.heap.size,0,none⟩) 1 1)).alloc (.cells #[.string cAll,.int .i64 1,.bool true,.bool false,.bool false,.int .i64 4000] 77)
   simp only [List.setIfInBounds_toArray,List.set_cons_zero] at hX5
   have hgs5:w3'.grownBy (w3'.setCell ⟨gz,0,none⟩ (.slice (some ⟨w3'.heap.size,0,none⟩) 1 1)) (some gz):=only_setCell (p:=⟨gz,0,none⟩) (only_refl _ _) (.inl rfl) _
   have hbn:=below_new (w3'.setCell ⟨gz,0,none⟩ (.slice (some ⟨w3'.heap.size,0,none⟩) 1 1)) (.cells #[.string cAll,.int .i64 1,.bool true,.bool false,.bool false,.int .i64 4000] 77)
   have hW5:=SliceOf.new encW_len (w3'.setCell ⟨gz,0,none⟩ (.slice (some ⟨w3'.heap.size,0,none⟩) 1 1)) [wAll] #[.string cAll,.int .i64 1,.bool true,.bool false,.bool false,.int .i64 4000] 77 rfl
   rw [← World.size_alloc (w3'.setCell ⟨gz,0,none⟩ (.slice (some ⟨w3'.heap.size,0,none⟩) 1 1)) (.cells #[.string cAll,.int .i64 1,.bool true,.bool false,.bool false,.int .i64 4000] 77)] at hW5
   have hgw:(some ⟨(w3'.setCell ⟨gz,0,none⟩ (.slice (some ⟨w3'.heap.size,0,none⟩) 1 1)).heap.size,0,none⟩ : Option Addr) = some ⟨w3'.heap.size,0,none⟩:=by rw [hs3]
   rw [hgw] at hW5
   have hY5:=(hY3.grown hgs5 (fun e=>by injection e; omega)).adv hbn
   have hRi5:=(hRi3.grown hgs5 (by omega) (fun q e=>by injection e; omega)).grown (row:=none) (only_of_below hbn none) (by omega) (fun q e=>by cases e)
   have hbw5:=bel_adv (bel_set hbw3 (g:=gz) hsz 0 (.slice (some ⟨w3'.heap.size,0,none⟩) 1 1)) hbn
   clear hX3 hX4 hbw3 hY3 hRi3 hbn hgs5 hgw hs3
   unfold cAll at x0 f0 hX5 hW5 hY5 hRi5 hbw5
   go_upto_region 17 with fail
   clear x0 f0
   generalize World.alloc (w3'.setCell _ _) _ = w5' at hX5 hW5 hY5 hRi5 hbw5 ⊢
   generalize w3'.heap.size = gw at *
   have x1:w5'.cell? ⟨gy,1,none⟩ = some (.int .i64 ym.income):=hY5.cell 1
   have x2:w5'.cell? ⟨gy,2,none⟩ = some (.int .i64 ym.withheld):=hY5.cell 2
   have hlz:=hX5.lt
   have hE6:=SliceOf.new encE_len w5' [⟨cAll,ym.income⟩] #[.string cAll,.int .i64 ym.income] 69 rfl
   rw [← World.size_alloc w5' (.cells #[.string cAll,.int .i64 ym.income] 69)] at hE6
   have hbn:=below_new w5' (.cells #[.string cAll,.int .i64 ym.income] 69)
   have hRi6:=hRi5.grown (row:=none) (only_of_below hbn none) (by omega) (fun q e=>by cases e)
   have hgl6:g≤(w5'.alloc (.cells #[.string cAll,.int .i64 ym.income] 69)).heap.size:=by rw [World.size_alloc]; omega
   have hC:=compute_ok ⟨some ⟨gw,0,none⟩,1,[wAll],none,0,[],m.tm,1,m.sh,m.recover⟩ pQ ⟨0,0,0,none,0,[],none,0,[]⟩ none (some ⟨w5'.heap.size,0,none⟩) 0 1 [] [⟨cAll,ym.income⟩] true (w5'.alloc (.cells #[.string cAll,.int .i64 ym.income] 69)) ⟨hW5.adv hbn,SliceOf.nil_,⟨hRi6.brs.in_ hgl6,hRi6.rows.in_ hgl6⟩⟩ ⟨SliceOf.nil_,SliceOf.nil_,SliceOf.nil_,fun e he=>by cases he⟩ ⟨SliceOf.nil_,SliceOf.nil_⟩ SliceOf.nil_ hE6 (by simp) (inZ_ok (r:=m.t) (n:=ym.income) HRG.out.ok)
   have hY6:=hY5.adv hbn
   have hbw6:=bel_adv hbw5 hbn
   have hIZ:mkI ⟨some ⟨gw,0,none⟩,1,[wAll],none,0,[],m.tm,1,m.sh,m.recover⟩ pQ ⟨0,0,0,none,0,[],none,0,[]⟩ [] true [⟨cAll,ym.income⟩] = inZ m.t ym.income:=rfl
   rw [hIZ] at hC
   have HCC:=Lib.hid hC
   clear hC hIZ hRi5 hRi6 hbn hY5 hbw5 hE6 hW5 x2
   unfold cAll at HCC hY6 hbw6
   go_wp2_with (refine wpList_load_blk rfl _ _ rfl gz rfl hX5 Tryz.underlying45 rfl (by kernel_rfl) ?_)
   refine HCC.out.mono ?_
   rintro e w7 (⟨_,A7,c7,Ai,ci,At,ct,rfl,hL7,_,_,hb7⟩ | ⟨herr,_⟩)
   rotate_left
   ·
    exact absurd (inZ_err HRG.out.ok HME.out hinc0 (by omega)) herr
   have hbal:=(inZ_ok (r:=m.t) (n:=ym.income) HRG.out.ok).slBal (inZ_err HRG.out.ok HME.out hinc0 (by omega))
   have HTX:Hid (sumK 6 (inZ m.t ym.income).lines = ym.withheld):=by
    rw [Hid,sumK_lines,HW4.out,due_full]
    simp only [if_true]
    rw [inZ_tax HRG.out.ok HME.out hinc0]
    simp
    rfl
   generalize inZ m.t ym.income = I at *
   have hb8:=bel_alloc (below_new w7 (.cells #[.int .i64 I.b.g,.int .i64 I.b.c,.int .i64 I.b.t,.int .i64 I.b.i,.int .i64 I.b.a,.int .i64 I.legal,.slice A7 I.lines.length c7] 27)) (.cells #[.int .i64 I.next.periods,.int .i64 I.next.income,.int .i64 I.next.withheld,.slice Ai I.next.insured.length ci,.slice At I.next.taken.length ct] 53)
   have hS8:=(Blk.new w7 27 #[.int .i64 I.b.g,.int .i64 I.b.c,.int .i64 I.b.t,.int .i64 I.b.i,.int .i64 I.b.a,.int .i64 I.legal,.slice A7 I.lines.length c7]).alloc (.cells #[.int .i64 I.next.periods,.int .i64 I.next.income,.int .i64 I.next.withheld,.slice Ai I.next.insured.length ci,.slice At I.next.taken.length ct] 53)
   have HSU:=Lib.hid (fun W (hb:RowKit.Below _ _ W)=>sum32_any A7 c7 I.lines 6 W ((hL7.adv hb8).adv hb) hbal.len (fun x hx=>⟨(hbal.fm x hx).lo,(hbal.fm x hx).hi⟩))
   have hY8:=(hY6.adv hb7).adv hb8
   have hbw8:=bel_adv (bel_adv hbw6 hb7) hb8
   clear hL7 hb7 hY6 hbw6 hbal HCC x1
   go_upto_region 18 with fail
   clear hb8
   generalize World.alloc (w7.alloc _) _ = w8 at hS8 hY8 hbw8 HSU ⊢
   generalize w7.heap.size = gs at *
   have hl1:=hS8.lt
   have hl2:=hY8.lt
   unfold yQv at hY8
   have y1:=hY8.cell 1
   have y2:=hY8.cell 2
   have z6:=hS8.cell 6
   simp only [nqg,nqh,nqi] at y1 y2 z6
   have heq:(ym.withheld == ym.withheld) = true:=by simp
   have ham:amtB ym.income = true:=amtB_iff.2 ⟨by omega,by omega⟩
   go_wp2_with fail
   refine (HSU.out w8 (Below.refl _ _)).mono ?_
   rintro e w9 ⟨he,rfl⟩
   rw [HTX.out] at he
   subst he
   go_wp2_with fail
   refine (amount26_any _ _).mono ?_
   rintro e w9 ⟨rfl,rfl⟩
   rw [ham]
   go_wp2_with fail
   refine (awake_any _).mono ?_
   rintro e w10 ⟨rfl,hb10⟩
   go_wp2
   go_ret
   exact ⟨rfl,bel_adv hbw8 hb10⟩
end Go.Proofs.YtlhkojcmcmkmaaaGreat
namespace Go.Proofs.YtlhkojcmcmkmaaaGreat.netYear
open Go.ChangeShapes Go.WideShapes Go.ChangeAt Go.RowKit
open Go.ChangeMaps (open_string shut_string)
theorem own : ownKnob Tryz.prog.godebug = none:=by kernel_rfl
theorem laidOut : laidOutB Tryz.prog = true:=by kernel_rfl
set_option maxRecDepth 100000 in
theorem lifted (os:Os) (started:os.Started) (H:Type) (enc:TypeId × Value→H) :
  ReturnsInHanded {} Tryz.checked os 9 .any (Rows.netYearSpec.pre6 enc Tryz.prog Tryz.f9 Rows.netYearRow.domain false) (Rows.netYearSpec.post enc Tryz.prog Tryz.f9 false true false false):=by
 refine returnsInHanded_of_change (C:=Tryz.checked) own started (by kernel_rfl) Tryz.func9
  (ChangeSpec.witness6 (enc:=enc) (C:=Tryz.checked) false ⟨#[],#[.slice none 0 0],[]⟩ 8 (by kernel_rfl) (by kernel_rfl) (by kernel_rfl) (by kernel_rfl)) ?_
 intro W base args ds gs before hval0 hW _ _
 have hval:∀ (j:Nat) t v,Tryz.f9.params[j]? = some t→args[j]? = some v→Value.okWide Tryz.prog W .any base t v:=hval0
 have hW':=hW
 obtain ⟨p,q,hA0,hV,rfl,_,_⟩:=hW
 have hA:DataW.TrodAll enc Tryz.prog W 0 (fun _=>true) true Tryz.f9.params.toList args.toList ds p:=hA0
 rw [Tryz.params9] at hA hval
 obtain ⟨v0,vs0,d0,ds0,p0,q0,hargs,rfl,rfl,h0,r0⟩:=trodAll_cons hA
 obtain ⟨rfl,rfl,rfl⟩:=trodAll_nil r0
 obtain rfl:args = #[v0]:=by cases args; simp_all
 obtain ⟨rfl,rfl⟩:=trodVars_none hV
 obtain ⟨a0,len0,cap0,rfl⟩:=okWide_slice Tryz.underlying34 (hval 0 34 v0 rfl rfl)
 have k0:=h0
 have lt0:∀ x ∈ p0,x.block < W.heap.size:=by obtain ⟨m,hm⟩:=k0; exact DataW.trod_lt m _ _ _ hm
 obtain ⟨xs0,rfl,hS0,hX0,hlc0,hcm0⟩:=openI h0
 have hl0:=Nat.le_trans hlc0 hcm0
 clear hA0 hval0
 refine (year32_walk a0 cap0 xs0 W hS0 hl0 hX0).mono fun e W' ⟨he,bel⟩=>?_
 subst he
 exact ⟨_,rfl,_,_,_,[],_,[],hW',trodAll_mk1 (shut_bool Tryz.underlying4 _),(trodAll_cons_mk (Below.trod laidOut (by kernel_rfl) (of_decide_eq_true (by kernel_rfl)) k0 bel lt0) trodAll_mk0),rfl,bel.frame _,fun h=>by cases h⟩
theorem t4 : (Rows.netYearRow.inPlace == Tryz.prog.inPlace 9) = true:=by kernel_rfl
theorem t5 : (Rows.netYearRow.unfollowed == Tryz.prog.unfollowed 9) = true:=by kernel_rfl
theorem t6 : (Rows.netYearRow.recurses == Tryz.prog.recurses 9) = true:=by kernel_rfl
theorem t7 : (Rows.netYearRow.named == Tryz.prog.varsNamed 9) = true:=by kernel_rfl
theorem t8 : (Rows.netYearRow.pinned == Rows.netYearRow.pinnedBy) = true:=by kernel_rfl
theorem t9 : (Rows.netYearRow.lifted == Tryz.prog.liftsFinal) = true:=by kernel_rfl
theorem tc : joinedFacts Tryz.prog 9 Tryz.f9 Rows.netYearSpec Rows.netYearRow = true:=by
 unfold joinedFacts
 rw [t4,t5,t6,t7,t8,t9]
 kernel_rfl
theorem tf : Tryz.pinned.checked.prog.funcNamed Rows.netYearRow.func = some 9:=by kernel_rfl
theorem over : Rows.netYearRow.holds Tryz.pinned (OpenSpec.ofChange Rows.netYearSpec) :=
 OpenClaim.holds_of_wide 9 Tryz.f9 rfl rfl rfl rfl rfl rfl rfl ⟨rfl,rfl,rfl,rfl,rfl⟩ rfl rfl rfl rfl rfl tf Tryz.func9 tc
  (of_decide_eq_true (by kernel_rfl)) (by unfold Func.isWrapper; first | (rw [if_pos (by decide +kernel)]; kernel_rfl) | (rw [if_neg (by decide +kernel)]; exact ⟨rfl,rfl⟩))
  (fun os started H enc _=>lifted os started H enc)
theorem proved : Rows.NetYearSaid:=over
#print axioms proved
end Go.Proofs.YtlhkojcmcmkmaaaGreat.netYear
