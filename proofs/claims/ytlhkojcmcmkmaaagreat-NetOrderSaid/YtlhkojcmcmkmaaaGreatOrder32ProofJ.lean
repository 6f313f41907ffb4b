/- Joined texts: Order32 Order32Proof. Conditions: as stated. -/
import Derived.Test.YtlhkojcmcmkmaaaGreatRows
import Derived.Test.YtlhkojcmcmkmaaaGreatJB32
import Derived.Test.YtlhkojcmcmkmaaaGreatJCaseIn
import Derived.Test.YtlhkojcmcmkmaaaGreatJSame32
import Derived.Test.YtlhkojcmcmkmaaaGreatJPlain2
namespace Go.Proofs.YtlhkojcmcmkmaaaGreat
open Go.RowKit Go.Sort Go.Shelf
theorem SliceOf.drop {α:Type} {enc:α→List Value} {k:Nat} {w:World} {B:Nat} {A:Option Addr} {xs:List α} (h:SliceOf enc k w B A xs) (i:Nat) : SliceOf enc k w B (A.map (·.add (i * k))) (xs.drop i):=fun hne=>by
 have hx:xs ≠ []:=by intro e; subst e; simp at hne
 obtain ⟨b,off,e,hb,hc⟩:=h hx
 refine ⟨b,off+i * k,by rw [e]; simp [Addr.add],hb,fun j x hj l u hl=>?_⟩
 rw [List.getElem?_drop] at hj
 have:=hc (i+j) x hj l u hl
 rw [Nat.add_mul] at this
 rw [← this]
 congr 2
 omega
theorem Own.setAmt {w:World} {base g cap n : Nat} {e:TypeId} {y:Elem} {r:List Elem} (hn:n = (y :: r).length) (h:Own encE 2 e w base (.slice (some ⟨g,0,none⟩) n cap) (y :: r)) (m:Int) : Own encE 2 e (w.setCell ⟨g,1,none⟩ (.int .i64 m)) base (.slice (some ⟨g,0,none⟩) n cap) (⟨y.code,m⟩ :: r):=by
 subst hn
 have:=row_set h 1 (.int .i64 m)
 exact this
def outB (I:NetIn) : BasesT:=if I.err = 0 then I.b else ⟨0,0,0,0,0⟩
def outLg (I:NetIn) : Int:=if I.err = 0 then I.legal else 0
def outLs (I:NetIn) : List LineT:=if I.err = 0 then I.lines else []
def outY (I:NetIn) : YearT:=if I.err = 0 then I.next else ⟨0,0,0,[],[]⟩
def OutPost (I:NetIn) (w:World) (e:Ending) (w' : World) : Prop :=
 ∃ A c Ai ci At ct,e = .returned (.tuple #[.agg #[.int .i64 (outB I).g,.int .i64 (outB I).c,.int .i64 (outB I).t,.int .i64 (outB I).i,.int .i64 (outB I).a,.int .i64 (outLg I),.slice A (outLs I).length c],.agg #[.int .i64 (outY I).periods,.int .i64 (outY I).income,.int .i64 (outY I).withheld,.slice Ai (outY I).insured.length ci,.slice At (outY I).taken.length ct],.int .i64 I.err]) ∧
  SliceOf encL 3 w' w'.heap.size A (outLs I)∧SliceOf encI 1 w' w'.heap.size Ai (outY I).insured∧SliceOf encE 2 w' w'.heap.size At (outY I).taken∧Below w.heap.size w w'
theorem SlipPost.out {I:NetIn} {w w' : World} {e:Ending} (h:SlipPost I w e w') : OutPost I w e w':=by
 rcases h with ⟨herr,A,c,Ai,ci,At,ct,rfl,h1,h2,h3,h4⟩ | ⟨herr,rfl,h4⟩
 ·
  simp only [OutPost,outB,outLg,outLs,outY,herr,if_true]
  exact ⟨A,c,Ai,ci,At,ct,rfl,h1,h2,h3,h4⟩
 ·
  simp only [OutPost,outB,outLg,outLs,outY,herr,if_false]
  exact ⟨none,0,none,0,none,0,rfl,SliceOf.nil_,SliceOf.nil_,SliceOf.nil_,h4⟩
theorem InOk.outSizes {I:NetIn} (h:InOk I) : (outLs I).length≤256∧(outY I).insured.length≤54∧(outY I).taken.length≤128:=by
 by_cases he:I.err = 0
 ·
  simp only [outLs,outY,he,if_true]
  obtain ⟨hp,_,_,_,_,_,_,_,ha2⟩:=NetIn.err_inv he
  obtain ⟨_,_,k3,k4⟩:=addE_inv ha2
  refine ⟨(h.slip he).len,?_,?_⟩
  ·
   have h1:=h.y.len
   have h2:=h.y.p1
   show (I.y.insured++[I.insured]).length≤54
   rw [List.length_append]
   simp only [List.length_cons,List.length_nil]
   omega
  ·
   show I.taken2.length≤128
   have:I.taken2 = addO I.taken1 I.after:=k4
   rw [this]
   exact (rec_size k3).1
 ·
  simp only [outLs,outY,he,if_false,List.length_nil]
  omega
theorem out_order (r:RulesM) (p:PersonM) (y:YearM) (kept:List Elem) (first:Bool) {e e' : List Elem} (h:sumsP e' = sumsP e) (ho:ofErr r.t.wages e' (sumsP e') = ofErr r.t.wages e (sumsP e)) :
  (mkI r p y kept first e').err = (mkI r p y kept first e).err∧outB (mkI r p y kept first e') = outB (mkI r p y kept first e)∧outLg (mkI r p y kept first e') = outLg (mkI r p y kept first e)∧outLs (mkI r p y kept first e') = outLs (mkI r p y kept first e)∧outY (mkI r p y kept first e') = outY (mkI r p y kept first e):=by
 obtain ⟨h1,h2,h3,h4,h5⟩:=mk_order r.t p.t y.t kept first h ho
 have h1':(mkI r p y kept first e').err = (mkI r p y kept first e).err:=h1
 refine ⟨h1,?_,?_,?_,?_⟩
 ·
  simp only [outB,h1']; split; exact h4; rfl
 ·
  simp only [outLg,h1']; split; exact h5; rfl
 ·
  simp only [outLs,h1']; split; exact h2; rfl
 ·
  simp only [outY,h1']; split; exact h3; rfl
set_option maxRecDepth 100000 in
set_option maxHeartbeats 8000000 in
theorem order32_walk (B:Option Addr) (lcap:Nat) (l:List Int) (turn cut : Int) (w:World) (hI:SliceOf encI 1 w w.heap.size B l) (hIl:l.length≤9223372036854775807) (hIb : ∀ x ∈ l,I64 x) :
  Calls Tryz.prog 7 #[.slice B l.length lcap,.int .i64 turn,.int .i64 cut] w fun e w'=>e = .returned (.bool true)∧RowKit.Below w.heap.size w w':=by
 go_enter Tryz.func7,Tryz.ntmps7
 go_wp2_with fail
 refine (new_any B l lcap _ hI hIl hIb).mono ?_
 rintro e w0 ⟨rfl,hdk,hb0⟩
 clear hIb hI
 go_wp2_with fail
 refine (case_any _ 0 0 (by omega) (by omega) _ (by omega) hdk).mono ?_
 rintro e w1 ⟨rm,pm,ym,Ak,kc,kept,first,E,ec,es,rfl,hcg,⟨_,hec⟩,hRi,hPi,hYi,hKi,hEi,hd1,hg1⟩
 have HCG:=Lib.hid hcg
 have hb1:RowKit.Below w.heap.size w w1:=bel_only hb0 hg1 (fun q e=>by injection e; omega)
 clear hcg hdk hg1 hd1 hb0
 go_upto_region 2 with (refine wpList_store_blk rfl _ _ _ rfl rfl w1.heap.size rfl rfl (Blk.new w1 55 #[.slice none 0 0,.slice none 0 0,.int .i64 0,.slice none 0 0,.int .i64 0,.int .i64 0,.int .i64 0,.int .i64 0,.slice none 0 0,.int .i64 0,.int .i64 0,.int .i64 0,.int .i64 0,.int .i64 0,.int .i64 0,.int .i64 0,.int .i64 0,.slice none 0 0,.slice none 0 0,.slice none 0 0,.int .i64 0,.int .i64 0,.int .i64 0,.slice none 0 0,.slice none 0 0,.slice none 0 0,.bool false,.slice none 0 0]) rfl sizeCase rfl ?_; intro w2 hX2 hg2)
 have hb2:RowKit.Below w1.heap.size w1 w2:=(below_new w1 (.cells #[.slice none 0 0,.slice none 0 0,.int .i64 0,.slice none 0 0,.int .i64 0,.int .i64 0,.int .i64 0,.int .i64 0,.slice none 0 0,.int .i64 0,.int .i64 0,.int .i64 0,.int .i64 0,.int .i64 0,.int .i64 0,.int .i64 0,.int .i64 0,.slice none 0 0,.slice none 0 0,.slice none 0 0,.int .i64 0,.int .i64 0,.int .i64 0,.slice none 0 0,.slice none 0 0,.slice none 0 0,.bool false,.slice none 0 0] 55)).trans (only_below hg2 (by rw [World.size_alloc]; omega) (fun q e=>by injection e; omega))
 have hRi2:=hRi.adv hb2
 have hPi2:=hPi.adv hb2
 have hYi2:=hYi.adv hb2
 have hKi2:=hKi.adv hb2
 have hEi2:=hEi.adv hb2
 have hbw2:=bel_adv hb1 hb2
 clear hRi hPi hYi hKi hEi hb2 hg2 hb1
 generalize w1.heap.size = g at *
 have hel:es.length≤5:=HCG.out.e.2
 have hgl:g < w2.heap.size:=hX2.lt
 by_cases hz:es.length = 0
 ·
  have x27:=hX2.cell 27
  simp only [nqg,nqh,nqi] at x27
  have hz1:((es.length:Int) == 0) = true:=by simp [hz]
  clear hX2
  go_wp2_with fail
  refine (awake_any _).mono ?_
  rintro e w9 ⟨rfl,hb9⟩
  have hbw9:=bel_adv hbw2 hb9
  go_wp2
  go_ret
  exact ⟨rfl,hbw9⟩
 ·
  have hz1:((es.length:Int) == 0) = false:=by simp [hz]
  have x27:=hX2.cell 27
  simp only [nqg,nqh,nqi] at x27
  go_wp2_with fail
  refine (mod_any turn (es.length:Int) _ (by omega) (by omega)).mono ?_
  rintro e w3 ⟨rfl,rfl⟩
  have hm0:=Int.emod_nonneg turn (show (es.length:Int) ≠ 0 by omega)
  have hm1:=Int.emod_lt_of_pos turn (show (0:Int) < es.length by omega)
  generalize turn % (es.length:Int) = tk at *
  obtain ⟨k,rfl⟩:=Int.eq_ofNat_of_zero_le hm0
  have hkl:k < es.length:=by omega
  go_upto_region 5 with fail
  refine M3.wp_region_sel (C:=fun w'=>RowKit.Below w2.heap.size w2 w') (stable_below _ _ (Nat.le_refl _)) (Below.refl _ _) (aE:=?aE) [1,2,3,4,6,7,8,9] 4 (by kernel_rfl) (by kernel_rfl) rfl (by kernel_rfl) (by kernel_rfl) (by rfl) ?H ?M
  case H =>
   intro F hF inst
   simp only [M3.opsAt,List.getElem?_toArray,List.getElem?_cons_zero,List.getElem?_cons_succ]
   have e27:∀ p:BwC (fun w'=>RowKit.Below w2.heap.size w2 w') F,p.w'.cell? ⟨g,27,none⟩ = some (.slice E es.length ec):=fun p=>(p.h.cell (p:=⟨g,27,none⟩) hgl).trans x27
   repeat (first | go_big_quiet_step (fail))
   refine wpQuiet_nil ?_
   rfl
  case M =>
   intro Q0 hQ0
   refine M3.mix_step [0] (by kernel_rfl) (by simp) ?_
   intro wa hCa hba i hi
   simp only [nqj,nqk,or_false] at hi
   subst hi
   have hWn:=below_new wa (.cells #[] 69)
   refine M3.mix_val (.slice (some ⟨wa.heap.size,0,none⟩) 0 0) (wa.alloc (.cells #[] 69)) rfl rfl (by go_simp) ⟨stable_below _ _ (Nat.le_refl _) _ _ hCa hWn,?_⟩
   simp only [Act.put,nqa,nqc,nqd,nqe,nqf]
   have hO2:=Own.lit (base:=w2.heap.size) encE_len wa ([] : List Elem) #[] 69 rfl (by simp) hCa.size
   refine M3.mix_step [5] (by kernel_rfl) (by simp) ?_
   intro wb hCb hbb i hi
   simp only [nqj,nqk,or_false] at hi
   subst hi
   have hO3:=hO2.adv hbb
   refine M3.mix_append (.tmp 30) (.tmp 34) 51 (ec - k) 24 _ infoE Tryz.underlying51 hO3 ((hEi2.adv hCb).drop k) encE_len (by omega) rfl encE_one (by simp only [List.length_drop,List.length_nil]; omega) (by omega) hCb.size rfl rfl rfl rfl rfl (by simp) ?_
   intro v5 w5 hown5 hg5
   have hC5:RowKit.Below w2.heap.size w2 w5:=hCb.trans (only_below hg5 hCb.size (fun q hq=>(hO3.block_lt hq).1))
   refine ⟨hC5,?_⟩
   simp only [Act.put,nqa,nqb,nqc,nqd,nqe,nqf]
   refine M3.mix_step [10] (by kernel_rfl) (by simp) ?_
   intro wc hCc hbc i hi
   simp only [nqj,nqk,or_false] at hi
   subst hi
   have hO6:=hown5.adv hbc
   refine M3.mix_append (.tmp 35) (.tmp 39) 51 ec 24 _ infoE Tryz.underlying51 hO6 ((hEi2.adv hCc).take k) encE_len (by omega) rfl encE_one (by simp only [List.length_append,List.length_drop,List.length_take,List.length_nil]; omega) (by omega) hCc.size rfl rfl rfl rfl rfl (by simp only [List.length_take]; omega) ?_
   intro v7 w7 hown7 hg7
   have hC7:RowKit.Below w2.heap.size w2 w7:=hCc.trans (only_below hg7 hCc.size (fun q hq=>(hO6.block_lt hq).1))
   refine ⟨hC7,?_⟩
   simp only [Act.put,nqa,nqb,nqc,nqd,nqe,nqf]
   refine M3.mix_step [11] (by kernel_rfl) (by simp) ?_
   intro wd hCd hbd i hi
   simp only [nqj,nqk,or_false] at hi
   subst hi
   refine M3.mix_val v7 wd rfl rfl rfl ⟨hCd,?_⟩
   simp only [Act.put,nqa,nqb,nqc,nqd,nqe,nqf]
   refine M3.mix_end (by kernel_rfl) ?_
   intro w8 hC8 hb8
   refine hQ0 _ _ ?_
   have hO8:=(hown7.adv hbd).adv hb8
   rw [List.nil_append] at hO8
   obtain ⟨y,r,hyr⟩ : ∃ y r,es.drop k++es.take k = y :: r:=by
    cases hh:es.drop k++es.take k with
    | nil=>have:=congrArg List.length hh; simp only [List.length_append,List.length_drop,List.length_take,List.length_nil] at this; omega
    | cons y r=>exact ⟨y,r,rfl⟩
   have hrl:=congrArg List.length hyr
   simp only [List.length_append,List.length_drop,List.length_take,List.length_cons] at hrl
   have hrl4:r.length≤4:=by omega
   rw [hyr] at hO8
   have HYR:=Lib.hid hyr
   clear hown5 hown7 hO2 hO3 hO6 hg5 hg7 hC5 hC7 hCa hCb hCc hCd hba hbb hbc hbd hb8 hWn hrl hyr
   go_wp2_with fail
   refine (mod_any cut 1000 _ (by omega) (by omega)).mono ?_
   rintro e w9 ⟨rfl,rfl⟩
   have hp0:=Int.emod_nonneg cut (show (1000:Int) ≠ 0 by omega)
   have hp1:=Int.emod_lt_of_pos cut (show (0:Int) < 1000 by omega)
   generalize cut % (1000:Int) = part at *
   have hya : -600000 < y.amount∧y.amount < 600000:=by
    have hm:y ∈ es.drop k++es.take k:=by rw [HYR.out]; simp
    rcases List.mem_append.1 hm with hm | hm
    ·
     exact (HCG.out.e.1 y (List.mem_of_mem_drop hm)).2
    ·
     exact (HCG.out.e.1 y (List.mem_of_mem_take hm)).2
   obtain ⟨ga,capa,cura,rfl,hba,_,hca,_⟩:=Own.some_ hO8 (by simp)
   have hS8:=hO8.form2 encE_len
   obtain ⟨A8,c8,hv8,hS8,_,_,_⟩:=hS8
   injection hv8 with e1 e2 e3
   subst e1
   obtain ⟨bb,off,hAe,hbb,hc⟩:=hS8.at_ (i:=0) (by simp)
   injection hAe with hAe
   injection hAe with hbe hoe _
   subst hbe hoe
   have c0:=hc 0 _ rfl
   have c1:=hc 1 _ rfl
   simp only [Nat.add_zero] at c0
   simp only [Nat.zero_mul,Nat.add_zero,Nat.zero_add,List.getElem_cons_zero] at c0 c1
   have hlen8:((y :: r).length:Int) = r.length+1:=by simp
   clear hc hS8 e3
   go_wp2_with (at_builtin; (refine wpList_append_one _ _ 51 ⟨y.code,part⟩ _ 24 _ infoE Tryz.underlying51 hO8 encE_len (by omega) rfl (encE_one _) (by simp only [List.length_cons]; omega) (by omega) hC8.size (by rfl) (by rfl) (by rfl) (by rfl) (by simp) (by rfl) ?_); intro v10 w10 hO10 hg10)
   have hC10:RowKit.Below w2.heap.size w2 w10:=hC8.trans (only_below hg10 hC8.size (fun q hq=>(hO8.block_lt hq).1))
   rw [List.cons_append] at hO10
   obtain ⟨gb,capb,curb,rfl,hbb10,hB10,_,_⟩:=Own.some_ hO10 (by simp)
   obtain ⟨A10,c10,hv10,hS10,_,_,_⟩:=hO10.form2 encE_len
   injection hv10 with e1 e2 e3
   subst e1
   obtain ⟨bb,off,hAe,hbb,hc⟩:=hS10.at_ (i:=0) (by simp)
   injection hAe with hAe
   injection hAe with hbe hoe _
   subst hbe hoe
   have d1:=hc 1 _ rfl
   simp only [Nat.zero_mul,Nat.zero_add,List.getElem_cons_zero] at d1
   clear hc hS10 e3 e2 hbb
   have fz:=hB10.frozen 1
   generalize hN:(y :: (r++[⟨y.code,part⟩]) : List Elem).length = N at *
   have hN2:N = r.length+2:=by rw [← hN]; simp
   have hO11:=hO10.setAmt hN.symm (y.amount - part)
   have hC11:=bel_set hC10 hbb10 1 (.int .i64 (y.amount - part))
   have hlx:(0:Int) < (N:Int):=by omega
   have HN2:=Lib.hid hN2
   have HNE:=Lib.hid hN
   clear hN2 hN
   clear c0 c1 hO8 hca hba hbb hg10 hO10 hB10 hC8 hC10
   go_upto_region 9 with fail
   generalize w10.setCell ⟨gb,1,none⟩ (.int .i64 (y.amount - part)) = w11 at hO11 hC11 ⊢
   have HSU:Hid (sumsP (⟨y.code,y.amount - part⟩ :: (r++[⟨y.code,part⟩])) = sumsP es):=turn_sums part HYR.out
   have HOF:Hid (ofErr rm.ws (⟨y.code,y.amount - part⟩ :: (r++[⟨y.code,part⟩])) (sumsP es) = ofErr rm.ws es (sumsP es)):=turn_of part HYR.out (HCG.out.in_ first).r.wages HCG.out.e.1 hel hp0 hp1
   have HSZ:Hid (∀ x ∈ (⟨y.code,y.amount - part⟩ :: (r++[⟨y.code,part⟩]) : List Elem),x.code.size≤maxLen):=fun x hx=>by
    obtain ⟨z,hz,e,_⟩:=turn_mem part HYR.out hx
    rw [e]; exact (HCG.out.in_ first).size z hz
   generalize hxs:(⟨y.code,y.amount - part⟩ :: (r++[⟨y.code,part⟩]) : List Elem) = xs at *
   obtain rfl:N = xs.length:=by rw [← hxs,HN2.out]; simp
   have hrl2:=HN2.out
   have hxl6:xs.length≤1000000:=by omega
   clear hrl2 HN2 HNE
   obtain ⟨A11,c11,hv11,hSx,_,_,_⟩:=hO11.form2 encE_len
   injection hv11 with e1 e2 e3
   subst e1
   have hIn1:=HCG.out.in_ first
   have hIn2:InOk (mkI rm pm ym kept first xs):=⟨hIn1.r,hIn1.p,hIn1.y,hIn1.kept,hIn1.same,HSZ.out⟩
   have hor:=out_order rm pm ym kept first (e:=es) (e':=xs) HSU.out (by rw [HSU.out]; exact HOF.out)
   have HPO:=Lib.hid (compute_ok rm pm ym Ak E kc ec kept es first w11 (hRi2.adv hC11) (hPi2.adv hC11) (hYi2.adv hC11) (hKi2.adv hC11) (hEi2.adv hC11) (by omega) hIn1)
   have HP2:Hid (∀ W,RowKit.Below w11.heap.size w11 W→Calls Tryz.prog 21 #[rm.val,pm.val,ym.val,.slice Ak kept.length kc,.bool first,.slice (some ⟨gb,0,none⟩) xs.length capb] W (SlipPost (mkI rm pm ym kept first xs) W)):=fun W hb=>by
    have hC:=bel_adv hC11 hb
    exact compute_ok rm pm ym Ak (some ⟨gb,0,none⟩) kc capb kept xs first W (hRi2.adv hC) (hPi2.adv hC) (hYi2.adv hC) (hKi2.adv hC) (hSx.adv hb) hxl6 hIn2
   unfold RulesM.val PersonM.val YearM.val at HPO HP2
   have hz1:=hIn1.outSizes
   obtain ⟨z1,z2,z3⟩:=hz1
   have HOR:=Lib.hid hor
   have hX11:=hX2.adv hC11
   have hbw11:=bel_adv hbw2 hC11
   clear hor hIn1 hIn2 hRi2 hPi2 hYi2 hKi2 hEi2 hSx HSZ HSU HOF hO11 hC11 hX2 hbw2 x27 d1 fz e3 hbb10
   have x0:=hX11.cell 0
   have x1:=hX11.cell 1
   have x2:=hX11.cell 2
   have x3:=hX11.cell 3
   have x4:=hX11.cell 4
   have x5:=hX11.cell 5
   have x6:=hX11.cell 6
   have x7:=hX11.cell 7
   have x8:=hX11.cell 8
   have x9:=hX11.cell 9
   have x10:=hX11.cell 10
   have x11:=hX11.cell 11
   have x12:=hX11.cell 12
   have x13:=hX11.cell 13
   have x14:=hX11.cell 14
   have x15:=hX11.cell 15
   have x16:=hX11.cell 16
   have x17:=hX11.cell 17
   have x18:=hX11.cell 18
   have x19:=hX11.cell 19
   have x20:=hX11.cell 20
   have x21:=hX11.cell 21
   have x22:=hX11.cell 22
   have x23:=hX11.cell 23
   have x24:=hX11.cell 24
   have x25:=hX11.cell 25
   have x26:=hX11.cell 26
   have x27:=hX11.cell 27
   simp only [nqg,nqh,nqi] at x0 x1 x2 x3 x4 x5 x6 x7 x8 x9 x10 x11 x12 x13 x14 x15 x16 x17 x18 x19 x20 x21 x22 x23 x24 x25 x26 x27
   go_wp2_with fail
   refine HPO.out.mono ?_
   clear HPO x0 x1 x2 x3 x4 x5 x6 x7 x8 x9 x10 x11 x12 x13 x14 x15 x16 x17 x18 x19 x20 x21 x22 x23 x24 x25 x26 x27
   rintro e w12 hpost
   obtain ⟨A,c,Ai,ci,At,ct,rfl,hSL,hSi,hSt,hb12⟩:=hpost.out
   have HP3:=Lib.hid (fun W hb=>HP2.out W (bel_adv hb12 hb))
   clear HP2 hpost
   generalize mkI rm pm ym kept first es = I at *
   have hb13:=bel_alloc (below_new w12 (.cells #[.int .i64 (outB I).g,.int .i64 (outB I).c,.int .i64 (outB I).t,.int .i64 (outB I).i,.int .i64 (outB I).a,.int .i64 (outLg I),.slice A (outLs I).length c] 27)) (.cells #[.int .i64 (outY I).periods,.int .i64 (outY I).income,.int .i64 (outY I).withheld,.slice Ai (outY I).insured.length ci,.slice At (outY I).taken.length ct] 53)
   have hS13:=(Blk.new w12 27 #[.int .i64 (outB I).g,.int .i64 (outB I).c,.int .i64 (outB I).t,.int .i64 (outB I).i,.int .i64 (outB I).a,.int .i64 (outLg I),.slice A (outLs I).length c]).alloc (.cells #[.int .i64 (outY I).periods,.int .i64 (outY I).income,.int .i64 (outY I).withheld,.slice Ai (outY I).insured.length ci,.slice At (outY I).taken.length ct] 53)
   have hY13:=Blk.new (w12.alloc (.cells #[.int .i64 (outB I).g,.int .i64 (outB I).c,.int .i64 (outB I).t,.int .i64 (outB I).i,.int .i64 (outB I).a,.int .i64 (outLg I),.slice A (outLs I).length c] 27)) 53 #[.int .i64 (outY I).periods,.int .i64 (outY I).income,.int .i64 (outY I).withheld,.slice Ai (outY I).insured.length ci,.slice At (outY I).taken.length ct]
   rw [World.size_alloc] at hY13
   have hL13:=hSL.adv hb13
   have hi13:=hSi.adv hb13
   have ht13:=hSt.adv hb13
   have hX13:=(hX11.adv hb12).adv hb13
   have hbw13:=bel_adv (bel_adv hbw11 hb12) hb13
   have HP4:=Lib.hid (HP3.out _ hb13)
   clear hSL hSi hSt hb12 hX11 hbw11 HP3
   go_upto_region 10 with fail
   clear hb13
   generalize World.alloc (w12.alloc _) _ = w13 at hS13 hY13 hL13 hi13 ht13 hX13 hbw13 HP4 ⊢
   generalize w12.heap.size+1 = gy at *
   generalize w12.heap.size = gx at *
   have x0:=hX13.cell 0
   have x1:=hX13.cell 1
   have x2:=hX13.cell 2
   have x3:=hX13.cell 3
   have x4:=hX13.cell 4
   have x5:=hX13.cell 5
   have x6:=hX13.cell 6
   have x7:=hX13.cell 7
   have x8:=hX13.cell 8
   have x9:=hX13.cell 9
   have x10:=hX13.cell 10
   have x11:=hX13.cell 11
   have x12:=hX13.cell 12
   have x13:=hX13.cell 13
   have x14:=hX13.cell 14
   have x15:=hX13.cell 15
   have x16:=hX13.cell 16
   have x17:=hX13.cell 17
   have x18:=hX13.cell 18
   have x19:=hX13.cell 19
   have x20:=hX13.cell 20
   have x21:=hX13.cell 21
   have x22:=hX13.cell 22
   have x23:=hX13.cell 23
   have x24:=hX13.cell 24
   have x25:=hX13.cell 25
   have x26:=hX13.cell 26
   have x27:=hX13.cell 27
   simp only [nqg,nqh,nqi] at x0 x1 x2 x3 x4 x5 x6 x7 x8 x9 x10 x11 x12 x13 x14 x15 x16 x17 x18 x19 x20 x21 x22 x23 x24 x25 x26 x27
   clear hX13
   go_wp2_with fail
   refine HP4.out.mono ?_
   clear HP4 x0 x1 x2 x3 x4 x5 x6 x7 x8 x9 x10 x11 x12 x13 x14 x15 x16 x17 x18 x19 x20 x21 x22 x23 x24 x25 x26 x27
   rintro e w14 hpost
   obtain ⟨A',c',Ai',ci',At',ct',rfl,hSL',hSi',hSt',hb14⟩:=hpost.out
   obtain ⟨o1,o2,o3,o4,o5⟩:=HOR.out
   rw [o1,o2,o3,o4,o5]
   rw [o4] at hSL'
   rw [o5] at hSi' hSt'
   clear o1 o2 o3 o4 o5 hpost HOR
   have hb15:=bel_alloc (below_new w14 (.cells #[.int .i64 (outB I).g,.int .i64 (outB I).c,.int .i64 (outB I).t,.int .i64 (outB I).i,.int .i64 (outB I).a,.int .i64 (outLg I),.slice A' (outLs I).length c'] 27)) (.cells #[.int .i64 (outY I).periods,.int .i64 (outY I).income,.int .i64 (outY I).withheld,.slice Ai' (outY I).insured.length ci',.slice At' (outY I).taken.length ct'] 53)
   have hS15:=(Blk.new w14 27 #[.int .i64 (outB I).g,.int .i64 (outB I).c,.int .i64 (outB I).t,.int .i64 (outB I).i,.int .i64 (outB I).a,.int .i64 (outLg I),.slice A' (outLs I).length c']).alloc (.cells #[.int .i64 (outY I).periods,.int .i64 (outY I).income,.int .i64 (outY I).withheld,.slice Ai' (outY I).insured.length ci',.slice At' (outY I).taken.length ct'] 53)
   have hY15:=Blk.new (w14.alloc (.cells #[.int .i64 (outB I).g,.int .i64 (outB I).c,.int .i64 (outB I).t,.int .i64 (outB I).i,.int .i64 (outB I).a,.int .i64 (outLg I),.slice A' (outLs I).length c'] 27)) 53 #[.int .i64 (outY I).periods,.int .i64 (outY I).income,.int .i64 (outY I).withheld,.slice Ai' (outY I).insured.length ci',.slice At' (outY I).taken.length ct']
   rw [World.size_alloc] at hY15
   have HS1:=Lib.hid (sameSlip_yes (outB I) (outLg I) A A' c c' (outLs I) _ ((hL13.adv hb14).adv hb15) (hSL'.adv hb15) (by omega))
   have HS2:=Lib.hid (fun W (hb:RowKit.Below _ _ W)=>sameYear_yes (outY I).periods (outY I).income (outY I).withheld Ai Ai' At At' ci ci' ct ct' (outY I).insured (outY I).taken W (((hi13.adv hb14).adv hb15).adv hb) ((hSi'.adv hb15).adv hb) (((ht13.adv hb14).adv hb15).adv hb) ((hSt'.adv hb15).adv hb) (by omega) (by omega))
   have hS135:=(hS13.adv hb14).adv hb15
   have hY135:=(hY13.adv hb14).adv hb15
   have hbw15:=bel_adv (bel_adv hbw13 hb14) hb15
   clear hL13 hi13 ht13 hSL' hSi' hSt' hS13 hY13 hbw13 hb14
   have heq:(I.err == I.err) = true:=by simp
   go_upto_region 11 with fail
   clear hb15
   generalize World.alloc (w14.alloc _) _ = w15 at hS135 hY135 hS15 hY15 hbw15 HS1 HS2 ⊢
   have a0:=hS135.cell 0
   have a1:=hS135.cell 1
   have a2:=hS135.cell 2
   have a3:=hS135.cell 3
   have a4:=hS135.cell 4
   have a5:=hS135.cell 5
   have a6:=hS135.cell 6
   simp only [nqg,nqh,nqi] at a0 a1 a2 a3 a4 a5 a6
   have b0:=hS15.cell 0
   have b1:=hS15.cell 1
   have b2:=hS15.cell 2
   have b3:=hS15.cell 3
   have b4:=hS15.cell 4
   have b5:=hS15.cell 5
   have b6:=hS15.cell 6
   simp only [nqg,nqh,nqi] at b0 b1 b2 b3 b4 b5 b6
   go_wp2_with fail
   refine HS1.out.mono ?_
   rintro e w16 ⟨rfl,hb16⟩
   clear a0 a1 a2 a3 a4 a5 a6 b0 b1 b2 b3 b4 b5 b6 HS1
   have hY136:=hY135.adv hb16
   have hY156:=hY15.adv hb16
   have hbw16:=bel_adv hbw15 hb16
   have a0:=hY136.cell 0
   have a1:=hY136.cell 1
   have a2:=hY136.cell 2
   have a3:=hY136.cell 3
   have a4:=hY136.cell 4
   simp only [nqg,nqh,nqi] at a0 a1 a2 a3 a4
   have b0:=hY156.cell 0
   have b1:=hY156.cell 1
   have b2:=hY156.cell 2
   have b3:=hY156.cell 3
   have b4:=hY156.cell 4
   simp only [nqg,nqh,nqi] at b0 b1 b2 b3 b4
   have HS3:=Lib.hid (HS2.out w16 hb16)
   clear HS2 hS135 hS15 hY135 hY15 hY136 hY156 hbw15 hb16
   go_wp2_with fail
   refine HS3.out.mono ?_
   rintro e w17 ⟨rfl,hb17⟩
   have hbw17:=bel_adv hbw16 hb17
   clear HS3 a0 a1 a2 a3 a4 b0 b1 b2 b3 b4
   go_wp2_with fail
   refine (awake_any _).mono ?_
   rintro e w18 ⟨rfl,hb18⟩
   have hbw18:=bel_adv hbw17 hb18
   go_wp2
   go_ret
   exact ⟨rfl,hbw18⟩
end Go.Proofs.YtlhkojcmcmkmaaaGreat
namespace Go.Proofs.YtlhkojcmcmkmaaaGreat.netOrder
open Go.ChangeShapes Go.WideShapes Go.ChangeAt Go.RowKit
open Go.ChangeMaps (open_string shut_string)
theorem own : ownKnob Tryz.prog.godebug = none:=by kernel_rfl
theorem laidOut : laidOutB Tryz.prog = true:=by kernel_rfl
set_option maxRecDepth 100000 in
theorem lifted (os:Os) (started:os.Started) (H:Type) (enc:TypeId × Value→H) :
  ReturnsInHanded {} Tryz.checked os 7 .any (Rows.netOrderSpec.pre6 enc Tryz.prog Tryz.f7 Rows.netOrderRow.domain false) (Rows.netOrderSpec.post enc Tryz.prog Tryz.f7 false true false false):=by
 refine returnsInHanded_of_change (C:=Tryz.checked) own started (by kernel_rfl) Tryz.func7
  (ChangeSpec.witness6 (enc:=enc) (C:=Tryz.checked) false ⟨#[],#[.slice none 0 0,.int .i64 0,.int .i64 0],[]⟩ 8 (by kernel_rfl) (by kernel_rfl) (by kernel_rfl) (by kernel_rfl)) ?_
 intro W base args ds gs before hval0 hW _ _
 have hval:∀ (j:Nat) t v,Tryz.f7.params[j]? = some t→args[j]? = some v→Value.okWide Tryz.prog W .any base t v:=hval0
 have hW':=hW
 obtain ⟨p,q,hA0,hV,rfl,_,_⟩:=hW
 have hA:DataW.TrodAll enc Tryz.prog W 0 (fun _=>true) true Tryz.f7.params.toList args.toList ds p:=hA0
 rw [Tryz.params7] at hA hval
 obtain ⟨v0,vs0,d0,ds0,p0,q0,hargs,rfl,rfl,h0,r0⟩:=trodAll_cons hA
 obtain ⟨v1,vs1,d1,ds1,p1,q1,rfl,rfl,rfl,h1,r1⟩:=trodAll_cons r0
 obtain ⟨v2,vs2,d2,ds2,p2,q2,rfl,rfl,rfl,h2,r2⟩:=trodAll_cons r1
 obtain ⟨rfl,rfl,rfl⟩:=trodAll_nil r2
 obtain rfl:args = #[v0,v1,v2]:=by cases args; simp_all
 obtain ⟨rfl,rfl⟩:=trodVars_none hV
 obtain ⟨a0,len0,cap0,rfl⟩:=okWide_slice Tryz.underlying34 (hval 0 34 v0 rfl rfl)
 have k0:=h0
 have lt0:∀ x ∈ p0,x.block < W.heap.size:=by obtain ⟨m,hm⟩:=k0; exact DataW.trod_lt m _ _ _ hm
 obtain ⟨xs0,rfl,hS0,hX0,hlc0,hcm0⟩:=openI h0
 have hl0:=Nat.le_trans hlc0 hcm0
 obtain ⟨n1,rfl,rfl,rfl,wn1⟩:=open_int Tryz.underlying3 (hval 1 3 v1 rfl rfl) h1
 obtain ⟨n2,rfl,rfl,rfl,wn2⟩:=open_int Tryz.underlying3 (hval 2 3 v2 rfl rfl) h2
 clear hA0 hval0
 refine (order32_walk a0 cap0 xs0 n1 n2 W hS0 hl0 hX0).mono fun e W' ⟨he,bel⟩=>?_
 subst he
 exact ⟨_,rfl,_,_,_,[],_,[],hW',trodAll_mk1 (shut_bool Tryz.underlying4 _),(trodAll_cons_mk (Below.trod laidOut (by kernel_rfl) (of_decide_eq_true (by kernel_rfl)) k0 bel lt0) (trodAll_cons_mk (shut_int Tryz.underlying3 wn1) (trodAll_cons_mk (shut_int Tryz.underlying3 wn2) trodAll_mk0))),rfl,bel.frame _,fun h=>by cases h⟩
theorem t4 : (Rows.netOrderRow.inPlace == Tryz.prog.inPlace 7) = true:=by kernel_rfl
theorem t5 : (Rows.netOrderRow.unfollowed == Tryz.prog.unfollowed 7) = true:=by kernel_rfl
theorem t6 : (Rows.netOrderRow.recurses == Tryz.prog.recurses 7) = true:=by kernel_rfl
theorem t7 : (Rows.netOrderRow.named == Tryz.prog.varsNamed 7) = true:=by kernel_rfl
theorem t8 : (Rows.netOrderRow.pinned == Rows.netOrderRow.pinnedBy) = true:=by kernel_rfl
theorem t9 : (Rows.netOrderRow.lifted == Tryz.prog.liftsFinal) = true:=by kernel_rfl
theorem tc : joinedFacts Tryz.prog 7 Tryz.f7 Rows.netOrderSpec Rows.netOrderRow = true:=by
 unfold joinedFacts
 rw [t4,t5,t6,t7,t8,t9]
 kernel_rfl
theorem tf : Tryz.pinned.checked.prog.funcNamed Rows.netOrderRow.func = some 7:=by kernel_rfl
theorem over : Rows.netOrderRow.holds Tryz.pinned (OpenSpec.ofChange Rows.netOrderSpec) :=
 OpenClaim.holds_of_wide 7 Tryz.f7 rfl rfl rfl rfl rfl rfl rfl ⟨rfl,rfl,rfl,rfl,rfl⟩ rfl rfl rfl rfl rfl tf Tryz.func7 tc
  (of_decide_eq_true (by kernel_rfl)) (by unfold Func.isWrapper; first | (rw [if_pos (by decide +kernel)]; kernel_rfl) | (rw [if_neg (by decide +kernel)]; exact ⟨rfl,rfl⟩))
  (fun os started H enc _=>lifted os started H enc)
theorem proved : Rows.NetOrderSaid:=over
#print axioms proved
end Go.Proofs.YtlhkojcmcmkmaaaGreat.netOrder
