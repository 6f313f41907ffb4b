/- Joined texts: Lim32 Lim32Proof. Conditions: as stated. -/
import Derived.Laws.IdiomStrings
import Derived.Test.YtlhkojcmcmkmaaaGreatRows
import Derived.Test.YtlhkojcmcmkmaaaGreatJB32
import Derived.Test.YtlhkojcmcmkmaaaGreatJCaseIn
namespace Go.Proofs.YtlhkojcmcmkmaaaGreat
open Go.RowKit Go.Sort Go.Shelf
def codeQ (i:Nat) : ByteArray:=⟨#[UInt8.ofNat (97+i / 26),UInt8.ofNat (97+i % 26),113]⟩
def lnQ (i:Nat) : LineT:=⟨4,codeQ i,1⟩
def lsQ (n:Nat) : List LineT:=(List.range n).map lnQ
theorem lsQ_succ (n:Nat) : lsQ (n+1) = lsQ n++[lnQ n]:=by simp [lsQ,List.range_succ]
theorem lsQ_len (n:Nat) : (lsQ n).length = n:=by simp [lsQ]
theorem nameQ : ∀ i : Fin 256,nameB (codeQ i) = true:=by decide +kernel
theorem lessQ1 : ∀ i : Fin 256,lessL (lnQ i) (lnQ (i+1)) = true:=by decide +kernel
theorem lessQ : ∀ (n i : Nat),i < n→n≤256→lessL (lnQ i) (lnQ n) = true:=by
 intro n
 induction n with
 | zero=>intro i h; omega
 | succ n ih =>
  intro i h h2
  have h1:=lessQ1 ⟨n,by omega⟩
  by_cases e:i = n
  ·
   subst e; exact h1
  ·
   exact RL_law.trans _ _ _ (ih i (by omega) (by omega)) h1
theorem lsQ_sorted : ∀ n : Nat,n≤256→RL.Sorted (lsQ n):=by
 intro n
 induction n with
 | zero=>intro _; exact List.Pairwise.nil
 | succ n ih =>
  intro h
  rw [lsQ_succ]
  refine List.pairwise_append.2 ⟨ih (by omega),List.pairwise_singleton _ _,fun a ha b hb=>?_⟩
  rw [List.mem_singleton] at hb
  subst hb
  simp only [lsQ,List.mem_map,List.mem_range] at ha
  obtain ⟨i,hi,rfl⟩:=ha
  exact lessQ n i hi (by omega)
theorem lsQ_sum (j:Int) : ∀ n : Nat,sumK j (lsQ n) = if j = 4 then (n:Int) else 0:=by
 intro n
 induction n with
 | zero=>by_cases h:j = 4 <;> simp [h,lsQ,sumK]
 | succ n ih =>
  rw [lsQ_succ,sumK_append,ih]
  by_cases h:j = 4
  ·
   subst h; simp [sumK,lnQ]
  ·
   have h':¬ (4:Int) = j:=fun e=>h e.symm
   simp [sumK,lnQ,h,h']
theorem slQ (n:Nat) (h0:1≤n) (h1:n≤255) : SlBal ⟨0,0,0,0,0⟩ (-(n:Int)) (lsQ n++[⟨10,⟨#[]⟩,(n:Int)⟩]):=by
 have hs:∀ j:Int,sumK j (lsQ n++[⟨10,⟨#[]⟩,(n:Int)⟩]) = (if j = 4 then (n:Int) else 0)+(if j = 10 then (n:Int) else 0):=by
  intro j
  rw [sumK_append,lsQ_sum]
  simp only [sumK,Int.add_zero,eq_comm]
 refine ⟨by rw [List.length_append,lsQ_len]; simp only [List.length_cons,List.length_nil]; omega,fun x hx=>?_,?_,?_,?_,?_,?_,?_⟩
 ·
  rcases List.mem_append.1 hx with hx | hx
  ·
   simp only [lsQ,List.mem_map,List.mem_range] at hx
   obtain ⟨i,hi,rfl⟩:=hx
   exact ⟨by simp [lnQ],by simp [lnQ],by simp [lnQ],.inr (.inr (.inr ⟨.inr (.inl rfl),nameQ ⟨i,by omega⟩,by simp [lnQ]⟩))⟩
  ·
   rw [List.mem_singleton] at hx
   subst hx
   exact ⟨by show (n:Int) ≠ 0; omega,by show -100000000000≤(n:Int); omega,by show (n:Int)≤100000000000; omega,.inr (.inl ⟨.inr rfl,rfl,by show 0 < (n:Int); omega⟩)⟩
 ·
  refine List.pairwise_append.2 ⟨lsQ_sorted n (by omega),List.pairwise_singleton _ _,fun a ha b hb=>?_⟩
  rw [List.mem_singleton] at hb
  subst hb
  simp only [lsQ,List.mem_map,List.mem_range] at ha
  obtain ⟨i,hi,rfl⟩:=ha
  rfl
 ·
  rw [hs]; left; rfl
 ·
  rw [hs]; rfl
 ·
  rw [hs]; rfl
 ·
  rw [hs,hs]; simp
 ·
  rw [hs,hs,hs,hs,hs]; simp
set_option maxRecDepth 100000 in
set_option maxHeartbeats 8000000 in
theorem balanced_long (b:BasesT) (legal:Int) (A:Option Addr) (cap n : Nat) (w:World) (h:256 < n) (h2:n≤1000000) :
  Calls Tryz.prog 16 #[.agg #[.int .i64 b.g,.int .i64 b.c,.int .i64 b.t,.int .i64 b.i,.int .i64 b.a,.int .i64 legal,.slice A n cap]] w fun e w'=>e = .returned (.bool false)∧RowKit.Below w.heap.size w w':=by
 have hlt:(256:Int) < n:=by omega
 go_enter Tryz.func16,Tryz.ntmps16
 go_wp2
 go_ret
 exact ⟨rfl,below_new _ _⟩
theorem slip32_yes (m:Nat) (h0:254≤m) (h1:m≤255) (A:Option Addr) (cap:Nat) (w:World) (h:SliceOf encL 3 w w.heap.size A (lsQ m++[⟨10,⟨#[]⟩,(m:Int)⟩])) :
  Calls Tryz.prog 16 #[.agg #[.int .i64 0,.int .i64 0,.int .i64 0,.int .i64 0,.int .i64 0,.int .i64 (-(m:Int)),.slice A (m+1) cap]] w fun e w'=>e = .returned (.bool true)∧RowKit.Below w.heap.size w w':=by
 have:=balanced_yes ⟨0,0,0,0,0⟩ (-(m:Int)) A cap _ w h (slQ m (by omega) h1)
 rw [List.length_append,lsQ_len] at this
 exact this
theorem codeQ_conv (k:Nat) (hk:k≤256) (w:World) : (convert 28 9 (.slice (some ⟨w.heap.size,0,none⟩) 3 3)).run Tryz.prog (w.alloc (.cells #[.int .u8 (97+(k:Int) / 26),.int .u8 (97+(k:Int) % 26),.int .u8 113] 5)) = .ok (.string (codeQ k)) (w.alloc (.cells #[.int .u8 (97+(k:Int) / 26),.int .u8 (97+(k:Int) % 26),.int .u8 113] 5)):=by
 have h:=run_convert_bytes_back (P:=Tryz.prog) (w.alloc (.cells #[.int .u8 (97+(k:Int) / 26),.int .u8 (97+(k:Int) % 26),.int .u8 113] 5)) 28 9 5 ⟨w.heap.size,0,none⟩ 3 [UInt8.ofNat (97+k / 26),UInt8.ofNat (97+k % 26),113] Tryz.underlying28 Tryz.underlying5 Tryz.underlying9 ?_
 ·
  exact h
 ·
  intro j hj
  have hB:=Blk.new w 5 #[.int .u8 (97+(k:Int) / 26),.int .u8 (97+(k:Int) % 26),.int .u8 113]
  have e1:((UInt8.ofNat (97+k / 26)).toNat:Int) = 97+(k:Int) / 26:=by
   simp only [UInt8.toNat_ofNat']; omega
  have e2:((UInt8.ofNat (97+k % 26)).toNat:Int) = 97+(k:Int) % 26:=by
   simp only [UInt8.toNat_ofNat']; omega
  have ha:(⟨w.heap.size,0,none⟩ : Addr).add j = ⟨w.heap.size,j,none⟩:=by unfold Addr.add; split <;> simp_all
  rw [ha,hB.cell]
  match j,hj with
  | 0,_=>simp only [List.getElem_cons_zero]; rw [e1]; rfl
  | 1,_=>simp only [List.getElem_cons_succ,List.getElem_cons_zero]; rw [e2]; rfl
  | 2,_=>rfl
  | (n+3),hj=>simp only [List.length_cons,List.length_nil] at hj; omega
set_option maxRecDepth 100000 in
set_option maxHeartbeats 8000000 in
theorem limits32_walk (n:Int) (w:World) :
  Calls Tryz.prog 3 #[.int .i64 n] w fun e w'=>e = .returned (.bool true)∧RowKit.Below w.heap.size w w':=by
 go_enter Tryz.func3,Tryz.ntmps3
 go_wp2_with fail
 refine (mod_any _ _ _ (by omega) (by omega)).mono ?_
 rintro e w1 ⟨rfl,rfl⟩
 generalize hr:n % 3 = r
 have h0:0≤r:=by omega
 have h1:r < 3:=by omega
 obtain ⟨j,rfl⟩:=Int.eq_ofNat_of_zero_le h0
 clear hr
 obtain ⟨m,hm⟩ : ∃ m:Nat,m = 254+j:=⟨_,rfl⟩
 have hm1:254≤m:=by omega
 have hm2:m≤256:=by omega
 have ec:(255:Int)+(j:Int) = (m:Int)+1:=by omega
 have EC:=Lib.hid ec
 clear ec hm
 go_upto_region 2 with fail
 rw [EC.out]
 clear EC h0 h1
 go_upto_region 3 with fail
 have hB2:=Blk.new w 27 #[.int .i64 0,.int .i64 0,.int .i64 0,.int .i64 0,.int .i64 0,.int .i64 (-((m:Int)+1)),.slice none 0 0]
 have hb2:=below_new w (.cells #[.int .i64 0,.int .i64 0,.int .i64 0,.int .i64 0,.int .i64 0,.int .i64 (-((m:Int)+1)),.slice none 0 0] 27)
 have hs2:(w.alloc (.cells #[.int .i64 0,.int .i64 0,.int .i64 0,.int .i64 0,.int .i64 0,.int .i64 (-((m:Int)+1)),.slice none 0 0] 27)).heap.size = w.heap.size+1:=World.size_alloc _ _
 generalize w.alloc _ = w2 at hB2 hb2 hs2 ⊢
 go_wp2_with fail
 go_loopw [5] (fun i wr=>∃ (k:Nat) (v:Value),k≤m∧i = .int .i64 k∧Blk wr w.heap.size 27 #[.int .i64 0,.int .i64 0,.int .i64 0,.int .i64 0,.int .i64 0,.int .i64 (-((m:Int)+1)),v]∧Own encL 3 30 wr (w.heap.size+1) v (lsQ k)∧RowKit.Below w.heap.size w wr) (fun i _=>m - (intOf i).toNat)
 case atStart=>exact ⟨0,.slice none 0 0,by omega,rfl,hB2,Own.nil_ _ _,hb2⟩
 case round =>
  rename World=>wr
  obtain ⟨k,v,hk,rfl,hB,hO,hbr⟩:=hrel
  have hgs:=hB.lt
  by_cases hlt:k < m
  ·
   have z6:wr.cell? ⟨w.heap.size,6,none⟩ = some v:=hB.cell 6
   have hlt2:(k:Int)+1 < (m:Int)+1:=by omega
   have hd:(k:Int).tdiv 26 = (k:Int) / 26:=Int.tdiv_eq_ediv_of_nonneg (by omega)
   have hr:(k:Int).tmod 26 = (k:Int) % 26:=Int.tmod_eq_emod_of_nonneg (by omega)
   have HCV:=codeQ_conv k (by omega) wr
   have hr7:=fun q hq=>(hO.block_lt (g:=q) hq).1
   have HL1:=Lib.hid (lsQ_len k)
   have hne:∀ q,v.ownBlock = some q→some w.heap.size ≠ some q:=fun q hq e=>by injection e; have:=hr7 q hq; omega
   have HSZ:=Lib.hid (lsQ_succ k)
   have HBK:=Lib.hid hbr
   have HBB:=Lib.hid hB
   clear hbr
   go_wp2_with (at_builtin; (refine wpList_append_one _ _ 25 (lnQ k) _ 32 _ infoL Tryz.underlying25 (hO.alloc _) encL_len (by omega) rfl (encL_one _) (by rw [HL1.out]; omega) (by omega) (by rw [World.size_alloc]; omega) (by rfl) (by rfl) (by rfl) (by rfl) (by simp) (by rfl) ?_); intro v5 w5 hO5 hg5; rw [← HSZ.out] at hO5; have hB5:=(HBB.out.alloc (.cells #[.int .u8 (97+(k:Int) / 26),.int .u8 (97+(k:Int) % 26),.int .u8 113] 5)).grown hg5 (by intro e; exact hne _ e.symm rfl); have z7:w5.cell? ⟨w.heap.size,6,none⟩ = some v:=hB5.cell 6; have f6:=hB5.frozen 6; obtain ⟨A5,c5,hv5,hS5,_,_,_⟩:=hO5.form2 encL_len; rw [lsQ_len] at hv5; subst hv5; have HB5:=Lib.hid (hB5.set_ 6 (.slice A5 (k+1) c5)); clear hS5 hB5)
   have hO6:=hO5.setCell (p:=⟨w.heap.size,6,none⟩) (fun q hq e=>by have:=(hO5.block_lt hq).1; simp only at e; omega) (.slice A5 (k+1) c5)
   have hb6:=bel_set (bel_only (bel_alloc HBK.out (.cells #[.int .u8 (97+(k:Int) / 26),.int .u8 (97+(k:Int) % 26),.int .u8 113] 5)) hg5 (fun q hq=>by have:=hr7 q hq; omega)) (Nat.le_refl _) 6 (.slice A5 (k+1) c5)
   go_roundw
   case rel=>exact ⟨k+1,_,by omega,by go_num,HB5.out,hO6,hb6⟩
   case measure=>simp [intOf]; omega
  ·
   obtain rfl:k = m:=by omega
   obtain ⟨A1,c1,hv1,hS1,_,_,_⟩:=hO.form2 encL_len
   rw [lsQ_len] at hv1
   subst hv1
   have z5:wr.cell? ⟨w.heap.size,5,none⟩ = some (.int .i64 (-((k:Int)+1))):=hB.cell 5
   have f5:=hB.frozen 5
   have hB7:=hB.set_ 5 (.int .i64 (-((k:Int)+1)+1))
   have hO7:=hO.setCell (p:=⟨w.heap.size,5,none⟩) (fun q hq e=>by have:=(hO.block_lt hq).1; simp only at e; omega) (.int .i64 (-((k:Int)+1)+1))
   have hb7:=bel_set hbr (Nat.le_refl _) 5 (.int .i64 (-((k:Int)+1)+1))
   have hs7:w.heap.size+1≤(wr.setCell ⟨w.heap.size,5,none⟩ (.int .i64 (-((k:Int)+1)+1))).heap.size:=by rw [World.size_setCell]; omega
   clear hS1 hB2 hb2
   have HL1:=Lib.hid (lsQ_len k)
   go_upto_region 8 with fail
   clear z5 f5 hB hO hbr
   generalize wr.setCell _ _ = w7 at hB7 hO7 hb7 hs7 ⊢
   simp only [List.setIfInBounds_toArray,List.set_cons_succ,List.set_cons_zero] at hB7
   have e1 : -((k:Int)+1)+1 = -(k:Int):=by omega
   rw [e1] at hB7
   have z6:w7.cell? ⟨w.heap.size,6,none⟩ = some (.slice A1 k c1):=hB7.cell 6
   have e2:(k:Int)+1 - 1 = (k:Int):=by omega
   have HBB:=Lib.hid hB7
   have hr7:=fun q hq=>(hO7.block_lt (g:=q) hq).1
   have hne:∀ q,(Value.slice A1 k c1).ownBlock = some q→some w.heap.size ≠ some q:=fun q hq e=>by injection e; have:=hr7 q hq; omega
   clear hB7 e1
   go_upto_region 9 with (at_builtin; (refine wpList_append_one _ _ 25 ⟨10,⟨#[]⟩,(k:Int)⟩ _ 32 _ infoL Tryz.underlying25 hO7 encL_len (by omega) rfl (encL_one _) (by rw [HL1.out]; omega) (by omega) (by omega) (by rfl) (by rfl) (by rfl) (by rfl) (by simp) (by rfl) ?_); intro v5 w5 hO5 hg5; have hB5:=HBB.out.grown hg5 (by intro e; exact hne _ e.symm rfl); have z7:w5.cell? ⟨w.heap.size,6,none⟩ = some (.slice A1 k c1):=hB5.cell 6; have f6:=hB5.frozen 6; obtain ⟨A5,c5,hv5,hS5,_,_,_⟩:=hO5.form2 encL_len; rw [List.length_append,lsQ_len] at hv5; simp only [List.length_cons,List.length_nil,Nat.zero_add] at hv5; subst hv5; have HB5:=Lib.hid (hB5.set_ 6 (.slice A5 (k+1) c5)); clear hS5 hB5)
   have hO8:=hO5.setCell (p:=⟨w.heap.size,6,none⟩) (fun q hq e=>by have:=(hO5.block_lt hq).1; simp only at e; omega) (.slice A5 (k+1) c5)
   have hb8:=bel_set (bel_only hb7 hg5 (fun q hq=>by have:=hr7 q hq; omega)) (Nat.le_refl _) 6 (.slice A5 (k+1) c5)
   clear hO5 hg5 z7 f6 z6 hO7 hb7 hs7
   generalize w5.setCell _ _ = w8 at hO8 hb8 HB5 ⊢
   obtain ⟨A6,c6,hv6,hS6,_,_,_⟩:=hO8.form2 encL_len
   injection hv6 with q1 q2 q3
   subst q1
   clear q2 q3
   have hB8:=HB5.out
   simp only [List.setIfInBounds_toArray,List.set_cons_succ,List.set_cons_zero] at hB8
   have z0:=hB8.cell 0
   have z1:=hB8.cell 1
   have z2:=hB8.cell 2
   have z3:=hB8.cell 3
   have z4:=hB8.cell 4
   have z5:=hB8.cell 5
   have z6:=hB8.cell 6
   simp only [nqg,nqh,nqi] at z0 z1 z2 z3 z4 z5 z6
   clear hB8 HB5 hO8 HBB
   by_cases hk2:k = 256
   ·
    subst hk2
    go_wp2_with fail
    refine (balanced_long ⟨0,0,0,0,0⟩ (-(256:Int)) A5 c5 257 w8 (by omega) (by omega)).mono ?_
    rintro e w9 ⟨rfl,hb9⟩
    have hb10:=bel_adv hb8 hb9
    go_wp2_with fail
    refine (awake_any _).mono ?_
    rintro e w11 ⟨rfl,hb11⟩
    go_wp2
    go_ret
    exact ⟨rfl,bel_adv hb10 hb11⟩
   ·
    have hle:(k:Int)+1≤256:=by omega
    go_wp2_with fail
    refine (slip32_yes k hm1 (by omega) A5 c5 w8 hS6).mono ?_
    rintro e w9 ⟨rfl,hb9⟩
    have hb10:=bel_adv hb8 hb9
    go_wp2_with fail
    refine (awake_any _).mono ?_
    rintro e w11 ⟨rfl,hb11⟩
    go_wp2
    go_ret
    exact ⟨rfl,bel_adv hb10 hb11⟩
end Go.Proofs.YtlhkojcmcmkmaaaGreat
namespace Go.Proofs.YtlhkojcmcmkmaaaGreat.netLimits
open Go.ChangeShapes Go.WideShapes Go.ChangeAt Go.RowKit
open Go.ChangeMaps (open_string shut_string)
theorem own : ownKnob Tryz.prog.godebug = none:=by kernel_rfl
theorem laidOut : laidOutB Tryz.prog = true:=by kernel_rfl
set_option maxRecDepth 100000 in
theorem lifted (os:Os) (started:os.Started) (H:Type) (enc:TypeId × Value→H) :
  ReturnsInHanded {} Tryz.checked os 3 .any (Rows.netLimitsSpec.pre6 enc Tryz.prog Tryz.f3 Rows.netLimitsRow.domain false) (Rows.netLimitsSpec.post enc Tryz.prog Tryz.f3 false true false false):=by
 refine returnsInHanded_of_change (C:=Tryz.checked) own started (by kernel_rfl) Tryz.func3
  (ChangeSpec.witness6 (enc:=enc) (C:=Tryz.checked) false ⟨#[],#[.int .i64 0],[]⟩ 8 (by kernel_rfl) (by kernel_rfl) (by kernel_rfl) (by kernel_rfl)) ?_
 intro W base args ds gs before hval0 hW _ _
 have hval:∀ (j:Nat) t v,Tryz.f3.params[j]? = some t→args[j]? = some v→Value.okWide Tryz.prog W .any base t v:=hval0
 have hW':=hW
 obtain ⟨p,q,hA0,hV,rfl,_,_⟩:=hW
 have hA:DataW.TrodAll enc Tryz.prog W 0 (fun _=>true) true Tryz.f3.params.toList args.toList ds p:=hA0
 rw [Tryz.params3] at hA hval
 obtain ⟨v0,vs0,d0,ds0,p0,q0,hargs,rfl,rfl,h0,r0⟩:=trodAll_cons hA
 obtain ⟨rfl,rfl,rfl⟩:=trodAll_nil r0
 obtain rfl:args = #[v0]:=by cases args; simp_all
 obtain ⟨rfl,rfl⟩:=trodVars_none hV
 obtain ⟨n0,rfl,rfl,rfl,wn0⟩:=open_int Tryz.underlying3 (hval 0 3 v0 rfl rfl) h0
 clear hA0 hval0
 refine (limits32_walk n0 W).mono fun e W' ⟨he,bel⟩=>?_
 subst he
 exact ⟨_,rfl,_,_,_,[],_,[],hW',trodAll_mk1 (shut_bool Tryz.underlying4 _),(trodAll_cons_mk (shut_int Tryz.underlying3 wn0) trodAll_mk0),rfl,bel.frame _,fun h=>by cases h⟩
theorem t4 : (Rows.netLimitsRow.inPlace == Tryz.prog.inPlace 3) = true:=by kernel_rfl
theorem t5 : (Rows.netLimitsRow.unfollowed == Tryz.prog.unfollowed 3) = true:=by kernel_rfl
theorem t6 : (Rows.netLimitsRow.recurses == Tryz.prog.recurses 3) = true:=by kernel_rfl
theorem t7 : (Rows.netLimitsRow.named == Tryz.prog.varsNamed 3) = true:=by kernel_rfl
theorem t8 : (Rows.netLimitsRow.pinned == Rows.netLimitsRow.pinnedBy) = true:=by kernel_rfl
theorem t9 : (Rows.netLimitsRow.lifted == Tryz.prog.liftsFinal) = true:=by kernel_rfl
theorem tc : joinedFacts Tryz.prog 3 Tryz.f3 Rows.netLimitsSpec Rows.netLimitsRow = true:=by
 unfold joinedFacts
 rw [t4,t5,t6,t7,t8,t9]
 kernel_rfl
theorem tf : Tryz.pinned.checked.prog.funcNamed Rows.netLimitsRow.func = some 3:=by kernel_rfl
theorem over : Rows.netLimitsRow.holds Tryz.pinned (OpenSpec.ofChange Rows.netLimitsSpec) :=
 OpenClaim.holds_of_wide 3 Tryz.f3 rfl rfl rfl rfl rfl rfl rfl ⟨rfl,rfl,rfl,rfl,rfl⟩ rfl rfl rfl rfl rfl tf Tryz.func3 tc
  (of_decide_eq_true (by kernel_rfl)) (by unfold Func.isWrapper; first | (rw [if_pos (by decide +kernel)]; kernel_rfl) | (rw [if_neg (by decide +kernel)]; exact ⟨rfl,rfl⟩))
  (fun os started H enc _=>lifted os started H enc)
theorem proved : Rows.NetLimitsSaid:=over
#print axioms proved
end Go.Proofs.YtlhkojcmcmkmaaaGreat.netLimits
