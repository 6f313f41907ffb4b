/- Joined texts: P29b AlcS R31c SrvP. Conditions: as stated. -/
import Derived.Test.YtlhkojcmcmkmaaaGreatJNetT
import Derived.Test.YtlhkojcmcmkmaaaGreatJNetP
import Derived.Test.YtlhkojcmcmkmaaaGreatJRec
import Derived.Test.YtlhkojcmcmkmaaaGreatJAlc
import Derived.Test.YtlhkojcmcmkmaaaGreatJNetS
import Derived.Test.YtlhkojcmcmkmaaaGreatJDedV
import Derived.Test.YtlhkojcmcmkmaaaGreatJStabP
namespace Go.Proofs.YtlhkojcmcmkmaaaGreat
open Go.RowKit
set_option maxHeartbeats 4000000 in
theorem aboveP29 (m r d mode : Int) (w:World) (m0:0≤m) (m1:m≤1000000000000) (r0:0≤r) (r1:r≤1000000000000) (h0:0≤mode) (h1:mode≤6) :
  Calls Tryz.prog 256 #[.int .i64 m,.int .i64 r,.int .i64 d,.int .i64 mode] w fun e w'=>e = .returned (.bool (abvB m r d mode))∧w = w':=by
 have HA:Hid (abvB m r d mode = if r = 0 then false else if mode = 1 ∨ mode = 3 then true else if mode = 4 then decide (d≤2 * r) else if mode = 5 then decide (d < 2 * r) else if mode = 6 then decide (d < 2 * r) || (decide (2 * r = d) && decide (m % 2 = 1)) else false):=rfl
 have ht:m.tmod 2 = m % 2:=Int.tmod_eq_emod_of_nonneg m0
 have HM:=Lib.hid ht
 clear ht
 have hmodes:mode = 0 ∨ mode = 1 ∨ mode = 2 ∨ mode = 3 ∨ mode = 4 ∨ mode = 5 ∨ mode = 6:=by omega
 clear h0 h1
 rcases hmodes with rfl | rfl | rfl | rfl | rfl | rfl | rfl
 all_goals
  go_enter Tryz.func256,Tryz.ntmps256
  go_wp2
  all_goals
   go_ret
   refine ⟨?_,rfl⟩
   rw [HA.out]
   have HM2:=HM.out
   simp only [HM2,beq_iff_eq,beq_eq_false_iff_ne,ne_eq] at *
   clear HA HM
   first | (simp_all; done) | (simp_all; rfl)
set_option maxRecDepth 100000 in
set_option maxHeartbeats 2000000 in
theorem taxP29 (A:Option Addr) (cap:Nat) (t:List BrT) (inc unit mode : Int) (w:World) (h:SliceOf encBr 2 w w.heap.size A t) (hB:BrOk t) (h0:0≤inc) (h1:inc≤1000000000000) (u0:1≤unit) (u1:unit≤1000000) (m0:0≤mode) (m1:mode≤6) :
  Calls Tryz.prog 228 #[.slice A t.length cap,.int .i64 inc,.int .i64 unit,.int .i64 mode] w fun e w'=>e = .returned (.tuple #[.int .i64 (taxN t inc unit mode),.int .i64 0])∧Below w.heap.size w w':=by
 obtain ⟨x0,x1⟩:=exTo_bd (inc:=inc) hB h0 (Nat.le_refl _)
 have hx:exTo t inc t.length = exactN t inc:=rfl
 rw [hx] at x0 x1
 have x2:exactN t inc≤1000000000000000000:=by omega
 have HT:Hid (taxN t inc unit mode = (exactN t inc / (1000000 * unit)+if abvB (exactN t inc / (1000000 * unit)) (exactN t inc % (1000000 * unit)) (1000000 * unit) mode = true then 1 else 0) * unit):=by
  show taxN t inc unit mode = _
  rw [taxN,rnd_abv x0 (by omega) m0 m1]
 have hC:=exactP29 A cap t inc w h hB h0 h1
 clear hx x1
 generalize exactN t inc = n at *
 have e1:n.tdiv (1000000 * unit) = n / (1000000 * unit):=Int.tdiv_eq_ediv_of_nonneg x0
 have e2:n.tmod (1000000 * unit) = n % (1000000 * unit):=Int.tmod_eq_emod_of_nonneg x0
 have r0:=Int.emod_nonneg n (show 1000000 * unit ≠ 0 by omega)
 have r1:=Int.emod_lt_of_pos n (show 0 < 1000000 * unit by omega)
 have q0:0≤n / (1000000 * unit):=Int.ediv_nonneg x0 (by omega)
 have k3:=Int.ediv_mul_le n (show (1000000 * unit) ≠ 0 by omega)
 have k4:n / (1000000 * unit) * (1000000 * unit) = 1000000 * (n / (1000000 * unit) * unit):=by
  rw [← Int.mul_assoc,Int.mul_comm _ 1000000,Int.mul_assoc]
 have p0:0≤n / (1000000 * unit) * unit:=Int.mul_nonneg q0 (by omega)
 have p1:n / (1000000 * unit) * unit≤1000000000000:=by omega
 have p2:(n / (1000000 * unit)+1) * unit = n / (1000000 * unit) * unit+unit:=by rw [Int.add_mul,Int.one_mul]
 have p3:0≤(n / (1000000 * unit)+1) * unit:=by omega
 have p4:(n / (1000000 * unit)+1) * unit≤1000001000000:=by omega
 have q1:n / (1000000 * unit)≤1000000000000:=by
  have:n / (1000000 * unit) * 1≤n / (1000000 * unit) * unit:=Int.mul_le_mul_of_nonneg_left u0 q0
  omega
 have hA:=fun w=>aboveP29 (n / (1000000 * unit)) (n % (1000000 * unit)) (1000000 * unit) mode w q0 q1 r0 (by omega) m0 m1
 have HC:=Lib.hid hC
 have HAB:=Lib.hid hA
 have hdd:1000000 * unit≤1000000000000:=by omega
 have hd0:((1000000 * unit:Int) == 0) = false:=by rw [beq_eq_false_iff_ne]; omega
 clear k3 k4 p2 hC hA
 go_enter Tryz.func228,Tryz.ntmps228
 go_wp2_with fail
 refine Calls.mono HC.out ?_
 rintro e w1 ⟨rfl,hb1⟩
 clear HC
 go_wp2
 go_quiet (fail)
 generalize n / (1000000 * unit) = q at *
 generalize n % (1000000 * unit) = r at *
 cases hab:abvB q r (1000000 * unit) mode
 all_goals
  have HT2:=HT.out
  rw [hab] at HT2
  simp only [if_true,if_false,Bool.false_eq_true,Int.add_zero] at HT2
  have HT3:=Lib.hid HT2
  clear HT2
  go_wp2_with fail
  refine Calls.mono (HAB.out _) ?_
  rintro e w2 ⟨rfl,rfl⟩
  rw [hab]
  clear hab HAB
  go_wp2
  go_ret2
  exact ⟨by rw [HT3.out]; rfl,below_drewN hb1 _⟩
theorem flatMap_set2 {α:Type} {enc:α→List Value} (hk : ∀ x,(enc x).length = 2) (y:α) (a b : Value) (hy:enc y = [a,b]) : ∀ (ys:List α) (j:Nat),j < ys.length→(ys.set j y).flatMap enc = ((ys.flatMap enc).set (j * 2) a).set (j * 2+1) b:=by
 intro ys
 induction ys with
 | nil=>intro j hj; simp at hj
 | cons x r ih =>
  intro j hj
  obtain ⟨x0,x1,hx⟩ : ∃ x0 x1,enc x = [x0,x1]:=by
   have:=hk x
   match hx:enc x,this with
   | [x0,x1],_=>exact ⟨x0,x1,rfl⟩
  cases j with
  | zero=>simp [hy,hx]
  | succ j =>
   rw [List.set_cons_succ,List.flatMap_cons,List.flatMap_cons,ih j (by simpa using hj),hx]
   rw [show (j+1) * 2 = j * 2+2 by omega,show j * 2+2+1 = j * 2+1+2 by omega]
   simp [List.set_cons_succ]
theorem Own.set2 {α:Type} {enc:α→List Value} {e:TypeId} {w:World} {base g cap : Nat} {ys:List α} (hk : ∀ x,(enc x).length = 2) {n:Nat} (hn:n = ys.length) (h:Own enc 2 e w base (.slice (some ⟨g,0,none⟩) n cap) ys) {j:Nat} (hj:j < ys.length) (y:α) (a b : Value) (hy:enc y = [a,b]) :
  Own enc 2 e ((w.setCell ⟨g,j * 2,none⟩ a).setCell ⟨g,j * 2+1,none⟩ b) base (.slice (some ⟨g,0,none⟩) n cap) (ys.set j y):=by
 subst hn
 unfold Own
 rw [flatMap_set2 hk y a b hy ys j hj,List.length_set]
 exact row_set (row_set h _ _) _ _
theorem Own.known {α:Type} {enc:α→List Value} {k:Nat} {e:TypeId} {w:World} {base:Nat} {v:Value} {xs:List α} (h:Own enc k e w base v xs) (hne:xs ≠ []) : ∃ g cap,v = .slice (some ⟨g,0,none⟩) xs.length cap∧base≤g∧g < w.heap.size∧(∀ i,w.frozen? ⟨g,i,none⟩ = false)∧xs.length≤cap:=by
 rcases h.2 with ⟨_,h0⟩ | ⟨g,cap,cur,hv,hb,hg,hn,_,_,_⟩
 ·
  exact absurd (List.eq_nil_of_length_eq_zero h0) hne
 ·
  exact ⟨g,cap,hv,hb,(Array.getElem?_eq_some_iff.1 hg).1,fun i=>by simp [World.frozen?,hg],hn⟩
set_option maxRecDepth 100000 in
set_option maxHeartbeats 4000000 in
theorem scaleP29 (A:Option Addr) (cap:Nat) (t:List BrT) (num den : Int) (w:World) (h:SliceOf encBr 2 w w.heap.size A t) (hB:BrOk t) (hn:0≤num) (hd:1≤den) (hnd:num≤den) (hd1:den≤53) :
  Calls Tryz.prog 229 #[.slice A t.length cap,.int .i64 num,.int .i64 den] w fun e w'=>∃ v,e = .returned (.tuple #[v,.int .i64 0])∧Own encBr 2 127 w' w.heap.size v (scaleN t num den)∧Below w.heap.size w w':=by
 have HB:=Lib.hid hB
 have hl:=hB.len
 have HC:=Lib.hid (validP29 A cap t w h hB)
 have hd0:(den == 0) = false:=by rw [beq_eq_false_iff_ne]; omega
 clear hB
 go_enter Tryz.func229,Tryz.ntmps229
 go_wp2_with fail
 refine Calls.mono HC.out ?_
 rintro e w1 ⟨rfl,hbel1⟩
 have hS1:SliceOf encBr 2 w1 w1.heap.size A t:=h.adv hbel1
 have hws:=hbel1.size
 clear HC h
 go_wp2
 go_loopw [8,32] (fun v i wr=>∃ k:Nat,k≤t.length∧i = .int .i64 k∧Own encBr 2 127 wr w1.heap.size v (scP t num den k)∧Below w1.heap.size w1 wr) (fun _ i _=>t.length - (intOf i).toNat)
 case atStart=>exact ⟨0,by omega,rfl,Own.nil_ _ _,Below.refl _ _⟩
 case round =>
  obtain ⟨k,hk,rfl,hown,hbel⟩:=hrel
  have hSk:=hS1.adv hbel
  have hbs:=hbel.size
  by_cases hlt:k < t.length
  ·
   obtain ⟨b,off,rfl,hb,hc⟩:=hSk.at_ hlt
   have c0:=hc 0 _ rfl
   have c1:=hc 1 _ rfl
   simp only [Nat.add_zero] at c0
   have h4:=HB.out.nonneg hlt
   have h5:=HB.out.hi k hlt
   have hsf:scF t num den k = t[k].frm * num / den:=by rw [scF,brD hlt]
   rw [brD hlt] at h4 h5
   have p0:0≤t[k].frm * num:=Int.mul_nonneg h4 hn
   have p1:t[k].frm * num≤1000000000000 * 53:=Int.mul_le_mul h5 (by omega) hn (by omega)
   have e1:(t[k].frm * num).tdiv den = t[k].frm * num / den:=Int.tdiv_eq_ediv_of_nonneg p0
   obtain ⟨s0,s1⟩:=scF_bd (t:=t) HB.out hn hd hnd hlt
   rw [hsf] at s0 s1
   rw [brD hlt] at s1
   have hki:(k:Int) < (t.length:Int):=by omega
   have HSF:=Lib.hid hsf
   have hlen:=scP_len (t:=t) (num:=num) (den:=den) k
   clear hc hsf
   generalize hq:t[k].frm * num / den = sc at *
   clear hq
   go_upto_region 10 with fail
   have hB2:=Blk.new wr 127 #[.int .i64 sc,.int .i64 t[k].rate]
   have hbel2:=bel_alloc hbel (.cells #[.int .i64 sc,.int .i64 t[k].rate] 127)
   have hown2:=hown.alloc (.cells #[.int .i64 sc,.int .i64 t[k].rate] 127)
   have hw1s:=hB2.lt
   have hr7:=fun q hq=>(hown.block_lt (g:=q) hq)
   generalize wr.alloc (.cells #[.int .i64 sc,.int .i64 t[k].rate] 127) = W at hB2 hbel2 hown2 hw1s ⊢
   generalize wr.heap.size = gb at *
   clear hown hbel hSk c0 c1
   have z0:=hB2.cell 0
   have z1:=hB2.cell 1
   simp only [nqg,nqh,nqi] at z0 z1
   clear hB2
   rcases k with _ | m
   ·
    have HP:Hid (scP t num den 1 = [⟨sc,t[0].rate⟩]):=by rw [Hid,← HSF.out,← brD hlt]; rfl
    simp only [scP] at hown2 hlen
    have hv:u8 = .slice none 0 0 ∨ ∃ g cap,u8 = .slice (some ⟨g,0,none⟩) 0 cap∧cap≤maxLen:=by
     rcases hown2.2 with ⟨h1,_⟩ | ⟨g,cap',cur,h1,_,_,_,hm,_⟩
     ·
      exact .inl h1
     ·
      exact .inr ⟨g,cap',h1,hm⟩
    clear HSF hlen
    rcases hv with rfl | ⟨g,cp,rfl,_⟩
    all_goals
     go_wp2
     go_quiet (fail)
     go_wp2_with (at_builtin; (refine wpList_append_one _ _ 38 ⟨sc,t[0].rate⟩ _ 16 _ infoBr Tryz.underlying38 (hown2.drewN _) encBr_len (by omega) rfl (encBr_one _) (by simp) (by omega) (by simp; omega) (by rfl) (by rfl) (by rfl) (by rfl) (by simp) (by rfl) ?_); intro v2 w6 hown6 hg6)
     go_roundw
     case rel=>exact ⟨1,by omega,by go_num,by rw [HP.out]; exact hown6,bel_only (below_drewN hbel2 _) hg6 (fun g hg=>(hr7 g hg).1)⟩
     case measure=>simp [intOf]; omega
   ·
    obtain ⟨hl0,hlast⟩:=scP_last t num den m
    have hlm:m < t.length:=by omega
    have hS:=scP_same (num:=num) (den:=den) hlt
    have hM:=scP_more (t:=t) (num:=num) (den:=den) (k:=m)
    rw [HSF.out,brD hlt] at hS hM
    clear HSF
    generalize scP t num den (m+1) = xs at *
    obtain ⟨j,hj⟩ : ∃ j,xs.length = j+1:=⟨xs.length - 1,by omega⟩
    have hjl:j < xs.length:=by omega
    rw [hj,Nat.add_sub_cancel] at hlast hS
    rw [List.getElem?_eq_getElem hjl] at hlast
    injection hlast with hlast
    have hyf:xs[j].frm = scF t num den m:=by rw [hlast]
    obtain ⟨g,cp,hv,hgb,hgl,hfr,hcp⟩:=hown2.known (fun e=>by rw [e] at hl0; simp at hl0)
    obtain ⟨A',c',hv',hSx,_,_⟩:=hown2.form encBr_len
    rw [hv] at hv'
    injection hv' with e1' _ e2'
    subst e1' e2' hv
    obtain ⟨b3,off3,hA3,hb3,hc3⟩:=hSx.at_ hjl
    injection hA3 with hA3
    injection hA3 with hA3 hA4
    subst hA3 hA4
    have d0:=hc3 0 _ rfl
    simp only [Nat.zero_add,Nat.add_zero] at d0
    rw [hyf] at d0
    have f0:=hfr (j * 2)
    have f1:=hfr (j * 2+1)
    have d1:=hc3 1 _ rfl
    simp only [Nat.zero_add] at d1
    have hgne:g ≠ gb:=by have:=hr7 g rfl; omega
    have hj24:j < 24:=by omega
    have hjc:j < cp:=by omega
    rw [← hyf] at hS hM d0
    clear hfr hc3 hSx hyf hlast hl0 hlm
    generalize xs[j] = y at *
    rw [hj] at hown2
    have HOW:=Lib.hid hown2
    have HR7:=Lib.hid hr7
    have HJ:=Lib.hid hj
    rw [hj]
    clear hown2 hr7 hj hjl hcp hlen
    by_cases hsk:sc = y.frm
    ·
     have HS:=Lib.hid (hS hsk)
     have hsk':(y.frm == sc) = true:=by simp [hsk]
     clear hS hM hsk
     go_wp2
     go_quiet (fail)
     go_wp2
     go_roundw
     case rel=>exact ⟨m+2,by omega,by go_num,by rw [HS.out]; exact Own.set2 (ys:=xs) encBr_len HJ.out.symm (HOW.out.drewN _) (j:=j) (by have:=HJ.out; omega) _ _ _ rfl,(bel_set (bel_set (below_drewN hbel2 _) (HR7.out _ rfl).1 _ _) (HR7.out _ rfl).1 _ _)⟩
     case measure=>simp [intOf]; omega
    ·
     have HS:=Lib.hid (hM hsk)
     have hsk':(y.frm == sc) = false:=by rw [beq_eq_false_iff_ne]; exact fun e=>hsk e.symm
     clear hS hM hsk
     go_wp2
     go_quiet (fail)
     go_wp2_with (at_builtin; (refine wpList_append_one _ _ 38 ⟨sc,t[m+1].rate⟩ _ 16 _ infoBr Tryz.underlying38 (HOW.out.drewN _) encBr_len (by omega) rfl (encBr_one _) (by have:=HJ.out; omega) (by omega) (by simp; omega) (by rfl) (by rfl) (by rfl) (by rfl) (by simp) (by rfl) ?_); intro v2 w6 hown6 hg6)
     go_roundw
     case rel=>exact ⟨m+2,by omega,by go_num,by rw [HS.out]; exact hown6,bel_only (below_drewN hbel2 _) hg6 (fun g hg=>(HR7.out g hg).1)⟩
     case measure=>simp [intOf]; omega
  ·
   obtain rfl:k = t.length:=by omega
   have HSN:Hid (scaleN t num den = scP t num den t.length):=(scP_all HB.out.ne).symm
   go_wp2
   go_ret2
   exact ⟨_,rfl,by rw [HSN.out]; exact hown.weaken (by omega),bel_adv hbel1 hbel⟩
end Go.Proofs.YtlhkojcmcmkmaaaGreat
namespace Go.Proofs.YtlhkojcmcmkmaaaGreat
theorem bestTo_spec (r:List Int) : ∀ (k j : Nat),j≤k→r.getD j 0 < r.getD (bestTo r k) 0 ∨ (r.getD j 0 = r.getD (bestTo r k) 0∧bestTo r k≤j)
 | 0,j,h=>by
  obtain rfl:j = 0:=by omega
  exact .inr ⟨rfl,Nat.le_refl _⟩
 | k+1,j,h=>by
  have hle:=bestTo_le r k
  rw [bestTo]
  split
  ·
   rename_i hlt
   by_cases e:j = k+1
   ·
    subst e; exact .inr ⟨rfl,Nat.le_refl _⟩
   ·
    rcases bestTo_spec r k j (by omega) with h1 | h1 <;> exact .inl (by omega)
  ·
   rename_i hlt
   by_cases e:j = k+1
   ·
    subst e
    by_cases e2:r.getD (k+1) 0 = r.getD (bestTo r k) 0
    ·
     exact .inr ⟨e2,by omega⟩
    ·
     exact .inl (by omega)
   ·
    exact bestTo_spec r k j (by omega)
theorem bestI_eq (r:List Int) (i:Nat) (hi:i < r.length) (h : ∀ j,j < r.length→r.getD j 0 < r.getD i 0 ∨ (r.getD j 0 = r.getD i 0∧i≤j)) : bestI r = i:=by
 have hb:=bestI_lt (r:=r) (by omega)
 have h1:=h (bestI r) hb
 have h2:=bestTo_spec r (r.length - 1) i (by omega)
 unfold bestI at *
 omega
def incAt (P:List Int) (l:List Nat) : List Int:=l.foldl (fun P i=>P.set i (P.getD i 0+1)) P
theorem incAt_len (P:List Int) (l:List Nat) : (incAt P l).length = P.length:=by
 unfold incAt
 induction l generalizing P with
 | nil=>rfl
 | cons i l ih=>rw [List.foldl_cons,ih]; simp
theorem incAt_snoc (P:List Int) (l:List Nat) (i:Nat) : incAt P (l++[i]) = (incAt P l).set i ((incAt P l).getD i 0+1):=by simp [incAt]
def RestLt (R:List Int) (a b : Nat) : Prop:=R.getD b 0 < R.getD a 0 ∨ (R.getD a 0 = R.getD b 0∧a < b)
theorem alcGo_sorted : ∀ (m:Nat) (ys:List Nat) (P R : List Int),m≤ys.length→(∀ i ∈ ys,i < R.length∧0≤R.getD i 0)→(∀ j,j < R.length→j ∉ ys→R.getD j 0 < 0)→ys.Pairwise (RestLt R)→alcGo m P R = incAt P (ys.take m)
 | 0,ys,P,R,_,_,_,_=>rfl
 | m+1,[],P,R,hm,_,_,_=>by simp at hm
 | m+1,i :: ys,P,R,hm,h1,h2,h3=>by
  obtain ⟨h4,h5⟩:=List.pairwise_cons.1 h3
  obtain ⟨hi,hi0⟩:=h1 i (by simp)
  have hb:bestI R = i:=bestI_eq R i hi fun j hj=>by
   by_cases e:j ∈ i :: ys
   ·
    rcases List.mem_cons.1 e with rfl | e
    ·
     exact .inr ⟨rfl,Nat.le_refl _⟩
    ·
     have:=h4 j e
     unfold RestLt at this; omega
   ·
    have:=h2 j hj e
    exact .inl (by omega)
  have hne:∀ k ∈ ys,k ≠ i:=fun k hk e=>by
   subst e
   have:=h4 k hk
   unfold RestLt at this; omega
  have hget:∀ k,(R.set i (-1)).getD k 0 = if k = i then -1 else R.getD k 0:=fun k=>by
   rw [List.getD_eq_getElem?_getD,List.getElem?_set,List.getD_eq_getElem?_getD]
   by_cases e:i = k
   ·
    subst e; simp [hi]
   ·
    rw [if_neg e,if_neg (fun h=>e h.symm)]
  rw [alcGo,hb]
  refine (alcGo_sorted m ys _ _ (by simp at hm; omega) (fun k hk=>?_) (fun j hj hn=>?_) ?_).trans (by simp [incAt])
  ·
   rw [hget,if_neg (hne k hk),List.length_set]
   exact h1 k (by simp [hk])
  ·
   rw [hget]
   split
   ·
    omega
   ·
    rename_i e
    exact h2 j (by simpa using hj) (by simp [e,hn])
  ·
   refine h5.imp_of_mem fun {a b} ha hb h=>?_
   unfold RestLt at h ⊢
   rw [hget,hget,if_neg (hne a ha),if_neg (hne b hb)]
   exact h
theorem alcM_lt {total:Int} {ws:List Int} (hs:0 < sumI ws) : 0≤alcM total ws∧alcM total ws≤ws.length:=by
 have key:∀ (l:List Int) (s:Int),0 < s→s * sumI (l.map fun x=>total * x / s)+sumI (l.map fun x=>total * x % s) = total * sumI l∧sumI (l.map fun x=>total * x % s)≤l.length * s:=by
  intro l s hs
  induction l with
  | nil=>simp [sumI]
  | cons a l ih =>
   have:=Int.mul_ediv_add_emod (total * a) s
   have h2:=Int.emod_lt_of_pos (total * a) hs
   simp only [List.map_cons,sumI,Int.mul_add,List.length_cons]
   rw [show ((l.length+1:Nat) : Int) * s = l.length * s+s by rw [Int.natCast_add,Int.add_mul]; omega]
   omega
 obtain ⟨k1,k2⟩:=key ws (sumI ws) hs
 have h1:=alcP_sum_le (total:=total) hs
 refine ⟨by unfold alcM; omega,?_⟩
 have e:sumI ws * alcM total ws = sumI (ws.map fun x=>total * x % sumI ws):=by
  unfold alcM alcP
  rw [Int.mul_sub,Int.mul_comm (sumI ws) total]
  omega
 have h3:alcM total ws * sumI ws≤ws.length * sumI ws:=by rw [Int.mul_comm,e]; exact k2
 exact Int.le_of_mul_le_mul_right h3 hs
theorem alloc_sorted {total:Int} {ws:List Int} (hs:0 < sumI ws) (ys:List Nat) (hp:ys.Perm (List.range ws.length)) (hy:ys.Pairwise (RestLt (alcR total ws))) :
  allocN total ws = incAt (alcP total ws) (ys.take (alcM total ws).toNat):=by
 have hm:=alcM_lt (total:=total) hs
 have hl:=hp.length_eq
 rw [List.length_range] at hl
 have hlen:(alcR total ws).length = ws.length:=by simp [alcR]
 refine alcGo_sorted _ ys _ _ (by omega) (fun i hi=>?_) (fun j hj hn=>?_) hy
 ·
  have h1:=hp.mem_iff.1 hi
  rw [List.mem_range] at h1
  refine ⟨by omega,getD_nonneg (fun x hx=>?_) i⟩
  obtain ⟨y,_,rfl⟩:=List.mem_map.1 hx
  exact Int.emod_nonneg _ (by omega)
 ·
  exact absurd (hp.mem_iff.2 (List.mem_range.2 (by omega))) hn
end Go.Proofs.YtlhkojcmcmkmaaaGreat
namespace Go.Proofs.YtlhkojcmcmkmaaaGreat
open Go.RowKit
def grpTo (l:List OrdT) (key:Int × Int) (k:Nat) : List OrdT:=(l.take k).filter (inGrp key)
theorem grpTo_yes {l:List OrdT} {key:Int × Int} {k:Nat} (h:k < l.length) (hg:inGrp key l[k] = true) : grpTo l key (k+1) = grpTo l key k++[l[k]]:=by
 rw [grpTo,List.take_succ_eq_append_getElem h,List.filter_append,grpTo]; simp [hg]
theorem grpTo_len (l:List OrdT) (key:Int × Int) (k:Nat) : (grpTo l key k).length≤(l.filter (inGrp key)).length:=by
 have e:=congrArg (List.filter (inGrp key)) (List.take_append_drop k l)
 rw [List.filter_append] at e
 have:=congrArg List.length e
 rw [List.length_append] at this
 unfold grpTo
 omega
theorem grp_lt {l:List OrdT} {key:Int × Int} {k:Nat} (h:k < l.length) (hg:inGrp key l[k] = true) : (grpTo l key k).length < (l.filter (inGrp key)).length:=by
 have h1:=grpTo_len l key (k+1)
 rw [grpTo_yes h hg] at h1
 simp at h1
 omega
structure SrvAt (l:List OrdT) (S0 left0 : Int) (out:List Elem) (left taken : Int) : Prop where
 pos:∀ x ∈ out,0≤x.amount
 code:∀ x ∈ out,∃ o ∈ l,x.code = o.id
 sorted:SortedE out
 sum:sumE out = S0+taken
 tl:taken+left = left0
 t0:0≤taken
 l0:0≤left
theorem SrvAt.len {l:List OrdT} {S0 left0 : Int} {out:List Elem} {left taken : Int} (h:SrvAt l S0 left0 out left taken) (hl:l.length≤16) : out.length≤16:=Nat.le_trans (nodup_len h.sorted h.code) hl
theorem SrvAt.amt {l:List OrdT} {S0 left0 : Int} {out:List Elem} {left taken : Int} (h:SrvAt l S0 left0 out left taken) (hS:S0≤1000000000) (hL:left0≤1000000000) : ∀ x ∈ out,-1000000000000000≤x.amount∧x.amount≤1000000000000000:=fun x hx=>by
 have h0:=h.pos x hx
 have h1:=(sumE_mem h.pos).2 x hx
 have h2:=h.sum
 have h3:=h.tl
 have h4:=h.l0
 omega
theorem sum_take_le {P:List Int} (h : ∀ x ∈ P,0≤x) (j:Nat) : 0≤sumI (P.take j)∧sumI (P.take j)≤sumI P:=by
 have key:∀ Q:List Int,(∀ x ∈ Q,0≤x)→0≤sumI Q:=fun Q hQ=>(sumI_bd (l:=Q) (B:=sumI Q) (fun x hx=>⟨hQ x hx,sumI_mem hQ hx⟩)).1
 have e:=congrArg sumI (List.take_append_drop j P)
 rw [sumI_append] at e
 have h1:=key (P.take j) (fun x hx=>h x (List.mem_of_mem_take hx))
 have h2:=key (P.drop j) (fun x hx=>h x (List.mem_of_mem_drop hx))
 omega
def SlI (wr:World) (v:Value) (m:List Int) : Prop:=∃ A c,v = .slice A m.length c∧SliceOf encI 1 wr wr.heap.size A m
theorem SlI.adv {w w' : World} {v:Value} {m:List Int} (h:SlI w v m) (hb:Below w.heap.size w w') : SlI w' v m:=by
 obtain ⟨A,c,h1,h2⟩:=h
 exact ⟨A,c,h1,h2.adv hb⟩
structure SrvL (l:List OrdT) (key:Int × Int) (P:List Int) (out:List Elem) (left taken : Int) (k j : Nat) (o:List Elem) (lf tk : Int) : Prop where
 hj:j = (grpTo l key k).length
 ho:o = putsG out (grpTo l key k) (P.take j)
 hlf:lf = left - sumI (P.take j)
 htk:tk = taken+sumI (P.take j)
section
variable {l:List OrdT} {key:Int × Int} {P:List Int} {out o:List Elem} {left taken lf tk:Int} {k j:Nat}
theorem SrvL.lt (h:SrvL l key P out left taken k j o lf tk) (hP:P.length = (l.filter (inGrp key)).length) (hk:k < l.length) (hg:inGrp key l[k] = true) : j < P.length:=by
 rw [hP,h.hj]; exact grp_lt hk hg
end
end Go.Proofs.YtlhkojcmcmkmaaaGreat
namespace Go.Proofs.YtlhkojcmcmkmaaaGreat
open Go.RowKit
def zOd : OrdT:=⟨⟨#[]⟩,0,0,0,0⟩
def keyAt (l:List OrdT) (i:Nat) : Int × Int:=((l.getD i zOd).rank,(l.getD i zOd).day)
def setAll (T:List Int) : List Nat→List Int→List Int
 | i :: g,p :: P=>setAll (T.set i p) g P
 | _,_=>T
def elsP : List OrdT→List Int→List Elem
 | o :: l,t :: T=>if 0 < t then ⟨o.id,t⟩ :: elsP l T else elsP l T
 | _,_=>[]
def partsC (left:Int) (cs:List Int) : List Int:=if left < sumI cs then allocN left cs else cs
def sameK (l:List OrdT) (i j : Nat) : Bool:=decide (keyAt l j = keyAt l i)
def grpP (l:List OrdT) (i:Nat) (r:List Nat) : List Nat:=(i :: r).takeWhile (sameK l i)
def clmP (l:List OrdT) (g:List Nat) : List Int:=g.map fun j=>claimN (l.getD j zOd)
def srvP (l:List OrdT) : Nat→List Nat→Int→List Int→List Int
 | 0,_,_,T=>T
 | _+1,[],_,T=>T
 | n+1,i :: r,left,T=>srvP l n ((i :: r).drop (grpP l i r).length) (left - sumI (partsC left (clmP l (grpP l i r)))) (setAll T (grpP l i r) (partsC left (clmP l (grpP l i r))))
theorem srvP_nil (l:List OrdT) (n:Nat) (left:Int) (T:List Int) : srvP l n [] left T = T:=by cases n <;> rfl
theorem setAll_len : ∀ (g:List Nat) (P T : List Int),(setAll T g P).length = T.length
 | [],P,T=>by cases P <;> rfl
 | i :: g,[],T=>rfl
 | i :: g,p :: P,T=>by rw [setAll,setAll_len g P]; simp
theorem set_getD (T:List Int) (i j : Nat) (v:Int) : (T.set i v).getD j 0 = if i = j∧i < T.length then v else T.getD j 0:=by
 rw [List.getD_eq_getElem?_getD,List.getElem?_set,List.getD_eq_getElem?_getD]
 by_cases e:i = j
 ·
  subst e
  by_cases h:i < T.length
  ·
   simp [h]
  ·
   simp [h]
 ·
  simp [e]
theorem setAll_far {j:Nat} : ∀ (g:List Nat) (P T : List Int),j ∉ g→(setAll T g P).getD j 0 = T.getD j 0
 | [],P,T,_=>by cases P <;> rfl
 | i :: g,[],T,_=>rfl
 | i :: g,p :: P,T,h=>by
  rw [setAll,setAll_far g P _ (fun h1=>h (by simp [h1])),set_getD,if_neg (fun h1=>h (by simp [h1.1]))]
theorem setAll_nonneg : ∀ (g:List Nat) (P T : List Int),(∀ x ∈ P,0≤x)→(∀ x ∈ T,0≤x)→∀ x ∈ setAll T g P,0≤x
 | [],P,T,_,h=>by cases P <;> exact h
 | i :: g,[],T,_,h=>h
 | i :: g,p :: P,T,hP,h=>by
  refine setAll_nonneg g P _ (fun x hx=>hP x (by simp [hx])) (fun x hx=>?_)
  rcases List.mem_or_eq_of_mem_set hx with e | e
  ·
   exact h x e
  ·
   rw [e]; exact hP p (by simp)
theorem setAll_sum : ∀ (g:List Nat) (P T : List Int),g.length = P.length→g.Pairwise (· ≠ ·)→(∀ i ∈ g,i < T.length∧T.getD i 0 = 0)→sumI (setAll T g P) = sumI T+sumI P
 | [],[],T,_,_,_=>by simp [setAll,sumI]
 | [],p :: P,T,h,_,_=>by simp at h
 | i :: g,[],T,h,_,_=>by simp at h
 | i :: g,p :: P,T,h,hn,hz=>by
  obtain ⟨h1,h2⟩:=List.pairwise_cons.1 hn
  obtain ⟨z1,z2⟩:=hz i (by simp)
  rw [setAll,setAll_sum g P _ (by simpa using h) h2 (fun j hj=>?_),sumI_set _ _ _ z1,z2,sumI]
  ·
   omega
  ·
   obtain ⟨y1,y2⟩:=hz j (by simp [hj])
   refine ⟨by simpa using y1,?_⟩
   rw [set_getD,if_neg (fun e=>h1 j hj e.1),y2]
theorem els_codes : ∀ (l:List OrdT) (T:List Int),∀ x ∈ elsP l T,∃ o ∈ l,x.code = o.id
 | [],T,x,h=>by cases T <;> cases h
 | o :: l,[],x,h=>by cases h
 | o :: l,t :: T,x,h=>by
  rw [elsP] at h
  split at h
  ·
   rcases List.mem_cons.1 h with e | e
   ·
    exact ⟨o,by simp,by rw [e]⟩
   ·
    obtain ⟨o',ho,e'⟩:=els_codes l T x e
    exact ⟨o',by simp [ho],e'⟩
  ·
   obtain ⟨o',ho,e'⟩:=els_codes l T x h
   exact ⟨o',by simp [ho],e'⟩
theorem els_zero (l:List OrdT) (n:Nat) : elsP l (List.replicate n 0) = []:=by
 induction l generalizing n with
 | nil=>cases n <;> rfl
 | cons o l ih=>cases n with
  | zero=>rfl
  | succ n=>rw [List.replicate_succ,elsP,if_neg (by omega),ih]
theorem els_put : ∀ (l:List OrdT) (T:List Int) (i:Nat) (p:Int),l.Pairwise (fun a b=>Op.bytesLess a.id.toList b.id.toList = true)→T.length = l.length→i < l.length→T.getD i 0 = 0→putO (elsP l T) (l.getD i zOd) p = elsP l (T.set i p)
 | [],_,i,_,_,_,h,_=>by simp at h
 | o :: l,[],_,_,_,h,_,_=>by simp at h
 | o :: l,t :: T,0,p,hs,hl,_,hz=>by
  obtain ⟨h1,h2⟩:=List.pairwise_cons.1 hs
  obtain rfl:t = 0:=by simpa using hz
  rw [List.set_cons_zero,elsP,elsP,if_neg (by omega),List.getD_cons_zero,putO]
  split
  ·
   have hc:=els_codes l T
   cases e:elsP l T with
   | nil=>rfl
   | cons x r =>
    obtain ⟨o',ho,hx⟩:=hc x (by rw [e]; simp)
    have h3:=h1 o' ho
    have h4:lessE ⟨o.id,p⟩ x = true:=by unfold lessE; rw [hx]; exact h3
    have h5:lessE x ⟨o.id,p⟩ = false:=by
     cases e2:lessE x ⟨o.id,p⟩ with
     | false=>rfl
     | true=>have:=lessE_trans h4 e2; rw [lessE_irrefl] at this; cases this
    have h6:(x.code.toList == o.id.toList) = false:=by
     apply Bool.eq_false_iff.2
     intro e3
     rw [beq_iff_eq] at e3
     unfold lessE at h4 h5
     rw [show Elem.code ⟨o.id,p⟩ = o.id from rfl] at h4 h5
     rw [e3] at h4 h5
     rw [h4] at h5; cases h5
    rw [put,h5,h6]
    rfl
  ·
   rfl
 | o :: l,t :: T,i+1,p,hs,hl,hi,hz=>by
  obtain ⟨h1,h2⟩:=List.pairwise_cons.1 hs
  have ih:=els_put l T i p h2 (by simpa using hl) (by simpa using hi) (by simpa using hz)
  have hmem:l.getD i zOd ∈ l:=by
   have hi':i < l.length:=by simpa using hi
   rw [List.getD_eq_getElem?_getD,List.getElem?_eq_getElem hi']; exact List.getElem_mem hi'
  rw [List.set_cons_succ,elsP,elsP,List.getD_cons_succ,← ih]
  unfold putO
  by_cases hp:0 < p
  ·
   rw [if_pos hp,if_pos hp]
   split
   ·
    have h4:lessE ⟨o.id,t⟩ ⟨(l.getD i zOd).id,p⟩ = true:=h1 _ hmem
    rw [put,h4]; rfl
   ·
    rfl
  ·
   rw [if_neg hp,if_neg hp]
theorem els_puts {l:List OrdT} (hs:l.Pairwise (fun a b=>Op.bytesLess a.id.toList b.id.toList = true)) : ∀ (g:List Nat) (P T : List Int),T.length = l.length→g.Pairwise (· ≠ ·)→(∀ i ∈ g,i < l.length∧T.getD i 0 = 0)→putsG (elsP l T) (g.map fun j=>l.getD j zOd) P = elsP l (setAll T g P)
 | [],P,T,_,_,_=>by cases P <;> rfl
 | i :: g,[],T,_,_,_=>rfl
 | i :: g,p :: P,T,hl,hn,hz=>by
  obtain ⟨h1,h2⟩:=List.pairwise_cons.1 hn
  obtain ⟨z1,z2⟩:=hz i (by simp)
  rw [List.map_cons,putsG,els_put l T i p hs hl z1 z2,setAll]
  refine els_puts hs g P _ (by simpa using hl) h2 (fun j hj=>?_)
  obtain ⟨y1,y2⟩:=hz j (by simp [hj])
  exact ⟨y1,by rw [set_getD,if_neg (fun e=>h1 j hj e.1),y2]⟩
theorem nextK_min {l:List OrdT} {priv:Bool} {last:Int × Int} (hok : ∀ o ∈ l,OrdOk o) {o:OrdT} (ho:o ∈ l) (h1:elig priv o = true) (h2:keyLt last (o.rank,o.day)) : ¬ keyLt (o.rank,o.day) (nextK l priv last)∧(nextK l priv last).1 ≠ 10:=by
 have mono:∀ (m:List OrdT) (p k:Int × Int),¬ keyLt k p→¬ keyLt k (m.foldl (stepK priv last) p):=by
  intro m
  induction m with
  | nil=>intro p k h; exact h
  | cons a m ih =>
   intro p k h
   refine ih _ _ ?_
   unfold stepK
   split
   ·
    rename_i hc
    intro hk
    exact h (keyLt_trans hk hc.2.2)
   ·
    exact h
 have key:∀ (m:List OrdT) (p:Int × Int),o ∈ m→¬ keyLt (o.rank,o.day) (m.foldl (stepK priv last) p):=by
  intro m
  induction m with
  | nil=>intro p h; cases h
  | cons a m ih =>
   intro p h
   rw [List.foldl_cons]
   rcases List.mem_cons.1 h with e | e
   ·
    subst e
    refine mono m _ _ ?_
    unfold stepK
    split
    ·
     exact keyLt_irr _
    ·
     rename_i hc
     intro hk
     exact hc ⟨h1,h2,hk⟩
   ·
    exact ih _ e
 have h3:=key l (10,0) ho
 refine ⟨h3,fun e=>h3 ?_⟩
 have:=(hok o ho).r1
 unfold keyLt
 left
 show o.rank < (nextK l priv last).1
 omega
def OrdLt (l:List OrdT) (a b : Nat) : Prop:=keyLt (keyAt l a) (keyAt l b) ∨ (keyAt l a = keyAt l b∧a < b)
theorem asc_ext : ∀ {a b : List Nat},a.Pairwise (· < ·)→b.Pairwise (· < ·)→(∀ x,x ∈ a ↔ x ∈ b)→a = b
 | [],[],_,_,_=>rfl
 | [],y :: b,_,_,h=>by have:=(h y).2 (by simp); cases this
 | x :: a,[],_,_,h=>by have:=(h x).1 (by simp); cases this
 | x :: a,y :: b,ha,hb,h=>by
  obtain ⟨a1,a2⟩:=List.pairwise_cons.1 ha
  obtain ⟨b1,b2⟩:=List.pairwise_cons.1 hb
  have e:x = y:=by
   rcases List.mem_cons.1 ((h x).1 (by simp)) with e | e
   ·
    exact e
   ·
    rcases List.mem_cons.1 ((h y).2 (by simp)) with e' | e'
    ·
     exact e'.symm
    ·
     have:=b1 x e; have:=a1 y e'; omega
  subst e
  rw [asc_ext a2 b2 (fun z=>?_)]
  have hz:=h z
  simp only [List.mem_cons] at hz
  constructor
  ·
   intro hm
   rcases hz.1 (.inr hm) with e | e
   ·
    have:=a1 z hm; omega
   ·
    exact e
  ·
   intro hm
   rcases hz.2 (.inr hm) with e | e
   ·
    have:=b1 z hm; omega
   ·
    exact e
theorem filter_range (l:List OrdT) (p:OrdT→Bool) : ((List.range l.length).filter fun j=>p (l.getD j zOd)).map (fun j=>l.getD j zOd) = l.filter p:=by
 have h:l = (List.range l.length).map fun j=>l.getD j zOd:=by
  apply List.ext_getElem
  ·
   simp
  ·
   intro i h1 h2
   simp [List.getD_eq_getElem?_getD,List.getElem?_eq_getElem h1]
 conv=>rhs; rw [h]
 rw [List.filter_map]
 rfl
section
variable {l:List OrdT} {priv:Bool}
structure Rest (l:List OrdT) (priv:Bool) (last:Int × Int) (ys:List Nat) : Prop where
 mem:∀ i,i ∈ ys ↔ (i < l.length∧elig priv (l.getD i zOd) = true∧keyLt last (keyAt l i))
 asc:ys.Pairwise (OrdLt l)
theorem getD_mem {l:List OrdT} {i:Nat} (hi:i < l.length) : l.getD i zOd ∈ l:=by
 rw [List.getD_eq_getElem?_getD,List.getElem?_eq_getElem hi]; exact List.getElem_mem hi
theorem Rest.none {last:Int × Int} (h:Rest l priv last []) : (nextK l priv last).1 = 10:=Decidable.byContradiction fun hne=>by
 obtain ⟨o,ho,h1,h2,_⟩:=nextK_mem hne
 obtain ⟨i,hi,e⟩:=List.mem_iff_getElem.1 ho
 have e':l.getD i zOd = o:=by rw [List.getD_eq_getElem?_getD,List.getElem?_eq_getElem hi]; exact e
 have:=(h.mem i).2 ⟨hi,by rw [e']; exact h1,by unfold keyAt; rw [e']; exact h2⟩
 cases this
theorem Rest.next {last:Int × Int} {i:Nat} {r:List Nat} (hok : ∀ o ∈ l,OrdOk o) (h:Rest l priv last (i :: r)) : (nextK l priv last).1 ≠ 10∧nextK l priv last = keyAt l i:=by
 obtain ⟨hi,h1,h2⟩:=(h.mem i).1 (by simp)
 obtain ⟨m1,m2⟩:=nextK_min hok (getD_mem hi) h1 h2
 refine ⟨m2,?_⟩
 obtain ⟨o,ho,e1,e2,e3⟩:=nextK_mem m2
 obtain ⟨j,hj,e⟩:=List.mem_iff_getElem.1 ho
 have e':l.getD j zOd = o:=by rw [List.getD_eq_getElem?_getD,List.getElem?_eq_getElem hj]; exact e
 have hjm:=(h.mem j).2 ⟨hj,by rw [e']; exact e1,by unfold keyAt; rw [e']; exact e2⟩
 have e4:nextK l priv last = keyAt l j:=by rw [e3,← e']; rfl
 rcases List.mem_cons.1 hjm with rfl | hm
 ·
  exact e4
 ·
  have h5:=(List.pairwise_cons.1 h.asc).1 j hm
  rcases h5 with h5 | h5
  ·
   rw [e4] at m1; exact absurd h5 m1
  ·
   rw [e4,h5.1]
theorem takeWhile_filter {α:Type} {p:α→Bool} : ∀ {ys:List α},ys.Pairwise (fun a b=>p a = false→p b = false)→ys.takeWhile p = ys.filter p∧ys.drop (ys.takeWhile p).length = ys.filter (fun x=>!p x)
 | [],_=>⟨rfl,rfl⟩
 | a :: ys,h=>by
  obtain ⟨h1,h2⟩:=List.pairwise_cons.1 h
  by_cases ha:p a = true
  ·
   obtain ⟨i1,i2⟩:=takeWhile_filter h2
   rw [List.takeWhile_cons_of_pos ha,List.filter_cons_of_pos ha,List.filter_cons_of_neg (by simp [ha]),i1]
   refine ⟨rfl,?_⟩
   rw [List.length_cons,List.drop_succ_cons,← i1,i2]
  ·
   have ha':p a = false:=by simpa using ha
   have hall:∀ x ∈ ys,p x = false:=fun x hx=>h1 x hx ha'
   rw [List.takeWhile_cons_of_neg ha,List.filter_cons_of_neg ha,List.filter_cons_of_pos (by simp [ha'])]
   refine ⟨(List.filter_eq_nil_iff.2 fun x hx=>by simp [hall x hx]).symm,?_⟩
   rw [List.length_nil,List.drop_zero,List.filter_eq_self.2 fun x hx=>by simp [hall x hx]]
theorem keyLt_tri (a b : Int × Int) (h1 : ¬ keyLt a b) (h2 : ¬ keyLt b a) : a = b:=by
 unfold keyLt at *
 ext <;> omega
theorem Rest.grp {last:Int × Int} {i:Nat} {r:List Nat} (h:Rest l priv last (i :: r)) : (grpP l i r).Pairwise (· < ·)∧(∀ j,j ∈ grpP l i r ↔ (j < l.length∧keyAt l j = keyAt l i))∧Rest l priv (keyAt l i) ((i :: r).drop (grpP l i r).length):=by
 obtain ⟨hi,h1,h2⟩:=(h.mem i).1 (by simp)
 have hmin:∀ j ∈ i :: r,j = i ∨ OrdLt l i j:=fun j hj=>by
  rcases List.mem_cons.1 hj with e | e
  ·
   exact .inl e
  ·
   exact .inr ((List.pairwise_cons.1 h.asc).1 j e)
 have hpw:(i :: r).Pairwise (fun a b=>sameK l i a = false→sameK l i b = false):=by
  refine h.asc.imp_of_mem fun {a b} ha hb hab hna=>?_
  unfold sameK at *
  rw [decide_eq_false_iff_not] at *
  intro hbe
  rcases hmin a ha with rfl | hia
  ·
   exact hna rfl
  ·
   rcases hia with hia | hia
   ·
    rcases hab with hab | hab
    ·
     rw [hbe] at hab
     exact keyLt_irr _ (keyLt_trans hia hab)
    ·
     rw [hab.1,hbe] at hia
     exact keyLt_irr _ hia
   ·
    exact hna hia.1.symm
 obtain ⟨t1,t2⟩:=takeWhile_filter hpw
 unfold grpP
 rw [t2,t1]
 have hm:∀ j,j ∈ (i :: r).filter (sameK l i) ↔ (j < l.length∧keyAt l j = keyAt l i):=fun j=>by
  rw [List.mem_filter,h.mem]
  unfold sameK
  rw [decide_eq_true_eq]
  constructor
  ·
   rintro ⟨⟨a,_,_⟩,b⟩; exact ⟨a,b⟩
  ·
   rintro ⟨a,b⟩
   refine ⟨⟨a,?_,by rw [b]; exact h2⟩,b⟩
   have e:(l.getD j zOd).rank = (l.getD i zOd).rank:=congrArg Prod.fst b
   unfold elig at h1 ⊢
   rw [e]; exact h1
 refine ⟨?_,hm,fun j=>?_,?_⟩
 ·
  refine (h.asc.filter _).imp_of_mem fun {a b} ha hb hab=>?_
  have e1:=((hm a).1 ha).2
  have e2:=((hm b).1 hb).2
  rcases hab with hab | hab
  ·
   rw [e1,e2] at hab; exact absurd hab (keyLt_irr _)
  ·
   exact hab.2
 ·
  rw [List.mem_filter,h.mem]
  unfold sameK
  constructor
  ·
   rintro ⟨⟨a,b,c⟩,d⟩
   refine ⟨a,b,?_⟩
   have hji:=(h.mem j).2 ⟨a,b,c⟩
   have d':¬ keyAt l j = keyAt l i:=by simpa using d
   rcases hmin j hji with e | e
   ·
    exact absurd (by rw [e]) d'
   ·
    rcases e with e | e
    ·
     exact e
    ·
     exact absurd e.1.symm d'
  ·
   rintro ⟨a,b,c⟩
   refine ⟨⟨a,b,keyLt_trans h2 c⟩,?_⟩
   have:¬ keyAt l j = keyAt l i:=fun e=>by rw [e] at c; exact keyLt_irr _ c
   simpa using this
 ·
  exact h.asc.filter _
theorem Rest.clm {last:Int × Int} {i:Nat} {r:List Nat} (h:Rest l priv last (i :: r)) : l.filter (inGrp (keyAt l i)) = (grpP l i r).map fun j=>l.getD j zOd:=by
 obtain ⟨h1,h2,_⟩:=h.grp
 rw [← filter_range l (inGrp (keyAt l i))]
 congr 1
 refine asc_ext (List.pairwise_lt_range.filter _) h1 fun j=>?_
 rw [List.mem_filter,List.mem_range,h2]
 constructor
 ·
  rintro ⟨a,b⟩
  refine ⟨a,?_⟩
  simp only [inGrp,Bool.and_eq_true,decide_eq_true_eq] at b
  exact Prod.ext b.1 b.2
 ·
  rintro ⟨a,b⟩
  refine ⟨a,?_⟩
  have e1:=congrArg Prod.fst b
  have e2:=congrArg Prod.snd b
  simp only [inGrp,Bool.and_eq_true,decide_eq_true_eq]
  exact ⟨e1,e2⟩
structure TkOk (l:List OrdT) (T:List Int) (ys:List Nat) : Prop where
 len:T.length = l.length
 pos:∀ x ∈ T,0≤x
 zero:∀ i ∈ ys,T.getD i 0 = 0
theorem srv_eq (hok:OrdsOk l) : ∀ (n:Nat) (ys:List Nat) (last:Int × Int) (left taken : Int) (T:List Int),ys.length≤n→0≤left→Rest l priv last ys→TkOk l T ys →
  srv l priv (cntK l priv last) last left (elsP l T) taken = (elsP l (srvP l n ys left T),taken+(sumI (srvP l n ys left T) - sumI T))∧(srvP l n ys left T).length = l.length∧(∀ x ∈ srvP l n ys left T,0≤x)∧∀ j,j ∉ ys→(srvP l n ys left T).getD j 0 = T.getD j 0
 | n,[],last,left,taken,T,_,_,hR,hT=>by
  rw [srvP_nil,srv_stop _ hR.none]
  exact ⟨by rw [Int.sub_self,Int.add_zero],hT.len,hT.pos,fun _ _=>rfl⟩
 | 0,i :: r,last,left,taken,T,h,_,_,_=>by simp at h
 | n+1,i :: r,last,left,taken,T,hn,h0,hR,hT=>by
  obtain ⟨n1,n2⟩:=hR.next hok.ok
  obtain ⟨g1,g2,g3⟩:=hR.grp
  have hc:=hR.clm
  have hcl:clmG l (keyAt l i) = clmP l (grpP l i r):=by rw [clmG,hc,clmP,List.map_map]; rfl
  have hp:partsG l (keyAt l i) left = partsC left (clmP l (grpP l i r)):=by rw [partsG,hcl]; rfl
  obtain ⟨p1,p2,p3⟩:=parts_bd (k:=keyAt l i) hok.ok h0
  have hpl:=parts_len l (keyAt l i) left
  rw [hp] at p1 p2 p3 hpl
  rw [hc,List.length_map] at hpl
  have hsub:∀ j ∈ grpP l i r,j ∈ i :: r:=fun j hj=>(List.takeWhile_sublist _).subset hj
  have hne:(grpP l i r).Pairwise (· ≠ ·):=g1.imp fun h=>by omega
  have hz:∀ j ∈ grpP l i r,j < l.length∧T.getD j 0 = 0:=fun j hj=>⟨((g2 j).1 hj).1,hT.zero j (hsub j hj)⟩
  have hglen:0 < (grpP l i r).length:=by
   have:i ∈ grpP l i r:=(g2 i).2 ⟨((hR.mem i).1 (by simp)).1,rfl⟩
   exact List.length_pos_of_mem this
  have hnin:∀ j ∈ (i :: r).drop (grpP l i r).length,j ∉ grpP l i r:=fun j hj hg=>by
   have a:=((g3.mem j).1 hj).2.2
   rw [((g2 j).1 hg).2] at a
   exact keyLt_irr _ a
  rw [srv_step n1,n2,hp,hc,els_puts hok.asc _ _ _ hT.len hne hz,srvP]
  obtain ⟨q1,q2,q3,q4⟩:=srv_eq hok n ((i :: r).drop (grpP l i r).length) (keyAt l i) (left - sumI (partsC left (clmP l (grpP l i r)))) (taken+sumI (partsC left (clmP l (grpP l i r)))) (setAll T (grpP l i r) (partsC left (clmP l (grpP l i r))))
   (by rw [List.length_drop]; omega) (by omega) g3 ⟨by rw [setAll_len]; exact hT.len,setAll_nonneg _ _ _ p1 hT.pos,fun j hj=>by rw [setAll_far _ _ _ (hnin j hj)]; exact hT.zero j (List.mem_of_mem_drop hj)⟩
  refine ⟨?_,q2,q3,fun j hj=>?_⟩
  ·
   rw [q1,setAll_sum _ _ _ hpl.symm hne (fun j hj=>⟨by rw [hT.len]; exact (hz j hj).1,(hz j hj).2⟩)]
   congr 1
   omega
  ·
   rw [q4 j (fun h=>hj (List.mem_of_mem_drop h)),setAll_far _ _ _ (fun h=>hj (hsub j h))]
end
theorem rest_start {l:List OrdT} {priv:Bool} (hok : ∀ o ∈ l,OrdOk o) {ys:List Nat} (hp:ys.Perm ((List.range l.length).filter fun i=>elig priv (l.getD i zOd))) (h:ys.Pairwise (OrdLt l)) : Rest l priv (-1,-1) ys:=by
 refine ⟨fun i=>?_,h⟩
 rw [hp.mem_iff,List.mem_filter,List.mem_range]
 constructor
 ·
  rintro ⟨a,b⟩
  have:=(hok _ (getD_mem a)).r0
  exact ⟨a,b,.inl (by show (-1:Int) < (l.getD i zOd).rank; omega)⟩
 ·
  rintro ⟨a,b,_⟩
  exact ⟨a,b⟩
theorem attach_eq {s:ShT} {net deps : Int} {l:List OrdT} (hl:OrdsOk l) (ys zs : List Nat)
  (hy:Rest l true (-1,-1) ys) (hz:Rest l false (-1,-1) zs) (T1:List Int) (e1:T1 = srvP l l.length ys (net - lowN s net deps) (List.replicate l.length 0)) (hyl:ys.length≤l.length) (hzl:zs.length≤l.length) :
  attachN s net deps l = elsP l (srvP l l.length zs (max (net - protN s net deps - sumI T1) 0) T1)∧TkOk l T1 zs∧TkOk l (srvP l l.length zs (max (net - protN s net deps - sumI T1) 0) T1) []∧0≤net - lowN s net deps:=by
 have hlow:lowN s net deps≤net:=by unfold lowN; omega
 have z0:sumI (List.replicate l.length 0) = 0:=by
  generalize l.length = n
  induction n with
  | zero=>rfl
  | succ n ih=>rw [List.replicate_succ,sumI,ih]; rfl
 obtain ⟨a1,a2,a3,a4⟩:=srv_eq hl l.length ys (-1,-1) (net - lowN s net deps) 0 (List.replicate l.length 0) hyl (by omega) hy ⟨by simp,by simp,fun i _=>by
  rw [List.getD_eq_getElem?_getD,List.getElem?_replicate]; split <;> rfl⟩
 rw [← e1,els_zero,z0] at a1
 have hT:TkOk l T1 zs:=by
  rw [e1]
  refine ⟨a2,a3,fun j hj=>?_⟩
  rw [a4 j,List.getD_eq_getElem?_getD,List.getElem?_replicate]
  ·
   split <;> rfl
  ·
   intro hjy
   have h1:=((hz.mem j).1 hj).2.1
   have h2:=((hy.mem j).1 hjy).2.1
   unfold elig at h1 h2
   rw [beq_iff_eq] at h1 h2
   rw [h1] at h2; cases h2
 obtain ⟨b1,b2,b3,_⟩:=srv_eq hl l.length zs (-1,-1) (max (net - protN s net deps - sumI T1) 0) 0 T1 hzl (by omega) hz hT
 refine ⟨?_,hT,⟨b2,b3,by simp⟩,by omega⟩
 unfold attachN serveN
 rw [a1]
 simp only [Int.zero_add,Int.sub_zero]
 rw [b1]
end Go.Proofs.YtlhkojcmcmkmaaaGreat
