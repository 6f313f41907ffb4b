/- Joined texts: Round Round2 Round3. Conditions: as stated. -/
import Derived.WalkKit
import Derived.WalkSpells
import Derived.WalkLawsBesides
import Derived.Deep.QuietTactic
import Derived.BigQuiet
import Derived.Lib.Hide
import Derived.Test.YtjncpgbhokjbfaaGreatRows
import Derived.Test.YtjncpgbhokjbfaaGreatJ01
import Derived.Test.YtjncpgbhokjbfaaGreatJ02
namespace Go.Proofs.YtjncpgbhokjbfaaGreat
open Go.RowKit
def upB (low half : Int) (pos:Bool) (mode:Int) : Bool :=
 if mode = 0 then !pos else if mode = 1 then pos else if mode = 2 then false else if mode = 3 then true else if half ≠ 0 then decide (0 < half) else if mode = 4 then pos else if mode = 5 then !pos else low.tmod 2 != 0
def rnd (num den mode : Int) : Int:=if num % den = 0 then num / den else if upB (num / den) (cmpI (num % den) (den - num % den)) (decide (0 < num)) mode then num / den+1 else num / den
def modeB (m:Int) : Bool:=decide (0≤m∧m≤6)
def partOk (a num den unit mode : Int) : Bool:=decide (-1000000000000≤a∧a≤1000000000000∧0≤num∧num≤1000000∧1≤den∧den≤1000000∧1≤unit∧unit≤1000000) && modeB mode
def partX (a num den unit mode : Int) : Int:=rnd (a * num) (den * unit) mode * unit
def partE (a num den unit mode : Int) : Int:=if partOk a num den unit mode = false then 2 else if maxN (partX a num den unit mode) = false then 4 else 0
def partN (a num den unit mode : Int) : Int:=if partE a num den unit mode = 0 then partX a num den unit mode else 0
theorem tdiv_pos (v n : Int) (hn:0 < n) (h:0≤v.tmod n) : v.tdiv n = v / n∧v.tmod n = v % n:=by
 have h1:=Int.tmod_add_mul_tdiv v n
 have h2:=Int.emod_add_mul_ediv v n
 have h3:=Int.emod_nonneg v (show n ≠ 0 by omega)
 have h4:=Int.emod_lt_of_pos v hn
 have h5:=Int.tmod_lt_of_pos v hn
 have h6:n * (v.tdiv n - v / n) = v % n - v.tmod n:=by
  rw [Int.mul_sub]; omega
 have h7:v.tdiv n - v / n = 0:=by
  rcases Int.lt_trichotomy (v.tdiv n - v / n) 0 with h | h | h
  ·
   have:n * (v.tdiv n - v / n)≤n * (-1):=Int.mul_le_mul_of_nonneg_left (by omega) (by omega)
   omega
  ·
   exact h
  ·
   have:n * 1≤n * (v.tdiv n - v / n):=Int.mul_le_mul_of_nonneg_left (by omega) (by omega)
   omega
 rw [h7] at h6; omega
theorem tdiv_neg (v n : Int) (hn:0 < n) (h:v.tmod n < 0) : v.tdiv n - 1 = v / n∧v.tmod n+n = v % n:=by
 have h1:=Int.tmod_add_mul_tdiv v n
 have h2:=Int.emod_add_mul_ediv v n
 have h3:=Int.emod_nonneg v (show n ≠ 0 by omega)
 have h4:=Int.emod_lt_of_pos v hn
 have h5 : -n < v.tmod n:=by
  have:=Int.lt_tmod_of_pos v hn
  omega
 have h6:n * (v.tdiv n - v / n - 1) = v % n - (v.tmod n+n):=by
  rw [Int.mul_sub,Int.mul_sub]; omega
 have h7:v.tdiv n - v / n - 1 = 0:=by
  rcases Int.lt_trichotomy (v.tdiv n - v / n - 1) 0 with h | h | h
  ·
   have:n * (v.tdiv n - v / n - 1)≤n * (-1):=Int.mul_le_mul_of_nonneg_left (by omega) (by omega)
   omega
  ·
   exact h
  ·
   have:n * 1≤n * (v.tdiv n - v / n - 1):=Int.mul_le_mul_of_nonneg_left (by omega) (by omega)
   omega
 rw [h7] at h6; omega
theorem ediv_bd (v n : Int) (hn:0 < n) (B:Int) (h1 : -B≤v) (h2:v≤B) (hB:0≤B) : -B≤v / n∧v / n≤B:=by
 constructor
 ·
  rw [Int.le_ediv_iff_mul_le hn]
  have : -B * n≤-B * 1:=Int.mul_le_mul_of_nonpos_left (by omega) (by omega)
  omega
 ·
  apply Int.ediv_le_of_le_mul hn
  have:B * 1≤B * n:=Int.mul_le_mul_of_nonneg_left (by omega) (by omega)
  omega
set_option maxHeartbeats 1000000 in
theorem upward_any (low half : Int) (pos:Bool) (mode:Int) (w:World) :
  Calls Tryz.prog 179 #[.int .i64 low,.int .i64 half,.bool pos,.int .i64 mode] w fun e w'=>e = .returned (.bool (upB low half pos mode))∧w = w':=by
 go_enter Tryz.func179,Tryz.ntmps179
 go_wp2
 all_goals go_ret
 all_goals refine ⟨?_,rfl⟩
 all_goals (simp_all [upB])
set_option maxHeartbeats 1000000 in
theorem isMode_any (m:Int) (w:World) : Calls Tryz.prog 158 #[.int .i64 m] w fun e w'=>e = .returned (.bool (modeB m))∧w = w':=by
 by_cases h1:0≤m <;> by_cases h2:m≤6
 all_goals
  have hb:modeB m = (decide (0≤m) && decide (m≤6)):=by simp [modeB]
  have HB:=Lib.hid hb; clear hb
  go_enter Tryz.func158,Tryz.ntmps158
  go_wp2
  go_ret
  exact ⟨by rw [HB.out]; simp [h1,h2],rfl⟩
set_option maxHeartbeats 1000000 in
theorem mode2_any (m:Int) (w:World) : Calls Tryz.prog 142 #[.int .i64 m] w fun e w'=>e = .returned (.bool (modeB m))∧w = w':=by
 by_cases h1:0≤m <;> by_cases h2:m≤6
 all_goals
  have hb:modeB m = (decide (0≤m) && decide (m≤6)):=by simp [modeB]
  have HB:=Lib.hid hb; clear hb
  go_enter Tryz.func142,Tryz.ntmps142
  go_wp2
  go_ret
  exact ⟨by rw [HB.out]; simp [h1,h2],rfl⟩
set_option maxHeartbeats 2000000 in
theorem quotient_any (num den mode : Int) (w:World) (h1 : -1000000000000000000≤num) (h2:num≤1000000000000000000) (h3:0 < den) (h4:den≤1000000000000) :
  Calls Tryz.prog 159 #[.int .i64 num,.int .i64 den,.int .i64 mode] w fun e w'=>e = .returned (.int .i64 (rnd num den mode))∧∃ q,w' = w.drewN q:=by
 have hq:=ediv_bd num den h3 1000000000000000000 h1 h2 (by omega)
 obtain ⟨hq1,hq2⟩:=hq
 have hr1:=Int.emod_nonneg num (show den ≠ 0 by omega)
 have hr2:=Int.emod_lt_of_pos num h3
 have hd0:(den == 0) = false:=by simp; omega
 by_cases hn:num.tmod den < 0
 ·
  obtain ⟨e1,e2⟩:=tdiv_neg num den h3 hn
  have hR:rnd num den mode = if num % den = 0 then num / den else if upB (num / den) (cmpI (num % den) (den - num % den)) (decide (0 < num)) mode then num / den+1 else num / den:=rfl
  rw [← e1,← e2] at hR
  have hL1 : -1000000000000000000≤num.tdiv den:=by omega
  have hL2:num.tdiv den≤1000000000000000001:=by omega
  have hM1:0 < num.tmod den+den:=by
   have:=Int.lt_tmod_of_pos num h3
   omega
  have hM2:num.tmod den < den:=by omega
  have hM0 : -1000000000000 < num.tmod den:=by omega
  have hz:((num.tmod den+den) != 0) = true:=by simp; omega
  rw [if_neg (by omega)] at hR
  have HR:=Lib.hid hR
  clear hR e1 e2 hq1 hq2 hr1 hr2
  cases hu:upB (num.tdiv den - 1) (cmpI (num.tmod den+den) (den - (num.tmod den+den))) (decide (0 < num)) mode
  all_goals
   have HU:=Lib.hid hu
   clear hu
   go_enter Tryz.func159,Tryz.ntmps159
   go_wp2
   go_quiet (fail)
   go_wp2_with fail
   refine (compareI_any _ _ _).mono ?_
   rintro e w1 ⟨rfl,rfl⟩
   go_wp2_with fail
   refine (upward_any _ _ _ _ _).mono ?_
   rintro e w1 ⟨rfl,rfl⟩
   rw [HU.out]
   go_wp2
   go_ret
   exact ⟨by rw [HR.out,HU.out]; first | rfl | simp,_,rfl⟩
 ·
  have hn':0≤num.tmod den:=by omega
  obtain ⟨e1,e2⟩:=tdiv_pos num den h3 hn'
  have hR:rnd num den mode = if num % den = 0 then num / den else if upB (num / den) (cmpI (num % den) (den - num % den)) (decide (0 < num)) mode then num / den+1 else num / den:=rfl
  rw [← e1,← e2] at hR
  have hL1 : -1000000000000000000≤num.tdiv den:=by omega
  have hL2:num.tdiv den≤1000000000000000000:=by omega
  have hM2:num.tmod den < den:=by omega
  have hM0:num.tmod den < 1000000000000:=by omega
  by_cases h0:num.tmod den = 0
  ·
   rw [if_pos h0] at hR
   have HR:=Lib.hid hR
   have hz:(num.tmod den != 0) = false:=by simp [h0]
   clear hR e1 e2 hq1 hq2 hr1 hr2 h0
   go_enter Tryz.func159,Tryz.ntmps159
   go_wp2
   go_quiet (fail)
   go_wp2
   go_ret
   exact ⟨by rw [HR.out]; first | rfl | simp,_,rfl⟩
  ·
   rw [if_neg h0] at hR
   have HR:=Lib.hid hR
   have hz:(num.tmod den != 0) = true:=by simp [h0]
   clear hR e1 e2 hq1 hq2 hr1 hr2 h0
   cases hu:upB (num.tdiv den) (cmpI (num.tmod den) (den - num.tmod den)) (decide (0 < num)) mode
   all_goals
    have HU:=Lib.hid hu
    clear hu
    go_enter Tryz.func159,Tryz.ntmps159
    go_wp2
    go_quiet (fail)
    go_wp2_with fail
    refine (compareI_any _ _ _).mono ?_
    rintro e w1 ⟨rfl,rfl⟩
    go_wp2_with fail
    refine (upward_any _ _ _ _ _).mono ?_
    rintro e w1 ⟨rfl,rfl⟩
    rw [HU.out]
    go_wp2
    go_ret
    exact ⟨by rw [HR.out,HU.out]; first | rfl | simp,_,rfl⟩
end Go.Proofs.YtjncpgbhokjbfaaGreat
namespace Go.Proofs.YtjncpgbhokjbfaaGreat
open Go.RowKit
def rndR (num den mode q r : Int) : Int :=
 if mode = 0 then (if num < 0 then q+1 else q) else if mode = 1 then (if num < 0 then q else q+1) else if mode = 2 then q else if mode = 3 then q+1 else
 if den - r < r then q+1 else if r = den - r then (if mode = 4 then (if num < 0 then q else q+1) else if mode = 5 then (if num < 0 then q+1 else q) else (if q.tmod 2 = 0 then q else q+1)) else q
theorem rnd_ref (num den mode : Int) (h0:num % den ≠ 0) : rnd num den mode = rndR num den mode (num / den) (num % den):=by
 have hn:num ≠ 0:=by rintro rfl; simp at h0
 rw [rnd,if_neg h0,upB,rndR,cmpI]
 by_cases m0:mode = 0
 ·
  simp only [m0,if_true]
  by_cases h:num < 0
  ·
   have:¬ 0 < num:=by omega
   simp [h,this]
  ·
   have:0 < num:=by omega
   simp [h,this]
 by_cases m1:mode = 1
 ·
  subst m1
  by_cases h:num < 0
  ·
   have:¬ 0 < num:=by omega
   simp [h,this]
  ·
   have:0 < num:=by omega
   simp [h,this]
 by_cases m2:mode = 2
 ·
  subst m2; simp
 by_cases m3:mode = 3
 ·
  subst m3; simp
 simp only [m0,m1,m2,m3,if_false]
 by_cases c1:num % den < den - num % den
 ·
  have c2:¬ den - num % den < num % den:=by omega
  have c3:¬ num % den = den - num % den:=by omega
  simp [c1,c2,c3]
 ·
  by_cases c2:den - num % den < num % den
  ·
   simp [c1,c2]
  ·
   have c3:num % den = den - num % den:=by omega
   simp only [if_neg c1,if_neg c2,if_pos c3]
   by_cases h:num < 0
   ·
    have:¬ 0 < num:=by omega
    simp only [h,this]
    by_cases m4:mode = 4
    ·
     simp [m4]
    ·
     by_cases m5:mode = 5
     ·
      simp [m5]
     ·
      simp [m4,m5]
   ·
    have:0 < num:=by omega
    simp only [h,this]
    by_cases m4:mode = 4
    ·
     simp [m4]
    ·
     by_cases m5:mode = 5
     ·
      simp [m5]
     ·
      simp [m4,m5]
set_option maxHeartbeats 4000000 in
theorem nearest_any (num den mode : Int) (w:World) (h1 : -1000000000000000000≤num) (h2:num≤1000000000000000000) (h3:0 < den) (h4:den≤1000000000000) :
  Calls Tryz.prog 165 #[.int .i64 num,.int .i64 den,.int .i64 mode] w fun e w'=>e = .returned (.int .i64 (rnd num den mode))∧w = w':=by
 have hq:=ediv_bd num den h3 1000000000000000000 h1 h2 (by omega)
 obtain ⟨hq1,hq2⟩:=hq
 have hr1:=Int.emod_nonneg num (show den ≠ 0 by omega)
 have hr2:=Int.emod_lt_of_pos num h3
 have hd0:(den == 0) = false:=by simp; omega
 have ht:=Int.tmod_add_mul_tdiv num den
 have hc:den * num.tdiv den = num.tdiv den * den:=Int.mul_comm _ _
 have hRR:=fun h0=>rnd_ref num den mode h0
 by_cases hn:num.tmod den < 0
 ·
  obtain ⟨e1,e2⟩:=tdiv_neg num den h3 hn
  have hM1 : -den < num.tmod den:=by
   have:=Int.lt_tmod_of_pos num h3
   omega
  have e3:(num.tdiv den - 1) * den = num.tdiv den * den - den:=by rw [Int.sub_mul]; omega
  have e4:num % den = num - (num.tdiv den - 1) * den:=by omega
  have hP:num < num.tdiv den * den:=by omega
  have hP2:num.tdiv den * den < num+den:=by omega
  have hR1:0 < num - (num.tdiv den - 1) * den:=by omega
  have hR2:num - (num.tdiv den - 1) * den < den:=by omega
  have hP3 : -2000000000000000000≤(num.tdiv den - 1) * den:=by omega
  have hP4:(num.tdiv den - 1) * den≤2000000000000000000:=by omega
  have hL1 : -1000000000000000000≤num.tdiv den:=by omega
  have hL2:num.tdiv den≤1000000000000000001:=by omega
  have hR:=hRR (by omega)
  rw [← e1,e4] at hR
  have HR:=Lib.hid hR
  have hz:(num - (num.tdiv den - 1) * den == 0) = false:=by simp; omega
  clear hR e1 e2 e3 e4 hq1 hq2 hr1 hr2 ht hc hRR hn hM1
  go_enter Tryz.func165,Tryz.ntmps165
  go_wp2
  all_goals go_ret
  all_goals refine ⟨?_,rfl⟩
  all_goals rw [HR.out,rndR]
  all_goals clear HR hP hP2 hP3 hP4 hL1 hL2 hz h1 h2 h3 h4 hd0
  all_goals generalize num - (num.tdiv den - 1) * den = r at *
  all_goals simp only [beq_iff_eq,beq_eq_false_iff_ne,ne_eq,Bool.not_eq_true',Bool.not_eq_false'] at *
  all_goals repeat' split
  all_goals first | rfl | (exfalso; omega) | (exact congrArg (fun n:Int=>Ending.returned (Value.int IntKind.i64 n)) (by omega))
 ·
  have hn':0≤num.tmod den:=by omega
  obtain ⟨e1,e2⟩:=tdiv_pos num den h3 hn'
  have hP:num.tdiv den * den≤num:=by omega
  have hP2:num < num.tdiv den * den+den:=by omega
  have e4:num % den = num - num.tdiv den * den:=by omega
  have hP3 : -2000000000000000000≤num.tdiv den * den:=by omega
  have hP4:num.tdiv den * den≤2000000000000000000:=by omega
  have hL1 : -1000000000000000000≤num.tdiv den:=by omega
  have hL2:num.tdiv den≤1000000000000000000:=by omega
  by_cases h0:num - num.tdiv den * den = 0
  ·
   have hR:rnd num den mode = num.tdiv den:=by rw [rnd,if_pos (by omega),e1]
   have HR:=Lib.hid hR
   have hz:(num - num.tdiv den * den == 0) = true:=by simp [h0]
   clear hR e1 e2 e4 hq1 hq2 hr1 hr2 ht hc hRR hn h0
   go_enter Tryz.func165,Tryz.ntmps165
   go_wp2
   go_ret
   exact ⟨by rw [HR.out]; rfl,rfl⟩
  ·
   have hR1:0 < num - num.tdiv den * den:=by omega
   have hR2:num - num.tdiv den * den < den:=by omega
   have hR:=hRR (by omega)
   rw [← e1,e4] at hR
   have HR:=Lib.hid hR
   have hz:(num - num.tdiv den * den == 0) = false:=by simp; omega
   clear hR e1 e2 e4 hq1 hq2 hr1 hr2 ht hc hRR hn h0
   go_enter Tryz.func165,Tryz.ntmps165
   go_wp2
   all_goals go_ret
   all_goals refine ⟨?_,rfl⟩
   all_goals rw [HR.out,rndR]
   all_goals clear HR hP hP2 hP3 hP4 hL1 hL2 hz h1 h2 h3 h4 hd0
   all_goals generalize num - num.tdiv den * den = r at *
   all_goals simp only [beq_iff_eq,beq_eq_false_iff_ne,ne_eq,Bool.not_eq_true',Bool.not_eq_false'] at *
   all_goals repeat' split
   all_goals first | rfl | (exfalso; omega) | (exact congrArg (fun n:Int=>Ending.returned (Value.int IntKind.i64 n)) (by omega))
theorem mul_bd (a b A B : Int) (h1 : -A≤a) (h2:a≤A) (h3:0≤b) (h4:b≤B) (hA:0≤A) : -(A * B)≤a * b∧a * b≤A * B:=by
 have e1:A * b≤A * B:=Int.mul_le_mul_of_nonneg_left h4 hA
 constructor
 ·
  have : -A * b≤a * b:=Int.mul_le_mul_of_nonneg_right h1 h3
  rw [Int.neg_mul] at this
  omega
 ·
  have:a * b≤A * b:=Int.mul_le_mul_of_nonneg_right h2 h3
  omega
theorem partOk_iff (a num den unit mode : Int) : partOk a num den unit mode = true ↔ (-1000000000000≤a∧a≤1000000000000∧0≤num∧num≤1000000∧1≤den∧den≤1000000∧1≤unit∧unit≤1000000)∧modeB mode = true:=by
 simp [partOk]
theorem part_sizes (a num den unit mode : Int) (h:partOk a num den unit mode = true) : (-1000000000000000000≤a * num∧a * num≤1000000000000000000)∧(0 < den * unit∧den * unit≤1000000000000)∧(-2000000000000000000≤rnd (a * num) (den * unit) mode * unit∧rnd (a * num) (den * unit) mode * unit≤2000000000000000000):=by
 obtain ⟨⟨h1,h2,h3,h4,h5,h6,h7,h8⟩,_⟩:=(partOk_iff ..).1 h
 have hp:=mul_bd a num 1000000000000 1000000 h1 h2 h3 h4 (by omega)
 have hp2:=mul_bd den unit 1000000 1000000 (by omega) h6 (by omega) h8 (by omega)
 have hp3:1 * 1≤den * unit:=Int.mul_le_mul h5 h7 (by omega) (by omega)
 have hp4:unit≤den * unit:=by
  have:1 * unit≤den * unit:=Int.mul_le_mul_of_nonneg_right h5 (by omega)
  omega
 refine ⟨by omega,by omega,?_⟩
 generalize hN:a * num = N at *
 generalize hD:den * unit = D at *
 have hq1:=Int.emod_add_mul_ediv N D
 have hq2:=Int.emod_nonneg N (show D ≠ 0 by omega)
 have hq3:=Int.emod_lt_of_pos N (show 0 < D by omega)
 have hr:N / D≤rnd N D mode∧rnd N D mode≤N / D+1:=by
  unfold rnd
  split
  ·
   omega
  ·
   split <;> omega
 have hqb:=ediv_bd N D (by omega) 1000000000000000000 (by omega) (by omega) (by omega)
 have k1:(N / D) * unit≤rnd N D mode * unit:=Int.mul_le_mul_of_nonneg_right hr.1 (by omega)
 have k2:rnd N D mode * unit≤(N / D+1) * unit:=Int.mul_le_mul_of_nonneg_right hr.2 (by omega)
 rw [Int.add_mul] at k2
 have k3 : -1100000000000000000≤(N / D) * unit∧(N / D) * unit≤1100000000000000000:=by
  rcases Int.le_total 0 (N / D) with h0 | h0
  ·
   have e1:(N / D) * unit≤(N / D) * D:=Int.mul_le_mul_of_nonneg_left hp4 h0
   have e2:0≤(N / D) * unit:=Int.mul_nonneg h0 (by omega)
   have e3:D * (N / D) = (N / D) * D:=Int.mul_comm _ _
   omega
  ·
   have e1:(N / D) * D≤(N / D) * unit:=Int.mul_le_mul_of_nonpos_left h0 hp4
   have e2:(N / D) * unit≤0:=Int.mul_nonpos_of_nonpos_of_nonneg h0 (by omega)
   have e3:D * (N / D) = (N / D) * D:=Int.mul_comm _ _
   omega
 omega
theorem partE_of {a num den unit mode : Int} (h:partOk a num den unit mode = false) : partE a num den unit mode = 2∧partN a num den unit mode = 0:=by
 have:partE a num den unit mode = 2:=by rw [partE,if_pos h]
 exact ⟨this,by rw [partN,if_neg (by omega)]⟩
set_option maxHeartbeats 4000000 in
theorem part_any (a num den unit mode : Int) (w:World) :
  Calls Tryz.prog 118 #[.int .i64 a,.int .i64 num,.int .i64 den,.int .i64 unit,.int .i64 mode] w fun e w'=>e = .returned (.tuple #[.int .i64 (partN a num den unit mode),.int .i64 (partE a num den unit mode)])∧∃ q,w' = w.drewN q:=by
 rcases hok:partOk a num den unit mode with _ | _
 ·
  obtain ⟨E1,E2⟩:=partE_of hok
  rw [E1,E2]
  have HOK:=Lib.hid hok
  clear hok E1 E2
  by_cases c0 : -1000000000000≤a
  rotate_left
  ·
   go_enter Tryz.func118,Tryz.ntmps118
   go_wp2_with (go_at_call 158; refine (isMode_any _ _).mono ?_; rintro e w' ⟨rfl,rfl⟩)
   go_ret2
   exact ⟨rfl,0,rfl⟩
  by_cases c1:a≤1000000000000
  rotate_left
  ·
   go_enter Tryz.func118,Tryz.ntmps118
   go_wp2_with (go_at_call 158; refine (isMode_any _ _).mono ?_; rintro e w' ⟨rfl,rfl⟩)
   go_ret2
   exact ⟨rfl,0,rfl⟩
  by_cases c2:0≤num
  rotate_left
  ·
   go_enter Tryz.func118,Tryz.ntmps118
   go_wp2_with (go_at_call 158; refine (isMode_any _ _).mono ?_; rintro e w' ⟨rfl,rfl⟩)
   go_ret2
   exact ⟨rfl,0,rfl⟩
  by_cases c3:num≤1000000
  rotate_left
  ·
   go_enter Tryz.func118,Tryz.ntmps118
   go_wp2_with (go_at_call 158; refine (isMode_any _ _).mono ?_; rintro e w' ⟨rfl,rfl⟩)
   go_ret2
   exact ⟨rfl,0,rfl⟩
  by_cases c4:1≤den
  rotate_left
  ·
   go_enter Tryz.func118,Tryz.ntmps118
   go_wp2_with (go_at_call 158; refine (isMode_any _ _).mono ?_; rintro e w' ⟨rfl,rfl⟩)
   go_ret2
   exact ⟨rfl,0,rfl⟩
  by_cases c5:den≤1000000
  rotate_left
  ·
   go_enter Tryz.func118,Tryz.ntmps118
   go_wp2_with (go_at_call 158; refine (isMode_any _ _).mono ?_; rintro e w' ⟨rfl,rfl⟩)
   go_ret2
   exact ⟨rfl,0,rfl⟩
  by_cases c6:1≤unit
  rotate_left
  ·
   go_enter Tryz.func118,Tryz.ntmps118
   go_wp2_with (go_at_call 158; refine (isMode_any _ _).mono ?_; rintro e w' ⟨rfl,rfl⟩)
   go_ret2
   exact ⟨rfl,0,rfl⟩
  by_cases c7:unit≤1000000
  rotate_left
  ·
   go_enter Tryz.func118,Tryz.ntmps118
   go_wp2_with (go_at_call 158; refine (isMode_any _ _).mono ?_; rintro e w' ⟨rfl,rfl⟩)
   go_ret2
   exact ⟨rfl,0,rfl⟩
  skip
  rcases hm:modeB mode with _ | _
  ·
   go_enter Tryz.func118,Tryz.ntmps118
   go_wp2_with (go_at_call 158; refine (isMode_any _ _).mono ?_; rintro e w' ⟨rfl,rfl⟩)
   go_ret2
   exact ⟨rfl,0,rfl⟩
  ·
   have:=(partOk_iff a num den unit mode).2 ⟨⟨by omega,by omega,by omega,by omega,by omega,by omega,by omega,by omega⟩,hm⟩
   rw [HOK.out] at this
   cases this
 ·
  obtain ⟨⟨p1,p2⟩,⟨p3,p4⟩,p5,p6⟩:=part_sizes a num den unit mode hok
  obtain ⟨⟨h1,h2,h3,h4,h5,h6,h7,h8⟩,hm⟩:=(partOk_iff ..).1 hok
  have hE:partE a num den unit mode = if maxN (partX a num den unit mode) = false then 4 else 0:=by rw [partE,if_neg (by simp [hok])]
  have HE:=Lib.hid hE
  clear hE
  have HOK:=Lib.hid hok
  clear hok
  by_cases x1 : -1000000000000≤rnd (a * num) (den * unit) mode * unit
  ·
   by_cases x2:rnd (a * num) (den * unit) mode * unit≤1000000000000
   ·
    have H4:Hid (partE a num den unit mode = 0):=by rw [Hid,HE.out,if_neg (by simp [maxN,partX,x1,x2])]
    have HN:Hid (partN a num den unit mode = rnd (a * num) (den * unit) mode * unit):=by rw [Hid,partN,if_pos H4.out]; rfl
    go_enter Tryz.func118,Tryz.ntmps118
    go_wp2_with (go_at_call 158; refine (isMode_any _ _).mono ?_; rintro e w' ⟨rfl,rfl⟩)
    refine (quotient_any _ _ _ _ p1 p2 p3 p4).mono ?_
    rintro e w1 ⟨rfl,q1,rfl⟩
    go_wp2
    go_ret2
    exact ⟨by rw [H4.out,HN.out]; rfl,q1,rfl⟩
   ·
    have H4:Hid (partE a num den unit mode = 4):=by rw [Hid,HE.out,if_pos (by simp [maxN,partX,x2])]
    have HN:Hid (partN a num den unit mode = 0):=by rw [Hid,partN,if_neg (by rw [H4.out]; omega)]
    go_enter Tryz.func118,Tryz.ntmps118
    go_wp2_with (go_at_call 158; refine (isMode_any _ _).mono ?_; rintro e w' ⟨rfl,rfl⟩)
    refine (quotient_any _ _ _ _ p1 p2 p3 p4).mono ?_
    rintro e w1 ⟨rfl,q1,rfl⟩
    go_wp2
    go_ret2
    exact ⟨by rw [H4.out,HN.out]; rfl,q1,rfl⟩
  ·
   have H4:Hid (partE a num den unit mode = 4):=by rw [Hid,HE.out,if_pos (by simp [maxN,partX,x1])]
   have HN:Hid (partN a num den unit mode = 0):=by rw [Hid,partN,if_neg (by rw [H4.out]; omega)]
   go_enter Tryz.func118,Tryz.ntmps118
   go_wp2_with (go_at_call 158; refine (isMode_any _ _).mono ?_; rintro e w' ⟨rfl,rfl⟩)
   refine (quotient_any _ _ _ _ p1 p2 p3 p4).mono ?_
   rintro e w1 ⟨rfl,q1,rfl⟩
   go_wp2
   go_ret2
   exact ⟨by rw [H4.out,HN.out]; rfl,q1,rfl⟩
end Go.Proofs.YtjncpgbhokjbfaaGreat
namespace Go.Proofs.YtjncpgbhokjbfaaGreat
open Go.RowKit
set_option maxHeartbeats 4000000 in
theorem part2_any (a num den unit mode : Int) (w:World) :
  Calls Tryz.prog 141 #[.int .i64 a,.int .i64 num,.int .i64 den,.int .i64 unit,.int .i64 mode] w fun e w'=>e = .returned (.tuple #[.int .i64 (partN a num den unit mode),.int .i64 (partE a num den unit mode)])∧w = w':=by
 rcases hok:partOk a num den unit mode with _ | _
 ·
  obtain ⟨E1,E2⟩:=partE_of hok
  rw [E1,E2]
  have HOK:=Lib.hid hok
  clear hok E1 E2
  by_cases c0 : -1000000000000≤a
  rotate_left
  ·
   go_enter Tryz.func141,Tryz.ntmps141
   go_wp2_with (go_at_call 142; refine (mode2_any _ _).mono ?_; rintro e w' ⟨rfl,rfl⟩)
   go_ret2
   exact ⟨rfl,rfl⟩
  by_cases c1:a≤1000000000000
  rotate_left
  ·
   go_enter Tryz.func141,Tryz.ntmps141
   go_wp2_with (go_at_call 142; refine (mode2_any _ _).mono ?_; rintro e w' ⟨rfl,rfl⟩)
   go_ret2
   exact ⟨rfl,rfl⟩
  by_cases c2:0≤num
  rotate_left
  ·
   go_enter Tryz.func141,Tryz.ntmps141
   go_wp2_with (go_at_call 142; refine (mode2_any _ _).mono ?_; rintro e w' ⟨rfl,rfl⟩)
   go_ret2
   exact ⟨rfl,rfl⟩
  by_cases c3:num≤1000000
  rotate_left
  ·
   go_enter Tryz.func141,Tryz.ntmps141
   go_wp2_with (go_at_call 142; refine (mode2_any _ _).mono ?_; rintro e w' ⟨rfl,rfl⟩)
   go_ret2
   exact ⟨rfl,rfl⟩
  by_cases c4:1≤den
  rotate_left
  ·
   go_enter Tryz.func141,Tryz.ntmps141
   go_wp2_with (go_at_call 142; refine (mode2_any _ _).mono ?_; rintro e w' ⟨rfl,rfl⟩)
   go_ret2
   exact ⟨rfl,rfl⟩
  by_cases c5:den≤1000000
  rotate_left
  ·
   go_enter Tryz.func141,Tryz.ntmps141
   go_wp2_with (go_at_call 142; refine (mode2_any _ _).mono ?_; rintro e w' ⟨rfl,rfl⟩)
   go_ret2
   exact ⟨rfl,rfl⟩
  by_cases c6:1≤unit
  rotate_left
  ·
   go_enter Tryz.func141,Tryz.ntmps141
   go_wp2_with (go_at_call 142; refine (mode2_any _ _).mono ?_; rintro e w' ⟨rfl,rfl⟩)
   go_ret2
   exact ⟨rfl,rfl⟩
  by_cases c7:unit≤1000000
  rotate_left
  ·
   go_enter Tryz.func141,Tryz.ntmps141
   go_wp2_with (go_at_call 142; refine (mode2_any _ _).mono ?_; rintro e w' ⟨rfl,rfl⟩)
   go_ret2
   exact ⟨rfl,rfl⟩
  skip
  rcases hm:modeB mode with _ | _
  ·
   go_enter Tryz.func141,Tryz.ntmps141
   go_wp2_with (go_at_call 142; refine (mode2_any _ _).mono ?_; rintro e w' ⟨rfl,rfl⟩)
   go_ret2
   exact ⟨rfl,rfl⟩
  ·
   have:=(partOk_iff a num den unit mode).2 ⟨⟨by omega,by omega,by omega,by omega,by omega,by omega,by omega,by omega⟩,hm⟩
   rw [HOK.out] at this
   cases this
 ·
  obtain ⟨⟨p1,p2⟩,⟨p3,p4⟩,p5,p6⟩:=part_sizes a num den unit mode hok
  obtain ⟨⟨h1,h2,h3,h4,h5,h6,h7,h8⟩,hm⟩:=(partOk_iff ..).1 hok
  have hE:partE a num den unit mode = if maxN (partX a num den unit mode) = false then 4 else 0:=by rw [partE,if_neg (by simp [hok])]
  have HE:=Lib.hid hE
  clear hE
  have HOK:=Lib.hid hok
  clear hok
  by_cases x1 : -1000000000000≤rnd (a * num) (den * unit) mode * unit
  ·
   by_cases x2:rnd (a * num) (den * unit) mode * unit≤1000000000000
   ·
    have H4:Hid (partE a num den unit mode = 0):=by rw [Hid,HE.out,if_neg (by simp [maxN,partX,x1,x2])]
    have HN:Hid (partN a num den unit mode = rnd (a * num) (den * unit) mode * unit):=by rw [Hid,partN,if_pos H4.out]; rfl
    go_enter Tryz.func141,Tryz.ntmps141
    go_wp2_with (go_at_call 142; refine (mode2_any _ _).mono ?_; rintro e w' ⟨rfl,rfl⟩)
    refine (nearest_any _ _ _ _ p1 p2 p3 p4).mono ?_
    rintro e w1 ⟨rfl,rfl⟩
    go_wp2
    go_ret2
    exact ⟨by rw [H4.out,HN.out]; rfl,rfl⟩
   ·
    have H4:Hid (partE a num den unit mode = 4):=by rw [Hid,HE.out,if_pos (by simp [maxN,partX,x2])]
    have HN:Hid (partN a num den unit mode = 0):=by rw [Hid,partN,if_neg (by rw [H4.out]; omega)]
    go_enter Tryz.func141,Tryz.ntmps141
    go_wp2_with (go_at_call 142; refine (mode2_any _ _).mono ?_; rintro e w' ⟨rfl,rfl⟩)
    refine (nearest_any _ _ _ _ p1 p2 p3 p4).mono ?_
    rintro e w1 ⟨rfl,rfl⟩
    go_wp2
    go_ret2
    exact ⟨by rw [H4.out,HN.out]; rfl,rfl⟩
  ·
   have H4:Hid (partE a num den unit mode = 4):=by rw [Hid,HE.out,if_pos (by simp [maxN,partX,x1])]
   have HN:Hid (partN a num den unit mode = 0):=by rw [Hid,partN,if_neg (by rw [H4.out]; omega)]
   go_enter Tryz.func141,Tryz.ntmps141
   go_wp2_with (go_at_call 142; refine (mode2_any _ _).mono ?_; rintro e w' ⟨rfl,rfl⟩)
   refine (nearest_any _ _ _ _ p1 p2 p3 p4).mono ?_
   rintro e w1 ⟨rfl,rfl⟩
   go_wp2
   go_ret2
   exact ⟨by rw [H4.out,HN.out]; rfl,rfl⟩
theorem rate_part (a num mode : Int) (h1:0≤a) (h2:a≤1000000000000) (h3:0≤num) (h4:num≤1000000) (hm:modeB mode = true) : partE a num 1000000 1 mode = 0∧0≤partN a num 1000000 1 mode∧partN a num 1000000 1 mode≤a:=by
 have hok:partOk a num 1000000 1 mode = true:=(partOk_iff ..).2 ⟨⟨by omega,by omega,h3,h4,by omega,by omega,by omega,by omega⟩,hm⟩
 have hN0:0≤a * num:=Int.mul_nonneg h1 h3
 have hN1:a * num≤a * 1000000:=Int.mul_le_mul_of_nonneg_left h4 h1
 have hx:0≤partX a num 1000000 1 mode∧partX a num 1000000 1 mode≤a:=by
  unfold partX rnd
  rw [Int.mul_one,show (1000000:Int) * 1 = 1000000 from rfl]
  generalize a * num = N at *
  split
  ·
   omega
  ·
   split <;> omega
 have hE:partE a num 1000000 1 mode = 0:=by
  rw [partE,if_neg (by simp [hok]),if_neg]
  simp only [maxN]
  simp
  omega
 rw [partN,if_pos hE]
 exact ⟨hE,hx⟩
end Go.Proofs.YtjncpgbhokjbfaaGreat
