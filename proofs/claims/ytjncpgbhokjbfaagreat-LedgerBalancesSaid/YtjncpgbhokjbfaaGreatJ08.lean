/- Joined texts: NetP RefSums. Conditions: as stated. -/
import Derived.Test.YtjncpgbhokjbfaaGreatJ03
import Derived.Test.YtjncpgbhokjbfaaGreatJ04
import Derived.Test.YtjncpgbhokjbfaaGreatJ07
namespace Go.Proofs.YtjncpgbhokjbfaaGreat
open Go.RowKit
theorem mem_flt {α:Type} {p:α→Bool} {x:α} {l:List α} (h:x ∈ l.filter p) : x ∈ l:=(List.mem_filter.1 h).1
theorem rnd_lo (num den mode : Int) : num / den≤rnd num den mode:=by
 unfold rnd; split
 ·
  omega
 ·
  split <;> omega
theorem rnd_hi (num den mode : Int) : rnd num den mode≤num / den+1:=by
 unfold rnd; split
 ·
  omega
 ·
  split <;> omega
theorem rnd_mono {a b d m : Int} (hd:0 < d) (h0:0≤a) (hab:a≤b) : rnd a d m≤rnd b d m:=by
 have h1:a / d≤b / d:=Int.ediv_le_ediv hd hab
 rcases Int.lt_or_eq_of_le h1 with h2 | h2
 ·
  have:=rnd_hi a d m
  have:=rnd_lo b d m
  omega
 ·
  have ea:=Int.emod_add_mul_ediv a d
  have eb:=Int.emod_add_mul_ediv b d
  rw [h2] at ea
  have hr:a % d≤b % d:=by omega
  have ra:=Int.emod_nonneg a (show d ≠ 0 by omega)
  by_cases h3:a % d = 0
  ·
   have:rnd a d m = a / d:=by rw [rnd,if_pos h3]
   have:=rnd_lo b d m
   omega
  ·
   have h4:¬ b % d = 0:=by omega
   have pa:0 < a:=by
    rcases Int.lt_or_eq_of_le h0 with h | h
    ·
     exact h
    ·
     subst h; simp at h3
   have pb:0 < b:=by omega
   rw [rnd,rnd,if_neg h3,if_neg h4,h2,decide_eq_true pa,decide_eq_true pb]
   have hc:upB (b / d) (cmpI (a % d) (d - a % d)) true m = true→upB (b / d) (cmpI (b % d) (d - b % d)) true m = true:=by
    simp only [upB,cmpI]
    repeat' split
    all_goals first | exact id | (intro h; simp at h ⊢; done) | (exfalso; omega) | (intro _; rfl) | (intro h; simp at h) | skip
    all_goals (try (intro h; simp_all; done))
    all_goals (try (intro h; simp at h ⊢; omega))
   split
   ·
    rename_i h5
    rw [if_pos (hc h5)]
    exact Int.le_refl _
   ·
    split <;> omega
theorem rnd_nonneg {a d m : Int} (hd:0 < d) (h0:0≤a) : 0≤rnd a d m:=by
 have:=rnd_lo a d m
 have:=Int.ediv_nonneg h0 (show 0≤d by omega)
 omega
theorem modeB_yes {m:Int} (h0:0≤m) (h1:m≤6) : modeB m = true:=by simp [modeB,h0,h1]
theorem part_ok {a num unit mode : Int} (h1:0≤a) (h2:a≤500000000000) (h3:0≤num) (h4:num≤1000000) (h5:1≤unit) (h6:unit≤100) (hm0:0≤mode) (hm1:mode≤6) :
  partE a num 1000000 unit mode = 0∧partN a num 1000000 unit mode = partX a num 1000000 unit mode∧0≤partX a num 1000000 unit mode∧partX a num 1000000 unit mode≤a+unit:=by
 have hok:partOk a num 1000000 unit mode = true:=(partOk_iff ..).2 ⟨⟨by omega,by omega,h3,h4,by omega,by omega,by omega,by omega⟩,modeB_yes hm0 hm1⟩
 have hN0:0≤a * num:=Int.mul_nonneg h1 h3
 have hN1:a * num≤a * 1000000:=Int.mul_le_mul_of_nonneg_left h4 h1
 have hx0:0≤partX a num 1000000 unit mode:=Int.mul_nonneg (rnd_nonneg (by omega) hN0) (by omega)
 have hx1:partX a num 1000000 unit mode≤a+unit:=by
  unfold partX
  have k1:=rnd_hi (a * num) (1000000 * unit) mode
  have k2:rnd (a * num) (1000000 * unit) mode * unit≤(a * num / (1000000 * unit)+1) * unit:=Int.mul_le_mul_of_nonneg_right k1 (by omega)
  rw [Int.add_mul,Int.one_mul] at k2
  have k3:=Int.ediv_mul_le (a * num) (show (1000000 * unit) ≠ 0 by omega)
  have k4:a * num / (1000000 * unit) * (1000000 * unit) = 1000000 * (a * num / (1000000 * unit) * unit):=by
   rw [← Int.mul_assoc,Int.mul_comm _ 1000000,Int.mul_assoc]
  omega
 have hE:partE a num 1000000 unit mode = 0:=by
  rw [partE,if_neg (by simp [hok]),if_neg]
  simp only [maxN]
  simp
  omega
 exact ⟨hE,by rw [partN,if_pos hE],hx0,hx1⟩
theorem partX_mono {a b num unit mode : Int} (h1:0≤a) (hab:a≤b) (h3:0≤num) (h5:1≤unit) : partX a num 1000000 unit mode≤partX b num 1000000 unit mode:=by
 have e:a * num≤b * num:=Int.mul_le_mul_of_nonneg_right hab h3
 have:=rnd_mono (d:=1000000 * unit) (m:=mode) (by omega) (Int.mul_nonneg h1 h3) e
 exact Int.mul_le_mul_of_nonneg_right this (by omega)
theorem insF_append (s:SchT) (l m : List Int) : insF s (l++m) = insF s l+insF s m:=by simp [insF,sumI_append]
theorem insF_nonneg {s:SchT} {l:List Int} (h : ∀ x ∈ l,0≤x) : 0≤insF s l:=by
 unfold insF
 induction l with
 | nil=>simp [sumI]
 | cons a l ih =>
  have h1:=h a (by simp)
  have h2:=ih (fun x hx=>h x (by simp [hx]))
  rw [List.filter_cons]
  split
  ·
   simp only [sumI]; omega
  ·
   exact h2
theorem insF_take (s:SchT) (l:List Int) (k:Nat) (h:k < l.length) : insF s (l.take (k+1)) = insF s (l.take k)+if s.floor≤l[k] then l[k] else 0:=by
 rw [List.take_succ_eq_append_getElem h,insF_append]
 congr 1
 by_cases hf:s.floor≤l[k]
 ·
  simp [insF,hf,sumI]
 ·
  simp [insF,hf,sumI]
theorem insF_le {s:SchT} {l:List Int} (h : ∀ x ∈ l,0≤x) : insF s l≤sumI l:=by
 unfold insF
 induction l with
 | nil=>simp [sumI]
 | cons a l ih =>
  have h1:=h a (by simp)
  have h2:=ih (fun x hx=>h x (by simp [hx]))
  rw [List.filter_cons]
  split <;> simp only [sumI] <;> omega
theorem cumN_bd {s:SchT} {l:List Int} (hs:SchOk s) (h : ∀ x ∈ l,0≤x) (hl:l.length≤54) : 0≤cumN s l∧cumN s l≤54000000000:=by
 have h1:=insF_nonneg (s:=s) h
 have h2:=hs.c0
 have h3:=hs.c1
 have h4:0≤(l.length:Int) * s.ceiling:=Int.mul_nonneg (by omega) (by omega)
 have h5:(l.length:Int) * s.ceiling≤54 * 1000000000:=Int.mul_le_mul (by omega) h3 (by omega) (by omega)
 unfold cumN
 omega
theorem cumN_drop {s:SchT} {l:List Int} (hs:SchOk s) (h : ∀ x ∈ l,0≤x) (hne:l ≠ []) : cumN s l.dropLast≤cumN s l∧cumN s l≤cumN s l.dropLast+max (l.getLast hne) s.ceiling:=by
 have e:=List.dropLast_concat_getLast hne
 have h2:=hs.c0
 have hlast:=h (l.getLast hne) (List.getLast_mem hne)
 have e1:insF s l = insF s l.dropLast+if s.floor≤l.getLast hne then l.getLast hne else 0:=by
  conv=>lhs; rw [← e,insF_append]
  congr 1
  by_cases hf:s.floor≤l.getLast hne
  ·
   simp [insF,hf,sumI]
  ·
   simp [insF,hf,sumI]
 have e2:(l.length:Int) = l.dropLast.length+1:=by
  have:0 < l.length:=List.length_pos_iff.2 hne
  rw [List.length_dropLast]; omega
 unfold cumN
 rw [e1,e2,Int.add_mul]
 split <;> omega
theorem levy_sizes {s:SchT} {b:Int} (hs:SchOk s) (h0:0≤b) (h1:b≤500000000000) :
  partE b s.employee 1000000 s.unit s.mode = 0∧partE b s.employer 1000000 s.unit s.mode = 0∧(levyN s b).base = b∧0≤(levyN s b).employee∧(levyN s b).employee≤b+100∧0≤(levyN s b).employer∧(levyN s b).employer≤b+100:=by
 have hu0:=hs.u0
 have hu1:=hs.u1
 obtain ⟨a1,a2,a3,a4⟩:=part_ok h0 h1 hs.e0 hs.e1 hu0 hu1 hs.m0 hs.m1
 obtain ⟨b1,b2,b3,b4⟩:=part_ok h0 h1 hs.r0 hs.r1 hu0 hu1 hs.m0 hs.m1
 refine ⟨a1,b1,rfl,?_,?_,?_,?_⟩ <;> simp only [levyN] <;> omega
theorem levy_mono {s:SchT} {a b : Int} (hs:SchOk s) (h0:0≤a) (hab:a≤b) (h1:b≤500000000000) : (levyN s a).employee≤(levyN s b).employee∧(levyN s a).employer≤(levyN s b).employer:=by
 have hu0:=hs.u0
 have hu1:=hs.u1
 obtain ⟨_,a2,_,_⟩:=part_ok h0 (by omega:a≤500000000000) hs.e0 hs.e1 hu0 hu1 hs.m0 hs.m1
 obtain ⟨_,a3,_,_⟩:=part_ok (by omega:0≤b) h1 hs.e0 hs.e1 hu0 hu1 hs.m0 hs.m1
 obtain ⟨_,b2,_,_⟩:=part_ok h0 (by omega:a≤500000000000) hs.r0 hs.r1 hu0 hu1 hs.m0 hs.m1
 obtain ⟨_,b3,_,_⟩:=part_ok (by omega:0≤b) h1 hs.r0 hs.r1 hu0 hu1 hs.m0 hs.m1
 simp only [levyN,a2,a3,b2,b3]
 exact ⟨partX_mono h0 hab hs.e0 hu0,partX_mono h0 hab hs.r0 hu0⟩
theorem nextN_bd {s:SchT} {l:List Int} (hs:SchOk s) (h : ∀ x ∈ l,0≤x) (hl:l.length≤54) (hne:l ≠ []) :
  0≤(nextN s l).base∧0≤(nextN s l).employee∧0≤(nextN s l).employer∧(nextN s l).base≤54000000000∧(nextN s l).employee≤54000000100∧(nextN s l).employer≤54000000100:=by
 obtain ⟨c0,c1⟩:=cumN_bd hs h hl
 have h':∀ x ∈ l.dropLast,0≤x:=fun x hx=>h x ((List.dropLast_sublist l).subset hx)
 obtain ⟨d0,d1⟩:=cumN_bd hs h' (by simp; omega)
 obtain ⟨e0,_⟩:=cumN_drop hs h hne
 obtain ⟨_,_,f1,f2,f3,f4,f5⟩:=levy_sizes hs c0 (by omega:cumN s l≤500000000000)
 obtain ⟨_,_,g1,g2,g3,g4,g5⟩:=levy_sizes hs d0 (by omega:cumN s l.dropLast≤500000000000)
 obtain ⟨k1,k2⟩:=levy_mono hs d0 e0 (by omega)
 simp only [nextN,subLv,f1,g1]
 omega
theorem sumTo_le {f g : Nat→Int} (n:Nat) (h : ∀ i,i < n→f i≤g i) : sumTo f n≤sumTo g n:=by
 induction n with
 | zero=>exact Int.le_refl _
 | succ n ih =>
  have:=ih (fun i hi=>h i (by omega))
  have:=h n (by omega)
  simp only [sumTo]; omega
theorem sumTo_nonneg {f:Nat→Int} (n:Nat) (h : ∀ i,i < n→0≤f i) : 0≤sumTo f n:=by
 induction n with
 | zero=>exact Int.le_refl _
 | succ n ih =>
  have:=ih (fun i hi=>h i (by omega))
  have:=h n (by omega)
  simp only [sumTo]; omega
theorem sumTo_mul (f:Nat→Int) (c:Int) (n:Nat) : sumTo (fun i=>f i * c) n = sumTo f n * c:=by
 induction n with
 | zero=>simp [sumTo]
 | succ n ih=>simp only [sumTo,ih,Int.add_mul]
theorem BrOk.mono {t:List BrT} (h:BrOk t) : ∀ (d i : Nat),i+d < t.length→(t.getD i zBr).frm+d≤(t.getD (i+d) zBr).frm:=by
 intro d
 induction d with
 | zero=>intro i _; simp
 | succ d ih =>
  intro i hi
  have h1:=ih i (by omega)
  have h2:=h.asc (i+d) (by omega)
  rw [show i+(d+1) = i+d+1 by omega]
  omega
theorem BrOk.nonneg {t:List BrT} (h:BrOk t) {i:Nat} (hi:i < t.length) : 0≤(t.getD i zBr).frm:=by
 have:=h.mono i 0 (by omega)
 rw [h.zero] at this
 simp only [Nat.zero_add] at this
 omega
theorem split_bd {t:List BrT} {inc:Int} (i:Nat) : 0≤splitAt' t inc i:=by unfold splitAt'; omega
theorem split_le {t:List BrT} {inc:Int} (h:BrOk t) (h0:0≤inc) {i:Nat} (hi:i < t.length) : splitAt' t inc i≤inc:=by
 have:=h.nonneg hi
 unfold splitAt' endAt
 split <;> omega
theorem split_sum {t:List BrT} {inc:Int} (h:BrOk t) (h0:0≤inc) : ∀ k,(k < t.length→sumTo (splitAt' t inc) k = min inc (t.getD k zBr).frm)∧(k = t.length→sumTo (splitAt' t inc) k = inc):=by
 intro k
 induction k with
 | zero =>
  refine ⟨fun _=>?_,fun e=>?_⟩
  ·
   rw [h.zero]; simp only [sumTo]; omega
  ·
   have:=h.ne; omega
 | succ k ih =>
  have ih1:=ih.1
  refine ⟨fun hk=>?_,fun hk=>?_⟩
  ·
   have:=h.asc k hk
   simp only [sumTo,ih1 (by omega),splitAt',endAt,if_pos hk]
   omega
  ·
   simp only [sumTo,ih1 (by omega),splitAt',endAt]
   rw [if_neg (by omega)]
   omega
theorem split_sum_le {t:List BrT} {inc:Int} (h:BrOk t) (h0:0≤inc) {k:Nat} (hk:k≤t.length) : 0≤sumTo (splitAt' t inc) k∧sumTo (splitAt' t inc) k≤inc:=by
 refine ⟨sumTo_nonneg _ (fun i _=>split_bd i),?_⟩
 obtain ⟨h1,h2⟩:=split_sum h h0 k
 rcases Nat.lt_or_eq_of_le hk with e | e
 ·
  rw [h1 e]; omega
 ·
  rw [h2 e]; exact Int.le_refl _
def exTo (t:List BrT) (inc:Int) (k:Nat) : Int:=sumTo (fun i=>splitAt' t inc i * (t.getD i zBr).rate) k
theorem exTo_bd {t:List BrT} {inc:Int} (h:BrOk t) (h0:0≤inc) {k:Nat} (hk:k≤t.length) : 0≤exTo t inc k∧exTo t inc k≤inc * 1000000:=by
 refine ⟨sumTo_nonneg _ (fun i hi=>Int.mul_nonneg (split_bd i) (h.r0 i (by omega))),?_⟩
 have h1:exTo t inc k≤sumTo (fun i=>splitAt' t inc i * 1000000) k:=sumTo_le _ (fun i hi=>Int.mul_le_mul_of_nonneg_left (h.r1 i (by omega)) (split_bd i))
 rw [sumTo_mul] at h1
 have:=(split_sum_le h h0 hk).2
 omega
theorem taxN_bd {t:List BrT} {inc unit mode : Int} (h:BrOk t) (h0:0≤inc) (hu0:1≤unit) : 0≤taxN t inc unit mode∧taxN t inc unit mode≤inc+unit:=by
 obtain ⟨a,b⟩:=exTo_bd (inc:=inc) h h0 (Nat.le_refl _)
 have e:exactN t inc = exTo t inc t.length:=rfl
 unfold taxN
 rw [e]
 generalize exTo t inc t.length = x at a b
 refine ⟨Int.mul_nonneg (rnd_nonneg (by omega) a) (by omega),?_⟩
 have k1:=rnd_hi x (1000000 * unit) mode
 have k2:rnd x (1000000 * unit) mode * unit≤(x / (1000000 * unit)+1) * unit:=Int.mul_le_mul_of_nonneg_right k1 (by omega)
 rw [Int.add_mul,Int.one_mul] at k2
 have k3:=Int.ediv_mul_le x (show (1000000 * unit) ≠ 0 by omega)
 have k4:x / (1000000 * unit) * (1000000 * unit) = 1000000 * (x / (1000000 * unit) * unit):=by
  rw [← Int.mul_assoc,Int.mul_comm _ 1000000,Int.mul_assoc]
 omega
section
variable {t:List BrT} {num den:Int}
theorem scF_bd (h:BrOk t) (hn:0≤num) (hd:1≤den) (hnd:num≤den) {i:Nat} (hi:i < t.length) : 0≤scF t num den i∧scF t num den i≤(t.getD i zBr).frm:=by
 have h1:=h.nonneg hi
 unfold scF
 refine ⟨Int.ediv_nonneg (Int.mul_nonneg h1 hn) (by omega),?_⟩
 refine Int.ediv_le_of_le_mul (by omega) ?_
 exact Int.mul_le_mul_of_nonneg_left hnd h1
theorem scF_mono (h:BrOk t) (hn:0≤num) (hd:1≤den) {i:Nat} (hi:i+1 < t.length) : scF t num den i≤scF t num den (i+1):=by
 unfold scF
 refine Int.ediv_le_ediv (by omega) ?_
 have:=h.asc i hi
 exact Int.mul_le_mul_of_nonneg_right (by omega) hn
theorem scF_zero (h:BrOk t) : scF t num den 0 = 0:=by unfold scF; rw [h.zero]; simp
structure ScOk (t:List BrT) (num den : Int) (k:Nat) (l:List BrT) : Prop where
 asc:l.Pairwise (fun a b=>a.frm < b.frm)
 lt:k < t.length→∀ x ∈ l,x.frm < scF t num den k
 ok:∀ x ∈ l,0≤x.frm∧x.frm≤1000000000000∧0≤x.rate∧x.rate≤1000000
 len:l.length≤k
 hd:l = []∧(k < t.length→scF t num den k = 0) ∨ ∃ x r,l = x :: r∧x.frm = 0
theorem scOk (h:BrOk t) (hn:0≤num) (hd:1≤den) (hnd:num≤den) : ∀ k,k≤t.length→ScOk t num den k (scTo t num den k):=by
 intro k
 induction k with
 | zero=>intro _; exact ⟨List.Pairwise.nil,fun _ x hx=>(by cases hx),fun x hx=>(by cases hx),by simp [scTo],.inl ⟨rfl,fun _=>scF_zero h⟩⟩
 | succ k ih =>
  intro hk
  have I:=ih (by omega)
  have hb:=scF_bd h hn hd hnd (show k < t.length by omega)
  have hh:=h.hi k (by omega)
  simp only [scTo]
  split
  ·
   rename_i hs
   simp only [scSkip,Bool.and_eq_true,decide_eq_true_eq] at hs
   refine ⟨I.asc,fun hk2 x hx=>?_,I.ok,by have:=I.len; omega,?_⟩
   ·
    rw [hs.2]; exact I.lt (by omega) x hx
   ·
    rcases I.hd with ⟨h1,h2⟩ | h1
    ·
     exact .inl ⟨h1,fun _=>by rw [hs.2]; exact h2 (by omega)⟩
    ·
     exact .inr h1
  ·
   rename_i hs
   have hlt:k+1 < t.length→scF t num den k < scF t num den (k+1):=by
    intro hk2
    have h1:=scF_mono h hn hd hk2
    simp only [scSkip,Bool.and_eq_true,decide_eq_true_eq] at hs
    have h2:¬ scF t num den (k+1) = scF t num den k:=fun e=>hs ⟨hk2,e⟩
    omega
   refine ⟨?_,fun hk2 x hx=>?_,fun x hx=>?_,by have:=I.len; simp; omega,?_⟩
   ·
    rw [List.pairwise_append]
    refine ⟨I.asc,by simp,fun x hx y hy=>?_⟩
    simp at hy; subst hy
    exact I.lt (by omega) x hx
   ·
    rcases List.mem_append.1 hx with h1 | h1
    ·
     have:=I.lt (by omega) x h1
     have:=hlt hk2
     omega
    ·
     simp at h1; subst h1; exact hlt hk2
   ·
    rcases List.mem_append.1 hx with h1 | h1
    ·
     exact I.ok x h1
    ·
     simp at h1; subst h1
     exact ⟨hb.1,by show scF t num den k≤_; omega,h.r0 k (by omega),h.r1 k (by omega)⟩
   ·
    rcases I.hd with ⟨h1,h2⟩ | ⟨x,r,h1,h2⟩
    ·
     rw [h1]; exact .inr ⟨_,[],rfl,h2 (by omega)⟩
    ·
     rw [h1]; exact .inr ⟨x,_,rfl,h2⟩
theorem scaleN_ok (h:BrOk t) (hn:0≤num) (hd:1≤den) (hnd:num≤den) : BrOk (scaleN t num den):=by
 have I:=scOk h hn hd hnd t.length (Nat.le_refl _)
 have hne:=h.ne
 have hl:=h.len
 have h1:scTo t num den t.length ≠ []:=by
  obtain ⟨n,hn⟩ : ∃ n,t.length = n+1:=⟨t.length - 1,by omega⟩
  rw [hn]
  simp only [scTo]
  rw [if_neg (by simp [scSkip]; omega)]
  simp
 unfold scaleN
 generalize scTo t num den t.length = l at I h1
 have hg:∀ i,(hi:i < l.length)→l.getD i zBr = l[i]:=fun i hi=>by rw [List.getD_eq_getElem?_getD,List.getElem?_eq_getElem hi]; rfl
 refine ⟨List.length_pos_iff.2 h1,by have:=I.len; omega,?_,fun i hi=>?_,fun i hi=>?_,fun i hi=>?_,fun i hi=>?_⟩
 ·
  rcases I.hd with ⟨h2,_⟩ | ⟨x,r,h2,h3⟩
  ·
   exact absurd h2 h1
  ·
   subst h2; exact h3
 ·
  rw [hg i (by omega),hg (i+1) hi]
  exact List.pairwise_iff_getElem.1 I.asc i (i+1) (by omega) hi (by omega)
 ·
  rw [hg i hi]; exact (I.ok _ (List.getElem_mem hi)).2.1
 ·
  rw [hg i hi]; exact (I.ok _ (List.getElem_mem hi)).2.2.1
 ·
  rw [hg i hi]; exact (I.ok _ (List.getElem_mem hi)).2.2.2
end
theorem tax30_bd {t:TarT} {l:List BrT} {al cr inc : Int} (h:BrOk l) (hu0:1≤t.unit) (hu1:t.unit≤100) (ha:0≤al) (hc:0≤cr) (hi:0≤inc) : 0≤tax30N t l al cr inc∧tax30N t l al cr inc≤inc+100:=by
 have:=taxN_bd (mode:=t.mode) (inc:=max (inc - al) 0) h (by omega) hu0
 unfold tax30N
 omega
theorem claim_bd {o:OrdT} (h:OrdOk o) : 0≤claimN o∧claimN o≤1000000000:=by
 have:=h.a0; have:=h.t0; have:=h.t1
 unfold claimN; split <;> omega
theorem clm_bd {l:List OrdT} {k:Int × Int} (h : ∀ o ∈ l,OrdOk o) : ∀ x ∈ clmG l k,0≤x∧x≤1000000000:=by
 intro x hx
 obtain ⟨o,ho,rfl⟩:=List.mem_map.1 hx
 exact claim_bd (h o (mem_flt ho))
theorem parts_len (l:List OrdT) (k:Int × Int) (left:Int) : (partsG l k left).length = (l.filter (inGrp k)).length:=by
 unfold partsG; split
 ·
  rw [allocN_len]; simp [clmG]
 ·
  simp [clmG]
theorem parts_bd {l:List OrdT} {k:Int × Int} {left:Int} (h : ∀ o ∈ l,OrdOk o) (hl:0≤left) : (∀ x ∈ partsG l k left,0≤x)∧sumI (partsG l k left)≤left∧0≤sumI (partsG l k left):=by
 have hb:=clm_bd (k:=k) h
 unfold partsG
 split
 ·
  rename_i h1
  have hs:0 < sumI (clmG l k):=by omega
  exact ⟨allocN_nonneg hl (fun x hx=>(hb x hx).1) hs,by rw [allocN_sum hs]; exact Int.le_refl _,by rw [allocN_sum hs]; exact hl⟩
 ·
  rename_i h1
  exact ⟨fun x hx=>(hb x hx).1,by omega,(sumI_bd hb).1⟩
theorem sumE_putO (out:List Elem) (o:OrdT) {p:Int} (h:0≤p) : sumE (putO out o p) = sumE out+p:=by
 unfold putO; split
 ·
  rw [sumE_put]
 ·
  omega
theorem sumE_putsG : ∀ (os:List OrdT) (ps:List Int) (out:List Elem),os.length = ps.length→(∀ x ∈ ps,0≤x)→sumE (putsG out os ps) = sumE out+sumI ps
 | [],[],out,_,_=>by simp [putsG,sumI]
 | [],_ :: _,_,h,_=>by simp at h
 | _ :: _,[],_,h,_=>by simp at h
 | o :: r,p :: ps,out,h,hp=>by
  rw [putsG,sumE_putsG r ps _ (by simpa using h) (fun x hx=>hp x (by simp [hx])),sumE_putO _ _ (hp p (by simp))]
  simp only [sumI]; omega
structure AtOk (l:List OrdT) (n:Nat) (out:List Elem) : Prop where
 pos:∀ x ∈ out,0≤x.amount
 code:∀ x ∈ out,∃ o ∈ l,x.code = o.id
 len:out.length≤n
theorem put_pos {l:List Elem} {e:Elem} (h : ∀ x ∈ l,0≤x.amount) (he:0≤e.amount) : ∀ x ∈ put l e,0≤x.amount:=by
 induction l with
 | nil=>intro x hx; simp [put] at hx; subst hx; exact he
 | cons a l ih =>
  have ha:=h a (by simp)
  have hl:∀ x ∈ l,0≤x.amount:=fun x hx=>h x (by simp [hx])
  intro x hx
  rw [put] at hx
  split at hx
  ·
   rcases List.mem_cons.1 hx with rfl | hx
   ·
    exact ha
   ·
    exact ih hl x hx
  ·
   split at hx
   ·
    rcases List.mem_cons.1 hx with rfl | hx
    ·
     show 0≤e.amount+a.amount; omega
    ·
     exact hl x hx
   ·
    rcases List.mem_cons.1 hx with rfl | hx
    ·
     exact he
    ·
     exact h x hx
theorem AtOk.putO {l:List OrdT} {n:Nat} {out:List Elem} (h:AtOk l n out) {o:OrdT} (ho:o ∈ l) (p:Int) : AtOk l (n+1) (putO out o p):=by
 unfold Go.Proofs.YtjncpgbhokjbfaaGreat.putO
 split
 ·
  refine ⟨put_pos h.pos (by show 0≤p; omega),fun x hx=>?_,by have:=put_length out ⟨o.id,p⟩; have:=h.len; omega⟩
  rcases put_codes _ _ x hx with e | ⟨y,hy,e⟩
  ·
   exact ⟨o,ho,e⟩
  ·
   obtain ⟨o',ho',e'⟩:=h.code y hy
   exact ⟨o',ho',by rw [← e,e']⟩
 ·
  exact ⟨h.pos,h.code,by have:=h.len; omega⟩
theorem AtOk.puts {l:List OrdT} : ∀ (os:List OrdT) (ps:List Int) {n:Nat} {out:List Elem},AtOk l n out→(∀ o ∈ os,o ∈ l)→AtOk l (n+os.length) (putsG out os ps)
 | [],ps,n,out,h,_=>by cases ps <;> exact h
 | o :: r,[],n,out,h,_=>by
  exact ⟨h.pos,h.code,by have:=h.len; show out.length≤_; omega⟩
 | o :: r,p :: ps,n,out,h,hs=>by
  rw [putsG]
  have:=AtOk.puts r ps (h.putO (hs o (by simp)) p) (fun o ho=>hs o (by simp [ho]))
  rw [List.length_cons,show n+(r.length+1) = n+1+r.length by omega]
  exact this
theorem nextK_mem {l:List OrdT} {priv:Bool} {last:Int × Int} : (nextK l priv last).1 ≠ 10→∃ o ∈ l,elig priv o = true∧keyLt last (o.rank,o.day)∧nextK l priv last = (o.rank,o.day):=by
 have key:∀ (m:List OrdT) (p:Int × Int),(m.foldl (stepK priv last) p = p) ∨ ∃ o ∈ m,elig priv o = true∧keyLt last (o.rank,o.day)∧m.foldl (stepK priv last) p = (o.rank,o.day):=by
  intro m
  induction m with
  | nil=>intro p; exact .inl rfl
  | cons o m ih =>
   intro p
   rw [List.foldl_cons]
   rcases ih (stepK priv last p o) with h | ⟨o',ho',h1,h2,h3⟩
   ·
    rw [h]
    unfold stepK
    split
    ·
     rename_i hc; exact .inr ⟨o,by simp,hc.1,hc.2.1,rfl⟩
    ·
     exact .inl rfl
   ·
    exact .inr ⟨o',by simp [ho'],h1,h2,h3⟩
 intro h
 rcases key l (10,0) with e | e
 ·
  exact absurd (by unfold nextK; rw [e]) h
 ·
  exact e
theorem keyLt_trans {a b c : Int × Int} (h1:keyLt a b) (h2:keyLt b c) : keyLt a c:=by
 unfold keyLt at *; omega
theorem keyLt_irr (a:Int × Int) : ¬ keyLt a a:=by unfold keyLt; omega
theorem cntK_lt {l:List OrdT} {priv:Bool} {last:Int × Int} (h : (nextK l priv last).1 ≠ 10) : cntK l priv (nextK l priv last) < cntK l priv last:=by
 obtain ⟨o,ho,h1,h2,h3⟩:=nextK_mem h
 rw [h3]
 unfold cntK
 have hsub:∀ (m:List OrdT),o ∈ m→(m.filter fun o'=>elig priv o' && decide (keyLt (o.rank,o.day) (o'.rank,o'.day))).length < (m.filter fun o'=>elig priv o' && decide (keyLt last (o'.rank,o'.day))).length:=by
  have hle:∀ (m:List OrdT),(m.filter fun o'=>elig priv o' && decide (keyLt (o.rank,o.day) (o'.rank,o'.day))).length≤(m.filter fun o'=>elig priv o' && decide (keyLt last (o'.rank,o'.day))).length:=by
   intro m
   rw [← List.countP_eq_length_filter,← List.countP_eq_length_filter]
   refine List.countP_mono_left (fun x _ hx=>?_)
   simp only [Bool.and_eq_true,decide_eq_true_eq] at hx ⊢
   exact ⟨hx.1,keyLt_trans h2 hx.2⟩
  intro m
  induction m with
  | nil=>intro h; cases h
  | cons a m ih =>
   intro hm
   rcases List.mem_cons.1 hm with e | e
   ·
    subst e
    rw [List.filter_cons,List.filter_cons,if_neg (by simp; intro _; exact keyLt_irr _),if_pos (by simp [h1,h2])]
    have:=hle m
    simp; omega
   ·
    have h4:=ih e
    rw [List.filter_cons,List.filter_cons]
    by_cases hx:(elig priv a && decide (keyLt (o.rank,o.day) (a.rank,a.day))) = true
    ·
     rw [if_pos hx]
     have hx2:(elig priv a && decide (keyLt last (a.rank,a.day))) = true:=by
      simp only [Bool.and_eq_true,decide_eq_true_eq] at hx ⊢
      exact ⟨hx.1,keyLt_trans h2 hx.2⟩
     rw [if_pos hx2]
     simpa using h4
    ·
     rw [if_neg hx]
     split
     ·
      simp; omega
     ·
      exact h4
 exact hsub l ho
theorem srv_stop {l:List OrdT} {priv:Bool} {last:Int × Int} {left taken : Int} {out:List Elem} (n:Nat) (h : (nextK l priv last).1 = 10) : srv l priv n last left out taken = (out,taken):=by
 cases n with
 | zero=>rfl
 | succ n=>rw [srv,if_pos h]
theorem srv_fuel {l:List OrdT} {priv:Bool} : ∀ (n m : Nat) {last:Int × Int} {left taken : Int} {out:List Elem},cntK l priv last≤n→cntK l priv last≤m→srv l priv n last left out taken = srv l priv m last left out taken:=by
 intro n
 induction n with
 | zero =>
  intro m last left taken out h _
  have h1:(nextK l priv last).1 = 10:=Decidable.byContradiction fun h1=>by have:=cntK_lt h1; omega
  rw [srv_stop _ h1,srv_stop _ h1]
 | succ n ih =>
  intro m last left taken out h hm
  by_cases h1:(nextK l priv last).1 = 10
  ·
   rw [srv_stop _ h1,srv_stop _ h1]
  ·
   have h2:=cntK_lt h1
   obtain ⟨q,rfl⟩ : ∃ q,m = q+1:=⟨m - 1,by omega⟩
   rw [srv,if_neg h1,srv,if_neg h1]
   exact ih q (by omega) (by omega)
theorem srv_step {l:List OrdT} {priv:Bool} {last:Int × Int} {left taken : Int} {out:List Elem} (h : (nextK l priv last).1 ≠ 10) :
  srv l priv (cntK l priv last) last left out taken = srv l priv (cntK l priv (nextK l priv last)) (nextK l priv last) (left - sumI (partsG l (nextK l priv last) left)) (putsG out (l.filter (inGrp (nextK l priv last))) (partsG l (nextK l priv last) left)) (taken+sumI (partsG l (nextK l priv last) left)):=by
 have h2:=cntK_lt h
 obtain ⟨m,hm⟩ : ∃ m,cntK l priv last = m+1:=⟨cntK l priv last - 1,by omega⟩
 rw [hm,srv,if_neg h]
 exact srv_fuel _ _ (by omega) (Nat.le_refl _)
end Go.Proofs.YtjncpgbhokjbfaaGreat
namespace Go.Proofs.YtjncpgbhokjbfaaGreat
open Go.RowKit
def preErr (l:List Elem) : Int:=if 128 < l.length then 3 else if l.any (fun x=>!nameB x.code) then 7 else if l.any (fun x=>!amtB x.amount) then 2 else if (sumsP l).any (fun x=>!amtB x.amount) then 4 else 0
def sumsR (l:List Elem) : List Elem:=if preErr l = 0 then sumsP l else []
def mergeR (l:List Elem) : List Elem:=if preErr l = 0 then (sumsP l).filter nz else []
set_option maxRecDepth 100000 in
set_option maxHeartbeats 4000000 in
theorem sums26_any (A:Option Addr) (cap:Nat) (xs:List Elem) (w:World) (h:SliceOf encE 2 w w.heap.size A xs) (hz : ∀ x ∈ xs,x.code.size≤maxLen) (hl:xs.length≤9223372036854775807) :
  Calls Tryz.prog 91 #[.slice A xs.length cap] w fun r w'=>∃ v,r = .returned (.tuple #[v,.int .i64 (preErr xs)])∧Own encE 2 109 w' w.heap.size v (sumsR xs)∧Below w.heap.size w w':=by
 have HZ:=Lib.hid hz; clear hz
 have fail_:∀ (n:Int) (W:World),n ≠ 0→preErr xs = n→Below w.heap.size w W→∃ v,Ending.returned (.tuple #[.slice none 0 0,.int .i64 n]) = .returned (.tuple #[v,.int .i64 (preErr xs)])∧Own encE 2 109 W w.heap.size v (sumsR xs)∧Below w.heap.size w W:=by
  intro n W hn he hb
  refine ⟨.slice none 0 0,by rw [he],?_,hb⟩
  rw [sumsR,if_neg (by rw [he]; exact hn)]
  exact Own.nil_ _ _
 have FAIL:=Lib.hid fail_
 clear fail_
 by_cases hlen:128 < xs.length
 ·
  have HP:Hid (preErr xs = 3):=by simp only [Hid,preErr,if_pos hlen]
  go_enter Tryz.func91,Tryz.ntmps91
  go_wp2
  go_ret2
  exact FAIL.out 3 _ (by omega) HP.out (Below.refl _ _)
 ·
  have hlen':xs.length≤128:=by omega
  clear hlen hl
  go_enter Tryz.func91,Tryz.ntmps91
  go_wp2
  go_loopw [4] (fun i wr=>∃ k:Nat,k≤xs.length∧i = .int .i64 k∧Hid (∀ j,(hj:j < xs.length)→j < k→nameB xs[j].code = true)∧Below w.heap.size w wr) (fun i _=>xs.length - (intOf i).toNat)
  case atStart=>exact ⟨0,by omega,rfl,fun j _ hj=>absurd hj (by omega),Below.refl _ _⟩
  case round =>
   obtain ⟨k,hk,rfl,hall,hbel⟩:=hrel
   have hbs:=hbel.size
   by_cases hlt:k < xs.length
   ·
    obtain ⟨b,off,rfl,hb,hc⟩:=(h.below hbel).at_ hlt
    have c0:=hc 0 _ rfl
    simp only [Nat.add_zero] at c0
    clear hc
    have hzk:=HZ.out _ (List.getElem_mem hlt)
    go_wp2_with fail
    refine (isName17_any _ _ hzk).mono ?_
    rintro e w1 ⟨rfl,hb1⟩
    have hbel1:=below_size hbel hb1 hbs
    by_cases hn:nameB xs[k].code = true
    ·
     go_wp2
     go_roundw
     case rel =>
      refine ⟨k+1,by omega,by go_num,fun j hj hjk=>?_,hbel1⟩
      rcases Nat.lt_or_ge j k with h1 | h1
      ·
       exact hall.out j hj h1
      ·
       obtain rfl:j = k:=by omega
       exact hn
     case measure=>simp [intOf]; omega
    ·
     have hn':nameB xs[k].code = false:=by simpa using hn
     have HP:Hid (preErr xs = 7):=by
      have h7:xs.any (fun x=>!nameB x.code) = true:=List.any_eq_true.2 ⟨xs[k],List.getElem_mem _,by simp [hn']⟩
      simp only [Hid,preErr,if_neg (show ¬ 128 < xs.length by omega),h7,if_true]
     clear hn
     go_wp2
     go_ret2
     exact FAIL.out 7 _ (by omega) HP.out hbel1
   ·
    have h7:Hid (xs.any (fun x=>!nameB x.code) = false):=by
     rw [Hid,List.any_eq_false]
     intro x hx
     obtain ⟨j,hj,rfl⟩:=List.mem_iff_getElem.1 hx
     simp [hall.out j hj (by omega)]
    obtain ⟨wo,rfl⟩ : ∃ wo:World,wo = wr:=⟨_,rfl⟩
    go_wp2
    clear hall hk hlt
    go_loopw [5,6] (fun v i wr=>∃ k:Nat,k≤xs.length∧i = .int .i64 k∧Hid (∀ j,(hj:j < xs.length)→j < k→amtB xs[j].amount = true)∧Own encE 2 109 wr w.heap.size v (sumsP (xs.take k))∧Bdd (k * 1000000000) (sumsP (xs.take k))∧(sumsP (xs.take k)).length≤k∧Below w.heap.size w wr) (fun _ i _=>xs.length - (intOf i).toNat)
    case atStart=>exact ⟨0,by omega,rfl,fun j _ hj=>absurd hj (by omega),Own.nil_ _ _,(fun x hx=>by simp [sumsP] at hx),by simp [sumsP],hbel⟩
    case round =>
     obtain ⟨k,hk,rfl,hall,hown,hbd,hlk,hbel⟩:=hrel
     have hbs:=hbel.size
     obtain ⟨A5,c5,rfl,hS5,hB5,hlc5,hcm5⟩:=hown.form2 encE_len
     by_cases hlt:k < xs.length
     ·
      obtain ⟨b,off,rfl,hb,hc⟩:=(h.below hbel).at_ hlt
      have c0:=hc 0 _ rfl
      have c1:=hc 1 _ rfl
      simp only [Nat.add_zero] at c0
      clear hc
      by_cases hn:amtB xs[k].amount = true
      ·
       have hn2 : -1000000000≤xs[k].amount∧xs[k].amount≤1000000000:=by simpa [amtB] using hn
       have HN:=Lib.hid hn
       go_wp2_with (go_at_call 58; refine (amount26_any _ _).mono ?_; rintro e w' ⟨rfl,rfl⟩)
       refine (put_any A5 c5 (sumsP (xs.take k)) xs[k] _ hS5 hlc5 hcm5 (by omega) (fun x hx=>by have:=hbd x hx; omega) (by omega) (by omega)).mono ?_
       rintro e w1 ⟨v1,rfl,hown1,hb1⟩
       have hbel1:=below_size hbel hb1 hbs
       have e1:put (sumsP (xs.take k)) xs[k] = sumsP (xs.take (k+1)):=by rw [List.take_succ_eq_append_getElem hlt,sumsP_snoc]
       have hbd1:=hbd.put (C:=1000000000) (e:=xs[k]) (by omega) (by omega) (by omega) (by omega)
       have hln1:=put_length (sumsP (xs.take k)) xs[k]
       rw [e1] at hown1 hbd1 hln1
       have E1:=Lib.hid e1
       clear e1
       go_wp2
       go_roundw
       case rel =>
        refine ⟨k+1,by omega,by go_num,fun j hj hjk=>?_,hown1.weaken hbs,?_,by omega,hbel1⟩
        ·
         rcases Nat.lt_or_ge j k with h1 | h1
         ·
          exact hall.out j hj h1
         ·
          obtain rfl:j = k:=by omega
          exact HN.out
        ·
         intro x hx
         have:=hbd1 x hx
         omega
       case measure=>simp [intOf]; omega
      ·
       have hn':amtB xs[k].amount = false:=by simpa using hn
       have HP:Hid (preErr xs = 2):=by
        have h2:xs.any (fun x=>!amtB x.amount) = true:=List.any_eq_true.2 ⟨xs[k],List.getElem_mem _,by simp [hn']⟩
        simp only [Hid,preErr,if_neg (show ¬ 128 < xs.length by omega),h7.out,h2,if_true,Bool.false_eq_true,if_false]
       clear hn
       go_wp2_with (go_at_call 58; refine (amount26_any _ _).mono ?_; rintro e w' ⟨rfl,rfl⟩)
       go_ret2
       exact FAIL.out 2 _ (by omega) HP.out hbel
     ·
      have h2:Hid (xs.any (fun x=>!amtB x.amount) = false):=by
       rw [Hid,List.any_eq_false]
       intro x hx
       obtain ⟨j,hj,rfl⟩:=List.mem_iff_getElem.1 hx
       simp [hall.out j hj (by omega)]
      have ek:xs.take k = xs:=List.take_of_length_le (by omega)
      rw [ek] at hown hbd hlk hS5 hlc5
      rw [show (sumsP (xs.take k)).length = (sumsP xs).length by rw [ek]]
      obtain ⟨wp,rfl⟩ : ∃ wp:World,wp = wr:=⟨_,rfl⟩
      clear hall ek
      go_wp2
      generalize hS:sumsP xs = S at *
      have HSS:=Lib.hid hS
      clear hS
      go_loop [7] (fun i=>∃ k:Nat,k≤S.length∧i = .int .i64 k∧Hid (∀ j,(hj:j < S.length)→j < k→amtB S[j].amount = true)) (fun i=>S.length - (intOf i).toNat)
      case atStart=>exact ⟨0,by omega,rfl,fun j _ hj=>absurd hj (by omega)⟩
      case round =>
       obtain ⟨m,hm,rfl,hall⟩:=hrel
       by_cases hltm:m < S.length
       ·
        obtain ⟨b,off,rfl,hb,hc⟩:=hS5.at_ hltm
        have c1:=hc 1 _ rfl
        clear hc
        by_cases hn:amtB S[m].amount = true
        ·
         have HN:=Lib.hid hn
         go_wp2_with (go_at_call 58; refine (amount26_any _ _).mono ?_; rintro e w' ⟨rfl,rfl⟩)
         go_round
         case rel =>
          refine ⟨m+1,by omega,by go_num,fun j hj hjk=>?_⟩
          rcases Nat.lt_or_ge j m with h1 | h1
          ·
           exact hall.out j hj h1
          ·
           obtain rfl:j = m:=by omega
           exact HN.out
         case measure=>simp [intOf]; omega
        ·
         have hn':amtB S[m].amount = false:=by simpa using hn
         have HP:Hid (preErr xs = 4):=by
          have h4:S.any (fun x=>!amtB x.amount) = true:=List.any_eq_true.2 ⟨S[m],List.getElem_mem _,by simp [hn']⟩
          simp only [Hid,preErr,if_neg (show ¬ 128 < xs.length by omega),h7.out,h2.out,HSS.out,h4,if_true,Bool.false_eq_true,if_false]
         clear hn
         go_wp2_with (go_at_call 58; refine (amount26_any _ _).mono ?_; rintro e w' ⟨rfl,rfl⟩)
         go_ret2
         exact FAIL.out 4 _ (by omega) HP.out hbel
       ·
        have HP:Hid (preErr xs = 0):=by
         have h4:S.any (fun x=>!amtB x.amount) = false:=by
          rw [List.any_eq_false]
          intro x hx
          obtain ⟨j,hj,rfl⟩:=List.mem_iff_getElem.1 hx
          simp [hall.out j hj (by omega)]
         simp only [Hid,preErr,if_neg (show ¬ 128 < xs.length by omega),h7.out,h2.out,HSS.out,h4,Bool.false_eq_true,if_false]
        go_wp2
        go_ret2
        refine ⟨_,by rw [HP.out]; rfl,?_,hbel⟩
        rw [sumsR,if_pos HP.out,HSS.out]
        exact hown
set_option maxRecDepth 100000 in
set_option maxHeartbeats 2000000 in
theorem merge26_any (A:Option Addr) (cap:Nat) (xs:List Elem) (w:World) (h:SliceOf encE 2 w w.heap.size A xs) (hz : ∀ x ∈ xs,x.code.size≤maxLen) (hl:xs.length≤9223372036854775807) :
  Calls Tryz.prog 52 #[.slice A xs.length cap] w fun r w'=>∃ v,r = .returned (.tuple #[v,.int .i64 (preErr xs)])∧Own encE 2 109 w' w.heap.size v (mergeR xs)∧Below w.heap.size w w':=by
 have hsl:preErr xs = 0→(sumsP xs).length≤1000000:=by
  intro h0
  have:xs.length≤128:=by
   rcases Nat.lt_or_ge 128 xs.length with h1 | h1
   ·
    rw [preErr,if_pos h1] at h0; cases h0
   ·
    exact h1
  have:=sumsP_length xs
  omega
 have HSL:=Lib.hid hsl
 clear hsl
 go_enter Tryz.func52,Tryz.ntmps52
 go_wp2_with fail
 refine (sums26_any A cap xs _ h hz hl).mono ?_
 rintro e w1 ⟨v1,rfl,hown,hb1⟩
 by_cases h0:preErr xs = 0
 ·
  have hlen:=HSL.out h0
  have H0:=Lib.hid h0
  rw [sumsR,if_pos h0] at hown
  have HM:Hid (mergeR xs = (sumsP xs).filter nz):=by rw [Hid,mergeR,if_pos h0]
  rw [h0]
  obtain ⟨A5,c5,rfl,hS5,hB5,hlc5,hcm5⟩:=hown.form2 encE_len
  generalize hS:sumsP xs = S at *
  clear hS h0 hz h
  have hb1s:=hb1.size
  go_wp2
  go_loopw [6,7] (fun v i wr=>∃ k:Nat,k≤S.length∧i = .int .i64 k∧Own encE 2 109 wr w1.heap.size v ((S.take k).filter nz)∧Below w1.heap.size w1 wr) (fun _ i _=>S.length - (intOf i).toNat)
  case atStart=>exact ⟨0,by omega,rfl,Own.nil_ _ _,Below.refl _ _⟩
  case round =>
   obtain ⟨k,hk,rfl,hown6,hbel⟩:=hrel
   have hbs:=hbel.size
   by_cases hlt:k < S.length
   ·
    obtain ⟨b,off,rfl,hb,hc⟩:=(hS5.below hbel).at_ hlt
    have c0:=hc 0 _ rfl
    have c1:=hc 1 _ rfl
    simp only [Nat.add_zero] at c0
    clear hc
    have et:S.take (k+1) = S.take k++[S[k]]:=List.take_succ_eq_append_getElem hlt
    have ET:=Lib.hid et
    clear et
    have hfl:((S.take k).filter nz).length≤k:=Nat.le_trans (List.length_filter_le _ _) (by simp; omega)
    by_cases hn:(S[k].amount != 0) = true
    ·
     go_wp2_with (at_builtin; (refine wpList_append_one _ _ 79 ⟨S[k].code,S[k].amount⟩ _ 24 _ infoE Tryz.underlying79 hown6 encE_len (by omega) rfl (encE_one _) (by omega) (by omega) (by omega) (by rfl) (by rfl) (by rfl) (by rfl) (by simp) (by rfl) ?_); intro v2 w6 hown7 hg7)
     go_roundw
     case rel =>
      refine ⟨k+1,by omega,by go_num,?_,hbel.grown hg7 (by omega) (fun g hg=>(hown6.block_lt hg).1)⟩
      rw [ET.out,List.filter_append]
      have : [S[k]].filter nz = [S[k]]:=by simp [nz,hn]
      rw [this]
      exact hown7
     case measure=>simp [intOf]; omega
    ·
     have hn':(S[k].amount != 0) = false:=by simpa using hn
     clear hn
     go_wp2
     go_roundw
     case rel =>
      refine ⟨k+1,by omega,by go_num,?_,hbel⟩
      rw [ET.out,List.filter_append]
      have : [S[k]].filter nz = []:=by simp [nz,hn']
      rw [this,List.append_nil]
      exact hown6
     case measure=>simp [intOf]; omega
   ·
    go_wp2
    go_ret2
    refine ⟨_,by rw [H0.out]; rfl,?_,hb1.trans (hbel.mono hb1s)⟩
    rw [HM.out]
    rw [List.take_of_length_le (by omega)] at hown6
    exact hown6.weaken hb1s
 ·
  have h0':(preErr xs != 0) = true:=by simpa using h0
  have H0:Hid (mergeR xs = []):=by rw [Hid,mergeR,if_neg h0]
  clear h0
  go_wp2
  go_ret2
  refine ⟨_,rfl,?_,hb1⟩
  rw [H0.out]
  exact Own.nil_ _ _
end Go.Proofs.YtjncpgbhokjbfaaGreat
