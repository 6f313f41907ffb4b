/- Joined texts: NetP Fill R29 R29b R30. Conditions: as stated. -/
import Derived.Test.YtlhkojcmcmkmaaaGreatJData
import Derived.Test.YtlhkojcmcmkmaaaGreatJNetT
namespace Go.Proofs.YtlhkojcmcmkmaaaGreat
open Go.RowKit
theorem mem_flt {α:Type} {p:α→Bool} {x:α} {l:List α} (h:x ∈ l.filter p) : x ∈ l:=(List.mem_filter.1 h).1
theorem rnd_lo (num den mode : Int) : num / den≤rnd num den mode:=by
 unfold rnd; split
 ·
  omega
 ·
  split <;> omega
theorem rnd_hi (num den mode : Int) : rnd num den mode≤num / den+1:=by
 unfold rnd; split
 ·
  omega
 ·
  split <;> omega
theorem rnd_mono {a b d m : Int} (hd:0 < d) (h0:0≤a) (hab:a≤b) : rnd a d m≤rnd b d m:=by
 have h1:a / d≤b / d:=Int.ediv_le_ediv hd hab
 rcases Int.lt_or_eq_of_le h1 with h2 | h2
 ·
  have:=rnd_hi a d m
  have:=rnd_lo b d m
  omega
 ·
  have ea:=Int.emod_add_mul_ediv a d
  have eb:=Int.emod_add_mul_ediv b d
  rw [h2] at ea
  have hr:a % d≤b % d:=by omega
  have ra:=Int.emod_nonneg a (show d ≠ 0 by omega)
  by_cases h3:a % d = 0
  ·
   have:rnd a d m = a / d:=by rw [rnd,if_pos h3]
   have:=rnd_lo b d m
   omega
  ·
   have h4:¬ b % d = 0:=by omega
   have pa:0 < a:=by
    rcases Int.lt_or_eq_of_le h0 with h | h
    ·
     exact h
    ·
     subst h; simp at h3
   have pb:0 < b:=by omega
   rw [rnd,rnd,if_neg h3,if_neg h4,h2,decide_eq_true pa,decide_eq_true pb]
   have hc:upB (b / d) (cmpI (a % d) (d - a % d)) true m = true→upB (b / d) (cmpI (b % d) (d - b % d)) true m = true:=by
    simp only [upB,cmpI]
    repeat' split
    all_goals first | exact id | (intro h; simp at h ⊢; done) | (exfalso; omega) | (intro _; rfl) | (intro h; simp at h) | skip
    all_goals (try (intro h; simp_all; done))
    all_goals (try (intro h; simp at h ⊢; omega))
   split
   ·
    rename_i h5
    rw [if_pos (hc h5)]
    exact Int.le_refl _
   ·
    split <;> omega
theorem rnd_nonneg {a d m : Int} (hd:0 < d) (h0:0≤a) : 0≤rnd a d m:=by
 have:=rnd_lo a d m
 have:=Int.ediv_nonneg h0 (show 0≤d by omega)
 omega
theorem modeB_yes {m:Int} (h0:0≤m) (h1:m≤6) : modeB m = true:=by simp [modeB,h0,h1]
theorem part_ok {a num unit mode : Int} (h1:0≤a) (h2:a≤500000000000) (h3:0≤num) (h4:num≤1000000) (h5:1≤unit) (h6:unit≤100) (hm0:0≤mode) (hm1:mode≤6) :
  partE a num 1000000 unit mode = 0∧partN a num 1000000 unit mode = partX a num 1000000 unit mode∧0≤partX a num 1000000 unit mode∧partX a num 1000000 unit mode≤a+unit:=by
 have hok:partOk a num 1000000 unit mode = true:=(partOk_iff ..).2 ⟨⟨by omega,by omega,h3,h4,by omega,by omega,by omega,by omega⟩,modeB_yes hm0 hm1⟩
 have hN0:0≤a * num:=Int.mul_nonneg h1 h3
 have hN1:a * num≤a * 1000000:=Int.mul_le_mul_of_nonneg_left h4 h1
 have hx0:0≤partX a num 1000000 unit mode:=Int.mul_nonneg (rnd_nonneg (by omega) hN0) (by omega)
 have hx1:partX a num 1000000 unit mode≤a+unit:=by
  unfold partX
  have k1:=rnd_hi (a * num) (1000000 * unit) mode
  have k2:rnd (a * num) (1000000 * unit) mode * unit≤(a * num / (1000000 * unit)+1) * unit:=Int.mul_le_mul_of_nonneg_right k1 (by omega)
  rw [Int.add_mul,Int.one_mul] at k2
  have k3:=Int.ediv_mul_le (a * num) (show (1000000 * unit) ≠ 0 by omega)
  have k4:a * num / (1000000 * unit) * (1000000 * unit) = 1000000 * (a * num / (1000000 * unit) * unit):=by
   rw [← Int.mul_assoc,Int.mul_comm _ 1000000,Int.mul_assoc]
  omega
 have hE:partE a num 1000000 unit mode = 0:=by
  rw [partE,if_neg (by simp [hok]),if_neg]
  simp only [maxN]
  simp
  omega
 exact ⟨hE,by rw [partN,if_pos hE],hx0,hx1⟩
theorem partX_mono {a b num unit mode : Int} (h1:0≤a) (hab:a≤b) (h3:0≤num) (h5:1≤unit) : partX a num 1000000 unit mode≤partX b num 1000000 unit mode:=by
 have e:a * num≤b * num:=Int.mul_le_mul_of_nonneg_right hab h3
 have:=rnd_mono (d:=1000000 * unit) (m:=mode) (by omega) (Int.mul_nonneg h1 h3) e
 exact Int.mul_le_mul_of_nonneg_right this (by omega)
theorem insF_append (s:SchT) (l m : List Int) : insF s (l++m) = insF s l+insF s m:=by simp [insF,sumI_append]
theorem insF_nonneg {s:SchT} {l:List Int} (h : ∀ x ∈ l,0≤x) : 0≤insF s l:=by
 unfold insF
 induction l with
 | nil=>simp [sumI]
 | cons a l ih =>
  have h1:=h a (by simp)
  have h2:=ih (fun x hx=>h x (by simp [hx]))
  rw [List.filter_cons]
  split
  ·
   simp only [sumI]; omega
  ·
   exact h2
theorem insF_take (s:SchT) (l:List Int) (k:Nat) (h:k < l.length) : insF s (l.take (k+1)) = insF s (l.take k)+if s.floor≤l[k] then l[k] else 0:=by
 rw [List.take_succ_eq_append_getElem h,insF_append]
 congr 1
 by_cases hf:s.floor≤l[k]
 ·
  simp [insF,hf,sumI]
 ·
  simp [insF,hf,sumI]
theorem insF_le {s:SchT} {l:List Int} (h : ∀ x ∈ l,0≤x) : insF s l≤sumI l:=by
 unfold insF
 induction l with
 | nil=>simp [sumI]
 | cons a l ih =>
  have h1:=h a (by simp)
  have h2:=ih (fun x hx=>h x (by simp [hx]))
  rw [List.filter_cons]
  split <;> simp only [sumI] <;> omega
theorem cumN_bd {s:SchT} {l:List Int} (hs:SchOk s) (h : ∀ x ∈ l,0≤x) (hl:l.length≤54) : 0≤cumN s l∧cumN s l≤54000000000:=by
 have h1:=insF_nonneg (s:=s) h
 have h2:=hs.c0
 have h3:=hs.c1
 have h4:0≤(l.length:Int) * s.ceiling:=Int.mul_nonneg (by omega) (by omega)
 have h5:(l.length:Int) * s.ceiling≤54 * 1000000000:=Int.mul_le_mul (by omega) h3 (by omega) (by omega)
 unfold cumN
 omega
theorem cumN_drop {s:SchT} {l:List Int} (hs:SchOk s) (h : ∀ x ∈ l,0≤x) (hne:l ≠ []) : cumN s l.dropLast≤cumN s l∧cumN s l≤cumN s l.dropLast+max (l.getLast hne) s.ceiling:=by
 have e:=List.dropLast_concat_getLast hne
 have h2:=hs.c0
 have hlast:=h (l.getLast hne) (List.getLast_mem hne)
 have e1:insF s l = insF s l.dropLast+if s.floor≤l.getLast hne then l.getLast hne else 0:=by
  conv=>lhs; rw [← e,insF_append]
  congr 1
  by_cases hf:s.floor≤l.getLast hne
  ·
   simp [insF,hf,sumI]
  ·
   simp [insF,hf,sumI]
 have e2:(l.length:Int) = l.dropLast.length+1:=by
  have:0 < l.length:=List.length_pos_iff.2 hne
  rw [List.length_dropLast]; omega
 unfold cumN
 rw [e1,e2,Int.add_mul]
 split <;> omega
theorem levy_sizes {s:SchT} {b:Int} (hs:SchOk s) (h0:0≤b) (h1:b≤500000000000) :
  partE b s.employee 1000000 s.unit s.mode = 0∧partE b s.employer 1000000 s.unit s.mode = 0∧(levyN s b).base = b∧0≤(levyN s b).employee∧(levyN s b).employee≤b+100∧0≤(levyN s b).employer∧(levyN s b).employer≤b+100:=by
 have hu0:=hs.u0
 have hu1:=hs.u1
 obtain ⟨a1,a2,a3,a4⟩:=part_ok h0 h1 hs.e0 hs.e1 hu0 hu1 hs.m0 hs.m1
 obtain ⟨b1,b2,b3,b4⟩:=part_ok h0 h1 hs.r0 hs.r1 hu0 hu1 hs.m0 hs.m1
 refine ⟨a1,b1,rfl,?_,?_,?_,?_⟩ <;> simp only [levyN] <;> omega
theorem levy_mono {s:SchT} {a b : Int} (hs:SchOk s) (h0:0≤a) (hab:a≤b) (h1:b≤500000000000) : (levyN s a).employee≤(levyN s b).employee∧(levyN s a).employer≤(levyN s b).employer:=by
 have hu0:=hs.u0
 have hu1:=hs.u1
 obtain ⟨_,a2,_,_⟩:=part_ok h0 (by omega:a≤500000000000) hs.e0 hs.e1 hu0 hu1 hs.m0 hs.m1
 obtain ⟨_,a3,_,_⟩:=part_ok (by omega:0≤b) h1 hs.e0 hs.e1 hu0 hu1 hs.m0 hs.m1
 obtain ⟨_,b2,_,_⟩:=part_ok h0 (by omega:a≤500000000000) hs.r0 hs.r1 hu0 hu1 hs.m0 hs.m1
 obtain ⟨_,b3,_,_⟩:=part_ok (by omega:0≤b) h1 hs.r0 hs.r1 hu0 hu1 hs.m0 hs.m1
 simp only [levyN,a2,a3,b2,b3]
 exact ⟨partX_mono h0 hab hs.e0 hu0,partX_mono h0 hab hs.r0 hu0⟩
theorem nextN_bd {s:SchT} {l:List Int} (hs:SchOk s) (h : ∀ x ∈ l,0≤x) (hl:l.length≤54) (hne:l ≠ []) :
  0≤(nextN s l).base∧0≤(nextN s l).employee∧0≤(nextN s l).employer∧(nextN s l).base≤54000000000∧(nextN s l).employee≤54000000100∧(nextN s l).employer≤54000000100:=by
 obtain ⟨c0,c1⟩:=cumN_bd hs h hl
 have h':∀ x ∈ l.dropLast,0≤x:=fun x hx=>h x ((List.dropLast_sublist l).subset hx)
 obtain ⟨d0,d1⟩:=cumN_bd hs h' (by simp; omega)
 obtain ⟨e0,_⟩:=cumN_drop hs h hne
 obtain ⟨_,_,f1,f2,f3,f4,f5⟩:=levy_sizes hs c0 (by omega:cumN s l≤500000000000)
 obtain ⟨_,_,g1,g2,g3,g4,g5⟩:=levy_sizes hs d0 (by omega:cumN s l.dropLast≤500000000000)
 obtain ⟨k1,k2⟩:=levy_mono hs d0 e0 (by omega)
 simp only [nextN,subLv,f1,g1]
 omega
theorem sumTo_le {f g : Nat→Int} (n:Nat) (h : ∀ i,i < n→f i≤g i) : sumTo f n≤sumTo g n:=by
 induction n with
 | zero=>exact Int.le_refl _
 | succ n ih =>
  have:=ih (fun i hi=>h i (by omega))
  have:=h n (by omega)
  simp only [sumTo]; omega
theorem sumTo_nonneg {f:Nat→Int} (n:Nat) (h : ∀ i,i < n→0≤f i) : 0≤sumTo f n:=by
 induction n with
 | zero=>exact Int.le_refl _
 | succ n ih =>
  have:=ih (fun i hi=>h i (by omega))
  have:=h n (by omega)
  simp only [sumTo]; omega
theorem sumTo_mul (f:Nat→Int) (c:Int) (n:Nat) : sumTo (fun i=>f i * c) n = sumTo f n * c:=by
 induction n with
 | zero=>simp [sumTo]
 | succ n ih=>simp only [sumTo,ih,Int.add_mul]
theorem BrOk.mono {t:List BrT} (h:BrOk t) : ∀ (d i : Nat),i+d < t.length→(t.getD i zBr).frm+d≤(t.getD (i+d) zBr).frm:=by
 intro d
 induction d with
 | zero=>intro i _; simp
 | succ d ih =>
  intro i hi
  have h1:=ih i (by omega)
  have h2:=h.asc (i+d) (by omega)
  rw [show i+(d+1) = i+d+1 by omega]
  omega
theorem BrOk.nonneg {t:List BrT} (h:BrOk t) {i:Nat} (hi:i < t.length) : 0≤(t.getD i zBr).frm:=by
 have:=h.mono i 0 (by omega)
 rw [h.zero] at this
 simp only [Nat.zero_add] at this
 omega
theorem split_bd {t:List BrT} {inc:Int} (i:Nat) : 0≤splitAt' t inc i:=by unfold splitAt'; omega
theorem split_le {t:List BrT} {inc:Int} (h:BrOk t) (h0:0≤inc) {i:Nat} (hi:i < t.length) : splitAt' t inc i≤inc:=by
 have:=h.nonneg hi
 unfold splitAt' endAt
 split <;> omega
theorem split_sum {t:List BrT} {inc:Int} (h:BrOk t) (h0:0≤inc) : ∀ k,(k < t.length→sumTo (splitAt' t inc) k = min inc (t.getD k zBr).frm)∧(k = t.length→sumTo (splitAt' t inc) k = inc):=by
 intro k
 induction k with
 | zero =>
  refine ⟨fun _=>?_,fun e=>?_⟩
  ·
   rw [h.zero]; simp only [sumTo]; omega
  ·
   have:=h.ne; omega
 | succ k ih =>
  have ih1:=ih.1
  refine ⟨fun hk=>?_,fun hk=>?_⟩
  ·
   have:=h.asc k hk
   simp only [sumTo,ih1 (by omega),splitAt',endAt,if_pos hk]
   omega
  ·
   simp only [sumTo,ih1 (by omega),splitAt',endAt]
   rw [if_neg (by omega)]
   omega
theorem split_sum_le {t:List BrT} {inc:Int} (h:BrOk t) (h0:0≤inc) {k:Nat} (hk:k≤t.length) : 0≤sumTo (splitAt' t inc) k∧sumTo (splitAt' t inc) k≤inc:=by
 refine ⟨sumTo_nonneg _ (fun i _=>split_bd i),?_⟩
 obtain ⟨h1,h2⟩:=split_sum h h0 k
 rcases Nat.lt_or_eq_of_le hk with e | e
 ·
  rw [h1 e]; omega
 ·
  rw [h2 e]; exact Int.le_refl _
def exTo (t:List BrT) (inc:Int) (k:Nat) : Int:=sumTo (fun i=>splitAt' t inc i * (t.getD i zBr).rate) k
theorem exTo_bd {t:List BrT} {inc:Int} (h:BrOk t) (h0:0≤inc) {k:Nat} (hk:k≤t.length) : 0≤exTo t inc k∧exTo t inc k≤inc * 1000000:=by
 refine ⟨sumTo_nonneg _ (fun i hi=>Int.mul_nonneg (split_bd i) (h.r0 i (by omega))),?_⟩
 have h1:exTo t inc k≤sumTo (fun i=>splitAt' t inc i * 1000000) k:=sumTo_le _ (fun i hi=>Int.mul_le_mul_of_nonneg_left (h.r1 i (by omega)) (split_bd i))
 rw [sumTo_mul] at h1
 have:=(split_sum_le h h0 hk).2
 omega
theorem taxN_bd {t:List BrT} {inc unit mode : Int} (h:BrOk t) (h0:0≤inc) (hu0:1≤unit) : 0≤taxN t inc unit mode∧taxN t inc unit mode≤inc+unit:=by
 obtain ⟨a,b⟩:=exTo_bd (inc:=inc) h h0 (Nat.le_refl _)
 have e:exactN t inc = exTo t inc t.length:=rfl
 unfold taxN
 rw [e]
 generalize exTo t inc t.length = x at a b
 refine ⟨Int.mul_nonneg (rnd_nonneg (by omega) a) (by omega),?_⟩
 have k1:=rnd_hi x (1000000 * unit) mode
 have k2:rnd x (1000000 * unit) mode * unit≤(x / (1000000 * unit)+1) * unit:=Int.mul_le_mul_of_nonneg_right k1 (by omega)
 rw [Int.add_mul,Int.one_mul] at k2
 have k3:=Int.ediv_mul_le x (show (1000000 * unit) ≠ 0 by omega)
 have k4:x / (1000000 * unit) * (1000000 * unit) = 1000000 * (x / (1000000 * unit) * unit):=by
  rw [← Int.mul_assoc,Int.mul_comm _ 1000000,Int.mul_assoc]
 omega
section
variable {t:List BrT} {num den:Int}
theorem scF_bd (h:BrOk t) (hn:0≤num) (hd:1≤den) (hnd:num≤den) {i:Nat} (hi:i < t.length) : 0≤scF t num den i∧scF t num den i≤(t.getD i zBr).frm:=by
 have h1:=h.nonneg hi
 unfold scF
 refine ⟨Int.ediv_nonneg (Int.mul_nonneg h1 hn) (by omega),?_⟩
 refine Int.ediv_le_of_le_mul (by omega) ?_
 exact Int.mul_le_mul_of_nonneg_left hnd h1
theorem scF_mono (h:BrOk t) (hn:0≤num) (hd:1≤den) {i:Nat} (hi:i+1 < t.length) : scF t num den i≤scF t num den (i+1):=by
 unfold scF
 refine Int.ediv_le_ediv (by omega) ?_
 have:=h.asc i hi
 exact Int.mul_le_mul_of_nonneg_right (by omega) hn
theorem scF_zero (h:BrOk t) : scF t num den 0 = 0:=by unfold scF; rw [h.zero]; simp
structure ScOk (t:List BrT) (num den : Int) (k:Nat) (l:List BrT) : Prop where
 asc:l.Pairwise (fun a b=>a.frm < b.frm)
 lt:k < t.length→∀ x ∈ l,x.frm < scF t num den k
 ok:∀ x ∈ l,0≤x.frm∧x.frm≤1000000000000∧0≤x.rate∧x.rate≤1000000
 len:l.length≤k
 hd:l = []∧(k < t.length→scF t num den k = 0) ∨ ∃ x r,l = x :: r∧x.frm = 0
theorem scOk (h:BrOk t) (hn:0≤num) (hd:1≤den) (hnd:num≤den) : ∀ k,k≤t.length→ScOk t num den k (scTo t num den k):=by
 intro k
 induction k with
 | zero=>intro _; exact ⟨List.Pairwise.nil,fun _ x hx=>(by cases hx),fun x hx=>(by cases hx),by simp [scTo],.inl ⟨rfl,fun _=>scF_zero h⟩⟩
 | succ k ih =>
  intro hk
  have I:=ih (by omega)
  have hb:=scF_bd h hn hd hnd (show k < t.length by omega)
  have hh:=h.hi k (by omega)
  simp only [scTo]
  split
  ·
   rename_i hs
   simp only [scSkip,Bool.and_eq_true,decide_eq_true_eq] at hs
   refine ⟨I.asc,fun hk2 x hx=>?_,I.ok,by have:=I.len; omega,?_⟩
   ·
    rw [hs.2]; exact I.lt (by omega) x hx
   ·
    rcases I.hd with ⟨h1,h2⟩ | h1
    ·
     exact .inl ⟨h1,fun _=>by rw [hs.2]; exact h2 (by omega)⟩
    ·
     exact .inr h1
  ·
   rename_i hs
   have hlt:k+1 < t.length→scF t num den k < scF t num den (k+1):=by
    intro hk2
    have h1:=scF_mono h hn hd hk2
    simp only [scSkip,Bool.and_eq_true,decide_eq_true_eq] at hs
    have h2:¬ scF t num den (k+1) = scF t num den k:=fun e=>hs ⟨hk2,e⟩
    omega
   refine ⟨?_,fun hk2 x hx=>?_,fun x hx=>?_,by have:=I.len; simp; omega,?_⟩
   ·
    rw [List.pairwise_append]
    refine ⟨I.asc,by simp,fun x hx y hy=>?_⟩
    simp at hy; subst hy
    exact I.lt (by omega) x hx
   ·
    rcases List.mem_append.1 hx with h1 | h1
    ·
     have:=I.lt (by omega) x h1
     have:=hlt hk2
     omega
    ·
     simp at h1; subst h1; exact hlt hk2
   ·
    rcases List.mem_append.1 hx with h1 | h1
    ·
     exact I.ok x h1
    ·
     simp at h1; subst h1
     exact ⟨hb.1,by show scF t num den k≤_; omega,h.r0 k (by omega),h.r1 k (by omega)⟩
   ·
    rcases I.hd with ⟨h1,h2⟩ | ⟨x,r,h1,h2⟩
    ·
     rw [h1]; exact .inr ⟨_,[],rfl,h2 (by omega)⟩
    ·
     rw [h1]; exact .inr ⟨x,_,rfl,h2⟩
theorem scaleN_ok (h:BrOk t) (hn:0≤num) (hd:1≤den) (hnd:num≤den) : BrOk (scaleN t num den):=by
 have I:=scOk h hn hd hnd t.length (Nat.le_refl _)
 have hne:=h.ne
 have hl:=h.len
 have h1:scTo t num den t.length ≠ []:=by
  obtain ⟨n,hn⟩ : ∃ n,t.length = n+1:=⟨t.length - 1,by omega⟩
  rw [hn]
  simp only [scTo]
  rw [if_neg (by simp [scSkip]; omega)]
  simp
 unfold scaleN
 generalize scTo t num den t.length = l at I h1
 have hg:∀ i,(hi:i < l.length)→l.getD i zBr = l[i]:=fun i hi=>by rw [List.getD_eq_getElem?_getD,List.getElem?_eq_getElem hi]; rfl
 refine ⟨List.length_pos_iff.2 h1,by have:=I.len; omega,?_,fun i hi=>?_,fun i hi=>?_,fun i hi=>?_,fun i hi=>?_⟩
 ·
  rcases I.hd with ⟨h2,_⟩ | ⟨x,r,h2,h3⟩
  ·
   exact absurd h2 h1
  ·
   subst h2; exact h3
 ·
  rw [hg i (by omega),hg (i+1) hi]
  exact List.pairwise_iff_getElem.1 I.asc i (i+1) (by omega) hi (by omega)
 ·
  rw [hg i hi]; exact (I.ok _ (List.getElem_mem hi)).2.1
 ·
  rw [hg i hi]; exact (I.ok _ (List.getElem_mem hi)).2.2.1
 ·
  rw [hg i hi]; exact (I.ok _ (List.getElem_mem hi)).2.2.2
end
theorem tax30_bd {t:TarT} {l:List BrT} {al cr inc : Int} (h:BrOk l) (hu0:1≤t.unit) (hu1:t.unit≤100) (ha:0≤al) (hc:0≤cr) (hi:0≤inc) : 0≤tax30N t l al cr inc∧tax30N t l al cr inc≤inc+100:=by
 have:=taxN_bd (mode:=t.mode) (inc:=max (inc - al) 0) h (by omega) hu0
 unfold tax30N
 omega
theorem claim_bd {o:OrdT} (h:OrdOk o) : 0≤claimN o∧claimN o≤1000000000:=by
 have:=h.a0; have:=h.t0; have:=h.t1
 unfold claimN; split <;> omega
theorem clm_bd {l:List OrdT} {k:Int × Int} (h : ∀ o ∈ l,OrdOk o) : ∀ x ∈ clmG l k,0≤x∧x≤1000000000:=by
 intro x hx
 obtain ⟨o,ho,rfl⟩:=List.mem_map.1 hx
 exact claim_bd (h o (mem_flt ho))
theorem parts_len (l:List OrdT) (k:Int × Int) (left:Int) : (partsG l k left).length = (l.filter (inGrp k)).length:=by
 unfold partsG; split
 ·
  rw [allocN_len]; simp [clmG]
 ·
  simp [clmG]
theorem parts_bd {l:List OrdT} {k:Int × Int} {left:Int} (h : ∀ o ∈ l,OrdOk o) (hl:0≤left) : (∀ x ∈ partsG l k left,0≤x)∧sumI (partsG l k left)≤left∧0≤sumI (partsG l k left):=by
 have hb:=clm_bd (k:=k) h
 unfold partsG
 split
 ·
  rename_i h1
  have hs:0 < sumI (clmG l k):=by omega
  exact ⟨allocN_nonneg hl (fun x hx=>(hb x hx).1) hs,by rw [allocN_sum hs]; exact Int.le_refl _,by rw [allocN_sum hs]; exact hl⟩
 ·
  rename_i h1
  exact ⟨fun x hx=>(hb x hx).1,by omega,(sumI_bd hb).1⟩
theorem sumE_putO (out:List Elem) (o:OrdT) {p:Int} (h:0≤p) : sumE (putO out o p) = sumE out+p:=by
 unfold putO; split
 ·
  rw [sumE_put]
 ·
  omega
theorem sumE_putsG : ∀ (os:List OrdT) (ps:List Int) (out:List Elem),os.length = ps.length→(∀ x ∈ ps,0≤x)→sumE (putsG out os ps) = sumE out+sumI ps
 | [],[],out,_,_=>by simp [putsG,sumI]
 | [],_ :: _,_,h,_=>by simp at h
 | _ :: _,[],_,h,_=>by simp at h
 | o :: r,p :: ps,out,h,hp=>by
  rw [putsG,sumE_putsG r ps _ (by simpa using h) (fun x hx=>hp x (by simp [hx])),sumE_putO _ _ (hp p (by simp))]
  simp only [sumI]; omega
structure AtOk (l:List OrdT) (n:Nat) (out:List Elem) : Prop where
 pos:∀ x ∈ out,0≤x.amount
 code:∀ x ∈ out,∃ o ∈ l,x.code = o.id
 len:out.length≤n
theorem put_pos {l:List Elem} {e:Elem} (h : ∀ x ∈ l,0≤x.amount) (he:0≤e.amount) : ∀ x ∈ put l e,0≤x.amount:=by
 induction l with
 | nil=>intro x hx; simp [put] at hx; subst hx; exact he
 | cons a l ih =>
  have ha:=h a (by simp)
  have hl:∀ x ∈ l,0≤x.amount:=fun x hx=>h x (by simp [hx])
  intro x hx
  rw [put] at hx
  split at hx
  ·
   rcases List.mem_cons.1 hx with rfl | hx
   ·
    exact ha
   ·
    exact ih hl x hx
  ·
   split at hx
   ·
    rcases List.mem_cons.1 hx with rfl | hx
    ·
     show 0≤e.amount+a.amount; omega
    ·
     exact hl x hx
   ·
    rcases List.mem_cons.1 hx with rfl | hx
    ·
     exact he
    ·
     exact h x hx
theorem AtOk.putO {l:List OrdT} {n:Nat} {out:List Elem} (h:AtOk l n out) {o:OrdT} (ho:o ∈ l) (p:Int) : AtOk l (n+1) (putO out o p):=by
 unfold Go.Proofs.YtlhkojcmcmkmaaaGreat.putO
 split
 ·
  refine ⟨put_pos h.pos (by show 0≤p; omega),fun x hx=>?_,by have:=put_length out ⟨o.id,p⟩; have:=h.len; omega⟩
  rcases put_codes _ _ x hx with e | ⟨y,hy,e⟩
  ·
   exact ⟨o,ho,e⟩
  ·
   obtain ⟨o',ho',e'⟩:=h.code y hy
   exact ⟨o',ho',by rw [← e,e']⟩
 ·
  exact ⟨h.pos,h.code,by have:=h.len; omega⟩
theorem AtOk.puts {l:List OrdT} : ∀ (os:List OrdT) (ps:List Int) {n:Nat} {out:List Elem},AtOk l n out→(∀ o ∈ os,o ∈ l)→AtOk l (n+os.length) (putsG out os ps)
 | [],ps,n,out,h,_=>by cases ps <;> exact h
 | o :: r,[],n,out,h,_=>by
  exact ⟨h.pos,h.code,by have:=h.len; show out.length≤_; omega⟩
 | o :: r,p :: ps,n,out,h,hs=>by
  rw [putsG]
  have:=AtOk.puts r ps (h.putO (hs o (by simp)) p) (fun o ho=>hs o (by simp [ho]))
  rw [List.length_cons,show n+(r.length+1) = n+1+r.length by omega]
  exact this
theorem nextK_mem {l:List OrdT} {priv:Bool} {last:Int × Int} : (nextK l priv last).1 ≠ 10→∃ o ∈ l,elig priv o = true∧keyLt last (o.rank,o.day)∧nextK l priv last = (o.rank,o.day):=by
 have key:∀ (m:List OrdT) (p:Int × Int),(m.foldl (stepK priv last) p = p) ∨ ∃ o ∈ m,elig priv o = true∧keyLt last (o.rank,o.day)∧m.foldl (stepK priv last) p = (o.rank,o.day):=by
  intro m
  induction m with
  | nil=>intro p; exact .inl rfl
  | cons o m ih =>
   intro p
   rw [List.foldl_cons]
   rcases ih (stepK priv last p o) with h | ⟨o',ho',h1,h2,h3⟩
   ·
    rw [h]
    unfold stepK
    split
    ·
     rename_i hc; exact .inr ⟨o,by simp,hc.1,hc.2.1,rfl⟩
    ·
     exact .inl rfl
   ·
    exact .inr ⟨o',by simp [ho'],h1,h2,h3⟩
 intro h
 rcases key l (10,0) with e | e
 ·
  exact absurd (by unfold nextK; rw [e]) h
 ·
  exact e
theorem keyLt_trans {a b c : Int × Int} (h1:keyLt a b) (h2:keyLt b c) : keyLt a c:=by
 unfold keyLt at *; omega
theorem keyLt_irr (a:Int × Int) : ¬ keyLt a a:=by unfold keyLt; omega
theorem cntK_lt {l:List OrdT} {priv:Bool} {last:Int × Int} (h : (nextK l priv last).1 ≠ 10) : cntK l priv (nextK l priv last) < cntK l priv last:=by
 obtain ⟨o,ho,h1,h2,h3⟩:=nextK_mem h
 rw [h3]
 unfold cntK
 have hsub:∀ (m:List OrdT),o ∈ m→(m.filter fun o'=>elig priv o' && decide (keyLt (o.rank,o.day) (o'.rank,o'.day))).length < (m.filter fun o'=>elig priv o' && decide (keyLt last (o'.rank,o'.day))).length:=by
  have hle:∀ (m:List OrdT),(m.filter fun o'=>elig priv o' && decide (keyLt (o.rank,o.day) (o'.rank,o'.day))).length≤(m.filter fun o'=>elig priv o' && decide (keyLt last (o'.rank,o'.day))).length:=by
   intro m
   rw [← List.countP_eq_length_filter,← List.countP_eq_length_filter]
   refine List.countP_mono_left (fun x _ hx=>?_)
   simp only [Bool.and_eq_true,decide_eq_true_eq] at hx ⊢
   exact ⟨hx.1,keyLt_trans h2 hx.2⟩
  intro m
  induction m with
  | nil=>intro h; cases h
  | cons a m ih =>
   intro hm
   rcases List.mem_cons.1 hm with e | e
   ·
    subst e
    rw [List.filter_cons,List.filter_cons,if_neg (by simp; intro _; exact keyLt_irr _),if_pos (by simp [h1,h2])]
    have:=hle m
    simp; omega
   ·
    have h4:=ih e
    rw [List.filter_cons,List.filter_cons]
    by_cases hx:(elig priv a && decide (keyLt (o.rank,o.day) (a.rank,a.day))) = true
    ·
     rw [if_pos hx]
     have hx2:(elig priv a && decide (keyLt last (a.rank,a.day))) = true:=by
      simp only [Bool.and_eq_true,decide_eq_true_eq] at hx ⊢
      exact ⟨hx.1,keyLt_trans h2 hx.2⟩
     rw [if_pos hx2]
     simpa using h4
    ·
     rw [if_neg hx]
     split
     ·
      simp; omega
     ·
      exact h4
 exact hsub l ho
theorem srv_stop {l:List OrdT} {priv:Bool} {last:Int × Int} {left taken : Int} {out:List Elem} (n:Nat) (h : (nextK l priv last).1 = 10) : srv l priv n last left out taken = (out,taken):=by
 cases n with
 | zero=>rfl
 | succ n=>rw [srv,if_pos h]
theorem srv_fuel {l:List OrdT} {priv:Bool} : ∀ (n m : Nat) {last:Int × Int} {left taken : Int} {out:List Elem},cntK l priv last≤n→cntK l priv last≤m→srv l priv n last left out taken = srv l priv m last left out taken:=by
 intro n
 induction n with
 | zero =>
  intro m last left taken out h _
  have h1:(nextK l priv last).1 = 10:=Decidable.byContradiction fun h1=>by have:=cntK_lt h1; omega
  rw [srv_stop _ h1,srv_stop _ h1]
 | succ n ih =>
  intro m last left taken out h hm
  by_cases h1:(nextK l priv last).1 = 10
  ·
   rw [srv_stop _ h1,srv_stop _ h1]
  ·
   have h2:=cntK_lt h1
   obtain ⟨q,rfl⟩ : ∃ q,m = q+1:=⟨m - 1,by omega⟩
   rw [srv,if_neg h1,srv,if_neg h1]
   exact ih q (by omega) (by omega)
theorem srv_step {l:List OrdT} {priv:Bool} {last:Int × Int} {left taken : Int} {out:List Elem} (h : (nextK l priv last).1 ≠ 10) :
  srv l priv (cntK l priv last) last left out taken = srv l priv (cntK l priv (nextK l priv last)) (nextK l priv last) (left - sumI (partsG l (nextK l priv last) left)) (putsG out (l.filter (inGrp (nextK l priv last))) (partsG l (nextK l priv last) left)) (taken+sumI (partsG l (nextK l priv last) left)):=by
 have h2:=cntK_lt h
 obtain ⟨m,hm⟩ : ∃ m,cntK l priv last = m+1:=⟨cntK l priv last - 1,by omega⟩
 rw [hm,srv,if_neg h]
 exact srv_fuel _ _ (by omega) (Nat.le_refl _)
end Go.Proofs.YtlhkojcmcmkmaaaGreat
namespace Go.Proofs.YtlhkojcmcmkmaaaGreat
open Go.RowKit
def putAll (w:World) (g:Nat) (i:Nat) : List Value→World
 | []=>w
 | v :: r=>putAll (w.setCell ⟨g,i,none⟩ v) g (i+1) r
theorem Blk.fillFrom {g:Nat} {t:TypeId} : ∀ (vs:List Value) {w:World} {cs:Array Value} (i:Nat),Blk w g t cs→i+vs.length≤cs.size→Blk (putAll w g i vs) g t (cs.toList.take i++vs++cs.toList.drop (i+vs.length)).toArray
 | [],w,cs,i,h,hs=>by
  simp only [List.length_nil,Nat.add_zero,List.append_nil,List.take_append_drop]
  exact h
 | v :: r,w,cs,i,h,hs=>by
  have hs':i < cs.size:=by simp at hs; omega
  have h1:=Blk.fillFrom r (i+1) (h.set_ i v) (by simp at hs ⊢; omega)
  rw [putAll]
  have e:(cs.setIfInBounds i v).toList.take (i+1)++r++(cs.setIfInBounds i v).toList.drop (i+1+r.length) = cs.toList.take i++(v :: r)++cs.toList.drop (i+(v :: r).length):=by
   rw [Array.toList_setIfInBounds]
   have hl:i < (cs.toList.set i v).length:=by simpa using hs'
   rw [List.take_succ_eq_append_getElem hl,List.getElem_set_self,List.take_set_of_le (Nat.le_refl _),List.drop_set_of_lt (by omega),List.length_cons]
   simp [Nat.add_assoc,Nat.add_comm 1]
  rw [e] at h1
  exact h1
theorem Blk.fill {w:World} {g:Nat} {t:TypeId} {cs:Array Value} (h:Blk w g t cs) (vs:List Value) (hs:vs.length = cs.size) : Blk (putAll w g 0 vs) g t vs.toArray:=by
 have:=Blk.fillFrom vs 0 h (by omega)
 rw [List.drop_of_length_le (by simp; omega)] at this
 simpa using this
theorem below_fill {B:Nat} {a:World} {g:Nat} (hg:B≤g) : ∀ (vs:List Value) {w:World} (i:Nat),Below B a w→Below B a (putAll w g i vs)
 | [],_,_,h=>h
 | v :: r,_,i,h=>below_fill hg r (i+1) (h.setCell (p:=⟨g,i,none⟩) hg v)
theorem Blk.farAll {g g' : Nat} {t:TypeId} {cs:Array Value} (hne:g ≠ g') : ∀ (vs:List Value) {w:World} (i:Nat),Blk w g t cs→Blk (putAll w g' i vs) g t cs
 | [],_,_,h=>h
 | v :: r,_,i,h=>Blk.farAll hne r (i+1) (h.far (p:=⟨g',i,none⟩) hne v)
end Go.Proofs.YtlhkojcmcmkmaaaGreat
namespace Go.Proofs.YtlhkojcmcmkmaaaGreat
open Go.RowKit
theorem brD {t:List BrT} {k:Nat} (h:k < t.length) : t.getD k zBr = t[k]:=by rw [List.getD_eq_getElem?_getD,List.getElem?_eq_getElem h]; rfl
theorem splitN_len (t:List BrT) (inc:Int) : (splitN t inc).length = t.length:=by simp [splitN]
theorem splitN_at (t:List BrT) (inc:Int) {k:Nat} (h:k < t.length) : (splitN t inc).getD k 0 = splitAt' t inc k:=by
 simp [splitN,List.getD_eq_getElem?_getD,List.getElem?_range h]
theorem split_in {t:List BrT} {inc:Int} {k:Nat} (h:k+1 < t.length) : splitAt' t inc k = max (min inc t[k+1].frm - t[k].frm) 0:=by rw [splitAt',endAt,if_pos h,brD h,brD (show k < t.length by omega)]
theorem split_last {t:List BrT} {inc:Int} {k:Nat} (hk:k < t.length) (h : ¬ k+1 < t.length) : splitAt' t inc k = max (inc - t[k].frm) 0:=by rw [splitAt',endAt,if_neg h,brD hk]
def splitTo (t:List BrT) (inc:Int) (k i : Nat) : Value:=.int .i64 (if i < k then splitAt' t inc i else 0)
theorem splitTo_next {w:World} {g m k : Nat} {t:List BrT} {inc v : Int} (h:w.rowIs g 3 m (splitTo t inc k)) (hv:v = splitAt' t inc k) : (w.setCell ⟨g,k,none⟩ (.int .i64 v)).rowIs g 3 m (splitTo t inc (k+1)):=by
 subst hv
 refine (h.set k _).congr fun i _=>?_
 by_cases e:i = k
 ·
  subst e; rw [if_pos rfl]; simp [splitTo]
 ·
  rw [if_neg e]
  unfold splitTo
  by_cases h1:i < k
  ·
   rw [if_pos h1,if_pos (by omega)]
  ·
   rw [if_neg h1,if_neg (by omega)]
theorem splitTo_all {w:World} {g:Nat} {t:List BrT} {inc:Int} (h:w.rowIs g 3 t.length (splitTo t inc t.length)) : RowI w g (splitN t inc):=by
 unfold RowI
 rw [splitN_len]
 refine h.congr fun i hi=>?_
 rw [splitN_at t inc hi,splitTo,if_pos hi]
theorem exTo_succ (t:List BrT) (inc:Int) (k:Nat) : exTo t inc (k+1) = exTo t inc k+splitAt' t inc k * (t.getD k zBr).rate:=rfl
end Go.Proofs.YtlhkojcmcmkmaaaGreat
namespace Go.Proofs.YtlhkojcmcmkmaaaGreat
open Go.RowKit
end Go.Proofs.YtlhkojcmcmkmaaaGreat
namespace Go.Proofs.YtlhkojcmcmkmaaaGreat
open Go.RowKit
theorem rwD {t:List RowT} {k:Nat} (h:k < t.length) : t.getD k zRw = t[k]:=by rw [List.getD_eq_getElem?_getD,List.getElem?_eq_getElem h]; rfl
structure TarM where
 t:TarT
 Ab:Option Addr
 cb:Nat
 Ar:Option Addr
 cr:Nat
structure TarM.In (m:TarM) (w:World) : Prop where
 brs:SliceOf encBr 2 w w.heap.size m.Ab m.t.brs
 rows:SliceOf encRw 2 w w.heap.size m.Ar m.t.rows
theorem TarM.In.adv {m:TarM} {w w' : World} (h:m.In w) (hb:Below w.heap.size w w') : m.In w':=⟨h.brs.adv hb,h.rows.adv hb⟩
end Go.Proofs.YtlhkojcmcmkmaaaGreat
