/- Joined texts: G33 GrN GrM GrE. Conditions: as stated. -/
import Derived.Laws.MakeOwn
import Derived.Test.YtlhkojcmcmkmaaaGreatJP32m
import Derived.Test.YtlhkojcmcmkmaaaGreatJCaseIn
namespace Go.Proofs.YtlhkojcmcmkmaaaGreat
open Go.RowKit
def lgO (I:NetIn) : Int:=if I.err = 0 then I.legal else 0
def LegPost (I:NetIn) (w:World) (e:Ending) (w' : World) : Prop:=e = .returned (.tuple #[.int .i64 (lgO I),.int .i64 I.err])∧Below w.heap.size w w'
set_option maxRecDepth 100000 in
set_option maxHeartbeats 1000000 in
theorem legalG (r:RulesM) (y:YearM) (A:Option Addr) (cap:Nat) (xs:List Elem) (code:ByteArray) (n:Int) (w:World) (hr:r.In w) (hy:y.In w) (hs:SliceOf encE 2 w w.heap.size A xs) (hl:xs.length≤1000) (hok:InOk (mkI r pQ y [] true (xs++[⟨code,n⟩]))) :
  Calls Tryz.prog 36 #[r.val,y.val,.slice A xs.length cap,.string code,.int .i64 n] w (LegPost (mkI r pQ y [] true (xs++[⟨code,n⟩])) w):=by
 have hB1:=(Blk.new w 45 #[.slice r.Aw r.ws.length r.cw,.slice r.As r.ss.length r.cs,.int .i64 r.tm.t.method,.slice r.tm.Ab r.tm.t.brs.length r.tm.cb,.int .i64 r.tm.t.allowance,.int .i64 r.tm.t.credit,.int .i64 r.tm.t.unit,.int .i64 r.tm.t.mode,.slice r.tm.Ar r.tm.t.rows.length r.tm.cr,.int .i64 r.count,.int .i64 r.sh.fixed,.int .i64 r.sh.dependent,.int .i64 r.sh.lower,.int .i64 r.sh.share,.int .i64 r.sh.top,.int .i64 r.recover]).alloc (.cells #[.int .i64 y.periods,.int .i64 y.income,.int .i64 y.withheld,.slice y.Ai y.ins.length y.ci,.slice y.At y.taken.length y.ct] 53)
 have hB2:=Blk.new (w.alloc (.cells #[.slice r.Aw r.ws.length r.cw,.slice r.As r.ss.length r.cs,.int .i64 r.tm.t.method,.slice r.tm.Ab r.tm.t.brs.length r.tm.cb,.int .i64 r.tm.t.allowance,.int .i64 r.tm.t.credit,.int .i64 r.tm.t.unit,.int .i64 r.tm.t.mode,.slice r.tm.Ar r.tm.t.rows.length r.tm.cr,.int .i64 r.count,.int .i64 r.sh.fixed,.int .i64 r.sh.dependent,.int .i64 r.sh.lower,.int .i64 r.sh.share,.int .i64 r.sh.top,.int .i64 r.recover] 45)) 53 #[.int .i64 y.periods,.int .i64 y.income,.int .i64 y.withheld,.slice y.Ai y.ins.length y.ci,.slice y.At y.taken.length y.ct]
 rw [World.size_alloc] at hB2
 have hb1:=bel_alloc (below_new w (.cells #[.slice r.Aw r.ws.length r.cw,.slice r.As r.ss.length r.cs,.int .i64 r.tm.t.method,.slice r.tm.Ab r.tm.t.brs.length r.tm.cb,.int .i64 r.tm.t.allowance,.int .i64 r.tm.t.credit,.int .i64 r.tm.t.unit,.int .i64 r.tm.t.mode,.slice r.tm.Ar r.tm.t.rows.length r.tm.cr,.int .i64 r.count,.int .i64 r.sh.fixed,.int .i64 r.sh.dependent,.int .i64 r.sh.lower,.int .i64 r.sh.share,.int .i64 r.sh.top,.int .i64 r.recover] 45)) (.cells #[.int .i64 y.periods,.int .i64 y.income,.int .i64 y.withheld,.slice y.Ai y.ins.length y.ci,.slice y.At y.taken.length y.ct] 53)
 have hr1:=hr.adv hb1
 have hy1:=hy.adv hb1
 have hs1:=hs.adv hb1
 obtain ⟨I,hI⟩ : ∃ I,I = mkI r pQ y [] true (xs++[⟨code,n⟩]):=⟨_,rfl⟩
 rw [← hI]
 have HII:=Lib.hid hI
 have HOK:=Lib.hid hok
 clear hr hy hs hok hI
 unfold RulesM.val YearM.val
 go_enter Tryz.func36,Tryz.ntmps36
 go_upto_region 1 with fail
 generalize (w.alloc _).alloc _ = w1 at hB1 hB2 hb1 hr1 hy1 hs1 ⊢
 generalize w.heap.size+1 = g2 at *
 generalize hg1:w.heap.size = g1 at *
 obtain ⟨i,hi,hz,hsz,hib⟩:=info_parts infoE
 have hib2:i.bytes * (xs.length+1)≤281474976710656:=by rw [hib]; omega
 have HI:=Lib.hid hi
 have HZ:=Lib.hid hz
 have HSZ:=Lib.hid hsz
 clear hi hz hsz hib
 go_upto_region 3 with (first
  | (at_make; refine wpList_make_own _ rfl _ _ 51 rfl w1.heap.size 69 i _ 2 Tryz.underlying51 HI.out HZ.out HSZ.out .i64 .i64 _ (xs.length+1) rfl rfl (by omega) hib2 (by unfold maxLen; omega) (Nat.le_refl _) ?_; intro w3 hown3 hg3; (have hown3':Own encE 2 69 w3 w1.heap.size (.slice (some ⟨w1.heap.size,0,none⟩) 0 (xs.length+1)) ([] : List Elem):=hown3); (have hb23:Below w1.heap.size w1 w3:=only_below hg3 (Nat.le_refl _) (fun q e=>by cases e)); (have hx3:=hs1.below hb23); (have hs3:=hb23.size); clear hown3 hg3)
  | (at_builtin; (refine wpList_append_list (ys:=xs) _ _ 51 _ 24 _ infoE Tryz.underlying51 hown3' hx3 encE_len (by omega) rfl encE_one (by simp; omega) (by omega) hs3 (by rfl) (by rfl) (by rfl) (by rfl) (by rfl) ?_); intro v4 w4 hown4 hg4; (have hb34:=hown3'.below_of hg4 hs3); (have hs4:=hb34.size); (have hown4':Own encE 2 69 w4 w1.heap.size v4 xs:=hown4); clear hown4 hg4))
 have hb14:=hb23.trans hb34
 clear hown3' hx3 hb23 hb34
 obtain ⟨A4,c4,rfl,-,-,-,-⟩:=hown4'.form2 encE_len
 go_upto_region 4 with (at_builtin; (refine wpList_append_one _ _ 51 ⟨code,n⟩ _ 24 _ infoE Tryz.underlying51 hown4' encE_len (by omega) rfl (encE_one _) (by omega) (by omega) (by omega) (by rfl) (by rfl) (by rfl) (by rfl) (by simp) (by rfl) ?_); intro v5 w5 hown5 hg5; (have hb15:=hb14.trans (hown4'.below_of hg5 (by omega))))
 obtain ⟨A5,c5,rfl,hS5,-,-,-⟩:=hown5.form2 encE_len
 have hB15:=hB1.below hb15 hB1.lt
 have hB25:=hB2.below hb15 hB2.lt
 have hC:=compute_ok r pQ y none A5 0 c5 [] (xs++[⟨code,n⟩]) true w5 (hr1.adv hb15) ⟨SliceOf.nil_,SliceOf.nil_,SliceOf.nil_,fun e he=>by cases he⟩ (hy1.adv hb15) SliceOf.nil_ hS5 (by simp; omega) HOK.out
 rw [← HII.out] at hC
 rw [show (xs++[(⟨code,n⟩ : Elem)]).length = xs.length+1 by simp,show pQ.val = .agg #[.int .i64 0,.slice none 0 0,.slice none 0 0,.slice none 0 0] from rfl] at hC
 have hbw5:=hb1.trans (hb15.mono (by have:=hb1.size; omega))
 have HCC:=Lib.hid hC
 clear hC hown5 hg5 hb14 hb15 hs1 hr1 hy1 hown4' hB1 hB2 hb1 hS5
 unfold RulesM.val YearM.val at HCC
 go_wp2_with (first | (refine wpList_load_blk rfl _ _ rfl g1 rfl hB15 Tryz.underlying45 rfl (by kernel_rfl) ?_) | (refine wpList_load_blk rfl _ _ rfl g2 rfl hB25 Tryz.underlying53 rfl (by kernel_rfl) ?_))
 refine HCC.out.mono ?_
 clear HCC hB15 hB25
 rintro e w6 (⟨herr,A6,c6,Ai,ci,At,ct,rfl,-,-,-,hb6⟩ | ⟨herr,rfl,hb6⟩)
 ·
  have hS7:=(Blk.new w6 27 #[.int .i64 I.b.g,.int .i64 I.b.c,.int .i64 I.b.t,.int .i64 I.b.i,.int .i64 I.b.a,.int .i64 I.legal,.slice A6 I.lines.length c6]).alloc (.cells #[.int .i64 I.next.periods,.int .i64 I.next.income,.int .i64 I.next.withheld,.slice Ai I.next.insured.length ci,.slice At I.next.taken.length ct] 53)
  have hb7:=bel_alloc (below_new w6 (.cells #[.int .i64 I.b.g,.int .i64 I.b.c,.int .i64 I.b.t,.int .i64 I.b.i,.int .i64 I.b.a,.int .i64 I.legal,.slice A6 I.lines.length c6] 27)) (.cells #[.int .i64 I.next.periods,.int .i64 I.next.income,.int .i64 I.next.withheld,.slice Ai I.next.insured.length ci,.slice At I.next.taken.length ct] 53)
  have hbw7:=(hbw5.trans (hb6.mono (by have:=hbw5.size; omega))).trans (hb7.mono (by have:=hbw5.size; have:=hb6.size; omega))
  go_upto_region 5 with fail
  clear hb7 hb6 hbw5
  generalize World.alloc (w6.alloc _) _ = w7 at hS7 hbw7 ⊢
  have z5:=hS7.cell 5
  simp only [nqg,nqh,nqi] at z5
  go_wp2
  go_ret2
  refine ⟨?_,hg1 ▸ hbw7⟩
  rw [herr,lgO,if_pos herr]
  rfl
 ·
  have hb7:=bel_alloc (below_new w6 (.cells #[.int .i64 0,.int .i64 0,.int .i64 0,.int .i64 0,.int .i64 0,.int .i64 0,.slice none 0 0] 27)) (.cells #[.int .i64 0,.int .i64 0,.int .i64 0,.slice none 0 0,.slice none 0 0] 53)
  have hbw7:=(hbw5.trans (hb6.mono (by have:=hbw5.size; omega))).trans (hb7.mono (by have:=hbw5.size; have:=hb6.size; omega))
  have HLO:Hid (lgO I = 0):=by rw [Hid,lgO,if_neg herr]
  obtain ⟨er,her⟩ : ∃ er,er = I.err:=⟨_,rfl⟩
  rw [← her] at herr ⊢
  have HER:=Lib.hid her
  clear her
  have hner:(er != 0) = true:=by simpa using herr
  go_upto_region 5 with fail
  clear hb7 hb6 hbw5
  generalize World.alloc (w6.alloc _) _ = w7 at hbw7 ⊢
  go_wp2
  go_ret2
  exact ⟨by rw [HLO.out]; simp [go_sem,HER.out],hg1 ▸ hbw7⟩
end Go.Proofs.YtlhkojcmcmkmaaaGreat
namespace Go.Proofs.YtlhkojcmcmkmaaaGreat
open Go.RowKit
theorem rnd_err {num den mode : Int} (hd:0 < den) : den * rnd num den mode≤num+den∧num - den≤den * rnd num den mode:=by
 have h1:=rnd_lo num den mode
 have h2:=rnd_hi num den mode
 have h3:=Int.emod_add_mul_ediv num den
 have h4:=Int.emod_nonneg num (show den ≠ 0 by omega)
 have h5:=Int.emod_lt_of_pos num hd
 have h6:den * (num / den)≤den * rnd num den mode:=Int.mul_le_mul_of_nonneg_left h1 (by omega)
 have h7:den * rnd num den mode≤den * (num / den+1):=Int.mul_le_mul_of_nonneg_left h2 (by omega)
 rw [Int.mul_add,Int.mul_one] at h7
 omega
theorem part_err {a num unit mode : Int} (hu:1≤unit) : 1000000 * partX a num 1000000 unit mode≤a * num+1000000 * unit∧a * num - 1000000 * unit≤1000000 * partX a num 1000000 unit mode:=by
 have h:=rnd_err (num:=a * num) (den:=1000000 * unit) (mode:=mode) (by omega)
 unfold partX
 have e:1000000 * (rnd (a * num) (1000000 * unit) mode * unit) = 1000000 * unit * rnd (a * num) (1000000 * unit) mode:=by
  rw [Int.mul_comm (rnd _ _ _) unit,Int.mul_assoc]
 rw [e]
 exact h
theorem sumTo_sub (f g : Nat→Int) (n:Nat) : sumTo (fun i=>f i - g i) n = sumTo f n - sumTo g n:=by
 induction n with
 | zero=>simp [sumTo]
 | succ n ih=>simp only [sumTo,ih]; omega
theorem exact_grow {t:List BrT} {p x y : Int} (h:BrOk t) (hp : ∀ b ∈ t,b.rate≤p) (h0:0≤x) (hxy:x≤y) : exactN t x≤exactN t y∧exactN t y - exactN t x≤p * (y - x):=by
 have hm:∀ i,splitAt' t x i≤splitAt' t y i:=fun i=>by
  have:endAt t x i≤endAt t y i:=by unfold endAt; split <;> omega
  unfold splitAt'; omega
 refine ⟨sumTo_le _ (fun i hi=>Int.mul_le_mul_of_nonneg_right (hm i) (h.r0 i hi)),?_⟩
 have e1:exactN t y - exactN t x = sumTo (fun i=>splitAt' t y i * (t.getD i zBr).rate - splitAt' t x i * (t.getD i zBr).rate) t.length:=(sumTo_sub _ _ _).symm
 rw [e1]
 have h2:sumTo (fun i=>splitAt' t y i * (t.getD i zBr).rate - splitAt' t x i * (t.getD i zBr).rate) t.length≤sumTo (fun i=>(splitAt' t y i - splitAt' t x i) * p) t.length:=sumTo_le _ (fun i hi=>by
  rw [← Int.sub_mul]
  refine Int.mul_le_mul_of_nonneg_left (hp _ ?_) (by have:=hm i; omega)
  rw [List.getD_eq_getElem?_getD,List.getElem?_eq_getElem hi]
  exact List.getElem_mem hi)
 have h3:=(split_sum h (show 0≤y by omega) t.length).2 rfl
 have h4:=(split_sum h h0 t.length).2 rfl
 rw [sumTo_mul,sumTo_sub (splitAt' t y) (splitAt' t x),h3,h4,Int.mul_comm] at h2
 exact h2
theorem scTo_rate {t:List BrT} {p num den : Int} (hp : ∀ b ∈ t,b.rate≤p) : ∀ k,k≤t.length→∀ b ∈ scTo t num den k,b.rate≤p:=by
 intro k
 induction k with
 | zero=>intro _ b hb; cases hb
 | succ k ih =>
  intro hk b hb
  rw [scTo] at hb
  split at hb
  ·
   exact ih (by omega) b hb
  ·
   rcases List.mem_append.1 hb with hb | hb
   ·
    exact ih (by omega) b hb
   ·
    rw [List.mem_singleton] at hb
    subst hb
    show (t.getD k zBr).rate≤p
    refine hp _ ?_
    rw [List.getD_eq_getElem?_getD,List.getElem?_eq_getElem (show k < t.length by omega)]
    exact List.getElem_mem _
def zTax (l:List BrT) (al cr inc : Int) : Int:=max (exactN l (max (inc - al) 0) - 1000000 * cr) 0
theorem zTax_grow {l:List BrT} {p al cr x y : Int} (h:BrOk l) (hp0:0≤p) (hp : ∀ b ∈ l,b.rate≤p) (hxy:x≤y) : zTax l al cr x≤zTax l al cr y∧zTax l al cr y - zTax l al cr x≤p * (y - x):=by
 obtain ⟨h1,h2⟩:=exact_grow (x:=max (x - al) 0) (y:=max (y - al) 0) h hp (by omega) (by omega)
 have h3:p * (max (y - al) 0 - max (x - al) 0)≤p * (y - x):=Int.mul_le_mul_of_nonneg_left (by omega) hp0
 unfold zTax
 omega
theorem tax30_err {t:TarT} {l:List BrT} {al cr inc : Int} (hu:1≤t.unit) : 1000000 * tax30N t l al cr inc≤zTax l al cr inc+1000000 * t.unit∧zTax l al cr inc - 1000000 * t.unit≤1000000 * tax30N t l al cr inc:=by
 have h:=rnd_err (num:=exactN l (max (inc - al) 0)) (den:=1000000 * t.unit) (mode:=t.mode) (by omega)
 have e:1000000 * taxN l (max (inc - al) 0) t.unit t.mode = 1000000 * t.unit * rnd (exactN l (max (inc - al) 0)) (1000000 * t.unit) t.mode:=by
  unfold taxN
  rw [Int.mul_comm (rnd _ _ _) t.unit,Int.mul_assoc]
 rw [← e] at h
 unfold tax30N zTax
 omega
structure TaxG (T:Int→Int) (p u : Int) : Prop where
 ex:∃ (q W:Int) (G:Int→Int),1≤q∧(∀ x y,x≤y→G x≤G y∧G y - G x≤p * q * (y - x))∧∀ x,1000000 * q * T x+W≤G x+1000000 * q * (u+1)∧G x - 1000000 * q * (u+1)≤1000000 * q * T x+W
theorem taxG_of {t:TarT} (ht:TarOk t) {p:Int} (hp0:0≤p) (hp : ∀ b ∈ t.brs,b.rate≤p) (hm:t.method = 2 ∨ t.method = 3) {count per yi wh : Int} (hc:1≤count) (h0:0≤per) (h1:per < count) :
  TaxG (withN t count per yi wh) p t.unit:=by
 have hu:=ht.u0
 rcases hm with hm | hm
 ·
  refine ⟨count,0,fun x=>zTax t.brs t.allowance t.credit (x * count),hc,fun x y hxy=>?_,fun x=>?_⟩
  ·
   have hxc:x * count≤y * count:=Int.mul_le_mul_of_nonneg_right hxy (by omega)
   obtain ⟨g1,g2⟩:=zTax_grow (al:=t.allowance) (cr:=t.credit) ht.brs hp0 hp hxc
   refine ⟨g1,?_⟩
   have e:p * (y * count - x * count) = p * count * (y - x):=by rw [← Int.sub_mul,Int.mul_comm (y - x),Int.mul_assoc]
   rw [e] at g2
   exact g2
  ·
   have hT:withN t count per yi wh x = tax30N t t.brs t.allowance t.credit (x * count) / count:=by
    unfold withN
    rw [if_neg (by omega),if_pos hm]; rfl
   dsimp only
   rw [hT]
   obtain ⟨e1,e2⟩:=tax30_err (t:=t) (l:=t.brs) (al:=t.allowance) (cr:=t.credit) (inc:=x * count) hu
   generalize tax30N t t.brs t.allowance t.credit (x * count) = n at *
   have d1:=Int.emod_add_mul_ediv n count
   have d2:=Int.emod_nonneg n (show count ≠ 0 by omega)
   have d3:=Int.emod_lt_of_pos n (show 0 < count by omega)
   have d4:1000000 * count * (n / count) = 1000000 * (count * (n / count)):=Int.mul_assoc _ _ _
   have d5:1000000 * count * (t.unit+1) = 1000000 * (count * t.unit)+1000000 * count:=by
    rw [Int.mul_add,Int.mul_one,Int.mul_assoc]
   have d6:t.unit≤count * t.unit:=by
    have:=Int.mul_le_mul_of_nonneg_right hc (show 0≤t.unit by omega)
    omega
   rw [d4,d5]
   generalize count * (n / count) = m at *
   generalize count * t.unit = v at *
   omega
 ·
  have hbr:=scaleN_ok ht.brs (num:=per+1) (den:=count) (by omega) hc (by omega)
  refine ⟨1,1000000 * wh,fun x=>zTax (scaleN t.brs (per+1) count) (t.allowance * (per+1) / count) (t.credit * (per+1) / count) (yi+x),by omega,fun x y hxy=>?_,fun x=>?_⟩
  ·
   obtain ⟨g1,g2⟩:=zTax_grow (al:=t.allowance * (per+1) / count) (cr:=t.credit * (per+1) / count) (x:=yi+x) (y:=yi+y) hbr hp0 (scTo_rate hp _ (Nat.le_refl _)) (by omega)
   refine ⟨g1,?_⟩
   rw [Int.mul_one]
   have e:yi+y - (yi+x) = y - x:=by omega
   rw [e] at g2
   exact g2
  ·
   have hT:withN t count per yi wh x = dueN t count (per+1) (yi+x) - wh:=by
    unfold withN
    rw [if_neg (by omega),if_neg (by omega)]
   dsimp only
   rw [hT]
   obtain ⟨e1,e2⟩:=tax30_err (t:=t) (l:=scaleN t.brs (per+1) count) (al:=t.allowance * (per+1) / count) (cr:=t.credit * (per+1) / count) (inc:=yi+x) hu
   have e3:dueN t count (per+1) (yi+x) = tax30N t (scaleN t.brs (per+1) count) (t.allowance * (per+1) / count) (t.credit * (per+1) / count) (yi+x):=rfl
   rw [e3]
   generalize tax30N t _ _ _ _ = n at *
   omega
theorem relief_tax {T:Int→Int} {p u q W ta tb ra rb D H : Int} {G:Int→Int} (hq:1≤q) (hp0:0≤p) (hp1:p≤1000000) (hG : ∀ x y,x≤y→G x≤G y∧G y - G x≤p * q * (y - x)) (hT : ∀ x,1000000 * q * T x+W≤G x+1000000 * q * (u+1)∧G x - 1000000 * q * (u+1)≤1000000 * q * T x+W)
  (hD:0≤D) (ht0:ta≤tb) (ht1:tb≤ta+D) (hH0:0≤H) (hH:1000000 * (rb - ra)≤H) :
  1000000 * q * (rb - ra)+1000000 * q * (T (max (tb - rb) 0) - T (max (ta - ra) 0))≤q * H+p * q * D+2000000 * q * (u+1):=by
 have e1:=hT (max (tb - rb) 0)
 have e2:=hT (max (ta - ra) 0)
 have hpq:0≤p * q:=Int.mul_nonneg hp0 (by omega)
 have hqH:0≤q * H:=Int.mul_nonneg (by omega) hH0
 have hqH2:q * (1000000 * (rb - ra))≤q * H:=Int.mul_le_mul_of_nonneg_left hH (by omega)
 have e5:q * (1000000 * (rb - ra)) = 1000000 * q * (rb - ra):=by rw [← Int.mul_assoc,Int.mul_comm q]
 rw [e5] at hqH2
 rw [Int.mul_sub (1000000 * q) (T _)]
 have key:1000000 * q * (rb - ra)+(G (max (tb - rb) 0) - G (max (ta - ra) 0))≤q * H+p * q * D:=by
  rcases Int.lt_or_le rb ra with hr | hr
  ·
   -- the relief falls
   rcases Int.lt_or_le (max (tb - rb) 0) (max (ta - ra) 0) with hi | hi
   ·
    have:=(hG _ _ (Int.le_of_lt hi)).1
    have h3:0≤p * q * D:=Int.mul_nonneg hpq hD
    have h4:1000000 * q * (rb - ra)≤0:=Int.mul_nonpos_of_nonneg_of_nonpos (by omega) (by omega)
    omega
   ·
    have h2:=(hG _ _ hi).2
    have h3:p * q * (max (tb - rb) 0 - max (ta - ra) 0)≤p * q * (D+(ra - rb)):=Int.mul_le_mul_of_nonneg_left (by omega) hpq
    rw [Int.mul_add] at h3
    have h4:p * q * (ra - rb)≤1000000 * q * (ra - rb):=Int.mul_le_mul_of_nonneg_right (Int.mul_le_mul_of_nonneg_right hp1 (by omega)) (by omega)
    have h5:1000000 * q * (ra - rb) = -(1000000 * q * (rb - ra)):=by rw [← Int.mul_neg]; congr 1; omega
    omega
  ·
   rcases Int.lt_or_le (max (tb - rb) 0) (max (ta - ra) 0) with hi | hi
   ·
    have:=(hG _ _ (Int.le_of_lt hi)).1
    have h3:0≤p * q * D:=Int.mul_nonneg hpq hD
    omega
   ·
    have h2:=(hG _ _ hi).2
    have h3:p * q * (max (tb - rb) 0 - max (ta - ra) 0)≤p * q * D:=Int.mul_le_mul_of_nonneg_left (by omega) hpq
    omega
 have e6:2000000 * q * (u+1) = 1000000 * q * (u+1)+1000000 * q * (u+1):=by
  rw [← Int.add_mul]; congr 1; omega
 omega
end Go.Proofs.YtlhkojcmcmkmaaaGreat
namespace Go.Proofs.YtlhkojcmcmkmaaaGreat
open Go.RowKit
def inL (r:RulesT) (y:YearT) (x:List Elem) (c:ByteArray) (n:Int) : NetIn:=⟨r,pY,y,[],true,x++[⟨c,n⟩]⟩
def maxR (l:List BrT) : Int:=l.foldl (fun m b=>max m b.rate) 0
theorem maxR_aux (l:List BrT) : ∀ m : Int,m≤l.foldl (fun m b=>max m b.rate) m∧∀ b ∈ l,b.rate≤l.foldl (fun m b=>max m b.rate) m:=by
 induction l with
 | nil=>intro m; exact ⟨Int.le_refl _,fun b hb=>(by cases hb)⟩
 | cons a l ih =>
  intro m
  rw [List.foldl_cons]
  obtain ⟨h1,h2⟩:=ih (max m a.rate)
  refine ⟨by omega,fun b hb=>?_⟩
  rcases List.mem_cons.1 hb with rfl | hb
  ·
   omega
  ·
   exact h2 b hb
theorem maxR_ge (l:List BrT) : 0≤maxR l∧∀ b ∈ l,b.rate≤maxR l:=maxR_aux l 0
def empS (l:List SchT) : Int:=sumI (l.map fun s=>s.employee)
def unitS (l:List SchT) : Int:=sumI (l.map fun s=>s.unit)
def leviesR (r:RulesT) : Int:=empS r.schemes+maxR r.tar.brs
structure GrIn (r:RulesT) (y:YearT) (x:List Elem) (c:ByteArray) : Prop where
 ro:RulesOk r
 m:r.tar.method = 2 ∨ r.tar.method = 3
 ge:GenE r.wages x
 xl:x.length≤3
 xz:∀ e ∈ x,e.code.size≤maxLen
 yo:YearOk y
 per:y.periods < r.count
 yl:y.insured.length≤4
 yi:y.income≤2400000
 wh : -1000000≤y.withheld∧y.withheld≤1000000
 ins:∀ v ∈ y.insured,v≤1000000
 w:∃ v,findW r.wages c = some v∧v.kind = 1
 cz:c.size≤maxLen
 fl:∀ s ∈ r.schemes,s.floor = 0
 lv:leviesR r≤900000
 rt:∀ b ∈ r.tar.brs,b.rate≤1000000
section
variable {r:RulesT} {y:YearT} {x:List Elem} {c:ByteArray}
theorem condS_snoc (p:ByteArray→Bool) (x:List Elem) (c:ByteArray) (n:Int) : condS p (x++[⟨c,n⟩]) = condS p x+if p c = true then n else 0:=by
 rw [condS_append]; simp [condS]
theorem GrIn.cb (h:GrIn r y x c) (p:ByteArray→Bool) : -1800000≤condS p x∧condS p x≤1800000:=by
 have:=condS_bdd p x 600000 (by omega) (fun e he=>by have:=(h.ge e he).2; omega)
 have:=h.xl
 omega
theorem GrIn.base (h:GrIn r y x c) : ∃ (c0 t0 i0 a0 : Int) (t i a : Bool),(-1800000≤c0∧c0≤1800000)∧(-1800000≤t0∧t0≤1800000)∧(-1800000≤i0∧i0≤1800000)∧(-1800000≤a0∧a0≤1800000) ∧
  ∀ n,(inL r y x c n).b.c = c0+n∧(inL r y x c n).b.t = t0+(if t = true then n else 0)∧(inL r y x c n).b.i = i0+(if i = true then n else 0)∧(inL r y x c n).b.a = a0+(if a = true then n else 0):=by
 obtain ⟨v,hv,hk⟩:=h.w
 refine ⟨_,_,_,_,(wageAt r.wages c).taxable,(wageAt r.wages c).insured,(wageAt r.wages c).attachable,h.cb (fun c=>decide ((wageAt r.wages c).kind = 1)),h.cb (fun c=>(wageAt r.wages c).taxable),h.cb (fun c=>(wageAt r.wages c).insured),h.cb (fun c=>(wageAt r.wages c).attachable),fun n=>?_⟩
 have e1:(inL r y x c n).b = sumB r.wages (sumsP (x++[⟨c,n⟩])):=rfl
 rw [e1,sumB_sums,sumB_eq]
 simp only [condS_snoc]
 have e2:decide ((wageAt r.wages c).kind = 1) = true:=by
  have:wageAt r.wages c = v:=by unfold wageAt; rw [hv]; rfl
  rw [this]; simpa using hk
 have e3:(wageAt r.wages c).kind = 1:=by simpa using e2
 simp [e3]
theorem findW_mem {ws:List WageT} {c:ByteArray} {v:WageT} (h:findW ws c = some v) : v ∈ ws∧v.code = c:=by
 unfold findW at h
 have h1:=List.mem_of_find?_eq_some h
 have h2:=List.find?_some h
 have h3:v.code.toList = c.toList:=by simpa [hasC] using h2
 simp only [ByteArray.toList_eq] at h3
 exact ⟨h1,ByteArray.ext (Array.toList_inj.1 h3)⟩
theorem valid_name {ws:List WageT} (hv:validB ws = true) {v:WageT} (h:v ∈ ws) : nameB v.code = true:=by
 obtain ⟨i,hi,rfl⟩:=List.getElem_of_mem h
 have h1:okAt ws i ws[i] = true:=by
  unfold validB at hv
  simp only [Bool.and_eq_true,decide_eq_true_eq] at hv
  exact hv.2 i hi
 simp only [okAt,Bool.and_eq_true] at h1
 exact h1.1.1.1.1
theorem GrIn.of_ (h:GrIn r y x c) {n:Int} (h0:0≤n) (h1:n≤100000000) : ofErr r.wages (x++[⟨c,n⟩]) (sumsP (x++[⟨c,n⟩])) = 0:=by
 obtain ⟨v,hv,hk⟩:=h.w
 obtain ⟨hvm,hvc⟩:=findW_mem hv
 have hb:∀ e ∈ x,-600000≤e.amount∧e.amount≤600000:=fun e he=>by have:=(h.ge e he).2; omega
 have hxl:=h.xl
 have hp:preErr (x++[⟨c,n⟩]) = 0:=by
  refine preErr_ok (by rw [List.length_append,List.length_singleton]; omega) (fun e he=>?_) (fun e he=>?_) fun k=>?_
  ·
   rcases List.mem_append.1 he with he | he
   ·
    obtain ⟨u,hu,e1⟩:=(h.ge e he).1
    rw [e1]; exact valid_name h.ro.wages hu
   ·
    rw [List.mem_singleton] at he; subst he
    show nameB c = true
    rw [← hvc]; exact valid_name h.ro.wages hvm
  ·
   rcases List.mem_append.1 he with he | he
   ·
    have:=hb e he; exact amtB_mk (by omega) (by omega)
   ·
    rw [List.mem_singleton] at he; subst he
    exact amtB_mk (by show -1000000000≤n; omega) (by show n≤1000000000; omega)
  ·
   have:=totE_bdd x k 600000 (by omega) hb
   rw [totE_append]
   have e2:totE [⟨c,n⟩] k = if c.data.toList = k then n else 0:=by simp [totE]
   rw [e2]
   exact amtB_mk (by split <;> omega) (by split <;> omega)
 have hm:missing r.wages (x++[⟨c,n⟩]) = false:=by
  rw [missing,List.any_eq_false]
  intro e he
  rcases List.mem_append.1 he with he | he
  ·
   obtain ⟨u,hu,e1⟩:=(h.ge e he).1
   rw [e1,findW_isSome hu]; simp
  ·
   rw [List.mem_singleton] at he; subst he
   show ¬ (findW r.wages c).isNone = true
   rw [hv]; simp
 have ha:amtsB (sumB r.wages (x++[⟨c,n⟩])) = true:=by
  rw [sumB_eq]
  have hc:∀ p,amtB (condS p (x++[⟨c,n⟩])) = true:=fun p=>by
   have:=h.cb p
   rw [condS_snoc]
   exact amtB_mk (by split <;> omega) (by split <;> omega)
  simp only [amtsB,hc,Bool.and_self]
 refine ofErr_sums ?_
 simp only [Go.Proofs.YtlhkojcmcmkmaaaGreat.ofErr,h.ro.wages,hp,hm,ha,Bool.true_eq_false,Bool.false_eq_true,if_false,ne_eq,not_true_eq_false]
theorem GrIn.in_ (h:GrIn r y x c) (n:Int) : InOk (inL r y x c n) :=
 ⟨h.ro,pY_ok,h.yo,⟨recB_nil,(by show (0:Nat)≤16; omega),fun x hx=>(by cases hx)⟩,fun e he=>(by cases he),fun e he=>by
  rcases List.mem_append.1 (show e ∈ x++[⟨c,n⟩] from he) with he | he
  ·
   exact h.xz e he
  ·
   rw [List.mem_singleton] at he; subst he; exact h.cz⟩
theorem divN_one (v:LevyT) {i:Int} (hi:0≤i) : (divN v [i]).getD 0 zLv = v:=by
 unfold divN
 split
 ·
  rfl
 ·
  rename_i hne
  have hs:0 < sumI [i]:=by simp only [sumI,Int.add_zero] at hne ⊢; omega
  have key:∀ t:Int,(allocN t [i]).getD 0 0 = t:=fun t=>by
   have h1:=allocN_sum (total:=t) hs
   have h2:=allocN_len t [i]
   cases hh:allocN t [i] with
   | nil=>rw [hh] at h2; simp at h2
   | cons a l =>
    rw [hh] at h1 h2
    simp only [List.length_cons,List.length_nil] at h2
    have:l = []:=List.eq_nil_of_length_eq_zero (by omega)
    subst this
    simpa [sumI] using h1
  simp only [List.length_cons,List.length_nil,List.range_succ,List.range_zero,List.nil_append,List.map_cons,List.map_nil,List.getD_cons_zero,key]
def lvE (s:SchT) (ins:List Int) (i:Int) : Int:=(nextN s (ins++[i])).employee
theorem levyOf_one (I:NetIn) (h:I.p = pY) (s:SchT) : (I.levyOf s).employee = lvE s I.y.insured I.insured:=by
 have hj:I.jobs = [(I.y.insured,I.insured)]:=by unfold NetIn.jobs; rw [h]; rfl
 unfold NetIn.levyOf lvE
 rw [hj]
 unfold jointR
 rw [joint_one]
 show ((divN _ (basesJ [(I.y.insured,I.insured)])).getD 0 zLv).employee = _
 rw [show basesJ [(I.y.insured,I.insured)] = [I.insured] from rfl,divN_one _ (by unfold NetIn.insured; omega)]
theorem cumN_snoc {s:SchT} (hf:s.floor = 0) {ins:List Int} {i:Int} (hi:0≤i) : cumN s (ins++[i]) = min (insF s ins+i) ((ins.length+1 : Nat) * s.ceiling):=by
 unfold cumN
 rw [insF_append,List.length_append,List.length_singleton]
 have:insF s [i] = i:=by
  unfold insF
  rw [List.filter_cons_of_pos (by simp [hf,hi])]
  simp [sumI]
 rw [this]
theorem lvE_grow {s:SchT} (hs:SchOk s) (hf:s.floor = 0) {ins:List Int} (hins : ∀ v ∈ ins,0≤v) (hl:ins.length≤53) {a b D : Int} (ha:0≤a) (hab:a≤b) (hD:b≤a+D) :
  1000000 * (lvE s ins b - lvE s ins a)≤D * s.employee+2000000 * s.unit:=by
 have hbd:=fun (i:Int) (hi:0≤i)=>cumN_bd (s:=s) (l:=ins++[i]) hs (fun v hv=>by
  rcases List.mem_append.1 hv with hv | hv
  ·
   exact hins v hv
  ·
   rw [List.mem_singleton] at hv; omega) (by rw [List.length_append,List.length_singleton]; omega)
 have hpx:=fun (i:Int) (hi:0≤i)=>(part_ok (a:=cumN s (ins++[i])) (num:=s.employee) (unit:=s.unit) (mode:=s.mode) (hbd i hi).1 (by have:=(hbd i hi).2; omega) hs.e0 hs.e1 hs.u0 hs.u1 hs.m0 hs.m1).2.1
 have hv:∀ i,0≤i→lvE s ins i = partX (cumN s (ins++[i])) s.employee 1000000 s.unit s.mode - (levyN s (cumN s ins)).employee:=fun i hi=>by
  unfold lvE nextN subLv
  rw [List.dropLast_concat]
  show (levyN s (cumN s (ins++[i]))).employee - _ = _
  congr 1
  exact hpx i hi
 rw [hv a ha,hv b (by omega)]
 have e1:=part_err (a:=cumN s (ins++[a])) (num:=s.employee) (unit:=s.unit) (mode:=s.mode) hs.u0
 have e2:=part_err (a:=cumN s (ins++[b])) (num:=s.employee) (unit:=s.unit) (mode:=s.mode) hs.u0
 have hc1:cumN s (ins++[b]) - cumN s (ins++[a])≤D:=by
  rw [cumN_snoc hf ha,cumN_snoc hf (by omega)]; omega
 have hc2:(cumN s (ins++[b]) - cumN s (ins++[a])) * s.employee≤D * s.employee:=Int.mul_le_mul_of_nonneg_right hc1 hs.e0
 rw [Int.sub_mul] at hc2
 omega
theorem sumI_grow {l:List SchT} {F G e u : SchT→Int} {D:Int} (h : ∀ s ∈ l,1000000 * (F s - G s)≤D * e s+2000000 * u s) : 1000000 * (sumI (l.map F) - sumI (l.map G))≤D * sumI (l.map e)+2000000 * sumI (l.map u):=by
 induction l with
 | nil=>simp [sumI]
 | cons a l ih =>
  have h1:=h a (by simp)
  have h2:=ih (fun s hs=>h s (by simp [hs]))
  simp only [List.map_cons,sumI,Int.mul_add]
  omega
theorem sumI_split (l:List SchT) (F:SchT→Int) : sumI (l.map F) = sumI (l.map fun s=>if s.deductible = true then F s else 0)+sumI (l.map fun s=>if s.deductible = true then 0 else F s):=by
 induction l with
 | nil=>rfl
 | cons a l ih =>
  simp only [List.map_cons,sumI,ih]
  split <;> omega
theorem sumI_nnG {l:List SchT} {F:SchT→Int} (h : ∀ s ∈ l,0≤F s) : 0≤sumI (l.map F):=by
 induction l with
 | nil=>simp [sumI]
 | cons a l ih =>
  have h1:=h a (by simp)
  have h2:=ih (fun s hs=>h s (by simp [hs]))
  simp only [List.map_cons,sumI]
  omega
def fL (r:RulesT) (y:YearT) (x:List Elem) (c:ByteArray) (n:Int) : Int:=(inL r y x c n).legal
theorem GrIn.grow (h:GrIn r y x c) {a b : Int} (hab:a≤b) :
  (b - a) * (1000000 - leviesR r) - 2000000 * (unitS r.schemes+r.tar.unit+1)≤1000000 * (fL r y x c b - fL r y x c a):=by
 obtain ⟨c0,t0,i0,a0,tf,jf,af,-,-,-,-,hb⟩:=h.base
 obtain ⟨ca,ta,ia,-⟩:=hb a
 obtain ⟨cb,tb,ib,-⟩:=hb b
 obtain ⟨D,hD⟩ : ∃ D,D = b - a:=⟨_,rfl⟩
 have hD0:0≤D:=by omega
 rw [← hD]
 -- the insured earnings
 have hia:0≤(inL r y x c a).insured:=by unfold NetIn.insured; omega
 have hiab:(inL r y x c a).insured≤(inL r y x c b).insured∧(inL r y x c b).insured≤(inL r y x c a).insured+D:=by
  unfold NetIn.insured
  rw [ia,ib]
  cases jf
  ·
   simp only [Bool.false_eq_true,if_false]; omega
  ·
   simp only [if_true]; omega
 have hins:∀ v ∈ y.insured,0≤v:=fun v hv=>(h.yo.ins v hv).1
 have hlen:y.insured.length≤53:=by have:=h.yl; omega
 have hlv:∀ s ∈ r.schemes,1000000 * (((inL r y x c b).levyOf s).employee - ((inL r y x c a).levyOf s).employee)≤D * s.employee+2000000 * s.unit:=fun s hs=>by
  rw [levyOf_one _ rfl,levyOf_one _ rfl]
  exact lvE_grow (h.ro.sch s hs) (h.fl s hs) hins hlen hia hiab.1 hiab.2
 have hgD:1000000 * (sumI (r.schemes.map fun s=>if s.deductible = true then ((inL r y x c b).levyOf s).employee else 0) - sumI (r.schemes.map fun s=>if s.deductible = true then ((inL r y x c a).levyOf s).employee else 0))≤D * sumI (r.schemes.map fun s=>if s.deductible = true then s.employee else 0)+2000000 * sumI (r.schemes.map fun s=>if s.deductible = true then s.unit else 0) :=
  sumI_grow fun s hs=>by have:=hlv s hs; by_cases hd:s.deductible = true <;> simp only [hd,if_true,Bool.false_eq_true,if_false] <;> omega
 have hgN:1000000 * (sumI (r.schemes.map fun s=>if s.deductible = true then 0 else ((inL r y x c b).levyOf s).employee) - sumI (r.schemes.map fun s=>if s.deductible = true then 0 else ((inL r y x c a).levyOf s).employee))≤D * sumI (r.schemes.map fun s=>if s.deductible = true then 0 else s.employee)+2000000 * sumI (r.schemes.map fun s=>if s.deductible = true then 0 else s.unit) :=
  sumI_grow fun s hs=>by have:=hlv s hs; by_cases hd:s.deductible = true <;> simp only [hd,if_true,Bool.false_eq_true,if_false] <;> omega
 have eU:=sumI_split r.schemes (fun s=>s.unit)
 have eE:=sumI_split r.schemes (fun s=>s.employee)
 have eD0:0≤sumI (r.schemes.map fun s=>if s.deductible = true then s.employee else 0):=sumI_nnG fun s hs=>by have:=(h.ro.sch s hs).e0; split <;> omega
 have uD0:0≤sumI (r.schemes.map fun s=>if s.deductible = true then s.unit else 0):=sumI_nnG fun s hs=>by have:=(h.ro.sch s hs).u0; split <;> omega
 have lA:=sumI_split r.schemes (fun s=>((inL r y x c a).levyOf s).employee)
 have lB:=sumI_split r.schemes (fun s=>((inL r y x c b).levyOf s).employee)
 have fa:fL r y x c a = (inL r y x c a).b.c - sumI (r.schemes.map fun s=>((inL r y x c a).levyOf s).employee) - (inL r y x c a).tax:=rfl
 have fb:fL r y x c b = (inL r y x c b).b.c - sumI (r.schemes.map fun s=>((inL r y x c b).levyOf s).employee) - (inL r y x c b).tax:=rfl
 have hinc:∀ n,(inL r y x c n).income = max ((inL r y x c n).b.t - sumI (r.schemes.map fun s=>if s.deductible = true then ((inL r y x c n).levyOf s).employee else 0)) 0:=fun n=>by
  have e1:(inL r y x c n).income = max ((inL r y x c n).b.t - sumE (inL r y x c n).before - sumI (r.schemes.map fun s=>if s.deductible then ((inL r y x c n).levyOf s).employee else 0)) 0:=rfl
  rw [Per.before _ rfl,show sumE ([] : List Elem) = 0 from rfl] at e1
  rw [e1]
  congr 1
  omega
 have htx:∀ n,(inL r y x c n).tax = withN r.tar r.count y.periods y.income y.withheld (max ((inL r y x c n).b.t - sumI (r.schemes.map fun s=>if s.deductible = true then ((inL r y x c n).levyOf s).employee else 0)) 0):=fun n=>by
  rw [← hinc]; rfl
 rw [fa,fb,htx a,htx b,ca,cb,lA,lB]
 have htt:(inL r y x c a).b.t≤(inL r y x c b).b.t∧(inL r y x c b).b.t≤(inL r y x c a).b.t+D:=by
  rw [ta,tb]
  cases tf
  ·
   simp only [Bool.false_eq_true,if_false]; omega
  ·
   simp only [if_true]; omega
 obtain ⟨p0,p1⟩:=maxR_ge r.tar.brs
 have hE0:0≤empS r.schemes:=sumI_nnG fun s hs=>(h.ro.sch s hs).e0
 have hlvr:=h.lv
 have hpm:maxR r.tar.brs≤1000000:=by unfold leviesR at hlvr; omega
 obtain ⟨q,W,G,hq,hG,hT⟩:=(taxG_of h.ro.tar p0 p1 h.m h.ro.c0 h.yo.p0 h.per (yi:=y.income) (wh:=y.withheld)).ex
 have hEr:leviesR r = sumI (r.schemes.map fun s=>s.employee)+maxR r.tar.brs:=rfl
 have hUr:unitS r.schemes = sumI (r.schemes.map fun s=>s.unit):=rfl
 rw [hEr,hUr,eU,eE]
 generalize sumI (r.schemes.map fun s=>if s.deductible = true then s.employee else 0) = eD at *
 generalize sumI (r.schemes.map fun s=>if s.deductible = true then 0 else s.employee) = eN at *
 generalize sumI (r.schemes.map fun s=>if s.deductible = true then s.unit else 0) = uD at *
 generalize sumI (r.schemes.map fun s=>if s.deductible = true then 0 else s.unit) = uN at *
 generalize sumI (r.schemes.map fun s=>if s.deductible = true then ((inL r y x c a).levyOf s).employee else 0) = ra at *
 generalize sumI (r.schemes.map fun s=>if s.deductible = true then ((inL r y x c b).levyOf s).employee else 0) = rb at *
 generalize sumI (r.schemes.map fun s=>if s.deductible = true then 0 else ((inL r y x c a).levyOf s).employee) = na at *
 generalize sumI (r.schemes.map fun s=>if s.deductible = true then 0 else ((inL r y x c b).levyOf s).employee) = nb at *
 have hDe:0≤D * eD:=Int.mul_nonneg hD0 eD0
 have key:=relief_tax (ta:=(inL r y x c a).b.t) (tb:=(inL r y x c b).b.t) (ra:=ra) (rb:=rb) (D:=D) (H:=D * eD+2000000 * uD) hq p0 hpm hG hT hD0 htt.1 htt.2 (by omega) hgD
 generalize withN r.tar r.count y.periods y.income y.withheld (max ((inL r y x c a).b.t - ra) 0) = Ta at *
 generalize withN r.tar r.count y.periods y.income y.withheld (max ((inL r y x c b).b.t - rb) 0) = Tb at *
 generalize maxR r.tar.brs = p at *
 generalize r.tar.unit = u at *
 have hq0:0 < q:=by omega
 have hN:=Int.mul_le_mul_of_nonneg_left hgN (show 0≤q by omega)
 refine Int.le_of_mul_le_mul_left (a:=q) ?_ hq0
 have k1:q * (D * (1000000 - (eD+eN+p)) - 2000000 * (uD+uN+u+1)) = 1000000 * (q * D) - q * (D * eD) - q * (D * eN) - p * q * D - 2000000 * (q * uD) - 2000000 * (q * uN) - 2000000 * (q * (u+1)):=by
  have:p * q * D = q * (D * p):=by rw [Int.mul_comm p q,Int.mul_assoc,Int.mul_comm p D]
  rw [this]
  simp only [Int.mul_sub,Int.mul_add]
  have e1:q * (D * 1000000) = 1000000 * (q * D):=by rw [← Int.mul_assoc,Int.mul_comm]
  have e2:∀ z:Int,q * (2000000 * z) = 2000000 * (q * z):=fun z=>by rw [← Int.mul_assoc,Int.mul_comm q,Int.mul_assoc]
  rw [e1,e2,e2,e2]
  omega
 have k2:q * (1000000 * (c0+b - (rb+nb) - Tb - (c0+a - (ra+na) - Ta))) = 1000000 * (q * D) - q * (1000000 * (nb - na)) - 1000000 * q * (rb - ra) - 1000000 * q * (Tb - Ta):=by
  have e0:c0+b - (rb+nb) - Tb - (c0+a - (ra+na) - Ta) = D - (nb - na) - (rb - ra) - (Tb - Ta):=by omega
  rw [e0]
  simp only [Int.mul_sub]
  have e2:∀ z:Int,q * (1000000 * z) = 1000000 * (q * z):=fun z=>by rw [← Int.mul_assoc,Int.mul_comm q,Int.mul_assoc]
  have e3:∀ z:Int,1000000 * q * z = 1000000 * (q * z):=fun z=>Int.mul_assoc _ _ _
  simp only [e2,e3]
  
 have k3:q * (D * eN+2000000 * uN) = q * (D * eN)+2000000 * (q * uN):=by
  rw [Int.mul_add,← Int.mul_assoc q 2000000,Int.mul_comm q 2000000,Int.mul_assoc]
 have k4:q * (D * eD+2000000 * uD) = q * (D * eD)+2000000 * (q * uD):=by
  rw [Int.mul_add,← Int.mul_assoc q 2000000,Int.mul_comm q 2000000,Int.mul_assoc]
 have k5:2000000 * q * (u+1) = 2000000 * (q * (u+1)):=Int.mul_assoc _ _ _
 rw [k1,k2]
 rw [k3] at hN
 rw [k4,k5] at key
 omega
end
end Go.Proofs.YtlhkojcmcmkmaaaGreat
namespace Go.Proofs.YtlhkojcmcmkmaaaGreat
open Go.RowKit
theorem recB_filter {a:List Elem} (h:recB a = true) (p:Elem→Bool) : recB (a.filter p) = true:=by
 obtain ⟨h1,h2,h3⟩:=recB_iff.1 h
 exact recB_iff.2 ⟨Nat.le_trans (List.length_filter_le _ _) h1,fun x hx=>h2 x (List.mem_filter.1 hx).1,h3.sublist List.filter_sublist⟩
theorem addE_rec {a:List Elem} (h:recB a = true) : addE a [] = 0∧addR a [] = a.filter nz:=by
 obtain ⟨h1,h2,_⟩:=recB_iff.1 h
 have e1:addO a [] = a.filter nz:=rfl
 have e2:([] : List Elem).all addB = true:=rfl
 have e3:¬ 128 < (addO a []).length:=by
  rw [e1]
  have:=List.length_filter_le nz a
  omega
 have e4:(addO a []).any (fun x=>decide (1000000000000 < x.amount)) = false:=by
  rw [List.any_eq_false,e1]
  intro x hx
  have:=(h2 x (List.mem_filter.1 hx).1).2.2
  simp; omega
 have e5:addE a [] = 0:=by
  unfold addE
  rw [h,e2,e4]
  simp [e3]
 exact ⟨e5,by rw [addR,if_pos e5,e1]⟩
theorem takeE_rec {base av : Int} {t:List Elem} (h:recB t = true) (h0:0≤base) (h1:base≤1000000000) (h2:0≤av) (h3:av≤1000000000) : takeE [] base av t = 0:=by
 have e1:validD [] = true:=by decide +kernel
 have e3:inB base 1000000000 = true:=inB_iff.2 ⟨h0,h1⟩
 have e4:inB av 1000000000 = true:=inB_iff.2 ⟨h2,h3⟩
 simp only [takeE,e1,h,e3,e4,Bool.true_eq_false,if_false]
theorem withN_bd {t:TarT} (ht:TarOk t) (hm:t.method = 2 ∨ t.method = 3) {count per yi wh inc : Int} (hc:1≤count) (h0:0≤per) (h1:per < count) (hy:0≤yi) (hi:0≤inc) :
  min 0 (-wh)≤withN t count per yi wh inc∧withN t count per yi wh inc≤yi+inc+100+max 0 (-wh):=by
 rcases hm with hm | hm
 ·
  have hT:withN t count per yi wh inc = tax30N t t.brs t.allowance t.credit (inc * count) / count:=by
   unfold withN
   rw [if_neg (by omega),if_pos hm]; rfl
  have hic:0≤inc * count:=Int.mul_nonneg hi (by omega)
  obtain ⟨b0,b1⟩:=tax30_bd (al:=t.allowance) (cr:=t.credit) ht.brs ht.u0 ht.u1 ht.a0 ht.c0 hic
  rw [hT]
  have d0:=Int.ediv_nonneg b0 (show 0≤count by omega)
  have d1:tax30N t t.brs t.allowance t.credit (inc * count) / count≤inc+100:=by
   refine Int.ediv_le_of_le_mul (by omega) ?_
   rw [Int.add_mul]
   omega
  omega
 ·
  have hT:withN t count per yi wh inc = dueN t count (per+1) (yi+inc) - wh:=by
   unfold withN
   rw [if_neg (by omega),if_neg (by omega)]
  have hd:0≤dueN t count (per+1) (yi+inc)∧dueN t count (per+1) (yi+inc)≤yi+inc+100 :=
   tax30_bd (scaleN_ok ht.brs (by omega) hc (by omega)) ht.u0 ht.u1 (Int.ediv_nonneg (Int.mul_nonneg ht.a0 (by omega)) (by omega)) (Int.ediv_nonneg (Int.mul_nonneg ht.c0 (by omega)) (by omega)) (by omega)
  rw [hT]
  omega
section
variable {r:RulesT} {y:YearT} {x:List Elem} {c:ByteArray} {n:Int}
theorem GrIn.err (h:GrIn r y x c) (h0:0≤n) (h1:n≤100000000) : (inL r y x c n).err = 0:=by
 obtain ⟨c0,t0,i0,a0,tf,jf,af,bc,bt,bi,ba,hb⟩:=h.base
 obtain ⟨hc,ht,hi,ha⟩:=hb n
 have hcb : -1800000≤(inL r y x c n).b.c∧(inL r y x c n).b.c≤101800000:=by omega
 have htb:(inL r y x c n).b.t≤101800000:=by rw [ht]; split <;> omega
 have hib:(inL r y x c n).b.i≤101800000:=by rw [hi]; split <;> omega
 have hcount:=h.ro.c0
 have hper:=h.yo.p0
 have hpp:=h.per
 have hrec:=h.yo.taken
 have e1:¬ (inL r y x c n).r.count≤(inL r y x c n).y.periods:=by show ¬ r.count≤y.periods; omega
 have e2:ofErr (inL r y x c n).r.wages (inL r y x c n).e (sumsP (inL r y x c n).e) = 0:=h.of_ h0 h1
 have e3:takeE (inL r y x c n).p.deds (inL r y x c n).base (max (inL r y x c n).b.c 0) (inL r y x c n).y.taken = 0:=by
  have:(inL r y x c n).base = max (inL r y x c n).b.c 0:=rfl
  exact takeE_rec hrec (by omega) (by omega) (by omega) (by omega)
 have hins:(inL r y x c n).insured = max (inL r y x c n).b.i 0:=rfl
 have hyl:=h.yl
 have ho:∀ s ∈ (inL r y x c n).r.schemes,overJ (jointV s (inL r y x c n).y.insured.length (inL r y x c n).jobs) = false:=by
  intro s hs
  have j1:(inL r y x c n).jobs = [(y.insured,(inL r y x c n).insured)]:=rfl
  rw [j1,show (inL r y x c n).y.insured.length = y.insured.length from rfl,joint_one]
  have hm:∀ v ∈ y.insured++[(inL r y x c n).insured],0≤v∧v≤102000000:=by
   intro v hv
   rcases List.mem_append.1 hv with hv | hv
   ·
    have:=h.yo.ins v hv; have:=h.ins v hv; omega
   ·
    rw [List.mem_singleton] at hv; subst hv; omega
  have hs2:=(sumI_bd hm).2
  rw [List.length_append,List.length_singleton] at hs2
  exact next_small (h.ro.sch s hs) (by simp) (fun v hv=>(hm v hv).1) (by rw [List.length_append,List.length_singleton]; omega) (by omega)
 have e4:=overs_no ho
 have hlv:=levies_bd (I:=inL r y x c n) (l:=(inL r y x c n).r.schemes) (k:=(inL r y x c n).r.schemes.length) h.ro.nsch (fun s hs=>by
  rw [List.take_length] at hs
  exact ((h.in_ n).levy (by show y.periods < r.count; omega) (by omega) hs (ho s hs)).1)
 rw [List.take_length] at hlv
 have hlev:0≤(inL r y x c n).levies:=hlv.1.1
 have hrel:0≤(inL r y x c n).reliefTo (inL r y x c n).r.schemes:=hlv.2.1
 have hbf:(inL r y x c n).before = []:=Per.before _ rfl
 have hinc:0≤(inL r y x c n).income∧(inL r y x c n).income≤101800000:=by
  have e:(inL r y x c n).income = max ((inL r y x c n).b.t - sumE (inL r y x c n).before - (inL r y x c n).reliefTo (inL r y x c n).r.schemes) 0:=rfl
  rw [hbf,show sumE ([] : List Elem) = 0 from rfl] at e
  omega
 have htx:(inL r y x c n).tax = withN r.tar r.count y.periods y.income y.withheld (inL r y x c n).income:=rfl
 have hw:=withN_bd h.ro.tar h.m hcount hper hpp h.yo.i0 hinc.1 (yi:=y.income) (wh:=y.withheld)
 rw [← htx] at hw
 have hyi:=h.yi
 have hwh:=h.wh
 have e5:amtB (inL r y x c n).tax = true:=amtB_iff.2 ⟨by omega,by omega⟩
 have hl3:(inL r y x c n).left3≤200000000:=by
  have e:(inL r y x c n).left3 = (inL r y x c n).b.c - sumE (inL r y x c n).before - (inL r y x c n).levies - (inL r y x c n).tax:=rfl
  rw [hbf,show sumE ([] : List Elem) = 0 from rfl] at e
  omega
 have e6:¬ ((inL r y x c n).first = true∧1000000000 < (inL r y x c n).net):=by
  rintro ⟨_,hh⟩
  have e:(inL r y x c n).net = max ((inL r y x c n).left3 - max ((inL r y x c n).b.c - (inL r y x c n).b.a) 0) 0:=rfl
  omega
 have e7:addE (inL r y x c n).y.taken (inL r y x c n).before = 0:=by rw [hbf]; exact (addE_rec hrec).1
 have ht1:(inL r y x c n).taken1 = y.taken.filter nz:=by
  show addR y.taken (inL r y x c n).before = _
  rw [hbf]; exact (addE_rec hrec).2
 have haf:(inL r y x c n).after = []:=takeR_nil _ _ _ _
 have e8:takeE (inL r y x c n).p.deds (inL r y x c n).base (max (inL r y x c n).left4 0) (inL r y x c n).taken1 = 0:=by
  rw [ht1]
  have e4:(inL r y x c n).left4 = (inL r y x c n).left3 - 0:=rfl
  have e5:(inL r y x c n).base = max (inL r y x c n).b.c 0:=rfl
  exact takeE_rec (recB_filter hrec nz) (by omega) (by omega) (by omega) (by omega)
 have e9:addE (inL r y x c n).taken1 (inL r y x c n).after = 0:=by rw [ht1,haf]; exact (addE_rec (recB_filter hrec nz)).1
 unfold NetIn.err
 rw [if_neg e1,e2,if_neg (by simp),e3,if_neg (by simp),if_neg (by rw [e4]; simp),if_neg (by rw [e5]; simp),if_neg e6,e7,if_neg (by simp),e8,if_neg (by simp),e9]
def movedR (r:RulesT) : Int:=r.tar.unit+2+unitS r.schemes
def windR (r:RulesT) : Int:=2 * movedR r * 1000000 / (1000000 - leviesR r)+2
theorem GrIn.units (h:GrIn r y x c) : 0≤unitS r.schemes∧unitS r.schemes≤1200∧0≤leviesR r∧0≤empS r.schemes∧empS r.schemes≤12000000:=by
 have h1:∀ s ∈ r.schemes,0≤s.unit∧s.unit≤100:=fun s hs=>⟨by have:=(h.ro.sch s hs).u0; omega,(h.ro.sch s hs).u1⟩
 have h2:∀ s ∈ r.schemes,0≤s.employee∧s.employee≤1000000:=fun s hs=>⟨(h.ro.sch s hs).e0,(h.ro.sch s hs).e1⟩
 have e1:=sumI_bd (l:=r.schemes.map fun s=>s.unit) (B:=100) (fun v hv=>by obtain ⟨s,hs,rfl⟩:=List.mem_map.1 hv; exact h1 s hs)
 have e2:=sumI_bd (l:=r.schemes.map fun s=>s.employee) (B:=1000000) (fun v hv=>by obtain ⟨s,hs,rfl⟩:=List.mem_map.1 hv; exact h2 s hs)
 rw [List.length_map] at e1 e2
 have hn:=h.ro.nsch
 have:=(maxR_ge r.tar.brs).1
 unfold unitS leviesR empS
 omega
theorem GrIn.wind_bd (h:GrIn r y x c) : 2≤windR r∧windR r≤3000000000:=by
 have hu:=h.units
 have ht:=h.ro.tar.u0
 have ht1:=h.ro.tar.u1
 have hl:=h.lv
 have hm:0≤2 * movedR r * 1000000:=by unfold movedR; omega
 have hq:=Int.ediv_nonneg hm (show 0≤1000000 - leviesR r by omega)
 have hq1:=Int.ediv_le_self (1000000 - leviesR r) hm
 have hm1:2 * movedR r * 1000000≤2604000000:=by unfold movedR; omega
 unfold windR
 omega
theorem GrIn.wind (h:GrIn r y x c) {a b : Int} (hab:a+windR r≤b) : fL r y x c a≤fL r y x c b:=by
 have hu:=h.units
 have ht:=h.ro.tar.u0
 have hl:=h.lv
 have hm:0≤2 * movedR r * 1000000:=by unfold movedR; omega
 have hd:0 < 1000000 - leviesR r:=by omega
 have hq:=Int.ediv_nonneg hm (show 0≤1000000 - leviesR r by omega)
 have hab':a≤b:=by unfold windR at hab; omega
 have hg:=h.grow hab'
 have h3:=Int.emod_add_mul_ediv (2 * movedR r * 1000000) (1000000 - leviesR r)
 have h4:=Int.emod_lt_of_pos (2 * movedR r * 1000000) hd
 have h5:windR r * (1000000 - leviesR r)≤(b - a) * (1000000 - leviesR r):=Int.mul_le_mul_of_nonneg_right (by omega) (by omega)
 have h6:windR r * (1000000 - leviesR r) = (1000000 - leviesR r) * (2 * movedR r * 1000000 / (1000000 - leviesR r))+2 * (1000000 - leviesR r):=by
  unfold windR
  rw [Int.add_mul,Int.mul_comm]
 unfold movedR at h3 h4 h6
 omega
end
def Least (f:Int→Int) (t a : Int) : Prop:=0≤a∧a≤100000000∧t≤f a∧∀ k,0≤k→k < a→f k < t
def NoneR (f:Int→Int) (t:Int) : Prop:=∀ k,0≤k→k≤100000000→f k < t
def SolveR (f:Int→Int) (t a e : Int) : Prop:=(e = 0∧Least f t a) ∨ (e = 16∧a = 0∧NoneR f t)
theorem SolveR.uniq {f:Int→Int} {t a e a' e' : Int} (h:SolveR f t a e) (h' : SolveR f t a' e') : a = a'∧e = e':=by
 rcases h with ⟨rfl,h0,h1,h2,h3⟩ | ⟨rfl,rfl,h3⟩ <;> rcases h' with ⟨rfl,k0,k1,k2,k3⟩ | ⟨rfl,rfl,k3⟩
 ·
  refine ⟨?_,rfl⟩
  rcases Int.lt_trichotomy a a' with hl | hl | hl
  ·
   have:=k3 a h0 hl; omega
  ·
   exact hl
  ·
   have:=h3 a' k0 hl; omega
 ·
  have:=k3 a h0 h1; omega
 ·
  have:=h3 a' k0 k1; omega
 ·
  exact ⟨rfl,rfl⟩
end Go.Proofs.YtlhkojcmcmkmaaaGreat
