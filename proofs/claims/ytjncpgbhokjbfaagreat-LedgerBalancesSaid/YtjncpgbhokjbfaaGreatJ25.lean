/- Joined texts: Take2 R32. Conditions: as stated. -/
import Derived.Test.YtjncpgbhokjbfaaGreatJ19
import Derived.Test.YtjncpgbhokjbfaaGreatJ20
import Derived.Test.YtjncpgbhokjbfaaGreatJ22
import Derived.Test.YtjncpgbhokjbfaaGreatJ23
import Derived.Test.YtjncpgbhokjbfaaGreatJ24
namespace Go.Proofs.YtjncpgbhokjbfaaGreat
open Go.RowKit
def SlE (wr:World) (v:Value) (m:List Elem) : Prop:=∃ A c,v = .slice A m.length c∧SliceOf encE 2 wr wr.heap.size A m∧m.length≤c∧c≤maxLen
theorem SlE.adv {w w' : World} {v:Value} {m:List Elem} (h:SlE w v m) (hb:Below w.heap.size w w') : SlE w' v m:=by
 obtain ⟨A,c,h1,h2,h3,h4⟩:=h
 exact ⟨A,c,h1,h2.adv hb,h3,h4⟩
theorem SlE.nil_ (w:World) : SlE w (.slice none 0 0) []:=⟨none,0,rfl,SliceOf.nil_,by simp,by unfold maxLen; omega⟩
theorem Own.slE {w:World} {base:Nat} {e:TypeId} {v:Value} {m:List Elem} (h:Own encE 2 e w base v m) : SlE w v m:=by
 obtain ⟨A,c,h1,h2,_,h3,h4⟩:=h.form2 encE_len
 exact ⟨A,c,h1,h2,h3,h4⟩
set_option maxRecDepth 100000 in
set_option maxHeartbeats 4000000 in
theorem take27_any (A Y : Option Addr) (cap ycap : Nat) (xs:List DedT) (year:List Elem) (before:Bool) (base avail : Int) (w:World) (h:SliceOf encD 6 w w.heap.size A xs) (hz : ∀ x ∈ xs,x.code.size≤maxLen) (hl:xs.length≤9223372036854775807)
  (hy:SliceOf encE 2 w w.heap.size Y year) (hyz:∀ x ∈ year,x.code.size≤maxLen) (hyl:year.length≤9223372036854775807) :
  Calls Tryz.prog 54 #[.slice A xs.length cap,.bool before,.int .i64 base,.int .i64 avail,.slice Y year.length ycap] w (EPost (takeR xs before base avail year) (takeE xs base avail year) w):=by
 have HZ:=Lib.hid hz; clear hz
 have HYZ:=Lib.hid hyz; clear hyz
 have fail_:∀ (n:Int) (W:World),n ≠ 0→takeE xs base avail year = n→Below w.heap.size w W→EPost (takeR xs before base avail year) (takeE xs base avail year) w (Ending.returned (.tuple #[.slice none 0 0,.int .i64 n])) W :=
  fun n W hn he hb=>EPost.fail (takeR_no (by rw [he]; exact hn)) he hb
 have FAIL:=Lib.hid fail_
 clear fail_
 go_enter Tryz.func54,Tryz.ntmps54
 go_wp2_with fail
 refine (valid27_any A cap xs _ h HZ.out hl).mono ?_
 rintro e w1 ⟨rfl,hb1⟩
 by_cases hv:validD xs = true
 rotate_left
 ·
  have hv':validD xs = false:=by simpa using hv
  clear hv
  go_wp2
  go_ret2
  exact FAIL.out 1 _ (by omega) (takeE_1 (.inl hv')) hb1
 go_wp2_with fail
 refine (rec27_any Y ycap year _ (hy.adv hb1) HYZ.out hyl).mono ?_
 rintro e w2 ⟨rfl,hb2⟩
 have hbel2:=bel_adv hb1 hb2
 by_cases hr:recB year = true
 rotate_left
 ·
  have hr':recB year = false:=by simpa using hr
  clear hr
  go_wp2
  go_ret2
  exact FAIL.out 1 _ (by omega) (takeE_1 (.inr hr')) hbel2
 by_cases i1:inB base 1000000000 = true
 rotate_left
 ·
  have i1':inB base 1000000000 = false:=by simpa using i1
  clear i1
  go_wp2_with (go_at_call 93; refine (in_any _ _ _).mono ?_; rintro e w' ⟨rfl,rfl⟩)
  go_ret2
  exact FAIL.out 2 _ (by omega) (takeE_2 hv hr (.inl i1')) hbel2
 by_cases i2:inB avail 1000000000 = true
 rotate_left
 ·
  have i2':inB avail 1000000000 = false:=by simpa using i2
  clear i2
  go_wp2_with (go_at_call 93; refine (in_any _ _ _).mono ?_; rintro e w' ⟨rfl,rfl⟩)
  go_ret2
  exact FAIL.out 2 _ (by omega) (takeE_2 hv hr (.inr i2')) hbel2
 have hE:=takeE_0 hv hr i1 i2
 have HE:=Lib.hid hE
 have HR:=Lib.hid (takeR_ok (before:=before) hE)
 have a1:=inB_lo i1
 have a2:=inB_hi i1
 have a3:=inB_lo i2
 have a4:=inB_hi i2
 clear hE FAIL
 have hlen:xs.length≤16:=(validD_iff.1 hv).1
 have hy128:year.length≤128:=(recB_iff.1 hr).1
 have HOK:=Lib.hid (validD_iff.1 hv).2.1
 have HYB:=Lib.hid (fun c=>year_at hr c)
 have hD2:=h.adv hbel2
 have hY2:=hy.adv hbel2
 go_wp2_with (go_at_call 93; refine (in_any _ _ _).mono ?_; rintro e w' ⟨rfl,rfl⟩)
 clear hv hr i1 i2 hb1 hb2 h hy hl hyl
 go_loopw [12,3,13] (fun v l i wr=>∃ r:Nat,r≤100∧i = .int .i64 r∧l = .int .i64 (rst before base year (ranks xs r) avail)∧SlE wr v (sumsP (tk before base year (ranks xs r) avail))∧Below w2.heap.size w2 wr) (fun _ _ i _=>100 - (intOf i).toNat)
 case atStart=>exact ⟨0,by omega,rfl,rfl,SlE.nil_ _,Below.refl _ _⟩
 case round =>
  obtain ⟨r,hr,rfl,rfl,hsl,hbel⟩:=hrel
  by_cases hr1:r < 100
  ·
   have hr99:decide ((r:Int)≤99) = true:=by simp; omega
   obtain ⟨wo,rfl⟩ : ∃ wo:World,wo = wr:=⟨_,rfl⟩
   rw [← pre_zero xs r] at hsl ⊢
   go_wp2_with fail
   go_loopw [12,3,14] (fun v l i wr=>∃ k:Nat,k≤xs.length∧i = .int .i64 k∧l = .int .i64 (rst before base year (pre xs r k) avail)∧SlE wr v (sumsP (tk before base year (pre xs r k) avail))∧Below w2.heap.size w2 wr) (fun _ _ i _=>xs.length - (intOf i).toNat)
   case atStart=>exact ⟨0,by omega,rfl,rfl,hsl,hbel⟩
   case round =>
    clear hsl hbel
    obtain ⟨k,hk,rfl,rfl,hsl,hbel⟩:=hrel
    have hbs:=hbel.size
    have hpok:∀ x ∈ pre xs r k,DedOk x:=fun x hx=>HOK.out x (mem_pre hx)
    have hr0:=rst_bd (before:=before) (year:=year) hpok a1 a2 avail a3
    have HPB:=Lib.hid (taken_bd hpok before year a1 a2 a3)
    have hpl:=Nat.le_trans (taken_len (pre xs r k) before base year avail) (pre_len xs hlen r k)
    clear hpok
    by_cases hlt:k < xs.length
    ·
     obtain ⟨b,off,rfl,hb,hc⟩:=(hD2.adv hbel).at_ hlt
     have c0:=hc 0 _ rfl
     have c1:=hc 1 _ rfl
     have c2:=hc 2 _ rfl
     have c3:=hc 3 _ rfl
     have c4:=hc 4 _ rfl
     have c5:=hc 5 _ rfl
     simp only [Nat.add_zero] at c0
     clear hc
     have hokk:=HOK.out _ (List.getElem_mem hlt)
     have hzk:=HZ.out _ (List.getElem_mem hlt)
     generalize hl0:rst before base year (pre xs r k) avail = l0 at hr0
     have HL0:=Lib.hid hl0
     clear hl0
     obtain ⟨r1,r2⟩:=hr0
     by_cases hrk:xs[k].rank = (r:Int)
     rotate_left
     ·
      have hrk':(xs[k].rank == (r:Int)) = false:=by simpa using hrk
      have hrk2:(xs[k].rank != (r:Int)) = true:=by simpa using hrk
      have HT:=Lib.hid (pre_no xs r k hlt hrk)
      clear hrk
      go_wp2
      go_roundw
      case rel=>exact ⟨k+1,by omega,by go_num,by rw [HT.out,HL0.out],by rw [HT.out]; exact hsl,hbel⟩
      case measure=>simp [intOf]; omega
     have hrk':(xs[k].rank == (r:Int)) = true:=by simpa using hrk
     have hrk2:(xs[k].rank != (r:Int)) = false:=by simpa using hrk
     have HT:=Lib.hid (pre_yes xs r k hlt hrk)
     clear hrk
     by_cases hbe:xs[k].before = before
     rotate_left
     ·
      have hbe':(xs[k].before == before) = false:=by simpa using hbe
      have HST:=Lib.hid (step_no (P:=pre xs r k) HL0.out (amtT_other (base:=base) (year:=year) (l0:=l0) hbe))
      clear hbe
      go_wp2
      go_roundw
      case rel=>exact ⟨k+1,by omega,by go_num,by rw [HT.out,HST.out.2],by rw [HT.out,HST.out.1]; exact hsl,hbel⟩
      case measure=>simp [intOf]; omega
     ·
      have hbe':(xs[k].before == before) = true:=by simpa using hbe
      have HBE:=Lib.hid hbe
      clear hbe
      obtain ⟨t1,t2⟩:=HYB.out xs[k].code
      obtain ⟨q1,q2⟩:=wantN_bd (taken:=atE year xs[k].code) hokk a1 a2
      go_wp2_with fail
      have hYW:=hY2.adv hbel
      have e0:=Bw.cell (w:=wr) (a:=⟨b,off+k * 6,none⟩) (by exact hb) c0
      have e1:=Bw.cell (w:=wr) (a:=⟨b,off+k * 6+1,none⟩) (by exact hb) c1
      have e2:=Bw.cell (w:=wr) (a:=⟨b,off+k * 6+2,none⟩) (by exact hb) c2
      have e3:=Bw.cell (w:=wr) (a:=⟨b,off+k * 6+3,none⟩) (by exact hb) c3
      have e4:=Bw.cell (w:=wr) (a:=⟨b,off+k * 6+4,none⟩) (by exact hb) c4
      have e5:=Bw.cell (w:=wr) (a:=⟨b,off+k * 6+5,none⟩) (by exact hb) c5
      refine wp_region_below (by kernel_rfl) (by kernel_rfl) ?_
      repeat (first | go_big_quiet_step ((first | exact Bw.call_same _ (at26_any Y ycap year _ _ _ (hYW.adv (Bw.h _)) (by omega)) | exact Bw.call _ (wanted27_ok xs[k] base (atE year xs[k].code) _ hzk hokk a1 a2 t1 t2))) | quiet_step ((first | exact Bw.call_same _ (at26_any Y ycap year _ _ _ (hYW.adv (Bw.h _)) (by omega)) | exact Bw.call _ (wanted27_ok xs[k] base (atE year xs[k].code) _ hzk hokk a1 a2 t1 t2))))
      refine wpQuiet_nil ?_
      intro W2 hw'
      obtain ⟨⟨W9,hW2⟩,hw''⟩:=hw'
      subst hw''
      have hsl2:=hsl.adv hW2
      have hbel2':=bel_adv hbel hW2
      have z0:=(hW2.cell (p:=⟨b,off+k * 6,none⟩) hb).trans c0
      have hb2':b < W2.heap.size:=Nat.lt_of_lt_of_le hb hW2.size
      clear e0 e1 e2 e3 e4 e5 hYW hbel hsl c0 c1 c2 c3 c4 c5 hW2
      generalize hwn:wantN xs[k] base (atE year xs[k].code) = wn at q1 q2 ⊢
      have HWN:=Lib.hid hwn
      clear hwn
      have HA:Hid (amtT before base year xs[k] l0 = min wn l0):=by rw [Hid,amtT,if_pos HBE.out,HWN.out]
      have hm1:min wn l0≤l0:=by omega
      rcases (show min wn l0 = l0∧l0 < wn ∨ min wn l0 = wn∧wn≤l0 by omega) with ⟨hmn,hcc⟩ | ⟨hmn,hcc⟩
      ·
       rw [hmn] at HA hm1
       by_cases hpos:0 < l0
       ·
        have HST:=Lib.hid (step_yes (P:=pre xs r k) HL0.out HA.out hpos)
        have HSN:=Lib.hid (sumsP_snoc (tk before base year (pre xs r k) avail) ⟨xs[k].code,l0⟩)
        generalize sumsP (tk before base year (pre xs r k) avail) = ms at hsl2 HPB hpl HSN
        obtain ⟨A5,c5,rfl,hS5,hlc5,hcm5⟩:=hsl2
        go_wp2_with fail
        refine (put_any A5 c5 ms ⟨xs[k].code,l0⟩ _ hS5 hlc5 hcm5 (by omega) (fun x hx=>by have:=HPB.out x hx; omega) (by show _≤l0; omega) (by show l0≤_; omega)).mono ?_
        rintro e w8 ⟨v8,rfl,hown8,hb8⟩
        go_wp2
        go_roundw
        case rel =>
         have hf:∃ k':Nat,k'≤xs.length∧Value.int .i64 ((k:Int)+1) = .int .i64 k'∧Value.int .i64 (l0 - l0) = .int .i64 (rst before base year (pre xs r k') avail)∧SlE w8 v8 (sumsP (tk before base year (pre xs r k') avail))∧Below w2.heap.size w2 w8 :=
          ⟨k+1,by omega,by go_num,by rw [HT.out,HST.out.2],by rw [HT.out,HST.out.1,HSN.out]; exact hown8.slE,bel_adv hbel2' hb8⟩
         first | exact hf | (simp only [Int.sub_self] at hf; exact hf) | ((repeat apply Exists.intro); exact ⟨hf,rfl⟩)
        case measure=>simp [intOf]; omega
       ·
        have hA0:amtT before base year xs[k] l0 = 0:=by rw [HA.out]; omega
        have HST:=Lib.hid (step_no (P:=pre xs r k) HL0.out hA0)
        clear hA0
        go_wp2
        go_roundw
        case rel=>exact ⟨k+1,by omega,by go_num,by rw [HT.out,HST.out.2]; congr 1; omega,by rw [HT.out,HST.out.1]; exact hsl2,hbel2'⟩
        case measure=>simp [intOf]; omega
      ·
       have hcc':¬ l0 < wn:=by omega
       rw [hmn] at HA hm1
       by_cases hpos:0 < wn
       ·
        have HST:=Lib.hid (step_yes (P:=pre xs r k) HL0.out HA.out hpos)
        have HSN:=Lib.hid (sumsP_snoc (tk before base year (pre xs r k) avail) ⟨xs[k].code,wn⟩)
        generalize sumsP (tk before base year (pre xs r k) avail) = ms at hsl2 HPB hpl HSN
        obtain ⟨A5,c5,rfl,hS5,hlc5,hcm5⟩:=hsl2
        go_wp2_with fail
        refine (put_any A5 c5 ms ⟨xs[k].code,wn⟩ _ hS5 hlc5 hcm5 (by omega) (fun x hx=>by have:=HPB.out x hx; omega) (by show _≤wn; omega) (by show wn≤_; omega)).mono ?_
        rintro e w8 ⟨v8,rfl,hown8,hb8⟩
        go_wp2
        go_roundw
        case rel =>
         have hf:∃ k':Nat,k'≤xs.length∧Value.int .i64 ((k:Int)+1) = .int .i64 k'∧Value.int .i64 (l0 - wn) = .int .i64 (rst before base year (pre xs r k') avail)∧SlE w8 v8 (sumsP (tk before base year (pre xs r k') avail))∧Below w2.heap.size w2 w8 :=
          ⟨k+1,by omega,by go_num,by rw [HT.out,HST.out.2],by rw [HT.out,HST.out.1,HSN.out]; exact hown8.slE,bel_adv hbel2' hb8⟩
         first | exact hf | (simp only [Int.sub_self] at hf; exact hf) | ((repeat apply Exists.intro); exact ⟨hf,rfl⟩)
        case measure=>simp [intOf]; omega
       ·
        have hA0:amtT before base year xs[k] l0 = 0:=by rw [HA.out]; omega
        have HST:=Lib.hid (step_no (P:=pre xs r k) HL0.out hA0)
        clear hA0
        go_wp2
        go_roundw
        case rel=>exact ⟨k+1,by omega,by go_num,by rw [HT.out,HST.out.2]; congr 1; omega,by rw [HT.out,HST.out.1]; exact hsl2,hbel2'⟩
        case measure=>simp [intOf]; omega
    ·
     obtain rfl:k = xs.length:=by omega
     have hg0:decide ((xs.length:Int) < (xs.length:Int)) = false:=by simp
     have hg1:decide (xs.length < xs.length) = false:=by simp
     rw [pre_end] at hsl ⊢
     go_wp2_with fail
     go_roundw
     case rel=>exact ⟨r+1,by omega,by go_num,rfl,hsl,hbel⟩
     case measure=>simp [intOf]; omega
  ·
   obtain rfl:r = 100:=by omega
   rw [ranks_100] at hsl ⊢
   obtain ⟨A5,c5,rfl,hS5,hlc5,hcm5⟩:=hsl
   have hx:decide ((100:Int)≤99) = false:=by decide
   go_wp2
   go_ret2
   rw [HE.out,HR.out]
   exact ⟨A5,c5,rfl,hS5,hlc5,hcm5,bel_adv hbel2 hbel⟩
end Go.Proofs.YtjncpgbhokjbfaaGreat
namespace Go.Proofs.YtjncpgbhokjbfaaGreat
open Go.RowKit
structure RulesM where
 Aw:Option Addr
 cw:Nat
 ws:List WageT
 As:Option Addr
 cs:Nat
 ss:List SchT
 tm:TarM
 count:Int
 sh:ShT
 recover:Int
def RulesM.t (m:RulesM) : RulesT:=⟨m.ws,m.ss,m.tm.t,m.count,m.sh,m.recover⟩
def RulesM.val (m:RulesM) : Value:=.agg #[.slice m.Aw m.ws.length m.cw,.slice m.As m.ss.length m.cs,.int .i64 m.tm.t.method,.slice m.tm.Ab m.tm.t.brs.length m.tm.cb,.int .i64 m.tm.t.allowance,.int .i64 m.tm.t.credit,.int .i64 m.tm.t.unit,.int .i64 m.tm.t.mode,.slice m.tm.Ar m.tm.t.rows.length m.tm.cr,.int .i64 m.count,.int .i64 m.sh.fixed,.int .i64 m.sh.dependent,.int .i64 m.sh.lower,.int .i64 m.sh.share,.int .i64 m.sh.top,.int .i64 m.recover]
structure RulesM.In (m:RulesM) (w:World) : Prop where
 ws:SliceOf encW 6 w w.heap.size m.Aw m.ws
 ss:SliceOf encSch 8 w w.heap.size m.As m.ss
 tm:m.tm.In w
theorem RulesM.In.adv {m:RulesM} {w w' : World} (h:m.In w) (hb:Below w.heap.size w w') : m.In w':=⟨h.ws.adv hb,h.ss.adv hb,h.tm.adv hb⟩
structure PersonM where
 deps:Int
 Ad:Option Addr
 cd:Nat
 ds:List DedT
 Ao:Option Addr
 co:Nat
 os:List OrdT
 Ae:Option Addr
 ce:Nat
 es:List EmpC
def PersonM.t (m:PersonM) : PersonT:=⟨m.deps,m.ds,m.os,m.es.map EmpC.v⟩
def PersonM.val (m:PersonM) : Value:=.agg #[.int .i64 m.deps,.slice m.Ad m.ds.length m.cd,.slice m.Ao m.os.length m.co,.slice m.Ae m.es.length m.ce]
structure PersonM.In (m:PersonM) (w:World) : Prop where
 ds:SliceOf encD 6 w w.heap.size m.Ad m.ds
 os:SliceOf encOd 5 w w.heap.size m.Ao m.os
 es:SliceOf encEm 2 w w.heap.size m.Ae m.es
 ins:∀ e ∈ m.es,SliceOf encI 1 w w.heap.size e.A e.l
theorem PersonM.In.adv {m:PersonM} {w w' : World} (h:m.In w) (hb:Below w.heap.size w w') : m.In w':=⟨h.ds.adv hb,h.os.adv hb,h.es.adv hb,fun e he=>(h.ins e he).adv hb⟩
structure YearM where
 periods:Int
 income:Int
 withheld:Int
 Ai:Option Addr
 ci:Nat
 ins:List Int
 At:Option Addr
 ct:Nat
 taken:List Elem
def YearM.t (m:YearM) : YearT:=⟨m.periods,m.income,m.withheld,m.ins,m.taken⟩
def YearM.val (m:YearM) : Value:=.agg #[.int .i64 m.periods,.int .i64 m.income,.int .i64 m.withheld,.slice m.Ai m.ins.length m.ci,.slice m.At m.taken.length m.ct]
structure YearM.In (m:YearM) (w:World) : Prop where
 ins:SliceOf encI 1 w w.heap.size m.Ai m.ins
 taken:SliceOf encE 2 w w.heap.size m.At m.taken
theorem YearM.In.adv {m:YearM} {w w' : World} (h:m.In w) (hb:Below w.heap.size w w') : m.In w':=⟨h.ins.adv hb,h.taken.adv hb⟩
set_option maxHeartbeats 400000 in
theorem in32_any (n m : Int) (w:World) : Calls Tryz.prog 140 #[.int .i64 n,.int .i64 m] w fun e w'=>e = .returned (.bool (inB n m))∧w = w':=by
 by_cases h1:0≤n <;> by_cases h2:n≤m
 all_goals
  have hb:inB n m = (decide (0≤n) && decide (n≤m)):=by simp [inB]
  have HB:=Lib.hid hb; clear hb
  go_enter Tryz.func140,Tryz.ntmps140
  go_wp2
  go_ret
  exact ⟨by rw [HB.out]; simp [h1,h2],rfl⟩
theorem in32_yes {n m : Int} (h0:0≤n) (h1:n≤m) (w:World) : Calls Tryz.prog 140 #[.int .i64 n,.int .i64 m] w fun e w'=>e = .returned (.bool true)∧w = w':=by
 have:=in32_any n m w
 rwa [inB_iff.2 ⟨h0,h1⟩] at this
theorem validB_facts {ws:List WageT} (h:validB ws = true) : ws.length≤64∧∀ x ∈ ws,x.code.size≤maxLen:=by
 simp only [validB,Bool.and_eq_true,decide_eq_true_eq] at h
 refine ⟨h.1,fun x hx=>?_⟩
 obtain ⟨i,hi,rfl⟩:=List.mem_iff_getElem.1 hx
 have h2:=h.2 i hi
 simp only [okAt,Bool.and_eq_true] at h2
 exact name_max h2.1.1.1.1
set_option maxRecDepth 100000 in
set_option maxHeartbeats 4000000 in
theorem valid32_yes (m:RulesM) (w:World) (h:m.In w) (hR:RulesOk m.t) : Calls Tryz.prog 86 #[m.val] w fun e w'=>e = .returned (.bool true)∧Below w.heap.size w w':=by
 have HR:=Lib.hid hR
 have hv:validB m.ws = true:=hR.wages
 obtain ⟨hwl,hwz⟩:=validB_facts hv
 have hsl:m.ss.length≤12:=hR.nsch
 have c0:1≤m.count:=hR.c0
 have c1:m.count≤53:=hR.c1
 have v0:0≤m.recover:=hR.v0
 have v1:m.recover≤1000000:=hR.v1
 have HW:Hid (∀ W,Below w.heap.size w W→Calls Tryz.prog 90 #[.slice m.Aw m.ws.length m.cw] W fun e w'=>e = .returned (.bool true)∧Below W.heap.size W w'):=fun W hb=>by
  have:=valid26_any m.Aw m.cw m.ws W (h.ws.adv hb) hwz (by omega)
  rwa [hv] at this
 have HT:Hid (∀ W,Below w.heap.size w W→Calls Tryz.prog 102 #[.agg #[.int .i64 m.tm.t.method,.slice m.tm.Ab m.tm.t.brs.length m.tm.cb,.int .i64 m.tm.t.allowance,.int .i64 m.tm.t.credit,.int .i64 m.tm.t.unit,.int .i64 m.tm.t.mode,.slice m.tm.Ar m.tm.t.rows.length m.tm.cr]] W fun e w'=>e = .returned (.bool true)∧Below W.heap.size W w'):=fun W hb=>valid30_yes m.tm W (h.tm.adv hb) hR.tar
 have HS:Hid (∀ W,Calls Tryz.prog 107 #[.agg #[.int .i64 m.sh.fixed,.int .i64 m.sh.dependent,.int .i64 m.sh.lower,.int .i64 m.sh.share,.int .i64 m.sh.top]] W fun e w'=>e = .returned (.bool true)∧Below W.heap.size W w'):=fun W=>shield31_yes m.sh W hR.sh
 clear hR hv hwz
 unfold RulesM.val
 go_enter Tryz.func86,Tryz.ntmps86
 have hB:=Blk.new w 73 #[.slice m.Aw m.ws.length m.cw,.slice m.As m.ss.length m.cs,.int .i64 m.tm.t.method,.slice m.tm.Ab m.tm.t.brs.length m.tm.cb,.int .i64 m.tm.t.allowance,.int .i64 m.tm.t.credit,.int .i64 m.tm.t.unit,.int .i64 m.tm.t.mode,.slice m.tm.Ar m.tm.t.rows.length m.tm.cr,.int .i64 m.count,.int .i64 m.sh.fixed,.int .i64 m.sh.dependent,.int .i64 m.sh.lower,.int .i64 m.sh.share,.int .i64 m.sh.top,.int .i64 m.recover]
 have hbel:=below_new w (.cells #[.slice m.Aw m.ws.length m.cw,.slice m.As m.ss.length m.cs,.int .i64 m.tm.t.method,.slice m.tm.Ab m.tm.t.brs.length m.tm.cb,.int .i64 m.tm.t.allowance,.int .i64 m.tm.t.credit,.int .i64 m.tm.t.unit,.int .i64 m.tm.t.mode,.slice m.tm.Ar m.tm.t.rows.length m.tm.cr,.int .i64 m.count,.int .i64 m.sh.fixed,.int .i64 m.sh.dependent,.int .i64 m.sh.lower,.int .i64 m.sh.share,.int .i64 m.sh.top,.int .i64 m.recover] 73)
 go_upto_region 1 with fail
 generalize w.alloc (Obj.cells _ _) = W at hB hbel ⊢
 have z0:=hB.cell 0
 have z1:=hB.cell 1
 have z2:=hB.cell 2
 have z3:=hB.cell 3
 have z4:=hB.cell 4
 have z5:=hB.cell 5
 have z6:=hB.cell 6
 have z7:=hB.cell 7
 have z8:=hB.cell 8
 have z9:=hB.cell 9
 have z10:=hB.cell 10
 have z11:=hB.cell 11
 have z12:=hB.cell 12
 have z13:=hB.cell 13
 have z14:=hB.cell 14
 have z15:=hB.cell 15
 simp only [nqg,nqh,nqi] at z0 z1 z2 z3 z4 z5 z6 z7 z8 z9 z10 z11 z12 z13 z14 z15
 go_wp2_with fail
 refine (HW.out _ hbel).mono ?_
 rintro e w1 ⟨rfl,hb1⟩
 have hB1:=hB.adv hb1
 have hbel1:=bel_adv hbel hb1
 clear hB hbel hb1 z0 z1 z2 z3 z4 z5 z6 z7 z8 z9 z10 z11 z12 z13 z14 z15
 have z0:=hB1.cell 0
 have z1:=hB1.cell 1
 have z2:=hB1.cell 2
 have z3:=hB1.cell 3
 have z4:=hB1.cell 4
 have z5:=hB1.cell 5
 have z6:=hB1.cell 6
 have z7:=hB1.cell 7
 have z8:=hB1.cell 8
 have z9:=hB1.cell 9
 have z10:=hB1.cell 10
 have z11:=hB1.cell 11
 have z12:=hB1.cell 12
 have z13:=hB1.cell 13
 have z14:=hB1.cell 14
 have z15:=hB1.cell 15
 simp only [nqg,nqh,nqi] at z0 z1 z2 z3 z4 z5 z6 z7 z8 z9 z10 z11 z12 z13 z14 z15
 go_wp2_with fail
 refine (HT.out _ hbel1).mono ?_
 rintro e w2 ⟨rfl,hb2⟩
 have hB2:=hB1.adv hb2
 have hbel2:=bel_adv hbel1 hb2
 clear hB1 hbel1 hb2 z0 z1 z2 z3 z4 z5 z6 z7 z8 z9 z10 z11 z12 z13 z14 z15
 have z0:=hB2.cell 0
 have z1:=hB2.cell 1
 have z2:=hB2.cell 2
 have z3:=hB2.cell 3
 have z4:=hB2.cell 4
 have z5:=hB2.cell 5
 have z6:=hB2.cell 6
 have z7:=hB2.cell 7
 have z8:=hB2.cell 8
 have z9:=hB2.cell 9
 have z10:=hB2.cell 10
 have z11:=hB2.cell 11
 have z12:=hB2.cell 12
 have z13:=hB2.cell 13
 have z14:=hB2.cell 14
 have z15:=hB2.cell 15
 simp only [nqg,nqh,nqi] at z0 z1 z2 z3 z4 z5 z6 z7 z8 z9 z10 z11 z12 z13 z14 z15
 go_wp2_with fail
 refine (HS.out _).mono ?_
 rintro e w3 ⟨rfl,hb3⟩
 have hB3:=hB2.adv hb3
 have hbel3:=bel_adv hbel2 hb3
 clear hB2 hbel2 hb3 z0 z1 z2 z3 z4 z5 z6 z7 z8 z9 z10 z11 z12 z13 z14 z15
 have z0:=hB3.cell 0
 have z1:=hB3.cell 1
 have z2:=hB3.cell 2
 have z3:=hB3.cell 3
 have z4:=hB3.cell 4
 have z5:=hB3.cell 5
 have z6:=hB3.cell 6
 have z7:=hB3.cell 7
 have z8:=hB3.cell 8
 have z9:=hB3.cell 9
 have z10:=hB3.cell 10
 have z11:=hB3.cell 11
 have z12:=hB3.cell 12
 have z13:=hB3.cell 13
 have z14:=hB3.cell 14
 have z15:=hB3.cell 15
 simp only [nqg,nqh,nqi] at z0 z1 z2 z3 z4 z5 z6 z7 z8 z9 z10 z11 z12 z13 z14 z15
 go_wp2_with fail
 refine (in32_yes v0 v1 _).mono ?_
 rintro e w' ⟨rfl,rfl⟩
 clear z0 z1 z2 z3 z4 z5 z6 z7 z8 z9 z10 z11 z12 z13 z14 z15
 have hs3:=h.ss.adv hbel3
 go_wp2_with fail
 go_loopw [3] (fun i wr=>∃ k:Nat,k≤m.ss.length∧i = .int .i64 k∧Below w3.heap.size w3 wr) (fun i _=>m.ss.length - (intOf i).toNat)
 case atStart=>exact ⟨0,by omega,rfl,Below.refl _ _⟩
 case round =>
  obtain ⟨k,hk,rfl,hb4⟩:=hrel
  have hB4:=hB3.adv hb4
  have hlB:=hB4.lt
  have z1:=hB4.cell 1
  simp only [nqg,nqh,nqi] at z1
  by_cases hlt:k < m.ss.length
  ·
   obtain ⟨b,off,hA,hb,hc⟩:=(hs3.adv hb4).at_ hlt
   have c0:=hc 0 _ rfl
   have c1:=hc 1 _ rfl
   have c2:=hc 2 _ rfl
   have c3:=hc 3 _ rfl
   have c4:=hc 4 _ rfl
   have c5:=hc 5 _ rfl
   have c6:=hc 6 _ rfl
   have c7:=hc 7 _ rfl
   simp only [Nat.add_zero] at c0
   have hki:(k:Int) < (m.ss.length:Int):=by omega
   clear hc
   have HV28:=Lib.hid (fun W=>valid28_yes m.ss[k] W (HR.out.sch _ (List.getElem_mem hlt)))
   unfold aggSch at HV28
   rw [hA] at z1
   rcases k with _ | n
   ·
    have hk0:(0:Int) < (m.ss.length:Int):=by omega
    simp only [Nat.zero_mul,Nat.add_zero] at c0 c1 c2 c3 c4 c5 c6 c7
    have q0:=Bw.cell (w:=wr) (a:=⟨b,off,none⟩) (by exact hb) c0
    have q1:=Bw.cell (w:=wr) (a:=⟨b,off+1,none⟩) (by exact hb) c1
    have q2:=Bw.cell (w:=wr) (a:=⟨b,off+2,none⟩) (by exact hb) c2
    have q3:=Bw.cell (w:=wr) (a:=⟨b,off+3,none⟩) (by exact hb) c3
    have q4:=Bw.cell (w:=wr) (a:=⟨b,off+4,none⟩) (by exact hb) c4
    have q5:=Bw.cell (w:=wr) (a:=⟨b,off+5,none⟩) (by exact hb) c5
    have q6:=Bw.cell (w:=wr) (a:=⟨b,off+6,none⟩) (by exact hb) c6
    have q7:=Bw.cell (w:=wr) (a:=⟨b,off+7,none⟩) (by exact hb) c7
    have e1:=Bw.cell (w:=wr) (a:=⟨w.heap.size,1,none⟩) (by exact hlB) z1
    go_upto_region 6 with fail
    clear z1 c0 c1 c2 c3 c4 c5 c6 c7
    refine wp_region_below (by kernel_rfl) (by kernel_rfl) ?_
    repeat (first | go_big_quiet_step (exact Bw.call _ (HV28.out _)))
    refine wpQuiet_nil ?_
    intro W2 hw'
    obtain ⟨⟨W9,hW2⟩,hw''⟩:=hw'
    subst hw''
    have hW3:Below w3.heap.size w3 W2:=bel_adv hb4 hW2
    go_wp2
    go_roundw
    case rel=>exact ⟨0+1,by omega,by go_num,hW3⟩
    case measure=>simp [intOf]; omega
   ·
    have hlm:n < m.ss.length:=by omega
    obtain ⟨b2,off2,hA3,hb2,hc2⟩:=(hs3.adv hb4).at_ hlm
    rw [hA] at hA3
    injection hA3 with hA3
    injection hA3 with hA3 hA4
    subst hA3 hA4
    have p0:=hc2 0 _ rfl
    simp only [Nat.add_zero] at p0
    clear hc2
    have hasc:=List.pairwise_iff_getElem.1 HR.out.asc n (n+1) hlm hlt (by omega)
    have hasc':Op.bytesLess m.ss[n].code.toList m.ss[n+1].code.toList = true:=hasc
    clear hasc
    have hmi:(n:Int) < (m.ss.length:Int):=by omega
    have hmi2:(n:Int)+1 < (m.ss.length:Int):=by omega
    have hp:decide ((0:Int) < (n:Int)+1) = true:=by rw [decide_eq_true_eq]; omega
    have q0:=Bw.cell (w:=wr) (a:=⟨b,off+(n+1) * 8,none⟩) (by exact hb) c0
    have q1:=Bw.cell (w:=wr) (a:=⟨b,off+(n+1) * 8+1,none⟩) (by exact hb) c1
    have q2:=Bw.cell (w:=wr) (a:=⟨b,off+(n+1) * 8+2,none⟩) (by exact hb) c2
    have q3:=Bw.cell (w:=wr) (a:=⟨b,off+(n+1) * 8+3,none⟩) (by exact hb) c3
    have q4:=Bw.cell (w:=wr) (a:=⟨b,off+(n+1) * 8+4,none⟩) (by exact hb) c4
    have q5:=Bw.cell (w:=wr) (a:=⟨b,off+(n+1) * 8+5,none⟩) (by exact hb) c5
    have q6:=Bw.cell (w:=wr) (a:=⟨b,off+(n+1) * 8+6,none⟩) (by exact hb) c6
    have q7:=Bw.cell (w:=wr) (a:=⟨b,off+(n+1) * 8+7,none⟩) (by exact hb) c7
    have e1:=Bw.cell (w:=wr) (a:=⟨w.heap.size,1,none⟩) (by exact hlB) z1
    have q9:=Bw.cell (w:=wr) (a:=⟨b,off+n * 8,none⟩) (by exact hb) p0
    clear p0
    go_upto_region 6 with fail
    clear z1 c0 c1 c2 c3 c4 c5 c6 c7
    refine wp_region_below (by kernel_rfl) (by kernel_rfl) ?_
    repeat (first | go_big_quiet_step (exact Bw.call _ (HV28.out _)))
    refine wpQuiet_nil ?_
    intro W2 hw'
    obtain ⟨⟨W9,hW2⟩,hw''⟩:=hw'
    subst hw''
    have hW3:Below w3.heap.size w3 W2:=bel_adv hb4 hW2
    go_wp2
    go_roundw
    case rel=>exact ⟨n+1+1,by omega,by go_num,hW3⟩
    case measure=>simp [intOf]; omega
  ·
   go_wp2
   go_ret
   exact ⟨rfl,bel_adv hbel3 hb4⟩
end Go.Proofs.YtjncpgbhokjbfaaGreat
