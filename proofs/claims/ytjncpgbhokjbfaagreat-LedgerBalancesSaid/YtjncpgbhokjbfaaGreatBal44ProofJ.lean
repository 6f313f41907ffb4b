/- Joined texts: BkE Slips Bal44 Bal44Proof. Conditions: as stated. -/
import Derived.Test.YtjncpgbhokjbfaaGreatRows
import Derived.Test.YtjncpgbhokjbfaaGreatJ49
import Derived.Test.YtjncpgbhokjbfaaGreatJ50
import Derived.Test.YtjncpgbhokjbfaaGreatJ53
namespace Go.Proofs.YtjncpgbhokjbfaaGreat
open Go.RowKit
theorem validW44 : validB wages8 = true:=by decide +kernel
theorem find4 : ∀ c ∈ codes4,(findW wages8 c).isNone = false:=by decide +kernel
theorem acc44 : ∀ x ∈ wages8,4000≤x.account∧x.account≤4003:=by decide +kernel
theorem BkInv.miss {R:Int} {xs:List PostT} (h:BkInv R xs) {x:PostT} (hx:x ∈ xs) : entMiss wages8 x = false:=by
 unfold entMiss
 by_cases hk:x.line.kind = 1
 ·
  rw [find4 _ (h.code x hx hk)]; simp
 ·
  simp [hk]
theorem ent_acc {p:PostT} (hr:0≤p.run∧p.run≤256) (hm:maxN p.line.amount = true) : ∀ x ∈ entOf wages8 p,okB x = true:=by
 intro x hx
 have hm2 : -1000000000000≤p.line.amount∧p.line.amount≤1000000000000:=by simpa [maxN] using hm
 rw [okB_iff]
 unfold entOf at hx
 split at hx
 ·
  split at hx
  ·
   rename_i t ht
   simp at hx
   subst hx
   have:=acc44 t (List.mem_of_find?_eq_some ht)
   exact ⟨hr,⟨by show (100:Int)≤t.account; omega,by show t.account≤9999; omega⟩,hm2⟩
  ·
   cases hx
 ·
  unfold entsK at hx
  repeat' split at hx
  all_goals first
   | (rw [List.mem_singleton] at hx; subst hx; exact ⟨hr,⟨by simp,by simp⟩,by simp only; omega,by simp only; omega⟩)
   | (simp only [nqj,nqk,or_false] at hx; rcases hx with rfl | rfl <;> exact ⟨hr,⟨by simp,by simp⟩,by simp only; omega,by simp only; omega⟩)
   | exact absurd hx (by simp)
theorem ent_run (p:PostT) (r:Int) (h:entMiss wages8 p = false) : runTot (entOf wages8 p) r = if p.run = r then sgL p.line.kind * p.line.amount else 0:=by
 unfold entOf
 split
 ·
  rename_i hk
  unfold entMiss at h
  split
  ·
   simp only [runTot,hk,sgL]
   split <;> simp
  ·
   rename_i hf
   simp [hk,hf] at h
 ·
  rename_i hk
  unfold entsK sgL
  rw [if_neg hk]
  repeat' split
  all_goals
   simp only [runTot]
   repeat' split
   all_goals omega
theorem ent_runs {xs:List PostT} (h : ∀ x ∈ xs,entMiss wages8 x = false) (r:Int) : runTot (entAll wages8 xs) r = balS (runL r xs):=by
 induction xs with
 | nil=>rfl
 | cons a xs ih =>
  have e1:entAll wages8 (a :: xs) = entOf wages8 a++entAll wages8 xs:=by simp [entAll]
  rw [e1,runTot_append,ih (fun x hx=>h x (by simp [hx])),ent_run a r (h a (by simp))]
  unfold runL
  rw [List.filter_cons]
  by_cases hr:a.run = r
  ·
   simp [hr,balS]
  ·
   simp [hr]
theorem totB_one (x:BookT) (c1 c2 c3 : Int) : RB.tot [x] (c1,c2,c3) = if (x.run,x.account,(0:Int)) = (c1,c2,c3) then x.amount else 0:=by
 show (if (x.run,x.account,(0:Int)) = (c1,c2,c3) then x.amount else 0)+0 = _
 omega
theorem totB_two (x y : BookT) (c1 c2 c3 : Int) : RB.tot [x,y] (c1,c2,c3) = (if (x.run,x.account,(0:Int)) = (c1,c2,c3) then x.amount else 0)+if (y.run,y.account,(0:Int)) = (c1,c2,c3) then y.amount else 0:=by
 show (if (x.run,x.account,(0:Int)) = (c1,c2,c3) then x.amount else 0)+((if (y.run,y.account,(0:Int)) = (c1,c2,c3) then y.amount else 0)+0) = _
 omega
theorem totB_nil (c:KeyB) : RB.tot [] c = 0:=rfl
theorem ent_tot (p:PostT) (c:KeyB) : -(if p.run = c.1 then absN p.line.amount else 0)≤RB.tot (entOf wages8 p) c∧RB.tot (entOf wages8 p) c≤if p.run = c.1 then absN p.line.amount else 0:=by
 have ha:=absN_ge p.line.amount
 obtain ⟨c1,c2,c3⟩:=c
 obtain ⟨D,hD,h0,h1⟩ : ∃ D,(if p.run = (c1,c2,c3).1 then absN p.line.amount else 0) = D∧0≤D∧(p.run = c1→D = absN p.line.amount) :=
  ⟨_,rfl,by split <;> omega,fun h=>by rw [if_pos h]⟩
 rw [hD]
 clear hD
 unfold entOf
 split
 ·
  split
  ·
   rw [totB_one]
   simp only [Prod.mk.injEq]
   split
   ·
    rename_i h; have:=h1 h.1; omega
   ·
    omega
  ·
   rw [totB_nil]
   omega
 ·
  unfold entsK
  repeat' split
  all_goals first
   | rw [totB_one]
   | rw [totB_two]
   | rw [totB_nil]
  all_goals try simp only [Prod.mk.injEq]
  all_goals repeat' split
  all_goals first
   | omega
   | (rename_i h; have:=h1 h.1; omega)
   | (rename_i h h'; have:=h1 h.1; omega)
theorem ent_tots (xs:List PostT) (c:KeyB) : -absL (runL c.1 xs)≤RB.tot (entAll wages8 xs) c∧RB.tot (entAll wages8 xs) c≤absL (runL c.1 xs):=by
 induction xs with
 | nil=>simp [entAll,runL,absL,Rec.tot]
 | cons a xs ih =>
  have e1:entAll wages8 (a :: xs) = entOf wages8 a++entAll wages8 xs:=by simp [entAll]
  have h1:=ent_tot a c
  have e2:absL (runL c.1 (a :: xs)) = (if a.run = c.1 then absN a.line.amount else 0)+absL (runL c.1 xs):=by
   unfold runL
   rw [List.filter_cons]
   by_cases hr:a.run = c.1
   ·
    simp [hr,absL]
   ·
    simp [hr]
  rw [e1,Rec.tot_append,e2]
  omega
theorem runTot_put (l:List BookT) (e:BookT) (r:Int) : runTot (RB.put l e) r = runTot l r+(if e.run = r then e.amount else 0):=by
 induction l with
 | nil=>simp [Rec.put,runTot]
 | cons a l ih =>
  rw [Rec.put]
  split
  ·
   simp only [runTot,ih]; omega
  ·
   split
   ·
    rename_i h
    have h1:=(keyB_eq a e).1 h
    have e1:(RB.set e (RB.amt e+RB.amt a)).run = e.run:=rfl
    have e2:(RB.set e (RB.amt e+RB.amt a)).amount = e.amount+a.amount:=rfl
    simp only [runTot,e1,e2,h1.1]
    split <;> omega
   ·
    simp only [runTot]; omega
theorem runTot_foldl (r:Int) : ∀ (l acc : List BookT),runTot (l.foldl RB.put acc) r = runTot acc r+runTot l r:=by
 intro l
 induction l with
 | nil=>intro acc; simp [runTot]
 | cons a l ih=>intro acc; rw [List.foldl_cons,ih,runTot_put]; simp only [runTot]; omega
theorem runTot_filter (l:List BookT) (r:Int) : runTot (l.filter RB.nz) r = runTot l r:=by
 induction l with
 | nil=>rfl
 | cons a l ih =>
  rw [List.filter_cons]
  split
  ·
   simp only [runTot,ih]
  ·
   rename_i h
   have:a.amount = 0:=by
    apply Decidable.byContradiction
    intro hh
    exact h ((Rec.mem_nz a).2 hh)
   simp only [runTot,ih,this]; split <;> omega
theorem BkInv.ent {R:Int} {xs:List PostT} (h:BkInv R xs) (hR:0≤R) (hR2:R≤100) : eErr wages8 xs = 0∧balB (eRes wages8 xs) = true:=by
 have hmiss:∀ x ∈ xs,entMiss wages8 x = false:=fun x hx=>h.miss hx
 have hany:xs.any (entMiss wages8) = false:=by rw [List.any_eq_false]; intro x hx; simp [hmiss x hx]
 have hlen:(entAll wages8 xs).length≤131072:=by
  have h1:=entAll_len wages8 xs
  have h2:=h.len
  omega
 have hok:∀ x ∈ entAll wages8 xs,okB x = true:=fun x hx=>by
  obtain ⟨p,hp,hx⟩:=List.mem_flatMap.1 hx
  obtain ⟨a,_,_,d⟩:=h.ok p hp
  refine ent_acc (by omega) ?_ x hx
  have:=form_of' d
  simp only [formB,Bool.and_eq_true] at this
  exact this.1.2
 have hb:∀ c,maxN (RB.tot (entAll wages8 xs) c) = true:=fun c=>by
  have h1:=ent_tots xs c
  have h2:=h.abs c.1
  simp [maxN]; omega
 have h0:mErrB (entAll wages8 xs) = 0:=mErr_bd hlen hok hb
 have hE:eErr wages8 xs = mErrB (entAll wages8 xs):=eErr_m validW44 (h.book hR hR2) hany
 have hRes:=eRes_m hE
 refine ⟨by rw [hE,h0],?_⟩
 rw [hRes]
 obtain ⟨hs,hf⟩:=mRB_facts (entAll wages8 xs)
 have h1:mErrB (mRB (entAll wages8 xs)) = 0:=mErr_bd (mRB_len _) (fun x hx=>(hf x hx).1) (fun c=>by rw [mRB_tot h0]; exact hb c)
 have h2:mRB (mRB (entAll wages8 xs)) = mRB (entAll wages8 xs):=mRB_ext h1 h0 (fun c=>mRB_tot h0 c)
 rw [balB,if_pos h1,h2]
 apply balL_yes
 intro x hx
 rw [mRB_ok h0,runTot_filter]
 show runTot ((entAll wages8 xs).foldl RB.put []) x.run = 0
 rw [runTot_foldl,ent_runs hmiss,h.bal]
 simp [runTot]
end Go.Proofs.YtjncpgbhokjbfaaGreat
namespace Go.Proofs.YtjncpgbhokjbfaaGreat
open Go.RowKit
theorem fieldLines (q0 q1 q2 q3 q4 q5 : Int) (A:Option Addr) (n c : Nat) (w:World) : Sem.run Tryz.prog (Instr.field 41 (.agg #[.int .i64 q0,.int .i64 q1,.int .i64 q2,.int .i64 q3,.int .i64 q4,.int .i64 q5,.slice A n c]) 2) w = .ok (.slice A n c) w:=by kernel_rfl
set_option maxHeartbeats 1000000 in
theorem deckLeft_any (b M : Nat) (w:World) (hM:M≤900000) (hd:DeckIn w b M) :
  Calls Tryz.prog 18 #[.pointer (some ⟨b,0,none⟩)] w fun e w'=>∃ (r:Bool) (q:Nat),e = .returned (.bool r)∧w' = w.drewN q:=by
 obtain ⟨A,l,c,at_,h1,_⟩:=hd
 have c0:=h1.cell 0
 have c1:=h1.cell 1
 have l0:=h1.lt
 simp only [nqg,nqh,nqi] at c0 c1
 go_enter Tryz.func18,Tryz.ntmps18
 go_wp2
 go_quiet (fail)
 go_wp2
 go_ret
 exact ⟨_,nq,rfl,rfl⟩
def BkOut (b M n : Nat) (w:World) (e:Ending) (w' : World) : Prop:=∃ v xs,e = .returned v∧BkInv n xs∧Own encP 6 55 w' w.heap.size v xs∧DeckIn w' b (M+1000 * n)∧w.grownBy w' (some b)
set_option maxRecDepth 100000 in
set_option maxHeartbeats 4000000 in
theorem slips_any (b M n : Nat) (w:World) (hM:M≤10000) (hn:n≤50) (hd:DeckIn w b M) :
  Calls Tryz.prog 6 #[.pointer (some ⟨b,0,none⟩),.int .i64 n] w (BkOut b M n w):=by
 have hlt:=hd.lt
 go_enter Tryz.func6,Tryz.ntmps6
 go_wp2_with fail
 go_loopw [5,6] (fun v i wr=>∃ (k:Nat) (xs:List PostT),k≤n∧i = .int .i64 ((k:Int)+1)∧Hid (BkInv k xs)∧Own encP 6 55 wr w.heap.size v xs∧DeckIn wr b (M+1000 * k)∧w.grownBy wr (some b)) (fun _ i _=>n+1 - (intOf i).toNat)
 case atStart=>exact ⟨0,[],by omega,rfl,BkInv.nil_,Own.nil_ _ _,hd,only_refl _ _⟩
 case round =>
  obtain ⟨k,xs,hk,rfl,hinv,hown,hdk,hg⟩:=hrel
  by_cases hlt1:k < n
  ·
   have hle:((k:Int)+1≤(n:Int)):=by omega
   go_wp2_with fail
   refine (deckLeft_any b (M+1000 * k) _ (by omega) hdk).mono ?_
   rintro e w0 ⟨lf,qd,rfl,hw0⟩
   have hb0:Below wr.heap.size wr w0:=by rw [hw0]; exact below_drewN (Below.refl _ _) qd
   have hown0:=hown.adv hb0
   have hdk0:=hdk.bel hb0
   have hg0:=only_adv hg hb0
   clear hown hdk hg hw0 hb0
   have hown:=hown0
   have hdk:=hdk0
   have hg:=hg0
   clear hown0 hdk0 hg0
   cases lf
   ·
    go_wp2_with fail
    go_ret
    exact ⟨_,xs,rfl,hinv.out.more (by omega),hown,hdk.mono (by omega),hg⟩
   ·
    go_wp2_with fail
    refine (next_any b (M+1000 * k) 2 _ (by omega) (by omega) (by omega) hdk).mono ?_
    rintro e w1 ⟨r1,rfl,ha1,hb1,hd1,hg1⟩
    go_wp2_with fail
    refine (next_any b (M+1000 * k+1) 2 _ (by omega) (by omega) (by omega) hd1).mono ?_
    rintro e w2 ⟨r2,rfl,ha2,hb2,hd2,hg2⟩
    have hG2:=only_trans hg1 hg2
    have hbw:b < w0.heap.size:=by have:=hdk.lt; omega
    have hbs:=hg.size
    have hown2:=hown.kept hG2 (by intro g e; injection e; omega)
    have hgg2:=only_trans hg hG2
    clear hown hdk hg hg1 hg2 hd1 hG2
    have HO2:=Lib.hid hown2
    obtain ⟨A2,c2,rfl,hS2,hf2,hl2⟩:=hown2.form encP_len
    have hlen:=hinv.out.len
    have hl9:xs.length≤65536:=by omega
    go_wp2_with fail
    refine (result35_any A2 c2 (1+r1) r2 xs _ hS2 hl9 hinv.out.size (hinv.out.book (by omega) (by omega))).mono ?_
    rintro e w3 ⟨A3,c3,rfl,hS3,hf3,hb3⟩
    have hbw3:b < w2.heap.size:=hd2.lt
    have hcur:=Lib.hid (hinv.out.cur (1+r1) r2).2
    have hd3:=hd2.bel hb3
    have hgg3:=only_adv hgg2 hb3
    have HO3:=Lib.hid (HO2.out.adv hb3)
    clear hd2 hgg2 HO2 hown2 hS2 hb3
    go_wp2_with fail
    refine (slip_any b (M+1000 * k+1+1) _ (by omega) hd3).mono ?_
    rintro e w4 ⟨q0,q1,q2,q3,q4,q5,A4,now,c4,rfl,hz4,hS4,hd4,hg4⟩
    have hS3':=hS3.advN hg4 (fun a ha e=>by injection e; have:=hf3 a ha; omega)
    have HO4:=Lib.hid (HO3.out.kept hg4 (by intro g e; injection e; omega))
    have hgg4:=only_trans hgg3 hg4
    clear hS3 hg4 hgg3 HO3 hd3
    obtain ⟨p1,p2,p3,p4⟩:=hinv.out.step (e:=1+r1) (p:=r2) (by omega) (by omega) (by omega) (by omega) hz4
    have HP1:=Lib.hid p1
    have HP2:=Lib.hid p2
    have hzs:=hcur.out.size
    have hzn:=hz4.size
    have hln:=hz4.len
    have hlo:=hcur.out.len
    clear p1 p2 p3 p4 hcur hz4
    generalize hold:mR (selL (1+r1) r2 xs) = old at *
    have hfl:=fieldLines q0 q1 q2 q3 q4 q5 A4 now.length c4
    go_wp2_with fail
    clear hfl
    refine (postings37_any ((k:Int)+1) (1+r1) r2 A3 A4 c3 c4 old now _ hS3' hzs (by omega) hS4 hzn (by omega)).mono ?_
    rintro e w5 ⟨v5,rfl,ho5,hb5⟩
    rw [HP1.out]
    have hd5:=hd4.bel hb5
    have hgg5:=only_adv hgg4 hb5
    have hown5:=HO4.out.adv hb5
    have hlp:(pR ((k:Int)+1) (1+r1) r2 old now).length≤65536:=by
     have:=HP2.out.len
     rw [List.length_append] at this
     omega
    generalize hps:pR ((k:Int)+1) (1+r1) r2 old now = ps at *
    obtain ⟨A5,c5,rfl,hS5,hf5,_⟩:=ho5.form encP_len
    clear hS3' hS4 hb5 hd4 hgg4 HO4 ho5 hzs hzn
    have hbs5:=hgg5.size
    go_wp2_with (at_builtin; (refine wpList_append_list (ys:=ps) _ _ 23 _ 56 _ infoP Tryz.underlying23 hown5 hS5 encP_len (by omega) rfl encP_one (by omega) (by omega) hbs5 (by rfl) (by rfl) (by rfl) (by rfl) (by rfl) ?_); intro v6 w6 hown6 hg6)
    have hr6:∀ q,Value.ownBlock _ = some q→w.heap.size≤q:=fun q hq=>(hown5.block_lt hq).1
    go_roundw
    case rel =>
     have hfin:∃ (k':Nat) (xs':List PostT),k'≤n∧Value.int .i64 ((k:Int)+1+1) = .int .i64 ((k':Int)+1)∧Hid (BkInv k' xs')∧Own encP 6 55 w6 w.heap.size v6 xs'∧DeckIn w6 b (M+1000 * k')∧w.grownBy w6 (some b) :=
      ⟨k+1,xs++ps,by omega,by go_num,HP2.out,hown6,(hd5.grown hg6 (fun q e=>by have:=hr6 q e; omega)).mono (by omega),only_then hgg5 hg6 (fun q e=>.inl (hr6 q e))⟩
     first | exact hfin | ((repeat apply Exists.intro); exact ⟨hfin,rfl⟩)
    case measure=>simp [intOf]; omega
  ·
   have hle:¬ ((k:Int)+1≤(n:Int)):=by omega
   go_wp2_with fail
   go_ret
   exact ⟨_,xs,rfl,hinv.out.more (by omega),hown,hdk.mono (by omega),hg⟩
end Go.Proofs.YtjncpgbhokjbfaaGreat
namespace Go.Proofs.YtjncpgbhokjbfaaGreat
open Go.RowKit
theorem eRes_len' (ws:List WageT) (l:List PostT) : (eRes ws l).length≤131072:=by
 rw [eRes]; split
 ·
  exact mRB_len _
 ·
  simp
set_option maxRecDepth 100000 in
set_option maxHeartbeats 2000000 in
theorem balances44_walk (B:Option Addr) (lcap:Nat) (l:List Int) (w:World) (hI:SliceOf encI 1 w w.heap.size B l) (hIl:l.length≤9223372036854775807) (hIb : ∀ x ∈ l,I64 x) :
  Calls Tryz.prog 3 #[.slice B l.length lcap] w fun e w'=>e = .returned (.bool true)∧Below w.heap.size w w':=by
 have HIB:=Lib.hid hIb; clear hIb
 go_enter Tryz.func3,Tryz.ntmps3
 go_wp2_with fail
 refine (new_any B l lcap _ hI hIl HIB.out).mono ?_
 rintro e w1 ⟨rfl,hdk1,hb1⟩
 go_wp2_with fail
 refine (slips_any w.heap.size 0 6 _ (by omega) (by omega) hdk1).mono ?_
 rintro e w2 ⟨v2,xs,rfl,hinv,hown2,_,hg2⟩
 have hb2:Below w.heap.size w w2:=bel_only hb1 hg2 (fun g e=>by injection e; omega)
 obtain ⟨A2,c2,rfl,hS2,_,_⟩:=hown2.form encP_len
 have hsz:=hinv.size
 have hlen:=hinv.len
 obtain ⟨he,hbal⟩:=hinv.ent (by omega) (by omega)
 have HE:=Lib.hid he
 have HBAL:=Lib.hid hbal
 clear hown2 hg2 hdk1 hb1 hinv he hbal
 go_wp2_with fail
 refine (wages44_any _).mono ?_
 rintro e w3 ⟨A3,c3,rfl,hS3,hb3⟩
 go_wp2_with fail
 refine (Entries_any A3 A2 c3 c2 wages8 xs _ hS3 wages8_size (by rw [wages8_len]; omega) (hS2.adv hb3) hsz (by omega)).mono ?_
 rintro e w4 ⟨A4,c4,rfl,hS4,hlc4,hcm4,hb4⟩
 rw [HE.out]
 have hle:(eRes wages8 xs).length≤9223372036854775806:=by have:=eRes_len' wages8 xs; omega
 go_wp2_with fail
 refine (balanced_any A4 c4 _ _ hS4 hle).mono ?_
 rintro e w5 ⟨rfl,hb5⟩
 rw [HBAL.out]
 go_wp2_with fail
 refine (awake_any _).mono ?_
 rintro e w6 ⟨rfl,hb6⟩
 go_wp2_with fail
 go_ret
 exact ⟨rfl,bel_adv (bel_adv (bel_adv (bel_adv hb2 hb3) hb4) hb5) hb6⟩
end Go.Proofs.YtjncpgbhokjbfaaGreat
namespace Go.Proofs.YtjncpgbhokjbfaaGreat.ledgerBalances
open Go.ChangeShapes Go.WideShapes Go.ChangeAt Go.RowKit
open Go.ChangeMaps (open_string shut_string)
theorem own : ownKnob Tryz.prog.godebug = none:=by kernel_rfl
theorem laidOut : laidOutB Tryz.prog = true:=by kernel_rfl
set_option maxRecDepth 100000 in
theorem lifted (os:Os) (started:os.Started) (H:Type) (enc:TypeId × Value→H) :
  ReturnsInHanded {} Tryz.checked os 3 .any (Rows.ledgerBalancesSpec.pre6 enc Tryz.prog Tryz.f3 Rows.ledgerBalancesRow.domain false) (Rows.ledgerBalancesSpec.post enc Tryz.prog Tryz.f3 false true false false):=by
 refine returnsInHanded_of_change (C:=Tryz.checked) own started (by kernel_rfl) Tryz.func3
  (ChangeSpec.witness6 (enc:=enc) (C:=Tryz.checked) false ⟨#[],#[.slice none 0 0],[]⟩ 8 (by kernel_rfl) (by kernel_rfl) (by kernel_rfl) (by kernel_rfl)) ?_
 intro W base args ds gs before hval0 hW _ _
 have hval:∀ (j:Nat) t v,Tryz.f3.params[j]? = some t→args[j]? = some v→Value.okWide Tryz.prog W .any base t v:=hval0
 have hW':=hW
 obtain ⟨p,q,hA0,hV,rfl,_,_⟩:=hW
 have hA:DataW.TrodAll enc Tryz.prog W 0 (fun _=>true) true Tryz.f3.params.toList args.toList ds p:=hA0
 rw [Tryz.params3] at hA hval
 obtain ⟨v0,vs0,d0,ds0,p0,q0,hargs,rfl,rfl,h0,r0⟩:=trodAll_cons hA
 obtain ⟨rfl,rfl,rfl⟩:=trodAll_nil r0
 obtain rfl:args = #[v0]:=by cases args; simp_all
 obtain ⟨rfl,rfl⟩:=trodVars_none hV
 obtain ⟨a0,len0,cap0,rfl⟩:=okWide_slice Tryz.underlying22 (hval 0 22 v0 rfl rfl)
 have k0:=h0
 have lt0:∀ x ∈ p0,x.block < W.heap.size:=by obtain ⟨m,hm⟩:=k0; exact DataW.trod_lt m _ _ _ hm
 obtain ⟨xs0,rfl,hS0,hX0,hlc0,hcm0⟩:=openI h0
 have hl0:=Nat.le_trans hlc0 hcm0
 clear hA0 hval0
 refine (balances44_walk a0 cap0 xs0 W hS0 hl0 hX0).mono fun e W' ⟨he,bel⟩=>?_
 subst he
 exact ⟨_,rfl,_,_,_,[],_,[],hW',trodAll_mk1 (shut_bool Tryz.underlying4 _),(trodAll_cons_mk (Below.trod laidOut (by kernel_rfl) (of_decide_eq_true (by kernel_rfl)) k0 bel lt0) trodAll_mk0),rfl,bel.frame _,fun h=>by cases h⟩
theorem over : Rows.ledgerBalancesRow.holds Tryz.pinned (OpenSpec.ofChange Rows.ledgerBalancesSpec) :=
 OpenClaim.holds_of_wide 3 Tryz.f3 rfl rfl rfl rfl rfl rfl rfl ⟨rfl,rfl,rfl,rfl,rfl⟩ rfl rfl rfl rfl rfl (by kernel_rfl) Tryz.func3 (by kernel_rfl)
  (of_decide_eq_true (by kernel_rfl)) (by unfold Func.isWrapper; first | (rw [if_pos (by decide +kernel)]; kernel_rfl) | (rw [if_neg (by decide +kernel)]; exact ⟨rfl,rfl⟩))
  (fun os started H enc _=>lifted os started H enc)
theorem proved : Rows.LedgerBalancesSaid:=over
#print axioms proved
end Go.Proofs.YtjncpgbhokjbfaaGreat.ledgerBalances
