/- Joined texts: Leaf Tok Gen. Conditions: as stated. -/
import Derived.WalkKit
import Derived.WalkSpells
import Derived.WalkLawsBesides
import Derived.Deep.QuietTactic
import Derived.BigQuiet
import Derived.Lib.Hide
import Derived.Test.YtlhkojcmcmkmaaaGreatRows
import Derived.Lib.Strings
import Derived.Deep.RegionWith
import Derived.Deep.DeepCutAuto
import Derived.Test.YtlhkojcmcmkmaaaGreatJData
namespace Go.Proofs.YtlhkojcmcmkmaaaGreat
open Go.RowKit
def amtB (n:Int) : Bool:=decide (-1000000000≤n∧n≤1000000000)
set_option maxHeartbeats 400000 in
theorem isAmount_any (n:Int) (w:World) :
  Calls Tryz.prog 158 #[.int .i64 n] w fun e w'=>e = .returned (.bool (amtB n))∧w = w':=by
 by_cases h1 : -1000000000≤n <;> by_cases h2:n≤1000000000
 all_goals
  have hb:amtB n = (decide (-1000000000≤n) && decide (n≤1000000000)):=by simp [amtB]
  have HB:=Lib.hid hb; clear hb
  go_enter Tryz.func158,Tryz.ntmps158
  go_wp2
  go_ret
  exact ⟨by rw [HB.out]; simp [h1,h2],rfl⟩
theorem tmod_neg (v n : Int) (hn:0 < n) (h:v.tmod n < 0) : v.tmod n+n = v % n:=by
 have h1:=Int.tmod_add_mul_tdiv v n
 have h2:=Int.emod_add_mul_ediv v n
 have h3:=Int.emod_nonneg v (show n ≠ 0 by omega)
 have h4:=Int.emod_lt_of_pos v hn
 have h5 : -n < v.tmod n:=by
  have:=Int.lt_tmod_of_pos v hn
  omega
 have h6:n * (v.tdiv n - v / n - 1) = v % n - (v.tmod n+n):=by
  rw [Int.mul_sub,Int.mul_sub]; omega
 have h7:v.tdiv n - v / n - 1 = 0:=by
  rcases Int.lt_trichotomy (v.tdiv n - v / n - 1) 0 with h | h | h
  ·
   have:n * (v.tdiv n - v / n - 1)≤n * (-1):=Int.mul_le_mul_of_nonneg_left (by omega) (by omega)
   omega
  ·
   exact h
  ·
   have:n * 1≤n * (v.tdiv n - v / n - 1):=Int.mul_le_mul_of_nonneg_left (by omega) (by omega)
   omega
 rw [h7] at h6; omega
theorem tmod_pos (v n : Int) (hn:0 < n) (h:0≤v.tmod n) : v.tmod n = v % n:=by
 have h1:=Int.tmod_add_mul_tdiv v n
 have h2:=Int.emod_add_mul_ediv v n
 have h3:=Int.emod_nonneg v (show n ≠ 0 by omega)
 have h4:=Int.emod_lt_of_pos v hn
 have h5:=Int.tmod_lt_of_pos v hn
 have h6:n * (v.tdiv n - v / n) = v % n - v.tmod n:=by
  rw [Int.mul_sub]; omega
 have h7:v.tdiv n - v / n = 0:=by
  rcases Int.lt_trichotomy (v.tdiv n - v / n) 0 with h | h | h
  ·
   have:n * (v.tdiv n - v / n)≤n * (-1):=Int.mul_le_mul_of_nonneg_left (by omega) (by omega)
   omega
  ·
   exact h
  ·
   have:n * 1≤n * (v.tdiv n - v / n):=Int.mul_le_mul_of_nonneg_left (by omega) (by omega)
   omega
 rw [h7] at h6; omega
set_option maxHeartbeats 400000 in
theorem mod_any (v n : Int) (w:World) (hn:0 < n) (hn2:n≤4611686018427387904) :
  Calls Tryz.prog 15 #[.int .i64 v,.int .i64 n] w fun e w'=>e = .returned (.int .i64 (v % n))∧w = w':=by
 have a1:=tmod_neg v n hn
 have a2:=tmod_pos v n hn
 have a3:=Int.tmod_lt_of_pos v hn
 have a4:=Int.lt_tmod_of_pos v hn
 have A1:=Lib.hid a1; have A2:=Lib.hid a2; clear a1 a2
 go_enter Tryz.func15,Tryz.ntmps15
 go_wp2
 ·
  go_ret
  rename_i h
  refine ⟨?_,rfl⟩
  show Ending.returned (.int .i64 (v.tmod n+n)) = _
  rw [A1.out h]
 ·
  go_ret
  rename_i h
  refine ⟨?_,rfl⟩
  show Ending.returned (.int .i64 (v.tmod n)) = _
  rw [A2.out h]
def DeckIn (w:World) (b M : Nat) : Prop:=∃ (A:Option Addr) (l:List Int) (c at_ : Nat),
 Blk w b 99 #[.slice A l.length c,.int .i64 at_]∧at_≤M∧SliceOf encI 1 w b A l∧l.length≤9223372036854775807∧∀ x ∈ l,I64 x
theorem DeckIn.lt {w:World} {b M : Nat} (h:DeckIn w b M) : b < w.heap.size:=by
 obtain ⟨A,l,c,a,h1,_⟩:=h
 exact h1.lt
theorem DeckIn.grown {w w' : World} {b M : Nat} {row:Option Nat} (h:DeckIn w b M) (hg:w.grownBy w' row) (hr : ∀ g,row = some g→b < g) : DeckIn w' b M:=by
 have hlt:=h.lt
 obtain ⟨A,l,c,a,h1,h2,h3,h4,h5⟩:=h
 exact ⟨A,l,c,a,h1.grown hg (fun e=>by have:=hr b e.symm; omega),h2,h3.grown hg (by omega) (fun g e=>by have:=hr g e; omega),h4,h5⟩
theorem DeckIn.alloc {w:World} {b M : Nat} (h:DeckIn w b M) (o:Obj) : DeckIn (w.alloc o) b M:=h.grown (World.grownBy_alloc w o none) (fun _ e=>by cases e)
theorem DeckIn.mono {w:World} {b M M' : Nat} (h:DeckIn w b M) (hM:M≤M') : DeckIn w b M':=by
 obtain ⟨A,l,c,a,h1,h2,h3⟩:=h
 exact ⟨A,l,c,a,h1,by omega,h3⟩
set_option maxHeartbeats 1000000 in
theorem next_any (b M : Nat) (n:Int) (w:World) (hn:0 < n) (hn2:n≤4611686018427387904) (hM:M≤1000000) (hd:DeckIn w b M) :
  Calls Tryz.prog 34 #[.pointer (some ⟨b,0,none⟩),.int .i64 n] w fun e w'=>∃ r:Int,e = .returned (.int .i64 r)∧0≤r∧r < n∧DeckIn w' b (M+1)∧w.grownBy w' (some b):=by
 obtain ⟨A,l,c,at_,h1,h2,h3,h4,h5⟩:=hd
 have c0:=h1.cell 0
 have c1:=h1.cell 1
 have f1:=h1.frozen 1
 have hlt:=h1.lt
 simp only [nqg,nqh,nqi] at c0 c1
 have fin:∀ q:Nat,DeckIn ((w.setCell ⟨b,1,none⟩ (.int .i64 ((at_:Int)+1))).drewN q) b (M+1)∧w.grownBy ((w.setCell ⟨b,1,none⟩ (.int .i64 ((at_:Int)+1))).drewN q) (some b):=by
  intro q
  have g1:w.grownBy (w.setCell ⟨b,1,none⟩ (.int .i64 ((at_:Int)+1))) (some b):=only_setCell (only_refl _ _) (.inl rfl) _
  refine ⟨?_,only_drewN g1 q⟩
  refine ⟨A,l,c,at_+1,?_,by omega,?_,h4,h5⟩
  ·
   have:=h1.set_ 1 (.int .i64 ((at_:Int)+1))
   have:=this.drewN q
   simpa using this
  ·
   exact (SliceOf.grown h3 (only_drewN g1 q) (by omega) (fun g e=>by injection e with e; omega))
 have FIN:=Lib.hid fin
 clear fin
 have fin2:∀ v:Int,(v.tmod n < 0→∃ r:Int,wrap64 (v.tmod n+n) = r∧0≤r∧r < n)∧(0≤v.tmod n→v.tmod n < n):=by
  intro v
  refine ⟨fun h=>⟨_,rfl,?_⟩,fun _=>Int.tmod_lt_of_pos v hn⟩
  have a4:=Int.lt_tmod_of_pos v hn
  have:wrap64 (v.tmod n+n) = v.tmod n+n:=by unfold wrap64; omega
  rw [this]; omega
 have FIN2:=Lib.hid fin2
 clear fin2
 by_cases hc:at_ < l.length
 ·
  obtain ⟨cb,off,rfl,hb,hx⟩:=h3.at_ hc
  have hx0:=hx 0 _ rfl
  simp only [Nat.add_zero,Nat.mul_one] at hx0
  have hi:=h5 _ (List.getElem_mem hc)
  clear h1 h3 h5 hx
  go_enter Tryz.func34,Tryz.ntmps34
  go_wp2
  go_quiet (fail)
  go_wp2
  go_quiet (fail)
  go_wp2
  ·
   rename_i h
   obtain ⟨r,hr,h0,h1⟩:=(FIN2.out _).1 h
   go_ret
   exact ⟨r,by rw [← hr]; rfl,h0,h1,FIN.out _⟩
  ·
   rename_i h
   go_ret
   exact ⟨_,rfl,h,(FIN2.out _).2 h,FIN.out _⟩
 ·
  clear h1 h3 h5
  go_enter Tryz.func34,Tryz.ntmps34
  go_wp2
  go_quiet (fail)
  go_wp2
  go_ret
  exact ⟨_,rfl,‹_›,Int.emod_lt_of_pos _ hn,FIN.out _⟩
set_option maxHeartbeats 400000 in
theorem new_any (A:Option Addr) (l:List Int) (c:Nat) (w:World) (h:SliceOf encI 1 w w.heap.size A l) (hl:l.length≤9223372036854775807) (h5 : ∀ x ∈ l,I64 x) :
  Calls Tryz.prog 19 #[.slice A l.length c] w fun e w'=>e = .returned (.pointer (some ⟨w.heap.size,0,none⟩))∧DeckIn w' w.heap.size 0∧Below w.heap.size w w':=by
 have fin:DeckIn (w.alloc (.cells #[.slice A l.length c,.int .i64 0] 99)) w.heap.size 0 :=
  ⟨A,l,c,0,Blk.new _ _ _,Nat.le_refl _,h.below ((Below.refl _ _).alloc (Nat.le_refl _) _),hl,h5⟩
 have FIN:=Lib.hid fin
 clear fin h h5
 go_enter Tryz.func19,Tryz.ntmps19
 go_wp2
 go_ret
 exact ⟨rfl,FIN.out,(Below.refl _ _).alloc (Nat.le_refl _) _⟩
set_option maxHeartbeats 400000 in
theorem pick_any (b M : Nat) (w:World) (A:Option Addr) (l:List Int) (c:Nat) (hM:M≤1000000) (hd:DeckIn w b M) (hl:l ≠ []) (hn:l.length≤1000) (hs:SliceOf encI 1 w w.heap.size A l) (hA : ∀ a,A = some a→a.block ≠ b) :
  Calls Tryz.prog 66 #[.pointer (some ⟨b,0,none⟩),.slice A l.length c] w fun e w'=>∃ r:Int,e = .returned (.int .i64 r)∧r ∈ l∧DeckIn w' b (M+1)∧w.grownBy w' (some b):=by
 have hpos:0 < l.length:=List.length_pos_iff.2 hl
 have hlt:=hd.lt
 obtain ⟨cb,off,rfl,hcb,hc⟩:=hs hl
 have hne:=hA _ rfl
 have HC:=Lib.hid hc
 clear hA hc hs hl
 go_enter Tryz.func66,Tryz.ntmps66
 go_wp2_with fail
 refine (next_any b M _ _ (by omega) (by omega) hM hd).mono ?_
 rintro e w' ⟨r,rfl,h0,h1,hd1,hg⟩
 obtain ⟨j,rfl⟩:=Int.eq_ofNat_of_zero_le h0
 have hj:j < l.length:=by omega
 have hx:=(World.cell?_of_block (a:=⟨cb,off+j * 1+0,none⟩) (hg.block cb hcb (fun e=>hne (by injection e)))).trans (HC.out j _ (List.getElem?_eq_getElem hj) 0 _ rfl)
 simp only [Nat.add_zero,Nat.mul_one] at hx
 go_wp2
 go_ret
 exact ⟨_,rfl,List.getElem_mem _,hd1,hg⟩
end Go.Proofs.YtlhkojcmcmkmaaaGreat
namespace Go.Proofs.YtlhkojcmcmkmaaaGreat
open Go.RowKit
def lowB (n:Int) : Bool:=decide (97≤n∧n≤122)
def digB (n:Int) : Bool:=decide (48≤n∧n≤57)
def wcB (n:Int) : Bool:=lowB n || digB n || (n == 95)
def wl (l:List UInt8) : Nat:=if (l.head?.map fun c=>lowB (c.toNat : Int)) = some true then (l.takeWhile fun c=>wcB (c.toNat : Int)).length else 0
def kws : List (List UInt8):=[[97,103,114,101,101,109,101,110,116],[105,110,112,117,116],[112,97,115,116],[115,99,97,108,101],[114,117,108,101],[112,97,121],[102,114,111,109],[114,111,117,110,100,101,100],[116,111],[105,102],[116,104,101,110],[101,108,115,101],[97,110,100],[111,114],[110,111,116],[116,114,117,101],[102,97,108,115,101],[109,105,110],[109,97,120],[114,111,117,110,100],[97,118,101,114,97,103,101],[108,97,115,116],[109,111,110,101,121],[104,111,117,114,115],[100,97,121,115],[110,117,109,98,101,114],[98,111,111,108],[100,111,119,110],[117,112],[102,108,111,111,114],[99,101,105,108,105,110,103],[104,97,108,102,95,117,112],[104,97,108,102,95,100,111,119,110],[104,97,108,102,95,101,118,101,110]]
def kwB (s:ByteArray) : Bool:=kws.any fun k=>s.toList == k
def nameB (s:ByteArray) : Bool:=decide (0 < s.size∧s.size≤24) && (wl s.data.toList == s.size) && !kwB s
theorem wl_none (l:List UInt8) (h : ∀ c,l.head? = some c→lowB (c.toNat : Int) = false) : wl l = 0:=by
 unfold wl
 cases hh:l.head? with
 | none=>simp
 | some c=>simp [h c hh]
theorem takeWhile_len {α:Type} (p:α→Bool) : ∀ (l:List α) (k:Nat),k≤l.length→(∀ i (h:i < l.length),i < k→p l[i] = true)→(∀ h : k < l.length,p l[k] = false)→(l.takeWhile p).length = k:=by
 intro l
 induction l with
 | nil=>intro k hk _ _; simp at hk; simp [hk]
 | cons a l ih =>
  intro k hk h1 h2
  cases k with
  | zero=>have:=h2 (by simp); simp at this; simp [this]
  | succ k =>
   have ha:=h1 0 (by simp) (by omega)
   simp at ha
   rw [List.takeWhile_cons,if_pos ha,List.length_cons]
   rw [ih k (by simp at hk; omega) (fun i hi hik=>by have:=h1 (i+1) (by simp; omega) (by omega); simpa using this) (fun h=>by have:=h2 (by simp; omega); simpa using this)]
theorem wl_of (s:ByteArray) (k:Nat) (hk:k≤s.size) (h0 : ∀ h : 0 < s.size,lowB (s[0].toNat : Int) = true) (hs:0 < s.size)
  (h1:∀ i (h:i < s.size),i < k→wcB (s[i].toNat:Int) = true) (h2:∀ h:k < s.size,wcB (s[k].toNat:Int) = false) : wl s.data.toList = k:=by
 unfold wl
 have hh:s.data.toList.head? = some s[0]:=by
  rw [List.head?_eq_getElem?,List.getElem?_eq_getElem (by simpa using hs)]
  rfl
 rw [hh]
 simp only [Option.map_some,h0 hs,if_pos]
 exact takeWhile_len _ _ k (by simpa using hk) (fun i hi hik=>h1 i (by simpa using hi) hik) (fun h=>h2 (by simpa using h))
section
set_option maxHeartbeats 400000
theorem isLower_any (n:Int) (w:World) :
  Calls Tryz.prog 176 #[.int .u8 n] w fun e w'=>e = .returned (.bool (lowB n))∧w = w':=by
 by_cases h1:97≤n <;> by_cases h2:n≤122
 all_goals
  have hb:lowB n = (decide (97≤n) && decide (n≤122)):=by simp [lowB]
  have HB:=Lib.hid hb; clear hb
  go_enter Tryz.func176,Tryz.ntmps176
  go_wp2
  go_ret
  exact ⟨by rw [HB.out]; simp [h1,h2],rfl⟩
theorem isDigit_any (n:Int) (w:World) :
  Calls Tryz.prog 177 #[.int .u8 n] w fun e w'=>e = .returned (.bool (digB n))∧w = w':=by
 by_cases h1:48≤n <;> by_cases h2:n≤57
 all_goals
  have hb:digB n = (decide (48≤n) && decide (n≤57)):=by simp [digB]
  have HB:=Lib.hid hb; clear hb
  go_enter Tryz.func177,Tryz.ntmps177
  go_wp2
  go_ret
  exact ⟨by rw [HB.out]; simp [h1,h2],rfl⟩
end
theorem toList_ne (s:ByteArray) (h:0 < s.size) : ¬ s.toList = []:=by
 rw [ByteArray.toList_eq]; intro e
 have:s.data.toList.length = 0:=by rw [e]; rfl
 have h2:s.size = s.data.toList.length:=by simp
 omega
theorem toList_emp (s:ByteArray) (h : ¬ 0 < s.size) : s.toList = []:=by
 rw [ByteArray.toList_eq]
 have h2:s.size = s.data.toList.length:=by simp
 exact List.eq_nil_of_length_eq_zero (by omega)
theorem isEmpty_ne (s:ByteArray) (h:0 < s.size) : s.toList.isEmpty = false:=by
 have:=toList_ne s h
 cases hh:s.toList with
 | nil=>exact absurd hh this
 | cons=>rfl
set_option maxHeartbeats 2000000 in
theorem wordLength_any (s:ByteArray) (w:World) (hs:s.size≤maxLen) :
  Calls Tryz.prog 123 #[.string s] w fun e w'=>e = .returned (.int .i64 (wl s.data.toList))∧w = w':=by
 have hs':s.size≤9223372036854775807:=hs
 clear hs
 by_cases hpos:0 < s.size
 ·
  have hne:=toList_ne s hpos
  have hem:=isEmpty_ne s hpos
  by_cases hl:lowB (s[0].toNat:Int) = true
  ·
   have HL:=Lib.hid hl
   go_enter Tryz.func123,Tryz.ntmps123
   go_wp2_with (go_at_call 176; refine (isLower_any _ _).mono ?_; rintro e w' ⟨rfl,rfl⟩)
   go_loop [3] (fun i=>∃ k:Nat,1≤k∧k≤s.size∧i = .int .i64 k∧Hid (∀ i (h:i < s.size),i < k→wcB (s[i].toNat:Int) = true)) (fun i=>s.size - (intOf i).toNat)
   case atStart=>exact ⟨1,by omega,by omega,rfl,fun i h h1=>by
    obtain rfl:i = 0:=by omega
    simp [wcB,hl]⟩
   case round =>
    obtain ⟨k,hk1,hk,rfl,hall⟩:=hrel
    clear hl hne hem
    by_cases hlt:k < s.size
    ·
     by_cases q1:lowB (s[k].toNat:Int) = true
     ·
      go_wp2_with (first | (go_at_call 176; refine (isLower_any _ _).mono ?_; rintro e w' ⟨rfl,rfl⟩) | (go_at_call 177; refine (isDigit_any _ _).mono ?_; rintro e w' ⟨rfl,rfl⟩))
      go_round
      case rel=>exact ⟨k+1,by omega,by omega,by go_num,fun i h hi=>by
       rcases Nat.lt_or_ge i k with h1 | h1
       ·
        exact hall.out i h h1
       ·
        obtain rfl:i = k:=by omega
        simp [wcB,q1]⟩
      case measure=>simp [intOf]; omega
     ·
      have q1':lowB (s[k].toNat:Int) = false:=by simpa using q1
      clear q1
      by_cases q2:digB (s[k].toNat:Int) = true
      ·
       go_wp2_with (first | (go_at_call 176; refine (isLower_any _ _).mono ?_; rintro e w' ⟨rfl,rfl⟩) | (go_at_call 177; refine (isDigit_any _ _).mono ?_; rintro e w' ⟨rfl,rfl⟩))
       go_round
       case rel=>exact ⟨k+1,by omega,by omega,by go_num,fun i h hi=>by
        rcases Nat.lt_or_ge i k with h1 | h1
        ·
         exact hall.out i h h1
        ·
         obtain rfl:i = k:=by omega
         simp [wcB,q2]⟩
       case measure=>simp [intOf]; omega
      ·
       have q2':digB (s[k].toNat:Int) = false:=by simpa using q2
       clear q2
       by_cases q3:((s[k].toNat:Int) == 95) = true
       ·
        go_wp2_with (first | (go_at_call 176; refine (isLower_any _ _).mono ?_; rintro e w' ⟨rfl,rfl⟩) | (go_at_call 177; refine (isDigit_any _ _).mono ?_; rintro e w' ⟨rfl,rfl⟩))
        go_round
        case rel=>exact ⟨k+1,by omega,by omega,by go_num,fun i h hi=>by
         rcases Nat.lt_or_ge i k with h1 | h1
         ·
          exact hall.out i h h1
         ·
          obtain rfl:i = k:=by omega
          simp only [wcB,q3,Bool.or_true]⟩
        case measure=>simp [intOf]; omega
       ·
        have q3':((s[k].toNat:Int) == 95) = false:=by simpa using q3
        clear q3
        go_wp2_with (first | (go_at_call 176; refine (isLower_any _ _).mono ?_; rintro e w' ⟨rfl,rfl⟩) | (go_at_call 177; refine (isDigit_any _ _).mono ?_; rintro e w' ⟨rfl,rfl⟩))
        go_ret
        rw [wl_of s k hk (fun _=>HL.out) hpos hall.out (fun _=>by simp only [wcB,q1',q2',q3',Bool.or_self])]
        exact ⟨rfl,rfl⟩
    ·
     go_wp2_with fail
     go_ret
     rw [wl_of s k hk (fun _=>HL.out) hpos hall.out (fun h=>absurd h hlt)]
     exact ⟨rfl,rfl⟩
  ·
   have hl':lowB (s[0].toNat:Int) = false:=by simpa using hl
   have hwl:wl s.data.toList = 0:=by
    apply wl_none; intro c hc
    have hh:s.data.toList.head? = some s[0]:=by
     rw [List.head?_eq_getElem?,List.getElem?_eq_getElem (by simpa using hpos)]
     rfl
    rw [hh] at hc; simp at hc; rw [← hc]; exact hl'
   have HW:=Lib.hid hwl; clear hwl hl
   go_enter Tryz.func123,Tryz.ntmps123
   go_wp2_with (go_at_call 176; refine (isLower_any _ _).mono ?_; rintro e w' ⟨rfl,rfl⟩)
   go_ret
   rw [HW.out]
   exact ⟨rfl,rfl⟩
 ·
  have hne:=toList_emp s hpos
  have HW:Hid (wl s.data.toList = 0):=by
   rw [← ByteArray.toList_eq,hne]; rfl
  go_enter Tryz.func123,Tryz.ntmps123
  go_wp2_with (go_at_call 176; refine (isLower_any _ _).mono ?_; rintro e w' ⟨rfl,rfl⟩)
  go_ret
  rw [HW.out]
  exact ⟨rfl,rfl⟩
set_option maxHeartbeats 2000000 in
theorem isKeyword_any (s:ByteArray) (w:World) :
  Calls Tryz.prog 124 #[.string s] w fun e w'=>e = .returned (.bool (kwB s))∧w = w':=by
 go_enter Tryz.func124,Tryz.ntmps124
 go_wp2
 all_goals go_ret
 all_goals refine ⟨?_,rfl⟩
 all_goals first | (simp [kwB,kws, *]; done) | (exfalso; simp_all; done)
theorem wl_le (s:ByteArray) : wl s.data.toList≤s.size:=by
 unfold wl
 have h2:s.size = s.data.toList.length:=by simp
 split
 ·
  rw [h2]; exact (List.takeWhile_sublist _).length_le
 ·
  omega
set_option maxHeartbeats 1000000 in
theorem isName_any (s:ByteArray) (w:World) (hs:s.size≤maxLen) :
  Calls Tryz.prog 82 #[.string s] w fun e w'=>e = .returned (.bool (nameB s))∧w = w':=by
 have hs':s.size≤9223372036854775807:=hs
 by_cases h1:0 < s.size
 ·
  by_cases h2:s.size≤24
  ·
   have h3:=wl_le s
   by_cases h4:wl s.data.toList = s.size
   ·
    have h4':((wl s.data.toList:Int) == (s.size:Int)) = true:=by simp [h4]
    have H4:=Lib.hid h4; clear h4
    go_enter Tryz.func82,Tryz.ntmps82
    go_wp2_with (first | (go_at_call 123; refine (wordLength_any _ _ hs).mono ?_; rintro e w' ⟨rfl,rfl⟩) | (go_at_call 124; refine (isKeyword_any _ _).mono ?_; rintro e w' ⟨rfl,rfl⟩))
    go_ret
    exact ⟨by simp [nameB,h1,h2,H4.out],rfl⟩
   ·
    have h4':((wl s.data.toList:Int) == (s.size:Int)) = false:=by simp; omega
    have H4:=Lib.hid h4; clear h4
    go_enter Tryz.func82,Tryz.ntmps82
    go_wp2_with (first | (go_at_call 123; refine (wordLength_any _ _ hs).mono ?_; rintro e w' ⟨rfl,rfl⟩) | (go_at_call 124; refine (isKeyword_any _ _).mono ?_; rintro e w' ⟨rfl,rfl⟩))
    go_ret
    exact ⟨by simp [nameB,h1,h2,H4.out],rfl⟩
  ·
   go_enter Tryz.func82,Tryz.ntmps82
   go_wp2_with (first | (go_at_call 123; refine (wordLength_any _ _ hs).mono ?_; rintro e w' ⟨rfl,rfl⟩) | (go_at_call 124; refine (isKeyword_any _ _).mono ?_; rintro e w' ⟨rfl,rfl⟩))
   go_ret
   exact ⟨by simp [nameB,h1,h2],rfl⟩
 ·
  go_enter Tryz.func82,Tryz.ntmps82
  go_wp2_with (first | (go_at_call 123; refine (wordLength_any _ _ hs).mono ?_; rintro e w' ⟨rfl,rfl⟩) | (go_at_call 124; refine (isKeyword_any _ _).mono ?_; rintro e w' ⟨rfl,rfl⟩))
  go_ret
  exact ⟨by simp [nameB,h1],rfl⟩
end Go.Proofs.YtlhkojcmcmkmaaaGreat
namespace Go.Proofs.YtlhkojcmcmkmaaaGreat
open Go.RowKit
structure WageT where
 code:ByteArray
 kind:Int
 taxable:Bool
 insured:Bool
 attachable:Bool
 account:Int
deriving DecidableEq
def encW (x:WageT) : List Value:=[.string x.code,.int .i64 x.kind,.bool x.taxable,.bool x.insured,.bool x.attachable,.int .i64 x.account]
structure Elem where
 code:ByteArray
 amount:Int
deriving DecidableEq
def encE (x:Elem) : List Value:=[.string x.code,.int .i64 x.amount]
theorem encW_len (x:WageT) : (encW x).length = 6:=rfl
theorem encE_len (x:Elem) : (encE x).length = 2:=rfl
theorem encW_one (x:WageT) : ∀ u ∈ encW x,u.oneCell' = true:=by intro u hu; simp [encW] at hu; rcases hu with rfl | rfl | rfl | rfl | rfl | rfl <;> rfl
theorem encE_one (x:Elem) : ∀ u ∈ encE x,u.oneCell' = true:=by intro u hu; simp [encE] at hu; rcases hu with rfl | rfl <;> rfl
theorem infoW : (Tryz.prog.info? 77).map (fun i=>(i.zero,i.size,i.bytes)) = some (some (.agg #[.string ⟨#[]⟩,.int .i64 0,.bool false,.bool false,.bool false,.int .i64 0]),6,40):=by kernel_rfl
theorem infoE : (Tryz.prog.info? 69).map (fun i=>(i.zero,i.size,i.bytes)) = some (some (.agg #[.string ⟨#[]⟩,.int .i64 0]),2,24):=by kernel_rfl
def cBonus : ByteArray:=⟨#[98,111,110,117,115]⟩
def cCar : ByteArray:=⟨#[99,97,114]⟩
def cNight : ByteArray:=⟨#[110,105,103,104,116]⟩
def cSalary : ByteArray:=⟨#[115,97,108,97,114,121]⟩
def codes4 : List ByteArray:=[cBonus,cCar,cNight,cSalary]
def cells4 : Array Value:=#[.string ⟨#[98,111,110,117,115]⟩,.string ⟨#[99,97,114]⟩,.string ⟨#[110,105,103,104,116]⟩,.string ⟨#[115,97,108,97,114,121]⟩]
def code4 (k:Nat) : ByteArray:=codes4.getD k cBonus
theorem cells4_at (k:Nat) (h:k < 4) : cells4[k]? = some (.string (code4 k)):=by
 match k,h with
 | 0,_=>rfl
 | 1,_=>rfl
 | 2,_=>rfl
 | 3,_=>rfl
structure WageOk (x:WageT) : Prop where
 code:x.code ∈ codes4
 kind:x.kind = 1 ∨ (x.kind = 2∧x.attachable = false)
 lo:4000≤x.account
 hi:x.account≤4003
 sal:x.code = code4 3→x.kind = 1
structure GenW (k:Nat) (xs:List WageT) : Prop where
 sub:(xs.map (·.code)).Sublist (codes4.take k)
 ok:∀ x ∈ xs,WageOk x
theorem GenW.nil_ : GenW 0 []:=⟨by simp,by simp⟩
theorem take4 (k:Nat) (h:k < 4) : codes4.take (k+1) = codes4.take k++[code4 k]:=by
 match k,h with
 | 0,_=>rfl
 | 1,_=>rfl
 | 2,_=>rfl
 | 3,_=>rfl
theorem GenW.skip {k:Nat} {xs:List WageT} (h:GenW k xs) (hk:k < 4) : GenW (k+1) xs :=
 ⟨by rw [take4 k hk]; exact h.sub.trans (List.sublist_append_left _ _),h.ok⟩
theorem GenW.more {k:Nat} {xs:List WageT} (h:GenW k xs) (hk:k < 4) (x:WageT) (hc:x.code = code4 k) (hx:WageOk x) : GenW (k+1) (xs++[x]):=by
 refine ⟨?_,fun y hy=>?_⟩
 ·
  rw [take4 k hk,List.map_append]
  exact h.sub.append (by simp [hc])
 ·
  rcases List.mem_append.1 hy with h1 | h1
  ·
   exact h.ok y h1
  ·
   simp at h1; subst h1; exact hx
theorem GenW.len {k:Nat} {xs:List WageT} (h:GenW k xs) : xs.length≤4:=by
 have:=h.sub.length_le
 simp [codes4] at this
 omega
theorem car_ne (k:Nat) (h:k < 4) : ((code4 k).toList == [99,97,114]) = true→code4 k ≠ code4 3:=by
 match k,h with
 | 0,_=>decide +kernel
 | 1,_=>decide +kernel
 | 2,_=>decide +kernel
 | 3,_=>decide +kernel
theorem code4_mem (k:Nat) (h:k < 4) : code4 k ∈ codes4:=by
 match k,h with
 | 0,_=>simp [code4,codes4]
 | 1,_=>simp [code4,codes4]
 | 2,_=>simp [code4,codes4]
 | 3,_=>simp [code4,codes4]
set_option maxHeartbeats 2000000 in
theorem wages_any (b M : Nat) (w:World) (hM:M≤900000) (hd:DeckIn w b M) :
  Calls Tryz.prog 63 #[.pointer (some ⟨b,0,none⟩)] w fun e w'=>∃ v xs,e = .returned v∧GenW 4 xs∧Own encW 6 77 w' w.heap.size v xs∧DeckIn w' b (M+20)∧w.grownBy w' (some b):=by
 have hlt:=hd.lt
 go_enter Tryz.func63,Tryz.ntmps63
 go_wp2_with fail
 rw [show Obj.cells #[.string ⟨#[98,111,110,117,115]⟩,.string ⟨#[99,97,114]⟩,.string ⟨#[110,105,103,104,116]⟩,.string ⟨#[115,97,108,97,114,121]⟩] 9 = Obj.cells cells4 9 from rfl]
 go_loopw [3,9] (fun v i wr=>∃ (k:Nat) (xs:List WageT),k≤4∧i = .int .i64 k∧GenW k xs∧Own encW 6 77 wr (w.heap.size+1) v xs∧DeckIn wr b (M+5 * k)∧Blk wr w.heap.size 9 cells4∧w.grownBy wr (some b)) (fun _ i _=>4 - (intOf i).toNat)
 case atStart=>exact ⟨0,[],by omega,rfl,GenW.nil_,Own.nil_ _ _,hd.alloc _,Blk.new _ _ _,only_alloc (only_refl _ _) _⟩
 case round =>
  obtain ⟨k,xs,hk,rfl,hgen,hown,hdk,hblk,hg⟩:=hrel
  by_cases hltk:k < 4
  ·
   have c0:=(hblk.cell k).trans (cells4_at k hltk)
   go_wp2_with fail
   refine (next_any b (M+5 * k) _ _ (by omega) (by omega) (by omega) hdk).mono ?_
   rintro e w1 ⟨r1,rfl,ha1,hb1,hd1,hg1⟩
   go_wp2_with fail
   refine (next_any b (M+5 * k+1) _ _ (by omega) (by omega) (by omega) hd1).mono ?_
   rintro e w2 ⟨r2,rfl,ha2,hb2,hd2,hg2⟩
   go_wp2_with fail
   refine (next_any b (M+5 * k+1+1) _ _ (by omega) (by omega) (by omega) hd2).mono ?_
   rintro e w3 ⟨r3,rfl,ha3,hb3,hd3,hg3⟩
   go_wp2_with fail
   refine (next_any b (M+5 * k+1+1+1) _ _ (by omega) (by omega) (by omega) hd3).mono ?_
   rintro e w4 ⟨r4,rfl,ha4,hb4,hd4,hg4⟩
   go_wp2_with fail
   all_goals
    refine (next_any b (M+5 * k+1+1+1+1) _ _ (by omega) (by omega) (by omega) (hd4.alloc _)).mono ?_
    rintro e w5 ⟨r5,rfl,ha5,hb5,hd5,hg5⟩
    have hlt4:w.heap.size < w4.heap.size:=by have:=hblk.lt; have:=hg1.size; have:=hg2.size; have:=hg3.size; have:=hg4.size; omega
    have hB:=(Blk.new w4 _ _).grown hg5 (by intro e; injection e; omega)
    have d0:=hB.cell 0
    have d1:=hB.cell 1
    have d2:=hB.cell 2
    have d3:=hB.cell 3
    have d4:=hB.cell 4
    have d5:=hB.cell 5
    simp only [nqg,nqh,nqi] at d0 d1 d2 d3 d4 d5
    have hown4:=(((hown.kept hg1 (by intro g e; injection e; omega)).kept hg2 (by intro g e; injection e; omega)).kept hg3 (by intro g e; injection e; omega)).kept hg4 (by intro g e; injection e; omega)
    have hown5:=(hown4.alloc (Obj.cells _ _)).kept hg5 (by intro g e; injection e; omega)
    have hblk5:=((((hblk.grown hg1 (by intro e; injection e; omega)).grown hg2 (by intro e; injection e; omega)).grown hg3 (by intro e; injection e; omega)).grown hg4 (by intro e; injection e; omega)).alloc (Obj.cells _ _) |>.grown hg5 (by intro e; injection e; omega)
    have hgg:=only_trans (only_alloc (only_trans (only_trans (only_trans (only_trans hg hg1) hg2) hg3) hg4) _) hg5
    have h5s:w4.heap.size+1≤w5.heap.size:=by have:=hg5.size; simpa using this
    have hlen:=hgen.len
    clear hB hown hown4 hblk hg hg1 hg2 hg3 hg4 hg5 hdk hd1 hd2 hd3 hd4 c0
    go_wp2_with (at_builtin; (refine wpList_append_one _ _ 36 ⟨_,_,_,_,_,_⟩ _ 40 _ infoW Tryz.underlying36 hown5 encW_len (by omega) rfl (encW_one _) (by omega) (by omega) (by omega) (by rfl) (by rfl) (by rfl) (by rfl) (by simp) (by rfl) ?_); intro v2 w6 hown6 hg6)
    ·
     have hr6:∀ g,Value.ownBlock _ = some g→w.heap.size+1≤g:=fun g e=>(hown5.block_lt e).1
     go_roundw
     case rel =>
      refine ⟨k+1,_,by omega,by go_num,?_,hown6,(hd5.grown hg6 (fun g e=>by have:=hr6 g e; omega)).mono (by omega),hblk5.grown hg6 (fun e=>by have:=hr6 _ e.symm; omega),only_then hgg hg6 (fun g e=>.inl (by have:=hr6 g e; omega))⟩
      exact hgen.more hltk _ rfl ⟨code4_mem k hltk,by first | exact .inl rfl | exact .inr ⟨rfl,rfl⟩,by show _≤(4000+r4:Int); omega,by show (4000+r4:Int)≤_; omega,fun e=>by first | rfl | exact absurd e (car_ne k hltk (by assumption))⟩
     case measure=>simp [intOf]; omega
    ·
     go_roundw
     case rel=>exact ⟨k+1,xs,by omega,by go_num,hgen.skip hltk,hown5,hd5.mono (by omega),hblk5,hgg⟩
     case measure=>simp [intOf]; omega
  ·
   go_wp2
   go_ret
   obtain rfl:k = 4:=by omega
   exact ⟨_,xs,rfl,hgen,hown.weaken (by omega),hdk,hg⟩
set_option maxHeartbeats 1000000 in
theorem small_any (b M : Nat) (w:World) (hM:M≤900000) (hd:DeckIn w b M) :
  Calls Tryz.prog 41 #[.pointer (some ⟨b,0,none⟩)] w fun e w'=>∃ r:Int,e = .returned (.int .i64 r)∧0≤r∧r < 600000∧DeckIn w' b (M+2)∧w.grownBy w' (some b):=by
 have hlt:=hd.lt
 go_enter Tryz.func41,Tryz.ntmps41
 go_wp2_with fail
 refine (next_any b M _ _ (by omega) (by omega) (by omega) hd).mono ?_
 rintro e w1 ⟨r1,rfl,ha1,hb1,hd1,hg1⟩
 have hlt1:=hd1.lt
 by_cases h0:r1 = 0
 ·
  subst h0
  go_wp2_with fail
  refine (pick_any b (M+1) _ _ [0,0,1,100] _ (by omega) (hd1.alloc _) (by simp) (by simp) ?_ ?_).mono ?_
  ·
   exact fun _=>⟨w1.heap.size,0,rfl,by simp,fun i x hi j v hj=>by
    rw [World.cell?_alloc_at _ _ _ _ rfl]
    match j,hj with
    | 0,hj =>
     match i,hi with
     | 0,hi=>simp at hi; subst hi; simpa [encI] using hj
     | 1,hi=>simp at hi; subst hi; simpa [encI] using hj
     | 2,hi=>simp at hi; subst hi; simpa [encI] using hj
     | 3,hi=>simp at hi; subst hi; simpa [encI] using hj
     | (n+4),hi=>simp at hi
    | (n+1),hj=>simp [encI] at hj⟩
  ·
   intro a ha; injection ha with ha; subst ha; simp; omega
  ·
   rintro e w2 ⟨r2,rfl,hr,hd2,hg2⟩
   go_wp2
   go_ret
   have:0≤r2∧r2 < 600000:=by simp at hr; omega
   exact ⟨r2,rfl,this.1,this.2,hd2,only_trans (only_alloc hg1 _) hg2⟩
 ·
  have h0':(r1 == 0) = false:=by simpa using h0
  clear h0
  go_wp2_with fail
  refine (next_any b (M+1) _ _ (by omega) (by omega) (by omega) hd1).mono ?_
  rintro e w2 ⟨r2,rfl,ha2,hb2,hd2,hg2⟩
  go_wp2
  go_ret
  exact ⟨r2,rfl,ha2,hb2,hd2,only_trans hg1 hg2⟩
theorem SliceOf.new {α:Type} {enc:α→List Value} {k:Nat} (hk : ∀ x,(enc x).length = k) (w:World) (l:List α) (cs:Array Value) (t:TypeId) (h:cs = (l.flatMap enc).toArray) :
  SliceOf enc k (w.alloc (.cells cs t)) (w.heap.size+1) (some ⟨w.heap.size,0,none⟩) l:=fun _=>by
 subst h
 refine ⟨w.heap.size,0,rfl,by omega,fun i x hi j v hj=>?_⟩
 rw [World.cell?_alloc_at _ _ _ _ rfl,Nat.zero_add,List.getElem?_toArray]
 exact flatMap_at hk l i j x v hi hj
theorem encI_len (x:Int) : (encI x).length = 1:=rfl
end Go.Proofs.YtlhkojcmcmkmaaaGreat
