/- Joined texts: Tok Gen Data2. Conditions: as stated. -/
import Derived.WalkKit
import Derived.WalkSpells
import Derived.WalkLawsBesides
import Derived.Deep.QuietTactic
import Derived.BigQuiet
import Derived.Lib.Hide
import Derived.Lib.Strings
import Derived.Test.YtjncpgbhokjbfaaGreatRows
import Derived.Deep.RegionWith
import Derived.Deep.DeepCutAuto
import Derived.Test.YtjncpgbhokjbfaaGreatJ00
namespace Go.Proofs.YtjncpgbhokjbfaaGreat
open Go.RowKit
def lowB (n:Int) : Bool:=decide (97≤n∧n≤122)
def digB (n:Int) : Bool:=decide (48≤n∧n≤57)
def wcB (n:Int) : Bool:=lowB n || digB n || (n == 95)
def wl (l:List UInt8) : Nat:=if (l.head?.map fun c=>lowB (c.toNat : Int)) = some true then (l.takeWhile fun c=>wcB (c.toNat : Int)).length else 0
def kws : List (List UInt8):=[[97,103,114,101,101,109,101,110,116],[105,110,112,117,116],[112,97,115,116],[115,99,97,108,101],[114,117,108,101],[112,97,121],[102,114,111,109],[114,111,117,110,100,101,100],[116,111],[105,102],[116,104,101,110],[101,108,115,101],[97,110,100],[111,114],[110,111,116],[116,114,117,101],[102,97,108,115,101],[109,105,110],[109,97,120],[114,111,117,110,100],[97,118,101,114,97,103,101],[108,97,115,116],[109,111,110,101,121],[104,111,117,114,115],[100,97,121,115],[110,117,109,98,101,114],[98,111,111,108],[100,111,119,110],[117,112],[102,108,111,111,114],[99,101,105,108,105,110,103],[104,97,108,102,95,117,112],[104,97,108,102,95,100,111,119,110],[104,97,108,102,95,101,118,101,110]]
def kwB (s:ByteArray) : Bool:=kws.any fun k=>s.toList == k
def nameB (s:ByteArray) : Bool:=decide (0 < s.size∧s.size≤24) && (wl s.data.toList == s.size) && !kwB s
theorem wl_none (l:List UInt8) (h : ∀ c,l.head? = some c→lowB (c.toNat : Int) = false) : wl l = 0:=by
 unfold wl
 cases hh:l.head? with
 | none=>simp
 | some c=>simp [h c hh]
theorem takeWhile_len {α:Type} (p:α→Bool) : ∀ (l:List α) (k:Nat),k≤l.length→(∀ i (h:i < l.length),i < k→p l[i] = true)→(∀ h : k < l.length,p l[k] = false)→(l.takeWhile p).length = k:=by
 intro l
 induction l with
 | nil=>intro k hk _ _; simp at hk; simp [hk]
 | cons a l ih =>
  intro k hk h1 h2
  cases k with
  | zero=>have:=h2 (by simp); simp at this; simp [this]
  | succ k =>
   have ha:=h1 0 (by simp) (by omega)
   simp at ha
   rw [List.takeWhile_cons,if_pos ha,List.length_cons]
   rw [ih k (by simp at hk; omega) (fun i hi hik=>by have:=h1 (i+1) (by simp; omega) (by omega); simpa using this) (fun h=>by have:=h2 (by simp; omega); simpa using this)]
theorem wl_of (s:ByteArray) (k:Nat) (hk:k≤s.size) (h0 : ∀ h : 0 < s.size,lowB (s[0].toNat : Int) = true) (hs:0 < s.size)
  (h1:∀ i (h:i < s.size),i < k→wcB (s[i].toNat:Int) = true) (h2:∀ h:k < s.size,wcB (s[k].toNat:Int) = false) : wl s.data.toList = k:=by
 unfold wl
 have hh:s.data.toList.head? = some s[0]:=by
  rw [List.head?_eq_getElem?,List.getElem?_eq_getElem (by simpa using hs)]
  rfl
 rw [hh]
 simp only [Option.map_some,h0 hs,if_pos]
 exact takeWhile_len _ _ k (by simpa using hk) (fun i hi hik=>h1 i (by simpa using hi) hik) (fun h=>h2 (by simpa using h))
section
set_option maxHeartbeats 400000
theorem isLower_any (n:Int) (w:World) :
  Calls Tryz.prog 122 #[.int .u8 n] w fun e w'=>e = .returned (.bool (lowB n))∧w = w':=by
 by_cases h1:97≤n <;> by_cases h2:n≤122
 all_goals
  have hb:lowB n = (decide (97≤n) && decide (n≤122)):=by simp [lowB]
  have HB:=Lib.hid hb; clear hb
  go_enter Tryz.func122,Tryz.ntmps122
  go_wp2
  go_ret
  exact ⟨by rw [HB.out]; simp [h1,h2],rfl⟩
theorem isDigit_any (n:Int) (w:World) :
  Calls Tryz.prog 123 #[.int .u8 n] w fun e w'=>e = .returned (.bool (digB n))∧w = w':=by
 by_cases h1:48≤n <;> by_cases h2:n≤57
 all_goals
  have hb:digB n = (decide (48≤n) && decide (n≤57)):=by simp [digB]
  have HB:=Lib.hid hb; clear hb
  go_enter Tryz.func123,Tryz.ntmps123
  go_wp2
  go_ret
  exact ⟨by rw [HB.out]; simp [h1,h2],rfl⟩
theorem lower_any (n:Int) (w:World) :
  Calls Tryz.prog 168 #[.int .u8 n] w fun e w'=>e = .returned (.bool (lowB n))∧w = w':=by
 by_cases h1:97≤n <;> by_cases h2:n≤122
 all_goals
  have hb:lowB n = (decide (97≤n) && decide (n≤122)):=by simp [lowB]
  have HB:=Lib.hid hb; clear hb
  go_enter Tryz.func168,Tryz.ntmps168
  go_wp2
  go_ret
  exact ⟨by rw [HB.out]; simp [h1,h2],rfl⟩
theorem digit_any (n:Int) (w:World) :
  Calls Tryz.prog 169 #[.int .u8 n] w fun e w'=>e = .returned (.bool (digB n))∧w = w':=by
 by_cases h1:48≤n <;> by_cases h2:n≤57
 all_goals
  have hb:digB n = (decide (48≤n) && decide (n≤57)):=by simp [digB]
  have HB:=Lib.hid hb; clear hb
  go_enter Tryz.func169,Tryz.ntmps169
  go_wp2
  go_ret
  exact ⟨by rw [HB.out]; simp [h1,h2],rfl⟩
end
theorem toList_ne (s:ByteArray) (h:0 < s.size) : ¬ s.toList = []:=by
 rw [ByteArray.toList_eq]; intro e
 have:s.data.toList.length = 0:=by rw [e]; rfl
 have h2:s.size = s.data.toList.length:=by simp
 omega
theorem toList_emp (s:ByteArray) (h : ¬ 0 < s.size) : s.toList = []:=by
 rw [ByteArray.toList_eq]
 have h2:s.size = s.data.toList.length:=by simp
 exact List.eq_nil_of_length_eq_zero (by omega)
theorem isEmpty_ne (s:ByteArray) (h:0 < s.size) : s.toList.isEmpty = false:=by
 have:=toList_ne s h
 cases hh:s.toList with
 | nil=>exact absurd hh this
 | cons=>rfl
set_option maxHeartbeats 2000000 in
theorem wordLength_any (s:ByteArray) (w:World) (hs:s.size≤maxLen) :
  Calls Tryz.prog 70 #[.string s] w fun e w'=>e = .returned (.int .i64 (wl s.data.toList))∧w = w':=by
 have hs':s.size≤9223372036854775807:=hs
 clear hs
 by_cases hpos:0 < s.size
 ·
  have hne:=toList_ne s hpos
  have hem:=isEmpty_ne s hpos
  by_cases hl:lowB (s[0].toNat:Int) = true
  ·
   have HL:=Lib.hid hl
   go_enter Tryz.func70,Tryz.ntmps70
   go_wp2_with (go_at_call 122; refine (isLower_any _ _).mono ?_; rintro e w' ⟨rfl,rfl⟩)
   go_loop [3] (fun i=>∃ k:Nat,1≤k∧k≤s.size∧i = .int .i64 k∧Hid (∀ i (h:i < s.size),i < k→wcB (s[i].toNat:Int) = true)) (fun i=>s.size - (intOf i).toNat)
   case atStart=>exact ⟨1,by omega,by omega,rfl,fun i h h1=>by
    obtain rfl:i = 0:=by omega
    simp [wcB,hl]⟩
   case round =>
    obtain ⟨k,hk1,hk,rfl,hall⟩:=hrel
    clear hl hne hem
    by_cases hlt:k < s.size
    ·
     by_cases q1:lowB (s[k].toNat:Int) = true
     ·
      go_wp2_with (first | (go_at_call 122; refine (isLower_any _ _).mono ?_; rintro e w' ⟨rfl,rfl⟩) | (go_at_call 123; refine (isDigit_any _ _).mono ?_; rintro e w' ⟨rfl,rfl⟩))
      go_round
      case rel=>exact ⟨k+1,by omega,by omega,by go_num,fun i h hi=>by
       rcases Nat.lt_or_ge i k with h1 | h1
       ·
        exact hall.out i h h1
       ·
        obtain rfl:i = k:=by omega
        simp [wcB,q1]⟩
      case measure=>simp [intOf]; omega
     ·
      have q1':lowB (s[k].toNat:Int) = false:=by simpa using q1
      clear q1
      by_cases q2:digB (s[k].toNat:Int) = true
      ·
       go_wp2_with (first | (go_at_call 122; refine (isLower_any _ _).mono ?_; rintro e w' ⟨rfl,rfl⟩) | (go_at_call 123; refine (isDigit_any _ _).mono ?_; rintro e w' ⟨rfl,rfl⟩))
       go_round
       case rel=>exact ⟨k+1,by omega,by omega,by go_num,fun i h hi=>by
        rcases Nat.lt_or_ge i k with h1 | h1
        ·
         exact hall.out i h h1
        ·
         obtain rfl:i = k:=by omega
         simp [wcB,q2]⟩
       case measure=>simp [intOf]; omega
      ·
       have q2':digB (s[k].toNat:Int) = false:=by simpa using q2
       clear q2
       by_cases q3:((s[k].toNat:Int) == 95) = true
       ·
        go_wp2_with (first | (go_at_call 122; refine (isLower_any _ _).mono ?_; rintro e w' ⟨rfl,rfl⟩) | (go_at_call 123; refine (isDigit_any _ _).mono ?_; rintro e w' ⟨rfl,rfl⟩))
        go_round
        case rel=>exact ⟨k+1,by omega,by omega,by go_num,fun i h hi=>by
         rcases Nat.lt_or_ge i k with h1 | h1
         ·
          exact hall.out i h h1
         ·
          obtain rfl:i = k:=by omega
          simp only [wcB,q3,Bool.or_true]⟩
        case measure=>simp [intOf]; omega
       ·
        have q3':((s[k].toNat:Int) == 95) = false:=by simpa using q3
        clear q3
        go_wp2_with (first | (go_at_call 122; refine (isLower_any _ _).mono ?_; rintro e w' ⟨rfl,rfl⟩) | (go_at_call 123; refine (isDigit_any _ _).mono ?_; rintro e w' ⟨rfl,rfl⟩))
        go_ret
        rw [wl_of s k hk (fun _=>HL.out) hpos hall.out (fun _=>by simp only [wcB,q1',q2',q3',Bool.or_self])]
        exact ⟨rfl,rfl⟩
    ·
     go_wp2_with fail
     go_ret
     rw [wl_of s k hk (fun _=>HL.out) hpos hall.out (fun h=>absurd h hlt)]
     exact ⟨rfl,rfl⟩
  ·
   have hl':lowB (s[0].toNat:Int) = false:=by simpa using hl
   have hwl:wl s.data.toList = 0:=by
    apply wl_none; intro c hc
    have hh:s.data.toList.head? = some s[0]:=by
     rw [List.head?_eq_getElem?,List.getElem?_eq_getElem (by simpa using hpos)]
     rfl
    rw [hh] at hc; simp at hc; rw [← hc]; exact hl'
   have HW:=Lib.hid hwl; clear hwl hl
   go_enter Tryz.func70,Tryz.ntmps70
   go_wp2_with (go_at_call 122; refine (isLower_any _ _).mono ?_; rintro e w' ⟨rfl,rfl⟩)
   go_ret
   rw [HW.out]
   exact ⟨rfl,rfl⟩
 ·
  have hne:=toList_emp s hpos
  have HW:Hid (wl s.data.toList = 0):=by
   rw [← ByteArray.toList_eq,hne]; rfl
  go_enter Tryz.func70,Tryz.ntmps70
  go_wp2_with (go_at_call 122; refine (isLower_any _ _).mono ?_; rintro e w' ⟨rfl,rfl⟩)
  go_ret
  rw [HW.out]
  exact ⟨rfl,rfl⟩
set_option maxHeartbeats 2000000 in
theorem isKeyword_any (s:ByteArray) (w:World) :
  Calls Tryz.prog 71 #[.string s] w fun e w'=>e = .returned (.bool (kwB s))∧w = w':=by
 go_enter Tryz.func71,Tryz.ntmps71
 go_wp2
 all_goals go_ret
 all_goals refine ⟨?_,rfl⟩
 all_goals first | (simp [kwB,kws, *]; done) | (exfalso; simp_all; done)
set_option maxHeartbeats 2000000 in
theorem word_any (s:ByteArray) (w:World) (hs:s.size≤maxLen) :
  Calls Tryz.prog 153 #[.string s,.int .i64 0] w fun e w'=>e = .returned (.int .i64 (wl s.data.toList))∧w = w':=by
 have hs':s.size≤9223372036854775807:=hs
 clear hs
 by_cases hpos:0 < s.size
 ·
  have hne:=toList_ne s hpos
  have hem:=isEmpty_ne s hpos
  have hE:¬ s = ByteArray.empty:=by rintro rfl; simp at hpos
  by_cases hl:lowB (s[0].toNat:Int) = true
  ·
   have HL:=Lib.hid hl
   go_enter Tryz.func153,Tryz.ntmps153
   go_wp2_with (go_at_call 168; refine (lower_any _ _).mono ?_; rintro e w' ⟨rfl,rfl⟩)
   go_loop [1] (fun i=>∃ k:Nat,0≤k∧k≤s.size∧i = .int .i64 k∧Hid (∀ i (h:i < s.size),i < k→wcB (s[i].toNat:Int) = true)) (fun i=>s.size - (intOf i).toNat)
   case atStart=>exact ⟨0,by omega,by omega,rfl,fun i h h1=>absurd h1 (by omega)⟩
   case round =>
    obtain ⟨k,hk1,hk,rfl,hall⟩:=hrel
    clear hl hne hem hE
    by_cases hlt:k < s.size
    ·
     by_cases q1:lowB (s[k].toNat:Int) = true
     ·
      go_wp2_with (first | (go_at_call 168; refine (lower_any _ _).mono ?_; rintro e w' ⟨rfl,rfl⟩) | (go_at_call 169; refine (digit_any _ _).mono ?_; rintro e w' ⟨rfl,rfl⟩))
      go_round
      case rel=>exact ⟨k+1,by omega,by omega,by go_num,fun i h hi=>by
       rcases Nat.lt_or_ge i k with h1 | h1
       ·
        exact hall.out i h h1
       ·
        obtain rfl:i = k:=by omega
        simp [wcB,q1]⟩
      case measure=>simp [intOf]; omega
     ·
      have q1':lowB (s[k].toNat:Int) = false:=by simpa using q1
      clear q1
      by_cases q2:digB (s[k].toNat:Int) = true
      ·
       go_wp2_with (first | (go_at_call 168; refine (lower_any _ _).mono ?_; rintro e w' ⟨rfl,rfl⟩) | (go_at_call 169; refine (digit_any _ _).mono ?_; rintro e w' ⟨rfl,rfl⟩))
       go_round
       case rel=>exact ⟨k+1,by omega,by omega,by go_num,fun i h hi=>by
        rcases Nat.lt_or_ge i k with h1 | h1
        ·
         exact hall.out i h h1
        ·
         obtain rfl:i = k:=by omega
         simp [wcB,q2]⟩
       case measure=>simp [intOf]; omega
      ·
       have q2':digB (s[k].toNat:Int) = false:=by simpa using q2
       clear q2
       by_cases q3:((s[k].toNat:Int) == 95) = true
       ·
        go_wp2_with (first | (go_at_call 168; refine (lower_any _ _).mono ?_; rintro e w' ⟨rfl,rfl⟩) | (go_at_call 169; refine (digit_any _ _).mono ?_; rintro e w' ⟨rfl,rfl⟩))
        go_round
        case rel=>exact ⟨k+1,by omega,by omega,by go_num,fun i h hi=>by
         rcases Nat.lt_or_ge i k with h1 | h1
         ·
          exact hall.out i h h1
         ·
          obtain rfl:i = k:=by omega
          simp only [wcB,q3,Bool.or_true]⟩
        case measure=>simp [intOf]; omega
       ·
        have q3':((s[k].toNat:Int) == 95) = false:=by simpa using q3
        clear q3
        go_wp2_with (first | (go_at_call 168; refine (lower_any _ _).mono ?_; rintro e w' ⟨rfl,rfl⟩) | (go_at_call 169; refine (digit_any _ _).mono ?_; rintro e w' ⟨rfl,rfl⟩))
        go_ret
        rw [wl_of s k hk (fun _=>HL.out) hpos hall.out (fun _=>by simp only [wcB,q1',q2',q3',Bool.or_self])]
        exact ⟨rfl,rfl⟩
    ·
     go_wp2_with fail
     go_ret
     rw [wl_of s k hk (fun _=>HL.out) hpos hall.out (fun h=>absurd h hlt)]
     exact ⟨rfl,rfl⟩
  ·
   have hl':lowB (s[0].toNat:Int) = false:=by simpa using hl
   have hwl:wl s.data.toList = 0:=by
    apply wl_none; intro c hc
    have hh:s.data.toList.head? = some s[0]:=by
     rw [List.head?_eq_getElem?,List.getElem?_eq_getElem (by simpa using hpos)]
     rfl
    rw [hh] at hc; simp at hc; rw [← hc]; exact hl'
   have HW:=Lib.hid hwl; clear hwl hl
   go_enter Tryz.func153,Tryz.ntmps153
   go_wp2_with (go_at_call 168; refine (lower_any _ _).mono ?_; rintro e w' ⟨rfl,rfl⟩)
   go_ret
   rw [HW.out]
   exact ⟨rfl,rfl⟩
 ·
  have hne:=toList_emp s hpos
  have hE:s = ByteArray.empty:=by
   have h1:s.data.toList = []:=by rw [← ByteArray.toList_eq]; exact hne
   obtain ⟨⟨l⟩⟩:=s
   simp at h1
   subst h1
   rfl
  have HW:Hid (wl s.data.toList = 0):=by
   rw [← ByteArray.toList_eq,hne]; rfl
  go_enter Tryz.func153,Tryz.ntmps153
  go_wp2_with (go_at_call 168; refine (lower_any _ _).mono ?_; rintro e w' ⟨rfl,rfl⟩)
  go_ret
  rw [HW.out]
  exact ⟨rfl,rfl⟩
def kwCells : Array Value:=#[Value.string { data:=#[97,103,114,101,101,109,101,110,116] },Value.string { data:=#[105,110,112,117,116] },Value.string { data:=#[112,97,115,116] },Value.string { data:=#[115,99,97,108,101] },Value.string { data:=#[114,117,108,101] },Value.string { data:=#[112,97,121] },Value.string { data:=#[102,114,111,109] },Value.string { data:=#[114,111,117,110,100,101,100] },Value.string { data:=#[116,111] },Value.string { data:=#[105,102] },Value.string { data:=#[116,104,101,110] },Value.string { data:=#[101,108,115,101] },Value.string { data:=#[97,110,100] },Value.string { data:=#[111,114] },Value.string { data:=#[110,111,116] },Value.string { data:=#[116,114,117,101] },Value.string { data:=#[102,97,108,115,101] },Value.string { data:=#[109,105,110] },Value.string { data:=#[109,97,120] },Value.string { data:=#[114,111,117,110,100] },Value.string { data:=#[97,118,101,114,97,103,101] },Value.string { data:=#[108,97,115,116] },Value.string { data:=#[109,111,110,101,121] },Value.string { data:=#[104,111,117,114,115] },Value.string { data:=#[100,97,121,115] },Value.string { data:=#[110,117,109,98,101,114] },Value.string { data:=#[98,111,111,108] },Value.string { data:=#[100,111,119,110] },Value.string { data:=#[117,112] },Value.string { data:=#[102,108,111,111,114] },Value.string { data:=#[99,101,105,108,105,110,103] },Value.string { data:=#[104,97,108,102,95,117,112] },Value.string { data:=#[104,97,108,102,95,100,111,119,110] },Value.string { data:=#[104,97,108,102,95,101,118,101,110] }]
def kwAt (k:Nat) : ByteArray:=⟨(kws.getD k []).toArray⟩
theorem kwCells_eq : kwCells = (kws.map fun l=>Value.string ⟨l.toArray⟩).toArray:=rfl
theorem kwCells_at (k:Nat) (h:k < 34) : kwCells[k]? = some (.string (kwAt k)):=by
 have hl:k < kws.length:=h
 rw [kwCells_eq,List.getElem?_toArray,List.getElem?_map,List.getElem?_eq_getElem hl]
 simp [kwAt,hl]
theorem kwAt_toList (k:Nat) : (kwAt k).toList = kws.getD k []:=by rw [ByteArray.toList_eq]; simp [kwAt]
set_option maxHeartbeats 2000000 in
theorem isKeyword17_any (s:ByteArray) (w:World) :
  Calls Tryz.prog 154 #[.string s] w fun e w'=>e = .returned (.bool (kwB s))∧Below w.heap.size w w':=by
 go_enter Tryz.func154,Tryz.ntmps154
 go_wp2
 rw [show Obj.cells #[Value.string { data:=#[97,103,114,101,101,109,101,110,116] },Value.string { data:=#[105,110,112,117,116] },Value.string { data:=#[112,97,115,116] },Value.string { data:=#[115,99,97,108,101] },Value.string { data:=#[114,117,108,101] },Value.string { data:=#[112,97,121] },Value.string { data:=#[102,114,111,109] },Value.string { data:=#[114,111,117,110,100,101,100] },Value.string { data:=#[116,111] },Value.string { data:=#[105,102] },Value.string { data:=#[116,104,101,110] },Value.string { data:=#[101,108,115,101] },Value.string { data:=#[97,110,100] },Value.string { data:=#[111,114] },Value.string { data:=#[110,111,116] },Value.string { data:=#[116,114,117,101] },Value.string { data:=#[102,97,108,115,101] },Value.string { data:=#[109,105,110] },Value.string { data:=#[109,97,120] },Value.string { data:=#[114,111,117,110,100] },Value.string { data:=#[97,118,101,114,97,103,101] },Value.string { data:=#[108,97,115,116] },Value.string { data:=#[109,111,110,101,121] },Value.string { data:=#[104,111,117,114,115] },Value.string { data:=#[100,97,121,115] },Value.string { data:=#[110,117,109,98,101,114] },Value.string { data:=#[98,111,111,108] },Value.string { data:=#[100,111,119,110] },Value.string { data:=#[117,112] },Value.string { data:=#[102,108,111,111,114] },Value.string { data:=#[99,101,105,108,105,110,103] },Value.string { data:=#[104,97,108,102,95,117,112] },Value.string { data:=#[104,97,108,102,95,100,111,119,110] },Value.string { data:=#[104,97,108,102,95,101,118,101,110] }] 9 = Obj.cells kwCells 9 from rfl]
 go_loop [4] (fun i=>∃ k:Nat,k≤34∧i = .int .i64 k∧Hid (∀ j,j < k→(kws.getD j [] == s.toList) = false)) (fun i=>34 - (intOf i).toNat)
 case atStart=>exact ⟨0,by omega,rfl,fun j hj=>absurd hj (by omega)⟩
 case round =>
  obtain ⟨k,hk,rfl,hall⟩:=hrel
  by_cases hlt:k < 34
  ·
   have hc:=kwCells_at k hlt
   by_cases ht:((kwAt k).toList == s.toList) = true
   ·
    go_wp2
    go_ret
    have hk:kwB s = true:=by
     rw [kwAt_toList] at ht
     rw [kwB,List.any_eq_true]
     refine ⟨kws.getD k [],?_,by rw [beq_iff_eq] at ht ⊢; exact ht.symm⟩
     rw [List.getD_eq_getElem?_getD,List.getElem?_eq_getElem (show k < kws.length from hlt)]
     exact List.getElem_mem _
    exact ⟨by rw [hk]; rfl,(Below.refl _ _).alloc (Nat.le_refl _) _⟩
   ·
    have ht':((kwAt k).toList == s.toList) = false:=by simpa using ht
    clear ht
    go_wp2
    go_round
    case rel =>
     refine ⟨k+1,by omega,by go_num,fun j hj=>?_⟩
     rcases Nat.lt_or_ge j k with h1 | h1
     ·
      exact hall.out j h1
     ·
      obtain rfl:j = k:=by omega
      rw [← kwAt_toList]; exact ht'
    case measure=>simp [intOf]; omega
  ·
   go_wp2
   go_ret
   have hk:kwB s = false:=by
    rw [kwB,List.any_eq_false]
    intro x hx
    obtain ⟨j,hj,rfl⟩:=List.mem_iff_getElem.1 hx
    have h34:kws.length = 34:=rfl
    have:=hall.out j (by omega)
    rw [List.getD_eq_getElem?_getD,List.getElem?_eq_getElem hj] at this
    simp at this
    simp
    exact fun e=>this e.symm
   exact ⟨by rw [hk]; rfl,(Below.refl _ _).alloc (Nat.le_refl _) _⟩
theorem wl_le (s:ByteArray) : wl s.data.toList≤s.size:=by
 unfold wl
 have h2:s.size = s.data.toList.length:=by simp
 split
 ·
  rw [h2]; exact (List.takeWhile_sublist _).length_le
 ·
  omega
set_option maxHeartbeats 1000000 in
theorem isName_any (s:ByteArray) (w:World) (hs:s.size≤maxLen) :
  Calls Tryz.prog 38 #[.string s] w fun e w'=>e = .returned (.bool (nameB s))∧w = w':=by
 have hs':s.size≤9223372036854775807:=hs
 by_cases h1:0 < s.size
 ·
  by_cases h2:s.size≤24
  ·
   have h3:=wl_le s
   by_cases h4:wl s.data.toList = s.size
   ·
    have h4':((wl s.data.toList:Int) == (s.size:Int)) = true:=by simp [h4]
    have H4:=Lib.hid h4; clear h4
    go_enter Tryz.func38,Tryz.ntmps38
    go_wp2_with (first | (go_at_call 70; refine (wordLength_any _ _ hs).mono ?_; rintro e w' ⟨rfl,rfl⟩) | (go_at_call 71; refine (isKeyword_any _ _).mono ?_; rintro e w' ⟨rfl,rfl⟩))
    go_ret
    exact ⟨by simp [nameB,h1,h2,H4.out],rfl⟩
   ·
    have h4':((wl s.data.toList:Int) == (s.size:Int)) = false:=by simp; omega
    have H4:=Lib.hid h4; clear h4
    go_enter Tryz.func38,Tryz.ntmps38
    go_wp2_with (first | (go_at_call 70; refine (wordLength_any _ _ hs).mono ?_; rintro e w' ⟨rfl,rfl⟩) | (go_at_call 71; refine (isKeyword_any _ _).mono ?_; rintro e w' ⟨rfl,rfl⟩))
    go_ret
    exact ⟨by simp [nameB,h1,h2,H4.out],rfl⟩
  ·
   go_enter Tryz.func38,Tryz.ntmps38
   go_wp2_with (first | (go_at_call 70; refine (wordLength_any _ _ hs).mono ?_; rintro e w' ⟨rfl,rfl⟩) | (go_at_call 71; refine (isKeyword_any _ _).mono ?_; rintro e w' ⟨rfl,rfl⟩))
   go_ret
   exact ⟨by simp [nameB,h1,h2],rfl⟩
 ·
  go_enter Tryz.func38,Tryz.ntmps38
  go_wp2_with (first | (go_at_call 70; refine (wordLength_any _ _ hs).mono ?_; rintro e w' ⟨rfl,rfl⟩) | (go_at_call 71; refine (isKeyword_any _ _).mono ?_; rintro e w' ⟨rfl,rfl⟩))
  go_ret
  exact ⟨by simp [nameB,h1],rfl⟩
set_option maxHeartbeats 1000000 in
theorem isName17_any (s:ByteArray) (w:World) (hs:s.size≤maxLen) :
  Calls Tryz.prog 112 #[.string s] w fun e w'=>e = .returned (.bool (nameB s))∧Below w.heap.size w w':=by
 have hs':s.size≤9223372036854775807:=hs
 by_cases h1:0 < s.size
 ·
  have hne:=toList_ne s h1
  have hem:=isEmpty_ne s h1
  by_cases h2:s.size≤24
  ·
   have h3:=wl_le s
   by_cases h4:wl s.data.toList = s.size
   ·
    have h4':((wl s.data.toList:Int) == (s.size:Int)) = true:=by simp [h4]
    have H4:=Lib.hid h4; clear h4
    go_enter Tryz.func112,Tryz.ntmps112
    go_wp2_with (first | (go_at_call 153; refine (word_any _ _ hs).mono ?_; rintro e w' ⟨rfl,rfl⟩) | (go_at_call 154; refine (isKeyword17_any _ _).mono ?_; rintro e w' ⟨rfl,hb⟩))
    go_ret
    exact ⟨by simp [nameB,h1,h2,H4.out],by first | exact hb | exact Below.refl _ _⟩
   ·
    have h4':((wl s.data.toList:Int) == (s.size:Int)) = false:=by simp; omega
    have H4:=Lib.hid h4; clear h4
    go_enter Tryz.func112,Tryz.ntmps112
    go_wp2_with (first | (go_at_call 153; refine (word_any _ _ hs).mono ?_; rintro e w' ⟨rfl,rfl⟩) | (go_at_call 154; refine (isKeyword17_any _ _).mono ?_; rintro e w' ⟨rfl,hb⟩))
    go_ret
    exact ⟨by simp [nameB,h1,h2,H4.out],by first | exact hb | exact Below.refl _ _⟩
  ·
   go_enter Tryz.func112,Tryz.ntmps112
   go_wp2_with (first | (go_at_call 153; refine (word_any _ _ hs).mono ?_; rintro e w' ⟨rfl,rfl⟩) | (go_at_call 154; refine (isKeyword17_any _ _).mono ?_; rintro e w' ⟨rfl,hb⟩))
   go_ret
   exact ⟨by simp [nameB,h1,h2],Below.refl _ _⟩
 ·
  have hne:=toList_emp s h1
  go_enter Tryz.func112,Tryz.ntmps112
  go_wp2_with (first | (go_at_call 153; refine (word_any _ _ hs).mono ?_; rintro e w' ⟨rfl,rfl⟩) | (go_at_call 154; refine (isKeyword17_any _ _).mono ?_; rintro e w' ⟨rfl,hb⟩))
  go_ret
  exact ⟨by simp [nameB,h1],Below.refl _ _⟩
end Go.Proofs.YtjncpgbhokjbfaaGreat
namespace Go.Proofs.YtjncpgbhokjbfaaGreat
open Go.RowKit
structure WageT where
 code:ByteArray
 kind:Int
 taxable:Bool
 insured:Bool
 attachable:Bool
 account:Int
deriving DecidableEq
def encW (x:WageT) : List Value:=[.string x.code,.int .i64 x.kind,.bool x.taxable,.bool x.insured,.bool x.attachable,.int .i64 x.account]
structure Elem where
 code:ByteArray
 amount:Int
deriving DecidableEq
def encE (x:Elem) : List Value:=[.string x.code,.int .i64 x.amount]
theorem encW_len (x:WageT) : (encW x).length = 6:=rfl
theorem encE_len (x:Elem) : (encE x).length = 2:=rfl
theorem encW_one (x:WageT) : ∀ u ∈ encW x,u.oneCell' = true:=by intro u hu; simp [encW] at hu; rcases hu with rfl | rfl | rfl | rfl | rfl | rfl <;> rfl
theorem encE_one (x:Elem) : ∀ u ∈ encE x,u.oneCell' = true:=by intro u hu; simp [encE] at hu; rcases hu with rfl | rfl <;> rfl
theorem infoW : (Tryz.prog.info? 61).map (fun i=>(i.zero,i.size,i.bytes)) = some (some (.agg #[.string ⟨#[]⟩,.int .i64 0,.bool false,.bool false,.bool false,.int .i64 0]),6,40):=by kernel_rfl
theorem infoE : (Tryz.prog.info? 109).map (fun i=>(i.zero,i.size,i.bytes)) = some (some (.agg #[.string ⟨#[]⟩,.int .i64 0]),2,24):=by kernel_rfl
def cBonus : ByteArray:=⟨#[98,111,110,117,115]⟩
def cCar : ByteArray:=⟨#[99,97,114]⟩
def cNight : ByteArray:=⟨#[110,105,103,104,116]⟩
def cSalary : ByteArray:=⟨#[115,97,108,97,114,121]⟩
def codes4 : List ByteArray:=[cBonus,cCar,cNight,cSalary]
def cells4 : Array Value:=#[.string ⟨#[98,111,110,117,115]⟩,.string ⟨#[99,97,114]⟩,.string ⟨#[110,105,103,104,116]⟩,.string ⟨#[115,97,108,97,114,121]⟩]
def code4 (k:Nat) : ByteArray:=codes4.getD k cBonus
theorem cells4_at (k:Nat) (h:k < 4) : cells4[k]? = some (.string (code4 k)):=by
 match k,h with
 | 0,_=>rfl
 | 1,_=>rfl
 | 2,_=>rfl
 | 3,_=>rfl
structure WageOk (x:WageT) : Prop where
 code:x.code ∈ codes4
 kind:x.kind = 1 ∨ (x.kind = 2∧x.attachable = false)
 lo:4000≤x.account
 hi:x.account≤4003
structure GenW (k:Nat) (xs:List WageT) : Prop where
 sub:(xs.map (·.code)).Sublist (codes4.take k)
 ok:∀ x ∈ xs,WageOk x
theorem GenW.nil_ : GenW 0 []:=⟨by simp,by simp⟩
theorem take4 (k:Nat) (h:k < 4) : codes4.take (k+1) = codes4.take k++[code4 k]:=by
 match k,h with
 | 0,_=>rfl
 | 1,_=>rfl
 | 2,_=>rfl
 | 3,_=>rfl
theorem GenW.skip {k:Nat} {xs:List WageT} (h:GenW k xs) (hk:k < 4) : GenW (k+1) xs :=
 ⟨by rw [take4 k hk]; exact h.sub.trans (List.sublist_append_left _ _),h.ok⟩
theorem GenW.more {k:Nat} {xs:List WageT} (h:GenW k xs) (hk:k < 4) (x:WageT) (hc:x.code = code4 k) (hx:WageOk x) : GenW (k+1) (xs++[x]):=by
 refine ⟨?_,fun y hy=>?_⟩
 ·
  rw [take4 k hk,List.map_append]
  exact h.sub.append (by simp [hc])
 ·
  rcases List.mem_append.1 hy with h1 | h1
  ·
   exact h.ok y h1
  ·
   simp at h1; subst h1; exact hx
theorem GenW.len {k:Nat} {xs:List WageT} (h:GenW k xs) : xs.length≤4:=by
 have:=h.sub.length_le
 simp [codes4] at this
 omega
theorem code4_mem (k:Nat) (h:k < 4) : code4 k ∈ codes4:=by
 match k,h with
 | 0,_=>simp [code4,codes4]
 | 1,_=>simp [code4,codes4]
 | 2,_=>simp [code4,codes4]
 | 3,_=>simp [code4,codes4]
set_option maxHeartbeats 2000000 in
theorem wages_any (b M : Nat) (w:World) (hM:M≤900000) (hd:DeckIn w b M) :
  Calls Tryz.prog 76 #[.pointer (some ⟨b,0,none⟩)] w fun e w'=>∃ v xs,e = .returned v∧GenW 4 xs∧Own encW 6 61 w' w.heap.size v xs∧DeckIn w' b (M+20)∧w.grownBy w' (some b):=by
 have hlt:=hd.lt
 go_enter Tryz.func76,Tryz.ntmps76
 go_wp2_with fail
 rw [show Obj.cells #[.string ⟨#[98,111,110,117,115]⟩,.string ⟨#[99,97,114]⟩,.string ⟨#[110,105,103,104,116]⟩,.string ⟨#[115,97,108,97,114,121]⟩] 9 = Obj.cells cells4 9 from rfl]
 go_loopw [3,9] (fun v i wr=>∃ (k:Nat) (xs:List WageT),k≤4∧i = .int .i64 k∧GenW k xs∧Own encW 6 61 wr (w.heap.size+1) v xs∧DeckIn wr b (M+5 * k)∧Blk wr w.heap.size 9 cells4∧w.grownBy wr (some b)) (fun _ i _=>4 - (intOf i).toNat)
 case atStart=>exact ⟨0,[],by omega,rfl,GenW.nil_,Own.nil_ _ _,hd.alloc _,Blk.new _ _ _,only_alloc (only_refl _ _) _⟩
 case round =>
  obtain ⟨k,xs,hk,rfl,hgen,hown,hdk,hblk,hg⟩:=hrel
  by_cases hltk:k < 4
  ·
   have c0:=(hblk.cell k).trans (cells4_at k hltk)
   go_wp2_with fail
   refine (next_any b (M+5 * k) _ _ (by omega) (by omega) (by omega) hdk).mono ?_
   rintro e w1 ⟨r1,rfl,ha1,hb1,hd1,hg1⟩
   go_wp2_with fail
   refine (next_any b (M+5 * k+1) _ _ (by omega) (by omega) (by omega) hd1).mono ?_
   rintro e w2 ⟨r2,rfl,ha2,hb2,hd2,hg2⟩
   go_wp2_with fail
   refine (next_any b (M+5 * k+1+1) _ _ (by omega) (by omega) (by omega) hd2).mono ?_
   rintro e w3 ⟨r3,rfl,ha3,hb3,hd3,hg3⟩
   go_wp2_with fail
   refine (next_any b (M+5 * k+1+1+1) _ _ (by omega) (by omega) (by omega) hd3).mono ?_
   rintro e w4 ⟨r4,rfl,ha4,hb4,hd4,hg4⟩
   go_wp2_with fail
   all_goals
    refine (next_any b (M+5 * k+1+1+1+1) _ _ (by omega) (by omega) (by omega) (hd4.alloc _)).mono ?_
    rintro e w5 ⟨r5,rfl,ha5,hb5,hd5,hg5⟩
    have hlt4:w.heap.size < w4.heap.size:=by have:=hblk.lt; have:=hg1.size; have:=hg2.size; have:=hg3.size; have:=hg4.size; omega
    have hB:=(Blk.new w4 _ _).grown hg5 (by intro e; injection e; omega)
    have d0:=hB.cell 0
    have d1:=hB.cell 1
    have d2:=hB.cell 2
    have d3:=hB.cell 3
    have d4:=hB.cell 4
    have d5:=hB.cell 5
    simp only [nqg,nqh,nqi] at d0 d1 d2 d3 d4 d5
    have hown4:=(((hown.kept hg1 (by intro g e; injection e; omega)).kept hg2 (by intro g e; injection e; omega)).kept hg3 (by intro g e; injection e; omega)).kept hg4 (by intro g e; injection e; omega)
    have hown5:=(hown4.alloc (Obj.cells _ _)).kept hg5 (by intro g e; injection e; omega)
    have hblk5:=((((hblk.grown hg1 (by intro e; injection e; omega)).grown hg2 (by intro e; injection e; omega)).grown hg3 (by intro e; injection e; omega)).grown hg4 (by intro e; injection e; omega)).alloc (Obj.cells _ _) |>.grown hg5 (by intro e; injection e; omega)
    have hgg:=only_trans (only_alloc (only_trans (only_trans (only_trans (only_trans hg hg1) hg2) hg3) hg4) _) hg5
    have h5s:w4.heap.size+1≤w5.heap.size:=by have:=hg5.size; simpa using this
    have hlen:=hgen.len
    clear hB hown hown4 hblk hg hg1 hg2 hg3 hg4 hg5 hdk hd1 hd2 hd3 hd4 c0
    go_wp2_with (at_builtin; (refine wpList_append_one _ _ 31 ⟨_,_,_,_,_,_⟩ _ 40 _ infoW Tryz.underlying31 hown5 encW_len (by omega) rfl (encW_one _) (by omega) (by omega) (by omega) (by rfl) (by rfl) (by rfl) (by rfl) (by simp) (by rfl) ?_); intro v2 w6 hown6 hg6)
    ·
     have hr6:∀ g,Value.ownBlock _ = some g→w.heap.size+1≤g:=fun g e=>(hown5.block_lt e).1
     go_roundw
     case rel =>
      refine ⟨k+1,_,by omega,by go_num,?_,hown6,(hd5.grown hg6 (fun g e=>by have:=hr6 g e; omega)).mono (by omega),hblk5.grown hg6 (fun e=>by have:=hr6 _ e.symm; omega),only_then hgg hg6 (fun g e=>.inl (by have:=hr6 g e; omega))⟩
      exact hgen.more hltk _ rfl ⟨code4_mem k hltk,by first | exact .inl rfl | exact .inr ⟨rfl,rfl⟩,by show _≤(4000+r4:Int); omega,by show (4000+r4:Int)≤_; omega⟩
     case measure=>simp [intOf]; omega
    ·
     go_roundw
     case rel=>exact ⟨k+1,xs,by omega,by go_num,hgen.skip hltk,hown5,hd5.mono (by omega),hblk5,hgg⟩
     case measure=>simp [intOf]; omega
  ·
   go_wp2
   go_ret
   obtain rfl:k = 4:=by omega
   exact ⟨_,xs,rfl,hgen,hown.weaken (by omega),hdk,hg⟩
set_option maxHeartbeats 1000000 in
theorem small_any (b M : Nat) (w:World) (hM:M≤900000) (hd:DeckIn w b M) :
  Calls Tryz.prog 48 #[.pointer (some ⟨b,0,none⟩)] w fun e w'=>∃ r:Int,e = .returned (.int .i64 r)∧0≤r∧r < 600000∧DeckIn w' b (M+2)∧w.grownBy w' (some b):=by
 have hlt:=hd.lt
 go_enter Tryz.func48,Tryz.ntmps48
 go_wp2_with fail
 refine (next_any b M _ _ (by omega) (by omega) (by omega) hd).mono ?_
 rintro e w1 ⟨r1,rfl,ha1,hb1,hd1,hg1⟩
 have hlt1:=hd1.lt
 by_cases h0:r1 = 0
 ·
  subst h0
  go_wp2_with fail
  refine (pick_any b (M+1) _ _ [0,0,1,100] _ (by omega) (hd1.alloc _) (by simp) (by simp) ?_ ?_).mono ?_
  ·
   exact fun _=>⟨w1.heap.size,0,rfl,by simp,fun i x hi j v hj=>by
    rw [World.cell?_alloc_at _ _ _ _ rfl]
    match j,hj with
    | 0,hj =>
     match i,hi with
     | 0,hi=>simp at hi; subst hi; simpa [encI] using hj
     | 1,hi=>simp at hi; subst hi; simpa [encI] using hj
     | 2,hi=>simp at hi; subst hi; simpa [encI] using hj
     | 3,hi=>simp at hi; subst hi; simpa [encI] using hj
     | (n+4),hi=>simp at hi
    | (n+1),hj=>simp [encI] at hj⟩
  ·
   intro a ha; injection ha with ha; subst ha; simp; omega
  ·
   rintro e w2 ⟨r2,rfl,hr,hd2,hg2⟩
   go_wp2
   go_ret
   have:0≤r2∧r2 < 600000:=by simp at hr; omega
   exact ⟨r2,rfl,this.1,this.2,hd2,only_trans (only_alloc hg1 _) hg2⟩
 ·
  have h0':(r1 == 0) = false:=by simpa using h0
  clear h0
  go_wp2_with fail
  refine (next_any b (M+1) _ _ (by omega) (by omega) (by omega) hd1).mono ?_
  rintro e w2 ⟨r2,rfl,ha2,hb2,hd2,hg2⟩
  go_wp2
  go_ret
  exact ⟨r2,rfl,ha2,hb2,hd2,only_trans hg1 hg2⟩
theorem SliceOf.new {α:Type} {enc:α→List Value} {k:Nat} (hk : ∀ x,(enc x).length = k) (w:World) (l:List α) (cs:Array Value) (t:TypeId) (h:cs = (l.flatMap enc).toArray) :
  SliceOf enc k (w.alloc (.cells cs t)) (w.heap.size+1) (some ⟨w.heap.size,0,none⟩) l:=fun _=>by
 subst h
 refine ⟨w.heap.size,0,rfl,by omega,fun i x hi j v hj=>?_⟩
 rw [World.cell?_alloc_at _ _ _ _ rfl,Nat.zero_add,List.getElem?_toArray]
 exact flatMap_at hk l i j x v hi hj
theorem encI_len (x:Int) : (encI x).length = 1:=rfl
end Go.Proofs.YtjncpgbhokjbfaaGreat
namespace Go.Proofs.YtjncpgbhokjbfaaGreat
open Go.RowKit
section
variable {α:Type} {enc:α→List Value} {k:Nat} {w w':World} {A:Option Addr} {xs:List α} {o:Obj} {n c off:Nat}
theorem fresh_below (hg : (w.alloc o).grownBy w' (Value.slice (some ⟨w.heap.size,off,none⟩) n c).ownBlock) : Below w.heap.size w w':=by
 have h1:(w.alloc o).grownBy w' (some w.heap.size):=hg
 exact (below_new w o).trans (only_below h1 (by simp) (fun g e=>by injection e; omega))
end
theorem Own.below_of {α:Type} {enc:α→List Value} {k:Nat} {e:TypeId} {w w' : World} {base:Nat} {v:Value} {xs:List α} (h:Own enc k e w base v xs) (hg:w.grownBy w' v.ownBlock) (hb:base≤w.heap.size) : Below base w w' :=
 only_below hg hb (fun _ e=>(h.block_lt e).1)
theorem Own.form2 {α:Type} {enc:α→List Value} {k:Nat} {e:TypeId} {w:World} {base:Nat} {v:Value} {xs:List α} (h:Own enc k e w base v xs) (hk : ∀ x,(enc x).length = k) :
  ∃ A c,v = .slice A xs.length c∧SliceOf enc k w w.heap.size A xs∧(∀ a,A = some a→base≤a.block)∧xs.length≤c∧c≤maxLen:=by
 obtain ⟨A,c,hv,hs,hb,hl⟩:=h.form hk
 refine ⟨A,c,hv,hs,hb,?_⟩
 rcases h.2 with ⟨rfl,h0⟩ | ⟨g,cap,cur,rfl,_,_,hn,hm,_⟩
 ·
  injection hv with _ h1 h2
  subst h2
  exact ⟨by omega,by unfold maxLen; omega⟩
 ·
  injection hv with _ _ h2
  subst h2
  exact ⟨hn,hm⟩
theorem below_size {B:Nat} {a b c : World} (h:Below B a b) (hb:Below b.heap.size b c) (hB:B≤b.heap.size) : Below B a c:=h.trans (hb.mono hB)
theorem sets6 {cs:Array Value} (hs:cs.size = 6) (a0 a1 a2 a3 a4 a5 : Value) : ((((((cs.setIfInBounds 0 a0).setIfInBounds 1 a1).setIfInBounds 2 a2).setIfInBounds 3 a3).setIfInBounds 4 a4).setIfInBounds 5 a5) = #[a0,a1,a2,a3,a4,a5]:=by
 obtain ⟨l⟩:=cs
 match l,hs with
 | [_,_,_,_,_,_],_=>rfl
theorem Blk.put6 {w:World} {g:Nat} {t:TypeId} {cs:Array Value} (h:Blk w g t cs) (hs:cs.size = 6) (a0 a1 a2 a3 a4 a5 : Value) :
  Blk ((((((w.setCell ⟨g,0,none⟩ a0).setCell ⟨g,1,none⟩ a1).setCell ⟨g,2,none⟩ a2).setCell ⟨g,3,none⟩ a3).setCell ⟨g,4,none⟩ a4).setCell ⟨g,5,none⟩ a5) g t #[a0,a1,a2,a3,a4,a5]:=by
 rw [← sets6 hs a0 a1 a2 a3 a4 a5]
 exact (((((h.set_ 0 a0).set_ 1 a1).set_ 2 a2).set_ 3 a3).set_ 4 a4).set_ 5 a5
theorem below_put {w W : World} {g:Nat} (h:Below w.heap.size w W) (hg:w.heap.size≤g) (i:Nat) (a:Value) : Below w.heap.size w (W.setCell ⟨g,i,none⟩ a):=h.setCell (p:=⟨g,i,none⟩) hg a
end Go.Proofs.YtjncpgbhokjbfaaGreat
