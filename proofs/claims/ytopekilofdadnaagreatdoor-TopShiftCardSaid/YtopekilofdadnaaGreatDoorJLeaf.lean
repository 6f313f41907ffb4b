/- Joined texts: Leaf TyD TgB TyE TgA TgD. Conditions: as stated. -/
import Derived.WalkKit
import Derived.WalkSpells
import Derived.WalkLawsBesides
import Derived.Deep.QuietTactic
import Derived.BigQuiet
import Derived.Lib.Hide
import Derived.Test.YtopekilofdadnaaGreatDoorRows
import Derived.Test.YtopekilofdadnaaGreatDoorJData
import Derived.Test.YtopekilofdadnaaGreatDoorJTvN
namespace Go.Proofs.YtopekilofdadnaaGreatDoor
open Go.RowKit
theorem tmod_neg (v n : Int) (hn:0 < n) (h:v.tmod n < 0) : v.tmod n+n = v % n:=by
 have h1:=Int.tmod_add_mul_tdiv v n
 have h2:=Int.emod_add_mul_ediv v n
 have h3:=Int.emod_nonneg v (show n ≠ 0 by omega)
 have h4:=Int.emod_lt_of_pos v hn
 have h5 : -n < v.tmod n:=by
  have:=Int.lt_tmod_of_pos v hn
  omega
 have h6:n * (v.tdiv n - v / n - 1) = v % n - (v.tmod n+n):=by
  rw [Int.mul_sub,Int.mul_sub]; omega
 have h7:v.tdiv n - v / n - 1 = 0:=by
  rcases Int.lt_trichotomy (v.tdiv n - v / n - 1) 0 with h | h | h
  ·
   have:n * (v.tdiv n - v / n - 1)≤n * (-1):=Int.mul_le_mul_of_nonneg_left (by omega) (by omega)
   omega
  ·
   exact h
  ·
   have:n * 1≤n * (v.tdiv n - v / n - 1):=Int.mul_le_mul_of_nonneg_left (by omega) (by omega)
   omega
 rw [h7] at h6; omega
theorem tmod_pos (v n : Int) (hn:0 < n) (h:0≤v.tmod n) : v.tmod n = v % n:=by
 have h1:=Int.tmod_add_mul_tdiv v n
 have h2:=Int.emod_add_mul_ediv v n
 have h3:=Int.emod_nonneg v (show n ≠ 0 by omega)
 have h4:=Int.emod_lt_of_pos v hn
 have h5:=Int.tmod_lt_of_pos v hn
 have h6:n * (v.tdiv n - v / n) = v % n - v.tmod n:=by
  rw [Int.mul_sub]; omega
 have h7:v.tdiv n - v / n = 0:=by
  rcases Int.lt_trichotomy (v.tdiv n - v / n) 0 with h | h | h
  ·
   have:n * (v.tdiv n - v / n)≤n * (-1):=Int.mul_le_mul_of_nonneg_left (by omega) (by omega)
   omega
  ·
   exact h
  ·
   have:n * 1≤n * (v.tdiv n - v / n):=Int.mul_le_mul_of_nonneg_left (by omega) (by omega)
   omega
 rw [h7] at h6; omega
end Go.Proofs.YtopekilofdadnaaGreatDoor
namespace Go.Proofs.YtopekilofdadnaaGreatDoor
open Go.RowKit
def encCh (x:ChT) : List Value:=[.int .i64 x.at_,.int .i64 x.off]
def encEv (x:EvT) : List Value:=[.int .i64 x.key.term,.int .i64 x.key.seq,.int .i64 x.emp,.int .i64 x.time,.int .i64 x.kind,.int .i64 x.target.term,.int .i64 x.target.seq]
def encSt (x:StampT) : List Value:=[.int .i64 x.time,.int .i64 x.kind,.int .i64 x.key.term,.int .i64 x.key.seq]
def encIv (x:IvT) : List Value:=[.int .i64 x.f,.int .i64 x.t]
def encAn (x:AnomT) : List Value:=[.int .i64 x.kind,.int .i64 x.time]
def encSf (x:ShiftT) : List Value:=[.int .i64 x.day,.int .i64 x.start,.int .i64 x.min]
def encBd (x:BandT) : List Value:=[.string x.name,.int .i64 x.after]
def encSp (x:SpT) : List Value:=[.int .i64 x.day,.int .i64 x.iv.f,.int .i64 x.iv.t]
def encPc (x:PcT) : List Value:=[.int .i64 x.day,.int .i64 x.iv.f,.int .i64 x.iv.t,.string x.band]
def encTm (x:TmT) : List Value:=[.string x.name,.int .i64 x.min]
theorem encCh_len (x:ChT) : (encCh x).length = 2:=rfl
theorem encEv_len (x:EvT) : (encEv x).length = 7:=rfl
theorem encSt_len (x:StampT) : (encSt x).length = 4:=rfl
theorem encIv_len (x:IvT) : (encIv x).length = 2:=rfl
theorem encAn_len (x:AnomT) : (encAn x).length = 2:=rfl
theorem encSf_len (x:ShiftT) : (encSf x).length = 3:=rfl
theorem encBd_len (x:BandT) : (encBd x).length = 2:=rfl
theorem encSp_len (x:SpT) : (encSp x).length = 3:=rfl
theorem encPc_len (x:PcT) : (encPc x).length = 4:=rfl
theorem encTm_len (x:TmT) : (encTm x).length = 2:=rfl
theorem encCh_one (x:ChT) : ∀ u ∈ encCh x,u.oneCell' = true:=by intro u hu; simp [encCh] at hu; rcases hu with rfl | rfl <;> rfl
theorem encEv_one (x:EvT) : ∀ u ∈ encEv x,u.oneCell' = true:=by intro u hu; simp [encEv] at hu; rcases hu with rfl | rfl | rfl | rfl | rfl | rfl | rfl <;> rfl
theorem encSt_one (x:StampT) : ∀ u ∈ encSt x,u.oneCell' = true:=by intro u hu; simp [encSt] at hu; rcases hu with rfl | rfl | rfl | rfl <;> rfl
theorem encIv_one (x:IvT) : ∀ u ∈ encIv x,u.oneCell' = true:=by intro u hu; simp [encIv] at hu; rcases hu with rfl | rfl <;> rfl
theorem encAn_one (x:AnomT) : ∀ u ∈ encAn x,u.oneCell' = true:=by intro u hu; simp [encAn] at hu; rcases hu with rfl | rfl <;> rfl
theorem encSf_one (x:ShiftT) : ∀ u ∈ encSf x,u.oneCell' = true:=by intro u hu; simp [encSf] at hu; rcases hu with rfl | rfl | rfl <;> rfl
theorem encBd_one (x:BandT) : ∀ u ∈ encBd x,u.oneCell' = true:=by intro u hu; simp [encBd] at hu; rcases hu with rfl | rfl <;> rfl
theorem encSp_one (x:SpT) : ∀ u ∈ encSp x,u.oneCell' = true:=by intro u hu; simp [encSp] at hu; rcases hu with rfl | rfl | rfl <;> rfl
theorem encPc_one (x:PcT) : ∀ u ∈ encPc x,u.oneCell' = true:=by intro u hu; simp [encPc] at hu; rcases hu with rfl | rfl | rfl | rfl <;> rfl
theorem encTm_one (x:TmT) : ∀ u ∈ encTm x,u.oneCell' = true:=by intro u hu; simp [encTm] at hu; rcases hu with rfl | rfl <;> rfl
structure ZoneM where
 off:Int
 A:Option Addr
 c:Nat
 ch:List ChT
def ZoneM.t (z:ZoneM) : ZoneT:=⟨z.off,z.ch⟩
def ZoneM.val (z:ZoneM) : Value:=.agg #[.int .i64 z.off,.slice z.A z.ch.length z.c]
def ZoneM.In (z:ZoneM) (w:World) : Prop:=SliceOf encCh 2 w w.heap.size z.A z.ch
theorem ZoneM.In.adv {z:ZoneM} {w w' : World} (h:z.In w) (hb:Below w.heap.size w w') : z.In w':=SliceOf.adv h hb
end Go.Proofs.YtopekilofdadnaaGreatDoor
namespace Go.Proofs.YtopekilofdadnaaGreatDoor
open Go.RowKit
theorem size_setC (w:World) (p:Addr) (u:Value) : (w.setCell p u).heap.size = w.heap.size:=by simp [World.setCell]
theorem Blk.newAt {w:World} {g:Nat} (t:TypeId) (cs:Array Value) (h:w.heap.size = g) : Blk (w.alloc (.cells cs t)) g t cs:=by subst h; exact Blk.new _ _ _
theorem Own.far {α:Type} {enc:α→List Value} {k:Nat} {e:TypeId} {w:World} {base g : Nat} {v:Value} {xs:List α} (h:Own enc k e w base v xs) (hg:g < base) (i:Nat) (u:Value) : Own enc k e (w.setCell ⟨g,i,none⟩ u) base v xs :=
 h.setCell (fun q hq=>by have:=(h.block_lt hq).1; show q ≠ g; omega) u
theorem Blk.apart {α:Type} {enc:α→List Value} {k:Nat} {e t : TypeId} {w W w' : World} {base g : Nat} {v:Value} {xs:List α} {cs:Array Value} (hB:Blk W g t cs) (h:Own enc k e w base v xs) (hg:W.grownBy w' v.ownBlock) (hb:g < base ∨ w.heap.size≤g) : Blk w' g t cs :=
 hB.grown hg (fun e=>by have:=h.block_lt e.symm; omega)
end Go.Proofs.YtopekilofdadnaaGreatDoor
namespace Go.Proofs.YtopekilofdadnaaGreatDoor
open Go.RowKit
structure PresM where
 f:Int
 t:Int
 A:Option Addr
 c:Nat
 br:List IvT
def PresM.p (x:PresM) : PresT:=⟨⟨x.f,x.t⟩,x.br⟩
def encPr (x:PresM) : List Value:=[.int .i64 x.f,.int .i64 x.t,.slice x.A x.br.length x.c]
theorem encPr_len (x:PresM) : (encPr x).length = 3:=rfl
theorem encPr_one (x:PresM) : ∀ u ∈ encPr x,u.oneCell' = true:=by intro u hu; simp [encPr] at hu; rcases hu with rfl | rfl | rfl <;> rfl
def PresM.In (x:PresM) (w:World) : Prop:=SliceOf encIv 2 w w.heap.size x.A x.br
theorem PresM.In.adv {x:PresM} {w w' : World} (h:x.In w) (hb:Below w.heap.size w w') : x.In w':=SliceOf.adv h hb
structure DutyM where
 s:Int
 d:Int
 A:Option Addr
 c:Nat
 ps:List PresM
def DutyM.t (x:DutyM) : DutyT:=⟨x.s,x.d,x.ps.map PresM.p⟩
def encDu (x:DutyM) : List Value:=[.int .i64 x.s,.int .i64 x.d,.slice x.A x.ps.length x.c]
theorem encDu_len (x:DutyM) : (encDu x).length = 3:=rfl
theorem encDu_one (x:DutyM) : ∀ u ∈ encDu x,u.oneCell' = true:=by intro u hu; simp [encDu] at hu; rcases hu with rfl | rfl | rfl <;> rfl
structure WorkM where
 d:Int
 A:Option Addr
 c:Nat
 l:List IvT
def WorkM.t (x:WorkM) : WorkT:=⟨x.d,x.l⟩
def encWk (x:WorkM) : List Value:=[.int .i64 x.d,.slice x.A x.l.length x.c]
theorem encWk_len (x:WorkM) : (encWk x).length = 2:=rfl
theorem encWk_one (x:WorkM) : ∀ u ∈ encWk x,u.oneCell' = true:=by intro u hu; simp [encWk] at hu; rcases hu with rfl | rfl <;> rfl
structure RowM where
 d:Int
 A:Option Addr
 c:Nat
 ti:List TmT
 B:Option Addr
 e:Nat
 an:List AnomT
def RowM.t (x:RowM) : DayT:=⟨x.d,x.ti,x.an⟩
def encRo (x:RowM) : List Value:=[.int .i64 x.d,.slice x.A x.ti.length x.c,.slice x.B x.an.length x.e]
theorem encRo_len (x:RowM) : (encRo x).length = 3:=rfl
theorem encRo_one (x:RowM) : ∀ u ∈ encRo x,u.oneCell' = true:=by intro u hu; simp [encRo] at hu; rcases hu with rfl | rfl | rfl <;> rfl
def RowM.In (x:RowM) (w:World) : Prop:=SliceOf encTm 2 w w.heap.size x.A x.ti∧SliceOf encAn 2 w w.heap.size x.B x.an
theorem RowM.In.adv {x:RowM} {w w' : World} (h:x.In w) (hb:Below w.heap.size w w') : x.In w':=⟨h.1.adv hb,h.2.adv hb⟩
theorem infoIv : (Tryz.prog.info? 34).map (fun i=>(i.zero,i.size,i.bytes)) = some (some (.agg #[.int .i64 0,.int .i64 0]),2,16):=by kernel_rfl
theorem infoAn : (Tryz.prog.info? 198).map (fun i=>(i.zero,i.size,i.bytes)) = some (some (.agg #[.int .i64 0,.int .i64 0]),2,16):=by kernel_rfl
theorem infoPr : (Tryz.prog.info? 81).map (fun i=>(i.zero,i.size,i.bytes)) = some (some (.agg #[.int .i64 0,.int .i64 0,.slice none 0 0]),3,40):=by kernel_rfl
theorem infoDu : (Tryz.prog.info? 150).map (fun i=>(i.zero,i.size,i.bytes)) = some (some (.agg #[.int .i64 0,.int .i64 0,.slice none 0 0]),3,40):=by kernel_rfl
theorem infoWk : (Tryz.prog.info? 152).map (fun i=>(i.zero,i.size,i.bytes)) = some (some (.agg #[.int .i64 0,.slice none 0 0]),2,32):=by kernel_rfl
theorem infoRo : (Tryz.prog.info? 62).map (fun i=>(i.zero,i.size,i.bytes)) = some (some (.agg #[.int .i64 0,.slice none 0 0,.slice none 0 0]),3,56):=by kernel_rfl
theorem infoTm : (Tryz.prog.info? 64).map (fun i=>(i.zero,i.size,i.bytes)) = some (some (.agg #[.string ⟨#[]⟩,.int .i64 0]),2,24):=by kernel_rfl
theorem infoPc : (Tryz.prog.info? 172).map (fun i=>(i.zero,i.size,i.bytes)) = some (some (.agg #[.int .i64 0,.int .i64 0,.int .i64 0,.string ⟨#[]⟩]),4,40):=by kernel_rfl
theorem infoSp : (Tryz.prog.info? 167).map (fun i=>(i.zero,i.size,i.bytes)) = some (some (.agg #[.int .i64 0,.int .i64 0,.int .i64 0]),3,24):=by kernel_rfl
theorem infoSt : (Tryz.prog.info? 127).map (fun i=>(i.zero,i.size,i.bytes)) = some (some (.agg #[.int .i64 0,.int .i64 0,.int .i64 0,.int .i64 0]),4,32):=by kernel_rfl
theorem infoEv : (Tryz.prog.info? 41).map (fun i=>(i.zero,i.size,i.bytes)) = some (some (.agg #[.int .i64 0,.int .i64 0,.int .i64 0,.int .i64 0,.int .i64 0,.int .i64 0,.int .i64 0]),7,56):=by kernel_rfl
theorem infoBd : (Tryz.prog.info? 92).map (fun i=>(i.zero,i.size,i.bytes)) = some (some (.agg #[.string ⟨#[]⟩,.int .i64 0]),2,24):=by kernel_rfl
theorem infoSf : (Tryz.prog.info? 32).map (fun i=>(i.zero,i.size,i.bytes)) = some (some (.agg #[.int .i64 0,.int .i64 0,.int .i64 0]),3,24):=by kernel_rfl
theorem infoCh : (Tryz.prog.info? 87).map (fun i=>(i.zero,i.size,i.bytes)) = some (some (.agg #[.int .i64 0,.int .i64 0]),2,16):=by kernel_rfl
theorem infoIn : (Tryz.prog.info? 3).map (fun i=>(i.zero,i.size,i.bytes)) = some (some (.int .i64 0),1,8):=by kernel_rfl
structure ShiftOk (s:ShiftT) : Prop where
 d:0≤s.day∧s.day≤84005
 a:0≤s.start∧s.start≤1439
 m:1≤s.min∧s.min≤1440
def begN (z:ZoneT) (s:ShiftT) : Int:=firstN z (s.day * 1440+s.start)
def spOf (z:ZoneT) (s:ShiftT) : IvT:=⟨begN z s,begN z s+s.min⟩
def spErr (z:ZoneT) : Option Int→List ShiftT→Int
 | _,[]=>0
 | p,s :: r=>if 120968640 < begN z s+s.min then 2 else if begN z s < p.getD 0 then 1 else spErr z (some (begN z s+s.min)) r
end Go.Proofs.YtopekilofdadnaaGreatDoor
namespace Go.Proofs.YtopekilofdadnaaGreatDoor
open Go.RowKit
section
set_option maxHeartbeats 1000000
theorem wrap_in {n:Int} (h1 : -9223372036854775808≤n) (h2:n≤9223372036854775807) : IntKind.i64.wrap n = n:=by rw [IntKind.wrap_i64]; omega
theorem modT (v n : Int) (w:World) (hn:0 < n) (hn2:n≤4611686018427387904) :
  Calls Tryz.prog 8 #[.int .i64 v,.int .i64 n] w fun e w'=>e = .returned (.int .i64 (v % n))∧w = w':=by
 have a1:=tmod_neg v n hn
 have a2:=tmod_pos v n hn
 have a3:=Int.tmod_lt_of_pos v hn
 have a4:=Int.lt_tmod_of_pos v hn
 have A1:=Lib.hid a1; have A2:=Lib.hid a2; clear a1 a2
 go_enter Tryz.func8,Tryz.ntmps8
 go_wp2
 ·
  go_ret
  rename_i h
  refine ⟨?_,rfl⟩
  show Ending.returned (.int .i64 (v.tmod n+n)) = _
  rw [A1.out h]
 ·
  go_ret
  rename_i h
  refine ⟨?_,rfl⟩
  show Ending.returned (.int .i64 (v.tmod n)) = _
  rw [A2.out h]
def TapeIn (w:World) (b:Nat) : Prop:=∃ (A:Option Addr) (l:List Int) (c at_ : Nat),
 Blk w b 85 #[.slice A l.length c,.int .i64 at_]∧at_≤l.length∧SliceOf encI 1 w b A l∧l.length≤9223372036854775807∧∀ x ∈ l,I64 x
theorem TapeIn.lt {w:World} {b:Nat} (h:TapeIn w b) : b < w.heap.size:=by
 obtain ⟨A,l,c,a,h1,_⟩:=h
 exact h1.lt
theorem TapeIn.grown {w w' : World} {b:Nat} {row:Option Nat} (h:TapeIn w b) (hg:w.grownBy w' row) (hr : ∀ g,row = some g→b < g) : TapeIn w' b:=by
 have hlt:=h.lt
 obtain ⟨A,l,c,a,h1,h2,h3,h4,h5⟩:=h
 exact ⟨A,l,c,a,h1.grown hg (fun e=>by have:=hr b e.symm; omega),h2,h3.grown hg (by omega) (fun g e=>by have:=hr g e; omega),h4,h5⟩
theorem TapeIn.drewN {w:World} {b:Nat} (h:TapeIn w b) (n:Nat) : TapeIn (w.drewN n) b:=h
theorem TapeIn.alloc {w:World} {b:Nat} (h:TapeIn w b) (o:Obj) : TapeIn (w.alloc o) b:=h.grown (World.grownBy_alloc w o none) (fun _ e=>by cases e)
theorem newT (A:Option Addr) (l:List Int) (c:Nat) (w:World) (h:SliceOf encI 1 w w.heap.size A l) (hl:l.length≤9223372036854775807) (h5 : ∀ x ∈ l,I64 x) :
  Calls Tryz.prog 5 #[.slice A l.length c] w fun e w'=>e = .returned (.pointer (some ⟨w.heap.size,0,none⟩))∧TapeIn w' w.heap.size∧Below w.heap.size w w':=by
 have fin:TapeIn (w.alloc (.cells #[.slice A l.length c,.int .i64 0] 85)) w.heap.size :=
  ⟨A,l,c,0,Blk.new _ _ _,Nat.zero_le _,h.below ((Below.refl _ _).alloc (Nat.le_refl _) _),hl,h5⟩
 have FIN:=Lib.hid fin
 clear fin h h5
 go_enter Tryz.func5,Tryz.ntmps5
 go_wp2
 go_ret
 exact ⟨rfl,FIN.out,(Below.refl _ _).alloc (Nat.le_refl _) _⟩
theorem nextT (b:Nat) (n:Int) (w:World) (hn:0 < n) (hn2:n≤4611686018427387904) (hd:TapeIn w b) :
  Calls Tryz.prog 7 #[.pointer (some ⟨b,0,none⟩),.int .i64 n] w fun e w'=>∃ r:Int,e = .returned (.int .i64 r)∧0≤r∧r < n∧TapeIn w' b∧w.grownBy w' (some b):=by
 obtain ⟨A,l,c,at_,h1,h2,h3,h4,h5⟩:=hd
 have c0:=h1.cell 0
 have c1:=h1.cell 1
 have f1:=h1.frozen 1
 have hlt:=h1.lt
 simp only [nqg,nqh,nqi] at c0 c1
 have hn1:1≤n:=by omega
 by_cases hc:at_ < l.length
 ·
  have fin:∀ p q:Nat,TapeIn (((w.drewN p).setCell ⟨b,1,none⟩ (.int .i64 ((at_:Int)+1))).drewN q) b∧w.grownBy (((w.drewN p).setCell ⟨b,1,none⟩ (.int .i64 ((at_:Int)+1))).drewN q) (some b):=by
   intro p q
   have g1:w.grownBy ((w.drewN p).setCell ⟨b,1,none⟩ (.int .i64 ((at_:Int)+1))) (some b):=only_setCell (only_drewN (only_refl _ _) p) (.inl rfl) _
   refine ⟨?_,only_drewN g1 q⟩
   refine ⟨A,l,c,at_+1,?_,by omega,?_,h4,h5⟩
   ·
    have:=(h1.drewN p).set_ 1 (.int .i64 ((at_:Int)+1))
    have:=this.drewN q
    simpa using this
   ·
    exact (SliceOf.grown h3 (only_drewN g1 q) (by omega) (fun g e=>by injection e with e; omega))
  have FIN:=Lib.hid fin
  clear fin
  obtain ⟨cb,off,rfl,hb,hx⟩:=h3.at_ hc
  have hx0:=hx 0 _ rfl
  simp only [Nat.add_zero,Nat.mul_one] at hx0
  have hi:=h5 _ (List.getElem_mem hc)
  clear h1 h3 h5 hx
  have q0:decide (n < 1) = false:=by simp; omega
  have q1:decide (l.length≤at_) = false:=by simp; omega
  have q2:(at_:Int) < l.length:=by omega
  have q3:(at_:Int) < 9223372036854775807:=by omega
  go_enter Tryz.func7,Tryz.ntmps7
  go_wp2
  go_quiet (fail)
  go_wp2
  go_quiet ((refine Calls.quiet_of_same ((modT _ n _ hn hn2).mono fun e w' h=>⟨h.1,h.2.symm⟩)))
  go_wp2
  go_ret
  exact ⟨_,rfl,Int.emod_nonneg _ (by omega),Int.emod_lt_of_pos _ hn,FIN.out _ _⟩
 ·
  have hd:TapeIn w b:=⟨A,l,c,at_,h1,h2,h3,h4,h5⟩
  have q0:decide (n < 1) = false:=by simp; omega
  have q1:decide (l.length≤at_) = true:=by simp; omega
  clear h1 h3 h5
  go_enter Tryz.func7,Tryz.ntmps7
  go_wp2
  go_quiet (fail)
  go_wp2
  go_ret
  exact ⟨0,rfl,by omega,hn,hd.drewN _,only_drewN (only_refl _ _) _⟩
theorem pickT (b:Nat) (w:World) (A:Option Addr) (l:List Int) (c:Nat) (hd:TapeIn w b) (hl:l ≠ []) (hn:l.length≤1000) (hs:SliceOf encI 1 w w.heap.size A l) (hA : ∀ a,A = some a→a.block ≠ b) :
  Calls Tryz.prog 11 #[.pointer (some ⟨b,0,none⟩),.slice A l.length c] w fun e w'=>∃ r:Int,e = .returned (.int .i64 r)∧r ∈ l∧TapeIn w' b∧w.grownBy w' (some b):=by
 have hpos:0 < l.length:=List.length_pos_iff.2 hl
 have hlt:=hd.lt
 obtain ⟨cb,off,rfl,hcb,hc⟩:=hs hl
 have hne:=hA _ rfl
 have HC:=Lib.hid hc
 clear hA hc hs hl
 go_enter Tryz.func11,Tryz.ntmps11
 go_wp2_with fail
 refine (nextT b _ _ (by omega) (by omega) hd).mono ?_
 rintro e w' ⟨r,rfl,h0,h1,hd1,hg⟩
 obtain ⟨j,rfl⟩:=Int.eq_ofNat_of_zero_le h0
 have hj:j < l.length:=by omega
 have hx:=(World.cell?_of_block (a:=⟨cb,off+j * 1+0,none⟩) (hg.block cb hcb (fun e=>hne (by injection e)))).trans (HC.out j _ (List.getElem?_eq_getElem hj) 0 _ rfl)
 simp only [Nat.add_zero,Nat.mul_one] at hx
 go_wp2
 go_ret
 exact ⟨_,rfl,List.getElem_mem _,hd1,hg⟩
end
end Go.Proofs.YtopekilofdadnaaGreatDoor
namespace Go.Proofs.YtopekilofdadnaaGreatDoor
open Go.RowKit
def encSg (x:SegT) : List Value:=[.int .i64 x.f,.int .i64 x.t,.int .i64 x.o]
theorem encSg_len (x:SegT) : (encSg x).length = 3:=rfl
theorem encSg_one (x:SegT) : ∀ u ∈ encSg x,u.oneCell' = true:=by intro u hu; simp [encSg] at hu; rcases hu with rfl | rfl | rfl <;> rfl
theorem infoSg : (Tryz.prog.info? 214).map (fun i=>(i.zero,i.size,i.bytes)) = some (some (.agg #[.int .i64 0,.int .i64 0,.int .i64 0]),3,24):=by kernel_rfl
section
set_option maxHeartbeats 2000000
set_option maxRecDepth 100000
theorem offC (o:Int) (w:World) (h0 : -840≤o) (h1:o≤840) : Calls Tryz.prog 51 #[.int .i64 o] w fun e w'=>e = .returned (.bool true)∧w = w':=by
 go_enter Tryz.func51,Tryz.ntmps51
 go_wp2
 go_ret
 exact ⟨by simp,rfl⟩
theorem zvalidC (z:ZoneM) (w:World) (hz:ZoneOk z.t) (hS:z.In w) : Calls Tryz.prog 23 #[z.val] w fun e w'=>e = .returned (.int .i64 0)∧Below w.heap.size w w':=by
 obtain ⟨zo,A,c,l⟩:=z
 have HZ:=Lib.hid hz
 have hl:l.length≤64:=hz.len
 have ho : -840≤zo∧zo≤840:=hz.o
 obtain ⟨ho1,ho2⟩:=ho
 have hS':SliceOf encCh 2 w w.heap.size A l:=hS
 clear hz hS
 show Calls Tryz.prog 23 #[.agg #[.int .i64 zo,.slice A l.length c]] w _
 go_enter Tryz.func23,Tryz.ntmps23
 go_wp2_with fail
 refine (offC _ _ ho1 ho2).mono ?_
 rintro e w' ⟨rfl,rfl⟩
 go_wp2
 go_loopw [16] (fun i wr=>∃ k:Nat,k≤l.length∧i = .int .i64 k∧Blk wr w.heap.size 27 #[.int .i64 zo,.slice A l.length c]∧Below w.heap.size w wr) (fun i _=>l.length - (intOf i).toNat)
 case atStart=>exact ⟨0,by omega,rfl,Blk.new _ _ _,below_new _ _⟩
 case round =>
  obtain ⟨k,hk,rfl,hB,hbel⟩:=hrel
  have hbs:=hbel.size
  have hBl:=hB.lt
  have z0:=hB.cell 0
  have z1:=hB.cell 1
  simp only [nqg,nqh,nqi] at z0 z1
  by_cases hlt:k < l.length
  ·
   have hx:SliceOf encCh 2 wr w.heap.size A l:=hS'.below hbel
   obtain ⟨⟨h1,h2⟩,h3,h4⟩:=HZ.out.r _ (List.getElem_mem hlt)
   have h1:0≤l[k].at_:=h1
   have h2:l[k].at_≤120968639:=h2
   have h3 : -840≤l[k].off:=h3
   have h4:l[k].off≤840:=h4
   obtain ⟨b,off,rfl,hb,hc⟩:=hx.at_ hlt
   have c0:=hc 0 _ rfl
   have c1:=hc 1 _ rfl
   simp only [Nat.add_zero] at c0
   have hbw:b < wr.heap.size:=by omega
   have hki:(k:Int) < (l.length:Int):=by omega
   have hB2:=hB.alloc (.cells #[.int .i64 l[k].at_,.int .i64 l[k].off] 87)
   have HB2:=Lib.hid hB2
   clear hc hB hB2
   rcases k with _ | m
   ·
    have hk0:(0:Int) < (l.length:Int):=by omega
    simp only [Nat.zero_mul,Nat.add_zero] at c0 c1
    go_wp2_with fail
    refine (offC _ _ h3 h4).mono ?_
    rintro e w' ⟨rfl,rfl⟩
    go_wp2
    go_quiet (fail)
    go_wp2
    go_roundw
    case rel=>exact ⟨1,by omega,by go_num,HB2.out.drewN _,below_drewN (hbel.alloc hbs _) _⟩
    case measure=>simp [intOf]; omega
   ·
    have hlm:m < l.length:=by omega
    have ha:l[m].at_ < l[m+1].at_:=List.pairwise_iff_getElem.1 HZ.out.asc m (m+1) hlm hlt (by omega)
    obtain ⟨b2,off2,hA3,hb2,hc2⟩:=hx.at_ hlm
    injection hA3 with hA3
    injection hA3 with hA3 hA4
    subst hA3 hA4
    have e0:=hc2 0 _ rfl
    simp only [Nat.add_zero] at e0
    clear hc2
    have g0:decide (l[m+1].at_≤l[m].at_) = false:=by simp; omega
    have hmi:(m:Int) < (l.length:Int):=by omega
    have hmi2:(m:Int)+1 < (l.length:Int):=by omega
    have hp:decide ((0:Int) < (m:Int)+1) = true:=by rw [decide_eq_true_eq]; omega
    go_wp2_with fail
    refine (offC _ _ h3 h4).mono ?_
    rintro e w' ⟨rfl,rfl⟩
    go_wp2
    go_quiet (fail)
    go_wp2
    go_roundw
    case rel=>exact ⟨m+2,by omega,by go_num,HB2.out.drewN _,below_drewN (hbel.alloc hbs _) _⟩
    case measure=>simp [intOf]; omega
  ·
   go_wp2
   go_ret
   exact ⟨rfl,hbel⟩
def SegPost (z:ZoneT) (w:World) (e:Ending) (w' : World) : Prop:=∃ A c,e = .returned (.slice A (segs z).length c)∧SliceOf encSg 3 w' w'.heap.size A (segs z)∧Below w.heap.size w w'
theorem segmentsC (z:ZoneM) (w:World) (hz:ZoneOk z.t) (hS:z.In w) : Calls Tryz.prog 90 #[z.val] w (SegPost z.t w):=by
 obtain ⟨zo,A,c,l⟩:=z
 have hl:l.length≤64:=hz.len
 have hS':SliceOf encCh 2 w w.heap.size A l:=hS
 have HZ:=Lib.hid (show (ZoneM.mk zo A c l).t = ⟨zo,l⟩ from rfl)
 have HE:=Lib.hid (segs_eq ⟨zo,l⟩)
 have HT:∀ k,Hid ((segTo ⟨zo,l⟩ (k+1)) = (if (segTo ⟨zo,l⟩ k).2.1 < (l.getD k ⟨0,0⟩).at_ then (segTo ⟨zo,l⟩ k).1++[⟨(segTo ⟨zo,l⟩ k).2.1,(l.getD k ⟨0,0⟩).at_,(segTo ⟨zo,l⟩ k).2.2⟩] else (segTo ⟨zo,l⟩ k).1,(l.getD k ⟨0,0⟩).at_,(l.getD k ⟨0,0⟩).off)):=fun k=>rfl
 have HL:=fun k=>segTo_le ⟨zo,l⟩ k
 clear hz hS
 show Calls Tryz.prog 90 #[.agg #[.int .i64 zo,.slice A l.length c]] w _
 go_enter Tryz.func90,Tryz.ntmps90
 go_wp2
 go_loopw [3,13] (fun r i wr=>∃ k:Nat,k≤l.length∧i = .int .i64 k∧Own encSg 3 214 wr (w.heap.size+2) r (segTo ⟨zo,l⟩ k).1∧Blk wr (w.heap.size+1) 214 #[.int .i64 (segTo ⟨zo,l⟩ k).2.1,.int .i64 0,.int .i64 (segTo ⟨zo,l⟩ k).2.2]∧Below w.heap.size w wr) (fun _ i _=>l.length - (intOf i).toNat)
 case atStart =>
  refine ⟨0,by omega,rfl,Own.nil_ _ _,?_,bel_alloc (below_new _ _) _⟩
  have:=Blk.new (w.alloc (.cells #[.int .i64 zo,.slice A l.length c] 27)) 214 #[.int .i64 0,.int .i64 0,.int .i64 zo]
  rw [World.size_alloc] at this
  exact this
 case round =>
  obtain ⟨k,hk,rfl,hown,hB,hbel⟩:=hrel
  have hbs:=hbel.size
  have hBl:=hB.lt
  have hTl:=HL k
  by_cases hlt:k < l.length
  ·
   have hx:SliceOf encCh 2 wr w.heap.size A l:=hS'.below hbel
   obtain ⟨b,off,rfl,hb,hc⟩:=hx.at_ hlt
   have c0:=hc 0 _ rfl
   have c1:=hc 1 _ rfl
   simp only [Nat.add_zero] at c0
   have hgd:l.getD k ⟨0,0⟩ = l[k]:=by rw [List.getD_eq_getElem?_getD,List.getElem?_eq_getElem hlt]; rfl
   have hT:=(HT k).out
   rw [hgd] at hT
   have HTk:=Lib.hid hT
   clear hc hgd hT HT HL HE
   generalize segTo ⟨zo,l⟩ k = q at hown hB HTk hTl
   obtain ⟨q1,q2,q3⟩:=q
   have hbw:b < wr.heap.size:=by omega
   have hki:(k:Int) < (l.length:Int):=by omega
   generalize l[k] = x at c0 c1 HTk
   obtain ⟨xa,xo⟩:=x
   have hown:Own encSg 3 214 wr (w.heap.size+2) u3 q1:=hown
   have hB:Blk wr (w.heap.size+1) 214 #[.int .i64 q2,.int .i64 0,.int .i64 q3]:=hB
   have HTk:Hid (segTo ⟨zo,l⟩ (k+1) = (if q2 < xa then q1++[⟨q2,xa,q3⟩] else q1,xa,xo)):=HTk
   have hTl:q1.length≤k:=hTl
   have c0:wr.cell? ⟨b,off+k * 2,none⟩ = some (.int .i64 xa):=c0
   have c1:wr.cell? ⟨b,off+k * 2+1,none⟩ = some (.int .i64 xo):=c1
   have s0:=hB.cell 0
   have s1:=hB.cell 1
   have s2:=hB.cell 2
   simp only [nqg,nqh,nqi] at s0 s1 s2
   have f0:=hB.frozen 0
   have f1:=hB.frozen 1
   have f2:=hB.frozen 2
   have hB1:Blk ((wr.setCell ⟨w.heap.size+1,1,none⟩ (.int .i64 xa)).alloc (.cells #[.int .i64 xa,.int .i64 xo] 87)) (w.heap.size+1) 214 #[.int .i64 q2,.int .i64 xa,.int .i64 q3]:=(hB.set_ 1 (.int .i64 xa)).alloc _
   have hown1:=(hown.setCell (p:=⟨w.heap.size+1,1,none⟩) (fun g hg=>by have:=(hown.block_lt hg).1; simp; omega) (.int .i64 xa)).alloc (.cells #[.int .i64 xa,.int .i64 xo] 87)
   have hbel1:=bel_alloc (bel_set hbel (g:=w.heap.size+1) (by omega) 1 (.int .i64 xa)) (.cells #[.int .i64 xa,.int .i64 xo] 87)
   have hBX:Blk ((wr.setCell ⟨w.heap.size+1,1,none⟩ (.int .i64 xa)).alloc (.cells #[.int .i64 xa,.int .i64 xo] 87)) wr.heap.size 87 #[.int .i64 xa,.int .i64 xo]:=Blk.newAt _ _ (size_setC _ _ _)
   have HBX:=Lib.hid hBX
   have HO:=Lib.hid hown
   have HB1:=Lib.hid hB1
   have HO1:=Lib.hid hown1
   have HBE:=Lib.hid hbel1
   have HBW:=Lib.hid hbel
   have HB0:=Lib.hid hB
   clear hB hown hbel hB1 hown1 hbel1 hBX
   by_cases hf:q2 < xa
   ·
    have HTk2:Hid (segTo ⟨zo,l⟩ (k+1) = (q1++[⟨q2,xa,q3⟩],xa,xo)):=by rw [Hid,HTk.out,if_pos hf]
    clear HTk
    go_wp2_with (at_builtin; (refine wpList_append_one _ _ 211 ⟨q2,xa,q3⟩ _ 24 _ infoSg Tryz.underlying211 HO1.out encSg_len (by omega) rfl (encSg_one _) (by omega) (by omega) (by simp; omega) (by rfl) (by rfl) (by rfl) (by rfl) (by simp) (by rfl) ?_); intro v2 w6 hown6 hg6; have hBx6:=HBX.out.apart HO.out hg6 (.inr (Nat.le_refl _)); have hBs6:=HB1.out.apart HO.out hg6 (.inl (by omega)); have p0:=hBx6.cell 0; have p1:=hBx6.cell 1; simp only [nqg,nqh,nqi] at p0 p1; have t0:=hBs6.cell 0; have t1:=hBs6.cell 1; have t2:=hBs6.cell 2; simp only [nqg,nqh,nqi] at t0 t1 t2; have g0:=hBs6.frozen 0; have g1:=hBs6.frozen 1; have g2:=hBs6.frozen 2)
    go_roundw
    case rel =>
     refine ⟨k+1,by omega,by go_num,?_⟩
     rw [HTk2.out]
     exact ⟨((hown6.far (by omega) 0 _).far (by omega) 1 _).far (by omega) 2 _,((hBs6.set_ 0 _).set_ 1 _).set_ 2 _,bel_set (bel_set (bel_set (bel_only HBE.out hg6 (fun g hg=>by have:=(HO.out.block_lt hg).1; omega)) (by omega) 0 _) (by omega) 1 _) (by omega) 2 _⟩
    case measure=>simp [intOf]; omega
   ·
    have HTk2:Hid (segTo ⟨zo,l⟩ (k+1) = (q1,xa,xo)):=by rw [Hid,HTk.out,if_neg hf]
    clear HTk
    go_wp2
    go_roundw
    case rel =>
     refine ⟨k+1,by omega,by go_num,?_⟩
     rw [HTk2.out]
     exact ⟨((((HO.out.far (by omega) 1 _).far (by omega) 0 _).far (by omega) 1 _).far (by omega) 2 _).alloc _,((((HB0.out.set_ 1 _).set_ 0 _).set_ 1 _).set_ 2 _).alloc _,bel_alloc (bel_set (bel_set (bel_set (bel_set HBW.out (by omega) 1 _) (by omega) 0 _) (by omega) 1 _) (by omega) 2 _) _⟩
    case measure=>simp [intOf]; omega
  ·
   obtain rfl:k = l.length:=by omega
   have hE:=HE.out
   have hE:segs ⟨zo,l⟩ = (segTo ⟨zo,l⟩ l.length).1++[⟨(segTo ⟨zo,l⟩ l.length).2.1,120968640,(segTo ⟨zo,l⟩ l.length).2.2⟩]:=hE
   clear HE HT HL
   generalize segTo ⟨zo,l⟩ l.length = q at hown hB hE hTl
   obtain ⟨q1,q2,q3⟩:=q
   have hown:Own encSg 3 214 wr (w.heap.size+2) u3 q1:=hown
   have hB:Blk wr (w.heap.size+1) 214 #[.int .i64 q2,.int .i64 0,.int .i64 q3]:=hB
   have HE:Hid (segs ⟨zo,l⟩ = q1++[⟨q2,120968640,q3⟩]):=hE
   have hTl:q1.length≤l.length:=hTl
   have s0:=hB.cell 0
   have s1:=hB.cell 1
   have s2:=hB.cell 2
   simp only [nqg,nqh,nqi] at s0 s1 s2
   have f0:=hB.frozen 0
   have f1:=hB.frozen 1
   have f2:=hB.frozen 2
   have HO:=Lib.hid (hown.far (g:=w.heap.size+1) (by omega) 1 (.int .i64 120968640))
   have HBE:=Lib.hid (bel_set hbel (g:=w.heap.size+1) (by omega) 1 (.int .i64 120968640))
   have HS:=Lib.hid (size_setC wr ⟨w.heap.size+1,1,none⟩ (.int .i64 120968640))
   clear hB hown hbel hE
   go_wp2_with (at_builtin; (refine wpList_append_one _ _ 211 ⟨q2,120968640,q3⟩ _ 24 _ infoSg Tryz.underlying211 HO.out encSg_len (by omega) rfl (encSg_one _) (by omega) (by omega) (by rw [HS.out]; omega) (by rfl) (by rfl) (by rfl) (by rfl) (by simp) (by rfl) ?_); intro v2 w6 hown6 hg6)
   obtain ⟨A6,c6,rfl,hS6,_,_⟩:=hown6.form encSg_len
   go_ret
   exact ⟨A6,c6,by rw [HZ.out,HE.out]; rfl,by rw [HZ.out,HE.out]; exact hS6,bel_only HBE.out hg6 (fun g hg=>by have:=(HO.out.block_lt hg).1; omega)⟩
theorem segs_len (z:ZoneT) : (segs z).length≤z.ch.length+1:=by
 rw [segs_eq,List.length_append,List.length_singleton]
 have:=segTo_le z z.ch.length
 omega
theorem drop_head {α:Type} (l:List α) (k:Nat) (h:k < l.length) : l.drop k = l[k] :: l.drop (k+1):=List.drop_eq_getElem_cons h
theorem firstC (z:ZoneM) (m:Int) (w:World) (hz:ZoneOk z.t) (hS:z.In w) (h0:0≤m) (h1:m≤120968639) : Calls Tryz.prog 52 #[z.val,.int .i64 m] w fun e w'=>e = .returned (.int .i64 (firstN z.t m))∧Below w.heap.size w w':=by
 have HF:Hid (firstN z.t m = firstS m (segs z.t)):=by rw [Hid,firstN,if_neg (by omega),show max m (-840) = m by omega]
 have HG:=Lib.hid hz.segs
 obtain ⟨zo,A,c,l⟩:=z
 have hln:(segs (ZoneM.mk zo A c l).t).length≤65:=by
  have h1:=segs_len (ZoneM.mk zo A c l).t
  have h2:=hz.len
  omega
 generalize hSG:segs (ZoneM.mk zo A c l).t = sg at HF HG hln
 have HSG:=Lib.hid hSG
 have hz2:=Lib.hid hz
 have hS2:=Lib.hid (SliceOf.advA (show SliceOf encCh 2 w w.heap.size A l from hS) (.cells #[.int .i64 zo,.slice A l.length c] 27))
 clear hz hS hSG
 show Calls Tryz.prog 52 #[.agg #[.int .i64 zo,.slice A l.length c],.int .i64 m] w _
 go_enter Tryz.func52,Tryz.ntmps52
 go_wp2_with fail
 refine (segmentsC ⟨zo,A,c,l⟩ _ hz2.out hS2.out).mono ?_
 rintro e w1 ⟨A1,c1,rfl,hS1,hb1⟩
 have hS1:SliceOf encSg 3 w1 w1.heap.size A1 sg:=by rw [← HSG.out]; exact hS1
 rw [HSG.out]
 have hbel:=bel_adv (below_new w (.cells #[.int .i64 zo,.slice A l.length c] 27)) hb1
 clear hb1
 go_wp2
 go_loopw [15] (fun i wr=>∃ k:Nat,k≤sg.length∧i = .int .i64 k∧Hid (firstS m sg = firstS m (sg.drop k))∧Below w1.heap.size w1 wr) (fun i _=>sg.length - (intOf i).toNat)
 case atStart=>exact ⟨0,by omega,rfl,rfl,Below.refl _ _⟩
 case round =>
  obtain ⟨k,hk,rfl,hf,hbr⟩:=hrel
  have hbs:=hbr.size
  by_cases hlt:k < sg.length
  ·
   have hx:SliceOf encSg 3 wr w1.heap.size A1 sg:=hS1.below hbr
   obtain ⟨g1,g2,g3,g4,g5⟩:=HG.out.1 _ (List.getElem_mem hlt)
   have HD:=Lib.hid (drop_head sg k hlt)
   obtain ⟨b,off,rfl,hb,hc⟩:=hx.at_ hlt
   have c0:=hc 0 _ rfl
   have c1:=hc 1 _ rfl
   have c2:=hc 2 _ rfl
   simp only [Nat.add_zero] at c0
   clear hc
   generalize sg[k] = x at c0 c1 c2 g1 g2 g3 g4 g5 HD
   obtain ⟨xf,xt,xo⟩:=x
   have c0:wr.cell? ⟨b,off+k * 3,none⟩ = some (.int .i64 xf):=c0
   have c1:wr.cell? ⟨b,off+k * 3+1,none⟩ = some (.int .i64 xt):=c1
   have c2:wr.cell? ⟨b,off+k * 3+2,none⟩ = some (.int .i64 xo):=c2
   have g1:0≤xf:=g1
   have g2:xf < xt:=g2
   have g3:xt≤120968640:=g3
   have g4 : -840≤xo:=g4
   have g5:xo≤840:=g5
   have hbw:b < wr.heap.size:=by omega
   have hki:(k:Int) < (sg.length:Int):=by omega
   by_cases hm:xf < m - xo
   ·
    by_cases ht:m - xo < xt
    ·
     have HR:Hid (firstS m sg = m - xo):=by rw [Hid,hf.out,HD.out,firstS]; simp only; rw [if_pos (by omega)]; omega
     clear hf HD
     go_wp2
     go_ret
     exact ⟨by rw [HF.out,HR.out]; rfl,bel_adv hbel (bel_alloc hbr _)⟩
    ·
     have HR:Hid (firstS m sg = firstS m (sg.drop (k+1))):=by rw [Hid,hf.out,HD.out,firstS]; simp only; rw [if_neg (by omega)]
     clear hf HD
     go_wp2
     go_roundw
     case rel=>exact ⟨k+1,by omega,by go_num,HR,bel_alloc hbr _⟩
     case measure=>simp [intOf]; omega
   ·
    have HR:Hid (firstS m sg = xf):=by rw [Hid,hf.out,HD.out,firstS]; simp only; rw [if_pos (by omega)]; omega
    clear hf HD
    go_wp2
    go_ret
    exact ⟨by rw [HF.out,HR.out]; rfl,bel_adv hbel (bel_alloc hbr _)⟩
  ·
   obtain rfl:k = sg.length:=by omega
   have HR:Hid (firstS m sg = 120968640):=by rw [Hid,hf.out,List.drop_length,firstS]
   clear hf
   go_wp2
   go_ret
   exact ⟨by rw [HF.out,HR.out]; rfl,bel_adv hbel hbr⟩
theorem firstC2 (z:ZoneM) (m:Int) (w:World) (hz:ZoneOk z.t) (hS:z.In w) (h0:0≤m) (h1:m≤120968639) : Calls Tryz.prog 24 #[z.val,.int .i64 m] w fun e w'=>e = .returned (.tuple #[.int .i64 (firstN z.t m),.int .i64 0])∧Below w.heap.size w w':=by
 obtain ⟨zo,A,c,l⟩:=z
 have HZ:=Lib.hid hz
 have hS1:=SliceOf.advA (show SliceOf encCh 2 w w.heap.size A l from hS) (.cells #[.int .i64 zo,.slice A l.length c] 27)
 clear hz hS
 show Calls Tryz.prog 24 #[.agg #[.int .i64 zo,.slice A l.length c],.int .i64 m] w _
 go_enter Tryz.func24,Tryz.ntmps24
 go_wp2_with fail
 refine (zvalidC ⟨zo,A,c,l⟩ _ HZ.out hS1).mono ?_
 rintro e w1 ⟨rfl,hb1⟩
 have hB1:=(Blk.new w 27 #[.int .i64 zo,.slice A l.length c]).adv hb1
 have hS2:=hS1.adv hb1
 have hbel:=bel_adv (below_new w (.cells #[.int .i64 zo,.slice A l.length c] 27)) hb1
 have z0:=hB1.cell 0
 have z1:=hB1.cell 1
 simp only [nqg,nqh,nqi] at z0 z1
 clear hb1 hB1
 go_wp2_with fail
 refine (firstC ⟨zo,A,c,l⟩ m _ HZ.out hS2 h0 h1).mono ?_
 rintro e w2 ⟨rfl,hb2⟩
 go_wp2
 go_ret2
 exact ⟨rfl,bel_adv hbel hb2⟩
theorem dayC (z:ZoneM) (t:Int) (w:World) (hz:ZoneOk z.t) (hS:z.In w) (h0:0≤t) (h1:t≤120968639) : Calls Tryz.prog 74 #[z.val,.int .i64 t] w fun e w'=>e = .returned (.tuple #[.int .i64 (dayN z.t t),.int .i64 0])∧Below w.heap.size w w':=by
 have HF:Hid (dayN z.t t = min (dayS t (segs z.t) 0 / 1440) 84005):=rfl
 have HG:=Lib.hid hz.segs
 obtain ⟨zo,A,c,l⟩:=z
 have hln:(segs (ZoneM.mk zo A c l).t).length≤65:=by
  have h1:=segs_len (ZoneM.mk zo A c l).t
  have h2:=hz.len
  omega
 generalize hSG:segs (ZoneM.mk zo A c l).t = sg at HF HG hln
 have HSG:=Lib.hid hSG
 have HZ:=Lib.hid hz
 have hS1:=SliceOf.advA (show SliceOf encCh 2 w w.heap.size A l from hS) (.cells #[.int .i64 zo,.slice A l.length c] 27)
 clear hz hS hSG
 show Calls Tryz.prog 74 #[.agg #[.int .i64 zo,.slice A l.length c],.int .i64 t] w _
 go_enter Tryz.func74,Tryz.ntmps74
 go_wp2_with fail
 refine (zvalidC ⟨zo,A,c,l⟩ _ HZ.out hS1).mono ?_
 rintro e w1 ⟨rfl,hb1⟩
 have hB1:=(Blk.new w 27 #[.int .i64 zo,.slice A l.length c]).adv hb1
 have hS2:=hS1.adv hb1
 have hbel:=bel_adv (below_new w (.cells #[.int .i64 zo,.slice A l.length c] 27)) hb1
 have z0:=hB1.cell 0
 have z1:=hB1.cell 1
 simp only [nqg,nqh,nqi] at z0 z1
 clear hb1 hB1
 go_wp2_with fail
 refine (segmentsC ⟨zo,A,c,l⟩ _ HZ.out hS2).mono ?_
 rintro e w2 ⟨A1,c1,rfl,hS3,hb2⟩
 have hS3:SliceOf encSg 3 w2 w2.heap.size A1 sg:=by rw [← HSG.out]; exact hS3
 rw [HSG.out]
 have hbel2:=bel_adv hbel hb2
 clear hb2 hbel z0 z1 hS1 hS2
 go_wp2
 go_loopw [7,24] (fun g i wr=>∃ (k:Nat) (G:Int),k≤sg.length∧i = .int .i64 k∧g = .int .i64 G∧0≤G∧G≤t+840∧Hid (dayS t sg 0 = dayS t (sg.drop k) G)∧Below w2.heap.size w2 wr) (fun _ i _=>sg.length - (intOf i).toNat)
 case atStart=>exact ⟨0,0,by omega,rfl,rfl,by omega,by omega,rfl,Below.refl _ _⟩
 case round =>
  obtain ⟨k,G,hk,rfl,rfl,hG0,hG1,hf,hbr⟩:=hrel
  have hbs:=hbr.size
  have hend:Hid (dayS t sg 0 = G)→∀ wq:World,Below w2.heap.size w2 wq→Ending.returned (.tuple #[.int .i64 (if 84005 < G / 1440 then 84005 else G / 1440),.int .i64 0]) = Ending.returned (.tuple #[.int .i64 (dayN (ZoneM.mk zo A c l).t t),.int .i64 0])∧Below w.heap.size w wq:=by
   intro h wq hq
   refine ⟨?_,bel_adv hbel2 hq⟩
   rw [HF.out,h.out]
   congr 3
   split <;> congr 1 <;> congr 1 <;> omega
  have HEND:=Lib.hid hend
  clear hend
  by_cases hlt:k < sg.length
  ·
   have hx:SliceOf encSg 3 wr w2.heap.size A1 sg:=hS3.below hbr
   obtain ⟨g1,g2,g3,g4,g5⟩:=HG.out.1 _ (List.getElem_mem hlt)
   have HD:=Lib.hid (drop_head sg k hlt)
   obtain ⟨b,off,rfl,hb,hc⟩:=hx.at_ hlt
   have c0:=hc 0 _ rfl
   have c1:=hc 1 _ rfl
   have c2:=hc 2 _ rfl
   simp only [Nat.add_zero] at c0
   clear hc
   generalize sg[k] = x at c0 c1 c2 g1 g2 g3 g4 g5 HD
   obtain ⟨xf,xt,xo⟩:=x
   have c0:wr.cell? ⟨b,off+k * 3,none⟩ = some (.int .i64 xf):=c0
   have c1:wr.cell? ⟨b,off+k * 3+1,none⟩ = some (.int .i64 xt):=c1
   have c2:wr.cell? ⟨b,off+k * 3+2,none⟩ = some (.int .i64 xo):=c2
   have g1:0≤xf:=g1
   have g2:xf < xt:=g2
   have g3:xt≤120968640:=g3
   have g4 : -840≤xo:=g4
   have g5:xo≤840:=g5
   have hbw:b < wr.heap.size:=by omega
   have hki:(k:Int) < (sg.length:Int):=by omega
   by_cases hm:t < xf
   ·
    have HR:Hid (dayS t sg 0 = G):=by rw [Hid,hf.out,HD.out,dayS]; simp only; rw [if_pos (by omega)]
    clear hf HD
    by_cases hq:84005 < G / 1440
    all_goals
     go_wp2
     go_ret2
     have:=HEND.out HR _ (bel_alloc hbr (.cells #[.int .i64 xf,.int .i64 xt,.int .i64 xo] 214))
     first
     | (rw [if_pos (by omega)] at this; exact this)
     | (rw [if_neg (by omega)] at this; exact this)
   ·
    have HR:Hid (dayS t sg 0 = dayS t (sg.drop (k+1)) (max G (min t (xt - 1)+xo))):=by rw [Hid,hf.out,HD.out,dayS]; simp only; rw [if_neg (by omega)]
    clear hf HD
    by_cases h2:xt - 1 < t
    ·
     by_cases h3:G < xt - 1+xo
     all_goals
      go_wp2
      go_roundw
      case rel=>exact ⟨k+1,_,by omega,by go_num,rfl,by omega,by omega,by rw [Hid,HR.out]; congr 1; omega,bel_alloc hbr _⟩
      case measure=>simp [intOf]; omega
    ·
     by_cases h3:G < t+xo
     all_goals
      go_wp2
      go_roundw
      case rel=>exact ⟨k+1,_,by omega,by go_num,rfl,by omega,by omega,by rw [Hid,HR.out]; congr 1; omega,bel_alloc hbr _⟩
      case measure=>simp [intOf]; omega
  ·
   obtain rfl:k = sg.length:=by omega
   have HR:Hid (dayS t sg 0 = G):=by rw [Hid,hf.out,List.drop_length,dayS]
   clear hf
   by_cases hq:84005 < G / 1440
   all_goals
    go_wp2
    go_ret2
    have:=HEND.out HR _ hbr
    first
    | (rw [if_pos (by omega)] at this; exact this)
    | (rw [if_neg (by omega)] at this; exact this)
def OffPost (t:Int) (w:World) (e:Ending) (w' : World) : Prop:=∃ o : Int,e = .returned (.tuple #[.int .i64 (t+o),.int .i64 0])∧-840≤o∧o≤840∧Below w.heap.size w w'
theorem offsetC (z:ZoneM) (t:Int) (w:World) (hz:ZoneOk z.t) (hS:z.In w) (h0:0≤t) (h1:t≤120968639) : Calls Tryz.prog 194 #[z.val,.int .i64 t] w (OffPost 0 w):=by
 obtain ⟨zo,A,c,l⟩:=z
 have HZ:=Lib.hid hz
 have hl:l.length≤64:=hz.len
 obtain ⟨ho1,ho2⟩ : -840≤zo∧zo≤840:=hz.o
 have hS1:=SliceOf.advA (show SliceOf encCh 2 w w.heap.size A l from hS) (.cells #[.int .i64 zo,.slice A l.length c] 27)
 clear hz hS
 show Calls Tryz.prog 194 #[.agg #[.int .i64 zo,.slice A l.length c],.int .i64 t] w _
 go_enter Tryz.func194,Tryz.ntmps194
 go_wp2_with fail
 refine (zvalidC ⟨zo,A,c,l⟩ _ HZ.out hS1).mono ?_
 rintro e w1 ⟨rfl,hb1⟩
 have hB1:=(Blk.new w 27 #[.int .i64 zo,.slice A l.length c]).adv hb1
 have hS2:=hS1.adv hb1
 have hbel:=bel_adv (below_new w (.cells #[.int .i64 zo,.slice A l.length c] 27)) hb1
 have z0:=hB1.cell 0
 have z1:=hB1.cell 1
 simp only [nqg,nqh,nqi] at z0 z1
 clear hb1 hB1
 go_wp2
 go_loop [7] (fun i=>∃ k:Nat,k≤l.length∧i = .int .i64 ((k:Int) - 1)) (fun i=>(intOf i+1).toNat)
 case atStart=>exact ⟨l.length,by omega,rfl⟩
 case round =>
  obtain ⟨k,hk,rfl⟩:=hrel
  rcases k with _ | k
  ·
   go_wp2
   go_ret2
   exact ⟨zo,by rw [Int.zero_add]; rfl,ho1,ho2,hbel⟩
  ·
   have hlt:k < l.length:=by omega
   obtain ⟨_,h3,h4⟩:=HZ.out.r _ (List.getElem_mem hlt)
   have h3 : -840≤l[k].off:=h3
   have h4:l[k].off≤840:=h4
   obtain ⟨b,off,rfl,hb,hc⟩:=hS2.at_ hlt
   have c0:=hc 0 _ rfl
   have c1:=hc 1 _ rfl
   simp only [Nat.add_zero] at c0
   clear hc
   have hki:(k:Int) < (l.length:Int):=by omega
   have hcast:(((k+1:Nat) : Int) - 1) = (k:Int):=by omega
   rw [hcast]
   clear hcast
   generalize l[k] = x at c0 c1 h3 h4
   obtain ⟨xa,xo⟩:=x
   have c0:w1.cell? ⟨b,off+k * 2,none⟩ = some (.int .i64 xa):=c0
   have c1:w1.cell? ⟨b,off+k * 2+1,none⟩ = some (.int .i64 xo):=c1
   by_cases hx:xa≤t
   ·
    go_wp2
    go_ret2
    exact ⟨xo,by rw [Int.zero_add]; rfl,h3,h4,hbel⟩
   ·
    go_wp2
    go_round
    case rel=>exact ⟨k,by omega,rfl⟩
    case measure=>simp [intOf]
theorem localC (z:ZoneM) (t:Int) (w:World) (hz:ZoneOk z.t) (hS:z.In w) (h0:0≤t) (h1:t≤120968639) : Calls Tryz.prog 149 #[z.val,.int .i64 t] w (OffPost t w):=by
 obtain ⟨zo,A,c,l⟩:=z
 have HZ:=Lib.hid hz
 have hS1:=SliceOf.advA (show SliceOf encCh 2 w w.heap.size A l from hS) (.cells #[.int .i64 zo,.slice A l.length c] 27)
 clear hz hS
 show Calls Tryz.prog 149 #[.agg #[.int .i64 zo,.slice A l.length c],.int .i64 t] w _
 go_enter Tryz.func149,Tryz.ntmps149
 go_wp2_with fail
 refine (offsetC ⟨zo,A,c,l⟩ t _ HZ.out hS1 h0 h1).mono ?_
 rintro e w1 ⟨o,rfl,o1,o2,hb1⟩
 have hbel:=bel_adv (below_new w (.cells #[.int .i64 zo,.slice A l.length c] 27)) hb1
 clear hb1
 rw [Int.zero_add]
 go_wp2
 go_ret2
 exact ⟨o,rfl,o1,o2,hbel⟩
end
end Go.Proofs.YtopekilofdadnaaGreatDoor
