/- Joined texts: TgW TgW2. Conditions: as stated. -/
import Derived.StillTailTactics
import Derived.Test.YtopekilofdadnaaGreatDoorJTvN
import Derived.Test.YtopekilofdadnaaGreatDoorJOwnSet
import Derived.Test.YtopekilofdadnaaGreatDoorJTgQ
import Derived.Test.YtopekilofdadnaaGreatDoorJTgP2
namespace Go.Proofs.YtopekilofdadnaaGreatDoor
open Go.RowKit
theorem flatMap_setk {α:Type} {enc:α→List Value} {k:Nat} (hk : ∀ x,(enc x).length = k) (y:α) (f:Nat) (u:Value) (hf:f < k) : ∀ (ys:List α) (j:Nat) (hj:j < ys.length),enc y = (enc ys[j]).set f u→(ys.set j y).flatMap enc = (ys.flatMap enc).set (j * k+f) u:=by
 intro ys
 induction ys with
 | nil=>intro j hj; simp at hj
 | cons x r ih =>
  intro j hj hy
  cases j with
  | zero =>
   simp only [List.getElem_cons_zero] at hy
   rw [List.set_cons_zero,List.flatMap_cons,List.flatMap_cons,hy,Nat.zero_mul,Nat.zero_add,List.set_append_left _ _ (by rw [hk]; exact hf)]
  | succ j =>
   simp only [List.getElem_cons_succ] at hy
   have hm:(j+1) * k = j * k+k:=Nat.succ_mul _ _
   rw [List.set_cons_succ,List.flatMap_cons,List.flatMap_cons,ih j (by simpa using hj) hy,List.set_append_right _ _ (by rw [hk]; omega),hk]
   rw [show (j+1) * k+f - k = j * k+f by omega]
theorem Own.setk {α:Type} {enc:α→List Value} {e:TypeId} {w:World} {base g cap k n : Nat} {ys:List α} (hk : ∀ x,(enc x).length = k) (hn:n = ys.length) (h:Own enc k e w base (.slice (some ⟨g,0,none⟩) n cap) ys) {j:Nat} (hj:j < ys.length) (y:α) (f:Nat) (u:Value) (hf:f < k) (hy:enc y = (enc ys[j]).set f u) :
  Own enc k e (w.setCell ⟨g,j * k+f,none⟩ u) base (.slice (some ⟨g,0,none⟩) n cap) (ys.set j y):=by
 subst hn
 unfold Own
 rw [flatMap_setk hk y f u hf ys j hj hy,List.length_set]
 exact row_set h _ _
theorem sumIv_bd : ∀ (l:List IvT),(∀ x ∈ l,0≤x.f∧x.f≤x.t∧x.t≤120968640)→0≤sumIv l∧sumIv l≤l.length * 120968640
 | [],_=>by simp [sumIv]
 | x :: l,h=>by
  obtain ⟨h1,h2⟩:=sumIv_bd l fun y hy=>h y (by simp [hy])
  obtain ⟨h3,h4,h5⟩:=h x (by simp)
  rw [sumIv_cons,List.length_cons]
  omega
def adjV (s:Int) : Value:=.agg #[.int .i64 0,.int .i64 0,.int .i64 s,.slice none 0 0]
def AdjOk (snap:Int) (pl:IvT) (ps:List PresM) : Prop:=pl ≠ ⟨0,0⟩→∀ p ∈ ps,(nearB p.f pl.f snap→pl.f = p.f)∧(nearB p.t pl.t snap→pl.t = p.t)
section
set_option maxHeartbeats 4000000
set_option maxRecDepth 100000
theorem validW (s:Int) (w:World) (hs:0≤s∧s≤120) : Calls Tryz.prog 91 #[adjV s] w fun e w'=>e = .returned (.int .i64 0)∧Below w.heap.size w w':=by
 obtain ⟨s1,s2⟩:=hs
 have hb:=bel_alloc (below_new w (.cells #[.int .i64 0,.int .i64 0,.int .i64 s,.slice none 0 0] 45)) (.cells #[.int .i64 (-1),.int .i64 0] 264)
 show Calls Tryz.prog 91 #[.agg #[.int .i64 0,.int .i64 0,.int .i64 s,.slice none 0 0]] w _
 go_enter Tryz.func91,Tryz.ntmps91
 go_wp2
 refine wp_loop_rounds 1 ?_
 rw [rounds_succ]
 go_wp2
 go_ret
 exact ⟨rfl,hb⟩
theorem validIvW (f t : Int) (w:World) (h1:0≤f) (h2:f < t) (h3:t≤120968640) : Calls Tryz.prog 132 #[.agg #[.int .i64 f,.int .i64 t]] w fun e w'=>e = .returned (.bool true)∧Below w.heap.size w w':=by
 go_enter Tryz.func132,Tryz.ntmps132
 go_wp2
 go_ret
 exact ⟨by simp,below_new _ _⟩
theorem totalW (A:Option Addr) (c:Nat) (l:List IvT) (w:World) (hS:SliceOf encIv 2 w w.heap.size A l) (hl:l.length≤100000) (hv : ∀ x ∈ l,0≤x.f∧x.f≤x.t∧x.t≤120968640) : Calls Tryz.prog 134 #[.slice A l.length c] w fun e w'=>e = .returned (.int .i64 (sumIv l))∧Below w.heap.size w w':=by
 have HV:=Lib.hid hv
 clear hv
 go_enter Tryz.func134,Tryz.ntmps134
 go_wp2
 go_loopw [3,8] (fun a i wr=>∃ (k:Nat) (S:Int),k≤l.length∧i = .int .i64 k∧a = .int .i64 S∧0≤S∧S≤k * 120968640∧Hid (S = sumIv (l.take k))∧Below w.heap.size w wr) (fun _ i _=>l.length - (intOf i).toNat)
 case atStart=>exact ⟨0,0,by omega,rfl,rfl,by omega,by omega,rfl,Below.refl _ _⟩
 case round =>
  obtain ⟨k,S,hk,rfl,rfl,s0,s1,hSS,hbr⟩:=hrel
  have hbs:=hbr.size
  by_cases hlt:k < l.length
  ·
   obtain ⟨g1,g2,g3⟩:=HV.out _ (List.getElem_mem hlt)
   have HT:=Lib.hid (sumIv_take l k hlt)
   obtain ⟨q,off,rfl,hq,hc⟩:=(hS.below hbr).at_ hlt
   have c0:=hc 0 _ rfl
   have c1:=hc 1 _ rfl
   simp only [Nat.add_zero] at c0
   clear hc
   generalize l[k] = v at c0 c1 g1 g2 g3 HT
   obtain ⟨vf,vt⟩:=v
   simp only at c0 c1 g1 g2 g3 HT
   have hqw:q < wr.heap.size:=by omega
   have hki:(k:Int) < (l.length:Int):=by omega
   go_wp2
   go_roundw
   case rel=>exact ⟨k+1,S+(vt - vf),by omega,by go_num,rfl,by omega,by omega,by rw [Hid,HT.out,hSS.out],bel_alloc hbr _⟩
   case measure=>simp [intOf]; omega
  ·
   obtain rfl:k = l.length:=by omega
   have HS:Hid (S = sumIv l):=by rw [Hid,hSS.out,List.take_length]
   clear hSS
   go_wp2
   go_ret
   exact ⟨by rw [← HS.out]; rfl,hbr⟩
theorem gridW (s t : Int) (b:Bool) (w:World) : Calls Tryz.prog 179 #[.agg #[.int .i64 0,.int .i64 0,.int .i64 s,.slice none 0 0],.int .i64 t,.bool b] w fun e w'=>e = .returned (.int .i64 t)∧Below w.heap.size w w':=by
 go_enter Tryz.func179,Tryz.ntmps179
 go_wp2
 go_ret
 exact ⟨rfl,below_new _ _⟩
theorem nearW (a b s : Int) (w:World) (ha:0≤a∧a≤120968640) (hb:0≤b∧b≤120968640) : Calls Tryz.prog 180 #[.int .i64 a,.int .i64 b,.int .i64 s] w fun e w'=>e = .returned (.bool (decide (nearB a b s)))∧Below w.heap.size w w':=by
 obtain ⟨a1,a2⟩:=ha
 obtain ⟨b1,b2⟩:=hb
 by_cases h1:a - b≤s
 ·
  by_cases h2:b - a≤s
  ·
   have HN:Hid (decide (nearB a b s) = true):=decide_eq_true ⟨h1,h2⟩
   go_enter Tryz.func180,Tryz.ntmps180
   go_wp2
   go_ret
   exact ⟨by rw [HN.out]; simp,Below.refl _ _⟩
  ·
   have HN:Hid (decide (nearB a b s) = false):=decide_eq_false (fun e=>h2 e.2)
   go_enter Tryz.func180,Tryz.ntmps180
   go_wp2
   go_ret
   exact ⟨by rw [HN.out]; simp,Below.refl _ _⟩
 ·
  have HN:Hid (decide (nearB a b s) = false):=decide_eq_false (fun e=>h1 e.1)
  go_enter Tryz.func180,Tryz.ntmps180
  go_wp2
  go_ret
  exact ⟨by rw [HN.out]; simp,Below.refl _ _⟩
theorem enforceW (A:Option Addr) (c:Nat) (l:List IvT) (w:World) (hS:SliceOf encIv 2 w w.heap.size A l) (hl:l.length≤100000) (hv : ∀ x ∈ l,0≤x.f∧x.f≤x.t∧x.t≤120968640) : Calls Tryz.prog 135 #[.slice none 0 0,.slice A l.length c] w fun e w'=>e = .returned (.slice A l.length c)∧Below w.heap.size w w':=by
 by_cases h0:l.length = 0
 ·
  have h0i:((l.length:Int) == 0) = true:=by simp [h0]
  go_enter Tryz.func135,Tryz.ntmps135
  go_wp2
  go_ret
  exact ⟨by rw [h0]; rfl,Below.refl _ _⟩
 ·
  obtain ⟨m,hm⟩ : ∃ m,l.length = m+1:=⟨l.length - 1,by omega⟩
  have hlm:m < l.length:=by omega
  have hl0:0 < l.length:=by omega
  have HV:=Lib.hid hv
  have HT:=Lib.hid (totalW A c l w hS hl hv)
  obtain ⟨a1,a2,a3⟩:=hv _ (List.getElem_mem hlm)
  obtain ⟨b1,b2,b3⟩:=hv _ (List.getElem_mem hl0)
  obtain ⟨q,off,hA,hq,hc⟩:=hS.at_ hlm
  have c0:=hc 0 _ rfl
  have c1:=hc 1 _ rfl
  simp only [Nat.add_zero] at c0
  obtain ⟨q2,off2,hA2,hq2,hd⟩:=hS.at_ hl0
  rw [hA] at hA2
  injection hA2 with hA2
  injection hA2 with hA2 hA3
  subst hA2 hA3 hA
  have d0:=hd 0 _ rfl
  have d1:=hd 1 _ rfl
  simp only [Nat.add_zero] at d0
  simp only [Nat.zero_mul,Nat.add_zero] at d0 d1
  generalize l[m] = x at c0 c1 a1 a2 a3
  generalize l[0] = y at d0 d1 b1 b2 b3
  obtain ⟨xf,xt⟩:=x
  obtain ⟨yf,yt⟩:=y
  simp only at c0 c1 d0 d1 a1 a2 a3 b1 b2 b3
  have hn0:((l.length:Int) == 0) = false:=by rw [beq_eq_false_iff_ne]; omega
  have hwr:IntKind.i64.wrap ((l.length:Int) - 1) = (m:Int):=by rw [IntKind.wrap_i64]; omega
  have hml:(m:Int) < (l.length:Int):=by omega
  have h0l:(0:Int) < (l.length:Int):=by omega
  have HF:=Lib.hid (fun W (hb:RowKit.Below w.heap.size w W)=>totalW (some ⟨q,off,none⟩) c l W (hS.adv hb) hl HV.out)
  have e0:=Bw.cell (w:=w) (a:=⟨q,off+m * 2+1,none⟩) (by exact hq) c1
  have e1:=Bw.cell (w:=w) (a:=⟨q,off,none⟩) (by exact hq) d0
  have hs0:0≤sumIv l∧sumIv l≤l.length * 120968640:=sumIv_bd l HV.out
  obtain ⟨t1,t2⟩:=hs0
  generalize sumIv l = S at HF t1 t2
  clear HT hd hc c0 c1 d0 d1 hm h0 hl0 hlm
  go_enter Tryz.func135,Tryz.ntmps135
  go_wp2
  refine wp_region_below (by kernel_rfl) (by kernel_rfl) ?_
  repeat (go_big_quiet_step (first | exact Bw.call _ (HF.out _ (Bw.h _))))
  refine wpQuiet_nil ?_
  intro W6 hw'
  obtain ⟨⟨W6,hW6⟩,hw''⟩:=hw'
  subst hw''
  go_wp2
  refine wp_loop_rounds 1 ?_
  rw [rounds_succ]
  go_wp2
  go_ret
  exact ⟨rfl,hW6⟩
theorem sumIv_takes (l:List PresM) (k:Nat) (h:k < l.length) : brsN ((l.take (k+1)).map PresM.p) = brsN ((l.take k).map PresM.p)++l[k].br:=by
 rw [List.take_succ_eq_append_getElem h,List.map_append,brsN,List.flatMap_append]
 simp [brsN,PresM.p]
theorem brs_len (l:List PresM) (n:Nat) (h : ∀ x ∈ l,x.br.length≤n) : (brsN (l.map PresM.p)).length≤l.length * n:=by
 induction l with
 | nil=>simp [brsN]
 | cons x r ih =>
  have h1:=ih fun y hy=>h y (by simp [hy])
  have h2:=h x (by simp)
  have h3:(brsN ((x :: r).map PresM.p)).length = x.br.length+(brsN (r.map PresM.p)).length:=by simp [brsN,PresM.p]
  rw [h3,List.length_cons,Nat.succ_mul]
  omega
theorem breaksW (A:Option Addr) (c:Nat) (ps:List PresM) (w:World) (hS:SliceOf encPr 3 w w.heap.size A ps) (hI : ∀ x ∈ ps,x.In w) (hl:ps.length≤1024) (hb : ∀ x ∈ ps,x.br.length≤1024) :
  Calls Tryz.prog 137 #[.slice A ps.length c] w fun e w'=>∃ v,e = .returned v∧Own encIv 2 34 w' w.heap.size v (brsN (ps.map PresM.p))∧Below w.heap.size w w':=by
 have HI:=Lib.hid hI
 have HB:=Lib.hid hb
 clear hI hb
 go_enter Tryz.func137,Tryz.ntmps137
 go_wp2
 go_loopw [3,8] (fun v i wr=>∃ k:Nat,k≤ps.length∧i = .int .i64 k∧Own encIv 2 34 wr w.heap.size v (brsN ((ps.take k).map PresM.p))∧Below w.heap.size w wr) (fun _ i _=>ps.length - (intOf i).toNat)
 case atStart=>exact ⟨0,by omega,rfl,by simpa [brsN] using Own.nil_ _ _,Below.refl _ _⟩
 case round =>
  obtain ⟨k,hk,rfl,hown,hbr⟩:=hrel
  have hbs:=hbr.size
  by_cases hlt:k < ps.length
  ·
   have HT:=Lib.hid (sumIv_takes ps k hlt)
   have hxl:=HB.out _ (List.getElem_mem hlt)
   have hxi:=HI.out _ (List.getElem_mem hlt)
   have hfl:(brsN ((ps.take k).map PresM.p)).length≤1048576:=by
    refine Nat.le_trans (brs_len _ 1024 fun x hx=>HB.out x (List.mem_of_mem_take hx)) ?_
    have:(ps.take k).length≤1024:=by simp; omega
    exact Nat.mul_le_mul_right 1024 this
   obtain ⟨q,off,rfl,hq,hc⟩:=(hS.below hbr).at_ hlt
   have c0:=hc 0 _ rfl
   have c1:=hc 1 _ rfl
   have c2:=hc 2 _ rfl
   simp only [Nat.add_zero] at c0
   clear hc
   generalize ps[k] = x at c0 c1 c2 HT hxl hxi
   obtain ⟨xf,xt,xA,xc,xb⟩:=x
   simp only at c0 c1 c2 HT hxl
   have hxs:SliceOf encIv 2 (wr.alloc (.cells #[.int .i64 xf,.int .i64 xt,.slice xA xb.length xc] 81)) w.heap.size xA xb:=(show SliceOf encIv 2 w w.heap.size xA xb from hxi).below (bel_alloc hbr _)
   have hqw:q < wr.heap.size:=by omega
   have hki:(k:Int) < (ps.length:Int):=by omega
   have hownA:=Lib.hid (hown.alloc (.cells #[.int .i64 xf,.int .i64 xt,.slice xA xb.length xc] 81))
   have hbrA:=Lib.hid (bel_alloc hbr (.cells #[.int .i64 xf,.int .i64 xt,.slice xA xb.length xc] 81))
   have HXS:=Lib.hid hxs
   clear hown hxi hxs
   go_wp2_with (at_builtin; go_loud (refine wpList_append_list (ys:=xb) _ _ 79 xc 16 _ infoIv Tryz.underlying79 hownA.out HXS.out encIv_len (by omega) rfl encIv_one (Nat.le_trans (Nat.add_le_add hfl hxl) (by omega)) (by omega) (by simp; omega) (by rfl) (by rfl) (by rfl) (by rfl) (by rfl) ?_); intro v2 w6 hown6 hg6)
   go_roundw
   case rel=>exact ⟨k+1,by omega,by go_num,by rw [HT.out]; exact hown6,bel_only hbrA.out hg6 (fun g hg=>(hownA.out.block_lt hg).1)⟩
   case measure=>simp [intOf]; omega
  ·
   obtain rfl:k = ps.length:=by omega
   rw [List.take_length] at hown
   have HOWN:=Lib.hid hown
   clear hown
   go_wp2
   go_ret
   exact ⟨_,rfl,HOWN.out,hbr⟩
end
end Go.Proofs.YtopekilofdadnaaGreatDoor
namespace Go.Proofs.YtopekilofdadnaaGreatDoor
open Go.RowKit
def JoinPost (base:Nat) (v:Value) (r:List IvT) (x:IvT) (w:World) (e:Ending) (w' : World) : Prop :=
 ∃ v',e = .returned v'∧Own encIv 2 34 w' base v' (joinN r x)∧w.grownBy w' v.ownBlock∧(v'.ownBlock = v.ownBlock ∨ ∃ q,w.heap.size≤q∧v'.ownBlock = some q)
theorem neqIv (a c x y : Int) (w:World) : Sem.run Tryz.prog (binOp .neq 34 (.agg #[.int .i64 a,.int .i64 c]) (.agg #[.int .i64 x,.int .i64 y])) w = .ok (.bool (!(a == x && c == y))) w:=by
 have u0:=Tryz.underlying3
 have a0:=Tryz.isAgg3
 have z0:=Tryz.sizeOf3
 have hS:Tryz.prog.underlying 34 = some (.struct (Tryz.prog.fieldsOf 34)):=by kernel_rfl
 have hp:Tryz.prog.stoodInHeld 34 = false:=by kernel_rfl
 rw [run_neq_struct,show (10000:Nat) = 9999+1 from rfl,run_equalIn_agg w 9999 34 _ _ hS hp]
 simp only [Program.fieldsOf,Tryz.underlying34]
 by_cases h1:a = x
 ·
  subst h1
  by_cases h2:c = y
  ·
   subst h2
   go_simp
  ·
   go_simp
 ·
  go_simp
section
set_option maxHeartbeats 4000000
set_option maxRecDepth 100000
theorem joinW (base:Nat) (v:Value) (r:List IvT) (f t : Int) (w:World) (ho:Own encIv 2 34 w base v r) (hb:base≤w.heap.size) (hl:r.length≤1048576) :
  Calls Tryz.prog 182 #[v,.agg #[.int .i64 f,.int .i64 t]] w (JoinPost base v r ⟨f,t⟩ w):=by
 obtain ⟨A,c,hv⟩:=ho.slice encIv_len
 subst hv
 by_cases hft:t≤f
 ·
  have HJ:Hid (joinN r ⟨f,t⟩ = r):=by rw [Hid,joinN,if_pos hft]
  have HO:=Lib.hid (ho.alloc (.cells #[.int .i64 f,.int .i64 t] 34))
  clear ho
  go_enter Tryz.func182,Tryz.ntmps182
  go_wp2
  go_ret
  exact ⟨_,rfl,by rw [HJ.out]; exact HO.out,World.grownBy_alloc _ _ _,.inl rfl⟩
 ·
  by_cases h0:r = []
  ·
   subst h0
   have HJ:Hid (joinN [] ⟨f,t⟩ = [⟨f,t⟩]):=by rw [Hid,joinN,if_neg hft]; rfl
   have HO:=Lib.hid (ho.alloc (.cells #[.int .i64 f,.int .i64 t] 34))
   have hl0:(([] : List IvT).length:Int) = 0:=rfl
   clear ho
   go_enter Tryz.func182,Tryz.ntmps182
   go_wp2
   go_quiet (fail)
   have hown:=HO.out.drewN nq
   have hgr:w.grownBy ((w.alloc (.cells #[.int .i64 f,.int .i64 t] 34)).drewN nq) (Value.slice A 0 c).ownBlock:=only_drewN (World.grownBy_alloc _ _ _) _
   have HOWN:=Lib.hid hown
   have HGR:=Lib.hid hgr
   clear hown hgr
   go_wp2_with (at_builtin; go_loud (refine wpList_append_one_at _ _ 79 (⟨f,t⟩ : IvT) _ 16 _ infoIv Tryz.underlying79 HOWN.out encIv_len (by omega) rfl (encIv_one _) (by simp) (by omega) (by simp; omega) (by rfl) (by rfl) (by rfl) (by rfl) (by simp) (by rfl) ?_); intro v2 w6 hown6 hg6 halt)
   go_ret
   refine ⟨v2,rfl,by rw [HJ.out]; exact hown6,only_trans HGR.out hg6,?_⟩
   rcases halt with h | h
   ·
    exact .inl h
   ·
    exact .inr ⟨_,by simp; omega,h⟩
  ·
   obtain ⟨m,hm⟩ : ∃ m,r.length = m+1:=⟨r.length - 1,by have:=List.length_pos_iff.2 h0; omega⟩
   have hlm:m < r.length:=by omega
   have hr:r = r.take m++[r[m]]:=by
    rw [← List.take_succ_eq_append_getElem hlm,List.take_of_length_le (by omega)]
   obtain ⟨g,cap,cur,hv,hgb,hBg,hcap,hcm⟩:=ho.some_ (by omega)
   injection hv with hv1 hv2 hv3
   subst hv1 hv3
   obtain ⟨A0,c0,hv0,hS0,_,_⟩:=ho.form encIv_len
   injection hv0 with hv1 hv2 hv3
   subst hv1 hv3
   obtain ⟨gb,go,hg0,_,hcl⟩:=hS0.at_ hlm
   injection hg0 with hg0
   injection hg0 with hg1 hg2
   subst hg1 hg2
   have z0:=hcl 0 _ rfl
   have z1:=hcl 1 _ rfl
   simp only [Nat.zero_add,Nat.add_zero] at z0 z1
   have hHA:=ho.alloc (.cells #[.int .i64 f,.int .i64 t] 34)
   have hgl:=hBg.lt
   have hfz:=hBg.frozen (m * 2+1)
   have HO:=Lib.hid hHA
   have hml:(m:Int) < (r.length:Int):=by omega
   have hn0:(0:Int) < (r.length:Int):=by omega
   have hpd:decide (0 < r.length) = true:=decide_eq_true (by omega)
   have hwr:IntKind.i64.wrap ((r.length:Int) - 1) = (m:Int):=by rw [IntKind.wrap_i64]; omega
   have HR:=Lib.hid hr
   by_cases he:r[m].t = f
   ·
    have HJ:Hid (joinN r ⟨f,t⟩ = r.set m ⟨r[m].f,t⟩):=by
     rw [Hid,joinN,if_neg hft]
     have h1:r.getLast? = some r[m]:=by rw [List.getLast?_eq_getElem?,hm]; simp
     rw [h1]
     simp only
     rw [if_pos he]
     apply List.ext_getElem
     ·
      simp; omega
     ·
      intro i h1 h2
      simp only [List.length_append,List.length_dropLast,List.length_singleton] at h1
      by_cases hi:i < m
      ·
       rw [List.getElem_append_left (by simp; omega),List.getElem_set_ne (by omega),List.getElem_dropLast]
      ·
       have:i = m:=by omega
       subst this
       rw [List.getElem_append_right (by simp; omega),List.getElem_set_self]
       simp
    have hcc:cur[m * 2+1]? = some (.int .i64 f):=by rw [← hBg.cell,z1,he]
    rw [he] at z1
    have HCC:=Lib.hid hcc
    have HBG:=Lib.hid (hBg.alloc (.cells #[.int .i64 f,.int .i64 t] 34))
    have HU:Hid (encIv ⟨r[m].f,t⟩ = (encIv r[m]).set 1 (.int .i64 t)):=rfl
    clear hr hv2 hm ho hBg hS0 hcl hHA h0 he hcc
    go_enter Tryz.func182,Tryz.ntmps182
    go_wp2
    go_quiet (fail)
    have hO2:=HO.out.drewN nq
    have hB2:=HBG.out.drewN nq
    have hg2:w.grownBy ((w.alloc (.cells #[.int .i64 f,.int .i64 t] 34)).drewN nq) (some g):=only_drewN (World.grownBy_alloc _ _ _) _
    have hx:Blk ((w.alloc (.cells #[.int .i64 f,.int .i64 t] 34)).drewN nq) w.heap.size 34 #[.int .i64 f,.int .i64 t]:=(Blk.new _ _ _).drewN nq
    generalize (w.alloc (.cells #[.int .i64 f,.int .i64 t] 34)).drewN nq = W2 at hO2 hB2 hg2 hx ⊢
    have y1:=hB2.cell (m * 2+1)
    rw [HCC.out] at y1
    have g1:=hB2.frozen (m * 2+1)
    have x0:=hx.cell 0
    have x1:=hx.cell 1
    simp only [nqg,nqh,nqi] at x0 x1
    have HSET:=Lib.hid (Own.setk encIv_len rfl hO2 hlm ⟨r[m].f,t⟩ 1 (.int .i64 t) (by omega) HU.out)
    have HGR:=Lib.hid (only_setCell hg2 (p:=⟨g,m * 2+1,none⟩) (.inl rfl) (.int .i64 t))
    clear hO2 hB2 hg2 hx z0 z1 hfz
    go_wp2
    go_ret
    refine ⟨_,rfl,by rw [HJ.out]; exact HSET.out,HGR.out,.inl rfl⟩
   ·
    have HJ:Hid (joinN r ⟨f,t⟩ = r++[⟨f,t⟩]):=by
     rw [Hid,joinN,if_neg hft]
     have h1:r.getLast? = some r[m]:=by rw [List.getLast?_eq_getElem?,hm]; simp
     rw [h1]
     simp only
     rw [if_neg he]
    have hne:(r[m].t == f) = false:=by simpa using he
    have HU:=Lib.hid he
    clear hr hv2 hm ho hBg hS0 hcl hHA h0 he
    go_enter Tryz.func182,Tryz.ntmps182
    go_wp2
    go_quiet (fail)
    have hown:=HO.out.drewN nq
    have hgr:w.grownBy ((w.alloc (.cells #[.int .i64 f,.int .i64 t] 34)).drewN nq) (Value.slice (some (⟨g,0,none⟩ : Addr)) r.length c).ownBlock:=only_drewN (World.grownBy_alloc _ _ _) _
    have HOWN:=Lib.hid hown
    have HGR:=Lib.hid hgr
    clear hown hgr
    go_wp2_with (at_builtin; go_loud (refine wpList_append_one_at _ _ 79 (⟨f,t⟩ : IvT) _ 16 _ infoIv Tryz.underlying79 HOWN.out encIv_len (by omega) rfl (encIv_one _) (by omega) (by omega) (by simp; omega) (by rfl) (by rfl) (by rfl) (by rfl) (by simp) (by rfl) ?_); intro v2 w6 hown6 hg6 halt)
    go_ret
    refine ⟨v2,rfl,by rw [HJ.out]; exact hown6,only_trans HGR.out hg6,?_⟩
    rcases halt with h | h
    ·
     exact .inl h
    ·
     exact .inr ⟨_,by simp; omega,h⟩
end
end Go.Proofs.YtopekilofdadnaaGreatDoor
