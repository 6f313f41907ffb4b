/- Joined texts: TgO TgO2 TgV. Conditions: as stated. -/
import Derived.Deep.DeepCutAuto
import Derived.Test.YtopekilofdadnaaGreatDoorJTeN
import Derived.Test.YtopekilofdadnaaGreatDoorJTvN
import Derived.Test.YtopekilofdadnaaGreatDoorJBox
import Derived.Test.YtopekilofdadnaaGreatDoorJTgQ
import Derived.Test.YtopekilofdadnaaGreatDoorJTgC3
import Derived.Test.YtopekilofdadnaaGreatDoorJTgI2
import Derived.Test.YtopekilofdadnaaGreatDoorJTgW
namespace Go.Proofs.YtopekilofdadnaaGreatDoor
open Go.RowKit Go.Sort Go.Shelf
def NameOk (s:ByteArray) : Prop:=s = ⟨#[110,111,114,109,97,108]⟩ ∨ s = ⟨#[111,116,49]⟩ ∨ s = ⟨#[111,116,50]⟩ ∨ s = ⟨#[119,49]⟩ ∨ s = ⟨#[119,50]⟩
def ascB : Int→List BandT→Prop
 | _,[]=>True
 | lo,b :: r=>lo < b.after∧b.after≤10080∧NameOk b.name∧ascB b.after r
structure SpansOk (W:List WorkT) : Prop where
 lenW:W.length≤1024
 lenI:∀ x ∈ W,x.ivs.length≤1024
 day:∀ x ∈ W,0≤x.day∧x.day≤84005
 ok:∀ s ∈ spansN W,0≤s.iv.f∧s.iv.f < s.iv.t∧s.iv.t≤120968640
 ne:(spansN W).Pairwise (fun a b=>spC a b ≠ 0)
 asc:(sortedN W).Pairwise (fun a b=>a.iv.t≤b.iv.f)
 len:(spansN W).length≤1000000
 tot:((sortedN W).map fun s=>s.iv.t - s.iv.f).sum≤100000
section
set_option maxHeartbeats 8000000
set_option maxRecDepth 100000
theorem nm_normal (w:World) : Calls Tryz.prog 96 #[.string ⟨#[110,111,114,109,97,108]⟩] w fun e w'=>e = .returned (.bool true)∧w = w':=by
 have b0:((⟨#[110,111,114,109,97,108]⟩ : ByteArray)[0]).toNat = 110:=rfl
 have b1:((⟨#[110,111,114,109,97,108]⟩ : ByteArray)[1]).toNat = 111:=rfl
 have b2:((⟨#[110,111,114,109,97,108]⟩ : ByteArray)[2]).toNat = 114:=rfl
 have b3:((⟨#[110,111,114,109,97,108]⟩ : ByteArray)[3]).toNat = 109:=rfl
 have b4:((⟨#[110,111,114,109,97,108]⟩ : ByteArray)[4]).toNat = 97:=rfl
 have b5:((⟨#[110,111,114,109,97,108]⟩ : ByteArray)[5]).toNat = 108:=rfl
 go_enter Tryz.func96,Tryz.ntmps96
 go_wp2
 refine wp_loop_rounds 7 ?_
 iterate 6
  rw [rounds_succ]
  go_wp2
 rw [rounds_succ]
 go_wp2
 go_ret
 exact ⟨rfl,rfl⟩
theorem nm_ot1 (w:World) : Calls Tryz.prog 96 #[.string ⟨#[111,116,49]⟩] w fun e w'=>e = .returned (.bool true)∧w = w':=by
 have b0:((⟨#[111,116,49]⟩ : ByteArray)[0]).toNat = 111:=rfl
 have b1:((⟨#[111,116,49]⟩ : ByteArray)[1]).toNat = 116:=rfl
 have b2:((⟨#[111,116,49]⟩ : ByteArray)[2]).toNat = 49:=rfl
 go_enter Tryz.func96,Tryz.ntmps96
 go_wp2
 refine wp_loop_rounds 4 ?_
 iterate 3
  rw [rounds_succ]
  go_wp2
 rw [rounds_succ]
 go_wp2
 go_ret
 exact ⟨rfl,rfl⟩
theorem nm_ot2 (w:World) : Calls Tryz.prog 96 #[.string ⟨#[111,116,50]⟩] w fun e w'=>e = .returned (.bool true)∧w = w':=by
 have b0:((⟨#[111,116,50]⟩ : ByteArray)[0]).toNat = 111:=rfl
 have b1:((⟨#[111,116,50]⟩ : ByteArray)[1]).toNat = 116:=rfl
 have b2:((⟨#[111,116,50]⟩ : ByteArray)[2]).toNat = 50:=rfl
 go_enter Tryz.func96,Tryz.ntmps96
 go_wp2
 refine wp_loop_rounds 4 ?_
 iterate 3
  rw [rounds_succ]
  go_wp2
 rw [rounds_succ]
 go_wp2
 go_ret
 exact ⟨rfl,rfl⟩
theorem nm_w1 (w:World) : Calls Tryz.prog 96 #[.string ⟨#[119,49]⟩] w fun e w'=>e = .returned (.bool true)∧w = w':=by
 have b0:((⟨#[119,49]⟩ : ByteArray)[0]).toNat = 119:=rfl
 have b1:((⟨#[119,49]⟩ : ByteArray)[1]).toNat = 49:=rfl
 go_enter Tryz.func96,Tryz.ntmps96
 go_wp2
 refine wp_loop_rounds 3 ?_
 iterate 2
  rw [rounds_succ]
  go_wp2
 rw [rounds_succ]
 go_wp2
 go_ret
 exact ⟨rfl,rfl⟩
theorem nm_w2 (w:World) : Calls Tryz.prog 96 #[.string ⟨#[119,50]⟩] w fun e w'=>e = .returned (.bool true)∧w = w':=by
 have b0:((⟨#[119,50]⟩ : ByteArray)[0]).toNat = 119:=rfl
 have b1:((⟨#[119,50]⟩ : ByteArray)[1]).toNat = 50:=rfl
 go_enter Tryz.func96,Tryz.ntmps96
 go_wp2
 refine wp_loop_rounds 3 ?_
 iterate 2
  rw [rounds_succ]
  go_wp2
 rw [rounds_succ]
 go_wp2
 go_ret
 exact ⟨rfl,rfl⟩
theorem isNameO (s:ByteArray) (w:World) (h:NameOk s) : Calls Tryz.prog 96 #[.string s] w fun e w'=>e = .returned (.bool true)∧w = w':=by
 rcases h with rfl | rfl | rfl | rfl | rfl
 ·
  exact nm_normal w
 ·
  exact nm_ot1 w
 ·
  exact nm_ot2 w
 ·
  exact nm_w1 w
 ·
  exact nm_w2 w
theorem validBandsO (A:Option Addr) (c:Nat) (l:List BandT) (w:World) (hS:SliceOf encBd 2 w w.heap.size A l) (hl:l.length≤16) (ha:ascB (-1) l) :
  Calls Tryz.prog 97 #[.slice A l.length c] w fun e w'=>e = .returned (.bool true)∧Below w.heap.size w w':=by
 have HA:=Lib.hid ha
 clear ha
 go_enter Tryz.func97,Tryz.ntmps97
 go_wp2
 go_loopw [3,8] (fun b i wr=>∃ (k:Nat) (L:Int),k≤l.length∧i = .int .i64 k∧b = .int .i64 L∧Hid (ascB L (l.drop k))∧Below w.heap.size w wr) (fun _ i _=>l.length - (intOf i).toNat)
 case atStart=>exact ⟨0,-1,by omega,rfl,rfl,HA.out,Below.refl _ _⟩
 case round =>
  obtain ⟨k,L,hk,rfl,rfl,hp,hbr⟩:=hrel
  have hbs:=hbr.size
  by_cases hlt:k < l.length
  ·
   have hp1:=hp.out
   rw [drop_head l k hlt] at hp1
   obtain ⟨g1,g2,g3,g4⟩:=hp1
   have HN:=Lib.hid g3
   have HG:=Lib.hid g4
   obtain ⟨q,off,rfl,hq,hc⟩:=(hS.below hbr).at_ hlt
   have c0:=hc 0 _ rfl
   have c1:=hc 1 _ rfl
   simp only [Nat.add_zero] at c0
   clear hc hp g3 g4
   generalize l[k] = x at c0 c1 g1 g2 HN HG
   obtain ⟨nm,af⟩:=x
   simp only at c0 c1 g1 g2 HN HG
   have hqw:q < wr.heap.size:=by omega
   have hki:(k:Int) < (l.length:Int):=by omega
   have hb2:=bel_alloc hbr (.cells #[.string nm,.int .i64 af] 92)
   go_wp2_with fail
   refine (isNameO nm _ HN.out).mono ?_
   rintro e w2 ⟨rfl,rfl⟩
   go_wp2
   go_roundw
   case rel=>exact ⟨k+1,af,by omega,by go_num,rfl,HG.out,hb2⟩
   case measure=>simp [intOf]; omega
  ·
   clear hp
   go_wp2
   go_ret
   exact ⟨rfl,hbr⟩
structure BandsM where
 n:ByteArray
 A:Option Addr
 c:Nat
 day:List BandT
 B:Option Addr
 d:Nat
 week:List BandT
def BandsM.t (b:BandsM) : BandsT:=⟨b.n,b.day,b.week⟩
structure BandsIn (w:World) (b:BandsM) : Prop where
 nm:NameOk b.n
 dl:b.day.length≤16
 wl:b.week.length≤16
 da:ascB (-1) b.day
 wa:ascB (-1) b.week
 ds:SliceOf encBd 2 w w.heap.size b.A b.day
 ws:SliceOf encBd 2 w w.heap.size b.B b.week
theorem BandsIn.adv {w w' : World} {b:BandsM} (h:BandsIn w b) (hb:Below w.heap.size w w') : BandsIn w' b:=⟨h.nm,h.dl,h.wl,h.da,h.wa,h.ds.adv hb,h.ws.adv hb⟩
def BandsM.val (b:BandsM) : Value:=.agg #[.string b.n,.slice b.A b.day.length b.c,.slice b.B b.week.length b.d]
theorem validO (b:BandsM) (w:World) (h:BandsIn w b) : Calls Tryz.prog 60 #[b.val] w fun e w'=>e = .returned (.int .i64 0)∧Below w.heap.size w w':=by
 obtain ⟨n,A,c,dl,B,d,wl⟩:=b
 have h1:dl.length≤16:=h.dl
 have h2:wl.length≤16:=h.wl
 have HN:Hid (NameOk n):=h.nm
 have HD:Hid (ascB (-1) dl):=h.da
 have HW:Hid (ascB (-1) wl):=h.wa
 have hB0:=Blk.new w 48 #[.string n,.slice A dl.length c,.slice B wl.length d]
 have hb0:=below_new w (.cells #[.string n,.slice A dl.length c,.slice B wl.length d] 48)
 have hI:=h.adv hb0
 have hds:=Lib.hid (show SliceOf encBd 2 _ _ A dl from hI.ds)
 have hws:=Lib.hid (show SliceOf encBd 2 _ _ B wl from hI.ws)
 clear h hI
 show Calls Tryz.prog 60 #[.agg #[.string n,.slice A dl.length c,.slice B wl.length d]] w _
 generalize hW:w.alloc (.cells #[.string n,.slice A dl.length c,.slice B wl.length d] 48) = W at hB0 hb0 hds hws
 have HWW:=Lib.hid hW
 clear hW
 go_enter Tryz.func60,Tryz.ntmps60
 go_wp2_with fail
 rw [HWW.out]
 refine (isNameO n _ HN.out).mono ?_
 rintro e w1 ⟨rfl,rfl⟩
 have z0:=hB0.cell 0
 have z1:=hB0.cell 1
 have z2:=hB0.cell 2
 simp only [nqg,nqh,nqi] at z0 z1 z2
 go_wp2_with fail
 refine (validBandsO A c dl _ hds.out h1 HD.out).mono ?_
 rintro e w1 ⟨rfl,hb1⟩
 have hB1:=hB0.adv hb1
 have hws1:=hws.out.adv hb1
 clear z0 z1 z2
 have z0:=hB1.cell 0
 have z1:=hB1.cell 1
 have z2:=hB1.cell 2
 simp only [nqg,nqh,nqi] at z0 z1 z2
 go_wp2_with fail
 refine (validBandsO B d wl _ hws1 h2 HW.out).mono ?_
 rintro e w2 ⟨rfl,hb2⟩
 go_wp2
 go_ret
 exact ⟨rfl,bel_adv (bel_adv hb0 hb1) hb2⟩
theorem validIvO (f t : Int) (w:World) (h1:0≤f) (h2:f < t) (h3:t≤120968640) : Calls Tryz.prog 98 #[.agg #[.int .i64 f,.int .i64 t]] w fun e w'=>e = .returned (.bool true)∧Below w.heap.size w w':=by
 go_enter Tryz.func98,Tryz.ntmps98
 go_wp2
 go_ret
 exact ⟨by simp,below_new _ _⟩
end
end Go.Proofs.YtopekilofdadnaaGreatDoor
namespace Go.Proofs.YtopekilofdadnaaGreatDoor
open Go.RowKit Go.Sort Go.Shelf
structure WorksIn (w:World) (A:Option Addr) (W:List WorkM) : Prop where
 s:SliceOf encWk 2 w w.heap.size A W
 i:∀ x ∈ W,SliceOf encIv 2 w w.heap.size x.A x.l
theorem WorksIn.adv {w w' : World} {A:Option Addr} {W:List WorkM} (h:WorksIn w A W) (hb:Below w.heap.size w w') : WorksIn w' A W:=⟨h.s.adv hb,fun x hx=>(h.i x hx).adv hb⟩
def SpansPostO (W:List WorkT) (w:World) (e:Ending) (w' : World) : Prop :=
 ∃ A c,e = .returned (.tuple #[.slice A (sortedN W).length c,.int .i64 0])∧SliceOf encSp 3 w' w'.heap.size A (sortedN W)∧Below w.heap.size w w'
theorem spans_take (W:List WorkM) (k:Nat) (h:k < W.length) : spansN ((W.take (k+1)).map WorkM.t) = spansN ((W.take k).map WorkM.t)++W[k].l.map (fun v=>(⟨W[k].d,v⟩ : SpT)):=by
 rw [List.take_succ_eq_append_getElem h,List.map_append,spansN,List.flatMap_append]
 simp [spansN,WorkM.t]
theorem map_take_one {α β : Type} (f:α→β) (l:List α) (k:Nat) (h:k < l.length) : (l.take (k+1)).map f = (l.take k).map f++[f l[k]]:=by
 rw [List.take_succ_eq_append_getElem h,List.map_append]; rfl
theorem spans_pre (W:List WorkM) (k:Nat) : (spansN ((W.take k).map WorkM.t)).length≤(spansN (W.map WorkM.t)).length:=by
 have h:W.map WorkM.t = (W.take k).map WorkM.t++(W.drop k).map WorkM.t:=by rw [← List.map_append,List.take_append_drop]
 rw [h,spansN,spansN,List.flatMap_append,List.length_append]
 omega
section
set_option maxHeartbeats 8000000
set_option maxRecDepth 100000
theorem spansO (A:Option Addr) (c:Nat) (W:List WorkM) (w:World) (hI:WorksIn w A W) (hW:SpansOk (W.map WorkM.t)) : Calls Tryz.prog 61 #[.slice A W.length c] w (SpansPostO (W.map WorkM.t) w):=by
 have HW:=Lib.hid hW
 have HI:=Lib.hid hI
 have hlw:W.length≤1024:=by simpa using hW.lenW
 have hsl:=hW.len
 have HDAY:Hid (∀ x ∈ W,0≤x.d∧x.d≤84005):=fun x hx=>hW.day x.t (List.mem_map_of_mem hx)
 have HLI:Hid (∀ x ∈ W,x.l.length≤1024):=fun x hx=>hW.lenI x.t (List.mem_map_of_mem hx)
 have HIV:Hid (∀ x ∈ W,∀ v ∈ x.l,0≤v.f∧v.f < v.t∧v.t≤120968640):=fun x hx v hv=>hW.ok ⟨x.d,v⟩ (List.mem_flatMap.2 ⟨x.t,List.mem_map_of_mem hx,List.mem_map.2 ⟨v,hv,rfl⟩⟩)
 clear hI hW
 go_enter Tryz.func61,Tryz.ntmps61
 go_wp2
 go_loopw [19] (fun i wr=>∃ k:Nat,k≤W.length∧i = .int .i64 k∧Below w.heap.size w wr) (fun i _=>W.length - (intOf i).toNat)
 case atStart=>exact ⟨0,by omega,rfl,Below.refl _ _⟩
 case round =>
  obtain ⟨k,hk,rfl,hbr⟩:=hrel
  have hbs:=hbr.size
  by_cases hlt:k < W.length
  ·
   have hli:=HLI.out _ (List.getElem_mem hlt)
   obtain ⟨q,off,rfl,hq,hc⟩:=(HI.out.s.below hbr).at_ hlt
   have c0:=hc 0 _ rfl
   have c1:=hc 1 _ rfl
   simp only [Nat.add_zero] at c0
   have hqw:q < wr.heap.size:=by omega
   have hki:(k:Int) < (W.length:Int):=by omega
   clear hc
   generalize W[k] = x at c0 c1 hli
   obtain ⟨xd,xA,xc,xl⟩:=x
   simp only at c0 c1 hli
   have hb2:=bel_alloc hbr (.cells #[.int .i64 xd,.slice xA xl.length xc] 152)
   go_wp2
   go_roundw
   case rel=>exact ⟨k+1,by omega,by go_num,hb2⟩
   case measure=>simp [intOf]; omega
  ·
   have hb0:=hbr
   have hI1:=Lib.hid (HI.out.adv hbr)
   obtain ⟨w1,rfl⟩ : ∃ w1:World,w1 = wr:=⟨_,rfl⟩
   clear hbr HI
   go_wp2
   clear hk hlt
   go_loopw [6,30] (fun v i wr=>∃ (k:Nat) (V:Value),V = v∧k≤W.length∧i = .int .i64 k∧Own encSp 3 167 wr w1.heap.size V (spansN ((W.take k).map WorkM.t))∧RowKit.Below w1.heap.size w1 wr) (fun _ i _=>W.length - (intOf i).toNat)
   case atStart=>exact ⟨0,_,rfl,by omega,rfl,by simpa [spansN] using Own.nil_ _ _,Below.refl _ _⟩
   case round =>
    obtain ⟨k,V,rfl,hk,rfl,hown,hbr⟩:=hrel
    have hbs1:=hbr.size
    by_cases hlt:k < W.length
    ·
     have hli:=HLI.out _ (List.getElem_mem hlt)
     obtain ⟨d1,d2⟩:=HDAY.out _ (List.getElem_mem hlt)
     have HVX:=Lib.hid (HIV.out _ (List.getElem_mem hlt))
     have HIX:=Lib.hid (hI1.out.i _ (List.getElem_mem hlt))
     have HT:=Lib.hid (spans_take W k hlt)
     have hpre:=spans_pre W k
     obtain ⟨q,off,rfl,hq,hc⟩:=(hI1.out.s.below hbr).at_ hlt
     have c0:=hc 0 _ rfl
     have c1:=hc 1 _ rfl
     simp only [Nat.add_zero] at c0
     have hqw:q < wr.heap.size:=by omega
     have hki:(k:Int) < (W.length:Int):=by omega
     clear hc
     generalize W[k] = x at c0 c1 hli d1 d2 HVX HIX HT
     obtain ⟨xd,xA,xc,xl⟩:=x
     simp only at c0 c1 hli d1 d2 HVX HIX HT
     have hBX:=Blk.new wr 152 #[.int .i64 xd,.slice xA xl.length xc]
     have hownA:=hown.alloc (.cells #[.int .i64 xd,.slice xA xl.length xc] 152)
     have hbrA:=bel_alloc hbr (.cells #[.int .i64 xd,.slice xA xl.length xc] 152)
     clear hown hbr
     go_wp2
     generalize hb8:wr.heap.size = b8 at hBX ⊢
     generalize wr.alloc (.cells #[.int .i64 xd,.slice xA xl.length xc] 152) = W8 at hBX hownA hbrA ⊢
     have hW8:=hbrA.size
     have HBX:=Lib.hid hBX
     have HBR:=Lib.hid hbrA
     clear hb8 hbs1 c0 c1 hqw hBX hbrA
     go_loopw [6,45] (fun v j wz=>∃ (m:Nat) (V2:Value),V2 = v∧m≤xl.length∧j = .int .i64 m∧Own encSp 3 167 wz w1.heap.size V2 (spansN ((W.take k).map WorkM.t)++(xl.take m).map (fun v=>(⟨xd,v⟩ : SpT)))∧Hid (Blk wz b8 152 #[.int .i64 xd,.slice xA xl.length xc])∧RowKit.Below w1.heap.size w1 wz) (fun _ j _=>xl.length - (intOf j).toNat)
     case atStart=>exact ⟨0,_,rfl,by omega,rfl,by simpa using hownA,HBX.out,HBR.out⟩
     case round =>
      clear hownA HBX HBR
      obtain ⟨m,V2,rfl,hm,rfl,hown,hBZ,hbz⟩:=hrel
      have hbzs:=hbz.size
      by_cases hlm:m < xl.length
      ·
       obtain ⟨g1,g2,g3⟩:=HVX.out _ (List.getElem_mem hlm)
       have HT2:=Lib.hid (map_take_one (fun v=>(⟨xd,v⟩ : SpT)) xl m hlm)
       obtain ⟨q',off',rfl,hq',hd⟩:=(HIX.out.below hbz).at_ hlm
       have e0:=hd 0 _ rfl
       have e1:=hd 1 _ rfl
       simp only [Nat.add_zero] at e0
       have hqz:q' < wr.heap.size:=by omega
       have hmi:(m:Int) < (xl.length:Int):=by omega
       clear hd
       generalize xl[m] = v at e0 e1 g1 g2 g3 HT2
       obtain ⟨vf,vt⟩:=v
       simp only at e0 e1 g1 g2 g3 HT2
       have hBX2:=hBZ.out.alloc (.cells #[.int .i64 vf,.int .i64 vt] 34)
       have hBI:=Blk.new wr 34 #[.int .i64 vf,.int .i64 vt]
       have hownB:=hown.alloc (.cells #[.int .i64 vf,.int .i64 vt] 34)
       have hbzB:=bel_alloc hbz (.cells #[.int .i64 vf,.int .i64 vt] 34)
       clear hBZ hown hbz
       go_wp2_with fail
       refine (validIvO vf vt _ g1 g2 g3).mono ?_
       rintro e w3 ⟨rfl,hb3⟩
       have hBX3:=hBX2.adv hb3
       have hBI3:=hBI.adv hb3
       have HBX3:=Lib.hid hBX3
       have HOWN3:=Lib.hid (hownB.adv hb3)
       have hbz3:=bel_adv hbzB hb3
       have HBZ3:=Lib.hid hbz3
       have HSZ:=Lib.hid hbz3.size
       have hbl3:=hBX3.lt
       have hbl4:=hBI3.lt
       have x0:=hBX3.cell 0
       have x1:=hBX3.cell 1
       simp only [nqg,nqh,nqi] at x0 x1
       have z0:=hBI3.cell 0
       have z1:=hBI3.cell 1
       simp only [nqg,nqh,nqi] at z0 z1
       have hln:(spansN ((W.take k).map WorkM.t)++(xl.take m).map (fun v=>(⟨xd,v⟩ : SpT))).length < 4294967296:=by
        rw [List.length_append,List.length_map,List.length_take]
        omega
       clear hBX2 hBI hownB hbzB hb3 hBX3 hBI3 hbz3 e0 e1
       go_wp2_with (at_builtin; go_loud (refine wpList_append_one _ _ 160 (⟨xd,⟨vf,vt⟩⟩ : SpT) _ 24 _ infoSp Tryz.underlying160 HOWN3.out encSp_len (by omega) rfl (encSp_one _) hln (by omega) HSZ.out (by rfl) (by rfl) (by rfl) (by rfl) (by simp) (by rfl) ?_); intro v2 w6 hown6 hg6)
       go_roundw
       case rel=>exact ⟨m+1,v2,rfl,by omega,by go_num,by rw [HT2.out,← List.append_assoc]; exact hown6,HBX3.out.grown hg6 (fun e=>HOWN3.out.notBlk HBX3.out (by decide) e.symm),bel_only HBZ3.out hg6 (fun g' hg'=>(HOWN3.out.block_lt hg').1)⟩
       case measure=>simp [intOf]; omega
      ·
       obtain rfl:m = xl.length:=by omega
       rw [List.take_length,← HT.out] at hown
       have HOWN:=Lib.hid hown
       clear hown hBZ
       go_wp2
       go_roundw
       case rel=>exact ⟨k+1,V2,rfl,by omega,by go_num,HOWN.out,hbz⟩
       case measure=>simp [intOf]; omega
    ·
     obtain rfl:k = W.length:=by omega
     rw [List.take_length] at hown
     obtain ⟨A2,c2,hv⟩:=hown.slice encSp_len
     subst hv
     have hbf:=bel_adv hb0 hbr
     have hb0s:=hb0.size
     have HOWN:=Lib.hid hown
     have HSL:=Lib.hid hsl
     clear hown
     go_wp2_with fail
     refine (sortSpC A2 c2 _ _ _ HOWN.out (Nat.lt_of_le_of_lt HSL.out (by omega))).mono ?_
     rintro e w4 ⟨rfl,ys,hp,hs,hS4,hg4⟩
     have hys:ys = sortedN (W.map WorkM.t):=perm_uni spC_tot hp hs HW.out.ne
     have hyl:=hp.length_eq
     have hbel4:=bel_only hbf hg4 (fun g hg=>by have:=(HOWN.out.block_lt hg).1; omega)
     have hln:ys.length≤1000000:=by rw [hyl]; exact hsl
     rw [← hyl]
     have HOKS:Hid (∀ s ∈ ys,0≤s.iv.f∧s.iv.f < s.iv.t∧s.iv.t≤120968640):=fun s hs'=>HW.out.ok s (hp.mem_iff.1 hs')
     have HASC:Hid (ys.Pairwise (fun a b=>a.iv.t≤b.iv.f)):=by rw [hys]; exact HW.out.asc
     have HTOT:Hid ((ys.map fun s=>s.iv.t - s.iv.f).sum≤100000):=by rw [hys]; exact HW.out.tot
     have HYS:=Lib.hid hys
     have HS4:=Lib.hid hS4
     clear hys hyl hp hs hS4 hg4 hsl HSL
     go_wp2
     go_loopw [11,65] (fun a i wr=>∃ (k:Nat) (M:Int),k≤ys.length∧i = .int .i64 k∧a = .int .i64 M∧0≤M∧M≤k * 120968640∧Hid (M = ((ys.take k).map fun s=>s.iv.t - s.iv.f).sum)∧RowKit.Below w4.heap.size w4 wr) (fun _ i _=>ys.length - (intOf i).toNat)
     case atStart=>exact ⟨0,0,by omega,rfl,rfl,by omega,by omega,rfl,Below.refl _ _⟩
     case round =>
      obtain ⟨k,M,hk,rfl,rfl,m1,m2,hM,hbr⟩:=hrel
      have hbs:=hbr.size
      have hx:SliceOf encSp 3 wr w4.heap.size A2 ys:=HS4.out.below hbr
      by_cases hlt:k < ys.length
      ·
       obtain ⟨g1,g2,g3⟩:=HOKS.out _ (List.getElem_mem hlt)
       have HTS:=Lib.hid (show ((ys.take (k+1)).map fun s=>s.iv.t - s.iv.f).sum = ((ys.take k).map fun s=>s.iv.t - s.iv.f).sum+(ys[k].iv.t - ys[k].iv.f) by rw [map_take_one _ _ _ hlt,List.sum_append]; simp)
       obtain ⟨b1,off1,hA1,hq,hc1⟩:=hx.at_ hlt
       have c0:=hc1 0 _ rfl
       have c1:=hc1 1 _ rfl
       have c2:=hc1 2 _ rfl
       simp only [Nat.add_zero] at c0
       have hbw:b1 < wr.heap.size:=by omega
       have hki:(k:Int) < (ys.length:Int):=by omega
       have hbx:=bel_alloc hbr (.cells #[.int .i64 ys[k].day,.int .i64 ys[k].iv.f,.int .i64 ys[k].iv.t] 167)
       rcases k with _ | m
       ·
        subst hA1
        simp only [Nat.zero_mul,Nat.add_zero] at c0 c1 c2
        clear hc1 hx
        generalize ys[0] = v at c0 c1 c2 g1 g2 g3 HTS hbx
        obtain ⟨vd,vf,vt⟩:=v
        simp only at c0 c1 c2 g1 g2 g3 HTS hbx
        go_wp2
        go_quiet (fail)
        go_wp2
        go_roundw
        case rel=>exact ⟨1,M+(vt - vf),by omega,by go_num,by go_num,by omega,by omega,by rw [Hid,HTS.out,hM.out],below_drewN hbx _⟩
        case measure=>simp [intOf]; omega
       ·
        have hlm:m < ys.length:=by omega
        have hasc:ys[m].iv.t≤ys[m+1].iv.f:=(List.pairwise_iff_getElem.1 HASC.out) m (m+1) hlm hlt (by omega)
        obtain ⟨b2,off2,hA2,hb2,hc2⟩:=hx.at_ hlm
        rw [hA1] at hA2
        injection hA2 with hA2
        injection hA2 with hA2 hA3
        subst hA2 hA3 hA1
        have d0:=hc2 0 _ rfl
        have d1:=hc2 1 _ rfl
        have d2:=hc2 2 _ rfl
        simp only [Nat.add_zero] at d0
        have hmi:(m:Int) < (ys.length:Int):=by omega
        have hp:decide ((0:Int) < (m:Int)+1) = true:=by rw [decide_eq_true_eq]; omega
        have hwr:IntKind.i64.wrap ((m:Int)+1 - 1) = (m:Int):=by rw [IntKind.wrap_i64]; omega
        clear hc1 hc2 hx
        generalize ys[m+1] = v at c0 c1 c2 g1 g2 g3 HTS hbx hasc
        generalize ys[m] = v' at d0 d1 d2 hasc
        obtain ⟨vd,vf,vt⟩:=v
        obtain ⟨vd',vf',vt'⟩:=v'
        simp only at c0 c1 c2 d0 d1 d2 g1 g2 g3 HTS hbx hasc
        have hna:¬ vf < vt':=by omega
        go_wp2
        go_quiet (fail)
        go_wp2
        go_roundw
        case rel=>exact ⟨m+2,M+(vt - vf),by omega,by go_num,by go_num,by omega,by omega,by rw [Hid,HTS.out,hM.out],below_drewN hbx _⟩
        case measure=>simp [intOf]; omega
      ·
       obtain rfl:k = ys.length:=by omega
       have hM2:=hM.out
       rw [List.take_length] at hM2
       have hM3:M≤100000:=by rw [hM2]; exact HTOT.out
       clear hM hM2
       go_wp2
       go_ret2
       exact ⟨A2,c2,by rw [HYS.out]; rfl,by rw [← HYS.out]; exact HS4.out.adv hbr,bel_adv hbel4 hbr⟩
end
end Go.Proofs.YtopekilofdadnaaGreatDoor
namespace Go.Proofs.YtopekilofdadnaaGreatDoor
open Go.RowKit Go.Sort Go.Shelf
theorem findB_bd {n lo : Int} : ∀ {l:List BandT} {i:Int},ascB lo l→-1≤lo→0≤n→(findB n i l).2≤100000
 | [],_,_,_,_=>by simp [findB]
 | b :: r,i,h,hl,hn=>by
  rw [findB]
  split
  ·
   show b.after - n≤_
   have:=h.2.1
   omega
  ·
   exact findB_bd h.2.2.2 (by have:=h.1; omega) hn
theorem findB_step {n i : Int} {l:List BandT} {k:Nat} (h:k < l.length) : findB n i (l.drop k) = if n < l[k].after then (i - 1,l[k].after - n) else findB n (i+1) (l.drop (k+1)):=by
 rw [drop_head l k h,findB]
def KeepT (w w' : World) : Prop:=∀ g t cs,Blk w g t cs→t ≠ 165→t ≠ 172→Blk w' g t cs
theorem KeepT.refl (w:World) : KeepT w w:=fun _ _ _ h _ _=>h
theorem KeepT.trans {a b c : World} (h:KeepT a b) (k:KeepT b c) : KeepT a c:=fun g t cs hb h1 h2=>k g t cs (h g t cs hb h1 h2) h1 h2
theorem KeepT.adv {a b : World} (h:Below a.heap.size a b) : KeepT a b:=fun _ _ _ hb _ _=>hb.adv h
theorem KeepT.map {w w' : World} {κ:Type} {P:Program} {k:TypeId} {E:KeyE P k κ} {g n : Nat} {f:κ→Option Value} (hm:MapAt E w g n f) (hg:w.grownBy w' (some g)) : KeepT w w':=fun q t cs hb _ _=>hb.grown hg (fun e=>by
 injection e with e
 subst e
 obtain ⟨D,⟨es,clock,h1,_⟩,_⟩:=hm
 unfold Blk at hb
 rw [h1] at hb
 cases hb)
theorem KeepT.blk {w w' : World} {g:Nat} {t:TypeId} {cs:Array Value} (hB:Blk w g t cs) (ht:t = 165 ∨ t = 172) (hg:w.grownBy w' (some g)) : KeepT w w':=fun q u ds hb h1 h2=>hb.grown hg (fun e=>by
 injection e with e
 subst e
 unfold Blk at hb hB
 rw [hB] at hb
 injection hb with hb
 injection hb with _ hb
 subst hb
 rcases ht with h | h
 ·
  exact h1 h
 ·
  exact h2 h)
theorem KeepT.own {w w' : World} {base:Nat} {v:Value} {l:List PcT} (ho:Own encPc 4 172 w base v l) (hg:w.grownBy w' v.ownBlock) : KeepT w w':=fun q u ds hb h1 h2=>hb.grown hg (fun e=>by
 obtain ⟨cur,hc⟩:=ho.obj e.symm
 unfold Blk at hb
 rw [hc] at hb
 injection hb with hb
 injection hb with _ hb
 exact h2 hb.symm)
def ReadsI (w:World) (g n : Nat) (m:Int→Int) : Prop:=∃ f,MapAt keyI w g n f∧∀ x,(f x).getD (.int .i64 0) = .int .i64 (m x)
theorem ReadsI.kept {w w' : World} {g n : Nat} {m:Int→Int} {row:Option Nat} (h:ReadsI w g n m) (hg:w.grownBy w' row) (hne:some g ≠ row) : ReadsI w' g n m:=by
 obtain ⟨f,h1,h2⟩:=h
 exact ⟨f,h1.kept hg hne,h2⟩
theorem ReadsI.adv {w w' : World} {g n : Nat} {m:Int→Int} (h:ReadsI w g n m) (hb:Below w.heap.size w w') : ReadsI w' g n m:=h.kept (only_of_below hb none) (by simp)
theorem ReadsI.mono {w:World} {g n k : Nat} {m:Int→Int} (h:ReadsI w g n m) (hn:n≤k) : ReadsI w g k m:=by
 obtain ⟨f,h1,h2⟩:=h
 exact ⟨f,h1.mono hn,h2⟩
theorem ReadsI.get {w:World} {g n : Nat} {m:Int→Int} (h:ReadsI w g n m) (x:Int) (hx : (Lit.int .i64 x).wf = true) : (Instr.lookup 163 (.map (some g)) (.int .i64 x) false).run Tryz.prog w = .ok (.int .i64 (m x)) w:=by
 obtain ⟨f,h1,h2⟩:=h
 have:=h1.get Tryz.underlying163 (zeroInt w) (x:=x) hx
 rw [h2 x] at this
 exact this
section
variable {ops:Array Oper} {rest:List Oper} {o:Oper} {a:Act} {Q:Exit→Act→World→Prop} {w:World} {b n:Nat} {m:Int→Int}
theorem wpList_readI (hg:o.guard = none) (mo y : Operand) (hop:o.op = Op.lookup 163 mo y false) (h:ReadsI w b n m) (x:Int) (hx : (Lit.int .i64 x).wf = true) (hm:a.eval mo = .map (some b)) (hy:a.eval y = .int .i64 x) (v:Int) (hv:m x = v)
  (hK:wpList Tryz.prog ops Q rest (a.put o.dst (.int .i64 v)) w) : wpList Tryz.prog ops Q (o :: rest) a w:=by
 obtain ⟨f,h1,h2⟩:=h
 exact wpList_get (E:=keyI) hg mo y _ hop Tryz.underlying163 (.int .i64 0) (zeroInt w) h1 x hx hm hy _ (by rw [h2 x,hv]) hK
theorem wpList_setI (hg:o.guard = none) (mo y u : Operand) (hop:o.op = Op.mapUpdate 163 mo y u) (h:ReadsI w b n m) (hn:n < maxLen) (x v : Int) (hx : (Lit.int .i64 x).wf = true) (hm:a.eval mo = .map (some b)) (hy:a.eval y = .int .i64 x) (hu:a.eval u = .int .i64 v)
  (hK:∀ w',ReadsI w' b (n+1) (upd m x v)→w.grownBy w' (some b)→KeepT w w'→wpList Tryz.prog ops Q rest (a.put o.dst undef) w') : wpList Tryz.prog ops Q (o :: rest) a w:=by
 obtain ⟨f,h1,h2⟩:=h
 refine wpList_set (E:=keyI) (fun y=>if y = x then some (.int .i64 v) else f y) hg mo y u _ hop Tryz.underlying163 h1 hn x hx (.int .i64 v) hm hy hu (if_pos rfl) (fun y hy=>if_neg hy) fun w' r1 r2=>hK w' ⟨_,r1,fun y=>?_⟩ r2 (KeepT.map h1 r2)
 unfold upd
 by_cases e:y = x
 ·
  rw [if_pos e,if_pos e]; rfl
 ·
  rw [if_neg e,if_neg e]; exact h2 y
end
section
set_option maxHeartbeats 8000000
set_option maxRecDepth 100000
theorem findO (A:Option Addr) (c:Nat) (l:List BandT) (n:Int) (w:World) (hS:SliceOf encBd 2 w w.heap.size A l) (hl:l.length≤16) (ha:ascB (-1) l) (hn:0≤n∧n≤1000000) :
  Calls Tryz.prog 101 #[.slice A l.length c,.int .i64 n] w fun e w'=>e = .returned (.tuple #[.int .i64 (findB n 0 l).1,.int .i64 (findB n 0 l).2])∧Below w.heap.size w w':=by
 obtain ⟨n1,n2⟩:=hn
 have HA:=Lib.hid ha
 clear ha
 go_enter Tryz.func101,Tryz.ntmps101
 go_wp2
 go_loopw [10] (fun i wr=>∃ (k:Nat) (L:Int),k≤l.length∧i = .int .i64 k∧-1≤L∧Hid (ascB L (l.drop k))∧Hid (findB n 0 l = findB n k (l.drop k))∧Below w.heap.size w wr) (fun i _=>l.length - (intOf i).toNat)
 case atStart=>exact ⟨0,-1,by omega,rfl,by omega,HA.out,rfl,Below.refl _ _⟩
 case round =>
  obtain ⟨k,L,hk,rfl,hL,hp,hE,hbr⟩:=hrel
  have hbs:=hbr.size
  by_cases hlt:k < l.length
  ·
   have hp1:=hp.out
   rw [drop_head l k hlt] at hp1
   obtain ⟨g1,g2,_,g4⟩:=hp1
   have HG:=Lib.hid g4
   have hst:=findB_step (n:=n) (i:=(k:Int)) hlt
   rw [← hE.out] at hst
   have HST:=Lib.hid hst
   obtain ⟨q,off,rfl,hq,hc⟩:=(hS.below hbr).at_ hlt
   have c0:=hc 0 _ rfl
   have c1:=hc 1 _ rfl
   simp only [Nat.add_zero] at c0
   clear hc hp g4 hE hst
   generalize l[k] = x at c0 c1 g1 g2 HG HST
   obtain ⟨nm,af⟩:=x
   simp only at c0 c1 g1 g2 HG HST
   have hqw:q < wr.heap.size:=by omega
   have hki:(k:Int) < (l.length:Int):=by omega
   have hb2:=bel_alloc hbr (.cells #[.string nm,.int .i64 af] 92)
   by_cases hna:n < af
   ·
    have HR:Hid (findB n 0 l = ((k:Int) - 1,af - n)):=by rw [Hid,HST.out,if_pos hna]
    clear HST
    go_wp2
    go_quiet (fail)
    go_wp2
    go_ret2
    exact ⟨by rw [HR.out]; go_num,below_drewN hb2 _⟩
   ·
    have HR:Hid (findB n 0 l = findB n (k+1:Nat) (l.drop (k+1))):=by rw [Hid,HST.out,if_neg hna]; rfl
    clear HST
    go_wp2
    go_roundw
    case rel=>exact ⟨k+1,af,by omega,by go_num,by omega,HG.out,HR.out,hb2⟩
    case measure=>simp [intOf]; omega
  ·
   obtain rfl:k = l.length:=by omega
   have HR:Hid (findB n 0 l = ((l.length:Int) - 1,100000)):=by
    have:=hE.out
    rw [List.drop_length] at this
    exact this
   clear hp hE
   go_wp2
   go_ret2
   exact ⟨by rw [HR.out]; go_num,hbr⟩
end
end Go.Proofs.YtopekilofdadnaaGreatDoor
