/- Joined texts: TgP2. Conditions: as stated. -/
import Derived.WalkSpells
import Derived.WalkLawsBesides
import Derived.Test.YtopekilofdadnaaGreatDoorJLeaf
import Derived.Test.YtopekilofdadnaaGreatDoorJTgP
namespace Go.Proofs.YtopekilofdadnaaGreatDoor
open Go.RowKit
section
set_option maxHeartbeats 2000000
set_option maxRecDepth 100000
structure StOk (l:List StampT) : Prop where
 len:l.length≤1024
 r:∀ s ∈ l,(0≤s.time∧s.time≤120968639)∧1≤s.kind∧s.kind≤4
 asc:l.Pairwise (fun a b=>a.time≤b.time)
theorem checkP (A:Option Addr) (c:Nat) (L:Int) (l:List StampT) (w:World) (hS:SliceOf encSt 4 w w.heap.size A l) (hl:StOk l) (hL:1≤L∧L≤10080) :
  Calls Tryz.prog 45 #[.slice A l.length c,.int .i64 L] w fun e w'=>e = .returned (.int .i64 0)∧Below w.heap.size w w':=by
 have HL:=Lib.hid hl
 have hlen:=hl.len
 obtain ⟨L1,L2⟩:=hL
 clear hl
 go_enter Tryz.func45,Tryz.ntmps45
 go_wp2
 go_loopw [5,19] (fun b i wr=>∃ (k:Nat) (B:Int),k≤l.length∧i = .int .i64 k∧b = .int .i64 B∧Hid (∀ s ∈ l.drop k,B≤s.time)∧Below w.heap.size w wr) (fun _ i _=>l.length - (intOf i).toNat)
 case atStart=>exact ⟨0,0,by omega,rfl,rfl,fun s hs=>(HL.out.r s (List.mem_of_mem_drop hs)).1.1,Below.refl _ _⟩
 case round =>
  obtain ⟨k,B,hk,rfl,rfl,hb,hbr⟩:=hrel
  have hbs:=hbr.size
  by_cases hlt:k < l.length
  ·
   have hx:SliceOf encSt 4 wr w.heap.size A l:=hS.below hbr
   obtain ⟨⟨h1,h2⟩,h3,h4⟩:=HL.out.r _ (List.getElem_mem hlt)
   have h5:=hb.out l[k] (by rw [drop_head l k hlt]; exact List.mem_cons_self)
   have HN:Hid (∀ s ∈ l.drop (k+1),l[k].time≤s.time):=fun s hs=>by
    have:=HL.out.asc
    rw [← List.take_append_drop k l,drop_head l k hlt] at this
    exact (List.pairwise_cons.1 (List.pairwise_append.1 this).2.1).1 s hs
   obtain ⟨q,off,rfl,hq,hc⟩:=hx.at_ hlt
   have c0:=hc 0 _ rfl
   have c1:=hc 1 _ rfl
   have c2:=hc 2 _ rfl
   have c3:=hc 3 _ rfl
   simp only [Nat.add_zero] at c0
   have hqw:q < wr.heap.size:=by omega
   have hki:(k:Int) < (l.length:Int):=by omega
   have h6:¬ l[k].time < B:=by omega
   clear hc hx hb
   go_wp2
   go_roundw
   case rel=>exact ⟨k+1,_,by omega,by go_num,rfl,HN,bel_alloc hbr _⟩
   case measure=>simp [intOf]; omega
  ·
   clear hb
   go_wp2
   go_ret
   exact ⟨rfl,hbr⟩
def PairPost (L:Int) (l:List StampT) (w:World) (e:Ending) (w' : World) : Prop :=
 ∃ A c B d,∃ ps:List PresM,e = .returned (.tuple #[.slice A ps.length c,.slice B (pairN L l).2.length d,.int .i64 0])∧ps.map PresM.p = (pairN L l).1∧SliceOf encPr 3 w' w'.heap.size A ps∧(∀ x ∈ ps,x.In w')∧SliceOf encAn 2 w' w'.heap.size B (pairN L l).2∧Below w.heap.size w w'
theorem pairTo_take (L:Int) (l:List StampT) (k:Nat) (h:k < l.length) : pairTo L (l.take (k+1)) = (pairTo L (l.take k)).read L l[k].time l[k].kind:=by
 rw [List.take_succ_eq_append_getElem h]
 unfold pairTo
 rw [List.foldl_append]
 rfl
theorem pairP (A:Option Addr) (c:Nat) (L:Int) (l:List StampT) (w:World) (hS:SliceOf encSt 4 w w.heap.size A l) (hl:StOk l) (hL:1≤L∧L≤10080) :
  Calls Tryz.prog 20 #[.slice A l.length c,.int .i64 L] w (PairPost L l w):=by
 have HL:=Lib.hid hl
 have hlen:=hl.len
 have HLL:=Lib.hid hL
 clear hl hL
 go_enter Tryz.func20,Tryz.ntmps20
 go_wp2_with fail
 refine (checkP A c L l _ hS HL.out HLL.out).mono ?_
 rintro e w1 ⟨rfl,hb1⟩
 have hS1:=hS.adv hb1
 have hbs1:=hb1.size
 go_wp2
 have hP0:PairIn (w1.alloc (.cells #[.int .i64 L,.int .i64 0,.int .i64 0,.int .i64 0,.slice none 0 0,.slice none 0 0,.slice none 0 0] 134)) w1.heap.size L (pairTo L (l.take 0)) :=
  ⟨.slice none 0 0,.slice none 0 0,.slice none 0 0,[],Blk.new _ _ _,Own.nil_ _ _,Own.nil_ _ _,rfl,Own.nil_ _ _,fun x hx=>(by cases hx),fun x hx=>(by cases hx)⟩
 have hB0:PairB L (pairTo L (l.take 0)) 0:=⟨HLL.out,.inl rfl,(by show (0:Int)≤0∧(0:Int)≤120968639; omega),(by show (0:Int)≤0∧(0:Int)≤120968639; omega),Nat.le_refl _,Nat.le_refl _,Nat.le_refl _⟩
 have hbel0:=bel_adv hb1 (below_new w1 (.cells #[.int .i64 L,.int .i64 0,.int .i64 0,.int .i64 0,.slice none 0 0,.slice none 0 0,.slice none 0 0] 134))
 go_loopw [21] (fun i wr=>∃ k:Nat,k≤l.length∧i = .int .i64 k∧PairIn wr w1.heap.size L (pairTo L (l.take k))∧Hid (PairB L (pairTo L (l.take k)) (3 * k))∧Below w1.heap.size w1 wr) (fun i _=>l.length - (intOf i).toNat)
 case atStart=>exact ⟨0,by omega,rfl,hP0,hB0,below_new _ _⟩
 case round =>
  clear hP0 hB0 hbel0
  obtain ⟨k,hk,rfl,hP,hPB,hbr⟩:=hrel
  have hbs:=hbr.size
  have hPl:=hP.lt
  by_cases hlt:k < l.length
  ·
   have hx:SliceOf encSt 4 wr w1.heap.size A l:=hS1.below hbr
   have hr:=HL.out.r _ (List.getElem_mem hlt)
   have HR:=Lib.hid hr
   have HT:=Lib.hid (pairTo_take L l k hlt)
   have HP:=Lib.hid hP
   obtain ⟨q,off,rfl,hq,hc⟩:=hx.at_ hlt
   have c0:=hc 0 _ rfl
   have c1:=hc 1 _ rfl
   have c2:=hc 2 _ rfl
   have c3:=hc 3 _ rfl
   simp only [Nat.add_zero] at c0
   have hqw:q < wr.heap.size:=by omega
   have hki:(k:Int) < (l.length:Int):=by omega
   clear hc hx hr hP
   go_wp2_with fail
   refine (readP w1.heap.size (3 * k) L l[k].time l[k].kind l[k].key.term l[k].key.seq (pairTo L (l.take k)) _ (HP.out.adv (below_new wr _)) hPB.out (by omega) HR.out.1 HR.out.2).mono ?_
   rintro e w2 ⟨rfl,hP2,hS2⟩
   have HP2:=Lib.hid hP2
   clear hP2
   go_wp2
   go_roundw
   case rel =>
    refine ⟨k+1,by omega,by go_num,by rw [HT.out]; exact HP2.out,by rw [Hid,HT.out,Nat.mul_add]; exact hPB.out.read HR.out.1 _,(bel_alloc hbr _).trans hS2.bel⟩
   case measure=>simp [intOf]; omega
  ·
   obtain rfl:k = l.length:=by omega
   rw [List.take_length] at hP hPB
   have HPB:=Lib.hid hPB.out
   have hfin:pairN L l = ((pairFin (pairTo L l)).ps,(pairFin (pairTo L l)).an):=rfl
   have HF:=Lib.hid hfin
   clear hfin hPB
   generalize pairTo L l = p at hP HPB HF
   have HP:=Lib.hid hP
   obtain ⟨vb,vp,va,ps,hA⟩:=hP
   have hy:=hA.blk
   have HA:=Lib.hid hA
   obtain ⟨Ap,cp,rfl⟩:=hA.op.slice encPr_len
   obtain ⟨Aa,ca,rfl⟩:=hA.oa.slice encAn_len
   have y0:=hy.cell 0
   have y1:=hy.cell 1
   have y2:=hy.cell 2
   have y3:=hy.cell 3
   have y4:=hy.cell 4
   have y5:=hy.cell 5
   have y6:=hy.cell 6
   simp only [nqg,nqh,nqi] at y0 y1 y2 y3 y4 y5 y6
   clear hA hy
   by_cases hst:p.st = 0
   ·
    have hn0:(p.st != 0) = false:=by simp [hst]
    have HQ:Hid (pairN L l = (p.ps,p.an)):=by rw [Hid,HF.out,pairFin,if_pos hst]
    clear hst HF
    go_wp2
    go_quiet (fail)
    go_wp2
    obtain ⟨A1,c1,e1,hs1,_,_⟩:=HA.out.op.form encPr_len
    obtain ⟨A2,c2,e2,hs2,_,_⟩:=HA.out.oa.form encAn_len
    injection e1 with e1 _ _
    injection e2 with e2 _ _
    subst e1 e2
    refine bodyPost_ret (v:=.tuple #[.slice Ap ps.length cp,.slice Aa p.an.length ca,.int .i64 0]) (by simp [results,Tryz.results20,go_sem]) rfl ⟨Ap,cp,Aa,ca,ps,by rw [HQ.out],by rw [HQ.out]; exact HA.out.ep,hs1,fun x hx=>?_,by rw [HQ.out]; exact hs2,below_drewN (bel_adv hb1 hbr) _⟩
    obtain ⟨A3,c3,e3,hs3,_,_⟩:=(HA.out.ox x hx).form encIv_len
    unfold PresM.bv at e3
    injection e3 with e3 _ _
    subst e3
    exact hs3
   ·
    have hn0:(p.st != 0) = true:=by simp [hst]
    have HQ:Hid (pairN L l = ((p.rep 1 p.beg).ps,(p.rep 1 p.beg).an)):=by rw [Hid,HF.out,pairFin,if_neg hst]
    clear hst HF
    go_wp2_with fail
    refine (reportP w1.heap.size (3 * l.length) L 1 p.beg p _ HP.out HPB.out (by omega)).mono ?_
    rintro e w2 ⟨rfl,⟨vb2,vp2,va2,ps2,hA2⟩,hS2⟩
    have hy:=hA2.blk
    have HA2:=Lib.hid hA2
    obtain ⟨Ap2,cp2,rfl⟩:=hA2.op.slice encPr_len
    obtain ⟨Aa2,ca2,rfl⟩:=hA2.oa.slice encAn_len
    clear y0 y1 y2 y3 y4 y5 y6
    have y0:=hy.cell 0
    have y1:=hy.cell 1
    have y2:=hy.cell 2
    have y3:=hy.cell 3
    have y4:=hy.cell 4
    have y5:=hy.cell 5
    have y6:=hy.cell 6
    simp only [nqg,nqh,nqi] at y0 y1 y2 y3 y4 y5 y6
    have hbel2:=hbr.trans hS2.bel
    clear hA2 hy hS2
    go_wp2
    go_quiet (fail)
    go_wp2
    obtain ⟨A1,c1,e1,hs1,_,_⟩:=HA2.out.op.form encPr_len
    obtain ⟨A2,c2,e2,hs2,_,_⟩:=HA2.out.oa.form encAn_len
    injection e1 with e1 _ _
    injection e2 with e2 _ _
    subst e1 e2
    refine bodyPost_ret (v:=.tuple #[.slice Ap2 ps2.length cp2,.slice Aa2 (p.rep 1 p.beg).an.length ca2,.int .i64 0]) (by simp [results,Tryz.results20,go_sem]) rfl ⟨Ap2,cp2,Aa2,ca2,ps2,by rw [HQ.out],by rw [HQ.out]; exact HA2.out.ep,hs1,fun x hx=>?_,by rw [HQ.out]; exact hs2,below_drewN (bel_adv hb1 hbel2) _⟩
    obtain ⟨A3,c3,e3,hs3,_,_⟩:=(HA2.out.ox x hx).form encIv_len
    unfold PresM.bv at e3
    injection e3 with e3 _ _
    subst e3
    exact hs3
theorem withinP (f t a b : Int) (w:World) (h1:a≤f) (h2:f < t) (h3:t≤b) : Calls Tryz.prog 86 #[.agg #[.int .i64 f,.int .i64 t],.int .i64 a,.int .i64 b] w fun e w'=>e = .returned (.bool true)∧Below w.heap.size w w':=by
 go_enter Tryz.func86,Tryz.ntmps86
 go_wp2
 go_ret
 exact ⟨by simp,below_new _ _⟩
structure PrsIn (w:World) (A:Option Addr) (ps:List PresM) : Prop where
 s:SliceOf encPr 3 w w.heap.size A ps
 i:∀ x ∈ ps,x.In w
 ok:prOk 0 120968640 (ps.map PresM.p)
 len:ps.length≤1024
 br:∀ x ∈ ps,x.br.length≤1024
theorem PrsIn.adv {w w' : World} {A:Option Addr} {ps:List PresM} (h:PrsIn w A ps) (hb:Below w.heap.size w w') : PrsIn w' A ps:=⟨h.s.adv hb,fun x hx=>(h.i x hx).adv hb,h.ok,h.len,h.br⟩
theorem validP (A:Option Addr) (c:Nat) (ps:List PresM) (w:World) (h:PrsIn w A ps) :
  Calls Tryz.prog 48 #[.slice A ps.length c] w fun e w'=>e = .returned (.int .i64 0)∧Below w.heap.size w w':=by
 have HH:=Lib.hid h
 have hlen:=h.len
 clear h
 go_enter Tryz.func48,Tryz.ntmps48
 go_wp2
 go_loopw [3,13] (fun b i wr=>∃ (k:Nat) (B:Int),k≤ps.length∧i = .int .i64 k∧b = .int .i64 B∧Hid (prOk B 120968640 ((ps.drop k).map PresM.p))∧Below w.heap.size w wr) (fun _ i _=>ps.length - (intOf i).toNat)
 case atStart=>exact ⟨0,0,by omega,rfl,rfl,HH.out.ok,Below.refl _ _⟩
 case round =>
  obtain ⟨k,B,hk,rfl,rfl,hp,hbr⟩:=hrel
  have hbs:=hbr.size
  by_cases hlt:k < ps.length
  ·
   have hx:SliceOf encPr 3 wr w.heap.size A ps:=HH.out.s.below hbr
   have hd:=drop_head ps k hlt
   have hp1:=hp.out
   rw [hd] at hp1
   obtain ⟨h1,h2,h3,h4⟩:=hp1
   have hI:=HH.out.i _ (List.getElem_mem hlt)
   have hbl:=HH.out.br _ (List.getElem_mem hlt)
   obtain ⟨q,off,rfl,hq,hc⟩:=hx.at_ hlt
   have c0:=hc 0 _ rfl
   have c1:=hc 1 _ rfl
   have c2:=hc 2 _ rfl
   simp only [Nat.add_zero] at c0
   clear hc hx hp hd
   generalize ps[k] = x at c0 c1 c2 h1 h2 h3 h4 hI hbl
   obtain ⟨xf,xt,xA,xc,xb⟩:=x
   have h1:B≤xf:=h1
   have h2:xf < xt:=h2
   have h3:brOk xf xt xb:=h3
   have HN:Hid (prOk xt 120968640 ((ps.drop (k+1)).map PresM.p)):=h4
   have h5:xt≤120968640:=prOk_le h4
   have hbl:xb.length≤1024:=hbl
   have hI:SliceOf encIv 2 wr w.heap.size xA xb:=(show SliceOf encIv 2 w w.heap.size xA xb from hI).below hbr
   have c0:wr.cell? ⟨q,off+k * 3,none⟩ = some (.int .i64 xf):=c0
   have c1:wr.cell? ⟨q,off+k * 3+1,none⟩ = some (.int .i64 xt):=c1
   have c2:wr.cell? ⟨q,off+k * 3+2,none⟩ = some (.slice xA xb.length xc):=c2
   have hqw:q < wr.heap.size:=by omega
   have hki:(k:Int) < (ps.length:Int):=by omega
   have H3:=Lib.hid h3
   have hI1:SliceOf encIv 2 (wr.alloc (.cells #[.int .i64 xf,.int .i64 xt,.slice xA xb.length xc] 81)) w.heap.size xA xb:=hI.below ((below_new wr _).mono hbs)
   have hBX:=Blk.new wr 81 #[.int .i64 xf,.int .i64 xt,.slice xA xb.length xc]
   have hbr1:=bel_alloc hbr (.cells #[.int .i64 xf,.int .i64 xt,.slice xA xb.length xc] 81)
   clear h4 h3 hI
   go_wp2_with fail
   refine (withinP xf xt B 120968640 _ h1 h2 h5).mono ?_
   rintro e w2 ⟨rfl,hb2⟩
   have hBX2:=hBX.adv hb2
   have hI2:=hI1.below (hb2.mono (by have:=hbr1.size; exact this))
   have hbr2:=bel_adv hbr1 hb2
   have hbs2:=hbr2.size
   have hXl:=hBX2.lt
   have x0:=hBX2.cell 0
   have x1:=hBX2.cell 1
   have x2:=hBX2.cell 2
   simp only [nqg,nqh,nqi] at x0 x1 x2
   have HBX2:=Lib.hid hBX2
   have hwl:=hb2.size
   have hbs1:=hbr1.size
   clear hb2 hBX hBX2 hI1 hbr1
   go_wp2
   obtain ⟨wo,rfl⟩ : ∃ wo:World,wo = wr:=⟨_,rfl⟩
   go_loopw [3,34] (fun b i wz=>∃ (m:Nat) (C:Int),m≤xb.length∧i = .int .i64 m∧b = .int .i64 C∧Hid (brOk C xt (xb.drop m))∧Below w2.heap.size w2 wz) (fun _ i _=>xb.length - (intOf i).toNat)
   case atStart=>exact ⟨0,xf,by omega,rfl,rfl,H3.out,Below.refl _ _⟩
   case round =>
    obtain ⟨m,C,hm,rfl,rfl,hq2,hbz⟩:=hrel
    have hbzs:=hbz.size
    have hBZ:=HBX2.out.adv hbz
    have y0:=hBZ.cell 0
    have y1:=hBZ.cell 1
    have y2:=hBZ.cell 2
    simp only [nqg,nqh,nqi] at y0 y1 y2
    clear hBZ x0 x1 x2
    by_cases hlm:m < xb.length
    ·
     have hx:SliceOf encIv 2 wr w.heap.size xA xb:=hI2.below (hbz.mono hbs2)
     have hd:=drop_head xb m hlm
     have hp1:=hq2.out
     rw [hd] at hp1
     obtain ⟨g1,g2,g3⟩:=hp1
     obtain ⟨q',off',rfl,hq',hc⟩:=hx.at_ hlm
     have d0:=hc 0 _ rfl
     have d1:=hc 1 _ rfl
     simp only [Nat.add_zero] at d0
     clear hc hx hq2 hd
     generalize xb[m] = v at d0 d1 g1 g2 g3
     obtain ⟨vf,vt⟩:=v
     have g1:C≤vf:=g1
     have g2:vf < vt:=g2
     have HG:Hid (brOk vt xt (xb.drop (m+1))):=g3
     have g4:vt≤xt:=brOk_le g3
     have d0:wr.cell? ⟨q',off'+m * 2,none⟩ = some (.int .i64 vf):=d0
     have d1:wr.cell? ⟨q',off'+m * 2+1,none⟩ = some (.int .i64 vt):=d1
     have hqw':q' < wr.heap.size:=by omega
     have hbw:wo.heap.size < wr.heap.size:=by omega
     have hmi:(m:Int) < (xb.length:Int):=by omega
     have hbz1:=bel_alloc hbz (.cells #[.int .i64 vf,.int .i64 vt] 34)
     have hBV:=Blk.new wr 34 #[.int .i64 vf,.int .i64 vt]
     clear g3 c0 c1 c2
     go_wp2_with fail
     refine (withinP vf vt C xt _ g1 g2 g4).mono ?_
     rintro e w3 ⟨rfl,hb3⟩
     have hbz3:=bel_adv hbz1 hb3
     have hBV3:=hBV.adv hb3
     have v0:=hBV3.cell 0
     have v1:=hBV3.cell 1
     simp only [nqg,nqh,nqi] at v0 v1
     clear hb3 hBV hBV3 hbz1
     go_wp2
     go_roundw
     case rel=>exact ⟨m+1,vt,by omega,by go_num,rfl,HG,hbz3⟩
     case measure=>simp [intOf]; omega
    ·
     clear hq2
     go_wp2
     go_roundw
     case rel=>exact ⟨k+1,xt,by omega,by go_num,rfl,HN,bel_adv hbr2 hbz⟩
     case measure=>simp [intOf]; omega
  ·
   clear hp
   go_wp2
   go_ret
   exact ⟨rfl,hbr⟩
theorem slice_lit {α:Type} {enc:α→List Value} {k:Nat} (hk : ∀ x,(enc x).length = k) (w:World) (xs:List α) (e:TypeId) {cs:Array Value} (hcs:cs = (xs.flatMap enc).toArray) (hl:xs.length≤1000000) : SliceOf enc k (w.alloc (.cells cs e)) (w.alloc (.cells cs e)).heap.size (some ⟨w.heap.size,0,none⟩) xs:=by
 obtain ⟨A,c,hv,hs,_,_⟩:=(Own.lit hk w xs cs e hcs hl (Nat.le_refl _)).form hk
 injection hv with hv _ _
 subst hv
 exact hs
theorem sumIv_take (l:List IvT) (k:Nat) (h:k < l.length) : sumIv (l.take (k+1)) = sumIv (l.take k)+(l[k].t - l[k].f):=by
 rw [List.take_succ_eq_append_getElem h,sumIv_app,sumIv_cons,sumIv_nil]; omega
theorem minutesP (x:PresM) (w:World) (hI:x.In w) (ok:prOk 0 120968640 [x.p]) (hb:x.br.length≤1024) :
  Calls Tryz.prog 21 #[.agg #[.int .i64 x.f,.int .i64 x.t,.slice x.A x.br.length x.c]] w fun e w'=>e = .returned (.int .i64 (minN x.p))∧Below w.heap.size w w':=by
 obtain ⟨h1,h2,h3,h4⟩:=ok
 have HI:=Lib.hid hI
 have OK:Hid (prOk 0 120968640 ([x].map PresM.p)):=⟨h1,h2,h3,h4⟩
 obtain ⟨xf,xt,xA,xc,xb⟩:=x
 have h1:0≤xf:=h1
 have h2:xf < xt:=h2
 have h5:xt≤120968640:=prOk_le h4
 have HB:Hid (brOk xf xt xb):=h3
 have hbl:xb.length≤1024:=hb
 have hS1:=(SliceOf.advA (show SliceOf encIv 2 w w.heap.size xA xb from hI) (.cells #[.int .i64 xf,.int .i64 xt,.slice xA xb.length xc] 81)).advA (.cells #[.int .i64 xf,.int .i64 xt,.slice xA xb.length xc] 81)
 have hSL:=slice_lit encPr_len (w.alloc (.cells #[.int .i64 xf,.int .i64 xt,.slice xA xb.length xc] 81)) [⟨xf,xt,xA,xc,xb⟩] 81 (cs:=#[.int .i64 xf,.int .i64 xt,.slice xA xb.length xc]) rfl (by simp)
 have hBX:=(Blk.new w 81 #[.int .i64 xf,.int .i64 xt,.slice xA xb.length xc]).alloc (.cells #[.int .i64 xf,.int .i64 xt,.slice xA xb.length xc] 81)
 have hbel0:=bel_alloc (below_new w (.cells #[.int .i64 xf,.int .i64 xt,.slice xA xb.length xc] 81)) (.cells #[.int .i64 xf,.int .i64 xt,.slice xA xb.length xc] 81)
 have hsz:(w.alloc (.cells #[.int .i64 xf,.int .i64 xt,.slice xA xb.length xc] 81)).heap.size = w.heap.size+1:=World.size_alloc _ _
 rw [hsz] at hSL
 clear hsz
 have hPR:PrsIn ((w.alloc (.cells #[.int .i64 xf,.int .i64 xt,.slice xA xb.length xc] 81)).alloc (.cells #[.int .i64 xf,.int .i64 xt,.slice xA xb.length xc] 81)) (some ⟨w.heap.size+1,0,none⟩) [⟨xf,xt,xA,xc,xb⟩] :=
  ⟨hSL,fun y hy=>by rw [List.mem_singleton] at hy; subst hy; exact hS1,OK.out,by simp,fun y hy=>by rw [List.mem_singleton] at hy; subst hy; exact hbl⟩
 have HPR:=Lib.hid hPR
 have HM:Hid (minN (PresM.mk xf xt xA xc xb).p = xt - xf - sumIv xb):=rfl
 clear hI h3 h4 hb hSL hPR
 show Calls Tryz.prog 21 #[.agg #[.int .i64 xf,.int .i64 xt,.slice xA xb.length xc]] w _
 go_enter Tryz.func21,Tryz.ntmps21
 go_wp2_with fail
 refine (validP (some ⟨w.heap.size+1,0,none⟩) 1 [⟨xf,xt,xA,xc,xb⟩] _ HPR.out).mono ?_
 rintro e w1 ⟨rfl,hb1⟩
 have hB1:=hBX.adv hb1
 have hS2:=hS1.adv hb1
 have hbel:=bel_adv hbel0 hb1
 have z0:=hB1.cell 0
 have z1:=hB1.cell 1
 have z2:=hB1.cell 2
 simp only [nqg,nqh,nqi] at z0 z1 z2
 clear hb1 hBX hS1 hbel0 hB1
 go_wp2
 go_loopw [3,20] (fun a i wr=>∃ (k:Nat) (S:Int),k≤xb.length∧i = .int .i64 k∧a = .int .i64 (xt - xf - S)∧0≤S∧S≤k * 120968640∧Hid (S = sumIv (xb.take k))∧Below w1.heap.size w1 wr) (fun _ i _=>xb.length - (intOf i).toNat)
 case atStart=>exact ⟨0,0,by omega,rfl,by rw [Int.sub_zero],by omega,by omega,rfl,Below.refl _ _⟩
 case round =>
  obtain ⟨k,S,hk,rfl,rfl,s0,s1,hS,hbr⟩:=hrel
  have hbs:=hbr.size
  by_cases hlt:k < xb.length
  ·
   have hx:SliceOf encIv 2 wr w1.heap.size xA xb:=hS2.below hbr
   obtain ⟨g1,g2,g3⟩:=brOk_in HB.out _ (List.getElem_mem hlt)
   have HT:=Lib.hid (sumIv_take xb k hlt)
   obtain ⟨q,off,rfl,hq,hc⟩:=hx.at_ hlt
   have c0:=hc 0 _ rfl
   have c1:=hc 1 _ rfl
   simp only [Nat.add_zero] at c0
   clear hc hx
   generalize xb[k] = v at c0 c1 g1 g2 g3 HT
   obtain ⟨vf,vt⟩:=v
   have g1:xf≤vf:=g1
   have g2:vf < vt:=g2
   have g3:vt≤xt:=g3
   have HT:Hid (sumIv (xb.take (k+1)) = sumIv (xb.take k)+(vt - vf)):=HT
   have c0:wr.cell? ⟨q,off+k * 2,none⟩ = some (.int .i64 vf):=c0
   have c1:wr.cell? ⟨q,off+k * 2+1,none⟩ = some (.int .i64 vt):=c1
   have hqw:q < wr.heap.size:=by omega
   have hki:(k:Int) < (xb.length:Int):=by omega
   go_wp2
   go_roundw
   case rel=>exact ⟨k+1,S+(vt - vf),by omega,by go_num,by congr 1; omega,by omega,by omega,by rw [Hid,HT.out,hS.out],bel_alloc hbr _⟩
   case measure=>simp [intOf]; omega
  ·
   obtain rfl:k = xb.length:=by omega
   have HS:Hid (S = sumIv xb):=by rw [Hid,hS.out,List.take_length]
   clear hS
   go_wp2
   go_ret
   exact ⟨by rw [HM.out,← HS.out]; rfl,bel_adv hbel hbr⟩
end
end Go.Proofs.YtopekilofdadnaaGreatDoor
