/- Joined texts: TgZ2 TgZ3 TgZ4 TgZ5. Conditions: as stated. -/
import Derived.Test.YtopekilofdadnaaGreatDoorJLeaf
import Derived.Test.YtopekilofdadnaaGreatDoorJTgO
import Derived.Test.YtopekilofdadnaaGreatDoorJTgV4
namespace Go.Proofs.YtopekilofdadnaaGreatDoor
open Go.RowKit Go.Sort Go.Shelf
theorem zeroRo (w:World) : (zeroValue 62).run Tryz.prog w = .ok (.agg #[.int .i64 0,.slice none 0 0,.slice none 0 0]) w:=by kernel_rfl
def rowAt (rows:Int→Option RowM) (d:Int) : RowM:=(rows d).getD ⟨d,none,0,[],none,0,[]⟩
def AddTPost (base bs gd N : Nat) (a b : Int) (rows:Int→Option RowM) (day:Int) (t:TmT) (w:World) (e:Ending) (w' : World) : Prop :=
 e = .returned (.tuple #[])∧∃ w1 A' c',w.grownBy w1 (rowAt rows day).ownT∧w1.grownBy w' (some gd) ∧
  SheetAt w' base bs gd (N+1) a b (fun x=>if x = day then some ⟨day,A',c',(rowAt rows day).ti++[t],(rowAt rows day).B,(rowAt rows day).e,(rowAt rows day).an⟩ else rows x) ∧
  ((Value.slice A' ((rowAt rows day).ti++[t]).length c').ownBlock = (rowAt rows day).ownT ∨ ∃ q,w.heap.size≤q∧(Value.slice A' ((rowAt rows day).ti++[t]).length c').ownBlock = some q)
theorem SheetAt.rowT {w:World} {base bs gd N : Nat} {a b : Int} {rows:Int→Option RowM} (h:SheetAt w base bs gd N a b rows) (d:Int) : Own encTm 2 64 w base (.slice (rowAt rows d).A (rowAt rows d).ti.length (rowAt rows d).c) (rowAt rows d).ti∧Own encAn 2 198 w base (.slice (rowAt rows d).B (rowAt rows d).an.length (rowAt rows d).e) (rowAt rows d).an:=by
 unfold rowAt
 cases hr:rows d with
 | none=>exact ⟨Own.nil_ _ _,Own.nil_ _ _⟩
 | some y=>exact ⟨h.ti d y hr,h.an d y hr⟩
section
set_option maxHeartbeats 8000000
set_option maxRecDepth 100000
theorem addTimeZ (base bs gd N : Nat) (a b : Int) (rows:Int→Option RowM) (day:Int) (nm:ByteArray) (mn:Int) (w:World) (h:SheetAt w base bs gd N a b rows) (hbase:base≤w.heap.size) (ha:a≤day) (hb:day≤b) (hd:0≤day∧day≤84005) (hN:N≤1000000000) (hl : (rowAt rows day).ti.length≤1000000) :
  Calls Tryz.prog 69 #[.pointer (some ⟨bs,0,none⟩),.int .i64 day,.agg #[.string nm,.int .i64 mn]] w (AddTPost base bs gd N a b rows day ⟨nm,mn⟩ w):=by
 obtain ⟨d1,d2⟩:=hd
 have HWF:=Lib.hid (show (Lit.int .i64 day).wf = true from wf64 (by omega) (by omega))
 obtain ⟨hyT,hyA⟩:=h.rowT day
 have HNO:Hid (rows day = none→(rowAt rows day).A = none∧(rowAt rows day).B = none):=fun e=>by unfold rowAt; rw [e]; exact ⟨rfl,rfl⟩
 have HYE:Hid (∀ z,rows day = some z→z = rowAt rows day):=fun z e=>by unfold rowAt; rw [e]; rfl
 obtain ⟨dd,hdd⟩ : ∃ dd:Int,((rows day).map aggRo).getD (.agg #[.int .i64 0,.slice none 0 0,.slice none 0 0]) = .agg #[.int .i64 dd,.slice (rowAt rows day).A (rowAt rows day).ti.length (rowAt rows day).c,.slice (rowAt rows day).B (rowAt rows day).an.length (rowAt rows day).e]:=by
  unfold rowAt
  cases hr:rows day with
  | none=>exact ⟨0,rfl⟩
  | some y=>exact ⟨y.d,rfl⟩
 have HDD:=Lib.hid hdd
 have hab1:¬ day < a:=by omega
 have hab2:¬ b < day:=by omega
 have HH:=Lib.hid h
 have hB:=h.blk
 have hbl:=hB.lt
 have z0:=hB.cell 0
 have z1:=hB.cell 1
 have z2:=hB.cell 2
 simp only [nqg,nqh,nqi] at z0 z1 z2
 clear hdd h hB
 obtain ⟨y,hy⟩ : ∃ y,rowAt rows day = y:=⟨_,rfl⟩
 rw [hy] at hyT hyA HNO HYE HDD hl
 have HY:=Lib.hid hy
 clear hy
 obtain ⟨yd,yA,yc,yt,yB,ye,ya⟩:=y
 have hl:yt.length≤1000000:=hl
 have HYT:Hid (Own encTm 2 64 w base (.slice yA yt.length yc) yt):=hyT
 have HYA:Hid (Own encAn 2 198 w base (.slice yB ya.length ye) ya):=hyA
 have HDD:Hid (((rows day).map aggRo).getD (.agg #[.int .i64 0,.slice none 0 0,.slice none 0 0]) = .agg #[.int .i64 dd,.slice yA yt.length yc,.slice yB ya.length ye]):=HDD
 clear hyT hyA
 have hMA:=HH.out.map.alloc (.cells #[.string nm,.int .i64 mn] 64)
 have hYT1:=(HYT.out.alloc (.cells #[.string nm,.int .i64 mn] 64)).alloc (.cells #[.int .i64 day,.slice yA yt.length yc,.slice yB ya.length ye] 62)
 have HYT1:=Lib.hid hYT1
 have hsz2:((w.alloc (.cells #[.string nm,.int .i64 mn] 64)).alloc (.cells #[.int .i64 day,.slice yA yt.length yc,.slice yB ya.length ye] 62)).heap.size = w.heap.size+1+1:=by simp
 have hg0:w.grownBy ((w.alloc (.cells #[.string nm,.int .i64 mn] 64)).alloc (.cells #[.int .i64 day,.slice yA yt.length yc,.slice yB ya.length ye] 62)) (Value.slice yA yt.length yc).ownBlock:=only_alloc (World.grownBy_alloc _ _ _) _
 have hBG:=Blk.newAt (w:=w.alloc (.cells #[.string nm,.int .i64 mn] 64)) (g:=w.heap.size+1) 62 #[.int .i64 day,.slice yA yt.length yc,.slice yB ya.length ye] (by simp)
 have HBG:=Lib.hid hBG
 have HG0:=Lib.hid hg0
 have hng:(Value.slice yA yt.length yc).ownBlock ≠ some (w.heap.size+1):=fun e=>by have:=(HYT.out.block_lt e).2; omega
 have hnb:(Value.slice yA yt.length yc).ownBlock ≠ some bs:=HYT.out.notBlk HH.out.blk (by decide)
 clear hYT1 hBG hg0
 go_enter Tryz.func69,Tryz.ntmps69
 go_upto_region 5 with (first
  | (at_lookup; go_loud (refine wpList_get (E:=keyI) (f:=fun x=>(rows x).map aggRo) (by rfl) _ _ 106 (by rfl) Tryz.underlying106 _ (zeroRo _) hMA day HWF.out (by rfl) (by rfl) _ HDD.out ?_))
  | (at_builtin; go_loud (refine wpList_append_one_at _ _ 59 (⟨nm,mn⟩ : TmT) _ 24 _ infoTm Tryz.underlying59 HYT1.out encTm_len (by omega) rfl (encTm_one _) (by omega) (by omega) (by omega) (by rfl) (by rfl) (by rfl) (by rfl) (by simp) (by rfl) ?_); intro v3 w3 hown3 hg3 halt3; obtain ⟨A3,c3,hv3⟩:=hown3.slice encTm_len; rw [List.length_append,List.length_singleton] at hv3; subst hv3; have hB3:=HBG.out.grown hg3 (fun e=>hng e.symm); have hbl3:=hB3.lt; have hfz3:=hB3.frozen 1; have q0:=hB3.cell 0; have q1:=hB3.cell 1; have q2:=hB3.cell 2; simp only [nqg,nqh,nqi] at q0 q1 q2; have HB3:=Lib.hid hB3; have HG3:=Lib.hid hg3; have HOWN3:=Lib.hid hown3; clear hB3 hg3 hown3))
 have hW:=only_setCell (only_refl w3 (some (w.heap.size+1))) (p:=⟨w.heap.size+1,1,none⟩) (.inl rfl) (.slice A3 (yt.length+1) c3)
 have hB4:Blk (w3.setCell ⟨w.heap.size+1,1,none⟩ (.slice A3 (yt.length+1) c3)) (w.heap.size+1) 62 #[.int .i64 day,.slice A3 (yt.length+1) c3,.slice yB ya.length ye]:=HB3.out.set_ 1 _
 have hOg:(Value.slice A3 (yt.length+1) c3).ownBlock ≠ some (w.heap.size+1):=fun e=>by
  rcases halt3 with h | h
  ·
   rw [h] at e; exact hng e
  ·
   rw [h] at e; injection e with e; omega
 have hO4:=HOWN3.out.keptNe hW (fun q hq e=>hOg (by rw [hq,← e]))
 have hG4:w.grownBy (w3.setCell ⟨w.heap.size+1,1,none⟩ (.slice A3 (yt.length+1) c3)) (Value.slice yA yt.length yc).ownBlock:=only_then (only_trans HG0.out HG3.out) hW (fun g e=>by injection e; exact .inl (by omega))
 have hbs4:=HH.out.blk.grown hG4 (fun e=>hnb e.symm)
 have halt4:(Value.slice A3 (yt.length+1) c3).ownBlock = (Value.slice yA yt.length yc).ownBlock ∨ ∃ q,w.heap.size≤q∧(Value.slice A3 (yt.length+1) c3).ownBlock = some q:=by
  rcases halt3 with h | h
  ·
   exact .inl h
  ·
   exact .inr ⟨_,by omega,h⟩
 have hM4:=HH.out.map.kept hG4 (fun e=>HH.out.map.notOwn HYT.out e.symm)
 generalize w3.setCell ⟨w.heap.size+1,1,none⟩ (.slice A3 (yt.length+1) c3) = w4 at hB4 hO4 hG4 hbs4 hM4 ⊢
 have hl4:=hB4.lt
 have hlb4:=hbs4.lt
 have r0:=hB4.cell 0
 have r1:=hB4.cell 1
 have r2:=hB4.cell 2
 simp only [nqg,nqh,nqi] at r0 r1 r2
 clear z0 z1 z2 q0 q1 q2 hfz3
 have z0:=hbs4.cell 0
 have z1:=hbs4.cell 1
 have z2:=hbs4.cell 2
 simp only [nqg,nqh,nqi] at z0 z1 z2
 have HO4:=Lib.hid hO4
 have HG4:=Lib.hid hG4
 have HM4:=Lib.hid hM4
 have HAL4:=Lib.hid halt4
 clear hO4 hG4 hM4 halt4 halt3 hbs4 hB4 hW
 refine wp_region_fin (aE:=?aEA) [0,1,2,3,4,5] 6 (by kernel_rfl) (by kernel_rfl) rfl (by kernel_rfl) (by rfl) (by kernel_rfl) (by kernel_rfl) rfl rfl rfl ?HA ?MA
 case HA =>
  intro F hF inst
  simp only [M3.opsAt,List.getElem?_toArray,List.getElem?_cons_zero,List.getElem?_cons_succ]
  have e2:=BwC.cellB (F:=F) (a:=⟨bs,2,none⟩) (by exact hlb4) z2
  have f0:=BwC.cellB (F:=F) (a:=⟨w.heap.size+1,0,none⟩) (by exact hl4) r0
  have f1:=BwC.cellB (F:=F) (a:=⟨w.heap.size+1,1,none⟩) (by exact hl4) r1
  have f2:=BwC.cellB (F:=F) (a:=⟨w.heap.size+1,2,none⟩) (by exact hl4) r2
  repeat (first | go_big_quiet_step (first | fail) | quiet_step (first | fail))
  refine wpQuiet_nil ?_
  rfl
 case MA =>
  intro w5 hb5
  have hM5:=HM4.out.adv hb5
  obtain ⟨w6,hrun,hM6,hg6⟩:=hM5.update (g:=fun x=>if x = day then some (.agg #[.int .i64 day,.slice A3 (yt.length+1) c3,.slice yB ya.length ye]) else (rows x).map aggRo) Tryz.underlying106 (by unfold maxLen; omega) HWF.out (.agg #[.int .i64 day,.slice A3 (yt.length+1) c3,.slice yB ya.length ye]) (if_pos rfl) (fun x hx=>if_neg hx)
  have hrun:Sem.run Tryz.prog (Instr.mapUpdate 106 (.map (some gd)) (.int .i64 day) (.agg #[.int .i64 day,.slice A3 (yt.length+1) c3,.slice yB ya.length ye])) w5 = .ok () w6:=hrun
  refine ⟨w6,by go_simp,?_⟩
  have hO5:=HO4.out.adv hb5
  have hG5:=only_adv HG4.out hb5
  have HM6:=Lib.hid hM6
  have HG6:=Lib.hid hg6
  have HO5:=Lib.hid hO5
  have HG5:=Lib.hid hG5
  clear hM5 hrun hM6 hg6 hO5 hG5 r0 r1 r2 z0 z1 z2 hb5
  go_wp2
  go_end0
  have hlen1:(yt++[(⟨nm,mn⟩ : TmT)]).length = yt.length+1:=by simp
  have hfun:(fun x=>(if x = day then some (⟨day,A3,c3,yt++[(⟨nm,mn⟩ : TmT)],yB,ye,ya⟩ : RowM) else rows x).map aggRo) = fun x=>if x = day then some (.agg #[.int .i64 day,.slice A3 (yt.length+1) c3,.slice yB ya.length ye]) else (rows x).map aggRo:=by
   funext x
   split
   ·
    simp [aggRo]
   ·
    rfl
  have hput:=HH.out.putT (y:=⟨yd,yA,yc,yt,yB,ye,ya⟩) (t:=⟨nm,mn⟩) (A':=A3) (c':=c3) HYE.out HYT.out HYA.out HNO.out (by rw [hlen1]; exact HO5.out) HG5.out (by rw [hlen1]; exact HAL4.out) (by rw [hfun]; exact HM6.out) HG6.out ⟨ha,hb⟩
  refine ⟨rfl,w5,A3,c3,?_,HG6.out,?_,?_⟩
  ·
   rw [HY.out]; exact HG5.out
  ·
   rw [HY.out]; exact hput
  ·
   rw [HY.out]
   show (Value.slice A3 (yt++[(⟨nm,mn⟩ : TmT)]).length c3).ownBlock = _ ∨ _
   rw [hlen1]
   exact HAL4.out
end
end Go.Proofs.YtopekilofdadnaaGreatDoor
namespace Go.Proofs.YtopekilofdadnaaGreatDoor
open Go.RowKit Go.Sort Go.Shelf
theorem totN_ne {l:List PcT} {d:Int} (h : ∃ p ∈ l,p.day = d) : totN l d ≠ []:=by
 have step:∀ (t:List TmT) (c:ByteArray) (n:Int),putTm t c n ≠ []:=fun t c n=>by
  unfold putTm
  split
  ·
   rename_i hx
   intro e
   have h1:t = []:=by simpa using e
   rw [h1] at hx
   simp at hx
  ·
   simp
 have keep:∀ (l:List PcT) (t:List TmT),t ≠ []→l.foldl (fun t p=>if p.day = d then putTm t p.band (p.iv.t - p.iv.f) else t) t ≠ []:=by
  intro l
  induction l with
  | nil=>exact fun t ht=>ht
  | cons p l ih =>
   intro t ht
   rw [List.foldl_cons]
   refine ih _ ?_
   split
   ·
    exact step _ _ _
   ·
    exact ht
 have key:∀ (l:List PcT) (t:List TmT),(∃ p ∈ l,p.day = d)→l.foldl (fun t p=>if p.day = d then putTm t p.band (p.iv.t - p.iv.f) else t) t ≠ []:=by
  intro l
  induction l with
  | nil=>rintro t ⟨p,hp,_⟩; cases hp
  | cons p l ih =>
   intro t h
   rw [List.foldl_cons]
   by_cases e:p.day = d
   ·
    rw [if_pos e]; exact keep _ _ (step _ _ _)
   ·
    obtain ⟨q,hq,hd⟩:=h
    rcases List.mem_cons.1 hq with rfl | hq
    ·
     exact absurd hd e
    ·
     exact ih _ ⟨q,hq,hd⟩
 exact key l [] h
section
set_option maxHeartbeats 8000000
set_option maxRecDepth 100000
theorem addPremZ (p:Value) (w:World) : Calls Tryz.prog 30 #[p,.slice none 0 0] w fun e w'=>e = .returned (.tuple #[])∧w = w':=by
 go_enter Tryz.func30,Tryz.ntmps30
 go_wp2
 refine wp_loop_rounds 1 ?_
 rw [rounds_succ]
 go_wp2
 go_end0
 exact ⟨rfl,rfl⟩
end
end Go.Proofs.YtopekilofdadnaaGreatDoor
namespace Go.Proofs.YtopekilofdadnaaGreatDoor
open Go.RowKit Go.Sort Go.Shelf
def plainR (rows:Int→Option RowM) (d:Int) : Option (List TmT × List AnomT):=(rows d).map fun y=>(y.ti,y.an)
def BandsPost (base bs gd : Nat) (a b : Int) (l:List PcT) (w:World) (e:Ending) (w' : World) : Prop :=
 e = .returned (.tuple #[])∧Below base w w'∧∃ rows N,SheetAt w' base bs gd N a b rows∧N≤16777216∧∀ d,0≤d∧d≤84005→plainR rows d = if d ∈ l.map (·.day)∧a≤d∧d≤b then some (totN l d,[]) else none
theorem putTm_len (t:List TmT) (c:ByteArray) (n:Int) : (putTm t c n).length≤t.length+1:=by
 unfold putTm
 split <;> simp
theorem totN_len (l:List PcT) (d:Int) : (totN l d).length≤l.length:=by
 have key:∀ (l:List PcT) (t:List TmT),(l.foldl (fun t p=>if p.day = d then putTm t p.band (p.iv.t - p.iv.f) else t) t).length≤t.length+l.length:=by
  intro l
  induction l with
  | nil=>intro t; simp
  | cons p l ih =>
   intro t
   rw [List.foldl_cons,List.length_cons]
   refine Nat.le_trans (ih _) ?_
   split
   ·
    have:=putTm_len t p.band (p.iv.t - p.iv.f)
    omega
   ·
    omega
 have:=key l []
 show (List.foldl _ [] l).length≤_
 simpa using this
theorem SheetAt.far {w w' : World} {base bs gd N q : Nat} {a b : Int} {rows:Int→Option RowM} (h:SheetAt w base bs gd N a b rows) (hg:w.grownBy w' (some q)) (h1:bs ≠ q) (h2:gd ≠ q) (h3 : ∀ x y,rows x = some y→y.ownT ≠ some q) (h4 : ∀ x y,rows x = some y→y.ownA ≠ some q) : SheetAt w' base bs gd N a b rows :=
 ⟨h.blk.grown hg (fun e=>h1 (by injection e)),h.map.kept hg (fun e=>h2 (by injection e)),h.day,fun x y hy=>(h.ti x y hy).keptNe hg (fun g hg' e=>h3 x y hy (by rw [RowM.ownT,hg',← e])),fun x y hy=>(h.an x y hy).keptNe hg (fun g hg' e=>h4 x y hy (by rw [RowM.ownA,hg',← e])),h.apT,h.apA,h.lgd,h.lbs,h.rng⟩
def daysF (l:List PcT) (d:Int) : Option Value:=if d ∈ l.map (·.day) then some (.bool true) else none
theorem daysF_take (l:List PcT) (k:Nat) (h:k < l.length) (d:Int) : daysF (l.take (k+1)) d = if d = l[k].day then some (.bool true) else daysF (l.take k) d:=by
 unfold daysF
 rw [List.take_succ_eq_append_getElem h,List.map_append]
 by_cases e:d = l[k].day
 ·
  simp [e]
 ·
  simp [e]
section
set_option maxHeartbeats 8000000
set_option maxRecDepth 100000
theorem addBandsZ (base bs gd : Nat) (a b : Int) (A:Option Addr) (c:Nat) (l:List PcT) (w:World) (h:SheetAt w base bs gd 0 a b (fun _=>none)) (hbase:base≤w.heap.size) (hS:SliceOf encPc 4 w base A l) (hl:PiecesOk l) (hc4:l.length≤c) (hday : ∀ p ∈ l,0≤p.day∧p.day≤84005) :
  Calls Tryz.prog 29 #[.pointer (some ⟨bs,0,none⟩),.slice A l.length c] w (BandsPost base bs gd a b l w):=by
 have HL:=Lib.hid hl
 have HDY:=Lib.hid hday
 have HH:=Lib.hid h
 have hln:=hl.len
 have hgd:=h.map.lt
 clear h hl hday
 have hmm:=@run_makeMap Tryz.prog
 go_enter Tryz.func29,Tryz.ntmps29
 go_wp2
 have hm0:=MapAt.made keyI w
 have hbl0:=below_new w (.map #[] 0)
 go_loopw [13] (fun i wr=>∃ k:Nat,k≤l.length∧i = .int .i64 k∧MapAt keyI wr w.heap.size k (daysF (l.take k))∧Below w.heap.size w wr) (fun i _=>l.length - (intOf i).toNat)
 case atStart=>exact ⟨0,by omega,rfl,hm0.congr (fun x _=>by simp [daysF]),hbl0⟩
 case round =>
  clear hm0 hbl0 hmm
  obtain ⟨k,hk,rfl,hM,hbr⟩:=hrel
  have hbs:=hbr.size
  by_cases hlt:k < l.length
  ·
   obtain ⟨d1,d2⟩:=HDY.out _ (List.getElem_mem hlt)
   have HT:=Lib.hid (daysF_take l k hlt)
   obtain ⟨q,off,rfl,hq,hc⟩:=(hS.below (hbr.mono hbase)).at_ hlt
   have c0:=hc 0 _ rfl
   have c1:=hc 1 _ rfl
   have c2:=hc 2 _ rfl
   have c3:=hc 3 _ rfl
   simp only [Nat.add_zero] at c0
   have hqw:q < wr.heap.size:=by omega
   have hki:(k:Int) < (l.length:Int):=by omega
   clear hc
   generalize l[k] = x at c0 c1 c2 c3 HT d1 d2
   obtain ⟨pd,⟨pf,pt⟩,pb⟩:=x
   simp only at c0 c1 c2 c3 HT d1 d2
   have HWF:=Lib.hid (show (Lit.int .i64 pd).wf = true from wf64 (by omega) (by omega))
   have hMA:=hM.alloc (.cells #[.int .i64 pd,.int .i64 pf,.int .i64 pt,.string pb] 172)
   have HBA:=Lib.hid (bel_alloc hbr (.cells #[.int .i64 pd,.int .i64 pf,.int .i64 pt,.string pb] 172))
   have HN1:Hid (daysF (l.take (k+1)) pd = some (.bool true)):=by rw [Hid,HT.out,if_pos rfl]
   have HN2:Hid (∀ y,y ≠ pd→daysF (l.take (k+1)) y = daysF (l.take k) y):=fun y hy=>by rw [HT.out,if_neg hy]
   clear hM hbr
   go_wp2_with (at_mapUpdate; go_loud (refine wpList_set (E:=keyI) (f:=daysF (l.take k)) (daysF (l.take (k+1))) (by rfl) _ _ _ 184 (by rfl) Tryz.underlying184 hMA (by unfold maxLen; omega) pd HWF.out (.bool true) (by rfl) (by rfl) (by rfl) HN1.out HN2.out ?_); intro w4 hm4 hg4)
   go_roundw
   case rel=>exact ⟨k+1,by omega,by go_num,hm4,bel_only HBA.out hg4 (fun g e=>by injection e; omega)⟩
   case measure=>simp [intOf]; omega
  ·
   obtain rfl:k = l.length:=by omega
   rw [List.take_length] at hM
   have hg0:decide ((l.length:Int) < (l.length:Int)) = false:=by simp
   have hg1:decide (l.length < l.length) = false:=by simp
   have hbf0:=hbr
   obtain ⟨w1,rfl⟩ : ∃ w1:World,w1 = wr:=⟨_,rfl⟩
   have hr0:w.heap.size < w1.heap.size:=hM.lt
   clear hk hlt hbr
   go_wp2_with (at_range; refine wpList_range_at (by rfl) _ 184 (by rfl) Tryz.underlying184 hM (by rfl) ?_; intro w2 cnt0 hrg0 hgr0 hsz2 hcnt0)
   go_frame
   have hbel2:=bel_only hbf0 hgr0 (fun g e=>by cases e)
   have HH2:=Lib.hid (HH.out.adv hbel2)
   have hrl:w1.heap.size < w2.heap.size:=by omega
   have hgg:gd ≠ w.heap.size:=by omega
   go_loopw [] (fun wr=>∃ (left:Int→Bool) (cnt N:Nat) (rows:Int→Option RowM),RangeAt keyI wr w.heap.size w1.heap.size l.length (daysF l) left cnt∧SheetAt wr base bs gd N a b rows∧N+cnt * 4096≤16777216∧Hid (∀ d,0≤d∧d≤84005→(d ∉ l.map (·.day)→left d = false)∧plainR rows d = if (d ∈ l.map (·.day)∧left d = false)∧a≤d∧d≤b then some (totN l d,[]) else none)∧Hid (∀ x y,rows x = some y→(∀ g,y.ownT = some g→w1.heap.size < g)∧y.B = none∧y.an = [])∧RowKit.Below base w wr) (fun wr=>wr.rangeLeft w.heap.size w1.heap.size)
   case atStart =>
    refine ⟨_,cnt0,0,_,hrg0,HH2.out,by omega,fun d hd=>⟨fun hd2=>?_,?_⟩,fun x y hy=>(by cases hy),hbel2.mono hbase⟩
    ·
     simp only [daysF]
     rw [if_neg hd2]
     rfl
    ·
     show (none:Option (List TmT × List AnomT)) = _
     rw [if_neg]
     rintro ⟨⟨h1,h2⟩,_⟩
     simp only [daysF] at h2
     rw [if_pos h1] at h2
     cases h2
   case round =>
    clear hrg0 hgr0 hsz2 hcnt0 hbel2 HH2 hM
    obtain ⟨left,cnt,N,rows,hrg,hsh,hN,hPL,hOW,hbel⟩:=hrel
    have hrs:=hrg.lt
    have HSH:=Lib.hid hsh
    have HBEL:=Lib.hid hbel
    clear hsh hbel
    go_wp2_with (at_next; refine wpList_next_at (by rfl) _ (by rfl) (by rfl) hrg ?_ ?_)
    ·
     intro hc0 hl0
     have HPF:Hid (∀ d,0≤d∧d≤84005→plainR rows d = if d ∈ l.map (·.day)∧a≤d∧d≤b then some (totN l d,[]) else none):=fun d hd=>by
      rw [(hPL.out d hd).2,show left d = false from hl0 d (wf64 (by omega) (by omega))]
      simp
     have hNF:N≤16777216:=by omega
     clear hl0 hc0
     go_wp2
     go_end0
     exact ⟨rfl,HBEL.out,rows,N,HSH.out,hNF,HPF.out⟩
    ·
     intro x v w3 cnt2 hxg hlx hfx hrg3 hlt2 hg3 hs3 hen
     rw [show keyI.val x = Value.int .i64 x from rfl]
     have hxd:x ∈ l.map (·.day):=by
      unfold daysF at hfx
      split at hfx
      ·
       assumption
      ·
       cases hfx
     obtain ⟨p,hp,hpx⟩:=List.mem_map.1 hxd
     have hxb:0≤x∧x≤84005:=by rw [← hpx]; exact HDY.out p hp
     obtain ⟨x1,x2⟩:=hxb
     replace hen:Sem.run Tryz.prog (Instr.entry (.pointer (some ⟨w1.heap.size,0,none⟩))) w3 = .ok (.tuple #[.int .i64 x,v]) w3:=hen
     have hblt:bs < w.heap.size:=HH.out.blk.lt
     have hS3:=HSH.out.far hg3 (by omega) (by omega) (fun x' y' hy' e=>by have:=(hOW.out x' y' hy').1 _ e; omega) (fun x' y' hy' e=>by have:=(hOW.out x' y' hy').2.1; rw [RowM.ownA,this] at e; cases e)
     have hB3:=hS3.blk
     have hbl3:=hB3.lt
     have z0:=hB3.cell 0
     have z1:=hB3.cell 1
     have z2:=hB3.cell 2
     simp only [nqg,nqh,nqi] at z0 z1 z2
     have HS3:=Lib.hid hS3
     have HBEL3:=Lib.hid (HBEL.out.trans (only_below hg3 (by have:=HBEL.out.size; omega) (fun g e=>by injection e; omega)))
     have HRG3:=Lib.hid hrg3
     have HLX:=Lib.hid hlx
     have HXD:=Lib.hid hxd
     have hcnt:cnt2 < cnt:=hlt2
     have HM:=Lib.hid (show w3.rangeLeft w.heap.size w1.heap.size < wr.rangeLeft w.heap.size w1.heap.size by rw [hrg3.left_eq,hrg.left_eq]; exact hlt2)
     clear hS3 hB3 hrg3 hg3 hlx hfx hp hpx hxd HSH HBEL
     by_cases hin:a≤x∧x≤b
     ·
      obtain ⟨i1,i2⟩:=hin
      have hn1:¬ x < a:=by omega
      have hn2:¬ b < x:=by omega
      go_wp2_with fail
      have hSl3:SliceOf encPc 4 w3 w3.heap.size A l:=(hS.below HBEL3.out).more (by have:=HBEL3.out.size; omega)
      refine (totalsO A c l x _ hSl3 HL.out hc4).mono ?_
      rintro e w9 ⟨v9,rfl,hown9,hb9⟩
      obtain ⟨TA,tc,hv9⟩:=hown9.slice encTm_len
      subst hv9
      have hs39:=hb9.size
      have hrl3:=HRG3.out.lt
      have hTl:(totN l x).length≤4096:=Nat.le_trans (totN_len l x) hln
      have HTE:Hid (totN l x ≠ []):=totN_ne (by obtain ⟨p,hp,hpx⟩:=List.mem_map.1 HXD.out; exact ⟨p,hp,hpx⟩)
      have HS9:=Lib.hid (HS3.out.adv hb9)
      have HRG9:=Lib.hid (HRG3.out.kept (only_of_below hb9 none) (by simp) (by simp))
      have HBEL9:=Lib.hid (HBEL3.out.trans (hb9.mono (by have:=HBEL3.out.size; omega)))
      have HRX:Hid (rows x = none):=by
       have h1:=(hPL.out x ⟨x1,x2⟩).2
       rw [HLX.out,if_neg (by simp)] at h1
       cases hr:rows x with
       | none=>rfl
       | some y=>rw [plainR,hr] at h1; cases h1
      have hTown:=Lib.hid (fun g (hg:(Value.slice TA (totN l x).length tc).ownBlock = some g)=>hown9.block_lt hg)
      have HTN:Hid (∃ T,totN l x = T):=⟨_,rfl⟩
      obtain ⟨T,hT⟩ : ∃ T,totN l x = T:=⟨_,rfl⟩
      rw [hT] at hown9 hTl HTE hTown ⊢
      have HTT:=Lib.hid hT
      have HOWN9:=Lib.hid hown9
      clear z0 z1 z2 hown9 hb9 hT HTN hn1 hn2
      go_wp2
      go_loopw [45] (fun j wz=>∃ (m:Nat) (rows3:Int→Option RowM),m≤T.length∧j = .int .i64 m∧SheetAt wz base bs gd (N+m) a b rows3∧Hid (∀ d,d ≠ x→rows3 d = rows d)∧Hid (m = 0→rows3 x = none)∧Hid (0 < m→∃ y,rows3 x = some y∧y.ti = T.take m∧y.an = []∧y.B = none∧∀ g,y.ownT = some g→w9.heap.size≤g)∧RangeAt keyI wz w.heap.size w1.heap.size l.length (daysF l) (fun y=>left y && !decide (y = x)) cnt2∧Hid (Own encTm 2 64 wz w3.heap.size (.slice TA T.length tc) T)∧RowKit.Below base w wz∧w9.heap.size≤wz.heap.size) (fun j _=>T.length - (intOf j).toNat)
      case atStart=>exact ⟨0,rows,by omega,rfl,HS9.out,fun _ _=>rfl,fun _=>HRX.out,fun h=>by omega,HRG9.out,HOWN9.out,HBEL9.out,Nat.le_refl _⟩
      case round =>
       obtain ⟨m,rows3,hm,rfl,hsh,hoth,hz0,hzp,hrgz,hownT,hbelz,hsz⟩:=hrel
       by_cases hlm:m < T.length
       ·
        have hrow:Hid ((rowAt rows3 x).ti = T.take m∧(rowAt rows3 x).an = []∧(rowAt rows3 x).B = none∧∀ g,(rowAt rows3 x).ownT = some g→w9.heap.size≤g):=by
         rcases Nat.eq_zero_or_pos m with h0 | hp
         ·
          have h1:=hz0.out h0
          unfold rowAt
          rw [h1,h0]
          exact ⟨rfl,rfl,rfl,fun g hg=>by cases hg⟩
         ·
          obtain ⟨y,h1,h2,h3,h4,h5⟩:=hzp.out hp
          unfold rowAt
          rw [h1]
          exact ⟨h2,h3,h4,h5⟩
        have htl:(rowAt rows3 x).ti.length≤1000000:=by rw [hrow.out.1]; simp; omega
        have HTT2:Hid (T.take (m+1) = T.take m++[T[m]]):=by rw [Hid,List.take_succ_eq_append_getElem hlm]
        obtain ⟨NA,nc,hvn,hSn,_,_⟩:=hownT.out.form encTm_len
        injection hvn with hvn1 hvn2 hvn3
        subst hvn1 hvn3
        obtain ⟨q',off',rfl,hq',hd⟩:=hSn.at_ hlm
        have e0:=hd 0 _ rfl
        have e1:=hd 1 _ rfl
        simp only [Nat.add_zero] at e0
        have hmi:(m:Int) < (T.length:Int):=by omega
        clear hd hvn2 hSn
        generalize T[m] = t at e0 e1 HTT2
        obtain ⟨tn,tm⟩:=t
        simp only at e0 e1 HTT2
        have hb10:=below_new wr (.cells #[.string tn,.int .i64 tm] 64)
        have HSA:=Lib.hid (hsh.adv hb10)
        have HRA:=Lib.hid (hrgz.kept (World.grownBy_alloc wr (.cells #[.string tn,.int .i64 tm] 64) none) (by simp) (by simp))
        have HOA:=Lib.hid (hownT.out.adv hb10)
        have HBA:=Lib.hid (hbelz.trans (hb10.mono (by have:=hbelz.size; omega)))
        have hszA:w9.heap.size≤(wr.alloc (.cells #[.string tn,.int .i64 tm] 64)).heap.size:=by simp; omega
        have hbA:=HBA.out.size
        have hNb:N+m≤1000000000:=by omega
        clear hsh hrgz hownT hbelz hb10
        go_wp2_with fail
        refine (addTimeZ base bs gd (N+m) a b rows3 x tn tm _ HSA.out (by omega) i1 i2 ⟨x1,x2⟩ hNb htl).mono ?_
        rintro e w12 ⟨rfl,w11,A',c',hg1,hg2,hsh2,halt⟩
        obtain ⟨hr1,hr2,hr3,hr4⟩:=hrow.out
        have hmd:=HSA.out.map
        have hrT:=(HSA.out.rowT x).1
        have HSH2:=Lib.hid hsh2
        have HR2:=Lib.hid ((HRA.out.kept hg1 (fun e=>by have:=hr4 _ e.symm; omega) (fun e=>by have:=hr4 _ e.symm; omega)).kept hg2 (fun e=>by injection e with e; omega) (fun e=>by injection e with e; omega))
        have hO1:=HOA.out.keptNe hg1 (fun q hq e=>by have h1:=(hTown.out q hq).2; have h2:=hr4 q e; omega)
        have hm1:=hmd.kept hg1 (fun e=>hmd.notOwn hrT e.symm)
        have HO2:=Lib.hid (hO1.keptNe hg2 (fun q hq e=>hm1.notOwn hO1 (by rw [hq]; exact e.symm)))
        have HB2:=Lib.hid ((HBA.out.trans (only_below hg1 (by omega) (fun g e=>(hrT.block_lt e).1))).trans (only_below hg2 (by have:=hg1.size; omega) (fun g e=>by injection e with e; have:=HH.out.lgd; omega)))
        have HTI:Hid ((rowAt rows3 x).ti++[(⟨tn,tm⟩ : TmT)] = T.take (m+1)):=by rw [Hid,HTT2.out,hr1]
        have HNB:Hid (∀ g,(Value.slice A' ((rowAt rows3 x).ti++[(⟨tn,tm⟩ : TmT)]).length c').ownBlock = some g→w9.heap.size≤g):=fun g hg=>by
         rcases halt with h | ⟨q2,h1,h2⟩
         ·
          exact hr4 g (by rw [← h]; exact hg)
         ·
          rw [h2] at hg; injection hg with hg; omega
        have HRR:=Lib.hid (And.intro hr2 hr3)
        have hsz12:w9.heap.size≤w12.heap.size:=by have:=hg1.size; have:=hg2.size; omega
        clear hg1 hg2 hsh2 halt hr1 hr2 hr3 hr4 hO1 hm1 hmd hrT
        go_wp2
        go_roundw
        case rel =>
         refine ⟨m+1,_,by omega,by go_num,HSH2.out,fun d hd=>?_,fun h=>by omega,fun _=>⟨_,if_pos rfl,HTI.out,HRR.out.1,HRR.out.2,HNB.out⟩,HR2.out,HO2.out,HB2.out,hsz12⟩
         show (if d = x then _ else rows3 d) = rows d
         rw [if_neg hd]
         exact hoth.out d hd
        case measure=>simp [intOf]; omega
       ·
        obtain rfl:m = T.length:=by omega
        have hTp:0 < T.length:=List.length_pos_iff.2 HTE.out
        obtain ⟨y,hy1,hy2,hy3,hy4,hy5⟩:=hzp.out hTp
        rw [List.take_length] at hy2
        have HPN:Hid (∀ d,0≤d∧d≤84005→(d ∉ l.map (·.day)→(left d && !decide (d = x)) = false)∧plainR rows3 d = if (d ∈ l.map (·.day)∧(left d && !decide (d = x)) = false)∧a≤d∧d≤b then some (totN l d,[]) else none):=fun d hd=>by
         obtain ⟨h1,h2⟩:=hPL.out d hd
         refine ⟨fun hn=>by rw [h1 hn]; rfl,?_⟩
         by_cases e:d = x
         ·
          subst e
          rw [if_pos ⟨⟨HXD.out,by simp⟩,i1,i2⟩,plainR,hy1]
          show some (y.ti,y.an) = _
          rw [hy2,hy3,HTT.out]
         ·
          rw [plainR,hoth.out d e]
          have h3:(rows d).map (fun y=>(y.ti,y.an)) = _:=h2
          rw [h3]
          simp [e]
        have HOWN:Hid (∀ x' y',rows3 x' = some y'→(∀ g,y'.ownT = some g→w1.heap.size < g)∧y'.B = none∧y'.an = []):=fun x' y' hy'=>by
         by_cases e:x' = x
         ·
          subst e
          rw [hy1] at hy'
          injection hy' with hy'
          subst hy'
          exact ⟨fun g hg=>by have:=hy5 g hg; omega,hy4,hy3⟩
         ·
          exact hOW.out x' y' (by rw [← hoth.out x' e]; exact hy')
        have hNN:N+T.length+cnt2 * 4096≤16777216:=by omega
        have HSHZ:=Lib.hid hsh
        have HRGZ:=Lib.hid hrgz
        have HBLZ:=Lib.hid hbelz
        have HMZ:=Lib.hid (show wr.rangeLeft w.heap.size w1.heap.size = cnt2 from hrgz.left_eq)
        clear hsh hrgz hownT hbelz hy1 hy2 hy3 hy4 hy5 hzp hz0 hoth
        go_wp2
        go_roundw
        case rel =>
         have hf:∃ (left:Int→Bool) (cnt N:Nat) (rows:Int→Option RowM),RangeAt keyI wr w.heap.size w1.heap.size l.length (daysF l) left cnt∧SheetAt wr base bs gd N a b rows∧N+cnt * 4096≤16777216∧Hid (∀ d,0≤d∧d≤84005→(d ∉ l.map (·.day)→left d = false)∧plainR rows d = if (d ∈ l.map (·.day)∧left d = false)∧a≤d∧d≤b then some (totN l d,[]) else none)∧Hid (∀ x y,rows x = some y→(∀ g,y.ownT = some g→w1.heap.size < g)∧y.B = none∧y.an = [])∧RowKit.Below base w wr:=⟨_,cnt2,N+T.length,rows3,HRGZ.out,HSHZ.out,hNN,HPN,HOWN,HBLZ.out⟩
         first | exact hf | ((repeat apply Exists.intro); exact ⟨hf,rfl⟩)
        case measure=>rw [HMZ.out,← HRG3.out.left_eq]; exact HM.out
     ·
      have HPN:Hid (∀ d,0≤d∧d≤84005→(d ∉ l.map (·.day)→(left d && !decide (d = x)) = false)∧plainR rows d = if (d ∈ l.map (·.day)∧(left d && !decide (d = x)) = false)∧a≤d∧d≤b then some (totN l d,[]) else none):=fun d hd=>by
       obtain ⟨h1,h2⟩:=hPL.out d hd
       refine ⟨fun hn=>by rw [h1 hn]; rfl,?_⟩
       rw [h2]
       by_cases e:d = x
       ·
        subst e
        rw [if_neg (fun hh=>hin hh.2),if_neg (fun hh=>hin hh.2)]
       ·
        simp [e]
      have hcase:x < a ∨ (¬ x < a∧b < x):=by omega
      have hNN:N+cnt2 * 4096≤16777216:=by omega
      rcases hcase with h1 | ⟨h1,h2⟩
      all_goals
       go_wp2
       go_roundw
       case rel =>
        have hf:∃ (left:Int→Bool) (cnt N:Nat) (rows:Int→Option RowM),RangeAt keyI w3 w.heap.size w1.heap.size l.length (daysF l) left cnt∧SheetAt w3 base bs gd N a b rows∧N+cnt * 4096≤16777216∧Hid (∀ d,0≤d∧d≤84005→(d ∉ l.map (·.day)→left d = false)∧plainR rows d = if (d ∈ l.map (·.day)∧left d = false)∧a≤d∧d≤b then some (totN l d,[]) else none)∧Hid (∀ x y,rows x = some y→(∀ g,y.ownT = some g→w1.heap.size < g)∧y.B = none∧y.an = [])∧RowKit.Below base w w3:=⟨_,cnt2,N,rows,HRG3.out,HS3.out,hNN,HPN,hOW,HBEL3.out⟩
        first | exact hf | ((repeat apply Exists.intro); exact ⟨hf,rfl⟩)
       case measure=>exact HM.out
end
end Go.Proofs.YtopekilofdadnaaGreatDoor
namespace Go.Proofs.YtopekilofdadnaaGreatDoor
open Go.RowKit Go.Sort Go.Shelf
theorem SheetAt.putA {w w' : World} {base bs gd N : Nat} {a b : Int} {rows:Int→Option RowM} {w1:World} {d:Int} {y:RowM} {t:AnomT} {A' : Option Addr} {c' : Nat} (h:SheetAt w base bs gd N a b rows) (hy : ∀ z,rows d = some z→z = y) (hyT:Own encTm 2 64 w base (.slice y.A y.ti.length y.c) y.ti) (hyA:Own encAn 2 198 w base (.slice y.B y.an.length y.e) y.an)
  (hno:rows d = none→y.A = none∧y.B = none)
  (ho:Own encAn 2 198 w1 base (.slice A' (y.an++[t]).length c') (y.an++[t])) (hg:w.grownBy w1 y.ownA) (halt:(Value.slice A' (y.an++[t]).length c').ownBlock = y.ownA ∨ ∃ q,w.heap.size≤q∧(Value.slice A' (y.an++[t]).length c').ownBlock = some q)
  (hm:MapAt keyI w' gd (N+1) (fun x=>(if x = d then some ⟨d,y.A,y.c,y.ti,A',c',y.an++[t]⟩ else rows x).map aggRo)) (hg2:w1.grownBy w' (some gd)) (hrg:a≤d∧d≤b) :
  SheetAt w' base bs gd (N+1) a b (fun x=>if x = d then some ⟨d,y.A,y.c,y.ti,A',c',y.an++[t]⟩ else rows x):=by
 have hm1:MapAt keyI w1 gd N (fun x=>(rows x).map aggRo):=h.map.kept hg (fun e=>h.map.notOwn hyA e.symm)
 have hB1:=h.blk.grown hg (fun e=>hyA.notBlk h.blk (by decide) e.symm)
 have apy:∀ x z,x ≠ d→rows x = some z→∀ g,z.ownA = some g→y.ownA ≠ some g:=fun x z hx hz g hg' e=>by
  cases hr:rows d with
  | none=>rw [RowM.ownA,(hno hr).2] at e; cases e
  | some z'=>rw [hy z' hr] at hr; exact h.apA x d z y hx hz hr g hg' e
 have keepA:∀ x z,x ≠ d→rows x = some z→Own encAn 2 198 w' base (.slice z.B z.an.length z.e) z.an:=fun x z hx hz=>by
  have h1:=(h.an x z hz).keptNe hg (fun q hq e=>apy x z hx hz q hq e)
  exact h1.keptNe hg2 (fun q hq e=>hm1.notOwn h1 (by rw [hq]; exact e.symm))
 have keepT:∀ {B e l},Own encTm 2 64 w base (.slice B (List.length l) e) l→Own encTm 2 64 w' base (.slice B (List.length l) e) l:=fun ho'=>by
  have h1:=ho'.keptNe hg (fun q hq e=>ho'.types hyA (by decide) hq e)
  exact h1.keptNe hg2 (fun q hq e=>hm1.notOwn h1 (by rw [hq]; exact e.symm))
 have hlt:∀ x z,rows x = some z→∀ q,z.ownA = some q→q < w.heap.size:=fun x z hz q hq=>((h.an x z hz).block_lt hq).2
 refine ⟨hB1.grown hg2 (fun e=>hm1.notBlk hB1 (by injection e)),hm,fun x z hz=>?_,fun x z hz=>?_,fun x z hz=>?_,fun x x' z z' hne hz hz' g hg' e=>?_,fun x x' z z' hne hz hz' g hg' e=>?_,h.lgd,h.lbs,fun x z hz=>?_⟩
 rotate_right 1
 ·
  split at hz
  ·
   rename_i e; rw [e]; exact hrg
  ·
   exact h.rng x z hz
 ·
  split at hz
  ·
   rename_i e; injection hz with hz; rw [← hz,e]
  ·
   exact h.day x z hz
 ·
  split at hz
  ·
   injection hz with hz
   rw [← hz]
   exact keepT hyT
  ·
   exact keepT (h.ti x z hz)
 ·
  split at hz
  ·
   injection hz with hz
   rw [← hz]
   exact ho.keptNe hg2 (fun q hq e=>hm1.notOwn ho (by rw [hq]; exact e.symm))
  ·
   rename_i e; exact keepA x z e hz
 ·
  have apT:∀ x z,x ≠ d→rows x = some z→∀ g,z.ownT = some g→y.ownT ≠ some g:=fun x z hx hz g hg' e=>by
   cases hr:rows d with
   | none=>rw [RowM.ownT,(hno hr).1] at e; cases e
   | some z'=>rw [hy z' hr] at hr; exact h.apT x d z y hx hz hr g hg' e
  split at hz
  ·
   split at hz'
   ·
    rename_i e1 e2; exact hne (by rw [e1,e2])
   ·
    rename_i e1 e2
    injection hz with hz
    rw [← hz] at hg'
    exact apT x' z' e2 hz' g e hg'
  ·
   split at hz'
   ·
    rename_i e1 e2
    injection hz' with hz'
    rw [← hz'] at e
    exact apT x z e1 hz g hg' e
   ·
    exact h.apT x x' z z' hne hz hz' g hg' e
 ·
  split at hz
  ·
   split at hz'
   ·
    rename_i e1 e2; exact hne (by rw [e1,e2])
   ·
    rename_i e1 e2
    injection hz with hz
    rw [← hz] at hg'
    rcases halt with ha | ⟨q,h1,h2⟩
    ·
     exact apy x' z' e2 hz' g e (by rw [← ha]; exact hg')
    ·
     have h3:=hlt x' z' hz' g e
     have h4:(Value.slice A' (y.an++[t]).length c').ownBlock = some g:=hg'
     rw [h2] at h4
     injection h4 with h4
     omega
  ·
   split at hz'
   ·
    rename_i e1 e2
    injection hz' with hz'
    rw [← hz'] at e
    rcases halt with ha | ⟨q,h1,h2⟩
    ·
     exact apy x z e1 hz g hg' (by rw [← ha]; exact e)
    ·
     have h3:=hlt x z hz g hg'
     have h4:(Value.slice A' (y.an++[t]).length c').ownBlock = some g:=e
     rw [h2] at h4
     injection h4 with h4
     omega
   ·
    exact h.apA x x' z z' hne hz hz' g hg' e
theorem SheetAt.more {w:World} {base bs gd N N' : Nat} {a b : Int} {rows:Int→Option RowM} (h:SheetAt w base bs gd N a b rows) (hn:N≤N') : SheetAt w base bs gd N' a b rows:=⟨h.blk,h.map.mono hn,h.day,h.ti,h.an,h.apT,h.apA,h.lgd,h.lbs,h.rng⟩
def anomOf (z:ZoneT) (l:List AnomT) (d:Int) : List AnomT:=l.filter fun x=>decide (dayN z x.time = d)
def plusAn (z:ZoneT) (l:List AnomT) (a b : Int) (f:Int→Option (List TmT × List AnomT)) (d:Int) : Option (List TmT × List AnomT) :=
 if a≤d∧d≤b∧anomOf z l d ≠ [] then some (((f d).getD ([],[])).1,((f d).getD ([],[])).2++anomOf z l d) else f d
theorem anomOf_snoc (z:ZoneT) (l:List AnomT) (x:AnomT) (d:Int) : anomOf z (l++[x]) d = anomOf z l d++if dayN z x.time = d then [x] else []:=by
 unfold anomOf
 rw [List.filter_append]
 congr 1
 by_cases h:dayN z x.time = d
 ·
  rw [if_pos h]; simp [h]
 ·
  rw [if_neg h]; simp [h]
theorem plusAn_snoc (z:ZoneT) (l:List AnomT) (a b : Int) (f:Int→Option (List TmT × List AnomT)) (x:AnomT) (d:Int) :
  plusAn z (l++[x]) a b f d = if d = dayN z x.time∧a≤d∧d≤b then some (((plusAn z l a b f d).getD ([],[])).1,((plusAn z l a b f d).getD ([],[])).2++[x]) else plusAn z l a b f d:=by
 unfold plusAn
 rw [anomOf_snoc]
 by_cases e:dayN z x.time = d
 ·
  subst e
  by_cases h1:a≤dayN z x.time <;> by_cases h2:dayN z x.time≤b <;> by_cases hn:anomOf z l (dayN z x.time) = [] <;> simp [h1,h2,hn]
 ·
  have e':¬ d = dayN z x.time:=fun h=>e h.symm
  simp [e,e']
theorem anomOf_len (z:ZoneT) (l:List AnomT) (d:Int) : (anomOf z l d).length≤l.length:=List.length_filter_le _ _
theorem plusAn_len {z:ZoneT} {l:List AnomT} {a b : Int} {f:Int→Option (List TmT × List AnomT)} {d:Int} {n:Nat} (h : ((f d).getD ([],[])).2.length≤n) : ((plusAn z l a b f d).getD ([],[])).2.length≤n+l.length:=by
 unfold plusAn
 have:=anomOf_len z l d
 split
 ·
  show (((f d).getD ([],[])).2++anomOf z l d).length≤_
  rw [List.length_append]
  omega
 ·
  omega
theorem rowAt_plain (rows:Int→Option RowM) (d:Int) : (rowAt rows d).ti = ((plainR rows d).getD ([],[])).1∧(rowAt rows d).an = ((plainR rows d).getD ([],[])).2:=by
 unfold rowAt plainR
 cases rows d <;> exact ⟨rfl,rfl⟩
def AnomPost (base bs gd : Nat) (a b : Int) (f:Int→Option (List TmT × List AnomT)) (z:ZoneT) (l:List AnomT) (M:Nat) (w:World) (e:Ending) (w' : World) : Prop :=
 e = .returned (.tuple #[])∧Below base w w'∧∃ rows N,SheetAt w' base bs gd N a b rows∧N≤M∧∀ d,0≤d∧d≤84005→plainR rows d = plusAn z l a b f d
end Go.Proofs.YtopekilofdadnaaGreatDoor
