/- Joined texts: RefOf TakeP AddP. Conditions: as stated. -/
import Derived.Test.YtjncpgbhokjbfaaGreatJ07
import Derived.Test.YtjncpgbhokjbfaaGreatJ08
import Derived.Test.YtjncpgbhokjbfaaGreatJ09
namespace Go.Proofs.YtjncpgbhokjbfaaGreat
open Go.RowKit
structure BasesT where
 g:Int
 c:Int
 t:Int
 i:Int
 a:Int
deriving DecidableEq
def encBas (b:BasesT) : List Value:=[.int .i64 b.g,.int .i64 b.c,.int .i64 b.t,.int .i64 b.i,.int .i64 b.a]
def zeroB : BasesT:=⟨0,0,0,0,0⟩
def addBs (b:BasesT) (y:WageT) (n:Int) : BasesT:=⟨b.g+n,b.c+(if y.kind = 1 then n else 0),b.t+(if y.taxable then n else 0),b.i+(if y.insured then n else 0),b.a+(if y.attachable then n else 0)⟩
def stepB (ws:List WageT) (b:BasesT) (x:Elem) : BasesT:=addBs b ((findW ws x.code).getD zeroW) x.amount
def sumB (ws:List WageT) (l:List Elem) : BasesT:=l.foldl (stepB ws) zeroB
def missing (ws:List WageT) (l:List Elem) : Bool:=l.any fun x=>(findW ws x.code).isNone
def amtsB (b:BasesT) : Bool:=amtB b.g && amtB b.c && amtB b.t && amtB b.i && amtB b.a
def ofErr (ws:List WageT) (l m : List Elem) : Int:=if validB ws = false then 1 else if preErr l ≠ 0 then preErr l else if missing ws m then 16 else if amtsB (sumB ws m) = false then 4 else 0
def ofV (ws:List WageT) (l m : List Elem) : Value:=.tuple #[.agg (encBas (if ofErr ws l m = 0 then sumB ws m else zeroB)).toArray,.int .i64 (ofErr ws l m)]
def Bs (w:World) (g:Nat) (b:BasesT) : Prop:=Blk w g 38 (encBas b).toArray
section
variable {w:World} {gg:Nat} {b:BasesT}
theorem Bs.g (h:Bs w gg b) (n:Int) : Bs (w.setCell ⟨gg,0,none⟩ (.int .i64 n)) gg { b with g:=n }:=Blk.set_ h 0 _
theorem Bs.c (h:Bs w gg b) (n:Int) : Bs (w.setCell ⟨gg,1,none⟩ (.int .i64 n)) gg { b with c:=n }:=Blk.set_ h 1 _
theorem Bs.t (h:Bs w gg b) (n:Int) : Bs (w.setCell ⟨gg,2,none⟩ (.int .i64 n)) gg { b with t:=n }:=Blk.set_ h 2 _
theorem Bs.i (h:Bs w gg b) (n:Int) : Bs (w.setCell ⟨gg,3,none⟩ (.int .i64 n)) gg { b with i:=n }:=Blk.set_ h 3 _
theorem Bs.a (h:Bs w gg b) (n:Int) : Bs (w.setCell ⟨gg,4,none⟩ (.int .i64 n)) gg { b with a:=n }:=Blk.set_ h 4 _
theorem Bs.far (h:Bs w gg b) {p:Addr} (hp:gg ≠ p.block) (u:Value) : Bs (w.setCell p u) gg b:=Blk.far h hp u
theorem Bs.alloc (h:Bs w gg b) (o:Obj) : Bs (w.alloc o) gg b:=Blk.alloc h o
theorem Bs.below {w' : World} {B:Nat} (h:Bs w gg b) (hb:Below B w w') (hg:gg < B) : Bs w' gg b:=Blk.below h hb hg
end
theorem Blk.put5 {w:World} {g:Nat} {t:TypeId} {cs:Array Value} (h:Blk w g t cs) (hs:cs.size = 5) (a0 a1 a2 a3 a4 : Value) :
  Blk (((((w.setCell ⟨g,0,none⟩ a0).setCell ⟨g,1,none⟩ a1).setCell ⟨g,2,none⟩ a2).setCell ⟨g,3,none⟩ a3).setCell ⟨g,4,none⟩ a4) g t #[a0,a1,a2,a3,a4]:=by
 have e:(((((cs.setIfInBounds 0 a0).setIfInBounds 1 a1).setIfInBounds 2 a2).setIfInBounds 3 a3).setIfInBounds 4 a4) = #[a0,a1,a2,a3,a4]:=by
  obtain ⟨l⟩:=cs
  match l,hs with
  | [_,_,_,_,_],_=>rfl
 rw [← e]
 exact ((((h.set_ 0 a0).set_ 1 a1).set_ 2 a2).set_ 3 a3).set_ 4 a4
theorem sumB_take (ws:List WageT) (l:List Elem) (k:Nat) (h:k < l.length) : sumB ws (l.take (k+1)) = stepB ws (sumB ws (l.take k)) l[k]:=by
 rw [List.take_succ_eq_append_getElem h,sumB,List.foldl_append]; rfl
def BddB (B:Int) (b:BasesT) : Prop:=(-B≤b.g∧b.g≤B)∧(-B≤b.c∧b.c≤B)∧(-B≤b.t∧b.t≤B)∧(-B≤b.i∧b.i≤B)∧(-B≤b.a∧b.a≤B)
theorem BddB.add {B C : Int} {b:BasesT} (h:BddB B b) (hC:0≤C) (y:WageT) {n:Int} (h1 : -C≤n) (h2:n≤C) : BddB (B+C) (addBs b y n):=by
 obtain ⟨⟨a1,a2⟩,⟨b1,b2⟩,⟨c1,c2⟩,⟨d1,d2⟩,⟨e1,e2⟩⟩:=h
 have ite_b:∀ (p:Prop) [Decidable p],-C≤(if p then n else 0)∧(if p then n else 0)≤C:=by intro p _; split <;> omega
 unfold BddB addBs
 have k1:=ite_b (y.kind = 1)
 have k2:=ite_b (y.taxable = true)
 have k3:=ite_b (y.insured = true)
 have k4:=ite_b (y.attachable = true)
 refine ⟨?_,?_,?_,?_,?_⟩ <;> dsimp only <;> omega
theorem preErr_zero {l:List Elem} (h:preErr l = 0) : Bdd 1000000000 (sumsP l)∧(sumsP l).length≤128:=by
 have h1:¬ 128 < l.length:=by
  intro h1; rw [preErr,if_pos h1] at h; cases h
 rw [preErr,if_neg h1] at h
 split at h
 ·
  cases h
 ·
  split at h
  ·
   cases h
  ·
   split at h
   ·
    cases h
   ·
    rename_i h4
    refine ⟨fun x hx=>?_,Nat.le_trans (sumsP_length l) (by omega)⟩
    simp only [Bool.not_eq_true,List.any_eq_false] at h4
    have:=h4 x hx
    simpa [amtB] using this
theorem foundV_none : foundV none = .tuple #[.agg #[.string ⟨#[]⟩,.int .i64 0,.bool false,.bool false,.bool false,.int .i64 0],.bool false]:=rfl
theorem foundV_some (y:WageT) : foundV (some y) = .tuple #[.agg #[.string y.code,.int .i64 y.kind,.bool y.taxable,.bool y.insured,.bool y.attachable,.int .i64 y.account],.bool true]:=rfl
theorem Bs.cells {w:World} {gg:Nat} {b:BasesT} (h:Bs w gg b) : w.cell? ⟨gg,0,none⟩ = some (.int .i64 b.g)∧w.cell? ⟨gg,1,none⟩ = some (.int .i64 b.c)∧w.cell? ⟨gg,2,none⟩ = some (.int .i64 b.t)∧w.cell? ⟨gg,3,none⟩ = some (.int .i64 b.i)∧w.cell? ⟨gg,4,none⟩ = some (.int .i64 b.a) :=
 ⟨Blk.cell h 0,Blk.cell h 1,Blk.cell h 2,Blk.cell h 3,Blk.cell h 4⟩
theorem Bs.frz {w:World} {gg:Nat} {b:BasesT} (h:Bs w gg b) : w.frozen? ⟨gg,0,none⟩ = false∧w.frozen? ⟨gg,1,none⟩ = false∧w.frozen? ⟨gg,2,none⟩ = false∧w.frozen? ⟨gg,3,none⟩ = false∧w.frozen? ⟨gg,4,none⟩ = false :=
 ⟨Blk.frozen h 0,Blk.frozen h 1,Blk.frozen h 2,Blk.frozen h 3,Blk.frozen h 4⟩
theorem Bs.put {w:World} {gg:Nat} {b:BasesT} (h:Bs w gg b) (d:BasesT) : Bs (((((w.setCell ⟨gg,0,none⟩ (.int .i64 d.g)).setCell ⟨gg,1,none⟩ (.int .i64 d.c)).setCell ⟨gg,2,none⟩ (.int .i64 d.t)).setCell ⟨gg,3,none⟩ (.int .i64 d.i)).setCell ⟨gg,4,none⟩ (.int .i64 d.a)) gg d :=
 Blk.put5 h rfl _ _ _ _ _
theorem below_put5 {w W : World} {gg:Nat} (h:Below w.heap.size w W) (hg:w.heap.size≤gg) (a0 a1 a2 a3 a4 : Value) : Below w.heap.size w (((((W.setCell ⟨gg,0,none⟩ a0).setCell ⟨gg,1,none⟩ a1).setCell ⟨gg,2,none⟩ a2).setCell ⟨gg,3,none⟩ a3).setCell ⟨gg,4,none⟩ a4) :=
 below_put (below_put (below_put (below_put (below_put h hg 0 a0) hg 1 a1) hg 2 a2) hg 3 a3) hg 4 a4
structure OfCut (w w2 w4 : World) (y:WageT) (b:BasesT) (wx:World) : Prop where
 bs:Bs wx w2.heap.size b
 rs:Bs wx w.heap.size zeroB
 bel:Below w2.heap.size w2 wx
 wg:Blk wx w4.heap.size 61 (encW y).toArray
 lt1:w.heap.size < w2.heap.size
 lt2:w2.heap.size < w4.heap.size
section
variable {w w2 w4 wx:World} {y:WageT} {b:BasesT}
theorem OfCut.step (h:OfCut w w2 w4 y b wx) {b' : BasesT} {i:Nat} {u:Value} (hb:Bs (wx.setCell ⟨w2.heap.size,i,none⟩ u) w2.heap.size b') : OfCut w w2 w4 y b' (wx.setCell ⟨w2.heap.size,i,none⟩ u) :=
 ⟨hb,h.rs.far (by have:=h.lt1; simp; omega) _,h.bel.setCell (by simp) _,h.wg.far (by have:=h.lt2; simp; omega) _,h.lt1,h.lt2⟩
theorem OfCut.set_c (h:OfCut w w2 w4 y b wx) (n:Int) : OfCut w w2 w4 y { b with c:=n } (wx.setCell ⟨w2.heap.size,1,none⟩ (.int .i64 n)):=h.step (h.bs.c n)
theorem OfCut.set_t (h:OfCut w w2 w4 y b wx) (n:Int) : OfCut w w2 w4 y { b with t:=n } (wx.setCell ⟨w2.heap.size,2,none⟩ (.int .i64 n)):=h.step (h.bs.t n)
theorem OfCut.set_i (h:OfCut w w2 w4 y b wx) (n:Int) : OfCut w w2 w4 y { b with i:=n } (wx.setCell ⟨w2.heap.size,3,none⟩ (.int .i64 n)):=h.step (h.bs.i n)
theorem OfCut.set_a (h:OfCut w w2 w4 y b wx) (n:Int) : OfCut w w2 w4 y { b with a:=n } (wx.setCell ⟨w2.heap.size,4,none⟩ (.int .i64 n)):=h.step (h.bs.a n)
end
set_option maxRecDepth 100000 in
set_option maxHeartbeats 8000000 in
theorem of26_any (A E : Option Addr) (cap ecap : Nat) (ws:List WageT) (xs:List Elem) (w:World) (h:SliceOf encW 6 w w.heap.size A ws) (hzw : ∀ x ∈ ws,x.code.size≤maxLen) (hlw:ws.length≤9223372036854775806)
  (hE:SliceOf encE 2 w w.heap.size E xs) (hz:∀ x ∈ xs,x.code.size≤maxLen) (hl:xs.length≤9223372036854775807) :
  Calls Tryz.prog 51 #[.slice A ws.length cap,.slice E xs.length ecap] w fun r w'=>r = .returned (ofV ws xs (sumsP xs))∧Below w.heap.size w w':=by
 have HZ:=Lib.hid hz; clear hz
 have HZW:=Lib.hid hzw; clear hzw
 go_enter Tryz.func51,Tryz.ntmps51
 go_wp2_with fail
 have hB0:Bs (w.alloc (.cells #[.int .i64 0,.int .i64 0,.int .i64 0,.int .i64 0,.int .i64 0] 38)) w.heap.size zeroB:=Blk.new _ _ _
 have hb0:Below w.heap.size w (w.alloc (.cells #[.int .i64 0,.int .i64 0,.int .i64 0,.int .i64 0,.int .i64 0] 38)):=(Below.refl _ _).alloc (Nat.le_refl _) _
 generalize w.alloc (.cells #[.int .i64 0,.int .i64 0,.int .i64 0,.int .i64 0,.int .i64 0] 38) = w0 at hB0 hb0 ⊢
 have hs0:w.heap.size < w0.heap.size:=Blk.lt hB0
 refine (valid26_any A cap ws _ ((h.below hb0).more (by omega)) HZW.out (by omega)).mono ?_
 rintro e w1 ⟨rfl,hb1⟩
 have hB1:=hB0.below hb1 hs0
 have hbel1:=below_size hb0 hb1 (by omega)
 have hs1:=hb1.size
 by_cases hv:validB ws = true
 ·
  have HV:=Lib.hid hv
  go_wp2_with fail
  refine (sums26_any E ecap xs _ ((hE.below hbel1).more (by omega)) HZ.out hl).mono ?_
  rintro e w2 ⟨v2,rfl,hown,hb2⟩
  have hB2:=hB1.below hb2 (by omega)
  have hbel2:=below_size hbel1 hb2 (by omega)
  have hs2:=hb2.size
  by_cases h0:preErr xs = 0
  ·
   have H0:=Lib.hid h0
   rw [sumsR,if_pos h0] at hown
   rw [h0]
   obtain ⟨A5,c5,rfl,hS5,hB5,hlc5,hcm5⟩:=hown.form2 encE_len
   obtain ⟨hSb,hSl⟩:=preErr_zero h0
   have HSZ:=Lib.hid (fun x hx=>sumsP_size HZ.out x hx)
   generalize hS:sumsP xs = S at *
   clear h0 hB0 hb0 hb1 hb2 hB1 hbel1
   go_wp2
   have hBb:Bs (w2.alloc (.cells #[.int .i64 0,.int .i64 0,.int .i64 0,.int .i64 0,.int .i64 0] 38)) w2.heap.size zeroB:=Blk.new _ _ _
   have hBr:=hB2.alloc (Obj.cells #[.int .i64 0,.int .i64 0,.int .i64 0,.int .i64 0,.int .i64 0] 38)
   have hBS:=(Below.refl w2.heap.size w2).alloc (Nat.le_refl _) (Obj.cells #[.int .i64 0,.int .i64 0,.int .i64 0,.int .i64 0,.int .i64 0] 38)
   generalize w2.alloc (.cells #[.int .i64 0,.int .i64 0,.int .i64 0,.int .i64 0,.int .i64 0] 38) = w3 at hBb hBr hBS ⊢
   go_loopw [9] (fun i wr=>∃ k:Nat,k≤S.length∧i = .int .i64 k∧Hid (∀ j,(hj:j < S.length)→j < k→(findW ws S[j].code).isSome = true)∧Bs wr w2.heap.size (sumB ws (S.take k))∧BddB (k * 1000000000) (sumB ws (S.take k))∧Bs wr w.heap.size zeroB∧Below w2.heap.size w2 wr) (fun i _=>S.length - (intOf i).toNat)
   case atStart=>exact ⟨0,by omega,rfl,fun j _ hj=>absurd hj (by omega),hBb,by simp [sumB,zeroB,BddB],hBr,hBS⟩
   case round =>
    clear hBb hBr hBS
    obtain ⟨k,hk,rfl,hall,hBb,hbd,hBr,hbel⟩:=hrel
    have hbs:=Blk.lt hBb
    by_cases hlt:k < S.length
    ·
     obtain ⟨b,off,rfl,hb,hc⟩:=(hS5.below hbel).at_ hlt
     have c0:=hc 0 _ rfl
     simp only [Nat.add_zero] at c0
     clear hc
     go_wp2_with fail
     refine (find26_any A cap ws S[k].code _ ((h.below (hbel2.trans (hbel.mono (by omega)))).more (by omega)) (by omega)).mono ?_
     rintro e w4 ⟨rfl,hb4⟩
     have hBb4:=hBb.below hb4 hbs
     have hBr4:=hBr.below hb4 (by omega)
     have hbel4:=below_size hbel hb4 (by omega)
     have hs4:=hb4.size
     have hw4:w.heap.size < w4.heap.size:=by omega
     have hw24:w2.heap.size < w4.heap.size:=by omega
     have hbw4:b < w4.heap.size:=by have:=hbel.size; omega
     rcases hf:findW ws S[k].code with _ | y
     ·
      rw [foundV_none]
      obtain ⟨r0,r1,r2,r3,r4⟩:=hBr4.cells
      obtain ⟨q0,q1,q2,q3,q4⟩:=hBr4.frz
      have HE:Hid (ofErr ws xs S = 16):=by
       have hm:missing ws S = true:=List.any_eq_true.2 ⟨S[k],List.getElem_mem _,by simp [hf]⟩
       simp only [Hid,ofErr,HV.out,H0.out,hm,if_true,Bool.true_eq_false,if_false,ne_eq,not_true_eq_false]
      go_wp2
      have hfb:=(hBr4.put zeroB).alloc (Obj.cells #[.string ⟨#[]⟩,.int .i64 0,.bool false,.bool false,.bool false,.int .i64 0] 61)
      have hfB:Below w.heap.size w _:=(below_put5 (hbel2.trans (hbel4.mono (by omega))) (Nat.le_refl _) (.int .i64 0) (.int .i64 0) (.int .i64 0) (.int .i64 0) (.int .i64 0)).alloc (by simp; omega) (Obj.cells #[.string ⟨#[]⟩,.int .i64 0,.bool false,.bool false,.bool false,.int .i64 0] 61)
      simp only [zeroB] at hfb
      generalize World.alloc _ _ = WW at hfb hfB ⊢
      obtain ⟨z0,z1,z2,z3,z4⟩:=hfb.cells
      refine bodyPost_ret (v:=ofV ws xs S) ?_ rfl ⟨by rw [hS],hfB⟩
      rw [ofV,HE.out]
      simp [results,Tryz.results51,go_sem,z0,z1,z2,z3,z4,encBas,zeroB]
     ·
      rw [foundV_some]
      obtain ⟨r0,r1,r2,r3,r4⟩:=hBb4.cells
      obtain ⟨q0,q1,q2,q3,q4⟩:=hBb4.frz
      obtain ⟨b',off',hA',_,hc'⟩:=(hS5.below hbel4).at_ hlt
      injection hA' with hA'
      injection hA' with h1 h2
      subst h1 h2
      have d1:=hc' 1 _ rfl
      clear hc'
      have hSk:=hSb _ (List.getElem_mem hlt)
      obtain ⟨hSk1,hSk2⟩:=hSk
      have hbd1:=hbd.add (C:=1000000000) (by omega) y hSk1 hSk2
      have est:sumB ws (S.take (k+1)) = addBs (sumB ws (S.take k)) y S[k].amount:=by rw [sumB_take ws S k hlt,stepB,hf]; rfl
      have EST:=Lib.hid est
      have hall1:∀ j,(hj:j < S.length)→j < k+1→(findW ws S[j].code).isSome = true:=by
       intro j hj hjk
       rcases Nat.lt_or_ge j k with h1 | h1
       ·
        exact hall.out j hj h1
       ·
        obtain rfl:j = k:=by omega
        rw [hf]; rfl
      have HALL:=Lib.hid hall1
      clear hall1 est hf c0
      generalize sumB ws (S.take k) = bb at *
      obtain ⟨⟨g1,g2⟩,⟨g3,g4⟩,⟨g5,g6⟩,⟨g7,g8⟩,⟨g9,g10⟩⟩:=hbd
      have hcut0:OfCut w w2 w4 y ⟨bb.g+S[k].amount,bb.c,bb.t,bb.i,bb.a⟩ ((w4.setCell ⟨w2.heap.size,0,none⟩ (.int .i64 (bb.g+S[k].amount))).alloc (.cells (encW y).toArray 61)) :=
       ⟨(hBb4.g _).alloc _,(hBr4.far (by simp; omega) _).alloc _,(hbel4.setCell (by simp) _).alloc (by simp; omega) _,by have:=Blk.new (w4.setCell ⟨w2.heap.size,0,none⟩ (.int .i64 (bb.g+S[k].amount))) 61 (encW y).toArray; simpa using this,by omega,by omega⟩
      have HC0:=Lib.hid hcut0
      clear hcut0
      go_upto_if 57 with fail
      generalize hW0:World.alloc _ _ = W0
      have C0:OfCut w w2 w4 y ⟨bb.g+S[k].amount,bb.c,bb.t,bb.i,bb.a⟩ W0:=by rw [← hW0]; exact HC0.out
      clear hW0 r0 r1 r2 r3 r4 q0 q1 q2 q3 q4 d1 HC0 hBb4 hBr4 hBb hBr hbel hbel4 hB2
      obtain ⟨r0,r1,r2,r3,r4⟩:=C0.bs.cells
      obtain ⟨q0,q1,q2,q3,q4⟩:=C0.bs.frz
      have y1:=C0.wg.cell 1
      have y2:=C0.wg.cell 2
      have y3:=C0.wg.cell 3
      have y4:=C0.wg.cell 4
      simp only [encW,List.getElem?_toArray,List.getElem?_cons_zero,List.getElem?_cons_succ] at y1 y2 y3 y4
      go_cut [] (fun wx=>OfCut w w2 w4 y ⟨bb.g+S[k].amount,bb.c+(if y.kind = 1 then S[k].amount else 0),bb.t,bb.i,bb.a⟩ wx)
      case first =>
       by_cases k1:y.kind = 1
       ·
        have k1':(y.kind == 1) = true:=by simp [k1]
        go_wp2
        go_meet
        have hz:=(C0.set_c (bb.c+S[k].amount))
        simpa [k1] using hz
       ·
        have k1':(y.kind == 1) = false:=by simp [k1]
        go_wp2
        go_meet
        simpa [k1] using C0
      case rest =>
       clear r0 r1 r2 r3 r4 q0 q1 q2 q3 q4 y1 y2 y3 y4 C0
       have C1:=hcut
       clear hcut
       obtain ⟨r0,r1,r2,r3,r4⟩:=C1.bs.cells
       obtain ⟨q0,q1,q2,q3,q4⟩:=C1.bs.frz
       have y1:=C1.wg.cell 1
       have y2:=C1.wg.cell 2
       have y3:=C1.wg.cell 3
       have y4:=C1.wg.cell 4
       simp only [encW,List.getElem?_toArray,List.getElem?_cons_zero,List.getElem?_cons_succ] at y1 y2 y3 y4
       go_upto_if 64 with fail
       go_cut [] (fun wx=>OfCut w w2 w4 y ⟨bb.g+S[k].amount,bb.c+(if y.kind = 1 then S[k].amount else 0),bb.t+(if y.taxable = true then S[k].amount else 0),bb.i,bb.a⟩ wx)
       case first =>
        rcases k1:y.taxable with _ | _
        rotate_left
        ·
         go_wp2
         go_meet
         have hz:=(C1.set_t (bb.t+S[k].amount))
         simpa [k1] using hz
        ·
         go_wp2
         go_meet
         simpa [k1] using C1
       case rest =>
        clear r0 r1 r2 r3 r4 q0 q1 q2 q3 q4 y1 y2 y3 y4 C1
        have C2:=hcut
        clear hcut
        obtain ⟨r0,r1,r2,r3,r4⟩:=C2.bs.cells
        obtain ⟨q0,q1,q2,q3,q4⟩:=C2.bs.frz
        have y1:=C2.wg.cell 1
        have y2:=C2.wg.cell 2
        have y3:=C2.wg.cell 3
        have y4:=C2.wg.cell 4
        simp only [encW,List.getElem?_toArray,List.getElem?_cons_zero,List.getElem?_cons_succ] at y1 y2 y3 y4
        go_upto_if 71 with fail
        go_cut [] (fun wx=>OfCut w w2 w4 y ⟨bb.g+S[k].amount,bb.c+(if y.kind = 1 then S[k].amount else 0),bb.t+(if y.taxable = true then S[k].amount else 0),bb.i+(if y.insured = true then S[k].amount else 0),bb.a⟩ wx)
        case first =>
         rcases k1:y.insured with _ | _
         rotate_left
         ·
          go_wp2
          go_meet
          have hz:=(C2.set_i (bb.i+S[k].amount))
          simpa [k1] using hz
         ·
          go_wp2
          go_meet
          simpa [k1] using C2
        case rest =>
         clear r0 r1 r2 r3 r4 q0 q1 q2 q3 q4 y1 y2 y3 y4 C2
         have C3:=hcut
         clear hcut
         obtain ⟨r0,r1,r2,r3,r4⟩:=C3.bs.cells
         obtain ⟨q0,q1,q2,q3,q4⟩:=C3.bs.frz
         have y4:=C3.wg.cell 4
         simp only [encW,List.getElem?_toArray,List.getElem?_cons_zero,List.getElem?_cons_succ] at y4
         have hfin:∀ W',OfCut w w2 w4 y (addBs bb y S[k].amount) W'→∃ k':Nat,k'≤S.length∧Value.int .i64 ((k:Int)+1) = .int .i64 k'∧Hid (∀ j,(hj:j < S.length)→j < k'→(findW ws S[j].code).isSome = true)∧Bs W' w2.heap.size (sumB ws (S.take k'))∧BddB (k' * 1000000000) (sumB ws (S.take k'))∧Bs W' w.heap.size zeroB∧Below w2.heap.size w2 W':=by
          intro W' hC
          refine ⟨k+1,by omega,by go_num,HALL.out,by rw [EST.out]; exact hC.bs,?_,hC.rs,hC.bel⟩
          have e9:((k+1:Nat) : Int) * 1000000000 = (k:Int) * 1000000000+1000000000:=by omega
          rw [EST.out,e9]; exact hbd1
         have HFIN:=Lib.hid hfin
         clear hfin
         rcases k1:y.attachable with _ | _
         ·
          have C4:OfCut w w2 w4 y (addBs bb y S[k].amount) wc:=by simpa [addBs,k1] using C3
          clear C3
          go_wp2
          go_roundw
          case rel =>
           have hf:=HFIN.out _ C4
           first | exact hf | ((repeat apply Exists.intro); exact ⟨hf,rfl⟩)
          case measure=>simp [intOf]; omega
         ·
          have C4:OfCut w w2 w4 y (addBs bb y S[k].amount) (wc.setCell ⟨w2.heap.size,4,none⟩ (.int .i64 (bb.a+S[k].amount))):=by simpa [addBs,k1] using C3.set_a (bb.a+S[k].amount)
          clear C3
          go_wp2
          go_roundw
          case rel =>
           have hf:=HFIN.out _ C4
           first | exact hf | ((repeat apply Exists.intro); exact ⟨hf,rfl⟩)
          case measure=>simp [intOf]; omega
    ·
     have hSk:S.take k = S:=List.take_of_length_le (by omega)
     rw [hSk] at hBb hbd
     have hmiss:Hid (missing ws S = false):=by
      rw [Hid,missing,List.any_eq_false]
      intro x hx
      obtain ⟨j,hj,rfl⟩:=List.mem_iff_getElem.1 hx
      have:=hall.out j hj (by omega)
      rw [Option.isSome_iff_ne_none] at this
      simpa using this
     obtain ⟨r0,r1,r2,r3,r4⟩:=hBb.cells
     obtain ⟨p0,p1,p2,p3,p4⟩:=hBr.cells
     obtain ⟨q0,q1,q2,q3,q4⟩:=hBr.frz
     have HBB:Hid (Below w.heap.size w wr):=hbel2.trans (hbel.mono (by omega))
     have HS:=Lib.hid hS
     have HOF:Hid (ofErr ws xs S = if amtsB (sumB ws S) = false then 4 else 0):=by
      simp only [Hid,ofErr,HV.out,H0.out,hmiss.out,if_false,Bool.true_eq_false,Bool.false_eq_true,ne_eq,not_true_eq_false]
     have hw4:w.heap.size < wr.heap.size:=by omega
     clear hS hSk hall hbd
     generalize hbb:sumB ws S = bb at *
     have HBBS:=Lib.hid hbb
     clear hbb
     by_cases a1:amtB bb.g = true
     rotate_left
     ·
      have a1':amtB bb.g = false:=by simpa using a1
      have HE:Hid (ofErr ws xs S = 4):=by rw [Hid,HOF.out,if_pos (by simp [amtsB,a1'])]
      clear a1
      go_wp2_with (go_at_call 58; refine (amount26_any _ _).mono ?_; rintro e w' ⟨rfl,rfl⟩)
      have hfb:=(hBr.put zeroB)
      have hfB:Below w.heap.size w _:=below_put5 HBB.out (Nat.le_refl _) (.int .i64 0) (.int .i64 0) (.int .i64 0) (.int .i64 0) (.int .i64 0)
      simp only [zeroB] at hfb
      generalize World.setCell _ ⟨w.heap.size,4,none⟩ _ = WW at hfb hfB ⊢
      obtain ⟨z0,z1,z2,z3,z4⟩:=hfb.cells
      refine bodyPost_ret (v:=ofV ws xs S) ?_ rfl ⟨by first | rfl | rw [HS.out],hfB⟩
      rw [ofV,HE.out]
      simp [results,Tryz.results51,go_sem,z0,z1,z2,z3,z4,encBas,zeroB]
     by_cases a2:amtB bb.c = true
     rotate_left
     ·
      have a2':amtB bb.c = false:=by simpa using a2
      have HE:Hid (ofErr ws xs S = 4):=by rw [Hid,HOF.out,if_pos (by simp [amtsB,a2'])]
      clear a2
      go_wp2_with (go_at_call 58; refine (amount26_any _ _).mono ?_; rintro e w' ⟨rfl,rfl⟩)
      have hfb:=(hBr.put zeroB)
      have hfB:Below w.heap.size w _:=below_put5 HBB.out (Nat.le_refl _) (.int .i64 0) (.int .i64 0) (.int .i64 0) (.int .i64 0) (.int .i64 0)
      simp only [zeroB] at hfb
      generalize World.setCell _ ⟨w.heap.size,4,none⟩ _ = WW at hfb hfB ⊢
      obtain ⟨z0,z1,z2,z3,z4⟩:=hfb.cells
      refine bodyPost_ret (v:=ofV ws xs S) ?_ rfl ⟨by first | rfl | rw [HS.out],hfB⟩
      rw [ofV,HE.out]
      simp [results,Tryz.results51,go_sem,z0,z1,z2,z3,z4,encBas,zeroB]
     by_cases a3:amtB bb.t = true
     rotate_left
     ·
      have a3':amtB bb.t = false:=by simpa using a3
      have HE:Hid (ofErr ws xs S = 4):=by rw [Hid,HOF.out,if_pos (by simp [amtsB,a3'])]
      clear a3
      go_wp2_with (go_at_call 58; refine (amount26_any _ _).mono ?_; rintro e w' ⟨rfl,rfl⟩)
      have hfb:=(hBr.put zeroB)
      have hfB:Below w.heap.size w _:=below_put5 HBB.out (Nat.le_refl _) (.int .i64 0) (.int .i64 0) (.int .i64 0) (.int .i64 0) (.int .i64 0)
      simp only [zeroB] at hfb
      generalize World.setCell _ ⟨w.heap.size,4,none⟩ _ = WW at hfb hfB ⊢
      obtain ⟨z0,z1,z2,z3,z4⟩:=hfb.cells
      refine bodyPost_ret (v:=ofV ws xs S) ?_ rfl ⟨by first | rfl | rw [HS.out],hfB⟩
      rw [ofV,HE.out]
      simp [results,Tryz.results51,go_sem,z0,z1,z2,z3,z4,encBas,zeroB]
     by_cases a4:amtB bb.i = true
     rotate_left
     ·
      have a4':amtB bb.i = false:=by simpa using a4
      have HE:Hid (ofErr ws xs S = 4):=by rw [Hid,HOF.out,if_pos (by simp [amtsB,a4'])]
      clear a4
      go_wp2_with (go_at_call 58; refine (amount26_any _ _).mono ?_; rintro e w' ⟨rfl,rfl⟩)
      have hfb:=(hBr.put zeroB)
      have hfB:Below w.heap.size w _:=below_put5 HBB.out (Nat.le_refl _) (.int .i64 0) (.int .i64 0) (.int .i64 0) (.int .i64 0) (.int .i64 0)
      simp only [zeroB] at hfb
      generalize World.setCell _ ⟨w.heap.size,4,none⟩ _ = WW at hfb hfB ⊢
      obtain ⟨z0,z1,z2,z3,z4⟩:=hfb.cells
      refine bodyPost_ret (v:=ofV ws xs S) ?_ rfl ⟨by first | rfl | rw [HS.out],hfB⟩
      rw [ofV,HE.out]
      simp [results,Tryz.results51,go_sem,z0,z1,z2,z3,z4,encBas,zeroB]
     by_cases a5:amtB bb.a = true
     rotate_left
     ·
      have a5':amtB bb.a = false:=by simpa using a5
      have HE:Hid (ofErr ws xs S = 4):=by rw [Hid,HOF.out,if_pos (by simp [amtsB,a5'])]
      clear a5
      go_wp2_with (go_at_call 58; refine (amount26_any _ _).mono ?_; rintro e w' ⟨rfl,rfl⟩)
      have hfb:=(hBr.put zeroB)
      have hfB:Below w.heap.size w _:=below_put5 HBB.out (Nat.le_refl _) (.int .i64 0) (.int .i64 0) (.int .i64 0) (.int .i64 0) (.int .i64 0)
      simp only [zeroB] at hfb
      generalize World.setCell _ ⟨w.heap.size,4,none⟩ _ = WW at hfb hfB ⊢
      obtain ⟨z0,z1,z2,z3,z4⟩:=hfb.cells
      refine bodyPost_ret (v:=ofV ws xs S) ?_ rfl ⟨by first | rfl | rw [HS.out],hfB⟩
      rw [ofV,HE.out]
      simp [results,Tryz.results51,go_sem,z0,z1,z2,z3,z4,encBas,zeroB]
     have HE:Hid (ofErr ws xs S = 0):=by rw [Hid,HOF.out,if_neg (by simp [amtsB,a1,a2,a3,a4,a5])]
     go_wp2_with (go_at_call 58; refine (amount26_any _ _).mono ?_; rintro e w' ⟨rfl,rfl⟩)
     have hfb:=(hBr.put bb)
     have hfB:Below w.heap.size w _:=below_put5 HBB.out (Nat.le_refl _) (.int .i64 bb.g) (.int .i64 bb.c) (.int .i64 bb.t) (.int .i64 bb.i) (.int .i64 bb.a)
     generalize World.setCell _ ⟨w.heap.size,4,none⟩ _ = WW at hfb hfB ⊢
     obtain ⟨z0,z1,z2,z3,z4⟩:=hfb.cells
     refine bodyPost_ret (v:=ofV ws xs S) ?_ rfl ⟨by rw [HS.out],hfB⟩
     rw [ofV,HE.out,if_pos rfl,HBBS.out]
     simp [results,Tryz.results51,go_sem,z0,z1,z2,z3,z4,encBas]
  ·
   have h0':(preErr xs != 0) = true:=by simpa using h0
   have HE:Hid (ofErr ws xs (sumsP xs) = preErr xs):=by
    rw [Hid,ofErr,if_neg (by simp [HV.out]),if_pos h0]
   have H0:=Lib.hid h0
   obtain ⟨p0,p1,p2,p3,p4⟩:=hB2.cells
   obtain ⟨q0,q1,q2,q3,q4⟩:=hB2.frz
   have HBB:=Lib.hid hbel2
   clear h0
   go_wp2
   have hfb:=(hB2.put zeroB)
   have hfB:Below w.heap.size w _:=below_put5 HBB.out (Nat.le_refl _) (.int .i64 0) (.int .i64 0) (.int .i64 0) (.int .i64 0) (.int .i64 0)
   simp only [zeroB] at hfb
   generalize World.setCell _ ⟨w.heap.size,4,none⟩ _ = WW at hfb hfB ⊢
   obtain ⟨z0,z1,z2,z3,z4⟩:=hfb.cells
   refine bodyPost_ret (v:=ofV ws xs (sumsP xs)) ?_ rfl ⟨by first | rfl | rw [HS.out],hfB⟩
   rw [ofV,HE.out,if_neg H0.out]
   simp [results,Tryz.results51,go_sem,z0,z1,z2,z3,z4,encBas,zeroB]
 ·
  have hv':validB ws = false:=by simpa using hv
  have HE:Hid (ofErr ws xs (sumsP xs) = 1):=by rw [Hid,ofErr,if_pos hv']
  obtain ⟨p0,p1,p2,p3,p4⟩:=hB1.cells
  obtain ⟨q0,q1,q2,q3,q4⟩:=hB1.frz
  have HBB:=Lib.hid hbel1
  clear hv
  go_wp2
  have hfb:=(hB1.put zeroB)
  have hfB:Below w.heap.size w _:=below_put5 HBB.out (Nat.le_refl _) (.int .i64 0) (.int .i64 0) (.int .i64 0) (.int .i64 0) (.int .i64 0)
  simp only [zeroB] at hfb
  generalize World.setCell _ ⟨w.heap.size,4,none⟩ _ = WW at hfb hfB ⊢
  obtain ⟨z0,z1,z2,z3,z4⟩:=hfb.cells
  refine bodyPost_ret (v:=ofV ws xs (sumsP xs)) ?_ rfl ⟨by first | rfl | rw [HS.out],hfB⟩
  rw [ofV,HE.out]
  simp [results,Tryz.results51,go_sem,z0,z1,z2,z3,z4,encBas,zeroB]
end Go.Proofs.YtjncpgbhokjbfaaGreat
namespace Go.Proofs.YtjncpgbhokjbfaaGreat
open Go.RowKit
section
variable {before:Bool} {base:Int} {year:List Elem}
theorem tk_snoc (P:List DedT) (d:DedT) (a:Int) : tk before base year (P++[d]) a = tk before base year P a++(if 0 < amtT before base year d (rst before base year P a) then [⟨d.code,amtT before base year d (rst before base year P a)⟩] else []):=by
 rw [tk_append]; simp [tk]
theorem rst_snoc (P:List DedT) (d:DedT) (a:Int) : rst before base year (P++[d]) a = rst before base year P a - amtT before base year d (rst before base year P a):=by
 rw [rst_append]; simp [rst]
theorem step_yes {P:List DedT} {d:DedT} {a n l0 : Int} (hl:rst before base year P a = l0) (hn:amtT before base year d l0 = n) (h:0 < n) :
  tk before base year (P++[d]) a = tk before base year P a++[⟨d.code,n⟩]∧rst before base year (P++[d]) a = l0 - n:=by
 rw [tk_snoc,rst_snoc,hl,hn,if_pos h]; exact ⟨rfl,rfl⟩
theorem step_no {P:List DedT} {d:DedT} {a l0 : Int} (hl:rst before base year P a = l0) (hn:amtT before base year d l0 = 0) :
  tk before base year (P++[d]) a = tk before base year P a∧rst before base year (P++[d]) a = l0:=by
 rw [tk_snoc,rst_snoc,hl,hn]; simp
theorem amtT_other {d:DedT} {l0:Int} (h:d.before ≠ before) : amtT before base year d l0 = 0:=by rw [amtT,if_neg h]
end
def ranks (l:List DedT) (r:Nat) : List DedT:=(List.range r).flatMap fun (r:Nat)=>l.filter fun d=>decide (d.rank = (r:Int))
def pre (l:List DedT) (r i : Nat) : List DedT:=ranks l r++(l.take i).filter fun d=>decide (d.rank = (r:Int))
theorem ranks_100 (l:List DedT) : ranks l 100 = ordD l:=rfl
theorem pre_zero (l:List DedT) (r:Nat) : pre l r 0 = ranks l r:=by simp [pre]
theorem pre_end (l:List DedT) (r:Nat) : pre l r l.length = ranks l (r+1):=by
 simp [pre,ranks,List.range_succ]
theorem pre_yes (l:List DedT) (r i : Nat) (h:i < l.length) (e:l[i].rank = (r:Int)) : pre l r (i+1) = pre l r i++[l[i]]:=by
 rw [pre,pre,List.take_succ_eq_append_getElem h,List.filter_append]
 simp [e]
theorem pre_no (l:List DedT) (r i : Nat) (h:i < l.length) (e:l[i].rank ≠ (r:Int)) : pre l r (i+1) = pre l r i:=by
 rw [pre,pre,List.take_succ_eq_append_getElem h,List.filter_append]
 simp [e]
theorem ranks_len (l:List DedT) (h:l.length≤16) (r:Nat) : (ranks l r).length≤16 * r:=by
 induction r with
 | zero=>simp [ranks]
 | succ r ih =>
  have:ranks l (r+1) = ranks l r++l.filter fun d=>decide (d.rank = (r:Int)):=by simp [ranks,List.range_succ]
  rw [this,List.length_append]
  have:=List.length_filter_le (fun d:DedT=>decide (d.rank = (r:Int))) l
  omega
theorem pre_len (l:List DedT) (h:l.length≤16) (r i : Nat) : (pre l r i).length≤16 * r+16:=by
 have h1:=ranks_len l h r
 have h2:=List.length_filter_le (fun d:DedT=>decide (d.rank = (r:Int))) (l.take i)
 have h3:(l.take i).length≤16:=by simp; omega
 rw [pre,List.length_append]
 omega
theorem mem_pre {l:List DedT} {r i : Nat} {x:DedT} (h:x ∈ pre l r i) : x ∈ l:=by
 simp only [pre,ranks,List.mem_append,List.mem_flatMap,List.mem_filter] at h
 rcases h with ⟨_,_,h,_⟩ | ⟨h,_⟩
 ·
  exact h
 ·
  exact List.mem_of_mem_take h
theorem totE_le {l:List Elem} (h : ∀ x ∈ l,0≤x.amount) (c:List UInt8) : 0≤totE l c∧totE l c≤sumE l:=by
 induction l with
 | nil=>simp [totE,sumE]
 | cons a l ih =>
  have h1:=ih (fun x hx=>h x (by simp [hx]))
  have h2:=h a (by simp)
  simp only [totE,sumE]
  split <;> omega
theorem sumsP_le {l:List Elem} (h : ∀ x ∈ l,0≤x.amount) {x:Elem} (hx:x ∈ sumsP l) : 0≤x.amount∧x.amount≤sumE l:=by
 rw [mem_sorted (sumsP_sorted l),sumsP_tot] at hx
 rw [hx.2]
 exact totE_le h _
theorem taken_bd {P:List DedT} (hP : ∀ x ∈ P,DedOk x) (before:Bool) {base:Int} (year:List Elem) (h1:0≤base) (h2:base≤1000000000) {a:Int} (ha:0≤a) (x:Elem) (hx:x ∈ sumsP (tk before base year P a)) : 0≤x.amount∧x.amount≤a:=by
 have h3:=sumsP_le (fun y hy=>by have:=(tk_mem hP h1 h2 a ha y hy).2.1; omega) hx
 rw [sumE_tk P hP h1 h2 a ha] at h3
 have:=rst_bd (before:=before) (year:=year) hP h1 h2 a ha
 omega
theorem taken_len (P:List DedT) (before:Bool) (base:Int) (year:List Elem) (a:Int) : (sumsP (tk before base year P a)).length≤P.length:=Nat.le_trans (sumsP_length _) (tk_length _ _)
theorem takeE_1 {l:List DedT} {base avail : Int} {year:List Elem} (h:validD l = false ∨ recB year = false) : takeE l base avail year = 1:=by
 unfold takeE
 rcases h with h | h
 ·
  rw [if_pos h]
 ·
  rw [if_pos h]; split <;> rfl
theorem takeE_2 {l:List DedT} {base avail : Int} {year:List Elem} (h1:validD l = true) (h2:recB year = true) (h:inB base 1000000000 = false ∨ inB avail 1000000000 = false) : takeE l base avail year = 2:=by
 unfold takeE
 rw [if_neg (by simp [h1]),if_neg (by simp [h2])]
 rcases h with h | h
 ·
  rw [if_pos h]
 ·
  rw [if_pos h]; split <;> rfl
theorem takeE_0 {l:List DedT} {base avail : Int} {year:List Elem} (h1:validD l = true) (h2:recB year = true) (h3:inB base 1000000000 = true) (h4:inB avail 1000000000 = true) : takeE l base avail year = 0:=by
 unfold takeE
 rw [if_neg (by simp [h1]),if_neg (by simp [h2]),if_neg (by simp [h3]),if_neg (by simp [h4])]
theorem takeR_ok {l:List DedT} {before:Bool} {base avail : Int} {year:List Elem} (h:takeE l base avail year = 0) : takeR l before base avail year = sumsP (tk before base year (ordD l) avail):=by rw [takeR,if_pos h]
theorem takeR_no {l:List DedT} {before:Bool} {base avail : Int} {year:List Elem} (h:takeE l base avail year ≠ 0) : takeR l before base avail year = []:=by rw [takeR,if_neg h]
theorem year_at {year:List Elem} (h:recB year = true) (c:ByteArray) : 0≤atE year c∧atE year c≤1000000000000 :=
 atE_mem (P:=fun n=>0≤n∧n≤1000000000000) (fun x hx=>((recB_iff.1 h).2.1 x hx).2) ⟨by omega,by omega⟩
end Go.Proofs.YtjncpgbhokjbfaaGreat
namespace Go.Proofs.YtjncpgbhokjbfaaGreat
open Go.RowKit
theorem addAll {a:List Elem} (b:List Elem) (h:SortedE a) : SortedE (b.foldl put a)∧(∀ c,totE (b.foldl put a) c = totE (a++b) c)∧∀ c,keyE (b.foldl put a) c = keyE (a++b) c:=by
 obtain ⟨h1,h2,h3⟩:=foldl_facts b a h
 exact ⟨h1,fun c=>by rw [h2,totE_append],fun c=>by rw [h3,keyE_append]⟩
theorem mem_addO {a b : List Elem} (h:SortedE a) (x:Elem) : x ∈ addO a b ↔ (keyE (a++b) x.code.data.toList = true∧x.amount = totE (a++b) x.code.data.toList∧x.amount ≠ 0):=by
 obtain ⟨h1,h2,h3⟩:=addAll b h
 rw [addO,List.mem_filter,mem_sorted h1,h2,h3]
 simp [nz,and_assoc]
theorem addO_sorted {a:List Elem} (b:List Elem) (h:SortedE a) : SortedE (addO a b):=(addAll b h).1.filter _
theorem sorted_codes {l:List Elem} (h:SortedE l) : l.Pairwise (fun a b=>a.code ≠ b.code):=h.imp (by
 intro a b hab e
 rw [lessE_iff,e] at hab
 exact List.lt_irrefl _ hab)
def big (x:Elem) : Bool:=decide (1000000000000 < x.amount)
def anyBig (l:List Elem) : Bool:=l.any big
theorem addE_def (a b : List Elem) : addE a b = if recB a = false then 1 else if b.all addB = false then 1 else if 128 < b.length then 3 else if 128 < (addO a b).length then 3 else if anyBig (addO a b) then 4 else 0:=rfl
theorem addE_1 {a b : List Elem} (h:recB a = false ∨ b.all addB = false) : addE a b = 1:=by
 rw [addE_def]
 rcases h with h | h
 ·
  rw [if_pos h]
 ·
  rw [if_pos h]; split <;> rfl
theorem addE_3 {a b : List Elem} (h1:recB a = true) (h2:b.all addB = true) (h:128 < b.length ∨ 128 < (addO a b).length) : addE a b = 3:=by
 rw [addE_def,if_neg (by simp [h1]),if_neg (by simp [h2])]
 rcases h with h | h
 ·
  rw [if_pos h]
 ·
  rw [if_pos h]; split <;> rfl
theorem addE_4 {a b : List Elem} (h1:recB a = true) (h2:b.all addB = true) (h3 : ¬ 128 < b.length) (h4 : ¬ 128 < (addO a b).length) : addE a b = if anyBig (addO a b) then 4 else 0:=by
 rw [addE_def,if_neg (by simp [h1]),if_neg (by simp [h2]),if_neg h3,if_neg h4]
theorem addR_ok {a b : List Elem} (h:addE a b = 0) : addR a b = addO a b:=by rw [addR,if_pos h]
theorem addR_no {a b : List Elem} (h:addE a b ≠ 0) : addR a b = []:=by rw [addR,if_neg h]
theorem addB_iff (x:Elem) : addB x = true ↔ nameB x.code = true∧0≤x.amount∧x.amount≤1000000000:=by simp [addB,inB]
end Go.Proofs.YtjncpgbhokjbfaaGreat
