/- Joined texts: GenP2 GenE. Conditions: as stated. -/
import Derived.Test.YtlhkojcmcmkmaaaGreatJLeaf
import Derived.Test.YtlhkojcmcmkmaaaGreatJGenR
namespace Go.Proofs.YtlhkojcmcmkmaaaGreat
open Go.RowKit
structure PersonF (m:PersonM) (w:World) (base:Nat) : Prop where
 ds:FrS encD 6 w base m.Ad m.ds
 os:FrS encOd 5 w base m.Ao m.os
 es:FrS encEm 2 w base m.Ae m.es
 ins:∀ e ∈ m.es,FrS encI 1 w base e.A e.l
theorem PersonF.grown {m:PersonM} {w w' : World} {base:Nat} {row:Option Nat} (h:PersonF m w base) (hg:w.grownBy w' row) (hr : ∀ g,row = some g→g < base) : PersonF m w' base:=⟨h.ds.grown hg hr,h.os.grown hg hr,h.es.grown hg hr,fun e he=>(h.ins e he).grown hg hr⟩
theorem PersonF.set {m:PersonM} {w:World} {base:Nat} (h:PersonF m w base) {g:Nat} (hg:g < base) (i:Nat) (u:Value) : PersonF m (w.setCell ⟨g,i,none⟩ u) base:=⟨h.ds.set hg i u,h.os.set hg i u,h.es.set hg i u,fun e he=>(h.ins e he).set hg i u⟩
structure PersonG (k:Nat) (m:PersonM) : Prop where
 deps:0≤m.deps∧m.deps≤3
 ds:GenD 4 m.ds
 os:GenO 5 m.os
 len:m.es.length≤2
 lens:∀ e ∈ m.es,e.l.length = k
 bas:∀ e ∈ m.es,0≤e.base∧e.base≤1000000
 ear:∀ e ∈ m.es,∀ x ∈ e.l,0≤x∧x≤1000000
end Go.Proofs.YtlhkojcmcmkmaaaGreat
namespace Go.Proofs.YtlhkojcmcmkmaaaGreat
open Go.RowKit
def GenE (ws:List WageT) (es:List Elem) : Prop:=∀ x ∈ es,(∃ y ∈ ws,x.code = y.code)∧-600000 < x.amount∧x.amount < 600000
def CutE (wr:World) (b M : Nat) (ws:List WageT) (s:Value) (wx:World) : Prop:=∃ (g:Nat) (x:Elem),s = .pointer (some ⟨g,0,none⟩)∧wr.heap.size≤g∧Blk wx g 69 #[.string x.code,.int .i64 x.amount]∧DeckIn wx b M∧wr.grownBy wx (some b) ∧
 (∃ y ∈ ws,x.code = y.code)∧0≤x.amount∧x.amount < 600000
theorem CutE.two {wr W : World} {b M g j : Nat} {ws:List WageT} {cs:Array Value} {r:Int} (hcs:cs.size = 2) (hB:Blk W g 69 cs) (hg:wr.heap.size≤g) (hb:b < wr.heap.size) (hd:DeckIn W b M) (hG:wr.grownBy W (some b)) (hj:j < ws.length) (h0:0≤r) (h1:r < 600000) :
  CutE wr b M ws (.pointer (some ⟨g,0,none⟩)) ((W.setCell ⟨g,0,none⟩ (.string ws[j].code)).setCell ⟨g,1,none⟩ (.int .i64 r)):=by
 refine ⟨g,⟨ws[j].code,r⟩,rfl,hg,?_,?_,?_,⟨ws[j],List.getElem_mem hj,rfl⟩,h0,h1⟩
 ·
  have h2:=(hB.set_ 0 (.string ws[j].code)).set_ 1 (.int .i64 r)
  obtain ⟨l⟩:=cs
  match l,hcs with
  | [a,c],_=>simpa using h2
 ·
  have g1:W.grownBy ((W.setCell ⟨g,0,none⟩ (.string ws[j].code)).setCell ⟨g,1,none⟩ (.int .i64 r)) (some g):=only_setCell (p:=⟨g,1,none⟩) (only_setCell (p:=⟨g,0,none⟩) (only_refl _ _) (.inl rfl) _) (.inl rfl) _
  exact hd.grown g1 (fun k e=>by injection e; omega)
 ·
  exact only_setCell (p:=⟨g,1,none⟩) (only_setCell (p:=⟨g,0,none⟩) hG (.inr hg) _) (.inr hg) _
theorem CutE.new {wr W : World} {b M g j : Nat} {ws:List WageT} {r:Int} (hg:g = W.heap.size) (hd:DeckIn W b M) (hG:wr.grownBy W (some b)) (hj:j < ws.length) (h0:0≤r) (h1:r < 600000) :
  CutE wr b M ws (.pointer (some ⟨g,0,none⟩)) (W.alloc (.cells #[.string ws[j].code,.int .i64 r] 69)):=by
 subst hg
 exact ⟨W.heap.size,⟨ws[j].code,r⟩,rfl,hG.size,Blk.new _ _ _,hd.alloc _,only_alloc hG _,⟨ws[j],List.getElem_mem hj,rfl⟩,h0,h1⟩
set_option maxHeartbeats 2000000 in
theorem elements_any (b M : Nat) (A:Option Addr) (ws:List WageT) (c n : Nat) (w:World) (hM:M≤800000) (hn:1≤n) (hn2:n≤100) (hd:DeckIn w b M) (hs:SliceOf encW 6 w w.heap.size A ws) (hA : ∀ a,A = some a→a.block ≠ b) (hl:ws.length≤100) :
  Calls Tryz.prog 28 #[.pointer (some ⟨b,0,none⟩),.slice A ws.length c,.int .i64 n] w fun e w'=>∃ v es,e = .returned v∧GenE ws es∧es.length≤n∧Own encE 2 69 w' w.heap.size v es∧DeckIn w' b (M+1+4 * n)∧w.grownBy w' (some b):=by
 have hlt:=hd.lt
 go_enter Tryz.func28,Tryz.ntmps28
 go_wp2_with fail
 refine (next_any b M _ _ (by omega) (by omega) (by omega) hd).mono ?_
 rintro e w0 ⟨r0,rfl,ha0,hb0,hd0,hg0⟩
 obtain ⟨k0,rfl⟩:=Int.eq_ofNat_of_zero_le ha0
 go_wp2_with fail
 go_loopw [7,8] (fun v i wr=>∃ (k:Nat) (es:List Elem),k≤n∧i = .int .i64 k∧es.length+k≤n∧GenE ws es∧Own encE 2 69 wr w.heap.size v es∧DeckIn wr b (M+1+4 * (n - k))∧w.grownBy wr (some b)) (fun _ i _=>(intOf i).toNat)
 case atStart=>exact ⟨k0,[],by omega,rfl,by simp; omega,by simp [GenE],Own.nil_ _ _,hd0.mono (by omega),hg0⟩
 case round =>
  obtain ⟨k,es,hk,rfl,hlen,hgen,hown,hdk,hg⟩:=hrel
  have hltr:=hdk.lt
  by_cases hk0:0 < k
  ·
   by_cases hw0:0 < ws.length
   ·
    have hne:ws ≠ []:=List.length_pos_iff.1 hw0
    obtain ⟨wb,off,rfl,hwb,hwc⟩:=hs hne
    have hAb:=hA _ rfl
    have HWC:=Lib.hid hwc
    clear hwc hs hA hne
    go_upto_region 5 with fail
    go_cut [9] (fun s9 wx=>CutE wr b (M+1+4 * (n - k)+1+2) ws s9 wx)
    case first =>
     go_region_with (first | (go_at_call 34; (refine (next_any b (M+1+4 * (n - k)) _ _ (by omega) (by omega) (by omega) (by first | exact hdk | exact hdk.alloc _)).mono ?_; rintro e w1 ⟨r1,rfl,ha1,hb1,hd1,hg1⟩; have hlt1:=hd1.lt; obtain ⟨j1,rfl⟩:=Int.eq_ofNat_of_zero_le ha1; have hj1:j1 < ws.length:=(by omega); have hgx:w.grownBy w1 (some b):=(by first | exact only_trans (only_drew hg) hg1 | exact only_trans (only_drew (only_alloc hg _)) hg1); have hx1:=(World.cell?_of_block (a:=⟨wb,off+j1 * 6+0,none⟩) (hgx.block wb hwb (fun e=>hAb (by injection e)))).trans (HWC.out j1 _ (List.getElem?_eq_getElem hj1) 0 _ rfl); simp only [Nat.add_zero] at hx1; have hwb1:wb < w1.heap.size:=Nat.lt_of_lt_of_le hwb hgx.size; (try (have hBa:Blk w1 wr.heap.size 69 #[.string ⟨#[]⟩,.int .i64 0]:=Blk.grown (w:=(wr.alloc _).drew) (Blk.new wr _ _) hg1 (by intro e; injection e; omega); have ca0:=hBa.cell 0; have ca1:=hBa.cell 1; have cf0:=hBa.frozen 0; have cf1:=hBa.frozen 1; simp only [nqg,nqh,nqi] at ca0 ca1)))) | (go_at_call 41; refine (small_any b (M+1+4 * (n - k)+1) _ (by omega) (by first | exact hd1 | exact hd1.alloc _)).mono ?_; rintro e w2 ⟨r2,rfl,ha2,hb2,hd2,hg2⟩; have hgy:w.grownBy w2 (some b):=(by first | exact only_trans hgx hg2 | exact only_trans (only_alloc hgx _) hg2); have hx2:=(World.cell?_of_block (a:=⟨wb,off+j1 * 6+0,none⟩) (hgy.block wb hwb (fun e=>hAb (by injection e)))).trans (HWC.out j1 _ (List.getElem?_eq_getElem hj1) 0 _ rfl); simp only [Nat.add_zero] at hx2; have hwb2:wb < w2.heap.size:=Nat.lt_of_lt_of_le hwb hgy.size; (try (have hBb:Blk w2 w1.heap.size 69 #[.string ⟨#[]⟩,.int .i64 0]:=Blk.grown (w:=(w1.alloc _)) (Blk.new w1 _ _) hg2 (by intro e; injection e; omega); have cb0:=hBb.cell 0; have cb1:=hBb.cell 1; have cg0:=hBb.frozen 0; have cg1:=hBb.frozen 1; simp only [nqg,nqh,nqi] at cb0 cb1)); (try (have hBc:Blk w2 wr.heap.size 69 #[.string ⟨#[]⟩,.int .i64 0]:=hBa.grown hg2 (by intro e; injection e; omega); have cb0:=hBc.cell 0; have cb1:=hBc.cell 1; have cg0:=hBc.frozen 0; have cg1:=hBc.frozen 1; simp only [nqg,nqh,nqi] at cb0 cb1))))
     all_goals (go_wp2_with fail; go_meet; first | exact CutE.new rfl hd2 (by first | exact only_trans (only_trans (only_drew (only_refl _ _)) hg1) hg2) hj1 ha2 hb2 | exact CutE.two rfl hBb (by have:=hg1.size; simp at this; omega) hltr hd2 (by exact only_trans (only_alloc (only_trans (only_drew (only_refl _ _)) hg1) _) hg2) hj1 ha2 hb2 | exact CutE.two rfl hBc (Nat.le_refl _) hltr hd2 (by exact only_trans (only_trans (only_drew (only_alloc (only_refl _ _) _)) hg1) hg2) hj1 ha2 hb2)
    case rest =>
     obtain ⟨g,x,rfl,hgr,hB,hdx,hgx,hxc,hx0,hx1⟩:=hcut
     have hnb:g ≠ b:=by omega
     go_wp2_with fail
     refine (next_any b (M+1+4 * (n - k)+3) _ _ (by omega) (by omega) (by omega) hdx).mono ?_
     rintro e w3 ⟨r3,rfl,ha3,hb3,hd3,hg3⟩
     have hB3:=hB.grown hg3 (by intro e; injection e; omega)
     have d0:=hB3.cell 0
     have d1:=hB3.cell 1
     have f1:=hB3.frozen 1
     have hl3:=hB3.lt
     simp only [nqg,nqh,nqi] at d0 d1
     have hG3:wr.grownBy w3 (some b):=only_trans hgx hg3
     have hown3:=hown.kept hG3 (by intro g e; injection e; omega)
     have hog:∀ q,u7.ownBlock = some q→q ≠ g:=fun q hq=>by have:=(hown.block_lt hq).2; omega
     by_cases hr3:r3 = 0
     ·
      subst hr3
      have e1:=hB3.set_ 1 (.int .i64 (-x.amount))
      simp at e1
      have d0':=e1.cell 0
      have d1':=e1.cell 1
      simp only [nqg,nqh,nqi] at d0' d1'
      have hown4:=hown3.setCell (p:=⟨g,1,none⟩) hog (.int .i64 (-x.amount))
      have hG4:=only_setCell (p:=⟨g,1,none⟩) hG3 (.inr hgr) (.int .i64 (-x.amount))
      have hs4:w.heap.size≤(w3.setCell ⟨g,1,none⟩ (.int .i64 (-x.amount))).heap.size:=Nat.le_trans hg.size hG4.size
      have hr7:=fun q hq=>(hown.block_lt (g:=q) hq).1
      have hd4:DeckIn (w3.setCell ⟨g,1,none⟩ (.int .i64 (-x.amount))) b (M+1+4 * (n - k)+3+1):=hd3.grown (only_setCell (only_refl _ _) (.inl rfl) _:w3.grownBy _ (some g)) (fun q e=>by injection e; omega)
      clear hB hB3 hown hown3 hdx hd3 hdk hd0 hd hgx hg3 hG3 hg0 e1
      go_wp2_with (at_builtin; (refine wpList_append_one _ _ 51 ⟨x.code,-x.amount⟩ _ 24 _ infoE Tryz.underlying51 hown4 encE_len (by omega) rfl (encE_one _) (by omega) (by omega) hs4 (by rfl) (by rfl) (by rfl) (by rfl) (by simp) (by rfl) ?_); intro v2 w6 hown6 hg6)
      have hgen':GenE ws (es++[⟨x.code,-x.amount⟩]):=by
       intro y hy
       rcases List.mem_append.1 hy with h1 | h1
       ·
        exact hgen y h1
       ·
        simp at h1; subst h1; exact ⟨hxc,by show -600000 < -x.amount; omega,by show -x.amount < 600000; omega⟩
      go_roundw
      case rel =>
       have hfin:∃ (k':Nat) (es':List Elem),k'≤n∧Value.int .i64 ((k:Int) - 1) = .int .i64 k'∧es'.length+k'≤n∧GenE ws es'∧Own encE 2 69 w6 w.heap.size v2 es'∧DeckIn w6 b (M+1+4 * (n - k'))∧w.grownBy w6 (some b) :=
        ⟨k - 1,_,by omega,by go_num,by simp; omega,hgen',hown6,(hd4.grown hg6 (fun q e=>by have:=hr7 q e; omega)).mono (by omega),only_then (only_trans hg hG4) hg6 (fun q e=>.inl (hr7 q e))⟩
       first | exact hfin | ((repeat apply Exists.intro); exact ⟨hfin,rfl⟩)
      case measure=>simp [intOf]; omega
     ·
      have hr3':(r3 == 0) = false:=by simpa using hr3
      have hs4:w.heap.size≤w3.heap.size:=Nat.le_trans hg.size hG3.size
      have hr7:=fun q hq=>(hown.block_lt (g:=q) hq).1
      have hgg:=only_trans hg hG3
      clear hB hB3 hown hdx hdk hd0 hd hgx hg3 hG3 hg0 hr3
      go_wp2_with (at_builtin; (refine wpList_append_one _ _ 51 ⟨x.code,x.amount⟩ _ 24 _ infoE Tryz.underlying51 hown3 encE_len (by omega) rfl (encE_one _) (by omega) (by omega) hs4 (by rfl) (by rfl) (by rfl) (by rfl) (by simp) (by rfl) ?_); intro v2 w6 hown6 hg6)
      have hgen':GenE ws (es++[⟨x.code,x.amount⟩]):=by
       intro y hy
       rcases List.mem_append.1 hy with h1 | h1
       ·
        exact hgen y h1
       ·
        simp at h1; subst h1; exact ⟨hxc,by show -600000 < x.amount; omega,hx1⟩
      go_roundw
      case rel =>
       have hfin:∃ (k':Nat) (es':List Elem),k'≤n∧Value.int .i64 ((k:Int) - 1) = .int .i64 k'∧es'.length+k'≤n∧GenE ws es'∧Own encE 2 69 w6 w.heap.size v2 es'∧DeckIn w6 b (M+1+4 * (n - k'))∧w.grownBy w6 (some b) :=
        ⟨k - 1,_,by omega,by go_num,by simp; omega,hgen',hown6,(hd3.grown hg6 (fun q e=>by have:=hr7 q e; omega)).mono (by omega),only_then hgg hg6 (fun q e=>.inl (hr7 q e))⟩
       first | exact hfin | ((repeat apply Exists.intro); exact ⟨hfin,rfl⟩)
      case measure=>simp [intOf]; omega
   ·
    go_wp2_with fail
    go_ret
    exact ⟨_,es,rfl,hgen,by omega,hown,hdk.mono (by omega),hg⟩
  ·
   go_wp2_with fail
   go_ret
   exact ⟨_,es,rfl,hgen,by omega,hown,hdk.mono (by omega),hg⟩
end Go.Proofs.YtlhkojcmcmkmaaaGreat
