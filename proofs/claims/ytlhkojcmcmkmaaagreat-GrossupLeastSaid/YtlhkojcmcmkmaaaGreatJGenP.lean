/- Joined texts: GenP GenD GenL GenN GenN2 GenN3. Conditions: as stated. -/
import Derived.Deep.CutRange
import Derived.Lib.Hide
import Derived.Test.YtlhkojcmcmkmaaaGreatJLeaf
import Derived.Test.YtlhkojcmcmkmaaaGreatJRound2
import Derived.Test.YtlhkojcmcmkmaaaGreatJRec
import Derived.Test.YtlhkojcmcmkmaaaGreatJNetM
namespace Go.Proofs.YtlhkojcmcmkmaaaGreat
open Go.RowKit
theorem pick_new (b M : Nat) (W:World) (l:List Int) (cs:Array Value) (n c : Nat) (hcs:cs = (l.flatMap encI).toArray) (hn:n = l.length) (hM:M≤1000000) (hd:DeckIn W b M) (hl:l ≠ []) (hn2:l.length≤1000) :
  Calls Tryz.prog 66 #[.pointer (some ⟨b,0,none⟩),.slice (some ⟨W.heap.size,0,none⟩) n c] (W.alloc (.cells cs 3)) fun e w'=>∃ r:Int,e = .returned (.int .i64 r)∧r ∈ l∧DeckIn w' b (M+1)∧W.grownBy w' (some b):=by
 subst hn
 have hlt:=hd.lt
 refine (pick_any b M _ (some ⟨W.heap.size,0,none⟩) l c hM (hd.alloc _) hl hn2 ?_ ?_).mono ?_
 ·
  exact (SliceOf.new encI_len W l cs 3 hcs).more (by simp)
 ·
  intro a ha; injection ha with ha; subst ha; show W.heap.size ≠ b; omega
 ·
  rintro e w2 ⟨r,rfl,hr,hd2,hg2⟩
  exact ⟨r,rfl,hr,hd2,only_trans (only_alloc (only_refl _ _) _) hg2⟩
end Go.Proofs.YtlhkojcmcmkmaaaGreat
namespace Go.Proofs.YtlhkojcmcmkmaaaGreat
open Go.RowKit
def codesD : List ByteArray:=[⟨#[99,108,117,98]⟩,⟨#[108,111,97,110]⟩,⟨#[112,108,97,110]⟩,⟨#[117,110,105,111,110]⟩]
def cellsD : Array Value:=#[.string ⟨#[99,108,117,98]⟩,.string ⟨#[108,111,97,110]⟩,.string ⟨#[112,108,97,110]⟩,.string ⟨#[117,110,105,111,110]⟩]
def codeD (k:Nat) : ByteArray:=codesD.getD k ⟨#[]⟩
theorem cellsD_at (k:Nat) (h:k < 4) : cellsD[k]? = some (.string (codeD k)):=by
 match k,h with
 | 0,_=>rfl
 | 1,_=>rfl
 | 2,_=>rfl
 | 3,_=>rfl
theorem takeD (k:Nat) (h:k < 4) : codesD.take (k+1) = codesD.take k++[codeD k]:=by
 match k,h with
 | 0,_=>rfl
 | 1,_=>rfl
 | 2,_=>rfl
 | 3,_=>rfl
theorem codesD_name : ∀ c ∈ codesD,nameB c = true:=by decide +kernel
theorem codesD_asc : codesD.Pairwise (fun a b=>Op.bytesLess a.toList b.toList = true):=by decide +kernel
theorem codesD_size : ∀ c ∈ codesD,c.size≤24:=by decide
structure GenC {α:Type} (code:α→ByteArray) (ok:α→Prop) (k:Nat) (xs:List α) : Prop where
 sub:(xs.map code).Sublist (codesD.take k)
 ok:∀ x ∈ xs,ok x
section
variable {α:Type} {code:α→ByteArray} {ok:α→Prop} {k:Nat} {xs:List α}
theorem GenC.nil_ : GenC code ok 0 []:=⟨by simp,by simp⟩
theorem GenC.skip (h:GenC code ok k xs) (hk:k < 4) : GenC code ok (k+1) xs :=
 ⟨by rw [takeD k hk]; exact h.sub.trans (List.sublist_append_left _ _),h.ok⟩
theorem GenC.more (h:GenC code ok k xs) (hk:k < 4) (x:α) (hc:code x = codeD k) (hx:ok x) : GenC code ok (k+1) (xs++[x]):=by
 refine ⟨?_,fun y hy=>?_⟩
 ·
  rw [takeD k hk,List.map_append]
  exact h.sub.append (by simp [hc])
 ·
  rcases List.mem_append.1 hy with h1 | h1
  ·
   exact h.ok y h1
  ·
   simp at h1; subst h1; exact hx
theorem GenC.len (h:GenC code ok k xs) : xs.length≤4:=by
 have:=h.sub.length_le
 simp [codesD] at this
 omega
theorem GenC.mem (h:GenC code ok k xs) {x:α} (hx:x ∈ xs) : code x ∈ codesD:=List.mem_of_mem_take (h.sub.subset (List.mem_map_of_mem hx))
theorem GenC.asc (h:GenC code ok k xs) : xs.Pairwise (fun a b=>Op.bytesLess (code a).toList (code b).toList = true):=by
 have h1:=codesD_asc.sublist (h.sub.trans (List.take_sublist _ _))
 exact List.pairwise_map.1 h1
end
def DrawnD (x:DedT) : Prop:=(0≤x.rank∧x.rank≤2)∧(0≤x.amount∧x.amount < 600000)∧(0≤x.rate∧x.rate≤50000)∧0≤x.cap∧x.cap≤20000
def DrawnR (x:Elem) : Prop:=0≤x.amount∧x.amount < 600000
abbrev GenD:=GenC DedT.code DrawnD
abbrev GenR:=GenC Elem.code DrawnR
theorem GenD.valid {k:Nat} {xs:List DedT} (h:GenD k xs) : validD xs = true:=by
 refine validD_iff.2 ⟨by have:=h.len; omega,fun x hx=>?_,h.asc⟩
 obtain ⟨⟨a,b⟩,⟨c,d⟩,⟨e,f⟩,g,i⟩:=h.ok x hx
 exact ⟨codesD_name _ (h.mem hx),by omega,by omega,by omega,by omega,by omega,by omega,by omega,by omega⟩
theorem GenR.valid {k:Nat} {xs:List Elem} (h:GenR k xs) : recB xs = true:=by
 refine recB_iff.2 ⟨by have:=h.len; omega,fun x hx=>?_,h.asc⟩
 obtain ⟨a,b⟩:=h.ok x hx
 exact ⟨codesD_name _ (h.mem hx),by omega,by omega⟩
theorem GenD.size {k:Nat} {xs:List DedT} (h:GenD k xs) : ∀ x ∈ xs,x.code.size≤maxLen:=fun x hx=>Nat.le_trans (codesD_size _ (h.mem hx)) (by unfold maxLen; omega)
theorem GenR.size {k:Nat} {xs:List Elem} (h:GenR k xs) : ∀ x ∈ xs,x.code.size≤maxLen:=fun x hx=>Nat.le_trans (codesD_size _ (h.mem hx)) (by unfold maxLen; omega)
set_option maxRecDepth 100000 in
set_option maxHeartbeats 2000000 in
theorem record_any (b M : Nat) (w:World) (hM:M≤800000) (hd:DeckIn w b M) :
  Calls Tryz.prog 72 #[.pointer (some ⟨b,0,none⟩)] w fun e w'=>∃ v xs,e = .returned v∧GenR 4 xs∧Own encE 2 69 w' w.heap.size v xs∧DeckIn w' b (M+16)∧w.grownBy w' (some b):=by
 have hlt:=hd.lt
 go_enter Tryz.func72,Tryz.ntmps72
 go_wp2_with fail
 rw [show Obj.cells #[.string ⟨#[99,108,117,98]⟩,.string ⟨#[108,111,97,110]⟩,.string ⟨#[112,108,97,110]⟩,.string ⟨#[117,110,105,111,110]⟩] 9 = Obj.cells cellsD 9 from rfl]
 go_loopw [3,8] (fun v i wr=>∃ (k:Nat) (xs:List Elem),k≤4∧i = .int .i64 k∧GenR k xs∧Own encE 2 69 wr (w.heap.size+1) v xs∧DeckIn wr b (M+4 * k)∧Blk wr w.heap.size 9 cellsD∧w.grownBy wr (some b)) (fun _ i _=>4 - (intOf i).toNat)
 case atStart=>exact ⟨0,[],by omega,rfl,GenC.nil_,Own.nil_ _ _,hd.alloc _,Blk.new _ _ _,only_alloc (only_refl _ _) _⟩
 case round =>
  obtain ⟨k,xs,hk,rfl,hgen,hown,hdk,hblk,hg⟩:=hrel
  by_cases hltk:k < 4
  ·
   have c0:=(hblk.cell k).trans (cellsD_at k hltk)
   go_wp2_with fail
   refine (next_any b (M+4 * k) _ _ (by omega) (by omega) (by omega) hdk).mono ?_
   rintro e w1 ⟨r1,rfl,ha1,hb1,hd1,hg1⟩
   have hs0:=hblk.lt
   by_cases hr:r1 = 0
   ·
    subst hr
    go_wp2_with fail
    refine (small_any b (M+4 * k+1) _ (by omega) hd1).mono ?_
    rintro e w4 ⟨r4,rfl,ha4,hb4,hd4,hg4⟩
    go_wp2_with fail
    refine (pick_new b (M+4 * k+1+2) w4 [0,50,100,19999,20000,r4] _ _ _ rfl rfl (by omega) hd4 (by simp) (by simp)).mono ?_
    rintro e w7 ⟨r7,rfl,hm7,hd7,hg7⟩
    have hG:=only_trans (only_trans hg1 hg4) hg7
    have hown7:=hown.kept hG (by intro g e; injection e; omega)
    have hblk7:=hblk.grown hG (by intro e; injection e; omega)
    have hgg:=only_trans hg hG
    have hs7:=hG.size
    have hlen:=hgen.len
    have hdr7:0≤r7∧r7 < 600000:=by simp at hm7; omega
    clear hown hblk hg hg1 hg4 hg7 hdk hd1 hd4 c0 hm7 hG
    go_wp2_with (at_builtin; (refine wpList_append_one _ _ 51 ⟨_,_⟩ _ 24 _ infoE Tryz.underlying51 hown7 encE_len (by omega) rfl (encE_one _) (by omega) (by omega) (by omega) (by rfl) (by rfl) (by rfl) (by rfl) (by simp) (by rfl) ?_); intro v2 w8 hown8 hg8)
    have hr8:∀ g,Value.ownBlock _ = some g→w.heap.size+1≤g:=fun g e=>(hown7.block_lt e).1
    go_roundw
    case rel =>
     refine ⟨k+1,_,by omega,by go_num,?_,hown8,(hd7.grown hg8 (fun g e=>by have:=hr8 g e; omega)).mono (by omega),hblk7.grown hg8 (fun e=>by have:=hr8 _ e.symm; omega),only_then hgg hg8 (fun g e=>.inl (by have:=hr8 g e; omega))⟩
     exact hgen.more hltk _ rfl hdr7
    case measure=>simp [intOf]; omega
   ·
    have hr':(r1 == 0) = false:=by simpa using hr
    have hown1:=hown.kept hg1 (by intro g e; injection e; omega)
    have hblk1:=hblk.grown hg1 (by intro e; injection e; omega)
    clear hr
    go_wp2_with fail
    go_roundw
    case rel=>exact ⟨k+1,xs,by omega,by go_num,hgen.skip hltk,hown1,hd1.mono (by omega),hblk1,only_trans hg hg1⟩
    case measure=>simp [intOf]; omega
  ·
   go_wp2
   go_ret
   obtain rfl:k = 4:=by omega
   exact ⟨_,xs,rfl,hgen,hown.weaken (by omega),hdk,hg⟩
end Go.Proofs.YtlhkojcmcmkmaaaGreat
namespace Go.Proofs.YtlhkojcmcmkmaaaGreat
open Go.RowKit
theorem infoI : (Tryz.prog.info? 3).map (fun i=>(i.zero,i.size,i.bytes)) = some (some (.int .i64 0),1,8):=by kernel_rfl
theorem encI_one (x:Int) : ∀ u ∈ encI x,u.oneCell' = true:=by intro u hu; simp [encI] at hu; subst hu; rfl
theorem lit_ints (w:World) (l:List Int) (cs:Array Value) (h:cs = (l.flatMap encI).toArray) : SliceOf encI 1 (w.alloc (.cells cs 3)) (w.alloc (.cells cs 3)).heap.size (some ⟨w.heap.size,0,none⟩) l :=
 (SliceOf.new encI_len w l cs 3 h).more (by simp)
set_option maxHeartbeats 1000000 in
theorem rate_any (b M : Nat) (w:World) (hM:M≤900000) (hd:DeckIn w b M) :
  Calls Tryz.prog 120 #[.pointer (some ⟨b,0,none⟩)] w fun e w'=>∃ r:Int,e = .returned (.int .i64 r)∧0≤r∧r≤1000000∧DeckIn w' b (M+2)∧w.grownBy w' (some b):=by
 have hlt:=hd.lt
 go_enter Tryz.func120,Tryz.ntmps120
 go_wp2_with fail
 refine (next_any b M _ _ (by omega) (by omega) (by omega) hd).mono ?_
 rintro e w1 ⟨r1,rfl,ha1,hb1,hd1,hg1⟩
 have hlt1:=hd1.lt
 go_wp2_with fail
 refine (pick_any b (M+1) _ _ [0,1,75000,93000,200000,333333,420000,500000,1000000,r1] _ (by omega) (hd1.alloc _) (by simp) (by simp) (lit_ints w1 _ _ rfl) (by intro a ha; injection ha with ha; subst ha; simp; omega)).mono ?_
 rintro e w2 ⟨r2,rfl,hr,hd2,hg2⟩
 go_wp2
 go_ret
 have:0≤r2∧r2≤1000000:=by simp at hr; omega
 exact ⟨r2,rfl,this.1,this.2,hd2,only_trans (only_alloc hg1 _) hg2⟩
set_option maxHeartbeats 2000000 in
theorem bases_any (b M n : Nat) (w:World) (hM:M≤500000) (hn:n≤1000) (hd:DeckIn w b M) :
  Calls Tryz.prog 71 #[.pointer (some ⟨b,0,none⟩),.int .i64 n] w fun e w'=>∃ v xs,e = .returned v∧xs.length = n∧(∀ x ∈ xs,0≤x∧x≤1000000)∧Own encI 1 3 w' w.heap.size v xs∧DeckIn w' b (M+5 * n)∧w.grownBy w' (some b):=by
 have hlt:=hd.lt
 go_enter Tryz.func71,Tryz.ntmps71
 go_wp2
 go_loopw [5,6] (fun v i wr=>∃ (k:Nat) (xs:List Int),k≤n∧i = .int .i64 k∧xs.length = k∧Hid (∀ x ∈ xs,0≤x∧x≤1000000)∧Own encI 1 3 wr w.heap.size v xs∧DeckIn wr b (M+5 * k)∧w.grownBy wr (some b)) (fun _ i _=>n - (intOf i).toNat)
 case atStart=>exact ⟨0,[],by omega,rfl,rfl,(fun x hx=>by cases hx),Own.nil_ _ _,hd,only_refl _ _⟩
 case round =>
  obtain ⟨k,xs,hk,rfl,hlen,hall,hown,hdk,hg⟩:=hrel
  have HLEN:=Lib.hid hlen
  clear hlen
  by_cases hltk:k < n
  ·
   go_wp2_with fail
   refine (small_any b (M+5 * k) _ (by omega) hdk).mono ?_
   rintro e w1 ⟨r1,rfl,ha1,hb1,hd1,hg1⟩
   go_wp2_with fail
   refine (small_any b (M+5 * k+2) _ (by omega) hd1).mono ?_
   rintro e w2 ⟨r2,rfl,ha2,hb2,hd2,hg2⟩
   have hlt2:=hd2.lt
   go_wp2_with fail
   refine (pick_any b (M+5 * k+2+2) _ _ [r1,r2,0,500000,1000000] _ (by omega) (hd2.alloc _) (by simp) (by simp) (lit_ints w2 _ _ rfl) (by intro a ha; injection ha with ha; subst ha; simp; omega)).mono ?_
   rintro e w3 ⟨r3,rfl,hr,hd3,hg3⟩
   have h3:0≤r3∧r3≤1000000:=by simp at hr; omega
   have hG:wr.grownBy w3 (some b):=only_trans (only_alloc (only_trans hg1 hg2) _) hg3
   have hown3:=hown.kept hG (by intro g e; injection e; omega)
   have hs3:w.heap.size≤w3.heap.size:=Nat.le_trans hg.size hG.size
   have hr7:=fun q hq=>(hown3.block_lt (g:=q) hq).1
   have hxl:xs.length < 4294967296:=by have:=HLEN.out; omega
   have hgg:=only_trans hg hG
   clear hd1 hd2 hg1 hg2 hg3 hdk hown hr hG hg
   go_wp2_with (at_builtin; (refine wpList_append_one _ _ 34 r3 _ 8 _ infoI Tryz.underlying34 hown3 encI_len (by omega) rfl (encI_one _) hxl (by omega) hs3 (by rfl) (by rfl) (by rfl) (by rfl) (by simp) (by rfl) ?_); intro v2 w6 hown6 hg6)
   go_roundw
   case rel =>
    have hfin:∃ (k':Nat) (xs':List Int),k'≤n∧Value.int .i64 ((k:Int)+1) = .int .i64 k'∧xs'.length = k'∧Hid (∀ x ∈ xs',0≤x∧x≤1000000)∧Own encI 1 3 w6 w.heap.size v2 xs'∧DeckIn w6 b (M+5 * k')∧w.grownBy w6 (some b):=by
     refine ⟨k+1,xs++[r3],by omega,by go_num,by have:=HLEN.out; simp; omega,fun x hx=>?_,hown6,(hd3.grown hg6 (fun q e=>by have:=hr7 q e; omega)).mono (by omega),only_then hgg hg6 (fun q e=>.inl (hr7 q e))⟩
     rcases List.mem_append.1 hx with hx | hx
     ·
      exact hall.out x hx
     ·
      simp at hx; subst hx; exact h3
    first | exact hfin | ((repeat apply Exists.intro); exact ⟨hfin,rfl⟩)
   case measure=>simp [intOf]; omega
  ·
   go_wp2
   go_ret
   exact ⟨_,xs,rfl,by have:=HLEN.out; omega,hall.out,hown,hdk.mono (by omega),hg⟩
theorem DeckIn.set {w:World} {b M : Nat} (h:DeckIn w b M) {g:Nat} (hg:b < g) (i:Nat) (u:Value) : DeckIn (w.setCell ⟨g,i,none⟩ u) b M :=
 h.grown (only_setCell (g:=g) (p:=⟨g,i,none⟩) (only_refl _ _) (.inl rfl) u) (fun q e=>by
  have e':g = q:=by injection e
  omega)
end Go.Proofs.YtlhkojcmcmkmaaaGreat
namespace Go.Proofs.YtlhkojcmcmkmaaaGreat
open Go.RowKit
def codesO : List ByteArray:=[⟨#[99,104,105,108,100]⟩,⟨#[99,105,116,121]⟩,⟨#[99,111,117,114,116]⟩,⟨#[116,97,120,49]⟩,⟨#[116,97,120,50]⟩]
def codeO (k:Nat) : ByteArray:=codesO.getD k ⟨#[]⟩
theorem takeO (k:Nat) (h:k < 5) : codesO.take (k+1) = codesO.take k++[codeO k]:=by
 match k,h with
 | 0,_=>rfl
 | 1,_=>rfl
 | 2,_=>rfl
 | 3,_=>rfl
 | 4,_=>rfl
theorem codesO_name : ∀ c ∈ codesO,nameB c = true:=by decide +kernel
theorem codesO_asc : codesO.Pairwise (fun a b=>Op.bytesLess a.toList b.toList = true):=by decide +kernel
def DrawnO (x:OrdT) : Prop:=(0≤x.rank∧x.rank≤2)∧(0≤x.day∧x.day≤20)∧(0≤x.amount∧x.amount < 600000)∧0≤x.total∧x.total < 600000
structure GenO (k:Nat) (xs:List OrdT) : Prop where
 sub:(xs.map (·.id)).Sublist (codesO.take k)
 ok:∀ x ∈ xs,DrawnO x
theorem GenO.skip {k:Nat} {xs:List OrdT} (h:GenO k xs) (hk:k < 5) : GenO (k+1) xs:=⟨by rw [takeO k hk]; exact h.sub.trans (List.sublist_append_left _ _),h.ok⟩
theorem GenO.len {k:Nat} {xs:List OrdT} (h:GenO k xs) : xs.length≤5:=by
 have:=h.sub.length_le
 simp [codesO] at this
 omega
theorem GenO.ords {k:Nat} {xs:List OrdT} (h:GenO k xs) : OrdsOk xs:=by
 refine ⟨by have:=h.len; omega,fun x hx=>?_,?_⟩
 ·
  obtain ⟨⟨a,b⟩,⟨c,d⟩,⟨e,f⟩,g,i⟩:=h.ok x hx
  have hm:x.id ∈ codesO:=List.mem_of_mem_take (h.sub.subset (List.mem_map_of_mem hx))
  exact ⟨codesO_name _ hm,by omega,by omega,by omega,by omega,by omega,by omega,by omega,by omega⟩
 ·
  have h1:=codesO_asc.sublist (h.sub.trans (List.take_sublist _ _))
  exact List.pairwise_map.1 h1
end Go.Proofs.YtlhkojcmcmkmaaaGreat
namespace Go.Proofs.YtlhkojcmcmkmaaaGreat
open Go.RowKit
structure EmpsIn (w:World) (base b : Nat) (v:Value) (k:Nat) (es:List EmpC) : Prop where
 len:∀ e ∈ es,e.l.length = k
 bas:∀ e ∈ es,0≤e.base∧e.base≤1000000
 ear:∀ e ∈ es,∀ x ∈ e.l,0≤x∧x≤1000000
 sl:∀ e ∈ es,SliceOf encI 1 w w.heap.size e.A e.l
 lt:∀ e ∈ es,∀ a,e.A = some a→a.block < w.heap.size
 fr:∀ e ∈ es,∀ a,e.A = some a→base≤a.block∧a.block ≠ b∧v.ownBlock ≠ some a.block
theorem SliceOf.advN {α:Type} {enc:α→List Value} {k:Nat} {w w' : World} {A:Option Addr} {xs:List α} {row:Option Nat} (h:SliceOf enc k w w.heap.size A xs) (hg:w.grownBy w' row) (hr : ∀ a,A = some a→row ≠ some a.block) : SliceOf enc k w' w'.heap.size A xs:=fun hne=>by
 obtain ⟨q,off,e,hq,hc⟩:=h hne
 have h1:=hr _ e
 exact ⟨q,off,e,Nat.lt_of_lt_of_le hq hg.size,fun i x hi j u hj=>(World.cell?_of_block (a:=⟨q,off+i * k+j,none⟩) (hg.block q hq (fun e=>h1 e.symm))).trans (hc i x hi j u hj)⟩
theorem EmpsIn.grown {w w' : World} {base b : Nat} {v:Value} {k:Nat} {es:List EmpC} (h:EmpsIn w base b v k es) (hg:w.grownBy w' (some b)) : EmpsIn w' base b v k es :=
 ⟨h.len,h.bas,h.ear,fun e he=>(h.sl e he).advN hg (fun a ha hh=>(h.fr e he a ha).2.1 (by injection hh with hh; exact hh.symm)),fun e he a ha=>Nat.lt_of_lt_of_le (h.lt e he a ha) hg.size,h.fr⟩
end Go.Proofs.YtlhkojcmcmkmaaaGreat
namespace Go.Proofs.YtlhkojcmcmkmaaaGreat
open Go.RowKit
set_option maxHeartbeats 1000000 in
theorem mode_any (b M : Nat) (w:World) (hM:M≤900000) (hd:DeckIn w b M) :
  Calls Tryz.prog 118 #[.pointer (some ⟨b,0,none⟩)] w fun e w'=>∃ r:Int,e = .returned (.int .i64 r)∧0≤r∧r≤6∧DeckIn w' b (M+1)∧w.grownBy w' (some b):=by
 have hlt:=hd.lt
 go_enter Tryz.func118,Tryz.ntmps118
 go_wp2_with fail
 refine (next_any b M _ _ (by omega) (by omega) (by omega) hd).mono ?_
 rintro e w1 ⟨r1,rfl,ha1,hb1,hd1,hg1⟩
 go_wp2
 go_ret
 exact ⟨r1,rfl,ha1,by omega,hd1,hg1⟩
end Go.Proofs.YtlhkojcmcmkmaaaGreat
