/- Joined texts: P31c. Conditions: as stated. -/
import Derived.Test.YtlhkojcmcmkmaaaGreatJP31b
namespace Go.Proofs.YtlhkojcmcmkmaaaGreat
open Go.RowKit Go.Sort Go.Shelf
theorem takeWhile_at {α:Type} {p:α→Bool} : ∀ (l:List α) (c:Nat) (hc:c < (l.takeWhile p).length),∃ hl : c < l.length,p l[c] = true∧(l.takeWhile p)[c] = l[c]
 | [],c,hc=>by simp at hc
 | a :: l,c,hc=>by
  by_cases ha:p a = true
  ·
   rw [List.takeWhile_cons_of_pos ha] at hc
   cases c with
   | zero=>exact ⟨by simp,ha,by simp [List.takeWhile_cons_of_pos ha]⟩
   | succ c =>
    obtain ⟨h1,h2,h3⟩:=takeWhile_at l c (by simpa using hc)
    exact ⟨by simp; omega,by simpa using h2,by simp [List.takeWhile_cons_of_pos ha]; exact h3⟩
  ·
   rw [List.takeWhile_cons_of_neg ha] at hc; simp at hc
theorem takeWhile_end {α:Type} {p:α→Bool} : ∀ (l:List α) (h : (l.takeWhile p).length < l.length),p l[(l.takeWhile p).length] = false
 | [],h=>by simp at h
 | a :: l,h=>by
  by_cases ha:p a = true
  ·
   have e:(a :: l).takeWhile p = a :: l.takeWhile p:=List.takeWhile_cons_of_pos ha
   simp only [e,List.length_cons,List.getElem_cons_succ] at h ⊢
   exact takeWhile_end l (by omega)
  ·
   have e:(a :: l).takeWhile p = []:=List.takeWhile_cons_of_neg ha
   simp only [e,List.length_nil,List.getElem_cons_zero]
   simpa using ha
def grpF (l:List OrdT) (ys:List Nat) (f:Nat) : List Nat:=(ys.drop f).takeWhile (sameK l (ys.getD f 0))
theorem getD_get {ys:List Nat} {f:Nat} (h:f < ys.length) : ys.getD f 0 = ys[f]:=by rw [List.getD_eq_getElem?_getD,List.getElem?_eq_getElem h]; rfl
theorem grpF_facts {l:List OrdT} {ys:List Nat} {f:Nat} (h:f < ys.length) : 0 < (grpF l ys f).length∧f+(grpF l ys f).length≤ys.length∧(∀ c,c < (grpF l ys f).length→keyAt l (ys.getD (f+c) 0) = keyAt l (ys.getD f 0)∧(grpF l ys f)[c]? = some (ys.getD (f+c) 0)) ∧
  (f+(grpF l ys f).length < ys.length→keyAt l (ys.getD (f+(grpF l ys f).length) 0) ≠ keyAt l (ys.getD f 0)):=by
 have hd:ys.drop f = ys[f] :: ys.drop (f+1):=List.drop_eq_getElem_cons h
 have hle:(grpF l ys f).length≤(ys.drop f).length:=(List.takeWhile_sublist _).length_le
 rw [List.length_drop] at hle
 refine ⟨?_,by omega,fun c hc=>?_,fun hlt=>?_⟩
 ·
  unfold grpF
  rw [hd,getD_get h,List.takeWhile_cons_of_pos (by simp [sameK])]
  simp
 ·
  obtain ⟨h1,h2,h3⟩:=takeWhile_at _ c hc
  have e:(ys.drop f)[c] = ys.getD (f+c) 0:=by
   rw [List.getElem_drop,getD_get (by simp at h1; omega)]
  rw [e] at h2 h3
  refine ⟨by simpa [sameK] using h2,?_⟩
  rw [List.getElem?_eq_getElem hc]
  exact congrArg some h3
 ·
  have h1:=takeWhile_end (p:=sameK l (ys.getD f 0)) (ys.drop f) (by rw [List.length_drop]; unfold grpF at hlt; omega)
  have e : (ys.drop f)[(grpF l ys f).length]'(by rw [List.length_drop]; omega) = ys.getD (f + (grpF l ys f).length) 0 := by
   rw [List.getElem_drop,getD_get hlt]
  unfold grpF at e ⊢
  rw [e] at h1
  simpa [sameK] using h1
theorem srvP_at {l:List OrdT} {ys:List Nat} {f fu : Nat} {left:Int} {T:List Int} (h:f < ys.length) : srvP l (fu+1) (ys.drop f) left T = srvP l fu (ys.drop (f+(grpF l ys f).length)) (left - sumI (partsC left (clmP l (grpF l ys f)))) (setAll T (grpF l ys f) (partsC left (clmP l (grpF l ys f)))):=by
 have hd:ys.drop f = ys[f] :: ys.drop (f+1):=List.drop_eq_getElem_cons h
 have hg:grpP l ys[f] (ys.drop (f+1)) = grpF l ys f:=by unfold grpP grpF; rw [← hd,getD_get h]
 rw [hd,srvP,hg,← hd,List.drop_drop]
theorem clmP_snoc {l:List OrdT} {g:List Nat} {c i : Nat} (h:g[c]? = some i) : clmP l (g.take (c+1)) = clmP l (g.take c)++[claimN (l.getD i zOd)]:=by
 have hc:=(List.getElem?_eq_some_iff.1 h).1
 rw [List.take_succ_eq_append_getElem hc,clmP,List.map_append]
 have:=(List.getElem?_eq_some_iff.1 h).2
 rw [this]; rfl
theorem clm_all {l:List OrdT} (hok : ∀ o ∈ l,OrdOk o) {g:List Nat} (hg : ∀ i ∈ g,i < l.length) : ∀ x ∈ clmP l g,0≤x∧x≤1000000000:=fun x hx=>by
 obtain ⟨i,hi,rfl⟩:=List.mem_map.1 hx
 exact claim_bd (hok _ (getD_mem (hg i hi)))
theorem partsC_facts {left:Int} {cs:List Int} (h0:0≤left) (h : ∀ x ∈ cs,0≤x) : (partsC left cs).length = cs.length∧(∀ x ∈ partsC left cs,0≤x)∧sumI (partsC left cs)≤left:=by
 unfold partsC
 split
 ·
  rename_i hlt
  exact ⟨allocN_len _ _,allocN_nonneg h0 h (by omega),by rw [allocN_sum (by omega)]; omega⟩
 ·
  exact ⟨rfl,h,by omega⟩
theorem ord_cells {l:List OrdT} {w:World} {B:Nat} {ob oo : Nat} (h:SliceOf encOd 5 w B (some ⟨ob,oo,none⟩) l) {i:Nat} (hi:i < l.length) : ∀ j v,(encOd (l.getD i zOd))[j]? = some v→w.cell? ⟨ob,oo+i * 5+j,none⟩ = some v:=fun j v hj=>by
 obtain ⟨b,off,hA,_,hc⟩:=h.at_ hi
 injection hA with hA
 injection hA with e1 e2
 subst e1 e2
 have e:l.getD i zOd = l[i]:=by rw [List.getD_eq_getElem?_getD,List.getElem?_eq_getElem hi]; rfl
 rw [e] at hj
 exact hc j v hj
theorem sumI_nn : ∀ {l:List Int},(∀ x ∈ l,0≤x)→0≤sumI l
 | [],_=>by simp [sumI]
 | x :: l,h=>by
  have h1:=h x (by simp)
  have h2:=sumI_nn (l:=l) fun y hy=>h y (by simp [hy])
  simp only [sumI]; omega
theorem setAll_snoc : ∀ (G:List Nat) (P T : List Int) (k:Nat) (hk:k < G.length) (hp:k < P.length),setAll T (G.take (k+1)) (P.take (k+1)) = (setAll T (G.take k) (P.take k)).set G[k] P[k]
 | i :: g,p :: P,T,0,_,_=>rfl
 | i :: g,p :: P,T,k+1,hk,hp=>by
  simp only [List.take_succ_cons,setAll,List.getElem_cons_succ]
  exact setAll_snoc g P (T.set i p) k (by simpa using hk) (by simpa using hp)
set_option maxRecDepth 100000 in
set_option maxHeartbeats 8000000 in
theorem serveP (A AI : Option Addr) (cap ci m : Nat) (l:List OrdT) (xs:List (Fin (m+1))) (left:Int) (gt:Nat) (T:List Int) (w:World) (hm:l.length = m+1) (h:SliceOf encOd 5 w w.heap.size A l) (hl:OrdsOk l) (hI:SliceOf encI 1 w w.heap.size AI (valsF xs)) (hx:xs.Pairwise (fun a b=>a.val < b.val)) (hxl:xs.length≤m+1)
  (hT:RowI w gt T) (hTl:T.length = m+1) (l0:0≤left) (l1:left≤1000000000) (hgA:∀ a,A = some a→a.block ≠ gt) :
  Calls Tryz.prog 169 #[.slice A (m+1) cap,.slice AI xs.length ci,.int .i64 left,.slice (some ⟨gt,0,none⟩) (m+1) (m+1)] w fun e w'=>e = .returned (.int .i64 0)∧∃ ys:List (Fin (m+1)),ys.Perm xs∧(ys.map (·.val)).Pairwise (OrdLt l)∧RowI w' gt (srvP l (m+1) (ys.map (·.val)) left T)∧w.grownBy w' (some gt):=by
 have hm16:m+1≤16:=by rw [← hm]; exact hl.len
 have hvl:(valsF xs).length = xs.length:=by simp [valsF]
 have HOK:=Lib.hid hl
 have HM:=Lib.hid hm
 have hgt:=hT.lt
 obtain ⟨ob,oo,hAe,hob,_⟩:=h (by intro e2; rw [e2] at hm; simp at hm)
 subst hAe
 have hobt:ob ≠ gt:=hgA _ rfl
 clear hl hm hgA
 go_enter Tryz.func169,Tryz.ntmps169
 go_upto_region 1 with fail
 have hB:=Blk.new w 47 #[.slice (some ⟨ob,oo,none⟩) (m+1) cap]
 have hbel:=below_new w (.cells #[.slice (some ⟨ob,oo,none⟩) (m+1) cap] 47)
 generalize w.alloc (.cells #[.slice (some ⟨ob,oo,none⟩) (m+1) cap] 47) = W at hB hbel ⊢
 have hG:HdC w.heap.size (.slice (some ⟨ob,oo,none⟩) (m+1) cap) W:=⟨(hB.cell 0).trans rfl,hB.lt⟩
 have hcl:=cloneI_any AI ci (valsF xs) W (hI.adv hbel) (by rw [hvl]; omega)
 rw [hvl] at hcl
 have HCL:=Lib.hid hcl
 clear hB hcl hI
 go_wp2_with fail
 refine Calls.mono HCL.out ?_
 rintro e w1 ⟨v,rfl,hown,hb1⟩
 have hG1:=hG.adv hb1
 have hbel1:=bel_adv hbel hb1
 have hT1:=hT.adv hbel1
 have hL1:=h.adv hbel1
 have hws:=hbel.size
 have hWl:w.heap.size < W.heap.size:=hG.lt
 have hws1:=hbel1.size
 have hgl1:=hG1.lt
 clear HCL hG hbel hb1 hT h
 by_cases hx0:xs = []
 ·
  subst hx0
  have hv:∃ A' cap',v = .slice A' 0 cap':=by
   rcases hown.2 with ⟨h1,_⟩ | ⟨g,cap',cur,h1,_⟩
   ·
    exact ⟨none,0,h1⟩
   ·
    exact ⟨some ⟨g,0,none⟩,cap',h1⟩
  obtain ⟨A',cap',rfl⟩:=hv
  clear hown
  go_wp2_with fail
  refine (stable_nil _ _ _ _ _).mono ?_
  rintro e w' ⟨rfl,rfl⟩
  go_wp2
  refine wp_loop_rounds 1 ?_
  rw [rounds_succ]
  go_wp2
  go_ret
  exact ⟨rfl,[],List.Perm.refl _,List.Pairwise.nil,hT1,only_of_below hbel1 _⟩
 ·
  have hxn:0 < xs.length:=List.length_pos_iff.2 hx0
  obtain ⟨gs,cs,rfl,hgs,hgsl,hgf,hcs⟩:=hown.known (by intro e; rw [e] at hvl; simp at hvl; omega)
  rw [hvl] at hown hcs ⊢
  have hst:=stable_core (cfK l) 208 #[.pointer (some ⟨w.heap.size,0,none⟩)] gs cs xs w1 hx (swo_cfK l) (enters_of Tryz.func208 (by kernel_rfl) rfl)
   (fun mm os dk hsz x y=>by
    have hg:=only_sortWorld encF w1 gs 0 mm dk os
    have hA2:SliceOf encOd 5 (sortWorld encF w1 gs 0 mm dk os) (sortWorld encF w1 gs 0 mm dk os).heap.size (some ⟨ob,oo,none⟩) l:=hL1.advG hg (fun a ha=>by injection ha with ha; subst ha; show ob ≠ gs; omega)
    exact serveClo w.heap.size (m+1) cap _ l x.val y.val _ x.isLt y.isLt HM.out (hG1.grown hg (fun e=>by injection e; omega)) hA2)
   hown.holdsF hgsl (by omega)
  have HST:=Lib.hid hst
  have HOWN:=Lib.hid hown
  clear hst hown hgf
  go_wp2_with fail
  refine Calls.mono HST.out ?_
  rintro e w5 ⟨rfl,ys,k5,os5,hp,hpw,hw5⟩
  have hg5:w1.grownBy w5 (some gs):=by rw [hw5]; exact only_sortWorld _ _ _ _ _ _ _
  obtain ⟨hso,_⟩:=HOWN.out.sortedF hp.length_eq
  have hso5:=hso.adv (below_sortWorld encF w1 gs 0 k5 ys.toArray os5)
  rw [← hw5] at hso5
  obtain ⟨A9,c9,hk9,hS5,_,_⟩:=hso5.form (fun _=>rfl)
  injection hk9 with hk1
  subst hk1
  clear hso hso5 HST HOWN hw5
  obtain ⟨V,hV⟩ : ∃ V,V = ys.map (·.val):=⟨_,rfl⟩
  have hVl:V.length = xs.length:=by rw [hV,List.length_map,hp.length_eq]
  have hVlt:∀ i,i < V.length→V.getD i 0 < m+1:=fun i hi=>by
   rw [getD_get hi]; simp only [hV,List.getElem_map]; exact Fin.isLt _
  have hcell:∀ (wq:World),SliceOf encI 1 wq wq.heap.size (some ⟨gs,0,none⟩) (valsF ys)→∀ i,i < xs.length→wq.cell? ⟨gs,i,none⟩ = some (.int .i64 (V.getD i 0:Nat)):=fun wq hs i hi=>by
   have hi':i < (valsF ys).length:=by simp [valsF]; rw [hp.length_eq]; exact hi
   obtain ⟨b,off,hA,_,hc⟩:=hs.at_ hi'
   injection hA with hA
   injection hA with hA1 hA2
   subst hA1 hA2
   have c0:=hc 0 _ rfl
   simp only [Nat.zero_add,Nat.mul_one,Nat.add_zero] at c0
   rw [c0,getD_get (by rw [hVl]; exact hi)]
   simp [valsF,hV]
  have HP:=Lib.hid (show ys.Perm xs∧V.Pairwise (OrdLt l) from ⟨hp,by rw [hV]; exact ord_of l hpw⟩)
  have HV:=Lib.hid hV
  have HVL:=Lib.hid hVl
  have HVLT:=Lib.hid hVlt
  have HCELL:=Lib.hid hcell
  have hG5:=hG1.grown hg5 (fun e=>by injection e; omega)
  have hT5:=hT1.grown hg5 (fun e=>by injection e; omega)
  have hL5:SliceOf encOd 5 w5 w5.heap.size (some ⟨ob,oo,none⟩) l:=hL1.advG hg5 (fun a ha=>by injection ha with ha; subst ha; show ob ≠ gs; omega)
  have hbel5:=bel_only hbel1 hg5 (fun g e=>by injection e; omega)
  have hws5:=hg5.size
  have n1:gs ≠ gt:=by omega
  have n2:w.heap.size ≠ gt:=by omega
  have n3:gs < w5.heap.size:=by omega
  have n4:gt < w5.heap.size:=by omega
  have n5:w.heap.size < w5.heap.size:=by omega
  clear hp hpw hV hVl hVlt hcell hG1 hT1 hL1 hg5 hbel1 hws hws1 hWl hgl1 hgsl hgs hx0
  obtain ⟨N,hN⟩ : ∃ N,xs.length = N:=⟨_,rfl⟩
  rw [hN] at hxn hxl HVL HCELL ⊢
  clear hN hvl
  obtain ⟨R,hR⟩ : ∃ R,R = srvP l (m+1) V left T:=⟨_,rfl⟩
  have HR0:=Lib.hid hR
  go_wp2
  go_loopw [10,11] (fun lf i wr=>∃ (f fu:Nat) (lft:Int) (T':List Int),f≤N∧i = .int .i64 f∧lf = .int .i64 lft∧0≤lft∧lft≤1000000000∧T'.length = m+1∧N≤f+fu∧Hid (srvP l fu (V.drop f) lft T' = R)∧RowI wr gt T'∧w5.grownBy wr (some gt)) (fun _ i _=>N - (intOf i).toNat)
  case atStart=>exact ⟨0,m+1,left,T,by omega,rfl,rfl,l0,l1,hTl,by omega,by rw [Hid,hR]; rfl,hT5,only_refl _ _⟩
  case round =>
   clear hT5 hR
   obtain ⟨f,fu,lft,T',hf,rfl,rfl,f0,f1,hTl',hfu,HR,hT',hgw⟩:=hrel
   have hSr:=hS5.advG hgw (fun a ha=>by injection ha with ha; subst ha; exact n1)
   have hLr:=hL5.advG hgw (fun a ha=>by injection ha with ha; subst ha; exact hobt)
   have hGr:=hG5.grown hgw (fun e=>n2 (by injection e))
   have hgsz:=hgw.size
   by_cases hlt:f < N
   ·
    obtain ⟨fu',rfl⟩ : ∃ fu',fu = fu'+1:=⟨fu - 1,by omega⟩
    have hfV:f < V.length:=by rw [HVL.out]; exact hlt
    have hstep:=HR.out
    rw [srvP_at hfV] at hstep
    obtain ⟨gpos,gle,gat,gend⟩:=grpF_facts (l:=l) hfV
    rw [HVL.out] at gle gend
    obtain ⟨G,hG⟩ : ∃ G,grpF l V f = G:=⟨_,rfl⟩
    rw [hG] at hstep gpos gle gat gend
    have hGin:∀ i ∈ G,i < l.length:=fun i hi=>by
     obtain ⟨c,hc,e⟩:=List.mem_iff_getElem.1 hi
     have e2:=(gat c hc).2
     rw [List.getElem?_eq_getElem hc,e] at e2
     injection e2 with e2
     rw [e2,HM.out]
     exact HVLT.out _ (by rw [HVL.out]; omega)
    have HCB:=Lib.hid (clm_all HOK.out.ok hGin)
    have HGIN:=Lib.hid hGin
    have HSTEP:=Lib.hid hstep
    have HGAT:=Lib.hid gat
    have HGEND:=Lib.hid gend
    have hG16:G.length≤16:=by omega
    have hj:V.getD f 0 < l.length:=by rw [HM.out]; exact HVLT.out f hfV
    have HGW:=Lib.hid hgw
    have hfi:(f:Int) < (N:Int):=by omega
    clear hG hstep gat gend hGin hgw HR hfV
    have hcj:=Lib.hid (fun wq hs=>HCELL.out wq hs f hlt)
    generalize V.getD f 0 = j at HGAT HGEND hj hcj
    go_wp2
    go_loopw [12,13,14] (fun cv sv tv wq=>∃ c t:Nat,c≤G.length∧Hid (t = f+c)∧t≤N∧tv = .int .i64 (t:Int)∧sv = .int .i64 (sumI (clmP l (G.take c)))∧Own encI 1 3 wq wr.heap.size cv (clmP l (G.take c))∧Below wr.heap.size wr wq) (fun _ _ tv _=>N - (intOf tv).toNat)
    case atStart=>exact ⟨0,f,by omega,rfl,by omega,rfl,rfl,Own.nil_ _ _,Below.refl _ _⟩
    case round =>
     rename World=>wq
     obtain ⟨c,t,hc,HT,ht,rfl,rfl,hown,hbq⟩:=hrel
     have hSq:=hSr.adv hbq
     have hLq:=hLr.adv hbq
     have hGq:=hGr.adv hbq
     have hbs:=hbq.size
     have hj':(j:Int) < ((m+1:Nat) : Int):=by rw [HM.out] at hj; omega
     go_upto_region 9 with fail
     go_cut [73] from 32 to 90 (fun s wx=>s = .bool (decide (c < G.length))∧Below wq.heap.size wq wx)
     case first =>
      have z0:=hGq.c
      have s0:=hcj.out wq hSq
      have hbw:∀ n,Below wq.heap.size wq (wq.drewN n):=fun n=>below_drewN (Below.refl _ _) n
      have HBW:=Lib.hid hbw
      clear hbw hown
      by_cases htN:t < N
      ·
       have hti:(t:Int) < (N:Int):=by omega
       have s1:=HCELL.out wq hSq t htN
       have hi:V.getD t 0 < l.length:=by rw [HM.out]; exact HVLT.out t (by rw [HVL.out]; exact htN)
       have hi':((V.getD t 0:Nat) : Int) < ((m+1:Nat) : Int):=by rw [HM.out] at hi; omega
       obtain ⟨b',off',hA',hbq',d1,d2⟩:=ord_at hLq hj
       injection hA' with hA'
       injection hA' with e1 e2
       subst e1 e2
       obtain ⟨b',off',hA',_,c1,c2⟩:=ord_at hLq hi
       injection hA' with hA'
       injection hA' with e1 e2
       subst e1 e2
       have hcases:(c < G.length∧keyAt l (V.getD t 0) = keyAt l j) ∨ (¬ c < G.length∧keyAt l (V.getD t 0) ≠ keyAt l j):=by
        by_cases hcl:c < G.length
        ·
         have:=(HGAT.out c hcl).1
         rw [← HT.out] at this
         exact .inl ⟨hcl,this⟩
        ·
         obtain rfl:c = G.length:=by omega
         have hne:=HGEND.out (by rw [← HT.out]; exact htN)
         rw [← HT.out] at hne
         exact .inr ⟨hcl,hne⟩
       clear hi hj hSq hLq hGq hSr hLr hGr hbq HGAT HGEND
       generalize keyAt l (V.getD t 0) = ki at *
       generalize V.getD t 0 = i at *
       generalize keyAt l j = kj at *
       obtain ⟨ri,di⟩:=ki
       obtain ⟨rj,dj⟩:=kj
       simp only at c1 c2 d1 d2
       rcases hcases with ⟨hcl,hk⟩ | ⟨hcl,hk⟩
       ·
        injection hk with k1 k2
        subst k1 k2
        have HC:Hid (decide (c < G.length) = true):=by simp [Hid,hcl]
        have b1:(ri == ri) = true:=by simp
        have b2:(di == di) = true:=by simp
        clear hcl
        as_aux_lemma =>
         go_quiet (fail)
         go_wp2_with fail
         go_meet
         exact ⟨by rw [HC.out],HBW.out _⟩
       ·
        have HC:Hid (decide (c < G.length) = false):=by simp [Hid,hcl]
        clear hcl
        by_cases k1:ri = rj
        ·
         have k2:di ≠ dj:=fun e=>hk (by rw [k1,e])
         subst k1
         have b1:(ri == ri) = true:=by simp
         have b2:(di == dj) = false:=by simpa using k2
         clear hk k2
         as_aux_lemma =>
          go_quiet (fail)
          go_wp2_with fail
          go_meet
          exact ⟨by rw [HC.out],HBW.out _⟩
        ·
         have b1:(ri == rj) = false:=by simpa using k1
         clear hk k1
         as_aux_lemma =>
          go_quiet (fail)
          go_wp2_with fail
          go_meet
          exact ⟨by rw [HC.out],HBW.out _⟩
      ·
       have HC:Hid (decide (c < G.length) = false):=by
        have:=HT.out
        simp only [Hid,decide_eq_false_iff_not]; omega
       have g0:decide ((t:Int) < (N:Int)) = false:=by simp; omega
       have g1:decide (t < N) = false:=by simp; omega
       clear hSq hLq hGq hSr hLr hGr hbq HGAT HGEND
       as_aux_lemma =>
        go_quiet (fail)
        go_wp2_with fail
        go_meet
        exact ⟨by rw [HC.out],HBW.out _⟩
     case rest =>
      rename World=>wx
      obtain ⟨rfl,hbx⟩:=hcut
      have hbq:=bel_adv hbq hbx
      have hown:=hown.adv hbx
      clear hSq hLq hGq hbx hbs
      have hSq:=hSr.adv hbq
      have hLq:=hLr.adv hbq
      have hGq:=hGr.adv hbq
      have hbs:=hbq.size
      by_cases hcl:c < G.length
      ·
       have hbb:decide (c < G.length) = true:=by simp [hcl]
       have hkey:=(HGAT.out c hcl)
       rw [← HT.out] at hkey
       have htN:t < N:=by have:=HT.out; omega
       have HCS:=Lib.hid (clmP_snoc (l:=l) hkey.2)
       have hi:V.getD t 0 < l.length:=by rw [HM.out]; exact HVLT.out t (by rw [HVL.out]; exact htN)
       have hi':((V.getD t 0:Nat) : Int) < ((m+1:Nat) : Int):=by rw [HM.out] at hi; omega
       have HCK:=Lib.hid (claim_bd (HOK.out.ok _ (getD_mem hi)))
       have hti:(t:Int) < (N:Int):=by omega
       have z0:=Bw.cell (w:=wx) (a:=⟨w.heap.size,0,none⟩) hGq.lt hGq.c
       have s1:=Bw.cell (w:=wx) (a:=⟨gs,t,none⟩) (by show gs < _; omega) (HCELL.out wx hSq t htN)
       have hcc:=ord_cells hLq hi
       have hbo:ob < wx.heap.size:=by omega
       have c0:=Bw.cell (w:=wx) (a:=⟨ob,oo+V.getD t 0 * 5+0,none⟩) hbo (hcc 0 _ rfl)
       have c1:=Bw.cell (w:=wx) (a:=⟨ob,oo+V.getD t 0 * 5+1,none⟩) hbo (hcc 1 _ rfl)
       have c2:=Bw.cell (w:=wx) (a:=⟨ob,oo+V.getD t 0 * 5+2,none⟩) hbo (hcc 2 _ rfl)
       have c3:=Bw.cell (w:=wx) (a:=⟨ob,oo+V.getD t 0 * 5+3,none⟩) hbo (hcc 3 _ rfl)
       have c4:=Bw.cell (w:=wx) (a:=⟨ob,oo+V.getD t 0 * 5+4,none⟩) hbo (hcc 4 _ rfl)
       simp only [Nat.add_zero] at c0
       have HCLM:=Lib.hid (fun p:Bw wx=>Bw.call p (claimP31 (l.getD (V.getD t 0) zOd) p.w'))
       have hlen:(clmP l (G.take c)).length≤16:=by simp [clmP]; omega
       have hsb:=sumI_bd (l:=clmP l (G.take c)) (B:=1000000000) (fun x hx=>HCB.out x (by
        obtain ⟨y,hy,rfl⟩:=List.mem_map.1 hx
        exact List.mem_map.2 ⟨y,List.mem_of_mem_take hy,rfl⟩))
       have hs0:=hsb.1
       have hs1:sumI (clmP l (G.take c))≤16000000000:=by omega
       clear hsb hkey hcc hi hSr hLr hGr hSq hLq hGq hj
       generalize l.getD (V.getD t 0) zOd = o at *
       generalize V.getD t 0 = i at *
       go_upto_region 10 with fail
       refine wp_region_below (by kernel_rfl) (by kernel_rfl) ?_
       repeat (first | go_big_quiet_step (exact HCLM.out _) | quiet_step (exact HCLM.out _))
       refine wpQuiet_nil ?_
       intro W2 hw'
       obtain ⟨⟨W9,hW2⟩,hw''⟩:=hw'
       subst hw''
       have hown4:=hown.adv hW2
       have hb24:=bel_adv hbq hW2
       have hs4:=hb24.size
       have hr7:=fun q hq=>(hown4.block_lt (g:=q) hq).1
       have hc0:=HCK.out
       obtain ⟨q0,q1⟩:=hc0
       generalize hcl':claimN o = cl at *
       clear z0 s1 c0 c1 c2 c3 c4 HCLM hown hW2
       go_wp2_with (at_builtin; (refine wpList_append_one _ _ 34 cl _ 8 _ infoInt Tryz.underlying34 hown4 encI_len (by omega) rfl (fun u hu=>by simp [encI] at hu; subst hu; rfl) (by omega) (by omega) hs4 (by rfl) (by rfl) (by rfl) (by rfl) (by simp) (by rfl) ?_); intro v5 w5' hown5 hg5; have hb5:=bel_only hb24 hg5 hr7)
       go_roundw
       case rel =>
        have hfin:∃ c' t':Nat,c'≤G.length∧Hid (t' = f+c')∧t'≤N∧Value.int .i64 ((t:Int)+1) = .int .i64 (t':Int)∧Value.int .i64 (sumI (clmP l (G.take c))+cl) = .int .i64 (sumI (clmP l (G.take c')))∧Own encI 1 3 w5' wr.heap.size v5 (clmP l (G.take c'))∧Below wr.heap.size wr w5':=⟨c+1,t+1,by omega,by have:=HT.out; rw [Hid]; omega,by omega,by go_num,by rw [HCS.out,sumI_append]; simp [sumI],by rw [HCS.out]; exact hown5,hb5⟩
        first | exact hfin | ((repeat apply Exists.intro); exact ⟨hfin,rfl⟩)
       case measure=>simp [intOf]; omega
      ·
       obtain rfl:c = G.length:=by omega
       rw [List.take_length] at hown ⊢
       have hbb:decide (G.length < G.length) = false:=by simp
       obtain ⟨hPl,hPn,hPs⟩:=partsC_facts (left:=lft) (cs:=clmP l G) f0 (fun x hx=>(HCB.out x hx).1)
       have HPQ:Hid (partsC lft (clmP l G) = if lft < sumI (clmP l G) then allocN lft (clmP l G) else clmP l G):=rfl
       have HMEM:Hid (∀ x ∈ clmP l G,0≤x∧x≤1000000000):=HCB.out
       have hcl16:(clmP l G).length≤16:=by simp [clmP]; omega
       have HCG:Hid ((clmP l G).length = G.length):=by simp [Hid,clmP]
       have HPL:Hid ((partsC lft (clmP l G)).length = G.length):=by rw [Hid,hPl]; exact HCG.out
       have HPS:=Lib.hid hPs
       have HPS0:Hid (0≤sumI (partsC lft (clmP l G))):=sumI_nn hPn
       obtain ⟨ca,cc,rfl,hcs,_,_⟩:=hown.form encI_len
       have hblk:∀ a,ca = some a→wr.heap.size≤a.block:=fun a e=>(hown.block_lt (g:=a.block) (by rw [e]; rfl)).1
       clear hPl hPn hPs hown hSr hLr hGr hLq hGq HCB hbb hcl hc hj
       generalize partsC lft (clmP l G) = P at *
       generalize clmP l G = cm at *
       go_upto_if 94 with fail
       go_cut [13,16,17,18] from 27 to 126 (fun sv pv _ _ wy=>sv = .int .i64 (sumI P)∧(∃ PA pc,pv = .slice PA P.length pc∧SliceOf encI 1 wy wy.heap.size PA P∧∀ a,PA = some a→wr.heap.size≤a.block)∧Below wr.heap.size wr wy)
       case first =>
        by_cases hgt:lft < sumI cm
        ·
         have HPA:Hid (P = allocN lft cm):=by rw [Hid,HPQ.out]; exact if_pos hgt
         have HPT:Hid (sumI P = lft):=by rw [HPA.out]; exact allocN_sum (by omega)
         have HAL:=Lib.hid (allocateP lft ca cc cm wx hcs f0 f1 HMEM.out (by omega) (by omega))
         clear hcs hSq HPQ HPS HGEND HGAT
         go_wp2_with fail
         refine Calls.mono HAL.out ?_
         rintro e w6 ⟨g,rfl,hg6,hrow,hb6⟩
         clear HAL
         go_wp2_with fail
         go_meet
         have hsz:∀ n q:Nat,n = q→Value.slice (some ⟨g,0,none⟩) n n = Value.slice (some ⟨g,0,none⟩) q n:=fun n q e=>by rw [e]
         exact ⟨by rw [HPT.out],⟨some ⟨g,0,none⟩,cm.length,hsz _ _ (by rw [HPL.out,HCG.out]),by rw [HPA.out]; exact hrow.slice,fun a e=>by injection e with e; subst e; show _≤g; omega⟩,bel_adv hbq hb6⟩
        ·
         have HPA:Hid (P = cm):=by rw [Hid,HPQ.out]; exact if_neg hgt
         clear HPQ HPS HPL HGEND HGAT hSq
         go_wp2_with fail
         go_meet
         exact ⟨by rw [HPA.out],⟨ca,cc,by rw [HPA.out],by rw [HPA.out]; exact hcs,hblk⟩,hbq⟩
       case rest =>
        rename World=>w6
        obtain ⟨rfl,⟨PA,pc,rfl,hPS,hPblk⟩,hb6⟩:=hcut
        clear hcs hbq hblk hbs HPQ HMEM hSq
        have hT6:=hT'.adv hb6
        have hg6:=only_adv HGW.out hb6
        have hS6:=hS5.advG hg6 (fun a ha=>by injection ha with ha; subst ha; exact n1)
        have hs6:=hb6.size
        have hPgt:∀ a,PA = some a→a.block ≠ gt:=fun a e=>by have:=hPblk a e; omega
        clear hb6 hT'
        have hff:Hid (f+G.length≤N):=gle
        go_upto_region 21 with fail
        go_wp2_with fail
        go_loopw [108] (fun kv wz=>∃ k:Nat,k≤G.length∧kv = .int .i64 (k:Int)∧RowI wz gt (setAll T' (G.take k) (P.take k))∧w6.grownBy wz (some gt)) (fun kv _=>G.length - (intOf kv).toNat)
        case atStart=>exact ⟨0,by omega,rfl,hT6,only_refl _ _⟩
        case round =>
         clear hT6
         rename World=>wz
         obtain ⟨k,hk,rfl,hTk,hgz⟩:=hrel
         have hTl2:(setAll T' (G.take k) (P.take k)).length = m+1:=by rw [setAll_len]; exact hTl'
         by_cases hkl:k < G.length
         ·
          have hkP:k < P.length:=by rw [HPL.out]; exact hkl
          have hSz:=hS6.advG hgz (fun a ha=>by injection ha with ha; subst ha; exact n1)
          have hPz:=hPS.advG hgz hPgt
          have hget:=(HGAT.out k hkl).2
          rw [List.getElem?_eq_getElem hkl] at hget
          injection hget with hget
          have HST:=Lib.hid (setAll_snoc G P T' k hkl hkP)
          rw [hget] at HST
          obtain ⟨q,hq⟩ : ∃ q:Nat,q = f+k:=⟨_,rfl⟩
          have hqf:(f:Int)+(k:Int) = (q:Int):=by omega
          have hqN:q < N:=by omega
          rw [← hq] at HST
          have hqi:(q:Int) < (N:Int):=by omega
          have s1:=HCELL.out wz hSz q hqN
          have hi:V.getD q 0 < m+1:=HVLT.out q (by rw [HVL.out]; exact hqN)
          obtain ⟨pb,po,rfl,hpb,hpc⟩:=hPz.at_ hkP
          have p0:=hpc 0 _ rfl
          simp only [Nat.add_zero,Nat.mul_one] at p0
          have hi':((V.getD q 0:Nat) : Int) < ((m+1:Nat) : Int):=by omega
          have zt:=hTk.cell (i:=V.getD q 0) (by rw [hTl2]; exact hi)
          have ft:=hTk.frozen (V.getD q 0)
          have lt':=hTk.lt
          have HSET:=Lib.hid (hTk.set (i:=V.getD q 0) (by rw [hTl2]; exact hi) P[k])
          have HGZ:=Lib.hid hgz
          have hkPi:(k:Int) < (P.length:Int):=by omega
          have hne1:gs ≠ gt:=n1
          clear hq hpc hTk hgz hSz hPz hget hTl2 hi hPblk hPgt
          generalize V.getD q 0 = i at *
          generalize P[k] = pk at *
          go_wp2
          go_roundw
          case rel =>
           have hfin:∃ k':Nat,k'≤G.length∧Value.int .i64 ((k:Int)+1) = .int .i64 (k':Int)∧RowI (wz.setCell ⟨gt,i,none⟩ (.int .i64 pk)) gt (setAll T' (G.take k') (P.take k'))∧w6.grownBy (wz.setCell ⟨gt,i,none⟩ (.int .i64 pk)) (some gt):=⟨k+1,by omega,by go_num,by rw [HST.out]; exact HSET.out,only_setCell HGZ.out (.inl rfl) _⟩
           first | exact hfin | ((repeat apply Exists.intro); exact ⟨hfin,rfl⟩)
          case measure=>simp [intOf]; omega
         ·
          obtain rfl:k = G.length:=by omega
          have hPtk:P.take G.length = P:=List.take_of_length_le (by rw [HPL.out]; exact Nat.le_refl _)
          rw [List.take_length,hPtk] at hTk hTl2
          have hkPi:¬ (G.length:Int) < (P.length:Int):=by rw [HPL.out]; omega
          have hps0:0≤sumI P:=HPS0.out
          have hps1:=HPS.out
          have HTK:=Lib.hid hTk
          have HGZ:=Lib.hid (only_trans hg6 hgz)
          have HTL:=Lib.hid hTl2
          clear hPS hPblk hPgt hTk hgz hPtk hg6 hS6 hTl2
          go_wp2
          go_roundw
          case rel =>
           have hfin:∃ (f' fu2:Nat) (lft':Int) (T2:List Int),f'≤N∧Value.int .i64 (t:Int) = .int .i64 f'∧Value.int .i64 (lft - sumI P) = .int .i64 lft'∧0≤lft'∧lft'≤1000000000∧T2.length = m+1∧N≤f'+fu2∧Hid (srvP l fu2 (V.drop f') lft' T2 = R)∧RowI wz gt T2∧w5.grownBy wz (some gt):=⟨t,fu',lft - sumI P,setAll T' G P,ht,rfl,rfl,by omega,by omega,HTL.out,by have:=HT.out; omega,by have:=HT.out; rw [this]; exact HSTEP.out,HTK.out,HGZ.out⟩
           first | exact hfin | ((repeat apply Exists.intro); exact ⟨hfin,rfl⟩)
          case measure =>
           have:=HT.out
           simp [intOf]; omega
   ·
    obtain rfl:N = f:=by omega
    have hfin:T' = R:=by rw [← HR.out,List.drop_of_length_le (by rw [HVL.out]; exact Nat.le_refl _),srvP_nil]
    subst hfin
    have HT':=Lib.hid hT'
    have HFG:=Lib.hid (only_trans (only_of_below hbel5 (some gt)) hgw)
    clear hT' hgw hSr hLr hGr
    go_wp2
    go_ret
    exact ⟨rfl,ys,HP.out.1,by rw [← HV.out]; exact HP.out.2,by rw [← HV.out,← HR0.out]; exact HT'.out,HFG.out⟩
end Go.Proofs.YtlhkojcmcmkmaaaGreat
