/- Joined texts: P31d P31e P31f P32i. Conditions: as stated. -/
import Derived.Test.YtlhkojcmcmkmaaaGreatJNetM
import Derived.Test.YtlhkojcmcmkmaaaGreatJBox
import Derived.Test.YtlhkojcmcmkmaaaGreatJAddD
import Derived.Test.YtlhkojcmcmkmaaaGreatJP31c
namespace Go.Proofs.YtlhkojcmcmkmaaaGreat
open Go.RowKit Go.Sort Go.Shelf
def eligF (l:List OrdT) (priv:Bool) {n:Nat} : (k:Nat)→k≤n→List (Fin n)
 | 0,_=>[]
 | k+1,h=>eligF l priv k (by omega)++(if elig priv (l.getD k zOd) = true then [⟨k,h⟩] else [])
theorem eligF_lt (l:List OrdT) (priv:Bool) {n:Nat} : ∀ (k:Nat) (h:k≤n),∀ i ∈ eligF l priv k h,i.val < k
 | 0,_,i,hi=>by simp [eligF] at hi
 | k+1,h,i,hi=>by
  rw [eligF] at hi
  rcases List.mem_append.1 hi with e | e
  ·
   have:=eligF_lt l priv k (by omega) i e; omega
  ·
   split at e
   ·
    rw [List.mem_singleton.1 e]; exact Nat.lt_succ_self k
   ·
    simp at e
theorem eligF_pw (l:List OrdT) (priv:Bool) {n:Nat} : ∀ (k:Nat) (h:k≤n),(eligF l priv k h).Pairwise (fun a b=>a.val < b.val)
 | 0,_=>by simp [eligF]
 | k+1,h=>by
  rw [eligF,List.pairwise_append]
  refine ⟨eligF_pw l priv k (by omega),by split <;> simp,fun a ha b hb=>?_⟩
  have:=eligF_lt l priv k (by omega) a ha
  split at hb
  ·
   rw [List.mem_singleton.1 hb]; exact this
  ·
   simp at hb
theorem eligF_len (l:List OrdT) (priv:Bool) {n:Nat} : ∀ (k:Nat) (h:k≤n),(eligF l priv k h).length≤k
 | 0,_=>by simp [eligF]
 | k+1,h=>by
  have:=eligF_len l priv k (n:=n) (by omega)
  rw [eligF,List.length_append]
  split <;> simp <;> omega
theorem eligF_val (l:List OrdT) (priv:Bool) {n:Nat} : ∀ (k:Nat) (h:k≤n),(eligF l priv k h).map (·.val) = (List.range k).filter fun i=>elig priv (l.getD i zOd)
 | 0,_=>by simp [eligF]
 | k+1,h=>by
  rw [eligF,List.map_append,eligF_val l priv k,List.range_succ,List.filter_append]
  congr 1
  by_cases e:elig priv (l.getD k zOd) = true
  ·
   rw [if_pos e,List.filter_cons_of_pos (by exact e)]; rfl
  ·
   rw [if_neg e,List.filter_cons_of_neg (by exact e)]; rfl
theorem valsF_snoc {m:Nat} (xs:List (Fin (m+1))) (i:Fin (m+1)) : valsF (xs++[i]) = valsF xs++[(i.val : Int)]:=by simp [valsF]
theorem Own.keptNe {α:Type} {enc:α→List Value} {k:Nat} {e:TypeId} {w w' : World} {base:Nat} {v:Value} {xs:List α} {row:Option Nat} (h:Own enc k e w base v xs) (hg:w.grownBy w' row) (hr : ∀ q,v.ownBlock = some q→row ≠ some q) : Own enc k e w' base v xs:=by
 refine World.ownsRow.kept h hg ?_
 cases hv:v.ownBlock with
 | none=>exact .inl rfl
 | some g=>exact .inr (fun he=>hr g hv he.symm)
theorem sumI_set_le {T:List Int} (h : ∀ x ∈ T,0≤x) (i:Nat) (p:Int) (hp:0≤p) : sumI (T.set i p)≤sumI T+p:=by
 induction T generalizing i with
 | nil=>simp [sumI]; exact hp
 | cons x T ih =>
  have hx:=h x (by simp)
  cases i with
  | zero=>simp only [List.set_cons_zero,sumI]; omega
  | succ i =>
   have:=ih (fun y hy=>h y (by simp [hy])) i
   simp only [List.set_cons_succ,sumI]; omega
theorem setAll_le : ∀ (g:List Nat) (P T : List Int),(∀ x ∈ T,0≤x)→(∀ x ∈ P,0≤x)→sumI (setAll T g P)≤sumI T+sumI P
 | [],P,T,_,hP=>by
  have:=sumI_nn hP
  have e:setAll T [] P = T:=by cases P <;> rfl
  rw [e]; omega
 | i :: g,[],T,_,_=>by simp [setAll,sumI]
 | i :: g,p :: P,T,hT,hP=>by
  have hp:=hP p (by simp)
  have h1:=sumI_set_le hT i p hp
  have h2:=setAll_le g P (T.set i p) (fun x hx=>by
   rcases List.mem_or_eq_of_mem_set hx with e | e
   ·
    exact hT x e
   ·
    rw [e]; exact hp) (fun x hx=>hP x (by simp [hx]))
  simp only [setAll,sumI]; omega
theorem claim_nn {l:List OrdT} (hok : ∀ o ∈ l,OrdOk o) (g:List Nat) : ∀ x ∈ clmP l g,0≤x:=fun x hx=>by
 obtain ⟨i,_,rfl⟩:=List.mem_map.1 hx
 by_cases hi:i < l.length
 ·
  exact (claim_bd (hok _ (getD_mem hi))).1
 ·
  rw [List.getD_eq_getElem?_getD,List.getElem?_eq_none (by omega)]; decide
theorem srvP_le {l:List OrdT} (hok : ∀ o ∈ l,OrdOk o) : ∀ (n:Nat) (ys:List Nat) (left:Int) (T:List Int),0≤left→(∀ x ∈ T,0≤x)→sumI (srvP l n ys left T)≤sumI T+left∧∀ x ∈ srvP l n ys left T,0≤x
 | 0,_,left,T,h,hT=>by simp only [srvP]; exact ⟨by omega,hT⟩
 | n+1,[],left,T,h,hT=>by simp only [srvP]; exact ⟨by omega,hT⟩
 | n+1,i :: r,left,T,h,hT=>by
  obtain ⟨_,p2,p3⟩:=partsC_facts h (claim_nn hok (grpP l i r))
  have h1:=setAll_le (grpP l i r) _ T hT p2
  obtain ⟨h2,h3⟩:=srvP_le hok n ((i :: r).drop (grpP l i r).length) (left - sumI (partsC left (clmP l (grpP l i r)))) (setAll T (grpP l i r) (partsC left (clmP l (grpP l i r)))) (by omega) (setAll_nonneg _ _ _ p2 hT)
  rw [srvP]
  exact ⟨by omega,h3⟩
theorem sumI_take_le {T:List Int} (h : ∀ x ∈ T,0≤x) (k:Nat) : 0≤sumI (T.take k)∧sumI (T.take k)≤sumI T:=by
 have h1:=sumI_nn (l:=T.take k) fun x hx=>h x (List.mem_of_mem_take hx)
 have h2:=sumI_nn (l:=T.drop k) fun x hx=>h x (List.mem_of_mem_drop hx)
 have h3:sumI T = sumI (T.take k)+sumI (T.drop k):=by rw [← sumI_append,List.take_append_drop]
 omega
theorem elsP_snoc : ∀ (l:List OrdT) (T:List Int) (k:Nat) (hk:k < l.length) (hT:k < T.length),elsP (l.take (k+1)) (T.take (k+1)) = elsP (l.take k) (T.take k)++(if 0 < T[k] then [⟨l[k].id,T[k]⟩] else [])
 | o :: l,t :: T,0,_,_=>by simp [elsP]
 | o :: l,t :: T,k+1,hk,hT=>by
  have:=elsP_snoc l T k (by simpa using hk) (by simpa using hT)
  simp only [List.take_succ_cons,elsP,List.getElem_cons_succ]
  rw [this]
  split <;> simp
theorem sumI_zeros (n:Nat) : sumI (List.replicate n 0) = 0:=by
 induction n with
 | zero=>rfl
 | succ n ih=>rw [List.replicate_succ,sumI,ih]; rfl
theorem srvP_len {l:List OrdT} : ∀ (n:Nat) (ys:List Nat) (left:Int) (T:List Int),(srvP l n ys left T).length = T.length
 | 0,_,_,_=>by simp only [srvP]
 | n+1,[],_,_=>by simp only [srvP]
 | n+1,i :: r,left,T=>by rw [srvP,srvP_len n,setAll_len]
theorem elsP_len : ∀ (l:List OrdT) (T:List Int),(elsP l T).length≤l.length
 | [],T=>by cases T <;> simp [elsP]
 | o :: l,[]=>by simp [elsP]
 | o :: l,t :: T=>by
  have:=elsP_len l T
  rw [elsP]
  split <;> simp <;> omega
theorem restF_of {l:List OrdT} {n:Nat} (hn:l.length = n) (hok : ∀ o ∈ l,OrdOk o) {priv:Bool} {ys:List (Fin n)} (hp:ys.Perm (eligF l priv n (Nat.le_refl _))) (h : (ys.map (·.val)).Pairwise (OrdLt l)) : Rest l priv (-1,-1) (ys.map (·.val))∧(ys.map (·.val)).length≤l.length:=by
 refine ⟨rest_start hok ?_ h,?_⟩
 ·
  rw [hn,← eligF_val l priv n (Nat.le_refl _)]
  exact hp.map _
 ·
  rw [List.length_map,hp.length_eq,hn]
  exact eligF_len l priv n (Nat.le_refl _)
set_option maxRecDepth 100000 in
set_option maxHeartbeats 4000000 in
theorem serveP0 (A T : Option Addr) (cap tc : Nat) (left:Int) (w:World) :
  Calls Tryz.prog 169 #[.slice A 0 cap,.slice none 0 0,.int .i64 left,.slice T 0 tc] w fun e w'=>e = .returned (.int .i64 0)∧Below w.heap.size w w':=by
 go_enter Tryz.func169,Tryz.ntmps169
 go_upto_region 1 with fail
 have hbel:=below_new w (.cells #[.slice A 0 cap] 47)
 generalize w.alloc (.cells #[.slice A 0 cap] 47) = W at hbel ⊢
 have HCL:=Lib.hid (cloneI_any none 0 [] W (fun h=>absurd rfl h) (by simp))
 go_wp2_with fail
 refine Calls.mono HCL.out ?_
 rintro e w1 ⟨v,rfl,hown,hb1⟩
 have hbel1:=bel_adv hbel hb1
 have hv:∃ A' cap',v = .slice A' 0 cap':=by
  rcases hown.2 with ⟨h1,_⟩ | ⟨g,cap',cur,h1,_⟩
  ·
   exact ⟨none,0,h1⟩
  ·
   exact ⟨some ⟨g,0,none⟩,cap',h1⟩
 obtain ⟨A',cap',rfl⟩:=hv
 clear hown HCL hb1 hbel
 go_wp2_with fail
 refine (stable_nil _ _ _ _ _).mono ?_
 rintro e w' ⟨rfl,rfl⟩
 go_wp2
 refine wp_loop_rounds 1 ?_
 rw [rounds_succ]
 go_wp2
 go_ret
 exact ⟨rfl,hbel1⟩
end Go.Proofs.YtlhkojcmcmkmaaaGreat
namespace Go.Proofs.YtlhkojcmcmkmaaaGreat
open Go.RowKit Go.Sort Go.Shelf
set_option maxRecDepth 100000 in
set_option maxHeartbeats 1000000 in
theorem attachP_no (s:ShT) (net deps : Int) (A:Option Addr) (cap:Nat) (l:List OrdT) (w:World) (h:SliceOf encOd 5 w w.heap.size A l) (hs:ShOk s) (hl:OrdsOk l) (n0:0≤net) (n1 : ¬ net≤1000000000) (d0:0≤deps) (d1:deps≤20) :
  Calls Tryz.prog 109 #[.agg #[.int .i64 s.fixed,.int .i64 s.dependent,.int .i64 s.lower,.int .i64 s.share,.int .i64 s.top],.int .i64 net,.int .i64 deps,.slice A l.length cap] w fun e w'=>e = .returned (.tuple #[.slice none 0 0,.int .i64 2])∧Below w.heap.size w w':=by
 have HSH:=Lib.hid (fun w=>shieldP31 s w hs)
 have HOR:Hid (∀ W,Below w.heap.size w W→Calls Tryz.prog 157 #[.slice A l.length cap] W fun e w'=>e = .returned (.bool true)∧Below W.heap.size W w'):=fun W hb=>ordersP31 A cap l W (h.adv hb) hl
 have HPR:=Lib.hid (fun w=>protectedP31_no s net deps w hs n0 n1 d0 d1)
 clear h hs hl
 have hB1:=Blk.new w 43 #[.int .i64 s.fixed,.int .i64 s.dependent,.int .i64 s.lower,.int .i64 s.share,.int .i64 s.top]
 have hbel:=below_new w (.cells #[.int .i64 s.fixed,.int .i64 s.dependent,.int .i64 s.lower,.int .i64 s.share,.int .i64 s.top] 43)
 go_enter Tryz.func109,Tryz.ntmps109
 go_upto_region 1 with fail
 generalize w.alloc (Obj.cells _ _) = W at hB1 hbel ⊢
 have z0:=hB1.cell 0
 have z1:=hB1.cell 1
 have z2:=hB1.cell 2
 have z3:=hB1.cell 3
 have z4:=hB1.cell 4
 simp only [nqg,nqh,nqi] at z0 z1 z2 z3 z4
 go_wp2_with fail
 refine Calls.mono (HSH.out _) ?_
 rintro e w1 ⟨rfl,hb1⟩
 have hB2:=hB1.adv hb1
 have hbel1:=bel_adv hbel hb1
 clear hB1 hb1 z0 z1 z2 z3 z4
 go_wp2_with fail
 refine Calls.mono (HOR.out _ hbel1) ?_
 rintro e w2 ⟨rfl,hb2⟩
 have hB3:=hB2.adv hb2
 have hbel2:=bel_adv hbel1 hb2
 clear hB2 hb2
 have z0:=hB3.cell 0
 have z1:=hB3.cell 1
 have z2:=hB3.cell 2
 have z3:=hB3.cell 3
 have z4:=hB3.cell 4
 simp only [nqg,nqh,nqi] at z0 z1 z2 z3 z4
 go_wp2_with fail
 refine Calls.mono (HPR.out _) ?_
 rintro e w3 ⟨rfl,hb3⟩
 have hbel3:=bel_adv hbel2 hb3
 clear hB3 hb3 z0 z1 z2 z3 z4
 go_wp2
 go_ret2
 exact ⟨rfl,hbel3⟩
def SrvC (w7:World) (g:Nat) (v:Value) (w:World) : Prop:=Below w7.heap.size w7 w∧HdC g v w
theorem SrvC.stable (w7:World) (g:Nat) (v:Value) : Stable (SrvC w7 g v):=fun _ _ h hb=>⟨bel_adv h.1 hb,h.2.adv hb⟩
def ApartV (u v : Value) : Prop:=∀ q,u.ownBlock = some q→v.ownBlock ≠ some q
set_option maxRecDepth 100000 in
set_option maxHeartbeats 4000000 in
theorem attachP (s:ShT) (net deps : Int) (A:Option Addr) (cap m : Nat) (l:List OrdT) (w:World) (hm:l.length = m+1) (h:SliceOf encOd 5 w w.heap.size A l) (hs:ShOk s) (hl:OrdsOk l) (n0:0≤net) (n1:net≤1000000000) (d0:0≤deps) (d1:deps≤20) :
  Calls Tryz.prog 109 #[.agg #[.int .i64 s.fixed,.int .i64 s.dependent,.int .i64 s.lower,.int .i64 s.share,.int .i64 s.top],.int .i64 net,.int .i64 deps,.slice A (m+1) cap] w fun e w'=>∃ v,e = .returned (.tuple #[v,.int .i64 0])∧SlF w.heap.size w' v (attachN s net deps l)∧Below w.heap.size w w':=by
 have HSH:=Lib.hid (fun w=>shieldP31 s w hs)
 have HOR:Hid (∀ W,Below w.heap.size w W→Calls Tryz.prog 157 #[.slice A (m+1) cap] W fun e w'=>e = .returned (.bool true)∧Below W.heap.size W w'):=fun W hb=>by rw [← hm]; exact ordersP31 _ cap l W (h.adv hb) hl
 have HPR:=Lib.hid (fun w=>protectedP31 s net deps w hs n0 n1 d0 d1)
 have HLO:=Lib.hid (fun w=>lowerP31 s net deps w hs n0 n1 d0 d1)
 obtain ⟨_,⟨r0,r1⟩,⟨w0,w1'⟩,_⟩:=prot_bd hs n0 n1 d0 d1
 have hm16:m+1≤16:=by rw [← hm]; exact hl.len
 obtain ⟨ob,oo,hAe,hob,_⟩:=h (by intro e2; rw [e2] at hm; simp at hm)
 subst hAe
 have HM:=Lib.hid hm
 have HOK:=Lib.hid hl
 have HEQ:=Lib.hid (fun ys zs=>attach_eq (s:=s) (net:=net) (deps:=deps) hl ys zs)
 clear hs hm hl
 have hB1:=Blk.new w 43 #[.int .i64 s.fixed,.int .i64 s.dependent,.int .i64 s.lower,.int .i64 s.share,.int .i64 s.top]
 have hbel:=below_new w (.cells #[.int .i64 s.fixed,.int .i64 s.dependent,.int .i64 s.lower,.int .i64 s.share,.int .i64 s.top] 43)
 generalize attachN s net deps l = AT at *
 generalize lowN s net deps = lo at *
 generalize protN s net deps = pr at *
 go_enter Tryz.func109,Tryz.ntmps109
 go_upto_region 1 with fail
 generalize w.alloc (Obj.cells _ _) = W at hB1 hbel ⊢
 have z0:=hB1.cell 0
 have z1:=hB1.cell 1
 have z2:=hB1.cell 2
 have z3:=hB1.cell 3
 have z4:=hB1.cell 4
 simp only [nqg,nqh,nqi] at z0 z1 z2 z3 z4
 go_wp2_with fail
 refine Calls.mono (HSH.out _) ?_
 rintro e w1 ⟨rfl,hb1⟩
 have hB2:=hB1.adv hb1
 have hbel1:=bel_adv hbel hb1
 clear hB1 hb1 z0 z1 z2 z3 z4
 go_wp2_with fail
 refine Calls.mono (HOR.out _ hbel1) ?_
 rintro e w2 ⟨rfl,hb2⟩
 have hB3:=hB2.adv hb2
 have hbel2:=bel_adv hbel1 hb2
 clear hB2 hb2
 have z0:=hB3.cell 0
 have z1:=hB3.cell 1
 have z2:=hB3.cell 2
 have z3:=hB3.cell 3
 have z4:=hB3.cell 4
 simp only [nqg,nqh,nqi] at z0 z1 z2 z3 z4
 go_wp2_with fail
 refine Calls.mono (HPR.out _) ?_
 rintro e w3 ⟨rfl,hb3⟩
 have hB4:=hB3.adv hb3
 have hbel3:=bel_adv hbel2 hb3
 clear hB3 hb3 z0 z1 z2 z3 z4
 have z0:=hB4.cell 0
 have z1:=hB4.cell 1
 have z2:=hB4.cell 2
 have z3:=hB4.cell 3
 have z4:=hB4.cell 4
 simp only [nqg,nqh,nqi] at z0 z1 z2 z3 z4
 go_wp2_with fail
 refine Calls.mono (HLO.out _) ?_
 rintro e w4 ⟨rfl,hb4⟩
 have hbel4:=bel_adv hbel3 hb4
 have hL4:=h.adv hbel4
 clear hB4 hb4 z0 z1 z2 z3 z4 hbel3 hbel2 hbel1 hbel h HOR HSH HPR HLO
 go_wp2
 go_loopw [13,14,56] (fun fv sv kv wr=>∃ (k:Nat) (hk:k≤m+1),kv = .int .i64 (k:Int)∧Own encI 1 3 wr w4.heap.size fv (valsF (eligF l true k hk))∧Own encI 1 3 wr w4.heap.size sv (valsF (eligF l false k hk))∧Hid (ApartV fv sv)∧Below w4.heap.size w4 wr) (fun _ _ kv _=>m+1 - (intOf kv).toNat)
 case atStart=>exact ⟨0,by omega,rfl,Own.nil_ _ _,Own.nil_ _ _,(fun q hq=>nomatch hq),Below.refl _ _⟩
 case round =>
  rename World=>wr
  obtain ⟨k,hk,rfl,hO,hP,hAp,hbr⟩:=hrel
  have hLr:=hL4.adv hbr
  have hbs:=hbr.size
  by_cases hlt:k < m+1
  ·
   have hcc:=ord_cells hLr (i:=k) (by rw [HM.out]; exact hlt)
   have hki:(k:Int) < ((m+1:Nat) : Int):=by omega
   have hok:OrdOk (l.getD k zOd):=HOK.out.ok _ (getD_mem (by rw [HM.out]; exact hlt))
   have c0:=hcc 0 _ rfl
   have c1:=hcc 1 _ rfl
   have c2:=hcc 2 _ rfl
   have c3:=hcc 3 _ rfl
   have c4:=hcc 4 _ rfl
   simp only [Nat.add_zero] at c0
   have HT:∀ p,Hid (eligF l p (k+1) hlt = eligF l p k hk++(if elig p (l.getD k zOd) = true then [⟨k,hlt⟩] else [])):=fun p=>rfl
   have h1l:=eligF_len l true k hk
   have h2l:=eligF_len l false k hk
   have hv1:(valsF (eligF l true k hk)).length≤16:=by simp [valsF]; omega
   have hv2:(valsF (eligF l false k hk)).length≤16:=by simp [valsF]; omega
   have hBo:=Blk.new wr 67 #[.string (l.getD k zOd).id,.int .i64 (l.getD k zOd).rank,.int .i64 (l.getD k zOd).day,.int .i64 (l.getD k zOd).amount,.int .i64 (l.getD k zOd).total]
   have hbn:=below_new wr (.cells #[.string (l.getD k zOd).id,.int .i64 (l.getD k zOd).rank,.int .i64 (l.getD k zOd).day,.int .i64 (l.getD k zOd).amount,.int .i64 (l.getD k zOd).total] 67)
   have hel:∀ p,elig p (l.getD k zOd) = (decide ((l.getD k zOd).rank = 0) == p):=fun p=>rfl
   clear hcc hok hLr h1l h2l
   generalize l.getD k zOd = o at *
   go_upto_region 13 with fail
   generalize wr.alloc (Obj.cells _ _) = W1 at hBo hbn ⊢
   have hO4:=hO.adv hbn
   have hP4:=hP.adv hbn
   have hb4:Below w4.heap.size w4 W1:=bel_adv hbr hbn
   have hs4:=hb4.size
   have z1:=hBo.cell 1
   clear c0 c1 c2 c3 c4 hO hP hbr hbn hbs
   by_cases hr:o.rank = 0
   ·
    have hkb:(o.rank == 0) = true:=by simp [hr]
    have HT1:Hid (valsF (eligF l true (k+1) hlt) = valsF (eligF l true k hk)++[(k:Int)]):=by
     rw [Hid,(HT true).out,if_pos (by rw [hel]; simp [hr]),valsF_snoc]
    have HT2:Hid (valsF (eligF l false (k+1) hlt) = valsF (eligF l false k hk)):=by
     rw [Hid,(HT false).out,if_neg (by rw [hel]; simp [hr]),List.append_nil]
    clear hr hel HT
    go_wp2_with (at_builtin; (refine wpList_append_one_at _ _ 34 (k:Int) _ 8 _ infoInt Tryz.underlying34 hO4 encI_len (by omega) rfl (fun u hu=>by simp [encI] at hu; subst hu; rfl) (by omega) (by omega) (by omega) (by rfl) (by rfl) (by rfl) (by rfl) (by simp) (by rfl) ?_); intro v5 w5 hN5 hg5 hvo)
    have hb5:Below w4.heap.size w4 w5:=hb4.trans (only_below hg5 hb4.size (fun q hq=>(hO4.block_lt hq).1))
    have hoth5:=hP4.keptNe hg5 (fun q hq e=>hAp.out q e hq)
    have hap5:ApartV v5 u14:=by
     intro q hq hq2
     rcases hvo with e | e
     ·
      rw [e] at hq; exact hAp.out q hq hq2
     ·
      rw [e] at hq
      injection hq with e2
      have:=(hP4.block_lt hq2).2
      omega
    go_roundw
    case rel =>
     have hfin:∃ (k':Nat) (hk':k'≤m+1),Value.int .i64 ((k:Int)+1) = .int .i64 (k':Int)∧Own encI 1 3 w5 w4.heap.size v5 (valsF (eligF l true k' hk'))∧Own encI 1 3 w5 w4.heap.size u14 (valsF (eligF l false k' hk'))∧Hid (ApartV v5 u14)∧Below w4.heap.size w4 w5:=⟨k+1,hlt,by go_num,by rw [HT1.out]; exact hN5,by rw [HT2.out]; exact hoth5,hap5,hb5⟩
     first | exact hfin | ((repeat apply Exists.intro); exact ⟨hfin,rfl⟩)
    case measure=>simp [intOf]; omega
   ·
    have hkb:(o.rank == 0) = false:=by rw [beq_eq_false_iff_ne]; exact hr
    have HT1:Hid (valsF (eligF l true (k+1) hlt) = valsF (eligF l true k hk)):=by
     rw [Hid,(HT true).out,if_neg (by rw [hel]; simp [hr]),List.append_nil]
    have HT2:Hid (valsF (eligF l false (k+1) hlt) = valsF (eligF l false k hk)++[(k:Int)]):=by
     rw [Hid,(HT false).out,if_pos (by rw [hel]; simp [hr]),valsF_snoc]
    clear hr hel HT
    go_wp2_with (at_builtin; (refine wpList_append_one_at _ _ 34 (k:Int) _ 8 _ infoInt Tryz.underlying34 hP4 encI_len (by omega) rfl (fun u hu=>by simp [encI] at hu; subst hu; rfl) (by omega) (by omega) (by omega) (by rfl) (by rfl) (by rfl) (by rfl) (by simp) (by rfl) ?_); intro v5 w5 hN5 hg5 hvo)
    have hb5:Below w4.heap.size w4 w5:=hb4.trans (only_below hg5 hb4.size (fun q hq=>(hP4.block_lt hq).1))
    have hoth5:=hO4.keptNe hg5 (fun q hq e=>hAp.out q hq e)
    have hap5:ApartV u13 v5:=by
     intro q hq hq2
     rcases hvo with e | e
     ·
      rw [e] at hq2; exact hAp.out q hq hq2
     ·
      rw [e] at hq2
      injection hq2 with e2
      have:=(hO4.block_lt hq).2
      omega
    go_roundw
    case rel =>
     have hfin:∃ (k':Nat) (hk':k'≤m+1),Value.int .i64 ((k:Int)+1) = .int .i64 (k':Int)∧Own encI 1 3 w5 w4.heap.size u13 (valsF (eligF l true k' hk'))∧Own encI 1 3 w5 w4.heap.size v5 (valsF (eligF l false k' hk'))∧Hid (ApartV u13 v5)∧Below w4.heap.size w4 w5:=⟨k+1,hlt,by go_num,by rw [HT1.out]; exact hoth5,by rw [HT2.out]; exact hN5,hap5,hb5⟩
     first | exact hfin | ((repeat apply Exists.intro); exact ⟨hfin,rfl⟩)
    case measure=>simp [intOf]; omega
  ·
   obtain rfl:k = m+1:=by omega
   obtain ⟨A1,c1,rfl,hS1,_,_⟩:=hO.form encI_len
   obtain ⟨A2,c2,rfl,hS2,_,_⟩:=hP.form encI_len
   have hv1:(valsF (eligF l true (m+1) hk)).length = (eligF l true (m+1) hk).length:=by simp [valsF]
   have hv2:(valsF (eligF l false (m+1) hk)).length = (eligF l false (m+1) hk).length:=by simp [valsF]
   rw [hv1,hv2]
   have hb1:∀ a,A1 = some a→w4.heap.size≤a.block∧a.block < wr.heap.size:=fun a e=>hO.block_lt (g:=a.block) (by rw [e]; rfl)
   have hb2:∀ a,A2 = some a→w4.heap.size≤a.block∧a.block < wr.heap.size:=fun a e=>hP.block_lt (g:=a.block) (by rw [e]; rfl)
   have hmk:=make_intsE (m+1) ((m:Int)+1) (by omega) (by omega)
   clear hO hP hAp hv1 hv2
   go_upto_region 18 with fail
   have hR:=RowI.made wr (m+1)
   have hbw:=below_new wr (.cells (madeCells #[.int .i64 0] (m+1)) 3)
   generalize wr.alloc (Obj.cells _ _) = W5 at hR hbw ⊢
   have hS1':=hS1.adv hbw
   have hS2':=hS2.adv hbw
   have hb45:=bel_adv hbr hbw
   have hL5:=hL4.adv hb45
   have hs5:=hb45.size
   have hs4:=hbel4.size
   have hlt5:=hR.lt
   have hrs:=hbr.size
   have hel1:=eligF_len l true (m+1) hk
   have hel2:=eligF_len l false (m+1) hk
   have HR1:=Lib.hid (serveP (some ⟨ob,oo,none⟩) A1 cap c1 m l (eligF l true (m+1) hk) (net - lo) wr.heap.size (List.replicate (m+1) 0) W5 HM.out hL5 HOK.out hS1' (eligF_pw l true _ hk) hel1 hR (by simp) (by omega) (by omega) (fun a ha=>by injection ha with ha; subst ha; show ob ≠ _; omega))
   clear hS1' hS1 hR hmk hL4 hbw hbr
   go_wp2_with fail
   refine Calls.mono HR1.out ?_
   rintro e w6 ⟨rfl,ys,hp,hpw,hT6,hg6⟩
   obtain ⟨hrest1,hyl⟩:=restF_of HM.out HOK.out.ok hp hpw
   have hle:=srvP_le HOK.out.ok (m+1) (ys.map (·.val)) (net - lo) (List.replicate (m+1) 0) (by omega) (fun x hx=>by rw [(List.mem_replicate.1 hx).2]; exact Int.le_refl 0)
   rw [sumI_zeros] at hle
   obtain ⟨T1,hT1⟩ : ∃ T1,T1 = srvP l (m+1) (ys.map (·.val)) (net - lo) (List.replicate (m+1) 0):=⟨_,rfl⟩
   rw [← hT1] at hle hT6
   obtain ⟨hle,hnn⟩:=hle
   have HT1:Hid (T1 = srvP l l.length (ys.map (·.val)) (net - lo) (List.replicate l.length 0)):=by rw [Hid,HM.out]; exact hT1
   have hTl:T1.length = m+1:=by rw [hT1,srvP_len,List.length_replicate]
   have hb46:Below w4.heap.size w4 w6:=bel_only hb45 hg6 (fun g e=>by injection e; omega)
   have hL6:=hL5.advG hg6 (fun a ha=>by injection ha with ha; subst ha; show ob ≠ _; omega)
   have hS6:=hS2'.advG hg6 (fun a ha=>by have:=(hb2 a ha).2; omega)
   have HQ:=Lib.hid (fun zs hz hzl=>HEQ.out (ys.map (·.val)) zs hrest1 hz T1 HT1.out hyl hzl)
   have hgt6:=hT6.lt
   have hs6:=hb46.size
   have hsum0:=sumI_nn hnn
   have HNN:=Lib.hid hnn
   have htake:Hid (∀ k,0≤sumI (T1.take k)∧sumI (T1.take k)≤sumI T1):=sumI_take_le hnn
   have hget:Hid (∀ k,k < m+1→sumI (T1.take (k+1)) = sumI (T1.take k)+T1.getD k 0):=fun k hk=>by
    have hk':k < T1.length:=by omega
    rw [List.take_succ_eq_append_getElem hk',sumI_append,List.getD_eq_getElem?_getD,List.getElem?_eq_getElem hk']
    simp [sumI]
   have hbd:Hid (∀ k,0≤T1.getD k 0∧T1.getD k 0≤sumI T1):=fun k=>⟨by
    rw [List.getD_eq_getElem?_getD]
    by_cases h:k < T1.length
    ·
     rw [List.getElem?_eq_getElem h]; exact hnn _ (List.getElem_mem h)
    ·
     rw [List.getElem?_eq_none (by omega)]; exact Int.le_refl 0,getD_le_sum hnn k⟩
   clear HR1 hp hpw hrest1 hyl hT1 HT1 hb45 hL5 hS2' hS2 hg6 hb1 hnn hel1
   have HT6:=Lib.hid hT6
   go_wp2
   go_loopw [19,91] (fun rv kv wz=>∃ k:Nat,k≤m+1∧kv = .int .i64 (k:Int)∧rv = .int .i64 (net - pr - sumI (T1.take k))∧Hid (wz = w6)) (fun _ kv _=>m+1 - (intOf kv).toNat)
   case atStart=>exact ⟨0,by omega,rfl,by simp [sumI],rfl⟩
   case round =>
    rename World=>wz
    obtain ⟨k,hk2,rfl,rfl,hwz⟩:=hrel
    have hwz':=hwz.out
    subst hwz'
    by_cases hlt:k < m+1
    ·
     have zc:=HT6.out.cell (i:=k) (by omega)
     have hki:(k:Int) < ((m+1:Nat) : Int):=by omega
     have e0:=hget.out k hlt
     have e1:=htake.out k
     have e2:=hbd.out k
     have HE:=Lib.hid e0
     clear e0 hT6
     generalize sumI (T1.take k) = q at *
     generalize T1.getD k 0 = t at *
     go_wp2
     go_roundw
     case rel =>
      exact ⟨k+1,hlt,by go_num,by rw [HE.out,Int.sub_sub (net - pr)],by first | exact rfl | exact trivial⟩
     case measure=>simp [intOf]; omega
    ·
     obtain rfl:k = m+1:=by omega
     have hta:T1.take (m+1) = T1:=List.take_of_length_le (by omega)
     rw [hta]
     clear hta hget htake hbd
     have HR2:=Lib.hid (serveP (some ⟨ob,oo,none⟩) A2 cap c2 m l (eligF l false (m+1) hk) (max (net - pr - sumI T1) 0) wr.heap.size T1 wz HM.out hL6 HOK.out hS6 (eligF_pw l false _ hk) hel2 HT6.out hTl (by omega) (by omega) (fun a ha=>by injection ha with ha; subst ha; show ob ≠ _; omega))
     have HES:=Lib.hid (fun (zs:List (Fin (m+1))) hp hw=>restF_of (priv:=false) HM.out HOK.out.ok (ys:=zs) hp hw)
     clear hT6 hS6
     generalize eligF l false (m+1) hk = EL at *
     generalize sumI T1 = st at *
     go_wp2_with fail
     refine Calls.mono HR2.out ?_
     rintro e w7 ⟨rfl,zs,h1,h2,hT7,hg7⟩
     obtain ⟨hrz,hzl⟩:=HES.out zs h1 h2
     obtain ⟨hat,_,htk,_⟩:=HQ.out _ hrz hzl
     rw [HM.out] at hat htk
     have hT2l:(srvP l (m+1) (zs.map (·.val)) (max (net - pr - st) 0) T1).length = m+1:=by rw [srvP_len]; exact hTl
     generalize srvP l (m+1) (zs.map (·.val)) (max (net - pr - st) 0) T1 = T2 at *
     have hL7:=hL6.advG hg7 (fun a ha=>by injection ha with ha; subst ha; show ob ≠ _; omega)
     have hb47:Below w4.heap.size w4 w7:=bel_only hb46 hg7 (fun g e=>by injection e; omega)
     have HFB:=Lib.hid (bel_adv hbel4 (hb47))
     have HAT:=Lib.hid hat
     have hs7:=hg7.size
     clear HR2 HES h1 h2 hrz hzl hat htk hg7 hb46 hL6 HQ HT6 HNN
     go_wp2
     go_loopw [23,110] (fun v kv wy=>∃ k:Nat,k≤m+1∧kv = .int .i64 (k:Int)∧Own encE 2 69 wy w7.heap.size v (elsP (l.take k) (T2.take k))∧Below w7.heap.size w7 wy) (fun _ kv _=>m+1 - (intOf kv).toNat)
     case atStart=>exact ⟨0,by omega,rfl,Own.nil_ _ _,Below.refl _ _⟩
     case round =>
      rename World=>wy
      obtain ⟨k,hk3,rfl,hO,hby⟩:=hrel
      by_cases hlt:k < m+1
      ·
       have hkl:k < l.length:=by rw [HM.out]; exact hlt
       have hkT:k < T2.length:=by omega
       have HSN:=Lib.hid (elsP_snoc l T2 k hkl hkT)
       have hLy:=hL7.adv hby
       have hTy:=hT7.adv hby
       have hcc:=ord_cells hLy hkl
       have hgd:l.getD k zOd = l[k]:=by rw [List.getD_eq_getElem?_getD,List.getElem?_eq_getElem hkl]; rfl
       rw [hgd] at hcc
       have c0:=hcc 0 _ rfl
       have c1:=hcc 1 _ rfl
       have c2':=hcc 2 _ rfl
       have c3:=hcc 3 _ rfl
       have c4:=hcc 4 _ rfl
       simp only [Nat.add_zero] at c0
       have zc:=hTy.cell (i:=k) hkT
       have zc7:=hT7.cell (i:=k) hkT
       have htd:T2.getD k 0 = T2[k]:=by rw [List.getD_eq_getElem?_getD,List.getElem?_eq_getElem hkT]; rfl
       rw [htd] at zc zc7
       have hki:(k:Int) < ((m+1:Nat) : Int):=by omega
       have hln:=elsP_len (l.take k) (T2.take k)
       rw [List.length_take] at hln
       have hys:=hby.size
       have hBo:=Blk.new wy 67 #[.string l[k].id,.int .i64 l[k].rank,.int .i64 l[k].day,.int .i64 l[k].amount,.int .i64 l[k].total]
       have hbn:=below_new wy (.cells #[.string l[k].id,.int .i64 l[k].rank,.int .i64 l[k].day,.int .i64 l[k].amount,.int .i64 l[k].total] 67)
       clear hcc hgd htd hLy hTy
       generalize l[k] = o at *
       generalize T2[k] = t at *
       go_upto_region 34 with fail
       generalize wy.alloc (Obj.cells _ _) = W1 at hBo hbn ⊢
       have hO4:=hO.adv hbn
       have hb4:Below w7.heap.size w7 W1:=bel_adv hby hbn
       have hs4':=hb4.size
       have z0:=hBo.cell 0
       have zt:=(hbn.cell (p:=⟨wr.heap.size,k,none⟩) (by show wr.heap.size < _; omega)).trans zc
       have hvne:=fun q hq=>(hO.block_lt (g:=q) hq).2
       clear c0 c1 c2' c3 c4 zc hO hby hbn
       by_cases h0:0 < t
       ·
        rw [if_pos h0] at HSN
        go_upto_region 35 with fail
        have hr7:=fun q hq=>(hO4.block_lt (g:=q) hq).1
        have hol:=hBo.lt
        have HZ0:=Lib.hid z0
        have HZ7:=Lib.hid zc7
        have HHK:=Lib.hid hki
        clear z0 zt
        refine M3.wp_region_sel (C:=SrvC w7 wy.heap.size (.string o.id)) (SrvC.stable _ _ _) ⟨hb4,HZ0.out,hol⟩ (aE:=?aE) [0,1,2,3,4,5,6,7] 3 (by kernel_rfl) (by kernel_rfl) rfl (by kernel_rfl) (by kernel_rfl) (by rfl) ?H ?M
        case H =>
         intro F hF inst
         simp only [M3.opsAt,List.getElem?_toArray,List.getElem?_cons_zero,List.getElem?_cons_succ]
         have q0:∀ p:BwC (SrvC w7 wy.heap.size (.string o.id)) F,p.w'.cell? ⟨wy.heap.size,0,none⟩ = some (.string o.id):=fun p=>p.h.2.c
         have q1:∀ p:BwC (SrvC w7 wy.heap.size (.string o.id)) F,p.w'.cell? ⟨wr.heap.size,k,none⟩ = some (.int .i64 t):=fun p=>(p.h.1.cell (p:=⟨wr.heap.size,k,none⟩) (by show wr.heap.size < _; omega)).trans (HZ7.out)
         repeat (first | go_big_quiet_step (fail))
         refine wpQuiet_nil ?_
         rfl
        case M =>
         intro Q0 hQ0
         refine M3.mix_step [8] (by kernel_rfl) (by simp) ?_
         intro wa hCa hba i hi
         simp only [nqj,nqk,or_false] at hi
         subst hi
         have hWn:=below_new wa (.cells #[.string o.id,.int .i64 t] 69)
         refine M3.mix_val (.slice (some ⟨wa.heap.size,0,none⟩) 1 1) (wa.alloc (.cells #[.string o.id,.int .i64 t] 69)) rfl rfl (by go_simp) ⟨SrvC.stable _ _ _ _ _ hCa hWn,?_⟩
         simp only [Act.put,nqa,nqb,nqc,nqd,nqe,nqf]
         have hE2:=SliceOf.new encE_len wa [⟨o.id,t⟩] #[.string o.id,.int .i64 t] 69 rfl
         rw [← World.size_alloc wa (.cells #[.string o.id,.int .i64 t] 69)] at hE2
         have hX2:=(hO4.adv hba).adv hWn
         have hC2:=SrvC.stable _ _ _ _ _ hCa hWn
         refine M3.mix_step [9] (by kernel_rfl) (by simp) ?_
         intro wb hCb hbb i hi
         simp only [nqj,nqk,or_false] at hi
         subst hi
         have hX3:=hX2.adv hbb
         have hE3:=hE2.adv hbb
         have hB3s:=hCb.1.size
         refine M3.mix_append (.tmp 120) (.tmp 128) 51 1 24 _ infoE Tryz.underlying51 hX3 hE3 encE_len (by omega) rfl encE_one (by simp only [List.length_cons,List.length_nil]; omega) (by omega) (by omega) rfl rfl rfl rfl rfl rfl ?_
         intro v5 w5' hown5 hg5
         have hb6:SrvC w7 wy.heap.size (.string o.id) w5':=⟨bel_only hCb.1 hg5 (fun q hq=>(hX3.block_lt hq).1),hCb.2.grown hg5 (fun e=>by have:=hvne _ e.symm; omega)⟩
         refine ⟨hb6,?_⟩
         simp only [Act.put,nqa,nqb,nqc,nqd,nqe,nqf]
         refine M3.mix_step [10] (by kernel_rfl) (by simp) ?_
         intro w6' hC6 hb6' i hi
         simp only [nqj,nqk,or_false] at hi
         subst hi
         refine M3.mix_val v5 w6' rfl rfl rfl ⟨hC6,?_⟩
         simp only [Act.put,nqa,nqb,nqc,nqd,nqe,nqf]
         refine M3.mix_end (by kernel_rfl) ?_
         intro w8 hC8 hb8
         refine hQ0 _ _ ?_
         have HO8:=Lib.hid ((hown5.adv hb6').adv hb8)
         have HB8:=Lib.hid hC8.1
         clear hown5 hX3 hE3 hX2 hE2 hg5
         go_wp2_with fail
         go_roundw
         case rel =>
          have hfin:∃ k':Nat,k'≤m+1∧Value.int .i64 ((k:Int)+1) = .int .i64 (k':Int)∧Own encE 2 69 w8 w7.heap.size v5 (elsP (l.take k') (T2.take k'))∧Below w7.heap.size w7 w8:=⟨k+1,hlt,by go_num,by rw [HSN.out]; exact HO8.out,HB8.out⟩
          first | exact hfin | ((repeat apply Exists.intro); exact ⟨hfin,rfl⟩)
         case measure=>simp [intOf]; omega
       ·
        rw [if_neg h0,List.append_nil] at HSN
        go_wp2
        go_roundw
        case rel =>
         have hfin:∃ k':Nat,k'≤m+1∧Value.int .i64 ((k:Int)+1) = .int .i64 (k':Int)∧Own encE 2 69 W1 w7.heap.size _ (elsP (l.take k') (T2.take k'))∧Below w7.heap.size w7 W1:=⟨k+1,hlt,by go_num,by rw [HSN.out]; exact hO4,hb4⟩
         first | exact hfin | ((repeat apply Exists.intro); exact ⟨hfin,rfl⟩)
        case measure=>simp [intOf]; omega
      ·
       obtain rfl:k = m+1:=by omega
       have e1:l.take (m+1) = l:=List.take_of_length_le (by rw [HM.out]; exact Nat.le_refl _)
       have e2:T2.take (m+1) = T2:=List.take_of_length_le (by omega)
       rw [e1,e2,← HAT.out] at hO
       have HO:=Lib.hid (hO.slF HFB.out.size)
       have HB:=Lib.hid (bel_adv HFB.out hby)
       clear e1 e2 hO hby hT7
       go_wp2
       go_ret2
       exact ⟨_,rfl,HO.out,HB.out⟩
end Go.Proofs.YtlhkojcmcmkmaaaGreat
namespace Go.Proofs.YtlhkojcmcmkmaaaGreat
open Go.RowKit Go.Sort Go.Shelf
set_option maxRecDepth 100000 in
set_option maxHeartbeats 1000000 in
theorem attachP0 (s:ShT) (net deps : Int) (A:Option Addr) (cap:Nat) (w:World) (hs:ShOk s) (hl:OrdsOk []) (n0:0≤net) (n1:net≤1000000000) (d0:0≤deps) (d1:deps≤20) :
  Calls Tryz.prog 109 #[.agg #[.int .i64 s.fixed,.int .i64 s.dependent,.int .i64 s.lower,.int .i64 s.share,.int .i64 s.top],.int .i64 net,.int .i64 deps,.slice A 0 cap] w fun e w'=>e = .returned (.tuple #[.slice none 0 0,.int .i64 0])∧Below w.heap.size w w':=by
 have HSH:=Lib.hid (fun w=>shieldP31 s w hs)
 have HOR:Hid (∀ W,Calls Tryz.prog 157 #[.slice A 0 cap] W fun e w'=>e = .returned (.bool true)∧Below W.heap.size W w'):=fun W=>ordersP31 A cap [] W (fun h=>absurd rfl h) hl
 have HPR:=Lib.hid (fun w=>protectedP31 s net deps w hs n0 n1 d0 d1)
 have HLO:=Lib.hid (fun w=>lowerP31 s net deps w hs n0 n1 d0 d1)
 obtain ⟨_,⟨r0,r1⟩,⟨w0,w1'⟩,_⟩:=prot_bd hs n0 n1 d0 d1
 clear hs hl
 have hB1:=Blk.new w 43 #[.int .i64 s.fixed,.int .i64 s.dependent,.int .i64 s.lower,.int .i64 s.share,.int .i64 s.top]
 have hbel:=below_new w (.cells #[.int .i64 s.fixed,.int .i64 s.dependent,.int .i64 s.lower,.int .i64 s.share,.int .i64 s.top] 43)
 generalize lowN s net deps = lo at *
 generalize protN s net deps = pr at *
 have hmk:=make_intsE 0 0 rfl (by omega)
 go_enter Tryz.func109,Tryz.ntmps109
 go_upto_region 1 with fail
 generalize w.alloc (Obj.cells _ _) = W at hB1 hbel ⊢
 have z0:=hB1.cell 0
 have z1:=hB1.cell 1
 have z2:=hB1.cell 2
 have z3:=hB1.cell 3
 have z4:=hB1.cell 4
 simp only [nqg,nqh,nqi] at z0 z1 z2 z3 z4
 go_wp2_with fail
 refine Calls.mono (HSH.out _) ?_
 rintro e w1 ⟨rfl,hb1⟩
 have hB2:=hB1.adv hb1
 have hbel1:=bel_adv hbel hb1
 clear hB1 hb1 z0 z1 z2 z3 z4
 go_wp2_with fail
 refine Calls.mono (HOR.out _) ?_
 rintro e w2 ⟨rfl,hb2⟩
 have hB3:=hB2.adv hb2
 have hbel2:=bel_adv hbel1 hb2
 clear hB2 hb2
 have z0:=hB3.cell 0
 have z1:=hB3.cell 1
 have z2:=hB3.cell 2
 have z3:=hB3.cell 3
 have z4:=hB3.cell 4
 simp only [nqg,nqh,nqi] at z0 z1 z2 z3 z4
 go_wp2_with fail
 refine Calls.mono (HPR.out _) ?_
 rintro e w3 ⟨rfl,hb3⟩
 have hB4:=hB3.adv hb3
 have hbel3:=bel_adv hbel2 hb3
 clear hB3 hb3 z0 z1 z2 z3 z4
 have z0:=hB4.cell 0
 have z1:=hB4.cell 1
 have z2:=hB4.cell 2
 have z3:=hB4.cell 3
 have z4:=hB4.cell 4
 simp only [nqg,nqh,nqi] at z0 z1 z2 z3 z4
 go_wp2_with fail
 refine Calls.mono (HLO.out _) ?_
 rintro e w4 ⟨rfl,hb4⟩
 have hbel4:=bel_adv hbel3 hb4
 clear hB4 hb4 z0 z1 z2 z3 z4 hbel3 hbel2 hbel1 hbel HOR HSH HPR HLO
 go_wp2
 refine wp_loop_rounds 1 ?_
 rw [rounds_succ]
 go_upto_region 18 with fail
 have hbw:=below_new w4 (.cells (madeCells #[.int .i64 0] 0) 3)
 generalize w4.alloc (Obj.cells _ _) = W5 at hbw ⊢
 have hbel5:=bel_adv hbel4 hbw
 go_wp2_with fail
 refine Calls.mono (serveP0 _ _ _ _ _ _) ?_
 rintro e w6 ⟨rfl,hb6⟩
 have hbel6:=bel_adv hbel5 hb6
 go_wp2
 refine wp_loop_rounds 1 ?_
 rw [rounds_succ]
 go_wp2_with fail
 refine Calls.mono (serveP0 _ _ _ _ _ _) ?_
 rintro e w7 ⟨rfl,hb7⟩
 have hbel7:=bel_adv hbel6 hb7
 go_wp2
 refine wp_loop_rounds 1 ?_
 rw [rounds_succ]
 go_wp2
 go_ret2
 exact ⟨rfl,hbel7⟩
theorem attachN_nil (s:ShT) (net deps : Int) : attachN s net deps [] = []:=rfl
end Go.Proofs.YtlhkojcmcmkmaaaGreat
namespace Go.Proofs.YtlhkojcmcmkmaaaGreat
open Go.RowKit Go.Sort Go.Shelf
def attE (net:Int) : Int:=if net≤1000000000 then 0 else 2
def attR (s:ShT) (net deps : Int) (l:List OrdT) : List Elem:=if net≤1000000000 then attachN s net deps l else []
theorem attach_any (s:ShT) (net deps : Int) (A:Option Addr) (cap:Nat) (l:List OrdT) (w:World) (h:SliceOf encOd 5 w w.heap.size A l) (hs:ShOk s) (hl:OrdsOk l) (n0:0≤net) (d0:0≤deps) (d1:deps≤20) :
  Calls Tryz.prog 109 #[.agg #[.int .i64 s.fixed,.int .i64 s.dependent,.int .i64 s.lower,.int .i64 s.share,.int .i64 s.top],.int .i64 net,.int .i64 deps,.slice A l.length cap] w fun e w'=>∃ x:Option Addr × Nat,e = .returned (.tuple #[.slice x.1 (attR s net deps l).length x.2,.int .i64 (attE net)])∧Below w.heap.size w w'∧FrE (attR s net deps l) w.heap.size x w':=by
 by_cases hn:net≤1000000000
 ·
  rw [attE,attR,if_pos hn,if_pos hn]
  rcases l with _ | ⟨o,r⟩
  ·
   rw [attachN_nil]
   refine (attachP0 s net deps A cap w hs hl n0 hn d0 d1).mono ?_
   rintro e w' ⟨rfl,hb⟩
   exact ⟨(none,0),rfl,hb,SliceOf.nil_,by simp,by simp,fun a ha=>by cases ha⟩
  ·
   refine (attachP s net deps A cap r.length (o :: r) w rfl h hs hl n0 hn d0 d1).mono ?_
   rintro e w' ⟨v,rfl,⟨A',c',rfl,h1,h2,h3,h4⟩,hb⟩
   exact ⟨(A',c'),rfl,hb,h1,h2,h3,h4⟩
 ·
  rw [attE,attR,if_neg hn,if_neg hn]
  refine (attachP_no s net deps A cap l w h hs hl n0 hn d0 d1).mono ?_
  rintro e w' ⟨rfl,hb⟩
  exact ⟨(none,0),rfl,hb,SliceOf.nil_,by simp,by simp,fun a ha=>by cases ha⟩
def AttK (w0:World) (g:Nat) (c:CalF) (s:CalS) (ls:List LineT) (m:List Elem) (w w' : World) : Prop :=
 ∃ v',CalI w0 g c { s with lv:=v',left:=s.left - sumE m } (ls++linesK 7 m) w'∧Mv g s.lv w v' w'
set_option maxRecDepth 100000 in
set_option maxHeartbeats 4000000 in
theorem attachMP32_kept {w0:World} {g:Nat} {c:CalF} {s:CalS} {ls:List LineT} {w:World} (h:CalI w0 g c s ls w) (hk:SliceOf encE 2 w0 w0.heap.size c.K c.kept) (hf:c.first = false) (hls:ls.length≤1000) (hl:c.kept.length≤128) (hx : ∀ x ∈ c.kept,0≤x.amount∧x.amount≤1000000000000)
  (l0 : -1000000000000≤s.left) (l1:s.left≤1000000000000) :
  Calls Tryz.prog 56 #[.pointer (some ⟨g,0,none⟩)] w (StepPost w0 0 (AttK w0 g c s ls c.kept w)):=by
 have z25:w.cell? ⟨g,25,none⟩ = some (.slice c.K c.kept.length c.kc):=h.blk.cell 25
 have z26:w.cell? ⟨g,26,none⟩ = some (.bool false):=by have:w.cell? ⟨g,26,none⟩ = some (.bool c.first):=h.blk.cell 26; rw [this,hf]
 have hL:Lst encE 2 w g s.lv c.K c.kept:=Lst.old (hk.below h.bel) h.bel.size h.hg (fun q hq=>(h.row q hq).1)
 go_enter Tryz.func56,Tryz.ntmps56
 go_wp2_with fail
 refine (bearP32 h 7 c.K c.kc c.kept hL hls hl (by constructor <;> omega) hx).mono ?_
 rintro e w4 ⟨rfl,v4,hI4,hm4⟩
 go_wp2
 go_ret
 exact ⟨rfl,hI4.bel,fun _=>⟨v4,hI4,hm4⟩⟩
set_option maxRecDepth 100000 in
set_option maxHeartbeats 4000000 in
theorem attachMP32_first {w0:World} {g:Nat} {c:CalF} {s:CalS} {ls:List LineT} {w:World} (h:CalI w0 g c s ls w) (hp:c.p.In w0) (hf:c.first = true) (hls:ls.length≤1000) (hsh:ShOk c.r.sh) (hor:OrdsOk c.p.os) (d0:0≤c.p.deps) (d1:c.p.deps≤20)
  (l0 : -1000000000000≤s.left) (l1:s.left≤1000000000000) (c0 : -1000000000≤s.b.c) (c1:s.b.c≤1000000000) (a0 : -1000000000≤s.b.a) (a1:s.b.a≤1000000000) (net:Int) (hnet:net = max (s.left - max (s.b.c - s.b.a) 0) 0)
  (m:List Elem) (hm:m = attR c.r.sh net c.p.deps c.p.os) (er:Int) (her:er = attE net) (hx:er = 0→m.length≤128∧∀ x ∈ m,0≤x.amount∧x.amount≤1000000000000) :
  Calls Tryz.prog 56 #[.pointer (some ⟨g,0,none⟩)] w (StepPost w0 er (AttK w0 g c s ls m w)):=by
 have HX:=Lib.hid hx
 have HAT:Hid (∀ W,Below w0.heap.size w0 W→Calls Tryz.prog 109 #[.agg #[.int .i64 c.r.sh.fixed,.int .i64 c.r.sh.dependent,.int .i64 c.r.sh.lower,.int .i64 c.r.sh.share,.int .i64 c.r.sh.top],.int .i64 net,.int .i64 c.p.deps,.slice c.p.Ao c.p.os.length c.p.co] W fun e w'=>∃ x:Option Addr × Nat,e = .returned (.tuple #[.slice x.1 m.length x.2,.int .i64 er])∧Below W.heap.size W w'∧FrE m W.heap.size x w'):=fun W hb=>by
  rw [hm,her]
  exact attach_any c.r.sh net c.p.deps c.p.Ao c.p.co c.p.os W (hp.adv hb).os hsh hor (by omega) d0 d1
 have HI:=Lib.hid h
 have z25:w.cell? ⟨g,25,none⟩ = some (.slice c.K c.kept.length c.kc):=h.blk.cell 25
 have z26:w.cell? ⟨g,26,none⟩ = some (.bool true):=by have:w.cell? ⟨g,26,none⟩ = some (.bool c.first):=h.blk.cell 26; rw [this,hf]
 have zz28:w.cell? ⟨g,28,none⟩ = some (.int .i64 s.b.c):=h.blk.cell 28
 have zz31:w.cell? ⟨g,31,none⟩ = some (.int .i64 s.b.a):=h.blk.cell 31
 have hlt:=h.lt
 have e28:=Bw.cell (w:=w) (a:=⟨g,28,none⟩) (by exact hlt) zz28
 have e31:=Bw.cell (w:=w) (a:=⟨g,31,none⟩) (by exact hlt) zz31
 have HNET:=Lib.hid hnet
 clear h hp hf hsh hor hm her hx hnet
 go_enter Tryz.func56,Tryz.ntmps56
 go_upto_region 3 with fail
 refine wp_region_below (by kernel_rfl) (by kernel_rfl) ?_
 repeat (first | go_big_quiet_step (fail) | quiet_step (fail))
 refine wpQuiet_nil ?_
 intro W9 hw'
 obtain ⟨⟨W9,hW2⟩,hw''⟩:=hw'
 subst hw''
 have hI:=HI.out.adv hW2
 have hm1:=Mv.bel (g:=g) (v:=s.lv) hW2
 clear z25 z26 zz28 zz31 e28 e31 HI hW2
 obtain ⟨fr,hfr⟩ : ∃ fr,fr = max (s.b.c - s.b.a) 0:=⟨_,rfl⟩
 have f0:0≤fr:=by omega
 have f1:fr≤2000000000:=by omega
 rw [← hfr] at HNET ⊢
 clear hfr
 have hl8:=hI.lt
 have y10:W9.cell? ⟨g,10,none⟩ = some (.int .i64 c.r.sh.fixed):=hI.blk.cell 10
 have y11:W9.cell? ⟨g,11,none⟩ = some (.int .i64 c.r.sh.dependent):=hI.blk.cell 11
 have y12:W9.cell? ⟨g,12,none⟩ = some (.int .i64 c.r.sh.lower):=hI.blk.cell 12
 have y13:W9.cell? ⟨g,13,none⟩ = some (.int .i64 c.r.sh.share):=hI.blk.cell 13
 have y14:W9.cell? ⟨g,14,none⟩ = some (.int .i64 c.r.sh.top):=hI.blk.cell 14
 have y16:W9.cell? ⟨g,16,none⟩ = some (.int .i64 c.p.deps):=hI.blk.cell 16
 have y18:W9.cell? ⟨g,18,none⟩ = some (.slice c.p.Ao c.p.os.length c.p.co):=hI.blk.cell 18
 have y33:W9.cell? ⟨g,33,none⟩ = some (.int .i64 s.left):=hI.blk.cell 33
 have HA2:Hid (∀ W,Below W9.heap.size W9 W→Calls Tryz.prog 109 #[.agg #[.int .i64 c.r.sh.fixed,.int .i64 c.r.sh.dependent,.int .i64 c.r.sh.lower,.int .i64 c.r.sh.share,.int .i64 c.r.sh.top],.int .i64 (max (s.left - fr) 0),.int .i64 c.p.deps,.slice c.p.Ao c.p.os.length c.p.co] W fun e w'=>∃ x:Option Addr × Nat,e = .returned (.tuple #[.slice x.1 m.length x.2,.int .i64 er])∧Below W.heap.size W w'∧FrE m W.heap.size x w'):=fun W hb=>by
  rw [← HNET.out]
  exact HAT.out W (bel_adv hI.bel hb)
 clear HAT
 go_upto_region 4 with fail
 refine wp_region_call (aE:=?aE1) [0,1,2,3,4,5,6,7,8,9,10,11,12,13,14,15,16,17,18,19,20,21] [23,24,25,26,27] 22 109 #[.agg #[.int .i64 c.r.sh.fixed,.int .i64 c.r.sh.dependent,.int .i64 c.r.sh.lower,.int .i64 c.r.sh.share,.int .i64 c.r.sh.top],.int .i64 (max (s.left - fr) 0),.int .i64 c.p.deps,.slice c.p.Ao c.p.os.length c.p.co] (fun x:Option Addr × Nat=>.tuple #[.slice x.1 m.length x.2,.int .i64 er]) ?aJ1 (FrE m W9.heap.size) (by kernel_rfl) (by kernel_rfl) rfl (by kernel_rfl) (by kernel_rfl) (by rfl) (by kernel_rfl) (by kernel_rfl) (by rfl) (by kernel_rfl) (by kernel_rfl) rfl rfl ?H1 ?S1 ?N1 ?R1 ?HC1 ?J1 ?M1
 case H1 =>
  intro F hF inst
  simp only [M3.opsAt,List.getElem?_toArray,List.getElem?_cons_zero,List.getElem?_cons_succ]
  have e10:=BwC.cellB (F:=F) (a:=⟨g,10,none⟩) (by exact hl8) y10
  have e11:=BwC.cellB (F:=F) (a:=⟨g,11,none⟩) (by exact hl8) y11
  have e12:=BwC.cellB (F:=F) (a:=⟨g,12,none⟩) (by exact hl8) y12
  have e13:=BwC.cellB (F:=F) (a:=⟨g,13,none⟩) (by exact hl8) y13
  have e14:=BwC.cellB (F:=F) (a:=⟨g,14,none⟩) (by exact hl8) y14
  have e16:=BwC.cellB (F:=F) (a:=⟨g,16,none⟩) (by exact hl8) y16
  have e18:=BwC.cellB (F:=F) (a:=⟨g,18,none⟩) (by exact hl8) y18
  have e33:=BwC.cellB (F:=F) (a:=⟨g,33,none⟩) (by exact hl8) y33
  repeat (first | go_big_quiet_step (first | fail) | quiet_step (first | fail))
  refine wpQuiet_nil ?_
  rfl
 case S1=>rfl
 case N1=>exact fun _=>by first | rfl | go_simp
 case R1=>exact fun x w1 w2 hx hb=>⟨hx.1.adv hb,hx.2⟩
 case HC1=>exact fun W1 hb1=>(HA2.out W1 hb1).mono (fun e w2 ⟨x,he,h5,h1,h2,h3,h4⟩=>⟨x,he,h5,h1,h2,h3,fun a ha=>Nat.le_trans hb1.size (h4 a ha)⟩)
 case J1 =>
  intro x F hF inst
  simp only [M3.opsAt,List.getElem?_toArray,List.getElem?_cons_zero,List.getElem?_cons_succ]
  repeat (first | go_big_quiet_step (fail) | quiet_step (fail))
  refine wpQuiet_nil ?_
  rfl
 case M1 =>
  intro x w1 hb1 hx
  try simp only [Act.put,List.setIfInBounds_toArray,List.set_cons_succ,List.set_cons_zero]
  obtain ⟨A,cap⟩:=x
  obtain ⟨hS,_,_,hfr⟩:=hx
  have hL:=lst_fresh hI hS hfr
  have hI2:=hI.adv hb1
  have hm2:=hm1.trans (Mv.bel hb1)
  clear hI hm1 HA2 hS hfr y10 y11 y12 y13 y14 y16 y18 y33
  by_cases h0:er = 0
  rotate_left
  ·
   have hne:(er != 0) = true:=by simp [h0]
   have hbel:=hI2.bel
   go_wp2
   go_ret
   exact ⟨rfl,hbel,fun e=>absurd e h0⟩
  ·
   subst h0
   obtain ⟨hl,ha⟩:=HX.out rfl
   go_wp2_with fail
   refine (bearP32 hI2 7 A cap m hL hls hl (by constructor <;> omega) ha).mono ?_
   rintro e w4 ⟨rfl,v4,hI4,hm4⟩
   have hm5:=hm2.trans hm4
   clear hI2 hm2 hL ha
   go_wp2
   go_ret
   exact ⟨rfl,hI4.bel,fun _=>⟨v4,hI4,hm5⟩⟩
end Go.Proofs.YtlhkojcmcmkmaaaGreat
