/- Joined texts: TgDy. Conditions: as stated. -/
import Derived.Deep.DeepCutAuto
import Derived.Test.YtopekilofdadnaaGreatDoorJMix2
import Derived.Test.YtopekilofdadnaaGreatDoorJTgC3
import Derived.Test.YtopekilofdadnaaGreatDoorJTgI
namespace Go.Proofs.YtopekilofdadnaaGreatDoor
open Go.RowKit
structure DyAt (w0 w : World) (b:Nat) (V:Value) (l:List EvT) : Prop where
 own:Own encEv 7 41 w w0.heap.size V l
 tape:TapeIn w b
 grown:w0.grownBy w (some b)
section
variable {w0 w w':World} {b:Nat} {V V':Value} {l l':List EvT}
theorem DyAt.next (h:DyAt w0 w b V l) (hb:b < w0.heap.size) (ht:TapeIn w' b) (hG:w.grownBy w' (some b)) : DyAt w0 w' b V l:=⟨h.own.kept hG (fun q e=>by injection e; omega),ht,only_trans h.grown hG⟩
theorem DyAt.adv (h:DyAt w0 w b V l) (hb:Below w.heap.size w w') : DyAt w0 w' b V l:=⟨h.own.adv hb,h.tape.grown (only_of_below hb none) (fun q e=>by cases e),only_trans h.grown (only_of_below hb _)⟩
theorem DyAt.alloc (h:DyAt w0 w b V l) (o:Obj) : DyAt w0 (w.alloc o) b V l:=h.adv (below_new w o)
theorem DyAt.app (h:DyAt w0 w b V l) (hb:b < w0.heap.size) (ho:Own encEv 7 41 w' w0.heap.size V' l') (hG:w.grownBy w' V.ownBlock) : DyAt w0 w' b V' l' :=
 ⟨ho,h.tape.grown hG (fun q e=>by have:=(h.own.block_lt e).1; omega),only_then h.grown hG (fun q e=>.inl (h.own.block_lt e).1)⟩
theorem DyAt.nums {v:Value} {xs:List Int} (h:DyAt w0 w b V l) (ho:Own encI 1 3 w w0.heap.size v xs) (hG:w.grownBy w' V.ownBlock) : Own encI 1 3 w' w0.heap.size v xs:=ho.keptNe hG (fun q hq e=>ho.types h.own (by decide) hq e)
end
theorem DyAt.side {w0 w w' : World} {b:Nat} {V v : Value} {l:List EvT} {xs:List Int} (h:DyAt w0 w b V l) (hb:b < w0.heap.size) (ho:Own encI 1 3 w w0.heap.size v xs) (hG:w.grownBy w' v.ownBlock) : DyAt w0 w' b V l :=
 ⟨h.own.keptNe hG (fun q hq e=>h.own.types ho (by decide) hq e),h.tape.grown hG (fun q e=>by have:=(ho.block_lt e).1; omega),only_then h.grown hG (fun q e=>.inl (ho.block_lt e).1)⟩
theorem exec_load {P:Program} {op:Oper} {a:Act} {w:World} (ty:TypeId) (x:Operand) (ho:op.op = .load ty x) (b o : Nat) (hx:a.eval x = .pointer (some ⟨b,o,none⟩)) (cs:List Value) (d:TypeDesc) (hc:w.rangeAt b o cs)
  (hu:P.underlying ty = some d) (hd:d.isRow = true) (hi:(P.info? ty).map (·.size) = some cs.length) : (execOp a.eval op).run P w = .ok (.value (.agg cs.toArray)) w:=by
 unfold execOp
 simp only [ho,hx,Instr.loadAt,Instr.sureAddr,Sem.run_bind,Sem.run_pure,Result.andThen_ok,run_loadVar_mid w b o ty cs d hc hu hd hi]
theorem exec_store {P:Program} {op:Oper} {a:Act} {w:World} (ty:TypeId) (x y : Operand) (ho:op.op = .store ty x y) (b o : Nat) (cells:Array Value) (hx:a.eval x = .pointer (some ⟨b,o,none⟩)) (hy:a.eval y = .agg cells)
  (ht:w.there b o cells.size) (hi:(P.info? ty).map (·.size) = some cells.size) (h1:cells.all (·.oneCell') = true) : (execOp a.eval op).run P w = .ok .skip (w.setCells b o cells.toList):=by
 unfold execOp
 simp only [ho,hx,hy,Instr.storeAt,Instr.sureAddr,Sem.run_bind,Sem.run_pure,Result.andThen_ok,run_storeVar_mid w b o ty cells ht hi h1]
def kN (n:Nat) : List Int:=(List.range n).map fun (i:Nat)=>(i:Int)+1
theorem kN_len (n:Nat) : (kN n).length = n:=by simp [kN]
theorem kN_at {n j : Nat} (h:j < (kN n).length) : (kN n)[j] = (j:Int)+1:=by simp [kN]
structure TkIn (w0 w : World) (vt vk : Value) (L:List Int) : Prop where
 t:Own encI 1 3 w w0.heap.size vt L
 k:Own encI 1 3 w w0.heap.size vk (kN L.length)
 len:L.length≤4∧0 < L.length
 r:∀ x ∈ L,0≤x∧x≤120968639
theorem Own.keptFar {α:Type} {enc:α→List Value} {k:Nat} {e:TypeId} {w w' : World} {base g o n c g2 o2 n2 c2 : Nat} {xs:List α} (h:Own enc k e w base (.slice (some ⟨g,o,none⟩) n c) xs) (hG:w.grownBy w' (Value.slice (some ⟨g2,o2,none⟩) n2 c2).ownBlock) (hne:g ≠ g2) : Own enc k e w' base (.slice (some ⟨g,o,none⟩) n c) xs :=
 h.keptNe hG (fun q hq e=>by
  have e1:some g = some q:=hq
  have e2:some g2 = some q:=e
  injection e1
  injection e2
  omega)
theorem TkIn.next {w0 w w' : World} {b:Nat} {vt vk : Value} {L:List Int} (h:TkIn w0 w vt vk L) (hb:b < w0.heap.size) (hG:w.grownBy w' (some b)) : TkIn w0 w' vt vk L :=
 ⟨h.t.kept hG (fun q e=>by injection e; omega),h.k.kept hG (fun q e=>by injection e; omega),h.len,h.r⟩
theorem encIn_one (x:Int) : ∀ u ∈ encI x,u.oneCell' = true:=by intro u hu; simp [encI] at hu; subst hu; rfl
section
set_option maxHeartbeats 8000000
set_option maxRecDepth 100000
theorem daysG (b:Nat) (w:World) (hd:TapeIn w b) : Calls Tryz.prog 15 #[.pointer (some ⟨b,0,none⟩),.int .i64 4] w (DaysPost b w):=by
 have hlt:=hd.lt
 have HD0:Hid (DyAt w w b (.slice none 0 0) []):=⟨Own.nil_ _ _,hd,only_refl _ _⟩
 clear hd
 go_enter Tryz.func15,Tryz.ntmps15
 go_wp2
 go_loopw [5,6,7] (fun v s d wr=>∃ (k:Nat) (V:Value) (l:List EvT),V = v∧s = .int .i64 (20+4 * k)∧d = .int .i64 k∧k≤4∧Hid (DyAt w wr b V l)∧Hid (EvG l (20+4 * k) (20+4 * k) k (3 * k))∧l.length≤5 * k) (fun _ _ d _=>4 - (intOf d).toNat)
 case atStart=>exact ⟨0,_,[],rfl,rfl,rfl,by omega,HD0,EvG.nil _ _,by simp⟩
 case round =>
  clear HD0
  obtain ⟨k,V,l,rfl,rfl,rfl,hk,HD,HE,hl⟩:=hrel
  have hbs:=HD.out.grown.size
  by_cases hk4:k < 4
  ·
   have hki:(k:Int) < 4:=by omega
   go_wp2_with fail
   refine (pickN b wr [480,465,1320,360,477] _ _ _ rfl rfl HD.out.tape (by simp) (by simp)).mono ?_
   rintro e w1 ⟨p1,rfl,hm1,hd1,hg1⟩
   have hq1:360≤p1∧p1≤1320:=by simp at hm1; omega
   have HD1:=Lib.hid (HD.out.next hlt hd1 hg1)
   clear hm1 hd1 hg1 HD
   go_wp2_with fail
   refine (nextT b _ _ (by omega) (by omega) HD1.out.tape).mono ?_
   rintro e w2 ⟨r1,rfl,h0,h1,hd2,hg2⟩
   have HD2:=Lib.hid (HD1.out.next hlt hd2 hg2)
   clear hd2 hg2 HD1
   go_wp2_with fail
   refine (pickN b w2 [480,510,540,660,300,75] _ _ _ rfl rfl HD2.out.tape (by simp) (by simp)).mono ?_
   rintro e w3 ⟨p2,rfl,hm3,hd3,hg3⟩
   have hq3:75≤p2∧p2≤660:=by simp at hm3; omega
   have HD3:=Lib.hid (HD2.out.next hlt hd3 hg3)
   clear hm3 hd3 hg3 HD2
   obtain ⟨F,hF⟩ : ∃ F:Int,29453760+(k:Int) * 1440+p1+r1 = F:=⟨_,rfl⟩
   have hF1:0≤F∧F≤29470000:=by omega
   have hs3:=HD3.out.grown.size
   have HT3:=Lib.hid (Own.lit encIn_len w3 [F,F+p2] #[.int .i64 F,.int .i64 (F+p2)] 3 rfl (by simp) hs3)
   have HD4:=Lib.hid (HD3.out.alloc (.cells #[.int .i64 F,.int .i64 (F+p2)] 3))
   have HK4:=Lib.hid (Own.lit encIn_len (w3.alloc (.cells #[.int .i64 F,.int .i64 (F+p2)] 3)) [1,2] #[.int .i64 1,.int .i64 2] 3 rfl (by simp) (show w.heap.size≤_ by rw [World.size_alloc]; omega))
   have HT4:=Lib.hid (HT3.out.alloc (.cells #[.int .i64 1,.int .i64 2] 3))
   have HD5:=Lib.hid (HD4.out.alloc (.cells #[.int .i64 1,.int .i64 2] 3))
   clear HT3 HD4 HD3 hs3 h0 h1
   go_wp2_with fail
   rw [World.size_alloc] at HK4
   generalize (w3.alloc (.cells #[.int .i64 F,.int .i64 (F+p2)] 3)).alloc (.cells #[.int .i64 1,.int .i64 2] 3) = w5 at HK4 HT4 HD5 ⊢
   refine (nextT b _ _ (by omega) (by omega) HD5.out.tape).mono ?_
   rintro e w6 ⟨r2,rfl,h0,h1,hd6,hg6⟩
   have HTK:Hid (TkIn w w6 (.slice (some ⟨w3.heap.size,0,none⟩) 2 2) (.slice (some ⟨w3.heap.size+1,0,none⟩) 2 2) [F,F+p2]) :=
    ⟨HT4.out.kept hg6 (fun q e=>by injection e; omega),HK4.out.kept hg6 (fun q e=>by injection e; omega),(by simp),fun x hx=>by simp at hx; omega⟩
   have HD6:=Lib.hid (HD5.out.next hlt hd6 hg6)
   clear hd6 hg6 HK4 HT4 HD5
   go_upto_if 42 with fail
   generalize w3.heap.size = g3 at HTK ⊢
   go_cut [10,11] (fun vt vk wx=>∃ L,Hid (TkIn w wx vt vk L)∧Hid (DyAt w wx b V l))
   case first =>
    by_cases hr2:r2 = 0
    ·
     subst hr2
     clear h0 h1
     go_wp2_with fail
     refine (pickN b w6 [120,240,60] _ _ _ rfl rfl HD6.out.tape (by simp) (by simp)).mono ?_
     rintro e w7 ⟨p4,rfl,hm7,hd7,hg7⟩
     have hq7:60≤p4∧p4≤240:=by simp at hm7; omega
     have HTK7:=Lib.hid (HTK.out.next hlt hg7)
     have HD7:=Lib.hid (HD6.out.next hlt hd7 hg7)
     clear hm7 hd7 hg7 HTK HD6
     go_wp2_with fail
     refine (pickN b w7 [30,15,45] _ _ _ rfl rfl HD7.out.tape (by simp) (by simp)).mono ?_
     rintro e w8 ⟨p5,rfl,hm8,hd8,hg8⟩
     have hq8:15≤p5∧p5≤45:=by simp at hm8; omega
     have HTK8:=HTK7.out.next hlt hg8
     have HD8:=HD7.out.next hlt hd8 hg8
     have hs8:=HD8.grown.size
     have hl3:=(HTK8.k.block_lt (g:=g3+1) rfl).2
     clear hm8 hd8 hg8 HTK7 HD7
     obtain ⟨PA,hPA⟩ : ∃ PA,F+p4 = PA:=⟨_,rfl⟩
     have HSA:=Lib.hid ((SliceOf.new encIn_len w8 [PA,PA+p5] #[.int .i64 PA,.int .i64 (PA+p5)] 3 rfl).more (B':=w8.heap.size+1) (Nat.le_refl _))
     have HTA:=Lib.hid (HTK8.t.alloc (.cells #[.int .i64 PA,.int .i64 (PA+p5)] 3))
     have HKA:=Lib.hid (HTK8.k.alloc (.cells #[.int .i64 PA,.int .i64 (PA+p5)] 3))
     have HDA:=Lib.hid (HD8.alloc (.cells #[.int .i64 PA,.int .i64 (PA+p5)] 3))
     have hsA:w.heap.size≤(w8.alloc (.cells #[.int .i64 PA,.int .i64 (PA+p5)] 3)).heap.size:=by rw [World.size_alloc]; omega
     have hr4:∀ x ∈ [F,F+p2,PA,PA+p5],0≤x∧x≤120968639:=fun x hx=>by
      simp only [nqj,nqk,or_false] at hx
      omega
     have HR4:=Lib.hid hr4
     clear HTK8 HD8 hr4
     go_wp2_with (first
      | (at_builtin; go_loud (refine wpList_append_list_at _ _ 22 _ 8 _ infoIn Tryz.underlying22 HTA.out HSA.out encIn_len (by omega) rfl encIn_one (by simp) (by omega) hsA (by rfl) (by rfl) (by rfl) (by rfl) (by rfl) ?_); intro v9 w9 hown9 hg9 halt9; have HT9:=Lib.hid hown9; have HK9:=Lib.hid (HKA.out.keptFar hg9 (by omega)); have HD9:=Lib.hid (HDA.out.side hlt HTA.out hg9); have hs9:=hg9.size; rw [World.size_alloc] at hs9 halt9; clear hg9 hown9; have HSB:=Lib.hid ((SliceOf.new encIn_len w9 [3,4] #[.int .i64 3,.int .i64 4] 3 rfl).more (B':=w9.heap.size+1) (Nat.le_refl _)); have HTB:=Lib.hid (HT9.out.alloc (.cells #[.int .i64 3,.int .i64 4] 3)); have HKB:=Lib.hid (HK9.out.alloc (.cells #[.int .i64 3,.int .i64 4] 3)); have HDB:=Lib.hid (HD9.out.alloc (.cells #[.int .i64 3,.int .i64 4] 3)); have hsB:w.heap.size≤(w9.alloc (.cells #[.int .i64 3,.int .i64 4] 3)).heap.size:=(by rw [World.size_alloc]; omega))
      | (at_builtin; refine wpList_append_list_at _ _ 22 _ 8 _ infoIn Tryz.underlying22 HKB.out HSB.out encIn_len (by omega) rfl encIn_one (by simp [kN_len]) (by omega) hsB (by rfl) (by rfl) (by rfl) (by rfl) (by rfl) ?_; intro v10 w10 hown10 hg10 halt10))
     go_meet
     refine ⟨[F,F+p2,PA,PA+p5],⟨HTB.out.keptNe hg10 (fun z hz e=>?_),hown10,by simp,HR4.out⟩,HDB.out.side hlt HKB.out hg10⟩
     have e:some (g3+1) = some z:=e
     injection e with e
     rcases halt9 with h9 | h9
     ·
      rw [h9] at hz
      have hz:some g3 = some z:=hz
      injection hz with hz
      omega
     ·
      rw [h9] at hz
      injection hz with hz
      omega
    ·
     go_wp2
     go_meet
     exact ⟨_,HTK,HD6⟩
   case rest =>
    obtain ⟨L,HTK,HD⟩:=hcut
    rename World=>wc
    clear HD6 h0 h1
    obtain ⟨gt,ct,curt,rfl,_,_,_,_⟩:=HTK.out.t.some_ HTK.out.len.2
    obtain ⟨gk,ck,curk,rfl,_,_,_,_⟩:=HTK.out.k.some_ (by rw [kN_len]; exact HTK.out.len.2)
    have hL4:=HTK.out.len.1
    have HLR:=Lib.hid HTK.out.r
    rw [kN_len]
    have HOT:=Lib.hid HTK.out.t
    have HOK:Hid (Own encI 1 3 wc w.heap.size (.slice (some ⟨gk,0,none⟩) L.length ck) (kN L.length)):=by have:=HTK.out.k; rw [kN_len] at this; exact this
    clear HTK
    go_wp2
    go_loopw [5,13] (fun v i wz=>∃ (j:Nat) (V:Value) (l:List EvT),V = v∧i = .int .i64 j∧j≤L.length∧Hid (DyAt w wz b V l)∧Hid (EvG l (20+4 * k+j) (20+4 * k) (k+min j 1) (3 * k+j / 2))∧l.length≤5 * k+j∧Hid (Own encI 1 3 wz w.heap.size (.slice (some ⟨gt,0,none⟩) L.length ct) L)∧Hid (Own encI 1 3 wz w.heap.size (.slice (some ⟨gk,0,none⟩) L.length ck) (kN L.length))) (fun _ i _=>L.length - (intOf i).toNat)
    case atStart=>exact ⟨0,V,l,rfl,rfl,by omega,HD,HE.out.mono (by omega) (by omega) (by omega) (by omega),by omega,HOT,HOK⟩
    case round =>
     clear HD HE HOT HOK hl
     obtain ⟨j,V,l,rfl,rfl,hj,HD,HE,hl,HOT,HOK⟩:=hrel
     by_cases hjl:j < L.length
     ·
      have hji:(j:Int) < (L.length:Int):=by omega
      go_wp2_with fail
      refine (nextT b _ _ (by omega) (by omega) HD.out.tape).mono ?_
      rintro e w7 ⟨r3,rfl,h0,h1,hd7,hg7⟩
      have HD7:=Lib.hid (HD.out.next hlt hd7 hg7)
      have HOT7:=Lib.hid (HOT.out.kept hg7 (fun q e=>by injection e; omega))
      have HOK7:=Lib.hid (HOK.out.kept hg7 (fun q e=>by injection e; omega))
      clear hd7 hg7 HD HOT HOK
      by_cases hr3:r3 = 13
      ·
       subst hr3
       go_wp2
       go_roundw
       case rel=>exact ⟨j+1,_,l,rfl,by go_num,by omega,HD7,HE.out.mono (by omega) (by omega) (by omega) (by omega),by omega,HOT7,HOK7⟩
       case measure=>simp [intOf]; omega
      ·
       have hlr:=HLR.out _ (List.getElem_mem hjl)
       obtain ⟨At,ct',hvt,hSt,_,_⟩:=HOT7.out.form encIn_len
       injection hvt with hvt hv2 hv3
       subst hvt
       clear hv2 hv3
       obtain ⟨bt,ot,hAt,hbt,hct⟩:=hSt.at_ hjl
       injection hAt with hAt
       injection hAt with hAt1 hAt2
       subst hAt1 hAt2
       have ct0:=hct 0 _ rfl
       obtain ⟨Ak,ck',hvk,hSk,_,_⟩:=HOK7.out.form encIn_len
       injection hvk with hvk hv2 hv3
       subst hvk
       clear hv2 hv3
       have hjk:j < (kN L.length).length:=by rw [kN_len]; exact hjl
       obtain ⟨bk,ok,hAk,hbk,hck⟩:=hSk.at_ hjk
       injection hAk with hAk
       injection hAk with hAk1 hAk2
       subst hAk1 hAk2
       have ck0:=hck 0 _ rfl
       rw [kN_at] at ck0
       simp only [Nat.add_zero,Nat.zero_add,Nat.mul_one] at ct0 ck0
       have hnt:V.ownBlock ≠ some gt:=fun e=>HOT7.out.types HD7.out.own (by decide) rfl e
       have hnk:V.ownBlock ≠ some gk:=fun e=>HOK7.out.types HD7.out.own (by decide) rfl e
       generalize L[j] = T at ct0 hlr
       clear hct hck hSt hSk
       go_upto_region 17 with fail
       refine M3.wp_region_sel (C:=fun w'=>w7.grownBy w' V.ownBlock) (fun w1 w2 h hb=>only_adv h hb) (only_refl _ _) (aE:=?aE7) [0,1,2,3,4,5,6,7,8,9,10,11,12,13] 3 (by kernel_rfl) (by kernel_rfl) rfl (by kernel_rfl) (by kernel_rfl) (by rfl) ?H7 ?M7
       case H7 =>
        intro F hF inst
        simp only [M3.opsAt,List.getElem?_toArray,List.getElem?_cons_zero,List.getElem?_cons_succ]
        have e0:∀ p:BwC (fun w'=>w7.grownBy w' V.ownBlock) F,p.w'.cell? ⟨gt,j,none⟩ = some (.int .i64 T):=BwC.cellG hbt hnt ct0
        have e1:∀ p:BwC (fun w'=>w7.grownBy w' V.ownBlock) F,p.w'.cell? ⟨gk,j,none⟩ = some (.int .i64 (j+1)):=BwC.cellG hbk hnk ck0
        repeat (first | go_big_quiet_step (fail))
        refine wpQuiet_nil ?_
        rfl
       case M7 =>
        intro Q0 hQ0
        refine M3.mix_step [14] (by kernel_rfl) (by simp) ?_
        intro w8 hC8 hb8 i hi
        simp only [nqj,nqk,or_false] at hi
        subst hi
        have hZ8:=HD7.out.adv hb8
        refine M3.mix_val (.slice (some ⟨w8.heap.size,0,none⟩) 1 1) (w8.alloc (.cells #[.int .i64 2,.int .i64 (20+4 * k+j),.int .i64 1,.int .i64 T,.int .i64 (j+1),.int .i64 0,.int .i64 0] 41)) rfl rfl (by go_simp) ⟨only_alloc hC8 _,?_⟩
        simp only [Act.put,nqa,nqb,nqc,nqd,nqe,nqf]
        refine M3.mix_step [15] (by kernel_rfl) (by simp) ?_
        intro w9 hC9 hb9 i hi
        simp only [nqj,nqk,or_false] at hi
        subst hi
        have hY9:=((SliceOf.new encEv_len w8 [(⟨⟨2,20+4 * k+j⟩,1,T,j+1,⟨0,0⟩⟩ : EvT)] #[.int .i64 2,.int .i64 (20+4 * k+j),.int .i64 1,.int .i64 T,.int .i64 (j+1),.int .i64 0,.int .i64 0] 41 rfl).below (by simpa using hb9)).more (B':=w9.heap.size) (by simpa using hb9.size)
        have hZ9:=(hZ8.alloc (.cells #[.int .i64 2,.int .i64 (20+4 * k+j),.int .i64 1,.int .i64 T,.int .i64 (j+1),.int .i64 0,.int .i64 0] 41)).adv hb9
        have hT9:=((HOT7.out.adv hb8).alloc (.cells #[.int .i64 2,.int .i64 (20+4 * k+j),.int .i64 1,.int .i64 T,.int .i64 (j+1),.int .i64 0,.int .i64 0] 41)).adv hb9
        have hK9:=((HOK7.out.adv hb8).alloc (.cells #[.int .i64 2,.int .i64 (20+4 * k+j),.int .i64 1,.int .i64 T,.int .i64 (j+1),.int .i64 0,.int .i64 0] 41)).adv hb9
        refine M3.mix_append _ _ 42 1 56 _ infoEv Tryz.underlying42 hZ9.own hY9 encEv_len (by omega) rfl encEv_one (by simp; omega) (by omega) hZ9.grown.size rfl rfl rfl rfl rfl rfl ?_
        intro v10 w10 hown10 hg10
        refine ⟨only_trans hC9 hg10,?_⟩
        simp only [Act.put,nqa,nqb,nqc,nqd,nqe,nqf]
        have hT10:=hZ9.nums hT9 hg10
        have hK10:=hZ9.nums hK9 hg10
        have hZ10:=hZ9.app hlt hown10 hg10
        clear hT9 hK9 hZ9 hY9 hC9 hb9 hZ8 hC8 hb8 hg10
        refine M3.mix_step [16] (by kernel_rfl) (by simp) ?_
        intro w11 hC11 hb11 i hi
        simp only [nqj,nqk,or_false] at hi
        subst hi
        refine M3.mix_val v10 w11 rfl rfl (by go_simp) ⟨hC11,?_⟩
        simp only [Act.put,nqa,nqb,nqc,nqd,nqe,nqf]
        refine M3.mix_end (by kernel_rfl) ?_
        intro w12 hC12 hb12
        refine hQ0 _ _ ?_
        have HZ12:=Lib.hid ((hZ10.adv hb11).adv hb12)
        have HT12:=Lib.hid ((hT10.adv hb11).adv hb12)
        have HK12:=Lib.hid ((hK10.adv hb11).adv hb12)
        have HEN:=Lib.hid (HE.out.push2 (q:=20+4 * k+j) (t:=T) (k:=j+1) (by omega) (by omega) (by omega) hlr (by omega))
        clear hZ10 hT10 hK10 hown10 hb11 hC11 hb12 hC12 hQ0
        go_wp2
        go_roundw
        case rel =>
         refine ⟨j+1,v10,_,rfl,by go_num,by omega,HZ12,HEN.out.mono (by omega) (by omega) ?_ ?_,by simp; omega,HT12,HK12⟩
         ·
          split <;> omega
         ·
          split <;> omega
        case measure=>simp [intOf]; omega
     ·
      obtain rfl:j = L.length:=by omega
      go_wp2_with fail
      refine (nextT b _ _ (by omega) (by omega) HD.out.tape).mono ?_
      rintro e w7 ⟨r4,rfl,h0,h1,hd7,hg7⟩
      have HD7:=Lib.hid (HD.out.next hlt hd7 hg7)
      clear hd7 hg7 HD HOT HOK
      by_cases hr4:r4 = 5
      ·
       subst hr4
       go_wp2_with fail
       refine (pickN b w7 [6,5] _ _ _ rfl rfl HD7.out.tape (by simp) (by simp)).mono ?_
       rintro e w8 ⟨p6,rfl,hm8,hd8,hg8⟩
       have hq8:p6 = 5 ∨ p6 = 6:=by simp at hm8; omega
       have hZ8:=HD7.out.next hlt hd8 hg8
       have HD8:=Lib.hid hZ8
       have hs8:=hZ8.grown.size
       clear hm8 hd8 hg8 HD7 hZ8
       go_wp2_with (at_builtin; go_loud (refine wpList_append_one _ _ 42 (⟨⟨3,20+4 * k⟩,1,F+10,p6,⟨2,20+4 * k⟩⟩ : EvT) _ 56 _ infoEv Tryz.underlying42 HD8.out.own encEv_len (by omega) rfl (encEv_one _) (by omega) (by omega) (by omega) (by rfl) (by rfl) (by rfl) (by rfl) (by simp) (by rfl) ?_); intro v10 w10 hown10 hg10)
       have HZ10:=Lib.hid (HD8.out.app hlt hown10 hg10)
       have HEN:=Lib.hid (HE.out.push3 (q:=20+4 * k) (t:=F+10) (k:=p6) (by omega) (by omega) (by omega) (by omega) hq8)
       clear hg10 hown10
       go_roundw
       case rel=>exact ⟨k+1,v10,_,rfl,(by rw [show (20+4 * ((k+1:Nat) : Int)) = 20+4 * k+4 by push_cast; omega]),by go_num,by omega,HZ10,HEN.out.mono (by push_cast; omega) (by push_cast; omega) (by omega) (by omega),by simp; omega⟩
       case measure=>simp [intOf]; omega
      ·
       go_wp2
       go_roundw
       case rel=>exact ⟨k+1,_,l,rfl,(by rw [show (20+4 * ((k+1:Nat) : Int)) = 20+4 * k+4 by push_cast; omega]),by go_num,by omega,HD7,HE.out.mono (by push_cast; omega) (by push_cast; omega) (by omega) (by omega),by omega⟩
       case measure=>simp [intOf]; omega
  ·
   have hki:¬ (k:Int) < 4:=by omega
   have HE2:=Lib.hid (HE.out.mono (s2':=1000) (s3':=1000) (c1':=4) (c2':=12) (by omega) (by omega) (by omega) (by omega))
   have hl20:l.length≤20:=by omega
   obtain ⟨VA,Vc,hv⟩:=HD.out.own.slice encEv_len
   subst hv
   clear HE
   go_wp2
   rename_i wd
   go_loopw [14] (fun i wz=>∃ (I:Int) (l2:List EvT),i = .int .i64 I∧-1≤I∧I < l.length∧Hid (DyAt w wz b (.slice VA l.length Vc) l2)∧Hid (l2.Perm l)) (fun i _=>(intOf i).toNat)
   case atStart=>exact ⟨_,l,rfl,by omega,by omega,HD,List.Perm.refl _⟩
   case round =>
    clear HD
    obtain ⟨I,l2,rfl,hI1,hI2,HD,HP⟩:=hrel
    have hn2:=HP.out.length_eq
    have HN2:=Lib.hid hn2
    clear hn2
    by_cases hI0:0 < I
    ·
     obtain ⟨m,rfl⟩:=Int.eq_ofNat_of_zero_le (show 0≤I by omega)
     have hml:m < l.length:=by omega
     obtain ⟨g,cap,cur,hv,hgb,_,_,_⟩:=HD.out.own.some_ (by have:=HN2.out; omega)
     injection hv with hv1 hv2 hv3
     subst hv1 hv3
     clear hv2
     go_wp2_with fail
     refine (nextT b _ _ (by omega) (by omega) HD.out.tape).mono ?_
     rintro e w7 ⟨r,rfl,h0,h1,hd7,hg7⟩
     have HD7:=Lib.hid (HD.out.next hlt hd7 hg7)
     clear hd7 hg7 HD
     by_cases hr:r = 0
     ·
      subst hr
      clear h0 h1
      go_wp2_with fail
      refine (nextT b _ _ (by omega) (by omega) HD7.out.tape).mono ?_
      rintro e w8 ⟨r,rfl,h0,h1,hd8,hg8⟩
      have HDr:=Lib.hid (HD7.out.next hlt hd8 hg8)
      clear hd8 hg8 HD7
      obtain ⟨q,rfl⟩:=Int.eq_ofNat_of_zero_le h0
      have hql:q < l.length:=by omega
      have hqi:(q:Int) < l.length:=by omega
      have hmi:(m:Int) < l.length:=by omega
      clear h0 h1
      have hn2:=HN2.out
      have hq2:q < l2.length:=by omega
      have hm2:m < l2.length:=by omega
      clear hn2
      go_upto_region 26 with fail
      have hn2:=HN2.out
      refine M5.wp_region_sel (C:=fun w'=>w8.grownBy w' (some g)) (fun w1 w2 h hb=>only_adv h hb) (only_refl _ _) (aE:=?aE8) [0,1,2,3,4,5,6,8,9,10] 6 15 (by kernel_rfl) (by kernel_rfl) rfl (by kernel_rfl) (by rfl) ?H8 ?M8
      case H8 =>
       intro F hF inst
       simp only [M3.opsAt,List.getElem?_toArray,List.getElem?_cons_zero,List.getElem?_cons_succ]
       repeat (first | go_big_quiet_step (fail))
       refine wpQuiet_nil ?_
       rfl
      case M8 =>
       intro Q0 hQ0
       refine M5.mix_many [7,11] (by kernel_rfl) (by decide) (by decide) ?_
       intro w4 hC4 hb4 i hi
       simp only [nqj,nqk,or_false] at hi
       rcases hi with rfl | rfl
       ·
        have hZ4:=HDr.out.adv hb4
        refine M3.mix_val (.agg (encEv l2[q]).toArray) w4 rfl rfl (exec_load _ _ rfl g (q * 7) (by go_simp) _ _ (hZ4.own.rangeAt encEv_len (by omega)) Tryz.underlying41 rfl (by rw [encEv_len]; kernel_rfl)) ⟨hC4,?_⟩
        simp only [Act.put,nqa,nqb,nqc,nqd,nqe,nqf]
        refine M5.mix_one 11 (by kernel_rfl) (by decide) ?_
        intro w5 hC5 hb5
        have hZ5:=hZ4.adv hb5
        refine M3.mix_val (.agg (encEv l2[m]).toArray) w5 rfl rfl (exec_load _ _ rfl g (m * 7) (by go_simp) _ _ (hZ5.own.rangeAt encEv_len (by omega)) Tryz.underlying41 rfl (by rw [encEv_len]; kernel_rfl)) ⟨hC5,?_⟩
        simp only [Act.put,nqa,nqb,nqc,nqd,nqe,nqf]
        refine M5.mix_take 12 (.pointer (some ⟨g,m * 7,none⟩)) (by kernel_rfl) rfl (by kernel_rfl) rfl (fun _=>by go_simp <;> (intro hh; omega)) ?_
        simp only [Act.put,nqa,nqb,nqc,nqd,nqe,nqf]
        refine M5.mix_one 13 (by kernel_rfl) (by decide) ?_
        intro w6 hC6 hb6
        have hZ6:=hZ5.adv hb6
        have hg6:=setCells_grown g (encEv l2[q]) (m * 7) w6
        have hZ7:DyAt w (w6.setCells g (m * 7) (encEv l2[q])) b (.slice (some ⟨g,0,none⟩) l.length Vc) (l2.set m l2[q]) :=
         ⟨hZ6.own.put encEv_len hn2.symm (by omega) _,hZ6.tape.grown hg6 (fun z e=>by injection e; omega),only_then hZ6.grown hg6 (fun z e=>by injection e with e; exact .inl (by omega))⟩
        refine M3.mix_skip (w6.setCells g (m * 7) (encEv l2[q])) rfl rfl (exec_store _ _ _ rfl g (m * 7) (encEv l2[q]).toArray (by go_simp) (by go_simp) (hZ6.own.thereAt (by omega)) (by kernel_rfl) (all_oneCell_toArray (encEv_one _))) ⟨only_trans hC6 hg6,?_⟩
        simp only [Act.put,nqa,nqb,nqc]
        refine M5.mix_take 14 (.pointer (some ⟨g,q * 7,none⟩)) (by kernel_rfl) rfl (by kernel_rfl) rfl (fun _=>by go_simp <;> (intro hh; omega)) ?_
        simp only [Act.put,nqa,nqb,nqc,nqd,nqe,nqf]
        refine M5.mix_last (by kernel_rfl) (by kernel_rfl) ?_
        intro w8 hC8 hb8
        have hZ8:=hZ7.adv hb8
        have hg8:=setCells_grown g (encEv l2[m]) (q * 7) w8
        have HZ9:Hid (DyAt w (w8.setCells g (q * 7) (encEv l2[m])) b (.slice (some ⟨g,0,none⟩) l.length Vc) ((l2.set m l2[q]).set q l2[m])) :=
         ⟨hZ8.own.put encEv_len (by rw [List.length_set]; exact hn2.symm) (by rw [List.length_set]; omega) _,hZ8.tape.grown hg8 (fun z e=>by injection e; omega),only_then hZ8.grown hg8 (fun z e=>by injection e with e; exact .inl (by omega))⟩
        refine M3.mix_skip (w8.setCells g (q * 7) (encEv l2[m])) rfl rfl (exec_store _ _ _ rfl g (q * 7) (encEv l2[m]).toArray (by go_simp) (by go_simp) (hZ8.own.thereAt (by rw [List.length_set]; omega)) (by kernel_rfl) (all_oneCell_toArray (encEv_one _))) ?_
        simp only [Act.put,nqa,nqb,nqc]
        refine hQ0 _ _ ?_
        have HP9:Hid (((l2.set m l2[q]).set q l2[m]).Perm l):=(List.set_set_perm (by omega) (by omega)).trans HP.out
        generalize (l2.set m l2[q]).set q l2[m] = l3 at HZ9 HP9
        generalize w8.setCells g (q * 7) (encEv l2[m]) = w9 at HZ9 ⊢
        clear hg8 hZ8 hC8 hb8 hZ7 hg6 hZ6 hC6 hb6 hZ5 hC5 hb5 hZ4 hC4 hb4 hQ0
        go_wp2
        go_roundw
        case rel=>exact ⟨(m:Int) - 1,l3,rfl,by omega,by omega,HZ9,HP9⟩
        case measure=>simp [intOf]; omega
       ·
        have hZ4:=HDr.out.adv hb4
        refine M3.mix_val (.agg (encEv l2[m]).toArray) w4 rfl rfl (exec_load _ _ rfl g (m * 7) (by go_simp) _ _ (hZ4.own.rangeAt encEv_len (by omega)) Tryz.underlying41 rfl (by rw [encEv_len]; kernel_rfl)) ⟨hC4,?_⟩
        simp only [Act.put,nqa,nqb,nqc,nqd,nqe,nqf]
        refine M5.mix_one 7 (by kernel_rfl) (by decide) ?_
        intro w5 hC5 hb5
        have hZ5:=hZ4.adv hb5
        refine M3.mix_val (.agg (encEv l2[q]).toArray) w5 rfl rfl (exec_load _ _ rfl g (q * 7) (by go_simp) _ _ (hZ5.own.rangeAt encEv_len (by omega)) Tryz.underlying41 rfl (by rw [encEv_len]; kernel_rfl)) ⟨hC5,?_⟩
        simp only [Act.put,nqa,nqb,nqc,nqd,nqe,nqf]
        refine M5.mix_take 12 (.pointer (some ⟨g,m * 7,none⟩)) (by kernel_rfl) rfl (by kernel_rfl) rfl (fun _=>by go_simp <;> (intro hh; omega)) ?_
        simp only [Act.put,nqa,nqb,nqc,nqd,nqe,nqf]
        refine M5.mix_one 13 (by kernel_rfl) (by decide) ?_
        intro w6 hC6 hb6
        have hZ6:=hZ5.adv hb6
        have hg6:=setCells_grown g (encEv l2[q]) (m * 7) w6
        have hZ7:DyAt w (w6.setCells g (m * 7) (encEv l2[q])) b (.slice (some ⟨g,0,none⟩) l.length Vc) (l2.set m l2[q]) :=
         ⟨hZ6.own.put encEv_len hn2.symm (by omega) _,hZ6.tape.grown hg6 (fun z e=>by injection e; omega),only_then hZ6.grown hg6 (fun z e=>by injection e with e; exact .inl (by omega))⟩
        refine M3.mix_skip (w6.setCells g (m * 7) (encEv l2[q])) rfl rfl (exec_store _ _ _ rfl g (m * 7) (encEv l2[q]).toArray (by go_simp) (by go_simp) (hZ6.own.thereAt (by omega)) (by kernel_rfl) (all_oneCell_toArray (encEv_one _))) ⟨only_trans hC6 hg6,?_⟩
        simp only [Act.put,nqa,nqb,nqc]
        refine M5.mix_take 14 (.pointer (some ⟨g,q * 7,none⟩)) (by kernel_rfl) rfl (by kernel_rfl) rfl (fun _=>by go_simp <;> (intro hh; omega)) ?_
        simp only [Act.put,nqa,nqb,nqc,nqd,nqe,nqf]
        refine M5.mix_last (by kernel_rfl) (by kernel_rfl) ?_
        intro w8 hC8 hb8
        have hZ8:=hZ7.adv hb8
        have hg8:=setCells_grown g (encEv l2[m]) (q * 7) w8
        have HZ9:Hid (DyAt w (w8.setCells g (q * 7) (encEv l2[m])) b (.slice (some ⟨g,0,none⟩) l.length Vc) ((l2.set m l2[q]).set q l2[m])) :=
         ⟨hZ8.own.put encEv_len (by rw [List.length_set]; exact hn2.symm) (by rw [List.length_set]; omega) _,hZ8.tape.grown hg8 (fun z e=>by injection e; omega),only_then hZ8.grown hg8 (fun z e=>by injection e with e; exact .inl (by omega))⟩
        refine M3.mix_skip (w8.setCells g (q * 7) (encEv l2[m])) rfl rfl (exec_store _ _ _ rfl g (q * 7) (encEv l2[m]).toArray (by go_simp) (by go_simp) (hZ8.own.thereAt (by rw [List.length_set]; omega)) (by kernel_rfl) (all_oneCell_toArray (encEv_one _))) ?_
        simp only [Act.put,nqa,nqb,nqc]
        refine hQ0 _ _ ?_
        have HP9:Hid (((l2.set m l2[q]).set q l2[m]).Perm l):=(List.set_set_perm (by omega) (by omega)).trans HP.out
        generalize (l2.set m l2[q]).set q l2[m] = l3 at HZ9 HP9
        generalize w8.setCells g (q * 7) (encEv l2[m]) = w9 at HZ9 ⊢
        clear hg8 hZ8 hC8 hb8 hZ7 hg6 hZ6 hC6 hb6 hZ5 hC5 hb5 hZ4 hC4 hb4 hQ0
        go_wp2
        go_roundw
        case rel=>exact ⟨(m:Int) - 1,l3,rfl,by omega,by omega,HZ9,HP9⟩
        case measure=>simp [intOf]; omega
     ·
      go_wp2
      go_roundw
      case rel=>exact ⟨(m:Int) - 1,l2,rfl,by omega,by omega,HD7,HP⟩
      case measure=>simp [intOf]; omega
    ·
     have hfin:DaysPost b w (.returned (.slice VA l.length Vc)) wr:=⟨_,l2,rfl,HD.out.own,HE2.out.perm HP.out,by have:=HN2.out; omega,HD.out.tape,HD.out.grown⟩
     have HF:=Lib.hid hfin
     clear hfin
     go_wp2
     go_ret
     exact HF.out
end
end Go.Proofs.YtopekilofdadnaaGreatDoor
