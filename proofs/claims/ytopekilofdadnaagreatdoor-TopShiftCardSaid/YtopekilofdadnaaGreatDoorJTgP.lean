/- Joined texts: TgP. Conditions: as stated. -/
import Derived.Deep.QuietTactic
import Derived.BigQuiet
import Derived.RegionTactic
import Derived.ChangeAlike
import Derived.Test.YtopekilofdadnaaGreatDoorJLeaf
import Derived.Test.YtopekilofdadnaaGreatDoorJTgQ
namespace Go.Proofs.YtopekilofdadnaaGreatDoor
open Go.RowKit
def PresM.bv (x:PresM) : Value:=.slice x.A x.br.length x.c
structure PairAt (w:World) (b:Nat) (L:Int) (p:PairS) (vb vp va : Value) (ps:List PresM) : Prop where
 blk:Blk w b 134 #[.int .i64 L,.int .i64 p.st,.int .i64 p.beg,.int .i64 p.pau,vb,vp,va]
 ob:Own encIv 2 34 w (b+1) vb p.br
 op:Own encPr 3 81 w (b+1) vp ps
 ep:ps.map PresM.p = p.ps
 oa:Own encAn 2 198 w (b+1) va p.an
 ox:∀ x ∈ ps,Own encIv 2 34 w (b+1) x.bv x.br
 ne:∀ x ∈ ps,∀ g,vb.ownBlock = some g→x.bv.ownBlock ≠ some g
def PairIn (w:World) (b:Nat) (L:Int) (p:PairS) : Prop:=∃ vb vp va ps,PairAt w b L p vb vp va ps
structure PairB (L:Int) (p:PairS) (n:Nat) : Prop where
 L:1≤L∧L≤10080
 st:p.st = 0 ∨ p.st = 1 ∨ p.st = 2
 beg:0≤p.beg∧p.beg≤120968639
 pau:0≤p.pau∧p.pau≤120968639
 br:p.br.length≤n
 ps:p.ps.length≤n
 an:p.an.length≤n
section
variable {w w':World} {b n m:Nat} {L:Int} {p:PairS} {vb vp va:Value} {ps:List PresM}
theorem PairAt.adv (h:PairAt w b L p vb vp va ps) (hb:Below w.heap.size w w') : PairAt w' b L p vb vp va ps :=
 ⟨h.blk.adv hb,h.ob.adv hb,h.op.adv hb,h.ep,h.oa.adv hb,fun x hx=>(h.ox x hx).adv hb,h.ne⟩
theorem PairIn.adv (h:PairIn w b L p) (hb:Below w.heap.size w w') : PairIn w' b L p:=by
 obtain ⟨vb,vp,va,ps,h⟩:=h
 exact ⟨vb,vp,va,ps,h.adv hb⟩
theorem PairIn.lt (h:PairIn w b L p) : b < w.heap.size:=by
 obtain ⟨vb,vp,va,ps,h⟩:=h
 exact h.blk.lt
theorem PairB.mono (h:PairB L p n) (hn:n≤m) : PairB L p m:=⟨h.L,h.st,h.beg,h.pau,Nat.le_trans h.br hn,Nat.le_trans h.ps hn,Nat.le_trans h.an hn⟩
theorem PairAt.set_ (h:PairAt w b L p vb vp va ps) (i:Nat) (v:Value) {q:PairS} {ub:Value} (hc : #[.int .i64 L,.int .i64 p.st,.int .i64 p.beg,.int .i64 p.pau,vb,vp,va].setIfInBounds i v = #[.int .i64 L,.int .i64 q.st,.int .i64 q.beg,.int .i64 q.pau,ub,vp,va])
  (hq1:q.ps = p.ps) (hq2:q.an = p.an) (hb:(ub = vb∧q.br = p.br) ∨ (ub = .slice none 0 0∧q.br = [])) : PairAt (w.setCell ⟨b,i,none⟩ v) b L q ub vp va ps:=by
 have h1:=h.blk.set_ i v
 rw [hc] at h1
 refine ⟨h1,?_,h.op.far (by omega) i v,by rw [hq1]; exact h.ep,by rw [hq2]; exact h.oa.far (by omega) i v,fun x hx=>(h.ox x hx).far (by omega) i v,?_⟩
 ·
  rcases hb with ⟨rfl,hb⟩ | ⟨rfl,hb⟩
  ·
   rw [hb]; exact h.ob.far (by omega) i v
  ·
   rw [hb]; exact Own.nil_ _ _
 ·
  rcases hb with ⟨rfl,_⟩ | ⟨rfl,_⟩
  ·
   exact h.ne
  ·
   intro x _ g hg; cases hg
theorem PairAt.addAn {W:World} (h:PairAt w b L p vb vp va ps) (hb:Below w.heap.size w W) {A:Option Addr} {c:Nat} (y:AnomT) (hown:Own encAn 2 198 w' (b+1) (.slice A (p.an.length+1) c) (p.an++[y])) (hg:W.grownBy w' va.ownBlock) :
  PairAt (w'.setCell ⟨b,6,none⟩ (.slice A (p.an.length+1) c)) b L { p with an:=p.an++[y] } vb vp (.slice A (p.an.length+1) c) ps:=by
 have hW:=h.adv hb
 have hB:Blk w' b 134 _:=hW.blk.grown hg (fun e=>by have:=(hW.oa.block_lt e.symm).1; omega)
 refine ⟨hB.set_ 6 _,?_,?_,h.ep,hown.far (by omega) 6 _,fun x hx=>?_,h.ne⟩
 ·
  exact (hW.ob.keptNe hg (fun g hv he=>hW.ob.types hW.oa (by decide) hv he)).far (by omega) 6 _
 ·
  exact (hW.op.keptNe hg (fun g hv he=>hW.op.types hW.oa (by decide) hv he)).far (by omega) 6 _
 ·
  exact ((hW.ox x hx).keptNe hg (fun g hv he=>(hW.ox x hx).types hW.oa (by decide) hv he)).far (by omega) 6 _
theorem PairAt.addBr (h:PairAt w b L p vb vp va ps) {A:Option Addr} {c:Nat} (y:IvT) (hown:Own encIv 2 34 w' (b+1) (.slice A (p.br.length+1) c) (p.br++[y])) (hg:w.grownBy w' vb.ownBlock)
  (ha:(Value.slice A (p.br.length+1) c).ownBlock = vb.ownBlock ∨ ∃ q,w.heap.size≤q∧(Value.slice A (p.br.length+1) c).ownBlock = some q) :
  PairAt (w'.setCell ⟨b,4,none⟩ (.slice A (p.br.length+1) c)) b L { p with br:=p.br++[y] } (.slice A (p.br.length+1) c) vp va ps:=by
 have hB:Blk w' b 134 _:=h.blk.grown hg (fun e=>by have:=(h.ob.block_lt e.symm).1; omega)
 refine ⟨hB.set_ 4 _,hown.far (by omega) 4 _,?_,h.ep,?_,fun x hx=>?_,fun x hx g hv hx2=>?_⟩
 ·
  exact (h.op.keptNe hg (fun g hv he=>h.op.types h.ob (by decide) hv he)).far (by omega) 4 _
 ·
  exact (h.oa.keptNe hg (fun g hv he=>h.oa.types h.ob (by decide) hv he)).far (by omega) 4 _
 ·
  exact ((h.ox x hx).keptNe hg (fun g hv he=>h.ne x hx g he hv)).far (by omega) 4 _
 ·
  rcases ha with ha | ⟨q,hq,ha⟩
  ·
   rw [ha] at hv; exact h.ne x hx g hv hx2
  ·
   rw [ha] at hv
   injection hv with hv
   have:=(h.ox x hx).block_lt hx2
   omega
theorem PairAt.addPr {W:World} (h:PairAt w b L p vb vp va ps) (hb:Below w.heap.size w W) {A Ab : Option Addr} {c cb : Nat} {f t : Int} (hvb:vb = .slice Ab p.br.length cb) (hown:Own encPr 3 81 w' (b+1) (.slice A (ps.length+1) c) (ps++[⟨f,t,Ab,cb,p.br⟩])) (hg:W.grownBy w' vp.ownBlock) :
  PairAt (((w'.setCell ⟨b,5,none⟩ (.slice A (ps.length+1) c)).setCell ⟨b,1,none⟩ (.int .i64 0)).setCell ⟨b,4,none⟩ (.slice none 0 0)) b L { p with ps:=p.ps++[⟨⟨f,t⟩,p.br⟩],st:=0,br:=[] } (.slice none 0 0) (.slice A (ps.length+1) c) va (ps++[⟨f,t,Ab,cb,p.br⟩]):=by
 have hW:=h.adv hb
 have hB:Blk w' b 134 _:=hW.blk.grown hg (fun e=>by have:=(hW.op.block_lt e.symm).1; omega)
 refine ⟨((hB.set_ 5 _).set_ 1 _).set_ 4 _,Own.nil_ _ _,((hown.far (by omega) 5 _).far (by omega) 1 _).far (by omega) 4 _,by rw [List.map_append,h.ep]; rfl,?_,fun x hx=>?_,fun x _ g hv=>by cases hv⟩
 ·
  exact (((hW.oa.keptNe hg (fun g hv he=>hW.oa.types hW.op (by decide) hv he)).far (by omega) 5 _).far (by omega) 1 _).far (by omega) 4 _
 ·
  rcases List.mem_append.1 hx with hx | hx
  ·
   exact ((((hW.ox x hx).keptNe hg (fun g hv he=>(hW.ox x hx).types hW.op (by decide) hv he)).far (by omega) 5 _).far (by omega) 1 _).far (by omega) 4 _
  ·
   rw [List.mem_singleton] at hx
   subst hx
   have:=(((hW.ob.keptNe hg (fun g hv he=>hW.ob.types hW.op (by decide) hv he)).far (g:=b) (by omega) 5 (.slice A (ps.length+1) c)).far (g:=b) (by omega) 1 (.int .i64 0)).far (g:=b) (by omega) 4 (.slice none 0 0)
   rw [hvb] at this
   exact this
theorem PairB.rep (h:PairB L p n) (k t : Int) : PairB L (p.rep k t) (n+1):=⟨h.L,h.st,h.beg,h.pau,by have:=h.br; show p.br.length≤_; omega,by have:=h.ps; show p.ps.length≤_; omega,by have:=h.an; show (p.an++[_]).length≤_; simp; omega⟩
theorem PairB.enter (h:PairB L p n) {t:Int} (ht:0≤t∧t≤120968639) : PairB L (p.enter t) n:=⟨h.L,.inr (.inl rfl),ht,h.pau,Nat.zero_le _,h.ps,h.an⟩
theorem PairB.resume (h:PairB L p n) (t:Int) : PairB L (p.resume t) (n+1):=by
 refine ⟨h.L,.inr (.inl rfl),h.beg,h.pau,?_,by have:=h.ps; show p.ps.length≤_; omega,by have:=h.an; show p.an.length≤_; omega⟩
 have:=h.br
 unfold PairS.resume
 simp only
 split
 ·
  simp; omega
 ·
  omega
theorem PairB.leave (h:PairB L p n) (t:Int) : PairB L (p.leave L t) (n+1):=by
 have:=h.ps
 have:=h.an
 refine ⟨h.L,.inl rfl,h.beg,h.pau,Nat.zero_le _,?_,?_⟩
 ·
  unfold PairS.leave
  simp only
  split
  ·
   omega
  ·
   split
   ·
    simp; omega
   ·
    omega
 ·
  unfold PairS.leave
  simp only
  split
  ·
   simp; omega
  ·
   omega
theorem PairB.read (h:PairB L p n) {t:Int} (ht:0≤t∧t≤120968639) (k:Int) : PairB L (p.read L t k) (n+3):=by
 unfold PairS.read
 split
 ·
  split
  ·
   exact (h.enter ht).mono (by omega)
  ·
   exact (h.rep 2 t).mono (by omega)
 ·
  split
  ·
   exact ((h.rep 1 p.beg).enter ht).mono (by omega)
  ·
   split
   ·
    split
    ·
     exact (h.leave t).mono (by omega)
    ·
     split
     ·
      have h':=h.mono (show n≤n+3 by omega)
      exact ⟨h'.L,.inr (.inr rfl),h'.beg,ht,h'.br,h'.ps,h'.an⟩
     ·
      exact (h.rep 5 t).mono (by omega)
   ·
    split
    ·
     exact ((h.rep 4 p.pau).resume t).leave t
    ·
     split
     ·
      have h':=(h.rep 4 p.pau).mono (show n+1≤n+3 by omega)
      exact ⟨h'.L,h'.st,h'.beg,ht,h'.br,h'.ps,h'.an⟩
     ·
      exact (h.resume t).mono (by omega)
end
structure Step (b:Nat) (w w' : World) : Prop where
 bel:Below b w w'
 keep:∀ (q:Nat) (t:TypeId) (cs:Array Value),Blk w q t cs→q ≠ b→t ≠ 34→t ≠ 81→t ≠ 198→Blk w' q t cs
theorem Step.trans {b:Nat} {u w w' : World} (h:Step b u w) (k:Step b w w') : Step b u w':=⟨h.bel.trans k.bel,fun q t cs hq h1 h2 h3 h4=>k.keep q t cs (h.keep q t cs hq h1 h2 h3 h4) h1 h2 h3 h4⟩
theorem Step.adv {b:Nat} {w w' : World} (hb:b≤w.heap.size) (h:Below w.heap.size w w') : Step b w w':=⟨h.mono hb,fun _ _ _ hq _ _ _ _=>hq.adv h⟩
theorem Step.set (b:Nat) (w:World) (i:Nat) (v:Value) : Step b w (w.setCell ⟨b,i,none⟩ v):=⟨(Below.refl b w).setCell (p:=⟨b,i,none⟩) (Nat.le_refl b) v,fun _ _ _ hq h1 _ _ _=>hq.far h1 v⟩
theorem Step.row {α:Type} {enc:α→List Value} {k b : Nat} {e:TypeId} {w w' : World} {v:Value} {xs:List α} (h:Own enc k e w (b+1) v xs) (he:e = 34 ∨ e = 81 ∨ e = 198) (hb:b≤w.heap.size) (hg:w.grownBy w' v.ownBlock) : Step b w w' :=
 ⟨only_below hg hb (fun g hg=>by have:=(h.block_lt hg).1; omega),fun q t cs hq _ h2 h3 h4=>hq.grown hg (fun e'=>h.notBlk hq (by rcases he with rfl | rfl | rfl <;> exact Ne.symm (by assumption)) e'.symm)⟩
theorem eqPair (a c x y : Int) (w:World) : Sem.run Tryz.prog (binOp .eql 207 (.agg #[.int .i64 a,.int .i64 c]) (.agg #[.int .i64 x,.int .i64 y])) w = .ok (.bool (a == x && c == y)) w:=by
 have u0:=Tryz.underlying3
 have a0:=Tryz.isAgg3
 have z0:=Tryz.sizeOf3
 have hS:Tryz.prog.underlying 207 = some (.struct (Tryz.prog.fieldsOf 207)):=by kernel_rfl
 have hp:Tryz.prog.stoodInHeld 207 = false:=by kernel_rfl
 rw [run_eql_struct,show (10000:Nat) = 9999+1 from rfl,run_equalIn_agg w 9999 207 _ _ hS hp]
 simp only [Program.fieldsOf,Tryz.underlying207]
 by_cases h1:a = x
 ·
  subst h1
  by_cases h2:c = y
  ·
   subst h2
   go_simp
  ·
   go_simp
 ·
  go_simp
section
set_option maxHeartbeats 2000000
set_option maxRecDepth 100000
theorem reportP (b n : Nat) (L k t : Int) (p:PairS) (w:World) (h:PairIn w b L p) (hB:PairB L p n) (hn:n≤100000) :
  Calls Tryz.prog 47 #[.pointer (some ⟨b,0,none⟩),.int .i64 k,.int .i64 t] w fun e w'=>e = .returned (.tuple #[])∧PairIn w' b L (p.rep k t)∧Step b w w':=by
 obtain ⟨vb,vp,va,ps,h⟩:=h
 have HH:=Lib.hid h
 have hlt:=h.blk.lt
 have hal:=hB.an
 obtain ⟨A,c,rfl⟩:=h.oa.slice encAn_len
 have hblk:=h.blk
 have z0:=hblk.cell 0
 have z1:=hblk.cell 1
 have z2:=hblk.cell 2
 have z3:=hblk.cell 3
 have z4:=hblk.cell 4
 have z5:=hblk.cell 5
 have z6:=hblk.cell 6
 simp only [nqg,nqh,nqi] at z0 z1 z2 z3 z4 z5 z6
 have f0:=hblk.frozen 0
 have f1:=hblk.frozen 1
 have f2:=hblk.frozen 2
 have f3:=hblk.frozen 3
 have f4:=hblk.frozen 4
 have f5:=hblk.frozen 5
 have f6:=hblk.frozen 6
 have HO:=Lib.hid h.oa
 clear h hblk
 go_enter Tryz.func47,Tryz.ntmps47
 go_wp2_with (at_builtin; (refine wpList_append_one_at _ _ 60 ⟨k,t⟩ _ 16 _ infoAn Tryz.underlying60 HO.out encAn_len (by omega) rfl (encAn_one _) (by omega) (by omega) (by omega) (by rfl) (by rfl) (by rfl) (by rfl) (by simp) (by rfl) ?_); intro v2 w6 hown6 hg6 _; obtain ⟨A2,c2,hv2⟩:=hown6.slice encAn_len; rw [List.length_append,List.length_singleton] at hv2; subst hv2; have hB6:=(HH.out.blk).grown hg6 (fun e=>(by have:=(HO.out.block_lt e.symm).1; omega)); have p0:=hB6.cell 0; have p1:=hB6.cell 1; have p2:=hB6.cell 2; have p3:=hB6.cell 3; have p4:=hB6.cell 4; have p5:=hB6.cell 5; have p6:=hB6.cell 6; simp only [nqg,nqh,nqi] at p0 p1 p2 p3 p4 p5 p6; have g0:=hB6.frozen 0; have g1:=hB6.frozen 1; have g2:=hB6.frozen 2; have g3:=hB6.frozen 3; have g4:=hB6.frozen 4; have g5:=hB6.frozen 5; have g6:=hB6.frozen 6)
 go_end0
 refine ⟨rfl,⟨vb,vp,_,ps,HH.out.addAn (Below.refl _ _) ⟨k,t⟩ hown6 hg6⟩,?_⟩
 exact (Step.row HO.out (.inr (.inr rfl)) (by omega) hg6).trans (Step.set b _ 6 _)
theorem enterP (b:Nat) (L t : Int) (p:PairS) (w:World) (h:PairIn w b L p) :
  Calls Tryz.prog 83 #[.pointer (some ⟨b,0,none⟩),.int .i64 t] w fun e w'=>e = .returned (.tuple #[])∧PairIn w' b L (p.enter t)∧Step b w w':=by
 obtain ⟨vb,vp,va,ps,h⟩:=h
 have HH:=Lib.hid h
 have hlt:=h.blk.lt
 obtain ⟨A,c,rfl⟩:=h.ob.slice encIv_len
 have hblk:=h.blk
 have z0:=hblk.cell 0
 have z1:=hblk.cell 1
 have z2:=hblk.cell 2
 have z3:=hblk.cell 3
 have z4:=hblk.cell 4
 have z5:=hblk.cell 5
 have z6:=hblk.cell 6
 simp only [nqg,nqh,nqi] at z0 z1 z2 z3 z4 z5 z6
 have f0:=hblk.frozen 0
 have f1:=hblk.frozen 1
 have f2:=hblk.frozen 2
 have f3:=hblk.frozen 3
 have f4:=hblk.frozen 4
 have f5:=hblk.frozen 5
 have f6:=hblk.frozen 6
 clear h hblk
 go_enter Tryz.func83,Tryz.ntmps83
 go_wp2
 go_end0
 refine ⟨rfl,⟨_,vp,va,ps,((HH.out.set_ 1 (.int .i64 1) (q:={ p with st:=1 }) rfl rfl rfl (.inl ⟨rfl,rfl⟩)).set_ 2 (.int .i64 t) (q:={ p with st:=1,beg:=t }) rfl rfl rfl (.inl ⟨rfl,rfl⟩)).set_ 4 (.slice none 0 0) (q:=p.enter t) (ub:=.slice none 0 0) rfl rfl rfl (.inr ⟨rfl,rfl⟩)⟩,?_⟩
 exact ((Step.set b _ 1 _).trans (Step.set b _ 2 _)).trans (Step.set b _ 4 _)
theorem resumeP (b n : Nat) (L t : Int) (p:PairS) (w:World) (h:PairIn w b L p) (hB:PairB L p n) (hn:n≤100000) :
  Calls Tryz.prog 85 #[.pointer (some ⟨b,0,none⟩),.int .i64 t] w fun e w'=>e = .returned (.tuple #[])∧PairIn w' b L (p.resume t)∧Step b w w':=by
 obtain ⟨vb,vp,va,ps,h⟩:=h
 have HH:=Lib.hid h
 have hlt:=h.blk.lt
 have hbl:=hB.br
 obtain ⟨A,c,rfl⟩:=h.ob.slice encIv_len
 have hblk:=h.blk
 have hgn:(Value.slice A p.br.length c).ownBlock ≠ some b:=fun he=>by have:=(h.ob.block_lt he).1; omega
 have z0:=hblk.cell 0
 have z1:=hblk.cell 1
 have z2:=hblk.cell 2
 have z3:=hblk.cell 3
 have z4:=hblk.cell 4
 have z5:=hblk.cell 5
 have z6:=hblk.cell 6
 simp only [nqg,nqh,nqi] at z0 z1 z2 z3 z4 z5 z6
 have f0:=hblk.frozen 0
 have f1:=hblk.frozen 1
 have f2:=hblk.frozen 2
 have f3:=hblk.frozen 3
 have f4:=hblk.frozen 4
 have f5:=hblk.frozen 5
 have f6:=hblk.frozen 6
 clear h hblk
 by_cases hc:p.pau < t
 ·
  go_enter Tryz.func85,Tryz.ntmps85
  go_wp2
  refine wp_region_app (aE:=?aEA) (enc:=encIv) (e:=34) [0,1,2,3,4,5,6,7,8,9,10] 11 12 13 14 15 ⟨p.pau,t⟩ (b) 4 (.tmp 14) 79 16 _ (.pointer (some ⟨b,0,none⟩)) (by kernel_rfl) (by kernel_rfl) rfl (by kernel_rfl) (by rfl) rfl (by kernel_rfl) (by kernel_rfl) (by kernel_rfl) (by kernel_rfl) (by kernel_rfl) (by kernel_rfl) rfl rfl rfl rfl rfl rfl rfl rfl rfl rfl rfl rfl rfl rfl rfl rfl infoIv Tryz.underlying79 HH.out.ob HH.out.blk encIv_len (by omega) rfl (encIv_one _) (by omega) (by omega) (by omega) hgn ?HA ?EaA ?EsA ?E1A ?E2A ?ExA ?MA
  case HA =>
   intro F hF inst
   simp only [M3.opsAt,List.getElem?_toArray,List.getElem?_cons_zero,List.getElem?_cons_succ]
   have e3:=BwC.cellG (F:=F) (a:=⟨b,3,none⟩) (by exact hlt) hgn z3
   have e4:=BwC.cellG (F:=F) (a:=⟨b,4,none⟩) (by exact hlt) hgn z4
   repeat (first | go_big_quiet_step (first | fail) | quiet_step (first | fail))
   refine wpQuiet_nil ?_
   rfl
  case EaA=>exact fun _=>by first | rfl | (go_simp; done) | (go_simp; rfl)
  case EsA=>exact fun _=>⟨rfl,rfl⟩
  case E1A=>exact fun _ _ _=>by first | rfl | go_simp
  case E2A=>exact fun _ _ _=>by first | rfl | go_simp
  case ExA =>
   intro uq Aq nq cq wq hBq
   have cq0:=hBq.cell 4
   have fq0:=hBq.frozen 4
   simp only [nqg,nqh,nqi] at cq0
   go_simp
  case MA =>
   intro u A2 c2 w2 hown2 hg2 halt
   try simp only [Act.put,List.setIfInBounds_toArray,List.set_cons_succ,List.set_cons_zero]
   have hP:=HH.out.addBr ⟨p.pau,t⟩ hown2 hg2 halt
   have hB2:=hP.blk
   have HP:=Lib.hid hP
   have y0:=hB2.cell 0
   have y1:=hB2.cell 1
   have y2:=hB2.cell 2
   have y3:=hB2.cell 3
   have y4:=hB2.cell 4
   have y5:=hB2.cell 5
   have y6:=hB2.cell 6
   simp only [nqg,nqh,nqi] at y0 y1 y2 y3 y4 y5 y6
   have g0:=hB2.frozen 0
   have g1:=hB2.frozen 1
   have g2:=hB2.frozen 2
   have g3:=hB2.frozen 3
   have g4:=hB2.frozen 4
   have g5:=hB2.frozen 5
   have g6:=hB2.frozen 6
   clear hP hB2
   go_wp2
   go_end0
   refine ⟨rfl,⟨_,vp,va,ps,HP.out.set_ 1 (.int .i64 1) (q:=p.resume t) (by unfold PairS.resume; rfl) rfl rfl (.inl ⟨rfl,by unfold PairS.resume; rw [if_pos hc]⟩)⟩,?_⟩
   exact ((Step.row HH.out.ob (.inl rfl) (by omega) hg2).trans (Step.set b _ 4 _)).trans (Step.set b _ 1 _)
 ·
  go_enter Tryz.func85,Tryz.ntmps85
  go_wp2
  go_end0
  refine ⟨rfl,⟨_,vp,va,ps,HH.out.set_ 1 (.int .i64 1) (q:=p.resume t) (by unfold PairS.resume; rfl) rfl rfl (.inl ⟨rfl,by unfold PairS.resume; rw [if_neg (by omega)]⟩)⟩,?_⟩
  exact Step.set b _ 1 _
theorem leaveP (b n : Nat) (L t : Int) (p:PairS) (w:World) (h:PairIn w b L p) (hB:PairB L p n) (hn:n≤100000) (ht:0≤t∧t≤120968639) :
  Calls Tryz.prog 84 #[.pointer (some ⟨b,0,none⟩),.int .i64 t] w fun e w'=>e = .returned (.tuple #[])∧PairIn w' b L (p.leave L t)∧Step b w w':=by
 have hPI:=Lib.hid h
 obtain ⟨vb,vp,va,ps,h⟩:=h
 have HH:=Lib.hid h
 have hlt:=h.blk.lt
 have hbl:=hB.br
 have hpl:ps.length≤n:=by have:=hB.ps; rw [← h.ep,List.length_map] at this; exact this
 obtain ⟨Lb1,Lb2⟩:=hB.L
 obtain ⟨bb1,bb2⟩:=hB.beg
 obtain ⟨t1,t2⟩:=ht
 obtain ⟨A,c,rfl⟩:=h.ob.slice encIv_len
 obtain ⟨Ap,cp,rfl⟩:=h.op.slice encPr_len
 have hblk:=h.blk
 have hgn:(Value.slice Ap ps.length cp).ownBlock ≠ some b:=fun he=>by have:=(h.op.block_lt he).1; omega
 have hwr:IntKind.i64.wrap (t - p.beg) = t - p.beg:=wrap_in (by omega) (by omega)
 have HB:=Lib.hid hB
 have z0:=hblk.cell 0
 have z1:=hblk.cell 1
 have z2:=hblk.cell 2
 have z3:=hblk.cell 3
 have z4:=hblk.cell 4
 have z5:=hblk.cell 5
 have z6:=hblk.cell 6
 simp only [nqg,nqh,nqi] at z0 z1 z2 z3 z4 z5 z6
 have f0:=hblk.frozen 0
 have f1:=hblk.frozen 1
 have f2:=hblk.frozen 2
 have f3:=hblk.frozen 3
 have f4:=hblk.frozen 4
 have f5:=hblk.frozen 5
 have f6:=hblk.frozen 6
 clear h hblk hB
 by_cases hL:L < t - p.beg
 ·
  have hq:p.leave L t = { p.rep 3 p.beg with st:=0,br:=[] }:=by unfold PairS.leave PairS.rep; rw [if_pos hL,if_pos hL]
  have HQ:=Lib.hid hq
  clear hq
  go_enter Tryz.func84,Tryz.ntmps84
  go_wp2
  go_quiet (fail)
  go_wp2_with fail
  refine (reportP b n L 3 p.beg p _ (hPI.out.adv (below_drewN (Below.refl _ _) _)) HB.out hn).mono ?_
  rintro e w1 ⟨rfl,⟨vb2,vp2,va2,ps2,hP⟩,hb1⟩
  have HP:=Lib.hid hP
  have hB2:=hP.blk
  obtain ⟨A2,c2,rfl⟩:=hP.ob.slice encIv_len
  have y0:=hB2.cell 0
  have y1:=hB2.cell 1
  have y2:=hB2.cell 2
  have y3:=hB2.cell 3
  have y4:=hB2.cell 4
  have y5:=hB2.cell 5
  have y6:=hB2.cell 6
  simp only [nqg,nqh,nqi] at y0 y1 y2 y3 y4 y5 y6
  have g0:=hB2.frozen 0
  have g1:=hB2.frozen 1
  have g2:=hB2.frozen 2
  have g3:=hB2.frozen 3
  have g4:=hB2.frozen 4
  have g5:=hB2.frozen 5
  have g6:=hB2.frozen 6
  clear hP hB2
  have hbb:=(Step.adv (Nat.le_of_lt hlt) (below_drewN (Below.refl _ _) nq)).trans hb1
  clear hb1
  go_wp2
  go_end0
  refine ⟨rfl,⟨_,_,_,_,(HP.out.set_ 1 (.int .i64 0) (q:={ p.rep 3 p.beg with st:=0 }) rfl rfl rfl (.inl ⟨rfl,rfl⟩)).set_ 4 (.slice none 0 0) (q:=p.leave L t) (ub:=.slice none 0 0) (by rw [HQ.out]; rfl) (by rw [HQ.out]) (by rw [HQ.out]) (.inr ⟨rfl,by rw [HQ.out]⟩)⟩,?_⟩
  exact (hbb.trans (Step.set b _ 1 _)).trans (Step.set b _ 4 _)
 ·
  by_cases hc:p.beg < t
  ·
   have hq:p.leave L t = { p with ps:=p.ps++[⟨⟨p.beg,t⟩,p.br⟩],st:=0,br:=[] }:=by unfold PairS.leave; rw [if_neg hL,if_neg hL,if_pos hc]
   have HQ:=Lib.hid hq
   clear hq
   go_enter Tryz.func84,Tryz.ntmps84
   go_wp2
   go_quiet (fail)
   have hb0:Below w.heap.size w (w.drewN nq):=below_drewN (Below.refl _ _) nq
   have hH1:=HH.out.adv hb0
   generalize w.drewN nq = w1 at hb0 hH1 ⊢
   have hlt1:=hH1.blk.lt
   have hB1:=hH1.blk
   have H1:=Lib.hid hH1
   have m0:=hB1.cell 0
   have m1:=hB1.cell 1
   have m2:=hB1.cell 2
   have m3:=hB1.cell 3
   have m4:=hB1.cell 4
   have m5:=hB1.cell 5
   have m6:=hB1.cell 6
   simp only [nqg,nqh,nqi] at m0 m1 m2 m3 m4 m5 m6
   clear hB1 hH1 z0 z1 z2 z3 z4 z5 z6 f0 f1 f2 f3 f4 f5 f6
   go_wp2
   have hbx:Below w.heap.size w (w1.alloc (.cells #[.int .i64 p.beg,.int .i64 t] 34)):=bel_alloc hb0 _
   have hBX:=Blk.new w1 34 #[.int .i64 p.beg,.int .i64 t]
   have HX:=H1.out.adv (below_new w1 (.cells #[.int .i64 p.beg,.int .i64 t] 34))
   have hHX:=Lib.hid HX
   have hgx:(Value.slice Ap ps.length cp).ownBlock ≠ some w1.heap.size:=fun he=>by have:=(H1.out.op.block_lt he).2; omega
   have hBL:b < (w1.alloc (.cells #[.int .i64 p.beg,.int .i64 t] 34)).heap.size:=by simp; omega
   have hBLx:w1.heap.size < (w1.alloc (.cells #[.int .i64 p.beg,.int .i64 t] 34)).heap.size:=by simp
   have hBW:=HX.blk
   have y0:=hBW.cell 0
   have y1:=hBW.cell 1
   have y2:=hBW.cell 2
   have y3:=hBW.cell 3
   have y4:=hBW.cell 4
   have y5:=hBW.cell 5
   have y6:=hBW.cell 6
   simp only [nqg,nqh,nqi] at y0 y1 y2 y3 y4 y5 y6
   have x0:=hBX.cell 0
   have x1:=hBX.cell 1
   simp only [nqg,nqh,nqi] at x0 x1
   have hsz:b+1≤(w1.alloc (.cells #[.int .i64 p.beg,.int .i64 t] 34)).heap.size:=by simp; omega
   clear HX hBW hBX m0 m1 m2 m3 m4 m5 m6
   refine wp_region_app (aE:=?aEA) (enc:=encPr) (e:=81) [0,1,2,3,4,5,6,7,8,9,10] 11 12 13 14 15 ⟨p.beg,t,A,c,p.br⟩ (b) 5 (.tmp 38) 75 40 _ (.pointer (some ⟨b,0,none⟩)) (by kernel_rfl) (by kernel_rfl) rfl (by kernel_rfl) (by rfl) rfl (by kernel_rfl) (by kernel_rfl) (by kernel_rfl) (by kernel_rfl) (by kernel_rfl) (by kernel_rfl) rfl rfl rfl rfl rfl rfl rfl rfl rfl rfl rfl rfl rfl rfl rfl rfl infoPr Tryz.underlying75 hHX.out.op hHX.out.blk encPr_len (by omega) rfl (encPr_one _) (by omega) (by omega) (by omega) hgn ?HA ?EaA ?EsA ?E1A ?E2A ?ExA ?MA
   case HA =>
    intro F hF inst
    simp only [M3.opsAt,List.getElem?_toArray,List.getElem?_cons_zero,List.getElem?_cons_succ]
    have e4:=BwC.cellG (F:=F) (a:=⟨b,4,none⟩) (by exact hBL) hgn y4
    have e5:=BwC.cellG (F:=F) (a:=⟨b,5,none⟩) (by exact hBL) hgn y5
    have d0:=BwC.cellG (F:=F) (a:=⟨w1.heap.size,0,none⟩) (by exact hBLx) hgx x0
    have d1:=BwC.cellG (F:=F) (a:=⟨w1.heap.size,1,none⟩) (by exact hBLx) hgx x1
    repeat (first | go_big_quiet_step (first | fail) | quiet_step (first | fail))
    refine wpQuiet_nil ?_
    rfl
   case EaA=>exact fun _=>by first | rfl | (go_simp; done) | (go_simp; rfl)
   case EsA=>exact fun _=>⟨rfl,rfl⟩
   case E1A=>exact fun _ _ _=>by first | rfl | go_simp
   case E2A=>exact fun _ _ _=>by first | rfl | go_simp
   case ExA =>
    intro uq Aq nq cq wq hBq
    have cq0:=hBq.cell 5
    have fq0:=hBq.frozen 5
    simp only [nqg,nqh,nqi] at cq0
    go_simp
   case MA =>
    intro u A2 c2 w2 hown2 hg2 halt
    try simp only [Act.put,List.setIfInBounds_toArray,List.set_cons_succ,List.set_cons_zero]
    have hP:=hHX.out.addPr (Below.refl _ _) rfl hown2 hg2
    have HP:=Lib.hid hP
    have hB2:=(hHX.out.blk.grown hg2 (fun e=>hgn e.symm)).set_ 5 (.slice A2 (ps.length+1) c2)
    have hBB:=(Step.adv (Nat.le_of_lt hlt) hbx).trans (Step.row hHX.out.op (.inr (.inl rfl)) (by omega) hg2)
    have hB2:Blk (w2.setCell ⟨b,5,none⟩ (.slice A2 (ps.length+1) c2)) b 134 #[.int .i64 L,.int .i64 p.st,.int .i64 p.beg,.int .i64 p.pau,.slice A p.br.length c,.slice A2 (ps.length+1) c2,va]:=hB2
    have q0:=hB2.cell 0
    have q1:=hB2.cell 1
    have q2:=hB2.cell 2
    have q3:=hB2.cell 3
    have q4:=hB2.cell 4
    have q5:=hB2.cell 5
    have q6:=hB2.cell 6
    simp only [nqg,nqh,nqi] at q0 q1 q2 q3 q4 q5 q6
    have g0:=hB2.frozen 0
    have g1:=hB2.frozen 1
    have g2:=hB2.frozen 2
    have g3:=hB2.frozen 3
    have g4:=hB2.frozen 4
    have g5:=hB2.frozen 5
    have g6:=hB2.frozen 6
    clear hP hB2
    go_wp2
    go_end0
    refine ⟨rfl,⟨_,_,_,_,by rw [HQ.out]; exact HP.out⟩,?_⟩
    exact ((hBB.trans (Step.set b _ 5 _)).trans (Step.set b _ 1 _)).trans (Step.set b _ 4 _)
  ·
   have hq:p.leave L t = { p with st:=0,br:=[] }:=by unfold PairS.leave; rw [if_neg hL,if_neg hL,if_neg hc]
   have HQ:=Lib.hid hq
   clear hq
   go_enter Tryz.func84,Tryz.ntmps84
   go_wp2
   go_quiet (fail)
   go_wp2
   go_end0
   refine ⟨rfl,⟨_,_,_,_,((HH.out.adv (below_drewN (Below.refl _ _) nq)).set_ 1 (.int .i64 0) (q:={ p with st:=0 }) rfl rfl rfl (.inl ⟨rfl,rfl⟩)).set_ 4 (.slice none 0 0) (q:=p.leave L t) (ub:=.slice none 0 0) (by rw [HQ.out]; rfl) (by rw [HQ.out]) (by rw [HQ.out]) (.inr ⟨rfl,by rw [HQ.out]⟩)⟩,?_⟩
   exact ((Step.adv (Nat.le_of_lt hlt) (below_drewN (Below.refl _ _) nq)).trans (Step.set b _ 1 _)).trans (Step.set b _ 4 _)
theorem readP (b n : Nat) (L t k kt ks : Int) (p:PairS) (w:World) (h:PairIn w b L p) (hB:PairB L p n) (hn:n≤90000) (ht:0≤t∧t≤120968639) (hk:1≤k∧k≤4) :
  Calls Tryz.prog 46 #[.pointer (some ⟨b,0,none⟩),.agg #[.int .i64 t,.int .i64 k,.int .i64 kt,.int .i64 ks]] w fun e w'=>e = .returned (.tuple #[])∧PairIn w' b L (p.read L t k)∧Step b w w':=by
 have hPI:=Lib.hid h
 have hlt:=h.lt
 have HB:=Lib.hid hB
 obtain ⟨vb,vp,va,ps,h⟩:=h
 have hblk:=h.blk
 have hk4:k = 1 ∨ k = 2 ∨ k = 3 ∨ k = 4:=by omega
 have hst3:=hB.st
 have z0:=hblk.cell 0
 have z1:=hblk.cell 1
 have z2:=hblk.cell 2
 have z3:=hblk.cell 3
 have z4:=hblk.cell 4
 have z5:=hblk.cell 5
 have z6:=hblk.cell 6
 simp only [nqg,nqh,nqi] at z0 z1 z2 z3 z4 z5 z6
 have f0:=hblk.frozen 0
 have f1:=hblk.frozen 1
 have f2:=hblk.frozen 2
 have f3:=hblk.frozen 3
 have f4:=hblk.frozen 4
 have f5:=hblk.frozen 5
 have f6:=hblk.frozen 6
 clear h hblk hB hk
 rcases hk4 with rfl | rfl | rfl | rfl <;> rcases hst3 with hst | hst | hst
 ·
  have hpr:p.read L t 1 = p.enter t:=by unfold PairS.read; rw [hst]; rfl
  have HPR:=Lib.hid hpr
  have HST:=Lib.hid hst
  have hq:=fun (x y:Int) (w:World)=>eqPair 0 1 x y w
  have hBx:=Blk.new w 127 #[.int .i64 t,.int .i64 1,.int .i64 kt,.int .i64 ks]
  have hb0:=below_new w (.cells #[.int .i64 t,.int .i64 1,.int .i64 kt,.int .i64 ks] 127)
  have hP0:=hPI.out.adv hb0
  have hS0:Step b w (w.alloc (.cells #[.int .i64 t,.int .i64 1,.int .i64 kt,.int .i64 ks] 127)):=Step.adv (Nat.le_of_lt hlt) hb0
  have HP:=Lib.hid hP0
  obtain ⟨vb0,vp0,va0,ps0,hA0⟩:=hP0
  have hy0:=hA0.blk
  have y0:=hy0.cell 0
  have y1:=hy0.cell 1
  have y2:=hy0.cell 2
  have y3:=hy0.cell 3
  have y4:=hy0.cell 4
  have y5:=hy0.cell 5
  have y6:=hy0.cell 6
  simp only [nqg,nqh,nqi] at y0 y1 y2 y3 y4 y5 y6
  have x0:=hBx.cell 0
  have x1:=hBx.cell 1
  have x2:=hBx.cell 2
  have x3:=hBx.cell 3
  simp only [nqg,nqh,nqi] at x0 x1 x2 x3
  rw [hst] at y1
  have HBX:=Lib.hid hBx
  have HS:=Lib.hid hS0
  clear hpr hst hBx hb0 hS0 hA0 hy0
  go_enter Tryz.func46,Tryz.ntmps46
  go_wp2
  go_quiet (fail)
  have hbq:Below (w.alloc (.cells #[.int .i64 t,.int .i64 1,.int .i64 kt,.int .i64 ks] 127)).heap.size (w.alloc (.cells #[.int .i64 t,.int .i64 1,.int .i64 kt,.int .i64 ks] 127)) ((w.alloc (.cells #[.int .i64 t,.int .i64 1,.int .i64 kt,.int .i64 ks] 127)).drewN nq):=below_drewN (Below.refl _ _) nq
  have hP1:=HP.out.adv hbq
  have hBx1:=HBX.out.adv hbq
  have hS1:=HS.out.trans (Step.adv (by simp; omega) hbq)
  generalize ((w.alloc (.cells #[.int .i64 t,.int .i64 1,.int .i64 kt,.int .i64 ks] 127)).drewN nq) = w1 at hP1 hBx1 hS1 ⊢
  have HP1:=Lib.hid hP1
  have HBX1:=Lib.hid hBx1
  have HS1:=Lib.hid hS1
  obtain ⟨vb1,vp1,va1,ps1,hA1⟩:=hP1
  have hy1:=hA1.blk
  clear y0 y1 y2 y3 y4 y5 y6 x0 x1 x2 x3
  have y0:=hy1.cell 0
  have y1:=hy1.cell 1
  have y2:=hy1.cell 2
  have y3:=hy1.cell 3
  have y4:=hy1.cell 4
  have y5:=hy1.cell 5
  have y6:=hy1.cell 6
  simp only [nqg,nqh,nqi] at y0 y1 y2 y3 y4 y5 y6
  have g0:=hy1.frozen 0
  have g1:=hy1.frozen 1
  have g2:=hy1.frozen 2
  have g3:=hy1.frozen 3
  have g4:=hy1.frozen 4
  have g5:=hy1.frozen 5
  have g6:=hy1.frozen 6
  have x0:=hBx1.cell 0
  have x1:=hBx1.cell 1
  have x2:=hBx1.cell 2
  have x3:=hBx1.cell 3
  simp only [nqg,nqh,nqi] at x0 x1 x2 x3
  rw [HST.out] at y1
  have HA1:=Lib.hid hA1
  clear hA1 hy1 hBx1 hS1 hbq HBX HP HS z0 z1 z2 z3 z4 z5 z6 f0 f1 f2 f3 f4 f5 f6
  go_wp2_with fail
  refine (enterP b L t (p) _ HP1.out).mono ?_
  rintro e w2 ⟨rfl,hP2,hS2⟩
  have HP2:=Lib.hid hP2
  have hBx2:=hS2.keep _ _ _ HBX1.out (by omega) (by decide) (by decide) (by decide)
  have HBX2:=Lib.hid hBx2
  have HS2:=Lib.hid (HS1.out.trans hS2)
  clear x0 x1 x2 x3 y0 y1 y2 y3 y4 y5 y6 g0 g1 g2 g3 g4 g5 g6
  obtain ⟨vb2,vp2,va2,ps2,hA2⟩:=hP2
  have hy2:=hA2.blk
  have y0:=hy2.cell 0
  have y1:=hy2.cell 1
  have y2:=hy2.cell 2
  have y3:=hy2.cell 3
  have y4:=hy2.cell 4
  have y5:=hy2.cell 5
  have y6:=hy2.cell 6
  simp only [nqg,nqh,nqi] at y0 y1 y2 y3 y4 y5 y6
  have g0:=hy2.frozen 0
  have g1:=hy2.frozen 1
  have g2:=hy2.frozen 2
  have g3:=hy2.frozen 3
  have g4:=hy2.frozen 4
  have g5:=hy2.frozen 5
  have g6:=hy2.frozen 6
  have x0:=hBx2.cell 0
  have x1:=hBx2.cell 1
  have x2:=hBx2.cell 2
  have x3:=hBx2.cell 3
  simp only [nqg,nqh,nqi] at x0 x1 x2 x3
  have HA2:=Lib.hid hA2
  clear hA2 hy2 hBx2 hS2
  go_wp2
  go_end0
  exact ⟨rfl,by rw [HPR.out]; exact HP2.out,HS2.out⟩
 ·
  have hpr:p.read L t 1 = (p.rep 1 p.beg).enter t:=by unfold PairS.read; rw [hst]; rfl
  have HPR:=Lib.hid hpr
  have HST:=Lib.hid hst
  have hq:=fun (x y:Int) (w:World)=>eqPair 1 1 x y w
  have hBx:=Blk.new w 127 #[.int .i64 t,.int .i64 1,.int .i64 kt,.int .i64 ks]
  have hb0:=below_new w (.cells #[.int .i64 t,.int .i64 1,.int .i64 kt,.int .i64 ks] 127)
  have hP0:=hPI.out.adv hb0
  have hS0:Step b w (w.alloc (.cells #[.int .i64 t,.int .i64 1,.int .i64 kt,.int .i64 ks] 127)):=Step.adv (Nat.le_of_lt hlt) hb0
  have HP:=Lib.hid hP0
  obtain ⟨vb0,vp0,va0,ps0,hA0⟩:=hP0
  have hy0:=hA0.blk
  have y0:=hy0.cell 0
  have y1:=hy0.cell 1
  have y2:=hy0.cell 2
  have y3:=hy0.cell 3
  have y4:=hy0.cell 4
  have y5:=hy0.cell 5
  have y6:=hy0.cell 6
  simp only [nqg,nqh,nqi] at y0 y1 y2 y3 y4 y5 y6
  have x0:=hBx.cell 0
  have x1:=hBx.cell 1
  have x2:=hBx.cell 2
  have x3:=hBx.cell 3
  simp only [nqg,nqh,nqi] at x0 x1 x2 x3
  rw [hst] at y1
  have HBX:=Lib.hid hBx
  have HS:=Lib.hid hS0
  clear hpr hst hBx hb0 hS0 hA0 hy0
  go_enter Tryz.func46,Tryz.ntmps46
  go_wp2
  go_quiet (fail)
  have hbq:Below (w.alloc (.cells #[.int .i64 t,.int .i64 1,.int .i64 kt,.int .i64 ks] 127)).heap.size (w.alloc (.cells #[.int .i64 t,.int .i64 1,.int .i64 kt,.int .i64 ks] 127)) ((w.alloc (.cells #[.int .i64 t,.int .i64 1,.int .i64 kt,.int .i64 ks] 127)).drewN nq):=below_drewN (Below.refl _ _) nq
  have hP1:=HP.out.adv hbq
  have hBx1:=HBX.out.adv hbq
  have hS1:=HS.out.trans (Step.adv (by simp; omega) hbq)
  generalize ((w.alloc (.cells #[.int .i64 t,.int .i64 1,.int .i64 kt,.int .i64 ks] 127)).drewN nq) = w1 at hP1 hBx1 hS1 ⊢
  have HP1:=Lib.hid hP1
  have HBX1:=Lib.hid hBx1
  have HS1:=Lib.hid hS1
  obtain ⟨vb1,vp1,va1,ps1,hA1⟩:=hP1
  have hy1:=hA1.blk
  clear y0 y1 y2 y3 y4 y5 y6 x0 x1 x2 x3
  have y0:=hy1.cell 0
  have y1:=hy1.cell 1
  have y2:=hy1.cell 2
  have y3:=hy1.cell 3
  have y4:=hy1.cell 4
  have y5:=hy1.cell 5
  have y6:=hy1.cell 6
  simp only [nqg,nqh,nqi] at y0 y1 y2 y3 y4 y5 y6
  have g0:=hy1.frozen 0
  have g1:=hy1.frozen 1
  have g2:=hy1.frozen 2
  have g3:=hy1.frozen 3
  have g4:=hy1.frozen 4
  have g5:=hy1.frozen 5
  have g6:=hy1.frozen 6
  have x0:=hBx1.cell 0
  have x1:=hBx1.cell 1
  have x2:=hBx1.cell 2
  have x3:=hBx1.cell 3
  simp only [nqg,nqh,nqi] at x0 x1 x2 x3
  rw [HST.out] at y1
  have HA1:=Lib.hid hA1
  clear hA1 hy1 hBx1 hS1 hbq HBX HP HS z0 z1 z2 z3 z4 z5 z6 f0 f1 f2 f3 f4 f5 f6
  go_wp2_with fail
  refine (reportP b _ L 1 p.beg (p) _ HP1.out (HB.out) (by omega)).mono ?_
  rintro e w2 ⟨rfl,hP2,hS2⟩
  have HP2:=Lib.hid hP2
  have hBx2:=hS2.keep _ _ _ HBX1.out (by omega) (by decide) (by decide) (by decide)
  have HBX2:=Lib.hid hBx2
  have HS2:=Lib.hid (HS1.out.trans hS2)
  clear x0 x1 x2 x3 y0 y1 y2 y3 y4 y5 y6 g0 g1 g2 g3 g4 g5 g6
  obtain ⟨vb2,vp2,va2,ps2,hA2⟩:=hP2
  have hy2:=hA2.blk
  have y0:=hy2.cell 0
  have y1:=hy2.cell 1
  have y2:=hy2.cell 2
  have y3:=hy2.cell 3
  have y4:=hy2.cell 4
  have y5:=hy2.cell 5
  have y6:=hy2.cell 6
  simp only [nqg,nqh,nqi] at y0 y1 y2 y3 y4 y5 y6
  have g0:=hy2.frozen 0
  have g1:=hy2.frozen 1
  have g2:=hy2.frozen 2
  have g3:=hy2.frozen 3
  have g4:=hy2.frozen 4
  have g5:=hy2.frozen 5
  have g6:=hy2.frozen 6
  have x0:=hBx2.cell 0
  have x1:=hBx2.cell 1
  have x2:=hBx2.cell 2
  have x3:=hBx2.cell 3
  simp only [nqg,nqh,nqi] at x0 x1 x2 x3
  have HA2:=Lib.hid hA2
  clear hA2 hy2 hBx2 hS2
  go_wp2_with fail
  refine (enterP b L t ((p).rep 1 p.beg) _ HP2.out).mono ?_
  rintro e w3 ⟨rfl,hP3,hS3⟩
  have HP3:=Lib.hid hP3
  have hBx3:=hS3.keep _ _ _ HBX2.out (by omega) (by decide) (by decide) (by decide)
  have HBX3:=Lib.hid hBx3
  have HS3:=Lib.hid (HS2.out.trans hS3)
  clear x0 x1 x2 x3 y0 y1 y2 y3 y4 y5 y6 g0 g1 g2 g3 g4 g5 g6
  obtain ⟨vb3,vp3,va3,ps3,hA3⟩:=hP3
  have hy3:=hA3.blk
  have y0:=hy3.cell 0
  have y1:=hy3.cell 1
  have y2:=hy3.cell 2
  have y3:=hy3.cell 3
  have y4:=hy3.cell 4
  have y5:=hy3.cell 5
  have y6:=hy3.cell 6
  simp only [nqg,nqh,nqi] at y0 y1 y2 y3 y4 y5 y6
  have g0:=hy3.frozen 0
  have g1:=hy3.frozen 1
  have g2:=hy3.frozen 2
  have g3:=hy3.frozen 3
  have g4:=hy3.frozen 4
  have g5:=hy3.frozen 5
  have g6:=hy3.frozen 6
  have x0:=hBx3.cell 0
  have x1:=hBx3.cell 1
  have x2:=hBx3.cell 2
  have x3:=hBx3.cell 3
  simp only [nqg,nqh,nqi] at x0 x1 x2 x3
  have HA3:=Lib.hid hA3
  clear hA3 hy3 hBx3 hS3
  go_wp2
  go_end0
  exact ⟨rfl,by rw [HPR.out]; exact HP3.out,HS3.out⟩
 ·
  have hpr:p.read L t 1 = (p.rep 1 p.beg).enter t:=by unfold PairS.read; rw [hst]; rfl
  have HPR:=Lib.hid hpr
  have HST:=Lib.hid hst
  have hq:=fun (x y:Int) (w:World)=>eqPair 2 1 x y w
  have hBx:=Blk.new w 127 #[.int .i64 t,.int .i64 1,.int .i64 kt,.int .i64 ks]
  have hb0:=below_new w (.cells #[.int .i64 t,.int .i64 1,.int .i64 kt,.int .i64 ks] 127)
  have hP0:=hPI.out.adv hb0
  have hS0:Step b w (w.alloc (.cells #[.int .i64 t,.int .i64 1,.int .i64 kt,.int .i64 ks] 127)):=Step.adv (Nat.le_of_lt hlt) hb0
  have HP:=Lib.hid hP0
  obtain ⟨vb0,vp0,va0,ps0,hA0⟩:=hP0
  have hy0:=hA0.blk
  have y0:=hy0.cell 0
  have y1:=hy0.cell 1
  have y2:=hy0.cell 2
  have y3:=hy0.cell 3
  have y4:=hy0.cell 4
  have y5:=hy0.cell 5
  have y6:=hy0.cell 6
  simp only [nqg,nqh,nqi] at y0 y1 y2 y3 y4 y5 y6
  have x0:=hBx.cell 0
  have x1:=hBx.cell 1
  have x2:=hBx.cell 2
  have x3:=hBx.cell 3
  simp only [nqg,nqh,nqi] at x0 x1 x2 x3
  rw [hst] at y1
  have HBX:=Lib.hid hBx
  have HS:=Lib.hid hS0
  clear hpr hst hBx hb0 hS0 hA0 hy0
  go_enter Tryz.func46,Tryz.ntmps46
  go_wp2
  go_quiet (fail)
  have hbq:Below (w.alloc (.cells #[.int .i64 t,.int .i64 1,.int .i64 kt,.int .i64 ks] 127)).heap.size (w.alloc (.cells #[.int .i64 t,.int .i64 1,.int .i64 kt,.int .i64 ks] 127)) ((w.alloc (.cells #[.int .i64 t,.int .i64 1,.int .i64 kt,.int .i64 ks] 127)).drewN nq):=below_drewN (Below.refl _ _) nq
  have hP1:=HP.out.adv hbq
  have hBx1:=HBX.out.adv hbq
  have hS1:=HS.out.trans (Step.adv (by simp; omega) hbq)
  generalize ((w.alloc (.cells #[.int .i64 t,.int .i64 1,.int .i64 kt,.int .i64 ks] 127)).drewN nq) = w1 at hP1 hBx1 hS1 ⊢
  have HP1:=Lib.hid hP1
  have HBX1:=Lib.hid hBx1
  have HS1:=Lib.hid hS1
  obtain ⟨vb1,vp1,va1,ps1,hA1⟩:=hP1
  have hy1:=hA1.blk
  clear y0 y1 y2 y3 y4 y5 y6 x0 x1 x2 x3
  have y0:=hy1.cell 0
  have y1:=hy1.cell 1
  have y2:=hy1.cell 2
  have y3:=hy1.cell 3
  have y4:=hy1.cell 4
  have y5:=hy1.cell 5
  have y6:=hy1.cell 6
  simp only [nqg,nqh,nqi] at y0 y1 y2 y3 y4 y5 y6
  have g0:=hy1.frozen 0
  have g1:=hy1.frozen 1
  have g2:=hy1.frozen 2
  have g3:=hy1.frozen 3
  have g4:=hy1.frozen 4
  have g5:=hy1.frozen 5
  have g6:=hy1.frozen 6
  have x0:=hBx1.cell 0
  have x1:=hBx1.cell 1
  have x2:=hBx1.cell 2
  have x3:=hBx1.cell 3
  simp only [nqg,nqh,nqi] at x0 x1 x2 x3
  rw [HST.out] at y1
  have HA1:=Lib.hid hA1
  clear hA1 hy1 hBx1 hS1 hbq HBX HP HS z0 z1 z2 z3 z4 z5 z6 f0 f1 f2 f3 f4 f5 f6
  go_wp2_with fail
  refine (reportP b _ L 1 p.beg (p) _ HP1.out (HB.out) (by omega)).mono ?_
  rintro e w2 ⟨rfl,hP2,hS2⟩
  have HP2:=Lib.hid hP2
  have hBx2:=hS2.keep _ _ _ HBX1.out (by omega) (by decide) (by decide) (by decide)
  have HBX2:=Lib.hid hBx2
  have HS2:=Lib.hid (HS1.out.trans hS2)
  clear x0 x1 x2 x3 y0 y1 y2 y3 y4 y5 y6 g0 g1 g2 g3 g4 g5 g6
  obtain ⟨vb2,vp2,va2,ps2,hA2⟩:=hP2
  have hy2:=hA2.blk
  have y0:=hy2.cell 0
  have y1:=hy2.cell 1
  have y2:=hy2.cell 2
  have y3:=hy2.cell 3
  have y4:=hy2.cell 4
  have y5:=hy2.cell 5
  have y6:=hy2.cell 6
  simp only [nqg,nqh,nqi] at y0 y1 y2 y3 y4 y5 y6
  have g0:=hy2.frozen 0
  have g1:=hy2.frozen 1
  have g2:=hy2.frozen 2
  have g3:=hy2.frozen 3
  have g4:=hy2.frozen 4
  have g5:=hy2.frozen 5
  have g6:=hy2.frozen 6
  have x0:=hBx2.cell 0
  have x1:=hBx2.cell 1
  have x2:=hBx2.cell 2
  have x3:=hBx2.cell 3
  simp only [nqg,nqh,nqi] at x0 x1 x2 x3
  have HA2:=Lib.hid hA2
  clear hA2 hy2 hBx2 hS2
  go_wp2_with fail
  refine (enterP b L t ((p).rep 1 p.beg) _ HP2.out).mono ?_
  rintro e w3 ⟨rfl,hP3,hS3⟩
  have HP3:=Lib.hid hP3
  have hBx3:=hS3.keep _ _ _ HBX2.out (by omega) (by decide) (by decide) (by decide)
  have HBX3:=Lib.hid hBx3
  have HS3:=Lib.hid (HS2.out.trans hS3)
  clear x0 x1 x2 x3 y0 y1 y2 y3 y4 y5 y6 g0 g1 g2 g3 g4 g5 g6
  obtain ⟨vb3,vp3,va3,ps3,hA3⟩:=hP3
  have hy3:=hA3.blk
  have y0:=hy3.cell 0
  have y1:=hy3.cell 1
  have y2:=hy3.cell 2
  have y3:=hy3.cell 3
  have y4:=hy3.cell 4
  have y5:=hy3.cell 5
  have y6:=hy3.cell 6
  simp only [nqg,nqh,nqi] at y0 y1 y2 y3 y4 y5 y6
  have g0:=hy3.frozen 0
  have g1:=hy3.frozen 1
  have g2:=hy3.frozen 2
  have g3:=hy3.frozen 3
  have g4:=hy3.frozen 4
  have g5:=hy3.frozen 5
  have g6:=hy3.frozen 6
  have x0:=hBx3.cell 0
  have x1:=hBx3.cell 1
  have x2:=hBx3.cell 2
  have x3:=hBx3.cell 3
  simp only [nqg,nqh,nqi] at x0 x1 x2 x3
  have HA3:=Lib.hid hA3
  clear hA3 hy3 hBx3 hS3
  go_wp2
  go_end0
  exact ⟨rfl,by rw [HPR.out]; exact HP3.out,HS3.out⟩
 ·
  have hpr:p.read L t 2 = p.rep 2 t:=by unfold PairS.read; rw [hst]; rfl
  have HPR:=Lib.hid hpr
  have HST:=Lib.hid hst
  have hq:=fun (x y:Int) (w:World)=>eqPair 0 2 x y w
  have hBx:=Blk.new w 127 #[.int .i64 t,.int .i64 2,.int .i64 kt,.int .i64 ks]
  have hb0:=below_new w (.cells #[.int .i64 t,.int .i64 2,.int .i64 kt,.int .i64 ks] 127)
  have hP0:=hPI.out.adv hb0
  have hS0:Step b w (w.alloc (.cells #[.int .i64 t,.int .i64 2,.int .i64 kt,.int .i64 ks] 127)):=Step.adv (Nat.le_of_lt hlt) hb0
  have HP:=Lib.hid hP0
  obtain ⟨vb0,vp0,va0,ps0,hA0⟩:=hP0
  have hy0:=hA0.blk
  have y0:=hy0.cell 0
  have y1:=hy0.cell 1
  have y2:=hy0.cell 2
  have y3:=hy0.cell 3
  have y4:=hy0.cell 4
  have y5:=hy0.cell 5
  have y6:=hy0.cell 6
  simp only [nqg,nqh,nqi] at y0 y1 y2 y3 y4 y5 y6
  have x0:=hBx.cell 0
  have x1:=hBx.cell 1
  have x2:=hBx.cell 2
  have x3:=hBx.cell 3
  simp only [nqg,nqh,nqi] at x0 x1 x2 x3
  rw [hst] at y1
  have HBX:=Lib.hid hBx
  have HS:=Lib.hid hS0
  clear hpr hst hBx hb0 hS0 hA0 hy0
  go_enter Tryz.func46,Tryz.ntmps46
  go_wp2
  go_quiet (fail)
  have hbq:Below (w.alloc (.cells #[.int .i64 t,.int .i64 2,.int .i64 kt,.int .i64 ks] 127)).heap.size (w.alloc (.cells #[.int .i64 t,.int .i64 2,.int .i64 kt,.int .i64 ks] 127)) ((w.alloc (.cells #[.int .i64 t,.int .i64 2,.int .i64 kt,.int .i64 ks] 127)).drewN nq):=below_drewN (Below.refl _ _) nq
  have hP1:=HP.out.adv hbq
  have hBx1:=HBX.out.adv hbq
  have hS1:=HS.out.trans (Step.adv (by simp; omega) hbq)
  generalize ((w.alloc (.cells #[.int .i64 t,.int .i64 2,.int .i64 kt,.int .i64 ks] 127)).drewN nq) = w1 at hP1 hBx1 hS1 ⊢
  have HP1:=Lib.hid hP1
  have HBX1:=Lib.hid hBx1
  have HS1:=Lib.hid hS1
  obtain ⟨vb1,vp1,va1,ps1,hA1⟩:=hP1
  have hy1:=hA1.blk
  clear y0 y1 y2 y3 y4 y5 y6 x0 x1 x2 x3
  have y0:=hy1.cell 0
  have y1:=hy1.cell 1
  have y2:=hy1.cell 2
  have y3:=hy1.cell 3
  have y4:=hy1.cell 4
  have y5:=hy1.cell 5
  have y6:=hy1.cell 6
  simp only [nqg,nqh,nqi] at y0 y1 y2 y3 y4 y5 y6
  have g0:=hy1.frozen 0
  have g1:=hy1.frozen 1
  have g2:=hy1.frozen 2
  have g3:=hy1.frozen 3
  have g4:=hy1.frozen 4
  have g5:=hy1.frozen 5
  have g6:=hy1.frozen 6
  have x0:=hBx1.cell 0
  have x1:=hBx1.cell 1
  have x2:=hBx1.cell 2
  have x3:=hBx1.cell 3
  simp only [nqg,nqh,nqi] at x0 x1 x2 x3
  rw [HST.out] at y1
  have HA1:=Lib.hid hA1
  clear hA1 hy1 hBx1 hS1 hbq HBX HP HS z0 z1 z2 z3 z4 z5 z6 f0 f1 f2 f3 f4 f5 f6
  go_wp2_with fail
  refine (reportP b _ L 2 t (p) _ HP1.out (HB.out) (by omega)).mono ?_
  rintro e w2 ⟨rfl,hP2,hS2⟩
  have HP2:=Lib.hid hP2
  have hBx2:=hS2.keep _ _ _ HBX1.out (by omega) (by decide) (by decide) (by decide)
  have HBX2:=Lib.hid hBx2
  have HS2:=Lib.hid (HS1.out.trans hS2)
  clear x0 x1 x2 x3 y0 y1 y2 y3 y4 y5 y6 g0 g1 g2 g3 g4 g5 g6
  obtain ⟨vb2,vp2,va2,ps2,hA2⟩:=hP2
  have hy2:=hA2.blk
  have y0:=hy2.cell 0
  have y1:=hy2.cell 1
  have y2:=hy2.cell 2
  have y3:=hy2.cell 3
  have y4:=hy2.cell 4
  have y5:=hy2.cell 5
  have y6:=hy2.cell 6
  simp only [nqg,nqh,nqi] at y0 y1 y2 y3 y4 y5 y6
  have g0:=hy2.frozen 0
  have g1:=hy2.frozen 1
  have g2:=hy2.frozen 2
  have g3:=hy2.frozen 3
  have g4:=hy2.frozen 4
  have g5:=hy2.frozen 5
  have g6:=hy2.frozen 6
  have x0:=hBx2.cell 0
  have x1:=hBx2.cell 1
  have x2:=hBx2.cell 2
  have x3:=hBx2.cell 3
  simp only [nqg,nqh,nqi] at x0 x1 x2 x3
  have HA2:=Lib.hid hA2
  clear hA2 hy2 hBx2 hS2
  go_wp2
  go_end0
  exact ⟨rfl,by rw [HPR.out]; exact HP2.out,HS2.out⟩
 ·
  have hpr:p.read L t 2 = p.leave L t:=by unfold PairS.read; rw [hst]; rfl
  have HPR:=Lib.hid hpr
  have HST:=Lib.hid hst
  have hq:=fun (x y:Int) (w:World)=>eqPair 1 2 x y w
  have hBx:=Blk.new w 127 #[.int .i64 t,.int .i64 2,.int .i64 kt,.int .i64 ks]
  have hb0:=below_new w (.cells #[.int .i64 t,.int .i64 2,.int .i64 kt,.int .i64 ks] 127)
  have hP0:=hPI.out.adv hb0
  have hS0:Step b w (w.alloc (.cells #[.int .i64 t,.int .i64 2,.int .i64 kt,.int .i64 ks] 127)):=Step.adv (Nat.le_of_lt hlt) hb0
  have HP:=Lib.hid hP0
  obtain ⟨vb0,vp0,va0,ps0,hA0⟩:=hP0
  have hy0:=hA0.blk
  have y0:=hy0.cell 0
  have y1:=hy0.cell 1
  have y2:=hy0.cell 2
  have y3:=hy0.cell 3
  have y4:=hy0.cell 4
  have y5:=hy0.cell 5
  have y6:=hy0.cell 6
  simp only [nqg,nqh,nqi] at y0 y1 y2 y3 y4 y5 y6
  have x0:=hBx.cell 0
  have x1:=hBx.cell 1
  have x2:=hBx.cell 2
  have x3:=hBx.cell 3
  simp only [nqg,nqh,nqi] at x0 x1 x2 x3
  rw [hst] at y1
  have HBX:=Lib.hid hBx
  have HS:=Lib.hid hS0
  clear hpr hst hBx hb0 hS0 hA0 hy0
  go_enter Tryz.func46,Tryz.ntmps46
  go_wp2
  go_quiet (fail)
  have hbq:Below (w.alloc (.cells #[.int .i64 t,.int .i64 2,.int .i64 kt,.int .i64 ks] 127)).heap.size (w.alloc (.cells #[.int .i64 t,.int .i64 2,.int .i64 kt,.int .i64 ks] 127)) ((w.alloc (.cells #[.int .i64 t,.int .i64 2,.int .i64 kt,.int .i64 ks] 127)).drewN nq):=below_drewN (Below.refl _ _) nq
  have hP1:=HP.out.adv hbq
  have hBx1:=HBX.out.adv hbq
  have hS1:=HS.out.trans (Step.adv (by simp; omega) hbq)
  generalize ((w.alloc (.cells #[.int .i64 t,.int .i64 2,.int .i64 kt,.int .i64 ks] 127)).drewN nq) = w1 at hP1 hBx1 hS1 ⊢
  have HP1:=Lib.hid hP1
  have HBX1:=Lib.hid hBx1
  have HS1:=Lib.hid hS1
  obtain ⟨vb1,vp1,va1,ps1,hA1⟩:=hP1
  have hy1:=hA1.blk
  clear y0 y1 y2 y3 y4 y5 y6 x0 x1 x2 x3
  have y0:=hy1.cell 0
  have y1:=hy1.cell 1
  have y2:=hy1.cell 2
  have y3:=hy1.cell 3
  have y4:=hy1.cell 4
  have y5:=hy1.cell 5
  have y6:=hy1.cell 6
  simp only [nqg,nqh,nqi] at y0 y1 y2 y3 y4 y5 y6
  have g0:=hy1.frozen 0
  have g1:=hy1.frozen 1
  have g2:=hy1.frozen 2
  have g3:=hy1.frozen 3
  have g4:=hy1.frozen 4
  have g5:=hy1.frozen 5
  have g6:=hy1.frozen 6
  have x0:=hBx1.cell 0
  have x1:=hBx1.cell 1
  have x2:=hBx1.cell 2
  have x3:=hBx1.cell 3
  simp only [nqg,nqh,nqi] at x0 x1 x2 x3
  rw [HST.out] at y1
  have HA1:=Lib.hid hA1
  clear hA1 hy1 hBx1 hS1 hbq HBX HP HS z0 z1 z2 z3 z4 z5 z6 f0 f1 f2 f3 f4 f5 f6
  go_wp2_with fail
  refine (leaveP b _ L t (p) _ HP1.out (HB.out) (by omega) ht).mono ?_
  rintro e w2 ⟨rfl,hP2,hS2⟩
  have HP2:=Lib.hid hP2
  have hBx2:=hS2.keep _ _ _ HBX1.out (by omega) (by decide) (by decide) (by decide)
  have HBX2:=Lib.hid hBx2
  have HS2:=Lib.hid (HS1.out.trans hS2)
  clear x0 x1 x2 x3 y0 y1 y2 y3 y4 y5 y6 g0 g1 g2 g3 g4 g5 g6
  obtain ⟨vb2,vp2,va2,ps2,hA2⟩:=hP2
  have hy2:=hA2.blk
  have y0:=hy2.cell 0
  have y1:=hy2.cell 1
  have y2:=hy2.cell 2
  have y3:=hy2.cell 3
  have y4:=hy2.cell 4
  have y5:=hy2.cell 5
  have y6:=hy2.cell 6
  simp only [nqg,nqh,nqi] at y0 y1 y2 y3 y4 y5 y6
  have g0:=hy2.frozen 0
  have g1:=hy2.frozen 1
  have g2:=hy2.frozen 2
  have g3:=hy2.frozen 3
  have g4:=hy2.frozen 4
  have g5:=hy2.frozen 5
  have g6:=hy2.frozen 6
  have x0:=hBx2.cell 0
  have x1:=hBx2.cell 1
  have x2:=hBx2.cell 2
  have x3:=hBx2.cell 3
  simp only [nqg,nqh,nqi] at x0 x1 x2 x3
  have HA2:=Lib.hid hA2
  clear hA2 hy2 hBx2 hS2
  go_wp2
  go_end0
  exact ⟨rfl,by rw [HPR.out]; exact HP2.out,HS2.out⟩
 ·
  have hpr:p.read L t 2 = ((p.rep 4 p.pau).resume t).leave L t:=by unfold PairS.read; rw [hst]; rfl
  have HPR:=Lib.hid hpr
  have HST:=Lib.hid hst
  have hq:=fun (x y:Int) (w:World)=>eqPair 2 2 x y w
  have hBx:=Blk.new w 127 #[.int .i64 t,.int .i64 2,.int .i64 kt,.int .i64 ks]
  have hb0:=below_new w (.cells #[.int .i64 t,.int .i64 2,.int .i64 kt,.int .i64 ks] 127)
  have hP0:=hPI.out.adv hb0
  have hS0:Step b w (w.alloc (.cells #[.int .i64 t,.int .i64 2,.int .i64 kt,.int .i64 ks] 127)):=Step.adv (Nat.le_of_lt hlt) hb0
  have HP:=Lib.hid hP0
  obtain ⟨vb0,vp0,va0,ps0,hA0⟩:=hP0
  have hy0:=hA0.blk
  have y0:=hy0.cell 0
  have y1:=hy0.cell 1
  have y2:=hy0.cell 2
  have y3:=hy0.cell 3
  have y4:=hy0.cell 4
  have y5:=hy0.cell 5
  have y6:=hy0.cell 6
  simp only [nqg,nqh,nqi] at y0 y1 y2 y3 y4 y5 y6
  have x0:=hBx.cell 0
  have x1:=hBx.cell 1
  have x2:=hBx.cell 2
  have x3:=hBx.cell 3
  simp only [nqg,nqh,nqi] at x0 x1 x2 x3
  rw [hst] at y1
  have HBX:=Lib.hid hBx
  have HS:=Lib.hid hS0
  clear hpr hst hBx hb0 hS0 hA0 hy0
  go_enter Tryz.func46,Tryz.ntmps46
  go_wp2
  go_quiet (fail)
  have hbq:Below (w.alloc (.cells #[.int .i64 t,.int .i64 2,.int .i64 kt,.int .i64 ks] 127)).heap.size (w.alloc (.cells #[.int .i64 t,.int .i64 2,.int .i64 kt,.int .i64 ks] 127)) ((w.alloc (.cells #[.int .i64 t,.int .i64 2,.int .i64 kt,.int .i64 ks] 127)).drewN nq):=below_drewN (Below.refl _ _) nq
  have hP1:=HP.out.adv hbq
  have hBx1:=HBX.out.adv hbq
  have hS1:=HS.out.trans (Step.adv (by simp; omega) hbq)
  generalize ((w.alloc (.cells #[.int .i64 t,.int .i64 2,.int .i64 kt,.int .i64 ks] 127)).drewN nq) = w1 at hP1 hBx1 hS1 ⊢
  have HP1:=Lib.hid hP1
  have HBX1:=Lib.hid hBx1
  have HS1:=Lib.hid hS1
  obtain ⟨vb1,vp1,va1,ps1,hA1⟩:=hP1
  have hy1:=hA1.blk
  clear y0 y1 y2 y3 y4 y5 y6 x0 x1 x2 x3
  have y0:=hy1.cell 0
  have y1:=hy1.cell 1
  have y2:=hy1.cell 2
  have y3:=hy1.cell 3
  have y4:=hy1.cell 4
  have y5:=hy1.cell 5
  have y6:=hy1.cell 6
  simp only [nqg,nqh,nqi] at y0 y1 y2 y3 y4 y5 y6
  have g0:=hy1.frozen 0
  have g1:=hy1.frozen 1
  have g2:=hy1.frozen 2
  have g3:=hy1.frozen 3
  have g4:=hy1.frozen 4
  have g5:=hy1.frozen 5
  have g6:=hy1.frozen 6
  have x0:=hBx1.cell 0
  have x1:=hBx1.cell 1
  have x2:=hBx1.cell 2
  have x3:=hBx1.cell 3
  simp only [nqg,nqh,nqi] at x0 x1 x2 x3
  rw [HST.out] at y1
  have HA1:=Lib.hid hA1
  clear hA1 hy1 hBx1 hS1 hbq HBX HP HS z0 z1 z2 z3 z4 z5 z6 f0 f1 f2 f3 f4 f5 f6
  go_wp2_with fail
  refine (reportP b _ L 4 p.pau (p) _ HP1.out (HB.out) (by omega)).mono ?_
  rintro e w2 ⟨rfl,hP2,hS2⟩
  have HP2:=Lib.hid hP2
  have hBx2:=hS2.keep _ _ _ HBX1.out (by omega) (by decide) (by decide) (by decide)
  have HBX2:=Lib.hid hBx2
  have HS2:=Lib.hid (HS1.out.trans hS2)
  clear x0 x1 x2 x3 y0 y1 y2 y3 y4 y5 y6 g0 g1 g2 g3 g4 g5 g6
  obtain ⟨vb2,vp2,va2,ps2,hA2⟩:=hP2
  have hy2:=hA2.blk
  have y0:=hy2.cell 0
  have y1:=hy2.cell 1
  have y2:=hy2.cell 2
  have y3:=hy2.cell 3
  have y4:=hy2.cell 4
  have y5:=hy2.cell 5
  have y6:=hy2.cell 6
  simp only [nqg,nqh,nqi] at y0 y1 y2 y3 y4 y5 y6
  have g0:=hy2.frozen 0
  have g1:=hy2.frozen 1
  have g2:=hy2.frozen 2
  have g3:=hy2.frozen 3
  have g4:=hy2.frozen 4
  have g5:=hy2.frozen 5
  have g6:=hy2.frozen 6
  have x0:=hBx2.cell 0
  have x1:=hBx2.cell 1
  have x2:=hBx2.cell 2
  have x3:=hBx2.cell 3
  simp only [nqg,nqh,nqi] at x0 x1 x2 x3
  have HA2:=Lib.hid hA2
  clear hA2 hy2 hBx2 hS2
  go_wp2_with fail
  refine (resumeP b _ L t ((p).rep 4 p.pau) _ HP2.out ((HB.out).rep 4 p.pau) (by omega)).mono ?_
  rintro e w3 ⟨rfl,hP3,hS3⟩
  have HP3:=Lib.hid hP3
  have hBx3:=hS3.keep _ _ _ HBX2.out (by omega) (by decide) (by decide) (by decide)
  have HBX3:=Lib.hid hBx3
  have HS3:=Lib.hid (HS2.out.trans hS3)
  clear x0 x1 x2 x3 y0 y1 y2 y3 y4 y5 y6 g0 g1 g2 g3 g4 g5 g6
  obtain ⟨vb3,vp3,va3,ps3,hA3⟩:=hP3
  have hy3:=hA3.blk
  have y0:=hy3.cell 0
  have y1:=hy3.cell 1
  have y2:=hy3.cell 2
  have y3:=hy3.cell 3
  have y4:=hy3.cell 4
  have y5:=hy3.cell 5
  have y6:=hy3.cell 6
  simp only [nqg,nqh,nqi] at y0 y1 y2 y3 y4 y5 y6
  have g0:=hy3.frozen 0
  have g1:=hy3.frozen 1
  have g2:=hy3.frozen 2
  have g3:=hy3.frozen 3
  have g4:=hy3.frozen 4
  have g5:=hy3.frozen 5
  have g6:=hy3.frozen 6
  have x0:=hBx3.cell 0
  have x1:=hBx3.cell 1
  have x2:=hBx3.cell 2
  have x3:=hBx3.cell 3
  simp only [nqg,nqh,nqi] at x0 x1 x2 x3
  have HA3:=Lib.hid hA3
  clear hA3 hy3 hBx3 hS3
  go_wp2_with fail
  refine (leaveP b _ L t (((p).rep 4 p.pau).resume t) _ HP3.out (((HB.out).rep 4 p.pau).resume t) (by omega) ht).mono ?_
  rintro e w4 ⟨rfl,hP4,hS4⟩
  have HP4:=Lib.hid hP4
  have hBx4:=hS4.keep _ _ _ HBX3.out (by omega) (by decide) (by decide) (by decide)
  have HBX4:=Lib.hid hBx4
  have HS4:=Lib.hid (HS3.out.trans hS4)
  clear x0 x1 x2 x3 y0 y1 y2 y3 y4 y5 y6 g0 g1 g2 g3 g4 g5 g6
  obtain ⟨vb4,vp4,va4,ps4,hA4⟩:=hP4
  have hy4:=hA4.blk
  have y0:=hy4.cell 0
  have y1:=hy4.cell 1
  have y2:=hy4.cell 2
  have y3:=hy4.cell 3
  have y4:=hy4.cell 4
  have y5:=hy4.cell 5
  have y6:=hy4.cell 6
  simp only [nqg,nqh,nqi] at y0 y1 y2 y3 y4 y5 y6
  have g0:=hy4.frozen 0
  have g1:=hy4.frozen 1
  have g2:=hy4.frozen 2
  have g3:=hy4.frozen 3
  have g4:=hy4.frozen 4
  have g5:=hy4.frozen 5
  have g6:=hy4.frozen 6
  have x0:=hBx4.cell 0
  have x1:=hBx4.cell 1
  have x2:=hBx4.cell 2
  have x3:=hBx4.cell 3
  simp only [nqg,nqh,nqi] at x0 x1 x2 x3
  have HA4:=Lib.hid hA4
  clear hA4 hy4 hBx4 hS4
  go_wp2
  go_end0
  exact ⟨rfl,by rw [HPR.out]; exact HP4.out,HS4.out⟩
 ·
  have hpr:p.read L t 3 = p.rep 2 t:=by unfold PairS.read; rw [hst]; rfl
  have HPR:=Lib.hid hpr
  have HST:=Lib.hid hst
  have hq:=fun (x y:Int) (w:World)=>eqPair 0 3 x y w
  have hBx:=Blk.new w 127 #[.int .i64 t,.int .i64 3,.int .i64 kt,.int .i64 ks]
  have hb0:=below_new w (.cells #[.int .i64 t,.int .i64 3,.int .i64 kt,.int .i64 ks] 127)
  have hP0:=hPI.out.adv hb0
  have hS0:Step b w (w.alloc (.cells #[.int .i64 t,.int .i64 3,.int .i64 kt,.int .i64 ks] 127)):=Step.adv (Nat.le_of_lt hlt) hb0
  have HP:=Lib.hid hP0
  obtain ⟨vb0,vp0,va0,ps0,hA0⟩:=hP0
  have hy0:=hA0.blk
  have y0:=hy0.cell 0
  have y1:=hy0.cell 1
  have y2:=hy0.cell 2
  have y3:=hy0.cell 3
  have y4:=hy0.cell 4
  have y5:=hy0.cell 5
  have y6:=hy0.cell 6
  simp only [nqg,nqh,nqi] at y0 y1 y2 y3 y4 y5 y6
  have x0:=hBx.cell 0
  have x1:=hBx.cell 1
  have x2:=hBx.cell 2
  have x3:=hBx.cell 3
  simp only [nqg,nqh,nqi] at x0 x1 x2 x3
  rw [hst] at y1
  have HBX:=Lib.hid hBx
  have HS:=Lib.hid hS0
  clear hpr hst hBx hb0 hS0 hA0 hy0
  go_enter Tryz.func46,Tryz.ntmps46
  go_wp2
  go_quiet (fail)
  have hbq:Below (w.alloc (.cells #[.int .i64 t,.int .i64 3,.int .i64 kt,.int .i64 ks] 127)).heap.size (w.alloc (.cells #[.int .i64 t,.int .i64 3,.int .i64 kt,.int .i64 ks] 127)) ((w.alloc (.cells #[.int .i64 t,.int .i64 3,.int .i64 kt,.int .i64 ks] 127)).drewN nq):=below_drewN (Below.refl _ _) nq
  have hP1:=HP.out.adv hbq
  have hBx1:=HBX.out.adv hbq
  have hS1:=HS.out.trans (Step.adv (by simp; omega) hbq)
  generalize ((w.alloc (.cells #[.int .i64 t,.int .i64 3,.int .i64 kt,.int .i64 ks] 127)).drewN nq) = w1 at hP1 hBx1 hS1 ⊢
  have HP1:=Lib.hid hP1
  have HBX1:=Lib.hid hBx1
  have HS1:=Lib.hid hS1
  obtain ⟨vb1,vp1,va1,ps1,hA1⟩:=hP1
  have hy1:=hA1.blk
  clear y0 y1 y2 y3 y4 y5 y6 x0 x1 x2 x3
  have y0:=hy1.cell 0
  have y1:=hy1.cell 1
  have y2:=hy1.cell 2
  have y3:=hy1.cell 3
  have y4:=hy1.cell 4
  have y5:=hy1.cell 5
  have y6:=hy1.cell 6
  simp only [nqg,nqh,nqi] at y0 y1 y2 y3 y4 y5 y6
  have g0:=hy1.frozen 0
  have g1:=hy1.frozen 1
  have g2:=hy1.frozen 2
  have g3:=hy1.frozen 3
  have g4:=hy1.frozen 4
  have g5:=hy1.frozen 5
  have g6:=hy1.frozen 6
  have x0:=hBx1.cell 0
  have x1:=hBx1.cell 1
  have x2:=hBx1.cell 2
  have x3:=hBx1.cell 3
  simp only [nqg,nqh,nqi] at x0 x1 x2 x3
  rw [HST.out] at y1
  have HA1:=Lib.hid hA1
  clear hA1 hy1 hBx1 hS1 hbq HBX HP HS z0 z1 z2 z3 z4 z5 z6 f0 f1 f2 f3 f4 f5 f6
  go_wp2_with fail
  refine (reportP b _ L 2 t (p) _ HP1.out (HB.out) (by omega)).mono ?_
  rintro e w2 ⟨rfl,hP2,hS2⟩
  have HP2:=Lib.hid hP2
  have hBx2:=hS2.keep _ _ _ HBX1.out (by omega) (by decide) (by decide) (by decide)
  have HBX2:=Lib.hid hBx2
  have HS2:=Lib.hid (HS1.out.trans hS2)
  clear x0 x1 x2 x3 y0 y1 y2 y3 y4 y5 y6 g0 g1 g2 g3 g4 g5 g6
  obtain ⟨vb2,vp2,va2,ps2,hA2⟩:=hP2
  have hy2:=hA2.blk
  have y0:=hy2.cell 0
  have y1:=hy2.cell 1
  have y2:=hy2.cell 2
  have y3:=hy2.cell 3
  have y4:=hy2.cell 4
  have y5:=hy2.cell 5
  have y6:=hy2.cell 6
  simp only [nqg,nqh,nqi] at y0 y1 y2 y3 y4 y5 y6
  have g0:=hy2.frozen 0
  have g1:=hy2.frozen 1
  have g2:=hy2.frozen 2
  have g3:=hy2.frozen 3
  have g4:=hy2.frozen 4
  have g5:=hy2.frozen 5
  have g6:=hy2.frozen 6
  have x0:=hBx2.cell 0
  have x1:=hBx2.cell 1
  have x2:=hBx2.cell 2
  have x3:=hBx2.cell 3
  simp only [nqg,nqh,nqi] at x0 x1 x2 x3
  have HA2:=Lib.hid hA2
  clear hA2 hy2 hBx2 hS2
  go_wp2
  go_end0
  exact ⟨rfl,by rw [HPR.out]; exact HP2.out,HS2.out⟩
 ·
  have hpr:p.read L t 3 = { p with st:=2,pau:=t }:=by unfold PairS.read; rw [hst]; rfl
  have HPR:=Lib.hid hpr
  have HST:=Lib.hid hst
  have hq:=fun (x y:Int) (w:World)=>eqPair 1 3 x y w
  have hBx:=Blk.new w 127 #[.int .i64 t,.int .i64 3,.int .i64 kt,.int .i64 ks]
  have hb0:=below_new w (.cells #[.int .i64 t,.int .i64 3,.int .i64 kt,.int .i64 ks] 127)
  have hP0:=hPI.out.adv hb0
  have hS0:Step b w (w.alloc (.cells #[.int .i64 t,.int .i64 3,.int .i64 kt,.int .i64 ks] 127)):=Step.adv (Nat.le_of_lt hlt) hb0
  have HP:=Lib.hid hP0
  obtain ⟨vb0,vp0,va0,ps0,hA0⟩:=hP0
  have hy0:=hA0.blk
  have y0:=hy0.cell 0
  have y1:=hy0.cell 1
  have y2:=hy0.cell 2
  have y3:=hy0.cell 3
  have y4:=hy0.cell 4
  have y5:=hy0.cell 5
  have y6:=hy0.cell 6
  simp only [nqg,nqh,nqi] at y0 y1 y2 y3 y4 y5 y6
  have x0:=hBx.cell 0
  have x1:=hBx.cell 1
  have x2:=hBx.cell 2
  have x3:=hBx.cell 3
  simp only [nqg,nqh,nqi] at x0 x1 x2 x3
  rw [hst] at y1
  have HBX:=Lib.hid hBx
  have HS:=Lib.hid hS0
  clear hpr hst hBx hb0 hS0 hA0 hy0
  go_enter Tryz.func46,Tryz.ntmps46
  go_wp2
  go_quiet (fail)
  have hbq:Below (w.alloc (.cells #[.int .i64 t,.int .i64 3,.int .i64 kt,.int .i64 ks] 127)).heap.size (w.alloc (.cells #[.int .i64 t,.int .i64 3,.int .i64 kt,.int .i64 ks] 127)) ((w.alloc (.cells #[.int .i64 t,.int .i64 3,.int .i64 kt,.int .i64 ks] 127)).drewN nq):=below_drewN (Below.refl _ _) nq
  have hP1:=HP.out.adv hbq
  have hBx1:=HBX.out.adv hbq
  have hS1:=HS.out.trans (Step.adv (by simp; omega) hbq)
  generalize ((w.alloc (.cells #[.int .i64 t,.int .i64 3,.int .i64 kt,.int .i64 ks] 127)).drewN nq) = w1 at hP1 hBx1 hS1 ⊢
  have HP1:=Lib.hid hP1
  have HBX1:=Lib.hid hBx1
  have HS1:=Lib.hid hS1
  obtain ⟨vb1,vp1,va1,ps1,hA1⟩:=hP1
  have hy1:=hA1.blk
  clear y0 y1 y2 y3 y4 y5 y6 x0 x1 x2 x3
  have y0:=hy1.cell 0
  have y1:=hy1.cell 1
  have y2:=hy1.cell 2
  have y3:=hy1.cell 3
  have y4:=hy1.cell 4
  have y5:=hy1.cell 5
  have y6:=hy1.cell 6
  simp only [nqg,nqh,nqi] at y0 y1 y2 y3 y4 y5 y6
  have g0:=hy1.frozen 0
  have g1:=hy1.frozen 1
  have g2:=hy1.frozen 2
  have g3:=hy1.frozen 3
  have g4:=hy1.frozen 4
  have g5:=hy1.frozen 5
  have g6:=hy1.frozen 6
  have x0:=hBx1.cell 0
  have x1:=hBx1.cell 1
  have x2:=hBx1.cell 2
  have x3:=hBx1.cell 3
  simp only [nqg,nqh,nqi] at x0 x1 x2 x3
  rw [HST.out] at y1
  have HA1:=Lib.hid hA1
  clear hA1 hy1 hBx1 hS1 hbq HBX HP HS z0 z1 z2 z3 z4 z5 z6 f0 f1 f2 f3 f4 f5 f6
  go_wp2
  go_region
  all_goals
   go_wp2
   go_end0
   first
   | exact ⟨rfl,by rw [HPR.out]; exact ⟨_,_,_,_,((HA1.out.adv (below_drewN (Below.refl _ _) 1)).set_ 1 (.int .i64 2) (q:={ p with st:=2 }) rfl rfl rfl (.inl ⟨rfl,rfl⟩)).set_ 3 (.int .i64 t) rfl rfl rfl (.inl ⟨rfl,rfl⟩)⟩,((HS1.out.trans (Step.adv (Nat.le_of_lt HP1.out.lt) (below_drewN (Below.refl _ _) 1))).trans (Step.set b _ 1 _)).trans (Step.set b _ 3 _)⟩
   | exact ⟨rfl,by rw [HPR.out]; exact ⟨_,_,_,_,((HA1.out.adv (below_drewN (Below.refl _ _) 1)).set_ 3 (.int .i64 t) (q:={ p with pau:=t }) rfl rfl rfl (.inl ⟨rfl,rfl⟩)).set_ 1 (.int .i64 2) rfl rfl rfl (.inl ⟨rfl,rfl⟩)⟩,((HS1.out.trans (Step.adv (Nat.le_of_lt HP1.out.lt) (below_drewN (Below.refl _ _) 1))).trans (Step.set b _ 3 _)).trans (Step.set b _ 1 _)⟩
 ·
  have hpr:p.read L t 3 = { p.rep 4 p.pau with pau:=t }:=by unfold PairS.read; rw [hst]; rfl
  have HPR:=Lib.hid hpr
  have HST:=Lib.hid hst
  have hq:=fun (x y:Int) (w:World)=>eqPair 2 3 x y w
  have hBx:=Blk.new w 127 #[.int .i64 t,.int .i64 3,.int .i64 kt,.int .i64 ks]
  have hb0:=below_new w (.cells #[.int .i64 t,.int .i64 3,.int .i64 kt,.int .i64 ks] 127)
  have hP0:=hPI.out.adv hb0
  have hS0:Step b w (w.alloc (.cells #[.int .i64 t,.int .i64 3,.int .i64 kt,.int .i64 ks] 127)):=Step.adv (Nat.le_of_lt hlt) hb0
  have HP:=Lib.hid hP0
  obtain ⟨vb0,vp0,va0,ps0,hA0⟩:=hP0
  have hy0:=hA0.blk
  have y0:=hy0.cell 0
  have y1:=hy0.cell 1
  have y2:=hy0.cell 2
  have y3:=hy0.cell 3
  have y4:=hy0.cell 4
  have y5:=hy0.cell 5
  have y6:=hy0.cell 6
  simp only [nqg,nqh,nqi] at y0 y1 y2 y3 y4 y5 y6
  have x0:=hBx.cell 0
  have x1:=hBx.cell 1
  have x2:=hBx.cell 2
  have x3:=hBx.cell 3
  simp only [nqg,nqh,nqi] at x0 x1 x2 x3
  rw [hst] at y1
  have HBX:=Lib.hid hBx
  have HS:=Lib.hid hS0
  clear hpr hst hBx hb0 hS0 hA0 hy0
  go_enter Tryz.func46,Tryz.ntmps46
  go_wp2
  go_quiet (fail)
  have hbq:Below (w.alloc (.cells #[.int .i64 t,.int .i64 3,.int .i64 kt,.int .i64 ks] 127)).heap.size (w.alloc (.cells #[.int .i64 t,.int .i64 3,.int .i64 kt,.int .i64 ks] 127)) ((w.alloc (.cells #[.int .i64 t,.int .i64 3,.int .i64 kt,.int .i64 ks] 127)).drewN nq):=below_drewN (Below.refl _ _) nq
  have hP1:=HP.out.adv hbq
  have hBx1:=HBX.out.adv hbq
  have hS1:=HS.out.trans (Step.adv (by simp; omega) hbq)
  generalize ((w.alloc (.cells #[.int .i64 t,.int .i64 3,.int .i64 kt,.int .i64 ks] 127)).drewN nq) = w1 at hP1 hBx1 hS1 ⊢
  have HP1:=Lib.hid hP1
  have HBX1:=Lib.hid hBx1
  have HS1:=Lib.hid hS1
  obtain ⟨vb1,vp1,va1,ps1,hA1⟩:=hP1
  have hy1:=hA1.blk
  clear y0 y1 y2 y3 y4 y5 y6 x0 x1 x2 x3
  have y0:=hy1.cell 0
  have y1:=hy1.cell 1
  have y2:=hy1.cell 2
  have y3:=hy1.cell 3
  have y4:=hy1.cell 4
  have y5:=hy1.cell 5
  have y6:=hy1.cell 6
  simp only [nqg,nqh,nqi] at y0 y1 y2 y3 y4 y5 y6
  have g0:=hy1.frozen 0
  have g1:=hy1.frozen 1
  have g2:=hy1.frozen 2
  have g3:=hy1.frozen 3
  have g4:=hy1.frozen 4
  have g5:=hy1.frozen 5
  have g6:=hy1.frozen 6
  have x0:=hBx1.cell 0
  have x1:=hBx1.cell 1
  have x2:=hBx1.cell 2
  have x3:=hBx1.cell 3
  simp only [nqg,nqh,nqi] at x0 x1 x2 x3
  rw [HST.out] at y1
  have HA1:=Lib.hid hA1
  clear hA1 hy1 hBx1 hS1 hbq HBX HP HS z0 z1 z2 z3 z4 z5 z6 f0 f1 f2 f3 f4 f5 f6
  go_wp2_with fail
  refine (reportP b _ L 4 p.pau (p) _ HP1.out (HB.out) (by omega)).mono ?_
  rintro e w2 ⟨rfl,hP2,hS2⟩
  have HP2:=Lib.hid hP2
  have hBx2:=hS2.keep _ _ _ HBX1.out (by omega) (by decide) (by decide) (by decide)
  have HBX2:=Lib.hid hBx2
  have HS2:=Lib.hid (HS1.out.trans hS2)
  clear x0 x1 x2 x3 y0 y1 y2 y3 y4 y5 y6 g0 g1 g2 g3 g4 g5 g6
  obtain ⟨vb2,vp2,va2,ps2,hA2⟩:=hP2
  have hy2:=hA2.blk
  have y0:=hy2.cell 0
  have y1:=hy2.cell 1
  have y2:=hy2.cell 2
  have y3:=hy2.cell 3
  have y4:=hy2.cell 4
  have y5:=hy2.cell 5
  have y6:=hy2.cell 6
  simp only [nqg,nqh,nqi] at y0 y1 y2 y3 y4 y5 y6
  have g0:=hy2.frozen 0
  have g1:=hy2.frozen 1
  have g2:=hy2.frozen 2
  have g3:=hy2.frozen 3
  have g4:=hy2.frozen 4
  have g5:=hy2.frozen 5
  have g6:=hy2.frozen 6
  have x0:=hBx2.cell 0
  have x1:=hBx2.cell 1
  have x2:=hBx2.cell 2
  have x3:=hBx2.cell 3
  simp only [nqg,nqh,nqi] at x0 x1 x2 x3
  have HA2:=Lib.hid hA2
  clear hA2 hy2 hBx2 hS2
  go_wp2
  go_end0
  exact ⟨rfl,by rw [HPR.out]; exact ⟨_,_,_,_,HA2.out.set_ 3 (.int .i64 t) rfl rfl rfl (.inl ⟨rfl,rfl⟩)⟩,HS2.out.trans (Step.set b _ 3 _)⟩
 ·
  have hpr:p.read L t 4 = p.rep 2 t:=by unfold PairS.read; rw [hst]; rfl
  have HPR:=Lib.hid hpr
  have HST:=Lib.hid hst
  have hq:=fun (x y:Int) (w:World)=>eqPair 0 4 x y w
  have hBx:=Blk.new w 127 #[.int .i64 t,.int .i64 4,.int .i64 kt,.int .i64 ks]
  have hb0:=below_new w (.cells #[.int .i64 t,.int .i64 4,.int .i64 kt,.int .i64 ks] 127)
  have hP0:=hPI.out.adv hb0
  have hS0:Step b w (w.alloc (.cells #[.int .i64 t,.int .i64 4,.int .i64 kt,.int .i64 ks] 127)):=Step.adv (Nat.le_of_lt hlt) hb0
  have HP:=Lib.hid hP0
  obtain ⟨vb0,vp0,va0,ps0,hA0⟩:=hP0
  have hy0:=hA0.blk
  have y0:=hy0.cell 0
  have y1:=hy0.cell 1
  have y2:=hy0.cell 2
  have y3:=hy0.cell 3
  have y4:=hy0.cell 4
  have y5:=hy0.cell 5
  have y6:=hy0.cell 6
  simp only [nqg,nqh,nqi] at y0 y1 y2 y3 y4 y5 y6
  have x0:=hBx.cell 0
  have x1:=hBx.cell 1
  have x2:=hBx.cell 2
  have x3:=hBx.cell 3
  simp only [nqg,nqh,nqi] at x0 x1 x2 x3
  rw [hst] at y1
  have HBX:=Lib.hid hBx
  have HS:=Lib.hid hS0
  clear hpr hst hBx hb0 hS0 hA0 hy0
  go_enter Tryz.func46,Tryz.ntmps46
  go_wp2
  go_quiet (fail)
  have hbq:Below (w.alloc (.cells #[.int .i64 t,.int .i64 4,.int .i64 kt,.int .i64 ks] 127)).heap.size (w.alloc (.cells #[.int .i64 t,.int .i64 4,.int .i64 kt,.int .i64 ks] 127)) ((w.alloc (.cells #[.int .i64 t,.int .i64 4,.int .i64 kt,.int .i64 ks] 127)).drewN nq):=below_drewN (Below.refl _ _) nq
  have hP1:=HP.out.adv hbq
  have hBx1:=HBX.out.adv hbq
  have hS1:=HS.out.trans (Step.adv (by simp; omega) hbq)
  generalize ((w.alloc (.cells #[.int .i64 t,.int .i64 4,.int .i64 kt,.int .i64 ks] 127)).drewN nq) = w1 at hP1 hBx1 hS1 ⊢
  have HP1:=Lib.hid hP1
  have HBX1:=Lib.hid hBx1
  have HS1:=Lib.hid hS1
  obtain ⟨vb1,vp1,va1,ps1,hA1⟩:=hP1
  have hy1:=hA1.blk
  clear y0 y1 y2 y3 y4 y5 y6 x0 x1 x2 x3
  have y0:=hy1.cell 0
  have y1:=hy1.cell 1
  have y2:=hy1.cell 2
  have y3:=hy1.cell 3
  have y4:=hy1.cell 4
  have y5:=hy1.cell 5
  have y6:=hy1.cell 6
  simp only [nqg,nqh,nqi] at y0 y1 y2 y3 y4 y5 y6
  have g0:=hy1.frozen 0
  have g1:=hy1.frozen 1
  have g2:=hy1.frozen 2
  have g3:=hy1.frozen 3
  have g4:=hy1.frozen 4
  have g5:=hy1.frozen 5
  have g6:=hy1.frozen 6
  have x0:=hBx1.cell 0
  have x1:=hBx1.cell 1
  have x2:=hBx1.cell 2
  have x3:=hBx1.cell 3
  simp only [nqg,nqh,nqi] at x0 x1 x2 x3
  rw [HST.out] at y1
  have HA1:=Lib.hid hA1
  clear hA1 hy1 hBx1 hS1 hbq HBX HP HS z0 z1 z2 z3 z4 z5 z6 f0 f1 f2 f3 f4 f5 f6
  go_wp2_with fail
  refine (reportP b _ L 2 t (p) _ HP1.out (HB.out) (by omega)).mono ?_
  rintro e w2 ⟨rfl,hP2,hS2⟩
  have HP2:=Lib.hid hP2
  have hBx2:=hS2.keep _ _ _ HBX1.out (by omega) (by decide) (by decide) (by decide)
  have HBX2:=Lib.hid hBx2
  have HS2:=Lib.hid (HS1.out.trans hS2)
  clear x0 x1 x2 x3 y0 y1 y2 y3 y4 y5 y6 g0 g1 g2 g3 g4 g5 g6
  obtain ⟨vb2,vp2,va2,ps2,hA2⟩:=hP2
  have hy2:=hA2.blk
  have y0:=hy2.cell 0
  have y1:=hy2.cell 1
  have y2:=hy2.cell 2
  have y3:=hy2.cell 3
  have y4:=hy2.cell 4
  have y5:=hy2.cell 5
  have y6:=hy2.cell 6
  simp only [nqg,nqh,nqi] at y0 y1 y2 y3 y4 y5 y6
  have g0:=hy2.frozen 0
  have g1:=hy2.frozen 1
  have g2:=hy2.frozen 2
  have g3:=hy2.frozen 3
  have g4:=hy2.frozen 4
  have g5:=hy2.frozen 5
  have g6:=hy2.frozen 6
  have x0:=hBx2.cell 0
  have x1:=hBx2.cell 1
  have x2:=hBx2.cell 2
  have x3:=hBx2.cell 3
  simp only [nqg,nqh,nqi] at x0 x1 x2 x3
  have HA2:=Lib.hid hA2
  clear hA2 hy2 hBx2 hS2
  go_wp2
  go_end0
  exact ⟨rfl,by rw [HPR.out]; exact HP2.out,HS2.out⟩
 ·
  have hpr:p.read L t 4 = p.rep 5 t:=by unfold PairS.read; rw [hst]; rfl
  have HPR:=Lib.hid hpr
  have HST:=Lib.hid hst
  have hq:=fun (x y:Int) (w:World)=>eqPair 1 4 x y w
  have hBx:=Blk.new w 127 #[.int .i64 t,.int .i64 4,.int .i64 kt,.int .i64 ks]
  have hb0:=below_new w (.cells #[.int .i64 t,.int .i64 4,.int .i64 kt,.int .i64 ks] 127)
  have hP0:=hPI.out.adv hb0
  have hS0:Step b w (w.alloc (.cells #[.int .i64 t,.int .i64 4,.int .i64 kt,.int .i64 ks] 127)):=Step.adv (Nat.le_of_lt hlt) hb0
  have HP:=Lib.hid hP0
  obtain ⟨vb0,vp0,va0,ps0,hA0⟩:=hP0
  have hy0:=hA0.blk
  have y0:=hy0.cell 0
  have y1:=hy0.cell 1
  have y2:=hy0.cell 2
  have y3:=hy0.cell 3
  have y4:=hy0.cell 4
  have y5:=hy0.cell 5
  have y6:=hy0.cell 6
  simp only [nqg,nqh,nqi] at y0 y1 y2 y3 y4 y5 y6
  have x0:=hBx.cell 0
  have x1:=hBx.cell 1
  have x2:=hBx.cell 2
  have x3:=hBx.cell 3
  simp only [nqg,nqh,nqi] at x0 x1 x2 x3
  rw [hst] at y1
  have HBX:=Lib.hid hBx
  have HS:=Lib.hid hS0
  clear hpr hst hBx hb0 hS0 hA0 hy0
  go_enter Tryz.func46,Tryz.ntmps46
  go_wp2
  go_quiet (fail)
  have hbq:Below (w.alloc (.cells #[.int .i64 t,.int .i64 4,.int .i64 kt,.int .i64 ks] 127)).heap.size (w.alloc (.cells #[.int .i64 t,.int .i64 4,.int .i64 kt,.int .i64 ks] 127)) ((w.alloc (.cells #[.int .i64 t,.int .i64 4,.int .i64 kt,.int .i64 ks] 127)).drewN nq):=below_drewN (Below.refl _ _) nq
  have hP1:=HP.out.adv hbq
  have hBx1:=HBX.out.adv hbq
  have hS1:=HS.out.trans (Step.adv (by simp; omega) hbq)
  generalize ((w.alloc (.cells #[.int .i64 t,.int .i64 4,.int .i64 kt,.int .i64 ks] 127)).drewN nq) = w1 at hP1 hBx1 hS1 ⊢
  have HP1:=Lib.hid hP1
  have HBX1:=Lib.hid hBx1
  have HS1:=Lib.hid hS1
  obtain ⟨vb1,vp1,va1,ps1,hA1⟩:=hP1
  have hy1:=hA1.blk
  clear y0 y1 y2 y3 y4 y5 y6 x0 x1 x2 x3
  have y0:=hy1.cell 0
  have y1:=hy1.cell 1
  have y2:=hy1.cell 2
  have y3:=hy1.cell 3
  have y4:=hy1.cell 4
  have y5:=hy1.cell 5
  have y6:=hy1.cell 6
  simp only [nqg,nqh,nqi] at y0 y1 y2 y3 y4 y5 y6
  have g0:=hy1.frozen 0
  have g1:=hy1.frozen 1
  have g2:=hy1.frozen 2
  have g3:=hy1.frozen 3
  have g4:=hy1.frozen 4
  have g5:=hy1.frozen 5
  have g6:=hy1.frozen 6
  have x0:=hBx1.cell 0
  have x1:=hBx1.cell 1
  have x2:=hBx1.cell 2
  have x3:=hBx1.cell 3
  simp only [nqg,nqh,nqi] at x0 x1 x2 x3
  rw [HST.out] at y1
  have HA1:=Lib.hid hA1
  clear hA1 hy1 hBx1 hS1 hbq HBX HP HS z0 z1 z2 z3 z4 z5 z6 f0 f1 f2 f3 f4 f5 f6
  go_wp2_with fail
  refine (reportP b _ L 5 t (p) _ HP1.out (HB.out) (by omega)).mono ?_
  rintro e w2 ⟨rfl,hP2,hS2⟩
  have HP2:=Lib.hid hP2
  have hBx2:=hS2.keep _ _ _ HBX1.out (by omega) (by decide) (by decide) (by decide)
  have HBX2:=Lib.hid hBx2
  have HS2:=Lib.hid (HS1.out.trans hS2)
  clear x0 x1 x2 x3 y0 y1 y2 y3 y4 y5 y6 g0 g1 g2 g3 g4 g5 g6
  obtain ⟨vb2,vp2,va2,ps2,hA2⟩:=hP2
  have hy2:=hA2.blk
  have y0:=hy2.cell 0
  have y1:=hy2.cell 1
  have y2:=hy2.cell 2
  have y3:=hy2.cell 3
  have y4:=hy2.cell 4
  have y5:=hy2.cell 5
  have y6:=hy2.cell 6
  simp only [nqg,nqh,nqi] at y0 y1 y2 y3 y4 y5 y6
  have g0:=hy2.frozen 0
  have g1:=hy2.frozen 1
  have g2:=hy2.frozen 2
  have g3:=hy2.frozen 3
  have g4:=hy2.frozen 4
  have g5:=hy2.frozen 5
  have g6:=hy2.frozen 6
  have x0:=hBx2.cell 0
  have x1:=hBx2.cell 1
  have x2:=hBx2.cell 2
  have x3:=hBx2.cell 3
  simp only [nqg,nqh,nqi] at x0 x1 x2 x3
  have HA2:=Lib.hid hA2
  clear hA2 hy2 hBx2 hS2
  go_wp2
  go_end0
  exact ⟨rfl,by rw [HPR.out]; exact HP2.out,HS2.out⟩
 ·
  have hpr:p.read L t 4 = p.resume t:=by unfold PairS.read; rw [hst]; rfl
  have HPR:=Lib.hid hpr
  have HST:=Lib.hid hst
  have hq:=fun (x y:Int) (w:World)=>eqPair 2 4 x y w
  have hBx:=Blk.new w 127 #[.int .i64 t,.int .i64 4,.int .i64 kt,.int .i64 ks]
  have hb0:=below_new w (.cells #[.int .i64 t,.int .i64 4,.int .i64 kt,.int .i64 ks] 127)
  have hP0:=hPI.out.adv hb0
  have hS0:Step b w (w.alloc (.cells #[.int .i64 t,.int .i64 4,.int .i64 kt,.int .i64 ks] 127)):=Step.adv (Nat.le_of_lt hlt) hb0
  have HP:=Lib.hid hP0
  obtain ⟨vb0,vp0,va0,ps0,hA0⟩:=hP0
  have hy0:=hA0.blk
  have y0:=hy0.cell 0
  have y1:=hy0.cell 1
  have y2:=hy0.cell 2
  have y3:=hy0.cell 3
  have y4:=hy0.cell 4
  have y5:=hy0.cell 5
  have y6:=hy0.cell 6
  simp only [nqg,nqh,nqi] at y0 y1 y2 y3 y4 y5 y6
  have x0:=hBx.cell 0
  have x1:=hBx.cell 1
  have x2:=hBx.cell 2
  have x3:=hBx.cell 3
  simp only [nqg,nqh,nqi] at x0 x1 x2 x3
  rw [hst] at y1
  have HBX:=Lib.hid hBx
  have HS:=Lib.hid hS0
  clear hpr hst hBx hb0 hS0 hA0 hy0
  go_enter Tryz.func46,Tryz.ntmps46
  go_wp2
  go_quiet (fail)
  have hbq:Below (w.alloc (.cells #[.int .i64 t,.int .i64 4,.int .i64 kt,.int .i64 ks] 127)).heap.size (w.alloc (.cells #[.int .i64 t,.int .i64 4,.int .i64 kt,.int .i64 ks] 127)) ((w.alloc (.cells #[.int .i64 t,.int .i64 4,.int .i64 kt,.int .i64 ks] 127)).drewN nq):=below_drewN (Below.refl _ _) nq
  have hP1:=HP.out.adv hbq
  have hBx1:=HBX.out.adv hbq
  have hS1:=HS.out.trans (Step.adv (by simp; omega) hbq)
  generalize ((w.alloc (.cells #[.int .i64 t,.int .i64 4,.int .i64 kt,.int .i64 ks] 127)).drewN nq) = w1 at hP1 hBx1 hS1 ⊢
  have HP1:=Lib.hid hP1
  have HBX1:=Lib.hid hBx1
  have HS1:=Lib.hid hS1
  obtain ⟨vb1,vp1,va1,ps1,hA1⟩:=hP1
  have hy1:=hA1.blk
  clear y0 y1 y2 y3 y4 y5 y6 x0 x1 x2 x3
  have y0:=hy1.cell 0
  have y1:=hy1.cell 1
  have y2:=hy1.cell 2
  have y3:=hy1.cell 3
  have y4:=hy1.cell 4
  have y5:=hy1.cell 5
  have y6:=hy1.cell 6
  simp only [nqg,nqh,nqi] at y0 y1 y2 y3 y4 y5 y6
  have g0:=hy1.frozen 0
  have g1:=hy1.frozen 1
  have g2:=hy1.frozen 2
  have g3:=hy1.frozen 3
  have g4:=hy1.frozen 4
  have g5:=hy1.frozen 5
  have g6:=hy1.frozen 6
  have x0:=hBx1.cell 0
  have x1:=hBx1.cell 1
  have x2:=hBx1.cell 2
  have x3:=hBx1.cell 3
  simp only [nqg,nqh,nqi] at x0 x1 x2 x3
  rw [HST.out] at y1
  have HA1:=Lib.hid hA1
  clear hA1 hy1 hBx1 hS1 hbq HBX HP HS z0 z1 z2 z3 z4 z5 z6 f0 f1 f2 f3 f4 f5 f6
  go_wp2_with fail
  refine (resumeP b _ L t (p) _ HP1.out (HB.out) (by omega)).mono ?_
  rintro e w2 ⟨rfl,hP2,hS2⟩
  have HP2:=Lib.hid hP2
  have hBx2:=hS2.keep _ _ _ HBX1.out (by omega) (by decide) (by decide) (by decide)
  have HBX2:=Lib.hid hBx2
  have HS2:=Lib.hid (HS1.out.trans hS2)
  clear x0 x1 x2 x3 y0 y1 y2 y3 y4 y5 y6 g0 g1 g2 g3 g4 g5 g6
  obtain ⟨vb2,vp2,va2,ps2,hA2⟩:=hP2
  have hy2:=hA2.blk
  have y0:=hy2.cell 0
  have y1:=hy2.cell 1
  have y2:=hy2.cell 2
  have y3:=hy2.cell 3
  have y4:=hy2.cell 4
  have y5:=hy2.cell 5
  have y6:=hy2.cell 6
  simp only [nqg,nqh,nqi] at y0 y1 y2 y3 y4 y5 y6
  have g0:=hy2.frozen 0
  have g1:=hy2.frozen 1
  have g2:=hy2.frozen 2
  have g3:=hy2.frozen 3
  have g4:=hy2.frozen 4
  have g5:=hy2.frozen 5
  have g6:=hy2.frozen 6
  have x0:=hBx2.cell 0
  have x1:=hBx2.cell 1
  have x2:=hBx2.cell 2
  have x3:=hBx2.cell 3
  simp only [nqg,nqh,nqi] at x0 x1 x2 x3
  have HA2:=Lib.hid hA2
  clear hA2 hy2 hBx2 hS2
  go_wp2
  go_end0
  exact ⟨rfl,by rw [HPR.out]; exact HP2.out,HS2.out⟩
end
end Go.Proofs.YtopekilofdadnaaGreatDoor
