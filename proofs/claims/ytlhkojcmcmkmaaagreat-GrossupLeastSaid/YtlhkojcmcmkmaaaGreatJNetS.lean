/- Joined texts: NetS. Conditions: as stated. -/
import Derived.Test.YtlhkojcmcmkmaaaGreatJRec
namespace Go.Proofs.YtlhkojcmcmkmaaaGreat
open Go.RowKit
def sgL (k:Int) : Int:=if k = 1 then 1 else if k = 3 then -1 else if k = 4 then -1 else if k = 6 then -1 else if k = 7 then -1 else if k = 8 then -1 else if k = 9 then -1 else if k = 10 then 1 else 0
def balS : List LineT→Int
 | []=>0
 | x :: r=>sgL x.kind * x.amount+balS r
theorem balS_append (l m : List LineT) : balS (l++m) = balS l+balS m:=by
 induction l with
 | nil=>simp [balS]
 | cons a l ih=>simp [balS,ih]; omega
theorem balS_lines (k:Int) (l:List Elem) : balS (linesK k l) = sgL k * sumE l:=by
 rw [← sumE_nz,linesK]
 induction l.filter nz with
 | nil=>simp [balS,sumE]
 | cons a l ih=>simp only [List.map_cons,balS,sumE,ih,Int.mul_add]
theorem cash_sum (ws:List WageT) (l:List Elem) : (sumB ws l).c = sumE (l.filter (earnB ws)):=by
 have key:∀ (l:List Elem) (b:BasesT),(l.foldl (stepB ws) b).c = b.c+sumE (l.filter (earnB ws)):=by
  intro l
  induction l with
  | nil=>intro b; simp [sumE]
  | cons a l ih =>
   intro b
   rw [List.foldl_cons,ih,List.filter_cons]
   by_cases h:earnB ws a = true
   ·
    have h':((findW ws a.code).getD zeroW).kind = 1:=by simpa [earnB] using h
    rw [if_pos h]
    simp only [stepB,addBs,if_pos h',sumE]; omega
   ·
    have h':¬ ((findW ws a.code).getD zeroW).kind = 1:=by simpa [earnB] using h
    rw [if_neg h]
    simp only [stepB,addBs,if_neg h']; omega
 have:=key l zeroB
 simpa [sumB,zeroB] using this
theorem sumE_filter_nz (p:Elem→Bool) (l:List Elem) : sumE ((l.filter nz).filter p) = sumE (l.filter p):=by
 rw [List.filter_filter]
 rw [show (fun a=>p a && nz a) = (fun a=>nz a && p a) from by funext a; exact Bool.and_comm _ _,← List.filter_filter,sumE_nz]
structure LsOk (k:Int) (l:List LineT) : Prop where
 sorted:RL.Sorted l
 kind:∀ x ∈ l,x.kind≤k
theorem LsOk.nil_ (k:Int) : LsOk k []:=⟨List.Pairwise.nil,by simp⟩
theorem linesK_kind {k:Int} {l:List Elem} {x:LineT} (h:x ∈ linesK k l) : x.kind = k∧∃ y ∈ l,y.amount ≠ 0∧x = ⟨k,y.code,y.amount⟩:=by
 obtain ⟨y,hy,rfl⟩:=List.mem_map.1 h
 obtain ⟨h1,h2⟩:=List.mem_filter.1 hy
 exact ⟨rfl,y,h1,by simpa [nz] using h2,rfl⟩
theorem linesK_sorted (k:Int) {l:List Elem} (h:SortedE l) : RL.Sorted (linesK k l):=by
 unfold Rec.Sorted linesK
 rw [List.pairwise_map]
 refine (h.filter nz).imp ?_
 intro a b hab
 rw [lessE_iff] at hab
 simp only [RL,ltL,Bool.or_eq_true,Bool.and_eq_true,decide_eq_true_eq]
 exact .inr ⟨trivial,hab⟩
theorem LsOk.more {k k' : Int} {l:List LineT} (h:LsOk k l) (hk:k < k') {e:List Elem} (he:SortedE e) : LsOk k' (l++linesK k' e):=by
 refine ⟨?_,fun x hx=>?_⟩
 ·
  unfold Rec.Sorted
  rw [List.pairwise_append]
  refine ⟨h.sorted,linesK_sorted k' he,fun x hx y hy=>?_⟩
  have h1:=h.kind x hx
  have h2:=(linesK_kind hy).1
  simp only [RL,ltL,Bool.or_eq_true,decide_eq_true_eq]
  exact .inl (by omega)
 ·
  rcases List.mem_append.1 hx with h1 | h1
  ·
   have:=h.kind x h1; omega
  ·
   rw [(linesK_kind h1).1]; exact Int.le_refl _
theorem sorted_one (x:Elem) : SortedE [x]:=by simp [SortedE]
theorem linesK_len (k:Int) (l:List Elem) : (linesK k l).length≤l.length:=by simp [linesK]; exact List.length_filter_le _ _
structure ElOk (e:List Elem) : Prop where
 sorted:SortedE e
 name:∀ x ∈ e,nameB x.code = true
 lo:∀ x ∈ e,-100000000000≤x.amount
 hi:∀ x ∈ e,x.amount≤100000000000
theorem ElOk.filter {e:List Elem} (h:ElOk e) (p:Elem→Bool) : ElOk (e.filter p) :=
 ⟨List.Pairwise.filter _ h.sorted,fun x hx=>h.name x (mem_flt hx),fun x hx=>h.lo x (mem_flt hx),fun x hx=>h.hi x (mem_flt hx)⟩
structure LnOk (x:LineT) : Prop where
 form:formZ x = true
 lo : -100000000000≤x.amount
 hi:x.amount≤100000000000
theorem ln_named {k:Int} {e:List Elem} (h:ElOk e) (h1:1≤k) (h2:k≤10) (hb:bareB k = false) : ∀ x ∈ linesK k e,LnOk x:=by
 intro x hx
 obtain ⟨_,y,hy,hn,rfl⟩:=linesK_kind hx
 have a:=h.lo y hy
 have b:=h.hi y hy
 refine ⟨?_,a,b⟩
 have hm:maxN y.amount = true:=by simp [maxN]; omega
 simp [formZ,formB,h1,h2,hm,codeB,hb,h.name y hy,hn]
theorem ln_bare {k n : Int} (h1:1≤k) (h2:k≤10) (hb:bareB k = true) (a : -100000000000≤n) (b:n≤100000000000) : ∀ x ∈ linesK k [⟨⟨#[]⟩,n⟩],LnOk x:=by
 intro x hx
 obtain ⟨_,y,hy,hn,rfl⟩:=linesK_kind hx
 simp at hy
 subst hy
 refine ⟨?_,a,b⟩
 have hm:maxN n = true:=by simp [maxN]; omega
 simp only at hn
 simp [formZ,formB,h1,h2,hm,codeB,hb,hn]
 rfl
theorem addE_inv {a b : List Elem} (h:addE a b = 0) : recB a = true∧b.all addB = true∧recB (addO a b) = true∧addR a b = addO a b:=by
 rw [addE_def] at h
 split at h
 ·
  cases h
 ·
  split at h
  ·
   cases h
  ·
   split at h
   ·
    cases h
   ·
    split at h
    ·
     cases h
    ·
     split at h
     ·
      cases h
     ·
      rename_i h1 h2 h3 h4 h5
      have h1':recB a = true:=by simpa using h1
      have h2':b.all addB = true:=by simpa using h2
      refine ⟨h1',h2',?_,by rw [addR,addE_def,if_neg h1,if_neg h2,if_neg h3,if_neg h4,if_neg h5,if_pos rfl]⟩
      obtain ⟨r1,r2,r3⟩:=recB_iff.1 h1'
      refine recB_iff.2 ⟨by omega,fun x hx=>?_,addO_sorted b r3⟩
      obtain ⟨x1,x2,x3⟩:=(mem_addO r3 x).1 hx
      have hall:∀ y ∈ a++b,nameB y.code = true∧0≤y.amount:=fun y hy=>by
       rcases List.mem_append.1 hy with g | g
       ·
        exact ⟨(r2 y g).1,(r2 y g).2.1⟩
       ·
        have:=(addB_iff y).1 (List.all_eq_true.1 h2' y g)
        exact ⟨this.1,this.2.1⟩
      obtain ⟨y,hy,e⟩:=List.any_eq_true.1 x1
      have e':y.code = x.code:=by
       apply ba_ext
       simpa using e
      refine ⟨by rw [← e']; exact (hall y hy).1,?_,?_⟩
      ·
       rw [x2]; exact (totE_le (fun z hz=>(hall z hz).2) _).1
      ·
       have h5':anyBig (addO a b) = false:=by simpa using h5
       have:=(List.any_eq_false.1 h5') x hx
       simp only [big,decide_eq_true_eq] at this
       omega
section
variable {I:NetIn}
theorem NetIn.err_inv (h:I.err = 0) : I.y.periods < I.r.count∧ofErr I.r.wages I.e (sumsP I.e) = 0∧takeE I.p.deds I.base (max I.b.c 0) I.y.taken = 0∧I.overs = false∧amtB I.tax = true∧¬ (I.first = true∧1000000000 < I.net)∧addE I.y.taken I.before = 0∧takeE I.p.deds I.base (max I.left4 0) I.taken1 = 0∧addE I.taken1 I.after = 0:=by
 unfold NetIn.err at h
 split at h
 ·
  cases h
 ·
  split at h
  ·
   rename_i h2; exact absurd h h2
  ·
   split at h
   ·
    rename_i h2; exact absurd h h2
   ·
    split at h
    ·
     cases h
    ·
     split at h
     ·
      cases h
     ·
      split at h
      ·
       cases h
      ·
       split at h
       ·
        rename_i h2; exact absurd h h2
       ·
        split at h
        ·
         rename_i h2; exact absurd h h2
        ·
         rename_i a b c d e f g i
         exact ⟨by omega,by simpa using b,by simpa using c,by simpa using d,by simpa using e,f,by simpa using g,by simpa using i,h⟩
theorem own_sorted (I:NetIn) {l:List SchT} (h:l.Pairwise (fun a b=>Op.bytesLess a.code.toList b.code.toList = true)) : SortedE (I.ownTo l)∧SortedE (I.emplTo l):=by
 unfold NetIn.ownTo NetIn.emplTo SortedE
 rw [List.pairwise_map,List.pairwise_map]
 exact ⟨h,h⟩
theorem sumE_own (I:NetIn) (l:List SchT) : sumE (I.ownTo l) = I.leviesTo l:=by
 unfold NetIn.ownTo NetIn.leviesTo
 induction l with
 | nil=>rfl
 | cons a l ih=>simp only [List.map_cons,sumE,sumI,ih]
structure SlipOk (ws:List WageT) (l:List LineT) : Prop where
 sorted:RL.Sorted l
 ln:∀ x ∈ l,LnOk x
 len:l.length≤256
 bal:balS l = 0
 code:∀ x ∈ l,x.kind = 1→(findW ws x.code).isSome = true
structure PartsOk (I:NetIn) : Prop where
 merged:ElOk I.merged
 mlen:I.merged.length≤128
 before:ElOk I.before
 blen:I.before.length≤16
 bpos:∀ x ∈ I.before,0≤x.amount
 bsum:0≤sumE I.before∧sumE I.before≤max I.b.c 0
 own:ElOk (I.ownTo I.r.schemes)
 opos:∀ x ∈ I.ownTo I.r.schemes,0≤x.amount
 empl:ElOk (I.emplTo I.r.schemes)
 epos:∀ x ∈ I.emplTo I.r.schemes,0≤x.amount
 levies:0≤I.levies∧I.levies≤12000000000
 tax : -1000000000≤I.tax∧I.tax≤1000000000
 att:ElOk I.attached
 apos:∀ x ∈ I.attached,0≤x.amount
 alen:I.attached.length≤16
 asum:0≤sumE I.attached∧sumE I.attached≤16000000000
 after:ElOk I.after
 fpos:∀ x ∈ I.after,0≤x.amount
 flen:I.after.length≤16
 fsum:0≤sumE I.after∧sumE I.after≤1000000000
 cash:I.b.c = sumE I.earn
 cbd : -1000000000≤I.b.c∧I.b.c≤1000000000
theorem nodup_len {R:List Elem} {l:List OrdT} (hs:SortedE R) (hc : ∀ x ∈ R,∃ o ∈ l,x.code = o.id) : R.length≤l.length:=by
 have h1:(R.map (·.code)).Nodup:=by
  rw [List.Nodup,List.pairwise_map]
  exact sorted_codes hs
 have h2:∀ c ∈ R.map (·.code),c ∈ l.map (·.id):=fun c hc'=>by
  obtain ⟨x,hx,rfl⟩:=List.mem_map.1 hc'
  obtain ⟨o,ho,e⟩:=hc x hx
  exact List.mem_map.2 ⟨o,ho,e.symm⟩
 have:=nodup_le h1 h2
 simpa using this
theorem preErr_names {l:List Elem} (h:preErr l = 0) : ∀ x ∈ l,nameB x.code = true:=by
 have h1:¬ 128 < l.length:=by intro h1; rw [preErr,if_pos h1] at h; cases h
 rw [preErr,if_neg h1] at h
 split at h
 ·
  cases h
 ·
  rename_i h2
  intro x hx
  simp only [Bool.not_eq_true,List.any_eq_false] at h2
  simpa using h2 x hx
theorem sumI_map_bd {l:List SchT} {f:SchT→Int} (h : ∀ s ∈ l,0≤f s∧f s≤1000000000) (hl:l.length≤12) : 0≤sumI (l.map f)∧sumI (l.map f)≤12000000000:=by
 have:=sumI_bd (l:=l.map f) (B:=1000000000) (fun x hx=>by obtain ⟨s,hs,rfl⟩:=List.mem_map.1 hx; exact h s hs)
 rw [List.length_map] at this
 omega
theorem InOk.parts (h:InOk I) (he:I.err = 0) : PartsOk I:=by
 obtain ⟨hp,ho,ht1,hov,htx,hat,ha1,ht2,ha2⟩:=NetIn.err_inv he
 obtain ⟨_,hpre,hmis,hamt⟩:=ofErr_inv ho
 obtain ⟨_,⟨c0,c1⟩,⟨t0,t1⟩,⟨i0,i1⟩,_⟩:=amts_bd hamt
 have eb:I.b = sumB I.r.wages (sumsP I.e):=rfl
 obtain ⟨hbd,hl⟩:=preErr_zero hpre
 have hins:I.insured≤1000000000:=by unfold NetIn.insured; rw [eb]; omega
 have hlv:∀ s ∈ I.r.schemes,(0≤(I.levyOf s).employee∧(I.levyOf s).employee≤1000000000)∧0≤(I.levyOf s).employer∧(I.levyOf s).employer≤1000000000:=fun s hs =>
  h.levy hp hins hs (by
   have:=List.any_eq_false.1 hov s hs
   simpa using this)
 obtain ⟨b1,b2,b3,b4,b5⟩:=take_facts (before:=true) ht1
 obtain ⟨f1,f2,f3,f4,f5⟩:=take_facts (before:=false) ht2
 obtain ⟨_,_,_,g4,g5⟩:=takeE_inv ht2
 have hos:=own_sorted I h.r.asc
 have hA:AttOk 1000000000 I.p.orders I.attached ∨ (I.first = false∧I.attached = I.kept):=by
  cases hf:I.first
  ·
   exact .inr ⟨rfl,by unfold NetIn.attached; rw [hf]; rfl⟩
  ·
   left
   have hn:I.net≤1000000000:=by
    apply Decidable.byContradiction
    intro hh
    exact hat ⟨hf,by omega⟩
   obtain ⟨a,_⟩:=attach_facts h.r.sh h.p.orders (net:=I.net) (by unfold NetIn.net; omega) hn h.p.d0 h.p.d1
   have e:I.attached = attachN I.r.sh I.net I.p.deps I.p.orders:=by unfold NetIn.attached; rw [hf]; rfl
   rw [e]
   exact ⟨a.pos,fun x hx=>by have:=a.hi x hx; omega,a.name,a.code,a.sorted,a.lo,by have:=a.sum; omega⟩
 have hatt:ElOk I.attached∧(∀ x ∈ I.attached,0≤x.amount)∧I.attached.length≤16∧0≤sumE I.attached∧sumE I.attached≤16000000000:=by
  rcases hA with a | ⟨_,a⟩
  ·
   refine ⟨⟨a.sorted,a.name,fun x hx=>by have:=a.pos x hx; omega,fun x hx=>by have:=a.hi x hx; omega⟩,a.pos,?_,a.lo,by have:=a.sum; omega⟩
   have:=nodup_len a.sorted a.code
   have:=h.p.orders.len
   omega
  ·
   rw [a]
   obtain ⟨k1,k2,k3⟩:=recB_iff.1 h.kept.recd
   have k4:=h.kept.hi
   have k5:=h.kept.len
   have:=sumE_bd I.kept 1000000000 (fun x hx=>⟨(k2 x hx).2.1,k4 x hx⟩)
   refine ⟨⟨k3,fun x hx=>(k2 x hx).1,fun x hx=>by have:=(k2 x hx).2.1; omega,fun x hx=>by have:=k4 x hx; omega⟩,fun x hx=>(k2 x hx).2.1,k5,this.1,?_⟩
   omega
 have hnm:∀ x ∈ sumsP I.e,nameB x.code = true:=fun x hx=>by
  obtain ⟨y,hy,e⟩:=sumsP_codes hx
  rw [← e]; exact preErr_names hpre y hy
 refine ⟨⟨List.Pairwise.filter _ (sumsP_sorted _),fun x hx=>hnm x (mem_flt hx),fun x hx=>?_,fun x hx=>?_⟩,?_,⟨b1,fun x hx=>(b2 x hx).1,fun x hx=>?_,fun x hx=>?_⟩,b5,fun x hx=>(b2 x hx).2.1,⟨b3,b4⟩,⟨hos.1,?_,?_,?_⟩,?_,⟨hos.2,?_,?_,?_⟩,?_,?_,amtB_iff.1 htx,hatt.1,hatt.2.1,hatt.2.2.1,hatt.2.2.2,⟨f1,fun x hx=>(f2 x hx).1,fun x hx=>?_,fun x hx=>?_⟩,fun x hx=>(f2 x hx).2.1,f5,⟨f3,?_⟩,?_,?_⟩
 ·
  have:=hbd x (mem_flt hx); omega
 ·
  have:=hbd x (mem_flt hx); omega
 ·
  exact Nat.le_trans (List.length_filter_le _ _) hl
 ·
  have:=(b2 x hx).2.1; omega
 ·
  have:=(b2 x hx).2.2; omega
 ·
  intro x hx
  obtain ⟨s,hs,rfl⟩:=List.mem_map.1 hx
  exact (h.r.sch s hs).name
 ·
  intro x hx
  obtain ⟨s,hs,rfl⟩:=List.mem_map.1 hx
  have:=hlv s hs
  show _≤(I.levyOf s).employee; omega
 ·
  intro x hx
  obtain ⟨s,hs,rfl⟩:=List.mem_map.1 hx
  have:=hlv s hs
  show (I.levyOf s).employee≤_; omega
 ·
  intro x hx
  obtain ⟨s,hs,rfl⟩:=List.mem_map.1 hx
  exact (hlv s hs).1.1
 ·
  intro x hx
  obtain ⟨s,hs,rfl⟩:=List.mem_map.1 hx
  exact (h.r.sch s hs).name
 ·
  intro x hx
  obtain ⟨s,hs,rfl⟩:=List.mem_map.1 hx
  have:=hlv s hs
  show _≤(I.levyOf s).employer; omega
 ·
  intro x hx
  obtain ⟨s,hs,rfl⟩:=List.mem_map.1 hx
  have:=hlv s hs
  show (I.levyOf s).employer≤_; omega
 ·
  intro x hx
  obtain ⟨s,hs,rfl⟩:=List.mem_map.1 hx
  exact (hlv s hs).2.1
 ·
  exact sumI_map_bd (fun s hs=>(hlv s hs).1) h.r.nsch
 ·
  have:=(f2 x hx).2.1; omega
 ·
  have:=(f2 x hx).2.2; omega
 ·
  show sumE I.after≤_
  have:sumE I.after≤max I.left4 0:=f4
  omega
 ·
  rw [eb,cash_sum]; exact (sumE_filter_nz _ _).symm
 ·
  rw [eb]; exact ⟨c0,c1⟩
theorem PartsOk.slip (P:PartsOk I) (hm:missing I.r.wages (sumsP I.e) = false) (hsl:I.r.schemes.length≤12) : SlipOk I.r.wages I.lines:=by
 have hme:=P.merged.filter (earnB I.r.wages)
 have hmb:=P.merged.filter fun x=>!earnB I.r.wages x
 have c:=P.cbd
 have l5 : -100000000000≤I.left5∧I.left5≤100000000000:=by
  have:=P.bsum; have:=P.levies; have:=P.tax; have:=P.asum; have:=P.fsum
  unfold NetIn.left5 NetIn.left4 NetIn.left3 NetIn.left2 NetIn.left1
  omega
 have hn9:∀ x ∈ linesK 9 [⟨⟨#[]⟩,max I.left5 0⟩],LnOk x:=ln_bare (by omega) (by omega) rfl (by omega) (by omega)
 have hn10:∀ x ∈ linesK 10 [⟨⟨#[]⟩,max (-I.left5) 0⟩],LnOk x:=ln_bare (by omega) (by omega) rfl (by omega) (by omega)
 have hn6:∀ x ∈ linesK 6 [⟨⟨#[]⟩,I.tax⟩],LnOk x:=ln_bare (by omega) (by omega) rfl (by have:=P.tax; omega) (by have:=P.tax; omega)
 refine ⟨?_,?_,?_,?_,?_⟩
 ·
  have h1:=(LsOk.nil_ 0).more (k':=1) (by omega) hme.sorted
  exact ((((((((((h1.more (k':=2) (by omega) hmb.sorted).more (k':=3) (by omega) P.before.sorted).more (k':=4) (by omega) P.own.sorted).more (k':=5) (by omega) P.empl.sorted).more (k':=6) (by omega) (sorted_one _)).more (k':=7) (by omega) P.att.sorted).more (k':=8) (by omega) P.after.sorted).more (k':=9) (by omega) (sorted_one _)).more (k':=10) (by omega) (sorted_one _))).sorted
 ·
  intro x hx
  simp only [NetIn.lines,List.mem_append] at hx
  rcases hx with ((((((((hx | hx) | hx) | hx) | hx) | hx) | hx) | hx) | hx) | hx
  ·
   exact ln_named hme (by omega) (by omega) rfl x hx
  ·
   exact ln_named hmb (by omega) (by omega) rfl x hx
  ·
   exact ln_named P.before (by omega) (by omega) rfl x hx
  ·
   exact ln_named P.own (by omega) (by omega) rfl x hx
  ·
   exact ln_named P.empl (by omega) (by omega) rfl x hx
  ·
   exact hn6 x hx
  ·
   exact ln_named P.att (by omega) (by omega) rfl x hx
  ·
   exact ln_named P.after (by omega) (by omega) rfl x hx
  ·
   exact hn9 x hx
  ·
   exact hn10 x hx
 ·
  have e1:I.earn.length+I.bene.length = I.merged.length:=by
   unfold NetIn.earn NetIn.bene
   induction I.merged with
   | nil=>rfl
   | cons a l ih =>
    rw [List.filter_cons,List.filter_cons]
    cases earnB I.r.wages a <;> simp <;> omega
  have a1:=linesK_len 1 I.earn
  have a2:=linesK_len 2 I.bene
  have a3:=linesK_len 3 I.before
  have a4:=linesK_len 4 (I.ownTo I.r.schemes)
  have a5:=linesK_len 5 (I.emplTo I.r.schemes)
  have a6:=linesK_len 6 [⟨⟨#[]⟩,I.tax⟩]
  have a7:=linesK_len 7 I.attached
  have a8:=linesK_len 8 I.after
  have a9:=linesK_len 9 [⟨⟨#[]⟩,max I.left5 0⟩]
  have a10:=linesK_len 10 [⟨⟨#[]⟩,max (-I.left5) 0⟩]
  have b1:=P.mlen
  have b2:=P.blen
  have b3:=P.alen
  have b4:=P.flen
  have b5:(I.ownTo I.r.schemes).length = I.r.schemes.length:=by simp [NetIn.ownTo]
  have b6:(I.emplTo I.r.schemes).length = I.r.schemes.length:=by simp [NetIn.emplTo]
  simp only [List.length_singleton] at a6 a9 a10
  simp only [NetIn.lines,List.length_append]
  omega
 ·
  simp only [NetIn.lines,balS_append,balS_lines,sumE_own]
  have e:=P.cash
  simp only [sgL,sumE]
  unfold NetIn.left5 NetIn.left4 NetIn.left3 NetIn.left2 NetIn.left1 NetIn.levies
  simp
  omega
 ·
  intro x hx hk
  simp only [NetIn.lines,List.mem_append] at hx
  rcases hx with ((((((((hx | hx) | hx) | hx) | hx) | hx) | hx) | hx) | hx) | hx
  ·
   obtain ⟨_,y,hy,_,rfl⟩:=linesK_kind hx
   have hy2:y ∈ sumsP I.e:=mem_flt (mem_flt hy)
   have:=List.any_eq_false.1 hm y hy2
   cases hf:findW I.r.wages y.code
   ·
    simp [hf] at this
   ·
    rfl
  all_goals (have h9:=(linesK_kind hx).1; omega)
theorem InOk.slip (h:InOk I) (he:I.err = 0) : SlipOk I.r.wages I.lines :=
 (h.parts he).slip (ofErr_inv (NetIn.err_inv he).2.1).2.2.1 h.r.nsch
end
end Go.Proofs.YtlhkojcmcmkmaaaGreat
