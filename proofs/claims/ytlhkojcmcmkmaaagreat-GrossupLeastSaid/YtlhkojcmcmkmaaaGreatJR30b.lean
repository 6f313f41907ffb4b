/- Joined texts: R30b R30c Wage Wage3 RefSums Wage2 RefOf TakeP AddP. Conditions: as stated. -/
import Derived.Deep.Light
import Derived.Test.YtlhkojcmcmkmaaaGreatJData
import Derived.Test.YtlhkojcmcmkmaaaGreatJLeaf
import Derived.Test.YtlhkojcmcmkmaaaGreatJElem
import Derived.Test.YtlhkojcmcmkmaaaGreatJNetT
import Derived.Test.YtlhkojcmcmkmaaaGreatJNetP
namespace Go.Proofs.YtlhkojcmcmkmaaaGreat
open Go.RowKit
theorem formula_sizes {t:TarT} {inc count : Int} (hT:TarOk t) (i0:0≤inc) (i1:inc≤1000000000) (n0:1≤count) (n1:count≤53) :
  (0≤inc * count∧inc * count≤53000000000)∧(0≤tax30N t t.brs t.allowance t.credit (inc * count)∧tax30N t t.brs t.allowance t.credit (inc * count)≤54000000000)∧(tax30N t t.brs t.allowance t.credit (inc * count)).tdiv count = formulaN t inc count∧(0≤formulaN t inc count∧formulaN t inc count≤54000000000):=by
 have p0:0≤inc * count:=Int.mul_nonneg i0 (by omega)
 have p1:inc * count≤1000000000 * 53:=Int.mul_le_mul i1 n1 (by omega) (by omega)
 obtain ⟨b0,b1⟩:=tax30_bd (t:=t) (al:=t.allowance) (cr:=t.credit) hT.brs hT.u0 hT.u1 hT.a0 hT.c0 p0
 refine ⟨by omega,by omega,Int.tdiv_eq_ediv_of_nonneg b0,Int.ediv_nonneg b0 (by omega),?_⟩
 refine Int.le_trans (Int.ediv_le_self _ b0) (by omega)
theorem due_sizes {t:TarT} {count k : Int} (hT:TarOk t) (n0:1≤count) (n1:count≤53) (k0:1≤k) (k1:k≤count) :
  ((0≤t.allowance * k∧t.allowance * k≤53000000000)∧(0≤t.credit * k∧t.credit * k≤53000000000))∧((t.allowance * k).tdiv count = t.allowance * k / count∧(t.credit * k).tdiv count = t.credit * k / count)∧(0≤t.allowance * k / count∧t.allowance * k / count≤1000000000)∧(0≤t.credit * k / count∧t.credit * k / count≤1000000000):=by
 have key:∀ x:Int,0≤x→x≤1000000000→(0≤x * k∧x * k≤53000000000)∧(x * k).tdiv count = x * k / count∧0≤x * k / count∧x * k / count≤1000000000:=fun x x0 x1=>by
  have p0:0≤x * k:=Int.mul_nonneg x0 (by omega)
  have p1:x * k≤1000000000 * 53:=Int.mul_le_mul x1 (by omega) (by omega) (by omega)
  refine ⟨by omega,Int.tdiv_eq_ediv_of_nonneg p0,Int.ediv_nonneg p0 (by omega),?_⟩
  refine Int.le_trans (Int.ediv_le_of_le_mul (by omega) ?_) x1
  exact Int.mul_le_mul_of_nonneg_left k1 x0
 obtain ⟨a,b,c⟩:=key t.allowance hT.a0 hT.a1
 obtain ⟨d,e,f⟩:=key t.credit hT.c0 hT.c1
 exact ⟨⟨a,d⟩,⟨b,e⟩,c,f⟩
end Go.Proofs.YtlhkojcmcmkmaaaGreat
namespace Go.Proofs.YtlhkojcmcmkmaaaGreat
open Go.RowKit
theorem due_bd {t:TarT} {count k total : Int} (hT:TarOk t) (n0:1≤count) (n1:count≤53) (k0:1≤k) (k1:k≤count) (i0:0≤total) (i1:total≤1000000000000) : 0≤dueN t count k total∧dueN t count k total≤1000000000100:=by
 obtain ⟨_,_,⟨q0,_⟩,q2,_⟩:=due_sizes hT n0 n1 k0 k1
 have:=tax30_bd (t:=t) (inc:=total) (scaleN_ok (num:=k) (den:=count) hT.brs (by omega) n0 k1) hT.u0 hT.u1 q0 q2 i0
 unfold dueN
 omega
end Go.Proofs.YtlhkojcmcmkmaaaGreat
namespace Go.Proofs.YtlhkojcmcmkmaaaGreat
open Go.RowKit
def okAt (xs:List WageT) (i:Nat) (x:WageT) : Bool :=
 nameB x.code && (decide (i = 0) || (match xs[i - 1]? with | some p=>Op.bytesLess p.code.toList x.code.toList | none=>true)) && (x.kind == 1 || x.kind == 2) && !(x.kind == 2 && x.attachable) && (decide (1000≤x.account) && decide (x.account≤9999))
def validB (xs:List WageT) : Bool:=decide (xs.length≤64) && decide (∀ i,(h:i < xs.length)→okAt xs i xs[i] = true)
theorem validB_no {xs:List WageT} {i:Nat} (h:i < xs.length) (hn:okAt xs i xs[i] = false) : validB xs = false:=by
 unfold validB
 simp only [Bool.and_eq_false_iff,decide_eq_false_iff_not]
 right
 intro hh
 have:=hh i h
 rw [hn] at this
 cases this
theorem validB_yes {xs:List WageT} (hl:xs.length≤64) (h : ∀ i,(h:i < xs.length)→okAt xs i xs[i] = true) : validB xs = true:=by
 unfold validB
 simp only [Bool.and_eq_true,decide_eq_true_eq]
 exact ⟨hl,h⟩
theorem okAt_eq (xs:List WageT) (i:Nat) (x:WageT) (l:Bool) (hl:i = 0 ∨ (∃ p,xs[i - 1]? = some p∧l = Op.bytesLess p.code.toList x.code.toList)) :
  okAt xs i x = decide (nameB x.code = true∧(i = 0 ∨ l = true)∧(x.kind = 1 ∨ x.kind = 2)∧¬ (x.kind = 2∧x.attachable = true)∧1000≤x.account∧x.account≤9999):=by
 rw [Bool.eq_iff_iff]
 rcases hl with rfl | ⟨p,hp,rfl⟩
 ·
  simp [okAt,and_assoc]
 ·
  simp [okAt,hp,and_assoc]
set_option maxHeartbeats 2000000 in
theorem valid_any (A:Option Addr) (cap:Nat) (xs:List WageT) (w:World) (h:SliceOf encW 6 w w.heap.size A xs) (hz : ∀ x ∈ xs,x.code.size≤maxLen) (hl:xs.length≤9223372036854775807) :
    Calls Tryz.prog 153 #[.slice A xs.length cap] w fun e w'=>e = .returned (.bool (validB xs))∧Below w.heap.size w w':=by
  have HZ:=Lib.hid hz; clear hz
  by_cases hlen:64 < xs.length
  · have HV:Hid (validB xs = false):=by simp [Hid,validB]; intro; omega
    go_enter Tryz.func153,Tryz.ntmps153
    go_wp2
    go_ret
    exact ⟨by rw [HV.out]; rfl,Below.refl _ _⟩
  · have hlen':xs.length≤64:=by omega
    clear hlen hl
    go_enter Tryz.func153,Tryz.ntmps153
    go_wp2
    go_loopw [10] (fun i wr=>∃ k:Nat,k≤xs.length∧i = .int .i64 k∧Hid (∀ j,(hj:j < xs.length)→j < k→okAt xs j xs[j] = true)∧Below w.heap.size w wr) (fun i _=>xs.length - (intOf i).toNat)
    case atStart=>exact ⟨0,by omega,rfl,fun j _ hj=>absurd hj (by omega),Below.refl _ _⟩
    case round =>
      obtain ⟨k,hk,rfl,hall,hbel⟩:=hrel
      by_cases hlt:k < xs.length
      · obtain ⟨b,off,rfl,hb,hc⟩:=(h.below hbel).at_ hlt
        have c0:=hc 0 _ rfl
        have c1:=hc 1 _ rfl
        have c2:=hc 2 _ rfl
        have c3:=hc 3 _ rfl
        have c4:=hc 4 _ rfl
        have c5:=hc 5 _ rfl
        simp only [Nat.add_zero] at c0
        have hzk:=HZ.out _ (List.getElem_mem hlt)
        have hno:∀ r,okAt xs k xs[k] = r→Hid (okAt xs k xs[k] = r):=fun r h=>h
        have hbs:=hbel.size
        have HNO:=Lib.hid (@validB_no xs k hlt)
        clear hc
        have hB:Below w.heap.size w (wr.alloc (.cells (encW xs[k]).toArray 77)):=hbel.alloc hbs _
        rcases Nat.lt_or_ge 0 k with hk0 | hk0
        rotate_left
        · have hO:=okAt_eq xs k xs[k] true (.inl (by omega))
          have hg0:decide ((0:Int) < (k:Int)) = false:=by simp; omega
          have hg1:decide (0 < k) = false:=by simp; omega
          have HO:=Lib.hid hO
          clear hO
          go_wp2_with (go_at_call 82; refine (isName_any _ _ hzk).mono ?_; rintro e w' ⟨rfl,rfl⟩)
          · have hf:(!nameB xs[k].code) = true:=by assumption
            go_ret
            exact ⟨by rw [HNO.out (by simp at hf; simp [okAt,hf])]; rfl,hB⟩
          · have hf:(!nameB xs[k].code) = false:=by assumption
            go_quiet (fail)
            go_wp2
            all_goals first
              | (go_ret
                 refine ⟨?_,below_drewN (hbel.alloc hbs _) _⟩
                 have hq:okAt xs k xs[k] = false:=by
                   go_light
                   rw [HO.out]
                   apply decide_eq_false
                   rintro ⟨h1,h2,h3,h4,h5,h6⟩
                   first | omega | (simp_all; done) | (simp_all; omega)
                 rw [HNO.out hq]; rfl)
              | (go_roundw
                 case rel =>
                   have hok:∀ j,(hj:j < xs.length)→j < k+1→okAt xs j xs[j] = true:=by
                     intro j hj hjk
                     obtain rfl:j = k:=by omega
                     go_light
                     rw [HO.out]
                     apply decide_eq_true
                     refine ⟨by simpa using hf,by omega,?_,?_,?_,?_⟩
                     all_goals first | omega | (simp_all; done) | (simp_all; omega)
                   first | exact ⟨k+1,by omega,by go_num,hok,below_drewN (hbel.alloc hbs _) _⟩ | ((repeat apply Exists.intro); exact ⟨⟨k+1,by omega,by go_num,hok,below_drewN (hbel.alloc hbs _) _⟩,rfl⟩)
                 case measure=>simp [intOf]; omega)
        · obtain ⟨m,rfl⟩ : ∃ m,k = m+1:=⟨k - 1,by omega⟩
          obtain ⟨b',off',hA',hb',hc'⟩:=(h.below hbel).at_ (show m < xs.length by omega)
          injection hA' with hA'
          injection hA' with h1 h2
          subst h1 h2
          have p0:=hc' 0 _ rfl
          simp only [Nat.add_zero] at p0
          have hO:=okAt_eq xs (m+1) xs[m+1] _ (.inr ⟨xs[m],by simp,rfl⟩)
          have HO:=Lib.hid hO
          have hbwr:b < wr.heap.size:=by omega
          clear hc' hO
          go_wp2_with (go_at_call 82; refine (isName_any _ _ hzk).mono ?_; rintro e w' ⟨rfl,rfl⟩)
          · have hf:(!nameB xs[m+1].code) = true:=by assumption
            go_ret
            exact ⟨by rw [HNO.out (by simp at hf; simp [okAt,hf])]; rfl,hB⟩
          · have hf:(!nameB xs[m+1].code) = false:=by assumption
            go_quiet (fail)
            go_wp2
            all_goals first
              | (go_ret
                 refine ⟨?_,below_drewN (hbel.alloc hbs _) _⟩
                 have hq:okAt xs (m+1) xs[m+1] = false:=by
                   go_light
                   rw [HO.out]
                   apply decide_eq_false
                   rintro ⟨h1,h2,h3,h4,h5,h6⟩
                   first | omega | (simp_all; done) | (simp_all; omega)
                 rw [HNO.out hq]; rfl)
              | (go_roundw
                 case rel =>
                   have hok:∀ j,(hj:j < xs.length)→j < m+1+1→okAt xs j xs[j] = true:=by
                     intro j hj hjk
                     rcases Nat.lt_or_ge j (m+1) with h1 | h1
                     · exact hall.out j hj h1
                     · obtain rfl:j = m+1:=by omega
                       go_light
                       rw [HO.out]
                       apply decide_eq_true
                       refine ⟨by simpa using hf,.inr (by simp_all),?_,?_,?_,?_⟩
                       all_goals first | omega | (simp_all; done) | (simp_all; omega)
                   first | exact ⟨m+1+1,by omega,by go_num,hok,below_drewN (hbel.alloc hbs _) _⟩ | ((repeat apply Exists.intro); exact ⟨⟨m+1+1,by omega,by go_num,hok,below_drewN (hbel.alloc hbs _) _⟩,rfl⟩)
                 case measure=>simp [intOf]; omega)
      · go_wp2
        go_ret
        exact ⟨by rw [validB_yes hlen' (fun i hi=>hall.out i hi (by omega))]; rfl,hbel⟩
end Go.Proofs.YtlhkojcmcmkmaaaGreat
namespace Go.Proofs.YtlhkojcmcmkmaaaGreat
open Go.RowKit
def zeroW : WageT:=⟨⟨#[]⟩,0,false,false,false,0⟩
def hasC (c:ByteArray) (x:WageT) : Bool:=x.code.toList == c.toList
def findW (xs:List WageT) (c:ByteArray) : Option WageT:=xs.find? (hasC c)
def foundV (o:Option WageT) : Value:=.tuple #[.agg (encW (o.getD zeroW)).toArray,.bool o.isSome]
theorem findW_some {xs:List WageT} {c:ByteArray} {k:Nat} (hk:k < xs.length) (h : ∀ j,(hj:j < xs.length)→j < k→hasC c xs[j] = false) (hh:hasC c xs[k] = true) : findW xs c = some xs[k]:=by
 unfold findW
 rw [List.find?_eq_some_iff_getElem]
 refine ⟨hh,k,hk,rfl,fun j hj=>?_⟩
 rw [h j (by omega) hj]; rfl
theorem findW_none {xs:List WageT} {c:ByteArray} (h : ∀ j,(hj:j < xs.length)→hasC c xs[j] = false) : findW xs c = none:=by
 unfold findW
 rw [List.find?_eq_none]
 intro x hx
 obtain ⟨j,hj,rfl⟩:=List.mem_iff_getElem.1 hx
 rw [h j hj]; simp
set_option maxHeartbeats 1000000 in
theorem find_any (A:Option Addr) (cap:Nat) (xs:List WageT) (c:ByteArray) (w:World) (h:SliceOf encW 6 w w.heap.size A xs) (hl:xs.length≤9223372036854775806) :
  Calls Tryz.prog 74 #[.slice A xs.length cap,.string c] w fun e w'=>e = .returned (foundV (findW xs c))∧Below w.heap.size w w':=by
 go_enter Tryz.func74,Tryz.ntmps74
 go_wp2
 go_loopw [10] (fun i wr=>∃ k:Nat,k≤xs.length∧i = .int .i64 k∧Hid (∀ j,(hj:j < xs.length)→j < k→hasC c xs[j] = false)∧Below w.heap.size w wr∧Blk wr w.heap.size 77 (encW zeroW).toArray) (fun i _=>xs.length - (intOf i).toNat)
 case atStart=>exact ⟨0,by omega,rfl,fun j _ hj=>absurd hj (by omega),(Below.refl _ _).alloc (Nat.le_refl _) _,Blk.new _ _ _⟩
 case round =>
  obtain ⟨k,hk,rfl,hall,hbel,hblk⟩:=hrel
  have hz:=hblk.lt
  have z0:=hblk.cell 0
  have z1:=hblk.cell 1
  have z2:=hblk.cell 2
  have z3:=hblk.cell 3
  have z4:=hblk.cell 4
  have z5:=hblk.cell 5
  have f0:=hblk.frozen 0
  have f1:=hblk.frozen 1
  have f2:=hblk.frozen 2
  have f3:=hblk.frozen 3
  have f4:=hblk.frozen 4
  have f5:=hblk.frozen 5
  simp only [encW,zeroW,List.getElem?_toArray,List.getElem?_cons_zero,List.getElem?_cons_succ] at z0 z1 z2 z3 z4 z5
  by_cases hlt:k < xs.length
  ·
   obtain ⟨b,off,rfl,hb,hc⟩:=(h.below hbel).at_ hlt
   have c0:=hc 0 _ rfl
   have c1:=hc 1 _ rfl
   have c2:=hc 2 _ rfl
   have c3:=hc 3 _ rfl
   have c4:=hc 4 _ rfl
   have c5:=hc 5 _ rfl
   simp only [Nat.add_zero] at c0
   clear hc
   have hbb:b < wr.heap.size:=by omega
   by_cases ht:(xs[k].code.toList == c.toList) = true
   ·
    have HF:=Lib.hid (findW_some hlt hall.out ht)
    go_wp2
    have hfb:=(hblk.put6 rfl (.string xs[k].code) (.int .i64 xs[k].kind) (.bool xs[k].taxable) (.bool xs[k].insured) (.bool xs[k].attachable) (.int .i64 xs[k].account)).alloc (Obj.cells #[Value.string xs[k].code,Value.int IntKind.i64 xs[k].kind,Value.bool xs[k].taxable,Value.bool xs[k].insured,Value.bool xs[k].attachable,Value.int IntKind.i64 xs[k].account] 77)
    have hfB:Below w.heap.size w _:=(below_put (below_put (below_put (below_put (below_put (below_put hbel (Nat.le_refl _) 0 (.string xs[k].code)) (Nat.le_refl _) 1 (.int .i64 xs[k].kind)) (Nat.le_refl _) 2 (.bool xs[k].taxable)) (Nat.le_refl _) 3 (.bool xs[k].insured)) (Nat.le_refl _) 4 (.bool xs[k].attachable)) (Nat.le_refl _) 5 (.int .i64 xs[k].account)).alloc (by simp; omega) (Obj.cells #[Value.string xs[k].code,Value.int IntKind.i64 xs[k].kind,Value.bool xs[k].taxable,Value.bool xs[k].insured,Value.bool xs[k].attachable,Value.int IntKind.i64 xs[k].account] 77)
    generalize World.alloc _ _ = WW at hfb hfB ⊢
    have q0:=hfb.cell 0
    have q1:=hfb.cell 1
    have q2:=hfb.cell 2
    have q3:=hfb.cell 3
    have q4:=hfb.cell 4
    have q5:=hfb.cell 5
    simp only [nqg,nqh,nqi] at q0 q1 q2 q3 q4 q5
    refine bodyPost_ret (v:=foundV (some xs[k])) (by simp [results,Tryz.results74,go_sem,q0,q1,q2,q3,q4,q5,foundV,encW]) rfl ⟨by rw [HF.out],hfB⟩
   ·
    have ht':(xs[k].code.toList == c.toList) = false:=by simpa using ht
    clear ht
    go_wp2
    go_roundw
    case rel =>
     refine ⟨k+1,by omega,by go_num,fun j hj hjk=>?_,hbel.alloc (by omega) _,hblk.alloc _⟩
     rcases Nat.lt_or_ge j k with h1 | h1
     ·
      exact hall.out j hj h1
     ·
      obtain rfl:j = k:=by omega
      exact ht'
    case measure=>simp [intOf]; omega
  ·
   have HF:=Lib.hid (findW_none (xs:=xs) (c:=c) (fun j hj=>hall.out j hj (by omega)))
   go_wp2
   have hfb:=hblk.put6 rfl (.string { data:=#[] }) (.int .i64 0) (.bool false) (.bool false) (.bool false) (.int .i64 0)
   have hfB:Below w.heap.size w _:=below_put (below_put (below_put (below_put (below_put (below_put hbel (Nat.le_refl _) 0 (.string { data:=#[] })) (Nat.le_refl _) 1 (.int .i64 0)) (Nat.le_refl _) 2 (.bool false)) (Nat.le_refl _) 3 (.bool false)) (Nat.le_refl _) 4 (.bool false)) (Nat.le_refl _) 5 (.int .i64 0)
   generalize World.setCell _ _ (Value.int .i64 0) = WW at hfb hfB ⊢
   have q0:=hfb.cell 0
   have q1:=hfb.cell 1
   have q2:=hfb.cell 2
   have q3:=hfb.cell 3
   have q4:=hfb.cell 4
   have q5:=hfb.cell 5
   simp only [nqg,nqh,nqi] at q0 q1 q2 q3 q4 q5
   refine bodyPost_ret (v:=foundV none) (by simp [results,Tryz.results74,go_sem,q0,q1,q2,q3,q4,q5,foundV,encW,zeroW]) rfl ⟨by rw [HF.out],hfB⟩
end Go.Proofs.YtlhkojcmcmkmaaaGreat
namespace Go.Proofs.YtlhkojcmcmkmaaaGreat
open Go.RowKit
def preErr (l:List Elem) : Int:=if 128 < l.length then 3 else if l.any (fun x=>!nameB x.code) then 7 else if l.any (fun x=>!amtB x.amount) then 2 else if (sumsP l).any (fun x=>!amtB x.amount) then 4 else 0
def mergeR (l:List Elem) : List Elem:=if preErr l = 0 then (sumsP l).filter nz else []
end Go.Proofs.YtlhkojcmcmkmaaaGreat
namespace Go.Proofs.YtlhkojcmcmkmaaaGreat
open Go.RowKit
end Go.Proofs.YtlhkojcmcmkmaaaGreat
namespace Go.Proofs.YtlhkojcmcmkmaaaGreat
open Go.RowKit
structure BasesT where
 g:Int
 c:Int
 t:Int
 i:Int
 a:Int
deriving DecidableEq
def encBas (b:BasesT) : List Value:=[.int .i64 b.g,.int .i64 b.c,.int .i64 b.t,.int .i64 b.i,.int .i64 b.a]
def zeroB : BasesT:=⟨0,0,0,0,0⟩
def addBs (b:BasesT) (y:WageT) (n:Int) : BasesT:=⟨b.g+n,b.c+(if y.kind = 1 then n else 0),b.t+(if y.taxable then n else 0),b.i+(if y.insured then n else 0),b.a+(if y.attachable then n else 0)⟩
def stepB (ws:List WageT) (b:BasesT) (x:Elem) : BasesT:=addBs b ((findW ws x.code).getD zeroW) x.amount
def sumB (ws:List WageT) (l:List Elem) : BasesT:=l.foldl (stepB ws) zeroB
def missing (ws:List WageT) (l:List Elem) : Bool:=l.any fun x=>(findW ws x.code).isNone
def amtsB (b:BasesT) : Bool:=amtB b.g && amtB b.c && amtB b.t && amtB b.i && amtB b.a
def ofErr (ws:List WageT) (l m : List Elem) : Int:=if validB ws = false then 1 else if preErr l ≠ 0 then preErr l else if missing ws m then 16 else if amtsB (sumB ws m) = false then 4 else 0
def ofV (ws:List WageT) (l m : List Elem) : Value:=.tuple #[.agg (encBas (if ofErr ws l m = 0 then sumB ws m else zeroB)).toArray,.int .i64 (ofErr ws l m)]
def Bs (w:World) (g:Nat) (b:BasesT) : Prop:=Blk w g 24 (encBas b).toArray
section
variable {w:World} {gg:Nat} {b:BasesT}
theorem Bs.g (h:Bs w gg b) (n:Int) : Bs (w.setCell ⟨gg,0,none⟩ (.int .i64 n)) gg { b with g:=n }:=Blk.set_ h 0 _
theorem Bs.c (h:Bs w gg b) (n:Int) : Bs (w.setCell ⟨gg,1,none⟩ (.int .i64 n)) gg { b with c:=n }:=Blk.set_ h 1 _
theorem Bs.t (h:Bs w gg b) (n:Int) : Bs (w.setCell ⟨gg,2,none⟩ (.int .i64 n)) gg { b with t:=n }:=Blk.set_ h 2 _
theorem Bs.i (h:Bs w gg b) (n:Int) : Bs (w.setCell ⟨gg,3,none⟩ (.int .i64 n)) gg { b with i:=n }:=Blk.set_ h 3 _
theorem Bs.a (h:Bs w gg b) (n:Int) : Bs (w.setCell ⟨gg,4,none⟩ (.int .i64 n)) gg { b with a:=n }:=Blk.set_ h 4 _
theorem Bs.far (h:Bs w gg b) {p:Addr} (hp:gg ≠ p.block) (u:Value) : Bs (w.setCell p u) gg b:=Blk.far h hp u
theorem Bs.alloc (h:Bs w gg b) (o:Obj) : Bs (w.alloc o) gg b:=Blk.alloc h o
theorem Bs.below {w' : World} {B:Nat} (h:Bs w gg b) (hb:Below B w w') (hg:gg < B) : Bs w' gg b:=Blk.below h hb hg
end
theorem Blk.put5 {w:World} {g:Nat} {t:TypeId} {cs:Array Value} (h:Blk w g t cs) (hs:cs.size = 5) (a0 a1 a2 a3 a4 : Value) :
  Blk (((((w.setCell ⟨g,0,none⟩ a0).setCell ⟨g,1,none⟩ a1).setCell ⟨g,2,none⟩ a2).setCell ⟨g,3,none⟩ a3).setCell ⟨g,4,none⟩ a4) g t #[a0,a1,a2,a3,a4]:=by
 have e:(((((cs.setIfInBounds 0 a0).setIfInBounds 1 a1).setIfInBounds 2 a2).setIfInBounds 3 a3).setIfInBounds 4 a4) = #[a0,a1,a2,a3,a4]:=by
  obtain ⟨l⟩:=cs
  match l,hs with
  | [_,_,_,_,_],_=>rfl
 rw [← e]
 exact ((((h.set_ 0 a0).set_ 1 a1).set_ 2 a2).set_ 3 a3).set_ 4 a4
theorem sumB_take (ws:List WageT) (l:List Elem) (k:Nat) (h:k < l.length) : sumB ws (l.take (k+1)) = stepB ws (sumB ws (l.take k)) l[k]:=by
 rw [List.take_succ_eq_append_getElem h,sumB,List.foldl_append]; rfl
def BddB (B:Int) (b:BasesT) : Prop:=(-B≤b.g∧b.g≤B)∧(-B≤b.c∧b.c≤B)∧(-B≤b.t∧b.t≤B)∧(-B≤b.i∧b.i≤B)∧(-B≤b.a∧b.a≤B)
theorem BddB.add {B C : Int} {b:BasesT} (h:BddB B b) (hC:0≤C) (y:WageT) {n:Int} (h1 : -C≤n) (h2:n≤C) : BddB (B+C) (addBs b y n):=by
 obtain ⟨⟨a1,a2⟩,⟨b1,b2⟩,⟨c1,c2⟩,⟨d1,d2⟩,⟨e1,e2⟩⟩:=h
 have ite_b:∀ (p:Prop) [Decidable p],-C≤(if p then n else 0)∧(if p then n else 0)≤C:=by intro p _; split <;> omega
 unfold BddB addBs
 have k1:=ite_b (y.kind = 1)
 have k2:=ite_b (y.taxable = true)
 have k3:=ite_b (y.insured = true)
 have k4:=ite_b (y.attachable = true)
 refine ⟨?_,?_,?_,?_,?_⟩ <;> dsimp only <;> omega
theorem preErr_zero {l:List Elem} (h:preErr l = 0) : Bdd 1000000000 (sumsP l)∧(sumsP l).length≤128:=by
 have h1:¬ 128 < l.length:=by
  intro h1; rw [preErr,if_pos h1] at h; cases h
 rw [preErr,if_neg h1] at h
 split at h
 ·
  cases h
 ·
  split at h
  ·
   cases h
  ·
   split at h
   ·
    cases h
   ·
    rename_i h4
    refine ⟨fun x hx=>?_,Nat.le_trans (sumsP_length l) (by omega)⟩
    simp only [Bool.not_eq_true,List.any_eq_false] at h4
    have:=h4 x hx
    simpa [amtB] using this
theorem foundV_none : foundV none = .tuple #[.agg #[.string ⟨#[]⟩,.int .i64 0,.bool false,.bool false,.bool false,.int .i64 0],.bool false]:=rfl
theorem foundV_some (y:WageT) : foundV (some y) = .tuple #[.agg #[.string y.code,.int .i64 y.kind,.bool y.taxable,.bool y.insured,.bool y.attachable,.int .i64 y.account],.bool true]:=rfl
theorem Bs.cells {w:World} {gg:Nat} {b:BasesT} (h:Bs w gg b) : w.cell? ⟨gg,0,none⟩ = some (.int .i64 b.g)∧w.cell? ⟨gg,1,none⟩ = some (.int .i64 b.c)∧w.cell? ⟨gg,2,none⟩ = some (.int .i64 b.t)∧w.cell? ⟨gg,3,none⟩ = some (.int .i64 b.i)∧w.cell? ⟨gg,4,none⟩ = some (.int .i64 b.a) :=
 ⟨Blk.cell h 0,Blk.cell h 1,Blk.cell h 2,Blk.cell h 3,Blk.cell h 4⟩
theorem Bs.frz {w:World} {gg:Nat} {b:BasesT} (h:Bs w gg b) : w.frozen? ⟨gg,0,none⟩ = false∧w.frozen? ⟨gg,1,none⟩ = false∧w.frozen? ⟨gg,2,none⟩ = false∧w.frozen? ⟨gg,3,none⟩ = false∧w.frozen? ⟨gg,4,none⟩ = false :=
 ⟨Blk.frozen h 0,Blk.frozen h 1,Blk.frozen h 2,Blk.frozen h 3,Blk.frozen h 4⟩
theorem Bs.put {w:World} {gg:Nat} {b:BasesT} (h:Bs w gg b) (d:BasesT) : Bs (((((w.setCell ⟨gg,0,none⟩ (.int .i64 d.g)).setCell ⟨gg,1,none⟩ (.int .i64 d.c)).setCell ⟨gg,2,none⟩ (.int .i64 d.t)).setCell ⟨gg,3,none⟩ (.int .i64 d.i)).setCell ⟨gg,4,none⟩ (.int .i64 d.a)) gg d :=
 Blk.put5 h rfl _ _ _ _ _
theorem below_put5 {w W : World} {gg:Nat} (h:Below w.heap.size w W) (hg:w.heap.size≤gg) (a0 a1 a2 a3 a4 : Value) : Below w.heap.size w (((((W.setCell ⟨gg,0,none⟩ a0).setCell ⟨gg,1,none⟩ a1).setCell ⟨gg,2,none⟩ a2).setCell ⟨gg,3,none⟩ a3).setCell ⟨gg,4,none⟩ a4) :=
 below_put (below_put (below_put (below_put (below_put h hg 0 a0) hg 1 a1) hg 2 a2) hg 3 a3) hg 4 a4
section
variable {w w2 w4 wx:World} {y:WageT} {b:BasesT}
end
end Go.Proofs.YtlhkojcmcmkmaaaGreat
namespace Go.Proofs.YtlhkojcmcmkmaaaGreat
open Go.RowKit
section
variable {before:Bool} {base:Int} {year:List Elem}
theorem tk_snoc (P:List DedT) (d:DedT) (a:Int) : tk before base year (P++[d]) a = tk before base year P a++(if 0 < amtT before base year d (rst before base year P a) then [⟨d.code,amtT before base year d (rst before base year P a)⟩] else []):=by
 rw [tk_append]; simp [tk]
theorem rst_snoc (P:List DedT) (d:DedT) (a:Int) : rst before base year (P++[d]) a = rst before base year P a - amtT before base year d (rst before base year P a):=by
 rw [rst_append]; simp [rst]
theorem step_yes {P:List DedT} {d:DedT} {a n l0 : Int} (hl:rst before base year P a = l0) (hn:amtT before base year d l0 = n) (h:0 < n) :
  tk before base year (P++[d]) a = tk before base year P a++[⟨d.code,n⟩]∧rst before base year (P++[d]) a = l0 - n:=by
 rw [tk_snoc,rst_snoc,hl,hn,if_pos h]; exact ⟨rfl,rfl⟩
theorem step_no {P:List DedT} {d:DedT} {a l0 : Int} (hl:rst before base year P a = l0) (hn:amtT before base year d l0 = 0) :
  tk before base year (P++[d]) a = tk before base year P a∧rst before base year (P++[d]) a = l0:=by
 rw [tk_snoc,rst_snoc,hl,hn]; simp
theorem amtT_other {d:DedT} {l0:Int} (h:d.before ≠ before) : amtT before base year d l0 = 0:=by rw [amtT,if_neg h]
end
def ranks (l:List DedT) (r:Nat) : List DedT:=(List.range r).flatMap fun (r:Nat)=>l.filter fun d=>decide (d.rank = (r:Int))
def pre (l:List DedT) (r i : Nat) : List DedT:=ranks l r++(l.take i).filter fun d=>decide (d.rank = (r:Int))
theorem totE_le {l:List Elem} (h : ∀ x ∈ l,0≤x.amount) (c:List UInt8) : 0≤totE l c∧totE l c≤sumE l:=by
 induction l with
 | nil=>simp [totE,sumE]
 | cons a l ih =>
  have h1:=ih (fun x hx=>h x (by simp [hx]))
  have h2:=h a (by simp)
  simp only [totE,sumE]
  split <;> omega
theorem sumsP_le {l:List Elem} (h : ∀ x ∈ l,0≤x.amount) {x:Elem} (hx:x ∈ sumsP l) : 0≤x.amount∧x.amount≤sumE l:=by
 rw [mem_sorted (sumsP_sorted l),sumsP_tot] at hx
 rw [hx.2]
 exact totE_le h _
theorem taken_len (P:List DedT) (before:Bool) (base:Int) (year:List Elem) (a:Int) : (sumsP (tk before base year P a)).length≤P.length:=Nat.le_trans (sumsP_length _) (tk_length _ _)
theorem takeE_1 {l:List DedT} {base avail : Int} {year:List Elem} (h:validD l = false ∨ recB year = false) : takeE l base avail year = 1:=by
 unfold takeE
 rcases h with h | h
 ·
  rw [if_pos h]
 ·
  rw [if_pos h]; split <;> rfl
theorem takeE_2 {l:List DedT} {base avail : Int} {year:List Elem} (h1:validD l = true) (h2:recB year = true) (h:inB base 1000000000 = false ∨ inB avail 1000000000 = false) : takeE l base avail year = 2:=by
 unfold takeE
 rw [if_neg (by simp [h1]),if_neg (by simp [h2])]
 rcases h with h | h
 ·
  rw [if_pos h]
 ·
  rw [if_pos h]; split <;> rfl
theorem takeE_0 {l:List DedT} {base avail : Int} {year:List Elem} (h1:validD l = true) (h2:recB year = true) (h3:inB base 1000000000 = true) (h4:inB avail 1000000000 = true) : takeE l base avail year = 0:=by
 unfold takeE
 rw [if_neg (by simp [h1]),if_neg (by simp [h2]),if_neg (by simp [h3]),if_neg (by simp [h4])]
theorem takeR_ok {l:List DedT} {before:Bool} {base avail : Int} {year:List Elem} (h:takeE l base avail year = 0) : takeR l before base avail year = sumsP (tk before base year (ordD l) avail):=by rw [takeR,if_pos h]
theorem takeR_no {l:List DedT} {before:Bool} {base avail : Int} {year:List Elem} (h:takeE l base avail year ≠ 0) : takeR l before base avail year = []:=by rw [takeR,if_neg h]
theorem year_at {year:List Elem} (h:recB year = true) (c:ByteArray) : 0≤atE year c∧atE year c≤1000000000000 :=
 atE_mem (P:=fun n=>0≤n∧n≤1000000000000) (fun x hx=>((recB_iff.1 h).2.1 x hx).2) ⟨by omega,by omega⟩
end Go.Proofs.YtlhkojcmcmkmaaaGreat
namespace Go.Proofs.YtlhkojcmcmkmaaaGreat
open Go.RowKit
theorem addAll {a:List Elem} (b:List Elem) (h:SortedE a) : SortedE (b.foldl put a)∧(∀ c,totE (b.foldl put a) c = totE (a++b) c)∧∀ c,keyE (b.foldl put a) c = keyE (a++b) c:=by
 obtain ⟨h1,h2,h3⟩:=foldl_facts b a h
 exact ⟨h1,fun c=>by rw [h2,totE_append],fun c=>by rw [h3,keyE_append]⟩
theorem mem_addO {a b : List Elem} (h:SortedE a) (x:Elem) : x ∈ addO a b ↔ (keyE (a++b) x.code.data.toList = true∧x.amount = totE (a++b) x.code.data.toList∧x.amount ≠ 0):=by
 obtain ⟨h1,h2,h3⟩:=addAll b h
 rw [addO,List.mem_filter,mem_sorted h1,h2,h3]
 simp [nz,and_assoc]
theorem addO_sorted {a:List Elem} (b:List Elem) (h:SortedE a) : SortedE (addO a b):=(addAll b h).1.filter _
theorem perm_of_codes : ∀ {l m : List Elem},l.Pairwise (fun a b=>a.code ≠ b.code)→m.Pairwise (fun a b=>a.code ≠ b.code)→(∀ x,x ∈ l ↔ x ∈ m)→l.Perm m
 | [],[],_,_,_=>List.Perm.nil
 | [],b :: s,_,_,h=>by have:=(h b).2 (by simp); simp at this
 | a :: r,m,h1,h2,h=>by
  obtain ⟨a1,a2⟩:=List.pairwise_cons.1 h1
  have hm:a ∈ m:=(h a).1 (by simp)
  obtain ⟨s,t,rfl⟩:=List.append_of_mem hm
  have hp:(s++a :: t).Perm (a :: (s++t)):=List.perm_middle
  have h2':=h2.perm hp (fun h e=>h e.symm)
  obtain ⟨b1,b2⟩:=List.pairwise_cons.1 h2'
  refine (List.Perm.cons a (perm_of_codes a2 b2 (fun x=>?_))).trans hp.symm
  constructor
  ·
   intro hx
   have:=(h x).1 (by simp [hx])
   have h3:=hp.mem_iff.1 this
   rcases List.mem_cons.1 h3 with e | h3
   ·
    subst e; exact absurd rfl (a1 x hx)
   ·
    exact h3
  ·
   intro hx
   have:=(h x).2 (hp.mem_iff.2 (by simp [hx]))
   rcases List.mem_cons.1 this with e | h3
   ·
    subst e; exact absurd rfl (b1 x hx)
   ·
    exact h3
theorem sorted_codes {l:List Elem} (h:SortedE l) : l.Pairwise (fun a b=>a.code ≠ b.code):=h.imp (by
 intro a b hab e
 rw [lessE_iff,e] at hab
 exact List.lt_irrefl _ hab)
def big (x:Elem) : Bool:=decide (1000000000000 < x.amount)
def anyBig (l:List Elem) : Bool:=l.any big
theorem anyBig_snoc (l:List Elem) (x:Elem) : anyBig (l++[x]) = (anyBig l || big x):=by simp [anyBig]
theorem addE_def (a b : List Elem) : addE a b = if recB a = false then 1 else if b.all addB = false then 1 else if 128 < b.length then 3 else if 128 < (addO a b).length then 3 else if anyBig (addO a b) then 4 else 0:=rfl
theorem addE_1 {a b : List Elem} (h:recB a = false ∨ b.all addB = false) : addE a b = 1:=by
 rw [addE_def]
 rcases h with h | h
 ·
  rw [if_pos h]
 ·
  rw [if_pos h]; split <;> rfl
theorem addE_3 {a b : List Elem} (h1:recB a = true) (h2:b.all addB = true) (h:128 < b.length ∨ 128 < (addO a b).length) : addE a b = 3:=by
 rw [addE_def,if_neg (by simp [h1]),if_neg (by simp [h2])]
 rcases h with h | h
 ·
  rw [if_pos h]
 ·
  rw [if_pos h]; split <;> rfl
theorem addE_4 {a b : List Elem} (h1:recB a = true) (h2:b.all addB = true) (h3 : ¬ 128 < b.length) (h4 : ¬ 128 < (addO a b).length) : addE a b = if anyBig (addO a b) then 4 else 0:=by
 rw [addE_def,if_neg (by simp [h1]),if_neg (by simp [h2]),if_neg h3,if_neg h4]
theorem addR_ok {a b : List Elem} (h:addE a b = 0) : addR a b = addO a b:=by rw [addR,if_pos h]
theorem addR_no {a b : List Elem} (h:addE a b ≠ 0) : addR a b = []:=by rw [addR,if_neg h]
theorem addB_iff (x:Elem) : addB x = true ↔ nameB x.code = true∧0≤x.amount∧x.amount≤1000000000:=by simp [addB,inB]
theorem totE_bd2 (l:List Elem) (c:List UInt8) (B:Int) (hB:0≤B) (h : ∀ x ∈ l,0≤x.amount∧x.amount≤B) : 0≤totE l c∧totE l c≤l.length * B:=by
 induction l with
 | nil=>simp [totE]
 | cons a l ih =>
  have h1:=ih (fun x hx=>h x (by simp [hx]))
  have h2:=h a (by simp)
  simp only [totE,List.length_cons]
  have h3:((l.length+1:Nat) : Int) * B = l.length * B+B:=by rw [Int.natCast_add,Int.add_mul]; simp
  rw [h3]
  split <;> omega
end Go.Proofs.YtlhkojcmcmkmaaaGreat
