/- Joined texts: NetC GenN Data3 AppAt GenN2 GenN3. Conditions: as stated. -/
import Derived.Deep.RegionLaw
import Derived.Maps.AppendAt
import Derived.Deep.CutRange
import Derived.Lib.Hide
import Derived.Test.YtjncpgbhokjbfaaGreatJ01
import Derived.Test.YtjncpgbhokjbfaaGreatJ03
import Derived.Test.YtjncpgbhokjbfaaGreatJ06
import Derived.Test.YtjncpgbhokjbfaaGreatJ08
import Derived.Test.YtjncpgbhokjbfaaGreatJ10
namespace Go.Proofs.YtjncpgbhokjbfaaGreat
open Go.RowKit
structure RulesT where
 wages:List WageT
 schemes:List SchT
 tar:TarT
 count:Int
 sh:ShT
 recover:Int
structure PersonT where
 deps:Int
 deds:List DedT
 orders:List OrdT
 others:List (List Int × Int)
structure YearT where
 periods:Int
 income:Int
 withheld:Int
 insured:List Int
 taken:List Elem
structure NetIn where
 r:RulesT
 p:PersonT
 y:YearT
 kept:List Elem
 first:Bool
 e:List Elem
def linesK (kind:Int) (l:List Elem) : List LineT:=(l.filter nz).map fun x=>⟨kind,x.code,x.amount⟩
def earnB (ws:List WageT) (x:Elem) : Bool:=decide (((findW ws x.code).getD zeroW).kind = 1)
namespace NetIn
variable (I:NetIn)
def b : BasesT:=sumB I.r.wages (sumsP I.e)
def merged : List Elem:=(sumsP I.e).filter nz
def earn : List Elem:=I.merged.filter (earnB I.r.wages)
def bene : List Elem:=I.merged.filter fun x=>!earnB I.r.wages x
def base : Int:=max I.b.c 0
def before : List Elem:=takeR I.p.deds true I.base (max I.b.c 0) I.y.taken
def left1 : Int:=I.b.c - sumE I.before
def insured : Int:=max I.b.i 0
def jobs : List (List Int × Int):=(I.y.insured,I.insured) :: I.p.others
def levyOf (s:SchT) : LevyT:=(jointR s I.y.insured.length I.jobs).getD 0 zLv
def overs : Bool:=I.r.schemes.any fun s=>overJ (jointV s I.y.insured.length I.jobs)
def ownTo (l:List SchT) : List Elem:=l.map fun s=>⟨s.code,(I.levyOf s).employee⟩
def emplTo (l:List SchT) : List Elem:=l.map fun s=>⟨s.code,(I.levyOf s).employer⟩
def leviesTo (l:List SchT) : Int:=sumI (l.map fun s=>(I.levyOf s).employee)
def reliefTo (l:List SchT) : Int:=sumI (l.map fun s=>if s.deductible then (I.levyOf s).employee else 0)
def levies : Int:=I.leviesTo I.r.schemes
def income : Int:=max (I.b.t - sumE I.before - I.reliefTo I.r.schemes) 0
def left2 : Int:=I.left1 - I.levies
def tax : Int:=withN I.r.tar I.r.count I.y.periods I.y.income I.y.withheld I.income
def left3 : Int:=I.left2 - I.tax
def net : Int:=max (I.left3 - max (I.b.c - I.b.a) 0) 0
def attached : List Elem:=if I.first then attachN I.r.sh I.net I.p.deps I.p.orders else I.kept
def left4 : Int:=I.left3 - sumE I.attached
def taken1 : List Elem:=addR I.y.taken I.before
def after : List Elem:=takeR I.p.deds false I.base (max I.left4 0) I.taken1
def left5 : Int:=I.left4 - sumE I.after
def taken2 : List Elem:=addR I.taken1 I.after
def legal : Int:=I.b.c - I.levies - I.tax
def lines : List LineT:=linesK 1 I.earn++linesK 2 I.bene++linesK 3 I.before++linesK 4 (I.ownTo I.r.schemes)++linesK 5 (I.emplTo I.r.schemes)++linesK 6 [⟨⟨#[]⟩,I.tax⟩]++linesK 7 I.attached++linesK 8 I.after++linesK 9 [⟨⟨#[]⟩,max I.left5 0⟩]++linesK 10 [⟨⟨#[]⟩,max (-I.left5) 0⟩]
def next : YearT:=⟨I.y.periods+1,I.y.income+I.income,I.y.withheld+I.tax,I.y.insured++[I.insured],I.taken2⟩
def err : Int :=
 if I.r.count≤I.y.periods then 3
 else if ofErr I.r.wages I.e (sumsP I.e) ≠ 0 then ofErr I.r.wages I.e (sumsP I.e)
 else if takeE I.p.deds I.base (max I.b.c 0) I.y.taken ≠ 0 then takeE I.p.deds I.base (max I.b.c 0) I.y.taken
 else if I.overs = true then 4
 else if amtB I.tax = false then 4
 else if I.first = true∧1000000000 < I.net then 2
 else if addE I.y.taken I.before ≠ 0 then addE I.y.taken I.before
 else if takeE I.p.deds I.base (max I.left4 0) I.taken1 ≠ 0 then takeE I.p.deds I.base (max I.left4 0) I.taken1
 else addE I.taken1 I.after
end NetIn
structure RulesOk (r:RulesT) : Prop where
 wages:validB r.wages = true
 nsch:r.schemes.length≤12
 sch:∀ s ∈ r.schemes,SchOk s
 asc:r.schemes.Pairwise (fun a b=>Op.bytesLess a.code.toList b.code.toList = true)
 tar:TarOk r.tar
 c0:1≤r.count
 c1:r.count≤53
 sh:ShOk r.sh
 v0:0≤r.recover
 v1:r.recover≤1000000
structure PersonOk (p:PersonT) : Prop where
 d0:0≤p.deps
 d1:p.deps≤20
 deds:validD p.deds = true
 orders:OrdsOk p.orders
 nothers:p.others.length≤7
 base:∀ e ∈ p.others,0≤e.2∧e.2≤1000000000
 lens:∀ e ∈ p.others,e.1.length≤53
 earlier:∀ e ∈ p.others,∀ x ∈ e.1,0≤x∧x≤1000000000
structure YearOk (y:YearT) : Prop where
 p0:0≤y.periods
 p1:y.periods≤53
 len:(y.insured.length:Int) = y.periods
 ins:∀ x ∈ y.insured,0≤x∧x≤1000000000
 i0:0≤y.income
 i1:y.income≤y.periods * 1000000000
 w0 : -(y.periods * 1000000000)≤y.withheld
 w1:y.withheld≤y.periods * 1000000000
 taken:recB y.taken = true
structure KeptOk (k:List Elem) : Prop where
 recd:recB k = true
 len:k.length≤16
 hi:∀ x ∈ k,x.amount≤1000000000
structure InOk (I:NetIn) : Prop where
 r:RulesOk I.r
 p:PersonOk I.p
 y:YearOk I.y
 kept:KeptOk I.kept
 same:∀ e ∈ I.p.others,(e.1.length:Int) = I.y.periods
 size:∀ x ∈ I.e,x.code.size≤maxLen
end Go.Proofs.YtjncpgbhokjbfaaGreat
namespace Go.Proofs.YtjncpgbhokjbfaaGreat
open Go.RowKit
def codesO : List ByteArray:=[⟨#[99,104,105,108,100]⟩,⟨#[99,105,116,121]⟩,⟨#[99,111,117,114,116]⟩,⟨#[116,97,120,49]⟩,⟨#[116,97,120,50]⟩]
def cellsO : Array Value:=#[.string ⟨#[99,104,105,108,100]⟩,.string ⟨#[99,105,116,121]⟩,.string ⟨#[99,111,117,114,116]⟩,.string ⟨#[116,97,120,49]⟩,.string ⟨#[116,97,120,50]⟩]
def codeO (k:Nat) : ByteArray:=codesO.getD k ⟨#[]⟩
theorem cellsO_at (k:Nat) (h:k < 5) : cellsO[k]? = some (.string (codeO k)):=by
 match k,h with
 | 0,_=>rfl
 | 1,_=>rfl
 | 2,_=>rfl
 | 3,_=>rfl
 | 4,_=>rfl
theorem takeO (k:Nat) (h:k < 5) : codesO.take (k+1) = codesO.take k++[codeO k]:=by
 match k,h with
 | 0,_=>rfl
 | 1,_=>rfl
 | 2,_=>rfl
 | 3,_=>rfl
 | 4,_=>rfl
theorem codesO_name : ∀ c ∈ codesO,nameB c = true:=by decide +kernel
theorem codesO_asc : codesO.Pairwise (fun a b=>Op.bytesLess a.toList b.toList = true):=by decide +kernel
def DrawnO (x:OrdT) : Prop:=(0≤x.rank∧x.rank≤2)∧(0≤x.day∧x.day≤20)∧(0≤x.amount∧x.amount < 600000)∧0≤x.total∧x.total < 600000
structure GenO (k:Nat) (xs:List OrdT) : Prop where
 sub:(xs.map (·.id)).Sublist (codesO.take k)
 ok:∀ x ∈ xs,DrawnO x
theorem GenO.nil_ : GenO 0 []:=⟨by simp,by simp⟩
theorem GenO.skip {k:Nat} {xs:List OrdT} (h:GenO k xs) (hk:k < 5) : GenO (k+1) xs:=⟨by rw [takeO k hk]; exact h.sub.trans (List.sublist_append_left _ _),h.ok⟩
theorem GenO.more {k:Nat} {xs:List OrdT} (h:GenO k xs) (hk:k < 5) (x:OrdT) (hc:x.id = codeO k) (hx:DrawnO x) : GenO (k+1) (xs++[x]):=by
 refine ⟨?_,fun y hy=>?_⟩
 ·
  rw [takeO k hk,List.map_append]
  exact h.sub.append (by simp [hc])
 ·
  rcases List.mem_append.1 hy with h1 | h1
  ·
   exact h.ok y h1
  ·
   simp at h1; subst h1; exact hx
theorem GenO.len {k:Nat} {xs:List OrdT} (h:GenO k xs) : xs.length≤5:=by
 have:=h.sub.length_le
 simp [codesO] at this
 omega
theorem GenO.ords {k:Nat} {xs:List OrdT} (h:GenO k xs) : OrdsOk xs:=by
 refine ⟨by have:=h.len; omega,fun x hx=>?_,?_⟩
 ·
  obtain ⟨⟨a,b⟩,⟨c,d⟩,⟨e,f⟩,g,i⟩:=h.ok x hx
  have hm:x.id ∈ codesO:=List.mem_of_mem_take (h.sub.subset (List.mem_map_of_mem hx))
  exact ⟨codesO_name _ hm,by omega,by omega,by omega,by omega,by omega,by omega,by omega,by omega⟩
 ·
  have h1:=codesO_asc.sublist (h.sub.trans (List.take_sublist _ _))
  exact List.pairwise_map.1 h1
set_option maxRecDepth 100000 in
set_option maxHeartbeats 2000000 in
theorem orders_any (b M : Nat) (w:World) (hM:M≤700000) (hd:DeckIn w b M) :
  Calls Tryz.prog 82 #[.pointer (some ⟨b,0,none⟩)] w fun e w'=>∃ v xs,e = .returned v∧GenO 5 xs∧Own encOd 5 199 w' w.heap.size v xs∧DeckIn w' b (M+45)∧w.grownBy w' (some b):=by
 have hlt:=hd.lt
 go_enter Tryz.func82,Tryz.ntmps82
 go_wp2_with fail
 rw [show Obj.cells #[.string ⟨#[99,104,105,108,100]⟩,.string ⟨#[99,105,116,121]⟩,.string ⟨#[99,111,117,114,116]⟩,.string ⟨#[116,97,120,49]⟩,.string ⟨#[116,97,120,50]⟩] 9 = Obj.cells cellsO 9 from rfl]
 go_loopw [3,8] (fun v i wr=>∃ (k:Nat) (xs:List OrdT),k≤5∧i = .int .i64 k∧GenO k xs∧Own encOd 5 199 wr (w.heap.size+1) v xs∧DeckIn wr b (M+9 * k)∧Blk wr w.heap.size 9 cellsO∧w.grownBy wr (some b)) (fun _ i _=>5 - (intOf i).toNat)
 case atStart=>exact ⟨0,[],by omega,rfl,GenO.nil_,Own.nil_ _ _,hd.alloc _,Blk.new _ _ _,only_alloc (only_refl _ _) _⟩
 case round =>
  obtain ⟨k,xs,hk,rfl,hgen,hown,hdk,hblk,hg⟩:=hrel
  by_cases hltk:k < 5
  ·
   have c0:=(hblk.cell k).trans (cellsO_at k hltk)
   go_wp2_with fail
   refine (next_any b (M+9 * k) _ _ (by omega) (by omega) (by omega) hdk).mono ?_
   rintro e w1 ⟨r1,rfl,ha1,hb1,hd1,hg1⟩
   have hs0:=hblk.lt
   by_cases hr:r1 = 0
   ·
    subst hr
    go_wp2_with fail
    refine (next_any b (M+9 * k+1) _ _ (by omega) (by omega) (by omega) hd1).mono ?_
    rintro e w2 ⟨r2,rfl,ha2,hb2,hd2,hg2⟩
    go_wp2_with fail
    refine (pick_new b (M+9 * k+1+1) w2 [10,10,20] _ _ _ rfl rfl (by omega) hd2 (by simp) (by simp)).mono ?_
    rintro e w3 ⟨r3,rfl,hm3,hd3,hg3⟩
    go_wp2_with fail
    refine (small_any b (M+9 * k+1+1+1) _ (by omega) hd3).mono ?_
    rintro e w4 ⟨r4,rfl,ha4,hb4,hd4,hg4⟩
    go_wp2_with fail
    refine (pick_new b (M+9 * k+1+1+1+2) w4 [0,5000,30000,r4] _ _ _ rfl rfl (by omega) hd4 (by simp) (by simp)).mono ?_
    rintro e w5 ⟨r5,rfl,hm5,hd5,hg5⟩
    go_wp2_with fail
    refine (small_any b (M+9 * k+1+1+1+2+1) _ (by omega) hd5).mono ?_
    rintro e w6 ⟨r6,rfl,ha6,hb6,hd6,hg6⟩
    go_wp2_with fail
    refine (pick_new b (M+9 * k+1+1+1+2+1+2) w6 [100000,1,0,r6] _ _ _ rfl rfl (by omega) hd6 (by simp) (by simp)).mono ?_
    rintro e w7 ⟨r7,rfl,hm7,hd7,hg7⟩
    have hG:=only_trans (only_trans (only_trans (only_trans (only_trans (only_trans hg1 hg2) hg3) hg4) hg5) hg6) hg7
    have hown7:=hown.kept hG (by intro g e; injection e; omega)
    have hblk7:=hblk.grown hG (by intro e; injection e; omega)
    have hgg:=only_trans hg hG
    have hs7:=hG.size
    have hlen:=hgen.len
    have hdr3:0≤r3∧r3≤20:=by simp at hm3; omega
    have hdr5:0≤r5∧r5 < 600000:=by simp at hm5; omega
    have hdr7:0≤r7∧r7 < 600000:=by simp at hm7; omega
    clear hown hblk hg hg1 hg2 hg3 hg4 hg5 hg6 hg7 hdk hd1 hd2 hd3 hd4 hd5 hd6 c0 hm3 hm5 hm7 hG
    go_wp2_with (at_builtin; (refine wpList_append_one _ _ 75 ⟨_,_,_,_,_⟩ _ 48 _ infoOd Tryz.underlying75 hown7 encOd_len (by omega) rfl (encOd_one _) (by omega) (by omega) (by omega) (by rfl) (by rfl) (by rfl) (by rfl) (by simp) (by rfl) ?_); intro v2 w8 hown8 hg8)
    have hr8:∀ g,Value.ownBlock _ = some g→w.heap.size+1≤g:=fun g e=>(hown7.block_lt e).1
    go_roundw
    case rel =>
     refine ⟨k+1,_,by omega,by go_num,?_,hown8,(hd7.grown hg8 (fun g e=>by have:=hr8 g e; omega)).mono (by omega),hblk7.grown hg8 (fun e=>by have:=hr8 _ e.symm; omega),only_then hgg hg8 (fun g e=>.inl (by have:=hr8 g e; omega))⟩
     exact hgen.more hltk _ rfl ⟨⟨ha2,by show r2≤2; omega⟩,hdr3,hdr5,hdr7⟩
    case measure=>simp [intOf]; omega
   ·
    have hr':(r1 == 0) = false:=by simpa using hr
    have hown1:=hown.kept hg1 (by intro g e; injection e; omega)
    have hblk1:=hblk.grown hg1 (by intro e; injection e; omega)
    clear hr
    go_wp2_with fail
    go_roundw
    case rel=>exact ⟨k+1,xs,by omega,by go_num,hgen.skip hltk,hown1,hd1.mono (by omega),hblk1,only_trans hg hg1⟩
    case measure=>simp [intOf]; omega
  ·
   go_wp2
   go_ret
   obtain rfl:k = 5:=by omega
   exact ⟨_,xs,rfl,hgen,hown.weaken (by omega),hdk,hg⟩
end Go.Proofs.YtjncpgbhokjbfaaGreat
namespace Go.Proofs.YtjncpgbhokjbfaaGreat
open Go.RowKit
theorem SliceOf.take {α:Type} {enc:α→List Value} {k:Nat} {w:World} {B:Nat} {A:Option Addr} {xs:List α} (h:SliceOf enc k w B A xs) (i:Nat) : SliceOf enc k w B A (xs.take i):=fun hne=>by
 have hx:xs ≠ []:=by intro e; subst e; simp at hne
 obtain ⟨b,off,e,hb,hc⟩:=h hx
 refine ⟨b,off,e,hb,fun j x hj l u hl=>hc j x ?_ l u hl⟩
 rw [List.getElem?_take] at hj
 split at hj
 ·
  exact hj
 ·
  cases hj
theorem run_append_list {P:Program} {α:Type} {enc:α→List Value} {k:Nat} {e:TypeId} {W:World} {base B : Nat} {v:Value} {xs ys : List α} {A:Option Addr} {m:Nat} (t ty : TypeId) (c bytes : Nat) (z:Value)
  (hinfo:(P.info? e).map (fun i=>(i.zero,i.size,i.bytes)) = some (some z,k,bytes)) (ht:P.underlying t = some (.slice e))
  (hown:Own enc k e W base v xs) (hys:SliceOf enc k W B A ys) (hk:∀ x,(enc x).length = k) (hk0:0 < k) (hzs:z.cells.size = k) (h1:∀ y,∀ u ∈ enc y,u.oneCell' = true)
  (hlen:xs.length+ys.length≤4294967296) (hby:bytes≤1024) (hbase:base≤W.heap.size) (hm:m = ys.length) :
  ∃ v' w',(Builtin.append_ #[t,t] ty #[v,.slice A m c]).run P W = .ok v' w'∧Own enc k e w' base v' (xs++ys)∧W.grownBy w' v.ownBlock:=by
 subst hm
 obtain ⟨i,hi,hz,hsz,hb⟩:=info_parts hinfo
 have hl:(ys.flatMap enc).length = ys.length * k:=by
  clear hys hlen
  induction ys with
  | nil=>simp
  | cons y ys ih=>rw [List.flatMap_cons,List.length_append,ih,hk,List.length_cons,Nat.succ_mul]; omega
 have hbb:(xs.length+ys.length) * bytes≤140737488355328:=by
  have:(xs.length+ys.length) * bytes≤4294967296 * 1024:=Nat.mul_le_mul hlen hby
  omega
 have h1':∀ u ∈ ys.flatMap enc,u.oneCell' = true:=by
  intro u hu
  obtain ⟨y,_,hy⟩:=List.mem_flatMap.1 hu
  exact h1 y u hy
 rcases A with _ | ad
 ·
  have hy0:ys = []:=by
   rcases ys with _ | ⟨y,ys⟩
   ·
    rfl
   ·
    obtain ⟨b,off,hA,_⟩:=hys (by simp)
    cases hA
  subst hy0
  exact ⟨v,W,run_append_of_nil (P:=P) W base t ty e i k ht hi v xs.length (xs.flatMap enc) hown c,by simpa using hown,only_refl _ _⟩
 ·
  have hcells:∀ j u,(ys.flatMap enc)[j]? = some u→W.cell? (ad.add j) = some u:=by
   intro j u hu
   have hj:j < ys.length * k:=by rw [← hl]; exact (List.getElem?_eq_some_iff.1 hu).1
   have hne:ys ≠ []:=by intro e; subst e; simp at hj
   obtain ⟨b,off,hA',hb,hc⟩:=hys hne
   injection hA' with hA
   subst hA
   have hadd:(⟨b,off,none⟩ : Addr).add j = ⟨b,off+j,none⟩:=by unfold Addr.add; split <;> simp_all
   rw [hadd]
   have hi':j / k < ys.length:=Nat.div_lt_of_lt_mul (by rw [Nat.mul_comm]; exact hj)
   have hmod:j % k < k:=Nat.mod_lt _ hk0
   have hy:=List.getElem?_eq_getElem hi'
   have he : (enc ys[j / k])[j % k]? = some ((enc ys[j / k])[j % k]'(by rw [hk]; exact hmod)) := List.getElem?_eq_getElem _
   have h2:=flatMap_at hk ys (j / k) (j % k) _ _ hy he
   have h3:=hc _ _ hy _ _ he
   have h4:j / k * k+j % k = j:=by rw [Nat.mul_comm]; exact Nat.div_add_mod j k
   rw [h4,hu] at h2
   rw [Nat.add_assoc,h4] at h3
   rw [h3,← h2]
  obtain ⟨v',w',hr,h2,h3,_⟩:=run_append_own_at (P:=P) W base t ty e i z k bytes ht hi hz hsz hb hzs hk0 v xs.length (xs.flatMap enc) hown ad ys.length c (ys.flatMap enc) hl hcells h1' (by unfold maxLen; omega) hbb hbase
  refine ⟨v',w',hr,?_,h3⟩
  unfold Own
  rw [List.length_append,List.flatMap_append]
  exact h2
end Go.Proofs.YtjncpgbhokjbfaaGreat
namespace Go.Proofs.YtjncpgbhokjbfaaGreat
open Go.RowKit
theorem wpList_append_one_at {P:Program} {α:Type} {enc:α→List Value} {k:Nat} {e:TypeId} {W:World} {base:Nat} {v:Value} {xs:List α}
  {ops:Array Oper} {rest:List Oper} {o:Oper} {a:Act} {Q:Exit→Act→World→Prop} {cs:Array Value} {H:Nat} (s x:Operand) (t:TypeId) (y:α) (c bytes:Nat) (z:Value)
  (hinfo:(P.info? e).map (fun i=>(i.zero,i.size,i.bytes)) = some (some z,k,bytes)) (ht:P.underlying t = some (.slice e))
  (hown:Own enc k e W base v xs) (hk:∀ x,(enc x).length = k) (hk0:0 < k) (hzs:z.cells.size = k) (h1:∀ u ∈ enc y,u.oneCell' = true)
  (hlen:xs.length < 4294967296) (hby:bytes≤1024) (hbase:base≤W.heap.size)
  (hgd:o.guard = none) (ho:o.op = .call { callee:=.builtin .append,args:=#[s,x],argTypes:=#[t,t] })
  (hs:a.eval s = v) (hx:a.eval x = .slice (some ⟨H,0,none⟩) 1 c) (hH:W.heap.size = H) (hcs:cs = (enc y).toArray)
  (h:∀ v' w',Own enc k e w' base v' (xs++[y])→W.grownBy w' v.ownBlock→(v'.ownBlock = v.ownBlock ∨ v'.ownBlock = some (W.heap.size+1))→wpList P ops Q rest (a.put o.dst v') w') :
  wpList P ops Q (o :: rest) a (W.alloc (.cells cs e)):=by
 subst hcs
 subst hH
 obtain ⟨i,hi,hz,hsz,hb⟩:=info_parts hinfo
 refine wpList_append_own_at _ hgd s x t ho base e i z k bytes ht hi hz hsz hb hzs hk0 v xs.length (xs.flatMap enc) hs (hown.alloc _) ⟨W.heap.size,0,none⟩ 1 c (enc y) hx (by rw [hk]; omega) ?_ h1
  (by unfold maxLen; omega) ?_ (by simp; omega) ?_
 ·
  intro j u hj
  have hadd:(⟨W.heap.size,0,none⟩ : Addr).add j = ⟨W.heap.size,j,none⟩:=by unfold Addr.add; split <;> simp_all
  rw [hadd,World.cell?_alloc_at _ _ _ _ rfl]
  simpa using hj
 ·
  have:(xs.length+1) * bytes≤4294967296 * 1024:=Nat.mul_le_mul (by omega) hby
  omega
 ·
  intro v' w' h2 h3 _ h5
  refine h v' w' ?_ ?_ (by rw [World.size_alloc] at h5; exact h5)
  ·
   unfold Own
   rw [List.length_append,List.flatMap_append]
   simpa using h2
  ·
   exact ⟨h3.os,h3.tape,h3.output,Nat.le_trans (by simp) h3.size,fun i hi hne=>(h3.block i (by simp; omega) hne).trans (Below.heap_alloc W _ i hi)⟩
end Go.Proofs.YtjncpgbhokjbfaaGreat
namespace Go.Proofs.YtjncpgbhokjbfaaGreat
open Go.RowKit
structure EmpsIn (w:World) (base b : Nat) (v:Value) (k:Nat) (es:List EmpC) : Prop where
 len:∀ e ∈ es,e.l.length = k
 bas:∀ e ∈ es,0≤e.base∧e.base≤1000000
 ear:∀ e ∈ es,∀ x ∈ e.l,0≤x∧x≤1000000
 sl:∀ e ∈ es,SliceOf encI 1 w w.heap.size e.A e.l
 lt:∀ e ∈ es,∀ a,e.A = some a→a.block < w.heap.size
 fr:∀ e ∈ es,∀ a,e.A = some a→base≤a.block∧a.block ≠ b∧v.ownBlock ≠ some a.block
theorem SliceOf.advN {α:Type} {enc:α→List Value} {k:Nat} {w w' : World} {A:Option Addr} {xs:List α} {row:Option Nat} (h:SliceOf enc k w w.heap.size A xs) (hg:w.grownBy w' row) (hr : ∀ a,A = some a→row ≠ some a.block) : SliceOf enc k w' w'.heap.size A xs:=fun hne=>by
 obtain ⟨q,off,e,hq,hc⟩:=h hne
 have h1:=hr _ e
 exact ⟨q,off,e,Nat.lt_of_lt_of_le hq hg.size,fun i x hi j u hj=>(World.cell?_of_block (a:=⟨q,off+i * k+j,none⟩) (hg.block q hq (fun e=>h1 e.symm))).trans (hc i x hi j u hj)⟩
theorem EmpsIn.grown {w w' : World} {base b : Nat} {v:Value} {k:Nat} {es:List EmpC} (h:EmpsIn w base b v k es) (hg:w.grownBy w' (some b)) : EmpsIn w' base b v k es :=
 ⟨h.len,h.bas,h.ear,fun e he=>(h.sl e he).advN hg (fun a ha hh=>(h.fr e he a ha).2.1 (by injection hh with hh; exact hh.symm)),fun e he a ha=>Nat.lt_of_lt_of_le (h.lt e he a ha) hg.size,h.fr⟩
set_option maxRecDepth 100000 in
set_option maxHeartbeats 2000000 in
theorem employments_any (b M n k : Nat) (w:World) (hM:M≤300000) (hn:n≤7) (hk53:k≤53) (hd:DeckIn w b M) :
  Calls Tryz.prog 83 #[.pointer (some ⟨b,0,none⟩),.int .i64 n,.int .i64 k] w fun e w'=>∃ v es,e = .returned v∧es.length = n∧EmpsIn w' w.heap.size b v k es∧Own encEm 2 119 w' w.heap.size v es∧DeckIn w' b (M+300 * n)∧w.grownBy w' (some b):=by
 have hlt:=hd.lt
 go_enter Tryz.func83,Tryz.ntmps83
 go_wp2
 go_loopw [7,8] (fun v i wr=>∃ (m:Nat) (es:List EmpC),m≤n∧i = .int .i64 m∧Hid (es.length = m)∧EmpsIn wr w.heap.size b v k es∧Own encEm 2 119 wr w.heap.size v es∧DeckIn wr b (M+300 * m)∧w.grownBy wr (some b)) (fun _ i _=>n - (intOf i).toNat)
 case atStart=>exact ⟨0,[],by omega,rfl,rfl,⟨by simp,by simp,by simp,by simp,by simp,by simp⟩,Own.nil_ _ _,hd,only_refl _ _⟩
 case round =>
  obtain ⟨m,es,hm,rfl,hlen,hes,hown,hdk,hg⟩:=hrel
  have hbs:=hg.size
  by_cases hltm:m < n
  ·
   go_wp2_with fail
   refine (bases_any b (M+300 * m) k _ (by omega) (by omega) hdk).mono ?_
   rintro e w1 ⟨v1,xs,rfl,hxl,hx,hown1,hd1,hg1⟩
   have HXL:=Lib.hid hxl
   have HX:=Lib.hid hx
   clear hxl hx
   obtain ⟨A1,c1,rfl,hS1,hf1,_⟩:=hown1.form encI_len
   have hlt1:∀ a,A1 = some a→a.block < w1.heap.size:=fun a ha=>by subst ha; exact (hown1.block_lt rfl).2
   go_wp2_with fail
   refine (small_any b (M+300 * m+5 * k) _ (by omega) hd1).mono ?_
   rintro e w2 ⟨r2,rfl,ha2,hb2,hd2,hg2⟩
   go_wp2_with fail
   refine (pick_new b (M+300 * m+5 * k+2) w2 [r2,0,500000] _ _ _ rfl rfl (by omega) hd2 (by simp) (by simp)).mono ?_
   rintro e w3 ⟨r3,rfl,hm3,hd3,hg3⟩
   have hdr3:0≤r3∧r3≤1000000:=by simp at hm3; omega
   have hltb:b < wr.heap.size:=by have:=hdk.lt; omega
   have hA1b:∀ a,A1 = some a→wr.heap.size≤a.block:=hf1
   have hS3:SliceOf encI 1 w3 w3.heap.size A1 xs:=(hS1.advN hg2 (fun a ha e=>by injection e; have:=hA1b a ha; omega)).advN hg3 (fun a ha e=>by injection e; have:=hA1b a ha; omega)
   have hG:=only_trans (only_trans hg1 hg2) hg3
   have hes3:=hes.grown hG
   have hown3:=hown.kept hG (by intro g e; injection e; omega)
   have hob:∀ q,Value.ownBlock _ = some q→q < wr.heap.size:=fun q hq=>(hown.block_lt hq).2
   have hgg:=only_trans hg hG
   have hs3:=hG.size
   have HLEN:Hid (es.length = m):=hlen
   have hlen7:es.length≤7:=by have:=hlen.out; omega
   have HS3:=Lib.hid hS3
   have HES:=Lib.hid hes3
   have HOB:=Lib.hid hob
   have HA1:=Lib.hid hA1b
   have hlt3:∀ a,A1 = some a→a.block < w3.heap.size:=fun a ha=>by have:=hlt1 a ha; have:=hg2.size; have:=hg3.size; omega
   have HL3:=Lib.hid hlt3
   clear hlt1 hlt3 hS1 hS3 hes hes3 hown hown1 hdk hd1 hd2 hg1 hg2 hg3 hf1 hA1b hob hm3 hlen
   go_wp2_with (at_builtin; (refine wpList_append_one_at _ _ 76 ⟨A1,c1,xs,r3⟩ _ 32 _ infoEm Tryz.underlying76 hown3 encEm_len (by omega) rfl (encEm_one _) (by omega) (by omega) (by omega) (by rfl) (by rfl) (by rfl) (by rfl) (by simp) (by rfl) ?_); intro v8 w8 hown8 hg8 hvo)
   have hr8:∀ g,Value.ownBlock _ = some g→w.heap.size≤g:=fun g e=>(hown3.block_lt e).1
   have hes8:EmpsIn w8 w.heap.size b v8 k (es++[⟨A1,c1,xs,r3⟩]):=by
    refine ⟨fun e he=>?_,fun e he=>?_,fun e he=>?_,fun e he=>?_,fun e he a ha=>?_,fun e he a ha=>?_⟩
    all_goals rcases List.mem_append.1 he with h | h
    ·
     exact HES.out.len e h
    ·
     simp at h; subst h; exact HXL.out
    ·
     exact HES.out.bas e h
    ·
     simp at h; subst h; exact hdr3
    ·
     exact HES.out.ear e h
    ·
     simp at h; subst h; exact HX.out
    ·
     exact (HES.out.sl e h).advN hg8 (fun a ha hh=>(HES.out.fr e h a ha).2.2 hh)
    ·
     simp at h; subst h; exact HS3.out.advN hg8 (fun a ha hh=>by have:=HOB.out _ hh; have:=HA1.out a ha; omega)
    ·
     exact Nat.lt_of_lt_of_le (HES.out.lt e h a ha) hg8.size
    ·
     simp at h; subst h; exact Nat.lt_of_lt_of_le (HL3.out a ha) hg8.size
    ·
     obtain ⟨f1,f2,f3⟩:=HES.out.fr e h a ha
     refine ⟨f1,f2,fun hh=>?_⟩
     rcases hvo with e1 | e1
     ·
      rw [e1] at hh; exact f3 hh
     ·
      rw [e1] at hh; injection hh with hh; have:=HES.out.lt e h a ha; omega
    ·
     simp at h; subst h
     have g1:=HA1.out a ha
     refine ⟨by omega,by omega,fun hh=>?_⟩
     rcases hvo with e1 | e1
     ·
      rw [e1] at hh; have:=HOB.out _ hh; omega
     ·
      rw [e1] at hh; injection hh with hh; have:=HL3.out a ha; omega
   go_roundw
   case rel=>exact ⟨m+1,_,by omega,by go_num,by rw [Hid,List.length_append,HLEN.out]; rfl,hes8,hown8,(hd3.grown hg8 (fun g e=>by have:=hr8 g e; omega)).mono (by omega),only_then hgg hg8 (fun g e=>.inl (hr8 g e))⟩
   case measure=>simp [intOf]; omega
  ·
   go_wp2
   go_ret
   obtain rfl:m = n:=by omega
   exact ⟨_,es,rfl,hlen.out,hes,hown,hdk,hg⟩
end Go.Proofs.YtjncpgbhokjbfaaGreat
namespace Go.Proofs.YtjncpgbhokjbfaaGreat
open Go.RowKit
set_option maxHeartbeats 1000000 in
theorem mode_any (b M : Nat) (w:World) (hM:M≤900000) (hd:DeckIn w b M) :
  Calls Tryz.prog 137 #[.pointer (some ⟨b,0,none⟩)] w fun e w'=>∃ r:Int,e = .returned (.int .i64 r)∧0≤r∧r≤6∧DeckIn w' b (M+1)∧w.grownBy w' (some b):=by
 have hlt:=hd.lt
 go_enter Tryz.func137,Tryz.ntmps137
 go_wp2_with fail
 refine (next_any b M _ _ (by omega) (by omega) (by omega) hd).mono ?_
 rintro e w1 ⟨r1,rfl,ha1,hb1,hd1,hg1⟩
 go_wp2
 go_ret
 exact ⟨r1,rfl,ha1,by omega,hd1,hg1⟩
end Go.Proofs.YtjncpgbhokjbfaaGreat
