/- Conditions: as stated. -/
import Derived.Lib.Hide
import Derived.Below
import Derived.Laws.OwnMore
import Derived.Deep.AppendLies
import Derived.Deep.Draws
import Derived.WalkKit
import Derived.Deep.QuietTactic
import Derived.BigQuiet
import Derived.Deep.OwnRows
import Derived.BigRegion
import Derived.Test.YtlhkojcmcmkmaaaGreatRows
namespace Go.Proofs.YtlhkojcmcmkmaaaGreat
theorem arH:type_of% @Go.Lib.hid:=@Go.Lib.hid
theorem arI:type_of% @Nat.le_refl:=@Nat.le_refl
theorem arJ:type_of% @if_neg:=@if_neg
theorem arK:type_of% @if_pos:=@if_pos
theorem arL:type_of% @Nat.add_zero:=@Nat.add_zero
theorem arM:type_of% @Go.RowKit.Below.refl:=@Go.RowKit.Below.refl
theorem arN:type_of% @or_false:=@or_false
theorem arO:type_of% @List.getElem_mem:=@List.getElem_mem
theorem arP:type_of% @Go.Calls.mono:=@Go.Calls.mono
theorem arQ:type_of% @List.getElem?_toArray:=@List.getElem?_toArray
theorem arR:type_of% @List.getElem?_cons_zero:=@List.getElem?_cons_zero
theorem arS:type_of% @List.getElem?_cons_succ:=@List.getElem?_cons_succ
theorem arT:type_of% @Nat.zero_add:=@Nat.zero_add
theorem arU:type_of% @Go.World.size_alloc:=@Go.World.size_alloc
theorem arV:type_of% @List.length_append:=@List.length_append
theorem arW:type_of% @List.getElem?_eq_getElem:=@List.getElem?_eq_getElem
theorem arX:type_of% @Go.bodyPost_ret:=@Go.bodyPost_ret
theorem arY:type_of% @Nat.lt_or_ge:=@Nat.lt_or_ge
theorem arZ:type_of% @List.length_cons:=@List.length_cons
theorem ar0:type_of% @Nat.le_trans:=@Nat.le_trans
theorem ar1:type_of% @List.getD_eq_getElem?_getD:=@List.getD_eq_getElem?_getD
theorem ar2:type_of% @List.set_cons_succ:=@List.set_cons_succ
theorem ar3:type_of% @List.set_cons_zero:=@List.set_cons_zero
theorem ar4:type_of% @List.setIfInBounds_toArray:=@List.setIfInBounds_toArray
theorem ar5:type_of% @Bool.and_eq_true:=@Bool.and_eq_true
theorem ar6:type_of% @List.mem_of_mem_take:=@List.mem_of_mem_take
theorem ar7:type_of% @decide_eq_true_eq:=@decide_eq_true_eq
theorem ar8:type_of% @List.mem_map:=@List.mem_map
theorem ar9:type_of% @List.take_succ_eq_append_getElem:=@List.take_succ_eq_append_getElem
theorem asa:type_of% @List.length_nil:=@List.length_nil
theorem asb:type_of% @List.mem_cons:=@List.mem_cons
theorem ase:type_of% @List.getElem?_eq_some_iff:=@List.getElem?_eq_some_iff
theorem asf:type_of% @List.mem_append:=@List.mem_append
theorem asg:type_of% @Int.mul_nonneg:=@Int.mul_nonneg
theorem ash:type_of% @if_true:=@if_true
theorem asi:type_of% @List.length_filter_le:=@List.length_filter_le
theorem asj:type_of% @if_false:=@if_false
theorem asl:type_of% @getElem!_pos:=@getElem!_pos
theorem asm:type_of% @Int.mul_assoc:=@Int.mul_assoc
theorem asn:type_of% @Int.mul_comm:=@Int.mul_comm
theorem aso:type_of% @List.mem_iff_getElem:=@List.mem_iff_getElem
theorem asp:type_of% @List.take_length:=@List.take_length
theorem asq:type_of% @Int.mul_le_mul_of_nonneg_left:=@Int.mul_le_mul_of_nonneg_left
theorem asr:type_of% @List.any_eq_false:=@List.any_eq_false
theorem ass:type_of% @beq_eq_false_iff_ne:=@beq_eq_false_iff_ne
theorem ast:type_of% @Nat.mul_one:=@Nat.mul_one
theorem asu:type_of% @List.length_map:=@List.length_map
theorem asv:type_of% @List.mem_singleton:=@List.mem_singleton
theorem asw:type_of% @Nat.zero_mul:=@Nat.zero_mul
theorem asx:type_of% @List.any_eq_true:=@List.any_eq_true
theorem asy:type_of% @Nat.lt_of_lt_of_le:=@Nat.lt_of_lt_of_le
theorem asz:type_of% @List.pairwise_iff_getElem:=@List.pairwise_iff_getElem
theorem asA:type_of% @List.length_take:=@List.length_take
theorem asB:type_of% @List.take_of_length_le:=@List.take_of_length_le
theorem asC:type_of% @Bool.false_eq_true:=@Bool.false_eq_true
theorem asD:type_of% @Int.add_mul:=@Int.add_mul
theorem asE:type_of% @Int.mul_le_mul_of_nonneg_right:=@Int.mul_le_mul_of_nonneg_right
theorem asF:type_of% @decide_eq_false_iff_not:=@decide_eq_false_iff_not
theorem asG:type_of% @Int.ediv_nonneg:=@Int.ediv_nonneg
theorem asH:type_of% @List.append_assoc:=@List.append_assoc
theorem asI:type_of% @Int.le_refl:=@Int.le_refl
theorem asJ:type_of% @List.pairwise_cons:=@List.pairwise_cons
theorem asK:type_of% @Int.tdiv_eq_ediv_of_nonneg:=@Int.tdiv_eq_ediv_of_nonneg
theorem asL:type_of% @List.flatMap_cons:=@List.flatMap_cons
theorem asM:type_of% @List.not_lt:=@List.not_lt
theorem asN:type_of% @decide_eq_true:=@decide_eq_true
theorem asO:type_of% @List.filter_append:=@List.filter_append
theorem asP:type_of% @Int.emod_nonneg:=@Int.emod_nonneg
theorem asQ:type_of% @Int.emod_lt_of_pos:=@Int.emod_lt_of_pos
theorem asR:type_of% @List.foldl_cons:=@List.foldl_cons
theorem asS:type_of% @List.map_cons:=@List.map_cons
theorem asT:type_of% @Go.World.cell?_of_block:=@Go.World.cell?_of_block
theorem asU:type_of% @Go.RowKit.Below.setCell:=@Go.RowKit.Below.setCell
theorem asV:type_of% @Int.mul_le_mul:=@Int.mul_le_mul
theorem asW:type_of% @List.map_append:=@List.map_append
theorem asX:type_of% @decide_eq_false:=@decide_eq_false
theorem asY:type_of% @List.mem_filter:=@List.mem_filter
theorem asZ:type_of% @Int.mul_add:=@Int.mul_add
theorem as0:type_of% @List.filter_cons:=@List.filter_cons
theorem as1:type_of% @Array.getElem?_eq_some_iff:=@Array.getElem?_eq_some_iff
theorem as2:type_of% @List.getElem?_map:=@List.getElem?_map
theorem as3:type_of% @List.getElem?_take:=@List.getElem?_take
theorem as4:type_of% @Go.Act.put_comm:=@Go.Act.put_comm
theorem as5:type_of% @Array.getElem?_modify:=@Array.getElem?_modify
theorem as6:type_of% @Go.Sem.run_pure:=@Go.Sem.run_pure
theorem as7:type_of% @of_decide_eq_true:=@of_decide_eq_true
theorem as8:type_of% @Int.emod_add_mul_ediv:=@Int.emod_add_mul_ediv
theorem as9:type_of% @List.replicate_succ:=@List.replicate_succ
theorem ata:type_of% @Go.Result.andThen_ok:=@Go.Result.andThen_ok
theorem atb:type_of% @List.eq_nil_of_length_eq_zero:=@List.eq_nil_of_length_eq_zero
theorem atc:type_of% @Int.lt_trichotomy:=@Int.lt_trichotomy
theorem atd:type_of% @List.length_singleton:=@List.length_singleton
theorem ate:type_of% @List.lt_irrefl:=@List.lt_irrefl
theorem atf:type_of% @Int.eq_ofNat_of_zero_le:=@Int.eq_ofNat_of_zero_le
theorem atg:type_of% @List.length_pos_iff:=@List.length_pos_iff
theorem ath:type_of% @List.pairwise_map:=@List.pairwise_map
theorem ati:type_of% @List.getElem?_append_left:=@List.getElem?_append_left
theorem atj:type_of% @Int.natCast_add:=@Int.natCast_add
theorem atk:type_of% @List.nil_append:=@List.nil_append
theorem atl:type_of% @Array.getElem?_eq_getElem:=@Array.getElem?_eq_getElem
theorem atm:type_of% @Int.tmod_eq_emod_of_nonneg:=@Int.tmod_eq_emod_of_nonneg
theorem atn:type_of% @List.take_append_drop:=@List.take_append_drop
theorem ato:type_of% @List.flatMap_append:=@List.flatMap_append
theorem atp:type_of% @Array.getElem?_eq_none:=@Array.getElem?_eq_none
theorem atq:type_of% @List.dropLast_sublist:=@List.dropLast_sublist
theorem atr:type_of% @List.getElem?_replicate:=@List.getElem?_replicate
theorem atu:type_of% @Array.getElem?_append_left:=@Array.getElem?_append_left
theorem atv:type_of% @Option.ne_none_iff_exists':=@Option.ne_none_iff_exists'
open Go.Proofs.Tryz
theorem aC:type_of%@List.getElem_toArray:=@List.getElem_toArray
theorem aD:type_of%@List.getElem_cons_succ:=@List.getElem_cons_succ
theorem aF:type_of%@List.getElem_cons_zero:=@List.getElem_cons_zero
theorem aG:type_of%@ar4:=@ar4
theorem aH:type_of%@ar2:=@ar2
theorem aI:type_of%@ar3:=@ar3
theorem ak:type_of%@arQ:=@arQ
theorem aq:type_of%@arR:=@arR
theorem ar:type_of%@arS:=@arS
theorem bM:type_of%@asb:=@asb
theorem bN:type_of%@List.not_mem_nil:=@List.not_mem_nil
open Go.RowKit
def aj{α:Type}(enc:α->List Value)(k:Nat)(w:World)(B:Nat)(A:Option Addr)(xs:List α):Prop:=
 xs≠[]->∃b off,A=some ⟨b,off,none⟩/\b<B/\∀i x,xs[i]?=some x->∀j v,(enc x)[j]?=some v->w.cell? ⟨b,off+i*k+j,none⟩=some v
section
variable {α:Type}{enc:α->List Value}{k:Nat}{w w':World}{B B':Nat}{A:Option Addr}{xs:List α}
theorem aj.cL:aj enc k w B A []:=fun h=>absurd rfl h
theorem aj.keep(h:aj enc k w B A xs)(r:∀p:Addr,p.block<B->w'.cell? p=w.cell? p):aj enc k w' B A xs:=fun u=>by obtain⟨b,off,e,l,y⟩:=h u;exact⟨b,off,e,l,fun i x hi j v z=>(r _ l).trans (y i x hi j v z)⟩
theorem aj.more(h:aj enc k w B A xs)(p:B<=B'):aj enc k w B' A xs:=fun j=>by obtain⟨b,off,e,r,l⟩:=h j;exact⟨b,off,e,by omega,l⟩
theorem aj.below(h:aj enc k w B A xs)(j:Below B w w'):aj enc k w' B A xs:=h.keep fun _ l=>j.cell l
theorem aj.at_(h:aj enc k w B A xs){i:Nat}(hi:i<xs.length):
  ∃b off,A=some ⟨b,off,none⟩/\b<B/\∀j v,(enc xs[i])[j]?=some v->w.cell? ⟨b,off+i*k+j,none⟩=some v:=by
 have l:xs≠[]:=by intro e;subst e;simp at hi
 obtain⟨b,off,e,p,r⟩:=h l;exact⟨b,off,e,p,fun j v u=>r i _ (arW hi) j v u⟩
end
theorem below_drewN{B:Nat}{a w:World}(h:Below B a w)(n:Nat):Below B a (w.drewN n):=⟨h.os,h.tape,h.output,h.size,h.block⟩
theorem QZ{a w:World}{row:Option Nat}(h:a.grownBy w row)(n:Nat):a.grownBy (w.drewN n) row:=⟨h.os,h.tape,h.output,h.size,h.block⟩
theorem Rn{a w:World}{row:Option Nat}(h:a.grownBy w row):a.grownBy w.drew row:=⟨h.os,h.tape,h.output,h.size,h.block⟩
theorem fJ{a w:World}{row:Option Nat}(h:a.grownBy w row)(o:Obj):a.grownBy (w.alloc o) row:=
 ⟨h.os,h.tape,h.output,ar0 h.size (by simp),fun i hi j=>(Below.heap_alloc w o i (asy hi h.size)).trans (h.block i hi j)⟩
theorem bm{a w:World}{g:Nat}(h:a.grownBy w (some g)){p:Addr}(hp:p.block=g\/a.heap.size<=p.block)(u:Value):a.grownBy (w.setCell p u) (some g):=
 ⟨h.os,h.tape,h.output,by simpa[World.setCell]using h.size,fun i hi j=>(Below.heap_setCell w p u i (by
  rintro rfl;rcases hp with hp|hp
  ·exact j (by rw[hp])
  ·omega)).trans (h.block i hi j)⟩
theorem Mq{a w:World}(h:Below a.heap.size a w)(row:Option Nat):a.grownBy w row:=⟨h.os,h.tape,h.output,h.size,fun i hi _=>h.block i hi⟩
theorem fe(a:World)(row:Option Nat):a.grownBy a row:=⟨rfl,rfl,rfl,arI _,fun _ _ _=>rfl⟩
theorem ck{a b c:World}{row:Option Nat}(h:a.grownBy b row)(k:b.grownBy c row):a.grownBy c row:=
 ⟨k.os.trans h.os,k.tape.trans h.tape,k.output.trans h.output,ar0 h.size k.size,fun i hi j=>(k.block i (asy hi h.size) j).trans (h.block i hi j)⟩
theorem Cf{a b c:World}{row j:Option Nat}(h:a.grownBy b row)(k:b.grownBy c j)(p:∀g,j=some g->a.heap.size<=g\/row=some g):a.grownBy c row:=
 ⟨k.os.trans h.os,k.tape.trans h.tape,k.output.trans h.output,ar0 h.size k.size,fun i hi l=>(k.block i (asy hi h.size) (fun e=>by
  rcases p i e.symm with h1|h1
  ·omega
  ·exact l h1.symm)).trans (h.block i hi l)⟩
theorem gU{a w:World}{row:Option Nat}(h:a.grownBy w row){B:Nat}(l:B<=a.heap.size)(j:∀g,row=some g->B<=g):Below B a w:=
 ⟨h.os,h.tape,h.output,h.size,fun i hi=>h.block i (by omega) (fun e=>by have:=j i e.symm;omega)⟩
def ah(w:World)(g:Nat)(t:TypeId)(cs:Array Value):Prop:=w.heap[g]?=some (.cells cs t (0,0))
section
variable {w w':World}{g:Nat}{t:TypeId}{cs:Array Value}
theorem ah.lt(h:ah w g t cs):g<w.heap.size:=by
 rcases arY g w.heap.size with j|nA
 ·exact j
 ·unfold ah at h;rw[atp nA]at h;cases h
theorem ah.cell(h:ah w g t cs)(i:Nat):w.cell? ⟨g,i,none⟩=cs[i]?:=cell_of_row w g i cs t (0,0) h
theorem ah.frozen(h:ah w g t cs)(i:Nat):w.frozen? ⟨g,i,none⟩=false:=by unfold ah at h;simp[World.frozen?,h]
theorem ah.fz2(h:ah w g t cs):w.frozen? ⟨g,0,none⟩=false/\w.frozen? ⟨g,1,none⟩=false:=⟨h.frozen 0,h.frozen 1⟩
theorem ah.fz3(h:ah w g t cs):w.frozen? ⟨g,0,none⟩=false/\w.frozen? ⟨g,1,none⟩=false/\w.frozen? ⟨g,2,none⟩=false:=⟨h.frozen 0,h.frozen 1,h.frozen 2⟩
theorem ah.fz5(h:ah w g t cs):w.frozen? ⟨g,0,none⟩=false/\w.frozen? ⟨g,1,none⟩=false/\w.frozen? ⟨g,2,none⟩=false/\w.frozen? ⟨g,3,none⟩=false/\w.frozen? ⟨g,4,none⟩=false:=⟨h.frozen 0,h.frozen 1,h.frozen 2,h.frozen 3,h.frozen 4⟩
theorem ah.fz6(h:ah w g t cs):w.frozen? ⟨g,0,none⟩=false/\w.frozen? ⟨g,1,none⟩=false/\w.frozen? ⟨g,2,none⟩=false/\w.frozen? ⟨g,3,none⟩=false/\w.frozen? ⟨g,4,none⟩=false/\w.frozen? ⟨g,5,none⟩=false:=⟨h.frozen 0,h.frozen 1,h.frozen 2,h.frozen 3,h.frozen 4,h.frozen 5⟩
theorem ah.fz7(h:ah w g t cs):w.frozen? ⟨g,0,none⟩=false/\w.frozen? ⟨g,1,none⟩=false/\w.frozen? ⟨g,2,none⟩=false/\w.frozen? ⟨g,3,none⟩=false/\w.frozen? ⟨g,4,none⟩=false/\w.frozen? ⟨g,5,none⟩=false/\w.frozen? ⟨g,6,none⟩=false:=⟨h.frozen 0,h.frozen 1,h.frozen 2,h.frozen 3,h.frozen 4,h.frozen 5,h.frozen 6⟩
theorem ah.cz2{a0 a1:Value}(h:ah w g t #[a0,a1]):w.cell? ⟨g,0,none⟩=some a0/\w.cell? ⟨g,1,none⟩=some a1:=⟨(h.cell 0).trans rfl,(h.cell 1).trans rfl⟩
theorem ah.cz3{a0 a1 a2:Value}(h:ah w g t #[a0,a1,a2]):w.cell? ⟨g,0,none⟩=some a0/\w.cell? ⟨g,1,none⟩=some a1/\w.cell? ⟨g,2,none⟩=some a2:=⟨(h.cell 0).trans rfl,(h.cell 1).trans rfl,(h.cell 2).trans rfl⟩
theorem ah.cz4{a0 a1 a2 a3:Value}(h:ah w g t #[a0,a1,a2,a3]):w.cell? ⟨g,0,none⟩=some a0/\w.cell? ⟨g,1,none⟩=some a1/\w.cell? ⟨g,2,none⟩=some a2/\w.cell? ⟨g,3,none⟩=some a3:=⟨(h.cell 0).trans rfl,(h.cell 1).trans rfl,(h.cell 2).trans rfl,(h.cell 3).trans rfl⟩
theorem ah.cz5{a0 a1 a2 a3 a4:Value}(h:ah w g t #[a0,a1,a2,a3,a4]):w.cell? ⟨g,0,none⟩=some a0/\w.cell? ⟨g,1,none⟩=some a1/\w.cell? ⟨g,2,none⟩=some a2/\w.cell? ⟨g,3,none⟩=some a3/\w.cell? ⟨g,4,none⟩=some a4:=⟨(h.cell 0).trans rfl,(h.cell 1).trans rfl,(h.cell 2).trans rfl,(h.cell 3).trans rfl,(h.cell 4).trans rfl⟩
theorem ah.cz6{a0 a1 a2 a3 a4 a5:Value}(h:ah w g t #[a0,a1,a2,a3,a4,a5]):w.cell? ⟨g,0,none⟩=some a0/\w.cell? ⟨g,1,none⟩=some a1/\w.cell? ⟨g,2,none⟩=some a2/\w.cell? ⟨g,3,none⟩=some a3/\w.cell? ⟨g,4,none⟩=some a4/\w.cell? ⟨g,5,none⟩=some a5:=⟨(h.cell 0).trans rfl,(h.cell 1).trans rfl,(h.cell 2).trans rfl,(h.cell 3).trans rfl,(h.cell 4).trans rfl,(h.cell 5).trans rfl⟩
theorem ah.cz7{a0 a1 a2 a3 a4 a5 a6:Value}(h:ah w g t #[a0,a1,a2,a3,a4,a5,a6]):w.cell? ⟨g,0,none⟩=some a0/\w.cell? ⟨g,1,none⟩=some a1/\w.cell? ⟨g,2,none⟩=some a2/\w.cell? ⟨g,3,none⟩=some a3/\w.cell? ⟨g,4,none⟩=some a4/\w.cell? ⟨g,5,none⟩=some a5/\w.cell? ⟨g,6,none⟩=some a6:=⟨(h.cell 0).trans rfl,(h.cell 1).trans rfl,(h.cell 2).trans rfl,(h.cell 3).trans rfl,(h.cell 4).trans rfl,(h.cell 5).trans rfl,(h.cell 6).trans rfl⟩
theorem ah.cz8{a0 a1 a2 a3 a4 a5 a6 a7:Value}(h:ah w g t #[a0,a1,a2,a3,a4,a5,a6,a7]):w.cell? ⟨g,0,none⟩=some a0/\w.cell? ⟨g,1,none⟩=some a1/\w.cell? ⟨g,2,none⟩=some a2/\w.cell? ⟨g,3,none⟩=some a3/\w.cell? ⟨g,4,none⟩=some a4/\w.cell? ⟨g,5,none⟩=some a5/\w.cell? ⟨g,6,none⟩=some a6/\w.cell? ⟨g,7,none⟩=some a7:=⟨(h.cell 0).trans rfl,(h.cell 1).trans rfl,(h.cell 2).trans rfl,(h.cell 3).trans rfl,(h.cell 4).trans rfl,(h.cell 5).trans rfl,(h.cell 6).trans rfl,(h.cell 7).trans rfl⟩
theorem ah.cz16{a0 a1 a2 a3 a4 a5 a6 a7 a8 a9 a10 a11 a12 a13 a14 a15:Value}(h:ah w g t #[a0,a1,a2,a3,a4,a5,a6,a7,a8,a9,a10,a11,a12,a13,a14,a15]):w.cell? ⟨g,0,none⟩=some a0/\w.cell? ⟨g,1,none⟩=some a1/\w.cell? ⟨g,2,none⟩=some a2/\w.cell? ⟨g,3,none⟩=some a3/\w.cell? ⟨g,4,none⟩=some a4/\w.cell? ⟨g,5,none⟩=some a5/\w.cell? ⟨g,6,none⟩=some a6/\w.cell? ⟨g,7,none⟩=some a7/\w.cell? ⟨g,8,none⟩=some a8/\w.cell? ⟨g,9,none⟩=some a9/\w.cell? ⟨g,10,none⟩=some a10/\w.cell? ⟨g,11,none⟩=some a11/\w.cell? ⟨g,12,none⟩=some a12/\w.cell? ⟨g,13,none⟩=some a13/\w.cell? ⟨g,14,none⟩=some a14/\w.cell? ⟨g,15,none⟩=some a15:=⟨(h.cell 0).trans rfl,(h.cell 1).trans rfl,(h.cell 2).trans rfl,(h.cell 3).trans rfl,(h.cell 4).trans rfl,(h.cell 5).trans rfl,(h.cell 6).trans rfl,(h.cell 7).trans rfl,(h.cell 8).trans rfl,(h.cell 9).trans rfl,(h.cell 10).trans rfl,(h.cell 11).trans rfl,(h.cell 12).trans rfl,(h.cell 13).trans rfl,(h.cell 14).trans rfl,(h.cell 15).trans rfl⟩
theorem ah.new(w:World)(t:TypeId)(cs:Array Value):ah (w.alloc (.cells cs t)) w.heap.size t cs:=heap_alloc_new w _
theorem ah.drewN(h:ah w g t cs)(n:Nat):ah (w.drewN n) g t cs:=h
theorem ah.alloc(h:ah w g t cs)(o:Obj):ah (w.alloc o) g t cs:=(Below.heap_alloc w o g h.lt).trans h
theorem ah.eu(h:ah w g t cs)(i:Nat)(u:Value):ah (w.setCell ⟨g,i,none⟩ u) g t (cs.setIfInBounds i u):=by unfold ah at h|-;simp[World.setCell,as5,h]
theorem ah.far(h:ah w g t cs){p:Addr}(j:g≠p.block)(u:Value):ah (w.setCell p u) g t cs:=(Below.heap_setCell w p u g j).trans h
theorem ah.below{B:Nat}(h:ah w g t cs)(j:Below B w w')(l:g<B):ah w' g t cs:=(j.block g l).trans h
theorem ah.grown{row:Option Nat}(h:ah w g t cs)(j:w.grownBy w' row)(l:some g≠row):ah w' g t cs:=(j.block g h.lt l).trans h
end
def encI(x:Int):List Value:=[.int .i64 x]
def Ks(x:Int):Prop:=-9223372036854775808<=x/\x<=9223372036854775807
theorem aj.grown{α:Type}{enc:α->List Value}{k:Nat}{w w':World}{B:Nat}{A:Option Addr}{xs:List α}{row:Option Nat}(h:aj enc k w B A xs)(j:w.grownBy w' row)(l:B<=w.heap.size)(hr:∀g,row=some g->B<=g):aj enc k w' B A xs:=
 h.below (gU j l hr)
def Own{α:Type}(enc:α->List Value)(k:Nat)(e:TypeId)(w:World)(base:Nat)(v:Value)(xs:List α):Prop:=w.ownsRow base e k v xs.length (xs.flatMap enc)
section
variable {α:Type}{enc:α->List Value}{k:Nat}{e:TypeId}{w w':World}{base:Nat}{v:Value}{xs:List α}
theorem G4(r:∀x,(enc x).length=k):∀(xs:List α) (i j:Nat) (x:α) (u:Value),xs[i]?=some x->(enc x)[j]?=some u->(xs.flatMap enc)[i*k+j]?=some u:=by
 intro xs
 induction xs with
 |nil=>intro i j x u h;simp at h
 |cons a xs y=>
  intro i j x u l p;rw[asL];cases i with
  |zero=>simp at l;subst l;have z:j<(enc a).length:=(ase.1 p).1;rw[asw,arT,ati z,p]
  |succ i=>simp at l;rw[List.getElem?_append_right (by rw[r,Nat.succ_mul];omega)];rw[r,show(i+1)*k+j-k=i*k+j by rw[Nat.succ_mul];omega];exact y i j x u l p
theorem Own.cL(w:World)(base:Nat):Own enc k e w base (.slice none 0 0) ([]:List α):=World.ownsRow_nil w base e k
theorem Own.kept{row:Option Nat}(h:Own enc k e w base v xs)(j:w.grownBy w' row)(hr:∀g,row=some g->g<base):Own enc k e w' base v xs:=by
 refine World.ownsRow.kept h j ?_;cases l:v.ownBlock with
 |none=>exact .inl rfl
 |some g=>right;intro p;have r:=h.lt g l;have u:=hr g p.symm;omega
theorem Own.weaken{base':Nat}(h:Own enc k e w base v xs)(y:base'<=base):Own enc k e w base' v xs:=by
 refine⟨h.1,?_⟩;rcases h.2 with l|⟨g,cap,j,p,u,r⟩
 ·exact .inl l
 ·exact .inr ⟨g,cap,j,p,by omega,r⟩
theorem Own.alloc(h:Own enc k e w base v xs)(o:Obj):Own enc k e (w.alloc o) base v xs:=World.ownsRow.alloc h o
theorem Own.drewN(h:Own enc k e w base v xs)(n:Nat):Own enc k e (w.drewN n) base v xs:=h
theorem Own.setCell(h:Own enc k e w base v xs){p:Addr}(l:∀g,v.ownBlock=some g->g≠p.block)(u:Value):Own enc k e (w.setCell p u) base v xs:=by
 have r:w.grownBy (w.setCell p u) (some p.block):=bm (fe _ _) (.inl rfl) u;refine World.ownsRow.kept h r ?_;cases y:v.ownBlock with
 |none=>exact .inl rfl
 |some g=>
  right;intro j;injection j with j
  exact l g y j
theorem Own.cm(h:Own enc k e w base v xs){g:Nat}(j:v.ownBlock=some g):base<=g/\g<w.heap.size:=h.lt g j
theorem Own.form(h:Own enc k e w base v xs)(z:∀x,(enc x).length=k):∃A c,v=.slice A xs.length c/\aj enc k w w.heap.size A xs/\(∀a,A=some a->base<=a.block)/\xs.length<=maxLen:=by
 rcases h.2 with⟨rfl,C⟩|⟨g,cap,r,rfl,D,y,F,G,I,E⟩
 ·obtain rfl:xs=[]:=atb C;exact⟨none,0,rfl,aj.cL,fun a l=>(by cases l),by simp⟩
 ·refine⟨some ⟨g,0,none⟩,cap,rfl,fun J=>?_,fun a l=>?_,by omega⟩
  ·refine⟨g,0,rfl,(as1.1 y).1,fun i x hi j u hu=>?_⟩;rw[arT,cell_of_row w g _ r e (0,0) y];have p:=G4 z xs i j x u hi hu;rw[<-E,as3]at p;split at p
   ·simpa using p
   ·cases p
  ·injection l with l
   subst l;exact D
end
theorem mQ{P:Program}{α:Type}{enc:α->List Value}{k:Nat}{e:TypeId}{W:World}{base:Nat}{v:Value}{xs:List α}
  {l:Array Oper} {rest:List Oper} {o:Oper} {a:Act} {Q:Exit->Act->World->Prop} {cs:Array Value} {H:Nat} (s x:Operand) (t:TypeId) (y:α) (c bytes:Nat) (z:Value)
  (M:(P.info? e).map (fun i=>(i.zero,i.size,i.bytes))=some (some z,k,bytes)) (N:P.underlying t=some (.slice e))
  (p:Own enc k e W base v xs) (O:∀x,(enc x).length=k) (R:0<k) (D:z.cells.size=k) (S:∀u∈enc y,u.oneCell'=true)
  (L:xs.length<4294967296) (E:bytes<=1024) (F:base<=W.heap.size)
  (G:o.guard=none) (T:o.op=.call {callee:=.builtin .append,args:=#[s,x],argTypes:=#[t,t]})
  (U:a.eval s=v) (V:a.eval x=.slice (some ⟨H,0,none⟩) 1 c) (X:W.heap.size=H) (I:cs=(enc y).toArray)
  (h:∀C w',Own enc k e w' base C (xs++[y])->W.grownBy w' v.ownBlock->wpList P l Q rest (a.put o.dst C) w'):
  wpList P l Q (o::rest) a (W.alloc (.cells cs e)):=by
 subst I;subst X;obtain⟨i,hi,Y,J,Z⟩:=info_parts M;refine wpList_append_own _ G s x t T base e i z k bytes N hi Y J Z D R v xs.length (xs.flatMap enc) U (p.alloc _) ⟨W.heap.size,0,none⟩ 1 c (enc y) V (by rw[O];omega) ?_ S
  (by unfold maxLen;omega) ?_ (by simp;omega) ?_
 ·intro j u hj;have qf:(⟨W.heap.size,0,none⟩:Addr).add j=⟨W.heap.size,j,none⟩:=by unfold Addr.add;split<;>simp_all
  rw[qf,World.cell?_alloc_at _ _ _ _ rfl];simpa using hj
 ·have:(xs.length+1)*bytes<=4294967296*1024:=Nat.mul_le_mul (by omega) E;omega
 ·intro C w' h2 r _;refine h C w' ?_ ?_
  ·unfold Own;rw[arV,ato];simpa using h2
  ·exact⟨r.os,r.tape,r.output,ar0 (by simp) r.size,fun i hi K=>(r.block i (by simp;omega) K).trans (Below.heap_alloc W _ i hi)⟩
section
variable {P:Program}(w:World)
theorem Yk(base:Nat)(t r e:TypeId)(i:TypeInfo)(size:Nat)(p:P.underlying t=some (.slice e))(hi:P.info? e=some i)
  (v:Value) (n:Nat) (xs:List Value) (j:w.ownsRow base e size v n xs) (c:Nat):(Builtin.append_ #[t,t] r #[v,.slice none 0 c]).run P w=.ok v w:=by
 rcases j.2 with⟨rfl,rfl⟩|⟨g,u,y,rfl,_,_,l,_⟩
 ·simp[Builtin.append_,run_underlying p,sizeOf,typeInfo,hi,Builtin.lenOf,Builtin.firstCells]
 ·simp[Builtin.append_,run_underlying p,sizeOf,typeInfo,hi,Builtin.lenOf,Builtin.firstCells,l,storeCells]
end
theorem He{P:Program}{α:Type}{enc:α->List Value}{k:Nat}{e:TypeId}{W:World}{base B:Nat}{v:Value}{xs ys:List α}{A:Option Addr}
  {D:Array Oper} {rest:List Oper} {o:Oper} {a:Act} {Q:Exit->Act->World->Prop} {m:Nat} (s x:Operand) (t:TypeId) (c bytes:Nat) (z:Value)
  (Cw:(P.info? e).map (fun i=>(i.zero,i.size,i.bytes))=some (some z,k,bytes)) (X:P.underlying t=some (.slice e))
  (l:Own enc k e W base v xs) (M:aj enc k W B A ys) (N:∀x,(enc x).length=k) (Y:0<k) (O:z.cells.size=k) (h1:∀y,∀u∈enc y,u.oneCell'=true)
  (p:xs.length+ys.length<=4294967296) (R:bytes<=1024) (r:base<=W.heap.size)
  (E:o.guard=none) (Z:o.op=.call {callee:=.builtin .append,args:=#[s,x],argTypes:=#[t,t]})
  (hs:a.eval s=v) (G:a.eval x=.slice A m c) (hm:m=ys.length)
  (h:∀I w',Own enc k e w' base I (xs++ys)->W.grownBy w' v.ownBlock->wpList P D Q rest (a.put o.dst I) w'):
  wpList P D Q (o::rest) a W:=by
 subst hm;obtain⟨i,hi,hz,S,hb⟩:=info_parts Cw;have hl:(ys.flatMap enc).length=ys.length*k:=by
  clear M G h p
  induction ys with
  |nil=>simp
  |cons y ys ih=>rw[asL,arV,ih,N,arZ,Nat.succ_mul];omega
 have Qs:∀ad,A=some ad->∀j u,(ys.flatMap enc)[j]?=some u->W.cell? (ad.add j)=some u:=by
  intro ad C j u hu;have hj:j<ys.length*k:=by rw[<-hl];exact(ase.1 hu).1
  have T:ys≠[]:=by intro e;subst e;simp at hj
  obtain⟨b,off,U,hb,hc⟩:=M T;rw[U]at C;injection C with C
  subst C;have qf:(⟨b,off,none⟩:Addr).add j=⟨b,off+j,none⟩:=by unfold Addr.add;split<;>simp_all
  rw[qf];have V:j/k<ys.length:=Nat.div_lt_of_lt_mul (by rw[Nat.mul_comm];exact hj);have D9:j%k<k:=Nat.mod_lt _ Y;have hy:=arW V;have he:(enc ys[j/k])[j%k]?=some ((enc ys[j/k])[j%k]'(by rw[N];exact D9)):=arW _
  have J:=G4 N ys (j/k) (j%k) _ _ hy he;have L:=hc _ _ hy _ _ he;have h4:j/k*k+j%k=j:=by rw[Nat.mul_comm];exact Nat.div_add_mod j k
  rw[h4,hu]at J;rw[Nat.add_assoc,h4]at L;rw[L,<-J]
 have lx:(xs.length+ys.length)*bytes<=140737488355328:=by have:(xs.length+ys.length)*bytes<=4294967296*1024:=Nat.mul_le_mul p R;omega
 have EX:∀u∈ys.flatMap enc,u.oneCell'=true:=by intro u hu;obtain⟨y,_,hy⟩:=List.mem_flatMap.1 hu;exact h1 y u hy
 rcases A with _|ad
 ·have EY:ys=[]:=by
   rcases ys with _|⟨y,ys⟩
   ·rfl
   ·obtain⟨b,off,C,_⟩:=M (by simp);cases C
  subst EY;have F:=Yk (P:=P) W base t o.type e i k X hi v xs.length (xs.flatMap enc) l c;refine wpList_plain E fun K hK=>?_;unfold Oper.wp execOp;simp only[asa]at G;simp only[Z,resolve,invoke,builtin,Sem.run_bind,as6,ata,List.map_toArray,asS,List.map_nil,hs,G,F];exact hK _ _ (h v W (by simpa using l) (fe _ _))
 ·refine wpList_append_own _ E s x t Z base e i z k bytes X hi hz S hb O Y v xs.length (xs.flatMap enc) hs l ad ys.length c (ys.flatMap enc) G hl (Qs ad rfl) EX
   (by unfold maxLen;omega) lx r ?_
  intro I w' J L _;refine h I w' ?_ L;unfold Own;rw[arV,ato];exact J
theorem aj.cut{α:Type}{enc:α->List Value}{k:Nat}{w:World}{B:Nat}{A:Option Addr}{xs:List α}(h:aj enc k w B A xs){i cap:Nat}(hi:i<=xs.length)(I:xs.length<=cap):
  aj enc k w B (if cap=i then A else A.map (·.add (i*k))) (xs.drop i):=by
 intro r;have y:i<xs.length:=by
  rcases arY i xs.length with h1|h1
  ·exact h1
  ·exact absurd (List.drop_eq_nil_of_le h1) r
 have C:xs≠[]:=by intro e;subst e;simp at y
 obtain⟨b,off,D,E,p⟩:=h C;rw[arJ (by omega),D];have F:(⟨b,off,none⟩:Addr).add (i*k)=⟨b,off+i*k,none⟩:=by unfold Addr.add;split<;>simp_all
 refine⟨b,off+i*k,by simp[F],E,fun j x z l u G=>?_⟩;rw[List.getElem?_drop]at z;have h1:=p _ _ z _ _ G;rw[Nat.add_mul]at h1;rw[Nat.add_assoc off (i*k)];exact h1
structure Bw(w:World) where
 w':World
 h:Below w.heap.size w w'
instance (w:World):Inhabited (Bw w):=⟨⟨w,arM _ _⟩⟩
theorem Bw.cell{w:World}{a:Addr}{v:Value}(j:a.block<w.heap.size)(h:w.cell? a=some v)(p:Bw w):p.w'.cell? a=some v:=(p.h.cell j).trans h
theorem Bw.call{P:Program}{f:FuncId}{args:Array Value}{w:World}{v:Value}(p:Bw w)(h:Calls P f args p.w' fun e w'=>e=.returned v/\Below p.w'.heap.size p.w' w'):
  Calls P f args p.w' fun e j=>e=.returned v/\∃q:Bw w,j=q.w':=
 h.mono fun _ j ⟨l,r⟩=>⟨l,⟨j,p.h.trans (r.mono p.h.size)⟩,rfl⟩
theorem Bw.Ac{P:Program}{f:FuncId}{args:Array Value}{w:World}{v:Value}(p:Bw w)(h:Calls P f args p.w' fun e w'=>e=.returned v/\p.w'=w'):
  Calls P f args p.w' fun e j=>e=.returned v/\∃q:Bw w,j=q.w':=
 h.mono fun _ _ ⟨l,r⟩=>⟨l,p,r.symm⟩
theorem qi{P:Program}{id:Nat}{Q:Exit->Act->World->Prop}{a:Act}{w:World}{l:List Oper}(j:P.follows .mixedOrders=true)(r:Region.lexB .any l.toArray=true)
  (h:wpQuiet P l.toArray (fun w'=>∃p:Bw w,w'=p.w') (fun a'=>∀w',(∃p:Bw w,w'=p.w')->Q .normal a' w') l a):(Code.region id l.toArray true).wp P Q a w:=
 wp_region_quiet (C:=fun w'=>∃p:Bw w,w'=p.w') j r ⟨⟨_,(arM _ w).drew⟩,rfl⟩ (by simpa using h)
theorem aj.aa{α:Type}{enc:α->List Value}{k:Nat}{w w':World}{A:Option Addr}{xs:List α}(h:aj enc k w w.heap.size A xs)(j:Below w.heap.size w w'):aj enc k w' w'.heap.size A xs:=(h.below j).more j.size
theorem aj.Hi{α:Type}{enc:α->List Value}{k:Nat}{w w':World}{A:Option Addr}{xs:List α}{b:Nat}(h:aj enc k w w.heap.size A xs)(r:w.grownBy w' (some b))(y:∀a,A=some a->a.block≠b):aj enc k w' w'.heap.size A xs:=fun l=>by obtain⟨c,off,e,u,z⟩:=h l;have p:=y _ e;exact⟨c,off,e,asy u r.size,fun i x hi j v C=>(asT (r.block c u (fun e=>p (by injection e)))).trans (z i x hi j v C)⟩
theorem Own.lit{α:Type}{enc:α->List Value}{k:Nat}(p:∀x,(enc x).length=k)(w:World)(xs:List α)(cs:Array Value)(e:TypeId)(l:cs=(xs.flatMap enc).toArray)(r:xs.length<=1000000){base:Nat}(u:base<=w.heap.size):
  Own enc k e (w.alloc (.cells cs e)) base (.slice (some ⟨w.heap.size,0,none⟩) xs.length xs.length) xs:=by
 have j:(xs.flatMap enc).length=xs.length*k:=by
  clear l r
  induction xs with
  |nil=>simp
  |cons y ys z=>rw[asL,arV,z,p,arZ,Nat.succ_mul];omega
 refine⟨j,.inr ⟨w.heap.size,xs.length,cs,rfl,u,heap_alloc_new w _,arI _,by unfold maxLen;omega,by rw[l];simpa using j,?_⟩⟩;rw[l,<-j];exact asp
theorem bD(w:World)(o:Obj):Below w.heap.size w (w.alloc o):=(arM _ _).alloc (arI _) o
theorem aj.IW{α:Type}{enc:α->List Value}{k:Nat}{w:World}{A:Option Addr}{xs:List α}(h:aj enc k w w.heap.size A xs)(o:Obj):aj enc k (w.alloc o) (w.alloc o).heap.size A xs:=h.aa (bD w o)
theorem aj.U4{α:Type}{enc:α->List Value}{k:Nat}{w:World}{A:Option Addr}{xs:List α}(h:aj enc k w w.heap.size A xs)(n:Nat):aj enc k (w.drewN n) (w.drewN n).heap.size A xs:=h
theorem ah.aa{w w':World}{g:Nat}{t:TypeId}{cs:Array Value}(h:ah w g t cs)(j:Below w.heap.size w w'):ah w' g t cs:=h.below j h.lt
theorem aB{a w w':World}(h:Below a.heap.size a w)(j:Below w.heap.size w w'):Below a.heap.size a w':=h.trans (j.mono h.size)
theorem ej{a w:World}(h:Below a.heap.size a w)(o:Obj):Below a.heap.size a (w.alloc o):=h.alloc h.size o
theorem iX{a w:World}(h:Below a.heap.size a w){g:Nat}(j:a.heap.size<=g)(i:Nat)(u:Value):Below a.heap.size a (w.setCell ⟨g,i,none⟩ u):=h.setCell (p:=⟨g,i,none⟩) j u
theorem kN{a w w':World}{row:Option Nat}(h:Below a.heap.size a w)(j:w.grownBy w' row)(hr:∀g,row=some g->a.heap.size<=g):Below a.heap.size a w':=h.trans (gU j h.size hr)
theorem dx{a w w':World}{row:Option Nat}(h:a.grownBy w row)(j:Below w.heap.size w w'):a.grownBy w' row:=ck h (Mq j row)
theorem Own.aa{α:Type}{enc:α->List Value}{k:Nat}{e:TypeId}{w w':World}{base:Nat}{v:Value}{xs:List α}(h:Own enc k e w base v xs)(j:Below w.heap.size w w'):Own enc k e w' base v xs:=h.kept (Mq j none) (fun _ e=>by cases e)
section
variable {α:Type}{enc:α->List Value}{k:Nat}{w w':World}{A:Option Addr}{xs:List α}{o:Obj}{n c off:Nat}
theorem Y2(j:(w.alloc o).grownBy w' (Value.slice (some ⟨w.heap.size,off,none⟩) n c).ownBlock):Below w.heap.size w w':=by have l:(w.alloc o).grownBy w' (some w.heap.size):=j;exact(bD w o).trans (gU l (by simp) (fun g e=>by injection e;omega))
end
theorem Own.adT{α:Type}{enc:α->List Value}{k:Nat}{e:TypeId}{w w':World}{base:Nat}{v:Value}{xs:List α}(h:Own enc k e w base v xs)(j:w.grownBy w' v.ownBlock)(l:base<=w.heap.size):Below base w w':=
 gU j l (fun _ e=>(h.cm e).1)
theorem Own.kM{α:Type}{enc:α->List Value}{k:Nat}{e:TypeId}{w:World}{base:Nat}{v:Value}{xs:List α}(h:Own enc k e w base v xs)(p:∀x,(enc x).length=k):
  ∃A c,v=.slice A xs.length c/\aj enc k w w.heap.size A xs/\(∀a,A=some a->base<=a.block)/\xs.length<=c/\c<=maxLen:=by
 obtain⟨A,c,j,r,u,D⟩:=h.form p;refine⟨A,c,j,r,u,?_⟩;rcases h.2 with⟨rfl,E⟩|⟨g,cap,y,rfl,_,_,z,C,_⟩
 ·injection j with _ F l
  subst l;exact⟨by omega,by unfold maxLen;omega⟩
 ·injection j with _ _ l
  subst l;exact⟨z,C⟩
theorem IU{B:Nat}{a b c:World}(h:Below B a b)(j:Below b.heap.size b c)(l:B<=b.heap.size):Below B a c:=h.trans (j.mono l)
theorem ajX{cs:Array Value}(C:cs.size=6)(j p r u y z:Value):((((((cs.setIfInBounds 0 j).setIfInBounds 1 p).setIfInBounds 2 r).setIfInBounds 3 u).setIfInBounds 4 y).setIfInBounds 5 z)=#[j,p,r,u,y,z]:=by
 obtain⟨l⟩:=cs
 match l,C with
 |[_,_,_,_,_,_],_=>rfl
theorem ah.Vs{w:World}{g:Nat}{t:TypeId}{cs:Array Value}(h:ah w g t cs)(z:cs.size=6)(j l p r u y:Value):
  ah ((((((w.setCell ⟨g,0,none⟩ j).setCell ⟨g,1,none⟩ l).setCell ⟨g,2,none⟩ p).setCell ⟨g,3,none⟩ r).setCell ⟨g,4,none⟩ u).setCell ⟨g,5,none⟩ y) g t #[j,l,p,r,u,y]:=by
 rw[<-ajX z j l p r u y];exact(((((h.eu 0 j).eu 1 l).eu 2 p).eu 3 r).eu 4 u).eu 5 y
theorem il{w W:World}{g:Nat}(h:Below w.heap.size w W)(j:w.heap.size<=g)(i:Nat)(a:Value):Below w.heap.size w (W.setCell ⟨g,i,none⟩ a):=h.setCell (p:=⟨g,i,none⟩) j a
def RowI(w:World)(g:Nat)(xs:List Int):Prop:=w.rowIs g 3 xs.length (fun i=>.int .i64 (xs.getD i 0))
section
variable {w w':World}{g:Nat}{xs:List Int}
theorem RowI.lt(h:RowI w g xs):g<w.heap.size:=World.rowIs.lt h
theorem RowI.cell(h:RowI w g xs){i:Nat}(hi:i<xs.length):w.cell? ⟨g,i,none⟩=some (.int .i64 (xs.getD i 0)):=World.rowIs.cell h hi
theorem RowI.frozen(h:RowI w g xs)(i:Nat):w.frozen? ⟨g,i,none⟩=false:=World.rowIs.frozen h i
theorem ajY(xs:List Int)(i j:Nat)(v:Int)(hi:i<xs.length):(xs.set i v).getD j 0=if j=i then v else xs.getD j 0:=by
 rw[ar1,List.getElem?_set,ar1];by_cases e:i=j
 ·subst e;simp[hi]
 ·rw[arJ e,arJ (fun h=>e h.symm)]
theorem RowI.set(h:RowI w g xs){i:Nat}(hi:i<xs.length)(v:Int):RowI (w.setCell ⟨g,i,none⟩ (.int .i64 v)) g (xs.set i v):=by unfold RowI;rw[List.length_set];refine(World.rowIs.set h i (.int .i64 v)).congr fun j l=>?_;rw[ajY _ _ _ _ hi];split<;>rfl
theorem RowI.far(h:RowI w g xs){p:Addr}(j:g≠p.block)(v:Value):RowI (w.setCell p v) g xs:=World.rowIs.setOther h j v
theorem RowI.alloc(h:RowI w g xs)(o:Obj):RowI (w.alloc o) g xs:=World.rowIs.alloc h o
theorem RowI.drew(h:RowI w g xs):RowI w.drew g xs:=World.rowIs.of_block h rfl
theorem RowI.drewN(h:RowI w g xs)(n:Nat):RowI (w.drewN n) g xs:=World.rowIs.of_block h rfl
theorem RowI.aa(h:RowI w g xs)(j:Below w.heap.size w w'):RowI w' g xs:=World.rowIs.of_block h (j.block g h.lt)
theorem RowI.grown(h:RowI w g xs){row:Option Nat}(j:w.grownBy w' row)(hr:some g≠row):RowI w' g xs:=World.rowIs.of_block h (j.block g h.lt hr)
theorem RowI.slice(h:RowI w g xs):aj encI 1 w w.heap.size (some ⟨g,0,none⟩) xs:=fun _=>by
 refine⟨g,0,rfl,h.lt,fun i x hi j v l=>?_⟩;have p:=(ase.1 hi).1;obtain rfl:j=0:=by have:=(ase.1 l).1;simp[encI]at this;omega
 have:=h.cell p;rw[arT,ast,arL,this,ar1,hi];simpa[encI]using l
end
theorem RowI.made(w:World)(n:Nat):RowI (w.alloc (.cells (madeCells #[.int .i64 0] n) 3)) w.heap.size (List.replicate n 0):=by unfold RowI;rw[List.length_replicate];refine(World.rowIs_made w (.int .i64 0) n 3).congr fun i hi=>?_;rw[ar1,atr];split<;>rfl
theorem E5:(Tryz.prog.info? 3).map (fun i=>(i.zero,i.size,i.bytes))=some (some (.int .i64 0),1,8):=by kernel_rfl
theorem NU(n:Nat)(j:n<=1000000)(w:World):(Instr.makeSlice 34 (.int .i64 (n:Int)) (.int .i64 (n:Int))).run prog w=.ok (.slice (some ⟨w.heap.size,0,none⟩) n n) (w.alloc (.cells (madeCells #[.int .i64 0] n) 3)):=
 run_make_row' 34 3 (.int .i64 0) 8 underlying34 E5 rfl .i64 .i64 n (by omega) (by omega) w
theorem Zd(n:Nat)(x:Int)(j:x=n)(l:n<=1000000)(w:World):(Instr.makeSlice 34 (.int .i64 x) (.int .i64 x)).run prog w=.ok (.slice (some ⟨w.heap.size,0,none⟩) n n) (w.alloc (.cells (madeCells #[.int .i64 0] n) 3)):=by subst j;exact NU n l w
theorem Yv(b off len j:Nat)(x:Int)(m:Nat)(l:x=m)(y:m<=j)(p:j≠0)(w:World):(Instr.sliceAt 34 (.slice (some ⟨b,off,none⟩) len j) none (some (.int .i64 x)) none).run prog w=.ok (.slice (some ⟨b,off,none⟩) m j) w:=by
 have hu:Tryz.prog.underlying 34=some (.slice (Tryz.prog.elem 34)):=by kernel_rfl
 have r:∀w:World,(sizeOf (Tryz.prog.elem 34)).run prog w=.ok 1 w:=fun _=>by kernel_rfl
 have u:(⟨b,off,none⟩:Addr).add 0=⟨b,off,none⟩:=by unfold Addr.add;split<;>simp_all
 subst l;rw[run_sliceAt_slice w _ _ _ _ _ hu,run_slice_h w _ _ _ _ hu .i64 (m:Int) (by omega) (by omega),r];simp[Result.andThen,sliced,p,u]
