/- Joined texts: Cmp6c. Conditions: as stated. -/
import Derived.Test.YtjncpgbhokjbfaaGreatJ31
namespace Go.Proofs.YtjncpgbhokjbfaaGreat
open Go.RowKit
def put7 (W:World) (g:Nat) (v0 v1 v2 v3 v4 v5 v6 : Value) : World:=(((((((W.setCell ⟨g,0,none⟩ v0).setCell ⟨g,1,none⟩ v1).setCell ⟨g,2,none⟩ v2).setCell ⟨g,3,none⟩ v3).setCell ⟨g,4,none⟩ v4).setCell ⟨g,5,none⟩ v5).setCell ⟨g,6,none⟩ v6)
def put5 (W:World) (g:Nat) (v0 v1 v2 v3 v4 : Value) : World:=(((((W.setCell ⟨g,0,none⟩ v0).setCell ⟨g,1,none⟩ v1).setCell ⟨g,2,none⟩ v2).setCell ⟨g,3,none⟩ v3).setCell ⟨g,4,none⟩ v4)
theorem put7_grown (W:World) (g:Nat) (v0 v1 v2 v3 v4 v5 v6 : Value) : W.grownBy (put7 W g v0 v1 v2 v3 v4 v5 v6) (some g):=(only_setCell (p:=⟨g,6,none⟩) (only_setCell (p:=⟨g,5,none⟩) (only_setCell (p:=⟨g,4,none⟩) (only_setCell (p:=⟨g,3,none⟩) (only_setCell (p:=⟨g,2,none⟩) (only_setCell (p:=⟨g,1,none⟩) (only_setCell (p:=⟨g,0,none⟩) (only_refl W (some g)) (.inl rfl) v0) (.inl rfl) v1) (.inl rfl) v2) (.inl rfl) v3) (.inl rfl) v4) (.inl rfl) v5) (.inl rfl) v6)
theorem put5_grown (W:World) (g:Nat) (v0 v1 v2 v3 v4 : Value) : W.grownBy (put5 W g v0 v1 v2 v3 v4) (some g):=(only_setCell (p:=⟨g,4,none⟩) (only_setCell (p:=⟨g,3,none⟩) (only_setCell (p:=⟨g,2,none⟩) (only_setCell (p:=⟨g,1,none⟩) (only_setCell (p:=⟨g,0,none⟩) (only_refl W (some g)) (.inl rfl) v0) (.inl rfl) v1) (.inl rfl) v2) (.inl rfl) v3) (.inl rfl) v4)
theorem put7_blk {W:World} {g:Nat} {t:TypeId} {a0 a1 a2 a3 a4 a5 a6 : Value} (h:Blk W g t #[a0,a1,a2,a3,a4,a5,a6]) (v0 v1 v2 v3 v4 v5 v6 : Value) : Blk (put7 W g v0 v1 v2 v3 v4 v5 v6) g t #[v0,v1,v2,v3,v4,v5,v6]:=by
 have h1:=h.fill [v0,v1,v2,v3,v4,v5,v6] rfl
 simp only [putAll,Nat.zero_add,Nat.reduceAdd] at h1
 exact h1
theorem put5_blk {W:World} {g:Nat} {t:TypeId} {a0 a1 a2 a3 a4 : Value} (h:Blk W g t #[a0,a1,a2,a3,a4]) (v0 v1 v2 v3 v4 : Value) : Blk (put5 W g v0 v1 v2 v3 v4) g t #[v0,v1,v2,v3,v4]:=by
 have h1:=h.fill [v0,v1,v2,v3,v4] rfl
 simp only [putAll,Nat.zero_add,Nat.reduceAdd] at h1
 exact h1
structure Ex (gs gn : Nat) (a w : World) : Prop where
 os:w.os = a.os
 tape:w.tape = a.tape
 output:w.output = a.output
 size:a.heap.size≤w.heap.size
 block:∀ q,q < a.heap.size→q ≠ gs→q ≠ gn→w.heap[q]? = a.heap[q]?
theorem Ex.refl (gs gn : Nat) (a:World) : Ex gs gn a a:=⟨rfl,rfl,rfl,Nat.le_refl _,fun _ _ _ _=>rfl⟩
theorem Ex.stable (gs gn : Nat) (a:World) : Stable (Ex gs gn a):=fun w w' h hb=>⟨hb.os.trans h.os,hb.tape.trans h.tape,hb.output.trans h.output,Nat.le_trans h.size hb.size,fun q hq h1 h2=>(hb.block q (by have:=h.size; omega)).trans (h.block q hq h1 h2)⟩
theorem Ex.grown {gs gn : Nat} {a w w' : World} {row:Option Nat} (h:Ex gs gn a w) (hg:w.grownBy w' row) (hr:row = some gs ∨ row = some gn) : Ex gs gn a w':=⟨hg.os.trans h.os,hg.tape.trans h.tape,hg.output.trans h.output,Nat.le_trans h.size hg.size,fun q hq h1 h2=>(hg.block q (by have:=h.size; omega) (fun e=>by rcases hr with r | r <;> (rw [r] at e; injection e; omega))).trans (h.block q hq h1 h2)⟩
theorem Ex.cell {gs gn : Nat} {a w : World} (h:Ex gs gn a w) {p:Addr} (hp:p.block < a.heap.size) (h1:p.block ≠ gs) (h2:p.block ≠ gn) : w.cell? p = a.cell? p:=World.cell?_of_block (h.block _ hp h1 h2)
theorem SliceOf.ex {α:Type} {enc:α→List Value} {k:Nat} {a w : World} {gs gn : Nat} {A:Option Addr} {l:List α} (h:SliceOf enc k a a.heap.size A l) (hE:Ex gs gn a w) (hb:l ≠ []→∀ q off,A = some ⟨q,off,none⟩→q ≠ gs∧q ≠ gn) : SliceOf enc k w w.heap.size A l:=fun hne=>by
 obtain ⟨q,off,e,hq,hc⟩:=h hne
 have:=hb hne q off e
 have hs:=hE.size
 exact ⟨q,off,e,by omega,fun i x hi j v hj=>(hE.cell (p:=⟨q,off+i * k+j,none⟩) hq this.1 this.2).trans (hc i x hi j v hj)⟩
theorem Ex.below {gs gn B : Nat} {z a w : World} (h:Ex gs gn a w) (hb:Below B z a) (hB:B≤a.heap.size) (h1:B≤gs) (h2:B≤gn) : Below B z w:=⟨h.os.trans hb.os,h.tape.trans hb.tape,h.output.trans hb.output,Nat.le_trans hb.size h.size,fun q hq=>(h.block q (by omega) (by omega) (by omega)).trans (hb.block q hq)⟩
set_option maxRecDepth 100000 in
set_option maxHeartbeats 8000000 in
theorem cmp_p6c (R:Ending→World→Prop) (w W W1 : World) (gy gs gn : Nat) (y:YearM) (b:BasesT) (At:Option Addr) (ct:Nat) (taken:List Elem) (income insured levies tax : Int) (ls:List LineT)
  (x0 x1 x2 x3 x4 x5 x6 x7 x9 x10 x11 x14 x15 x16 x17 x18 x19 x20 x21 x22 x23 x24 x25 x26 x27 x30 x31 x32 x33 x34 x35 x36 x38 x40 x42 x43 x44 x45 x46 x47 x48 x49 x50 x51 x52 x53 x54 x55 x56 x57 x58 x59 x60 x61 x62 x63 x64 x65 x66 x67 x68 x69 x70 x71 x72 x73 x74 x75 x76 x77 x78 x79 x80 x81 x82 x83 x84 x85 x86 x87 x88 x89 x90 x91 x92 x93 x94 x95 x96 x97 x98 x99 x100 x101 x102 x103 x104 x105 x106 x107 x108 x109 x110 x111 x112 x113 x114 x115 x116 x117 x118 x119 x120 x121 x122 x123 x124 x125 x126 x127 x128 x129 x130 x131 x132 x133 x134 x135 x136 x137 x138 x139 x140 x141 x142 x143 x144 x145 x146 x147 x148 x149 x150 x151 x152 x153 x154 x155 x156 x157 x158 x159 x160 x161 x162 x163 x164 x165 x166 x167 x168 x169 x170 x171 x172 x173 x174 x175 x176 x177 x178 x179 x180 x181 x182 x183 x184 x185 x186 x187 x188 x189 x190 x191 x192 x193 x194 x195 x196 x197 x198 x199 x200 x201 x202 x203 x204 x205 x206 x207 x208 x209 x210 x211 x212 x213 x214 x215 x216 x217 x218 x219 x220 x221 x222 x223 x224 x225 x226 x227 x228 x229 x230 x231 x232 x233 x234 x235 x236 x237 x238 x239 x240 x241 x242 x243 x244 x245 x246 x247 x248 x249 x250 x251 x252 x253 x254 x255 x256 x257 x258 x259 x260 x261 x262 x263 x264 x265 x266 x267 x268 x269 x270 x271 x272 x273 x274 x275 x276 x277 x278 x279 x280 x281 x282 x283 x284 x285 x286 x287 x288 x289 x290 x291 x292 x293 x294 x295 x296 x297 x298 x299 x300 x301 x302 x303 x304 x305 x306 x307 x308 x309 x310 x311 x312 x313 x314 x315 x316 x317 x318 x319 x320 x321 x322 x323 x324 x325 x326 x327 x328 x329 x330 x331 x332 x333 x334 x335 x336 x337 x338 x339 x340 x341 x342 x343 x344 x345 x346 x347 x348 x349 x350 x351 x352 x353 x354 x355 x356 x357 x358 x359 x360 x361 x362 x363 x364 x365 x366 x367 x368 x369 x370 x371 x372 x373 x374 x375 x376 x377 x378 x379 x380 x381 x382 x383 x384 x385 x386 x387 x388 x389 x390 x391 x392 x393 x394 x395 x396 x397 x398 x399 x400 x401 x402 x403 x404 x405 x406 x407 x408 x409 x410 x411:Value)
  (hbel:Below w.heap.size w W) (hBy:Blk W gy 81 #[.int .i64 y.periods,.int .i64 y.income,.int .i64 y.withheld,.slice y.Ai y.ins.length y.ci,.slice y.At y.taken.length y.ct]) (hBs:Blk W gs 41 #[.int .i64 0,.int .i64 0,.int .i64 0,.int .i64 0,.int .i64 0,.int .i64 0,.slice none 0 0]) (hBn:Blk W gn 81 #[.int .i64 0,.int .i64 0,.int .i64 0,.slice none 0 0,.slice none 0 0]) (hgs:w.heap.size≤gs) (hgn:w.heap.size≤gn) (hne:gs ≠ gn) (hys:y.In W) (ht:SliceOf encE 2 W W.heap.size At taken) (li:y.ins.length≤100) (b6 : -1000000000000000≤tax) (b7:tax≤1000000000000000) (b8 : -1000000000000000≤income) (b9:income≤1000000000000000) (b10 : -1000000000000000≤y.income) (b11:y.income≤1000000000000000) (b12 : -1000000000000000≤y.withheld) (b13:y.withheld≤1000000000000000) (b14:0≤y.periods) (b15:y.periods≤1000) (hA:AppCut W b (b.c - levies - tax) ls 10000 W1) (HR:Hid (∀ (A Ai:Option Addr) (c ci:Nat) (w':World),SliceOf encL 3 w' w'.heap.size A (ls)→SliceOf encI 1 w' w'.heap.size Ai (y.ins++[insured])→SliceOf encE 2 w' w'.heap.size At taken→Below w.heap.size w w'→R (.returned (.tuple #[.agg #[.int .i64 b.g,.int .i64 b.c,.int .i64 b.t,.int .i64 b.i,.int .i64 b.a,.int .i64 (b.c - levies - tax),.slice A (ls).length c],.agg #[.int .i64 (y.periods+1),.int .i64 (y.income+income),.int .i64 (y.withheld+tax),.slice Ai (y.ins.length+1) ci,.slice At taken.length ct],.int .i64 0])) w')) :
  Code.wp Tryz.prog (dropC 44 (bodyOf Tryz.f27)) (bodyPost Tryz.prog Tryz.f27 (R)) { tmps:=List.toArray (x0::x1::x2::x3::x4::x5::x6::x7::(.pointer (some ⟨gy,0,none⟩))::x9::x10::x11::(.pointer (some ⟨gs,0,none⟩))::(.pointer (some ⟨gn,0,none⟩))::x14::x15::x16::x17::x18::x19::x20::x21::x22::x23::x24::x25::x26::x27::(.int .i64 income)::(.int .i64 insured)::x30::x31::x32::x33::x34::x35::x36::(.int .i64 tax)::x38::(.slice At taken.length ct)::x40::(.pointer (some ⟨W.heap.size,0,none⟩))::x42::x43::x44::x45::x46::x47::x48::x49::x50::x51::x52::x53::x54::x55::x56::x57::x58::x59::x60::x61::x62::x63::x64::x65::x66::x67::x68::x69::x70::x71::x72::x73::x74::x75::x76::x77::x78::x79::x80::x81::x82::x83::x84::x85::x86::x87::x88::x89::x90::x91::x92::x93::x94::x95::x96::x97::x98::x99::x100::x101::x102::x103::x104::x105::x106::x107::x108::x109::x110::x111::x112::x113::x114::x115::x116::x117::x118::x119::x120::x121::x122::x123::x124::x125::x126::x127::x128::x129::x130::x131::x132::x133::x134::x135::x136::x137::x138::x139::x140::x141::x142::x143::x144::x145::x146::x147::x148::x149::x150::x151::x152::x153::x154::x155::x156::x157::x158::x159::x160::x161::x162::x163::x164::x165::x166::x167::x168::x169::x170::x171::x172::x173::x174::x175::x176::x177::x178::x179::x180::x181::x182::x183::x184::x185::x186::x187::x188::x189::x190::x191::x192::x193::x194::x195::x196::x197::x198::x199::x200::x201::x202::x203::x204::x205::x206::x207::x208::x209::x210::x211::x212::x213::x214::x215::x216::x217::x218::x219::x220::x221::x222::x223::x224::x225::x226::x227::x228::x229::x230::x231::x232::x233::x234::x235::x236::x237::x238::x239::x240::x241::x242::x243::x244::x245::x246::x247::x248::x249::x250::x251::x252::x253::x254::x255::x256::x257::x258::x259::x260::x261::x262::x263::x264::x265::x266::x267::x268::x269::x270::x271::x272::x273::x274::x275::x276::x277::x278::x279::x280::x281::x282::x283::x284::x285::x286::x287::x288::x289::x290::x291::x292::x293::x294::x295::x296::x297::x298::x299::x300::x301::x302::x303::x304::x305::x306::x307::x308::x309::x310::x311::x312::x313::x314::x315::x316::x317::x318::x319::x320::x321::x322::x323::x324::x325::x326::x327::x328::x329::x330::x331::x332::x333::x334::x335::x336::x337::x338::x339::x340::x341::x342::x343::x344::x345::x346::x347::x348::x349::x350::x351::x352::x353::x354::x355::x356::x357::x358::x359::x360::x361::x362::x363::x364::x365::x366::x367::x368::x369::x370::x371::x372::x373::x374::x375::x376::x377::x378::x379::x380::x381::x382::x383::x384::x385::x386::x387::x388::x389::x390::x391::x392::x393::x394::x395::x396::x397::x398::x399::x400::x401::x402::x403::x404::x405::x406::x407::x408::x409::x410::x411::[]),defers:=[] } W1:=by
 conv=>enter [2]; whnf
 refine wp_stmt fun K HK=>?_
 refine cmp_r72 W W1 gy y b At ct taken income insured levies tax ls K _ _ _ _ _ _ _ _ _ _ _ _ _ _ _ _ _ _ _ _ _ _ _ _ _ _ _ _ _ _ _ _ _ _ _ _ _ _ _ _ _ _ _ _ _ _ _ _ _ _ _ _ _ _ _ _ _ _ _ _ _ _ _ _ _ _ _ _ _ _ _ _ _ _ _ _ _ _ _ _ _ _ _ _ _ _ _ _ _ _ _ _ _ _ _ _ _ _ _ _ _ _ _ _ _ _ _ _ _ _ _ _ _ _ _ _ _ _ _ _ _ _ _ _ _ _ _ _ _ _ _ _ _ _ _ _ _ _ _ _ _ _ _ _ _ _ _ _ _ _ _ _ _ _ _ _ _ _ _ _ _ _ _ _ _ _ _ _ _ _ _ _ _ _ _ _ _ _ _ _ _ _ _ _ _ _ _ _ _ _ _ _ _ _ _ _ _ _ _ _ _ _ _ _ _ _ _ _ _ _ _ _ _ _ _ _ _ _ _ _ _ _ _ _ _ _ _ _ _ _ _ _ _ _ _ _ _ _ _ _ _ _ _ _ _ _ _ _ _ _ _ _ _ _ _ _ _ _ _ _ _ _ _ _ _ _ _ _ _ _ _ _ _ _ _ _ _ _ _ _ _ _ _ _ _ _ _ _ _ _ _ _ _ _ _ _ _ _ _ _ _ _ _ _ _ _ _ _ _ _ _ _ _ _ _ _ _ _ _ _ _ _ _ _ _ _ _ _ _ _ _ _ _ _ _ _ _ _ _ _ _ _ _ _ _ _ _ _ _ _ _ _ _ _ _ _ _ _ _ _ _ _ _ _ _ _ _ _ _ _ _ _ _ _ _ _ _ _ _ _ _ _ _ _ _ _ _ _ _ _ _ _ _ _ _ _ _ _ _ _ _ _ _ _ _ _ _ hBy hys li b6 b7 b8 b9 b10 b11 b12 b13 b14 b15 hA ?_
 intro s42 s390 s391 s392 s393 s394 s395 s396 s397 s398 s399 s400 s401 s402 s403 s404 s405 s406 s407 s408 s409 wx hcut
 refine HK.out _ _ ?_
 obtain ⟨v,gN,Aq,cq,rfl,hS,hown,hC,hN,hq,hgN⟩:=hcut
 clear HK K hA
 obtain ⟨Al,cl,rfl,_,_,_⟩:=hown.form encL_len
 have lgs:=hBs.lt
 have lgn:=hBn.lt
 have hBsx:=hBs.below hC lgs
 have hBnx:=hBn.below hC lgn
 have hgs':W.heap.size ≠ gs:=by omega
 have hgn':W.heap.size ≠ gn:=by omega
 have hNs:gN ≠ gs:=by omega
 have hNn:gN ≠ gn:=by omega
 have hne':gn ≠ gs:=fun e=>hne e.symm
 have HBS:=Lib.hid hBsx
 have HBN:=Lib.hid hBnx
 have HS:=Lib.hid hS
 have HN:=Lib.hid hN
 have HOW:=Lib.hid hown
 have HQ:=Lib.hid hq
 have HT:=Lib.hid ht
 have H1:=Lib.hid hBs
 have H2:=Lib.hid hBn
 refine wp_stmt fun K HK=>?_
 go_cut [14] from 410 to 411 (fun v14 wx2=>v14 = .int .i64 0∧Ex gs gn wx wx2∧Blk wx2 gs 41 #[.int .i64 b.g,.int .i64 b.c,.int .i64 b.t,.int .i64 b.i,.int .i64 b.a,.int .i64 (b.c - levies - tax),.slice Al ls.length cl]∧Blk wx2 gn 81 #[.int .i64 (y.periods+1),.int .i64 (y.income+income),.int .i64 (y.withheld+tax),.slice Aq (y.ins.length+1) cq,.slice At taken.length ct])
 case first =>
  as_aux_lemma =>
   clear HR HK hBy hys ht li hbel hBs hBn hown hq hC HBS HBN HS HN HOW HQ HT H1 H2
   rw [List.length_append] at hN
   simp only [List.length_cons,List.length_nil,Nat.zero_add] at hN
   refine M3.wp_region_sel (C:=Ex gs gn wx) (Ex.stable _ _ _) (Ex.refl _ _ _) (aE:=?aE) [0,1] 3 (by kernel_rfl) (by kernel_rfl) rfl (by kernel_rfl) (by kernel_rfl) (by rfl) ?H ?M
   case H =>
    intro F hF inst
    simp only [M3.opsAt,List.getElem?_toArray,List.getElem?_cons_zero,List.getElem?_cons_succ]
    have a0:=hS.cell 0
    have a1:=hS.cell 1
    have a2:=hS.cell 2
    have a3:=hS.cell 3
    have a4:=hS.cell 4
    have a5:=hS.cell 5
    have a6:=hS.cell 6
    simp only [nqg,nqh,nqi] at a0 a1 a2 a3 a4 a5 a6
    have n0:=hN.cell 0
    have n1:=hN.cell 1
    have n2:=hN.cell 2
    have n3:=hN.cell 3
    have n4:=hN.cell 4
    simp only [nqg,nqh,nqi] at n0 n1 n2 n3 n4
    have l1:=hS.lt
    have l2:=hN.lt
    have e0:∀ p:BwC (Ex gs gn wx) F,p.w'.cell? ⟨W.heap.size,0,none⟩ = some (.int .i64 b.g):=fun p=>(p.h.cell (p:=⟨W.heap.size,0,none⟩) l1 hgs' hgn').trans a0
    have e1:∀ p:BwC (Ex gs gn wx) F,p.w'.cell? ⟨W.heap.size,1,none⟩ = some (.int .i64 b.c):=fun p=>(p.h.cell (p:=⟨W.heap.size,1,none⟩) l1 hgs' hgn').trans a1
    have e2:∀ p:BwC (Ex gs gn wx) F,p.w'.cell? ⟨W.heap.size,2,none⟩ = some (.int .i64 b.t):=fun p=>(p.h.cell (p:=⟨W.heap.size,2,none⟩) l1 hgs' hgn').trans a2
    have e3:∀ p:BwC (Ex gs gn wx) F,p.w'.cell? ⟨W.heap.size,3,none⟩ = some (.int .i64 b.i):=fun p=>(p.h.cell (p:=⟨W.heap.size,3,none⟩) l1 hgs' hgn').trans a3
    have e4:∀ p:BwC (Ex gs gn wx) F,p.w'.cell? ⟨W.heap.size,4,none⟩ = some (.int .i64 b.a):=fun p=>(p.h.cell (p:=⟨W.heap.size,4,none⟩) l1 hgs' hgn').trans a4
    have e5:∀ p:BwC (Ex gs gn wx) F,p.w'.cell? ⟨W.heap.size,5,none⟩ = some (.int .i64 (b.c - levies - tax)):=fun p=>(p.h.cell (p:=⟨W.heap.size,5,none⟩) l1 hgs' hgn').trans a5
    have e6:∀ p:BwC (Ex gs gn wx) F,p.w'.cell? ⟨W.heap.size,6,none⟩ = some (.slice Al ls.length cl):=fun p=>(p.h.cell (p:=⟨W.heap.size,6,none⟩) l1 hgs' hgn').trans a6
    have d0:∀ p:BwC (Ex gs gn wx) F,p.w'.cell? ⟨gN,0,none⟩ = some (.int .i64 (y.periods+1)):=fun p=>(p.h.cell (p:=⟨gN,0,none⟩) l2 hNs hNn).trans n0
    have d1:∀ p:BwC (Ex gs gn wx) F,p.w'.cell? ⟨gN,1,none⟩ = some (.int .i64 (y.income+income)):=fun p=>(p.h.cell (p:=⟨gN,1,none⟩) l2 hNs hNn).trans n1
    have d2:∀ p:BwC (Ex gs gn wx) F,p.w'.cell? ⟨gN,2,none⟩ = some (.int .i64 (y.withheld+tax)):=fun p=>(p.h.cell (p:=⟨gN,2,none⟩) l2 hNs hNn).trans n2
    have d3:∀ p:BwC (Ex gs gn wx) F,p.w'.cell? ⟨gN,3,none⟩ = some (.slice Aq (y.ins.length+1) cq):=fun p=>(p.h.cell (p:=⟨gN,3,none⟩) l2 hNs hNn).trans n3
    have d4:∀ p:BwC (Ex gs gn wx) F,p.w'.cell? ⟨gN,4,none⟩ = some (.slice At taken.length ct):=fun p=>(p.h.cell (p:=⟨gN,4,none⟩) l2 hNs hNn).trans n4
    clear a0 a1 a2 a3 a4 a5 a6 n0 n1 n2 n3 n4
    repeat (first | go_big_quiet_step (fail))
    refine wpQuiet_nil ?_
    rfl
   case M =>
    intro Q0 hQ0
    refine M3.mix_step [2] (by kernel_rfl) (by simp) ?_
    intro w1 hC1 hb1 i hi
    simp only [nqj,nqk,or_false] at hi
    subst hi
    have hs1:=hBsx.adv hb1
    have hn1:=hBnx.adv hb1
    have q0:=hs1.cell 0
    have q1:=hs1.cell 1
    have q2:=hs1.cell 2
    have q3:=hs1.cell 3
    have q4:=hs1.cell 4
    have q5:=hs1.cell 5
    have q6:=hs1.cell 6
    simp only [nqg,nqh,nqi] at q0 q1 q2 q3 q4 q5 q6
    have fq0:=hs1.frozen 0
    have fq1:=hs1.frozen 1
    have fq2:=hs1.frozen 2
    have fq3:=hs1.frozen 3
    have fq4:=hs1.frozen 4
    have fq5:=hs1.frozen 5
    have fq6:=hs1.frozen 6
    have l3:=hs1.lt
    refine M3.mix_skip (put7 w1 gs (.int .i64 b.g) (.int .i64 b.c) (.int .i64 b.t) (.int .i64 b.i) (.int .i64 b.a) (.int .i64 (b.c - levies - tax)) (.slice Al ls.length cl)) rfl rfl (by unfold put7; go_simp) ⟨hC1.grown (put7_grown _ _ _ _ _ _ _ _ _) (.inl rfl),?_⟩
    simp only [Act.put,nqa,nqb,nqc]
    have hs2:=put7_blk hs1 (.int .i64 b.g) (.int .i64 b.c) (.int .i64 b.t) (.int .i64 b.i) (.int .i64 b.a) (.int .i64 (b.c - levies - tax)) (.slice Al ls.length cl)
    have hn2:=hn1.grown (put7_grown w1 gs (.int .i64 b.g) (.int .i64 b.c) (.int .i64 b.t) (.int .i64 b.i) (.int .i64 b.a) (.int .i64 (b.c - levies - tax)) (.slice Al ls.length cl)) (fun e=>hne' (by injection e))
    clear q0 q1 q2 q3 q4 q5 q6 fq0 fq1 fq2 fq3 fq4 fq5 fq6 l3 hs1 hn1
    generalize put7 w1 gs (.int .i64 b.g) (.int .i64 b.c) (.int .i64 b.t) (.int .i64 b.i) (.int .i64 b.a) (.int .i64 (b.c - levies - tax)) (.slice Al ls.length cl) = w2 at hs2 hn2 ⊢
    refine M3.mix_step [3] (by kernel_rfl) (by simp) ?_
    intro w3 hC3 hb3 i hi
    simp only [nqj,nqk,or_false] at hi
    subst hi
    have hs3:=hs2.adv hb3
    have hn3:=hn2.adv hb3
    have q0:=hn3.cell 0
    have q1:=hn3.cell 1
    have q2:=hn3.cell 2
    have q3:=hn3.cell 3
    have q4:=hn3.cell 4
    simp only [nqg,nqh,nqi] at q0 q1 q2 q3 q4
    have fq0:=hn3.frozen 0
    have fq1:=hn3.frozen 1
    have fq2:=hn3.frozen 2
    have fq3:=hn3.frozen 3
    have fq4:=hn3.frozen 4
    have l3:=hn3.lt
    refine M3.mix_skip (put5 w3 gn (.int .i64 (y.periods+1)) (.int .i64 (y.income+income)) (.int .i64 (y.withheld+tax)) (.slice Aq (y.ins.length+1) cq) (.slice At taken.length ct)) rfl rfl (by unfold put5; go_simp) ⟨hC3.grown (put5_grown _ _ _ _ _ _ _) (.inr rfl),?_⟩
    simp only [Act.put,nqa,nqb,nqc]
    have hn4:=put5_blk hn3 (.int .i64 (y.periods+1)) (.int .i64 (y.income+income)) (.int .i64 (y.withheld+tax)) (.slice Aq (y.ins.length+1) cq) (.slice At taken.length ct)
    have hs4:=hs3.grown (put5_grown w3 gn (.int .i64 (y.periods+1)) (.int .i64 (y.income+income)) (.int .i64 (y.withheld+tax)) (.slice Aq (y.ins.length+1) cq) (.slice At taken.length ct)) (fun e=>hne (by injection e))
    clear q0 q1 q2 q3 q4 fq0 fq1 fq2 fq3 fq4 l3 hs3 hn3 hs2 hn2
    generalize put5 w3 gn (.int .i64 (y.periods+1)) (.int .i64 (y.income+income)) (.int .i64 (y.withheld+tax)) (.slice Aq (y.ins.length+1) cq) (.slice At taken.length ct) = w4 at hs4 hn4 ⊢
    refine M3.mix_step [4] (by kernel_rfl) (by simp) ?_
    intro w5 hC5 hb5 i hi
    simp only [nqj,nqk,or_false] at hi
    subst hi
    refine M3.mix_val (.int .i64 0) w5 rfl rfl rfl ⟨hC5,?_⟩
    simp only [Act.put,nqa,nqb,nqc,nqd,nqe,nqf]
    refine M3.mix_end (by kernel_rfl) ?_
    intro w6 hC6 hb6
    refine hQ0 _ _ ?_
    have hfin:Value.int .i64 0 = .int .i64 0∧Ex gs gn wx w6∧Blk w6 gs 41 #[.int .i64 b.g,.int .i64 b.c,.int .i64 b.t,.int .i64 b.i,.int .i64 b.a,.int .i64 (b.c - levies - tax),.slice Al ls.length cl]∧Blk w6 gn 81 #[.int .i64 (y.periods+1),.int .i64 (y.income+income),.int .i64 (y.withheld+tax),.slice Aq (y.ins.length+1) cq,.slice At taken.length ct]:=⟨rfl,hC6,(hs4.adv hb5).adv hb6,(hn4.adv hb5).adv hb6⟩
    have HFIN:=Lib.hid hfin
    clear hfin hs4 hn4
    go_wp2_with fail
    go_meet
    exact ⟨rfl,HFIN.out.2⟩
 obtain ⟨rfl,hE,hrs,hrn⟩:=hcut
 rename World=>wz
 refine HK.out _ _ ?_
 clear HK K hBsx hBnx hS hN
 obtain ⟨Al',cl',hv,hLs,hLb,_⟩:=HOW.out.form encL_len
 injection hv with hv1 hv2 hv3
 subst hv1 hv3
 obtain ⟨Aq',cq',hv,hQs,hQb,_⟩:=HQ.out.form encI_len
 injection hv with hv1 hv4 hv3
 subst hv1 hv3
 have f1:SliceOf encL 3 wz wz.heap.size Al ls:=hLs.ex hE (fun _ q off e=>by have:=hLb _ e; simp only at this; omega)
 have f2:SliceOf encI 1 wz wz.heap.size Aq (y.ins++[insured]):=hQs.ex hE (fun _ q off e=>by have:=hQb _ e; simp only at this; omega)
 have f3:SliceOf encE 2 wz wz.heap.size At taken:=(HT.out.adv hC).ex hE (fun hl q off e=>⟨HT.out.not_block H1.out (by simp) q off e hl,HT.out.not_block H2.out (by simp) q off e hl⟩)
 have f4:Below w.heap.size w wz:=hE.below (bel_adv hbel hC) (by have:=hC.size; have:=hbel.size; omega) hgs hgn
 have FIN:=Lib.hid (HR.out Al Aq cl cq wz f1 f2 f3 f4)
 have q0:=hrs.cell 0
 have q1:=hrs.cell 1
 have q2:=hrs.cell 2
 have q3:=hrs.cell 3
 have q4:=hrs.cell 4
 have q5:=hrs.cell 5
 have q6:=hrs.cell 6
 simp only [nqg,nqh,nqi] at q0 q1 q2 q3 q4 q5 q6
 have r0:=hrn.cell 0
 have r1:=hrn.cell 1
 have r2:=hrn.cell 2
 have r3:=hrn.cell 3
 have r4:=hrn.cell 4
 simp only [nqg,nqh,nqi] at r0 r1 r2 r3 r4
 clear HR f1 f2 f3 f4 hLs hQs hE HOW HQ HT H1 H2 HS HN HBS HBN hrs hrn hBs hBn hBy hys ht hown hq hC hbel hLb hQb hv2 hv4
 go_wp2
 refine bodyPost_ret (v:=_) (by simp [results,Tryz.results27,go_sem,q0,q1,q2,q3,q4,q5,q6,r0,r1,r2,r3,r4]; rfl) rfl ?_
 exact FIN.out
end Go.Proofs.YtjncpgbhokjbfaaGreat
