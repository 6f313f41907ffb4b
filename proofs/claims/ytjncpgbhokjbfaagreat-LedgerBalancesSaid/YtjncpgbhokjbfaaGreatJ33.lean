/- Joined texts: Cmp6b. Conditions: as stated. -/
import Derived.Test.YtjncpgbhokjbfaaGreatJ15
import Derived.Test.YtjncpgbhokjbfaaGreatJ32
namespace Go.Proofs.YtjncpgbhokjbfaaGreat
open Go.RowKit
set_option maxRecDepth 100000 in
set_option maxHeartbeats 8000000 in
theorem cmp_p6b (R:Ending→World→Prop) (w W W1 : World) (gy gs gn : Nat) (y:YearM) (b:BasesT) (A5 A6 At : Option Addr) (c5 c6 ct : Nat) (earn bene before own empl att after taken : List Elem) (left income insured levies tax : Int)
  (x0 x1 x2 x3 x4 x5 x6 x7 x9 x10 x11 x14 x15 x16 x17 x18 x19 x20 x21 x22 x23 x24 x26 x27 x30 x31 x32 x33 x34 x35 x36 x42 x43 x44 x45 x46 x47 x48 x49 x50 x51 x52 x53 x54 x55 x56 x57 x58 x59 x60 x61 x62 x63 x64 x65 x66 x67 x68 x69 x70 x71 x72 x73 x74 x75 x76 x77 x78 x79 x80 x81 x82 x83 x84 x85 x86 x87 x88 x89 x90 x91 x92 x93 x94 x95 x96 x97 x98 x99 x100 x101 x102 x103 x104 x105 x106 x107 x108 x109 x110 x111 x112 x113 x114 x115 x116 x117 x118 x119 x120 x121 x122 x123 x124 x125 x126 x127 x128 x129 x130 x131 x132 x133 x134 x135 x136 x137 x138 x139 x140 x141 x142 x143 x144 x145 x146 x147 x148 x149 x150 x151 x152 x153 x154 x155 x156 x157 x158 x159 x160 x161 x162 x163 x164 x165 x166 x167 x168 x169 x170 x171 x172 x173 x174 x175 x176 x177 x178 x179 x180 x181 x182 x183 x184 x185 x186 x187 x188 x189 x190 x191 x192 x193 x194 x195 x196 x197 x198 x199 x200 x201 x202 x203 x204 x205 x206 x207 x208 x209 x210 x211 x212 x213 x214 x215 x216 x217 x218 x219 x220 x221 x222 x223 x224 x225 x226 x227 x228 x229 x230 x231 x232 x233 x234 x235 x236 x237 x238 x239 x240 x241 x242 x243 x244 x245 x246 x247 x248 x249 x250 x251 x252 x253 x254 x255 x256 x257 x258 x259 x260 x261 x262 x263 x264 x265 x266 x267 x268 x269 x270 x271 x272 x273 x274 x275 x276 x277 x278 x279 x280 x281 x282 x283 x284 x285 x286 x287 x288 x289 x290 x291 x292 x293 x294 x295 x296 x297 x298 x299 x300 x301 x302 x303 x304 x305 x306 x307 x308 x309 x310 x311 x312 x313 x314 x315 x316 x317 x318 x319 x320 x321 x322 x323 x324 x325 x326 x327 x328 x329 x330 x331 x332 x333 x334 x335 x336 x337 x338 x339 x340 x341 x342 x343 x344 x345 x346 x347 x348 x349 x350 x351 x352 x353 x354 x355 x356 x357 x358 x359 x360 x361 x362 x363 x364 x365 x366 x367 x368 x369 x370 x371 x372 x373 x374 x375 x376 x377 x378 x379 x380 x381 x382 x383 x384 x385 x386 x387 x388 x389 x390 x391 x392 x393 x394 x395 x396 x397 x398 x399 x400 x401 x402 x403 x404 x405 x406 x407 x408 x409 x410 x411:Value)
  (hbel:Below w.heap.size w W) (hBy:Blk W gy 81 #[.int .i64 y.periods,.int .i64 y.income,.int .i64 y.withheld,.slice y.Ai y.ins.length y.ci,.slice y.At y.taken.length y.ct]) (hBs:Blk W gs 41 #[.int .i64 0,.int .i64 0,.int .i64 0,.int .i64 0,.int .i64 0,.int .i64 0,.slice none 0 0]) (hBn:Blk W gn 81 #[.int .i64 0,.int .i64 0,.int .i64 0,.slice none 0 0,.slice none 0 0]) (hgs:w.heap.size≤gs) (hgn:w.heap.size≤gn) (hne:gs ≠ gn) (hys:y.In W) (ht:SliceOf encE 2 W W.heap.size At taken) (li:y.ins.length≤100) (h5:SliceOf encE 2 W W.heap.size A5 att) (h6:SliceOf encE 2 W W.heap.size A6 after) (l5:att.length≤1000) (l6:after.length≤1000) (b0 : -1000000000000000≤left) (b1:left≤1000000000000000) (b6 : -1000000000000000≤tax) (b7:tax≤1000000000000000) (b8 : -1000000000000000≤income) (b9:income≤1000000000000000) (b10 : -1000000000000000≤y.income) (b11:y.income≤1000000000000000) (b12 : -1000000000000000≤y.withheld) (b13:y.withheld≤1000000000000000) (b14:0≤y.periods) (b15:y.periods≤1000) (hA:AppCut W b (b.c - levies - tax) ([]++linesK 1 earn++linesK 2 bene++linesK 3 before++linesK 4 own++linesK 5 empl) 5000 W1) (HR:Hid (∀ (A Ai:Option Addr) (c ci:Nat) (w':World),SliceOf encL 3 w' w'.heap.size A ([]++linesK 1 earn++linesK 2 bene++linesK 3 before++linesK 4 own++linesK 5 empl++linesK 6 [⟨⟨#[]⟩,tax⟩]++linesK 7 att++linesK 8 after++linesK 9 [⟨⟨#[]⟩,max left 0⟩]++linesK 10 [⟨⟨#[]⟩,max (-left) 0⟩])→SliceOf encI 1 w' w'.heap.size Ai (y.ins++[insured])→SliceOf encE 2 w' w'.heap.size At taken→Below w.heap.size w w'→R (.returned (.tuple #[.agg #[.int .i64 b.g,.int .i64 b.c,.int .i64 b.t,.int .i64 b.i,.int .i64 b.a,.int .i64 (b.c - levies - tax),.slice A ([]++linesK 1 earn++linesK 2 bene++linesK 3 before++linesK 4 own++linesK 5 empl++linesK 6 [⟨⟨#[]⟩,tax⟩]++linesK 7 att++linesK 8 after++linesK 9 [⟨⟨#[]⟩,max left 0⟩]++linesK 10 [⟨⟨#[]⟩,max (-left) 0⟩]).length c],.agg #[.int .i64 (y.periods+1),.int .i64 (y.income+income),.int .i64 (y.withheld+tax),.slice Ai (y.ins.length+1) ci,.slice At taken.length ct],.int .i64 0])) w')) :
  Code.wp Tryz.prog (dropC 39 (bodyOf Tryz.f27)) (bodyPost Tryz.prog Tryz.f27 (R)) { tmps:=List.toArray (x0::x1::x2::x3::x4::x5::x6::x7::(.pointer (some ⟨gy,0,none⟩))::x9::x10::x11::(.pointer (some ⟨gs,0,none⟩))::(.pointer (some ⟨gn,0,none⟩))::x14::x15::x16::x17::x18::x19::x20::x21::x22::x23::x24::(.int .i64 left)::x26::x27::(.int .i64 income)::(.int .i64 insured)::x30::x31::x32::x33::x34::x35::x36::(.int .i64 tax)::(.slice A5 att.length c5)::(.slice At taken.length ct)::(.slice A6 after.length c6)::(.pointer (some ⟨W.heap.size,0,none⟩))::x42::x43::x44::x45::x46::x47::x48::x49::x50::x51::x52::x53::x54::x55::x56::x57::x58::x59::x60::x61::x62::x63::x64::x65::x66::x67::x68::x69::x70::x71::x72::x73::x74::x75::x76::x77::x78::x79::x80::x81::x82::x83::x84::x85::x86::x87::x88::x89::x90::x91::x92::x93::x94::x95::x96::x97::x98::x99::x100::x101::x102::x103::x104::x105::x106::x107::x108::x109::x110::x111::x112::x113::x114::x115::x116::x117::x118::x119::x120::x121::x122::x123::x124::x125::x126::x127::x128::x129::x130::x131::x132::x133::x134::x135::x136::x137::x138::x139::x140::x141::x142::x143::x144::x145::x146::x147::x148::x149::x150::x151::x152::x153::x154::x155::x156::x157::x158::x159::x160::x161::x162::x163::x164::x165::x166::x167::x168::x169::x170::x171::x172::x173::x174::x175::x176::x177::x178::x179::x180::x181::x182::x183::x184::x185::x186::x187::x188::x189::x190::x191::x192::x193::x194::x195::x196::x197::x198::x199::x200::x201::x202::x203::x204::x205::x206::x207::x208::x209::x210::x211::x212::x213::x214::x215::x216::x217::x218::x219::x220::x221::x222::x223::x224::x225::x226::x227::x228::x229::x230::x231::x232::x233::x234::x235::x236::x237::x238::x239::x240::x241::x242::x243::x244::x245::x246::x247::x248::x249::x250::x251::x252::x253::x254::x255::x256::x257::x258::x259::x260::x261::x262::x263::x264::x265::x266::x267::x268::x269::x270::x271::x272::x273::x274::x275::x276::x277::x278::x279::x280::x281::x282::x283::x284::x285::x286::x287::x288::x289::x290::x291::x292::x293::x294::x295::x296::x297::x298::x299::x300::x301::x302::x303::x304::x305::x306::x307::x308::x309::x310::x311::x312::x313::x314::x315::x316::x317::x318::x319::x320::x321::x322::x323::x324::x325::x326::x327::x328::x329::x330::x331::x332::x333::x334::x335::x336::x337::x338::x339::x340::x341::x342::x343::x344::x345::x346::x347::x348::x349::x350::x351::x352::x353::x354::x355::x356::x357::x358::x359::x360::x361::x362::x363::x364::x365::x366::x367::x368::x369::x370::x371::x372::x373::x374::x375::x376::x377::x378::x379::x380::x381::x382::x383::x384::x385::x386::x387::x388::x389::x390::x391::x392::x393::x394::x395::x396::x397::x398::x399::x400::x401::x402::x403::x404::x405::x406::x407::x408::x409::x410::x411::[]),defers:=[] } W1:=by
 conv=>enter [2]; whnf
 refine wp_stmt fun K HK=>?_
 go_cut [] from 351 to 358 (fun wx=>AppCut W b (b.c - levies - tax) ([]++linesK 1 earn++linesK 2 bene++linesK 3 before++linesK 4 own++linesK 5 empl++linesK 6 [⟨⟨#[]⟩,tax⟩]) 6000 wx)
 case first =>
  as_aux_lemma =>
   obtain ⟨v0,hS0,hown0,hC0,hal⟩:=hA
   clear HK
   have hll:=linesK_len 6 [⟨⟨#[]⟩,tax⟩]
   simp only [List.length_cons,List.length_nil] at hll
   refine M5.wp_region_sel (C:=M5.LnC W v0) (M5.LnC.stable _ _) (M5.LnC.of hC0 hS0) (aE:=?aE1) [0,1,2,3] 5 8 (by kernel_rfl) (by kernel_rfl) rfl (by kernel_rfl) (by rfl) ?H1 ?M1
   case H1 =>
    intro F hF inst
    simp only [M3.opsAt,List.getElem?_toArray,List.getElem?_cons_zero,List.getElem?_cons_succ]
    have e0:∀ p:BwC (M5.LnC W v0) F,p.w'.cell? ⟨W.heap.size,6,none⟩ = some v0:=fun p=>p.h.2.1
    repeat (first | go_big_quiet_step (fail))
    refine wpQuiet_nil ?_
    rfl
   case M1 =>
    intro Q0 hQ0
    refine M5.mix_one 4 (by kernel_rfl) (by decide) ?_
    intro w1 hC1 hb1
    have hS1:=hS0.adv hb1
    have hown1:=hown0.adv hb1
    clear hb1 hS0 hown0
    have hCn:=hC1.1.alloc hC1.1.size (.cells #[.string ⟨#[]⟩,.int .i64 tax] 109)
    have hS2:=hS1.alloc (.cells #[.string ⟨#[]⟩,.int .i64 tax] 109)
    refine M3.mix_val (.slice (some ⟨w1.heap.size,0,none⟩) 1 1) (w1.alloc (.cells #[.string ⟨#[]⟩,.int .i64 tax] 109)) rfl rfl (by go_simp) ⟨M5.LnC.of hCn hS2,?_⟩
    simp only [Act.put,nqa,nqb,nqc,nqd,nqe,nqf]
    have hE2:=SliceOf.new encE_len w1 [⟨⟨#[]⟩,tax⟩] #[.string ⟨#[]⟩,.int .i64 tax] 109 rfl
    rw [← World.size_alloc w1 (.cells #[.string ⟨#[]⟩,.int .i64 tax] 109)] at hE2
    have hown2:=hown1.alloc (.cells #[.string ⟨#[]⟩,.int .i64 tax] 109)
    generalize w1.heap.size = gA at hE2 ⊢
    generalize w1.alloc _ = w2 at hE2 hS2 hown2 ⊢
    clear hCn hC1
    refine M5.mix_one 5 (by kernel_rfl) (by decide) ?_
    intro w3 hC3 hb3
    have hS3:=hS2.adv hb3
    have hown3:=hown2.adv hb3
    have hE3:=hE2.adv hb3
    clear hb3 hS2 hown2 hE2
    refine M3.mix_call 61 #[.int .i64 6,.slice (some ⟨gA,0,none⟩) 1 1] rfl rfl (by go_simp) ?_
    refine (lines32_any 6 (some ⟨gA,0,none⟩) 1 [⟨⟨#[]⟩,tax⟩] _ hE3 (by simp)).mono ?_
    rintro e w4 ⟨vl,rfl,hownl,hb4⟩
    have hS4:=hS3.adv hb4
    have hown4:=hown3.adv hb4
    refine ⟨vl,rfl,M5.LnC.of (hC3.1.trans (hb4.mono hC3.1.size)) hS4,?_⟩
    simp only [Act.put,nqa,nqb,nqc,nqd,nqe,nqf]
    obtain ⟨Al,cl,rfl,hL4,_,_⟩:=hownl.form encL_len
    clear hownl hb4 hC3
    refine M5.mix_one 6 (by kernel_rfl) (by decide) ?_
    intro w5 hC5 hb5
    have hS5:=hS4.adv hb5
    have hown5:=hown4.adv hb5
    have hL5:=hL4.adv hb5
    clear hb5 hS4 hown4 hL4
    have hs4:W.heap.size+1≤w5.heap.size:=hC5.2.2
    refine M3.mix_append (.tmp 352) (.tmp 356) 39 cl 32 _ infoL Tryz.underlying39 hown5 hL5 encL_len (by omega) rfl encL_one (by omega) (by omega) hs4 rfl rfl rfl rfl rfl rfl ?_
    intro v5 w6 hown6 hg5
    have hS6:=hS5.grown hg5 (hown5.not_below (by omega))
    refine ⟨M5.LnC.of (hC5.1.trans (only_below hg5 hC5.1.size (fun q hq=>by have:=(hown5.block_lt hq).1; omega))) hS6,?_⟩
    simp only [Act.put,nqa,nqb,nqc,nqd,nqe,nqf]
    clear hg5 hL5 hC5 hs4
    refine M5.mix_one 7 (by kernel_rfl) (by decide) ?_
    intro w7 hC7 hb7
    have hS7:=hS6.adv hb7
    have hown7:=hown6.adv hb7
    clear hb7 hS6 hown6
    refine M3.mix_val (.pointer (some ⟨W.heap.size,6,none⟩)) w7 rfl rfl (by go_simp) ⟨hC7,?_⟩
    simp only [Act.put,nqa,nqb,nqc,nqd,nqe,nqf]
    have hB7:=hC7.1
    refine M5.mix_last (by kernel_rfl) (by kernel_rfl) ?_
    intro w8 hC8 hb8
    have hS8:=hS7.adv hb8
    have hown8:=hown7.adv hb8
    have hB8:=hC8.1
    have f6:=hS8.frozen 6
    have z6:=hC8.2.1
    have lS:=hS8.lt
    obtain ⟨A9,c9,hv9,_,_,_⟩:=hown8.form encL_len
    generalize ([]++linesK 1 earn++linesK 2 bene++linesK 3 before++linesK 4 own++linesK 5 empl++linesK 6 [⟨⟨#[]⟩,tax⟩]).length = n9 at hv9
    subst hv9
    refine M3.mix_skip (w8.setCell ⟨W.heap.size,6,none⟩ (.slice A9 n9 c9)) rfl rfl (by go_simp) ?_
    simp only [Act.put,nqa,nqb,nqc]
    clear f6 z6 lS hC7 hC8 hb8 hB7 hS7 hown7
    have hB9:=hB8.setCell (p:=⟨W.heap.size,6,none⟩) (Nat.le_refl _) (.slice A9 n9 c9)
    have hS9:=hS8.set_ 6 (.slice A9 n9 c9)
    have hown9:=hown8.setCell (p:=⟨W.heap.size,6,none⟩) (fun q hq=>by have:=(hown8.block_lt hq).1; show q ≠ W.heap.size; omega) (.slice A9 n9 c9)
    simp only [List.setIfInBounds_toArray,List.set_cons_zero,List.set_cons_succ] at hS9
    generalize w8.setCell _ _ = w9 at hS9 hown9 hB9 ⊢
    refine hQ0 _ _ ?_
    have hfin:AppCut W b (b.c - levies - tax) ([]++linesK 1 earn++linesK 2 bene++linesK 3 before++linesK 4 own++linesK 5 empl++linesK 6 [⟨⟨#[]⟩,tax⟩]) 6000 w9:=⟨_,hS9,hown9,hB9,by rw [List.length_append]; omega⟩
    clear hS9 hown9 hS8 hown8
    go_wp2_with fail
    go_meet
    exact hfin
 clear hA
 have hA:=hcut
 clear hcut
 refine HK.out _ _ ?_
 clear HK K
 refine wp_stmt fun K HK=>?_
 go_cut [] from 359 to 364 (fun wx=>AppCut W b (b.c - levies - tax) ([]++linesK 1 earn++linesK 2 bene++linesK 3 before++linesK 4 own++linesK 5 empl++linesK 6 [⟨⟨#[]⟩,tax⟩]++linesK 7 att) 7000 wx)
 case first =>
  as_aux_lemma =>
   obtain ⟨v0,hS0,hown0,hC0,hal⟩:=hA
   clear HK
   have hll:=linesK_len 7 att
   refine M5.wp_region_sel (C:=M5.LnC W v0) (M5.LnC.stable _ _) (M5.LnC.of hC0 hS0) (aE:=?aE2) [0,1,2] 4 6 (by kernel_rfl) (by kernel_rfl) rfl (by kernel_rfl) (by rfl) ?H2 ?M2
   case H2 =>
    intro F hF inst
    simp only [M3.opsAt,List.getElem?_toArray,List.getElem?_cons_zero,List.getElem?_cons_succ]
    have e0:∀ p:BwC (M5.LnC W v0) F,p.w'.cell? ⟨W.heap.size,6,none⟩ = some v0:=fun p=>p.h.2.1
    repeat (first | go_big_quiet_step (fail))
    refine wpQuiet_nil ?_
    rfl
   case M2 =>
    intro Q0 hQ0
    refine M5.mix_one 3 (by kernel_rfl) (by decide) ?_
    intro w1 hC1 hb1
    have hS1:=hS0.adv hb1
    have hown1:=hown0.adv hb1
    clear hb1 hS0 hown0
    refine M3.mix_call 61 #[.int .i64 7,.slice A5 att.length c5] rfl rfl (by go_simp) ?_
    refine (lines32_any 7 A5 c5 att _ (h5.adv hC1.1) (by omega)).mono ?_
    rintro e w4 ⟨vl,rfl,hownl,hb4⟩
    have hS4:=hS1.adv hb4
    have hown4:=hown1.adv hb4
    refine ⟨vl,rfl,M5.LnC.of (hC1.1.trans (hb4.mono hC1.1.size)) hS4,?_⟩
    simp only [Act.put,nqa,nqb,nqc,nqd,nqe,nqf]
    obtain ⟨Al,cl,rfl,hL4,_,_⟩:=hownl.form encL_len
    clear hownl hb4 hC1
    refine M5.mix_one 4 (by kernel_rfl) (by decide) ?_
    intro w5 hC5 hb5
    have hS5:=hS4.adv hb5
    have hown5:=hown4.adv hb5
    have hL5:=hL4.adv hb5
    clear hb5 hS4 hown4 hL4
    have hs4:W.heap.size+1≤w5.heap.size:=hC5.2.2
    refine M3.mix_append (.tmp 360) (.tmp 362) 39 cl 32 _ infoL Tryz.underlying39 hown5 hL5 encL_len (by omega) rfl encL_one (by omega) (by omega) hs4 rfl rfl rfl rfl rfl rfl ?_
    intro v5 w6 hown6 hg5
    have hS6:=hS5.grown hg5 (hown5.not_below (by omega))
    refine ⟨M5.LnC.of (hC5.1.trans (only_below hg5 hC5.1.size (fun q hq=>by have:=(hown5.block_lt hq).1; omega))) hS6,?_⟩
    simp only [Act.put,nqa,nqb,nqc,nqd,nqe,nqf]
    clear hg5 hL5 hC5 hs4
    refine M5.mix_one 5 (by kernel_rfl) (by decide) ?_
    intro w7 hC7 hb7
    have hS7:=hS6.adv hb7
    have hown7:=hown6.adv hb7
    clear hb7 hS6 hown6
    refine M3.mix_val (.pointer (some ⟨W.heap.size,6,none⟩)) w7 rfl rfl (by go_simp) ⟨hC7,?_⟩
    simp only [Act.put,nqa,nqb,nqc,nqd,nqe,nqf]
    have hB7:=hC7.1
    refine M5.mix_last (by kernel_rfl) (by kernel_rfl) ?_
    intro w8 hC8 hb8
    have hS8:=hS7.adv hb8
    have hown8:=hown7.adv hb8
    have hB8:=hC8.1
    have f6:=hS8.frozen 6
    have z6:=hC8.2.1
    have lS:=hS8.lt
    obtain ⟨A9,c9,hv9,_,_,_⟩:=hown8.form encL_len
    generalize ([]++linesK 1 earn++linesK 2 bene++linesK 3 before++linesK 4 own++linesK 5 empl++linesK 6 [⟨⟨#[]⟩,tax⟩]++linesK 7 att).length = n9 at hv9
    subst hv9
    refine M3.mix_skip (w8.setCell ⟨W.heap.size,6,none⟩ (.slice A9 n9 c9)) rfl rfl (by go_simp) ?_
    simp only [Act.put,nqa,nqb,nqc]
    clear f6 z6 lS hC7 hC8 hb8 hB7 hS7 hown7
    have hB9:=hB8.setCell (p:=⟨W.heap.size,6,none⟩) (Nat.le_refl _) (.slice A9 n9 c9)
    have hS9:=hS8.set_ 6 (.slice A9 n9 c9)
    have hown9:=hown8.setCell (p:=⟨W.heap.size,6,none⟩) (fun q hq=>by have:=(hown8.block_lt hq).1; show q ≠ W.heap.size; omega) (.slice A9 n9 c9)
    simp only [List.setIfInBounds_toArray,List.set_cons_zero,List.set_cons_succ] at hS9
    generalize w8.setCell _ _ = w9 at hS9 hown9 hB9 ⊢
    refine hQ0 _ _ ?_
    have hfin:AppCut W b (b.c - levies - tax) ([]++linesK 1 earn++linesK 2 bene++linesK 3 before++linesK 4 own++linesK 5 empl++linesK 6 [⟨⟨#[]⟩,tax⟩]++linesK 7 att) 7000 w9:=⟨_,hS9,hown9,hB9,by rw [List.length_append]; omega⟩
    clear hS9 hown9 hS8 hown8
    go_wp2_with fail
    go_meet
    exact hfin
 clear hA
 have hA:=hcut
 clear hcut
 refine HK.out _ _ ?_
 clear HK K
 refine wp_stmt fun K HK=>?_
 go_cut [] from 365 to 370 (fun wx=>AppCut W b (b.c - levies - tax) ([]++linesK 1 earn++linesK 2 bene++linesK 3 before++linesK 4 own++linesK 5 empl++linesK 6 [⟨⟨#[]⟩,tax⟩]++linesK 7 att++linesK 8 after) 8000 wx)
 case first =>
  as_aux_lemma =>
   obtain ⟨v0,hS0,hown0,hC0,hal⟩:=hA
   clear HK
   have hll:=linesK_len 8 after
   refine M5.wp_region_sel (C:=M5.LnC W v0) (M5.LnC.stable _ _) (M5.LnC.of hC0 hS0) (aE:=?aE3) [0,1,2] 4 6 (by kernel_rfl) (by kernel_rfl) rfl (by kernel_rfl) (by rfl) ?H3 ?M3
   case H3 =>
    intro F hF inst
    simp only [M3.opsAt,List.getElem?_toArray,List.getElem?_cons_zero,List.getElem?_cons_succ]
    have e0:∀ p:BwC (M5.LnC W v0) F,p.w'.cell? ⟨W.heap.size,6,none⟩ = some v0:=fun p=>p.h.2.1
    repeat (first | go_big_quiet_step (fail))
    refine wpQuiet_nil ?_
    rfl
   case M3 =>
    intro Q0 hQ0
    refine M5.mix_one 3 (by kernel_rfl) (by decide) ?_
    intro w1 hC1 hb1
    have hS1:=hS0.adv hb1
    have hown1:=hown0.adv hb1
    clear hb1 hS0 hown0
    refine M3.mix_call 61 #[.int .i64 8,.slice A6 after.length c6] rfl rfl (by go_simp) ?_
    refine (lines32_any 8 A6 c6 after _ (h6.adv hC1.1) (by omega)).mono ?_
    rintro e w4 ⟨vl,rfl,hownl,hb4⟩
    have hS4:=hS1.adv hb4
    have hown4:=hown1.adv hb4
    refine ⟨vl,rfl,M5.LnC.of (hC1.1.trans (hb4.mono hC1.1.size)) hS4,?_⟩
    simp only [Act.put,nqa,nqb,nqc,nqd,nqe,nqf]
    obtain ⟨Al,cl,rfl,hL4,_,_⟩:=hownl.form encL_len
    clear hownl hb4 hC1
    refine M5.mix_one 4 (by kernel_rfl) (by decide) ?_
    intro w5 hC5 hb5
    have hS5:=hS4.adv hb5
    have hown5:=hown4.adv hb5
    have hL5:=hL4.adv hb5
    clear hb5 hS4 hown4 hL4
    have hs4:W.heap.size+1≤w5.heap.size:=hC5.2.2
    refine M3.mix_append (.tmp 366) (.tmp 368) 39 cl 32 _ infoL Tryz.underlying39 hown5 hL5 encL_len (by omega) rfl encL_one (by omega) (by omega) hs4 rfl rfl rfl rfl rfl rfl ?_
    intro v5 w6 hown6 hg5
    have hS6:=hS5.grown hg5 (hown5.not_below (by omega))
    refine ⟨M5.LnC.of (hC5.1.trans (only_below hg5 hC5.1.size (fun q hq=>by have:=(hown5.block_lt hq).1; omega))) hS6,?_⟩
    simp only [Act.put,nqa,nqb,nqc,nqd,nqe,nqf]
    clear hg5 hL5 hC5 hs4
    refine M5.mix_one 5 (by kernel_rfl) (by decide) ?_
    intro w7 hC7 hb7
    have hS7:=hS6.adv hb7
    have hown7:=hown6.adv hb7
    clear hb7 hS6 hown6
    refine M3.mix_val (.pointer (some ⟨W.heap.size,6,none⟩)) w7 rfl rfl (by go_simp) ⟨hC7,?_⟩
    simp only [Act.put,nqa,nqb,nqc,nqd,nqe,nqf]
    have hB7:=hC7.1
    refine M5.mix_last (by kernel_rfl) (by kernel_rfl) ?_
    intro w8 hC8 hb8
    have hS8:=hS7.adv hb8
    have hown8:=hown7.adv hb8
    have hB8:=hC8.1
    have f6:=hS8.frozen 6
    have z6:=hC8.2.1
    have lS:=hS8.lt
    obtain ⟨A9,c9,hv9,_,_,_⟩:=hown8.form encL_len
    generalize ([]++linesK 1 earn++linesK 2 bene++linesK 3 before++linesK 4 own++linesK 5 empl++linesK 6 [⟨⟨#[]⟩,tax⟩]++linesK 7 att++linesK 8 after).length = n9 at hv9
    subst hv9
    refine M3.mix_skip (w8.setCell ⟨W.heap.size,6,none⟩ (.slice A9 n9 c9)) rfl rfl (by go_simp) ?_
    simp only [Act.put,nqa,nqb,nqc]
    clear f6 z6 lS hC7 hC8 hb8 hB7 hS7 hown7
    have hB9:=hB8.setCell (p:=⟨W.heap.size,6,none⟩) (Nat.le_refl _) (.slice A9 n9 c9)
    have hS9:=hS8.set_ 6 (.slice A9 n9 c9)
    have hown9:=hown8.setCell (p:=⟨W.heap.size,6,none⟩) (fun q hq=>by have:=(hown8.block_lt hq).1; show q ≠ W.heap.size; omega) (.slice A9 n9 c9)
    simp only [List.setIfInBounds_toArray,List.set_cons_zero,List.set_cons_succ] at hS9
    generalize w8.setCell _ _ = w9 at hS9 hown9 hB9 ⊢
    refine hQ0 _ _ ?_
    have hfin:AppCut W b (b.c - levies - tax) ([]++linesK 1 earn++linesK 2 bene++linesK 3 before++linesK 4 own++linesK 5 empl++linesK 6 [⟨⟨#[]⟩,tax⟩]++linesK 7 att++linesK 8 after) 8000 w9:=⟨_,hS9,hown9,hB9,by rw [List.length_append]; omega⟩
    clear hS9 hown9 hS8 hown8
    go_wp2_with fail
    go_meet
    exact hfin
 clear hA
 have hA:=hcut
 clear hcut
 refine HK.out _ _ ?_
 clear HK K
 rcases (show 0 < left ∨ left = 0 ∨ left < 0 by omega) with hl | hl | hl
 ·
  have e1:max left 0 = left:=by omega
  have e2:max (-left) 0 = 0:=by omega
  rw [e1,e2] at HR
  clear e1 e2
  refine wp_stmt fun K HK=>?_
  go_cut [] from 371 to 379 (fun wx=>AppCut W b (b.c - levies - tax) ([]++linesK 1 earn++linesK 2 bene++linesK 3 before++linesK 4 own++linesK 5 empl++linesK 6 [⟨⟨#[]⟩,tax⟩]++linesK 7 att++linesK 8 after++linesK 9 [⟨⟨#[]⟩,left⟩]) 9000 wx)
  case first =>
   as_aux_lemma =>
    obtain ⟨v0,hS0,hown0,hC0,hal⟩:=hA
    clear HK
    have hll:=linesK_len 9 [⟨⟨#[]⟩,left⟩]
    simp only [List.length_cons,List.length_nil] at hll
    refine M5.wp_region_sel (C:=M5.LnC W v0) (M5.LnC.stable _ _) (M5.LnC.of hC0 hS0) (aE:=?aE4) [0,1,2,3,4] 5 9 (by kernel_rfl) (by kernel_rfl) rfl (by kernel_rfl) (by rfl) ?H4 ?M4
    case H4 =>
     intro F hF inst
     simp only [M3.opsAt,List.getElem?_toArray,List.getElem?_cons_zero,List.getElem?_cons_succ]
     have e0:∀ p:BwC (M5.LnC W v0) F,p.w'.cell? ⟨W.heap.size,6,none⟩ = some v0:=fun p=>p.h.2.1
     repeat (first | go_big_quiet_step (fail))
     refine wpQuiet_nil ?_
     rfl
    case M4 =>
     intro Q0 hQ0
     refine M5.mix_one 5 (by kernel_rfl) (by decide) ?_
     intro w1 hC1 hb1
     have hS1:=hS0.adv hb1
     have hown1:=hown0.adv hb1
     clear hb1 hS0 hown0
     have hCn:=hC1.1.alloc hC1.1.size (.cells #[.string ⟨#[]⟩,.int .i64 left] 109)
     have hS2:=hS1.alloc (.cells #[.string ⟨#[]⟩,.int .i64 left] 109)
     refine M3.mix_val (.slice (some ⟨w1.heap.size,0,none⟩) 1 1) (w1.alloc (.cells #[.string ⟨#[]⟩,.int .i64 left] 109)) rfl rfl (by go_simp) ⟨M5.LnC.of hCn hS2,?_⟩
     simp only [Act.put,nqa,nqb,nqc,nqd,nqe,nqf]
     have hE2:=SliceOf.new encE_len w1 [⟨⟨#[]⟩,left⟩] #[.string ⟨#[]⟩,.int .i64 left] 109 rfl
     rw [← World.size_alloc w1 (.cells #[.string ⟨#[]⟩,.int .i64 left] 109)] at hE2
     have hown2:=hown1.alloc (.cells #[.string ⟨#[]⟩,.int .i64 left] 109)
     generalize w1.heap.size = gA at hE2 ⊢
     generalize w1.alloc _ = w2 at hE2 hS2 hown2 ⊢
     clear hCn hC1
     refine M5.mix_one 6 (by kernel_rfl) (by decide) ?_
     intro w3 hC3 hb3
     have hS3:=hS2.adv hb3
     have hown3:=hown2.adv hb3
     have hE3:=hE2.adv hb3
     clear hb3 hS2 hown2 hE2
     refine M3.mix_call 61 #[.int .i64 9,.slice (some ⟨gA,0,none⟩) 1 1] rfl rfl (by go_simp) ?_
     refine (lines32_any 9 (some ⟨gA,0,none⟩) 1 [⟨⟨#[]⟩,left⟩] _ hE3 (by simp)).mono ?_
     rintro e w4 ⟨vl,rfl,hownl,hb4⟩
     have hS4:=hS3.adv hb4
     have hown4:=hown3.adv hb4
     refine ⟨vl,rfl,M5.LnC.of (hC3.1.trans (hb4.mono hC3.1.size)) hS4,?_⟩
     simp only [Act.put,nqa,nqb,nqc,nqd,nqe,nqf]
     obtain ⟨Al,cl,rfl,hL4,_,_⟩:=hownl.form encL_len
     clear hownl hb4 hC3
     refine M5.mix_one 7 (by kernel_rfl) (by decide) ?_
     intro w5 hC5 hb5
     have hS5:=hS4.adv hb5
     have hown5:=hown4.adv hb5
     have hL5:=hL4.adv hb5
     clear hb5 hS4 hown4 hL4
     have hs4:W.heap.size+1≤w5.heap.size:=hC5.2.2
     refine M3.mix_append (.tmp 372) (.tmp 377) 39 cl 32 _ infoL Tryz.underlying39 hown5 hL5 encL_len (by omega) rfl encL_one (by omega) (by omega) hs4 rfl rfl rfl rfl rfl rfl ?_
     intro v5 w6 hown6 hg5
     have hS6:=hS5.grown hg5 (hown5.not_below (by omega))
     refine ⟨M5.LnC.of (hC5.1.trans (only_below hg5 hC5.1.size (fun q hq=>by have:=(hown5.block_lt hq).1; omega))) hS6,?_⟩
     simp only [Act.put,nqa,nqb,nqc,nqd,nqe,nqf]
     clear hg5 hL5 hC5 hs4
     refine M5.mix_one 8 (by kernel_rfl) (by decide) ?_
     intro w7 hC7 hb7
     have hS7:=hS6.adv hb7
     have hown7:=hown6.adv hb7
     clear hb7 hS6 hown6
     refine M3.mix_val (.pointer (some ⟨W.heap.size,6,none⟩)) w7 rfl rfl (by go_simp) ⟨hC7,?_⟩
     simp only [Act.put,nqa,nqb,nqc,nqd,nqe,nqf]
     have hB7:=hC7.1
     refine M5.mix_last (by kernel_rfl) (by kernel_rfl) ?_
     intro w8 hC8 hb8
     have hS8:=hS7.adv hb8
     have hown8:=hown7.adv hb8
     have hB8:=hC8.1
     have f6:=hS8.frozen 6
     have z6:=hC8.2.1
     have lS:=hS8.lt
     obtain ⟨A9,c9,hv9,_,_,_⟩:=hown8.form encL_len
     generalize ([]++linesK 1 earn++linesK 2 bene++linesK 3 before++linesK 4 own++linesK 5 empl++linesK 6 [⟨⟨#[]⟩,tax⟩]++linesK 7 att++linesK 8 after++linesK 9 [⟨⟨#[]⟩,left⟩]).length = n9 at hv9
     subst hv9
     refine M3.mix_skip (w8.setCell ⟨W.heap.size,6,none⟩ (.slice A9 n9 c9)) rfl rfl (by go_simp) ?_
     simp only [Act.put,nqa,nqb,nqc]
     clear f6 z6 lS hC7 hC8 hb8 hB7 hS7 hown7
     have hB9:=hB8.setCell (p:=⟨W.heap.size,6,none⟩) (Nat.le_refl _) (.slice A9 n9 c9)
     have hS9:=hS8.set_ 6 (.slice A9 n9 c9)
     have hown9:=hown8.setCell (p:=⟨W.heap.size,6,none⟩) (fun q hq=>by have:=(hown8.block_lt hq).1; show q ≠ W.heap.size; omega) (.slice A9 n9 c9)
     simp only [List.setIfInBounds_toArray,List.set_cons_zero,List.set_cons_succ] at hS9
     generalize w8.setCell _ _ = w9 at hS9 hown9 hB9 ⊢
     refine hQ0 _ _ ?_
     have hfin:AppCut W b (b.c - levies - tax) ([]++linesK 1 earn++linesK 2 bene++linesK 3 before++linesK 4 own++linesK 5 empl++linesK 6 [⟨⟨#[]⟩,tax⟩]++linesK 7 att++linesK 8 after++linesK 9 [⟨⟨#[]⟩,left⟩]) 9000 w9:=⟨_,hS9,hown9,hB9,by rw [List.length_append]; omega⟩
     clear hS9 hown9 hS8 hown8
     go_wp2_with fail
     go_meet
     exact hfin
  clear hA
  have hA:=hcut
  clear hcut
  refine HK.out _ _ ?_
  clear HK K
  refine wp_stmt fun K HK=>?_
  go_cut [] from 380 to 389 (fun wx=>AppCut W b (b.c - levies - tax) ([]++linesK 1 earn++linesK 2 bene++linesK 3 before++linesK 4 own++linesK 5 empl++linesK 6 [⟨⟨#[]⟩,tax⟩]++linesK 7 att++linesK 8 after++linesK 9 [⟨⟨#[]⟩,left⟩]++linesK 10 [⟨⟨#[]⟩,0⟩]) 10000 wx)
  case first =>
   as_aux_lemma =>
    obtain ⟨v0,hS0,hown0,hC0,hal⟩:=hA
    clear HK
    have hll:=linesK_len 10 [⟨⟨#[]⟩,0⟩]
    simp only [List.length_cons,List.length_nil] at hll
    refine M5.wp_region_sel (C:=M5.LnC W v0) (M5.LnC.stable _ _) (M5.LnC.of hC0 hS0) (aE:=?aE5) [0,1,2,3,4,5] 5 10 (by kernel_rfl) (by kernel_rfl) rfl (by kernel_rfl) (by rfl) ?H5 ?M5
    case H5 =>
     intro F hF inst
     simp only [M3.opsAt,List.getElem?_toArray,List.getElem?_cons_zero,List.getElem?_cons_succ]
     have e0:∀ p:BwC (M5.LnC W v0) F,p.w'.cell? ⟨W.heap.size,6,none⟩ = some v0:=fun p=>p.h.2.1
     repeat (first | go_big_quiet_step (fail))
     refine wpQuiet_nil ?_
     rfl
    case M5 =>
     intro Q0 hQ0
     refine M5.mix_one 6 (by kernel_rfl) (by decide) ?_
     intro w1 hC1 hb1
     have hS1:=hS0.adv hb1
     have hown1:=hown0.adv hb1
     clear hb1 hS0 hown0
     have hCn:=hC1.1.alloc hC1.1.size (.cells #[.string ⟨#[]⟩,.int .i64 0] 109)
     have hS2:=hS1.alloc (.cells #[.string ⟨#[]⟩,.int .i64 0] 109)
     refine M3.mix_val (.slice (some ⟨w1.heap.size,0,none⟩) 1 1) (w1.alloc (.cells #[.string ⟨#[]⟩,.int .i64 0] 109)) rfl rfl (by go_simp) ⟨M5.LnC.of hCn hS2,?_⟩
     simp only [Act.put,nqa,nqb,nqc,nqd,nqe,nqf]
     have hE2:=SliceOf.new encE_len w1 [⟨⟨#[]⟩,0⟩] #[.string ⟨#[]⟩,.int .i64 0] 109 rfl
     rw [← World.size_alloc w1 (.cells #[.string ⟨#[]⟩,.int .i64 0] 109)] at hE2
     have hown2:=hown1.alloc (.cells #[.string ⟨#[]⟩,.int .i64 0] 109)
     generalize w1.heap.size = gA at hE2 ⊢
     generalize w1.alloc _ = w2 at hE2 hS2 hown2 ⊢
     clear hCn hC1
     refine M5.mix_one 7 (by kernel_rfl) (by decide) ?_
     intro w3 hC3 hb3
     have hS3:=hS2.adv hb3
     have hown3:=hown2.adv hb3
     have hE3:=hE2.adv hb3
     clear hb3 hS2 hown2 hE2
     refine M3.mix_call 61 #[.int .i64 10,.slice (some ⟨gA,0,none⟩) 1 1] rfl rfl (by go_simp) ?_
     refine (lines32_any 10 (some ⟨gA,0,none⟩) 1 [⟨⟨#[]⟩,0⟩] _ hE3 (by simp)).mono ?_
     rintro e w4 ⟨vl,rfl,hownl,hb4⟩
     have hS4:=hS3.adv hb4
     have hown4:=hown3.adv hb4
     refine ⟨vl,rfl,M5.LnC.of (hC3.1.trans (hb4.mono hC3.1.size)) hS4,?_⟩
     simp only [Act.put,nqa,nqb,nqc,nqd,nqe,nqf]
     obtain ⟨Al,cl,rfl,hL4,_,_⟩:=hownl.form encL_len
     clear hownl hb4 hC3
     refine M5.mix_one 8 (by kernel_rfl) (by decide) ?_
     intro w5 hC5 hb5
     have hS5:=hS4.adv hb5
     have hown5:=hown4.adv hb5
     have hL5:=hL4.adv hb5
     clear hb5 hS4 hown4 hL4
     have hs4:W.heap.size+1≤w5.heap.size:=hC5.2.2
     refine M3.mix_append (.tmp 381) (.tmp 387) 39 cl 32 _ infoL Tryz.underlying39 hown5 hL5 encL_len (by omega) rfl encL_one (by omega) (by omega) hs4 rfl rfl rfl rfl rfl rfl ?_
     intro v5 w6 hown6 hg5
     have hS6:=hS5.grown hg5 (hown5.not_below (by omega))
     refine ⟨M5.LnC.of (hC5.1.trans (only_below hg5 hC5.1.size (fun q hq=>by have:=(hown5.block_lt hq).1; omega))) hS6,?_⟩
     simp only [Act.put,nqa,nqb,nqc,nqd,nqe,nqf]
     clear hg5 hL5 hC5 hs4
     refine M5.mix_one 9 (by kernel_rfl) (by decide) ?_
     intro w7 hC7 hb7
     have hS7:=hS6.adv hb7
     have hown7:=hown6.adv hb7
     clear hb7 hS6 hown6
     refine M3.mix_val (.pointer (some ⟨W.heap.size,6,none⟩)) w7 rfl rfl (by go_simp) ⟨hC7,?_⟩
     simp only [Act.put,nqa,nqb,nqc,nqd,nqe,nqf]
     have hB7:=hC7.1
     refine M5.mix_last (by kernel_rfl) (by kernel_rfl) ?_
     intro w8 hC8 hb8
     have hS8:=hS7.adv hb8
     have hown8:=hown7.adv hb8
     have hB8:=hC8.1
     have f6:=hS8.frozen 6
     have z6:=hC8.2.1
     have lS:=hS8.lt
     obtain ⟨A9,c9,hv9,_,_,_⟩:=hown8.form encL_len
     generalize ([]++linesK 1 earn++linesK 2 bene++linesK 3 before++linesK 4 own++linesK 5 empl++linesK 6 [⟨⟨#[]⟩,tax⟩]++linesK 7 att++linesK 8 after++linesK 9 [⟨⟨#[]⟩,left⟩]++linesK 10 [⟨⟨#[]⟩,0⟩]).length = n9 at hv9
     subst hv9
     refine M3.mix_skip (w8.setCell ⟨W.heap.size,6,none⟩ (.slice A9 n9 c9)) rfl rfl (by go_simp) ?_
     simp only [Act.put,nqa,nqb,nqc]
     clear f6 z6 lS hC7 hC8 hb8 hB7 hS7 hown7
     have hB9:=hB8.setCell (p:=⟨W.heap.size,6,none⟩) (Nat.le_refl _) (.slice A9 n9 c9)
     have hS9:=hS8.set_ 6 (.slice A9 n9 c9)
     have hown9:=hown8.setCell (p:=⟨W.heap.size,6,none⟩) (fun q hq=>by have:=(hown8.block_lt hq).1; show q ≠ W.heap.size; omega) (.slice A9 n9 c9)
     simp only [List.setIfInBounds_toArray,List.set_cons_zero,List.set_cons_succ] at hS9
     generalize w8.setCell _ _ = w9 at hS9 hown9 hB9 ⊢
     refine hQ0 _ _ ?_
     have hfin:AppCut W b (b.c - levies - tax) ([]++linesK 1 earn++linesK 2 bene++linesK 3 before++linesK 4 own++linesK 5 empl++linesK 6 [⟨⟨#[]⟩,tax⟩]++linesK 7 att++linesK 8 after++linesK 9 [⟨⟨#[]⟩,left⟩]++linesK 10 [⟨⟨#[]⟩,0⟩]) 10000 w9:=⟨_,hS9,hown9,hB9,by rw [List.length_append]; omega⟩
     clear hS9 hown9 hS8 hown8
     go_wp2_with fail
     go_meet
     exact hfin
  clear hA
  have hA:=hcut
  clear hcut
  refine HK.out _ _ ?_
  clear HK K
  exact cmp_p6c R w W _ gy gs gn y b At ct taken income insured levies tax _ _ _ _ _ _ _ _ _ _ _ _ _ _ _ _ _ _ _ _ _ _ _ _ _ _ _ _ _ _ _ _ _ _ _ _ _ _ _ _ _ _ _ _ _ _ _ _ _ _ _ _ _ _ _ _ _ _ _ _ _ _ _ _ _ _ _ _ _ _ _ _ _ _ _ _ _ _ _ _ _ _ _ _ _ _ _ _ _ _ _ _ _ _ _ _ _ _ _ _ _ _ _ _ _ _ _ _ _ _ _ _ _ _ _ _ _ _ _ _ _ _ _ _ _ _ _ _ _ _ _ _ _ _ _ _ _ _ _ _ _ _ _ _ _ _ _ _ _ _ _ _ _ _ _ _ _ _ _ _ _ _ _ _ _ _ _ _ _ _ _ _ _ _ _ _ _ _ _ _ _ _ _ _ _ _ _ _ _ _ _ _ _ _ _ _ _ _ _ _ _ _ _ _ _ _ _ _ _ _ _ _ _ _ _ _ _ _ _ _ _ _ _ _ _ _ _ _ _ _ _ _ _ _ _ _ _ _ _ _ _ _ _ _ _ _ _ _ _ _ _ _ _ _ _ _ _ _ _ _ _ _ _ _ _ _ _ _ _ _ _ _ _ _ _ _ _ _ _ _ _ _ _ _ _ _ _ _ _ _ _ _ _ _ _ _ _ _ _ _ _ _ _ _ _ _ _ _ _ _ _ _ _ _ _ _ _ _ _ _ _ _ _ _ _ _ _ _ _ _ _ _ _ _ _ _ _ _ _ _ _ _ _ _ _ _ _ _ _ _ _ _ _ _ _ _ _ _ _ _ _ _ _ _ _ _ _ _ _ _ _ _ _ _ _ _ _ _ _ _ _ _ _ _ _ _ _ _ _ _ _ _ _ _ _ _ _ _ _ _ _ _ _ _ _ hbel hBy hBs hBn hgs hgn hne hys ht li b6 b7 b8 b9 b10 b11 b12 b13 b14 b15 hA HR
 ·
  subst hl
  have e1:max (0:Int) 0 = 0:=by omega
  have e2:max (-(0:Int)) 0 = 0:=by omega
  rw [e1,e2] at HR
  clear e1 e2
  refine wp_stmt fun K HK=>?_
  go_cut [] from 371 to 379 (fun wx=>AppCut W b (b.c - levies - tax) ([]++linesK 1 earn++linesK 2 bene++linesK 3 before++linesK 4 own++linesK 5 empl++linesK 6 [⟨⟨#[]⟩,tax⟩]++linesK 7 att++linesK 8 after++linesK 9 [⟨⟨#[]⟩,0⟩]) 9000 wx)
  case first =>
   as_aux_lemma =>
    obtain ⟨v0,hS0,hown0,hC0,hal⟩:=hA
    clear HK
    have hll:=linesK_len 9 [⟨⟨#[]⟩,0⟩]
    simp only [List.length_cons,List.length_nil] at hll
    refine M5.wp_region_sel (C:=M5.LnC W v0) (M5.LnC.stable _ _) (M5.LnC.of hC0 hS0) (aE:=?aE6) [0,1,2,3,4] 5 9 (by kernel_rfl) (by kernel_rfl) rfl (by kernel_rfl) (by rfl) ?H6 ?M6
    case H6 =>
     intro F hF inst
     simp only [M3.opsAt,List.getElem?_toArray,List.getElem?_cons_zero,List.getElem?_cons_succ]
     have e0:∀ p:BwC (M5.LnC W v0) F,p.w'.cell? ⟨W.heap.size,6,none⟩ = some v0:=fun p=>p.h.2.1
     repeat (first | go_big_quiet_step (fail))
     refine wpQuiet_nil ?_
     rfl
    case M6 =>
     intro Q0 hQ0
     refine M5.mix_one 5 (by kernel_rfl) (by decide) ?_
     intro w1 hC1 hb1
     have hS1:=hS0.adv hb1
     have hown1:=hown0.adv hb1
     clear hb1 hS0 hown0
     have hCn:=hC1.1.alloc hC1.1.size (.cells #[.string ⟨#[]⟩,.int .i64 0] 109)
     have hS2:=hS1.alloc (.cells #[.string ⟨#[]⟩,.int .i64 0] 109)
     refine M3.mix_val (.slice (some ⟨w1.heap.size,0,none⟩) 1 1) (w1.alloc (.cells #[.string ⟨#[]⟩,.int .i64 0] 109)) rfl rfl (by go_simp) ⟨M5.LnC.of hCn hS2,?_⟩
     simp only [Act.put,nqa,nqb,nqc,nqd,nqe,nqf]
     have hE2:=SliceOf.new encE_len w1 [⟨⟨#[]⟩,0⟩] #[.string ⟨#[]⟩,.int .i64 0] 109 rfl
     rw [← World.size_alloc w1 (.cells #[.string ⟨#[]⟩,.int .i64 0] 109)] at hE2
     have hown2:=hown1.alloc (.cells #[.string ⟨#[]⟩,.int .i64 0] 109)
     generalize w1.heap.size = gA at hE2 ⊢
     generalize w1.alloc _ = w2 at hE2 hS2 hown2 ⊢
     clear hCn hC1
     refine M5.mix_one 6 (by kernel_rfl) (by decide) ?_
     intro w3 hC3 hb3
     have hS3:=hS2.adv hb3
     have hown3:=hown2.adv hb3
     have hE3:=hE2.adv hb3
     clear hb3 hS2 hown2 hE2
     refine M3.mix_call 61 #[.int .i64 9,.slice (some ⟨gA,0,none⟩) 1 1] rfl rfl (by go_simp) ?_
     refine (lines32_any 9 (some ⟨gA,0,none⟩) 1 [⟨⟨#[]⟩,0⟩] _ hE3 (by simp)).mono ?_
     rintro e w4 ⟨vl,rfl,hownl,hb4⟩
     have hS4:=hS3.adv hb4
     have hown4:=hown3.adv hb4
     refine ⟨vl,rfl,M5.LnC.of (hC3.1.trans (hb4.mono hC3.1.size)) hS4,?_⟩
     simp only [Act.put,nqa,nqb,nqc,nqd,nqe,nqf]
     obtain ⟨Al,cl,rfl,hL4,_,_⟩:=hownl.form encL_len
     clear hownl hb4 hC3
     refine M5.mix_one 7 (by kernel_rfl) (by decide) ?_
     intro w5 hC5 hb5
     have hS5:=hS4.adv hb5
     have hown5:=hown4.adv hb5
     have hL5:=hL4.adv hb5
     clear hb5 hS4 hown4 hL4
     have hs4:W.heap.size+1≤w5.heap.size:=hC5.2.2
     refine M3.mix_append (.tmp 372) (.tmp 377) 39 cl 32 _ infoL Tryz.underlying39 hown5 hL5 encL_len (by omega) rfl encL_one (by omega) (by omega) hs4 rfl rfl rfl rfl rfl rfl ?_
     intro v5 w6 hown6 hg5
     have hS6:=hS5.grown hg5 (hown5.not_below (by omega))
     refine ⟨M5.LnC.of (hC5.1.trans (only_below hg5 hC5.1.size (fun q hq=>by have:=(hown5.block_lt hq).1; omega))) hS6,?_⟩
     simp only [Act.put,nqa,nqb,nqc,nqd,nqe,nqf]
     clear hg5 hL5 hC5 hs4
     refine M5.mix_one 8 (by kernel_rfl) (by decide) ?_
     intro w7 hC7 hb7
     have hS7:=hS6.adv hb7
     have hown7:=hown6.adv hb7
     clear hb7 hS6 hown6
     refine M3.mix_val (.pointer (some ⟨W.heap.size,6,none⟩)) w7 rfl rfl (by go_simp) ⟨hC7,?_⟩
     simp only [Act.put,nqa,nqb,nqc,nqd,nqe,nqf]
     have hB7:=hC7.1
     refine M5.mix_last (by kernel_rfl) (by kernel_rfl) ?_
     intro w8 hC8 hb8
     have hS8:=hS7.adv hb8
     have hown8:=hown7.adv hb8
     have hB8:=hC8.1
     have f6:=hS8.frozen 6
     have z6:=hC8.2.1
     have lS:=hS8.lt
     obtain ⟨A9,c9,hv9,_,_,_⟩:=hown8.form encL_len
     generalize ([]++linesK 1 earn++linesK 2 bene++linesK 3 before++linesK 4 own++linesK 5 empl++linesK 6 [⟨⟨#[]⟩,tax⟩]++linesK 7 att++linesK 8 after++linesK 9 [⟨⟨#[]⟩,0⟩]).length = n9 at hv9
     subst hv9
     refine M3.mix_skip (w8.setCell ⟨W.heap.size,6,none⟩ (.slice A9 n9 c9)) rfl rfl (by go_simp) ?_
     simp only [Act.put,nqa,nqb,nqc]
     clear f6 z6 lS hC7 hC8 hb8 hB7 hS7 hown7
     have hB9:=hB8.setCell (p:=⟨W.heap.size,6,none⟩) (Nat.le_refl _) (.slice A9 n9 c9)
     have hS9:=hS8.set_ 6 (.slice A9 n9 c9)
     have hown9:=hown8.setCell (p:=⟨W.heap.size,6,none⟩) (fun q hq=>by have:=(hown8.block_lt hq).1; show q ≠ W.heap.size; omega) (.slice A9 n9 c9)
     simp only [List.setIfInBounds_toArray,List.set_cons_zero,List.set_cons_succ] at hS9
     generalize w8.setCell _ _ = w9 at hS9 hown9 hB9 ⊢
     refine hQ0 _ _ ?_
     have hfin:AppCut W b (b.c - levies - tax) ([]++linesK 1 earn++linesK 2 bene++linesK 3 before++linesK 4 own++linesK 5 empl++linesK 6 [⟨⟨#[]⟩,tax⟩]++linesK 7 att++linesK 8 after++linesK 9 [⟨⟨#[]⟩,0⟩]) 9000 w9:=⟨_,hS9,hown9,hB9,by rw [List.length_append]; omega⟩
     clear hS9 hown9 hS8 hown8
     go_wp2_with fail
     go_meet
     exact hfin
  clear hA
  have hA:=hcut
  clear hcut
  refine HK.out _ _ ?_
  clear HK K
  refine wp_stmt fun K HK=>?_
  go_cut [] from 380 to 389 (fun wx=>AppCut W b (b.c - levies - tax) ([]++linesK 1 earn++linesK 2 bene++linesK 3 before++linesK 4 own++linesK 5 empl++linesK 6 [⟨⟨#[]⟩,tax⟩]++linesK 7 att++linesK 8 after++linesK 9 [⟨⟨#[]⟩,0⟩]++linesK 10 [⟨⟨#[]⟩,0⟩]) 10000 wx)
  case first =>
   as_aux_lemma =>
    obtain ⟨v0,hS0,hown0,hC0,hal⟩:=hA
    clear HK
    have hll:=linesK_len 10 [⟨⟨#[]⟩,0⟩]
    simp only [List.length_cons,List.length_nil] at hll
    refine M5.wp_region_sel (C:=M5.LnC W v0) (M5.LnC.stable _ _) (M5.LnC.of hC0 hS0) (aE:=?aE7) [0,1,2,3,4,5] 5 10 (by kernel_rfl) (by kernel_rfl) rfl (by kernel_rfl) (by rfl) ?H7 ?M7
    case H7 =>
     intro F hF inst
     simp only [M3.opsAt,List.getElem?_toArray,List.getElem?_cons_zero,List.getElem?_cons_succ]
     have e0:∀ p:BwC (M5.LnC W v0) F,p.w'.cell? ⟨W.heap.size,6,none⟩ = some v0:=fun p=>p.h.2.1
     repeat (first | go_big_quiet_step (fail))
     refine wpQuiet_nil ?_
     rfl
    case M7 =>
     intro Q0 hQ0
     refine M5.mix_one 6 (by kernel_rfl) (by decide) ?_
     intro w1 hC1 hb1
     have hS1:=hS0.adv hb1
     have hown1:=hown0.adv hb1
     clear hb1 hS0 hown0
     have hCn:=hC1.1.alloc hC1.1.size (.cells #[.string ⟨#[]⟩,.int .i64 0] 109)
     have hS2:=hS1.alloc (.cells #[.string ⟨#[]⟩,.int .i64 0] 109)
     refine M3.mix_val (.slice (some ⟨w1.heap.size,0,none⟩) 1 1) (w1.alloc (.cells #[.string ⟨#[]⟩,.int .i64 0] 109)) rfl rfl (by go_simp) ⟨M5.LnC.of hCn hS2,?_⟩
     simp only [Act.put,nqa,nqb,nqc,nqd,nqe,nqf]
     have hE2:=SliceOf.new encE_len w1 [⟨⟨#[]⟩,0⟩] #[.string ⟨#[]⟩,.int .i64 0] 109 rfl
     rw [← World.size_alloc w1 (.cells #[.string ⟨#[]⟩,.int .i64 0] 109)] at hE2
     have hown2:=hown1.alloc (.cells #[.string ⟨#[]⟩,.int .i64 0] 109)
     generalize w1.heap.size = gA at hE2 ⊢
     generalize w1.alloc _ = w2 at hE2 hS2 hown2 ⊢
     clear hCn hC1
     refine M5.mix_one 7 (by kernel_rfl) (by decide) ?_
     intro w3 hC3 hb3
     have hS3:=hS2.adv hb3
     have hown3:=hown2.adv hb3
     have hE3:=hE2.adv hb3
     clear hb3 hS2 hown2 hE2
     refine M3.mix_call 61 #[.int .i64 10,.slice (some ⟨gA,0,none⟩) 1 1] rfl rfl (by go_simp) ?_
     refine (lines32_any 10 (some ⟨gA,0,none⟩) 1 [⟨⟨#[]⟩,0⟩] _ hE3 (by simp)).mono ?_
     rintro e w4 ⟨vl,rfl,hownl,hb4⟩
     have hS4:=hS3.adv hb4
     have hown4:=hown3.adv hb4
     refine ⟨vl,rfl,M5.LnC.of (hC3.1.trans (hb4.mono hC3.1.size)) hS4,?_⟩
     simp only [Act.put,nqa,nqb,nqc,nqd,nqe,nqf]
     obtain ⟨Al,cl,rfl,hL4,_,_⟩:=hownl.form encL_len
     clear hownl hb4 hC3
     refine M5.mix_one 8 (by kernel_rfl) (by decide) ?_
     intro w5 hC5 hb5
     have hS5:=hS4.adv hb5
     have hown5:=hown4.adv hb5
     have hL5:=hL4.adv hb5
     clear hb5 hS4 hown4 hL4
     have hs4:W.heap.size+1≤w5.heap.size:=hC5.2.2
     refine M3.mix_append (.tmp 381) (.tmp 387) 39 cl 32 _ infoL Tryz.underlying39 hown5 hL5 encL_len (by omega) rfl encL_one (by omega) (by omega) hs4 rfl rfl rfl rfl rfl rfl ?_
     intro v5 w6 hown6 hg5
     have hS6:=hS5.grown hg5 (hown5.not_below (by omega))
     refine ⟨M5.LnC.of (hC5.1.trans (only_below hg5 hC5.1.size (fun q hq=>by have:=(hown5.block_lt hq).1; omega))) hS6,?_⟩
     simp only [Act.put,nqa,nqb,nqc,nqd,nqe,nqf]
     clear hg5 hL5 hC5 hs4
     refine M5.mix_one 9 (by kernel_rfl) (by decide) ?_
     intro w7 hC7 hb7
     have hS7:=hS6.adv hb7
     have hown7:=hown6.adv hb7
     clear hb7 hS6 hown6
     refine M3.mix_val (.pointer (some ⟨W.heap.size,6,none⟩)) w7 rfl rfl (by go_simp) ⟨hC7,?_⟩
     simp only [Act.put,nqa,nqb,nqc,nqd,nqe,nqf]
     have hB7:=hC7.1
     refine M5.mix_last (by kernel_rfl) (by kernel_rfl) ?_
     intro w8 hC8 hb8
     have hS8:=hS7.adv hb8
     have hown8:=hown7.adv hb8
     have hB8:=hC8.1
     have f6:=hS8.frozen 6
     have z6:=hC8.2.1
     have lS:=hS8.lt
     obtain ⟨A9,c9,hv9,_,_,_⟩:=hown8.form encL_len
     generalize ([]++linesK 1 earn++linesK 2 bene++linesK 3 before++linesK 4 own++linesK 5 empl++linesK 6 [⟨⟨#[]⟩,tax⟩]++linesK 7 att++linesK 8 after++linesK 9 [⟨⟨#[]⟩,0⟩]++linesK 10 [⟨⟨#[]⟩,0⟩]).length = n9 at hv9
     subst hv9
     refine M3.mix_skip (w8.setCell ⟨W.heap.size,6,none⟩ (.slice A9 n9 c9)) rfl rfl (by go_simp) ?_
     simp only [Act.put,nqa,nqb,nqc]
     clear f6 z6 lS hC7 hC8 hb8 hB7 hS7 hown7
     have hB9:=hB8.setCell (p:=⟨W.heap.size,6,none⟩) (Nat.le_refl _) (.slice A9 n9 c9)
     have hS9:=hS8.set_ 6 (.slice A9 n9 c9)
     have hown9:=hown8.setCell (p:=⟨W.heap.size,6,none⟩) (fun q hq=>by have:=(hown8.block_lt hq).1; show q ≠ W.heap.size; omega) (.slice A9 n9 c9)
     simp only [List.setIfInBounds_toArray,List.set_cons_zero,List.set_cons_succ] at hS9
     generalize w8.setCell _ _ = w9 at hS9 hown9 hB9 ⊢
     refine hQ0 _ _ ?_
     have hfin:AppCut W b (b.c - levies - tax) ([]++linesK 1 earn++linesK 2 bene++linesK 3 before++linesK 4 own++linesK 5 empl++linesK 6 [⟨⟨#[]⟩,tax⟩]++linesK 7 att++linesK 8 after++linesK 9 [⟨⟨#[]⟩,0⟩]++linesK 10 [⟨⟨#[]⟩,0⟩]) 10000 w9:=⟨_,hS9,hown9,hB9,by rw [List.length_append]; omega⟩
     clear hS9 hown9 hS8 hown8
     go_wp2_with fail
     go_meet
     exact hfin
  clear hA
  have hA:=hcut
  clear hcut
  refine HK.out _ _ ?_
  clear HK K
  exact cmp_p6c R w W _ gy gs gn y b At ct taken income insured levies tax _ _ _ _ _ _ _ _ _ _ _ _ _ _ _ _ _ _ _ _ _ _ _ _ _ _ _ _ _ _ _ _ _ _ _ _ _ _ _ _ _ _ _ _ _ _ _ _ _ _ _ _ _ _ _ _ _ _ _ _ _ _ _ _ _ _ _ _ _ _ _ _ _ _ _ _ _ _ _ _ _ _ _ _ _ _ _ _ _ _ _ _ _ _ _ _ _ _ _ _ _ _ _ _ _ _ _ _ _ _ _ _ _ _ _ _ _ _ _ _ _ _ _ _ _ _ _ _ _ _ _ _ _ _ _ _ _ _ _ _ _ _ _ _ _ _ _ _ _ _ _ _ _ _ _ _ _ _ _ _ _ _ _ _ _ _ _ _ _ _ _ _ _ _ _ _ _ _ _ _ _ _ _ _ _ _ _ _ _ _ _ _ _ _ _ _ _ _ _ _ _ _ _ _ _ _ _ _ _ _ _ _ _ _ _ _ _ _ _ _ _ _ _ _ _ _ _ _ _ _ _ _ _ _ _ _ _ _ _ _ _ _ _ _ _ _ _ _ _ _ _ _ _ _ _ _ _ _ _ _ _ _ _ _ _ _ _ _ _ _ _ _ _ _ _ _ _ _ _ _ _ _ _ _ _ _ _ _ _ _ _ _ _ _ _ _ _ _ _ _ _ _ _ _ _ _ _ _ _ _ _ _ _ _ _ _ _ _ _ _ _ _ _ _ _ _ _ _ _ _ _ _ _ _ _ _ _ _ _ _ _ _ _ _ _ _ _ _ _ _ _ _ _ _ _ _ _ _ _ _ _ _ _ _ _ _ _ _ _ _ _ _ _ _ _ _ _ _ _ _ _ _ _ _ _ _ _ _ _ _ _ _ _ _ _ _ _ _ _ _ _ _ _ _ _ hbel hBy hBs hBn hgs hgn hne hys ht li b6 b7 b8 b9 b10 b11 b12 b13 b14 b15 hA HR
 ·
  have e1:max left 0 = 0:=by omega
  have e2:max (-left) 0 = -left:=by omega
  rw [e1,e2] at HR
  clear e1 e2
  refine wp_stmt fun K HK=>?_
  go_cut [] from 371 to 379 (fun wx=>AppCut W b (b.c - levies - tax) ([]++linesK 1 earn++linesK 2 bene++linesK 3 before++linesK 4 own++linesK 5 empl++linesK 6 [⟨⟨#[]⟩,tax⟩]++linesK 7 att++linesK 8 after++linesK 9 [⟨⟨#[]⟩,0⟩]) 9000 wx)
  case first =>
   as_aux_lemma =>
    obtain ⟨v0,hS0,hown0,hC0,hal⟩:=hA
    clear HK
    have hll:=linesK_len 9 [⟨⟨#[]⟩,0⟩]
    simp only [List.length_cons,List.length_nil] at hll
    refine M5.wp_region_sel (C:=M5.LnC W v0) (M5.LnC.stable _ _) (M5.LnC.of hC0 hS0) (aE:=?aE8) [0,1,2,3,4] 5 9 (by kernel_rfl) (by kernel_rfl) rfl (by kernel_rfl) (by rfl) ?H8 ?M8
    case H8 =>
     intro F hF inst
     simp only [M3.opsAt,List.getElem?_toArray,List.getElem?_cons_zero,List.getElem?_cons_succ]
     have e0:∀ p:BwC (M5.LnC W v0) F,p.w'.cell? ⟨W.heap.size,6,none⟩ = some v0:=fun p=>p.h.2.1
     repeat (first | go_big_quiet_step (fail))
     refine wpQuiet_nil ?_
     rfl
    case M8 =>
     intro Q0 hQ0
     refine M5.mix_one 5 (by kernel_rfl) (by decide) ?_
     intro w1 hC1 hb1
     have hS1:=hS0.adv hb1
     have hown1:=hown0.adv hb1
     clear hb1 hS0 hown0
     have hCn:=hC1.1.alloc hC1.1.size (.cells #[.string ⟨#[]⟩,.int .i64 0] 109)
     have hS2:=hS1.alloc (.cells #[.string ⟨#[]⟩,.int .i64 0] 109)
     refine M3.mix_val (.slice (some ⟨w1.heap.size,0,none⟩) 1 1) (w1.alloc (.cells #[.string ⟨#[]⟩,.int .i64 0] 109)) rfl rfl (by go_simp) ⟨M5.LnC.of hCn hS2,?_⟩
     simp only [Act.put,nqa,nqb,nqc,nqd,nqe,nqf]
     have hE2:=SliceOf.new encE_len w1 [⟨⟨#[]⟩,0⟩] #[.string ⟨#[]⟩,.int .i64 0] 109 rfl
     rw [← World.size_alloc w1 (.cells #[.string ⟨#[]⟩,.int .i64 0] 109)] at hE2
     have hown2:=hown1.alloc (.cells #[.string ⟨#[]⟩,.int .i64 0] 109)
     generalize w1.heap.size = gA at hE2 ⊢
     generalize w1.alloc _ = w2 at hE2 hS2 hown2 ⊢
     clear hCn hC1
     refine M5.mix_one 6 (by kernel_rfl) (by decide) ?_
     intro w3 hC3 hb3
     have hS3:=hS2.adv hb3
     have hown3:=hown2.adv hb3
     have hE3:=hE2.adv hb3
     clear hb3 hS2 hown2 hE2
     refine M3.mix_call 61 #[.int .i64 9,.slice (some ⟨gA,0,none⟩) 1 1] rfl rfl (by go_simp) ?_
     refine (lines32_any 9 (some ⟨gA,0,none⟩) 1 [⟨⟨#[]⟩,0⟩] _ hE3 (by simp)).mono ?_
     rintro e w4 ⟨vl,rfl,hownl,hb4⟩
     have hS4:=hS3.adv hb4
     have hown4:=hown3.adv hb4
     refine ⟨vl,rfl,M5.LnC.of (hC3.1.trans (hb4.mono hC3.1.size)) hS4,?_⟩
     simp only [Act.put,nqa,nqb,nqc,nqd,nqe,nqf]
     obtain ⟨Al,cl,rfl,hL4,_,_⟩:=hownl.form encL_len
     clear hownl hb4 hC3
     refine M5.mix_one 7 (by kernel_rfl) (by decide) ?_
     intro w5 hC5 hb5
     have hS5:=hS4.adv hb5
     have hown5:=hown4.adv hb5
     have hL5:=hL4.adv hb5
     clear hb5 hS4 hown4 hL4
     have hs4:W.heap.size+1≤w5.heap.size:=hC5.2.2
     refine M3.mix_append (.tmp 372) (.tmp 377) 39 cl 32 _ infoL Tryz.underlying39 hown5 hL5 encL_len (by omega) rfl encL_one (by omega) (by omega) hs4 rfl rfl rfl rfl rfl rfl ?_
     intro v5 w6 hown6 hg5
     have hS6:=hS5.grown hg5 (hown5.not_below (by omega))
     refine ⟨M5.LnC.of (hC5.1.trans (only_below hg5 hC5.1.size (fun q hq=>by have:=(hown5.block_lt hq).1; omega))) hS6,?_⟩
     simp only [Act.put,nqa,nqb,nqc,nqd,nqe,nqf]
     clear hg5 hL5 hC5 hs4
     refine M5.mix_one 8 (by kernel_rfl) (by decide) ?_
     intro w7 hC7 hb7
     have hS7:=hS6.adv hb7
     have hown7:=hown6.adv hb7
     clear hb7 hS6 hown6
     refine M3.mix_val (.pointer (some ⟨W.heap.size,6,none⟩)) w7 rfl rfl (by go_simp) ⟨hC7,?_⟩
     simp only [Act.put,nqa,nqb,nqc,nqd,nqe,nqf]
     have hB7:=hC7.1
     refine M5.mix_last (by kernel_rfl) (by kernel_rfl) ?_
     intro w8 hC8 hb8
     have hS8:=hS7.adv hb8
     have hown8:=hown7.adv hb8
     have hB8:=hC8.1
     have f6:=hS8.frozen 6
     have z6:=hC8.2.1
     have lS:=hS8.lt
     obtain ⟨A9,c9,hv9,_,_,_⟩:=hown8.form encL_len
     generalize ([]++linesK 1 earn++linesK 2 bene++linesK 3 before++linesK 4 own++linesK 5 empl++linesK 6 [⟨⟨#[]⟩,tax⟩]++linesK 7 att++linesK 8 after++linesK 9 [⟨⟨#[]⟩,0⟩]).length = n9 at hv9
     subst hv9
     refine M3.mix_skip (w8.setCell ⟨W.heap.size,6,none⟩ (.slice A9 n9 c9)) rfl rfl (by go_simp) ?_
     simp only [Act.put,nqa,nqb,nqc]
     clear f6 z6 lS hC7 hC8 hb8 hB7 hS7 hown7
     have hB9:=hB8.setCell (p:=⟨W.heap.size,6,none⟩) (Nat.le_refl _) (.slice A9 n9 c9)
     have hS9:=hS8.set_ 6 (.slice A9 n9 c9)
     have hown9:=hown8.setCell (p:=⟨W.heap.size,6,none⟩) (fun q hq=>by have:=(hown8.block_lt hq).1; show q ≠ W.heap.size; omega) (.slice A9 n9 c9)
     simp only [List.setIfInBounds_toArray,List.set_cons_zero,List.set_cons_succ] at hS9
     generalize w8.setCell _ _ = w9 at hS9 hown9 hB9 ⊢
     refine hQ0 _ _ ?_
     have hfin:AppCut W b (b.c - levies - tax) ([]++linesK 1 earn++linesK 2 bene++linesK 3 before++linesK 4 own++linesK 5 empl++linesK 6 [⟨⟨#[]⟩,tax⟩]++linesK 7 att++linesK 8 after++linesK 9 [⟨⟨#[]⟩,0⟩]) 9000 w9:=⟨_,hS9,hown9,hB9,by rw [List.length_append]; omega⟩
     clear hS9 hown9 hS8 hown8
     go_wp2_with fail
     go_meet
     exact hfin
  clear hA
  have hA:=hcut
  clear hcut
  refine HK.out _ _ ?_
  clear HK K
  refine wp_stmt fun K HK=>?_
  go_cut [] from 380 to 389 (fun wx=>AppCut W b (b.c - levies - tax) ([]++linesK 1 earn++linesK 2 bene++linesK 3 before++linesK 4 own++linesK 5 empl++linesK 6 [⟨⟨#[]⟩,tax⟩]++linesK 7 att++linesK 8 after++linesK 9 [⟨⟨#[]⟩,0⟩]++linesK 10 [⟨⟨#[]⟩,(-left)⟩]) 10000 wx)
  case first =>
   as_aux_lemma =>
    obtain ⟨v0,hS0,hown0,hC0,hal⟩:=hA
    clear HK
    have hll:=linesK_len 10 [⟨⟨#[]⟩,(-left)⟩]
    simp only [List.length_cons,List.length_nil] at hll
    refine M5.wp_region_sel (C:=M5.LnC W v0) (M5.LnC.stable _ _) (M5.LnC.of hC0 hS0) (aE:=?aE9) [0,1,2,3,4,5] 5 10 (by kernel_rfl) (by kernel_rfl) rfl (by kernel_rfl) (by rfl) ?H9 ?M9
    case H9 =>
     intro F hF inst
     simp only [M3.opsAt,List.getElem?_toArray,List.getElem?_cons_zero,List.getElem?_cons_succ]
     have e0:∀ p:BwC (M5.LnC W v0) F,p.w'.cell? ⟨W.heap.size,6,none⟩ = some v0:=fun p=>p.h.2.1
     repeat (first | go_big_quiet_step (fail))
     refine wpQuiet_nil ?_
     rfl
    case M9 =>
     intro Q0 hQ0
     refine M5.mix_one 6 (by kernel_rfl) (by decide) ?_
     intro w1 hC1 hb1
     have hS1:=hS0.adv hb1
     have hown1:=hown0.adv hb1
     clear hb1 hS0 hown0
     have hCn:=hC1.1.alloc hC1.1.size (.cells #[.string ⟨#[]⟩,.int .i64 (-left)] 109)
     have hS2:=hS1.alloc (.cells #[.string ⟨#[]⟩,.int .i64 (-left)] 109)
     refine M3.mix_val (.slice (some ⟨w1.heap.size,0,none⟩) 1 1) (w1.alloc (.cells #[.string ⟨#[]⟩,.int .i64 (-left)] 109)) rfl rfl (by go_simp) ⟨M5.LnC.of hCn hS2,?_⟩
     simp only [Act.put,nqa,nqb,nqc,nqd,nqe,nqf]
     have hE2:=SliceOf.new encE_len w1 [⟨⟨#[]⟩,(-left)⟩] #[.string ⟨#[]⟩,.int .i64 (-left)] 109 rfl
     rw [← World.size_alloc w1 (.cells #[.string ⟨#[]⟩,.int .i64 (-left)] 109)] at hE2
     have hown2:=hown1.alloc (.cells #[.string ⟨#[]⟩,.int .i64 (-left)] 109)
     generalize w1.heap.size = gA at hE2 ⊢
     generalize w1.alloc _ = w2 at hE2 hS2 hown2 ⊢
     clear hCn hC1
     refine M5.mix_one 7 (by kernel_rfl) (by decide) ?_
     intro w3 hC3 hb3
     have hS3:=hS2.adv hb3
     have hown3:=hown2.adv hb3
     have hE3:=hE2.adv hb3
     clear hb3 hS2 hown2 hE2
     refine M3.mix_call 61 #[.int .i64 10,.slice (some ⟨gA,0,none⟩) 1 1] rfl rfl (by go_simp) ?_
     refine (lines32_any 10 (some ⟨gA,0,none⟩) 1 [⟨⟨#[]⟩,(-left)⟩] _ hE3 (by simp)).mono ?_
     rintro e w4 ⟨vl,rfl,hownl,hb4⟩
     have hS4:=hS3.adv hb4
     have hown4:=hown3.adv hb4
     refine ⟨vl,rfl,M5.LnC.of (hC3.1.trans (hb4.mono hC3.1.size)) hS4,?_⟩
     simp only [Act.put,nqa,nqb,nqc,nqd,nqe,nqf]
     obtain ⟨Al,cl,rfl,hL4,_,_⟩:=hownl.form encL_len
     clear hownl hb4 hC3
     refine M5.mix_one 8 (by kernel_rfl) (by decide) ?_
     intro w5 hC5 hb5
     have hS5:=hS4.adv hb5
     have hown5:=hown4.adv hb5
     have hL5:=hL4.adv hb5
     clear hb5 hS4 hown4 hL4
     have hs4:W.heap.size+1≤w5.heap.size:=hC5.2.2
     refine M3.mix_append (.tmp 381) (.tmp 387) 39 cl 32 _ infoL Tryz.underlying39 hown5 hL5 encL_len (by omega) rfl encL_one (by omega) (by omega) hs4 rfl rfl rfl rfl rfl rfl ?_
     intro v5 w6 hown6 hg5
     have hS6:=hS5.grown hg5 (hown5.not_below (by omega))
     refine ⟨M5.LnC.of (hC5.1.trans (only_below hg5 hC5.1.size (fun q hq=>by have:=(hown5.block_lt hq).1; omega))) hS6,?_⟩
     simp only [Act.put,nqa,nqb,nqc,nqd,nqe,nqf]
     clear hg5 hL5 hC5 hs4
     refine M5.mix_one 9 (by kernel_rfl) (by decide) ?_
     intro w7 hC7 hb7
     have hS7:=hS6.adv hb7
     have hown7:=hown6.adv hb7
     clear hb7 hS6 hown6
     refine M3.mix_val (.pointer (some ⟨W.heap.size,6,none⟩)) w7 rfl rfl (by go_simp) ⟨hC7,?_⟩
     simp only [Act.put,nqa,nqb,nqc,nqd,nqe,nqf]
     have hB7:=hC7.1
     refine M5.mix_last (by kernel_rfl) (by kernel_rfl) ?_
     intro w8 hC8 hb8
     have hS8:=hS7.adv hb8
     have hown8:=hown7.adv hb8
     have hB8:=hC8.1
     have f6:=hS8.frozen 6
     have z6:=hC8.2.1
     have lS:=hS8.lt
     obtain ⟨A9,c9,hv9,_,_,_⟩:=hown8.form encL_len
     generalize ([]++linesK 1 earn++linesK 2 bene++linesK 3 before++linesK 4 own++linesK 5 empl++linesK 6 [⟨⟨#[]⟩,tax⟩]++linesK 7 att++linesK 8 after++linesK 9 [⟨⟨#[]⟩,0⟩]++linesK 10 [⟨⟨#[]⟩,(-left)⟩]).length = n9 at hv9
     subst hv9
     refine M3.mix_skip (w8.setCell ⟨W.heap.size,6,none⟩ (.slice A9 n9 c9)) rfl rfl (by go_simp) ?_
     simp only [Act.put,nqa,nqb,nqc]
     clear f6 z6 lS hC7 hC8 hb8 hB7 hS7 hown7
     have hB9:=hB8.setCell (p:=⟨W.heap.size,6,none⟩) (Nat.le_refl _) (.slice A9 n9 c9)
     have hS9:=hS8.set_ 6 (.slice A9 n9 c9)
     have hown9:=hown8.setCell (p:=⟨W.heap.size,6,none⟩) (fun q hq=>by have:=(hown8.block_lt hq).1; show q ≠ W.heap.size; omega) (.slice A9 n9 c9)
     simp only [List.setIfInBounds_toArray,List.set_cons_zero,List.set_cons_succ] at hS9
     generalize w8.setCell _ _ = w9 at hS9 hown9 hB9 ⊢
     refine hQ0 _ _ ?_
     have hfin:AppCut W b (b.c - levies - tax) ([]++linesK 1 earn++linesK 2 bene++linesK 3 before++linesK 4 own++linesK 5 empl++linesK 6 [⟨⟨#[]⟩,tax⟩]++linesK 7 att++linesK 8 after++linesK 9 [⟨⟨#[]⟩,0⟩]++linesK 10 [⟨⟨#[]⟩,(-left)⟩]) 10000 w9:=⟨_,hS9,hown9,hB9,by rw [List.length_append]; omega⟩
     clear hS9 hown9 hS8 hown8
     go_wp2_with fail
     go_meet
     exact hfin
  clear hA
  have hA:=hcut
  clear hcut
  refine HK.out _ _ ?_
  clear HK K
  exact cmp_p6c R w W _ gy gs gn y b At ct taken income insured levies tax _ _ _ _ _ _ _ _ _ _ _ _ _ _ _ _ _ _ _ _ _ _ _ _ _ _ _ _ _ _ _ _ _ _ _ _ _ _ _ _ _ _ _ _ _ _ _ _ _ _ _ _ _ _ _ _ _ _ _ _ _ _ _ _ _ _ _ _ _ _ _ _ _ _ _ _ _ _ _ _ _ _ _ _ _ _ _ _ _ _ _ _ _ _ _ _ _ _ _ _ _ _ _ _ _ _ _ _ _ _ _ _ _ _ _ _ _ _ _ _ _ _ _ _ _ _ _ _ _ _ _ _ _ _ _ _ _ _ _ _ _ _ _ _ _ _ _ _ _ _ _ _ _ _ _ _ _ _ _ _ _ _ _ _ _ _ _ _ _ _ _ _ _ _ _ _ _ _ _ _ _ _ _ _ _ _ _ _ _ _ _ _ _ _ _ _ _ _ _ _ _ _ _ _ _ _ _ _ _ _ _ _ _ _ _ _ _ _ _ _ _ _ _ _ _ _ _ _ _ _ _ _ _ _ _ _ _ _ _ _ _ _ _ _ _ _ _ _ _ _ _ _ _ _ _ _ _ _ _ _ _ _ _ _ _ _ _ _ _ _ _ _ _ _ _ _ _ _ _ _ _ _ _ _ _ _ _ _ _ _ _ _ _ _ _ _ _ _ _ _ _ _ _ _ _ _ _ _ _ _ _ _ _ _ _ _ _ _ _ _ _ _ _ _ _ _ _ _ _ _ _ _ _ _ _ _ _ _ _ _ _ _ _ _ _ _ _ _ _ _ _ _ _ _ _ _ _ _ _ _ _ _ _ _ _ _ _ _ _ _ _ _ _ _ _ _ _ _ _ _ _ _ _ _ _ _ _ _ _ _ _ _ _ _ _ _ _ _ _ _ _ _ _ _ _ hbel hBy hBs hBn hgs hgn hne hys ht li b6 b7 b8 b9 b10 b11 b12 b13 b14 b15 hA HR
end Go.Proofs.YtjncpgbhokjbfaaGreat
