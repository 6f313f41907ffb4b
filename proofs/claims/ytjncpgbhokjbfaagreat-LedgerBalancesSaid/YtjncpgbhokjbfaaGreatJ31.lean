/- Joined texts: Cmp6y. Conditions: as stated. -/
import Derived.Test.YtjncpgbhokjbfaaGreatJ29
import Derived.Test.YtjncpgbhokjbfaaGreatJ30
namespace Go.Proofs.YtjncpgbhokjbfaaGreat
open Go.RowKit
set_option maxRecDepth 100000 in
set_option maxHeartbeats 16000000 in
theorem cmp_r72 (W W1 : World) (gy:Nat) (y:YearM) (b:BasesT) (At:Option Addr) (ct:Nat) (taken:List Elem) (income insured levies tax : Int) (ls:List LineT) (K:Act→World→Prop) (Q:Exit→Act→World→Prop)
  (x0 x1 x2 x3 x4 x5 x6 x7 x9 x10 x11 x12 x13 x14 x15 x16 x17 x18 x19 x20 x21 x22 x23 x24 x25 x26 x27 x30 x31 x32 x33 x34 x35 x36 x38 x40 x42 x43 x44 x45 x46 x47 x48 x49 x50 x51 x52 x53 x54 x55 x56 x57 x58 x59 x60 x61 x62 x63 x64 x65 x66 x67 x68 x69 x70 x71 x72 x73 x74 x75 x76 x77 x78 x79 x80 x81 x82 x83 x84 x85 x86 x87 x88 x89 x90 x91 x92 x93 x94 x95 x96 x97 x98 x99 x100 x101 x102 x103 x104 x105 x106 x107 x108 x109 x110 x111 x112 x113 x114 x115 x116 x117 x118 x119 x120 x121 x122 x123 x124 x125 x126 x127 x128 x129 x130 x131 x132 x133 x134 x135 x136 x137 x138 x139 x140 x141 x142 x143 x144 x145 x146 x147 x148 x149 x150 x151 x152 x153 x154 x155 x156 x157 x158 x159 x160 x161 x162 x163 x164 x165 x166 x167 x168 x169 x170 x171 x172 x173 x174 x175 x176 x177 x178 x179 x180 x181 x182 x183 x184 x185 x186 x187 x188 x189 x190 x191 x192 x193 x194 x195 x196 x197 x198 x199 x200 x201 x202 x203 x204 x205 x206 x207 x208 x209 x210 x211 x212 x213 x214 x215 x216 x217 x218 x219 x220 x221 x222 x223 x224 x225 x226 x227 x228 x229 x230 x231 x232 x233 x234 x235 x236 x237 x238 x239 x240 x241 x242 x243 x244 x245 x246 x247 x248 x249 x250 x251 x252 x253 x254 x255 x256 x257 x258 x259 x260 x261 x262 x263 x264 x265 x266 x267 x268 x269 x270 x271 x272 x273 x274 x275 x276 x277 x278 x279 x280 x281 x282 x283 x284 x285 x286 x287 x288 x289 x290 x291 x292 x293 x294 x295 x296 x297 x298 x299 x300 x301 x302 x303 x304 x305 x306 x307 x308 x309 x310 x311 x312 x313 x314 x315 x316 x317 x318 x319 x320 x321 x322 x323 x324 x325 x326 x327 x328 x329 x330 x331 x332 x333 x334 x335 x336 x337 x338 x339 x340 x341 x342 x343 x344 x345 x346 x347 x348 x349 x350 x351 x352 x353 x354 x355 x356 x357 x358 x359 x360 x361 x362 x363 x364 x365 x366 x367 x368 x369 x370 x371 x372 x373 x374 x375 x376 x377 x378 x379 x380 x381 x382 x383 x384 x385 x386 x387 x388 x389 x390 x391 x392 x393 x394 x395 x396 x397 x398 x399 x400 x401 x402 x403 x404 x405 x406 x407 x408 x409 x410 x411:Value)
  (hBy:Blk W gy 81 #[.int .i64 y.periods,.int .i64 y.income,.int .i64 y.withheld,.slice y.Ai y.ins.length y.ci,.slice y.At y.taken.length y.ct]) (hys:y.In W) (li:y.ins.length≤100) (b6 : -1000000000000000≤tax) (b7:tax≤1000000000000000) (b8 : -1000000000000000≤income) (b9:income≤1000000000000000) (b10 : -1000000000000000≤y.income) (b11:y.income≤1000000000000000) (b12 : -1000000000000000≤y.withheld) (b13:y.withheld≤1000000000000000) (b14:0≤y.periods) (b15:y.periods≤1000) (hA:AppCut W b (b.c - levies - tax) ls 10000 W1)
  (HK:Hid (∀ (s42 s390 s391 s392 s393 s394 s395 s396 s397 s398 s399 s400 s401 s402 s403 s404 s405 s406 s407 s408 s409:Value) (wx:World),YCut W b (b.c - levies - tax) ls (y.periods+1) (y.income+income) (y.withheld+tax) (y.ins++[insured]) At taken.length ct s42 wx→K { tmps:=List.toArray (x0::x1::x2::x3::x4::x5::x6::x7::(.pointer (some ⟨gy,0,none⟩))::x9::x10::x11::x12::x13::x14::x15::x16::x17::x18::x19::x20::x21::x22::x23::x24::x25::x26::x27::(.int .i64 income)::(.int .i64 insured)::x30::x31::x32::x33::x34::x35::x36::(.int .i64 tax)::x38::(.slice At taken.length ct)::x40::(.pointer (some ⟨W.heap.size,0,none⟩))::s42::x43::x44::x45::x46::x47::x48::x49::x50::x51::x52::x53::x54::x55::x56::x57::x58::x59::x60::x61::x62::x63::x64::x65::x66::x67::x68::x69::x70::x71::x72::x73::x74::x75::x76::x77::x78::x79::x80::x81::x82::x83::x84::x85::x86::x87::x88::x89::x90::x91::x92::x93::x94::x95::x96::x97::x98::x99::x100::x101::x102::x103::x104::x105::x106::x107::x108::x109::x110::x111::x112::x113::x114::x115::x116::x117::x118::x119::x120::x121::x122::x123::x124::x125::x126::x127::x128::x129::x130::x131::x132::x133::x134::x135::x136::x137::x138::x139::x140::x141::x142::x143::x144::x145::x146::x147::x148::x149::x150::x151::x152::x153::x154::x155::x156::x157::x158::x159::x160::x161::x162::x163::x164::x165::x166::x167::x168::x169::x170::x171::x172::x173::x174::x175::x176::x177::x178::x179::x180::x181::x182::x183::x184::x185::x186::x187::x188::x189::x190::x191::x192::x193::x194::x195::x196::x197::x198::x199::x200::x201::x202::x203::x204::x205::x206::x207::x208::x209::x210::x211::x212::x213::x214::x215::x216::x217::x218::x219::x220::x221::x222::x223::x224::x225::x226::x227::x228::x229::x230::x231::x232::x233::x234::x235::x236::x237::x238::x239::x240::x241::x242::x243::x244::x245::x246::x247::x248::x249::x250::x251::x252::x253::x254::x255::x256::x257::x258::x259::x260::x261::x262::x263::x264::x265::x266::x267::x268::x269::x270::x271::x272::x273::x274::x275::x276::x277::x278::x279::x280::x281::x282::x283::x284::x285::x286::x287::x288::x289::x290::x291::x292::x293::x294::x295::x296::x297::x298::x299::x300::x301::x302::x303::x304::x305::x306::x307::x308::x309::x310::x311::x312::x313::x314::x315::x316::x317::x318::x319::x320::x321::x322::x323::x324::x325::x326::x327::x328::x329::x330::x331::x332::x333::x334::x335::x336::x337::x338::x339::x340::x341::x342::x343::x344::x345::x346::x347::x348::x349::x350::x351::x352::x353::x354::x355::x356::x357::x358::x359::x360::x361::x362::x363::x364::x365::x366::x367::x368::x369::x370::x371::x372::x373::x374::x375::x376::x377::x378::x379::x380::x381::x382::x383::x384::x385::x386::x387::x388::x389::s390::s391::s392::s393::s394::s395::s396::s397::s398::s399::s400::s401::s402::s403::s404::s405::s406::s407::s408::s409::x410::x411::[]),defers:=[] } wx)) :
  Code.wp Tryz.prog (headC (dropC 44 (bodyOf Tryz.f27))) (Exit.then K Q) { tmps:=List.toArray (x0::x1::x2::x3::x4::x5::x6::x7::(.pointer (some ⟨gy,0,none⟩))::x9::x10::x11::x12::x13::x14::x15::x16::x17::x18::x19::x20::x21::x22::x23::x24::x25::x26::x27::(.int .i64 income)::(.int .i64 insured)::x30::x31::x32::x33::x34::x35::x36::(.int .i64 tax)::x38::(.slice At taken.length ct)::x40::(.pointer (some ⟨W.heap.size,0,none⟩))::x42::x43::x44::x45::x46::x47::x48::x49::x50::x51::x52::x53::x54::x55::x56::x57::x58::x59::x60::x61::x62::x63::x64::x65::x66::x67::x68::x69::x70::x71::x72::x73::x74::x75::x76::x77::x78::x79::x80::x81::x82::x83::x84::x85::x86::x87::x88::x89::x90::x91::x92::x93::x94::x95::x96::x97::x98::x99::x100::x101::x102::x103::x104::x105::x106::x107::x108::x109::x110::x111::x112::x113::x114::x115::x116::x117::x118::x119::x120::x121::x122::x123::x124::x125::x126::x127::x128::x129::x130::x131::x132::x133::x134::x135::x136::x137::x138::x139::x140::x141::x142::x143::x144::x145::x146::x147::x148::x149::x150::x151::x152::x153::x154::x155::x156::x157::x158::x159::x160::x161::x162::x163::x164::x165::x166::x167::x168::x169::x170::x171::x172::x173::x174::x175::x176::x177::x178::x179::x180::x181::x182::x183::x184::x185::x186::x187::x188::x189::x190::x191::x192::x193::x194::x195::x196::x197::x198::x199::x200::x201::x202::x203::x204::x205::x206::x207::x208::x209::x210::x211::x212::x213::x214::x215::x216::x217::x218::x219::x220::x221::x222::x223::x224::x225::x226::x227::x228::x229::x230::x231::x232::x233::x234::x235::x236::x237::x238::x239::x240::x241::x242::x243::x244::x245::x246::x247::x248::x249::x250::x251::x252::x253::x254::x255::x256::x257::x258::x259::x260::x261::x262::x263::x264::x265::x266::x267::x268::x269::x270::x271::x272::x273::x274::x275::x276::x277::x278::x279::x280::x281::x282::x283::x284::x285::x286::x287::x288::x289::x290::x291::x292::x293::x294::x295::x296::x297::x298::x299::x300::x301::x302::x303::x304::x305::x306::x307::x308::x309::x310::x311::x312::x313::x314::x315::x316::x317::x318::x319::x320::x321::x322::x323::x324::x325::x326::x327::x328::x329::x330::x331::x332::x333::x334::x335::x336::x337::x338::x339::x340::x341::x342::x343::x344::x345::x346::x347::x348::x349::x350::x351::x352::x353::x354::x355::x356::x357::x358::x359::x360::x361::x362::x363::x364::x365::x366::x367::x368::x369::x370::x371::x372::x373::x374::x375::x376::x377::x378::x379::x380::x381::x382::x383::x384::x385::x386::x387::x388::x389::x390::x391::x392::x393::x394::x395::x396::x397::x398::x399::x400::x401::x402::x403::x404::x405::x406::x407::x408::x409::x410::x411::[]),defers:=[] } W1:=by
 conv=>enter [2]; whnf
 obtain ⟨v0,hS0,hown0,hC0,hal⟩:=hA
 have h0:YSt W #[.int .i64 b.g,.int .i64 b.c,.int .i64 b.t,.int .i64 b.i,.int .i64 b.a,.int .i64 (b.c - levies - tax),v0] v0 ls insured none none none W1:=⟨hC0,hS0,hown0,nofun,nofun,nofun⟩
 clear hS0 hown0 hal
 refine M5.wp_region_sel (C:=fun w'=>Below W.heap.size W w') (stable_below _ _ (Nat.le_refl _)) hC0 (aE:=?aE) [0,1,2,3,4,5,6,7,8,9,10,12,13,15,18] 7 21 (by kernel_rfl) (by kernel_rfl) rfl (by kernel_rfl) (by rfl) ?H ?M
 case H =>
  intro F hF inst
  simp only [M3.opsAt,List.getElem?_toArray,List.getElem?_cons_zero,List.getElem?_cons_succ]
  have hyl:=hBy.lt
  have z0:=hBy.cell 0
  have z1:=hBy.cell 1
  have z2:=hBy.cell 2
  have z3:=hBy.cell 3
  have z4:=hBy.cell 4
  simp only [nqg,nqh,nqi] at z0 z1 z2 z3 z4
  have e0:∀ p:BwC (fun w'=>Below W.heap.size W w') F,p.w'.cell? ⟨gy,0,none⟩ = some (.int .i64 y.periods):=fun p=>(p.h.cell (p:=⟨gy,0,none⟩) hyl).trans z0
  have e1:∀ p:BwC (fun w'=>Below W.heap.size W w') F,p.w'.cell? ⟨gy,1,none⟩ = some (.int .i64 y.income):=fun p=>(p.h.cell (p:=⟨gy,1,none⟩) hyl).trans z1
  have e2:∀ p:BwC (fun w'=>Below W.heap.size W w') F,p.w'.cell? ⟨gy,2,none⟩ = some (.int .i64 y.withheld):=fun p=>(p.h.cell (p:=⟨gy,2,none⟩) hyl).trans z2
  have e3:∀ p:BwC (fun w'=>Below W.heap.size W w') F,p.w'.cell? ⟨gy,3,none⟩ = some (.slice y.Ai y.ins.length y.ci):=fun p=>(p.h.cell (p:=⟨gy,3,none⟩) hyl).trans z3
  clear z0 z1 z2 z3 z4
  repeat (first | go_big_quiet_step (fail))
  refine wpQuiet_nil ?_
  rfl
 case M =>
  intro Q0 hQ0
  refine M5.share6 (f:=?fzpoqn) (n:=1) (listed:=#[true,true,true,true,true,true,true,true,true,true,true,true,true,true,true,true,true,true,true,true,true,false]) (H:=fun (gz:Nat) (vp:Value) (gO:Nat) (Aq:Option Addr) (cq:Nat) (gN:Nat)=>YSt W #[.int .i64 b.g,.int .i64 b.c,.int .i64 b.t,.int .i64 b.i,.int .i64 b.a,.int .i64 (b.c - levies - tax),v0] v0 ls insured (some (.slice Aq (y.ins.length+1) cq,y.ins++[insured])) none (some gN)) (fun Tzpoqn=>?mzpoqn) ?tzpoqn
  case mzpoqn =>
   refine M5.share4 (f:=?fzpon) (n:=3) (listed:=#[true,true,true,true,true,true,true,true,true,true,true,true,true,true,true,true,true,false,true,false,true,false]) (H:=fun (gz:Nat) (vp:Value) (gO:Nat) (gN:Nat)=>YSt W #[.int .i64 b.g,.int .i64 b.c,.int .i64 b.t,.int .i64 b.i,.int .i64 b.a,.int .i64 (b.c - levies - tax),v0] v0 ls insured (some (vp,y.ins)) (some gO) (some gN)) (fun Tzpon=>?mzpon) ?tzpon
   case mzpon =>
    refine M5.share3 (f:=?fzon) (n:=4) (listed:=#[true,true,true,true,true,true,true,true,true,true,true,true,true,true,false,true,true,false,true,false,true,false]) (H:=fun (gz:Nat) (gO:Nat) (gN:Nat)=>YSt W #[.int .i64 b.g,.int .i64 b.c,.int .i64 b.t,.int .i64 b.i,.int .i64 b.a,.int .i64 (b.c - levies - tax),v0] v0 ls insured (some (.slice (some ⟨gz,0,none⟩) 0 0,[])) (some gO) (some gN)) (fun Tzon=>?mzon) ?tzon
    case mzon =>
     refine M5.share3 (f:=?fzpn) (n:=4) (listed:=#[true,true,true,true,true,true,true,true,true,true,true,true,true,true,true,true,false,false,true,false,true,false]) (H:=fun (gz:Nat) (vp:Value) (gN:Nat)=>YSt W #[.int .i64 b.g,.int .i64 b.c,.int .i64 b.t,.int .i64 b.i,.int .i64 b.a,.int .i64 (b.c - levies - tax),v0] v0 ls insured (some (vp,y.ins)) none (some gN)) (fun Tzpn=>?mzpn) ?tzpn
     case mzpn =>
      refine M5.share3 (f:=?fzpo) (n:=4) (listed:=#[true,true,true,true,true,true,true,true,true,true,true,true,true,true,true,true,true,false,true,false,false,false]) (H:=fun (gz:Nat) (vp:Value) (gO:Nat)=>YSt W #[.int .i64 b.g,.int .i64 b.c,.int .i64 b.t,.int .i64 b.i,.int .i64 b.a,.int .i64 (b.c - levies - tax),v0] v0 ls insured (some (vp,y.ins)) (some gO) none) (fun Tzpo=>?mzpo) ?tzpo
      case mzpo =>
       refine M5.share2 (f:=?fon) (n:=5) (listed:=#[true,true,true,true,true,true,true,true,true,true,true,false,true,true,false,true,true,false,true,false,true,false]) (H:=fun (gO:Nat) (gN:Nat)=>YSt W #[.int .i64 b.g,.int .i64 b.c,.int .i64 b.t,.int .i64 b.i,.int .i64 b.a,.int .i64 (b.c - levies - tax),v0] v0 ls insured none (some gO) (some gN)) (fun Ton=>?mon) ?ton
       case mon =>
        refine M5.share2 (f:=?fzn) (n:=5) (listed:=#[true,true,true,true,true,true,true,true,true,true,true,true,true,true,false,true,false,false,true,false,true,false]) (H:=fun (gz:Nat) (gN:Nat)=>YSt W #[.int .i64 b.g,.int .i64 b.c,.int .i64 b.t,.int .i64 b.i,.int .i64 b.a,.int .i64 (b.c - levies - tax),v0] v0 ls insured (some (.slice (some ⟨gz,0,none⟩) 0 0,[])) none (some gN)) (fun Tzn=>?mzn) ?tzn
        case mzn =>
         refine M5.share2 (f:=?fzo) (n:=5) (listed:=#[true,true,true,true,true,true,true,true,true,true,true,true,true,true,false,true,true,false,true,false,false,false]) (H:=fun (gz:Nat) (gO:Nat)=>YSt W #[.int .i64 b.g,.int .i64 b.c,.int .i64 b.t,.int .i64 b.i,.int .i64 b.a,.int .i64 (b.c - levies - tax),v0] v0 ls insured (some (.slice (some ⟨gz,0,none⟩) 0 0,[])) (some gO) none) (fun Tzo=>?mzo) ?tzo
         case mzo =>
          refine M5.mix_three 11 16 20 (by kernel_rfl) (by rfl) fun w1 hC1 hb=>?_
          have h1:=h0.adv hb
          clear hb
          refine ⟨?_,?_,?_⟩
          ·
           refine M3.mix_val (.slice (some ⟨w1.heap.size,0,none⟩) 0 0) (w1.alloc (.cells #[] 3)) rfl rfl (by go_simp) ⟨hC1.alloc hC1.size _,?_⟩
           simp only [Act.put,nqa,nqb,nqc,nqd,nqe,nqf]
           have h2:=h1.mkv
           clear h1 hC1
           generalize w1.heap.size = gz at h2 ⊢
           generalize w1.alloc _ = w2 at h2 ⊢
           refine M5.mix_three 14 16 20 (by kernel_rfl) (by rfl) fun w3 hC3 hb=>?_
           have h3:=h2.adv hb
           clear hb h2
           refine ⟨?_,?_,?_⟩
           ·
            refine M3.mix_append2 (.tmp 401) (.tmp 403) 22 y.ci 8 _ infoInt Tryz.underlying22 h3.own (hys.ins.adv hC3) encI_len (by omega) rfl encI_one32 (by simp only [List.length_nil]; omega) (by omega) h3.base rfl rfl rfl rfl rfl rfl ?_
            intro vp w4 hv hg hvo
            rw [List.nil_append] at hv
            have h4:=h3.app hv hg hvo
            refine ⟨h4.C,?_⟩
            simp only [Act.put,nqa,nqb,nqc,nqd,nqe,nqf]
            clear hv hg hvo h3 hC3
            refine M5.mix_two 16 20 (by kernel_rfl) (by rfl) fun w5 hC5 hb=>?_
            have h5:=h4.adv hb
            clear hb h4
            refine ⟨?_,?_⟩
            ·
             refine M3.mix_val (.slice (some ⟨w5.heap.size,0,none⟩) 1 1) (w5.alloc (.cells #[.int .i64 insured] 3)) rfl rfl (by go_simp) ⟨hC5.alloc hC5.size _,?_⟩
             simp only [Act.put,nqa,nqb,nqc,nqd,nqe,nqf]
             have h6:=h5.mko
             clear h5 hC5
             generalize w5.heap.size = gO at h6 ⊢
             generalize w5.alloc _ = w6 at h6 ⊢
             exact Tzpo gz vp gO _ _ (by kernel_rfl) h6
            ·
             refine M3.mix_val (.pointer (some ⟨w5.heap.size,0,none⟩)) (w5.alloc (.cells #[.int .i64 0,.int .i64 0,.int .i64 0,.slice none 0 0,.slice none 0 0] 81)) rfl rfl (by go_simp) ⟨hC5.alloc hC5.size _,?_⟩
             simp only [Act.put,nqa,nqb,nqc,nqd,nqe,nqf]
             have h6:=h5.mkn
             clear h5 hC5
             generalize w5.heap.size = gN at h6 ⊢
             generalize w5.alloc _ = w6 at h6 ⊢
             exact Tzpn gz vp gN _ _ (by kernel_rfl) h6
           ·
            refine M3.mix_val (.slice (some ⟨w3.heap.size,0,none⟩) 1 1) (w3.alloc (.cells #[.int .i64 insured] 3)) rfl rfl (by go_simp) ⟨hC3.alloc hC3.size _,?_⟩
            simp only [Act.put,nqa,nqb,nqc,nqd,nqe,nqf]
            have h4:=h3.mko
            clear h3 hC3
            generalize w3.heap.size = gO at h4 ⊢
            generalize w3.alloc _ = w4 at h4 ⊢
            exact Tzo gz gO _ _ (by kernel_rfl) h4
           ·
            refine M3.mix_val (.pointer (some ⟨w3.heap.size,0,none⟩)) (w3.alloc (.cells #[.int .i64 0,.int .i64 0,.int .i64 0,.slice none 0 0,.slice none 0 0] 81)) rfl rfl (by go_simp) ⟨hC3.alloc hC3.size _,?_⟩
            simp only [Act.put,nqa,nqb,nqc,nqd,nqe,nqf]
            have h4:=h3.mkn
            clear h3 hC3
            generalize w3.heap.size = gN at h4 ⊢
            generalize w3.alloc _ = w4 at h4 ⊢
            exact Tzn gz gN _ _ (by kernel_rfl) h4
          ·
           refine M3.mix_val (.slice (some ⟨w1.heap.size,0,none⟩) 1 1) (w1.alloc (.cells #[.int .i64 insured] 3)) rfl rfl (by go_simp) ⟨hC1.alloc hC1.size _,?_⟩
           simp only [Act.put,nqa,nqb,nqc,nqd,nqe,nqf]
           have h2:=h1.mko
           clear h1 hC1
           generalize w1.heap.size = gO at h2 ⊢
           generalize w1.alloc _ = w2 at h2 ⊢
           refine M5.mix_two 11 20 (by kernel_rfl) (by rfl) fun w3 hC3 hb=>?_
           have h3:=h2.adv hb
           clear hb h2
           refine ⟨?_,?_⟩
           ·
            refine M3.mix_val (.slice (some ⟨w3.heap.size,0,none⟩) 0 0) (w3.alloc (.cells #[] 3)) rfl rfl (by go_simp) ⟨hC3.alloc hC3.size _,?_⟩
            simp only [Act.put,nqa,nqb,nqc,nqd,nqe,nqf]
            have h4:=h3.mkv
            clear h3 hC3
            generalize w3.heap.size = gz at h4 ⊢
            generalize w3.alloc _ = w4 at h4 ⊢
            exact Tzo gz gO _ _ (by kernel_rfl) h4
           ·
            refine M3.mix_val (.pointer (some ⟨w3.heap.size,0,none⟩)) (w3.alloc (.cells #[.int .i64 0,.int .i64 0,.int .i64 0,.slice none 0 0,.slice none 0 0] 81)) rfl rfl (by go_simp) ⟨hC3.alloc hC3.size _,?_⟩
            simp only [Act.put,nqa,nqb,nqc,nqd,nqe,nqf]
            have h4:=h3.mkn
            clear h3 hC3
            generalize w3.heap.size = gN at h4 ⊢
            generalize w3.alloc _ = w4 at h4 ⊢
            exact Ton gO gN _ _ (by kernel_rfl) h4
          ·
           refine M3.mix_val (.pointer (some ⟨w1.heap.size,0,none⟩)) (w1.alloc (.cells #[.int .i64 0,.int .i64 0,.int .i64 0,.slice none 0 0,.slice none 0 0] 81)) rfl rfl (by go_simp) ⟨hC1.alloc hC1.size _,?_⟩
           simp only [Act.put,nqa,nqb,nqc,nqd,nqe,nqf]
           have h2:=h1.mkn
           clear h1 hC1
           generalize w1.heap.size = gN at h2 ⊢
           generalize w1.alloc _ = w2 at h2 ⊢
           refine M5.mix_two 11 16 (by kernel_rfl) (by rfl) fun w3 hC3 hb=>?_
           have h3:=h2.adv hb
           clear hb h2
           refine ⟨?_,?_⟩
           ·
            refine M3.mix_val (.slice (some ⟨w3.heap.size,0,none⟩) 0 0) (w3.alloc (.cells #[] 3)) rfl rfl (by go_simp) ⟨hC3.alloc hC3.size _,?_⟩
            simp only [Act.put,nqa,nqb,nqc,nqd,nqe,nqf]
            have h4:=h3.mkv
            clear h3 hC3
            generalize w3.heap.size = gz at h4 ⊢
            generalize w3.alloc _ = w4 at h4 ⊢
            exact Tzn gz gN _ _ (by kernel_rfl) h4
           ·
            refine M3.mix_val (.slice (some ⟨w3.heap.size,0,none⟩) 1 1) (w3.alloc (.cells #[.int .i64 insured] 3)) rfl rfl (by go_simp) ⟨hC3.alloc hC3.size _,?_⟩
            simp only [Act.put,nqa,nqb,nqc,nqd,nqe,nqf]
            have h4:=h3.mko
            clear h3 hC3
            generalize w3.heap.size = gO at h4 ⊢
            generalize w3.alloc _ = w4 at h4 ⊢
            exact Ton gO gN _ _ (by kernel_rfl) h4
         case tzo =>
          intro gz gO w0 h0
          refine M5.mix_two 14 20 (by kernel_rfl) (by rfl) fun w1 hC1 hb=>?_
          have h1:=h0.adv hb
          clear hb h0
          refine ⟨?_,?_⟩
          ·
           refine M3.mix_append2 (.tmp 401) (.tmp 403) 22 y.ci 8 _ infoInt Tryz.underlying22 h1.own (hys.ins.adv hC1) encI_len (by omega) rfl encI_one32 (by simp only [List.length_nil]; omega) (by omega) h1.base rfl rfl rfl rfl rfl rfl ?_
           intro vp w2 hv hg hvo
           rw [List.nil_append] at hv
           have h2:=h1.app hv hg hvo
           refine ⟨h2.C,?_⟩
           simp only [Act.put,nqa,nqb,nqc,nqd,nqe,nqf]
           clear hv hg hvo h1 hC1
           exact Tzpo gz vp gO _ _ (by kernel_rfl) h2
          ·
           refine M3.mix_val (.pointer (some ⟨w1.heap.size,0,none⟩)) (w1.alloc (.cells #[.int .i64 0,.int .i64 0,.int .i64 0,.slice none 0 0,.slice none 0 0] 81)) rfl rfl (by go_simp) ⟨hC1.alloc hC1.size _,?_⟩
           simp only [Act.put,nqa,nqb,nqc,nqd,nqe,nqf]
           have h2:=h1.mkn
           clear h1 hC1
           generalize w1.heap.size = gN at h2 ⊢
           generalize w1.alloc _ = w2 at h2 ⊢
           exact Tzon gz gO gN _ _ (by kernel_rfl) h2
        case tzn =>
         intro gz gN w0 h0
         refine M5.mix_two 14 16 (by kernel_rfl) (by rfl) fun w1 hC1 hb=>?_
         have h1:=h0.adv hb
         clear hb h0
         refine ⟨?_,?_⟩
         ·
          refine M3.mix_append2 (.tmp 401) (.tmp 403) 22 y.ci 8 _ infoInt Tryz.underlying22 h1.own (hys.ins.adv hC1) encI_len (by omega) rfl encI_one32 (by simp only [List.length_nil]; omega) (by omega) h1.base rfl rfl rfl rfl rfl rfl ?_
          intro vp w2 hv hg hvo
          rw [List.nil_append] at hv
          have h2:=h1.app hv hg hvo
          refine ⟨h2.C,?_⟩
          simp only [Act.put,nqa,nqb,nqc,nqd,nqe,nqf]
          clear hv hg hvo h1 hC1
          exact Tzpn gz vp gN _ _ (by kernel_rfl) h2
         ·
          refine M3.mix_val (.slice (some ⟨w1.heap.size,0,none⟩) 1 1) (w1.alloc (.cells #[.int .i64 insured] 3)) rfl rfl (by go_simp) ⟨hC1.alloc hC1.size _,?_⟩
          simp only [Act.put,nqa,nqb,nqc,nqd,nqe,nqf]
          have h2:=h1.mko
          clear h1 hC1
          generalize w1.heap.size = gO at h2 ⊢
          generalize w1.alloc _ = w2 at h2 ⊢
          exact Tzon gz gO gN _ _ (by kernel_rfl) h2
       case ton =>
        intro gO gN w0 h0
        refine M5.mix_one 11 (by kernel_rfl) (by decide) fun w1 hC1 hb=>?_
        have h1:=h0.adv hb
        clear hb h0
        refine M3.mix_val (.slice (some ⟨w1.heap.size,0,none⟩) 0 0) (w1.alloc (.cells #[] 3)) rfl rfl (by go_simp) ⟨hC1.alloc hC1.size _,?_⟩
        simp only [Act.put,nqa,nqb,nqc,nqd,nqe,nqf]
        have h2:=h1.mkv
        clear h1 hC1
        generalize w1.heap.size = gz at h2 ⊢
        generalize w1.alloc _ = w2 at h2 ⊢
        exact Tzon gz gO gN _ _ (by kernel_rfl) h2
      case tzpo =>
       intro gz vp gO w0 h0
       refine M5.mix_two 17 20 (by kernel_rfl) (by rfl) fun w1 hC1 hb=>?_
       have h1:=h0.adv hb
       clear hb h0
       refine ⟨?_,?_⟩
       ·
        refine M3.mix_append2 (.tmp 404) (.tmp 406) 22 1 8 _ infoInt Tryz.underlying22 h1.own (blkI (h1.O _ rfl)) encI_len (by omega) rfl encI_one32 (by simp only [List.length_nil,List.length_cons]; omega) (by omega) h1.base rfl rfl rfl rfl rfl rfl ?_
        intro vq w2 hv hg hvo
        have h2:=(h1.app hv hg hvo).dropo
        refine ⟨h2.C,?_⟩
        simp only [Act.put,nqa,nqb,nqc,nqd,nqe,nqf]
        clear hv hg hvo h1 hC1
        obtain ⟨Aq,cq,e⟩:=h2.vform (m:=y.ins.length+1) (by simp)
        subst e
        refine M5.mix_take 19 (.agg #[.int .i64 (y.periods+1),.int .i64 (y.income+income),.int .i64 (y.withheld+tax),.slice Aq (y.ins.length+1) cq,.slice At taken.length ct]) (by kernel_rfl) rfl (by kernel_rfl) rfl (fun _=>by go_simp) ?_
        simp only [Act.put,nqa,nqb,nqc,nqd,nqe,nqf]
        refine M5.mix_one 20 (by kernel_rfl) (by decide) fun w3 hC3 hb=>?_
        have h3:=h2.adv hb
        clear hb h2
        refine M3.mix_val (.pointer (some ⟨w3.heap.size,0,none⟩)) (w3.alloc (.cells #[.int .i64 0,.int .i64 0,.int .i64 0,.slice none 0 0,.slice none 0 0] 81)) rfl rfl (by go_simp) ⟨hC3.alloc hC3.size _,?_⟩
        simp only [Act.put,nqa,nqb,nqc,nqd,nqe,nqf]
        have h4:=h3.mkn
        clear h3 hC3
        generalize w3.heap.size = gN at h4 ⊢
        generalize w3.alloc _ = w4 at h4 ⊢
        exact Tzpoqn gz vp gO Aq cq gN _ _ (by kernel_rfl) h4
       ·
        refine M3.mix_val (.pointer (some ⟨w1.heap.size,0,none⟩)) (w1.alloc (.cells #[.int .i64 0,.int .i64 0,.int .i64 0,.slice none 0 0,.slice none 0 0] 81)) rfl rfl (by go_simp) ⟨hC1.alloc hC1.size _,?_⟩
        simp only [Act.put,nqa,nqb,nqc,nqd,nqe,nqf]
        have h2:=h1.mkn
        clear h1 hC1
        generalize w1.heap.size = gN at h2 ⊢
        generalize w1.alloc _ = w2 at h2 ⊢
        exact Tzpon gz vp gO gN _ _ (by kernel_rfl) h2
     case tzpn =>
      intro gz vp gN w0 h0
      refine M5.mix_one 16 (by kernel_rfl) (by decide) fun w1 hC1 hb=>?_
      have h1:=h0.adv hb
      clear hb h0
      refine M3.mix_val (.slice (some ⟨w1.heap.size,0,none⟩) 1 1) (w1.alloc (.cells #[.int .i64 insured] 3)) rfl rfl (by go_simp) ⟨hC1.alloc hC1.size _,?_⟩
      simp only [Act.put,nqa,nqb,nqc,nqd,nqe,nqf]
      have h2:=h1.mko
      clear h1 hC1
      generalize w1.heap.size = gO at h2 ⊢
      generalize w1.alloc _ = w2 at h2 ⊢
      exact Tzpon gz vp gO gN _ _ (by kernel_rfl) h2
    case tzon =>
     intro gz gO gN w0 h0
     refine M5.mix_one 14 (by kernel_rfl) (by decide) fun w1 hC1 hb=>?_
     have h1:=h0.adv hb
     clear hb h0
     refine M3.mix_append2 (.tmp 401) (.tmp 403) 22 y.ci 8 _ infoInt Tryz.underlying22 h1.own (hys.ins.adv hC1) encI_len (by omega) rfl encI_one32 (by simp only [List.length_nil]; omega) (by omega) h1.base rfl rfl rfl rfl rfl rfl ?_
     intro vp w2 hv hg hvo
     rw [List.nil_append] at hv
     have h2:=h1.app hv hg hvo
     refine ⟨h2.C,?_⟩
     simp only [Act.put,nqa,nqb,nqc,nqd,nqe,nqf]
     clear hv hg hvo h1 hC1
     exact Tzpon gz vp gO gN _ _ (by kernel_rfl) h2
   case tzpon =>
    intro gz vp gO gN w0 h0
    refine M5.mix_one 17 (by kernel_rfl) (by decide) fun w1 hC1 hb=>?_
    have h1:=h0.adv hb
    clear hb h0
    refine M3.mix_append2 (.tmp 404) (.tmp 406) 22 1 8 _ infoInt Tryz.underlying22 h1.own (blkI (h1.O _ rfl)) encI_len (by omega) rfl encI_one32 (by simp only [List.length_nil,List.length_cons]; omega) (by omega) h1.base rfl rfl rfl rfl rfl rfl ?_
    intro vq w2 hv hg hvo
    have h2:=(h1.app hv hg hvo).dropo
    refine ⟨h2.C,?_⟩
    simp only [Act.put,nqa,nqb,nqc,nqd,nqe,nqf]
    clear hv hg hvo h1 hC1
    obtain ⟨Aq,cq,e⟩:=h2.vform (m:=y.ins.length+1) (by simp)
    subst e
    refine M5.mix_take 19 (.agg #[.int .i64 (y.periods+1),.int .i64 (y.income+income),.int .i64 (y.withheld+tax),.slice Aq (y.ins.length+1) cq,.slice At taken.length ct]) (by kernel_rfl) rfl (by kernel_rfl) rfl (fun _=>by go_simp) ?_
    simp only [Act.put,nqa,nqb,nqc,nqd,nqe,nqf]
    exact Tzpoqn gz vp gO Aq cq gN _ _ (by kernel_rfl) h2
  case tzpoqn =>
   intro gz vp gO Aq cq gN w0 h0
   refine M5.mix_last (by kernel_rfl) (by kernel_rfl) fun w1 _ hb=>?_
   have h1:=h0.adv hb
   obtain ⟨z0,z1,z2,z3,z4,f0,f1,f2,f3,f4,l0⟩:=h1.nfacts
   refine M3.mix_skip (yput w1 gN (.int .i64 (y.periods+1)) (.int .i64 (y.income+income)) (.int .i64 (y.withheld+tax)) (.slice Aq (y.ins.length+1) cq) (.slice At taken.length ct)) rfl rfl (by unfold yput; go_simp) (hQ0 _ _ ?_)
   simp only [Act.put,nqa,nqb,nqc]
   exact HK.out _ _ _ _ _ _ _ _ _ _ _ _ _ _ _ _ _ _ _ _ _ _ (h1.fin (by simp))
end Go.Proofs.YtjncpgbhokjbfaaGreat
