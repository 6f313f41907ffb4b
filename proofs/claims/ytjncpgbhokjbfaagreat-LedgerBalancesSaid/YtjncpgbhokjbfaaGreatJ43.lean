/- Joined texts: Cmp1b. Conditions: as stated. -/
import Derived.Test.YtjncpgbhokjbfaaGreatJ11
import Derived.Test.YtjncpgbhokjbfaaGreatJ42
namespace Go.Proofs.YtjncpgbhokjbfaaGreat
open Go.RowKit
set_option maxRecDepth 100000 in
set_option maxHeartbeats 8000000 in
theorem cmp_p1b (w W : World) (gr gp gy gs gn gb : Nat) (r:RulesM) (p:PersonM) (y:YearM) (I:NetIn) (Ak A8 : Option Addr) (kc c8 : Nat) (fi:Bool)
  (x0 x1 x2 x5 x9 x10 x11 x14 x15 x17 x19 x22 x23 x24 x25 x26 x27 x28 x29 x30 x31 x32 x33 x34 x35 x36 x37 x38 x39 x40 x41 x42 x43 x44 x45 x46 x47 x48 x49 x50 x51 x52 x53 x54 x55 x56 x57 x58 x59 x60 x61 x62 x63 x64 x65 x66 x67 x68 x69 x70 x71 x72 x73 x74 x75 x76 x77 x78 x79 x80 x81 x82 x83 x84 x85 x86 x87 x88 x89 x90 x91 x92 x93 x94 x95 x96 x97 x98 x99 x100 x101 x102 x103 x104 x105 x106 x107 x108 x109 x110 x111 x112 x113 x114 x115 x116 x117 x118 x119 x120 x121 x122 x123 x124 x125 x126 x127 x128 x129 x130 x131 x132 x133 x134 x135 x136 x137 x138 x139 x140 x141 x142 x143 x144 x145 x146 x147 x148 x149 x150 x151 x152 x153 x154 x155 x156 x157 x158 x159 x160 x161 x162 x163 x164 x165 x166 x167 x168 x169 x170 x171 x172 x173 x174 x175 x176 x177 x178 x179 x180 x181 x182 x183 x184 x185 x186 x187 x188 x189 x190 x191 x192 x193 x194 x195 x196 x197 x198 x199 x200 x201 x202 x203 x204 x205 x206 x207 x208 x209 x210 x211 x212 x213 x214 x215 x216 x217 x218 x219 x220 x221 x222 x223 x224 x225 x226 x227 x228 x229 x230 x231 x232 x233 x234 x235 x236 x237 x238 x239 x240 x241 x242 x243 x244 x245 x246 x247 x248 x249 x250 x251 x252 x253 x254 x255 x256 x257 x258 x259 x260 x261 x262 x263 x264 x265 x266 x267 x268 x269 x270 x271 x272 x273 x274 x275 x276 x277 x278 x279 x280 x281 x282 x283 x284 x285 x286 x287 x288 x289 x290 x291 x292 x293 x294 x295 x296 x297 x298 x299 x300 x301 x302 x303 x304 x305 x306 x307 x308 x309 x310 x311 x312 x313 x314 x315 x316 x317 x318 x319 x320 x321 x322 x323 x324 x325 x326 x327 x328 x329 x330 x331 x332 x333 x334 x335 x336 x337 x338 x339 x340 x341 x342 x343 x344 x345 x346 x347 x348 x349 x350 x351 x352 x353 x354 x355 x356 x357 x358 x359 x360 x361 x362 x363 x364 x365 x366 x367 x368 x369 x370 x371 x372 x373 x374 x375 x376 x377 x378 x379 x380 x381 x382 x383 x384 x385 x386 x387 x388 x389 x390 x391 x392 x393 x394 x395 x396 x397 x398 x399 x400 x401 x402 x403 x404 x405 x406 x407 x408 x409 x410 x411:Value)
  (hbel:Below w.heap.size w W) (hBy:Blk W gy 81 #[.int .i64 y.periods,.int .i64 y.income,.int .i64 y.withheld,.slice y.Ai y.ins.length y.ci,.slice y.At y.taken.length y.ct]) (hBs:Blk W gs 41 #[.int .i64 0,.int .i64 0,.int .i64 0,.int .i64 0,.int .i64 0,.int .i64 0,.slice none 0 0]) (hBn:Blk W gn 81 #[.int .i64 0,.int .i64 0,.int .i64 0,.slice none 0 0,.slice none 0 0]) (hgs:w.heap.size≤gs) (hgn:w.heap.size≤gn) (hne:gs ≠ gn) (hfi:I.first = fi) (hBr:Blk W gr 73 #[.slice r.Aw r.ws.length r.cw,.slice r.As r.ss.length r.cs,.int .i64 r.tm.t.method,.slice r.tm.Ab r.tm.t.brs.length r.tm.cb,.int .i64 r.tm.t.allowance,.int .i64 r.tm.t.credit,.int .i64 r.tm.t.unit,.int .i64 r.tm.t.mode,.slice r.tm.Ar r.tm.t.rows.length r.tm.cr,.int .i64 r.count,.int .i64 r.sh.fixed,.int .i64 r.sh.dependent,.int .i64 r.sh.lower,.int .i64 r.sh.share,.int .i64 r.sh.top,.int .i64 r.recover]) (hBp:Blk W gp 78 #[.int .i64 p.deps,.slice p.Ad p.ds.length p.cd,.slice p.Ao p.os.length p.co,.slice p.Ae p.es.length p.ce]) (hBb:Blk W gb 38 (encBas I.b).toArray) (hIr:I.r = r.t) (hIp:I.p = p.t) (hIy:I.y = y.t) (hrs:r.In W) (hps:p.In W) (hys:y.In W) (hk:SliceOf encE 2 W W.heap.size Ak I.kept) (hm:SliceOf encE 2 W W.heap.size A8 I.merged) (hml:I.merged.length≤1000) (hper:I.y.periods < I.r.count) (hof:ofErr I.r.wages I.e (sumsP I.e) = 0) (hok:InOk I) :
  Code.wp Tryz.prog (dropC 6 (bodyOf Tryz.f27)) (bodyPost Tryz.prog Tryz.f27 (SlipPost I w)) { tmps:=List.toArray (x0::x1::x2::(.slice Ak I.kept.length kc)::(.bool fi)::x5::(.pointer (some ⟨gr,0,none⟩))::(.pointer (some ⟨gp,0,none⟩))::(.pointer (some ⟨gy,0,none⟩))::x9::x10::x11::(.pointer (some ⟨gs,0,none⟩))::(.pointer (some ⟨gn,0,none⟩))::x14::x15::(.pointer (some ⟨gb,0,none⟩))::x17::(.slice A8 I.merged.length c8)::x19::(.slice none 0 0)::(.slice none 0 0)::x22::x23::x24::x25::x26::x27::x28::x29::x30::x31::x32::x33::x34::x35::x36::x37::x38::x39::x40::x41::x42::x43::x44::x45::x46::x47::x48::x49::x50::x51::x52::x53::x54::x55::x56::x57::x58::x59::x60::x61::x62::x63::x64::x65::x66::x67::x68::x69::x70::x71::x72::x73::x74::x75::x76::x77::x78::x79::x80::x81::x82::x83::x84::x85::x86::x87::x88::x89::x90::x91::x92::x93::x94::x95::x96::x97::x98::x99::x100::x101::x102::x103::x104::x105::x106::x107::x108::x109::x110::x111::x112::x113::x114::x115::x116::x117::x118::x119::x120::x121::x122::x123::x124::x125::x126::x127::x128::x129::x130::x131::x132::x133::x134::x135::x136::x137::x138::x139::x140::x141::x142::x143::x144::x145::x146::x147::x148::x149::x150::x151::x152::x153::x154::x155::x156::x157::x158::x159::x160::x161::x162::x163::x164::x165::x166::x167::x168::x169::x170::x171::x172::x173::x174::x175::x176::x177::x178::x179::x180::x181::x182::x183::x184::x185::x186::x187::x188::x189::x190::x191::x192::x193::x194::x195::x196::x197::x198::x199::x200::x201::x202::x203::x204::x205::x206::x207::x208::x209::x210::x211::x212::x213::x214::x215::x216::x217::x218::x219::x220::x221::x222::x223::x224::x225::x226::x227::x228::x229::x230::x231::x232::x233::x234::x235::x236::x237::x238::x239::x240::x241::x242::x243::x244::x245::x246::x247::x248::x249::x250::x251::x252::x253::x254::x255::x256::x257::x258::x259::x260::x261::x262::x263::x264::x265::x266::x267::x268::x269::x270::x271::x272::x273::x274::x275::x276::x277::x278::x279::x280::x281::x282::x283::x284::x285::x286::x287::x288::x289::x290::x291::x292::x293::x294::x295::x296::x297::x298::x299::x300::x301::x302::x303::x304::x305::x306::x307::x308::x309::x310::x311::x312::x313::x314::x315::x316::x317::x318::x319::x320::x321::x322::x323::x324::x325::x326::x327::x328::x329::x330::x331::x332::x333::x334::x335::x336::x337::x338::x339::x340::x341::x342::x343::x344::x345::x346::x347::x348::x349::x350::x351::x352::x353::x354::x355::x356::x357::x358::x359::x360::x361::x362::x363::x364::x365::x366::x367::x368::x369::x370::x371::x372::x373::x374::x375::x376::x377::x378::x379::x380::x381::x382::x383::x384::x385::x386::x387::x388::x389::x390::x391::x392::x393::x394::x395::x396::x397::x398::x399::x400::x401::x402::x403::x404::x405::x406::x407::x408::x409::x410::x411::[]),defers:=[] } W:=by
 conv=>enter [2]; whnf
 have hws:I.r.wages = r.ws:=by rw [hIr]; rfl
 have hvw:validB r.ws = true:=by rw [← hws]; exact hok.r.wages
 have hwl:=(validB_facts hvw).1
 have HFD:Hid (∀ (c:ByteArray) (wg:WageT),(findW r.ws c).getD zeroW = wg→∃ bo,∀ W',Below W.heap.size W W'→Calls Tryz.prog 53 #[.slice r.Aw r.ws.length r.cw,.string c] W' fun e w'=>e = .returned (.tuple #[.agg #[.string wg.code,.int .i64 wg.kind,.bool wg.taxable,.bool wg.insured,.bool wg.attachable,.int .i64 wg.account],.bool bo])∧Below W'.heap.size W' w'):=fun c wg hwg=>⟨(findW r.ws c).isSome,fun W' hb=>by
  have:=find26_any r.Aw r.cw r.ws c W' (hrs.ws.adv hb) (by omega)
  unfold foundV at this
  rw [hwg] at this
  exact this⟩
 have HEW:Hid (∀ x:Elem,earnB r.ws x = decide (((findW r.ws x.code).getD zeroW).kind = 1)):=fun x=>rfl
 have HWS:=Lib.hid hws
 have HOF:=Lib.hid hof
 have HPER:=Lib.hid hper
 have HOK:=Lib.hid hok
 have HIR:=Lib.hid hIr
 have HIP:=Lib.hid hIp
 have HIY:=Lib.hid hIy
 have HBB:=Lib.hid hBb
 have HFI:=Lib.hid hfi
 have hlr0:=hBr.lt
 have z00:=hBr.cell 0
 simp only [nqg,nqh] at z00
 have HZ0:=Lib.hid z00
 clear hok hIr hIp hIy hBb hfi hof hper hws hvw hwl z00
 refine wp_stmt fun K HK=>?_
 go_wp2_with fail
 go_loopw [20,21,22] (fun ov mv iv wr=>∃ k:Nat,k≤I.merged.length∧iv = .int .i64 k∧Own encE 2 109 wr W.heap.size ov ((I.merged.take k).filter (earnB r.ws))∧Own encE 2 109 wr W.heap.size mv ((I.merged.take k).filter (fun x=>!earnB r.ws x))∧Hid (Apart ov mv)∧Below W.heap.size W wr) (fun _ _ i _=>I.merged.length - (intOf i).toNat)
 case atStart=>exact ⟨0,by omega,rfl,Own.nil_ _ _,Own.nil_ _ _,(fun q hq=>by cases hq),Below.refl _ _⟩
 case round =>
  obtain ⟨k,hkk,rfl,hO,hM,hAp,hb1⟩:=hrel
  have hbs1:=hb1.size
  by_cases hlt:k < I.merged.length
  ·
   obtain ⟨mb,mo,rfl,hmb,hc⟩:=(hm.below hb1).at_ hlt
   have e0:=hc 0 _ rfl
   have e1:=hc 1 _ rfl
   simp only [Nat.add_zero] at e0
   have hki:(k:Int) < (I.merged.length:Int):=by omega
   have hmb':mb < wr.heap.size:=by omega
   clear hc
   obtain ⟨wg,hwg⟩ : ∃ wg,(findW r.ws I.merged[k].code).getD zeroW = wg:=⟨_,rfl⟩
   obtain ⟨bo,hfd⟩:=HFD.out I.merged[k].code wg hwg
   have HFD1:=Lib.hid hfd
   have hew:=HEW.out I.merged[k]
   rw [hwg] at hew
   clear hwg hfd
   have z0:=(hb1.cell (p:=⟨gr,0,none⟩) hlr0).trans HZ0.out
   have hlr1:gr < wr.heap.size:=by omega
   go_upto_region 12 with fail
   go_cut [23,24] from 76 to 86 (fun v23 v24 wx=>∃ g,v23 = .pointer (some ⟨g,0,none⟩)∧wx.cell? ⟨g,1,none⟩ = some (.int .i64 wg.kind)∧g < wx.heap.size∧Below wr.heap.size wr wx)
   case first =>
    as_aux_lemma =>
     clear HK hO hM hAp hk hys hps hBy hBp hBs hBn hbel HPER HOF HOK HIR HIP HIY HBB HFI HWS HEW hew HFD hBr hm
     have HZR:=Lib.hid z0
     have HER:=Lib.hid e0
     clear z0 e0 e1
     refine M3.wp_region_sel (C:=fun w'=>Below wr.heap.size wr w') (stable_below _ _ (Nat.le_refl _)) (Below.refl _ _) (aE:=?aE) [0,1,2,3,4,5,6,7,8,9,10] 3 (by kernel_rfl) (by kernel_rfl) rfl (by kernel_rfl) (by kernel_rfl) (by rfl) ?H ?M
     case H =>
      intro F hF inst
      simp only [M3.opsAt,List.getElem?_toArray,List.getElem?_cons_zero,List.getElem?_cons_succ]
      have q0:∀ p:BwC (fun w'=>Below wr.heap.size wr w') F,p.w'.cell? ⟨gr,0,none⟩ = some (.slice r.Aw r.ws.length r.cw):=fun p=>(p.h.cell (p:=⟨gr,0,none⟩) hlr1).trans HZR.out
      have q1:∀ p:BwC (fun w'=>Below wr.heap.size wr w') F,p.w'.cell? ⟨mb,mo+k * 2,none⟩ = some (.string I.merged[k].code):=fun p=>(p.h.cell (p:=⟨mb,mo+k * 2,none⟩) hmb').trans HER.out
      repeat (first | go_big_quiet_step ((exact BwC.call (stable_below _ _ (Nat.le_refl _)) hF _ (HFD1.out _ (bel_adv hb1 (BwC.h _))))))
      refine wpQuiet_nil ?_
      rfl
     case M =>
      intro Q0 hQ0
      refine M3.mix_step [11] (by kernel_rfl) (by simp) ?_
      intro w1 hC1 hb1 i hi
      simp only [nqj,nqk,or_false] at hi
      subst hi
      have hCn:=hC1.alloc hC1.size (.cells #[.string ⟨#[]⟩,.int .i64 0,.bool false,.bool false,.bool false,.int .i64 0] 61)
      refine M3.mix_val (.pointer (some ⟨w1.heap.size,0,none⟩)) (w1.alloc (.cells #[.string ⟨#[]⟩,.int .i64 0,.bool false,.bool false,.bool false,.int .i64 0] 61)) rfl rfl (by go_simp) ⟨hCn,?_⟩
      simp only [Act.put,nqa,nqb,nqc,nqd,nqe,nqf]
      have hn2:=Blk.new w1 61 #[.string ⟨#[]⟩,.int .i64 0,.bool false,.bool false,.bool false,.int .i64 0]
      have hgN:=hC1.size
      generalize w1.alloc (.cells #[.string ⟨#[]⟩,.int .i64 0,.bool false,.bool false,.bool false,.int .i64 0] 61) = w2 at hCn hn2 ⊢
      have hC2:=hCn
      clear hCn
      obtain ⟨gN,hgg⟩ : ∃ g,g = w1.heap.size:=⟨_,rfl⟩
      rw [← hgg] at hn2 hgN ⊢
      clear hgg
      refine M3.mix_step [12] (by kernel_rfl) (by simp) ?_
      intro w3 hC3 hb3 i hi
      simp only [nqj,nqk,or_false] at hi
      have hn3:=hn2.adv hb3
      clear hn2
      subst hi
      have z0:=hn3.cell 0
      have z1:=hn3.cell 1
      have z2:=hn3.cell 2
      have z3:=hn3.cell 3
      have z4:=hn3.cell 4
      have z5:=hn3.cell 5
      simp only [nqg,nqh,nqi] at z0 z1 z2 z3 z4 z5
      have f0:=hn3.frozen 0
      have f1:=hn3.frozen 1
      have f2:=hn3.frozen 2
      have f3:=hn3.frozen 3
      have f4:=hn3.frozen 4
      have f5:=hn3.frozen 5
      have lN:=hn3.lt
      have hg:World.grownBy w3 ((((((w3.setCell ⟨gN,0,none⟩ (.string wg.code)).setCell ⟨gN,1,none⟩ (.int .i64 wg.kind)).setCell ⟨gN,2,none⟩ (.bool wg.taxable)).setCell ⟨gN,3,none⟩ (.bool wg.insured)).setCell ⟨gN,4,none⟩ (.bool wg.attachable)).setCell ⟨gN,5,none⟩ (.int .i64 wg.account)) (some gN):=(only_setCell (p:=⟨gN,5,none⟩) (only_setCell (p:=⟨gN,4,none⟩) (only_setCell (p:=⟨gN,3,none⟩) (only_setCell (p:=⟨gN,2,none⟩) (only_setCell (p:=⟨gN,1,none⟩) (only_setCell (p:=⟨gN,0,none⟩) (only_refl w3 (some gN)) (.inl rfl) (.string wg.code)) (.inl rfl) (.int .i64 wg.kind)) (.inl rfl) (.bool wg.taxable)) (.inl rfl) (.bool wg.insured)) (.inl rfl) (.bool wg.attachable)) (.inl rfl) (.int .i64 wg.account))
      have hCn:=hC3.trans (only_below hg hC3.size (fun q hq=>by injection hq; omega))
      refine M3.mix_skip ((((((w3.setCell ⟨gN,0,none⟩ (.string wg.code)).setCell ⟨gN,1,none⟩ (.int .i64 wg.kind)).setCell ⟨gN,2,none⟩ (.bool wg.taxable)).setCell ⟨gN,3,none⟩ (.bool wg.insured)).setCell ⟨gN,4,none⟩ (.bool wg.attachable)).setCell ⟨gN,5,none⟩ (.int .i64 wg.account)) rfl rfl (by go_simp) ⟨hCn,?_⟩
      simp only [Act.put,nqa,nqb,nqc]
      have hn4:=hn3.fill [.string wg.code,.int .i64 wg.kind,.bool wg.taxable,.bool wg.insured,.bool wg.attachable,.int .i64 wg.account] rfl
      simp only [putAll,Nat.zero_add,Nat.reduceAdd] at hn4
      clear z0 z1 z2 z3 z4 z5 f0 f1 f2 f3 f4 f5 lN hg
      generalize ((((((w3.setCell ⟨gN,0,none⟩ (.string wg.code)).setCell ⟨gN,1,none⟩ (.int .i64 wg.kind)).setCell ⟨gN,2,none⟩ (.bool wg.taxable)).setCell ⟨gN,3,none⟩ (.bool wg.insured)).setCell ⟨gN,4,none⟩ (.bool wg.attachable)).setCell ⟨gN,5,none⟩ (.int .i64 wg.account)) = w4 at hn4 hCn ⊢
      have hC4:=hCn
      clear hCn hn3
      refine M3.mix_step [13] (by kernel_rfl) (by simp) ?_
      intro w5 hC5 hb5 i hi
      simp only [nqj,nqk,or_false] at hi
      have hn5:=hn4.adv hb5
      clear hn4
      subst hi
      refine M3.mix_val (.bool bo) w5 rfl rfl rfl ⟨hC5,?_⟩
      simp only [Act.put,nqa,nqb,nqc,nqd,nqe,nqf]
      refine M3.mix_end (by kernel_rfl) ?_
      intro w6 hC6 hb6
      refine hQ0 _ _ ?_
      have hfn:=hn5.adv hb6
      have hfc:=hfn.cell 1
      simp only [nqg,nqh,nqi] at hfc
      have hfin:∃ g,Value.pointer (some ⟨gN,0,none⟩) = .pointer (some ⟨g,0,none⟩)∧World.cell? w6 ⟨g,1,none⟩ = some (.int .i64 wg.kind)∧g < w6.heap.size∧Below wr.heap.size wr w6:=⟨gN,rfl,hfc,hfn.lt,hC6⟩
      have HFIN:=Lib.hid hfin
      clear hfin hfn hfc hn5
      go_wp2_with fail
      go_meet
      exact HFIN.out
   obtain ⟨g,rfl,hgk,hgl,hb3⟩:=hcut
   rename World=>w4
   have hO4:=hO.adv hb3
   have hM4:=hM.adv hb3
   have hb4:Below W.heap.size W w4:=bel_adv hb1 hb3
   have hbs4:=hb4.size
   have c0:=(hb3.cell (p:=⟨mb,mo+k * 2,none⟩) hmb').trans e0
   have c1:=(hb3.cell (p:=⟨mb,mo+k * 2+1,none⟩) hmb').trans e1
   have hmb4:mb < w4.heap.size:=by have:=hb3.size; omega
   clear hO hM e0 e1 z0 hb1 hb3 HFD1 HFD hbs1
   by_cases hk1:wg.kind = 1
   ·
    have hkb:(wg.kind == 1) = true:=by simp [hk1]
    rw [hk1] at hew
    simp only [decide_true] at hew
    clear hk1
    have hy1:((I.merged.take (k+1)).filter (earnB r.ws)) = (I.merged.take k).filter (earnB r.ws)++[I.merged[k]]:=by
     rw [List.take_succ_eq_append_getElem hlt,List.filter_append]; simp [hew]
    have hy2:((I.merged.take (k+1)).filter (fun x=>!earnB r.ws x)) = (I.merged.take k).filter (fun x=>!earnB r.ws x):=by
     rw [List.take_succ_eq_append_getElem hlt,List.filter_append]; simp [hew]
    have HY1:=Lib.hid hy1
    have HY2:=Lib.hid hy2
    clear hy1 hy2 hew
    have hfl:=List.length_filter_le (earnB r.ws) (I.merged.take k)
    have hfl2:(I.merged.take k).length≤k:=by simp; omega
    go_wp2_with (at_builtin; (refine wpList_append_one_at _ _ 79 I.merged[k] _ 24 _ infoE Tryz.underlying79 hO4 encE_len (by omega) rfl (encE_one _) (by omega) (by omega) (by omega) (by rfl) (by rfl) (by rfl) (by rfl) (by simp) (by rfl) ?_); intro v5 w5 hN5 hg5 hvo)
    have hb5:Below W.heap.size W w5:=hb4.trans (only_below hg5 hb4.size (fun q hq=>(hO4.block_lt hq).1))
    have hoth5:=hM4.kept_ne hg5 (fun q hq e=>hAp.out q e hq)
    have hap5:Apart v5 u21:=by
     intro q hq hq2
     rcases hvo with e | e
     ·
      rw [e] at hq; exact hAp.out q hq hq2
     ·
      rw [e] at hq
      injection hq with e2
      have:=(hM4.block_lt hq2).2
      omega
    go_roundw
    case rel =>
     have hfin:∃ k':Nat,k'≤I.merged.length∧Value.int .i64 ((k:Int)+1) = .int .i64 k'∧Own encE 2 109 w5 W.heap.size v5 ((I.merged.take k').filter (earnB r.ws))∧Own encE 2 109 w5 W.heap.size u21 ((I.merged.take k').filter (fun x=>!earnB r.ws x))∧Hid (Apart v5 u21)∧Below W.heap.size W w5:=⟨k+1,by omega,by go_num,by rw [HY1.out]; exact hN5,by rw [HY2.out]; exact hoth5,hap5,hb5⟩
     first | exact hfin | ((repeat apply Exists.intro); exact ⟨hfin,rfl⟩)
    case measure=>simp [intOf]; omega
   ·
    have hkb:(wg.kind == 1) = false:=by rw [beq_eq_false_iff_ne]; exact hk1
    have hew':earnB r.ws I.merged[k] = false:=by rw [hew]; simp [hk1]
    clear hew
    have hew:=hew'
    clear hew' hk1
    have hy1:((I.merged.take (k+1)).filter (earnB r.ws)) = (I.merged.take k).filter (earnB r.ws):=by
     rw [List.take_succ_eq_append_getElem hlt,List.filter_append]; simp [hew]
    have hy2:((I.merged.take (k+1)).filter (fun x=>!earnB r.ws x)) = (I.merged.take k).filter (fun x=>!earnB r.ws x)++[I.merged[k]]:=by
     rw [List.take_succ_eq_append_getElem hlt,List.filter_append]; simp [hew]
    have HY1:=Lib.hid hy1
    have HY2:=Lib.hid hy2
    clear hy1 hy2 hew
    have hfl:=List.length_filter_le ((fun x=>!earnB r.ws x)) (I.merged.take k)
    have hfl2:(I.merged.take k).length≤k:=by simp; omega
    go_wp2_with (at_builtin; (refine wpList_append_one_at _ _ 79 I.merged[k] _ 24 _ infoE Tryz.underlying79 hM4 encE_len (by omega) rfl (encE_one _) (by omega) (by omega) (by omega) (by rfl) (by rfl) (by rfl) (by rfl) (by simp) (by rfl) ?_); intro v5 w5 hN5 hg5 hvo)
    have hb5:Below W.heap.size W w5:=hb4.trans (only_below hg5 hb4.size (fun q hq=>(hM4.block_lt hq).1))
    have hoth5:=hO4.kept_ne hg5 (fun q hq e=>hAp.out q hq e)
    have hap5:Apart u20 v5:=by
     intro q hq hq2
     rcases hvo with e | e
     ·
      rw [e] at hq2; exact hAp.out q hq hq2
     ·
      rw [e] at hq2
      injection hq2 with e2
      have:=(hO4.block_lt hq).2
      omega
    go_roundw
    case rel =>
     have hfin:∃ k':Nat,k'≤I.merged.length∧Value.int .i64 ((k:Int)+1) = .int .i64 k'∧Own encE 2 109 w5 W.heap.size u20 ((I.merged.take k').filter (earnB r.ws))∧Own encE 2 109 w5 W.heap.size v5 ((I.merged.take k').filter (fun x=>!earnB r.ws x))∧Hid (Apart u20 v5)∧Below W.heap.size W w5:=⟨k+1,by omega,by go_num,by rw [HY1.out]; exact hoth5,by rw [HY2.out]; exact hN5,hap5,hb5⟩
     first | exact hfin | ((repeat apply Exists.intro); exact ⟨hfin,rfl⟩)
    case measure=>simp [intOf]; omega
  ·
   obtain rfl:k = I.merged.length:=by omega
   rw [List.take_length] at hO hM
   have hO':Own encE 2 109 wr W.heap.size u20 I.earn:=by rw [NetIn.earn,HWS.out]; exact hO
   have hM':Own encE 2 109 wr W.heap.size u21 I.bene:=by rw [NetIn.bene,HWS.out]; exact hM
   obtain ⟨A0,c0,rfl,hS3,_,_⟩:=hO'.form encE_len
   obtain ⟨A1,c1,rfl,hS4,_,_⟩:=hM'.form encE_len
   have l0:I.earn.length≤1000:=Nat.le_trans (List.length_filter_le _ _) hml
   have l1:I.bene.length≤1000:=Nat.le_trans (List.length_filter_le _ _) hml
   clear hO hM hO' hM' hAp HFD HEW
   go_wp2_with fail
   refine HK.out _ _ ?_
   exact cmp_p3a w wr gr gp gy gs gn gb r p y I Ak A0 A1 kc c0 c1 fi _ _ _ _ _ _ _ _ _ _ _ _ _ _ _ _ _ _ _ _ _ _ _ _ _ _ _ _ _ _ _ _ _ _ _ _ _ _ _ _ _ _ _ _ _ _ _ _ _ _ _ _ _ _ _ _ _ _ _ _ _ _ _ _ _ _ _ _ _ _ _ _ _ _ _ _ _ _ _ _ _ _ _ _ _ _ _ _ _ _ _ _ _ _ _ _ _ _ _ _ _ _ _ _ _ _ _ _ _ _ _ _ _ _ _ _ _ _ _ _ _ _ _ _ _ _ _ _ _ _ _ _ _ _ _ _ _ _ _ _ _ _ _ _ _ _ _ _ _ _ _ _ _ _ _ _ _ _ _ _ _ _ _ _ _ _ _ _ _ _ _ _ _ _ _ _ _ _ _ _ _ _ _ _ _ _ _ _ _ _ _ _ _ _ _ _ _ _ _ _ _ _ _ _ _ _ _ _ _ _ _ _ _ _ _ _ _ _ _ _ _ _ _ _ _ _ _ _ _ _ _ _ _ _ _ _ _ _ _ _ _ _ _ _ _ _ _ _ _ _ _ _ _ _ _ _ _ _ _ _ _ _ _ _ _ _ _ _ _ _ _ _ _ _ _ _ _ _ _ _ _ _ _ _ _ _ _ _ _ _ _ _ _ _ _ _ _ _ _ _ _ _ _ _ _ _ _ _ _ _ _ _ _ _ _ _ _ _ _ _ _ _ _ _ _ _ _ _ _ _ _ _ _ _ _ _ _ _ _ _ _ _ _ _ _ _ _ _ _ _ _ _ _ _ _ _ _ _ _ _ _ _ _ _ _ _ _ _ _ _ _ _ _ _ _ _ _ _ _ _ _ _ _ _ _ _ _ _ _ _ _ _ _ _ _ _ _ _ _ _ _ _ (bel_adv hbel hb1) (hBy.adv hb1) (hBs.adv hb1) (hBn.adv hb1) hgs hgn hne HFI.out (hBr.adv hb1) (hBp.adv hb1) (HBB.out.adv hb1) HIR.out HIP.out HIY.out (hrs.adv hb1) (hps.adv hb1) (hys.adv hb1) (hk.adv hb1) HPER.out HOF.out HOK.out hS3 hS4 l0 l1
end Go.Proofs.YtjncpgbhokjbfaaGreat
