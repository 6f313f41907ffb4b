/- Joined texts: Cmp3a. Conditions: as stated. -/
import Derived.Test.YtjncpgbhokjbfaaGreatJ41
namespace Go.Proofs.YtjncpgbhokjbfaaGreat
open Go.RowKit
set_option maxRecDepth 100000 in
set_option maxHeartbeats 8000000 in
theorem cmp_p3a (w W : World) (gr gp gy gs gn gb : Nat) (r:RulesM) (p:PersonM) (y:YearM) (I:NetIn) (Ak A0 A1 : Option Addr) (kc c0 c1 : Nat) (fi:Bool)
  (x0 x1 x2 x5 x9 x10 x11 x14 x15 x17 x18 x19 x22 x23 x24 x25 x26 x27 x28 x29 x30 x31 x32 x33 x34 x35 x36 x37 x38 x39 x40 x41 x42 x43 x44 x45 x46 x47 x48 x49 x50 x51 x52 x53 x54 x55 x56 x57 x58 x59 x60 x61 x62 x63 x64 x65 x66 x67 x68 x69 x70 x71 x72 x73 x74 x75 x76 x77 x78 x79 x80 x81 x82 x83 x84 x85 x86 x87 x88 x89 x90 x91 x92 x93 x94 x95 x96 x97 x98 x99 x100 x101 x102 x103 x104 x105 x106 x107 x108 x109 x110 x111 x112 x113 x114 x115 x116 x117 x118 x119 x120 x121 x122 x123 x124 x125 x126 x127 x128 x129 x130 x131 x132 x133 x134 x135 x136 x137 x138 x139 x140 x141 x142 x143 x144 x145 x146 x147 x148 x149 x150 x151 x152 x153 x154 x155 x156 x157 x158 x159 x160 x161 x162 x163 x164 x165 x166 x167 x168 x169 x170 x171 x172 x173 x174 x175 x176 x177 x178 x179 x180 x181 x182 x183 x184 x185 x186 x187 x188 x189 x190 x191 x192 x193 x194 x195 x196 x197 x198 x199 x200 x201 x202 x203 x204 x205 x206 x207 x208 x209 x210 x211 x212 x213 x214 x215 x216 x217 x218 x219 x220 x221 x222 x223 x224 x225 x226 x227 x228 x229 x230 x231 x232 x233 x234 x235 x236 x237 x238 x239 x240 x241 x242 x243 x244 x245 x246 x247 x248 x249 x250 x251 x252 x253 x254 x255 x256 x257 x258 x259 x260 x261 x262 x263 x264 x265 x266 x267 x268 x269 x270 x271 x272 x273 x274 x275 x276 x277 x278 x279 x280 x281 x282 x283 x284 x285 x286 x287 x288 x289 x290 x291 x292 x293 x294 x295 x296 x297 x298 x299 x300 x301 x302 x303 x304 x305 x306 x307 x308 x309 x310 x311 x312 x313 x314 x315 x316 x317 x318 x319 x320 x321 x322 x323 x324 x325 x326 x327 x328 x329 x330 x331 x332 x333 x334 x335 x336 x337 x338 x339 x340 x341 x342 x343 x344 x345 x346 x347 x348 x349 x350 x351 x352 x353 x354 x355 x356 x357 x358 x359 x360 x361 x362 x363 x364 x365 x366 x367 x368 x369 x370 x371 x372 x373 x374 x375 x376 x377 x378 x379 x380 x381 x382 x383 x384 x385 x386 x387 x388 x389 x390 x391 x392 x393 x394 x395 x396 x397 x398 x399 x400 x401 x402 x403 x404 x405 x406 x407 x408 x409 x410 x411:Value)
  (hbel:Below w.heap.size w W) (hBy:Blk W gy 81 #[.int .i64 y.periods,.int .i64 y.income,.int .i64 y.withheld,.slice y.Ai y.ins.length y.ci,.slice y.At y.taken.length y.ct]) (hBs:Blk W gs 41 #[.int .i64 0,.int .i64 0,.int .i64 0,.int .i64 0,.int .i64 0,.int .i64 0,.slice none 0 0]) (hBn:Blk W gn 81 #[.int .i64 0,.int .i64 0,.int .i64 0,.slice none 0 0,.slice none 0 0]) (hgs:w.heap.size≤gs) (hgn:w.heap.size≤gn) (hne:gs ≠ gn) (hfi:I.first = fi) (hBr:Blk W gr 73 #[.slice r.Aw r.ws.length r.cw,.slice r.As r.ss.length r.cs,.int .i64 r.tm.t.method,.slice r.tm.Ab r.tm.t.brs.length r.tm.cb,.int .i64 r.tm.t.allowance,.int .i64 r.tm.t.credit,.int .i64 r.tm.t.unit,.int .i64 r.tm.t.mode,.slice r.tm.Ar r.tm.t.rows.length r.tm.cr,.int .i64 r.count,.int .i64 r.sh.fixed,.int .i64 r.sh.dependent,.int .i64 r.sh.lower,.int .i64 r.sh.share,.int .i64 r.sh.top,.int .i64 r.recover]) (hBp:Blk W gp 78 #[.int .i64 p.deps,.slice p.Ad p.ds.length p.cd,.slice p.Ao p.os.length p.co,.slice p.Ae p.es.length p.ce]) (hBb:Blk W gb 38 (encBas I.b).toArray) (hIr:I.r = r.t) (hIp:I.p = p.t) (hIy:I.y = y.t) (hrs:r.In W) (hps:p.In W) (hys:y.In W) (hk:SliceOf encE 2 W W.heap.size Ak I.kept) (hper:I.y.periods < I.r.count) (hof:ofErr I.r.wages I.e (sumsP I.e) = 0) (hok:InOk I) (h0:SliceOf encE 2 W W.heap.size A0 I.earn) (h1:SliceOf encE 2 W W.heap.size A1 I.bene) (l0:I.earn.length≤1000) (l1:I.bene.length≤1000) :
  Code.wp Tryz.prog (dropC 7 (bodyOf Tryz.f27)) (bodyPost Tryz.prog Tryz.f27 (SlipPost I w)) { tmps:=List.toArray (x0::x1::x2::(.slice Ak I.kept.length kc)::(.bool fi)::x5::(.pointer (some ⟨gr,0,none⟩))::(.pointer (some ⟨gp,0,none⟩))::(.pointer (some ⟨gy,0,none⟩))::x9::x10::x11::(.pointer (some ⟨gs,0,none⟩))::(.pointer (some ⟨gn,0,none⟩))::x14::x15::(.pointer (some ⟨gb,0,none⟩))::x17::x18::x19::(.slice A0 I.earn.length c0)::(.slice A1 I.bene.length c1)::x22::x23::x24::x25::x26::x27::x28::x29::x30::x31::x32::x33::x34::x35::x36::x37::x38::x39::x40::x41::x42::x43::x44::x45::x46::x47::x48::x49::x50::x51::x52::x53::x54::x55::x56::x57::x58::x59::x60::x61::x62::x63::x64::x65::x66::x67::x68::x69::x70::x71::x72::x73::x74::x75::x76::x77::x78::x79::x80::x81::x82::x83::x84::x85::x86::x87::x88::x89::x90::x91::x92::x93::x94::x95::x96::x97::x98::x99::x100::x101::x102::x103::x104::x105::x106::x107::x108::x109::x110::x111::x112::x113::x114::x115::x116::x117::x118::x119::x120::x121::x122::x123::x124::x125::x126::x127::x128::x129::x130::x131::x132::x133::x134::x135::x136::x137::x138::x139::x140::x141::x142::x143::x144::x145::x146::x147::x148::x149::x150::x151::x152::x153::x154::x155::x156::x157::x158::x159::x160::x161::x162::x163::x164::x165::x166::x167::x168::x169::x170::x171::x172::x173::x174::x175::x176::x177::x178::x179::x180::x181::x182::x183::x184::x185::x186::x187::x188::x189::x190::x191::x192::x193::x194::x195::x196::x197::x198::x199::x200::x201::x202::x203::x204::x205::x206::x207::x208::x209::x210::x211::x212::x213::x214::x215::x216::x217::x218::x219::x220::x221::x222::x223::x224::x225::x226::x227::x228::x229::x230::x231::x232::x233::x234::x235::x236::x237::x238::x239::x240::x241::x242::x243::x244::x245::x246::x247::x248::x249::x250::x251::x252::x253::x254::x255::x256::x257::x258::x259::x260::x261::x262::x263::x264::x265::x266::x267::x268::x269::x270::x271::x272::x273::x274::x275::x276::x277::x278::x279::x280::x281::x282::x283::x284::x285::x286::x287::x288::x289::x290::x291::x292::x293::x294::x295::x296::x297::x298::x299::x300::x301::x302::x303::x304::x305::x306::x307::x308::x309::x310::x311::x312::x313::x314::x315::x316::x317::x318::x319::x320::x321::x322::x323::x324::x325::x326::x327::x328::x329::x330::x331::x332::x333::x334::x335::x336::x337::x338::x339::x340::x341::x342::x343::x344::x345::x346::x347::x348::x349::x350::x351::x352::x353::x354::x355::x356::x357::x358::x359::x360::x361::x362::x363::x364::x365::x366::x367::x368::x369::x370::x371::x372::x373::x374::x375::x376::x377::x378::x379::x380::x381::x382::x383::x384::x385::x386::x387::x388::x389::x390::x391::x392::x393::x394::x395::x396::x397::x398::x399::x400::x401::x402::x403::x404::x405::x406::x407::x408::x409::x410::x411::[]),defers:=[] } W:=by
 conv=>enter [2]; whnf
 have htk:=hok.take1 hof
 have hab5:=amts_bd (ofErr_inv hof).2.2.2
 have c0' : -1000000000≤I.b.c:=hab5.2.1.1
 have c1':I.b.c≤1000000000:=hab5.2.1.2
 have t0 : -1000000000≤I.b.t:=hab5.2.2.1.1
 have t1:I.b.t≤1000000000:=hab5.2.2.1.2
 have i0 : -1000000000≤I.b.i:=hab5.2.2.2.1.1
 have i1:I.b.i≤1000000000:=hab5.2.2.2.1.2
 have htf:=take_facts (before:=true) htk
 have s0:0≤sumE I.before:=htf.2.2.1
 have s1:sumE I.before≤max I.b.c 0:=htf.2.2.2.1
 have s2:sumE I.before≤1000000000:=by omega
 have HBF:Hid (∀ x ∈ I.before,0≤x.amount∧x.amount≤1000000000):=fun x hx=>(htf.2.1 x hx).2
 have lbf:I.before.length≤16:=htf.2.2.2.2
 have hpd:I.p.deds = p.ds:=by rw [hIp]; rfl
 have hyt:I.y.taken = y.taken:=by rw [hIy]; rfl
 have hded:validD p.ds = true:=by rw [← hpd]; exact hok.p.deds
 have hrec:recB y.taken = true:=by rw [← hyt]; exact hok.y.taken
 have HTK:Hid (∀ W',Below W.heap.size W W'→Calls Tryz.prog 54 #[.slice p.Ad p.ds.length p.cd,.bool true,.int .i64 I.base,.int .i64 (max I.b.c 0),.slice y.At y.taken.length y.ct] W' (EPost I.before 0 W')):=fun W' hb=>by
  have:=take27_any p.Ad y.At p.cd y.ct p.ds y.taken true I.base (max I.b.c 0) W' (hps.ds.adv hb) (ded_size hded).2 (by have:=(ded_size hded).1; omega) (hys.taken.adv hb) (rec_size hrec).2 (by have:=(rec_size hrec).1; omega)
  rw [← hpd,← hyt,htk] at this
  rw [← hpd,← hyt]
  exact this
 have HBA:Hid (I.base = max I.b.c 0):=rfl
 have HIN:Hid (I.insured = max I.b.i 0):=rfl
 have HL1:Hid (I.b.c - sumE I.before = I.left1):=rfl
 have hB5:Blk W gb 38 #[.int .i64 I.b.g,.int .i64 I.b.c,.int .i64 I.b.t,.int .i64 I.b.i,.int .i64 I.b.a]:=hBb
 have HPRE:Hid (Pre2 I):=⟨hper,hof,htk⟩
 have HOK:=Lib.hid hok
 have HIR:=Lib.hid hIr
 have HIP:=Lib.hid hIp
 have HIY:=Lib.hid hIy
 have HBB:=Lib.hid hBb
 have HFI:=Lib.hid hfi
 clear hok hIr hIp hIy hBb hfi hab5 htf htk hper hof hpd hyt hded hrec s1
 have v0:=hB5.cell 0
 have v1:=hB5.cell 1
 have v2:=hB5.cell 2
 have v3:=hB5.cell 3
 have v4:=hB5.cell 4
 simp only [nqg,nqh,nqi] at v0 v1 v2 v3 v4
 -- left,base
 refine wp_stmt fun K HK=>?_
 go_cut [25,26] from 104 to 108 (fun v25 v26 wx=>v25 = .int .i64 I.b.c∧v26 = .int .i64 I.base∧Below W.heap.size W wx)
 case first =>
  as_aux_lemma =>
   clear HK h0 h1 hk hys hps hBy hBp hBs hBn hbel HTK HPRE HOK HIR HIP HIY HBB HFI hB5 hrs hBr
   by_cases hc:0≤I.b.c
   ·
    have HE:Hid (I.base = I.b.c):=by rw [Hid,HBA.out]; omega
    clear HBA
    go_quiet (fail)
    go_wp2_with fail
    go_meet
    exact ⟨rfl,by rw [HE.out],below_drewN (Below.refl _ _) _⟩
   ·
    have HE:Hid (I.base = 0):=by rw [Hid,HBA.out]; omega
    clear HBA
    go_quiet (fail)
    go_wp2_with fail
    go_meet
    exact ⟨rfl,by rw [HE.out],below_drewN (Below.refl _ _) _⟩
 obtain ⟨rfl,rfl,hb1⟩:=hcut
 rename World=>W1
 refine HK.out _ _ ?_
 clear HK K v0 v1 v2 v3 v4
 -- before,f:=Take(..)
 have hBp1:=hBp.adv hb1
 have hBy1:=hBy.adv hb1
 have p0:=hBp1.cell 0
 have p1:=hBp1.cell 1
 have p2:=hBp1.cell 2
 have p3:=hBp1.cell 3
 simp only [nqg,nqh,nqi] at p0 p1 p2 p3
 have y0:=hBy1.cell 0
 have y1:=hBy1.cell 1
 have y2:=hBy1.cell 2
 have y3:=hBy1.cell 3
 have y4:=hBy1.cell 4
 simp only [nqg,nqh,nqi] at y0 y1 y2 y3 y4
 refine wp_stmt fun K HK=>?_
 go_cut [17,27] from 109 to 119 (fun v17 v27 wx=>∃ A2 c2,v17 = .int .i64 0∧v27 = .slice A2 I.before.length c2∧SliceOf encE 2 wx wx.heap.size A2 I.before∧Below W.heap.size W wx)
 case first =>
  as_aux_lemma =>
   have HT1:=Lib.hid (HTK.out W1 hb1)
   clear HK h0 h1 hk hys hps hBy hBp hBs hBn hbel HTK HPRE HOK HIR HIP HIY HBB HFI hB5 hrs hBr hBp1 hBy1
   by_cases hc:0≤I.b.c
   ·
    have e:max I.b.c 0 = I.b.c:=by omega
    rw [e] at HT1
    clear e HBA
    go_wp2_with fail
    refine Calls.mono HT1.out ?_
    rintro e w3 ⟨A6,c6,rfl,hS6,h61,h62,hb3⟩
    go_wp2_with fail
    go_meet
    exact ⟨A6,c6,rfl,rfl,hS6,bel_adv hb1 hb3⟩
   ·
    have e:max I.b.c 0 = 0:=by omega
    rw [e] at HT1
    clear e HBA
    go_wp2_with fail
    refine Calls.mono HT1.out ?_
    rintro e w3 ⟨A6,c6,rfl,hS6,h61,h62,hb3⟩
    go_wp2_with fail
    go_meet
    exact ⟨A6,c6,rfl,rfl,hS6,bel_adv hb1 hb3⟩
 obtain ⟨A2,c2,rfl,rfl,hS2,hb2⟩:=hcut
 rename World=>W2
 refine HK.out _ _ ?_
 clear HK K hb1 hBp1 hBy1 p0 p1 p2 p3 y0 y1 y2 y3 y4 HTK
 -- no error
 refine wp_stmt fun K HK=>?_
 go_wp2_with fail
 refine HK.out _ _ ?_
 clear HK K
 -- left -= Sum(before)
 have HSU:Hid (∀ W',Below W2.heap.size W2 W'→Calls Tryz.prog 55 #[.slice A2 I.before.length c2] W' fun e w'=>e = .returned (.int .i64 (sumE I.before))∧W' = w'):=fun W' hb=>sum27_any A2 c2 I.before W' _ (hS2.adv hb) (by omega) (fun x hx=>by have:=HBF.out x hx; omega)
 refine wp_stmt fun K HK=>?_
 go_wp2_with fail
 refine Calls.mono (HSU.out _ (Below.refl _ _)) ?_
 rintro e w' ⟨rfl,rfl⟩
 go_wp2_with fail
 refine HK.out _ _ ?_
 clear HK K
 rw [HL1.out]
 -- income
 have hB6:=hB5.adv hb2
 have v0:=hB6.cell 0
 have v1:=hB6.cell 1
 have v2:=hB6.cell 2
 have v3:=hB6.cell 3
 have v4:=hB6.cell 4
 simp only [nqg,nqh,nqi] at v0 v1 v2 v3 v4
 refine wp_stmt fun K HK=>?_
 go_cut [28] from 129 to 133 (fun v28 wx=>v28 = .int .i64 (I.b.t - sumE I.before)∧Below W2.heap.size W2 wx)
 case first =>
  as_aux_lemma =>
   clear HK h0 h1 hk hys hps hBy hBp hBs hBn hbel HPRE HOK HIR HIP HIY HBB HFI hB5 hrs hBr hS2 hB6
   have HSU2:Hid (∀ n,Calls Tryz.prog 55 #[.slice A2 I.before.length c2] (W2.drewN n) fun e w'=>e = .returned (.int .i64 (sumE I.before))∧w' = W2.drewN n):=fun n=>(HSU.out _ (below_drewN (Below.refl _ _) n)).mono fun e w' ⟨h1,h2⟩=>⟨h1,h2.symm⟩
   go_quiet ((go_at_call 55; exact Calls.quiet_of_same (HSU2.out _)))
   go_wp2_with fail
   go_meet
   exact ⟨rfl,below_drewN (Below.refl _ _) _⟩
 obtain ⟨rfl,hb3⟩:=hcut
 rename World=>W3
 refine HK.out _ _ ?_
 clear HK K v0 v1 v2 v3 v4 HSU
 have hb23:Below W.heap.size W W3:=bel_adv hb2 hb3
 have hB7:=hB5.adv hb23
 have v0:=hB7.cell 0
 have v1:=hB7.cell 1
 have v2:=hB7.cell 2
 have v3:=hB7.cell 3
 have v4:=hB7.cell 4
 simp only [nqg,nqh,nqi] at v0 v1 v2 v3 v4
 -- insured
 refine wp_stmt fun K HK=>?_
 go_cut [29] from 134 to 136 (fun v29 wx=>v29 = .int .i64 I.insured∧wx = W3)
 case first =>
  as_aux_lemma =>
   clear HK h0 h1 hk hys hps hBy hBp hBs hBn hbel HPRE HOK HIR HIP HIY HBB HFI hB5 hrs hBr hS2 hB6 hB7
   by_cases hc:0≤I.b.i
   ·
    have HE:Hid (I.insured = I.b.i):=by rw [Hid,HIN.out]; omega
    clear HIN
    go_wp2_with fail
    go_meet
    exact ⟨by rw [HE.out],rfl⟩
   ·
    have HE:Hid (I.insured = 0):=by rw [Hid,HIN.out]; omega
    clear HIN
    go_wp2_with fail
    go_meet
    exact ⟨by rw [HE.out],rfl⟩
 obtain ⟨rfl,rfl⟩:=hcut
 refine HK.out _ _ ?_
 clear HK K v0 v1 v2 v3 v4 hB6 hB7
 -- all employments
 have hBp3:=hBp.adv hb23
 have hBy3:=hBy.adv hb23
 have p3:=hBp3.cell 3
 have y3:=hBy3.cell 3
 simp only [nqg,nqh,nqi] at p3 y3
 have lp:=hBp3.lt
 have ly:=hBy3.lt
 have hlit:=Own.lit (base:=wc.heap.size) encEm_len wc [⟨y.Ai,y.ci,y.ins,I.insured⟩] #[.slice y.Ai y.ins.length y.ci,.int .i64 I.insured] 119 rfl (by simp) (Nat.le_refl _)
 have hoth:=hps.es.adv (bel_adv hb23 (below_new wc (.cells #[.slice y.Ai y.ins.length y.ci,.int .i64 I.insured] 119)))
 have hpl:p.es.length≤7:=by have:=HOK.out.p.nothers; rw [HIP.out] at this; simpa [PersonM.t] using this
 simp only [List.length_cons,List.length_nil] at hlit
 refine wp_stmt fun K HK=>?_
 go_wp2_with (at_builtin; (refine wpList_append_list (ys:=p.es) _ _ 76 _ 32 _ infoEm Tryz.underlying76 hlit hoth encEm_len (by omega) rfl encEm_one (by simp; omega) (by omega) (by rw [World.size_alloc]; omega) (by rfl) (by rfl) (by rfl) (by rfl) (by simp) ?_); intro v9 w9 hown9 hg9)
 refine HK.out _ _ ?_
 clear HK K p3 y3 lp ly hBp3 hBy3
 have hb9:Below wc.heap.size wc w9:=(below_new wc _).trans (only_below hg9 (by rw [World.size_alloc]; omega) (fun q hq=>(hlit.block_lt hq).1))
 have hb4:Below W.heap.size W w9:=bel_adv hb23 hb9
 obtain ⟨A9,c9,rfl,hS9,_,_⟩:=hown9.form encEm_len
 clear hg9 hlit hoth hown9
 -- own,employer,levies
 refine wp_stmt fun K HK=>?_
 go_wp2_with fail
 refine HK.out _ _ ?_
 clear HK K
 refine wp_stmt fun K HK=>?_
 go_wp2_with fail
 refine HK.out _ _ ?_
 clear HK K
 have hjobs:([⟨y.Ai,y.ci,y.ins,I.insured⟩]++p.es:List EmpC).map EmpC.v = I.jobs:=by
  rw [NetIn.jobs,HIY.out,HIP.out]; rfl
 have hin:∀ e ∈ ([⟨y.Ai,y.ci,y.ins,I.insured⟩]++p.es:List EmpC),SliceOf encI 1 w9 w9.heap.size e.A e.l:=fun e he=>by
  rcases List.mem_append.1 he with h | h
  ·
   simp at h; subst h; exact hys.ins.adv hb4
  ·
   exact (hps.ins e h).adv hb4
 exact cmp_p3b w w9 gr gp gy gs gn gb r p y I Ak A0 A1 A2 A9 kc c0 c1 c2 c9 _ fi _ _ _ _ _ _ _ _ _ _ _ _ _ _ _ _ _ _ _ _ _ _ _ _ _ _ _ _ _ _ _ _ _ _ _ _ _ _ _ _ _ _ _ _ _ _ _ _ _ _ _ _ _ _ _ _ _ _ _ _ _ _ _ _ _ _ _ _ _ _ _ _ _ _ _ _ _ _ _ _ _ _ _ _ _ _ _ _ _ _ _ _ _ _ _ _ _ _ _ _ _ _ _ _ _ _ _ _ _ _ _ _ _ _ _ _ _ _ _ _ _ _ _ _ _ _ _ _ _ _ _ _ _ _ _ _ _ _ _ _ _ _ _ _ _ _ _ _ _ _ _ _ _ _ _ _ _ _ _ _ _ _ _ _ _ _ _ _ _ _ _ _ _ _ _ _ _ _ _ _ _ _ _ _ _ _ _ _ _ _ _ _ _ _ _ _ _ _ _ _ _ _ _ _ _ _ _ _ _ _ _ _ _ _ _ _ _ _ _ _ _ _ _ _ _ _ _ _ _ _ _ _ _ _ _ _ _ _ _ _ _ _ _ _ _ _ _ _ _ _ _ _ _ _ _ _ _ _ _ _ _ _ _ _ _ _ _ _ _ _ _ _ _ _ _ _ _ _ _ _ _ _ _ _ _ _ _ _ _ _ _ _ _ _ _ _ _ _ _ _ _ _ _ _ _ _ _ _ _ _ _ _ _ _ _ _ _ _ _ _ _ _ _ _ _ _ _ _ _ _ _ _ _ _ _ _ _ _ _ _ _ _ _ _ _ _ _ _ _ _ _ _ _ _ _ _ _ _ _ _ _ _ _ _ _ _ _ _ _ _ _ _ _ _ _ _ _ _ _ _ _ _ _ _ _ _ _ _ _ _ _ _ _ (bel_adv hbel hb4) (hBy.adv hb4) (hBs.adv hb4) (hBn.adv hb4) hgs hgn hne HFI.out (hBr.adv hb4) (hBp.adv hb4) (HBB.out.adv hb4) HIR.out HIP.out HIY.out (hrs.adv hb4) (hps.adv hb4) (hys.adv hb4) (hk.adv hb4) hS9 hin hjobs HPRE.out HOK.out (h0.adv hb4) (h1.adv hb4) ((hS2.adv hb3).adv hb9) l0 l1
end Go.Proofs.YtjncpgbhokjbfaaGreat
