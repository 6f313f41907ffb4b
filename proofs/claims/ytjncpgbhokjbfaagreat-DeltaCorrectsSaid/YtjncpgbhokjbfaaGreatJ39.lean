/- Joined texts: Cmp4. Conditions: as stated. -/
import Derived.Test.YtjncpgbhokjbfaaGreatJ38
namespace Go.Proofs.YtjncpgbhokjbfaaGreat
open Go.RowKit
structure Pre3 (I:NetIn) : Prop where
 per:I.y.periods < I.r.count
 of_:ofErr I.r.wages I.e (sumsP I.e) = 0
 take:takeE I.p.deds I.base (max I.b.c 0) I.y.taken = 0
 over:I.overs = false
theorem Pre3.err {I:NetIn} (h:Pre3 I) (h4:amtB I.tax = false) : I.err = 4:=by
 have h1:=h.per
 unfold NetIn.err
 rw [if_neg (by omega),h.of_,if_neg (by simp),h.take,if_neg (by simp),h.over,if_neg (by simp),h4,if_pos rfl]
theorem Pre3.err2 {I:NetIn} (h:Pre3 I) (h4:amtB I.tax = true) (hn:I.first = true∧1000000000 < I.net) : I.err = 2:=by
 have h1:=h.per
 unfold NetIn.err
 rw [if_neg (by omega),h.of_,if_neg (by simp),h.take,if_neg (by simp),h.over,if_neg (by simp),h4,if_neg (by simp),if_pos hn]
set_option maxRecDepth 100000 in
set_option maxHeartbeats 8000000 in
theorem cmp_p4 (w W : World) (gr gp gy gs gn gb : Nat) (r:RulesM) (p:PersonM) (y:YearM) (I:NetIn) (Ak A0 A1 A2 A3 A4 : Option Addr) (kc c0 c1 c2 c3 c4 : Nat) (inc0:Int) (fi:Bool)
  (x0 x1 x2 x5 x9 x10 x11 x14 x15 x17 x18 x19 x22 x23 x24 x30 x34 x35 x36 x37 x38 x39 x40 x41 x42 x43 x44 x45 x46 x47 x48 x49 x50 x51 x52 x53 x54 x55 x56 x57 x58 x59 x60 x61 x62 x63 x64 x65 x66 x67 x68 x69 x70 x71 x72 x73 x74 x75 x76 x77 x78 x79 x80 x81 x82 x83 x84 x85 x86 x87 x88 x89 x90 x91 x92 x93 x94 x95 x96 x97 x98 x99 x100 x101 x102 x103 x104 x105 x106 x107 x108 x109 x110 x111 x112 x113 x114 x115 x116 x117 x118 x119 x120 x121 x122 x123 x124 x125 x126 x127 x128 x129 x130 x131 x132 x133 x134 x135 x136 x137 x138 x139 x140 x141 x142 x143 x144 x145 x146 x147 x148 x149 x150 x151 x152 x153 x154 x155 x156 x157 x158 x159 x160 x161 x162 x163 x164 x165 x166 x167 x168 x169 x170 x171 x172 x173 x174 x175 x176 x177 x178 x179 x180 x181 x182 x183 x184 x185 x186 x187 x188 x189 x190 x191 x192 x193 x194 x195 x196 x197 x198 x199 x200 x201 x202 x203 x204 x205 x206 x207 x208 x209 x210 x211 x212 x213 x214 x215 x216 x217 x218 x219 x220 x221 x222 x223 x224 x225 x226 x227 x228 x229 x230 x231 x232 x233 x234 x235 x236 x237 x238 x239 x240 x241 x242 x243 x244 x245 x246 x247 x248 x249 x250 x251 x252 x253 x254 x255 x256 x257 x258 x259 x260 x261 x262 x263 x264 x265 x266 x267 x268 x269 x270 x271 x272 x273 x274 x275 x276 x277 x278 x279 x280 x281 x282 x283 x284 x285 x286 x287 x288 x289 x290 x291 x292 x293 x294 x295 x296 x297 x298 x299 x300 x301 x302 x303 x304 x305 x306 x307 x308 x309 x310 x311 x312 x313 x314 x315 x316 x317 x318 x319 x320 x321 x322 x323 x324 x325 x326 x327 x328 x329 x330 x331 x332 x333 x334 x335 x336 x337 x338 x339 x340 x341 x342 x343 x344 x345 x346 x347 x348 x349 x350 x351 x352 x353 x354 x355 x356 x357 x358 x359 x360 x361 x362 x363 x364 x365 x366 x367 x368 x369 x370 x371 x372 x373 x374 x375 x376 x377 x378 x379 x380 x381 x382 x383 x384 x385 x386 x387 x388 x389 x390 x391 x392 x393 x394 x395 x396 x397 x398 x399 x400 x401 x402 x403 x404 x405 x406 x407 x408 x409 x410 x411:Value)
  (hbel:Below w.heap.size w W) (hBy:Blk W gy 81 #[.int .i64 y.periods,.int .i64 y.income,.int .i64 y.withheld,.slice y.Ai y.ins.length y.ci,.slice y.At y.taken.length y.ct]) (hBs:Blk W gs 41 #[.int .i64 0,.int .i64 0,.int .i64 0,.int .i64 0,.int .i64 0,.int .i64 0,.slice none 0 0]) (hBn:Blk W gn 81 #[.int .i64 0,.int .i64 0,.int .i64 0,.slice none 0 0,.slice none 0 0]) (hgs:w.heap.size≤gs) (hgn:w.heap.size≤gn) (hne:gs ≠ gn) (hfi:I.first = fi) (hBr:Blk W gr 73 #[.slice r.Aw r.ws.length r.cw,.slice r.As r.ss.length r.cs,.int .i64 r.tm.t.method,.slice r.tm.Ab r.tm.t.brs.length r.tm.cb,.int .i64 r.tm.t.allowance,.int .i64 r.tm.t.credit,.int .i64 r.tm.t.unit,.int .i64 r.tm.t.mode,.slice r.tm.Ar r.tm.t.rows.length r.tm.cr,.int .i64 r.count,.int .i64 r.sh.fixed,.int .i64 r.sh.dependent,.int .i64 r.sh.lower,.int .i64 r.sh.share,.int .i64 r.sh.top,.int .i64 r.recover]) (hBp:Blk W gp 78 #[.int .i64 p.deps,.slice p.Ad p.ds.length p.cd,.slice p.Ao p.os.length p.co,.slice p.Ae p.es.length p.ce]) (hBb:Blk W gb 38 (encBas I.b).toArray) (hIr:I.r = r.t) (hIp:I.p = p.t) (hIy:I.y = y.t) (hrs:r.In W) (hps:p.In W) (hys:y.In W) (hk:SliceOf encE 2 W W.heap.size Ak I.kept) (hpre:Pre3 I) (hok:InOk I) (h0:SliceOf encE 2 W W.heap.size A0 I.earn) (h1:SliceOf encE 2 W W.heap.size A1 I.bene) (h2:SliceOf encE 2 W W.heap.size A2 I.before) (h3:SliceOf encE 2 W W.heap.size A3 (I.ownTo I.r.schemes)) (h4:SliceOf encE 2 W W.heap.size A4 (I.emplTo I.r.schemes)) (l0:I.earn.length≤1000) (l1:I.bene.length≤1000) (hinc:I.income = max inc0 0) (i0 : -100000000000≤inc0) (i1:inc0≤1000000000) (b4:0≤I.levies) (b5:I.levies≤12000000000) :
  Code.wp Tryz.prog (dropC 17 (bodyOf Tryz.f27)) (bodyPost Tryz.prog Tryz.f27 (SlipPost I w)) { tmps:=List.toArray (x0::x1::x2::(.slice Ak I.kept.length kc)::(.bool fi)::x5::(.pointer (some ⟨gr,0,none⟩))::(.pointer (some ⟨gp,0,none⟩))::(.pointer (some ⟨gy,0,none⟩))::x9::x10::x11::(.pointer (some ⟨gs,0,none⟩))::(.pointer (some ⟨gn,0,none⟩))::x14::x15::(.pointer (some ⟨gb,0,none⟩))::x17::x18::x19::(.slice A0 I.earn.length c0)::(.slice A1 I.bene.length c1)::x22::x23::x24::(.int .i64 I.left1)::(.int .i64 I.base)::(.slice A2 I.before.length c2)::(.int .i64 inc0)::(.int .i64 I.insured)::x30::(.slice A3 (I.ownTo I.r.schemes).length c3)::(.slice A4 (I.emplTo I.r.schemes).length c4)::(.int .i64 I.levies)::x34::x35::x36::x37::x38::x39::x40::x41::x42::x43::x44::x45::x46::x47::x48::x49::x50::x51::x52::x53::x54::x55::x56::x57::x58::x59::x60::x61::x62::x63::x64::x65::x66::x67::x68::x69::x70::x71::x72::x73::x74::x75::x76::x77::x78::x79::x80::x81::x82::x83::x84::x85::x86::x87::x88::x89::x90::x91::x92::x93::x94::x95::x96::x97::x98::x99::x100::x101::x102::x103::x104::x105::x106::x107::x108::x109::x110::x111::x112::x113::x114::x115::x116::x117::x118::x119::x120::x121::x122::x123::x124::x125::x126::x127::x128::x129::x130::x131::x132::x133::x134::x135::x136::x137::x138::x139::x140::x141::x142::x143::x144::x145::x146::x147::x148::x149::x150::x151::x152::x153::x154::x155::x156::x157::x158::x159::x160::x161::x162::x163::x164::x165::x166::x167::x168::x169::x170::x171::x172::x173::x174::x175::x176::x177::x178::x179::x180::x181::x182::x183::x184::x185::x186::x187::x188::x189::x190::x191::x192::x193::x194::x195::x196::x197::x198::x199::x200::x201::x202::x203::x204::x205::x206::x207::x208::x209::x210::x211::x212::x213::x214::x215::x216::x217::x218::x219::x220::x221::x222::x223::x224::x225::x226::x227::x228::x229::x230::x231::x232::x233::x234::x235::x236::x237::x238::x239::x240::x241::x242::x243::x244::x245::x246::x247::x248::x249::x250::x251::x252::x253::x254::x255::x256::x257::x258::x259::x260::x261::x262::x263::x264::x265::x266::x267::x268::x269::x270::x271::x272::x273::x274::x275::x276::x277::x278::x279::x280::x281::x282::x283::x284::x285::x286::x287::x288::x289::x290::x291::x292::x293::x294::x295::x296::x297::x298::x299::x300::x301::x302::x303::x304::x305::x306::x307::x308::x309::x310::x311::x312::x313::x314::x315::x316::x317::x318::x319::x320::x321::x322::x323::x324::x325::x326::x327::x328::x329::x330::x331::x332::x333::x334::x335::x336::x337::x338::x339::x340::x341::x342::x343::x344::x345::x346::x347::x348::x349::x350::x351::x352::x353::x354::x355::x356::x357::x358::x359::x360::x361::x362::x363::x364::x365::x366::x367::x368::x369::x370::x371::x372::x373::x374::x375::x376::x377::x378::x379::x380::x381::x382::x383::x384::x385::x386::x387::x388::x389::x390::x391::x392::x393::x394::x395::x396::x397::x398::x399::x400::x401::x402::x403::x404::x405::x406::x407::x408::x409::x410::x411::[]),defers:=[] } W:=by
 conv=>enter [2]; whnf
 have hab5:=amts_bd (ofErr_inv hpre.of_).2.2.2
 have hbc:=hab5.2.1
 have hba:=hab5.2.2.2.2
 clear hab5
 have b2 : -1000000000≤I.b.c:=hbc.1
 have b3:I.b.c≤1000000000:=hbc.2
 have a0 : -1000000000≤I.b.a:=hba.1
 have a1:I.b.a≤1000000000:=hba.2
 clear hbc hba
 have htf:=take_facts (before:=true) hpre.take
 have s0:=htf.2.2.1
 have s1:=htf.2.2.2.1
 clear htf
 have hl1:I.left1 = I.b.c - sumE I.before:=rfl
 have s1':sumE I.before≤max I.b.c 0:=s1
 have s0':0≤sumE I.before:=s0
 have g0 : -2000000000≤I.left1:=by omega
 have g1:I.left1≤1000000000:=by omega
 have b8:0≤I.income:=by omega
 have b9:I.income≤1000000000:=by omega
 have hyk:=hok.y
 rw [hIy] at hyk
 have yp0:0≤y.periods:=hyk.p0
 have yp1:y.periods≤53:=hyk.p1
 have yi0:0≤y.income:=hyk.i0
 have yi1:y.income≤y.periods * 1000000000:=hyk.i1
 have yw0 : -(y.periods * 1000000000)≤y.withheld:=hyk.w0
 have yw1:y.withheld≤y.periods * 1000000000:=hyk.w1
 have hrk:=hok.r
 rw [hIr] at hrk
 have rc0:1≤r.count:=hrk.c0
 have rc1:r.count≤53:=hrk.c1
 have hper:y.periods < r.count:=by have:=hpre.per; rw [hIy,hIr] at this; exact this
 have hnsch:I.r.schemes.length≤12:=hok.r.nsch
 have HTAX:Hid (withN r.tm.t r.count y.periods y.income y.withheld I.income = I.tax):=by rw [Hid,NetIn.tax,hIr,hIy]; rfl
 have HWH:Hid (∀ W',Below W.heap.size W W'→Calls Tryz.prog 57 #[.agg #[.int .i64 r.tm.t.method,.slice r.tm.Ab r.tm.t.brs.length r.tm.cb,.int .i64 r.tm.t.allowance,.int .i64 r.tm.t.credit,.int .i64 r.tm.t.unit,.int .i64 r.tm.t.mode,.slice r.tm.Ar r.tm.t.rows.length r.tm.cr],.int .i64 r.count,.agg #[.int .i64 y.periods,.int .i64 y.income,.int .i64 y.withheld,.slice y.Ai y.ins.length y.ci,.slice y.At y.taken.length y.ct],.int .i64 I.income] W' fun e w'=>e = .returned (.tuple #[.int .i64 I.tax,.int .i64 0])∧Below W'.heap.size W' w'):=fun W' hb=>by
  have:=withhold30_ok r.tm r.count y.periods y.income y.withheld I.income y.Ai y.At y.ins.length y.ci y.taken.length y.ct W' (hrs.tm.adv hb) hrk.tar rc0 rc1 yp0 hper b8 b9 yi0 (by omega) (by omega) (by omega)
  rw [HTAX.out] at this
  exact this
 have hd0:0≤p.deps:=by have:=hok.p.d0; rw [hIp] at this; exact this
 have hd1:p.deps≤20:=by have:=hok.p.d1; rw [hIp] at this; exact this
 have hor:OrdsOk p.os:=by have:=hok.p.orders; rw [hIp] at this; exact this
 have hsh:ShOk r.sh:=hrk.sh
 have HATT:Hid (I.first = true→I.attached = attachN r.sh I.net p.deps p.os):=fun hf=>by rw [NetIn.attached,if_pos hf,hIr,hIp]; rfl
 have HKEP:Hid (I.first = false→I.attached = I.kept):=fun hf=>by rw [NetIn.attached,hf]; rfl
 have HNET:Hid (I.net = max (I.left3 - max (I.b.c - I.b.a) 0) 0):=rfl
 have hn0:0≤I.net:=by rw [HNET.out]; omega
 have HAT:Hid (∀ W',Below W.heap.size W W'→(I.net≤1000000000→Calls Tryz.prog 59 #[.agg #[.int .i64 r.sh.fixed,.int .i64 r.sh.dependent,.int .i64 r.sh.lower,.int .i64 r.sh.share,.int .i64 r.sh.top],.int .i64 I.net,.int .i64 p.deps,.slice p.Ao p.os.length p.co] W' fun e w'=>∃ v,e = .returned (.tuple #[v,.int .i64 0])∧SlE w' v (attachN r.sh I.net p.deps p.os)∧Below W'.heap.size W' w') ∧
   (1000000000 < I.net→Calls Tryz.prog 59 #[.agg #[.int .i64 r.sh.fixed,.int .i64 r.sh.dependent,.int .i64 r.sh.lower,.int .i64 r.sh.share,.int .i64 r.sh.top],.int .i64 I.net,.int .i64 p.deps,.slice p.Ao p.os.length p.co] W' fun e w'=>e = .returned (.tuple #[.slice none 0 0,.int .i64 2])∧Below W'.heap.size W' w')):=fun W' hb =>
  ⟨fun hn=>attach31_ok r.sh I.net p.deps p.Ao p.co p.os W' (hps.os.adv hb) hsh hor hn0 hn hd0 hd1,fun hn=>attach31_no r.sh I.net p.deps p.Ao p.co p.os W' (hps.os.adv hb) hsh hor hn0 (by omega) hd0 hd1⟩
 have HAB:Hid (¬ (I.first = true∧1000000000 < I.net)→I.attached.length≤16∧∀ x ∈ I.attached,0≤x.amount∧x.amount≤1000000000):=by
  intro hnn
  rcases hf:I.first with _ | _
  ·
   rw [HKEP.out hf]
   exact ⟨hok.kept.len,fun x hx=>⟨((recB_iff.1 hok.kept.recd).2.1 x hx).2.1,hok.kept.hi x hx⟩⟩
  ·
   have hn1:I.net≤1000000000:=by
    have:¬ 1000000000 < I.net:=fun h=>hnn ⟨hf,h⟩
    omega
   rw [HATT.out hf]
   have hA:=(attach_facts hsh hor hn0 hn1 hd0 hd1).1
   exact ⟨Nat.le_trans (nodup_len hA.sorted hA.code) hor.len,fun x hx=>⟨hA.pos x hx,by have:=hA.hi x hx; omega⟩⟩
 have HPRE:=Lib.hid hpre
 have HOK:=Lib.hid hok
 have HIR:=Lib.hid hIr
 have HIP:=Lib.hid hIp
 have HIY:=Lib.hid hIy
 have HINC:=Lib.hid hinc
 have HL2:Hid (I.left1 - I.levies = I.left2):=rfl
 have HL3:Hid (I.left2 - I.tax = I.left3):=rfl
 have HBB:=Lib.hid hBb
 clear hpre hok hIr hIp hIy hinc hyk hrk hrs hsh hor hn0 yi1 yw0 yw1 s0 s1 s0' s1' hl1
 -- left -= levies
 refine wp_stmt fun K HK=>?_
 go_wp2_with fail
 refine HK.out _ _ ?_
 clear HK K
 rw [HL2.out]
 have g2 : -15000000000≤I.left2:=by have:=HL2.out; omega
 have g3:I.left2≤1000000000:=by have:=HL2.out; omega
 -- income = max(income,0)
 refine wp_stmt fun K HK=>?_
 go_cut [28] from 216 to 217 (fun v wx=>v = .int .i64 I.income∧wx = W)
 case first =>
  by_cases hi:0≤inc0
  ·
   have e:I.income = inc0:=by rw [HINC.out]; omega
   have HE:=Lib.hid e
   clear e HK
   go_wp2_with fail
   go_meet
   exact ⟨by rw [HE.out],rfl⟩
  ·
   have e:I.income = 0:=by rw [HINC.out]; omega
   have HE:=Lib.hid e
   clear e HK
   go_wp2_with fail
   go_meet
   exact ⟨by rw [HE.out],rfl⟩
 obtain ⟨rfl,rfl⟩:=hcut
 refine HK.out _ _ ?_
 clear HK K
 -- tax
 have r0:=hBr.cell 0
 have r1:=hBr.cell 1
 have r2:=hBr.cell 2
 have r3:=hBr.cell 3
 have r4:=hBr.cell 4
 have r5:=hBr.cell 5
 have r6:=hBr.cell 6
 have r7:=hBr.cell 7
 have r8:=hBr.cell 8
 have r9:=hBr.cell 9
 have r10:=hBr.cell 10
 have r11:=hBr.cell 11
 have r12:=hBr.cell 12
 have r13:=hBr.cell 13
 have r14:=hBr.cell 14
 have r15:=hBr.cell 15
 simp only [nqg,nqh,nqi] at r0 r1 r2 r3 r4 r5 r6 r7 r8 r9 r10 r11 r12 r13 r14 r15
 have y0:=hBy.cell 0
 have y1:=hBy.cell 1
 have y2:=hBy.cell 2
 have y3:=hBy.cell 3
 have y4:=hBy.cell 4
 simp only [nqg,nqh,nqi] at y0 y1 y2 y3 y4
 refine wp_stmt fun K HK=>?_
 go_wp2_with fail
 refine Calls.mono (HWH.out _ (Below.refl _ _)) ?_
 rintro e W2 ⟨rfl,hb2⟩
 go_wp2_with fail
 refine HK.out _ _ ?_
 clear HK K HWH r0 r1 r2 r3 r4 r5 r6 r7 r8 r9 r10 r11 r12 r13 r14 r15 y0 y1 y2 y3 y4
 have hbel2:=bel_adv hbel hb2
 have hBs2:=hBs.adv hb2
 have hBn2:=hBn.adv hb2
 -- no error
 refine wp_stmt fun K HK=>?_
 go_wp2_with fail
 refine HK.out _ _ ?_
 clear HK K
 -- an amount?
 by_cases ha:amtB I.tax = true
 rotate_left
 ·
  have ha':amtB I.tax = false:=by simpa using ha
  have HA:=Lib.hid ha'
  have hcon:=amount26_any I.tax W2
  rw [ha'] at hcon
  have HC:=Lib.hid hcon
  clear ha ha' hcon
  refine wp_stmt fun K HK=>?_
  go_wp2_with fail
  refine Calls.mono HC.out ?_
  rintro e w' ⟨rfl,rfl⟩
  clear HK
  have hzf:=zeroed_facts hBs2 hBn2 hne
  have hzb:=zeroed_below hbel2 hgs hgn W2
  have hne':gn ≠ gs:=fun e=>hne e.symm
  have q0:=hBs2.cell 0
  have q1:=hBs2.cell 1
  have q2:=hBs2.cell 2
  have q3:=hBs2.cell 3
  have q4:=hBs2.cell 4
  have q5:=hBs2.cell 5
  have q6:=hBs2.cell 6
  simp only [nqg,nqh,nqi] at q0 q1 q2 q3 q4 q5 q6
  have r0:=hBn2.cell 0
  have r1:=hBn2.cell 1
  have r2:=hBn2.cell 2
  have r3:=hBn2.cell 3
  have r4:=hBn2.cell 4
  simp only [nqg,nqh,nqi] at r0 r1 r2 r3 r4
  have fq0:=hBs2.frozen 0
  have fq1:=hBs2.frozen 1
  have fq2:=hBs2.frozen 2
  have fq3:=hBs2.frozen 3
  have fq4:=hBs2.frozen 4
  have fq5:=hBs2.frozen 5
  have fq6:=hBs2.frozen 6
  have fr0:=hBn2.frozen 0
  have fr1:=hBn2.frozen 1
  have fr2:=hBn2.frozen 2
  have fr3:=hBn2.frozen 3
  have fr4:=hBn2.frozen 4
  have lq:=hBs2.lt
  have lr:=hBn2.lt
  go_wp2
  clear q0 q1 q2 q3 q4 q5 q6 r0 r1 r2 r3 r4
  change bodyPost _ _ _ _ _ (zeroed W2 gs gn)
  obtain ⟨hzs,hzn⟩:=hzf
  generalize zeroed W2 gs gn = WW at hzs hzn hzb ⊢
  have q0:=hzs.cell 0
  have q1:=hzs.cell 1
  have q2:=hzs.cell 2
  have q3:=hzs.cell 3
  have q4:=hzs.cell 4
  have q5:=hzs.cell 5
  have q6:=hzs.cell 6
  simp only [nqg,nqh,nqi] at q0 q1 q2 q3 q4 q5 q6
  have r0:=hzn.cell 0
  have r1:=hzn.cell 1
  have r2:=hzn.cell 2
  have r3:=hzn.cell 3
  have r4:=hzn.cell 4
  simp only [nqg,nqh,nqi] at r0 r1 r2 r3 r4
  clear hzs hzn
  refine bodyPost_ret (v:=_) (by simp [results,Tryz.results27,go_sem,q0,q1,q2,q3,q4,q5,q6,r0,r1,r2,r3,r4]; rfl) rfl ?_
  exact SlipPost.fail (HPRE.out.err HA.out) (by omega) hzb
 obtain ⟨b6,b7⟩:=amtB_iff.1 ha
 have hcon:=amount26_any I.tax W2
 rw [ha] at hcon
 have HC:=Lib.hid hcon
 have HAM:=Lib.hid ha
 clear ha hcon
 refine wp_stmt fun K HK=>?_
 go_wp2_with fail
 refine Calls.mono HC.out ?_
 rintro e w' ⟨rfl,rfl⟩
 go_wp2_with fail
 refine HK.out _ _ ?_
 clear HK K HC
 -- left -= tax
 refine wp_stmt fun K HK=>?_
 go_wp2_with fail
 refine HK.out _ _ ?_
 clear HK K
 rw [HL3.out]
 have g4 : -100000000000≤I.left3:=by have:=HL3.out; omega
 have g5:I.left3≤100000000000:=by have:=HL3.out; omega
 -- attached:=kept
 refine wp_stmt fun K HK=>?_
 go_wp2_with fail
 refine HK.out _ _ ?_
 clear HK K
 -- if first
 have HERR2:Hid (1000000000 < I.net→I.first = true→I.err = 2):=fun h hf=>HPRE.out.err2 HAM.out ⟨hf,h⟩
 have hBr2:=hBr.adv hb2
 have hBp2:=hBp.adv hb2
 have hBb2:Blk W2 gb 38 #[.int .i64 I.b.g,.int .i64 I.b.c,.int .i64 I.b.t,.int .i64 I.b.i,.int .i64 I.b.a]:=HBB.out.adv hb2
 have hk2:=hk.adv hb2
 have HFI:=Lib.hid hfi
 clear hfi
 have HAT2:=Lib.hid (HAT.out W2 hb2)
 clear HAT
 refine wp_stmt fun K HK=>?_
 cases fi with
 | false =>
  clear HAT2 HATT
  go_wp2_with fail
  refine HK.out _ _ ?_
  clear HK K
  have ek:=HKEP.out HFI.out
  rw [← ek] at hk2 ⊢
  have hnn:¬ (I.first = true∧1000000000 < I.net):=by rw [HFI.out]; simp
  obtain ⟨l5,hab⟩:=HAB.out hnn
  have hpre4:Pre4 I:=⟨HPRE.out.per,HPRE.out.of_,HPRE.out.take,HPRE.out.over,HAM.out,hnn⟩
  exact cmp_p5 w W2 gp gy gs gn gb p y I A0 A1 A2 A3 A4 Ak c0 c1 c2 c3 c4 kc _ _ _ _ _ _ _ _ _ _ _ _ _ _ _ _ _ _ _ _ _ _ _ _ _ _ _ _ _ _ _ _ _ _ _ _ _ _ _ _ _ _ _ _ _ _ _ _ _ _ _ _ _ _ _ _ _ _ _ _ _ _ _ _ _ _ _ _ _ _ _ _ _ _ _ _ _ _ _ _ _ _ _ _ _ _ _ _ _ _ _ _ _ _ _ _ _ _ _ _ _ _ _ _ _ _ _ _ _ _ _ _ _ _ _ _ _ _ _ _ _ _ _ _ _ _ _ _ _ _ _ _ _ _ _ _ _ _ _ _ _ _ _ _ _ _ _ _ _ _ _ _ _ _ _ _ _ _ _ _ _ _ _ _ _ _ _ _ _ _ _ _ _ _ _ _ _ _ _ _ _ _ _ _ _ _ _ _ _ _ _ _ _ _ _ _ _ _ _ _ _ _ _ _ _ _ _ _ _ _ _ _ _ _ _ _ _ _ _ _ _ _ _ _ _ _ _ _ _ _ _ _ _ _ _ _ _ _ _ _ _ _ _ _ _ _ _ _ _ _ _ _ _ _ _ _ _ _ _ _ _ _ _ _ _ _ _ _ _ _ _ _ _ _ _ _ _ _ _ _ _ _ _ _ _ _ _ _ _ _ _ _ _ _ _ _ _ _ _ _ _ _ _ _ _ _ _ _ _ _ _ _ _ _ _ _ _ _ _ _ _ _ _ _ _ _ _ _ _ _ _ _ _ _ _ _ _ _ _ _ _ _ _ _ _ _ _ _ _ _ _ _ _ _ _ _ _ _ _ _ _ _ _ _ _ _ _ _ _ _ _ _ _ _ _ _ _ _ _ _ _ _ _ _ _ _ _ _ _ _ _ _ _ _ _ (bel_adv hbel hb2) (hBy.adv hb2) (hBs.adv hb2) (hBn.adv hb2) hgs hgn hne (hBp.adv hb2) (HBB.out.adv hb2) (by rw [HIP.out]; rfl) HIY.out (hps.adv hb2) (hys.adv hb2) hpre4 HOK.out (h0.adv hb2) (h1.adv hb2) (h2.adv hb2) (h3.adv hb2) (h4.adv hb2) hk2 l0 l1 hnsch l5 hab (by omega) (by omega) b2 b3 b4 b5 b6 b7 b8 b9
 | true =>
  have HATT2:=Lib.hid (HATT.out HFI.out)
  have HER2:Hid (1000000000 < I.net→I.err = 2):=fun h=>HERR2.out h HFI.out
  clear HATT HERR2 HKEP
  have r0:=hBr2.cell 0
  have r1:=hBr2.cell 1
  have r2:=hBr2.cell 2
  have r3:=hBr2.cell 3
  have r4:=hBr2.cell 4
  have r5:=hBr2.cell 5
  have r6:=hBr2.cell 6
  have r7:=hBr2.cell 7
  have r8:=hBr2.cell 8
  have r9:=hBr2.cell 9
  have r10:=hBr2.cell 10
  have r11:=hBr2.cell 11
  have r12:=hBr2.cell 12
  have r13:=hBr2.cell 13
  have r14:=hBr2.cell 14
  have r15:=hBr2.cell 15
  simp only [nqg,nqh,nqi] at r0 r1 r2 r3 r4 r5 r6 r7 r8 r9 r10 r11 r12 r13 r14 r15
  have p0:=hBp2.cell 0
  have p1:=hBp2.cell 1
  have p2:=hBp2.cell 2
  have p3:=hBp2.cell 3
  simp only [nqg,nqh,nqi] at p0 p1 p2 p3
  have v0:=hBb2.cell 0
  have v1:=hBb2.cell 1
  have v2:=hBb2.cell 2
  have v3:=hBb2.cell 3
  have v4:=hBb2.cell 4
  simp only [nqg,nqh,nqi] at v0 v1 v2 v3 v4
  go_upto_region 47 with fail
  go_cut [17,38] from 243 to 261 (fun v17 v38 wx=>Below W2.heap.size W2 wx∧((I.net≤1000000000∧v17 = .int .i64 0∧∃ A5 c5,v38 = .slice A5 I.attached.length c5∧SliceOf encE 2 wx wx.heap.size A5 I.attached) ∨ (1000000000 < I.net∧v17 = .int .i64 2)))
  case first =>
   as_aux_lemma =>
    have HBOTH:Hid (∀ n,I.net = n→Calls Tryz.prog 59 #[.agg #[.int .i64 r.sh.fixed,.int .i64 r.sh.dependent,.int .i64 r.sh.lower,.int .i64 r.sh.share,.int .i64 r.sh.top],.int .i64 n,.int .i64 p.deps,.slice p.Ao p.os.length p.co] W2 fun e w'=>∃ v n',e = .returned (.tuple #[v,.int .i64 n'])∧Below W2.heap.size W2 w'∧((I.net≤1000000000∧Value.int .i64 n' = .int .i64 0∧∃ A5 c5,v = .slice A5 I.attached.length c5∧SliceOf encE 2 w' w'.heap.size A5 I.attached) ∨ (1000000000 < I.net∧Value.int .i64 n' = .int .i64 2))):=by
     intro n hn
     rw [← hn]
     by_cases h9:I.net≤1000000000
     ·
      refine (HAT2.out.1 h9).mono ?_
      rintro e w5 ⟨v5,rfl,⟨A5,c5,rfl,hS5,_,_⟩,hb5⟩
      exact ⟨_,0,rfl,hb5,.inl ⟨h9,rfl,A5,c5,by rw [HATT2.out],by rw [HATT2.out]; exact hS5⟩⟩
     ·
      refine (HAT2.out.2 (by omega)).mono ?_
      rintro e w5 ⟨rfl,hb5⟩
      exact ⟨_,2,rfl,hb5,.inr ⟨by omega,rfl⟩⟩
    clear HAT2 HATT2 HER2 HFI hBr2 hBp2 hBb2 HK
    go_wp2_with fail
    all_goals
     refine Calls.mono (HBOTH.out _ (by rw [HNET.out]; omega)) ?_
     rintro e w5 ⟨v5,n5,rfl,hfin⟩
     have HFIN:=Lib.hid hfin
     clear hfin HBOTH
     go_wp2_with fail
     go_meet
     exact HFIN.out
  obtain ⟨hb5,hcs⟩:=hcut
  rename World=>w5
  clear r0 r1 r2 r3 r4 r5 r6 r7 r8 r9 r10 r11 r12 r13 r14 r15 p0 p1 p2 p3 v0 v1 v2 v3 v4 hBr2 hBp2 hBb2
  rcases hcs with ⟨h9,rfl,A5,c5,rfl,hS5⟩ | ⟨h9,rfl⟩
  ·
   go_wp2_with fail
   refine HK.out _ _ ?_
   clear HK K
   have hb5':=bel_adv hb2 hb5
   have hnn:¬ (I.first = true∧1000000000 < I.net):=by omega
   obtain ⟨l5,hab⟩:=HAB.out hnn
   have hpre4:Pre4 I:=⟨HPRE.out.per,HPRE.out.of_,HPRE.out.take,HPRE.out.over,HAM.out,hnn⟩
   exact cmp_p5 w w5 gp gy gs gn gb p y I A0 A1 A2 A3 A4 A5 c0 c1 c2 c3 c4 c5 _ _ _ _ _ _ _ _ _ _ _ _ _ _ _ _ _ _ _ _ _ _ _ _ _ _ _ _ _ _ _ _ _ _ _ _ _ _ _ _ _ _ _ _ _ _ _ _ _ _ _ _ _ _ _ _ _ _ _ _ _ _ _ _ _ _ _ _ _ _ _ _ _ _ _ _ _ _ _ _ _ _ _ _ _ _ _ _ _ _ _ _ _ _ _ _ _ _ _ _ _ _ _ _ _ _ _ _ _ _ _ _ _ _ _ _ _ _ _ _ _ _ _ _ _ _ _ _ _ _ _ _ _ _ _ _ _ _ _ _ _ _ _ _ _ _ _ _ _ _ _ _ _ _ _ _ _ _ _ _ _ _ _ _ _ _ _ _ _ _ _ _ _ _ _ _ _ _ _ _ _ _ _ _ _ _ _ _ _ _ _ _ _ _ _ _ _ _ _ _ _ _ _ _ _ _ _ _ _ _ _ _ _ _ _ _ _ _ _ _ _ _ _ _ _ _ _ _ _ _ _ _ _ _ _ _ _ _ _ _ _ _ _ _ _ _ _ _ _ _ _ _ _ _ _ _ _ _ _ _ _ _ _ _ _ _ _ _ _ _ _ _ _ _ _ _ _ _ _ _ _ _ _ _ _ _ _ _ _ _ _ _ _ _ _ _ _ _ _ _ _ _ _ _ _ _ _ _ _ _ _ _ _ _ _ _ _ _ _ _ _ _ _ _ _ _ _ _ _ _ _ _ _ _ _ _ _ _ _ _ _ _ _ _ _ _ _ _ _ _ _ _ _ _ _ _ _ _ _ _ _ _ _ _ _ _ _ _ _ _ _ _ _ _ _ _ _ _ _ _ _ _ _ _ _ _ _ _ _ _ _ _ _ _ _ (bel_adv hbel hb5') (hBy.adv hb5') (hBs.adv hb5') (hBn.adv hb5') hgs hgn hne (hBp.adv hb5') (HBB.out.adv hb5') (by rw [HIP.out]; rfl) HIY.out (hps.adv hb5') (hys.adv hb5') hpre4 HOK.out (h0.adv hb5') (h1.adv hb5') (h2.adv hb5') (h3.adv hb5') (h4.adv hb5') hS5 l0 l1 hnsch l5 hab (by omega) (by omega) b2 b3 b4 b5 b6 b7 b8 b9
  ·
   have HER3:=Lib.hid (HER2.out h9)
   have hbel5:=bel_adv hbel2 hb5
   have hBs5:=hBs2.adv hb5
   have hBn5:=hBn2.adv hb5
   clear hBs2 hBn2 HER2 HK hBs hBn hBr hBp hBy hk hk2 h0 h1 h2 h3 h4 hps hys hb5 hb2 hbel2 hbel HAT2 HATT2 HAB HNET HTAX h9 i0 i1 b4 b5 b2 b3 a0 a1 g0 g1 g2 g3 g4 g5 b8 b9 yp0 yp1 yi0 rc0 rc1 hper hnsch hd0 hd1 b6 b7 l0 l1
   have hzf:=zeroed_facts hBs5 hBn5 hne
   have hzb:=zeroed_below hbel5 hgs hgn w5
   have hne':gn ≠ gs:=fun e=>hne e.symm
   have q0:=hBs5.cell 0
   have q1:=hBs5.cell 1
   have q2:=hBs5.cell 2
   have q3:=hBs5.cell 3
   have q4:=hBs5.cell 4
   have q5:=hBs5.cell 5
   have q6:=hBs5.cell 6
   simp only [nqg,nqh,nqi] at q0 q1 q2 q3 q4 q5 q6
   have r0:=hBn5.cell 0
   have r1:=hBn5.cell 1
   have r2:=hBn5.cell 2
   have r3:=hBn5.cell 3
   have r4:=hBn5.cell 4
   simp only [nqg,nqh,nqi] at r0 r1 r2 r3 r4
   have fq0:=hBs5.frozen 0
   have fq1:=hBs5.frozen 1
   have fq2:=hBs5.frozen 2
   have fq3:=hBs5.frozen 3
   have fq4:=hBs5.frozen 4
   have fq5:=hBs5.frozen 5
   have fq6:=hBs5.frozen 6
   have fr0:=hBn5.frozen 0
   have fr1:=hBn5.frozen 1
   have fr2:=hBn5.frozen 2
   have fr3:=hBn5.frozen 3
   have fr4:=hBn5.frozen 4
   have lq:=hBs5.lt
   have lr:=hBn5.lt
   go_wp2
   clear q0 q1 q2 q3 q4 q5 q6 r0 r1 r2 r3 r4
   change bodyPost _ _ _ _ _ (zeroed w5 gs gn)
   obtain ⟨hzs,hzn⟩:=hzf
   generalize zeroed w5 gs gn = WW at hzs hzn hzb ⊢
   have q0:=hzs.cell 0
   have q1:=hzs.cell 1
   have q2:=hzs.cell 2
   have q3:=hzs.cell 3
   have q4:=hzs.cell 4
   have q5:=hzs.cell 5
   have q6:=hzs.cell 6
   simp only [nqg,nqh,nqi] at q0 q1 q2 q3 q4 q5 q6
   have r0:=hzn.cell 0
   have r1:=hzn.cell 1
   have r2:=hzn.cell 2
   have r3:=hzn.cell 3
   have r4:=hzn.cell 4
   simp only [nqg,nqh,nqi] at r0 r1 r2 r3 r4
   clear hzs hzn
   refine bodyPost_ret (v:=_) (by simp [results,Tryz.results27,go_sem,q0,q1,q2,q3,q4,q5,q6,r0,r1,r2,r3,r4]; rfl) rfl ?_
   exact SlipPost.fail (HER3.out) (by omega) hzb
end Go.Proofs.YtjncpgbhokjbfaaGreat
