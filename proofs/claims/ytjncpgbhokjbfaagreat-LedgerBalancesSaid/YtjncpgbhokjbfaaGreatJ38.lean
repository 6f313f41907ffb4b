/- Joined texts: Cmp5. Conditions: as stated. -/
import Derived.Test.YtjncpgbhokjbfaaGreatJ37
namespace Go.Proofs.YtjncpgbhokjbfaaGreat
open Go.RowKit
set_option maxRecDepth 100000 in
set_option maxHeartbeats 8000000 in
theorem cmp_p5 (w W : World) (gp gy gs gn gb : Nat) (p:PersonM) (y:YearM) (I:NetIn) (A0 A1 A2 A3 A4 A5 : Option Addr) (c0 c1 c2 c3 c4 c5 : Nat)
  (x0 x1 x2 x3 x4 x5 x6 x9 x10 x11 x14 x15 x17 x18 x19 x22 x23 x24 x30 x34 x35 x36 x39 x40 x41 x42 x43 x44 x45 x46 x47 x48 x49 x50 x51 x52 x53 x54 x55 x56 x57 x58 x59 x60 x61 x62 x63 x64 x65 x66 x67 x68 x69 x70 x71 x72 x73 x74 x75 x76 x77 x78 x79 x80 x81 x82 x83 x84 x85 x86 x87 x88 x89 x90 x91 x92 x93 x94 x95 x96 x97 x98 x99 x100 x101 x102 x103 x104 x105 x106 x107 x108 x109 x110 x111 x112 x113 x114 x115 x116 x117 x118 x119 x120 x121 x122 x123 x124 x125 x126 x127 x128 x129 x130 x131 x132 x133 x134 x135 x136 x137 x138 x139 x140 x141 x142 x143 x144 x145 x146 x147 x148 x149 x150 x151 x152 x153 x154 x155 x156 x157 x158 x159 x160 x161 x162 x163 x164 x165 x166 x167 x168 x169 x170 x171 x172 x173 x174 x175 x176 x177 x178 x179 x180 x181 x182 x183 x184 x185 x186 x187 x188 x189 x190 x191 x192 x193 x194 x195 x196 x197 x198 x199 x200 x201 x202 x203 x204 x205 x206 x207 x208 x209 x210 x211 x212 x213 x214 x215 x216 x217 x218 x219 x220 x221 x222 x223 x224 x225 x226 x227 x228 x229 x230 x231 x232 x233 x234 x235 x236 x237 x238 x239 x240 x241 x242 x243 x244 x245 x246 x247 x248 x249 x250 x251 x252 x253 x254 x255 x256 x257 x258 x259 x260 x261 x262 x263 x264 x265 x266 x267 x268 x269 x270 x271 x272 x273 x274 x275 x276 x277 x278 x279 x280 x281 x282 x283 x284 x285 x286 x287 x288 x289 x290 x291 x292 x293 x294 x295 x296 x297 x298 x299 x300 x301 x302 x303 x304 x305 x306 x307 x308 x309 x310 x311 x312 x313 x314 x315 x316 x317 x318 x319 x320 x321 x322 x323 x324 x325 x326 x327 x328 x329 x330 x331 x332 x333 x334 x335 x336 x337 x338 x339 x340 x341 x342 x343 x344 x345 x346 x347 x348 x349 x350 x351 x352 x353 x354 x355 x356 x357 x358 x359 x360 x361 x362 x363 x364 x365 x366 x367 x368 x369 x370 x371 x372 x373 x374 x375 x376 x377 x378 x379 x380 x381 x382 x383 x384 x385 x386 x387 x388 x389 x390 x391 x392 x393 x394 x395 x396 x397 x398 x399 x400 x401 x402 x403 x404 x405 x406 x407 x408 x409 x410 x411:Value)
  (hbel:Below w.heap.size w W) (hBy:Blk W gy 81 #[.int .i64 y.periods,.int .i64 y.income,.int .i64 y.withheld,.slice y.Ai y.ins.length y.ci,.slice y.At y.taken.length y.ct]) (hBs:Blk W gs 41 #[.int .i64 0,.int .i64 0,.int .i64 0,.int .i64 0,.int .i64 0,.int .i64 0,.slice none 0 0]) (hBn:Blk W gn 81 #[.int .i64 0,.int .i64 0,.int .i64 0,.slice none 0 0,.slice none 0 0]) (hgs:w.heap.size≤gs) (hgn:w.heap.size≤gn) (hne:gs ≠ gn) (hBp:Blk W gp 78 #[.int .i64 p.deps,.slice p.Ad p.ds.length p.cd,.slice p.Ao p.os.length p.co,.slice p.Ae p.es.length p.ce]) (hBb:Blk W gb 38 (encBas I.b).toArray) (hIp:I.p.deds = p.ds) (hIy:I.y = y.t) (hps:p.In W) (hys:y.In W) (hpre:Pre4 I) (hok:InOk I) (h0:SliceOf encE 2 W W.heap.size A0 I.earn) (h1:SliceOf encE 2 W W.heap.size A1 I.bene) (h2:SliceOf encE 2 W W.heap.size A2 I.before) (h3:SliceOf encE 2 W W.heap.size A3 (I.ownTo I.r.schemes)) (h4:SliceOf encE 2 W W.heap.size A4 (I.emplTo I.r.schemes)) (h5:SliceOf encE 2 W W.heap.size A5 I.attached) (l0:I.earn.length≤1000) (l1:I.bene.length≤1000) (l3:I.r.schemes.length≤12) (l5:I.attached.length≤16) (hab:∀ x ∈ I.attached,0≤x.amount∧x.amount≤1000000000) (b0 : -100000000000000≤I.left3) (b1:I.left3≤100000000000000) (b2 : -1000000000≤I.b.c) (b3:I.b.c≤1000000000) (b4:0≤I.levies) (b5:I.levies≤12000000000) (b6 : -1000000000≤I.tax) (b7:I.tax≤1000000000) (b8:0≤I.income) (b9:I.income≤1000000000) :
  Code.wp Tryz.prog (dropC 25 (bodyOf Tryz.f27)) (bodyPost Tryz.prog Tryz.f27 (SlipPost I w)) { tmps:=List.toArray (x0::x1::x2::x3::x4::x5::x6::(.pointer (some ⟨gp,0,none⟩))::(.pointer (some ⟨gy,0,none⟩))::x9::x10::x11::(.pointer (some ⟨gs,0,none⟩))::(.pointer (some ⟨gn,0,none⟩))::x14::x15::(.pointer (some ⟨gb,0,none⟩))::x17::x18::x19::(.slice A0 I.earn.length c0)::(.slice A1 I.bene.length c1)::x22::x23::x24::(.int .i64 I.left3)::(.int .i64 I.base)::(.slice A2 I.before.length c2)::(.int .i64 I.income)::(.int .i64 I.insured)::x30::(.slice A3 (I.ownTo I.r.schemes).length c3)::(.slice A4 (I.emplTo I.r.schemes).length c4)::(.int .i64 I.levies)::x34::x35::x36::(.int .i64 I.tax)::(.slice A5 I.attached.length c5)::x39::x40::x41::x42::x43::x44::x45::x46::x47::x48::x49::x50::x51::x52::x53::x54::x55::x56::x57::x58::x59::x60::x61::x62::x63::x64::x65::x66::x67::x68::x69::x70::x71::x72::x73::x74::x75::x76::x77::x78::x79::x80::x81::x82::x83::x84::x85::x86::x87::x88::x89::x90::x91::x92::x93::x94::x95::x96::x97::x98::x99::x100::x101::x102::x103::x104::x105::x106::x107::x108::x109::x110::x111::x112::x113::x114::x115::x116::x117::x118::x119::x120::x121::x122::x123::x124::x125::x126::x127::x128::x129::x130::x131::x132::x133::x134::x135::x136::x137::x138::x139::x140::x141::x142::x143::x144::x145::x146::x147::x148::x149::x150::x151::x152::x153::x154::x155::x156::x157::x158::x159::x160::x161::x162::x163::x164::x165::x166::x167::x168::x169::x170::x171::x172::x173::x174::x175::x176::x177::x178::x179::x180::x181::x182::x183::x184::x185::x186::x187::x188::x189::x190::x191::x192::x193::x194::x195::x196::x197::x198::x199::x200::x201::x202::x203::x204::x205::x206::x207::x208::x209::x210::x211::x212::x213::x214::x215::x216::x217::x218::x219::x220::x221::x222::x223::x224::x225::x226::x227::x228::x229::x230::x231::x232::x233::x234::x235::x236::x237::x238::x239::x240::x241::x242::x243::x244::x245::x246::x247::x248::x249::x250::x251::x252::x253::x254::x255::x256::x257::x258::x259::x260::x261::x262::x263::x264::x265::x266::x267::x268::x269::x270::x271::x272::x273::x274::x275::x276::x277::x278::x279::x280::x281::x282::x283::x284::x285::x286::x287::x288::x289::x290::x291::x292::x293::x294::x295::x296::x297::x298::x299::x300::x301::x302::x303::x304::x305::x306::x307::x308::x309::x310::x311::x312::x313::x314::x315::x316::x317::x318::x319::x320::x321::x322::x323::x324::x325::x326::x327::x328::x329::x330::x331::x332::x333::x334::x335::x336::x337::x338::x339::x340::x341::x342::x343::x344::x345::x346::x347::x348::x349::x350::x351::x352::x353::x354::x355::x356::x357::x358::x359::x360::x361::x362::x363::x364::x365::x366::x367::x368::x369::x370::x371::x372::x373::x374::x375::x376::x377::x378::x379::x380::x381::x382::x383::x384::x385::x386::x387::x388::x389::x390::x391::x392::x393::x394::x395::x396::x397::x398::x399::x400::x401::x402::x403::x404::x405::x406::x407::x408::x409::x410::x411::[]),defers:=[] } W:=by
 conv=>enter [2]; whnf
 have hYt:I.y.taken = y.taken:=by rw [hIy]; rfl
 have HPRE:=Lib.hid hpre
 have hyk:=hok.y
 rw [hIy] at hyk
 have yp0:0≤y.periods:=hyk.p0
 have yp1:y.periods≤53:=hyk.p1
 have yi0:0≤y.income:=hyk.i0
 have yi1:y.income≤y.periods * 1000000000:=hyk.i1
 have yw0 : -(y.periods * 1000000000)≤y.withheld:=hyk.w0
 have yw1:y.withheld≤y.periods * 1000000000:=hyk.w1
 have yl:(y.ins.length:Int) = y.periods:=hyk.len
 have li:y.ins.length≤100:=by omega
 have yi2:y.income≤1000000000000:=by omega
 have yw2 : -1000000000000≤y.withheld:=by omega
 have yw3:y.withheld≤1000000000000:=by omega
 clear hyk yi1 yw0 yw1 yl
 have HYT:=Lib.hid hYt
 have hrec:recB y.taken = true:=by rw [← hYt]; exact hok.y.taken
 obtain ⟨tl,tz⟩:=rec_size hrec
 obtain ⟨_,hbm,_,_,l2⟩:=take_facts (before:=true) hpre.take
 have hbz:∀ x ∈ I.before,x.code.size≤maxLen:=fun x hx=>name_max (hbm x hx).1
 have hded:validD p.ds = true:=by rw [← hIp]; exact hok.p.deds
 obtain ⟨dl,dz⟩:=ded_size hded
 have HAD:Hid (∀ W',Below W.heap.size W W'→Calls Tryz.prog 60 #[.slice y.At y.taken.length y.ct,.slice A2 I.before.length c2] W' (EPost (addR y.taken I.before) (addE y.taken I.before) W')):=fun W' hb=>add27_any y.At A2 y.ct c2 y.taken I.before W' (hys.taken.adv hb) tz (by omega) (h2.adv hb) hbz (by have:I.before.length≤16:=l2; omega)
 have HSA:Hid (∀ W',Below W.heap.size W W'→Calls Tryz.prog 55 #[.slice A5 I.attached.length c5] W' fun e w'=>e = .returned (.int .i64 (sumE I.attached))∧W' = w'):=fun W' hb=>sum27_any A5 c5 I.attached W' _ (h5.adv hb) (by omega) (fun x hx=>by have:=hab x hx; omega)
 have HTK:Hid (∀ W' avail (At:Option Addr) (ct:Nat) (tk:List Elem),Below W.heap.size W W'→SliceOf encE 2 W' W'.heap.size At tk→recB tk = true→Calls Tryz.prog 54 #[.slice p.Ad p.ds.length p.cd,.bool false,.int .i64 I.base,.int .i64 avail,.slice At tk.length ct] W' (EPost (takeR p.ds false I.base avail tk) (takeE p.ds I.base avail tk) W')):=fun W' avail At ct tk hb ht hr=>take27_any p.Ad At p.cd ct p.ds tk false I.base avail W' (hps.ds.adv hb) dz (by omega) ht (rec_size hr).2 (by have:=(rec_size hr).1; omega)
 have hsa:0≤sumE I.attached∧sumE I.attached≤16000000000:=by
  have h:=sumE_bd I.attached 1000000000 hab
  have h2:(I.attached.length:Int) * 1000000000≤16 * 1000000000:=by omega
  omega
 obtain ⟨s0,s1⟩:=hsa
 have HL4:Hid (I.left3 - sumE I.attached = I.left4):=rfl
 have HL5:Hid (I.left4 - sumE I.after = I.left5):=rfl
 have hIs:I.insured = max I.b.i 0:=rfl
 have HOK:=Lib.hid hok
 have HIP:=Lib.hid hIp
 have HIY:=Lib.hid hIy
 have l2':I.before.length≤16:=l2
 clear l2 hbm hIp hIy hYt hded dz tz hpre hok hab hIs hbz
 -- left -= Sum(attached)
 refine wp_stmt fun K HK=>?_
 go_wp2_with fail
 refine Calls.mono (HSA.out _ (Below.refl _ _)) ?_
 rintro e w' ⟨rfl,rfl⟩
 go_wp2_with fail
 refine HK.out _ _ ?_
 clear HK K HSA
 -- taken,f:=Add(y.Taken,before)
 have y0:=hBy.cell 0
 have y1:=hBy.cell 1
 have y2:=hBy.cell 2
 have y3:=hBy.cell 3
 have y4:=hBy.cell 4
 simp only [nqg,nqh,nqi] at y0 y1 y2 y3 y4
 have HERR2:Hid (∀ n,takeE p.ds I.base (max I.left4 0) I.taken1 = n→n ≠ 0→addE y.taken I.before = 0→I.err = n):=fun n h hn h0=>HPRE.out.err2 (by rw [HYT.out]; exact h0) (by rw [HIP.out]; exact h) hn
 have HAF:Hid (takeR p.ds false I.base (max I.left4 0) I.taken1 = I.after):=by rw [Hid,NetIn.after,HIP.out]
 have HERR3:Hid (∀ n,takeE p.ds I.base (max I.left4 0) I.taken1 = 0→addE I.taken1 (takeR p.ds false I.base (max I.left4 0) I.taken1) = n→addE y.taken I.before = 0→I.err = n):=fun n h2 h3 h0=>HPRE.out.err3 (by rw [HYT.out]; exact h0) (by rw [HIP.out]; exact h2) (by rw [← HAF.out]; exact h3)
 have HT2:Hid (addR I.taken1 (takeR p.ds false I.base (max I.left4 0) I.taken1) = I.taken2):=by rw [Hid,NetIn.taken2,HAF.out]
 have HL5b:Hid (I.left4 - sumE (takeR p.ds false I.base (max I.left4 0) I.taken1) = I.left5):=by rw [Hid,HAF.out]; rfl
 rw [HL4.out]
 have q0 : -100016000000000≤I.left4:=by have:=HL4.out; omega
 have q1:I.left4≤100000000000000:=by have:=HL4.out; omega
 generalize I.left4 = left4 at *
 refine wp_stmt fun K HK=>?_
 go_wp2_with fail
 refine Calls.mono (HAD.out _ (Below.refl _ _)) ?_
 rintro e W2 ⟨At1,ct1,rfl,hS1,hlc1,hcm1,hb2⟩
 have hBy2:=hBy.adv hb2
 have hBs2:=hBs.adv hb2
 have hBn2:=hBn.adv hb2
 have hBp2:=hBp.adv hb2
 have hBb2:=hBb.adv hb2
 have hbel2:=bel_adv hbel hb2
 clear y0 y1 y2 y3 y4 HAD
 go_wp2_with fail
 refine HK.out _ _ ?_
 clear HK K
 by_cases e1:addE y.taken I.before = 0
 rotate_left
 ·
  generalize hn1:addE y.taken I.before = n1 at *
  have hn1':(n1 != 0) = true:=by simp [e1]
  have HN1:=Lib.hid hn1
  have HE1:=Lib.hid e1
  clear hn1 e1
  refine wp_stmt fun K HK=>?_
  clear HK
  have hzf:=zeroed_facts hBs2 hBn2 hne
  have hzb:=zeroed_below hbel2 hgs hgn W2
  have hne':gn ≠ gs:=fun e=>hne e.symm
  have q0:=hBs2.cell 0
  have q1:=hBs2.cell 1
  have q2:=hBs2.cell 2
  have q3:=hBs2.cell 3
  have q4:=hBs2.cell 4
  have q5:=hBs2.cell 5
  have q6:=hBs2.cell 6
  simp only [nqg,nqh,nqi] at q0 q1 q2 q3 q4 q5 q6
  have r0:=hBn2.cell 0
  have r1:=hBn2.cell 1
  have r2:=hBn2.cell 2
  have r3:=hBn2.cell 3
  have r4:=hBn2.cell 4
  simp only [nqg,nqh,nqi] at r0 r1 r2 r3 r4
  have fq0:=hBs2.frozen 0
  have fq1:=hBs2.frozen 1
  have fq2:=hBs2.frozen 2
  have fq3:=hBs2.frozen 3
  have fq4:=hBs2.frozen 4
  have fq5:=hBs2.frozen 5
  have fq6:=hBs2.frozen 6
  have fr0:=hBn2.frozen 0
  have fr1:=hBn2.frozen 1
  have fr2:=hBn2.frozen 2
  have fr3:=hBn2.frozen 3
  have fr4:=hBn2.frozen 4
  have lq:=hBs2.lt
  have lr:=hBn2.lt
  go_wp2
  clear q0 q1 q2 q3 q4 q5 q6 r0 r1 r2 r3 r4
  change bodyPost _ _ _ _ _ (zeroed W2 gs gn)
  obtain ⟨hzs,hzn⟩:=hzf
  generalize zeroed W2 gs gn = WW at hzs hzn hzb ⊢
  have q0:=hzs.cell 0
  have q1:=hzs.cell 1
  have q2:=hzs.cell 2
  have q3:=hzs.cell 3
  have q4:=hzs.cell 4
  have q5:=hzs.cell 5
  have q6:=hzs.cell 6
  simp only [nqg,nqh,nqi] at q0 q1 q2 q3 q4 q5 q6
  have r0:=hzn.cell 0
  have r1:=hzn.cell 1
  have r2:=hzn.cell 2
  have r3:=hzn.cell 3
  have r4:=hzn.cell 4
  simp only [nqg,nqh,nqi] at r0 r1 r2 r3 r4
  clear hzs hzn
  refine bodyPost_ret (v:=_) (by simp [results,Tryz.results27,go_sem,q0,q1,q2,q3,q4,q5,q6,r0,r1,r2,r3,r4]; rfl) rfl ?_
  exact SlipPost.fail (HPRE.out.err1 (by rw [HYT.out]; exact HN1.out) HE1.out) HE1.out hzb
 obtain ⟨_,_,hr1,hr2⟩:=addE_inv e1
 rw [← hr2] at hr1
 have HE1:=Lib.hid e1
 have HT1:Hid (addR y.taken I.before = I.taken1):=by rw [Hid,NetIn.taken1,HYT.out]
 rw [e1,HT1.out]
 rw [HT1.out] at hS1 hlc1 hr1
 have tl1:=(rec_size hr1).1
 clear e1 hr2
 generalize I.taken1 = tk1 at *
 refine wp_stmt fun K HK=>?_
 go_wp2_with fail
 refine HK.out _ _ ?_
 clear HK K
 -- after,f:=Take(..)
 have p0:=hBp2.cell 0
 have p1:=hBp2.cell 1
 have p2:=hBp2.cell 2
 have p3:=hBp2.cell 3
 simp only [nqg,nqh,nqi] at p0 p1 p2 p3
 have HTK2:Hid (Calls Tryz.prog 54 #[.slice p.Ad p.ds.length p.cd,.bool false,.int .i64 I.base,.int .i64 (max left4 0),.slice At1 tk1.length ct1] W2 (EPost (takeR p.ds false I.base (max left4 0) tk1) (takeE p.ds I.base (max left4 0) tk1) W2)):=HTK.out W2 _ At1 ct1 tk1 hb2 hS1 hr1
 clear HTK
 refine wp_stmt fun K HK=>?_
 go_cut [17,40] from 283 to 292 (fun v17 v40 wx=>∃ A6 c6,v40 = .slice A6 (takeR p.ds false I.base (max left4 0) tk1).length c6∧v17 = .int .i64 (takeE p.ds I.base (max left4 0) tk1)∧SliceOf encE 2 wx wx.heap.size A6 (takeR p.ds false I.base (max left4 0) tk1)∧Below W2.heap.size W2 wx)
 case first =>
  by_cases hl:0≤left4
  ·
   have e:max left4 0 = left4:=by omega
   have HE:=Lib.hid e
   rw [e] at HTK2
   clear e HK
   go_wp2_with fail
   refine Calls.mono HTK2.out ?_
   rintro e w3 ⟨A6,c6,rfl,hS6,h61,h62,hb3⟩
   go_wp2_with fail
   go_meet
   rw [HE.out]
   exact ⟨A6,c6,rfl,rfl,hS6,hb3⟩
  ·
   have e:max left4 0 = 0:=by omega
   have HE:=Lib.hid e
   rw [e] at HTK2
   clear e HK
   go_wp2_with fail
   refine Calls.mono HTK2.out ?_
   rintro e w3 ⟨A6,c6,rfl,hS6,h61,h62,hb3⟩
   go_wp2_with fail
   go_meet
   rw [HE.out]
   exact ⟨A6,c6,rfl,rfl,hS6,hb3⟩
 obtain ⟨A6,c6,rfl,rfl,hS6,hb3⟩:=hcut
 rename World=>W3
 refine HK.out _ _ ?_
 clear HK K HTK2 p0 p1 p2 p3
 have hb3':=bel_adv hb2 hb3
 have hbel3:=bel_adv hbel hb3'
 have hBs3:=hBs.adv hb3'
 have hBn3:=hBn.adv hb3'
 have hT1:=hS1.adv hb3
 clear hBs2 hBn2 hBp2 hBy2 hBb2 hbel2 hS1
 by_cases e2:takeE p.ds I.base (max left4 0) tk1 = 0
 rotate_left
 ·
  generalize hn1:takeE p.ds I.base (max left4 0) tk1 = n1 at *
  have hn1':(n1 != 0) = true:=by simp [e2]
  have HN1:=Lib.hid hn1
  have HE2:=Lib.hid e2
  clear hn1 e2
  refine wp_stmt fun K HK=>?_
  clear HK
  have hzf:=zeroed_facts hBs3 hBn3 hne
  have hzb:=zeroed_below hbel3 hgs hgn W3
  have hne':gn ≠ gs:=fun e=>hne e.symm
  have q0:=hBs3.cell 0
  have q1:=hBs3.cell 1
  have q2:=hBs3.cell 2
  have q3:=hBs3.cell 3
  have q4:=hBs3.cell 4
  have q5:=hBs3.cell 5
  have q6:=hBs3.cell 6
  simp only [nqg,nqh,nqi] at q0 q1 q2 q3 q4 q5 q6
  have r0:=hBn3.cell 0
  have r1:=hBn3.cell 1
  have r2:=hBn3.cell 2
  have r3:=hBn3.cell 3
  have r4:=hBn3.cell 4
  simp only [nqg,nqh,nqi] at r0 r1 r2 r3 r4
  have fq0:=hBs3.frozen 0
  have fq1:=hBs3.frozen 1
  have fq2:=hBs3.frozen 2
  have fq3:=hBs3.frozen 3
  have fq4:=hBs3.frozen 4
  have fq5:=hBs3.frozen 5
  have fq6:=hBs3.frozen 6
  have fr0:=hBn3.frozen 0
  have fr1:=hBn3.frozen 1
  have fr2:=hBn3.frozen 2
  have fr3:=hBn3.frozen 3
  have fr4:=hBn3.frozen 4
  have lq:=hBs3.lt
  have lr:=hBn3.lt
  go_wp2
  clear q0 q1 q2 q3 q4 q5 q6 r0 r1 r2 r3 r4
  change bodyPost _ _ _ _ _ (zeroed W3 gs gn)
  obtain ⟨hzs,hzn⟩:=hzf
  generalize zeroed W3 gs gn = WW at hzs hzn hzb ⊢
  have q0:=hzs.cell 0
  have q1:=hzs.cell 1
  have q2:=hzs.cell 2
  have q3:=hzs.cell 3
  have q4:=hzs.cell 4
  have q5:=hzs.cell 5
  have q6:=hzs.cell 6
  simp only [nqg,nqh,nqi] at q0 q1 q2 q3 q4 q5 q6
  have r0:=hzn.cell 0
  have r1:=hzn.cell 1
  have r2:=hzn.cell 2
  have r3:=hzn.cell 3
  have r4:=hzn.cell 4
  simp only [nqg,nqh,nqi] at r0 r1 r2 r3 r4
  clear hzs hzn
  refine bodyPost_ret (v:=_) (by simp [results,Tryz.results27,go_sem,q0,q1,q2,q3,q4,q5,q6,r0,r1,r2,r3,r4]; rfl) rfl ?_
  exact SlipPost.fail (HERR2.out _ rfl HE2.out HE1.out) HE2.out hzb
 obtain ⟨_,hfm,f0,f1,l6⟩:=take_facts (before:=false) e2
 have hfz:∀ x ∈ takeR p.ds false I.base (max left4 0) tk1,x.code.size≤maxLen:=fun x hx=>name_max (hfm x hx).1
 have HFB:Hid (∀ x ∈ takeR p.ds false I.base (max left4 0) tk1,0≤x.amount∧x.amount≤1000000000):=fun x hx=>(hfm x hx).2
 have HE2:=Lib.hid e2
 rw [e2]
 have f1':sumE (takeR p.ds false I.base (max left4 0) tk1)≤100000000000000:=by omega
 clear e2 hfm f1
 generalize takeR p.ds false I.base (max left4 0) tk1 = af at *
 refine wp_stmt fun K HK=>?_
 go_wp2_with fail
 refine HK.out _ _ ?_
 clear HK K
 -- left -= Sum(after)
 have HSF:Hid (Calls Tryz.prog 55 #[.slice A6 af.length c6] W3 fun e w'=>e = .returned (.int .i64 (sumE af))∧W3 = w'):=sum27_any A6 c6 af W3 _ hS6 (by omega) (fun x hx=>by have:=HFB.out x hx; omega)
 refine wp_stmt fun K HK=>?_
 go_wp2_with fail
 refine Calls.mono HSF.out ?_
 rintro e w' ⟨rfl,rfl⟩
 go_wp2_with fail
 refine HK.out _ _ ?_
 clear HK K HSF
 -- taken,f = Add(taken,after)
 have HA2:Hid (Calls Tryz.prog 60 #[.slice At1 tk1.length ct1,.slice A6 af.length c6] W3 (EPost (addR tk1 af) (addE tk1 af) W3)):=add27_any At1 A6 ct1 c6 tk1 af W3 hT1 (rec_size hr1).2 (by omega) hS6 hfz (by omega)
 refine wp_stmt fun K HK=>?_
 go_wp2_with fail
 refine Calls.mono HA2.out ?_
 rintro e W4 ⟨At2,ct2,rfl,hS2,hlc2,hcm2,hb4⟩
 go_wp2_with fail
 refine HK.out _ _ ?_
 clear HK K HA2 hfz
 have hb4':=bel_adv hb3' hb4
 have hbel4:=bel_adv hbel hb4'
 have hBs4:=hBs.adv hb4'
 have hBn4:=hBn.adv hb4'
 by_cases e3:addE tk1 af = 0
 rotate_left
 ·
  generalize hn1:addE tk1 af = n1 at *
  have hn1':(n1 != 0) = true:=by simp [e3]
  have HN1:=Lib.hid hn1
  have HE3:=Lib.hid e3
  clear hn1 e3
  refine wp_stmt fun K HK=>?_
  clear HK
  have hzf:=zeroed_facts hBs4 hBn4 hne
  have hzb:=zeroed_below hbel4 hgs hgn W4
  have hne':gn ≠ gs:=fun e=>hne e.symm
  have q0:=hBs4.cell 0
  have q1:=hBs4.cell 1
  have q2:=hBs4.cell 2
  have q3:=hBs4.cell 3
  have q4:=hBs4.cell 4
  have q5:=hBs4.cell 5
  have q6:=hBs4.cell 6
  simp only [nqg,nqh,nqi] at q0 q1 q2 q3 q4 q5 q6
  have r0:=hBn4.cell 0
  have r1:=hBn4.cell 1
  have r2:=hBn4.cell 2
  have r3:=hBn4.cell 3
  have r4:=hBn4.cell 4
  simp only [nqg,nqh,nqi] at r0 r1 r2 r3 r4
  have fq0:=hBs4.frozen 0
  have fq1:=hBs4.frozen 1
  have fq2:=hBs4.frozen 2
  have fq3:=hBs4.frozen 3
  have fq4:=hBs4.frozen 4
  have fq5:=hBs4.frozen 5
  have fq6:=hBs4.frozen 6
  have fr0:=hBn4.frozen 0
  have fr1:=hBn4.frozen 1
  have fr2:=hBn4.frozen 2
  have fr3:=hBn4.frozen 3
  have fr4:=hBn4.frozen 4
  have lq:=hBs4.lt
  have lr:=hBn4.lt
  go_wp2
  clear q0 q1 q2 q3 q4 q5 q6 r0 r1 r2 r3 r4
  change bodyPost _ _ _ _ _ (zeroed W4 gs gn)
  obtain ⟨hzs,hzn⟩:=hzf
  generalize zeroed W4 gs gn = WW at hzs hzn hzb ⊢
  have q0:=hzs.cell 0
  have q1:=hzs.cell 1
  have q2:=hzs.cell 2
  have q3:=hzs.cell 3
  have q4:=hzs.cell 4
  have q5:=hzs.cell 5
  have q6:=hzs.cell 6
  simp only [nqg,nqh,nqi] at q0 q1 q2 q3 q4 q5 q6
  have r0:=hzn.cell 0
  have r1:=hzn.cell 1
  have r2:=hzn.cell 2
  have r3:=hzn.cell 3
  have r4:=hzn.cell 4
  simp only [nqg,nqh,nqi] at r0 r1 r2 r3 r4
  clear hzs hzn
  refine bodyPost_ret (v:=_) (by simp [results,Tryz.results27,go_sem,q0,q1,q2,q3,q4,q5,q6,r0,r1,r2,r3,r4]; rfl) rfl ?_
  exact SlipPost.fail (HERR3.out _ HE2.out rfl HE1.out) HE3.out hzb
 rw [e3]
 have HE3:=Lib.hid e3
 clear e3
 refine wp_stmt fun K HK=>?_
 go_wp2_with fail
 refine HK.out _ _ ?_
 clear HK K
 have hys4:=hys.adv hb4'
 have hBy4:=hBy.adv hb4'
 have hBb4:=hBb.adv hb4'
 have ERR0:I.err = 0:=HERR3.out 0 HE2.out HE3.out HE1.out
 have HLN : []++linesK 1 I.earn++linesK 2 I.bene++linesK 3 I.before++linesK 4 (I.ownTo I.r.schemes)++linesK 5 (I.emplTo I.r.schemes)++linesK 6 [⟨⟨#[]⟩,I.tax⟩]++linesK 7 I.attached++linesK 8 af++linesK 9 [⟨⟨#[]⟩,max (left4 - sumE af) 0⟩]++linesK 10 [⟨⟨#[]⟩,max (-(left4 - sumE af)) 0⟩] = I.lines:=by rw [HL5b.out,HAF.out]; rfl
 have l3':(I.ownTo I.r.schemes).length≤1000:=by simp only [NetIn.ownTo,List.length_map]; omega
 have l4':(I.emplTo I.r.schemes).length≤1000:=by simp only [NetIn.emplTo,List.length_map]; omega
 have l6':af.length≤1000:=by omega
 have HRR:Hid (∀ (A Ai:Option Addr) (c ci:Nat) (w':World),SliceOf encL 3 w' w'.heap.size A ([]++linesK 1 I.earn++linesK 2 I.bene++linesK 3 I.before++linesK 4 (I.ownTo I.r.schemes)++linesK 5 (I.emplTo I.r.schemes)++linesK 6 [⟨⟨#[]⟩,I.tax⟩]++linesK 7 I.attached++linesK 8 af++linesK 9 [⟨⟨#[]⟩,max (left4 - sumE af) 0⟩]++linesK 10 [⟨⟨#[]⟩,max (-(left4 - sumE af)) 0⟩])→SliceOf encI 1 w' w'.heap.size Ai (y.ins++[I.insured])→SliceOf encE 2 w' w'.heap.size At2 (addR tk1 af)→Below w.heap.size w w'→SlipPost I w (.returned (.tuple #[.agg #[.int .i64 I.b.g,.int .i64 I.b.c,.int .i64 I.b.t,.int .i64 I.b.i,.int .i64 I.b.a,.int .i64 (I.b.c - I.levies - I.tax),.slice A ([]++linesK 1 I.earn++linesK 2 I.bene++linesK 3 I.before++linesK 4 (I.ownTo I.r.schemes)++linesK 5 (I.emplTo I.r.schemes)++linesK 6 [⟨⟨#[]⟩,I.tax⟩]++linesK 7 I.attached++linesK 8 af++linesK 9 [⟨⟨#[]⟩,max (left4 - sumE af) 0⟩]++linesK 10 [⟨⟨#[]⟩,max (-(left4 - sumE af)) 0⟩]).length c],.agg #[.int .i64 (y.periods+1),.int .i64 (y.income+I.income),.int .i64 (y.withheld+I.tax),.slice Ai (y.ins.length+1) ci,.slice At2 (addR tk1 af).length ct2],.int .i64 0])) w'):=by
  intro A Ai c ci w' hL hI hT hb
  rw [HLN] at hL ⊢
  have hnp:I.next.periods = y.periods+1:=by show I.y.periods+1 = _; rw [HIY.out]; rfl
  have hni:I.next.income = y.income+I.income:=by show I.y.income+I.income = _; rw [HIY.out]; rfl
  have hnw:I.next.withheld = y.withheld+I.tax:=by show I.y.withheld+I.tax = _; rw [HIY.out]; rfl
  have hns:I.next.insured = y.ins++[I.insured]:=by show I.y.insured++[I.insured] = _; rw [HIY.out]; rfl
  have hnt:I.next.taken = addR tk1 af:=HT2.out.symm
  refine .inl ⟨ERR0,A,c,Ai,ci,At2,ct2,?_,hL,by rw [hns]; exact hI,by rw [hnt]; exact hT,hb⟩
  rw [hnp,hni,hnw,hns,hnt,List.length_append]
  rfl
 exact cmp_p6 (SlipPost I w) w W4 gy gs gn gb y I.b A0 A1 A2 A3 A4 A5 A6 At2 c0 c1 c2 c3 c4 c5 c6 ct2 I.earn I.bene I.before (I.ownTo I.r.schemes) (I.emplTo I.r.schemes) I.attached af (addR tk1 af) (left4 - sumE af) I.income I.insured I.levies I.tax _ _ _ _ _ _ _ _ _ _ _ _ _ _ _ _ _ _ _ _ _ _ _ _ _ _ _ _ _ _ _ _ _ _ _ _ _ _ _ _ _ _ _ _ _ _ _ _ _ _ _ _ _ _ _ _ _ _ _ _ _ _ _ _ _ _ _ _ _ _ _ _ _ _ _ _ _ _ _ _ _ _ _ _ _ _ _ _ _ _ _ _ _ _ _ _ _ _ _ _ _ _ _ _ _ _ _ _ _ _ _ _ _ _ _ _ _ _ _ _ _ _ _ _ _ _ _ _ _ _ _ _ _ _ _ _ _ _ _ _ _ _ _ _ _ _ _ _ _ _ _ _ _ _ _ _ _ _ _ _ _ _ _ _ _ _ _ _ _ _ _ _ _ _ _ _ _ _ _ _ _ _ _ _ _ _ _ _ _ _ _ _ _ _ _ _ _ _ _ _ _ _ _ _ _ _ _ _ _ _ _ _ _ _ _ _ _ _ _ _ _ _ _ _ _ _ _ _ _ _ _ _ _ _ _ _ _ _ _ _ _ _ _ _ _ _ _ _ _ _ _ _ _ _ _ _ _ _ _ _ _ _ _ _ _ _ _ _ _ _ _ _ _ _ _ _ _ _ _ _ _ _ _ _ _ _ _ _ _ _ _ _ _ _ _ _ _ _ _ _ _ _ _ _ _ _ _ _ _ _ _ _ _ _ _ _ _ _ _ _ _ _ _ _ _ _ _ _ _ _ _ _ _ _ _ _ _ _ _ _ _ _ _ _ _ _ _ _ _ _ _ _ _ _ _ _ _ _ _ _ _ _ _ _ _ _ _ _ _ _ _ _ _ _ _ _ _ _ _ _ _ _ _ _ _ _ _ _ _ _ _ _ _ _ _ hbel4 hBy4 hBs4 hBn4 hgs hgn hne hys4 hS2 li hBb4 (h0.adv hb4') (h1.adv hb4') (h2.adv hb4') (h3.adv hb4') (h4.adv hb4') (h5.adv hb4') (hS6.adv hb4) l0 l1 (by omega) l3' l4' (by omega) l6' (by omega) (by omega) (by omega) (by omega) (by omega) (by omega) (by omega) (by omega) (by omega) (by omega) (by omega) (by omega) (by omega) (by omega) (by omega) (by omega) HRR
end Go.Proofs.YtjncpgbhokjbfaaGreat
