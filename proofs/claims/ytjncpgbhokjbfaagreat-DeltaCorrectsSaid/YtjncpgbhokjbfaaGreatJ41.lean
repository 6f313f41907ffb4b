/- Joined texts: Cmp3b. Conditions: as stated. -/
import Derived.Test.YtjncpgbhokjbfaaGreatJ39
import Derived.Test.YtjncpgbhokjbfaaGreatJ40
namespace Go.Proofs.YtjncpgbhokjbfaaGreat
open Go.RowKit
structure LvC (B:Nat) (a:World) (lb lo : Nat) (lv:LevyT) (w:World) : Prop where
 bel:Below B a w
 c1:w.cell? ⟨lb,lo+1,none⟩ = some (.int .i64 lv.employee)
 c2:w.cell? ⟨lb,lo+2,none⟩ = some (.int .i64 lv.employer)
 lt:lb < w.heap.size
theorem LvC.stable (B:Nat) (a:World) (lb lo : Nat) (lv:LevyT) (hB:B≤a.heap.size) : Stable (LvC B a lb lo lv):=fun _ _ h hb =>
 ⟨h.bel.trans (hb.mono (Nat.le_trans hB h.bel.size)),(hb.cell (p:=⟨lb,lo+1,none⟩) h.lt).trans h.c1,(hb.cell (p:=⟨lb,lo+2,none⟩) h.lt).trans h.c2,Nat.lt_of_lt_of_le h.lt hb.size⟩
theorem LvC.grown {B:Nat} {a:World} {lb lo : Nat} {lv:LevyT} {w w' : World} {row:Option Nat} (h:LvC B a lb lo lv w) (hg:w.grownBy w' row) (hB:B≤a.heap.size) (hr : ∀ q,row = some q→B≤q) (hl:row ≠ some lb) : LvC B a lb lo lv w' :=
 ⟨h.bel.trans (only_below hg (Nat.le_trans hB h.bel.size) hr),(World.cell?_of_block (hg.block lb h.lt (fun e=>hl e.symm))).trans h.c1,(World.cell?_of_block (hg.block lb h.lt (fun e=>hl e.symm))).trans h.c2,Nat.lt_of_lt_of_le h.lt hg.size⟩
def Apart (u v : Value) : Prop:=∀ q,u.ownBlock = some q→v.ownBlock ≠ some q
def LvCut (W:World) (LO LM : List Elem) (lb lo : Nat) (lv:LevyT) (vo vm : Value) (wx:World) : Prop :=
 Own encE 2 109 wx W.heap.size vo LO∧Own encE 2 109 wx W.heap.size vm LM∧Apart vo vm∧LvC W.heap.size W lb lo lv wx∧(∀ q,vo.ownBlock = some q→q ≠ lb)∧∀ q,vm.ownBlock = some q→q ≠ lb
theorem levies_succ {I:NetIn} {l:List SchT} {k:Nat} (h:k < l.length) : I.leviesTo (l.take (k+1)) = I.leviesTo (l.take k)+(I.levyOf l[k]).employee:=by
 unfold NetIn.leviesTo
 rw [List.take_succ_eq_append_getElem h,List.map_append,sumI_append]; simp [sumI]
theorem relief_succ {I:NetIn} {l:List SchT} {k:Nat} (h:k < l.length) : I.reliefTo (l.take (k+1)) = I.reliefTo (l.take k)+(if l[k].deductible then (I.levyOf l[k]).employee else 0):=by
 unfold NetIn.reliefTo
 rw [List.take_succ_eq_append_getElem h,List.map_append,sumI_append]; simp [sumI]
theorem own_succ {I:NetIn} {l:List SchT} {k:Nat} (h:k < l.length) : I.ownTo (l.take (k+1)) = I.ownTo (l.take k)++[⟨l[k].code,(I.levyOf l[k]).employee⟩]:=by
 unfold NetIn.ownTo
 rw [List.take_succ_eq_append_getElem h,List.map_append]; rfl
theorem empl_succ {I:NetIn} {l:List SchT} {k:Nat} (h:k < l.length) : I.emplTo (l.take (k+1)) = I.emplTo (l.take k)++[⟨l[k].code,(I.levyOf l[k]).employer⟩]:=by
 unfold NetIn.emplTo
 rw [List.take_succ_eq_append_getElem h,List.map_append]; rfl
theorem levies_bd {I:NetIn} {l:List SchT} {k:Nat} (hl:l.length≤12) (h : ∀ s ∈ l.take k,0≤(I.levyOf s).employee∧(I.levyOf s).employee≤1000000000) : (0≤I.leviesTo (l.take k)∧I.leviesTo (l.take k)≤12000000000)∧0≤I.reliefTo (l.take k)∧I.reliefTo (l.take k)≤12000000000:=by
 have hlen:(l.take k).length≤12:=by simp; omega
 have h1:=sumI_bd (l:=(l.take k).map fun s=>(I.levyOf s).employee) (B:=1000000000) (fun x hx=>by
  obtain ⟨s,hs,rfl⟩:=List.mem_map.1 hx; exact h s hs)
 have h2:=sumI_bd (l:=(l.take k).map fun s=>if s.deductible then (I.levyOf s).employee else 0) (B:=1000000000) (fun x hx=>by
  obtain ⟨s,hs,rfl⟩:=List.mem_map.1 hx
  have:=h s hs
  split <;> omega)
 rw [List.length_map] at h1 h2
 unfold NetIn.leviesTo NetIn.reliefTo
 omega
theorem overs_no {I:NetIn} (h : ∀ s ∈ I.r.schemes,overJ (jointV s I.y.insured.length I.jobs) = false) : I.overs = false:=by
 unfold NetIn.overs
 rw [List.any_eq_false]
 intro s hs
 rw [h s hs]; simp
theorem overs_yes {I:NetIn} {s:SchT} (hs:s ∈ I.r.schemes) (h:overJ (jointV s I.y.insured.length I.jobs) = true) : I.overs = true:=by
 unfold NetIn.overs
 rw [List.any_eq_true]
 exact ⟨s,hs,h⟩
structure Pre2 (I:NetIn) : Prop where
 per:I.y.periods < I.r.count
 of_:ofErr I.r.wages I.e (sumsP I.e) = 0
 take:takeE I.p.deds I.base (max I.b.c 0) I.y.taken = 0
theorem Pre2.err {I:NetIn} (h:Pre2 I) (h4:I.overs = true) : I.err = 4:=by
 have h1:=h.per
 unfold NetIn.err
 rw [if_neg (by omega),h.of_,if_neg (by simp),h.take,if_neg (by simp),if_pos h4]
set_option maxRecDepth 100000 in
set_option maxHeartbeats 8000000 in
theorem cmp_p3b (w W : World) (gr gp gy gs gn gb : Nat) (r:RulesM) (p:PersonM) (y:YearM) (I:NetIn) (Ak A0 A1 A2 A9 : Option Addr) (kc c0 c1 c2 c9 : Nat) (es:List EmpC) (fi:Bool)
  (x0 x1 x2 x5 x9 x10 x11 x14 x15 x17 x18 x19 x22 x23 x24 x34 x35 x36 x37 x38 x39 x40 x41 x42 x43 x44 x45 x46 x47 x48 x49 x50 x51 x52 x53 x54 x55 x56 x57 x58 x59 x60 x61 x62 x63 x64 x65 x66 x67 x68 x69 x70 x71 x72 x73 x74 x75 x76 x77 x78 x79 x80 x81 x82 x83 x84 x85 x86 x87 x88 x89 x90 x91 x92 x93 x94 x95 x96 x97 x98 x99 x100 x101 x102 x103 x104 x105 x106 x107 x108 x109 x110 x111 x112 x113 x114 x115 x116 x117 x118 x119 x120 x121 x122 x123 x124 x125 x126 x127 x128 x129 x130 x131 x132 x133 x134 x135 x136 x137 x138 x139 x140 x141 x142 x143 x144 x145 x146 x147 x148 x149 x150 x151 x152 x153 x154 x155 x156 x157 x158 x159 x160 x161 x162 x163 x164 x165 x166 x167 x168 x169 x170 x171 x172 x173 x174 x175 x176 x177 x178 x179 x180 x181 x182 x183 x184 x185 x186 x187 x188 x189 x190 x191 x192 x193 x194 x195 x196 x197 x198 x199 x200 x201 x202 x203 x204 x205 x206 x207 x208 x209 x210 x211 x212 x213 x214 x215 x216 x217 x218 x219 x220 x221 x222 x223 x224 x225 x226 x227 x228 x229 x230 x231 x232 x233 x234 x235 x236 x237 x238 x239 x240 x241 x242 x243 x244 x245 x246 x247 x248 x249 x250 x251 x252 x253 x254 x255 x256 x257 x258 x259 x260 x261 x262 x263 x264 x265 x266 x267 x268 x269 x270 x271 x272 x273 x274 x275 x276 x277 x278 x279 x280 x281 x282 x283 x284 x285 x286 x287 x288 x289 x290 x291 x292 x293 x294 x295 x296 x297 x298 x299 x300 x301 x302 x303 x304 x305 x306 x307 x308 x309 x310 x311 x312 x313 x314 x315 x316 x317 x318 x319 x320 x321 x322 x323 x324 x325 x326 x327 x328 x329 x330 x331 x332 x333 x334 x335 x336 x337 x338 x339 x340 x341 x342 x343 x344 x345 x346 x347 x348 x349 x350 x351 x352 x353 x354 x355 x356 x357 x358 x359 x360 x361 x362 x363 x364 x365 x366 x367 x368 x369 x370 x371 x372 x373 x374 x375 x376 x377 x378 x379 x380 x381 x382 x383 x384 x385 x386 x387 x388 x389 x390 x391 x392 x393 x394 x395 x396 x397 x398 x399 x400 x401 x402 x403 x404 x405 x406 x407 x408 x409 x410 x411:Value)
  (hbel:Below w.heap.size w W) (hBy:Blk W gy 81 #[.int .i64 y.periods,.int .i64 y.income,.int .i64 y.withheld,.slice y.Ai y.ins.length y.ci,.slice y.At y.taken.length y.ct]) (hBs:Blk W gs 41 #[.int .i64 0,.int .i64 0,.int .i64 0,.int .i64 0,.int .i64 0,.int .i64 0,.slice none 0 0]) (hBn:Blk W gn 81 #[.int .i64 0,.int .i64 0,.int .i64 0,.slice none 0 0,.slice none 0 0]) (hgs:w.heap.size≤gs) (hgn:w.heap.size≤gn) (hne:gs ≠ gn) (hfi:I.first = fi) (hBr:Blk W gr 73 #[.slice r.Aw r.ws.length r.cw,.slice r.As r.ss.length r.cs,.int .i64 r.tm.t.method,.slice r.tm.Ab r.tm.t.brs.length r.tm.cb,.int .i64 r.tm.t.allowance,.int .i64 r.tm.t.credit,.int .i64 r.tm.t.unit,.int .i64 r.tm.t.mode,.slice r.tm.Ar r.tm.t.rows.length r.tm.cr,.int .i64 r.count,.int .i64 r.sh.fixed,.int .i64 r.sh.dependent,.int .i64 r.sh.lower,.int .i64 r.sh.share,.int .i64 r.sh.top,.int .i64 r.recover]) (hBp:Blk W gp 78 #[.int .i64 p.deps,.slice p.Ad p.ds.length p.cd,.slice p.Ao p.os.length p.co,.slice p.Ae p.es.length p.ce]) (hBb:Blk W gb 38 (encBas I.b).toArray) (hIr:I.r = r.t) (hIp:I.p = p.t) (hIy:I.y = y.t) (hrs:r.In W) (hps:p.In W) (hys:y.In W) (hk:SliceOf encE 2 W W.heap.size Ak I.kept) (hes:SliceOf encEm 2 W W.heap.size A9 es) (hin:∀ e ∈ es,SliceOf encI 1 W W.heap.size e.A e.l) (hjobs:es.map EmpC.v = I.jobs) (hpre:Pre2 I) (hok:InOk I) (h0:SliceOf encE 2 W W.heap.size A0 I.earn) (h1:SliceOf encE 2 W W.heap.size A1 I.bene) (h2:SliceOf encE 2 W W.heap.size A2 I.before) (l0:I.earn.length≤1000) (l1:I.bene.length≤1000) :
  Code.wp Tryz.prog (dropC 16 (bodyOf Tryz.f27)) (bodyPost Tryz.prog Tryz.f27 (SlipPost I w)) { tmps:=List.toArray (x0::x1::x2::(.slice Ak I.kept.length kc)::(.bool fi)::x5::(.pointer (some ⟨gr,0,none⟩))::(.pointer (some ⟨gp,0,none⟩))::(.pointer (some ⟨gy,0,none⟩))::x9::x10::x11::(.pointer (some ⟨gs,0,none⟩))::(.pointer (some ⟨gn,0,none⟩))::x14::x15::(.pointer (some ⟨gb,0,none⟩))::x17::x18::x19::(.slice A0 I.earn.length c0)::(.slice A1 I.bene.length c1)::x22::x23::x24::(.int .i64 I.left1)::(.int .i64 I.base)::(.slice A2 I.before.length c2)::(.int .i64 (I.b.t - sumE I.before))::(.int .i64 I.insured)::(.slice A9 es.length c9)::(.slice none 0 0)::(.slice none 0 0)::(.int .i64 0)::x34::x35::x36::x37::x38::x39::x40::x41::x42::x43::x44::x45::x46::x47::x48::x49::x50::x51::x52::x53::x54::x55::x56::x57::x58::x59::x60::x61::x62::x63::x64::x65::x66::x67::x68::x69::x70::x71::x72::x73::x74::x75::x76::x77::x78::x79::x80::x81::x82::x83::x84::x85::x86::x87::x88::x89::x90::x91::x92::x93::x94::x95::x96::x97::x98::x99::x100::x101::x102::x103::x104::x105::x106::x107::x108::x109::x110::x111::x112::x113::x114::x115::x116::x117::x118::x119::x120::x121::x122::x123::x124::x125::x126::x127::x128::x129::x130::x131::x132::x133::x134::x135::x136::x137::x138::x139::x140::x141::x142::x143::x144::x145::x146::x147::x148::x149::x150::x151::x152::x153::x154::x155::x156::x157::x158::x159::x160::x161::x162::x163::x164::x165::x166::x167::x168::x169::x170::x171::x172::x173::x174::x175::x176::x177::x178::x179::x180::x181::x182::x183::x184::x185::x186::x187::x188::x189::x190::x191::x192::x193::x194::x195::x196::x197::x198::x199::x200::x201::x202::x203::x204::x205::x206::x207::x208::x209::x210::x211::x212::x213::x214::x215::x216::x217::x218::x219::x220::x221::x222::x223::x224::x225::x226::x227::x228::x229::x230::x231::x232::x233::x234::x235::x236::x237::x238::x239::x240::x241::x242::x243::x244::x245::x246::x247::x248::x249::x250::x251::x252::x253::x254::x255::x256::x257::x258::x259::x260::x261::x262::x263::x264::x265::x266::x267::x268::x269::x270::x271::x272::x273::x274::x275::x276::x277::x278::x279::x280::x281::x282::x283::x284::x285::x286::x287::x288::x289::x290::x291::x292::x293::x294::x295::x296::x297::x298::x299::x300::x301::x302::x303::x304::x305::x306::x307::x308::x309::x310::x311::x312::x313::x314::x315::x316::x317::x318::x319::x320::x321::x322::x323::x324::x325::x326::x327::x328::x329::x330::x331::x332::x333::x334::x335::x336::x337::x338::x339::x340::x341::x342::x343::x344::x345::x346::x347::x348::x349::x350::x351::x352::x353::x354::x355::x356::x357::x358::x359::x360::x361::x362::x363::x364::x365::x366::x367::x368::x369::x370::x371::x372::x373::x374::x375::x376::x377::x378::x379::x380::x381::x382::x383::x384::x385::x386::x387::x388::x389::x390::x391::x392::x393::x394::x395::x396::x397::x398::x399::x400::x401::x402::x403::x404::x405::x406::x407::x408::x409::x410::x411::[]),defers:=[] } W:=by
 conv=>enter [2]; whnf
 have hab5:=amts_bd (ofErr_inv hpre.of_).2.2.2
 have t0 : -1000000000≤I.b.t:=hab5.2.2.1.1
 have t1:I.b.t≤1000000000:=hab5.2.2.1.2
 have n1:I.b.i≤1000000000:=hab5.2.2.2.1.2
 have c1':I.b.c≤1000000000:=hab5.2.1.2
 have hins:I.insured≤1000000000:=by show max I.b.i 0≤_; omega
 have htf:=take_facts (before:=true) hpre.take
 have s0:0≤sumE I.before:=htf.2.2.1
 have s1:sumE I.before≤max I.b.c 0:=htf.2.2.2.1
 have s2:sumE I.before≤1000000000:=by omega
 have hsl:r.ss.length≤12:=by have:=hok.r.nsch; rw [hIr] at this; exact this
 have hss:I.r.schemes = r.ss:=by rw [hIr]; rfl
 have hemp:=hok.emps hpre.per hins
 have HLV:Hid (∀ s ∈ r.ss,overJ (jointV s I.y.insured.length I.jobs) = false→(0≤(I.levyOf s).employee∧(I.levyOf s).employee≤1000000000)∧0≤(I.levyOf s).employer∧(I.levyOf s).employer≤1000000000):=fun s hs ho=>hok.levy hpre.per hins (by rw [hss]; exact hs) ho
 have HJ:Hid (∀ s ∈ r.ss,∀ W',Below W.heap.size W W'→Calls Tryz.prog 56 #[.agg #[.string s.code,.int .i64 s.employee,.int .i64 s.employer,.int .i64 s.floor,.int .i64 s.ceiling,.int .i64 s.unit,.int .i64 s.mode,.bool s.deductible],.slice A9 es.length c9] W' (LvPostF (jointL s I.y.insured.length I.jobs) (jointE s I.y.insured.length I.jobs) W')):=fun s hs W' hb=>by
  have:=joint28_fr s A9 c9 I.y.insured.length es W' (hes.adv hb) (fun e he=>(hin e he).adv hb) (hok.r.sch s (by rw [hss]; exact hs)) (by rw [hjobs]; exact hemp)
  rw [hjobs] at this
  exact this
 have HJL:Hid (∀ s,overJ (jointV s I.y.insured.length I.jobs) = false→jointE s I.y.insured.length I.jobs = 0∧∃ rest,jointL s I.y.insured.length I.jobs = I.levyOf s :: rest):=fun s ho=>by
  refine ⟨by rw [jointE,ho]; rfl,?_⟩
  have e1:jointL s I.y.insured.length I.jobs = jointR s I.y.insured.length I.jobs:=by rw [jointL,ho]; rfl
  have hl:0 < (jointR s I.y.insured.length I.jobs).length:=by
   unfold jointR
   rw [divN_len]
   simp [basesJ,NetIn.jobs]
  rw [e1]
  unfold NetIn.levyOf
  cases hj:jointR s I.y.insured.length I.jobs with
  | nil=>rw [hj] at hl; simp at hl
  | cons a t=>exact ⟨t,by simp⟩
 have HJE:Hid (∀ s,overJ (jointV s I.y.insured.length I.jobs) = true→jointE s I.y.insured.length I.jobs = 4):=fun s ho=>by rw [jointE,ho]; rfl
 have HPRE:=Lib.hid hpre
 have HOK:=Lib.hid hok
 have HIR:=Lib.hid hIr
 have HIP:=Lib.hid hIp
 have HIY:=Lib.hid hIy
 have HSS:=Lib.hid hss
 have HBB:=Lib.hid hBb
 have HFI:=Lib.hid hfi
 have hs0:=hrs.ss
 clear hpre hok hIr hIp hIy hss hBb hfi hab5 htf hemp hjobs hes hin s1 n1 c1' hins
 refine wp_stmt fun K HK=>?_
 go_wp2_with fail
 go_loopw [28,31,32,33,34] (fun iv ov ev lv kv wr=>∃ k:Nat,k≤r.ss.length∧kv = .int .i64 k∧iv = .int .i64 (I.b.t - sumE I.before - I.reliefTo (r.ss.take k))∧lv = .int .i64 (I.leviesTo (r.ss.take k))∧Own encE 2 109 wr W.heap.size ov (I.ownTo (r.ss.take k))∧Own encE 2 109 wr W.heap.size ev (I.emplTo (r.ss.take k))∧Hid (Apart ov ev)∧Hid (∀ s ∈ r.ss.take k,overJ (jointV s I.y.insured.length I.jobs) = false)∧Below W.heap.size W wr) (fun _ _ _ _ i _=>r.ss.length - (intOf i).toNat)
 case atStart=>exact ⟨0,by omega,rfl,by simp [NetIn.reliefTo,sumI],rfl,Own.nil_ _ _,Own.nil_ _ _,(fun q hq=>by cases hq),(fun s hs=>by simp at hs),Below.refl _ _⟩
 case round =>
  obtain ⟨k,hkk,rfl,rfl,rfl,hO,hM,hAp,hNo,hb1⟩:=hrel
  have hBr1:=hBr.adv hb1
  have z1:=hBr1.cell 1
  simp only [nqg,nqh,nqi] at z1
  have hlr:=hBr1.lt
  have HBD:=levies_bd (I:=I) (k:=k) hsl (fun s hs=>(HLV.out s (List.mem_of_mem_take hs) (hNo.out s hs)).1)
  obtain ⟨⟨v0,v1⟩,v2,v3⟩:=HBD
  by_cases hlt:k < r.ss.length
  ·
   obtain ⟨sb,so,hA,hsb,hc⟩:=(hs0.below hb1).at_ hlt
   have hlr0:=hBr.lt
   have hsb':sb < wr.heap.size:=by have:=hb1.size; omega
   have e0:=hc 0 _ rfl
   have e1:=hc 1 _ rfl
   have e2:=hc 2 _ rfl
   have e3:=hc 3 _ rfl
   have e4:=hc 4 _ rfl
   have e5:=hc 5 _ rfl
   have e6:=hc 6 _ rfl
   have e7:=hc 7 _ rfl
   simp only [Nat.add_zero] at e0
   have hki:(k:Int) < (r.ss.length:Int):=by omega
   clear hc
   rw [hA] at z1
   clear hA
   have hmem:r.ss[k] ∈ r.ss:=List.getElem_mem hlt
   have HJ1:=Lib.hid (HJ.out _ hmem wr hb1)
   have HZ1:Hid (W.cell? ⟨gr,1,none⟩ = some (.slice (some ⟨sb,so,none⟩) r.ss.length r.cs)):=(hb1.cell (p:=⟨gr,1,none⟩) hlr0).symm.trans z1
   have HE0:Hid (W.cell? ⟨sb,so+k * 8,none⟩ = some (.string r.ss[k].code)):=(hb1.cell (p:=⟨sb,so+k * 8,none⟩) hsb).symm.trans e0
   have HE7:Hid (W.cell? ⟨sb,so+k * 8+7,none⟩ = some (.bool r.ss[k].deductible)):=(hb1.cell (p:=⟨sb,so+k * 8+7,none⟩) hsb).symm.trans e7
   go_wp2_with fail
   refine Calls.mono HJ1.out ?_
   rintro e w2 ⟨A5,cp5,rfl,hS5,hc5,hfr5,hb2⟩
   have hb12:Below W.heap.size W w2:=bel_adv hb1 hb2
   rcases ho:overJ (jointV r.ss[k] I.y.insured.length I.jobs) with _ | _
   rotate_left
   ·
    have HERR:=Lib.hid (HPRE.out.err (overs_yes (by rw [HSS.out]; exact hmem) ho))
    rw [HJE.out _ ho]
    have hbel2:=bel_adv hbel hb12
    have hBs2:=hBs.adv hb12
    have hBn2:=hBn.adv hb12
    clear HJ1 z1 e0 e1 e2 e3 e4 e5 e6 e7 hlr hBr1 hBs hBn hBr hBp hBy hO hM hAp hNo hS5 hc5 hfr5 hb2 hb12 hb1 h0 h1 h2 hk hys hps hrs hs0 hbel v0 v1 v2 v3 t0 t1 s0 s2 l0 l1 hki hmem ho HK
    generalize (jointL r.ss[k] I.y.insured.length I.jobs).length = nn
    have hzf:=zeroed_facts hBs2 hBn2 hne
    have hzb:=zeroed_below hbel2 hgs hgn w2
    have hne':gn ≠ gs:=fun e=>hne e.symm
    have q0:=hBs2.cell 0
    have q1:=hBs2.cell 1
    have q2:=hBs2.cell 2
    have q3:=hBs2.cell 3
    have q4:=hBs2.cell 4
    have q5:=hBs2.cell 5
    have q6:=hBs2.cell 6
    simp only [nqg,nqh,nqi] at q0 q1 q2 q3 q4 q5 q6
    have r0:=hBn2.cell 0
    have r1:=hBn2.cell 1
    have r2:=hBn2.cell 2
    have r3:=hBn2.cell 3
    have r4:=hBn2.cell 4
    simp only [nqg,nqh,nqi] at r0 r1 r2 r3 r4
    have fq0:=hBs2.frozen 0
    have fq1:=hBs2.frozen 1
    have fq2:=hBs2.frozen 2
    have fq3:=hBs2.frozen 3
    have fq4:=hBs2.frozen 4
    have fq5:=hBs2.frozen 5
    have fq6:=hBs2.frozen 6
    have fr0:=hBn2.frozen 0
    have fr1:=hBn2.frozen 1
    have fr2:=hBn2.frozen 2
    have fr3:=hBn2.frozen 3
    have fr4:=hBn2.frozen 4
    have lq:=hBs2.lt
    have lr:=hBn2.lt
    go_wp2
    clear q0 q1 q2 q3 q4 q5 q6 r0 r1 r2 r3 r4
    change bodyPost _ _ _ _ _ (zeroed w2 gs gn)
    obtain ⟨hzs,hzn⟩:=hzf
    generalize zeroed w2 gs gn = WW at hzs hzn hzb ⊢
    have q0:=hzs.cell 0
    have q1:=hzs.cell 1
    have q2:=hzs.cell 2
    have q3:=hzs.cell 3
    have q4:=hzs.cell 4
    have q5:=hzs.cell 5
    have q6:=hzs.cell 6
    simp only [nqg,nqh,nqi] at q0 q1 q2 q3 q4 q5 q6
    have r0:=hzn.cell 0
    have r1:=hzn.cell 1
    have r2:=hzn.cell 2
    have r3:=hzn.cell 3
    have r4:=hzn.cell 4
    simp only [nqg,nqh,nqi] at r0 r1 r2 r3 r4
    clear hzs hzn
    refine bodyPost_ret (v:=_) (by simp [results,Tryz.results27,go_sem,q0,q1,q2,q3,q4,q5,q6,r0,r1,r2,r3,r4]; rfl) rfl ?_
    exact SlipPost.fail (HERR.out) (by omega) hzb
   obtain ⟨hE,rest,hL⟩:=HJL.out _ ho
   have HNO:Hid (∀ s ∈ r.ss.take (k+1),overJ (jointV s I.y.insured.length I.jobs) = false):=by
    intro s hs
    rw [List.take_succ_eq_append_getElem hlt] at hs
    rcases List.mem_append.1 hs with h | h
    ·
     exact hNo.out s h
    ·
     simp at h; subst h; exact ho
   obtain ⟨⟨p0,p1⟩,p2,p3⟩:=HLV.out _ hmem ho
   rw [hE]
   rw [hL] at hS5 hc5 ⊢
   have HS1:=Lib.hid (levies_succ (I:=I) hlt)
   have HS2:=Lib.hid (relief_succ (I:=I) hlt)
   have HS3:=Lib.hid (own_succ (I:=I) hlt)
   have HS4:=Lib.hid (empl_succ (I:=I) hlt)
   generalize I.levyOf r.ss[k] = lv at *
   obtain ⟨lb,lo,rfl,hlb,hcl⟩:=hS5.at_ (i:=0) (by simp)
   have f1:=hcl 1 _ rfl
   have f2:=hcl 2 _ rfl
   simp only [Nat.zero_mul,Nat.add_zero,List.getElem_cons_zero] at f1 f2
   have hfl:=hfr5 _ rfl
   simp only at hfl
   simp only [List.length_cons] at hc5 ⊢
   clear hcl
   generalize rest.length = nr at hc5 ⊢
   have hcutA:LvCut W (I.ownTo (r.ss.take k)) (I.emplTo (r.ss.take k)) lb lo lv u31 u32 w2:=⟨hO.adv hb2,hM.adv hb2,hAp.out,⟨hb12,f1,f2,hlb⟩,fun q hq=>by have:=(hO.block_lt hq).2; omega,fun q hq=>by have:=(hM.block_lt hq).2; omega⟩
   clear HJ1 z1 e0 e1 e2 e3 e4 e5 e6 e7 hlr hBr1 hO hM hAp hNo hS5 hfr5 hfl ho hE hL hc5 f1 f2 hlb hb1 hb2 hb12
   go_upto_region 32 with fail
   go_cut [31] from 167 to 180 (fun v wx=>LvCut W ((I.ownTo (r.ss.take k))++[⟨r.ss[k].code,lv.employee⟩]) (I.emplTo (r.ss.take k)) lb lo lv v u32 wx)
   case first =>
    as_aux_lemma =>
     obtain ⟨hX0,hY0,hAp0,hC0,hx0,hy0⟩:=hcutA
     clear h0 h1 h2 hk hys hps hBy hBp hBs hBn hbel HLV HJ HJL HJE HPRE HOK HIR HIP HIY HSS HBB HFI HNO HK hs0 hrs
     have hbsz:=hC0.bel.size
     refine M3.wp_region_sel (C:=LvC W.heap.size W lb lo lv) (LvC.stable _ _ _ _ _ (Nat.le_refl _)) hC0 (aE:=?aE167) [0,1,2,3,4,5,6,7,8,9,10,11] 3 (by kernel_rfl) (by kernel_rfl) rfl (by kernel_rfl) (by kernel_rfl) (by rfl) ?H167 ?M167
     case H167 =>
      intro F hF inst
      simp only [M3.opsAt,List.getElem?_toArray,List.getElem?_cons_zero,List.getElem?_cons_succ]
      have q0:∀ p:BwC (LvC W.heap.size W lb lo lv) F,p.w'.cell? ⟨gr,1,none⟩ = some (.slice (some ⟨sb,so,none⟩) r.ss.length r.cs):=fun p=>(p.h.bel.cell (p:=⟨gr,1,none⟩) hlr0).trans HZ1.out
      have q1:∀ p:BwC (LvC W.heap.size W lb lo lv) F,p.w'.cell? ⟨sb,so+k * 8,none⟩ = some (.string r.ss[k].code):=fun p=>(p.h.bel.cell (p:=⟨sb,so+k * 8,none⟩) hsb).trans HE0.out
      have q2:∀ p:BwC (LvC W.heap.size W lb lo lv) F,p.w'.cell? ⟨lb,lo+1,none⟩ = some (.int .i64 lv.employee):=fun p=>p.h.c1
      repeat (first | go_big_quiet_step (fail))
      refine wpQuiet_nil ?_
      rfl
     case M167 =>
      intro Q0 hQ0
      refine M3.mix_step [12] (by kernel_rfl) (by simp) ?_
      intro w1 hC1 hb1 i hi
      simp only [nqj,nqk,or_false] at hi
      subst hi
      have hWn:=below_new w1 (.cells #[.string r.ss[k].code,.int .i64 lv.employee] 109)
      refine M3.mix_val (.slice (some ⟨w1.heap.size,0,none⟩) 1 1) (w1.alloc (.cells #[.string r.ss[k].code,.int .i64 lv.employee] 109)) rfl rfl (by go_simp) ⟨LvC.stable _ _ _ _ _ (Nat.le_refl _) _ _ hC1 hWn,?_⟩
      simp only [Act.put,nqa,nqb,nqc,nqd,nqe,nqf]
      have hE2:=SliceOf.new encE_len w1 [⟨r.ss[k].code,lv.employee⟩] #[.string r.ss[k].code,.int .i64 lv.employee] 109 rfl
      rw [← World.size_alloc w1 (.cells #[.string r.ss[k].code,.int .i64 lv.employee] 109)] at hE2
      have hX2:=(hX0.adv hb1).adv hWn
      have hY2:=(hY0.adv hb1).adv hWn
      refine M3.mix_step [13] (by kernel_rfl) (by simp) ?_
      intro w3 hC3 hb3 i hi
      simp only [nqj,nqk,or_false] at hi
      subst hi
      have hX3:=hX2.adv hb3
      have hY3:=hY2.adv hb3
      have hE3:=hE2.adv hb3
      refine M3.mix_append2 (.tmp 167) (.tmp 179) 79 1 24 _ infoE Tryz.underlying79 hX3 hE3 encE_len (by omega) rfl encE_one (by simp only [NetIn.ownTo,List.length_map,List.length_take,List.length_cons,List.length_nil]; omega) (by omega) hC3.bel.size rfl rfl rfl rfl rfl rfl ?_
      intro v5 w5 hN5 hg5 hvo
      have hC5:=hC3.grown hg5 (Nat.le_refl _) (fun q hq=>(hX3.block_lt hq).1) (fun e=>hx0 lb e rfl)
      have hO5:=hY3.kept_ne hg5 (fun q hq e=>hAp0 q e hq)
      have hap5:Apart v5 u32:=by
       intro q hq 
       intro hq2
       rcases hvo with e | e
       ·
        rw [e] at hq; exact hAp0 q hq hq2
       ·
        rw [e] at hq
        injection hq with e2
        have:=(hY3.block_lt hq2).2
        omega
      have hxl:∀ q,v5.ownBlock = some q→q ≠ lb:=fun q hq=>by
       rcases hvo with e | e
       ·
        rw [e] at hq; exact hx0 q hq
       ·
        rw [e] at hq; injection hq with hq; have:=hC3.lt; omega
      refine ⟨hC5,?_⟩
      simp only [Act.put,nqa,nqb,nqc,nqd,nqe,nqf]
      refine M3.mix_step [14] (by kernel_rfl) (by simp) ?_
      intro w6 hC6 hb6 i hi
      simp only [nqj,nqk,or_false] at hi
      subst hi
      refine M3.mix_val v5 w6 rfl rfl rfl ⟨hC6,?_⟩
      simp only [Act.put,nqa,nqb,nqc,nqd,nqe,nqf]
      refine M3.mix_end (by kernel_rfl) ?_
      intro w7 hC7 hb7
      refine hQ0 _ _ ?_
      have hfin:LvCut W ((I.ownTo (r.ss.take k))++[⟨r.ss[k].code,lv.employee⟩]) (I.emplTo (r.ss.take k)) lb lo lv v5 u32 w7:=⟨(hN5.adv hb6).adv hb7,(hO5.adv hb6).adv hb7,hap5,hC7,hxl,hy0⟩
      have HFIN:=Lib.hid hfin
      clear hfin hN5 hO5 hX3 hY3 hE3 hX2 hY2 hE2 hg5 hvo hxl hap5
      go_wp2_with fail
      go_meet
      exact HFIN.out
   clear hcutA
   have hcutA:=hcut
   clear hcut
   go_upto_region 33 with fail
   go_cut [32] from 181 to 194 (fun v wx=>LvCut W ((I.ownTo (r.ss.take k))++[⟨r.ss[k].code,lv.employee⟩]) ((I.emplTo (r.ss.take k))++[⟨r.ss[k].code,lv.employer⟩]) lb lo lv u31 v wx)
   case first =>
    as_aux_lemma =>
     obtain ⟨hX0,hY0,hAp0,hC0,hx0,hy0⟩:=hcutA
     clear h0 h1 h2 hk hys hps hBy hBp hBs hBn hbel HLV HJ HJL HJE HPRE HOK HIR HIP HIY HSS HBB HFI HNO HK hs0 hrs
     have hbsz:=hC0.bel.size
     refine M3.wp_region_sel (C:=LvC W.heap.size W lb lo lv) (LvC.stable _ _ _ _ _ (Nat.le_refl _)) hC0 (aE:=?aE181) [0,1,2,3,4,5,6,7,8,9,10,11] 3 (by kernel_rfl) (by kernel_rfl) rfl (by kernel_rfl) (by kernel_rfl) (by rfl) ?H181 ?M181
     case H181 =>
      intro F hF inst
      simp only [M3.opsAt,List.getElem?_toArray,List.getElem?_cons_zero,List.getElem?_cons_succ]
      have q0:∀ p:BwC (LvC W.heap.size W lb lo lv) F,p.w'.cell? ⟨gr,1,none⟩ = some (.slice (some ⟨sb,so,none⟩) r.ss.length r.cs):=fun p=>(p.h.bel.cell (p:=⟨gr,1,none⟩) hlr0).trans HZ1.out
      have q1:∀ p:BwC (LvC W.heap.size W lb lo lv) F,p.w'.cell? ⟨sb,so+k * 8,none⟩ = some (.string r.ss[k].code):=fun p=>(p.h.bel.cell (p:=⟨sb,so+k * 8,none⟩) hsb).trans HE0.out
      have q2:∀ p:BwC (LvC W.heap.size W lb lo lv) F,p.w'.cell? ⟨lb,lo+2,none⟩ = some (.int .i64 lv.employer):=fun p=>p.h.c2
      repeat (first | go_big_quiet_step (fail))
      refine wpQuiet_nil ?_
      rfl
     case M181 =>
      intro Q0 hQ0
      refine M3.mix_step [12] (by kernel_rfl) (by simp) ?_
      intro w1 hC1 hb1 i hi
      simp only [nqj,nqk,or_false] at hi
      subst hi
      have hWn:=below_new w1 (.cells #[.string r.ss[k].code,.int .i64 lv.employer] 109)
      refine M3.mix_val (.slice (some ⟨w1.heap.size,0,none⟩) 1 1) (w1.alloc (.cells #[.string r.ss[k].code,.int .i64 lv.employer] 109)) rfl rfl (by go_simp) ⟨LvC.stable _ _ _ _ _ (Nat.le_refl _) _ _ hC1 hWn,?_⟩
      simp only [Act.put,nqa,nqb,nqc,nqd,nqe,nqf]
      have hE2:=SliceOf.new encE_len w1 [⟨r.ss[k].code,lv.employer⟩] #[.string r.ss[k].code,.int .i64 lv.employer] 109 rfl
      rw [← World.size_alloc w1 (.cells #[.string r.ss[k].code,.int .i64 lv.employer] 109)] at hE2
      have hX2:=(hX0.adv hb1).adv hWn
      have hY2:=(hY0.adv hb1).adv hWn
      refine M3.mix_step [13] (by kernel_rfl) (by simp) ?_
      intro w3 hC3 hb3 i hi
      simp only [nqj,nqk,or_false] at hi
      subst hi
      have hX3:=hX2.adv hb3
      have hY3:=hY2.adv hb3
      have hE3:=hE2.adv hb3
      refine M3.mix_append2 (.tmp 181) (.tmp 193) 79 1 24 _ infoE Tryz.underlying79 hY3 hE3 encE_len (by omega) rfl encE_one (by simp only [NetIn.emplTo,List.length_map,List.length_take,List.length_cons,List.length_nil]; omega) (by omega) hC3.bel.size rfl rfl rfl rfl rfl rfl ?_
      intro v5 w5 hN5 hg5 hvo
      have hC5:=hC3.grown hg5 (Nat.le_refl _) (fun q hq=>(hY3.block_lt hq).1) (fun e=>hy0 lb e rfl)
      have hO5:=hX3.kept_ne hg5 (fun q hq e=>hAp0 q hq e)
      have hap5:Apart u31 v5:=by
       intro q hq hq2
       skip
       rcases hvo with e | e
       ·
        rw [e] at hq2; exact hAp0 q hq hq2
       ·
        rw [e] at hq2
        injection hq2 with e2
        have:=(hX3.block_lt hq).2
        omega
      have hxl:∀ q,v5.ownBlock = some q→q ≠ lb:=fun q hq=>by
       rcases hvo with e | e
       ·
        rw [e] at hq; exact hy0 q hq
       ·
        rw [e] at hq; injection hq with hq; have:=hC3.lt; omega
      refine ⟨hC5,?_⟩
      simp only [Act.put,nqa,nqb,nqc,nqd,nqe,nqf]
      refine M3.mix_step [14] (by kernel_rfl) (by simp) ?_
      intro w6 hC6 hb6 i hi
      simp only [nqj,nqk,or_false] at hi
      subst hi
      refine M3.mix_val v5 w6 rfl rfl rfl ⟨hC6,?_⟩
      simp only [Act.put,nqa,nqb,nqc,nqd,nqe,nqf]
      refine M3.mix_end (by kernel_rfl) ?_
      intro w7 hC7 hb7
      refine hQ0 _ _ ?_
      have hfin:LvCut W ((I.ownTo (r.ss.take k))++[⟨r.ss[k].code,lv.employee⟩]) ((I.emplTo (r.ss.take k))++[⟨r.ss[k].code,lv.employer⟩]) lb lo lv u31 v5 w7:=⟨(hO5.adv hb6).adv hb7,(hN5.adv hb6).adv hb7,hap5,hC7,hx0,hxl⟩
      have HFIN:=Lib.hid hfin
      clear hfin hN5 hO5 hX3 hY3 hE3 hX2 hY2 hE2 hg5 hvo hxl hap5
      go_wp2_with fail
      go_meet
      exact HFIN.out
   clear hcutA
   have hcutA:=hcut
   clear hcut
   obtain ⟨hX0,hY0,hAp0,hC0,hx0,hy0⟩:=hcutA
   rename World=>w3
   have f1:=hC0.c1
   have flt:=hC0.lt
   have z1:=(hC0.bel.cell (p:=⟨gr,1,none⟩) hlr0).trans HZ1.out
   have z7:=(hC0.bel.cell (p:=⟨sb,so+k * 8+7,none⟩) hsb).trans HE7.out
   have hsz:=hC0.bel.size
   rw [← HS3.out] at hX0
   rw [← HS4.out] at hY0
   have hfin0:∀ iv,iv = Value.int .i64 (I.b.t - sumE I.before - I.reliefTo (r.ss.take (k+1)))→∃ k':Nat,k'≤r.ss.length∧Value.int .i64 ((k:Int)+1) = .int .i64 k'∧iv = .int .i64 (I.b.t - sumE I.before - I.reliefTo (r.ss.take k'))∧Value.int .i64 (I.leviesTo (r.ss.take k)+lv.employee) = .int .i64 (I.leviesTo (r.ss.take k'))∧Own encE 2 109 w3 W.heap.size u31 (I.ownTo (r.ss.take k'))∧Own encE 2 109 w3 W.heap.size u32 (I.emplTo (r.ss.take k'))∧Hid (Apart u31 u32)∧Hid (∀ s ∈ r.ss.take k',overJ (jointV s I.y.insured.length I.jobs) = false)∧Below W.heap.size W w3:=fun iv hiv=>⟨k+1,by omega,by go_num,hiv,by rw [HS1.out],hX0,hY0,hAp0,HNO.out,hC0.bel⟩
   have HFIN:=Lib.hid hfin0
   clear hfin0 hX0 hY0 hAp0 hx0 hy0
   rcases hd:r.ss[k].deductible with _ | _
   ·
    rw [hd] at z7
    have HIV:Hid (Value.int .i64 (I.b.t - sumE I.before - I.reliefTo (r.ss.take k)) = .int .i64 (I.b.t - sumE I.before - I.reliefTo (r.ss.take (k+1)))):=by rw [Hid,HS2.out,hd]; simp
    clear hd
    go_wp2
    go_roundw
    case rel =>
     have hfin:=HFIN.out _ HIV.out
     first | exact hfin | ((repeat apply Exists.intro); exact ⟨hfin,rfl⟩)
    case measure=>simp [intOf]; omega
   ·
    rw [hd] at z7
    have HIV:Hid (Value.int .i64 (I.b.t - sumE I.before - I.reliefTo (r.ss.take k) - lv.employee) = .int .i64 (I.b.t - sumE I.before - I.reliefTo (r.ss.take (k+1)))):=by rw [Hid,HS2.out,hd]; simp; omega
    clear hd
    go_wp2
    go_roundw
    case rel =>
     have hfin:=HFIN.out _ HIV.out
     first | exact hfin | ((repeat apply Exists.intro); exact ⟨hfin,rfl⟩)
    case measure=>simp [intOf]; omega
  ·
   obtain rfl:k = r.ss.length:=by omega
   rw [List.take_length] at hO hM hNo v0 v1 v2 v3 ⊢
   have hO':Own encE 2 109 wr W.heap.size u31 (I.ownTo I.r.schemes):=by rw [HSS.out]; exact hO
   have hM':Own encE 2 109 wr W.heap.size u32 (I.emplTo I.r.schemes):=by rw [HSS.out]; exact hM
   obtain ⟨A3,c3,rfl,hS3,_,_⟩:=hO'.form encE_len
   obtain ⟨A4,c4,rfl,hS4,_,_⟩:=hM'.form encE_len
   have HLE:Hid (I.leviesTo r.ss = I.levies):=by rw [Hid,NetIn.levies,HSS.out]
   have HIN:Hid (I.income = max (I.b.t - sumE I.before - I.reliefTo r.ss) 0):=by rw [Hid,NetIn.income,HSS.out]
   rw [HLE.out] at v0 v1 ⊢
   have hpre3:Pre3 I:=⟨HPRE.out.per,HPRE.out.of_,HPRE.out.take,overs_no (by rw [HSS.out]; exact hNo.out)⟩
   have HPR3:=Lib.hid hpre3
   clear hpre3 hO hM hO' hM' hAp hNo HJ HJL HJE HLV
   go_wp2_with fail
   refine HK.out _ _ ?_
   exact cmp_p4 w wr gr gp gy gs gn gb r p y I Ak A0 A1 A2 A3 A4 kc c0 c1 c2 c3 c4 (I.b.t - sumE I.before - I.reliefTo r.ss) fi _ _ _ _ _ _ _ _ _ _ _ _ _ _ _ _ _ _ _ _ _ _ _ _ _ _ _ _ _ _ _ _ _ _ _ _ _ _ _ _ _ _ _ _ _ _ _ _ _ _ _ _ _ _ _ _ _ _ _ _ _ _ _ _ _ _ _ _ _ _ _ _ _ _ _ _ _ _ _ _ _ _ _ _ _ _ _ _ _ _ _ _ _ _ _ _ _ _ _ _ _ _ _ _ _ _ _ _ _ _ _ _ _ _ _ _ _ _ _ _ _ _ _ _ _ _ _ _ _ _ _ _ _ _ _ _ _ _ _ _ _ _ _ _ _ _ _ _ _ _ _ _ _ _ _ _ _ _ _ _ _ _ _ _ _ _ _ _ _ _ _ _ _ _ _ _ _ _ _ _ _ _ _ _ _ _ _ _ _ _ _ _ _ _ _ _ _ _ _ _ _ _ _ _ _ _ _ _ _ _ _ _ _ _ _ _ _ _ _ _ _ _ _ _ _ _ _ _ _ _ _ _ _ _ _ _ _ _ _ _ _ _ _ _ _ _ _ _ _ _ _ _ _ _ _ _ _ _ _ _ _ _ _ _ _ _ _ _ _ _ _ _ _ _ _ _ _ _ _ _ _ _ _ _ _ _ _ _ _ _ _ _ _ _ _ _ _ _ _ _ _ _ _ _ _ _ _ _ _ _ _ _ _ _ _ _ _ _ _ _ _ _ _ _ _ _ _ _ _ _ _ _ _ _ _ _ _ _ _ _ _ _ _ _ _ _ _ _ _ _ _ _ _ _ _ _ _ _ _ _ _ _ _ _ _ _ _ _ _ _ _ _ _ _ _ _ _ _ _ _ _ _ _ _ _ _ _ _ _ _ _ _ _ _ (bel_adv hbel hb1) (hBy.adv hb1) (hBs.adv hb1) (hBn.adv hb1) hgs hgn hne HFI.out hBr1 (hBp.adv hb1) (HBB.out.adv hb1) HIR.out HIP.out HIY.out (hrs.adv hb1) (hps.adv hb1) (hys.adv hb1) (hk.adv hb1) HPR3.out HOK.out (h0.adv hb1) (h1.adv hb1) (h2.adv hb1) hS3 hS4 l0 l1 HIN.out (by omega) (by omega) v0 v1
end Go.Proofs.YtjncpgbhokjbfaaGreat
