/- Joined texts: G33g. Conditions: as stated. -/
import Derived.Test.YtlhkojcmcmkmaaaGreatJG33f
namespace Go.Proofs.YtlhkojcmcmkmaaaGreat
open Go.RowKit
def grB (g:Nat) (R:Array Value) (w' : World) : Prop:=Blk w' g 45 R
theorem maxR_mx {l:List BrT} {mx:Int} (h0:0≤mx) (h : ∀ b ∈ l,b.rate≤mx) : maxR l≤mx:=by
 have key:∀ (l:List BrT) (m:Int),m≤mx→(∀ b ∈ l,b.rate≤mx)→l.foldl (fun m b=>max m b.rate) m≤mx:=by
  intro l
  induction l with
  | nil=>intro m hm _; exact hm
  | cons a l ih =>
   intro m hm hb
   rw [List.foldl_cons]
   exact ih _ (by have:=hb a (by simp); omega) (fun b hb'=>hb b (by simp [hb']))
 exact key l 0 h0 h
theorem gross_ok {m:RulesM} {ss:List SchT} {brs:List BrT} {As Ab : Option Addr} {n cb : Nat} {u cnt : Int} (hg:RulesG m) (hm:m.tm.t.method = 2 ∨ m.tm.t.method = 3) (hs:SsK n n ss) (hn:n≤2) (hb:BrOk brs) (hr : ∀ x ∈ brs,x.rate≤450000) (hu:1≤u∧u≤10) (hc:cnt = 12 ∨ cnt = 4) :
  GrossG ⟨m.Aw,m.cw,m.ws,As,m.cs,ss,⟨⟨m.tm.t.method,brs,m.tm.t.allowance,m.tm.t.credit,u,m.tm.t.mode,m.tm.t.rows⟩,Ab,cb,m.tm.Ar,m.tm.cr⟩,cnt,m.sh,m.recover⟩:=by
 have hl:=hs.len
 have ht:TarOk m.tm.t:=hg.ok.tar
 have hsc:=hs.gen.schs
 refine ⟨⟨hg.ok.wages,by show ss.length≤12; omega,hsc.1,hsc.2,⟨ht.m0,ht.m1,hb,ht.a0,ht.a1,ht.c0,ht.c1,hu.1,by show u≤100; omega,ht.mo0,ht.mo1,ht.rows,ht.none⟩,by show 1≤cnt; omega,by show cnt≤53; omega,hg.ok.sh,hg.ok.v0,hg.ok.v1⟩,hm,fun s hs'=>?_,?_,hg.ws,hc⟩
 ·
  obtain ⟨i,hi,rfl⟩:=List.getElem_of_mem hs'
  have hi':i < ss.length:=hi
  exact hs.fl i hi' (by omega)
 ·
  have h1:=maxR_mx (l:=brs) (mx:=450000) (by omega) hr
  have h2:empS ss≤400000:=by
   have e2:=sumI_bd (l:=ss.map fun s=>s.employee) (B:=200000) (fun v hv=>by obtain ⟨s,hs',rfl⟩:=List.mem_map.1 hv; exact (hs.gen.ok s hs').1)
   rw [List.length_map] at e2
   unfold empS
   omega
  show empS ss+maxR brs≤900000
  omega
set_option maxRecDepth 100000 in
set_option maxHeartbeats 4000000 in
theorem gross_any (b M : Nat) (w:World) (hM:M≤300000) (hd:DeckIn w b M) :
  Calls Tryz.prog 39 #[.pointer (some ⟨b,0,none⟩)] w fun e w'=>∃ m:RulesM,e = .returned (.agg #[.slice m.Aw m.ws.length m.cw,.slice m.As m.ss.length m.cs,.int .i64 m.tm.t.method,.slice m.tm.Ab m.tm.t.brs.length m.tm.cb,.int .i64 m.tm.t.allowance,.int .i64 m.tm.t.credit,.int .i64 m.tm.t.unit,.int .i64 m.tm.t.mode,.slice m.tm.Ar m.tm.t.rows.length m.tm.cr,.int .i64 m.count,.int .i64 m.sh.fixed,.int .i64 m.sh.dependent,.int .i64 m.sh.lower,.int .i64 m.sh.share,.int .i64 m.sh.top,.int .i64 m.recover])∧GrossG m∧RulesF m w' (w.heap.size+1)∧DeckIn w' b (M+160)∧w.grownBy w' (some b):=by
 have hlt:=hd.lt
 go_enter Tryz.func39,Tryz.ntmps39
 go_wp2_with fail
 refine (next_any b M 2 _ (by omega) (by omega) (by omega) (hd.alloc _)).mono ?_
 rintro e w1 ⟨r1,rfl,ha1,hb1,hd1,hg1⟩
 have hR1:=(Blk.new w 45 #[.slice none 0 0,.slice none 0 0,.int .i64 0,.slice none 0 0,.int .i64 0,.int .i64 0,.int .i64 0,.int .i64 0,.slice none 0 0,.int .i64 0,.int .i64 0,.int .i64 0,.int .i64 0,.int .i64 0,.int .i64 0,.int .i64 0]).grown hg1 (by intro e; injection e; omega)
 have hG1:w.grownBy w1 (some b):=only_trans (only_alloc (only_refl _ _) _) hg1
 clear hg1 hd
 have hwr1:=wrap_in (n:=2+r1) (by omega) (by omega)
 go_wp2_with fail
 refine (rules_anyO b (M+1) (2+r1) (by omega) (by omega) _ (by omega) hd1).mono ?_
 clear hwr1
 rintro e w2 ⟨m,rfl,hmg,hmi,⟨hmf,h,hh,hFB,hOW⟩,hd2,hg2⟩
 have hmeth:m.tm.t.method = 2 ∨ m.tm.t.method = 3:=by rcases hmi with h | h <;> omega
 have HMG:=Lib.hid hmg
 have HME:=Lib.hid hmeth
 have hs12:=hG1.size
 have HAR:Hid (∀ a,m.tm.Ar = some a→w.heap.size+1≤a.block):=fun a ha=>by have:=hmf.tm.rows.fr a ha; omega
 have HASF:Hid (∀ a,m.As = some a→w.heap.size+1≤a.block):=fun a ha=>by have:=hmf.ss.fr a ha; omega
 have hs23:=hg2.size
 have hlr:=hR1.lt
 have hR2:=hR1.grown hg2 (by intro e; injection e; omega)
 have hG2:=only_trans hG1 hg2
 have hmss:=hmg.ss.len
 have hX3:=Blk.new w2 45 #[.slice m.Aw m.ws.length m.cw,.slice m.As m.ss.length m.cs,.int .i64 m.tm.t.method,.slice m.tm.Ab m.tm.t.brs.length m.tm.cb,.int .i64 m.tm.t.allowance,.int .i64 m.tm.t.credit,.int .i64 m.tm.t.unit,.int .i64 m.tm.t.mode,.slice m.tm.Ar m.tm.t.rows.length m.tm.cr,.int .i64 m.count,.int .i64 m.sh.fixed,.int .i64 m.sh.dependent,.int .i64 m.sh.lower,.int .i64 m.sh.share,.int .i64 m.sh.top,.int .i64 m.recover]
 have hR3:=hR2.alloc (.cells #[.slice m.Aw m.ws.length m.cw,.slice m.As m.ss.length m.cs,.int .i64 m.tm.t.method,.slice m.tm.Ab m.tm.t.brs.length m.tm.cb,.int .i64 m.tm.t.allowance,.int .i64 m.tm.t.credit,.int .i64 m.tm.t.unit,.int .i64 m.tm.t.mode,.slice m.tm.Ar m.tm.t.rows.length m.tm.cr,.int .i64 m.count,.int .i64 m.sh.fixed,.int .i64 m.sh.dependent,.int .i64 m.sh.lower,.int .i64 m.sh.share,.int .i64 m.sh.top,.int .i64 m.recover] 45)
 have hG3:=only_alloc hG2 (.cells #[.slice m.Aw m.ws.length m.cw,.slice m.As m.ss.length m.cs,.int .i64 m.tm.t.method,.slice m.tm.Ab m.tm.t.brs.length m.tm.cb,.int .i64 m.tm.t.allowance,.int .i64 m.tm.t.credit,.int .i64 m.tm.t.unit,.int .i64 m.tm.t.mode,.slice m.tm.Ar m.tm.t.rows.length m.tm.cr,.int .i64 m.count,.int .i64 m.sh.fixed,.int .i64 m.sh.dependent,.int .i64 m.sh.lower,.int .i64 m.sh.share,.int .i64 m.sh.top,.int .i64 m.recover] 45)
 have hd3:=hd2.alloc (.cells #[.slice m.Aw m.ws.length m.cw,.slice m.As m.ss.length m.cs,.int .i64 m.tm.t.method,.slice m.tm.Ab m.tm.t.brs.length m.tm.cb,.int .i64 m.tm.t.allowance,.int .i64 m.tm.t.credit,.int .i64 m.tm.t.unit,.int .i64 m.tm.t.mode,.slice m.tm.Ar m.tm.t.rows.length m.tm.cr,.int .i64 m.count,.int .i64 m.sh.fixed,.int .i64 m.sh.dependent,.int .i64 m.sh.lower,.int .i64 m.sh.share,.int .i64 m.sh.top,.int .i64 m.recover] 45)
 have hW3:=(hFB.lower (lo':=w.heap.size+1) (by omega)).adv (below_new w2 (.cells #[.slice m.Aw m.ws.length m.cw,.slice m.As m.ss.length m.cs,.int .i64 m.tm.t.method,.slice m.tm.Ab m.tm.t.brs.length m.tm.cb,.int .i64 m.tm.t.allowance,.int .i64 m.tm.t.credit,.int .i64 m.tm.t.unit,.int .i64 m.tm.t.mode,.slice m.tm.Ar m.tm.t.rows.length m.tm.cr,.int .i64 m.count,.int .i64 m.sh.fixed,.int .i64 m.sh.dependent,.int .i64 m.sh.lower,.int .i64 m.sh.share,.int .i64 m.sh.top,.int .i64 m.recover] 45))
 obtain ⟨gs,cur,hgs1,hgs2,hcu,hbl,hsa⟩ : ∃ gs cur,h≤gs∧gs≤w2.heap.size∧CurOf cur m.ss∧(m.ss ≠ []→Blk w2 gs 123 cur∧gs < w2.heap.size)∧(m.ss ≠ []→m.As = some ⟨gs,0,none⟩∧m.ss.length≤m.cs∧m.cs≤maxLen):=by
  rcases Nat.eq_zero_or_pos m.ss.length with h0 | h0
  ·
   have hn:m.ss = []:=List.length_eq_zero_iff.1 h0
   exact ⟨w2.heap.size,#[],by have:=hFB.hh; omega,Nat.le_refl _,by rw [hn]; intro i x hx; simp at hx,fun hne=>absurd hn hne,fun hne=>absurd hn hne⟩
  ·
   obtain ⟨gs,cap,cu0,hv,hb,hB,hc1,hc2⟩:=Own.some_ hOW h0
   injection hv with e1 e2 e3
   rw [e1] at hOW
   obtain ⟨cur,hB2,hC2⟩:=CurOf.own hOW rfl
   exact ⟨gs,cur,hb,by have:=hB2.lt; omega,hC2,fun _=>⟨hB2,hB2.lt⟩,fun _=>⟨e1,by omega,by omega⟩⟩
 have hbl3:m.ss ≠ []→Blk (w2.alloc (.cells #[.slice m.Aw m.ws.length m.cw,.slice m.As m.ss.length m.cs,.int .i64 m.tm.t.method,.slice m.tm.Ab m.tm.t.brs.length m.tm.cb,.int .i64 m.tm.t.allowance,.int .i64 m.tm.t.credit,.int .i64 m.tm.t.unit,.int .i64 m.tm.t.mode,.slice m.tm.Ar m.tm.t.rows.length m.tm.cr,.int .i64 m.count,.int .i64 m.sh.fixed,.int .i64 m.sh.dependent,.int .i64 m.sh.lower,.int .i64 m.sh.share,.int .i64 m.sh.top,.int .i64 m.recover] 45)) gs 123 cur∧gs < w2.heap.size:=fun hne=>⟨(hbl hne).1.alloc _,(hbl hne).2⟩
 have hh1:w.heap.size < h:=by omega
 have HASS:Hid (m.ss ≠ []→m.As = some ⟨gs,0,none⟩):=fun hne=>(hsa hne).1
 have HCAP:Hid (2 < m.ss.length→m.ss.length≤m.cs):=fun h3=>(hsa (by intro e; rw [e] at h3; simp at h3)).2.1
 have HCM:Hid (2 < m.ss.length→m.cs≤9223372036854775807):=fun h3=>by
  have:=(hsa (by intro e; rw [e] at h3; simp at h3)).2.2
  unfold maxLen at this
  omega
 clear hR1 hR2 hG1 hG2 hg2 hd1 hd2 hFB hOW hbl hmg hmi hmeth hmf hsa
 go_upto_region 2 with fail
 generalize hgg:w2.heap.size = g at *
 generalize w2.alloc (Obj.cells _ _) = w3 at hX3 hR3 hG3 hd3 hW3 hbl3 ⊢
 have HGG:=Lib.hid hgg
 clear hgg
 go_wp2_with fail
 refine (brackets_anyP b (M+1+110) true _ (by omega) hd3).mono ?_
 rintro e w4 ⟨v4,brs,rfl,⟨hbo,hbr⟩,how4,hd4,hg4⟩
 obtain ⟨Ab,cb,rfl,hFb⟩:=how4.fresh encBr_len
 have HBO:=Lib.hid hbo
 have HBR:=Lib.hid hbr
 have hgb:g < w3.heap.size:=hX3.lt
 have hI4:GsIn w b g gs h w3.heap.size w4.heap.size #[.slice m.Aw m.ws.length m.cw,.slice m.As m.ss.length m.cs,.int .i64 m.tm.t.method,.slice m.tm.Ab m.tm.t.brs.length m.tm.cb,.int .i64 m.tm.t.allowance,.int .i64 m.tm.t.credit,.int .i64 m.tm.t.unit,.int .i64 m.tm.t.mode,.slice m.tm.Ar m.tm.t.rows.length m.tm.cr,.int .i64 m.count,.int .i64 m.sh.fixed,.int .i64 m.sh.dependent,.int .i64 m.sh.lower,.int .i64 m.sh.share,.int .i64 m.sh.top,.int .i64 m.recover] m.Aw m.ws Ab brs m.ss cur (M+1+110+17) w4 :=
  ⟨hR3.grown hg4 (by intro e; injection e; omega),hX3.grown hg4 (by intro e; injection e; omega),fun hne=>⟨(hbl3 hne).1.grown hg4 (by intro e; injection e; omega),(hbl3 hne).2⟩,hcu,hW3.grown hg4 (fun q e=>by injection e; omega),hFb.toB,hd4,only_trans hG3 hg4,hlt,hh1,hgs1,hgs2,hgb⟩
 clear hbo hbr how4 hFb hd4 hg4 hR3 hX3 hbl3 hcu hW3 hG3 hd3
 generalize w3.heap.size = lo at *
 generalize w4.heap.size = hi at *
 have hI5:=hI4.put 3 (.slice Ab brs.length cb)
 have z3:=hI4.x.cell 3
 have y3:=hI4.x.frozen 3
 have l4:=hI4.x.lt
 simp only [List.setIfInBounds_toArray,List.set_cons_succ,List.set_cons_zero] at hI5
 simp only [nqg,nqh,nqi] at z3
 clear hI4
 go_upto_region 3 with fail
 clear z3 y3 l4
 generalize World.setCell _ _ _ = w5 at hI5 ⊢
 go_wp2_with fail
 refine (pick_new b (M+1+110+17) w5 [1,1,10] _ _ _ rfl rfl (by omega) hI5.d (by simp) (by simp)).mono ?_
 rintro e w6 ⟨u,rfl,hmu,hd6,hg6⟩
 have hu:1≤u∧u≤10:=by simp at hmu; omega
 have HU:=Lib.hid hu
 clear hmu hu
 have hI6:=hI5.deck hd6 hg6
 have hI7:=hI6.put 6 (.int .i64 u)
 have z6:=hI6.x.cell 6
 have y6:=hI6.x.frozen 6
 have l6:=hI6.x.lt
 simp only [List.setIfInBounds_toArray,List.set_cons_succ,List.set_cons_zero] at hI7
 simp only [nqg,nqh,nqi] at z6
 clear hI5 hI6 hd6 hg6
 go_upto_region 4 with fail
 clear z6 y6 l6
 generalize World.setCell _ _ _ = w7 at hI7 ⊢
 -- at most two schemes
 have hn1:=HMG.out.ss.len
 obtain ⟨R,hR⟩ : ∃ R:Int→Nat→Array Value,R = fun cnt n=>#[.slice m.Aw m.ws.length m.cw,.slice m.As n m.cs,.int .i64 m.tm.t.method,.slice Ab brs.length cb,.int .i64 m.tm.t.allowance,.int .i64 m.tm.t.credit,.int .i64 u,.int .i64 m.tm.t.mode,.slice m.tm.Ar m.tm.t.rows.length m.tm.cr,.int .i64 cnt,.int .i64 m.sh.fixed,.int .i64 m.sh.dependent,.int .i64 m.sh.lower,.int .i64 m.sh.share,.int .i64 m.sh.top,.int .i64 m.recover]:=⟨_,rfl⟩
 have hR1:∀ cnt n,(R cnt n)[1]? = some (.slice m.As n m.cs):=fun cnt n=>by rw [hR]; rfl
 have hR1s:∀ cnt n,(R cnt n).setIfInBounds 1 (.slice m.As 2 m.cs) = R cnt 2:=fun cnt n=>by rw [hR]; rfl
 have hR9:∀ cnt n cnt',(R cnt n)[9]? = some (.int .i64 cnt)∧(R cnt n).setIfInBounds 9 (.int .i64 cnt') = R cnt' n:=fun cnt n cnt'=>by rw [hR]; exact ⟨rfl,rfl⟩
 have hRs:∀ cnt n,(R cnt n).size = 16∧(R cnt n).toList.all (·.oneCell') = true:=fun cnt n=>by rw [hR]; exact ⟨rfl,rfl⟩
 have HRF:Hid (∀ cnt n,R cnt n = #[.slice m.Aw m.ws.length m.cw,.slice m.As n m.cs,.int .i64 m.tm.t.method,.slice Ab brs.length cb,.int .i64 m.tm.t.allowance,.int .i64 m.tm.t.credit,.int .i64 u,.int .i64 m.tm.t.mode,.slice m.tm.Ar m.tm.t.rows.length m.tm.cr,.int .i64 cnt,.int .i64 m.sh.fixed,.int .i64 m.sh.dependent,.int .i64 m.sh.lower,.int .i64 m.sh.share,.int .i64 m.sh.top,.int .i64 m.recover]):=fun cnt n=>by rw [hR]
 have hI8:GsIn w b g gs h lo hi (R m.count m.ss.length) m.Aw m.ws Ab brs m.ss cur (M+1+110+17+1) w7:=by rw [hR]; exact hI7
 clear hI7 hR
 have z1:w7.cell? ⟨g,1,none⟩ = some (.slice m.As m.ss.length m.cs):=(hI8.x.cell 1).trans (hR1 _ _)
 have hcnt:∃ (n:Nat) (ss:List SchT),n≤2∧(m.ss.length≤2→n = m.ss.length∧ss = m.ss)∧(2 < m.ss.length→n = 2∧ss = m.ss.take 2):=by
  by_cases h3:m.ss.length≤2
  ·
   exact ⟨m.ss.length,m.ss,h3,fun _=>⟨rfl,rfl⟩,fun h=>by omega⟩
  ·
   exact ⟨2,m.ss.take 2,by omega,fun h=>absurd h h3,fun _=>⟨rfl,rfl⟩⟩
 obtain ⟨n,ss,hn2,hnA,hnB⟩:=hcnt
 have HNA:=Lib.hid hnA
 have HNB:=Lib.hid hnB
 clear hnA hnB
 have hfin:∃ (W:World),(n = m.ss.length∧ss = m.ss∧W = w7∧m.ss.length≤2) ∨ (n = 2∧ss = m.ss.take 2∧W = w7.setCell ⟨g,1,none⟩ (.slice m.As 2 m.cs)∧2 < m.ss.length):=by
  by_cases h3:m.ss.length≤2
  ·
   exact ⟨_,.inl ⟨(HNA.out h3).1,(HNA.out h3).2,rfl,h3⟩⟩
  ·
   exact ⟨_,.inr ⟨(HNB.out (by omega)).1,(HNB.out (by omega)).2,rfl,by omega⟩⟩
 obtain ⟨W,hW⟩:=hfin
 have hI9:GsIn w b g gs h lo hi (R m.count n) m.Aw m.ws Ab brs ss cur (M+1+110+17+1) W:=by
  rcases hW with ⟨rfl,rfl,rfl,_⟩ | ⟨rfl,rfl,rfl,h3⟩
  ·
   exact hI8
  ·
   have h1:=hI8.put 1 (.slice m.As 2 m.cs)
   rw [hR1s] at h1
   exact ⟨h1.r,h1.x,fun hne=>h1.s (fun e=>hne (by rw [e]; rfl)),h1.c.take 2,h1.fw,h1.l,h1.d,h1.G,h1.n⟩
 have hS9:SsK 0 n ss:=by
  rcases hW with ⟨rfl,rfl,rfl,_⟩ | ⟨rfl,rfl,rfl,h3⟩
  ·
   exact ⟨HMG.out.ss,rfl,fun i hi h=>absurd h (by omega)⟩
  ·
   exact ⟨⟨((List.take_sublist 2 m.ss).map _).trans HMG.out.ss.sub,fun x hx=>HMG.out.ss.ok x (List.mem_of_mem_take hx)⟩,by rw [List.length_take]; omega,fun i hi h=>absurd h (by omega)⟩
 have HAN:Hid (0 < n→m.As = some ⟨gs,0,none⟩):=by
  rw [Hid]; intro h0
  refine HASS.out ?_
  rintro e
  rcases hW with ⟨rfl,rfl,rfl,_⟩ | ⟨rfl,rfl,rfl,h3⟩
  ·
   rw [e] at h0; simp at h0
  ·
   rw [e] at h3; simp at h3
 have y1:=hI8.x.frozen 1
 have l7:=hI8.x.lt
 rcases hW with ⟨hn,hss,rfl,h3⟩ | ⟨hn,hss,hW,h3⟩
 ·
  have HN:=Lib.hid hn
  clear hI8 hn hss
  go_upto_region 6 with fail
  clear z1 y1 l7
  go_wp2_with fail
  go_loopw [4] (fun i wr=>∃ (k:Nat) (ss:List SchT) (cur:Array Value),k≤n∧i = .int .i64 k∧SsK k n ss∧GsIn w b g gs h lo hi (R m.count n) m.Aw m.ws Ab brs ss cur (M+1+110+17+1+k) wr) (fun i _=>n - (intOf i).toNat)
  case atStart=>exact ⟨0,ss,cur,by omega,rfl,hS9,hI9⟩
  case round =>
   rename World=>wr
   obtain ⟨k,ss,cur,hk,rfl,hS,hI0⟩:=hrel
   clear hI9 hS9
   have z1:wr.cell? ⟨g,1,none⟩ = some (.slice m.As n m.cs):=(hI0.x.cell 1).trans (hR1 _ _)
   have hlen:=hS.len
   by_cases hlt:k < n
   ·
    have hA:=HAN.out (by omega)
    rw [hA] at z1
    have hki:k < ss.length:=by omega
    have hkk:(k:Int) < (n:Int):=by omega
    obtain ⟨x,hx⟩ : ∃ x,x = ss[k]:=⟨_,rfl⟩
    have hx? : ss[k]? = some x:=by rw [hx]; exact List.getElem?_eq_getElem hki
    have HX:=Lib.hid hx
    have hne:ss ≠ []:=by intro e; rw [e] at hki; simp at hki
    obtain ⟨xc,xe,xr,xf,xg,xu,xm,xd⟩:=x
    go_upto_region 9 with fail
    clear z1
    have HL:=Lib.hid hlen
    have HXQ:=Lib.hid hx?
    clear hlen hx hx? hlt
    refine M3.wp_region_sel (C:=grB g (R m.count n)) (stable_blk _ _ _) hI0.x (aE:=?aEG1) [0,1,2,3,4,5,6] 8 (by kernel_rfl) (by kernel_rfl) rfl (by kernel_rfl) (by kernel_rfl) (by rfl) ?HG1 ?MG1
    case HG1 =>
     intro F hF inst
     simp only [M3.opsAt,List.getElem?_toArray,List.getElem?_cons_zero,List.getElem?_cons_succ]
     have e1:∀ p:BwC (grB g (R m.count n)) F,p.w'.cell? ⟨g,1,none⟩ = some (.slice (some ⟨gs,0,none⟩) n m.cs):=fun p=>(Blk.cell p.h 1).trans ((hR1 _ _).trans (by rw [hA]))
     repeat (first | go_big_quiet_step (fail))
     refine wpQuiet_nil ?_
     rfl
    case MG1 =>
     intro Q0 hQ0
     refine M3.mix_step [7] (by kernel_rfl) (by simp) ?_
     intro w1 hC1 hb1 i hi
     simp only [nqj,nqk,or_false] at hi
     subst hi
     have hI1:=hI0.adv hb1
     refine M3.mix_val (.slice (some ⟨w1.heap.size,0,none⟩) 3 3) (w1.alloc (.cells #[.int .i64 1,.int .i64 1,.int .i64 5] 3)) rfl rfl (by go_simp) ⟨hI1.x.alloc _,?_⟩
     simp only [Act.put,nqa,nqb,nqc,nqd,nqe,nqf]
     have hL2:=lit_ints w1 [1,1,5] #[.int .i64 1,.int .i64 1,.int .i64 5] rfl
     have hI2:=hI1.alloc (.cells #[.int .i64 1,.int .i64 1,.int .i64 5] 3)
     have hqb:b < w1.heap.size:=hI1.d.lt
     clear hb1 hC1 hI1 hI0
     generalize w1.alloc (.cells #[.int .i64 1,.int .i64 1,.int .i64 5] 3) = w2 at *
     generalize w1.heap.size = q at *
     refine M3.mix_step [8] (by kernel_rfl) (by simp) ?_
     intro w3 hC3 hb3 i hi
     simp only [nqj,nqk,or_false] at hi
     subst hi
     have hI3:=hI2.adv hb3
     have hL3:=hL2.adv hb3
     refine M3.mix_call 66 #[.pointer (some ⟨b,0,none⟩),.slice (some ⟨q,0,none⟩) 3 3] rfl rfl (by go_simp) ?_
     refine (pick_any b (M+1+110+17+1+k) w3 (some ⟨q,0,none⟩) [1,1,5] 3 (by omega) hI3.d (by simp) (by simp) hL3 (by intro a ha; injection ha with ha; subst ha; show q ≠ b; omega)).mono ?_
     rintro e w4 ⟨v,rfl,hmv,hd4,hg4⟩
     have hI4:=hI3.deck hd4 hg4
     have hv:1≤v∧v≤5:=by simp at hmv; omega
     refine ⟨_,rfl,⟨hI4.x,?_⟩⟩
     simp only [Act.put,nqa,nqb,nqc,nqd,nqe,nqf]
     clear hb3 hC3 hI3 hI2 hL2 hL3 hmv hd4 hg4
     refine M3.mix_step [9] (by kernel_rfl) (by simp) ?_
     intro w5 hC5 hb5 i hi
     simp only [nqj,nqk,or_false] at hi
     subst hi
     have hI5:=hI4.adv hb5
     refine M3.mix_val (.pointer (some ⟨gs,k * 8,none⟩)) w5 rfl rfl (by go_simp) ⟨hC5,?_⟩
     simp only [Act.put,nqa,nqb,nqc,nqd,nqe,nqf]
     clear hb5 hC5 hI4
     refine M3.mix_step [10] (by kernel_rfl) (by simp) ?_
     intro w6 hC6 hb6 i hi
     simp only [nqj,nqk,or_false] at hi
     subst hi
     have hI6:=hI5.adv hb6
     refine M3.mix_val (.pointer (some ⟨gs,k * 8+3,none⟩)) w6 rfl rfl (by go_simp) ⟨hC6,?_⟩
     simp only [Act.put,nqa,nqb,nqc,nqd,nqe,nqf]
     clear hb6 hC6 hI5
     refine M3.mix_step [11] (by kernel_rfl) (by simp) ?_
     intro w7 hC7 hb7 i hi
     simp only [nqj,nqk,or_false] at hi
     subst hi
     have hI7:=hI6.adv hb7
     have z:w7.cell? ⟨gs,k * 8+3,none⟩ = some (.int .i64 xf):=((hI7.s hne).1.cell _).trans (hI7.c k _ HXQ.out 3 _ rfl)
     have fz:=(hI7.s hne).1.frozen (k * 8+3)
     have hI8:=hI7.st HXQ.out 3 (by omega) (.int .i64 0) ⟨xc,xe,xr,0,xg,xu,xm,xd⟩ rfl
     have hne8:ss.set k ⟨xc,xe,xr,0,xg,xu,xm,xd⟩ ≠ []:=by simpa using hne
     have HX8:Hid ((ss.set k ⟨xc,xe,xr,0,xg,xu,xm,xd⟩)[k]? = some ⟨xc,xe,xr,0,xg,xu,xm,xd⟩):=List.getElem?_set_self hki
     refine M3.mix_skip (w7.setCell ⟨gs,k * 8+3,none⟩ (.int .i64 0)) rfl rfl (by go_simp) ⟨hI8.x,?_⟩
     simp only [Act.put,nqa,nqb,nqc]
     clear hb7 hC7 hI6 hI7 z fz
     generalize w7.setCell ⟨gs,k * 8+3,none⟩ (.int .i64 0) = w8 at *
     refine M3.mix_step [12] (by kernel_rfl) (by simp) ?_
     intro w9 hC9 hb9 i hi
     simp only [nqj,nqk,or_false] at hi
     subst hi
     have hI9:=hI8.adv hb9
     refine M3.mix_val (.pointer (some ⟨gs,k * 8,none⟩)) w9 rfl rfl (by go_simp) ⟨hC9,?_⟩
     simp only [Act.put,nqa,nqb,nqc,nqd,nqe,nqf]
     clear hb9 hC9 hI8
     refine M3.mix_step [13] (by kernel_rfl) (by simp) ?_
     intro w10 hC10 hb10 i hi
     simp only [nqj,nqk,or_false] at hi
     subst hi
     have hI10:=hI9.adv hb10
     refine M3.mix_val (.pointer (some ⟨gs,k * 8+5,none⟩)) w10 rfl rfl (by go_simp) ⟨hC10,?_⟩
     simp only [Act.put,nqa,nqb,nqc,nqd,nqe,nqf]
     clear hb10 hC10 hI9
     refine M3.mix_step [14] (by kernel_rfl) (by simp) ?_
     intro w11 hC11 hb11 i hi
     simp only [nqj,nqk,or_false] at hi
     subst hi
     have hI11:=hI10.adv hb11
     have z:w11.cell? ⟨gs,k * 8+5,none⟩ = some (.int .i64 xu):=((hI11.s hne8).1.cell _).trans (hI11.c k _ HX8.out 5 _ rfl)
     have fz:=(hI11.s hne8).1.frozen (k * 8+5)
     have hI12:=hI11.st HX8.out 5 (by omega) (.int .i64 v) ⟨xc,xe,xr,0,xg,v,xm,xd⟩ rfl
     rw [List.set_set] at hI12
     refine M3.mix_skip (w11.setCell ⟨gs,k * 8+5,none⟩ (.int .i64 v)) rfl rfl (by go_simp) ⟨hI12.x,?_⟩
     simp only [Act.put,nqa,nqb,nqc]
     clear hb11 hC11 hI10 hI11 z fz
     generalize w11.setCell ⟨gs,k * 8+5,none⟩ (.int .i64 v) = w12 at *
     refine M3.mix_end (by kernel_rfl) ?_
     intro w13 hC13 hb13
     refine hQ0 _ _ ?_
     have hI13:=hI12.adv hb13
     have HS1:Hid (SsK (k+1) n (ss.set k ⟨xc,xe,xr,0,xg,v,xm,xd⟩)):=by
      have:=hS.step (k:=k) (by have:=HL.out; omega) (u:=v) hv.1 hv.2
      rw [← HX.out] at this
      exact this
     clear hb13 hC13 hI12 hQ0 hS
     go_wp2_with fail
     go_roundw
     case rel=>exact ⟨k+1,_,_,by omega,by go_num,HS1.out,hI13⟩
     case measure=>simp [intOf]; omega
   ·
    obtain rfl:k = n:=by omega
    obtain ⟨hAs2,hAs3⟩ : Hid (k = ss.length)∧True:=⟨hlen.symm,trivial⟩
    clear hlt hAs3
    go_wp2_with fail
    refine (pick_new b (M+1+110+17+1+k) wr [12,4] _ _ _ rfl rfl (by omega) hI0.d (by simp) (by simp)).mono ?_
    rintro e w8 ⟨cnt,rfl,hmc,hd8,hg8⟩
    have hcnt:cnt = 12 ∨ cnt = 4:=by simpa using hmc
    have HCN:=Lib.hid hcnt
    have hI8:=hI0.deck hd8 hg8
    have hI9:=hI8.put 9 (.int .i64 cnt)
    have z9:=(hI8.x.cell 9).trans (hR9 m.count k cnt).1
    have y9:=hI8.x.frozen 9
    have l8:=hI8.x.lt
    rw [(hR9 m.count k cnt).2] at hI9
    clear hI8 hI0 hd8 hg8 hmc hcnt z1 hlen
    go_upto_region 11 with fail
    clear z9 y9 l8
    generalize World.setCell _ _ _ = w9 at hI9 ⊢
    have hX9:=hI9.x
    rw [HRF.out] at hX9
    have hr9:=hI9.r
    have HI9:=Lib.hid hI9
    have HSK:=Lib.hid hS
    clear hI9 hR1 hR1s hR9 hRs HRF
    go_wp2_with (first | (refine wpList_load_blk rfl _ _ rfl g rfl hX9 Tryz.underlying45 rfl (by kernel_rfl) ?_) | (refine wpList_store_blk rfl _ _ _ rfl rfl w.heap.size (cs:=#[.slice none 0 0,.slice none 0 0,.int .i64 0,.slice none 0 0,.int .i64 0,.int .i64 0,.int .i64 0,.int .i64 0,.slice none 0 0,.int .i64 0,.int .i64 0,.int .i64 0,.int .i64 0,.int .i64 0,.int .i64 0,.int .i64 0]) (vs:=#[.slice m.Aw m.ws.length m.cw,.slice m.As k m.cs,.int .i64 m.tm.t.method,.slice Ab brs.length cb,.int .i64 m.tm.t.allowance,.int .i64 m.tm.t.credit,.int .i64 u,.int .i64 m.tm.t.mode,.slice m.tm.Ar m.tm.t.rows.length m.tm.cr,.int .i64 cnt,.int .i64 m.sh.fixed,.int .i64 m.sh.dependent,.int .i64 m.sh.lower,.int .i64 m.sh.share,.int .i64 m.sh.top,.int .i64 m.recover]) rfl rfl hr9 rfl (by kernel_rfl) rfl ?_; intro w10 hB10 hg10))
    refine bodyPost_ret (results_blk Tryz.results39 rfl hB10 Tryz.underlying45 rfl (by kernel_rfl)) rfl ?_
    have hI9:=HI9.out
    obtain ⟨n1,n2,n3,n4,n5⟩:=hI9.n
    have hd10:=hI9.d.grown hg10 (fun q e=>by injection e with e; subst e; omega)
    have hG10:w.grownBy w10 (some b):=only_then hI9.G hg10 (fun q e=>.inl (by injection e; omega))
    have hw10:=hI9.fw.grown hg10 (fun q e=>by injection e; omega)
    have hl10:=hI9.l.grown hg10 (fun q e=>by injection e; omega)
    have hGR:=gross_ok (m:=m) (As:=m.As) (Ab:=Ab) (cb:=cb) HMG.out HME.out HSK.out hn2 HBO.out HBR.out HU.out HCN.out
    have hsl:SliceOf encSch 8 w10 w10.heap.size m.As ss:=by
     by_cases hne:ss = []
     ·
      rw [hne]; exact SliceOf.nil_
     ·
      have h0:0 < k:=by rw [hAs2.out]; exact List.length_pos_iff.2 hne
      rw [HAN.out h0]
      have hb2:=(hI9.s hne).1.grown hg10 (by intro e; injection e; omega)
      exact hI9.c.slice hb2 hb2.lt
    obtain rfl:=hAs2.out
    exact ⟨_,rfl,hGR,⟨⟨hw10.in_,hw10.fr⟩,⟨hsl,HASF.out⟩,⟨⟨hl10.in_,fun a ha=>by have:=hl10.fr a ha; omega⟩,⟨(by show SliceOf encRw 2 _ _ _ m.tm.t.rows; have hn:m.tm.t.rows = []:=HMG.out.ok.tar.none (by have:=HME.out; show m.tm.t.method ≠ 1; omega); rw [hn]; exact SliceOf.nil_),HAR.out⟩⟩⟩,hd10.mono (by omega),hG10⟩
 ·
  have HN:=Lib.hid hn
  have hc2:2≤m.cs:=by have:=HCAP.out h3; omega
  have hc3:m.cs≤9223372036854775807:=HCM.out h3
  clear hI8 hss hn
  go_upto_region 6 with fail
  rw [← hW]
  clear z1 y1 l7 hW
  go_wp2_with fail
  go_loopw [4] (fun i wr=>∃ (k:Nat) (ss:List SchT) (cur:Array Value),k≤n∧i = .int .i64 k∧SsK k n ss∧GsIn w b g gs h lo hi (R m.count n) m.Aw m.ws Ab brs ss cur (M+1+110+17+1+k) wr) (fun i _=>n - (intOf i).toNat)
  case atStart=>exact ⟨0,ss,cur,by omega,rfl,hS9,hI9⟩
  case round =>
   rename World=>wr
   obtain ⟨k,ss,cur,hk,rfl,hS,hI0⟩:=hrel
   clear hI9 hS9
   have z1:wr.cell? ⟨g,1,none⟩ = some (.slice m.As n m.cs):=(hI0.x.cell 1).trans (hR1 _ _)
   have hlen:=hS.len
   by_cases hlt:k < n
   ·
    have hA:=HAN.out (by omega)
    rw [hA] at z1
    have hki:k < ss.length:=by omega
    have hkk:(k:Int) < (n:Int):=by omega
    obtain ⟨x,hx⟩ : ∃ x,x = ss[k]:=⟨_,rfl⟩
    have hx? : ss[k]? = some x:=by rw [hx]; exact List.getElem?_eq_getElem hki
    have HX:=Lib.hid hx
    have hne:ss ≠ []:=by intro e; rw [e] at hki; simp at hki
    obtain ⟨xc,xe,xr,xf,xg,xu,xm,xd⟩:=x
    go_upto_region 9 with fail
    clear z1
    have HL:=Lib.hid hlen
    have HXQ:=Lib.hid hx?
    clear hlen hx hx? hlt
    refine M3.wp_region_sel (C:=grB g (R m.count n)) (stable_blk _ _ _) hI0.x (aE:=?aEG2) [0,1,2,3,4,5,6] 8 (by kernel_rfl) (by kernel_rfl) rfl (by kernel_rfl) (by kernel_rfl) (by rfl) ?HG2 ?MG2
    case HG2 =>
     intro F hF inst
     simp only [M3.opsAt,List.getElem?_toArray,List.getElem?_cons_zero,List.getElem?_cons_succ]
     have e1:∀ p:BwC (grB g (R m.count n)) F,p.w'.cell? ⟨g,1,none⟩ = some (.slice (some ⟨gs,0,none⟩) n m.cs):=fun p=>(Blk.cell p.h 1).trans ((hR1 _ _).trans (by rw [hA]))
     repeat (first | go_big_quiet_step (fail))
     refine wpQuiet_nil ?_
     rfl
    case MG2 =>
     intro Q0 hQ0
     refine M3.mix_step [7] (by kernel_rfl) (by simp) ?_
     intro w1 hC1 hb1 i hi
     simp only [nqj,nqk,or_false] at hi
     subst hi
     have hI1:=hI0.adv hb1
     refine M3.mix_val (.slice (some ⟨w1.heap.size,0,none⟩) 3 3) (w1.alloc (.cells #[.int .i64 1,.int .i64 1,.int .i64 5] 3)) rfl rfl (by go_simp) ⟨hI1.x.alloc _,?_⟩
     simp only [Act.put,nqa,nqb,nqc,nqd,nqe,nqf]
     have hL2:=lit_ints w1 [1,1,5] #[.int .i64 1,.int .i64 1,.int .i64 5] rfl
     have hI2:=hI1.alloc (.cells #[.int .i64 1,.int .i64 1,.int .i64 5] 3)
     have hqb:b < w1.heap.size:=hI1.d.lt
     clear hb1 hC1 hI1 hI0
     generalize w1.alloc (.cells #[.int .i64 1,.int .i64 1,.int .i64 5] 3) = w2 at *
     generalize w1.heap.size = q at *
     refine M3.mix_step [8] (by kernel_rfl) (by simp) ?_
     intro w3 hC3 hb3 i hi
     simp only [nqj,nqk,or_false] at hi
     subst hi
     have hI3:=hI2.adv hb3
     have hL3:=hL2.adv hb3
     refine M3.mix_call 66 #[.pointer (some ⟨b,0,none⟩),.slice (some ⟨q,0,none⟩) 3 3] rfl rfl (by go_simp) ?_
     refine (pick_any b (M+1+110+17+1+k) w3 (some ⟨q,0,none⟩) [1,1,5] 3 (by omega) hI3.d (by simp) (by simp) hL3 (by intro a ha; injection ha with ha; subst ha; show q ≠ b; omega)).mono ?_
     rintro e w4 ⟨v,rfl,hmv,hd4,hg4⟩
     have hI4:=hI3.deck hd4 hg4
     have hv:1≤v∧v≤5:=by simp at hmv; omega
     refine ⟨_,rfl,⟨hI4.x,?_⟩⟩
     simp only [Act.put,nqa,nqb,nqc,nqd,nqe,nqf]
     clear hb3 hC3 hI3 hI2 hL2 hL3 hmv hd4 hg4
     refine M3.mix_step [9] (by kernel_rfl) (by simp) ?_
     intro w5 hC5 hb5 i hi
     simp only [nqj,nqk,or_false] at hi
     subst hi
     have hI5:=hI4.adv hb5
     refine M3.mix_val (.pointer (some ⟨gs,k * 8,none⟩)) w5 rfl rfl (by go_simp) ⟨hC5,?_⟩
     simp only [Act.put,nqa,nqb,nqc,nqd,nqe,nqf]
     clear hb5 hC5 hI4
     refine M3.mix_step [10] (by kernel_rfl) (by simp) ?_
     intro w6 hC6 hb6 i hi
     simp only [nqj,nqk,or_false] at hi
     subst hi
     have hI6:=hI5.adv hb6
     refine M3.mix_val (.pointer (some ⟨gs,k * 8+3,none⟩)) w6 rfl rfl (by go_simp) ⟨hC6,?_⟩
     simp only [Act.put,nqa,nqb,nqc,nqd,nqe,nqf]
     clear hb6 hC6 hI5
     refine M3.mix_step [11] (by kernel_rfl) (by simp) ?_
     intro w7 hC7 hb7 i hi
     simp only [nqj,nqk,or_false] at hi
     subst hi
     have hI7:=hI6.adv hb7
     have z:w7.cell? ⟨gs,k * 8+3,none⟩ = some (.int .i64 xf):=((hI7.s hne).1.cell _).trans (hI7.c k _ HXQ.out 3 _ rfl)
     have fz:=(hI7.s hne).1.frozen (k * 8+3)
     have hI8:=hI7.st HXQ.out 3 (by omega) (.int .i64 0) ⟨xc,xe,xr,0,xg,xu,xm,xd⟩ rfl
     have hne8:ss.set k ⟨xc,xe,xr,0,xg,xu,xm,xd⟩ ≠ []:=by simpa using hne
     have HX8:Hid ((ss.set k ⟨xc,xe,xr,0,xg,xu,xm,xd⟩)[k]? = some ⟨xc,xe,xr,0,xg,xu,xm,xd⟩):=List.getElem?_set_self hki
     refine M3.mix_skip (w7.setCell ⟨gs,k * 8+3,none⟩ (.int .i64 0)) rfl rfl (by go_simp) ⟨hI8.x,?_⟩
     simp only [Act.put,nqa,nqb,nqc]
     clear hb7 hC7 hI6 hI7 z fz
     generalize w7.setCell ⟨gs,k * 8+3,none⟩ (.int .i64 0) = w8 at *
     refine M3.mix_step [12] (by kernel_rfl) (by simp) ?_
     intro w9 hC9 hb9 i hi
     simp only [nqj,nqk,or_false] at hi
     subst hi
     have hI9:=hI8.adv hb9
     refine M3.mix_val (.pointer (some ⟨gs,k * 8,none⟩)) w9 rfl rfl (by go_simp) ⟨hC9,?_⟩
     simp only [Act.put,nqa,nqb,nqc,nqd,nqe,nqf]
     clear hb9 hC9 hI8
     refine M3.mix_step [13] (by kernel_rfl) (by simp) ?_
     intro w10 hC10 hb10 i hi
     simp only [nqj,nqk,or_false] at hi
     subst hi
     have hI10:=hI9.adv hb10
     refine M3.mix_val (.pointer (some ⟨gs,k * 8+5,none⟩)) w10 rfl rfl (by go_simp) ⟨hC10,?_⟩
     simp only [Act.put,nqa,nqb,nqc,nqd,nqe,nqf]
     clear hb10 hC10 hI9
     refine M3.mix_step [14] (by kernel_rfl) (by simp) ?_
     intro w11 hC11 hb11 i hi
     simp only [nqj,nqk,or_false] at hi
     subst hi
     have hI11:=hI10.adv hb11
     have z:w11.cell? ⟨gs,k * 8+5,none⟩ = some (.int .i64 xu):=((hI11.s hne8).1.cell _).trans (hI11.c k _ HX8.out 5 _ rfl)
     have fz:=(hI11.s hne8).1.frozen (k * 8+5)
     have hI12:=hI11.st HX8.out 5 (by omega) (.int .i64 v) ⟨xc,xe,xr,0,xg,v,xm,xd⟩ rfl
     rw [List.set_set] at hI12
     refine M3.mix_skip (w11.setCell ⟨gs,k * 8+5,none⟩ (.int .i64 v)) rfl rfl (by go_simp) ⟨hI12.x,?_⟩
     simp only [Act.put,nqa,nqb,nqc]
     clear hb11 hC11 hI10 hI11 z fz
     generalize w11.setCell ⟨gs,k * 8+5,none⟩ (.int .i64 v) = w12 at *
     refine M3.mix_end (by kernel_rfl) ?_
     intro w13 hC13 hb13
     refine hQ0 _ _ ?_
     have hI13:=hI12.adv hb13
     have HS1:Hid (SsK (k+1) n (ss.set k ⟨xc,xe,xr,0,xg,v,xm,xd⟩)):=by
      have:=hS.step (k:=k) (by have:=HL.out; omega) (u:=v) hv.1 hv.2
      rw [← HX.out] at this
      exact this
     clear hb13 hC13 hI12 hQ0 hS
     go_wp2_with fail
     go_roundw
     case rel=>exact ⟨k+1,_,_,by omega,by go_num,HS1.out,hI13⟩
     case measure=>simp [intOf]; omega
   ·
    obtain rfl:k = n:=by omega
    obtain ⟨hAs2,hAs3⟩ : Hid (k = ss.length)∧True:=⟨hlen.symm,trivial⟩
    clear hlt hAs3
    go_wp2_with fail
    refine (pick_new b (M+1+110+17+1+k) wr [12,4] _ _ _ rfl rfl (by omega) hI0.d (by simp) (by simp)).mono ?_
    rintro e w8 ⟨cnt,rfl,hmc,hd8,hg8⟩
    have hcnt:cnt = 12 ∨ cnt = 4:=by simpa using hmc
    have HCN:=Lib.hid hcnt
    have hI8:=hI0.deck hd8 hg8
    have hI9:=hI8.put 9 (.int .i64 cnt)
    have z9:=(hI8.x.cell 9).trans (hR9 m.count k cnt).1
    have y9:=hI8.x.frozen 9
    have l8:=hI8.x.lt
    rw [(hR9 m.count k cnt).2] at hI9
    clear hI8 hI0 hd8 hg8 hmc hcnt z1 hlen
    go_upto_region 11 with fail
    clear z9 y9 l8
    generalize World.setCell _ _ _ = w9 at hI9 ⊢
    have hX9:=hI9.x
    rw [HRF.out] at hX9
    have hr9:=hI9.r
    have HI9:=Lib.hid hI9
    have HSK:=Lib.hid hS
    clear hI9 hR1 hR1s hR9 hRs HRF
    go_wp2_with (first | (refine wpList_load_blk rfl _ _ rfl g rfl hX9 Tryz.underlying45 rfl (by kernel_rfl) ?_) | (refine wpList_store_blk rfl _ _ _ rfl rfl w.heap.size (cs:=#[.slice none 0 0,.slice none 0 0,.int .i64 0,.slice none 0 0,.int .i64 0,.int .i64 0,.int .i64 0,.int .i64 0,.slice none 0 0,.int .i64 0,.int .i64 0,.int .i64 0,.int .i64 0,.int .i64 0,.int .i64 0,.int .i64 0]) (vs:=#[.slice m.Aw m.ws.length m.cw,.slice m.As k m.cs,.int .i64 m.tm.t.method,.slice Ab brs.length cb,.int .i64 m.tm.t.allowance,.int .i64 m.tm.t.credit,.int .i64 u,.int .i64 m.tm.t.mode,.slice m.tm.Ar m.tm.t.rows.length m.tm.cr,.int .i64 cnt,.int .i64 m.sh.fixed,.int .i64 m.sh.dependent,.int .i64 m.sh.lower,.int .i64 m.sh.share,.int .i64 m.sh.top,.int .i64 m.recover]) rfl rfl hr9 rfl (by kernel_rfl) rfl ?_; intro w10 hB10 hg10))
    refine bodyPost_ret (results_blk Tryz.results39 rfl hB10 Tryz.underlying45 rfl (by kernel_rfl)) rfl ?_
    have hI9:=HI9.out
    obtain ⟨n1,n2,n3,n4,n5⟩:=hI9.n
    have hd10:=hI9.d.grown hg10 (fun q e=>by injection e with e; subst e; omega)
    have hG10:w.grownBy w10 (some b):=only_then hI9.G hg10 (fun q e=>.inl (by injection e; omega))
    have hw10:=hI9.fw.grown hg10 (fun q e=>by injection e; omega)
    have hl10:=hI9.l.grown hg10 (fun q e=>by injection e; omega)
    have hGR:=gross_ok (m:=m) (As:=m.As) (Ab:=Ab) (cb:=cb) HMG.out HME.out HSK.out hn2 HBO.out HBR.out HU.out HCN.out
    have hsl:SliceOf encSch 8 w10 w10.heap.size m.As ss:=by
     by_cases hne:ss = []
     ·
      rw [hne]; exact SliceOf.nil_
     ·
      have h0:0 < k:=by rw [hAs2.out]; exact List.length_pos_iff.2 hne
      rw [HAN.out h0]
      have hb2:=(hI9.s hne).1.grown hg10 (by intro e; injection e; omega)
      exact hI9.c.slice hb2 hb2.lt
    obtain rfl:=hAs2.out
    exact ⟨_,rfl,hGR,⟨⟨hw10.in_,hw10.fr⟩,⟨hsl,HASF.out⟩,⟨⟨hl10.in_,fun a ha=>by have:=hl10.fr a ha; omega⟩,⟨(by show SliceOf encRw 2 _ _ _ m.tm.t.rows; have hn:m.tm.t.rows = []:=HMG.out.ok.tar.none (by have:=HME.out; show m.tm.t.method ≠ 1; omega); rw [hn]; exact SliceOf.nil_),HAR.out⟩⟩⟩,hd10.mono (by omega),hG10⟩
set_option maxRecDepth 100000 in
set_option maxHeartbeats 4000000 in
theorem year33_any (b M : Nat) (w:World) (hM:M≤290000) (hd:DeckIn w b M) :
  Calls Tryz.prog 40 #[.pointer (some ⟨b,0,none⟩)] w fun e w'=>∃ (k:Nat) (m:YearM),k≤2∧e = .returned (.agg #[.int .i64 m.periods,.int .i64 m.income,.int .i64 m.withheld,.slice m.Ai m.ins.length m.ci,.slice m.At m.taken.length m.ct])∧YearG k m∧YearF m w' (w.heap.size+1)∧DeckIn w' b (M+61)∧w.grownBy w' (some b):=by
 have hlt:=hd.lt
 go_enter Tryz.func40,Tryz.ntmps40
 go_wp2_with fail
 refine (next_any b M 3 _ (by omega) (by omega) (by omega) (hd.alloc _)).mono ?_
 rintro e w1 ⟨r1,rfl,ha1,hb1,hd1,hg1⟩
 obtain ⟨k,rfl⟩:=Int.eq_ofNat_of_zero_le ha1
 have hR1:=(Blk.new w 53 #[.int .i64 0,.int .i64 0,.int .i64 0,.slice none 0 0,.slice none 0 0]).grown hg1 (by intro e; injection e; omega)
 have hG1:w.grownBy w1 (some b):=only_trans (only_alloc (only_refl _ _) _) hg1
 have hs1:=hR1.lt
 clear hg1 hd
 go_wp2_with fail
 refine (year_any b (M+1) k _ (by omega) (by omega) hd1).mono ?_
 rintro e w2 ⟨m,rfl,hyg,hyf,hd2,hg2⟩
 have hR2:=hR1.grown hg2 (by intro e; injection e; omega)
 have hG2:=only_trans hG1 hg2
 have HYG:=Lib.hid hyg
 have hk2:k≤2:=by omega
 clear hR1 hG1 hg2 hd1 hyg ha1 hb1
 go_wp2_with (refine wpList_store_blk rfl _ _ _ rfl rfl w.heap.size (cs:=#[.int .i64 0,.int .i64 0,.int .i64 0,.slice none 0 0,.slice none 0 0]) (vs:=#[.int .i64 m.periods,.int .i64 m.income,.int .i64 m.withheld,.slice m.Ai m.ins.length m.ci,.slice m.At m.taken.length m.ct]) rfl rfl hR2 rfl (by kernel_rfl) rfl ?_; intro w5 hB5 hg5)
 have hd5:=hd2.grown hg5 (fun q e=>by injection e; omega)
 have hG5:w.grownBy w5 (some b):=only_then hG2 hg5 (fun q e=>.inl (by injection e; omega))
 have hY5:YearF m w5 (w.heap.size+1):=YearF.grown ⟨hyf.ins.weaken (by omega),hyf.taken.weaken (by omega)⟩ hg5 (fun q e=>by injection e; omega)
 refine bodyPost_ret (results_blk Tryz.results40 rfl hB5 Tryz.underlying53 rfl (by kernel_rfl)) rfl ?_
 exact ⟨k,m,hk2,rfl,HYG.out,hY5,hd5.mono (by omega),hG5⟩
end Go.Proofs.YtlhkojcmcmkmaaaGreat
