/- Conditions: as stated. -/
import Derived.Test.YtlhkojcmcmkmaaaGreatCBox
import Derived.Test.YtlhkojcmcmkmaaaGreatCP30
set_option maxRecDepth 100000
set_option maxHeartbeats 4000000
namespace Go.Proofs.YtlhkojcmcmkmaaaGreat
open Go.Proofs.Tryz
open Go.RowKit
theorem aqA{C:World}{g:Nat}{c:np}{s:jB}{Q:List cH}{w:World}(h:dI C g c s Q w)(hr:c.r.In C)(B:Option Addr)(bc:Nat)(l:List Elem)(QY:s.bv=.slice B l.length bc)(hL:nR aN 2 w g s.lv B l)
  (Db:Q.length<=1000) (av:l.length<=128) (N:∀x∈l,0<=x.amount/\x.amount<=1000000000) (hT:pP c.r.tm.t) (n0:1<=c.r.count) (n1:c.r.count<=53) (p0:0<=c.y.az) (p1:c.y.az<c.r.count)
  (y0:0<=c.y.ay) (y1:c.y.ay<=999000000000) (u0:-1000000000000<=c.y.aQ) (u1:c.y.aQ<=1000000000000) (t0:-1000000000<=s.b.t) (t1:s.b.t<=1000000000) (r0:0<=s.Af) (r1:s.Af<=12000000000)
  (l0:-100000000000<=s.left) (l1:s.left<=100000000000) (j aw:Int) (MO:j=max (s.b.t-s.Af-aB l) 0) (G:aw=Dv c.r.tm.t c.r.count c.y.az c.y.ay c.y.aQ j):
  Calls prog 55 #[.pointer (some ⟨g,0,none⟩)] w fun e w'=>Below C.heap.size C w'/\((cQ aw=false/\e=.returned (.int .i64 4))\/(cQ aw=true/\e=.returned (.int .i64 0)/\
   ∃v',dI C g c {s with ay:=j,aw:=aw,lv:=v',left:=s.left-aw} (Q++ag 6 [⟨⟨#[]⟩,aw⟩]) w'/\Mv g s.lv w v' w')):=by
 have R:=atM N;have S:Hid (∀k,k<=l.length->0<=aB (l.take k)/\aB (l.take k)<=128000000000):=fun k hk=>by have:=OM (l.take k) 1000000000 (fun x N=>R.out x (auh N));rw[auH]at this;omega
 have HI:=atM h;have HL:=atM hL;have Sn:Hid (0<=j->j<=1000000000->∀W,Below C.heap.size C W->Calls prog 108 #[.agg #[.int .i64 c.r.tm.t.method,.slice c.r.tm.Ab c.r.tm.t.aR.length c.r.tm.cb,.int .i64 c.r.tm.t.bJ,.int .i64 c.r.tm.t.bK,.int .i64 c.r.tm.t.unit,.int .i64 c.r.tm.t.mode,.slice c.r.tm.Ar c.r.tm.t.rows.length c.r.tm.cr],.int .i64 c.r.count,.agg #[.int .i64 c.y.az,.int .i64 c.y.ay,.int .i64 c.y.aQ,.slice c.y.Ai c.y.ins.length c.y.ci,.slice c.y.At c.y.taken.length c.y.ct],.int .i64 j] W fun e w'=>e=.returned (.tuple #[.int .i64 aw,.int .i64 0])/\Below W.heap.size W w'):=fun T U W hb=>by rw[G];exact apG c.r.tm c.r.count c.y.az c.y.ay c.y.aQ j c.y.Ai c.y.At c.y.ins.length c.y.ci c.y.taken.length c.y.ct W (hr.aa hb).tm hT n0 n1 p0 p1 T U y0 y1 u0 u1
 have Uz:w.cell? ⟨g,29,none⟩=some (.int .i64 s.b.t):=h.blk.cell 29;have QZ:w.cell? ⟨g,34,none⟩=some (.slice B l.length bc):=by have:w.cell? ⟨g,34,none⟩=some s.bv:=h.blk.cell 34;rw[this,QY]
 have Ux:w.cell? ⟨g,39,none⟩=some (.int .i64 s.Af):=h.blk.cell 39;have D:=h.lt;have I:=atM MO;clear h hr hL N hT QY G MO y0 y1 u0 u1 n0 n1 p0 p1;go_enter func55,ntmps55;have V:=Bw.cell (w:=w) (a:=⟨g,29,none⟩) (by exact D) Uz;have X:=Bw.cell (w:=w) (a:=⟨g,39,none⟩) (by exact D) Ux;go_upto_region 1 with fail
 refine oG (by kernel_rfl) (by kernel_rfl) ?_
 repeat(go_big_quiet_step(fail))
 refine wpQuiet_nil ?_;intro W2 E;obtain⟨⟨O,J⟩,u⟩:=E;subst u;have Y4:=(J.cell (p:=⟨g,34,none⟩) (by exact D)).trans QZ;clear Uz QZ Ux V X;go_wp2_with fail
 go_loopw [3,23] (fun ic i wr=>∃k:Nat,k<=l.length/\i=.int .i64 k/\ic=.int .i64 (s.b.t-s.Af-aB (l.take k))/\Below w.heap.size w wr) (fun _ i _=>l.length-(intOf i).toNat)
 case atStart=>exact⟨0,by omega,rfl,by simp[aB],J⟩
 case round=>
  rename World=>wr
  clear Y4;obtain⟨k,hk,rfl,rfl,z⟩:=hrel;by_cases Y:k<l.length
  ·obtain⟨b,off,oF,gu,Z⟩:=(HL.out.sl.aa z).at_ Y;have c0:=Z 0 _ rfl;have c1:=Z 1 _ rfl;simp only[atQ]at c0;rw[oF];have HS:Hid (aB (l.take (k+1))=aB (l.take k)+l[k].amount):=ZU l k Y;have fL:(k:Int)<(l.length:Int):=(by omega);obtain⟨x0,x1⟩:=R.out _ (atT Y);obtain⟨s0,s1⟩:=S.out k (by omega);have cY:=bC wr (.cells #[.string l[k].code,.int .i64 l[k].amount] 69);clear Z;generalize l[k]=x at*;generalize aB (l.take k)=q at*;have ab:=aA z cY;go_wp2;go_roundw
   case rel=>
    have aj:∃k':Nat,k'<=l.length/\Value.int .i64 ((k:Int)+1)=.int .i64 k'/\Value.int .i64 (s.b.t-s.Af-q-x.amount)=.int .i64 (s.b.t-s.Af-aB (l.take k'))/\Below w.heap.size w (wr.alloc (.cells #[.string x.code,.int .i64 x.amount] 69)):=⟨k+1,by omega,by go_num,by rw[HS.out,<-Int.sub_sub],ab⟩
    first|exact aj|((repeat apply Exists.intro);exact⟨aj,rfl⟩)
   case measure=>simp[intOf];omega
  ·obtain rfl:k=l.length:=by omega
   have P:=HI.out.aa z;have hm:=Mv.bh (g:=g) (v:=s.lv) z;obtain⟨s0,s1⟩:=S.out l.length (atN _);rw[auv]at s0 s1|-;have T:0<=j:=(by have:=I.out;omega);have U:j<=1000000000:=(by have:=I.out;omega);have D3:=atM (Sn.out T U);have ad:wr.cell? ⟨g,40,none⟩=some (.int .i64 s.ay):=P.blk.cell 40;have f40:=P.blk.frozen 40;clear Sn HL R S z;go_upto_region 8 with fail
   first|rw[show(if s.b.t-s.Af-aB l<0 then 0 else s.b.t-s.Af-aB l)=j by rw[I.out];split<;>omega]|rw[show max (s.b.t-s.Af-aB l) 0=j from I.out.symm]
   have F:=P.anJ j;have jX:=hm.trans (Mv.set 40 (.int .i64 j));generalize wr.setCell ⟨g,40,none⟩ (.int .i64 j)=W8 at F jX|-;clear P hm ad f40 HI I;have Dt:=F.lt;have n:∀i v,(ot c {s with ay:=j})[i]?=some v->∀p:Bw W8,p.w'.cell? ⟨g,i,none⟩=some v:=fun i v hv p=>Bw.cell (w:=W8) (a:=⟨g,i,none⟩) (by exact Dt) ((F.blk.cell i).trans hv) p;have e2:=n 2 (.int .i64 c.r.tm.t.method) rfl;have e3:=n 3 (.slice c.r.tm.Ab c.r.tm.t.aR.length c.r.tm.cb) rfl;have e4:=n 4 (.int .i64 c.r.tm.t.bJ) rfl;have e5:=n 5 (.int .i64 c.r.tm.t.bK) rfl;have e6:=n 6 (.int .i64 c.r.tm.t.unit) rfl;have e7:=n 7 (.int .i64 c.r.tm.t.mode) rfl;have e8:=n 8 (.slice c.r.tm.Ar c.r.tm.t.rows.length c.r.tm.cr) rfl;have e9:=n 9 (.int .i64 c.r.count) rfl;have af:=n 20 (.int .i64 c.y.az) rfl;have ak:=n 21 (.int .i64 c.y.ay) rfl;have al:=n 22 (.int .i64 c.y.aQ) rfl;have am:=n 23 (.slice c.y.Ai c.y.ins.length c.y.ci) rfl;have an:=n 24 (.slice c.y.At c.y.taken.length c.y.ct) rfl;have ao:=n 40 (.int .i64 j) rfl;clear n;refine oG (by kernel_rfl) (by kernel_rfl) ?_
   repeat(go_big_quiet_step(exact Bw.call _ (D3.out _ (aA F.bh (Bw.h _)))))
   refine wpQuiet_nil ?_;intro O E;obtain⟨⟨O,K⟩,u⟩:=E;subst u;have L:=F.aa K;have gG:=jX.trans (Mv.bh K);clear e2 e3 e4 e5 e6 e7 e8 e9 af ak al am an ao F jX D3 Dt;have ae:=L.bh;by_cases a0:-1000000000<=aw;rotate_left
   ·have M:Hid (cQ aw=false):=(by simp[Hid,cQ];omega);go_wp2;go_ret;exact⟨ae,.inl ⟨M.out,rfl⟩⟩
   by_cases a1:aw<=1000000000;rotate_left
   ·have M:Hid (cQ aw=false):=(by simp[Hid,cQ];omega);go_wp2;go_ret;exact⟨ae,.inl ⟨M.out,rfl⟩⟩
   have M:Hid (cQ aw=true):=(by simp[Hid,cQ];omega);have ap:O.cell? ⟨g,41,none⟩=some (.int .i64 s.aw):=L.blk.cell 41;have f41:=L.blk.frozen 41;go_upto_region 14 with fail
   have mn:=L.anK aw;have kY:=gG.trans (Mv.set 41 (.int .i64 aw));generalize O.setCell ⟨g,41,none⟩ (.int .i64 aw)=aC at mn kY|-;clear L gG ap f41 ae;go_wp2_with fail;refine(Kq mn 6 ⟨#[]⟩ aw (by omega)).mono ?_;rintro e w5 ⟨rfl,v5,AQ,jY⟩;have pI:=kY.trans jY;have aD:w5.cell? ⟨g,33,none⟩=some (.int .i64 s.left):=AQ.blk.cell 33;have f33:=AQ.blk.frozen 33;clear mn kY jY;go_wp2;go_ret;have pH:=AQ.Vz (s.left-aw);have kZ:=pI.trans (Mv.set 33 (.int .i64 (s.left-aw)));exact⟨pH.bh,.inr ⟨M.out,rfl,v5,pH,kZ⟩⟩
