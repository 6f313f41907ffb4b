/- Conditions: as stated. -/
import Derived.Test.YtlhkojcmcmkmaaaGreatKG33
set_option maxRecDepth 100000
set_option maxHeartbeats 4000000
namespace Go.Proofs.YtlhkojcmcmkmaaaGreat
open Go.Proofs.Tryz
open Go.RowKit
namespace M3
theorem amm{P:Program}{j:Array Oper}{B:Region.Mode}{C:World->Prop}{Q:Act->World->Prop}{E:Type}(D:E->Array Bool)(l:E->Nat)(r:E->List Nat)(I:E->Act->World->Prop)(m:Nat)
  (hI:∀s a w w',I s a w->Below w.heap.size w w'->I s a w')
  (hr:∀s a w,I s a w->0<l s->Region.ready B j (D s)=r s/\r s≠[])
  (step:∀s a w,C w->I s a w->0<l s->(∀u z p,l u<l s->C p->I u z p->cG P B j C Q (m+l u) (D u) z p)->
   ∀i∈r s,∃k,l s=k+1/\im P j C i (fun z p=>C p/\cG P B j C Q (m+k) ((D s).setIfInBounds i true) z p) a w)
  (fin:∀s a w,C w->I s a w->l s=0->cG P B j C Q m (D s) a w):
  ∀(n:Nat) s a w,l s<=n->C w->I s a w->cG P B j C Q (m+l s) (D s) a w:=by
 intro n
 induction n with
 |zero=>
  intro s a w M F h;have h0:l s=0:=by omega
  rw[h0];exact fin s a w F h h0
 |succ n N=>
  intro s a w M F h;rcases Nat.eq_zero_or_pos (l s)with h0|h0
  ·rw[h0];exact fin s a w F h h0
  ·obtain⟨k,O⟩:∃k,l s=k+1:=⟨l s-1,by omega⟩
   rw[O];intro w' G R;have L:=hI s a w w' h R;obtain⟨S,T⟩:=hr s a w' L h0;rw[S];refine⟨fun e=>absurd e T,fun i hi=>?_⟩;obtain⟨k',X,J⟩:=step s a w' G L h0 (fun u z p U V K=>N u z p (by omega) V K) i hi;obtain rfl:k=k':=by omega
   exact J
end M3
theorem Own.afg{u:Type}{l:u->List Value}{k:Nat}{e t:TypeId}{w:World}{base g:Nat}{v:Value}{xs:List u}{cs:Array Value}(h:Own l k e w base v xs)(z:ah w g t cs)(C:t≠e):v.ownBlock≠some g:=by
 rcases h.2 with⟨p,_⟩|⟨F,B,D,p,G,j,_⟩
 ·rw[p];exact nofun
 ·rw[p];intro r;injection r with r
  subst r;unfold ah at z;rw[z]at j;injection j with j
  injection j with _ E _
  exact C E
def LgV(I:aY)(e j p:Value):Prop:=∃(u z B C D r E F G:Int) (A J At:Option Addr) (l c K L M N:Nat),e=.agg #[.int .i64 u,.int .i64 z,.int .i64 B,.int .i64 C,.int .i64 D,.int .i64 r,.slice A l c]/\j=.agg #[.int .i64 E,.int .i64 F,.int .i64 G,.slice J K L,.slice At M N]/\p=.int .i64 I.err/\(I.err=0->r=I.DJ)
theorem mE.lgV{I:aY}{w w':World}{e:Ending}(h:mE I w e w'):∃a b c,e=.returned (.tuple #[a,b,c])/\LgV I a b c/\Below w.heap.size w w':=by
 rcases h with⟨j,A,c,p,r,At,u,rfl,-,-,-,l⟩|⟨j,rfl,l⟩
 ·exact⟨_,_,_,rfl,⟨_,_,_,_,_,_,_,_,_,_,_,_,_,_,_,_,_,_,rfl,rfl,by rw[j],fun _=>rfl⟩,l⟩
 ·exact⟨_,_,_,rfl,⟨_,_,_,_,_,_,_,_,_,_,_,_,_,_,_,_,_,_,rfl,rfl,rfl,fun h=>absurd h j⟩,l⟩
abbrev LgS:=Nat×Bool×Bool×Bool
def amn:LgS->Array Bool|(c,n,x,y)=>#[true,true,true,decide (1<=c),true,decide (2<=c),true,true,true,n,decide (3<=c),decide (4<=c),decide (4<=c),decide (4<=c),decide (4<=c),decide (4<=c),x,y,false,false,false]
def nw(b:Bool):Nat:=if b=true then 0 else 1
def nT:LgS->Nat|(c,n,x,y)=>(if c=4 then 0 else 8-c)+nw n+nw x+nw y
def afh:LgS->List Nat|(c,n,x,y)=>(if c=0 then[3]else[])++(if c=1 then[5]else[])++(if n=false then[9]else[])++(if c=2/\n=true then[10]else[])++(if c=3 then[11]else[])++(if x=false then[16]else[])++(if y=false then[17]else[])
structure O8(W:World)(xs:List Elem)(el:Elem)(c:Nat)(n x y:Bool)(v19 v21 v25 v26 oY oZ:Value)(w:World):Prop where
 aU:Below W.heap.size W w
 c4:c<=4
 cn:3<=c->n=true
 f1:c=1->Own aN 2 69 w W.heap.size v19 ([]:List Elem)
 f2:c=2->Own aN 2 69 w W.heap.size v21 xs
 f3:c=3->∃A k,v26=.slice A (xs.length+1) k/\aj aN 2 w w.heap.size A (xs++[el])
 f9:n=true->∃q,v25=.slice (some ⟨q,0,none⟩) 1 1/\aj aN 2 w w.heap.size (some ⟨q,0,none⟩) [el]/\q<w.heap.size/\(c=1->v19.ownBlock≠some q)/\(c=2->v21.ownBlock≠some q)
 fx:x=true->∃g,oY=.pointer (some ⟨g,0,none⟩)/\W.heap.size<=g/\ah w g 27 #[.int .i64 0,.int .i64 0,.int .i64 0,.int .i64 0,.int .i64 0,.int .i64 0,.slice none 0 0]
 fy:y=true->∃g,oZ=.pointer (some ⟨g,0,none⟩)/\W.heap.size<=g/\ah w g 53 #[.int .i64 0,.int .i64 0,.int .i64 0,.slice none 0 0,.slice none 0 0]
section
variable {W w w':World}{xs:List Elem}{el:Elem}{c:Nat}{n x y:Bool}{v19 v21 v25 v26 oY oZ:Value}
theorem O8.aa(h:O8 W xs el c n x y v19 v21 v25 v26 oY oZ w)(j:Below w.heap.size w w'):O8 W xs el c n x y v19 v21 v25 v26 oY oZ w':=
 ⟨aB h.aU j,h.c4,h.cn,fun e=>(h.f1 e).aa j,fun e=>(h.f2 e).aa j,fun e=>(h.f3 e).imp fun _ h=>h.imp fun _ h=>⟨h.1,h.2.aa j⟩,
  fun e=>(h.f9 e).imp fun _ h=>⟨h.1,h.2.1.aa j,arY h.2.2.1 j.size,h.2.2.2⟩,fun e=>(h.fx e).imp fun _ h=>⟨h.1,h.2.1,h.2.2.aa j⟩,fun e=>(h.fy e).imp fun _ h=>⟨h.1,h.2.1,h.2.2.aa j⟩⟩
theorem O8.app(h:O8 W xs el c n x y v19 v21 v25 v26 oY oZ w){v:Value}{zs:List Elem}(z:Own aN 2 69 w W.heap.size v zs)(B:∀q,v25=.slice (some ⟨q,0,none⟩) 1 1->n=true->v.ownBlock≠some q)(u:w.grownBy w' v.ownBlock):
  Below W.heap.size W w'/\(n=true->∃q,v25=.slice (some ⟨q,0,none⟩) 1 1/\aj aN 2 w' w'.heap.size (some ⟨q,0,none⟩) [el]/\q<w.heap.size/\v.ownBlock≠some q)/\
  (x=true->∃g,oY=.pointer (some ⟨g,0,none⟩)/\W.heap.size<=g/\ah w' g 27 #[.int .i64 0,.int .i64 0,.int .i64 0,.int .i64 0,.int .i64 0,.int .i64 0,.slice none 0 0])/\
  (y=true->∃g,oZ=.pointer (some ⟨g,0,none⟩)/\W.heap.size<=g/\ah w' g 53 #[.int .i64 0,.int .i64 0,.int .i64 0,.slice none 0 0,.slice none 0 0]):=
 ⟨jN h.aU u (fun q B=>(z.cg B).1),
  fun e=>by
   obtain⟨q,l,p,j,_⟩:=h.f9 e;have r:=B q l e;exact⟨q,l,p.G9 u (fun a C=>by injection C with C;subst C;exact r),j,r⟩,
  fun e=>by
   obtain⟨g,l,p,j⟩:=h.fx e;exact⟨g,l,p,j.grown u (fun D=>z.afg j (by decide) D.symm)⟩,
  fun e=>by
   obtain⟨g,l,p,j⟩:=h.fy e;exact⟨g,l,p,j.grown u (fun D=>z.afg j (by decide) D.symm)⟩⟩
end
theorem V0(r:dN)(j:dR)(A:Option Addr)(X:Nat)(xs:List Elem)(z:ByteArray)(n:Int)(w:World)(hr:r.In w)(hy:j.In w)(hs:aj aN 2 w w.heap.size A xs)(hl:xs.length<=1000)(bf:nN (mD r pQ j [] true (xs++[⟨z,n⟩]))):
  Calls prog 37 #[r.val,j.val,.slice A xs.length X,.string z,.int .i64 n] w (ad4 (mD r pQ j [] true (xs++[⟨z,n⟩])) w):=by
 have ai:=(ah.new w 45 #[.slice r.Aw r.ws.length r.cw,.slice r.As r.ss.length r.cs,.int .i64 r.tm.t.method,.slice r.tm.Ab r.tm.t.aA.length r.tm.cb,.int .i64 r.tm.t.bg,.int .i64 r.tm.t.bh,.int .i64 r.tm.t.unit,.int .i64 r.tm.t.mode,.slice r.tm.Ar r.tm.t.rows.length r.tm.cr,.int .i64 r.count,.int .i64 r.sh.fixed,.int .i64 r.sh.bE,.int .i64 r.sh.lower,.int .i64 r.sh.share,.int .i64 r.sh.top,.int .i64 r.recover]).alloc (.cells #[.int .i64 j.ay,.int .i64 j.aw,.int .i64 j.aO,.slice j.Ai j.ins.length j.ci,.slice j.At j.taken.length j.ct] 53);have aD:=ah.new (w.alloc (.cells #[.slice r.Aw r.ws.length r.cw,.slice r.As r.ss.length r.cs,.int .i64 r.tm.t.method,.slice r.tm.Ab r.tm.t.aA.length r.tm.cb,.int .i64 r.tm.t.bg,.int .i64 r.tm.t.bh,.int .i64 r.tm.t.unit,.int .i64 r.tm.t.mode,.slice r.tm.Ar r.tm.t.rows.length r.tm.cr,.int .i64 r.count,.int .i64 r.sh.fixed,.int .i64 r.sh.bE,.int .i64 r.sh.lower,.int .i64 r.sh.share,.int .i64 r.sh.top,.int .i64 r.recover] 45)) 53 #[.int .i64 j.ay,.int .i64 j.aw,.int .i64 j.aO,.slice j.Ai j.ins.length j.ci,.slice j.At j.taken.length j.ct];rw[arn]at aD;have P:=ew (bF w (.cells #[.slice r.Aw r.ws.length r.cw,.slice r.As r.ss.length r.cs,.int .i64 r.tm.t.method,.slice r.tm.Ab r.tm.t.aA.length r.tm.cb,.int .i64 r.tm.t.bg,.int .i64 r.tm.t.bh,.int .i64 r.tm.t.unit,.int .i64 r.tm.t.mode,.slice r.tm.Ar r.tm.t.rows.length r.tm.cr,.int .i64 r.count,.int .i64 r.sh.fixed,.int .i64 r.sh.bE,.int .i64 r.sh.lower,.int .i64 r.sh.share,.int .i64 r.sh.top,.int .i64 r.recover] 45)) (.cells #[.int .i64 j.ay,.int .i64 j.aw,.int .i64 j.aO,.slice j.Ai j.ins.length j.ci,.slice j.At j.taken.length j.ct] 53);have ab:=hr.aa P;have zr:=hy.aa P;have am:=hs.aa P;obtain⟨I,hI⟩:∃I,I=mD r pQ j [] true (xs++[⟨z,n⟩]):=⟨_,rfl⟩
 rw[<-hI];have Ve:=aq6 hI;have dg:=aq6 bf;clear hr hy hs bf hI;unfold dN.val dR.val;go_enter func37,ntmps37;go_upto_region 1 with fail
 obtain⟨W,hW⟩:∃W,W=(w.alloc (.cells #[.slice r.Aw r.ws.length r.cw,.slice r.As r.ss.length r.cs,.int .i64 r.tm.t.method,.slice r.tm.Ab r.tm.t.aA.length r.tm.cb,.int .i64 r.tm.t.bg,.int .i64 r.tm.t.bh,.int .i64 r.tm.t.unit,.int .i64 r.tm.t.mode,.slice r.tm.Ar r.tm.t.rows.length r.tm.cr,.int .i64 r.count,.int .i64 r.sh.fixed,.int .i64 r.sh.bE,.int .i64 r.sh.lower,.int .i64 r.sh.share,.int .i64 r.sh.top,.int .i64 r.recover] 45)).alloc (.cells #[.int .i64 j.ay,.int .i64 j.aw,.int .i64 j.aO,.slice j.Ai j.ins.length j.ci,.slice j.At j.taken.length j.ct] 53):=⟨_,rfl⟩
 rw[<-hW]at ai aD P ab zr am|-;have Ia:Hid (w.heap.size+2<=W.heap.size):=by rw[Hid,hW,arn,arn];omega
 clear hW;have HC:Hid (∀W',Below W.heap.size W W'->∀V Y,aj aN 2 W' W'.heap.size V (xs++[⟨z,n⟩])->Calls prog 49 #[.agg #[.slice r.Aw r.ws.length r.cw,.slice r.As r.ss.length r.cs,.int .i64 r.tm.t.method,.slice r.tm.Ab r.tm.t.aA.length r.tm.cb,.int .i64 r.tm.t.bg,.int .i64 r.tm.t.bh,.int .i64 r.tm.t.unit,.int .i64 r.tm.t.mode,.slice r.tm.Ar r.tm.t.rows.length r.tm.cr,.int .i64 r.count,.int .i64 r.sh.fixed,.int .i64 r.sh.bE,.int .i64 r.sh.lower,.int .i64 r.sh.share,.int .i64 r.sh.top,.int .i64 r.recover],.agg #[.int .i64 0,.slice none 0 0,.slice none 0 0,.slice none 0 0],.agg #[.int .i64 j.ay,.int .i64 j.aw,.int .i64 j.aO,.slice j.Ai j.ins.length j.ci,.slice j.At j.taken.length j.ct],.slice none 0 0,.bool true,.slice V (xs.length+1) Y] W' (mE I W')):=fun W' K V Y cX=>by have hC:=ajD r pQ j none V 0 Y [] (xs++[⟨z,n⟩]) true W' (ab.aa K) ⟨aj.cK,aj.cK,aj.cK,fun e he=>by cases he⟩ (zr.aa K) aj.cK cX (by simp;omega) dg.out;rw[<-Ve.out]at hC;rw[show(xs++[(⟨z,n⟩:Elem)]).length=xs.length+1 by simp,show pQ.val=.agg #[.int .i64 0,.slice none 0 0,.slice none 0 0,.slice none 0 0]from rfl]at hC;exact hC
 clear ab zr;refine M3.iu (C:=fun w'=>Below W.heap.size W w') (iw _ _ (aq7 _)) (arb _ _) (aE:=?aE) [0,1,2,4,6,7,8] 14 (by kernel_rfl) (by kernel_rfl) rfl (by kernel_rfl) (by kernel_rfl) (by rfl) ?H ?M
 case H=>
  intro F hF an;simp only[M3.cL,arh,ari,arj];have O9:∀w',(∃p:aR (fun w'=>Below W.heap.size W w') F,w'=p.w')->ah w' w.heap.size 45 #[.slice r.Aw r.ws.length r.cw,.slice r.As r.ss.length r.cs,.int .i64 r.tm.t.method,.slice r.tm.Ab r.tm.t.aA.length r.tm.cb,.int .i64 r.tm.t.bg,.int .i64 r.tm.t.bh,.int .i64 r.tm.t.unit,.int .i64 r.tm.t.mode,.slice r.tm.Ar r.tm.t.rows.length r.tm.cr,.int .i64 r.count,.int .i64 r.sh.fixed,.int .i64 r.sh.bE,.int .i64 r.sh.lower,.int .i64 r.sh.share,.int .i64 r.sh.top,.int .i64 r.recover]:=by rintro w' ⟨p,rfl⟩;exact ah.aa ai p.h
  have V1:∀w',(∃p:aR (fun w'=>Below W.heap.size W w') F,w'=p.w')->ah w' (w.heap.size+1) 53 #[.int .i64 j.ay,.int .i64 j.aw,.int .i64 j.aO,.slice j.Ai j.ins.length j.ci,.slice j.At j.taken.length j.ct]:=by rintro w' ⟨p,rfl⟩;exact ah.aa aD p.h
  repeat(first|(refine acr _ _ w.heap.size rfl rfl rfl O9 underlying45 rfl (by kernel_rfl) ?_;simp only[Act.put,aK,aL,aM])|(refine acr _ _ (w.heap.size+1) rfl rfl rfl V1 underlying53 rfl (by kernel_rfl) ?_;simp only[Act.put,aK,aL,aM])|go_big_quiet_step(fail))
  refine wpQuiet_nil ?_;rfl
 case M=>
  intro Q0 bM;refine M3.amm (m:=3) amn nT afh (fun s a w'=>∃v19 v21 v25 v26 G oY oZ J B D E,a=⟨List.toArray ((.agg #[.slice r.Aw r.ws.length r.cw,.slice r.As r.ss.length r.cs,.int .i64 r.tm.t.method,.slice r.tm.Ab r.tm.t.aA.length r.tm.cb,.int .i64 r.tm.t.bg,.int .i64 r.tm.t.bh,.int .i64 r.tm.t.unit,.int .i64 r.tm.t.mode,.slice r.tm.Ar r.tm.t.rows.length r.tm.cr,.int .i64 r.count,.int .i64 r.sh.fixed,.int .i64 r.sh.bE,.int .i64 r.sh.lower,.int .i64 r.sh.share,.int .i64 r.sh.top,.int .i64 r.recover])::(.agg #[.int .i64 j.ay,.int .i64 j.aw,.int .i64 j.aO,.slice j.Ai j.ins.length j.ci,.slice j.At j.taken.length j.ct])::(.slice A xs.length X)::(.string z)::(.int .i64 n)::(.pointer (some ⟨w.heap.size,0,none⟩))::(.pointer (some ⟨w.heap.size+1,0,none⟩))::undef::undef::undef::(.int .i64 0)::(.int .i64 0)::oY::oZ::undef::J::(.agg #[.slice r.Aw r.ws.length r.cw,.slice r.As r.ss.length r.cs,.int .i64 r.tm.t.method,.slice r.tm.Ab r.tm.t.aA.length r.tm.cb,.int .i64 r.tm.t.bg,.int .i64 r.tm.t.bh,.int .i64 r.tm.t.unit,.int .i64 r.tm.t.mode,.slice r.tm.Ar r.tm.t.rows.length r.tm.cr,.int .i64 r.count,.int .i64 r.sh.fixed,.int .i64 r.sh.bE,.int .i64 r.sh.lower,.int .i64 r.sh.share,.int .i64 r.sh.top,.int .i64 r.recover])::(.agg #[.int .i64 0,.slice none 0 0,.slice none 0 0,.slice none 0 0])::(.agg #[.int .i64 j.ay,.int .i64 j.aw,.int .i64 j.aO,.slice j.Ai j.ins.length j.ci,.slice j.At j.taken.length j.ct])::v19::(.slice A xs.length X)::v21::(.string z)::(.int .i64 n)::(.agg #[.string z,.int .i64 n])::v25::v26::G::B::D::E::undef::undef::undef::undef::undef::[]),_⟩/\(s.1=4->LgV I B D E)/\O8 W xs ⟨z,n⟩ s.1 s.2.1 s.2.2.1 s.2.2.2 v19 v21 v25 v26 oY oZ w') ?hI ?hr ?step ?fin 11 (0,false,false,false) _ _ (by decide) (arb _ _) ⟨undef,undef,undef,undef,undef,undef,undef,undef,undef,undef,undef,rfl,nofun,⟨arb _ _,by show 0<=4;omega,fun h=>absurd h (by show¬3<=0;omega),nofun,nofun,nofun,nofun,nofun,nofun⟩⟩
  case hI=>rintro s a L w2 ⟨v19,v21,v25,v26,G,oY,oZ,J,B,D,E,rfl,R,hF⟩ K;exact⟨v19,v21,v25,v26,G,oY,oZ,J,B,D,E,rfl,R,hF.aa K⟩
  case hr=>
   rintro⟨c,O,x,y⟩ a L ⟨v19,v21,v25,v26,G,oY,oZ,J,B,D,E,rfl,R,hF⟩ Z;have hc:=hF.c4;have hn:=hF.cn;simp only at hc hn;clear hF R;rcases c with _|_|_|_|_|c
   rotate_right
   ·omega
   all_goals cases O<;>cases x<;>cases y<;>first|(exact absurd (hn (by decide)) Bool.false_ne_true)|(exact absurd Z (by decide))|exact⟨by kernel_rfl,by decide⟩
  case step=>
   rintro⟨c,O,x,y⟩ a L S ⟨v19,v21,v25,v26,G,oY,oZ,J,B,D,E,rfl,R,hF⟩ Z ih i hi;simp only at hF R;have T:W.heap.size<=L.heap.size:=hF.aU.size;simp only[afh,arE,List.mem_ite_nil_right,arQ,or_assoc]at hi;rcases hi with⟨rfl,rfl⟩|⟨rfl,rfl⟩|⟨rfl,rfl⟩|⟨⟨rfl,rfl⟩,rfl⟩|⟨rfl,rfl⟩|⟨rfl,rfl⟩|⟨rfl,rfl⟩
   ·refine⟨nT (1,O,x,y),(by simp only[nT];simp<;>omega),?_⟩;have K:=bF L (.cells #[] 69);have u:=hF.aa K;refine M3.bD (.slice (some ⟨L.heap.size,0,none⟩) 0 0) (L.alloc (.cells #[] 69)) rfl rfl (by go_simp) ⟨aB S K,?_⟩;simp only[Act.put,aG,aH,aI,aK,aL,aM];refine ih (1,O,x,y) _ _ (by simp only[nT];simp<;>omega) (aB S K) ⟨_,v21,v25,v26,G,oY,oZ,J,B,D,E,rfl,nofun,⟨u.aU,by show 1<=4;omega,fun h=>absurd h (by show¬3<=1;omega),fun _=>Own.lit dt L [] #[] 69 rfl (by simp) T,nofun,nofun,fun e=>?_,u.fx,u.fy⟩⟩;obtain⟨q,N,e2,e3,_⟩:=hF.f9 e;exact⟨q,N,e2.aa K,arY e3 K.size,fun _ e4=>(by injection e4 with e4;exact absurd e4 (by show L.heap.size≠q;omega)),nofun⟩
   ·refine⟨nT (2,O,x,y),(by simp only[nT];simp<;>omega),?_⟩;refine M3.GJ (.tmp 19) (.tmp 20) 51 X 24 _ kF underlying51 (hF.f1 rfl) (am.aa hF.aU) dt (by omega) rfl kn (by simp;omega) (by omega) T rfl rfl rfl rfl rfl rfl ?_;intro v' w2 U hg ao;have hq:∀q,v25=.slice (some ⟨q,0,none⟩) 1 1->O=true->v19.ownBlock≠some q:=fun q e hn=>by
     obtain⟨q',N,_,_,e2,_⟩:=hF.f9 hn;rw[e]at N;injection N with N
     injection N with N
     injection N with N
     subst N;exact e2 rfl
    obtain⟨k1,k2,k3,k4⟩:=hF.app (hF.f1 rfl) hq hg;refine⟨k1,?_⟩;simp only[Act.put,aG,aH,aI,aK,aL,aM];refine ih (2,O,x,y) _ _ (by simp only[nT];simp<;>omega) k1 ⟨v19,v',v25,v26,G,oY,oZ,J,B,D,E,rfl,nofun,⟨k1,by show 2<=4;omega,fun h=>absurd h (by show¬3<=2;omega),nofun,fun _=>U,nofun,fun e=>?_,k3,k4⟩⟩;obtain⟨q,N,e2,e3,e4⟩:=k2 e;refine⟨q,N,e2,arY e3 hg.size,nofun,fun _ e5=>?_⟩;rcases ao with h|h
    ·exact e4 (h▸e5)
    ·rw[h]at e5;injection e5 with e5;omega
   ·have ax:¬3<=c:=fun h=>by have:=hF.cn h;cases this
    refine⟨nT (c,true,x,y),(by simp only[nT,nw];simp<;>omega),?_⟩;have K:=bF L (.cells #[.string z,.int .i64 n] 69);have u:=hF.aa K;refine M3.bD (.slice (some ⟨L.heap.size,0,none⟩) 1 1) (L.alloc (.cells #[.string z,.int .i64 n] 69)) rfl rfl (by go_simp) ⟨aB S K,?_⟩;simp only[Act.put,aG,aH,aI,aK,aL,aM];refine ih (c,true,x,y) _ _ (by simp only[nT,nw];simp) (aB S K) ⟨v19,v21,_,v26,G,oY,oZ,J,B,D,E,rfl,fun h=>absurd h (by show¬c=4;omega),⟨u.aU,hF.c4,fun _=>rfl,u.f1,u.f2,fun h=>absurd h (by show¬c=3;omega),fun _=>⟨L.heap.size,rfl,?_,by rw[arn];omega,fun h e=>?_,fun h e=>?_⟩,u.fx,u.fy⟩⟩
    ·exact aj.new dt L [⟨z,n⟩] #[.string z,.int .i64 n] 69 rfl |>.more (by rw[arn];omega)
    ·have:=((hF.f1 h).cg e).2;omega
    ·have:=((hF.f2 h).cg e).2;omega
   ·refine⟨nT (3,true,x,y),(by simp only[nT];simp<;>omega),?_⟩;obtain⟨q,rfl,hS,Bk,_,ja⟩:=hF.f9 rfl;refine M3.GJ (.tmp 21) (.tmp 25) 51 1 24 _ kF underlying51 (hF.f2 rfl) (hS) dt (by omega) rfl kn (by simp;omega) (by omega) T rfl rfl rfl rfl rfl rfl ?_;intro v' w2 U hg ao;have hq:∀q',Value.slice (some ⟨q,0,none⟩) 1 1=.slice (some ⟨q',0,none⟩) 1 1->true=true->v21.ownBlock≠some q':=fun q' e hn=>by
     injection e with N
     injection N with N
     injection N with N
     subst N;exact ja rfl
    obtain⟨k1,k2,k3,k4⟩:=hF.app (hF.f2 rfl) hq hg;refine⟨k1,?_⟩;simp only[Act.put,aG,aH,aI,aK,aL,aM];obtain⟨V,Y,rfl,cX,-,-,-⟩:=U.kE dt;refine ih (3,true,x,y) _ _ (by simp only[nT];simp<;>omega) k1 ⟨v19,v21,_,_,G,oY,oZ,J,B,D,E,rfl,nofun,⟨k1,by show 3<=4;omega,fun _=>rfl,nofun,nofun,fun _=>⟨V,Y,by rw[arl];rfl,cX⟩,fun e=>?_,k3,k4⟩⟩;obtain⟨q',N,e2,e3,e4⟩:=k2 e;exact⟨q',N,e2,arY e3 hg.size,nofun,nofun⟩
   ·obtain rfl:O=true:=hF.cn (by show 3<=3;omega);refine⟨4+nw x+nw y,(by simp only[nT,nw];simp<;>omega),?_⟩;obtain⟨V,Y,rfl,cX⟩:=hF.f3 rfl;refine M3.iB 49 #[.agg #[.slice r.Aw r.ws.length r.cw,.slice r.As r.ss.length r.cs,.int .i64 r.tm.t.method,.slice r.tm.Ab r.tm.t.aA.length r.tm.cb,.int .i64 r.tm.t.bg,.int .i64 r.tm.t.bh,.int .i64 r.tm.t.unit,.int .i64 r.tm.t.mode,.slice r.tm.Ar r.tm.t.rows.length r.tm.cr,.int .i64 r.count,.int .i64 r.sh.fixed,.int .i64 r.sh.bE,.int .i64 r.sh.lower,.int .i64 r.sh.share,.int .i64 r.sh.top,.int .i64 r.recover],.agg #[.int .i64 0,.slice none 0 0,.slice none 0 0,.slice none 0 0],.agg #[.int .i64 j.ay,.int .i64 j.aw,.int .i64 j.aO,.slice j.Ai j.ins.length j.ci,.slice j.At j.taken.length j.ct],.slice none 0 0,.bool true,.slice V (xs.length+1) Y] rfl rfl (by go_simp) ?_;refine(HC.out L hF.aU V Y cX).mono ?_;rintro e w2 av;obtain⟨a,b,c,rfl,hV,Q⟩:=av.lgV;have gv:=aB S Q;have u:=hF.aa Q;refine⟨_,rfl,gv,?_⟩;simp only[Act.put,aG,aH,aI,aK,aL,aM];have hN:=ih (4,true,x,y) _ w2 (by show 0+0+nw x+nw y<5+0+nw x+nw y;omega) gv ⟨v19,v21,v25,.slice V (xs.length+1) Y,.tuple #[a,b,c],oY,oZ,.tuple #[a,b,c],a,b,c,rfl,fun _=>hV,⟨u.aU,aq7 _,fun _=>rfl,nofun,nofun,nofun,fun e=>(u.f9 e).imp fun q h=>⟨h.1,h.2.1,h.2.2.1,nofun,nofun⟩,u.fx,u.fy⟩⟩;rw[show 3+(4+nw x+nw y)=3+nT (4,true,x,y)+4 by show _=3+(0+0+nw x+nw y)+4;omega];cases x<;>cases y
    all_goals
     refine M3.KV (by kernel_rfl) [12,13,14,15] _ _ (by kernel_rfl) (by kernel_rfl) (M3.Gh (iw _ _ (aq7 _)) gv _ _ (by kernel_rfl) ?_) hN;intro F hF an;simp only[M3.cL,arh,ari,arj]
     repeat(first|go_big_quiet_step(fail))
     refine wpQuiet_nil ?_;rfl
   ·refine⟨nT (c,O,true,y),(by simp only[nT,nw];simp<;>omega),?_⟩;have K:=bF L (.cells #[.int .i64 0,.int .i64 0,.int .i64 0,.int .i64 0,.int .i64 0,.int .i64 0,.slice none 0 0] 27);have u:=hF.aa K;refine M3.bD (.pointer (some ⟨L.heap.size,0,none⟩)) (L.alloc (.cells #[.int .i64 0,.int .i64 0,.int .i64 0,.int .i64 0,.int .i64 0,.int .i64 0,.slice none 0 0] 27)) rfl rfl (by go_simp) ⟨aB S K,?_⟩;simp only[Act.put,aG,aH,aI,aK,aL,aM];exact ih (c,O,true,y) _ _ (by simp only[nT,nw];simp) (aB S K) ⟨v19,v21,v25,v26,G,_,oZ,J,B,D,E,rfl,R,⟨u.aU,hF.c4,hF.cn,u.f1,u.f2,u.f3,u.f9,fun _=>⟨_,rfl,T,ah.new _ _ _⟩,u.fy⟩⟩
   ·refine⟨nT (c,O,x,true),(by simp only[nT,nw];simp<;>omega),?_⟩;have K:=bF L (.cells #[.int .i64 0,.int .i64 0,.int .i64 0,.slice none 0 0,.slice none 0 0] 53);have u:=hF.aa K;refine M3.bD (.pointer (some ⟨L.heap.size,0,none⟩)) (L.alloc (.cells #[.int .i64 0,.int .i64 0,.int .i64 0,.slice none 0 0,.slice none 0 0] 53)) rfl rfl (by go_simp) ⟨aB S K,?_⟩;simp only[Act.put,aG,aH,aI,aK,aL,aM];exact ih (c,O,x,true) _ _ (by simp only[nT,nw];simp) (aB S K) ⟨v19,v21,v25,v26,G,oY,_,J,B,D,E,rfl,R,⟨u.aU,hF.c4,hF.cn,u.f1,u.f2,u.f3,u.f9,u.fx,fun _=>⟨_,rfl,T,ah.new _ _ _⟩⟩⟩
  case fin=>
   rintro⟨c,O,x,y⟩ a L S ⟨v19,v21,v25,v26,G,oY,oZ,J,B,D,E,rfl,R,hF⟩ Z;simp only[nT]at Z;simp only at hF R;obtain rfl:O=true:=by cases O with|false=>simp[nw]at Z|true=>rfl
   obtain rfl:x=true:=by cases x with|false=>simp[nw]at Z|true=>rfl
   obtain rfl:y=true:=by cases y with|false=>simp[nw]at Z|true=>rfl
   obtain rfl:c=4:=by
    have:=hF.c4;by_cases h:c=4
    ·exact h
    ·rw[aq8 h]at Z;omega
   obtain⟨a0,a1,a2,a3,a4,lg,KW,y1,y2,A1,Ai,At,l,k,ni,ci,nt,ct,rfl,rfl,rfl,Gj⟩:=R rfl;obtain⟨gs,rfl,iA,dS⟩:=hF.fx rfl;obtain⟨gy,rfl,BD,bQ⟩:=hF.fy rfl;have ap:gs≠gy:=by
    rintro rfl;unfold ah at dS bQ;rw[dS]at bQ;injection bQ with bQ
    injection bQ with _ h2 _
    exact absurd h2 (by decide)
   clear R Z hF;refine M3.bL [18] (by kernel_rfl) (by simp) ?_;intro w2 gv Q i hi;simp only[bS,bT,ard]at hi;subst hi;have bZ:=dS.aa Q;have oM:=bQ.aa Q;have gM:=bZ.T6 (vs:=#[.int .i64 a0,.int .i64 a1,.int .i64 a2,.int .i64 a3,.int .i64 a4,.int .i64 lg,.slice A1 l k]) rfl;have ad:=NA gs (#[.int .i64 a0,.int .i64 a1,.int .i64 a2,.int .i64 a3,.int .i64 a4,.int .i64 lg,.slice A1 l k]:Array Value).toList 0 w2;have EK:=oM.grown ad (by intro e;injection e with e;exact ap e.symm);have bU:Below W.heap.size W _:=jN gv ad (fun q e=>by injection e with e;subst e;exact iA);refine M3.eT _ rfl rfl (acs (vs:=#[.int .i64 a0,.int .i64 a1,.int .i64 a2,.int .i64 a3,.int .i64 a4,.int .i64 lg,.slice A1 l k]) (ty:=27) (d:=.tmp 12) (x:=.tmp 28) bZ rfl (by kernel_rfl) rfl rfl rfl rfl) ⟨bU,?_⟩;simp only[Act.put,aG,aH,aI];generalize w2.setCells gs 0 _=w3 at*;refine M3.bL [19] (by kernel_rfl) (by simp) ?_;intro w4 lF ae i hi;simp only[bS,bT,ard]at hi;subst hi;have mY:=gM.aa ae;have FK:=EK.aa ae;have bw:=NA gy (#[.int .i64 KW,.int .i64 y1,.int .i64 y2,.slice Ai ni ci,.slice At nt ct]:Array Value).toList 0 w4;have pk:=mY.grown bw (by intro e;injection e with e;exact ap e);have bC:Below W.heap.size W _:=jN lF bw (fun q e=>by injection e with e;subst e;exact BD);refine M3.eT _ rfl rfl (acs (vs:=#[.int .i64 KW,.int .i64 y1,.int .i64 y2,.slice Ai ni ci,.slice At nt ct]) (ty:=53) (d:=.tmp 13) (x:=.tmp 29) FK rfl (by kernel_rfl) rfl rfl rfl rfl) ⟨bC,?_⟩;simp only[Act.put,aG,aH,aI];generalize w4.setCells gy 0 _=w5 at*;refine M3.bL [20] (by kernel_rfl) (by simp) ?_;intro w6 fX bN i hi;simp only[bS,bT,ard]at hi;subst hi;have MI:=pk.aa bN;refine M3.bD (.int .i64 I.err) w6 rfl rfl (by go_simp) ⟨fX,?_⟩;simp only[Act.put,aG,aH,aI,aK,aL,aM];refine M3.kp (by kernel_rfl) ?_;intro w7 cF bp;refine bM _ _ ?_;have MJ:=MI.aa bp;have jr:=P.trans (cF.mono (by have:=P.size;omega));have z5:w7.cell? ⟨gs,5,none⟩=some (.int .i64 lg):=MJ.cell 5;clear dS bQ bZ oM gM EK mY FK pk MI MJ ad bw S gv bU lF bC fX cF Q ae bN bp bM HC Ve dg;by_cases pw:I.err=0
   ·have af:Hid (D7 I=lg):=(by rw[Hid,D7,aq9 pw,Gj pw]);have jm:=aq6 pw;rw[pw];clear pw Gj;go_wp2;go_ret2;exact⟨by rw[af.out,jm.out];simp[go_sem],jr⟩
   ·have af:Hid (D7 I=0):=(by rw[Hid,D7,aq8 pw]);clear Gj;obtain⟨er,al⟩:∃er,er=I.err:=⟨_,rfl⟩
    rw[<-al]at pw|-;have jm:=aq6 al;clear al;have OD:(er !=0)=true:=(by simpa using pw);go_wp2;go_ret2;exact⟨by rw[af.out,jm.out];simp[go_sem],jr⟩
