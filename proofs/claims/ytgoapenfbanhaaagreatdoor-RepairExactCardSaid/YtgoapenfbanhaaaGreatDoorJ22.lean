import Derived.Laws.EntriesVeiled
import Derived.Test.YtgoapenfbanhaaaGreatDoorJ20
import Derived.Test.YtgoapenfbanhaaaGreatDoorJ21
set_option linter.all false
set_option maxRecDepth 100000
set_option maxHeartbeats 32000000
open List renaming length->l_
open Go.Maps Go.RowKit Go.Sort Go.Proofs.Tryz
open Go renaming World->W_,Value->V_,maxLen->m_,TypeId->T_
namespace Go.Proofs.YtgoapenfbanhaaaGreatDoor
variable{a:Act}{A d:Array Oper}{c:Cn}{F f n:Int}{E:List (List (Nat×Bool))}{L:List Ax}{T:List Stp}{B b g k m:Nat}{xs:O_}{o:Oper}{row:Option Nat}{p q:Pc}{P:Program}{r s t x:St}{u v v':V_}{W w w':W_}
def rA.len(d:∀x∈L,oZ x){b:Bool}(h:rA L r s b):l_ r<=m_:=by rcases h with⟨_,x,c,_,rfl,_⟩|⟨_,x,c,_,_,i,hi,_⟩;(.cases e:x.H with|nil=>simp|cons a l=>have:=(d x c).rs a (by rw[e];simp);simp;unfold m_;omega);.have:=(d x c).rs r (gV hi);unfold m_;omega
def Qv{t:Bool}(h:(r,s,t)∈T):∃c,sM T r s=some c/\(t=true->c=true):=by by_cases a:(r,s,true)∈T;(.exact⟨true,(vg T r s true).2 ⟨⟨t,h⟩,by simp[a]⟩,λ_=>rfl⟩);.refine⟨false,(vg T r s false).2 ⟨⟨t,h⟩,by simp[a]⟩,λe=>?_⟩;subst e;exact absurd h a
def acI{R:St->Option Nat}{wr:W_}{V:List St}(h:GY w wr R (tr L))(o:∀x∈L,oZ x)(e:Qh (GK R) V)(v:l_ E=l_ V)(k:∀(i:Nat)(r:St)(l:List (Nat×Bool)),V[i]?=some r->E[i]?=some l->Lr V (sM (tr L) r) l):vv L V (Ef E) where
 keys r:=by
  constructor
  .intro d
   have:=(e.mem r (e.len r d)).1 d;unfold GK at this
   cases f:R r with
   |none=>rw[f]at this;cases this
   |some b=>
    have⟨s,_,a⟩:=h.full r b f
    cases m:sM (tr L) r s with
    |none=>rw[m]at a;cases a
    |some c=>
     have⟨⟨t,g⟩,_⟩:=(vg _ r s c).1 m;exact⟨s,t,F7.1 g⟩
  .rintro⟨s,b,a⟩
   refine(e.mem r (a.len o)).2 ?_;have⟨c,H,_⟩:=Qv (F7.2 a);unfold GK
   cases f:R r with
   |none=>rw[h.m.non r f s]at H;cases H
   |some b=>rfl
 nodup i j r hi hj:=by have⟨y,p⟩:=jv.1 hi;have⟨A,q⟩:=jv.1 hj;exact(cq_ e.nodup).1 (p.trans q.symm)
 sound i t c hm:=by
  (have hi:i<l_ E:=by rcases Ke i (l_ E) with h|h;(.exact h);.unfold Ef at hm;rw[R3,Wz h]at hm;cases hm);rw[Uq (r9 hi)]at hm;have d:=r9 (l:=V) (i:=i) U;have⟨s,a,m⟩:=(k i _ _ d (r9 hi) t c).1 hm;refine⟨_,s,d,a,?_⟩;have⟨⟨u,n⟩,H⟩:=(vg _ _ s c).1 m
  cases c with
  |true=>exact F7.1 (H.1 rfl)
  |false=>
   cases u with
   |true=>exact absurd (H.2 n) S
   |false=>exact F7.1 n
 full i t r s b hi g a:=by have⟨c,H,hb⟩:=Qv (F7.2 a);refine⟨c,hb,?_⟩;(have hl:i<l_ E:=by have:=(jv.1 hi).1;omega);rw[Uq (r9 hl)];exact(k i r _ hi (r9 hl) t c).2 ⟨s,g,H⟩
def oN:∀{L:List Ax},gG L=0->∀x∈L,Z_ x=0
 |y::l,h,x,b=>by
  unfold gG at h;by_cases a:Z_ y=0;(.rw[C_ (Q a)]at h;rcases jL.1 b with rfl|b;(.exact a);.exact oN h x b);.rw[P_ a]at h;exact absurd h a
def lV{x:Ax}(h:Z_ x=0):kE x.K<=l_ x.H/\l_ x.H<=nZ x.K:=by unfold Z_ at h;by_cases a:iN x=false;(.rw[P_ a]at h;cases h);.have:iN x=true:=Q a;unfold iN at this;simp only[OB,OC]at this;exact this.2
def mh:(prog.info? 9).map (λi=>(i.zero,i.size,i.bytes))=some (some (.string ⟨#[]⟩),1,16):=k_
noncomputable def rU (L:List Ax):Int:=open Classical in if gG L≠0 then gG L else if u7 L then 60 else 0
def aem(L:List Ax)(E:List (List (Nat×Bool)))(n:Nat)(wr:W_)(k:Nat)(v:V_)(most:Nat):Prop:=
 (v=.slice none 0 0/\most=n+1/\∀s,s<k->∀j,j<n+1->¬oW (Ef E) s s true j)\/
 (∃l:I_,l≠[]/\SI wr v l/\(∀x∈l,0<=x/\x<n)/\most=l_ l/\most<=2*n+1/\u7 L)
def G7(L:List Ax)(v:V_)(w:W_)(h:lT w v L)(au:xP w)(C:∀x∈L,oZ x)(hl:l_ L<=100000):z 41 #[v] w λe w'=>(∃u,e=.returned (.tuple #[u,(rU L)]))/\G w w':=by
 obtain⟨bj,c0,rfl,_⟩:=h.form;have bl:=O C;have ao:=O (G6 L _ w h au C U);by_cases r:gG L=0
 .have aP:=O r
  (have aX:=O λW av=>XW L _ W (h.up av) U C λx o aw=>by have:=(lV (oN r x o)).1;rw[aw]at this;unfold kE at this;simp at this;omega);have aY:Hid (2*l_ (tr L)<=200000000000):=O (by have:=Sw (L:=L) λx o=>(C x o).rn;omega);rw[r]at ao;clear h au C r;(have bW:=λ(a:J_)(n c:Nat) W=>run_neq_slice_nil_any (P:=prog) W 31 3 a n c 0 0 underlying31);(have bX:=λ(a:J_)(n c:Nat) W=>Lib.run_eql_slice_nil (P:=prog) W 31 3 a n c 0 0 underlying31);go_in;go_wp2_with (go_at_call 66;with_reducible refine ao.o.mono ?_;rintro e X ⟨rfl,ap⟩);have aN:G w X:=ap;refine(aX.o X aN).mono ?_;rintro e aQ ⟨rfl,R,ah⟩;have aZ:=O (b_ aN ah.below);have aR:=O ah;have a0:=O (NC aQ X.heap.size X.heap.size (2*l_ (tr L)) R (sM (tr L)) ah.m (by have:=aY.o;omega));clear ah ap aN ao aX;go_wp2_with fail;refine a0.o.mono ?_;rintro e b ⟨bN,vs,V,E,rfl,a1,aC,a2,aD,a3,aE,a4⟩;have aS:=O (acI aR.o bl.o a1 aC aD);have bP:=gY a2 aY.o;obtain⟨F,A,rfl,_,_,ae⟩:=S1.form a3;obtain⟨Z,aa,rfl,_,_,_⟩:=RdQ.form aE;have bs:Hid (G w b):=O (b_ aZ.o a4);have a5:=O aE;have bt:=O ae;have a6:=O aC;(have a7:Hid (∀(i:Nat)(l:List (Nat×Bool))(t:Nat)(c:Bool),E[i]?=some l->(t,c)∈l->t<l_ V):=O λi l t c hl ai=>by have hi:=(jv.1 hl).1;obtain⟨x,o,_⟩:=(aD i _ l (r9 U) hl t c).1 ai;exact(jv.1 o).1);clear a1 aC a2 aD a3 aE a4 ae a0 aR aZ;obtain⟨f,aF⟩:∃f,b.alloc (.cells #[.slice F (l_ V) A,.slice Z (l_ E) aa] 120)=f:=⟨_,rfl⟩;(have aG:f_ f b.heap.size 120 #[.slice F (l_ V) A,.slice Z (l_ E) aa]:=by rw[<-aF];exact f_.new _ _ _);(have a8:G b f:=by rw[<-aF];exact X_ (fu _ _) _);have c0:=aG.cell 0;have aH:=O aG;have aI:=O a8;clear aG a8;(have bu:Hid (∀(W:W_)(k most:Nat),G b W->k<l_ V->most<=2*l_ V+1->z 69 #[.agg #[.slice F (l_ V) A,.slice Z (l_ E) aa],.int .i64 k,.int .i64 most] W (Qs W E (l_ V) k most)):=O λW k most av aT ai=>by have:=a5.o.up av;rw[a6.o]at this ⊢;exact Ur E (l_ V) k most W F Z A aa this a6.o a7.o aT U ai);have bH:=O (b_ bs.o aI.o);clear a5 a7;go_wp2_with (rw[aF]);clear c0;go_loopw [6,7,27] (λbm bn ax wr=>∃(k most:Nat)(aj:V_),k<=l_ V/\ax=.int .i64 (k:Int)/\bm=.int .i64 (most:Int)/\aj=bn/\most<=2*l_ V+1/\f.heap.size<=wr.heap.size/\Hid (aem L E (l_ V) wr k aj most)/\Hid (G f wr)) (λ_ _ i _=>l_ V-(intOf i).toNat);exact⟨0,l_ V+1,_,gZ _,rfl,R_,rfl,U,gH _,O (.inl ⟨rfl,rfl,λ_ h=>absurd h (eh_ _)⟩),O (fu _ _)⟩;obtain⟨k,most,aj,aT,rfl,rfl,bv,a9,bQ,I,B⟩:=hrel;subst bv;by_cases bw:k<l_ V
  .have ak:=(bk B.o aH.o).cell 0
   have aU:=(bk B.o aH.o).cell 1;have aJ:=O (bu.o wr k most (b_ aI.o B.o) bw a9);have r1:(0:Int)<=(k:Int):=U;have bO:(k:Int)<(l_ V:Int):=U;go_wp2_with fail;refine aJ.o.mono ?_;rintro e w5 ⟨v5,rfl,aq,ar⟩;have aK:Hid (G f w5):=O (b_ B.o aq);have be:f.heap.size<=w5.heap.size:=aK.o.size;rcases ar with⟨rfl,bh⟩|⟨al,K,T,af,bf,a'⟩
   .have aL:Hid (aem L E (l_ V) w5 (k+1) aj most):=O (by
     rcases I.o with⟨ay,J,H⟩|⟨l,ay,J,H⟩;.refine .inl ⟨ay,J,λs az j N=>?_⟩;by_cases e:s=k;(.subst e;exact bh j U);.exact H s U j N
     .exact .inr ⟨l,ay,S1.up J aq,H⟩)
    clear bh aq aJ ak aU I;go_wp2;go_roundw;exact⟨k+1,most,_,U,R_,rfl,rfl,a9,be,aL,aK⟩;exact M
   .obtain⟨A5,c5,rfl,_,_,ag⟩:=S1.form T;obtain⟨am,an,rfl,_,_⟩:=ag (ei_.2 K);have aL:Hid (aem L E (l_ V) w5 (k+1) (.slice (some ⟨am,an,none⟩) (l_ al) c5) (l_ al)):=O (.inr ⟨al,K,T,af,rfl,bf,by obtain⟨j,N⟩:=a';exact WM aS.o N⟩);clear aq aJ ak aU I ag K T af a';go_wp2;go_roundw;exact⟨k+1,l_ al,_,U,R_,rfl,rfl,bf,be,aL,aK⟩;exact M
  .obtain rfl:k=l_ V:=by omega
   have ba:=O (b_ bH.o B.o);rcases I.out with⟨rfl,J,H⟩|⟨l,K,T,af,bo,aw,bb⟩
   .have Y:Hid (rU L=0):=O (by
     unfold rU;rw[C_ (Q aP.o),C_];intro hc;have⟨i,j,hi,N,aA⟩:=MN aS.o hc
     exact H i hi j N aA)
    clear J H I;go_wp2;go_ret2;exact⟨⟨.slice none 0 0,by rw[Y.o];rfl⟩,ba.o⟩
   .have Y:Hid (rU L=60):=O (by unfold rU;rw[C_ (Q aP.o),P_ bb]);obtain⟨A5,c5,rfl,_,_,ag⟩:=S1.form T;obtain⟨am,an,rfl,bx,ar⟩:=ag (ei_.2 K);have bz:=O ar;have bB:=O af;have bR:l_ l<=400000000001:=U;have⟨is,bC,bI,bJ,bK⟩:=qw mh;clear ag K T af bo aw bb ar I;have⟨d,bD⟩:∃d,d=wr:=⟨_,rfl⟩;subst bD;go_wp2;go_loopw [2,44] (λbp ax wr=>∃(m:Nat)(S:List St),m<=l_ l/\ax=.int .i64 (m:Int)/\l_ S<=m/\d.heap.size<=wr.heap.size/\Hid (wr.ownsRow d 9 1 bp (l_ S) (S.map d_)/\G d wr)) (λ_ i _=>l_ l-(intOf i).toNat);exact⟨0,[],gZ _,rfl,gH _,gH _,O ⟨Ce _ _ _ _,fu _ _⟩⟩;obtain⟨m,S,ai,rfl,bS,bY,q⟩:=hrel;obtain⟨aV,c6,rfl⟩:=n_ q.out.1;by_cases bL:m<l_ l;(.have⟨x,o⟩:=g_ bL;have⟨bc,bT⟩:=bB.o x (gV o);obtain⟨y,rfl⟩:=Int.eq_ofNat_of_zero_le bc;have bq:=(q.o.2.cell (p:=⟨am,an+m,none⟩) bx).trans (bz.o m _ o);have bE:y<l_ V:=U;obtain⟨bV,aB,rfl,bF,ae⟩:=bt.out U;have⟨s,az⟩:=g_ bE;have bd:=b_ (b_ aI.out B.out) q.out.2;have br:=(bd.cell (p:=⟨bV,aB+y,none⟩) bF).trans (ae y s az);have ak:wr.cell? b=some (.slice (some ⟨bV,aB,none⟩) (l_ V) A):=(bk (b_ B.o q.o.2) aH.o).cell 0;have q1:(0:Int)<=(m:Int):=U;have q2:(m:Int)<(l_ l:Int):=U;clear o bc az ae bd;go_wp2_with (at_builtin;refine wpList_append_own_at _ rfl _ _ 28 rfl d 9 is (.string ⟨#[]⟩) 1 16 underlying28 bC bI bJ bK rfl D (.slice aV (l_ S) c6) (l_ S) (S.map d_) rfl (gJ q.out.1 (X_ (fu _ _) _)) wr 1 1 [.string ⟨s.toArray⟩] rfl rfl ?c1 ?c2 ?c3 ?c4 ?c5 ?_);(case c1=>exact y9 _ _ rfl _ _);(case c2=>first|rfl|(intro u aW;simp at aW;subst aW;rfl));(case c3=>simp only[m_];omega);(case c4=>omega);(case c5=>first|omega|(simp;omega));intro v' aM bg bi _ _;have aO:G d aM:=(X_ q.o.2 _).grown bi (by have:=q.o.2.size;simp;omega) (λg aA=>(q.o.1.lt g aA).1);have bG:Hid (aM.ownsRow d 9 1 v' (l_ (S++[s])) ((S++[s]).map d_)/\G d aM):=O ⟨by rw[ny,wO];exact bg,aO⟩;have bM:=aO.size;clear bg bi aO bq br ak;go_wp2;go_roundw;exact⟨m+1,S++[s],U,R_,by rw[ny];simp;omega,bM,bG⟩;exact M);·(obtain rfl:m=l_ l:=by omega);go_wp2;go_ret2;exact⟨⟨.slice aV (l_ S) c6,by rw[Y.o];rfl⟩,b_ ba.o q.o.2⟩
 .have Y:Hid (rU L=gG L):=O (by unfold rU;rw[P_ r]);have bU:(gG L !=0)=true:=Q r;clear h au C r;go_in;go_wp2_with (go_at_call 66;with_reducible refine ao.o.mono ?_;rintro e X ⟨rfl,ap⟩);go_ret2;exact⟨⟨.slice none 0 0,by rw[Y.o];rfl⟩,ap⟩
def qA(w:W_)(base:Nat)(v:V_)(xs:O_):Prop:=∃g o cap c,v=.slice (a_ g o) (l_ xs) cap/\base<=g/\f_ w g 9 c/\l_ xs<=cap/\cap<=m_/\(cap=0\/o+cap<=c.size)/\∀j x,xs[j]?=some x->c[o+j]?=some x
section
variable{x:V_}
variable{w w':W_}{base:Nat}{v:V_}{xs:O_}
def qA.kept(h:qA w base v xs)(a:w.grownBy w' row)(e:v.ownBlock≠row):qA w' base v xs:=by obtain⟨g,o,cap,f,rfl,b,c,d⟩:=h;exact⟨g,o,cap,f,rfl,b,c.grown a e,d⟩
def qA.up(h:qA w base v xs)(hb:G w w'):qA w' base v xs:=by obtain⟨g,o,cap,d,rfl,a,b,c⟩:=h;exact⟨g,o,cap,d,rfl,a,bk hb b,c⟩
def qA.lt(h:qA w base v xs):∃g,v.ownBlock=some g/\base<=g/\g<w:=by obtain⟨g,o,cap,d,rfl,a,b,c⟩:=h;exact⟨g,rfl,a,b.lt⟩
def qA.lit(w:W_)(u:V_)(hb:base<=w):qA (w.alloc (.cells #[u] 9)) base (.slice (a_ w 0) 1 1) [u]:=⟨w.heap.size,0,1,#[u],rfl,hb,f_.new _ _ _,gH _,by simp[m_],.inr S,λj x h=>Q h⟩
def qA.aen(h:w.ownsRow B 9 1 v (l_ xs) xs)(H:base<=B)(i:0<l_ xs):qA w base v xs:=by rcases h.2 with⟨_,k⟩|⟨g,cap,f,rfl,hb,b,c,d,m,e⟩;(.omega);.refine⟨g,0,cap,f,rfl,U,b,c,d,.inr U,λj x a=>?_⟩;have n:=(jv.1 a).1;have:=iM (λl:O_=>l[j]?) e;simp only[YW,dd_]at this;rw[P_ U]at this;rw[Jc,this];exact a
def qA.pop(h:qA w base v (x::xs)):∃g o cap,v=.slice (a_ g o) (l_ xs+1) cap/\N w g o x/\1<=cap/\ qA w base (.slice (some (if cap=1 then(a_ g o) else (a_ g (o+1)))) (l_ xs) (cap-1)) xs:=by obtain⟨g,o,cap,d,rfl,b,a,e,i,k,c⟩:=h;simp only[p8]at e;refine⟨g,o,cap,rfl,(a.cell o).trans (Q (c 0 x rfl)),U,?_⟩;by_cases H:cap=1;(.subst H;have:xs=[]:=Jg U;subst this;exact⟨g,o,0,d,rfl,b,a,gH _,gZ _,.inl rfl,λj x h=>by simp at h⟩);.rw[C_ H];refine⟨g,o+1,cap-1,d,rfl,b,a,U,U,.inr U,λj y f=>?_⟩;have:=c (j+1) y (Q f);rw[<-this];congr 1;omega
def E8{R:List Oper}{Q:Exit->Act->W_->Prop}(B:o.guard=none)(s x:Operand)(t:T_)(M:o.op=Op.call {callee:=Callee.builtin Builtin.append,args:= #[s,x],argTypes:= #[t,t]})(i:TypeInfo)(z:V_)(C:P.underlying t=some (.slice 9))(E:P.info? 9=some i)(F:i.zero=some z)(H:i.size=1)(I:i.bytes=16)(K:z.cells.size=1)(L:a.eval s=v)(T:qA w base v xs)(hb:base<=w)(f:Addr)(c:Nat)(u:V_)(W:a.eval x=.slice (some f) 1 c)(X:w.cell? f=some u)(N:u.oneCell'=true)(ah:l_ xs<=1000000000000)(p:∀v' w',qA w' base v' (xs++[u])->w.grownBy w' v.ownBlock->wpList P A Q R (a.put o.dst v') w'):wpList P A Q (o::R) a w:=by obtain⟨g,of,cap,n,rfl,q1,q2,q3,Z,l,q⟩:=T;refine wpList_append_arg w B s x t M 9 i z 1 16 C E F H I K D g of (l_ xs) cap xs L U (λj y b=>(q2.cell _).trans (q j y b)) f 1 c [u] W rfl (λj y b=>?_) (λy r=>by simp at r;subst r;exact N) (λm j b=>?_) (by simp only[m_];omega) U (λm=>?_) (λm v' w' Y d=>?_);(·match j,b with|0,b=>simp at b;subst b;unfold Addr.add;simpa using X);(·(have O:of+cap<=n.size:=by rcases l with h|h<;>omega);simp only[wT]at b;have:j=0:=U;subst this;simp only[Nat.mul_one,ej_];refine⟨?_,q2.frozen _⟩;rw[q2.cell,Za U];rfl);(·(have O:of+cap<=n.size:=by rcases l with h|h<;>omega);refine p _ _ ?_ (gT w (a_ g (of+l_ xs*1)) u);refine⟨g,of,cap,n.setIfInBounds (of+l_ xs) u,S,q1,by have:=q2.iK (of+l_ xs) u;simpa[World.setCells]using this,Q_ m,Z,Q_ l,λj y b=>?_⟩;rw[ek_];by_cases e:j<l_ xs;(.rw[C_ U];rw[cz_ e]at b;exact q j y b);.have V:=(jv.1 b).1;simp at V;have G:j=l_ xs:=U;subst G;simp at b;subst b;rw[P_ rfl,P_ U]);.refine p _ _ (qA.aen (Q_ Y) hb S) ⟨d.os,d.tape,d.output,d.size,λk J _=>d.block k J S⟩
end
inductive zX(g:St->List St)(r:St):St->Prop
 |refl:zX g r r
 |step {s t:St}:zX g r s->t∈g s->zX g r t
def zY(D:List St):St->Option V_:=λs=>if s∈D then some (.bool true) else none
def Lu(D:List St)(s:St):upd (zY D) s (some (.bool true))=zY (D++[s]):=by funext x;unfold upd zY;by_cases h:x=s;(.rw[P_ h,P_ (by simp[h])]);.rw[C_ h];by_cases a:x∈D;(.rw[P_ a,P_ (by simp[a])]);.rw[C_ a,C_ (by simp[a,h])]
def X3{n:Nat}{D:List St}(h:h_ w KT b n (zY D))(d:l_ s<=m_){c:Bool}(H:decide (s∈D)=c):(Instr.lookup 169 (.map (some b)) (.string ⟨s.toArray⟩) false).run prog w=.ok (.bool c) w:=by have:=h.look (K:=KT) underlying169 (zeroValue4 w) (x:=s) d;unfold zY at this;by_cases a:s∈D;(.rw[P_ a]at this;rw[<-H,y7 a];exact this);.rw[C_ a]at this;rw[<-H,sj a];exact this
structure BF(g:St->List St)(r:St)(U:List St)(D:List St)(p:Nat)(T:List St):Prop where
 nodup:D.Nodup
 sub:∀s∈D,s∈U
 root:r∈D
 reach:∀s∈D,zX g r s
 done:∀i x,i<p->D[i]?=some x->∀s∈g x,s∈D
 now:∀s∈T,s∈D
section
variable{g:St->List St}{r:St}{U D T:List St}{p:Nat}
def BF.begin(a:r∈U):BF g r U [r] 0 []:=⟨S,λs h=>by rw[gW.1 h];exact a,S,λs h=>by rw[gW.1 h];exact .refl,λ_ _ h=>absurd h (eh_ _),λ_ h=>(by cases h)⟩
def BF.skip(h:BF g r U D p T)(b:s∈D):BF g r U D p (T++[s]):=
 ⟨h.nodup,h.sub,h.root,h.reach,h.done,λx a=>by
  rcases iq.1 a with a|a;.exact h.now x a
  .rw[gW.1 a];exact b⟩
def BF.new(h:BF g r U D p T)(d:D[p]?=some x)(f:s∈g x)(j:s∉D)(k:s∈U):BF g r U (D++[s]) p (T++[s]):=by refine⟨WC.2 ⟨h.nodup,S,λa l b hb e=>j (by rw[gW.1 hb]at e;rw[<-e];exact l)⟩,λy c=>?_,by simp[h.root],λy c=>?_,λi y hi c z m=>?_,λy c=>?_⟩;(.rcases iq.1 c with c|c;(.exact h.sub y c);.rw[gW.1 c];exact k);(.rcases iq.1 c with c|c;(.exact h.reach y c);.rw[gW.1 c];exact(h.reach x (gV d)).step f);(.rw[cz_ (by have:=(jv.1 d).1;omega)]at c;exact Jf _ (h.done i y hi c z m));.rcases iq.1 c with c|c;(.exact Jf _ (h.now y c));.simp[gW.1 c]
def BF.next(h:BF g r U D p T)(c:D[p]?=some x)(d:∀s∈g x,s∈T):BF g r U D (p+1) []:=
 ⟨h.nodup,h.sub,h.root,h.reach,λi y hi a s b=>by
  by_cases e:i=p;.subst e;obtain rfl:x=y:=Ch (c.symm.trans a);exact h.now s (d s b)
  .exact h.done i y U_ a s b,λ_ h=>(by cases h)⟩
def BF.all(h:BF g r U D (l_ D) [])(s:St):s∈D↔zX g r s:=by
 constructor;.exact h.reach s
 .intro a
  induction a with
  |refl=>exact h.root
  | @step s t _ b c=>
    obtain⟨i,hi⟩:=WE c;exact h.done i s (jv.1 hi).1 hi t b
def Lv:∀{a b:List St},a.Nodup->(∀x∈a,x∈b)->l_ a<=l_ b
 |[],_,_,_=>gZ _
 |x::a,b,ha,h=>by
  have d:=dp_.1 ha;(have f:∀y∈a,y∈b.erase x:=λy c=>(he_ (λe=>d.1 (by rw[<-e];exact c))).2 (h y (by simp[c])));have i:=Lv d.2 f;have j:=hf_ (h x S);have k:0<l_ b:=hg_ (h x S);simp only[p8];omega
def BF.len(h:BF g r U D p T):l_ D<=l_ U:=Lv h.nodup h.sub
end
def ko(w:W_){k:T_}{c:Type}[DecidableEq c]{r:List Oper}{Q:Exit->Act->W_->Prop}(h:o.guard=none)(m x v:Operand)(t:T_)(C:o.op=Op.insert t m x v)(e:T_)(K:KK P k c)(i:P.underlying t=some (.map k e))(b n:Nat)(f:c->Option V_)(j:a.eval m=.map (some b))(F:h_ w K b n f)(l:n<m_)(y:c)(q:K.ok y)(u:V_)(s:a.eval x=K.kv y)(g:a.eval v=u)(A:∀w',h_ w' K b (n+1) (upd f y (some u))->w.grownBy w' (some b)->wpList P d Q r (a.put o.dst undef) w'):wpList P d Q (o::r) a w:=by(refine gt_ h λI E=>?_);obtain⟨w',H,R,B⟩:=F.put i l q u;unfold Oper.wp;simp[execOp,C,j,s,g,H];exact E _ _ (A w' R B)
def Qw(w:W_)(g:St->List St)(r:St)(U:List St)(e:Ending)(w':W_):Prop:=∃D,e=.returned (.map (some w))/\h_ w' KT w (l_ D) (zY D)/\(∀s,s∈D↔zX g r s)/\l_ D<=l_ U/\(∀s∈D,s∈U)/\G w w'
def Qx(g:St->List St)(r:St)(U:List St)(w:W_)(J n:Nat)(vf:St->Option V_)(aq:h_ w KT J n vf)(ar:∀s,jQ w ((vf s).getD ()) (g s))(T:r∈U)(au:∀x∈U,∀s∈g x,s∈U)(hl:∀x∈U,l_ x<=m_)(bu:l_ U<=1000000000):z 192 #[d_ r,.map (some J)] w (Qw w g r U):=by
 unfold d_;have bB:= @run_makeMap prog;have aU:=O aq;have aV:=O ar;have aW:=O au;have aA:=O hl;have a4:l_ r<=m_:=hl r T;have a5:=O (BF.begin (g:=g) T);obtain⟨is,a6,bl,bm,bn⟩:=qw mh;have aB:Hid (h_ (w.alloc (.map #[] 0)) KT w 0 (zY [])):=O ((h_.made w KT).congr λx _=>by simp[zY]);clear aq ar au hl T;go_in;go_wp2_with (refine ko _ rfl _ _ _ 169 rfl 4 KT underlying169 w 0 _ rfl aB.o ?c1 r a4 (.bool true) rfl rfl ?_);(case c1=>simp[m_]);intro b af ag;rw[Lu]at af;have aC:G w b:=bA.grown ag S (λk e=>by injection e with e;omega);(have bo:w.heap.size+1<=b.heap.size:=by have:=ag.size;simp at this;omega);have a7:Hid (qA (L_ b 9 #[r]) (w.heap.size+1) (.slice b 1 1) [.string ⟨r.toArray⟩]):=O (qA.lit b _ bo);have aT:Hid (h_ (L_ b 9 #[r]) KT w 1 (zY [r])/\G w (L_ b 9 #[r])):=O ⟨af.alloc _,X_ aC _⟩;clear af ag aC aB;go_wp2;go_loopg [6] (l_ U) (λaX B wr=>∃(p:Nat)(D:List St)(aD:V_),aD=B/\p<=l_ D/\p+aX=l_ U/\w.heap.size+1<=wr.heap.size/\Hid (BF g r U D p [])/\Hid (h_ wr KT w (l_ D) (zY D))/\Hid (qA wr (w.heap.size+1) aD ((D.drop p).map d_)/\(p=l_ D->True))/\Hid (G w wr));exact⟨0,[r],_,rfl,gZ _,U_,by simp;omega,a5,O aT.o.1,O ⟨a7.o,λ_=>trivial⟩,O aT.o.2⟩;obtain⟨p,D,B,a8,bv,bC,a9,h,aE,C,V⟩:=hrel;subst a8;have a':=h.o.len;by_cases ah:p<l_ D
 .obtain⟨x,E⟩:=g_ ah
  (have aF:D.drop p=x::D.drop (p+1):=by rw[Jd ah,(jv.1 E).2]);have Y:=C.o.1;rw[aF,Zc]at Y;obtain⟨F,o,cap,i,ba,bG,f⟩:=Y.pop;obtain⟨m,ae⟩:∃m,m=l_ ((D.drop (p+1)).map d_):=⟨_,rfl⟩;rw[<-ae]at i f;subst i;have aG:l_ x<=m_:=aA.o x (h.o.sub x (gV E));have I:=(aU.o.up V.o).look (K:=KT) underlying223 (zeroValue28 wr) (x:=x) aG;have ai:=aV.o x;obtain⟨Ax,aY,aH,_,_,q⟩:=S1.form ai;(have bp:(Instr.lookup 223 (.map (some J)) (.string ⟨x.toArray⟩) false).run prog wr=.ok (.slice Ax (l_ (g x)) aY) wr:=by rw[<-aH];exact I);(have bD:m<=1000000000:=by rw[ae];simp;omega);rcases Classical.em (cap=1) with aj|aj;(case' inl=>subst aj;replace f:qA wr (w.heap.size+1) (.slice (some ⟨F,o,none⟩) m 0) ((D.drop (p+1)).map d_):=f);case' inr=>rw[C_ aj]at f
  all_goals
   have aZ:=O E
   have bb:=O q
   have bc:=O f
   have bd:Hid (l_ (g x)<=9223372036854775807):=O (by have:=S1.jH ai;simpa[m_]using this)
   have q1:(0:Int)<(m:Int)+1:=U_
   have q2:(1:Int)<=(m:Int)+1:=U_
   have bE:=bd.o
   clear E aF Y f ae I ai aH q C aG
   go_wp2_with fail
   clear ba bp
   obtain⟨av,be⟩:∃av,av=wr:=⟨_,rfl⟩
   subst be
   go_loopw [6,27] (λB a0 wr=>∃(j:Nat)(a:List St)(t:V_),t=B/\j<=l_ (g x)/\a0=.int .i64 (j:Int)/\p<l_ a/\w.heap.size+1<=wr.heap.size/\Hid (BF g r U a p ((g x).take j))/\Hid (a[p]?=some x)/\Hid (h_ wr KT w (l_ a) (zY a))/\ Hid (qA wr (w.heap.size+1) t ((a.drop (p+1)).map d_))/\Hid (G w wr)) (λ_ j _=>l_ (g x)-(intOf j).toNat)
   exact⟨0,D,_,rfl,gZ _,rfl,ah,a9,O h.o,aZ,aE,bc,V⟩
   obtain⟨j,a,t,bq,bw,rfl,aI,ao,u,v,L,P,W⟩:=hrel
   subst bq
   have bH:=u.o.len
   by_cases br:j<l_ (g x)
   .obtain⟨s,d⟩:∃s,(g x)[j]?=some s:=⟨_,r9 br⟩
    obtain⟨aw,ax,rfl,bf,q⟩:=bb.o U_;have a1:N wr aw (ax+j) s:=(W.o.cell (p:=⟨aw,ax+j,none⟩) bf).trans (q j s d);have ak:s∈g x:=gV d;have al:s∈U:=aW.o x (u.o.sub x (gV v.o)) s ak;have aJ:l_ s<=m_:=aA.o s al;(have aK:(g x).take (j+1)=(g x).take j++[s]:=by obtain⟨a2,a3⟩:=jv.1 d;rw[Fh a2,a3]);have bx:(0:Int)<=(j:Int):=U_;have bz:(j:Int)<(l_ (g x):Int):=U_;have aL:=O aK;have aM:=O (And.intro ak al);obtain⟨c,hc⟩:=e_ (decide (s∈a));have I:=X3 L.o aJ hc;have ay:=O hc;clear d q ak al aK hc;cases c
    .have y:¬s∈a:=Q ay.o
     have A:Hid (BF g r U (a++[s]) p ((g x).take (j+1))):=O (by rw[aL.o];exact u.o.new v.o aM.o.1 y aM.o.2);clear y;go_wp2_with (at_mapUpdate;refine iI _ rfl _ _ _ 169 rfl 4 KT underlying169 w (l_ a) _ rfl L.o ?c1 s aJ (.bool true) rfl rfl ?_);(case c1=>simp only[m_];omega);intro l am X;rw[Lu]at am;obtain⟨go,ap,bI,bJ⟩:=P.o.lt;have aN:Hid (qA l (w.heap.size+1) t ((a.drop (p+1)).map d_)):=O (P.o.kept X (by rw[ap];intro e;injection e with e;omega));have aO:Hid (h_ l KT w (l_ (a++[s])) (zY (a++[s]))):=O (by rw[ny];exact am);have aP:G w l:=W.o.grown X U_ (λk e=>by injection e with e;omega);have aQ:=O aP;have bs:w.heap.size+1<=l.heap.size:=gY ao X.size;have aR:=O ap;clear am X aP I a1 ap;go_wp2_with (at_builtin;refine E8 rfl _ _ 28 rfl is (.string ⟨#[]⟩) underlying28 a6 bl bm bn rfl rfl (aN.o.up bA) ?q1 l 1 (.string ⟨s.toArray⟩) rfl ?q2 rfl ?q3 ?_);(case q1=>simp;omega);(case q2=>first|rfl|exact ji _ _ _ _);(case q3=>simp;omega);intro v' H an Z;have aS:some w.heap.size≠t.ownBlock:=by rw[aR.o];intro e;injection e with e;omega
     have bg:Hid (qA H (w.heap.size+1) v' (((a++[s]).drop (p+1)).map d_)):=O (by
      rw[List.drop_append_of_le_length U_,wO];first|exact an|(rw[List.map_drop];exact an))
     have bh:Hid (h_ H KT w (l_ (a++[s])) (zY (a++[s]))):=O ((aO.o.alloc _).kept Z aS);have bi:Hid (G w H):=O ((X_ aQ.o _).grown Z (by simp;omega) (λk e=>by rw[aR.o]at e;injection e with e;omega));have bt:w.heap.size+1<=H.heap.size:=gY bs (by have:=Z.size;simp at this;omega);have bj:Hid ((a++[s])[p]?=some x):=O (by rw[cz_ aI];exact v.o);clear an Z aS aN aO aQ;go_wp2;go_roundw;exact⟨j+1,a++[s],_,rfl,U_,R,by simp;omega,bt,A,bj,bh,bg,bi⟩;exact M
    .have y:s∈a:=Q ay.o;have A:Hid (BF g r U a p ((g x).take (j+1))):=O (by rw[aL.o];exact u.o.skip y);clear y;go_wp2;go_roundw;exact⟨j+1,a,_,rfl,U_,R,aI,ao,A,v,L,P,W⟩;exact M
   ·(obtain rfl:j=l_ (g x):=by omega);have A:Hid (BF g r U a (p+1) []):=O (u.o.next v.o λs d=>by rw[jy];exact d);obtain⟨bk,rfl⟩:∃F,gk=F+1:=⟨gk-1,U_⟩;go_wp2;go_roundg bk;(case measure=>omega);case rel=>exact⟨p+1,a,_,rfl,U_,U_,ao,A,L,O ⟨P.o,λ_=>trivial⟩,W⟩
 ·(obtain rfl:p=l_ D:=by omega);obtain⟨F,o,cap,bF,i,_⟩:=C.o.1;have az:l_ ((D.drop (l_ D)).map d_)=0:=S;rw[az]at i;subst i;clear az C;go_wp2;go_ret;exact⟨D,rfl,aE.o,h.o.all,a',h.o.sub,V.o⟩
noncomputable def KN:KK prog 3 Int:=adz underlying3
def Y4(n:Int)(h:(Lit.int .i64 n).wf=true):(KN).ok n:=h
def En(w:W_){c:Array Oper}{r:List Oper}{Q:Exit->Act->W_->Prop}(d:o.guard=none)(m x v:Operand)(t:T_)(p:o.op=Op.insert t m x v)(e:T_)(g:prog.underlying t=some (.map 3 e))(b n:Nat)(f:Int->Option V_)(h:a.eval m=.map (some b))(q:h_ w KN b n f)(i:n<m_)(y:Int)(j:a.eval x=.int .i64 y)(u:V_)(H:a.eval v=u)(k:(Lit.int .i64 y).wf=true)(l:∀w',h_ w' KN b (n+1) (upd f y (some u))->w.grownBy w' (some b)->wpList prog c Q r (a.put o.dst undef) w'):wpList prog c Q (o::r) a w:=ko w d m x v t p e KN g b n f h q i y (Y4 y k) u j H l
def prF:Int->Option V_:=λk=>if k=7 then some (.func (.func 332) #[] #[]) else if k=6 then some (.func (.func 331) #[] #[]) else if k=5 then some (.func (.func 330) #[] #[]) else if k=4 then some (.func (.func 329) #[] #[]) else if k=3 then some (.func (.func 328) #[] #[]) else if k=2 then some (.func (.func 327) #[] #[]) else if k=1 then some (.func (.func 326) #[] #[]) else none
def aeo(w:W_)(e:Ending)(w':W_):Prop:=∃p P,e=.returned (.agg #[.map (some p),.map (some P)])/\h_ w' KN p 7 prF/\G w w'
def af9{a b:V_}(h:f_ w g 366 #[a,b]):(loadVar 366 g).run prog w=.ok (.agg #[a,b]) w:=by have c:=h.cell 0;have d:=h.cell 1;simp[go_sem,c,d]
def G8(w:W_):z 309 #[] w (aeo w):=by have A:= @run_makeMap prog;have⟨b,h⟩:=e_ (w.alloc (.cells #[.map none,.map none] 366));have p:G w b:=(by rw[<-h];exact bA);have q:f_ b w 366 #[.map none,.map none]:=(by rw[<-h];exact f_.new _ _ _);(have m:b.heap.size=w.heap.size+1:=by rw[<-h];simp);have l:Hid (h_ (b.alloc (.map #[] 0)) KN (w+1) 0 (λ_=>none)):=O (by rw[<-m];exact h_.made b KN);have i:Hid (Below (w+1) b (b.alloc (.map #[] 0))):=O (by rw[<-m];exact bA);go_in;(iterate 7 go_wp2_with (first|rw[h]|refine En _ rfl _ _ _ 363 rfl _ underlying363 (w+1) _ _ rfl l.o ?ca _ rfl _ rfl D ?_);(try (case ca=>simp[m_]));intro a f g;replace l:=O f;replace i:=O (i.o.grown g (by have:=i.o.size;omega) (λj e=>by injection e with e;omega)));have n:h_ a KN (w+1) 7 prF:=(l.o.congr λx _=>by unfold upd prF;rfl);(have B:w.heap.size+1+1<=a.heap.size:=by have:=n.lt;omega);have o:=O (h_.made a KN);have d:Hid (G a (a.alloc (.map #[] 0))):=O bA;(iterate 9 go_wp2_with (first|rw[h]|refine En _ rfl _ _ _ 364 rfl _ underlying364 a _ _ rfl o.o ?cb _ rfl _ rfl D ?_);(try (case cb=>simp[m_]));intro c f g;replace o:=O f;replace d:=O (d.o.grown g (by have:=d.o.size;omega) (λj e=>by injection e with e;omega)));have r:=(n.up d.o);have s:=(p.trans (i.o.mono U));have t:=(b_ s d.o);have k:=bk d.o ((i.o.block w U).trans q);have u:=k.frozen 0;have v:=k.frozen 1;have y:=k.cell 0;have C:=k.cell 1;go_wp2;have hb:f_ ((c.setCell w (.map (some (w+1)))).setCell (a_ w 1) (.map (some a))) w 366 #[.map (some (w+1)),.map (some a)]:=(k.iK 0 _).iK 1 _;refine rY (gM rfl _ _ rfl (af9 hb)) rfl ⟨_,_,rfl,?_,Kk (Kk t (gH _) _) (gH _) _⟩;exact(r.setCell (by simp only;omega) _).setCell (by simp only;omega) _
def G9(c:St):∀l:List St,Lib.join l c=jM c l
 |[]=>rfl
 |[a]=>by rw[Lib.join_one];rfl
 |a::b::l=>by
  have:=G9 c (b::l);rw[Lib.join_cons]at this ⊢;rw[jM,<-this];simp[Lib.joinTail]
def qR(c:St):∀l:List St,l_ (jM c l)<=(l.map λs=>l_ s+l_ c).sum
 |[]=>by simp[jM]
 |[a]=>by simp[jM]
 |a::b::l=>by
  have:=qR c (b::l);simp only[jM,ny,Zc,hw_]at this ⊢;omega
def He(p:List St)(a:St)(v:V_)(w:W_)(h:jQ w v p)(hl:l_ (jM a p)<=140737488355328)(m:l_ p<=1000000):Y 287 #[v,d_ a] w (d_ (jM a p)):=by obtain⟨A,c,rfl,H,n,i⟩:=S1.form h;by_cases d:p=[];(.subst d;refine(Tryz.strings_Join_none A c _ w).mono ?_;rintro e w' ⟨rfl,rfl⟩;exact⟨rfl,fu _ _⟩);.obtain⟨b,o,rfl,hb,l⟩:=i (ei_.2 d);(have f:((p.map λs=>(⟨s.toArray⟩:ByteArray)).map (·.data.toList))=p:=by(rw[Vr];conv=>rhs;rw[<-List.map_id p]);exact List.map_congr_left λs _=>S);have:=Tryz.strings_Join b o c (p.map λs=>⟨s.toArray⟩) ⟨a.toArray⟩ w (λj x g=>?_) hb (by simp;omega) (Q H) (by rw[f,G9];exact hl);(.rw[f,G9,qm]at this;exact this);.rw[J8]at g;obtain⟨s,k,rfl⟩:=Sb.1 g;exact l j s k
def Bt:∀l:List Cn,Sn l=l.map w_
 |[]=>by unfold Sn;rfl
 |c::l=>by unfold Sn;rw[Bt l];rfl
def Hf(c:Cn):Prop:=∀d∈c.pre,fU d=0
def Hf.part{p:Cn}(h:Hf c)(a:p∈c.J):Hf p:=λd H=>h d (Zt a H)
def Hf.own(h:Hf c):fU c=0:=h c (by rw[pre_eq];simp)
def Eo:∀{l:List Cn},j4 l=0->∀d∈l,fU d=0
 |y::l,h,d,hd=>by
  unfold j4 at h;by_cases a:fU y=0;(.rw[C_ (Q a)]at h;rcases jL.1 hd with rfl|hd;(.exact a);.exact Eo h d hd);.rw[P_ a]at h;exact absurd h a
def kM(h:u_ c=0):Hf c:=by unfold u_ at h;split at h;(.exact Eo h);.cases h
def yM(h:fK s=true):l_ s<=24:=by unfold fK at h;split at h;(.cases h);.omega
def iB(h:fU c=0):1<=c.K/\c.K<=7/\(c.K=6->l_ c.J=1)/\(c.K=5->2<=l_ c.J/\l_ c.J<=8)/\l_ c.N<=24/\(c.K≠5->c.K≠6->l_ c.J=0)/\-maxNum<=c.lo/\c.lo<=maxNum/\-maxNum<=c.hi/\c.hi<=maxNum:=by unfold fU at h;split at h;(.cases h);rename_i m;split at h;(.cases h);rename_i f;split at h;(.cases h);rename_i g;(have l:l_ c.N<=24:=by split at h;(.rename_i a;rcases a with a|a|a;(.by_cases j:c.N=[];(.rw[j];simp);.exact absurd (.inr (.inr ⟨a,j⟩)) f);(.exact yM a);.have:=a.2;unfold iP at this;split at this;(.simp at this;omega);.cases this);.cases h);(have k:¬l_ c.J<kU c.K:=λh=>f (.inl h));(have e:¬nI c.K<l_ c.J:=λh=>f (.inr (.inl h)));refine⟨U,U,λb=>?_,λd=>?_,l,λd b=>?_,?_⟩;(.rw[b,show kU 6=1 from rfl]at k;rw[b,show nI 6=1 from rfl]at e;omega);(.rw[d,show kU 5=2 from rfl]at k;rw[d,show nI 5=8 from rfl]at e;omega);(.unfold nI at e;rw[C_ d,C_ b]at e;omega);.unfold maxNum at g ⊢;by_cases i:c.K=7;(.have:=g;simp only[i]at this;omega);.have:=g;simp[i]at this;omega
def NG(c:Cn):Prop:=∀w(p P:Nat)v,Tab w->h_ w KN p 7 prF->CV w v c-> Y 310 #[.agg #[.map (some p),.map (some P)],v] w (d_ (iX c))
def acJ(c:Cn):Prop:=∀w(p P:Nat)v,Tab w->h_ w KN p 7 prF->CV w v c-> Y 348 #[.agg #[.map (some p),.map (some P)],v] w (d_ (w_ c))
def jO(a b:St):(⟨a.toArray⟩:ByteArray)++⟨b.toArray⟩=⟨(a++b).toArray⟩:=by(have:∀x y:ByteArray,x++y=⟨x.data++y.data⟩:=λx y=>by ext1;simp);rw[this];simp
def Us(c:Cn)(d:NG c)(hl:l_ (iX c)<=1000000):acJ c:=λw f g v o h r=>by obtain⟨A,cap,rfl,_,_,_⟩:=r.form;(have b:=O λW i=>d W f g _ (o.up i) (h.up i) (r.up i));unfold d_ at b;have H:G w ((w.alloc (.cells #[.map (some f),.map (some g)] 366)).alloc (.cells #[c.K,c.N,c.lo,c.hi,.slice A (l_ c.J) cap] 27)):=X_ bA _;have l:=(b.o _ H);by_cases a:c.K=5;(.have j:w_ c=40::iX c++[41]:=(by unfold w_;rw[P_ a]);have m:(c.K==5)=true:=Q a;have p:¬9223372036854775807<1+l_ (iX c):=U;have q:¬9223372036854775807<1+l_ (iX c)+1:=U;clear a h r d b;unfold d_;go_in;go_wp2_with fail;refine l.mono ?_;rintro e n ⟨rfl,k⟩;go_wp2;go_ret;refine⟨?_,b_ H k⟩;rw[j];rw[jO,jO];rfl);.have j:w_ c=iX c:=(by unfold w_;rw[C_ a]);have m:(c.K==5)=false:=Q a;unfold d_;go_in;go_wp2_with fail;refine l.mono ?_;rintro e n ⟨rfl,k⟩;go_wp2;go_ret;exact⟨by rw[j];rfl,b_ H k⟩
abbrev Y5(k:Int)(n:St)(l h:Int)(A:Option Addr)(m cap:Nat):Array V_:= #[k,d_ n,l,h,.slice A m cap]
abbrev ppV(P p:Nat):V_:= .agg #[.map (some P),.map (some p)]
def Lx(s:List St)(v:V_)(w:W_)(h:jQ w v s)(hl:l_ (jM [32] s)<=1000000000)(a:l_ s<=1000000):Y 349 #[v] w (d_ (jM [32] s)):=by have b:=O (He s [32] v w h U a);obtain⟨A,c,rfl,_⟩:=S1.form h;go_in;go_wp2_with fail;refine b.o.mono ?_;rintro e d ⟨rfl,H⟩;go_wp2;go_ret;exact⟨rfl,H⟩
def acK(a b:Nat)(k:Int)(n:St)(l h:Int)(A:J_)(m cap:Nat)(w:W_):Y 326 #[ppV a b,.agg (Y5 k n l h A m cap)] w (d_ [101,118,101,114,121,116,104,105,110,103]):=by unfold d_;go_in;go_wp2;go_ret;exact⟨rfl,X_ bA _⟩
def Ut(a b:Nat)(k:Int)(n:St)(l h:Int)(A:J_)(m cap:Nat)(w:W_):Y 327 #[ppV a b,.agg (Y5 k n l h A m cap)] w (d_ [110,111,116,104,105,110,103]):=by unfold d_;go_in;go_wp2;go_ret;exact⟨rfl,X_ bA _⟩
def X4(a b:Nat)(k:Int)(n:St)(l h:Int)(A:J_)(m cap:Nat)(w:W_):Y 328 #[ppV a b,.agg (Y5 k n l h A m cap)] w (d_ n):=by unfold Y5 d_;go_in;go_wp2;go_ret;exact⟨rfl,X_ bA _⟩
def Qy(a b:Nat)(k:Int)(n:St)(l h:Int)(A:J_)(m cap:Nat)(w:W_)(c:l_ n<=1000000):Y 329 #[ppV a b,.agg (Y5 k n l h A m cap)] w (d_ (123::n++[125])):=by unfold Y5 d_;have d:¬9223372036854775807<1+l_ n:=U;have f:¬9223372036854775807<1+l_ n+1:=U;go_in;go_wp2;go_ret;refine⟨?_,X_ bA _⟩;rw[jO,jO];rfl
def acL(c d:Nat)(k:Int)(n:St)(l h:Int)(ps:List Cn)(v:V_)(w:W_)(aa:Tab w)(L:h_ w KN c 7 prF)(hc:CV w v (.mk k n l h ps))(P:∀p∈ps,acJ p)(aR:l_ ps<=1000)(hl:l_ (jM [32,97,110,100,32] (ps.map w_))<=1000000000):Y 330 #[ppV c d,v] w (d_ (jM [32,97,110,100,32] (ps.map w_))):=by
 obtain⟨A,cap,rfl,_,_,T⟩:=hc.form;have aF:=O aa;have ao:=O L;have ap:=O P;have aq:=O T;have ar:=O hl;obtain⟨is,aG,aL,aM,aN⟩:=qw mh;obtain⟨a,s⟩:=e_ ((w.alloc (.cells #[.map (some c),.map (some d)] 366)).alloc (.cells (Y5 k n l h A (l_ ps) cap) 27));(have ab:G w a:=by rw[<-s];exact X_ bA _);(have ac:f_ a w 366 #[.map (some c),.map (some d)]:=by rw[<-s];exact(f_.new _ _ _).alloc _);(have ad:f_ a (w+1) 27 (Y5 k n l h A (l_ ps) cap):=by rw[<-s];exact f_.newAt _ _ _ S);have Q:=O ab;have y:=O ac;have au:=ad.cell 4;simp only[Cn.J,Cn.K,Cn.N,Cn.lo,Cn.hi]at *;unfold ppV;go_in;go_wp2_with (rw[s]);go_loopw [5,11] (λav i wr=>∃(j:Nat)(J:List St),j<=l_ ps/\i=.int .i64 (j:Int)/\(a:Nat)<=wr/\Hid (J=(ps.take j).map w_)/\Hid (wr.ownsRow a 9 1 av (l_ J) (J.map d_))/\Hid (G a wr)) (λ_ i _=>l_ ps-(intOf i).toNat);exact⟨0,[],gZ _,rfl,gH _,O S,O (Ce _ _ _ _),O (fu _ _)⟩;obtain⟨j,J,aS,rfl,aU,B,t,f⟩:=hrel;obtain⟨X,Z,rfl⟩:=n_ t.o;(have aV:l_ J<=1000:=by rw[B.o];simp;omega);by_cases aH:j<l_ ps
 .obtain⟨b,o,rfl,hb,am⟩:=aq.o U
  obtain⟨p,q⟩:=g_ aH;obtain⟨aT,V,C⟩:=am j p q;obtain⟨x,kp,rfl⟩:=C.cells;have E:=b_ Q.o f.o;(have z:∀(i:Nat) u,[Value.int .i64 p.K,d_ p.N,.int .i64 p.lo,.int .i64 p.hi,.slice x (l_ p.J) kp][i]?=some u->N wr b (o+j*5+i) u:=λi u r=>by have:=V i u r;rw[OI 5 j]at this;exact(E.cell hb).trans this);have k0:N wr b (o+j*5) p.K:=z 0 _ rfl;have aw:=z 1 _ rfl;have ax:=z 2 _ rfl;have k3:=z 3 _ rfl;have k4:=z 4 _ rfl;have q1:0<=j:=U;have q2:j<l_ ps:=U;have ay:=(bk f.o y.o).cell 0;have az:=(bk f.o y.o).cell 1;have z0:=(bk f.o y.o).lt;have ag:Hid (∀W,G wr W->Y 348 #[.agg #[.map (some c),.map (some d)],.agg #[p.K,p.N,p.lo,p.hi,.slice x (l_ p.J) kp]] W (d_ (w_ p))):=O λW aA=>by have F:=b_ E aA;exact ap.o p (gV q) W c d _ (aF.o.up F) (ao.o.up F) ((C.up F).cv)
  have aI:Hid ((ps.take (j+1)).map w_=(ps.take j).map w_++[w_ p]):=O (by
   obtain⟨aB,aC⟩:=jv.1 q
   rw[Fh aB,aC,wO];rfl)
  clear am V C q E z;go_wp2_with fail;refine(ag.o _ bA).mono ?_;rintro e m ⟨rfl,ah⟩;have I:G wr m:=b_ bA ah;have ai:=O (gJ t.o I);have aj:=O (b_ f.o I);have aW:=aj.o.size;go_wp2_with (at_builtin;refine wpList_append_own_at _ rfl _ _ 28 rfl a 9 is (x_) 1 16 underlying28 aG aL aM aN rfl D (.slice X (l_ J) Z) (l_ J) (J.map d_) rfl (gJ ai.o bA) (a_ m 0) 1 1 [d_ (w_ p)] rfl rfl ?c1 ?c2 ?c3 ?c4 ?c5 ?_);(try (case c1=>exact y9 _ _ rfl _ _));(case c2=>first|rfl|(intro u r;simp at r;subst r;rfl));(case c3=>simp only[m_];omega);(case c4=>omega);(case c5=>first|omega|(simp;omega));intro v' ak al an _ _;have K:G a ak:=(X_ aj.o _).grown an (by simp;omega) (λg aD=>(ai.o.lt g aD).1);have aO:Hid (ak.ownsRow a 9 1 v' (l_ (J++[w_ p])) ((J++[w_ p]).map d_)):=O (by rw[ny,wO];exact al);have aP:=O K;have aQ:=K.size;clear al an K;go_wp2;go_roundw;exact⟨j+1,J++[w_ p],U,R,aQ,O (by rw[aI.o,B.o]),aO,aP⟩;exact M
 ·(obtain rfl:j=l_ ps:=by omega);(have H:J=ps.map w_:=by have:=B.o;rwa[jy]at this);have aJ:=O (He J [32,97,110,100,32] _ wr (jg t.o) (by rw[H];have:=ar.o;omega) U);have aE:=O H;clear H;go_wp2_with fail;refine aJ.o.mono ?_;rintro e w5 ⟨rfl,aK⟩;go_wp2;go_ret;exact⟨by rw[<-aE.o];rfl,b_ (b_ Q.o f.o) aK⟩
def Qz(n:Int)(b: -9223372036854775808<=n)(a:n<=9223372036854775807)(w:W_)(c:Tab w):Y 314 #[n] w (Lib.itoa n):=
 (Tryz.strconv_Itoa n b a w c).mono λe w' h=>by obtain⟨a,k,os,rfl⟩:=h;exact⟨a,below_grow w k os⟩
def aaA(c d:Nat)(k:Int)(n:St)(l h:Int)(p:Cn)(v:V_)(w:W_)(F:Tab w)(B:h_ w KN c 7 prF)(V:CV w v (.mk k n l h [p]))(C:acJ p)(ai:l_ n<=1000000)(hl:l_ (w_ p)<=1000000):Y 331 #[ppV c d,v] w (d_ ([115,111,109,101,32]++n++[32]++w_ p)):=by
 obtain⟨A,cap,rfl,_,_,E⟩:=V.form;obtain⟨b,o,O,hb,P⟩:=E (by show 0<1;omega);obtain⟨aj,H,m⟩:=P 0 p rfl;obtain⟨g,J,rfl⟩:=m.cells;simp only[Cn.J,Cn.K,Cn.N,Cn.lo,Cn.hi]at *;subst O;obtain⟨a,f⟩:=e_ ((w.alloc (.cells #[.map (some c),.map (some d)] 366)).alloc (.cells #[k,d_ n,l,h,.slice (a_ b o) 1 cap] 27));(have q:G w a:=by rw[<-f];exact X_ bA _);(have r:f_ a w 366 #[.map (some c),.map (some d)]:=by rw[<-f];exact(f_.new _ _ _).alloc _);(have t:f_ a (w+1) 27 #[k,d_ n,l,h,.slice (a_ b o) 1 cap]:=by rw[<-f];exact f_.newAt _ _ _ S);(have D:∀(i:Nat) u,[Value.int .i64 p.K,d_ p.N,.int .i64 p.lo,.int .i64 p.hi,.slice g (l_ p.J) J][i]?=some u->N a b (o+i) u:=λi u T=>by have:=H i u T;rw[Nat.mul_zero,ej_]at this;exact(q.cell hb).trans this);have k0:∀s:Later a,N s.at b o p.K:=fq (D 0 _ rfl);have W:=fq (D 1 _ rfl);have X:=fq (D 2 _ rfl);have k3:=fq (D 3 _ rfl);have k4:=fq (D 4 _ rfl);have Z:=K_ r 0 rfl;have aa:=K_ r 1 rfl;have ab:=K_ t 1 rfl;have ac:=K_ t 4 rfl
 have x:∀s:Later a,z 348 #[.agg #[.map (some c),.map (some d)],.agg #[p.K,p.N,p.lo,p.hi,.slice g (l_ p.J) J]] s.at λe Q=>e=.returned (w_ p)/\∃M:Later a,Q=M.at:=λs=>oH (by
  have y:=b_ q s.below
  exact C s.at c d _ (F.up y) (B.up y) ((m.up y).cv))
 unfold d_ at f;unfold ppV;go_in;go_wp2_with (rw[f]);refine kK 8 k_ k_ ?_;(repeat (first|go_big_quiet_step (exact x _)|quiet_step (exact x _)));refine wpQuiet_nil ?_;rintro _ ⟨s,rfl⟩;have R:=(b_ q s.below);generalize s.at=j at *;(have I:l_ (jM [32] [[115,111,109,101],n,w_ p])<=1000000000:=by have:=qR [32] [[115,111,109,101],n,w_ p];simp at this;omega);have K:=(Lx [[115,111,109,101],n,w_ p] (.slice j 3 3) (L_ j 9 #[.string ⟨#[115,111,109,101]⟩,n,(w_ p)]) (S1.lit j _ rfl 9 _ d_ _ 3 rfl rfl (by simp[m_])) I S);go_wp2_with fail;refine K.mono ?_;rintro e ak ⟨rfl,L⟩;have U:=(b_ (X_ R _) L);go_wp2;go_ret;refine⟨?_,U⟩;simp[jM]
def X5(y B:Nat)(k:Int)(n:St)(l h:Int)(A:J_)(m cap:Nat)(w:W_)(q:Tab w)(D:l_ n<=1000000)(r: -9223372036854775808<=l)(hl1:l<=9223372036854775807)(t: -9223372036854775808<=h)(u:h<=9223372036854775807):Y 332 #[ppV y B,.agg (Y5 k n l h A m cap)] w (d_ (n++[32,105,110,32]++Lib.itoa l++[32,116,111,32]++Lib.itoa h)):=by obtain⟨a,b⟩:=e_ ((w.alloc (.cells #[.map (some y),.map (some B)] 366)).alloc (.cells (Y5 k n l h A m cap) 27));(have c:G w a:=by rw[<-b];exact X_ bA _);(have d:f_ a (w+1) 27 (Y5 k n l h A m cap):=by rw[<-b];exact f_.newAt _ _ _ S);have I:=K_ d 1 rfl;have K:=K_ d 2 rfl;have L:=K_ d 3 rfl;(have f:Hid (∀s:Later a,z 314 #[l] s.at λe v=>e=.returned (Lib.itoa l)/\∃o:Later a,v=o.at):=O λs=>oH (Qz l r hl1 s.at (q.up (b_ c s.below))));(have g:Hid (∀s:Later a,z 314 #[h] s.at λe v=>e=.returned (Lib.itoa h)/\∃o:Later a,v=o.at):=O λs=>oH (Qz h t u s.at (q.up (b_ c s.below))));have P:=hx_ l r hl1;have T:=hx_ h t u;have W:=O c;(have x:l_ (jM [32] [n,[105,110],Lib.itoa l,[116,111],Lib.itoa h])<=1000000000:=by have:=qR [32] [n,[105,110],Lib.itoa l,[116,111],Lib.itoa h];simp at this;omega);obtain⟨C,i⟩:=e_ (Lib.itoa l);obtain⟨E,j⟩:=e_ (Lib.itoa h);rw[i,j]at x;rw[i]at f;rw[j]at g;rw[i,j];unfold Y5 d_ at b ⊢;unfold ppV;go_in;go_wp2_with (rw[b]);refine kK 8 k_ k_ ?_;(repeat (first|go_big_quiet_step (first|exact f.o _|exact g.o _)|quiet_step (first|with_reducible exact f.o _|exact g.o _)));refine wpQuiet_nil ?_;rintro _ ⟨s,rfl⟩;have X:=(b_ W.o s.below);generalize s.at=p at *;have F:=(Lx [n,[105,110],C,[116,111],E] (.slice p 5 5) (L_ p 9 #[n,.string ⟨#[105,110]⟩,C,.string ⟨#[116,111]⟩,E]) (S1.lit p _ rfl 9 _ d_ _ 5 rfl rfl (by simp[m_])) x S);go_wp2_with fail;refine F.mono ?_;rintro e J ⟨rfl,H⟩;have Z:=(b_ (X_ X _) H);go_wp2;go_ret;refine⟨?_,Z⟩;simp[jM]
def vO(c:Cn)(b:FuncId)(p:prF c.K=some (.func (.func b) #[] #[]))(hw:(Lit.int .i64 c.K).wf=true)(n:∀args w,(callFunc b args).run prog w=.ok (.enter b args) w)(h:∀(w:W_)(a d:Nat)(v:V_),Tab w->h_ w KN a 7 prF->CV w v c->Y b #[ppV a d,v] w (d_ (iX c))):NG c:=λw a d v i f o=>by obtain⟨A,cap,rfl,_,_,_⟩:=o.form;have H:G w (L_ (L_ w 366 #[.map (some a),.map (some d)]) 27 #[c.K,d_ c.N,c.lo,c.hi,.slice A (l_ c.J) cap]):=X_ bA _;have j:=O (h _ a d _ (i.up H) (f.up H) (o.up H));have g:=(f.up H).look (K:=KN) underlying363 (zeroValue389 _) (x:=c.K) (Y4 _ hw);rw[p]at g;have l:(Instr.lookup 363 (.map (some a)) (.int .i64 c.K) false).run prog (L_ (L_ w 366 #[.map (some a),.map (some d)]) 27 #[c.K,d_ c.N,c.lo,c.hi,.slice A (l_ c.J) cap])=.ok (.func (.func b) #[] #[]) _:=g;unfold d_ at j l ⊢;go_in;go_wp2_with (go_at_fn b;refine j.o.mono ?_;rintro e m ⟨rfl,k⟩);go_wp2;go_ret;exact⟨rfl,b_ H k⟩
def NH:∀ps:List Cn,(∀p∈ps,l_ (iX p)+10<=110*p.size)->((ps.map w_).map λs=>l_ s+5).sum<=110*Cn.sizes ps
 |[],_=>S
 |p::l,h=>by
  have b:=h p S;(have c:=NH l λq a=>h q (by simp[a]));(have d:l_ (w_ p)<=l_ (iX p)+2:=by unfold w_;split<;>simp<;>omega);simp only[Zc,hw_,Cn.sizes];omega
def Dr(c:Cn):Hf c->l_ (iX c)+10<=110*c.size:=by
 refine Cn.ind (P:=λc=>Hf c->l_ (iX c)+10<=110*c.size) (λC o d=>?_) c;obtain⟨k,n,l,h,ps⟩:=C;obtain⟨q,r,e,t,u,_,g,hl1,i,j⟩:=iB d.own;(have m:∀p∈ps,l_ (iX p)+10<=110*p.size:=λp f=>o p f (d.part f));simp only[Cn.N,Cn.lo,Cn.hi]at q r e t u g hl1 i j;unfold iX;simp only[Cn.size];unfold maxNum at g hl1 i j;split;.simp;omega
 .split
  .simp;omega
  .split
   .omega
   .split
    .simp;omega
    .split
     .rw[Bt];have a:=qR [32,97,110,100,32] (ps.map w_);have b:=NH ps m;have c:((ps.map w_).map λs=>l_ s+[32,97,110,100,(32:UInt8)].length).sum=((ps.map w_).map λs=>l_ s+5).sum:=rfl;omega
     .split
      .rename_i v
       have w:=e v
       match ps,w with
       |[p],_=>
        have b:=m p S;(have x:l_ (w_ p)<=l_ (iX p)+2:=by unfold w_;split<;>simp<;>omega);rw[Bt];simp only[Zc,List.headD_cons,ny,p8,Mv,Cn.sizes];omega
      .have a:=hx_ l U U;have b:=hx_ h U U;simp;omega
def lu{k:Int}{n:St}{l h:Int}:∀{ps:List Cn}{p:Cn},p∈ps->p.size<=Cn.sizes ps
 |q::r,p,a=>by
  simp only[Cn.sizes];rcases jL.1 a with rfl|a;(.omega);.have:=lu (k:=k) (n:=n) (l:=l) (h:=h) a;omega
def aaB(c:Cn):Hf c->c.size<=5000->NG c:=by
 refine Cn.ind (P:=λc=>Hf c->c.size<=5000->NG c) (λD q j E=>?_) c;obtain⟨k,n,l,h,ps⟩:=D;have G:=iB j.own;obtain⟨F,H,r,t,I,_,u,hl1,x,y⟩:=G;simp only[Cn.K,Cn.J,Cn.N,Cn.lo,Cn.hi]at F H r t I u hl1 x y;unfold maxNum at u hl1 x y;simp only[Cn.size]at E;(have B:∀p∈ps,p.size<=5000:=λp f=>by have:=lu (k:=k) (n:=n) (l:=l) (h:=h) f;omega);(have m:∀p∈ps,l_ (iX p)<=600000:=λp f=>by have:=Dr p (j.part f);have:=B p f;omega);(have o:∀p∈ps,acJ p:=λp f=>Us p (q p f (j.part f) (B p f)) (by have:=m p f;omega));have K:k=1\/k=2\/k=3\/k=4\/k=5\/k=6\/k=7:=U;rcases K with rfl|rfl|rfl|rfl|rfl|rfl|rfl;(·(refine vO _ 326 rfl rfl (enters_of func326 k_ rfl) λw d e v g i z=>?_);obtain⟨A,cap,rfl,_⟩:=z.form;exact acK d e _ n l h A _ cap w);(·(refine vO _ 327 rfl rfl (enters_of func327 k_ rfl) λw d e v g i z=>?_);obtain⟨A,cap,rfl,_⟩:=z.form;exact Ut d e _ n l h A _ cap w);(·(refine vO _ 328 rfl rfl (enters_of func328 k_ rfl) λw d e v g i z=>?_);obtain⟨A,cap,rfl,_⟩:=z.form;exact X4 d e _ n l h A _ cap w);(·(refine vO _ 329 rfl rfl (enters_of func329 k_ rfl) λw d e v g i z=>?_);obtain⟨A,cap,rfl,_⟩:=z.form;exact Qy d e _ n l h A _ cap w U);·(refine vO _ 330 rfl rfl (enters_of func330 k_ rfl) λw d e v g i z=>?_);have C:=t rfl;(have L:l_ (jM [32,97,110,100,32] (ps.map w_))<=1000000000:=by have a:=qR [32,97,110,100,32] (ps.map w_);(have b:=NH ps λp f=>Dr p (j.part f));have c:((ps.map w_).map λs=>l_ s+[32,97,110,100,(32:UInt8)].length).sum=((ps.map w_).map λs=>l_ s+5).sum:=rfl;omega);have:=acL d e 5 n l h ps v w g i z o U L;rw[<-Bt]at this;unfold iX;exact this
 .refine vO _ 331 rfl rfl (enters_of func331 k_ rfl) λw d e v g i z=>?_
  have C:=r rfl
  match ps,C,q,o,m,z with
  |[p],_,_,o,m,z=>
   (have T:l_ (w_ p)<=l_ (iX p)+2:=by unfold w_;split<;>simp<;>omega);have:=aaA d e 6 n l h p v w g i z (o p S) U (by have:=m p S;omega);unfold iX;rw[Bt];exact this
 ·(refine vO _ 332 rfl rfl (enters_of func332 k_ rfl) λw d e v g i z=>?_);obtain⟨A,cap,rfl,_⟩:=z.form;have:=X5 d e 7 n l h A (l_ ps) cap w g U U U U U;unfold iX;exact this
structure Bu(w:W_):Prop where
 n:Needs w
 t:Tab w
def Bu.up(h:Bu w)(hb:G w w'):Bu w':=⟨h.n.up hb,h.t.up hb⟩
def zZ(c:Cn)(v:V_)(w:W_)(n:CV w v c)(b:Je c)(l:Bu w)(i:u_ c=0):Y 286 #[v] w (.tuple #[d_ (iX c),V 0]):=by
 obtain⟨A,cap,rfl,_,_,_⟩:=n.form;have y:=kM i;have K:=(jZ i).2;have g:G w (w.alloc (.cells #[c.K,d_ c.N,c.lo,c.hi,.slice A (l_ c.J) cap] 27)):=bA;have k:=O (pI c _ _ (n.up g) b (l.n.up g));rw[i]at k;(have L:=O λW d j s F=>aaB c y U W d j _ (l.t.up s) F (n.up s));have P:=O G8;unfold d_ at k g;unfold d_;go_in;go_wp2_with fail;refine k.o.mono ?_;rintro e f ⟨rfl,m⟩;have hb:=bk m (f_.new w 27 #[c.K,c.N,c.lo,c.hi,.slice A (l_ c.J) cap]);have T:=O (b_ g m);have b:N f w 0 c.K/\N f w 1 c.N/\N f w 2 c.lo/\N f w 3 c.hi/\N f w 4 (.slice A (l_ c.J) cap):=⟨hb.cell 0,hb.cell 1,hb.cell 2,hb.cell 3,hb.cell 4⟩
 have B:Hid (∀W a:W_,G W a->(N W w 0 c.K/\N W w 1 c.N/\N W w 2 c.lo/\N W w 3 c.hi/\N W w 4 (.slice A (l_ c.J) cap))-> (N a w 0 c.K/\N a w 1 c.N/\N a w 2 c.lo/\N a w 3 c.hi/\N a w 4 (.slice A (l_ c.J) cap))):=O λW a p h=>
  have tr:∀(o:Nat)(u:V_),N W w o u->N a w o u:=λo u x=>(p.cell (zK W _ x)).trans x
  ⟨tr _ _ h.1,tr _ _ h.2.1,tr _ _ h.2.2.1,tr _ _ h.2.2.2.1,tr _ _ h.2.2.2.2⟩
 clear hb g m k;go_wp2
 go_region_held3 (λW=>N W w 0 c.K/\N W w 1 c.N/\N W w 2 c.lo/\N W w 3 c.hi/\N W w 4 (.slice A (l_ c.J) cap))
  (first|exact b|exact s2|exact s3)
  (first|(go_at_call 309;refine(P.o _).mono ?_;rintro e H ⟨d,j,rfl,C,q⟩;have s2:=B.o _ _ q b;have X:=O C;have E:=O (b_ T.o.drew q))|(go_at_call 310;refine(L.o _ _ _ E.o X.o).mono ?_;rintro e I ⟨rfl,r⟩;have s3:=B.o _ _ r s2;have Z:=O (b_ E.o r))|fail)
 all_goals clear s2 s3 b;go_wp2;go_ret2;exact⟨rfl,Z.o⟩
def xV(a:u_ c=0):l_ (iX c)<=10000:=by have:=Dr c (kM a);have:=(jZ a).2;omega
def FD(a:u_ c=0):l_ c.N<=24:=(iB (kM a).own).2.2.2.2.1
def LA(c:Cn)(v:V_)(w:W_)(H:CV w v c)(b:Je c)(d:Bu w)(f:u_ c=0):Y 242 #[v] w (d_ (iX c)):=by obtain⟨A,cap,rfl,_,_,_⟩:=H.form;have a:G w (w.alloc (.cells #[c.K,d_ c.N,c.lo,c.hi,.slice A (l_ c.J) cap] 27)):=bA;have g:=O (zZ c _ _ (H.up a) b (d.up a) f);unfold d_ at g a;unfold d_;go_in;go_wp2_with fail;refine g.o.mono ?_;rintro e i ⟨rfl,h⟩;go_wp2;go_ret;exact⟨rfl,b_ a h⟩
def xW(n:St)(w:W_)(a:l_ n<=1000000):Y 189 #[d_ n] w (d_ (j5 n)):=by unfold d_;have b:¬9223372036854775807<1+l_ n:=U;have c:¬9223372036854775807<1+l_ n+1:=U;go_in;go_wp2;go_ret;refine⟨?_,fu _ _⟩;rw[jO,jO];rfl
def NI(c:Cn)(v:V_)(w:W_)(H:CV w v c)(i:Je c)(j:Bu w)(d:u_ c=0):Y 187 #[v] w (d_ (w_ c)):=by obtain⟨A,cap,rfl,_,_,_⟩:=H.form;have b:G w (w.alloc (.cells #[c.K,d_ c.N,c.lo,c.hi,.slice A (l_ c.J) cap] 27)):=bA;have f:=O (LA c _ _ (H.up b) i (j.up b) d);have hl:=xV d;have m:¬9223372036854775807<1+l_ (iX c):=U;have n:¬9223372036854775807<1+l_ (iX c)+1:=U;clear H i j d hl;unfold d_ at f b;unfold d_;by_cases a:c.K=5;(.have g:w_ c=40::iX c++[41]:=(by unfold w_;rw[P_ a]);have k:(c.K==5)=true:=Q a;clear a;go_in;go_wp2_with fail;refine f.o.mono ?_;rintro e l ⟨rfl,h⟩;go_wp2;go_ret;refine⟨?_,b_ b h⟩;rw[g];show Ending.returned (.string ((⟨[40].toArray⟩++⟨(iX c).toArray⟩)++⟨[41].toArray⟩))=_;rw[jO,jO];rfl);.have g:w_ c=iX c:=(by unfold w_;rw[C_ a]);have k:(c.K==5)=false:=Q a;clear a;go_in;go_wp2_with fail;refine f.o.mono ?_;rintro e l ⟨rfl,h⟩;go_wp2;go_ret;exact⟨by rw[g];rfl,b_ b h⟩
def QA(c:Cn)(v:V_)(w:W_)(H:CV w v c)(k:Je c)(l:Bu w)(i:u_ c=0):Y 185 #[v] w (d_ (r_ c)):=by obtain⟨A,cap,rfl,_,_,_⟩:=H.form;have g:G w (w.alloc (.cells #[c.K,d_ c.N,c.lo,c.hi,.slice A (l_ c.J) cap] 27)):=bA;have m:=O (LA c _ _ (H.up g) k (l.up g) i);(have n:∀W,Y 189 #[c.N] W (d_ (j5 c.N)):=λW=>xW c.N W (by have:=FD i;omega));have hl:=xV i;have q:¬9223372036854775807<1+l_ (iX c):=U;have r:¬9223372036854775807<1+l_ (iX c)+1:=U;unfold d_ at m g;unfold d_;by_cases a:c.K=1;(.have d:r_ c=jI:=(by unfold r_;rw[P_ a]);have B:(c.K==1)=true:=Q a;clear a;go_in;go_wp2;go_ret;exact⟨by rw[d];rfl,g⟩);have B:(c.K==1)=false:=Q a;by_cases b:c.K=2;(.have d:r_ c=iR:=(by unfold r_;rw[C_ a,P_ b]);have s:(c.K==2)=true:=Q b;clear a b;go_in;go_wp2;go_ret;exact⟨by rw[d];rfl,g⟩);have s:(c.K==2)=false:=Q b;by_cases f:c.K=3;(.have d:r_ c=c.N:=(by unfold r_;rw[C_ a,C_ b,P_ f]);have t:(c.K==3)=true:=Q f;clear a b f;go_in;go_wp2;go_ret;exact⟨by rw[d];rfl,g⟩);have t:(c.K==3)=false:=Q f;by_cases h:c.K=4;(.have d:r_ c=j5 c.N:=(by unfold r_;rw[C_ a,C_ b,C_ f,P_ h]);have o:(c.K==4)=true:=Q h;clear a b f h;go_in;go_wp2_with fail;refine(n _).mono ?_;rintro e p ⟨rfl,j⟩;go_wp2;go_ret;exact⟨by rw[d];rfl,b_ g j⟩);have o:(c.K==4)=false:=Q h;have d:r_ c=60::iX c++[62]:=(by unfold r_;rw[C_ a,C_ b,C_ f,C_ h]);go_in;go_wp2_with fail;refine m.o.mono ?_;rintro e p ⟨rfl,j⟩;go_wp2;go_ret;refine⟨?_,b_ g j⟩;rw[d];rw[jO,jO];rfl
def iZ(L:List Ax)(N:List St):Int:=if gG L≠0 then gG L else if N.all Y_=true then 0 else 20
def Bv(L:List Ax)(N:List St)(v u:V_)(w:W_)(h:lT w v L)(r:jQ w u N)(t:xP w)(y:∀x∈L,oZ x)(hl:l_ L<=1000000)(K:∀s∈N,l_ s<=1000000)(V:l_ N<=1000000):Calls prog 191 #[v,u] w λe w'=>e=.returned (.int .i64 (iZ L N))/\Below w w w':=by
 have l:=j_ (G6 L v w h t y hl);obtain⟨A,c,rfl,_,_,_⟩:=h.form;obtain⟨Y,ag,rfl,_,_,Z⟩:=S1.form r;by_cases a:gG L=0
 .rw[a]at l
  have C:iZ L N=if N.all Y_=true then 0 else 20:=(by unfold iZ;rw[C_ (Q a)]);clear h r t y a;go_in;go_wp2_with (go_at_call 66;with_reducible refine l.out.mono ?_;rintro e E ⟨rfl,m⟩);have D:Hid (Below w w E):=j_ m;clear m l;go_loopw [16] (λi wr=>∃k:Nat,k<=l_ N/\i=.int .i64 (k:Int)/\Hid ((N.take k).all Y_=true)/\Hid (Below w w wr)) (λi _=>l_ N-(intOf i).toNat);exact⟨0,gZ _,rfl,j_ S,D⟩;obtain⟨k,ah,rfl,F,g⟩:=hrel;by_cases G:k<l_ N
  .obtain⟨b,o,rfl,hb,z⟩:=Z U
   have⟨s,j⟩:=g_ G;have P:wr.cell? (a_ b (o+k))=some (.string ⟨s.toArray⟩):=(g.out.cell (p:=a_ b (o+k)) hb).trans (z k s j);have I:=gV j;have d:=j_ (pV s wr (by have:=K s I;omega));(have J:N.take (k+1)=N.take k++[s]:=by have⟨T,W⟩:=jv.1 j;rw[Fh T,W]);have r1:0<=(k:Int):=U;have ai:(k:Int)<l_ N:=U;have⟨q,B⟩:=e_ (Y_ s);rw[B]at d;clear z j;cases q
   .have f:iZ L N=20:=(by
     rw[C,C_];intro h;have:=Vo.1 h s I
     rw[B]at this;cases this)
    simp only[du_,dv_]at d;go_wp2_with (go_at_call 115;with_reducible refine d.out.mono ?_;rintro e H ⟨rfl,n⟩);go_ret;exact⟨by rw[f];rfl,b_ g.out n⟩
   .have X:Hid ((N.take (k+1)).all Y_=true):=j_ (by rw[J,List.all_append,F.out];simp[B]);simp only[ds_]at d;go_wp2_with (go_at_call 115;with_reducible refine d.out.mono ?_;rintro e H ⟨rfl,n⟩);have O:Hid (Below w w H):=j_ (b_ g.out n);clear n d P;go_roundw;exact⟨k+1,U,R,X,O⟩;exact M
  ·(obtain rfl:k=l_ N:=by omega);have f:iZ L N=0:=(by rw[C,P_];have:=F.o;rwa[jy]at this);go_wp2;go_ret;exact⟨by rw[f];rfl,g.o⟩
 .have f:iZ L N=gG L:=(by unfold iZ;rw[P_ a]);have aj:(gG L !=0)=true:=Q a;clear h r t y a;go_in;go_wp2_with (go_at_call 66;with_reducible refine l.o.mono ?_;rintro e E ⟨rfl,m⟩);go_ret;exact⟨by rw[f];rfl,m⟩
def h_.atB{k:T_}{a:Type}{K:KK P k a}{n:Nat}{f:a->Option V_}(h:h_ w K b n f)(c:w'.heap[b]?=w.heap[b]?):h_ w' K b n f:=by obtain⟨D,⟨d,g,hb,r⟩,e⟩:=h;exact⟨D,⟨d,g,c.trans hb,r⟩,e⟩
structure oO(w:W_)(base:Nat)(vf:St->V_)(g:St->List St):Prop where
 own:∀r,w.ownsRow base 9 1 (vf r) (l_ (g r)) ((g r).map d_)
 ap:∀r s,r≠s->(vf r).ownBlock=none\/(vf r).ownBlock≠(vf s).ownBlock
 nil:∀r,g r=[]->vf r=.slice none 0 0
def E9(vf:St->V_)(g:St->List St):St->Option V_:=λr=>if g r=[] then none else some (vf r)
section
variable{n:Nat}
variable{w w':W_}{base:Nat}{vf:St->V_}{g:St->List St}
def oO.begin(w:W_)(base:Nat):oO w base (λ_=> .slice none 0 0) (λ_=>[]):=⟨λ_=>Ce _ _ _ _,λ_ _ _=> .inl rfl,λ_ _=>rfl⟩
def oO.up(h:oO w base vf g)(hb:G w w'):oO w' base vf g:=⟨λr=>gJ (h.own r) hb,h.ap,h.nil⟩
def oO.kept(h:oO w base vf g)(a:w.grownBy w' (some b))(hb:b<base):oO w' base vf g:=by refine⟨λr=>(h.own r).kept a ?_,h.ap,h.nil⟩;rcases c:(vf r).ownBlock with _|k;(.exact .inl rfl);·(refine .inr λe=>?_);injection e with e;have:=((h.own r).lt k c).1;omega
def oO.getD(h:oO w base vf g)(r:St):(E9 vf g r).getD ()=vf r:=by unfold E9;by_cases a:g r=[];(.rw[P_ a,h.nil r a];rfl);.rw[C_ a];rfl
def oO.rd(h:oO w base vf g)(r:St):jQ w ((E9 vf g r).getD ()) (g r):=by rw[h.getD];exact jg (h.own r)
def Hg(g:St->List St)(r t:St):St->List St:=λx=>if x=r then g r++[t] else g x
def QB(vf:St->V_)(r:St)(v:V_):St->V_:=λx=>if x=r then v else vf x
def oO.add(h:oO w base vf g)(p:w'.ownsRow base 9 1 v' n xs)(j:n=l_ (g r)+1)(o:xs=(g r).map d_++[d_ t])(l:w.grownBy w' (vf r).ownBlock)(f:v'.ownBlock=(vf r).ownBlock\/v'.ownBlock=some w):oO w' base (QB vf r v') (Hg g r t):=by subst j o;(have L:∀x k,(vf x).ownBlock=some k->k<w:=λx k m=>((h.own x).lt k m).2);refine⟨λx=>?_,λx y i=>?_,λx b=>?_⟩;(.unfold QB Hg;by_cases e:x=r;(.rw[P_ e,P_ e,ny,wO];exact p);.rw[C_ e,C_ e];exact(h.own x).kept l (h.ap x r e));(.unfold QB;by_cases e:x=r<;>by_cases c:y=r;(.exact absurd (e.trans c.symm) i);(.rw[P_ e,C_ c];rcases f with a|a;(.rw[a];exact h.ap r y (cv_ c));·(refine .inr λd=>?_);rw[a]at d;have:=L y _ d.symm;omega);(.rw[C_ e,P_ c];rcases f with a|a;(.rw[a];exact h.ap x r e);·(refine .inr λd=>?_);rw[a]at d;have:=L x _ d;omega);.rw[C_ e,C_ c];exact h.ap x y i);.unfold QB;unfold Hg at b;by_cases e:x=r;(.rw[P_ e]at b;simp at b);.rw[C_ e]at b ⊢;exact h.nil x b
def aaC(vf:St->V_)(g:St->List St)(r t:St)(v':V_):upd (E9 vf g) r (some v')=E9 (QB vf r v') (Hg g r t):=by funext x;unfold upd E9 QB Hg;by_cases e:x=r;(.rw[P_ e,P_ e,C_ S,P_ e]);.rw[C_ e,C_ e,C_ e]
end
def gU(n:Int)(a L:List Pc):List Pc:=L.foldl (λa p=>if o_ n p∈a then a else a++[o_ n p]) a
def mJ(n:Int)(a L M:List Pc):gU n a (L++M)=gU n (gU n a L) M:=by simp[gU]
theorem mK(n:Int)(a L:List Pc):l_ a<=l_ (gU n a L)/\l_ (gU n a L)<=l_ a+l_ L:=by
 induction L generalizing a with
 |nil=>simp[gU]
 |cons p L c=>
  have h:=c (if o_ n p∈a then a else a++[o_ n p]);have e:gU n a (p::L)=gU n (if o_ n p∈a then a else a++[o_ n p]) L:=rfl;rw[e];split at h<;>rename_i b;(.grind);.rw[C_ b];simp at h ⊢;omega
theorem NJ(a:p.fM=0)(b:q.fM=0)(h:o_ n p=o_ n q):p=q:=by cases p;cases q;simp[o_]at h a b ⊢;grind
theorem Hl(n:Int)(L:List Pc)(h:∀p∈L,p.fM=0):gU n [] L=(rz L).map (o_ n):=by
 have k:∀(L a:List Pc),(∀p∈L,p.fM=0)->(∀p∈a,p.fM=0)->gU n (a.map (o_ n)) L=(L.foldl (λa p=>if p∈a then a else a++[p]) a).map (o_ n):=by
  intro L
  induction L with
  |nil=>intro a _ _;rfl
  |cons p L g=>
   intro a d f;have i:=d p S;(have e:o_ n p∈a.map (o_ n)↔p∈a:=by constructor;(.intro c;have⟨q,b,e⟩:=pq.1 c;rw[NJ i (f q b) e.symm];grind);grind);rw[fe_];show gU n (if o_ n p∈a.map (o_ n) then _ else _) L=_;by_cases c:p∈a;.rw[P_ (e.2 c),P_ c];exact g a (λq b=>d q (by simp[b])) f
   .rw[C_ (λh=>c (e.1 h)),C_ c]
    have:=g (a++[p]) (λq b=>d q (by simp[b])) (λq b=>by
     rcases iq.1 b with b|b;.exact f q b
     .rw[gW.1 b];exact i)
    rw[wO]at this;exact this
 exact k L [] h (λ_ h=>by cases h)
def Bw(a:List Pc):Pc->Option V_:=λp=>if p∈a then some (.bool true) else none
theorem LC(b:List Pc)(p:Pc):upd (Bw b) p (some (.bool true))=Bw (b++[p]):=by funext x;unfold upd Bw;grind
def kJ(p:Pc):O_:=(vP p).toList
def mM(p:Pc):l_ (kJ p)=10:=rfl
def xX(p:Pc):∀u∈kJ p,u.oneCell'=true:=by intro u a;simp[kJ]at a;rcases a with h|h|h|h|h|h|h|h|h|h<;>subst h<;>rfl
theorem sU{a:W_}{e size n:Nat}(h:W.ownsRow B e size v n xs)(hb:∀g,v.ownBlock=some g->a.heap[g]?=W.heap[g]?):a.ownsRow B e size v n xs:=by refine⟨h.1,?_⟩;rcases h.2 with b|⟨g,cap,d,H,f,c,r⟩;(.grind);.exact .inr ⟨g,cap,d,H,f,(hb g (by rw[H];rfl)).trans c,r⟩
def Xc(k m:Nat)(v:V_)(g:Nat):Prop:=g=k\/g=m\/v.ownBlock=some g
structure Col(w:W_)(lo kp mb:Nat)(v:V_)(fM:Int)(acc:List Pc):Prop where
 lok:lo<=kp
 lom:lo<=mb
 ne:kp≠mb
 blk:f_ w kp 216 #[fM,v,.map (some mb)]
 map:h_ w KP mb (l_ acc) (Bw acc)
 row:w.ownsRow lo 150 10 v (l_ acc) (acc.flatMap kJ)
 apk:v.ownBlock≠some kp
 apm:v.ownBlock≠some mb
structure mq(kp mb:Nat)(v:V_)(w:W_)(v':V_)(w':W_):Prop where
 aw:Aw (Xc kp mb v) w w'
 up:∀b,v'.ownBlock=some b->b<w->v.ownBlock=some b
section
variable{w w' w'':W_}{lo kp mb:Nat}{v v' v'':V_}{fM:Int}{acc:List Pc}
def mq.refl(kp mb:Nat)(v:V_)(w:W_):mq kp mb v w v w:=⟨.refl _ _,λ_ h _=>h⟩
def mq.trans(h:mq kp mb v w v' w')(k:mq kp mb v' w' v'' w''):mq kp mb v w v'' w'':=
 ⟨h.aw.trans k.aw λg c d=>by
  rcases d with e|e|e;(.exact .inl e);.exact .inr (.inl e)
  .exact .inr (.inr (h.up g e c)),λb hb a=>h.up b (k.up b hb (qO a h.aw.size)) a⟩
def mq.then(h:mq kp mb v w v' w')(k:G w' w''):mq kp mb v w v' w'':=⟨h.aw.then k,h.up⟩
def mq.of(h:G w w'):mq kp mb v w v w':=⟨.of h,λ_ h _=>h⟩
def Col.lt(h:Col w lo kp mb v fM acc)(a:Xc kp mb v g):lo<=g/\g<w:=by rcases a with e|e|e;(.rw[e];exact⟨h.lok,h.blk.lt⟩);(.rw[e];exact⟨h.lom,h.map.lt⟩);.exact h.row.lt g e
def Col.at(h:Col w lo kp mb v fM acc)(hb:∀g,Xc kp mb v g->w'.heap[g]?=w.heap[g]?):Col w' lo kp mb v fM acc:=⟨h.lok,h.lom,h.ne,(hb kp (.inl rfl)).trans h.blk,h.map.atB (hb mb (.inr (.inl rfl))),sU h.row λg a=>hb g (.inr (.inr a)),h.apk,h.apm⟩
def Col.up(h:Col w lo kp mb v fM acc)(hb:G w w'):Col w' lo kp mb v fM acc:=h.at λg a=>hb.block g (h.lt a).2
theorem Col.grown(h:Col w lo kp mb v fM acc)(c:w.grownBy w' (some b))(hb:¬Xc kp mb v b):Col w' lo kp mb v fM acc:=h.at λg a=>c.block g (h.lt a).2 (by grind)
def Col.low(h:Col w lo kp mb v fM acc)(k:mq kp mb v w v' w'):Below lo w w':=k.aw.below (gY h.lok (fd_ h.blk.lt)) λg b a=>by have:=(h.lt a).1;omega
theorem Col.snoc(h:Col w lo kp mb v fM acc){p:Pc}{n:Nat}{xs:O_}{l m c:W_}(r:h_ l KP mb (l_ acc+1) (upd (Bw acc) p (some (.bool true))))(j:w.grownBy l (some mb))(f:G l m)(s:n=l_ acc+1)(k:xs=acc.flatMap kJ++kJ p)(y:c.ownsRow lo 150 10 v' n xs)(i:m.grownBy c v.ownBlock)(q:v'.ownBlock=v.ownBlock\/v'.ownBlock=some m):Col (c.setCell (a_ kp 1) v') lo kp mb v' fM (acc++[p])/\mq kp mb v w v' (c.setCell (a_ kp 1) v'):=by have A:=h.blk.lt;have B:=h.map.lt;have s1:=j.size;have s2:=f.size;have s3:=i.size;(have N:some kp≠v.ownBlock:=λe=>h.apk e.symm);(have t:some mb≠v.ownBlock:=λe=>h.apm e.symm);(have b:v'.ownBlock≠some kp:=by grind);(have z:v'.ownBlock≠some mb:=by grind);have C:=((h.blk.grown j (by intro e;injection e with e;exact h.ne e)).below f).grown i N;refine⟨⟨h.lok,h.lom,h.ne,?_,?_,?_,b,z⟩,⟨⟨?_,?_,?_,?_,?_⟩,?_⟩⟩;(.exact C.iK 1 v');(.rw[LC]at r;have:=((r.up f).kept i t).setCell (a:=a_ kp 1) (λe=>h.ne e.symm) v';grind);(.subst s k;have:=y;(refine sU ?_ λg o=>Fg c _ v' g (λe=>b (by grind)));grind);(.exact i.os.trans (f.os.trans j.os));(.exact i.tape.trans (f.tape.trans j.tape));(.exact i.output.trans (f.output.trans j.output));(.simp;omega);(.intro g o k;(have u:g≠kp:=λe=>k (.inl e));(have d:g≠mb:=λe=>k (.inr (.inl e)));(have x:some g≠v.ownBlock:=λe=>k (.inr (.inr e.symm)));rw[Fg c (a_ kp 1) v' g u,i.block g U x,f.block g U,j.block g o (by grind)]);grind
end
def Ho:(prog.info? 150).map (λi=>(i.zero,i.size,i.bytes))=some (some (.agg (vP ⟨0,[],[],[],[],[],[],0,0,0⟩)),10,128):=k_
def uM(n:Int)(w:W_):z 138 #[n] w λe w'=>e=.returned (.pointer (a_ (w+1) 0))/\Col w' w (w+1) w () n []/\G w w':=by have b:= @run_makeMap prog;(have a:∀W:W_,Col (L_ (W.alloc (.map #[] 0)) 216 #[n,(),.map (some W)]) W (W+1) W () n []:=λW=>⟨U,U,U,f_.newAt _ _ _ S,((h_.made W KP).alloc _).congr λx _=>by simp[Bw],Ce _ _ _ _,by simp[Value.ownBlock],by simp[Value.ownBlock]⟩);go_in;go_wp2;go_ret;exact⟨S,a w,X_ bA _⟩
def aep(k l h f:Int)(a b c r s t:St):(#[k,d_ a,d_ b,d_ c,d_ r,d_ s,d_ t,l,h,f]:A_).all (·.oneCell')=true:=by simp[Value.oneCell']
def aer:(prog.info? 150).map (·.size)=some 10:=k_
def LD{n:Nat}{d:List Pc}(h:h_ w KP b n (Bw d))(e:Y2 q){c:Bool}(H:decide (q∈d)=c):(Instr.lookup 214 (.map (some b)) (.agg (vP q)) false).run prog w=.ok (.bool c) w:=by have:=h.look underlying214 (zeroValue4 w) e;unfold Bw at this;by_cases a:q∈d;(.rw[P_ a]at this;rw[<-H,y7 a];exact this);.rw[C_ a]at this;rw[<-H,sj a];exact this
def X6{a L:List Pc}(h:L[k]?=some p):gU n a (L.take (k+1))=if o_ n p∈gU n a (L.take k) then gU n a (L.take k) else gU n a (L.take k)++[o_ n p]:=by obtain⟨b,e⟩:=jv.1 h;rw[Fh b,e,mJ];rfl
def iJ(h:f_ W g 150 (vP q)):N W g 0 q.K/\N W g 1 q.A/\N W g 2 q.B/\N W g 3 q.C/\ N W g 4 q.R/\N W g 5 q.S/\N W g 6 q.T/\N W g 7 q.lo/\N W g 8 q.hi/\N W g 9 q.fM:=⟨h.cell 0,h.cell 1,h.cell 2,h.cell 3,h.cell 4,h.cell 5,h.cell 6,h.cell 7,h.cell 8,h.cell 9⟩
def aes(W:W_)(q:Pc):Rd (L_ W 150 #[q.K,d_ q.A,d_ q.B,d_ q.C,d_ q.R,d_ q.S,d_ q.T,q.lo,q.hi,q.fM]) kJ 10 (.slice W 1 1) [q]:=
 ⟨_,1,rfl,gH _,by simp[m_],λ_=>⟨_,0,rfl,S,λi x hi j y a=>by
   (obtain rfl:i=0:=by have:=(jv.1 hi).1;simp at this;omega);injection hi with hi;subst hi;have:=(f_.new W 150 (vP q)).cell (0+0*10+j);rw[show 0+0*10+j=j by omega]at this ⊢;rw[this,<-a]
   simp[kJ]⟩⟩
def Col.drew'{lo a:Nat}{b:List Pc}(h:Col w lo k a v f b):Col w.drew lo k a v f b:=h.up (fu _ _).drew
def mq.drew'{a:Nat}(h:mq k a v w.drew v' w'):mq k a v w v' w':=(mq.of (fu _ _).drew).trans h
def yN(lo k m:Nat)(v:V_)(f:Int)(a L:List Pc)(w:W_)(e:Ending)(w':W_):Prop:=e=.returned (.tuple #[])/\∃v',Col w' lo k m v' f (gU f a L)/\mq k m v w v' w'
def acM(L:List Pc)(u:V_)(w:W_)(lo C f:Nat)(v:V_)(J:Int)(y:List Pc)(az:Col w lo C f v J y)(P:Rd w kJ 10 u L)(aA:∀a n c,u=.slice (some a) n c->0<n->¬Xc C f v a.block)(aE:∀p∈L,Y2 (o_ J p))(bx:l_ y+l_ L<=1000000):z 188 #[.pointer C,u] w (yN lo C f v J y L w):=by obtain⟨A,c,rfl,hc,a7,aB⟩:=P.form;have a8:=O aB;have bk:=O aA;have bl:=O aE;have a':=O az;obtain⟨ba,bm,bn,bo,bp⟩:=qw Ho;go_in;go_wp2;go_loopw [8] (λi wr=>∃(k:Nat)(g:V_),k<=l_ L/\i=.int .i64 (k:Int)/\Hid (Col wr lo C f g J (gU J y (L.take k)))/\Hid (mq C f v w g wr)) (λi _=>l_ L-(intOf i).toNat);exact⟨0,v,gZ _,rfl,a',O (.refl _ _ _ _)⟩;obtain⟨k,g,bb,rfl,E,X⟩:=hrel;by_cases bq:k<l_ L;(.obtain⟨b,m,rfl,hb,a6⟩:=a8.o U;obtain⟨p,ak⟩:=g_ bq;have aF:¬Xc C f v b:=bk.o _ _ _ rfl U;(have B:∀(j:Nat) z,(kJ p)[j]?=some z->N wr b (m+k*10+j) z:=λj z bc=>X.o.aw.cell (a6 k p ak j z bc) aF);have a0:N wr b (m+k*10) p.K:=B 0 _ rfl;have a1:N wr b (m+k*10+1) p.A:=B 1 _ rfl;have a2:N wr b (m+k*10+2) p.B:=B 2 _ rfl;have a3:N wr b (m+k*10+3) p.C:=B 3 _ rfl;have a4:=B 4 _ rfl;have a5:=B 5 _ rfl;have bd:=B 6 _ rfl;have be:=B 7 _ rfl;have bf:=B 8 _ rfl;have a9:=B 9 _ rfl;have aC:=O ak;have r1:0<=(k:Int):=U;have bz:(k:Int)<l_ L:=U;go_wp2_with (refine z_ rfl 150 _ _ rfl wr 150 _ (f_.new _ _ _) (vP p) rfl rfl rfl aer (aep ..) ?_);intro t V aG aH;have ao:=bA.grown aG S (λj bg=>by injection bg with e;omega);have aI:=O (E.o.up ao);have c0:=aI.o.blk.cell 0;have c9:=V.cell 9;have z9:=V.frozen 9;have bF:C<wr:=E.o.blk.lt;have bG:f<wr:=E.o.map.lt;have aJ:=O V;have aX:t.heap.size=wr.heap.size+1:=Q aH;have aK:=O ao;go_wp2_with fail;have I:=O (aJ.o.iK 9 (.int .i64 J));have ap:G wr (t.setCell (a_ wr 9) (.int .i64 J)):=aK.o.setCell (gH _) _;have F:=O (E.o.up ap);have aq:=O (X.o.then ap);have aL:(t.setCell (a_ wr 9) (.int .i64 J)).heap.size=wr.heap.size+1:=Q aX;generalize t.setCell (a_ wr 9) (.int .i64 J)=d at *;obtain⟨q,Z⟩:=e_ (o_ J p);(have l:f_ d wr 150 (vP q):=by rw[<-Z];exact I.o);obtain⟨r,Y⟩:=e_ (gU J y (L.take k));rw[Y]at F;(have ar:Y2 q:=by rw[<-Z];exact bl.o p (gV aC.o));have aD:Hid (gU J y (L.take (k+1))=if q∈r then r else r++[q]):=O (by rw[X6 aC.o,Y,Z]);(have bL:l_ r<=l_ y+k:=by rw[<-Y];have:=(mK J y (L.take k)).2;rw[wE,fc_ bb]at this;exact this);have br:=O ar;obtain⟨al,au⟩:=e_ (decide (q∈r));(have bh:∀nq,(Instr.lookup 214 (.map (some f)) (.agg #[q.K,q.A,q.B,q.C,q.R,q.S,q.T,q.lo,q.hi,q.fM]) false).run prog (d.drewN nq)=.ok (.bool al) (d.drewN nq):=λnq=>LD (F.o.map.drewN nq) ar au);(have aY:q∈r↔al=true:=by rw[<-au];simp);have aM:=O aY;have am:N d C 2 (.map (some f)):=F.o.blk.cell 2;have aa:N d wr 0 q.K:=l.cell 0;have b1:N d wr 1 q.A:=l.cell 1;have b2:N d wr 2 q.B:=l.cell 2;have b3:N d wr 3 q.C:=l.cell 3;have ab:N d wr 4 q.R:=l.cell 4;have ac:N d wr 5 q.S:=l.cell 5;have ad:N d wr 6 q.T:=l.cell 6;have ae:N d wr 7 q.lo:=l.cell 7;have af:N d wr 8 q.hi:=l.cell 8;have ag:N d wr 9 q.fM:=l.cell 9;have I:=O l;go_quiet (fail);cases al;(.go_wp2_with fail;have s:Hid (Col (d.drewN nq) lo C f g J r):=O (F.o.up (oD (fu _ _) _));have bs:Hid (mq C f v w g (d.drewN nq)):=O (aq.o.then (oD (fu _ _) _));have aN:Hid (f_ (d.drewN nq) wr 150 (vP q)):=O (I.o.drewN nq);have bH:(d.drewN nq).heap.size=wr.heap.size+1:=aL;generalize d.drewN nq=an at *;obtain⟨aa,b1,b2,b3,ab,ac,ad,ae,af,ag⟩:=iJ aN.o;have am:N an C 2 (.map (some f)):=s.o.blk.cell 2;obtain⟨w5,aO,aP,aQ⟩:=(s.o.map.drew).put (K:=KP) underlying214 (by simp only[m_];omega) br.o (.bool true);have bt:(Instr.mapUpdate 214 (.map (some f)) (.agg #[q.K,q.A,q.B,q.C,q.R,q.S,q.T,q.lo,q.hi,q.fM]) (.bool true)).run prog an.drew=.ok () w5:=aO;have aR:=O aP;have H:=O aQ;go_region;have aS:f_ w5 wr 150 (vP q):=aN.o.drew.grown H.o (by intro e;injection e with e;omega);have av:f_ w5 C 216 #[J,g,.map (some f)]:=s.o.blk.drew.grown H.o (by intro e;injection e with e;exact s.o.ne e);(have bI:wr.heap.size+1<=w5.heap.size:=by have:=H.o.size;simp at this;omega);obtain⟨aa,b1,b2,b3,ab,ac,ad,ae,af,ag⟩:=iJ aS;have bB:N w5 C 1 g:=av.cell 1;have bu:Hid (w5.ownsRow lo 150 10 g (l_ r) (r.flatMap kJ)):=O (World.ownsRow.kept (w:=an.drew) s.o.row H.o (.inr s.o.apm));(have aT:Hid (∀(o:Obj)(W:W_),(w5.alloc o).drew.grownBy W g.ownBlock->N W C 1 g/\W.frozen? (a_ C 1)=false):=O λo W bi=>have h:=((av.alloc o).drew.grown bi (λe=>s.o.apk e.symm):f_ W C 216 #[J,g,.map (some f)]);⟨h.cell 1,h.frozen 1⟩);(have bJ:lo<=w5:=by have:=s.o.lok;omega);have bM:C<w5:=av.lt;have bK:l_ r+1<=1000000:=U;go_wp2;go_region_law ((refine gI _ kJ rfl (.tmp 33) (.tmp 35) 144 rfl lo 150 ba (.agg (vP ⟨0,[],[],[],[],[],[],0,0,0⟩)) 10 128 underlying144 bm bn bo bp rfl D _ _ _ rfl (bu.o.alloc _) _ _ [q] mM rfl (aes w5 q) (λx _ u P=>xX x u P) (by(simp only[m_,wT];omega)) (by(simp only[wT];omega)) (by(simp;omega)) ?_;intro bC bD ay T aZ;obtain⟨bE,c6,rfl⟩:=n_ ay;have k6:=(aT.o _ _ T).1;have bj:=(aT.o _ _ T).2;have aU:=O ay;have aV:=O T;have aW:=O aZ;clear ay T aZ));all_goals clear k6 bj;have ax:=s.out.drew'.snoc aR.out H.out ((X_ (fu _ _) _).drew) rfl S aU.out aV.out aW.out;have bv:=O ax.1;have bw:=O (bs.o.trans (mq.drew' ax.2));go_wp2;go_roundw;exact⟨k+1,_,U,R,O (by rw[aD.o,C_ (λh=>by have:=aM.o.1 h;simp at this)];exact bv.o),bw⟩;exact M);.go_wp2;go_roundw;exact⟨k+1,g,U,R,O (by rw[aD.o,P_ (aM.o.2 rfl)];exact F.o.up (oD (fu _ _) _)),O (aq.o.then (oD (fu _ _) _))⟩;exact M);·(obtain rfl:k=l_ L:=by omega);go_wp2;go_end0;exact⟨rfl,g,by have:=E.o;rwa[jy]at this,X.o⟩
theorem jX(c:Cn):u_ c=0↔Kq c/\Hf c:=by
 constructor;.intro h;refine⟨?_,kM h⟩;unfold u_ at h;split at h;(.grind);.cases h
 .rintro⟨b,e⟩
  unfold u_;rw[P_ b]
  have k:∀l:List Cn,(∀d∈l,fU d=0)->j4 l=0:=by
   intro l
   induction l with
   |nil=>intro _;rfl
   |cons a l f=>
    intro h;unfold j4;rw[C_ (Q (h a S))];exact f λd H=>h d (by grind)
  exact k _ e
def iU{p:Cn}(h:u_ c=0)(a:p∈c.J):u_ p=0:=by have⟨⟨b,e⟩,d⟩:=(jX c).1 h;refine(jX p).2 ⟨⟨?_,?_⟩,d.part a⟩;(.have:=FZ a;rw[MG]at b;omega);.have:=Cn.lu a;omega
def z8(ps:List Cn):Cn:= .mk 5 [] 0 0 ps
def nS(h:u_ c=0)(i:c.K=5)(t:2<=k)(hl:k<=l_ c.J):u_ (z8 (c.J.take k))=0:=by
 have⟨⟨e,j⟩,f⟩:=(jX c).1 h;(have g:∀p∈c.J.take k,p∈c.J:=λp b=>R4 b);have u:=((iB f.own).2.2.2.1 i).2;refine(jX _).2 ⟨⟨?_,?_⟩,?_⟩;(.rw[MG]at e ⊢;exact OY λp b=>gY (FZ (g p b)) e);.rw[size_eq]at j ⊢;have:=nK c.J k;show Cn.sizes (c.J.take k)+1<=64;omega
 .intro d hd
  rw[pre_eq]at hd;rcases jL.1 hd with rfl|hd;.unfold fU;have m:(z8 (c.J.take k)).K=5:=rfl;have n:(z8 (c.J.take k)).J=c.J.take k:=rfl;have o:(z8 (c.J.take k)).N=[]:=rfl;have q:(z8 (c.J.take k)).lo=0:=rfl;have r:(z8 (c.J.take k)).hi=0:=rfl;rw[m,n,o,q,r];simp[kU,nI,iH];omega
  .have K:∀l:List Cn,(∀p∈l,p∈c.J)->d∈Cn.kR l->fU d=0:=by
    intro l
    induction l with
    |nil=>intro _ h;cases h
    |cons a l s=>
     intro hl hd;simp only[Cn.kR]at hd;rcases iq.1 hd with hd|hd;(.exact f.part (hl a S) d hd);.exact s (λp b=>hl p (by simp[b])) hd
   exact K _ g hd
theorem ig(a:u_ c=0):l_ (r_ c)<=20000:=by have b:=xV a;have d:=FD a;unfold r_;split;(.decide);split;(.decide);split;(.omega);split;(.simp[j5];omega);grind
structure VQ(p:Pc):Prop where
 k:0<=p.K/\p.K<=100
 a:l_ p.A<=100000
 b:l_ p.B<=100000
 c:l_ p.C<=100000
 r:l_ p.R<=100000
 s:l_ p.S<=100000
 t:l_ p.T<=100000
 lo: -maxNum<=p.lo/\p.lo<=maxNum
 hi: -maxNum<=p.hi/\p.hi<=maxNum
theorem uN{x:Int}(h: -maxNum<=x/\x<=maxNum):(Lit.int .i64 x).wf=true:=by unfold maxNum at h;simp only[Lit.wf,OB,OC];have a:IntKind.i64.min= -9223372036854775808:=D;have b:IntKind.i64.max=9223372036854775807:=D;grind
def VQ.ok(h:VQ p)(d: -1<=n/\n<=100000):Y2 (o_ n p):=by have e:=h.k;(have m:100000<=m_:=by simp[m_]);exact⟨uN (by unfold maxNum;constructor<;>(simp only[o_];omega)),gY h.a m,gY h.b m,gY h.c m,gY h.r m,gY h.s m,gY h.t m,uN h.lo,uN h.hi,uN (by unfold maxNum;constructor<;>(simp only[o_];omega))⟩
def jT:maxNum=1099511627776:=rfl
def Ep{a c:St}(b:l_ a<=100000)(h:l_ c<=100000):VQ (kF a c):=by constructor<;>simp[kF,jT]<;>assumption
def adG{a b c:St}(d:l_ a<=100000)(hb:l_ b<=100000)(h:l_ c<=100000):VQ (wP a b c):=by constructor<;>simp[wP,jT]<;>assumption
def Uu{a c:St}(b:l_ a<=100000)(d:l_ r<=100000)(h:l_ c<=100000):VQ (mE a r c):=by constructor<;>simp[mE,jT]<;>assumption
def aaD{a c:St}(b:l_ r<=100000)(d:l_ a<=100000)(h:l_ c<=100000):VQ (og r a c):=by constructor<;>simp[og,jT]<;>assumption
def aeu(a:l_ r<=100000)(b:l_ t<=100000):VQ (sK r t):=by constructor<;>simp[sK,jT]<;>assumption
def acN(a:l_ r<=100000)(b:l_ s<=100000)(c:l_ t<=100000):VQ (jV r s t):=by constructor<;>simp[jV,jT]<;>assumption
def aev(a:l_ r<=100000):VQ (qc r):=by constructor<;>simp[qc,jT]<;>assumption
def aia{a:St}{lo hi:Int}(d:l_ a<=100000)(e:l_ r<=100000)(b: -maxNum<=lo/\lo<=maxNum)(c: -maxNum<=hi/\hi<=maxNum):VQ (Vy a r lo hi):=by rw[jT]at b c;constructor<;>simp[Vy]<;>first|assumption|omega
def agd{c:St}{lo hi:Int}(d:l_ r<=100000)(h:l_ c<=100000)(a: -maxNum<=lo/\lo<=maxNum)(b: -maxNum<=hi/\hi<=maxNum):VQ (AQ r lo hi c):=by rw[jT]at a b;constructor<;>simp[AQ]<;>first|assumption|omega
def X7(f:St)(d l:List Cn):l_ (xA f d l)=l_ l:=by
 induction l generalizing f d with
 |nil=>rfl
 |cons a l b=>simp[xA,b]
theorem Dt(c:Cn)(d:u_ c=0):l_ (iO c)<=16*c.size:=by
 induction c using Cn.ind with
 |h c e=>
  have f:∀ps:List Cn,(∀p∈ps,l_ (iO p)<=16*p.size)->l_ (iT ps)<=16*Cn.sizes ps:=by
   intro ps
   induction ps with
   |nil=>intro _;simp[iT]
   |cons a l i=>
    intro h;have j:=h a S;(have m:=i λp b=>h p (by simp[b]));simp only[iT,Cn.sizes,ny];omega
  (have hl:=f c.J λp b=>e p b (iU d b));have H:=iB ((jX c).1 d).2.own;obtain⟨k,n,l,g,ps⟩:=c;simp only[Cn.J]at *;simp only[iO,Cn.size];split
  .have:=(H.2.2.2.1 ‹_›).2
   cases ps with
   |nil=>simp[iT]
   |cons a r=>
    simp only[ny,X7];simp at this;omega
  split;(.grind);split;(.grind);.simp
theorem Hq(c:Cn)(e:u_ c=0):l_ (gL c)<=16*c.size:=by
 induction c using Cn.ind with
 |h c f=>
  have i:∀(a:St)(ps:List Cn),(∀p∈ps,l_ (gL p)<=16*p.size)->l_ (iQ a ps)<=16*Cn.sizes ps+l_ ps/\l_ (mU ps)<=16*Cn.sizes ps:=by
   intro a ps
   induction ps with
   |nil=>intro _;simp[iQ,mU]
   |cons b l j=>
    intro h;have m:=h b S;(have o:=j λp d=>h p (by simp[d]));simp only[iQ,mU,Cn.sizes,ny,p8];omega
  (have hl:=λa=>i a c.J λp d=>f p d (iU e d));have H:=iB ((jX c).1 e).2.own;obtain⟨k,n,l,g,ps⟩:=c;simp only[Cn.J]at *;simp only[gL,Cn.size];split;(.grind);split;(.have:=(hl []).2;grind);split;(.grind);.simp
section
variable{a:A_}{t:T_}
variable{kp mb:Nat}{v v':V_}{w w':W_}
def mq.nx(h:mq kp mb v w v' w')(a:g<w)(b:¬Xc kp mb v g):¬Xc kp mb v' g:=λe=>b (by
 rcases e with e|e|e;(.exact .inl e);.exact .inr (.inl e)
 .exact .inr (.inr (h.up g e a)))
def mq.cell(h:mq kp mb v w v' w'){o:Nat}(H:N w g o u)(a:¬Xc kp mb v g):N w' g o u:=h.aw.cell H a
def mq.blk(h:mq kp mb v w v' w')(H:f_ w g t a)(b:¬Xc kp mb v g):f_ w' g t a:=h.aw.blk H b
end
def Col.fresh{lo:Nat}{a:List Pc}(h:Col w lo k m v f a)(b:w<=g):¬Xc k m v g:=λe=>by have:=(h.lt e).2;omega
theorem add_one{lo K:Nat}{b:List Pc}(d:Col w lo K m v F b)(H:G w W)(p:Pc)(g:VQ p)(o: -1<=F/\F<=100000)(l:l_ b<=100000):
 z 188 #[.pointer K,.slice W 1 1] (L_ W 150 #[p.K,d_ p.A,d_ p.B,d_ p.C,d_ p.R,d_ p.S,d_ p.T,p.lo,p.hi,p.fM])
  λe w'=>e=.returned (.tuple #[])/\∃v',Col w' lo K m v' F (gU F b [p])/\mq K m v w v' w':=by
 have f:=X_ H (.cells #[p.K,d_ p.A,d_ p.B,d_ p.C,d_ p.R,d_ p.S,d_ p.T,p.lo,p.hi,p.fM] 150)
 refine(acM [p] _ _ lo K m v F b (d.up f) (aes W p) (λa n c e h=>?_) (λq i=>by rw[gW.1 i];exact g.ok o) (by grind)).mono ?_
 .injection e with e _ _;injection e with e;rw[<-e];exact d.fresh H.size
 .rintro e w' ⟨rfl,v',j,k⟩;exact⟨rfl,v',j,(mq.of f).trans k⟩
abbrev Bz(p P:Nat):V_:= .func (.func 240) #[] #[.pointer P,.pointer p]
abbrev BA(p P:Nat):V_:= .func (.func 241) #[] #[.pointer p,.pointer P]
structure qj(w:W_)(kp mb:Nat)(v:V_)(pk pl pr:Nat):Prop where
 k:N w pk 0 (.pointer kp)
 l:N w pl 0 (Bz pk pl)
 r:N w pr 0 (BA pk pr)
 nk:¬Xc kp mb v pk
 nl:¬Xc kp mb v pl
 nr:¬Xc kp mb v pr
section
variable{w w':W_}{kp mb pk pl pr:Nat}{v v':V_}
def qj.lt(h:qj w kp mb v pk pl pr):pk<w/\pl<w/\pr<w:=⟨zK w _ h.k,zK w _ h.l,zK w _ h.r⟩
def qj.to(h:qj w kp mb v pk pl pr)(k:mq kp mb v w v' w'):qj w' kp mb v' pk pl pr:=⟨k.cell h.k h.nk,k.cell h.l h.nl,k.cell h.r h.nr,k.nx h.lt.1 h.nk,k.nx h.lt.2.1 h.nl,k.nx h.lt.2.2 h.nr⟩
def qj.up(h:qj w kp mb v pk pl pr)(k:G w w'):qj w' kp mb v pk pl pr:=h.to (.of k)
end
def Hr{c:Func}{p q:Tmp}{d e:T_}(h:c.results= #[.cell p d,.cell q e])(t:A_)(w:W_){a b:Addr}(f:t.getD p undef=.pointer (some a))(g:t.getD q undef=.pointer (some b))(hl:(loadVar d a).run P w=.ok u w)(i:(loadVar e b).run P w=.ok v w):(results c t).run P w=.ok (.tuple #[u,v]) w:=by have j:t[p]?.getD undef=.pointer (some a):=Q f;have k:t[q]?.getD undef=.pointer (some b):=Q g;simp[results,h,j,k,asAddr,hl,i]
def aaE{a:Addr}(h:w.cell? a=some v):(loadVar 71 a).run prog w=.ok v w:=by simp[loadVar,h]
def X8(w:W_)(lo K M:Nat)(v:V_)(F:Int)(k:List Pc)(d:Col w lo K M v F k):
 z 183 #[.pointer (a_ K 0)] w λe w'=>
  e=.returned (.tuple #[Bz w (w+1),BA w (w+2)])/\qj w' K M v w (w+1) (w+2)/\G w w':=by
 have c:∀g,w.heap.size<=g->¬Xc K M v g:=λg h=>d.fresh h
 clear d
 go_in
 go_wp2
 obtain⟨a,b⟩:=e_ ((((w.alloc (.cells #[.pointer (a_ K 0)] 211)).alloc (.cells #[Bz w (w+1)] 71)).alloc (.cells #[BA w (w+1+1)] 71)))
 have i:f_ a w 211 #[.pointer (a_ K 0)]:=by rw[<-b];exact((f_.new _ _ _).alloc _).alloc _
 have B:f_ a (w+1) 71 #[Bz w (w+1)]:=by rw[<-b];exact(f_.newAt _ _ _ S).alloc _
 have r:f_ a (w+1+1) 71 #[BA w (w+1+1)]:=by rw[<-b];exact f_.newAt _ _ _ S
 have l:G w a:=by rw[<-b];exact X_ (X_ bA _) _
 have c1:=B.cell 0
 have c2:=r.cell 0
 have j:=B.frozen 0
 have Z:=r.frozen 0
 rw[b]
 clear b
 go_region
 all_goals clear c1 c2 j Z;have m:=((((i.far (p:=a_ (w+1) 0) S (Bz w (w+1))).far (p:=a_ (w+1+1) 0) (by simp;omega) (BA w (w+1+1)))).drew);have n:=(((B.iK 0 (Bz w (w+1))).far (p:=a_ (w+1+1) 0) S (BA w (w+1+1))).drew);have o:=(((r.far (p:=a_ (w+1) 0) S (Bz w (w+1))).iK 0 (BA w (w+1+1))).drew);have q:=((Kk (Kk l (p:=a_ (w+1) 0) S (Bz w (w+1))) (p:=a_ (w+1+1) 0) (by simp;omega) (BA w (w+1+1))).drew);generalize ((a.setCell (a_ (w+1) 0) (Bz w (w+1))).setCell (a_ (w+1+1) 0) (BA w (w+1+1))).drew=f at *;have c1:=n.cell 0;have c2:=o.cell 0;go_wp2;(try simp);refine rY (Hr rfl _ _ rfl rfl (aaE c1) (aaE c2)) rfl ?_;exact⟨rfl,⟨m.cell 0,c1,c2,c _ U,c _ U,c _ U⟩,q⟩
def QC(L:List St)(u:V_)(w:W_)(lo N Q:Nat)(v:V_)(J:Int)(d:List Pc)(j:Col w lo N Q v J d)(l:jQ w u L)(y:∀a n c,u=.slice (some a) n c->0<n->¬Xc N Q v a.block)(hl:∀s∈L,l_ s<=100000)(hf: -1<=J/\J<=100000)(ac:l_ d+l_ L<=100000):z 186 #[.pointer N,u] w (yN lo N Q v J d (L.map fE) w):=by
 obtain⟨A,c,rfl,hc,B,C⟩:=S1.form l;have E:=O j;go_in;go_wp2;go_loopw [8] (λi wr=>∃(k:Nat)(f:V_),k<=l_ L/\i=.int .i64 (k:Int)/\Hid (Col wr lo N Q f J (gU J d ((L.take k).map fE)))/\Hid (mq N Q v w f wr)) (λi _=>l_ L-(intOf i).toNat);exact⟨0,v,gZ _,rfl,E,O (.refl _ _ _ _)⟩;obtain⟨k,f,F,rfl,m,h⟩:=hrel;by_cases T:k<l_ L
 .obtain⟨b,X,rfl,hb,x⟩:=C U
  obtain⟨s,g⟩:=g_ T;have o:=y _ _ _ rfl U;have ad:=h.o.cell (x k s g) o
  have Z:(L.take (k+1)).map fE=(L.take k).map fE++[fE s]:=(by
   obtain⟨H,I⟩:=jv.1 g
   rw[Fh H,I,wO];rfl)
  have p:=hl s (gV g)
  have q:Hid (∀W,G wr W->z 188 #[.pointer N,.slice W 1 1] (L_ W 150 #[V 1,s,x_,.string ⟨#[42]⟩,x_,x_,x_,V 0,V 0,V 0]) λe w'=>e=.returned (.tuple #[])/\∃v',Col w' lo N Q v' J (gU J (gU J d ((L.take k).map fE)) [fE s])/\mq N Q f wr v' w'):=O λW K=>
   add_one m.o K (fE s) (Ep p D) hf (by
    have:=(mK J d ((L.take k).map fE)).2
    rw[qm,wE,fc_ F]at this;omega)
  have r1:0<=k:=U;have ae:k<l_ L:=U;go_wp2_with fail;refine(q.o _ (fu _ _)).mono ?_;rintro e P ⟨rfl,S,r,t⟩;have Y:Hid (Col P lo N Q S J (gU J d ((L.take (k+1)).map fE))):=O (by rw[Z,mJ];exact r);have ab:=O (h.o.trans t);go_wp2;go_roundw;exact⟨k+1,S,U,R,Y,ab⟩;exact M
 ·(obtain rfl:k=l_ L:=by omega);go_wp2;go_end0;exact⟨rfl,f,by have:=m.o;rwa[jy]at this,h.o⟩



