import Derived.Test.YtgoapenfbanhaaaGreatDoorJ07
import Derived.Test.YtgoapenfbanhaaaGreatDoorJ25
import Derived.Test.YtgoapenfbanhaaaGreatDoorJ26
import Derived.Test.YtgoapenfbanhaaaGreatDoorJ27
set_option linter.all false
set_option maxRecDepth 100000
set_option maxHeartbeats 32000000
open List renaming length->l_
open Go.Proofs.Tryz Go.RowKit Go.Shelf Go.Maps Go.Sort
open Go renaming World->W_,Value->V_,maxLen->m_,TypeId->T_,Ending->E_
namespace Go.Proofs.YtgoapenfbanhaaaGreatDoor
variable{α:Type}{ps:Array Tmp}{b:Bool}{K:FK}{E L found zs:H_}{H T X l s set t:I_}{i most x:Int}{F f fr':Int->Bool}{B base c cap g j k m n:Nat}{d xs:O_}{o:Obj}{r:Option Nat}{P:Program}{e:T_}{u v:V_}{p:V_×I_}{A C W w w':W_}
def EW(S:H_)(T:I_):Prop:=Inc T/\(∀s∈S,∃x∈s,x∈T)/\∀x∈T,∃s∈S,x∈s/\∀y∈s,y∈T->y=x
def QM(S:H_)(n:I_)(f:Int->Bool)(T:I_):Prop:=EW S T/\(∀x∈n,x∈T)/\∀x∈T,x∈n\/f x=true
def JJ(S:H_)(n:I_)(f:Int->Bool)(y:H_):Prop:=y.Nodup/\∀T,T∈y↔QM S n f T
def Part(S:H_)(n:I_)(f:Int->Bool)(y:H_):Prop:=y.Nodup/\∀T∈y,QM S n f T
def JJ.part{S:H_}{n:I_}{a:H_}(h:JJ S n f a):Part S n f a:=⟨h.1,λT b=>(h.2 T).1 b⟩
def Fv{n s:I_}:0<cnt n s↔∃x∈n,x∈s:=by unfold cnt;rw[List.length_pos_iff_exists_mem];simp
theorem PU{n:I_}:cnt n s=0↔∀x∈n,x∉s:=by have:= @Fv n s;grind
theorem acz{n:I_}(h:cnt n s=1){y:Int}(c:x∈n)(f:x∈s)(d:y∈n)(g:y∈s):y=x:=by unfold cnt at h;obtain⟨z,e⟩:=ij_.1 h;have a:x∈n.filter (·∈s):=y5.2 ⟨c,Q f⟩;have b:y∈n.filter (·∈s):=y5.2 ⟨d,Q g⟩;grind
def TJ{n:I_}(c:n.Nodup)(d:x∈n)(f:x∈s)(h:∀y∈n,y∈s->y=x):cnt n s=1:=by
 have g:0<cnt n s:=Fv.2 ⟨x,d,f⟩
 have i:cnt n s<=1:=by
  unfold cnt
  have:=lZ (a:=n.filter (·∈s)) (b:=[x]) (cp_ _ c) (λy e=>by
   have:=y5.1 e
   exact gW.2 (h y this.1 (Q this.2)))
  simpa using this
 omega
theorem Xh(n s:I_)(x:Int):cnt (n++[x]) s=cnt n s+if x∈s then 1 else 0:=by unfold cnt;grind
def qQ(l:I_)(x:Int):x∈nM l↔x∈l:=by unfold nM;exact gj_
theorem K5(h:l.Nodup):Inc (nM l):=by(have d:(nM l).Pairwise (λx y=>decide (x<=y)=true):=by unfold nM;exact hv_ (λa b c d e=>by grind) (λa b=>by grind) l);(have e:(nM l).Nodup:=by unfold nM;exact(hu_ l _).nodup_iff.2 h);refine(d.and e).imp ?_;grind
def Xi(l:I_):l_ (nM l)=l_ l:=by unfold nM;exact bt_ _
section
variable{c:H_}
variable{S:H_}{now:I_}{fr:Int->Bool}
theorem K6(f:now.Nodup)(H:Gq S now)(g:∀s∈S,0<cnt now s):JJ S now fr [nM now]:=by refine⟨S_,λT=>?_⟩;rw[gW];constructor;(.rintro rfl;refine⟨⟨K5 f,λs b=>?_,λx a=>?_⟩,λx a=>(qQ _ _).2 a,λx a=> .inl ((qQ _ _).1 a)⟩;(.obtain⟨x,c,d⟩:=Fv.1 (g s b);exact⟨x,d,(qQ _ _).2 c⟩);.rw[qQ]at a;obtain⟨s,b,c,d⟩:=H x a;exact⟨s,b,d,λy e k=>acz c a d ((qQ _ _).1 k) e⟩);.rintro⟨⟨c,d,i⟩,h,_⟩;(refine kV c (K5 f) λx=>?_);rw[qQ];constructor;(.intro a;obtain⟨s,b,m,j⟩:=i x a;obtain⟨y,e,l⟩:=Fv.1 (g s b);grind);grind
def Xj(d:now.Nodup)(h:QM S now fr T):Gq S now:=by intro x a;obtain⟨⟨_,_,e⟩,b,_⟩:=h;obtain⟨s,f,c,g⟩:=e x (b x a);exact⟨s,f,TJ d a c λy i j=>g y j (b y i),c⟩
def Gv(S:H_)(now:I_)(fr:Int->Bool)(l:I_)(k:Nat)(y:H_):Prop:=y.Nodup/\∀T,T∈y↔QM S now fr T/\(∃x∈l.take k,x∈T)/\∀x∈l.drop k,x∉T
def Fw(fr:Int->Bool)(l:I_)(k:Nat)(x:Int):Bool:=fr x&& !(decide (x∈l.drop k))
def TL(l:I_):Gv S now fr l 0 []:=⟨S_,λT=>S_⟩
theorem TM(f:s∈S)(H:cnt now s=0)(hl:l=s.filter λx=>fr x)(h:Gv S now fr l (l_ l) c):JJ S now fr c:=by refine⟨h.1,λT=>?_⟩;rw[h.2,jy,R9];constructor;(.grind);.intro a;refine⟨a,?_,S_⟩;obtain⟨x,d,e⟩:=a.1.2.1 s f;refine⟨x,?_,e⟩;rw[hl,y5];refine⟨d,?_⟩;rcases a.2.2 x e with b|b;(.exact absurd d (PU.1 H x b));grind
theorem Fx(e:l[k]?=some x)(hl:l.Nodup)(f:∀y∈l,fr y=true/\y∉now)(T:I_):QM S (now++[x]) (Fw fr l k) T↔QM S now fr T/\x∈T/\∀y∈l.drop (k+1),y∉T:=by have H:l.drop k=x::l.drop (k+1):=drop_cons e;(have m:x∉l.drop (k+1):=by have:(l.drop k).Nodup:=hl.sublist (fy_ k l);grind);constructor;(.rintro⟨d,b,c⟩;refine⟨⟨d,λy a=>b y (by simp[a]),λy a=>?_⟩,b x S_,λy a n=>?_⟩;(.rcases c y a with h|h;(.grind);.unfold Fw at h;grind);.rcases c y n with h|h;(.grind);.unfold Fw at h;grind);.rintro⟨⟨d,b,c⟩,i,j⟩;refine⟨d,λy a=>?_,λy a=>?_⟩;(.grind);.rcases c y a with h|h;(.grind);.by_cases g:y=x;(.grind);.refine .inr ?_;unfold Fw;grind
theorem Gw{o:H_}(j:l[k]?=some x)(hl:l.Nodup)(p:∀y∈l,fr y=true/\y∉now)(h:Gv S now fr l k o)(c:JJ S (now++[x]) (Fw fr l k) zs):Gv S now fr l (k+1) (o++zs):=by have H:l.drop k=x::l.drop (k+1):=drop_cons j;refine⟨WC.2 ⟨h.1,c.1,λa q b hb e=>?_⟩,λT=>?_⟩;(.subst e;have d:=((h.2 a).1 q).2.2 x (by grind);have m:=((Fx j hl p a).1 ((c.2 a).1 hb)).2.1;grind);.rw[iq,h.2,c.2,Fx j hl p,G_ j,H];grind
def Xk(a:(now++[x]).Nodup)(H:¬Gq S (now++[x])):JJ S (now++[x]) fr' []:=⟨S_,λT=>by
 constructor;.intro h;cases h
 .intro h;exact absurd (Xj a h) H⟩
theorem Xl{g:H_}(d:l[k]?=some x)(hl:l.Nodup)(i:∀y∈l,fr y=true/\y∉now)(h:Gv S now fr l k g)(f:Part S (now++[x]) (Fw fr l k) zs):Part S now fr (g++zs):=by have H:l.drop k=x::l.drop (k+1):=drop_cons d;refine⟨WC.2 ⟨h.1,f.1,λa j b hb e=>?_⟩,λT c=>?_⟩;(.subst e;have m:=((h.2 a).1 j).2.2 x (by grind);have n:=((Fx d hl i a).1 (f.2 a hb)).2.1;grind);.rcases iq.1 c with c|c;(.exact((h.2 T).1 c).1);.exact((Fx d hl i T).1 (f.2 T c)).1
def xL(S:H_)(now:I_):Nat:=l_ (S.filter λs=>decide (cnt now s=0))
theorem TN(a:s∈S)(h:cnt now s=0)(b:x∈s):xL S (now++[x])<xL S now:=by unfold xL;(have c:(S.filter λs=>decide (cnt (now++[x]) s=0))=(S.filter λs=>decide (cnt now s=0)).filter λs=>decide (x∉s):=by rw[List.filter_filter];congr 1;funext t;rw[Xh];grind);rw[c];refine ht_.2 ⟨s,y5.2 ⟨a,by simp[h]⟩,by simp[b]⟩
def ZQ(S:H_)(now:I_):xL S now<=l_ S:=OA _ _
end
def PV(f:Int->Bool)(x:Int)(b:Bool):Int->Bool:=λy=>if y=x then b else f y
def Xm{S:H_}(a:x∈S.flatten)(b:Bool):upd (zu S f) x (some (.bool b))=zu S (PV f x b):=by funext y;unfold upd zu PV;by_cases h:y=x;(.subst h;rw[P_ rfl,P_ a,P_ rfl]);.simp only[C_ h]
section
variable{a:V_}
variable{K:FK}{W W':W_}{now:I_}{fr:Int->Bool}
def Fam.Fy(h:Fam K W now fr)(t:x∈K.S.flatten)(p:h_ W' K3 K.mf n (upd (zu K.S fr) x (some (.bool b))))(d:W.grownBy W' (some K.mf)):Fam K W' now (PV fr x b)/\CY K W W':=by obtain⟨c,q⟩:=h;(have f:∀k,k<W.heap.size->k≠K.mf->W'.heap[k]?=W.heap[k]? :=λk l i=>d.block k l (λe=>i (Ch e)));obtain⟨u,B,hb,m⟩:=q.jr;have r:=f K.a hb.lt c.ne.2.1;(have A:jr K W'=jr K W:=by unfold jr;rw[EH (w:=W) (a:=a_ K.a 4) r]);rw[Xm t]at p;refine⟨⟨c.keep d.size λk _ i _ _ v=>f k (qO i c.rng.2) v,⟨⟨u,hb.block r,iF m λg j=>f g (m.lt g j).2 λe=>?_⟩,iF q.hits λg j=>?_,p.few K.S.flatten λy _ o=>?_⟩⟩,⟨d.os,d.tape,d.output,d.size,λk l i _=>f k l λe=>?_,.inl A⟩⟩;(.have:=(m.lt g j).1;have:=c.rf.2;omega);(.cases j;exact f K.hb (qO c.rh.2 c.rng.2) c.ne.2.2);(.unfold zu at o;by_cases s:y∈K.S.flatten;(.exact s);.rw[C_ s]at o;exact absurd rfl o);.have:=c.rf;omega
def za(K:FK)(W:W_)(L:V_)(l:I_):Prop:=W.ownsRow K.base 3 1 L (l_ l) (l.map iV)/\∀g,L.ownBlock=some g->jr K W≠some g
def rH(K:FK)(W W':W_):Prop:=∀L l,za K W L l->za K W' L l
def rH.refl(K:FK)(W:W_):rH K W W:=λ_ _ h=>h
def rH.trans{B:W_}(b:rH K A B)(c:rH K B C):rH K A C:=λa l h=>c a l (b a l h)
def CY.rows(h:CY K W W'):rH K W W':=by rintro f l ⟨b,d⟩;refine⟨iF b λg a=>h.same g (b.lt g a).2 (.inr (b.lt g a).1) λe=>d g a e.symm,λg a e=>?_⟩;rcases h.now with c|⟨k,i,c⟩;(.exact d g a (c.symm.trans e));.rw[c]at e;injection e with e;have:=(b.lt g a).2;omega
def za.si(h:za K W a l):SI W a l:=jg h.1
structure M8(K:FK)(W W':W_):Prop where
 size:(W:Nat)<=W'
 fam:∀k,K.base0<=k->k<K.base->W'.heap[k]?=W.heap[k]?
 ints:∀k cs,K.base<=k->W.heap[k]?=some (.cells cs 3 (0,0))->W'.heap[k]?=some (.cells cs 3 (0,0))
def M8.trans{B:W_}(c:M8 K A B)(d:M8 K B C):M8 K A C:=⟨gY c.size d.size,λk a b=>(d.fam k a b).trans (c.fam k a b),λk e a b=>d.ints k e a (c.ints k e a b)⟩
def PW{size:Nat}(h:W.ownsRow B 3 size v n xs)(d:M8 K W W')(H:K.base<=B):∀g,v.ownBlock=some g->W'.heap[g]?=W.heap[g]? :=by intro g a;rcases h.2 with⟨rfl,_⟩|⟨b,cap,e,rfl,hb,c,_⟩;(.cases a);.obtain rfl:b=g:=Ch a;rw[c];exact d.ints b e (gY H hb) c
def Fam.kp(h:Fam K W now fr)(a:M8 K W W'):Fam K W' now fr/\jr K W'=jr K W:=by obtain⟨e,d,_,b⟩:=h.2.jr;exact h.keep a.size a.fam λg c=>PW b a (gH _) g (d.symm.trans c)
def M8.rows(c:Fam K W now fr)(a:M8 K W W'):rH K W W':=by rintro f l ⟨b,d⟩;exact⟨iF b (PW b a (gH _)),λg e=>by rw[(c.kp a).2];exact d g e⟩
def za.ZR{b:V_}(a:Fam K W now fr)(_:Fam K A now fr)(hb:G W A)(h:A.ownsRow W 3 1 b (l_ l) (l.map iV)):za K A b l:=by refine⟨jD h a.1.rng.2,λg c e=>?_⟩;rw[(a.up hb).2]at e;obtain⟨i,f,_,d⟩:=a.2.jr;have j:=(d.lt g (f.symm.trans e)).2;have k:=(h.lt g c).1;omega
end
abbrev JT:=List (V_×List Int)->W_->Prop
def Y3(K:FK)(J:JT):Prop:=∀s A B n f,J s A->Fam K A n f->CY K A B->J s B
def Bc(K:FK)(m:Nat)(l:Nat)(J j:JT):Prop:=∀(pre:List (V_×I_))(u:V_)(T:I_)(W:W_)(n:I_)(f:Int->Bool),J pre W->Fam K W n f->za K W u T->l_ T<=1000000-> YieldAt Fence.wide m prog l #[u] W λe w=>M8 K W w/\((e=.returned true/\J (pre++[(u,T)]) w)\/(e=.returned false/\j (pre++[(u,T)]) w))
def zR(K:FK)(W:W_)(n:I_)(f:Int->Bool)(pre:List (V_×I_))(J j:JT)(e:E_)(w:W_):Prop:=∃(b:Bool)(y:List (V_×I_)),e=.returned b/\Fam K w n f/\rH K W w/\ ((b=true/\JJ K.S n f (y.map (·.2))/\J (pre++y) w)\/(b=false/\Part K.S n f (y.map (·.2))/\j (pre++y) w))
def Ea(K:FK)(n:I_)(f:Int->Bool)(l:I_)(k:Nat)(pre:List (V_×I_))(J j:JT)(b:Bool)(W:W_):Prop:=∃y:List (V_×I_),(b=true/\Gv K.S n f l k (y.map (·.2))/\J (pre++y) W)\/(b=false/\Part K.S n f (y.map (·.2))/\j (pre++y) W)
def Ea.it{n m:I_}{pre:List (V_×I_)}{c d:JT}{B:W_}(i:Y3 K c)(j:Y3 K d)(h:Ea K n F l k pre c d b A)(e:Fam K A m fr')(f:CY K A B):Ea K n F l k pre c d b B:=by obtain⟨g,a|a⟩:=h;(.exact⟨g,.inl ⟨a.1,a.2.1,i _ _ _ _ _ a.2.2 e f⟩⟩);.exact⟨g,.inr ⟨a.1,a.2.1,j _ _ _ _ _ a.2.2 e f⟩⟩
def Xn{m' L:Nat}{a b:JT}(h:Bc K m L a b):Bc K m' L a b:=by intro pre u T W n F e f g i;obtain⟨j,t,assign,body,k,d⟩:=h pre u T W n F e f g i;exact⟨j,t,assign,body,k,d.1,λc l _=>d.2 c l (room_wide _)⟩
section
variable{a:Addr}{b:W_}
attribute [local go_sem] ba_
def TP:∀args w,(callFunc 290 args).run prog w=.ok (.enter 290 args) w:=enters_of func290 k_ rfl
def TQ(K:FK)(J:JT)(n:I_)(f:Int->Bool)(pre:List (V_×I_))(W:W_):Prop:=n.Nodup/\l_ n+xL K.S n<=l_ K.S/\(∀x∈n,x∈K.S.flatten)/\Gq K.S n/\Fam K W n f/\J pre W
def Da(h:f x=true):(t++[x]).filter (λx=>f x)=t.filter (λx=>f x)++[x]:=by simp[Y9,h]
def Bf(h:f x=false):(t++[x]).filter (λx=>f x)=t.filter (λx=>f x):=by simp[Y9,h]
def frT(f:Int->Bool)(l:I_)(k:Nat)(x:Int):Bool:=f x&& !(decide (x∈l.take k))
def ZT(a:l[k]?=some x):PV (frT f l k) x false=frT f l (k+1):=by funext y;unfold PV frT;rw[G_ a];by_cases h:y=x;(.simp[h]);.simp[h]
def ZU(f:Int->Bool)(l:I_):frT f l 0=f:=by funext y;simp[frT]
def ZV(f:Int->Bool)(l:I_):frT f l (l_ l)=Fw f l 0:=by funext y;simp[frT,Fw]
def ZW(f:Int->Bool)(l:I_):Fw f l (l_ l)=f:=by funext y;simp[Fw]
def ZX(a:l[k]?=some x)(H:f x=true)(hl:l.Nodup):PV (Fw f l k) x true=Fw f l (k+1):=by funext y;unfold PV Fw;rw[drop_cons a];(have b:x∉l.drop (k+1):=by have:(l.drop k).Nodup:=hl.sublist (fy_ k l);rw[drop_cons a]at this;exact(dp_.1 this).1);by_cases h:y=x;(.subst h;simp[H,b]);.simp[h]
def PX(K:FK)(lp bO:Nat)(C X:JT)(H:Y3 K C)(V:Y3 K X)(bo:Bc K bO lp C X)(J:I_)(Q:Int->Bool)(pre:List (V_×I_))(W:W_)(h:TQ K C J Q pre W)(bP:∀bl fr' bG a5,xL K.S bl<xL K.S J->TQ K C bl fr' bG a5->z 198 #[K.p,.func (.yield lp) #[] #[]] a5 (zR K a5 bl fr' bG C X)):z 198 #[K.p,.func (.yield lp) #[] #[]] W (zR K W J Q pre C X):=by
 refine(yY (n:=3)).1 ?_;obtain⟨a',cy,br,bJ,f,bs⟩:=h;have cz:=f.1.few.1;have cp:=f.1.few.2;have⟨A,c,bt,bQ⟩:=f.1.C8;have⟨ci,cq,ax,bH⟩:=f.2.jr;have⟨aR,aS,b5⟩:=n_ bH;subst b5;rw[bt]at ax;have a0:N W K.a 0 (.slice A (l_ K.S) c):=ax.cell 0;have a3:N W K.a 3 (.map (some K.mf)):=ax.cell 3;have a4:N W K.a 4 (.slice aR (l_ J) aS):=ax.cell 4;have b6:=ax.lt;have cr:=O ax;have bR:=O (Xn (m':=2) bo);have⟨i0,hi,b7,b8,b9⟩:=qw info3;clear bo ax bt;refine callsIn_of_wp func198 rfl trivial ?_ rfl;simp only[ntmps198,bc_,p8,Mv,Nat.reduceAdd,Nat.reduceSub,bg_,bh_,bi_,bj_,Y8,Ka];gi_wp2_with fail;refine⟨trivial,((yY).2 (Tp K W J Q f)).mono ?_⟩;rintro e a6 ⟨rfl,⟨rfl,bm⟩|⟨j,s,rfl,ao,ba⟩⟩;.have cA:=O bm;gi_wp2_with fail;refine⟨trivial,((yY).2 (TF aR (l_ J) aS W)).mono ?_⟩;rintro e ag ⟨rfl,rfl⟩;have⟨bS,b',ch⟩:=TD W (.slice aR (l_ J) aS) J (L_ W 31 #[.slice aR (l_ J) aS]) (by rw[ji];rfl) S ((jg bH).al _);gi_wp2_with fail;refine⟨trivial,((yY).2 (PL 290 _ bS J _ TP ch b' U)).mono ?_⟩;rintro e Z ⟨u,rfl,a7,ap⟩;have aH:G W Z:=b_ ((fu _ W).alloc (gH _) _) ap;have aq:=f.up aH;have bu:za K Z u (nM J):=za.ZR f aq.1 aH (jD a7 S);have⟨cj,c3,ca⟩:=n_ a7;have bv:=H _ _ _ _ _ bs f (CY.up f aH);have⟨ck,tmps,assign,body,m,aA⟩:=bR.o pre u (nM J) Z J Q bv aq.1 bu (by rw[Xi];omega);have F:=O aq.1;have cb:Hid (rH K W Z):=O (CY.up f aH).rows;clear ap aH aq bu bv a7;subst ca;gi_wp2_with fail;refine aA.mono ?_;rintro e E ⟨bw,aI⟩;have B:=O (F.o.kp bw).1;have ai:=O (cb.o.trans (M8.rows F.o bw));rcases aI with⟨rfl,aI⟩|⟨rfl,aI⟩;(·gi_wp2_with fail;refine rY (bp_ rfl _ _ _) rfl ?_;exact⟨true,[(_,nM J)],rfl,B.o,ai.o,.inl ⟨rfl,K6 a' bJ bm,aI⟩⟩);·gi_wp2_with fail;refine rY (bp_ rfl _ _ _) rfl ?_;exact⟨false,[(_,nM J)],rfl,B.o,ai.o,.inr ⟨rfl,(K6 a' bJ bm).part,aI⟩⟩
 .obtain⟨b1,cl,rfl,cs,bK⟩:=bQ (by have:=(jv.1 ao).1;omega)
  have⟨cm,bT,bx⟩:=bK j s ao;obtain⟨bU,bV,rfl⟩:=SI.slice_form bx;have ct:=(jv.1 ao).1;have q1:0<=(j:Int):=U;have q2:(j:Int)<l_ K.S:=U;have cn:decide ((j:Int)<0)=false:=S;have bz:Hid (Valid s):=O (f.1.valid s (gV ao));have cu:=uG bz.o;(have bb:Hid (∀x∈s,x∈K.S.flatten):=O λx o=>bz_.2 ⟨s,gV ao,o⟩);clear bK;gi_wp2_with fail;gi_loopw [6,33] (λbW i wr=>∃k:Nat,k<=l_ s/\i=.int .i64 k/\Hid (wr.ownsRow W 3 1 bW (l_ ((s.take k).filter λx=>Q x)) (((s.take k).filter λx=>Q x).map iV))/\G W wr) (λ_ i _=>l_ s-(intOf i).toNat);exact⟨0,gZ _,rfl,O (Ce _ _ _ _),fu _ _⟩;obtain⟨k,bp,rfl,aB,R⟩:=hrel;by_cases aJ:k<l_ s
  .have⟨x,o⟩:=get_some aJ
   have⟨_,_,Y,_,_,ac⟩:=bx.form;(obtain⟨rfl,rfl⟩:_=bU/\_=bV:=by injection Y with d aC aG;exact⟨d.symm,aG.symm⟩);obtain⟨b2,a8,rfl,bc,ad⟩:=ac U;have a9:=(R.cell (p:=a_ b2 (a8+k)) bc).trans (ad k x o);have co:N wr K.a 3 (.map (some K.mf)):=(R.cell (p:=a_ K.a 3) b6).trans a3;have ae:=bb.o x (gV o);have ar:=(f.1.vC ae).1;have aD:=O (G_ o);(have cv:l_ ((s.take k).filter λx=>Q x)<=1024:=by have:=OA (λx=>Q x) (s.take k);rw[wE]at this;omega);have⟨A5,c5,bd⟩:=n_ aB.o;subst bd
   cases hf:Q x with
   |true=>
    have cc:=(f.up R).1.2.yJ ae ar hf;have cd:=O hf;clear hf ae ar Y ac ad o;gi_wp2_with (gi_at_builtin;refine wpListIn_append_own _ rfl _ _ 31 rfl W 3 i0 (.int .i64 0) 1 8 underlying31 hi b7 b8 b9 rfl D _ _ _ rfl (aB.o.alloc _) wr 1 1 [.int .i64 x] rfl rfl ?c1 ?c2 ?c3 ?c4 ?c5 ?_);(case c1=>exact new1 _ _ rfl _ _);(case c2=>intro y m;rw[gW.1 m];rfl);(case c3=>simp only[m_];omega);(case c4=>omega);(case c5=>have:=R.size;simp;omega);intro v' a6 bL bM _;have ce:G W a6:=(X_ R _).grown bM (by have:=R.size;simp;omega) (λk e=>by exact(aB.o.lt k e).1)
    have be:Hid (a6.ownsRow W 3 1 v' (l_ ((s.take (k+1)).filter λx=>Q x)) (((s.take (k+1)).filter λx=>Q x).map iV)):=O (by
     rw[aD.o,Da cd.o]
     simpa using bL)
    clear bL bM;gi_wp2_with fail;go_roundw;exact⟨k+1,U,S,be,ce⟩;exact M
   |false=>
    have cc:=(f.up R).1.2.yJ ae ar hf
    have be:Hid (wr.ownsRow W 3 1 (.slice A5 (l_ ((s.take k).filter λx=>Q x)) c5) (l_ ((s.take (k+1)).filter λx=>Q x)) (((s.take (k+1)).filter λx=>Q x).map iV)):=O (by
     rw[aD.o,Bf hf]
     exact aB.o)
    clear hf ae ar Y ac ad o;gi_wp2_with fail;go_roundw;exact⟨k+1,U,S,be,R⟩;exact M
  .obtain rfl:k=l_ s:=by omega
   have⟨l,hl⟩:=e_ ((s.filter λx=>Q x));have aA:=aB.o;rw[jy,hl]at aA;have bf:=f.up R;have v:Hid (za K wr u6 l):=O (za.ZR f bf.1 R aA);have bX:=O hl.symm;(have cw:l_ l<=1024:=by have:=OA (λx=>Q x) s;rw[hl]at this;omega);(have aT:Hid (∀y∈l,y∈s/\Q y=true):=O λy m=>by rwa[<-hl,y5]at m);have aU:Hid l.Nodup:=O (by rw[<-hl];exact cp_ _ (uw bz.o.2));(have aV:Hid (∀y∈l,Q y=true/\y∉J):=O λy m=>⟨(aT.o y m).2,λh=>PU.1 ba y h (aT.o y m).1⟩);have⟨A5,c5,bd⟩:=n_ aA;subst bd;have ah:=O bf.1;have au:=O (CY.up f R);clear aA bf aB hl bT;gi_wp2_with fail;gi_loopw [50] (λi wr=>∃k:Nat,k<=l_ l/\i=.int .i64 k/\Hid (Fam K wr J (frT Q l k))/\Hid (za K wr (.slice A5 (l_ l) c5) l)/\Hid (CY K W wr)) (λi _=>l_ l-(intOf i).toNat);exact⟨0,gZ _,rfl,O (by rw[ZU];exact ah.o),v,au⟩;clear ah au v R;obtain⟨k,bp,rfl,ah,v,au⟩:=hrel;have aW:Hid (l_ K.S.flatten<m_):=O (by simp only[m_];omega);have⟨cx,_,bN,_⟩:=ah.o.2.jr;have bY:N wr K.a 3 (.map (some K.mf)):=bN.cell 3;clear bN;by_cases aJ:k<l_ l;.have⟨x,o⟩:=get_some aJ;have⟨_,_,Y,_,_,ac⟩:=v.o.si.form;(obtain⟨rfl,rfl⟩:_=A5/\_=c5:=by injection Y with d aC aG;exact⟨d.symm,aG.symm⟩);obtain⟨b2,a8,rfl,bc,ad⟩:=ac U;have a9:=ad k x o;have ae:=bb.o x (aT.o x (gV o)).1;have ar:=(f.1.vC ae).1;have⟨w5,I,L,P⟩:=ah.o.2.free.put underlying109 aW.o ar (.bool false);have bg:(Instr.mapUpdate 109 (.map (some K.mf)) (.int .i64 x) (.bool false)).run prog wr=.ok () w5:=I;have⟨w,q⟩:=ah.o.Fy ae L P;rw[ZT o]at w;have av:=O w;have cf:=O (au.o.trans q);have ay:=O (q.rows _ _ v.o);clear Y ac ad o ae ar I L P w q;gi_wp2_with fail;go_roundw;exact⟨k+1,U,S,av,ay,cf⟩;exact M
   .obtain rfl:k=l_ l:=by omega
    have aw:Hid (Fam K wr J (Fw Q l 0)):=O (by rw[<-ZV];exact ah.o);have aE:Hid (Ea K J Q l 0 pre C X true wr):=O ⟨[],.inl ⟨rfl,TL l,by rw[fq_];exact H _ _ _ _ _ bs f au.o⟩⟩;have az:=O au.o.rows;clear ah au;gi_wp2_with fail;gi_loopw [4,62] (λbZ i wr=>∃(k:Nat)(b:Bool),k<=l_ l/\i=.int .i64 k/\bZ=.bool b/\Hid (Fam K wr J (Fw Q l k))/\Hid (za K wr (.slice A5 (l_ l) c5) l)/\Hid (rH K W wr)/\Hid (Ea K J Q l k pre C X b wr)) (λ_ i _=>l_ l-(intOf i).toNat);exact⟨0,true,gZ _,rfl,rfl,aw,v,az,aE⟩;clear aw v az aE bY;obtain⟨k,b,bp,rfl,rfl,aw,v,az,aE⟩:=hrel;by_cases aJ:k<l_ l
    .have⟨x,o⟩:=get_some aJ
     have⟨b0,c6,Y,_,_,ac⟩:=v.o.si.form;(obtain⟨cg,rfl⟩:b0=A5/\c5=c6:=by injection Y with d aC aG;exact⟨d.symm,aG⟩);subst cg;obtain⟨b2,a8,rfl,bc,ad⟩:=ac U;have a9:=ad k x o;have aD:=O o;have aX:=aT.o x (gV o);have af:Hid (x∈K.S.flatten):=O (bb.o x aX.1);have aY:Hid (qD x):=O (f.1.vC af.o).1;have bh:Hid (PV (Fw Q l k) x true=Fw Q l (k+1)):=O (ZX o aX.2 aU.o);have aZ:l_ J<=100000:=U
     have bB:Hid ((J++[x]).Nodup):=O (WC.2 ⟨a',S,λa b3 b hb e=>by
      rw[gW.1 hb]at e;subst e
      exact(aV.o a (gV o)).2 b3⟩)
     have bC:Hid (xL K.S (J++[x])<xL K.S J):=O (TN (gV ao) ba aX.1);clear Y ac ad o aX;gi_wp2_with fail;refine⟨trivial,((yY).2 (aea K wr J (Fw Q l k) x aw.o af.o aZ)).mono ?_⟩;rintro e ag ⟨rfl,aq,a1⟩;have F:=O aq;have aF:=O (aE.o.it H V aw.o a1);have bn:=O (az.o.trans a1.rows);have cB:=O (a1.rows _ _ v.o);clear aq a1 aw aE az v a9;rename Hid (za K ag _ l)=>v
     cases b with
     |false=>
      have aj:=F.o;have T:rH K ag ag:=rH.refl _ _;(have ak:Ea K J Q l (k+1) pre C X false ag:=by obtain⟨t,d|d⟩:=aF.o;(.cases d.1);.exact⟨t,.inr d⟩);clear F aF;have am:=O (aj);have aK:=O (ak);have aL:=O (bn.o.trans T);have aM:=O (T _ _ v.o);clear aj ak T;gi_wp2_with fail
      (refine⟨trivial,?_⟩;gi_wp2_with fail)
      refine⟨trivial,((yY).2 (Gr K _ J (Fw Q l k) x am.o af.o aZ)).mono ?_⟩;rintro e E ⟨rfl,r,g⟩;have aN:=O (aK.o.it H V am.o g);have ai:=O (aL.o.trans g.rows);have aO:=O (g.rows _ _ aM.o);have B:=O r;have⟨bD,_,an,_⟩:=r.2.jr;have g3:N E K.a 3 (.map (some K.mf)):=an.cell 3;have⟨w5,I,L,P⟩:=B.o.2.free.put underlying109 aW.o aY.o (.bool true);have bg:(Instr.mapUpdate 109 (.map (some K.mf)) (.int .i64 x) (.bool true)).run prog E=.ok () w5:=I;have⟨w,q⟩:=B.o.Fy af.o L P;rw[bh.o]at w;have av:=O w;have aP:=O (aN.o.it H V B.o q);have aQ:=O (ai.o.trans q.rows);have ay:=O (q.rows _ _ aO.o);clear r g an I L P w q;gi_wp2_with fail;go_roundw;exact⟨k+1,_,U,S,rfl,av,ay,aQ,aP⟩;exact M
     |true=>
      gi_wp2_with fail;refine⟨trivial,((yY).2 (M4 K ag (J++[x]) (Fw Q l k) F.o (λy m=>?hw) ?hl)).mono ?_⟩;(case hw=>rcases iq.1 m with m|m;(.exact(f.1.vC (br y m)).1);.rw[gW.1 m];exact aY.o);(case hl=>simp;omega);rintro e Z ⟨rfl,ap⟩;have r:=F.o.up ap;have g:=CY.up F.o ap
      cases a2:jS (Gq K.S (J++[x])) with
      |false=>
       have aj:=r.1;have T:rH K ag Z:=g.rows;(have ak:Ea K J Q l (k+1) pre C X true Z:=by obtain⟨t,d|d⟩:=aF.o.it H V F.o g;(.refine⟨t,.inl ⟨rfl,?_,d.2.2⟩⟩;have:=Gw aD.o aU.o aV.o d.2.1 (Xk (fr':=Fw Q l k) bB.o (jF.1 a2));simpa using this);.cases d.1);clear F aF r g ap a2;have am:=O (aj);have aK:=O (ak);have aL:=O (bn.o.trans T);have aM:=O (T _ _ v.o);clear aj ak T;gi_wp2_with fail;skip;refine⟨trivial,((yY).2 (Gr K _ J (Fw Q l k) x am.o af.o aZ)).mono ?_⟩;rintro e E ⟨rfl,r,g⟩;have aN:=O (aK.o.it H V am.o g);have ai:=O (aL.o.trans g.rows);have aO:=O (g.rows _ _ aM.o);have B:=O r;have⟨bD,_,an,_⟩:=r.2.jr;have g3:N E K.a 3 (.map (some K.mf)):=an.cell 3;have⟨w5,I,L,P⟩:=B.o.2.free.put underlying109 aW.o aY.o (.bool true);have bg:(Instr.mapUpdate 109 (.map (some K.mf)) (.int .i64 x) (.bool true)).run prog E=.ok () w5:=I;have⟨w,q⟩:=B.o.Fy af.o L P;rw[bh.o]at w;have av:=O w;have aP:=O (aN.o.it H V B.o q);have aQ:=O (ai.o.trans q.rows);have ay:=O (q.rows _ _ aO.o);clear r g an I L P w q;gi_wp2_with fail;go_roundw;exact⟨k+1,_,U,S,rfl,av,ay,aQ,aP⟩;exact M
      |true=>
       have⟨t,bi⟩:∃t:List (V_×I_),Gv K.S J Q l k (t.map (·.2))/\C (pre++t) Z:=by obtain⟨t,d|d⟩:=aF.o.it H V F.o g;(.exact⟨t,d.2⟩);.cases d.1
       have bE:Hid (TQ K C (J++[x]) (Fw Q l k) (pre++t) Z):=O ⟨bB.o,by have:=bC.o;simp;omega,λy m=>by
        rcases iq.1 m with m|m;.exact br y m
        .rw[gW.1 m];exact af.o,jE.1 a2,r.1,bi.2⟩
       have bj:=O bi.1;have bF:=O g;clear bi r g ap a2 F aF;gi_wp2_with fail;refine⟨trivial,((yY).2 (bP _ _ _ _ bC.o bE.o)).mono ?_⟩;rintro e E ⟨b4,zs,rfl,aj,bI,bq⟩;have T:rH K ag E:=bF.o.rows.trans bI;(have ak:Ea K J Q l (k+1) pre C X b4 E:=by rcases bq with⟨rfl,d,aC⟩|⟨rfl,d,aC⟩;(.refine⟨t++zs,.inl ⟨rfl,?_,by rwa[<-Kg]⟩⟩;rw[wO];exact Gw aD.o aU.o aV.o bj.o d);.refine⟨t++zs,.inr ⟨rfl,?_,by rwa[<-Kg]⟩⟩;rw[wO];exact Xl aD.o aU.o aV.o bj.o d);clear bI bq bF bE bj;have am:=O (aj);have aK:=O (ak);have aL:=O (bn.o.trans T);have aM:=O (T _ _ v.o);clear aj ak T;gi_wp2_with fail;skip;refine⟨trivial,((yY).2 (Gr K _ J (Fw Q l k) x am.o af.o aZ)).mono ?_⟩;rintro e E ⟨rfl,r,g⟩;have aN:=O (aK.o.it H V am.o g);have ai:=O (aL.o.trans g.rows);have aO:=O (g.rows _ _ aM.o);have B:=O r;have⟨bD,_,an,_⟩:=r.2.jr;have g3:N E K.a 3 (.map (some K.mf)):=an.cell 3;have⟨w5,I,L,P⟩:=B.o.2.free.put underlying109 aW.o aY.o (.bool true);have bg:(Instr.mapUpdate 109 (.map (some K.mf)) (.int .i64 x) (.bool true)).run prog E=.ok () w5:=I;have⟨w,q⟩:=B.o.Fy af.o L P;rw[bh.o]at w;have av:=O w;have aP:=O (aN.o.it H V B.o q);have aQ:=O (ai.o.trans q.rows);have ay:=O (q.rows _ _ aO.o);clear r g an I L P w q;gi_wp2_with fail;go_roundw;exact⟨k+1,_,U,S,rfl,av,ay,aQ,aP⟩;exact M
    ·(obtain rfl:k=l_ l:=by omega);gi_wp2_with fail;refine rY (bp_ rfl _ _ _) rfl ?_;have bk:=aw.o;rw[ZW]at bk;obtain⟨t,d|d⟩:=aE.o;(.exact⟨b,t,rfl,bk,az.o,.inl ⟨d.1,TM (gV ao) ba bX.o d.2.1,d.2.2⟩⟩);.exact⟨b,t,rfl,bk,az.o,.inr d⟩
attribute [local go_sem] ba_
def Gx(K:FK)(L c:Nat)(a b:JT)(d:Y3 K a)(f:Y3 K b)(e:Bc K c L a b):∀(m:Nat)(N:I_)(F:Int->Bool)(pre:List (V_×I_))(W:W_),xL K.S N<m->TQ K a N F pre W-> z 198 #[K.p,.func (.yield L) #[] #[]] W (zR K W N F pre a b)
 |0,_,_,_,_,h,_=>absurd h U
 |m+1,N,F,pre,W,h,g=>PX K L c a b d f e N F pre W g λk fr' l i n j=>Gx K L c a b d f e m k fr' l i U j
def TQ.start{a:JT}(b:Fam K W [] (λ_=>true))(h:a [] W):TQ K a [] (λ_=>true) [] W:=⟨hd_,(Q (ZQ K.S [])),(λ_ h=>by cases h),(λ_ h=>by cases h),b,h⟩
def PY(K:FK)(W:W_):z 131 #[K.p] W λe a=>e=.returned (.func (.func 197) #[] #[.pointer W])/\a=W.alloc (.cells #[K.p] 205):=by go_in;go_wp2;go_ret;exact⟨rfl,rfl⟩
def M9(K:FK)(L i j:Nat)(c d:JT)(k:Y3 K c)(q:Y3 K d)(l:Bc K i L c d)(W:W_)(m:Fam K W [] (λ_=>true))(n:c [] W)(r:N W j 0 K.p):z 197 #[.func (.yield L) #[] #[],.pointer j] W λe o=>(∃v,e=.returned v)/\ ∃a:List (V_×I_),(JJ K.S [] (λ_=>true) (a.map (·.2))/\c a o)\/(Part K.S [] (λ_=>true) (a.map (·.2))/\d a o):=by have H:=(Gx K L i c d k q l (xL K.S []+1) [] (λ_=>true) [] W U (TQ.start m n));clear k q l m n;go_in;go_wp2_with fail;refine H.mono ?_;rintro e s ⟨b,a,rfl,_,_,h⟩;go_wp2;go_end0;refine⟨⟨_,rfl⟩,a,?_⟩;rcases h with⟨_,f,g⟩|⟨_,f,g⟩;(.exact .inl ⟨f,g⟩);.exact .inr ⟨f,g⟩
def acA(K:FK)(B:Nat)(I:JT)(i:Code->JT)(xs:List (V_×I_))(W:W_):Exit->Act->W_->Prop
 | .normal,_,w=>KeepsFrom B W w/\M8 K W w/\I xs w
 | .ret,_,w=>KeepsFrom B W w/\M8 K W w/\i .ret xs w
 | .exit d,_,w=>KeepsFrom B W w/\M8 K W w/\i (.exit d) xs w
 | .goto t,_,w=>KeepsFrom B W w/\M8 K W w/\i (.goto t) xs w
 | .panic _,_,_=>False
 | .outgrown,_,_=>False
def rJ{l:Nat}(a:Obj)(hl:K.base<=l)(h:W.heap[l]?=some o)(b:o.isCells=false):M8 K W (W.putObj l a):=by refine⟨by simp[World.putObj],λk _ c=>World.putObj_heap_other U,λk d f H=>?_⟩;by_cases e:k=l;(.subst e;rw[H]at h;injection h with h;subst h;cases b);.exact(World.putObj_heap_other e).trans H
def acB{n:I_}(a:Fam K A n F)(h:A.heap[k]?=some o)(b:o.isCells=false):some k≠jr K A:=by intro e;have⟨i,d,_,f⟩:=a.2.jr;rw[d]at e;rcases f.2 with⟨rfl,_⟩|⟨g,cap,j,rfl,_,c,_⟩;(.cases e);.obtain rfl:k=g:=Ch e;rw[c]at h;injection h with h;subst h;cases b
def CY.record{B:W_}{n:I_}(a:Fam K A n f)(b:CY K A B)(c:K.base<=k)(h:A.heap[k]?=some o)(d:o.isCells=false):B.heap[k]?=some o:=(b.same k (yZ.1 h).1 (.inr c) (acB a h d)).trans h
def acC{n:I_}(a:Fam K A n f)(g:Nat)(e:jr K A=some g):g<A:=by have⟨d,b,_,c⟩:=a.2.jr;exact(c.lt g (b.symm.trans e)).2
def Xo{g:Operand}{assign body:Code}{Q:Exit->Act->W_->Prop}{a:Act}(K:FK)(X:Nat)(am:1<=n)(an:a.eval g=.func (.func 197) #[] #[.pointer X])(au:ps.size=1)(af:Fam K w [] (λ_=>true))(aj:N w X 0 K.p)(I:JT)(Z:Code->JT)(M:OwnFrom w I)(R:∀c,OwnFrom w (Z c))(av:Y3 K I)(aE:∀c,Y3 K (Z c))(ao:I [] w)(ag:V_->Act)
 (aI:∀(l:Nat)(u:V_)(W:W_)(ah:Act->W_->Prop),ah (ag u) W->
  assign.wpIn (Fence.wide.inRound l) (n-1-1) prog (Exit.then ah (λ_ _ _=>False)) {tmps:=(ps.zip #[u]).foldl (λt (p,v)=>t.setIfInBounds p v) a.tmps,defers:=[]} W)
 (aF:∀(l:Nat)(pre:List (V_×I_))(u:V_)(T:I_)(W:W_),w<=l->I pre W->za K W u T->l_ T<=1000000->(∀g,jr K W=some g->g<W)->body.wpIn (Fence.wide.inRound l) (n-1-1) prog (acA K w I Z (pre++[(u,T)]) W) (ag u) W)
 (aG:∀(D:Nat)(k:List (V_×I_))(W:W_),w<=D->JJ K.S [] (λ_=>true) (k.map (·.2))->I k W->W.heap[D]?=some (.deferred (some []))->Q .normal {a with defers:={target:= .collected D,args:= #[]}::a.defers} W)
 (aH:∀(D:Nat)(c:Code)(k:List (V_×I_))(W:W_),w<=D->Part K.S [] (λ_=>true) (k.map (·.2))->Z c k W->W.heap[D]?=some (.deferred (some []))->c.wpIn Fence.wide n prog Q {a with defers:={target:= .collected D,args:= #[]}::a.defers} W):
 (Code.rangeFunc g ps assign body).wpIn Fence.wide n prog Q a w:=by
 refine wpIn_rangeFunc ?_
 intro fn aw
 have⟨b,j⟩:∃b:LoopState->Option Code->Loop,b=λst ap=>{state:=st,pending:=ap,fn,tmps:=a.tmps,params:=ps,assign,body,defers:=w.heap.size}:=⟨_,rfl⟩
 have⟨m,O⟩:=e_ ((w.alloc (.deferred (some []))).alloc (.loop (b .ready none)))
 have aL:=af.1.rng.2
 have ax:m.heap[w.heap.size+1]?=some (.loop (b .ready none)):=by rw[<-O];have:=World.alloc_heap_new (w.alloc (.deferred (some []))) (.loop (b .ready none));rwa[World.size_alloc]at this
 have ay:m.heap[w.heap.size]?=some (.deferred (some [])):=by rw[<-O];exact(OH _ _ _ S).trans (World.alloc_heap_new w _)
 have az:I [] m:=by rw[<-O];exact M.alloc _ (M.alloc _ ao)
 have ak:G w m:=by rw[<-O];exact((fu _ w).alloc (gH _) _).alloc S _
 refine⟨w.heap.size+1,[{target:= .collected w,args:= #[]}],m,{target:= .fn (.func 197) #[.pointer X],args:= #[.func (.yield (w+1)) #[] #[]]},m,197,#[.func (.yield (w+1)) #[] #[]]++ #[.pointer X],m,?_,?_,λ_ _=>trivial,?_,λ_=>am,(yY).2 ?_⟩
 .rw[<-O,j];exact run_enterLoop_outer _ _ _ _ _
 .simp only[resolve,an];simp[go_sem]
 .simp[invoke,go_sem]
 .refine(M9 K (w+1) (n-1-1) X (λpre W=>I pre W/\W.heap[w.heap.size+1]?=some (.loop (b .ready none))/\W.heap[w.heap.size]?=some (.deferred (some []))) (λpre W=>∃c,Z c pre W/\W.heap[w.heap.size+1]?=some (.loop (b .done (some c)))/\W.heap[w.heap.size]?=some (.deferred (some []))) (λs A B J V Y r x=>⟨av s A B J V Y.1 r x,x.record r U Y.2.1 rfl,x.record r U Y.2.2 rfl⟩) (λs A B J V ⟨c,hc,hl,o⟩ r x=>⟨c,aE c s A B J V hc r x,x.record r U hl rfl,x.record r U o rfl⟩) ?_ m (af.up ak).1 ⟨az,ax,ay⟩ ((ak.cell (zK _ _ aj)).trans aj)).mono ?_
  .rintro pre u T W J V ⟨hi,hl,o⟩ al aA aq
   have aB:w.heap.size+1<W.heap.size:=(yZ.1 hl).1;have ae:=run_yield (P:=prog) (args:= #[u]) hl (by rw[j];exact au.symm);rw[j]at ae;refine⟨fn,_,assign,body,ae,roundIn_of_wpIn aw (aI _ u W _ ?_)⟩;clear ae;refine⟨_,run_beginRound hl (by rw[j]),?_⟩;have hl2:(W.putObj (w+1) (.loop {b .ready none with state:= .busy})).heap[w.heap.size+1]?=some (.loop {b .ready none with state:= .busy}):=World.putObj_heap_same aB;have aC:(W.putObj (w+1) (.loop {b .ready none with state:= .busy})).heap[w.heap.size]?=some (.deferred (some [])):=(World.putObj_heap_other U).trans o;have L:M8 K W (W.putObj (w+1) (.loop {b .ready none with state:= .busy})):=rJ _ U hl rfl;refine wpIn_mono (aF _ pre u T _ U (M.putObj _ hi U hl rfl) (M8.rows al L _ _ aA) aq (acC (al.kp L).1)) ?_;(have z:∀(h:Option Code)(f:W_),KeepsFrom w (W.putObj (w+1) (.loop {b .ready none with state:= .busy})) f-> (Instr.endRound (w+1) h).run prog f=.ok (.bool h.isNone) (f.putObj (w+1) (.loop (b (if h.isNone then .ready else .done) h)))/\ f.heap[w.heap.size+1]?=some (.loop {b .ready none with state:= .busy})/\ (f.putObj (w+1) (.loop (b (if h.isNone then .ready else .done) h))).heap[w.heap.size+1]?=some (.loop (b (if h.isNone then .ready else .done) h))/\ (f.putObj (w+1) (.loop (b (if h.isNone then .ready else .done) h))).heap[w.heap.size]?=some (.deferred (some [])):=λh f i=>by have d:=i.same _ _ U hl2 rfl;have:=run_endRound (P:=prog) h d;rw[j]at this ⊢;exact⟨this,by rwa[j]at d,World.putObj_heap_same (yZ.1 d).1,(World.putObj_heap_other U).trans (i.same _ _ (gH _) aC rfl)⟩);rintro e a3 f H
   cases e with
   |normal=>
    obtain⟨i,F,y⟩:=H;have⟨q,d,C,E⟩:=z none f i;exact⟨_,_,q,(L.trans F).trans (rJ _ U d rfl),.inl ⟨rfl,M.putObj _ y U d rfl,C,E⟩⟩
   |ret=>
    obtain⟨i,F,y⟩:=H;have⟨q,d,C,E⟩:=z (some .ret) f i;exact⟨_,_,q,(L.trans F).trans (rJ _ U d rfl),.inr ⟨rfl,.ret,(R _).putObj _ y U d rfl,C,E⟩⟩
   |exit ai=>
    obtain⟨i,F,y⟩:=H;have⟨q,d,C,E⟩:=z (some (.exit ai)) f i;exact⟨_,_,q,(L.trans F).trans (rJ _ U d rfl),.inr ⟨rfl,.exit ai,(R _).putObj _ y U d rfl,C,E⟩⟩
   |goto t=>
    obtain⟨i,F,y⟩:=H;have⟨q,d,C,E⟩:=z (some (.goto t)) f i;exact⟨_,_,q,(L.trans F).trans (rJ _ U d rfl),.inr ⟨rfl,.goto t,(R _).putObj _ y U d rfl,C,E⟩⟩
   |panic aJ=>exact H.elim
   |outgrown=>exact H.elim
  .rintro e aK ⟨⟨v,rfl⟩,k,(⟨ar,hi,hl,o⟩|⟨aD,c,hi,hl,o⟩)⟩;(.exact⟨none,_,by have:=run_endLoop (P:=prog) hl (by rw[j];simp);rwa[j]at this,aG _ k _ (gH _) ar (M.putObj _ hi U hl rfl) ((World.putObj_heap_other U).trans o)⟩);.exact⟨some c,_,by have:=run_endLoop (P:=prog) hl (by rw[j];simp);rwa[j]at this,aH _ c k _ (gH _) aD ((R c).putObj _ hi U hl rfl) ((World.putObj_heap_other U).trans o)⟩
def Eb{S:H_}(H:j6 L)(h:D8 L S):∀(n:Nat)(l:I_),l_ l<=n->l∈L->∃s∈S,∀x∈s,x∈l
 |0,l,d,hl=>⟨l,(h.2 l).2 ⟨hl,λt _ a=>by have:=a.1;omega⟩,λ_ h=>h⟩
 |n+1,l,d,hl=>by
  by_cases c:∃t∈L,rC t l;(.obtain⟨t,a,b⟩:=c;obtain⟨s,e,g⟩:=Eb H h n t (by have:=b.1;omega) a;exact⟨s,e,λx f=>b.2 x (g x f)⟩);.exact⟨l,(h.2 l).2 ⟨hl,λt a b=>c ⟨t,a,b⟩⟩,λ_ h=>h⟩
def VG{S:H_}(H:j6 L)(h:D8 L S)(T:I_):EW S T↔EW L T:=by(have hb:=λl hl=>Eb H h (l_ l) l (gH _) hl);constructor;(.rintro⟨e,c,f⟩;refine⟨e,λl hl=>?_,λx b=>?_⟩;(.obtain⟨s,a,d⟩:=hb l hl;obtain⟨x,b,k⟩:=c s a;exact⟨x,d x b,k⟩);.obtain⟨s,a,r⟩:=f x b;exact⟨s,((h.2 s).1 a).1,r⟩);.rintro⟨e,c,f⟩;refine⟨e,λs a=>c s ((h.2 s).1 a).1,λx b=>?_⟩;obtain⟨l,hl,o,g⟩:=f x b;obtain⟨s,a,d⟩:=hb l hl;obtain⟨y,i,m⟩:=c s ((h.2 s).1 a).1;have:=g y (d y i) m;subst this;exact⟨s,a,i,λz j n=>g z (d z j) n⟩
def wH(L N:H_):Prop:=N.Pairwise vk/\∀T,T∈N↔EW L T
def wH.unique{M N:H_}(a:wH L M)(b:wH L N):M=N:=nL a.1 b.1 λx=>(a.2 x).trans (b.2 x).symm
def ZY{S:H_}:QM S [] (λ_=>true) T↔EW S T:=⟨λh=>h.1,λh=>⟨h,λ_ h=>(by cases h),λ_ _=> .inr rfl⟩⟩
def Db(L:H_)(most:Int):Prop:=j6 L/\0<=most/\most<=256
def PZ(w:W_)(L:H_)(most:Int)(e:E_)(w':W_):Prop:=
 ∃v M c,e=.returned (.tuple #[v,.int .i64 c])/\SS w' v M/\G w w'/\
  ((¬Db L most/\M=[]/\c=1)\/(Db L most/\wH L M/\(l_ M:Int)<=most/\c=0)\/
    (Db L most/\M=[]/\c=2/\∃P:H_,P.Nodup/\(∀T∈P,EW L T)/\most<l_ P))
def cells_of_cell(h:w.cell? a=some v):∃o,w.heap[a.block]?=some o/\o.isCells=true:=by
 unfold World.cell? at h
 cases hb:w.heap[a.block]? with
 |none=>rw[hb]at h;simp at h
 |some o=>
  rw[hb]at h
  cases o with
  |cells b t c=>exact⟨_,rfl,rfl⟩
  |_=>simp at h
def SI.obj(h:SI w u l)(e:u=.slice (some a) n c)(d:0<n):∃o,w.heap[a.block]?=some o/\o.isCells=true:=by obtain⟨A,m,H,_,_,f⟩:=h.form;rw[e]at H;injection H with g i p;subst g i;obtain⟨b,q,hb,_,k⟩:=f d;injection hb with hb;obtain⟨x,j⟩:=get_some d;have:=cells_of_cell (k 0 x j);rwa[hb]
def yL{size:Nat}(h:w.ownsRow B e size v n xs)(a:v.ownBlock=some g):∃b,w.heap[g]?=some (.cells b e (0,0)):=by rcases h.2 with⟨rfl,_⟩|⟨c,cap,f,rfl,hb,d,_⟩;(.cases a);.obtain rfl:c=g:=Ch a;exact⟨_,d⟩
structure ze(w:W_)(K:FK)(most:Int)(pre:List (V_×List Int))(W:W_):Prop where
 low:G w W
 b1:f_ W w 3 #[most]
 b3:f_ W (w+1+1) 36 #[V 0]
 cnt:(l_ pre:Int)<=most
 big:K.base<=W
 row:∃vx,f_ W (w+1) 35 #[vx]/\kD W K.base vx pre/\(∀p∈pre,Gn K.base p.1/\Apart p.1 (jr K W))/\∀g,vx.ownBlock=some g->jr K W≠some g
def ze.move{pre:List (V_×I_)}(h:ze w K most pre W)(B:b.os=W.os)(C:b.tape=W.tape)(E:b.output=W.output)(r:(W:Nat)<=b)(q:∀k,k<w.heap.size+3->b.heap[k]?=W.heap[k]?)(A:∀k o,K.base<=k->W.heap[k]?=some o->o.isCells=true->some k≠jr K W->b.heap[k]?=some o)(P:jr K b=jr K W\/∃k,W.heap.size<=k/\jr K b=some k):ze w K most pre b:=by obtain⟨F,R,i,m,s⟩:=h.row;(have u:∀k,k<W.heap.size->jr K W≠some k->jr K b≠some k:=λk t L e=>by rcases P with f|⟨j,T,f⟩;(.exact L (f.symm.trans e));.rw[f]at e;injection e with e;omega);(have v:∀p∈pre,SI b p.1 p.2/\Apart p.1 (jr K b):=λp d=>by refine⟨(i.2 p d).1.block r λa n c e f=>?_,λa n c e f H=>u a.block ((i.2 p d).1.block_lt e f) (λI=>(m p d).2 a n c e f I.symm) H.symm⟩;obtain⟨o,x,z⟩:=(i.2 p d).1.obj e f;rw[A _ o ((m p d).1 a n c e f) x z ((m p d).2 a n c e f),x]);refine⟨⟨B.trans h.low.os,C.trans h.low.tape,E.trans h.low.output,gY h.low.size r,λk t=>(q k U).trans (h.low.block k t)⟩,h.b1.block (q _ U),h.b3.block (q _ U),h.cnt,gY h.big r,F,R.block (q _ U),⟨iF i.1 λg l=>?_,λp d=>⟨(v p d).1,(i.2 p d).2⟩⟩,λp d=>⟨(m p d).1,(v p d).2⟩,λg l=>u g (i.1.lt g l).2 (s g l)⟩;obtain⟨X,y⟩:=yL i.1 l;rw[A g _ (i.1.lt g l).1 y rfl (λe=>s g l e.symm),y]
def ze.it(hb:w.heap.size+3<=K.base0):Y3 K (ze w K most):=by intro s A B n F h b a;refine h.move a.os a.tape a.output a.size (λk c=>a.same k ?_ (.inl U) λe=>?_) (λk o c d H g=>(a.same k (yZ.1 d).1 (.inr c) g).trans d) a.now;(.have:=b.1.rng;omega);.obtain⟨j,i,_,f⟩:=b.2.jr;have l:=(f.lt k (i.symm.trans e.symm)).1;have:=b.1.rng;omega
def VH(h:b.heap[K.a]?=W.heap[K.a]?):jr K b=jr K W:=by unfold jr;rw[EH (w:=W) (a:=a_ K.a 4) h]
def ze.own(hb:w.heap.size+3<=K.base0)(l:K.a<K.base)(a:K.base<=B)(p:K.base0<=K.base):OwnFrom B (ze w K most):=by intro s W m row h b f;(have i:∀k,k<K.base->some k≠row:=λk g e=>by have:=(f k e.symm).1;omega);have q:=h.big;refine h.move b.os b.tape b.output b.size (λk g=>b.block k U (i k U)) (λk o g d H _=>(b.block k (yZ.1 d).1 λe=>?_).trans d) (.inl (VH (b.block _ U (i _ l))));obtain⟨_,n,c,j⟩:=f k e.symm;rw[d]at c;injection c with c;subst c;rw[H]at j;cases j
def Gy:∀(n:Nat)(U:I_),l_ U<=n->Inc U->(∀s∈L,∃x∈s,x∈U)->∃H,EW L H/\∀x∈H,x∈U
 |0,U,g,hi,c=>by
  have:U=[]:=Jg U_;subst this;exact⟨[],⟨hi,c,λx b=>(by cases b)⟩,λ_ h=>h⟩
 |n+1,U,g,hi,c=>by
  by_cases q:∀x∈U,∃s∈L,x∈s/\∀y∈s,y∈U->y=x;.exact⟨U,⟨hi,c,q⟩,λ_ h=>h⟩
  .obtain⟨x,b⟩:=io_.1 q
   obtain⟨k,b⟩:=ip_.1 b;have o:l_ (U.filter λy=>decide (y≠x))<l_ U:=by rcases Ke (l_ (U.filter λy=>decide (y≠x))) (l_ U) with h|h;(.exact h);.have p:=OA (λy=>decide (y≠x)) U;have:=(fx_.1 (fh_.eq_of_length_le h)) x k;simp at this
   obtain⟨H,i,j⟩:=Gy n (U.filter λy=>decide (y≠x)) U_ (hi.filter _) (λs e=>by
    by_cases f:x∈s;.refine Mx λl=>b ⟨s,e,f,λy a d=>Mx λm=>l ⟨y,a,y5.2 ⟨d,Q m⟩⟩⟩
    .obtain⟨y,a,d⟩:=c s e
     exact⟨y,a,y5.2 ⟨d,by simp;rintro rfl;exact f a⟩⟩)
   exact⟨H,i,λy a=>(y5.1 (j y a)).1⟩
def P7:I_:=(List.range 1024).map λn:Nat=>(n:Int)
def Z0:Inc P7:=by unfold Inc P7;exact List.Pairwise.map _ (λa b h=>U) List.pairwise_lt_range
theorem Z4:x∈P7↔0<=x/\x<=1023:=by unfold P7;rw[pq];constructor;(.grind);.rintro⟨b,c⟩;exact⟨x.toNat,cn_.2 U,U⟩
open Classical in
def Z5{L:H_}(hv:j6 L)(p:Int->Prop)(h:∀s∈L,∃x∈s,p x):∃H,EW L H/\∀x∈H,p x:=by
 obtain⟨H,c,d⟩:=Gy (L:=L) _ (P7.filter λx=>decide (p x)) (gH _) (Z0.filter _) (λs b=>by
  obtain⟨x,a,e⟩:=h s b
  exact⟨x,a,y5.2 ⟨Z4.2 ((hv s b).1 x a),Q e⟩⟩)
 exact⟨H,c,λx a=>by simpa using(y5.1 (d x a)).2⟩
def uH(l:List α)(k:Nat)(x:α):List α:=l.take k++x::l.drop k
def K7(l:List α)(x:α):uH l (l_ l) x=l++[x]:=by simp[uH]
def K8{a:Type}(f:α->a)(l:List α)(k:Nat)(x:α):(uH l k x).map f=uH (l.map f) k (f x):=by simp[uH]
def La(l:List α)(k:Nat)(x:α)(a:k<=l_ l):l_ (uH l k x)=l_ l+1:=by simp[uH];omega
theorem Lb{l:List α}{x:α}(b:k<=l_ l){u:α}(h:(uH l k x)[j]?=some u):(j<k/\l[j]?=some u)\/(j=k/\u=x)\/(k<j/\(l.drop k)[j-(k+1)]?=some u):=by unfold uH at h;grind
theorem qM{a:A_}(b:w.heap[g]?=some (.cells a e (0,0)))(hb:base<=g)(d:n<=cap)(f:cap<=m_)(h:a.size=cap)(hl:l_ xs=n)(H:∀j u,xs[j]?=some u->N w g j u):w.ownsRow base e 1 (.slice g n cap) n xs:=by refine⟨U,.inr ⟨g,cap,a,rfl,hb,b,d,f,U,?_⟩⟩;apply cf_;intro j;rw[YW];by_cases i:j<n;(.rw[P_ U];have⟨u,c⟩:=get_some (l:=xs) (k:=j) U;have:=H j u c;rw[dc_ w g j a e (0,0) b]at this;grind);grind
def f_.sets{t:T_}:∀(V:O_)(o:Nat){w:W_}{a:A_},f_ w g t a->∃b,f_ (w.setCells g o V) g t b/\b.size=a.size
 |[],_,_,a,h=>⟨a,h,rfl⟩
 |v::V,o,w,a,h=>by
  have⟨b,c,d⟩:=f_.sets V (o+1) (h.iK o v);exact⟨b,c,by rw[d];simp⟩
def vG:∀(V:O_)(o:Nat){w w':W_},w.grownBy w' (some g)->w.grownBy (w'.setCells g o V) (some g)
 |[],_,_,_,h=>h
 |v::V,o,w,w',h=>vG V (o+1) ⟨h.os,h.tape,h.output,by rw[size_set];exact h.size,λk b a=>(fI w' _ v (λe=>a (by rw[e]))).trans (h.block k b a)⟩
def TR{o:Option Nat}(h:w.grownBy w' none):w.grownBy w' o:=⟨h.os,h.tape,h.output,h.size,λk a _=>h.block k a S⟩
def rM(a:w<=g):∀(V:O_)(o:Nat){w':W_},w.grownBy w' none->w.grownBy (w'.setCells g o V) none
 |[],_,_,h=>h
 |v::V,o,w',h=>rM a V (o+1) ⟨h.os,h.tape,h.output,by rw[size_set];exact h.size,λk b _=>(fI w' _ v (λe=>by simp only at e;omega)).trans (h.block k b S)⟩
def VI(E:T_)(w:W_)(base:Nat)(v:V_)(xs:O_)(e:E_)(w':W_):Prop:=∃v',e=.returned v'/\w'.ownsRow base E 1 v' (l_ xs) xs/\w.grownBy w' v.ownBlock
def vH(n:Nat):(Builtin.zeroCells (Value.int .i64 0).cells n).size=n:=by have:(Value.int .i64 0).cells.size=1:=rfl;simp[Builtin.zeroCells,this]
theorem zx(w:W_)(base:Nat)(e:T_)(xs:O_)(n G:Nat)(Z:A_)(b:l_ xs=n)(c:n<=G)(d:G<=m_)(g:Z.size=G-n)(hb:base<=w):(w.alloc (.cells (xs.toArray++Z) e)).ownsRow base e 1 (.slice w n G) n xs:=by refine qM (de_ w _) hb c d (by grind) b (λj u a=>?_);have f:=(jv.1 a).1;rw[ji,df_ (Q f)];grind
def TS(h:w.grownBy w' r):w.grownBy w'.drew r:=⟨h.os,h.tape,h.output,h.size,h.block⟩
def Dc(w:W_)(o:Obj):w.grownBy (w.alloc o).drew none:=⟨rfl,rfl,rfl,S,λk a _=>OH w o k a⟩
def uI(w:W_)(o:Obj)(r:Option Nat):w.grownBy (w.drew.alloc o) r:=⟨rfl,rfl,rfl,S,λk a _=>OH w.drew o k a⟩
theorem P9(base:Nat)(v:V_)(l:I_)(k:Nat)(x:Int)(f:Nat)(w:W_)(h:w.ownsRow base 3 1 v (l_ l) (l.map iV))(C:k<=l_ l)(hl:l_ l<=1000000)(E:f_ w f 3 #[iV x])(Y:v.ownBlock≠some f)(T:base<=w):z 53 #[v,k,.slice f 1 1] w (VI 3 w base v ((uH l k x).map iV)):=by
 (have q:l_ ((uH l k x).map iV)=l_ l+1:=by rw[qm,La l k x C]);(have s:∀(j:Nat)(u:V_),[iV x][j]?=some u->N w f (0+j) u:=λj u b=>by rw[Jc,E.cell j];grind);(have B:∀u∈[iV x],u.oneCell'=true:=λu d=>by rw[gW.1 d];rfl);(have M:∀u∈l.map iV,u.oneCell'=true:=λu d=>by obtain⟨y,_,rfl⟩:=pq.1 d;rfl);(have K:∀(m c:Nat),m<=1000001->m<=grownCap w m c 3/\grownCap w m c 3<=m_:=λm c r=>⟨grownCap_ge _ _ _ _,dg_ _ _ _ _ (by simp only[m_];omega)⟩);rcases h.2 with⟨rfl,R⟩|⟨g,cap,Z,hv,hb,W,X,r,ak,al⟩;.have af:l=[]:=Jg R;subst af;obtain rfl:k=0:=Q C;refine(Any2.slices_Insert_int_end_grow Tryz.qb none 0 0 f 0 1 1 [] [iV x] w U U U U rfl rfl (λ_=>rfl) (λa e=>by cases e) s B).mono ?_;rintro e w' ⟨rfl,rfl⟩;have n:=K (0+1) 0 U;exact⟨_,rfl,zx w.drew base 3 [iV x] 1 _ _ rfl n.1 n.2 (vH _) T,uI _ _ _⟩
 .subst hv
  have o:f_ w g 3 Z:=W;(have t:∀(j:Nat)(u:V_),(l.map iV)[j]?=some u->N w g (0+j) u:=λj u b=>by have:=h.cells (g:=g) rfl j u b;rwa[add_lit]at this);(have ag:g≠f:=λe=>Y (by rw[e];rfl));rcases Ke k (l_ l) with L|L
  .rcases Ke cap (l_ l+1) with hc|hc
   .refine(Any2.slices_Insert_int_grow Tryz.qb g 0 (l_ l) cap k f 0 1 1 (l.map iV) [iV x] w L U X hc U S rfl t s M B).mono ?_
    rintro e w' ⟨rfl,rfl⟩;have n:=K (l_ l+1) cap U;refine⟨_,rfl,?_,TR ?_⟩
    .rw[q]
     have⟨A,H⟩:∃A:A_,((l.map iV).take k).toArray++Builtin.zeroCells (Value.int .i64 0).cells (l_ l+1-k)++Builtin.zeroCells (Value.int .i64 0).cells (grownCap w (l_ l+1) cap 3-(l_ l+1))=A:=⟨_,rfl⟩;(have O:A.size=grownCap w (l_ l+1) cap 3:=by rw[<-H,dh_,dh_,vH,vH];grind);(have ah:∀j u,j<k->(l.map iV)[j]?=some u->A[j]?=some u:=λj u b d=>by(have ai:j<(((l.map iV).take k).toArray).size:=by grind);grind);show World.ownsRow ((((w.alloc (.cells (((l.map iV).take k).toArray++Builtin.zeroCells (Value.int .i64 0).cells (l_ l+1-k)++Builtin.zeroCells (Value.int .i64 0).cells (grownCap w (l_ l+1) cap 3-(l_ l+1))) 3)).drew.setCells w k [iV x]).drew.setCells w (k+1) ((l.map iV).drop k))) base 3 1 _ _ _;rw[H];have G:f_ (w.alloc (.cells A 3)).drew w 3 A:=f_.new w 3 A;have⟨I,D,s2⟩:=G.sets [iV x] k;have⟨V,J,s3⟩:=(show f_ ((w.alloc (.cells A 3)).drew.setCells w k [iV x]).drew w 3 I from D).sets ((l.map iV).drop k) (k+1);refine qM J T n.1 n.2 (by rw[s3,s2,O];rfl) q (λj u b=>?_);rw[K8]at b;rcases Lb (Q C) b with⟨F,d⟩|⟨rfl,rfl⟩|⟨F,d⟩;(.rw[di_ _ _ _ _ _ (λ_ _=> .inl (by grind))];show World.cell? ((w.alloc (.cells A 3)).drew.setCells w k [iV x]) _=_;rw[di_ _ _ _ _ _ (λ_ _=> .inl (by grind))];exact(G.cell j).trans (ah j u F d));.rw[di_ _ _ _ _ _ (λ_ _=> .inl (by grind))];have:=(G.iK j (iV x)).cell j;refine this.trans ?_;rw[dj_ U]
     .have p:=(jv.1 d).1
      have:=World.cell?_setCells_in w ((l.map iV).drop k) (k+1) ((w.alloc (.cells A 3)).drew.setCells w k [iV x]).drew (λi hi=>by
       show(World.cell? ((w.alloc (.cells A 3)).drew.setCells w k [iV x]) _).isSome=true
       rw[D.cell,Za (by grind)];rfl) (j-(k+1)) p
      have P:k+1+(j-(k+1))=j:=U;rw[P]at this;rw[this];exact(jv.1 d).2 ▸ rfl
    .exact rM (gH _) _ _ (TS (rM (gH _) _ _ (Dc w _)))
   .refine(Any2.slices_Insert_int_shift Tryz.qb g 0 (l_ l) cap k f 0 1 1 (l.map iV) [iV x] w L U hc r (cv_ ag) S rfl t (λj b=>?_) (λj b=>o.frozen _) s M B 3 3 1 cap ?_ ?_ U (E.frozen _) (E.frozen _)).mono ?_
    (.rw[o.cell,Za U];rfl);(.unfold World.shape?;rw[show w.heap[f]?=_ from E];rfl);(.unfold World.shape?;grind);rintro e w' ⟨rfl,rfl⟩;refine⟨_,rfl,?_,vG _ _ (vG _ _ ⟨rfl,rfl,rfl,gH _,λ_ _ _=>rfl⟩)⟩;rw[q];have G:f_ w.drew g 3 Z:=o;have⟨I,D,s2⟩:=G.sets ((l.map iV).drop k) (0+(k+1));have⟨V,J,s3⟩:=D.sets [iV x] (0+k);refine qM J hb hc r U q (λj u b=>?_);rw[K8]at b;rcases Lb (Q C) b with⟨F,d⟩|⟨rfl,rfl⟩|⟨F,d⟩;(.rw[di_ _ _ _ _ _ (λ_ _=> .inl (by grind)),di_ _ _ _ _ _ (λ_ _=> .inl (by grind))];have:=t j u d;rwa[Jc]at this);.have:=(D.iK (0+j) (iV x)).cell j;refine this.trans ?_;rw[Jc,dj_ U]
    .have p:=(jv.1 d).1
     rw[di_ _ _ _ _ _ (λ_ _=> .inr (by grind))]
     have:=World.cell?_setCells_in g ((l.map iV).drop k) (0+(k+1)) w.drew (λi hi=>by
      rw[G.cell,Za (by grind)];rfl) (j-(k+1)) p
     have P:0+(k+1)+(j-(k+1))=j:=U;rw[P]at this;rw[this];exact(jv.1 d).2 ▸ rfl
  ·(obtain rfl:k=l_ l:=by omega);rcases Ke cap (l_ l+1) with hc|hc;(.refine(Any2.slices_Insert_int_end_grow Tryz.qb g (l_ l) cap f 0 1 1 (l.map iV) [iV x] w U X hc U S rfl (λe=>by cases e) (λa e j u b=>by cases e;rw[add_lit];grind) s B).mono ?_;rintro e w' ⟨rfl,rfl⟩;have n:=K (l_ l+1) cap U;refine⟨_,rfl,?_,uI _ _ _⟩;rw[q,K7,wO];exact zx w.drew base 3 (l.map iV++[iV x]) (l_ l+1) _ _ S n.1 n.2 (vH _) T);.refine(Any2.slices_Insert_int_end_room Tryz.qb g 0 (l_ l) cap f 0 1 1 [iV x] w U hc r rfl (λj b=>?_) (λj b=>o.frozen _) s B).mono ?_;(.rw[o.cell,Za U];rfl);.rintro e w' ⟨rfl,rfl⟩;refine⟨_,rfl,?_,vG _ _ (R8 _ _)⟩;rw[q,K7,wO];have⟨I,D,s2⟩:=o.sets [iV x] (0+l_ l);refine qM D hb hc r U S (λj u b=>?_);rcases Ke j (l_ l) with p|p;(.rw[cz_ (Q p)]at b;rw[di_ _ _ _ _ _ (λ_ _=> .inl (by grind))];grind);.have aj:=(jv.1 b).1;simp at aj;obtain rfl:j=l_ l:=U;rw[db_ S]at b;simp at b;have:=(o.iK (0+l_ l) (iV x)).cell (l_ l);refine this.trans ?_;rw[Jc,dj_ U,<-b]
def zy(l:I_)(x:Int):Nat:=l.countP λy=>decide (y<x)
def Z6(l:I_)(x:Int):zy l x<=l_ l:=List.countP_le_length
theorem Na(v:V_)(l:I_)(x:Int)(w:W_)(h:SI w v l)(d:Inc l)(hl:l_ l<=1000000):z 52 #[v,x] w λe w'=>∃b:Bool,e=.returned (.tuple #[(zy l x),b])/\G w w':=by obtain⟨A,c,rfl,H,n,f⟩:=h.form;by_cases g:l_ l=0;(.have:l=[]:=Jg g;subst this;refine(Tryz.slices_BinarySearch_int_empty A c x w).mono ?_;rintro e w' ⟨rfl,rfl⟩;exact⟨false,rfl,fu _ _⟩);.obtain⟨b,k,rfl,hb,m⟩:=f U;refine(Tryz.slices_BinarySearch_int b k (l_ l) c l x w (gH _) U (λj i=>?_) ?_).mono ?_;(.grind);(.rw[jy];exact d.imp (λh=>U));.rintro e w' ⟨rfl,q,rfl⟩;rw[jy];exact⟨_,rfl,oD (fu _ _) q⟩
end
section
variable{Bd:(Int->Prop)->Prop}{U:I_}
def sw(Bd:(Int->Prop)->Prop):Prop:=∀S T:Int->Prop,(∀x,S x->T x)->Bd S->Bd T
def jh(Bd:(Int->Prop)->Prop)(U T:I_):Prop:=Inc T/\(∀x∈T,x∈U)/\Bd (·∈T)/\∀x∈T,¬Bd λy=>y∈T/\y≠x
def Clear(Bd:(Int->Prop)->Prop)(U H:I_):Prop:=¬Bd λy=>y∈U/\y∉H
def Clear.more(b:sw Bd){H K:I_}(h:Clear Bd U H)(c:∀x∈H,x∈K):Clear Bd U K:=λhb=>h (b _ _ (λy a=>⟨a.1,λd=>a.2 (c y d)⟩) hb)
theorem Xp(f:sw Bd){F C:I_}(a:jh Bd U F)(b:jh Bd U C)(c:∀x∈F,x∈C):F=C:=by refine kV a.1 b.1 λx=>⟨c x,λg=>Mx λh=>b.2.2.2 x g (f _ _ (λy d=>⟨c y d,λe=>h (by grind)⟩) a.2.2.1)⟩
def lX:I_->Int->I_
 |[],n=>[n]
 |x::l,n=>if n<x then n::x::l else if n=x then x::l else x::lX l n
def rO(n z:Int):∀l:I_,z∈lX l n↔z∈l\/z=n
 |[]=>by simp[lX]
 |x::l=>by
  unfold lX;by_cases a:n<x;(.rw[P_ a];simp only[jL];constructor;(.rintro(h|h|h);(.exact .inr h);(.exact .inl (.inl h));.exact .inl (.inr h));.rintro((h|h)|h);(.exact .inr (.inl h));(.exact .inr (.inr h));.exact .inl h);.by_cases b:n=x;(.rw[C_ a,P_ b,b];simp only[jL];constructor;(.exact .inl);.rintro(h|h);(.exact h);.exact .inl h);.rw[C_ a,C_ b,jL,rO n z l,jL,Y0]
theorem Bg(n:Int):∀{l:I_},Inc l->Inc (lX l n)
 |[],_=>by simp[lX]
 |x::l,h=>by
  obtain⟨b,d⟩:=EI.1 h;unfold lX;by_cases g:n<x;(.rw[P_ g];refine EI.2 ⟨λz a=>?_,h⟩;grind);.by_cases c:n=x;(.grind);.rw[C_ g,C_ c];refine EI.2 ⟨λz a=>?_,Bg n d⟩;rcases(rO n z l).1 a with a|rfl;(.grind);.omega
inductive zf(E:List (List Int))(H:List Int):List Int->Nat->Prop
 |here:zf E H H (l_ E)
 |hit {X:I_} {m:Nat} {s:I_}:E[m]?=some s->(∃x∈s,x∈X)->zf E H X (m+1)->zf E H X m
 |add {X:I_} {m:Nat} {s:I_} {i:Int}:E[m]?=some s->(¬∃x∈s,x∈X)->i∈s->EW (E.take (m+1)) (lX X i)->zf E H (lX X i) (m+1)->zf E H X m
def zf.sub(h:zf E H X m):∀x∈X,x∈H:=by
 induction h with
 |here=>exact λ_ h=>h
 |hit _ _ _ a=>exact a
 |add _ _ _ _ _ a=>exact λx b=>a x ((rO _ _ _).2 (.inl b))
def zf.aeb(h:zf E H X m)(a:E[m]?=some s)(c:∃x∈s,x∈X):zf E H X (m+1):=by
 cases h with
 |here=>rw[Wz (gH _)]at a;cases a
 |hit _ _ h=>exact h
 |add b d=>rw[a]at b;injection b with e;subst e;exact absurd c d
def zf.aec(h:zf E H X m)(b:E[m]?=some s)(c:¬∃x∈s,x∈X):∃i∈s,EW (E.take (m+1)) (lX X i)/\zf E H (lX X i) (m+1):=by
 cases h with
 |here=>rw[Wz (gH _)]at b;cases b
 |hit a d _=>rw[b]at a;injection a with e;subst e;exact absurd d c
 |add a _ hi f g=>rw[b]at a;injection a with e;subst e;exact⟨_,hi,f,g⟩
theorem TT{G:I_}(h:EW (L++[s]) G):∃X,EW L X/\(((∃x∈s,x∈X)/\G=X)\/((¬∃x∈s,x∈X)/\∃i∈s,G=lX X i)):=by obtain⟨g,n,o⟩:=h;(have p:∀t∈L,∃x∈t,x∈G:=λt c=>n t (by simp[c]));by_cases A:∀x∈G,∃t∈L,x∈t/\∀y∈t,y∈G->y=x;(.exact⟨G,⟨g,p,A⟩,.inl ⟨n s S,rfl⟩⟩);.obtain⟨i,hi⟩:=io_.1 A;obtain⟨q,hi⟩:=ip_.1 hi;obtain⟨t,c,H,j⟩:=o i q;(have B:t=s:=by rcases iq.1 c with c|c;(.exact absurd ⟨t,c,H,j⟩ hi);.exact gW.1 c);subst B;(have d:∀y,y∈(G.filter λy=>decide (y≠i))↔y∈G/\y≠i:=λy=>by rw[y5];simp);refine⟨G.filter λy=>decide (y≠i),⟨g.filter _,λu b=>?_,λx k=>?_⟩,.inr ⟨?_,i,H,?_⟩⟩;(·(refine Mx λr=>hi ⟨u,b,?_,λy a l=>Mx λf=>r ⟨y,a,(d y).2 ⟨l,f⟩⟩⟩);obtain⟨y,a,l⟩:=p u b;(have:y=i:=Mx λf=>r ⟨y,a,(d y).2 ⟨l,f⟩⟩);rwa[<-this]);(.obtain⟨v,f⟩:=(d x).1 k;obtain⟨u,b,m,C⟩:=o x v;rcases iq.1 b with b|b;(.exact⟨u,b,m,λy a E=>C y a ((d y).1 E).1⟩);.rw[gW.1 b]at m;exact absurd (j x m v) f);(.grind);·(refine kV g (Bg _ (g.filter _)) λy=>?_);rw[rO,d];grind
def Df:∀(m:Nat){G:I_},m<=l_ E->EW (E.take m) G->zf E H G m->zf E H [] 0
 |0,G,_,b,c=>by
  have:G=[]:=by
   cases G with
   |nil=>rfl
   |cons x l=>obtain⟨s,a,_⟩:=b.2.2 x S;simp at a
  rwa[<-this]
 |m+1,G,j,b,c=>by
  obtain⟨s,a⟩:∃s,E[m]?=some s:=⟨_,r9 U_⟩;(have f:E.take (m+1)=E.take m++[s]:=by rw[DL,a];rfl);have e:=b;rw[f]at e;obtain⟨X,d,⟨g,rfl⟩|⟨h,i,hi,rfl⟩⟩:=TT e;(.exact Df m U_ d (.hit a g c));.exact Df m U_ d (.add a h hi b c)
structure SearchI(Bd:(Int->Prop)->Prop)(U:List Int)(found:List (List Int))(stack:List (List Int×Nat)):Prop where
 nd:found.Nodup
 bad:∀F∈found,jh Bd U F
 node:∀q∈stack,q.2<=l_ found/\EW (found.take q.2) q.1
 all:∀E,found<+:E->∀H,EW E H->Clear Bd U H\/∃q∈stack,zf E H q.1 q.2
theorem SearchI.start:SearchI Bd U [] [([],0)] where
 nd:=hd_
 bad:=λ_ h=>(by cases h)
 node:=λq a=>by rw[gW.1 a];exact⟨gH _,List.Pairwise.nil,λ_ h=>by simp at h,λ_ h=>(by cases h)⟩
 all:=λE _ H b=> .inr ⟨_,gW.2 rfl,Df (l_ E) (gH _) (by grind) .here⟩
variable{found:H_}{stack:List (I_×Nat)}{X:I_}{m:Nat}
theorem SearchI.hit(h:SearchI Bd U found (stack++[(X,m)]))(c:found[m]?=some s)(e:∃x∈s,x∈X):SearchI Bd U found (stack++[(X,m+1)]) where
 nd:=h.nd
 bad:=h.bad
 node:=λq a=>by rcases iq.1 a with a|a;(.exact h.node q (iq.2 (.inl a)));.rw[gW.1 a];obtain⟨f,i,j,k⟩:=h.node (X,m) (iq.2 (.inr (gW.2 rfl)));have hl:=(jv.1 c).1;(have l:found.take (m+1)=found.take m++[s]:=by rw[DL,c];rfl);refine⟨hl,?_⟩;show EW (found.take (m+1)) X;rw[l];refine⟨i,λt b=>?_,λx n=>?_⟩;(.grind);.obtain⟨t,b,r⟩:=k x n;exact⟨t,iq.2 (.inl b),r⟩
 all:=λE g H o=>by rcases h.all E g H o with f|⟨q,a,d⟩;(.grind);.rcases iq.1 a with a|a;(.grind);.rw[gW.1 a]at d;obtain⟨r,rfl⟩:=g;have hl:=(jv.1 c).1;exact .inr ⟨_,iq.2 (.inr (gW.2 rfl)),d.aeb (by grind) e⟩
theorem SearchI.close(c:sw Bd)(h:SearchI Bd U found (stack++[(X,m)]))(g:Clear Bd U X):SearchI Bd U found stack where
 nd:=h.nd
 bad:=h.bad
 node:=λq a=>h.node q (iq.2 (.inl a))
 all:=λE d H e=>by rcases h.all E d H e with f|⟨q,a,b⟩;(.grind);.rcases iq.1 a with a|a;(.grind);.rw[gW.1 a]at b;exact .inl (g.more c b.sub)
def SearchI.find(h:SearchI Bd U found (stack++[(X,l_ found)]))(d:jh Bd U T)(r:∀x∈T,x∉X)(f:∀s∈found,∃x∈s,x∈X):SearchI Bd U (found++[T]) (stack++[(X,l_ found)]) where
 nd:=WC.2 ⟨h.nd,S,λa g b hb e=>by
  rw[gW.1 hb]at e;subst e;obtain⟨x,i,p⟩:=f _ g
  exact r x i p⟩
 bad:=λF c=>by rcases iq.1 c with c|c;(.exact h.bad F c);.rwa[gW.1 c]
 node:=λq j=>by obtain⟨k,l⟩:=h.node q j;rw[ih_ k];exact⟨by simp;omega,l⟩
 all:=λE n H o=>h.all E (List.IsPrefix.trans (List.prefix_append _ _) n) H o
theorem SearchI.split(h:SearchI Bd U found (stack++[(X,m)]))(c:found[m]?=some s)(g:¬∃x∈s,x∈X){M:List (I_×Nat)}(f:∀q,q∈M↔∃i∈s,q=(lX X i,m+1)/\EW (found.take (m+1)) (lX X i)):SearchI Bd U found (stack++M) where
 nd:=h.nd
 bad:=h.bad
 node:=λq a=>by rcases iq.1 a with a|a;(.exact h.node q (iq.2 (.inl a)));.obtain⟨i,_,rfl,b⟩:=(f q).1 a;exact⟨(jv.1 c).1,b⟩
 all:=λE e H j=>by rcases h.all E e H j with k|⟨q,a,d⟩;(.grind);.rcases iq.1 a with a|a;(.grind);.rw[gW.1 a]at d;obtain⟨r,rfl⟩:=e;have hl:=(jv.1 c).1;obtain⟨i,hi,b,l⟩:=d.aec (by grind) g;rw[ih_ hl]at b;exact .inr ⟨_,iq.2 (.inr ((f _).2 ⟨i,hi,rfl,b⟩)),l⟩
theorem SearchI.done(d:sw Bd)(v:∀x∈U,0<=x/\x<=1023)(h:SearchI Bd U found [])(C:I_):C∈found↔jh Bd U C:=by refine⟨h.bad C,λb=>Mx λf=>?_⟩;(have p:j6 found:=λF a=>⟨λx c=>v x ((h.bad F a).2.1 x c),(h.bad F a).1⟩);(obtain⟨H,g,k⟩:=Z5 p (λx=>x∉C) λF a=>Mx λl=>by refine f ?_;rw[<-Xp d (h.bad F a) b λx c=>Mx λn=>l ⟨x,c,n⟩];grind);rcases h.all found (List.prefix_refl _) H g with i|⟨q,j,_⟩;(.exact i (d _ _ (λy e=>⟨b.2.1 y e,λo=>k y o e⟩) b.2.2.1));grind
end
section
variable{K:I_}
variable{Bd:(Int->Prop)->Prop}{U:I_}
theorem Lc(e:sw Bd):∀(n:Nat)(S:I_),l_ S<=n->Inc S->(∀x∈S,x∈U)->(Bd (·∈S))->∃T,jh Bd U T/\∀x∈T,x∈S
 |0,S,f,hi,c,hb=>by
  have:S=[]:=Jg U_;subst this;exact⟨[],⟨hi,c,hb,λx a=>(by cases a)⟩,λ_ h=>h⟩
 |n+1,S,f,hi,c,hb=>by
  (by_cases H:∀x∈S,¬Bd λy=>y∈S/\y≠x);(.exact⟨S,⟨hi,c,hb,H⟩,λ_ h=>h⟩);.obtain⟨x,a⟩:=io_.1 H;obtain⟨j,a⟩:=ip_.1 a;have a:=Classical.not_not.1 a;(have d:∀y,y∈(S.filter λy=>decide (y≠x))↔y∈S/\y≠x:=λy=>by grind);(have k:l_ (S.filter λy=>decide (y≠x))<l_ S:=by rcases Ke (l_ (S.filter λy=>decide (y≠x))) (l_ S) with h|h;(.exact h);.have l:=OA (λy=>decide (y≠x)) S;have:=(fx_.1 (fh_.eq_of_length_le h)) x j;grind);obtain⟨T,g,i⟩:=Lc e n (S.filter λy=>decide (y≠x)) U_ (hi.filter _) (λy b=>c y ((d y).1 b).1) (e _ _ (λy b=>(d y).2 b) a);exact⟨T,g,λy b=>((d y).1 (i y b)).1⟩
variable{C:H_}
def zS(b:sw Bd)(c:∀T,T∈C↔jh Bd U T)(h:Clear Bd U K):∀s∈C,∃x∈s,x∈K:=λs d=>by(refine Mx λe=>h ?_);have hb:=(c s).1 d;exact b _ _ (λy a=>⟨hb.2.1 y a,λf=>e ⟨y,a,f⟩⟩) hb.2.2.1
theorem Gz(c:sw Bd)(d:Inc U)(e:∀T,T∈C↔jh Bd U T)(h:∀s∈C,∃x∈s,x∈K):Clear Bd U K:=λhb=>by(have a:∀y,y∈(U.filter λy=>decide (y∉K))↔y∈U/\y∉K:=λy=>by grind);obtain⟨T,f,g⟩:=Lc (U:=U) c _ (U.filter λy=>decide (y∉K)) (gH _) (d.filter _) (λy b=>((a y).1 b).1) (c _ _ (λy b=>(a y).2 b) hb);obtain⟨x,i,j⟩:=h T ((e T).2 f);exact((a x).1 (g x i)).2 j
def GA(Bd:(Int->Prop)->Prop)(U R:I_):Prop:=Inc R/\(∀x∈R,x∈U)/\Clear Bd U R/\∀x∈R,∀K:I_,(∀y∈K,y∈R/\y≠x)->¬Clear Bd U K
theorem Nb(e:sw Bd)(k:Inc U)(c:∀T,T∈C↔jh Bd U T){R:I_}:EW C R↔GA Bd U R:=by constructor;(.rintro⟨g,l,f⟩;refine⟨g,λx d=>?_,Gz e k c l,λx d K m H=>?_⟩;(.obtain⟨s,a,p,_⟩:=f x d;exact((c s).1 a).2.1 x p);.obtain⟨s,a,p,r⟩:=f x d;obtain⟨y,u,q⟩:=zS e c H s a;grind);.rintro⟨g,l,f,t⟩;have n:=zS e c f;refine⟨g,n,λx d=>Mx λv=>?_⟩;(have h:∀y,y∈(R.filter λy=>decide (y≠x))↔y∈R/\y≠x:=λy=>by grind);refine t x d (R.filter λy=>decide (y≠x)) (λy b=>(h y).1 b) (Gz e k c λs a=>Mx λo=>v ⟨s,a,?_,λy b i=>Mx λj=>o ⟨y,b,(h y).2 ⟨i,j⟩⟩⟩);grind
def Ld(c:sw Bd)(H:∀x∈U,0<=x/\x<=1023)(a:∀T,T∈C↔jh Bd U T)(h:Clear Bd U K):∃R,EW C R/\∀x∈R,x∈K:=Z5 (λF b=>⟨λx d=>H x (((a F).1 b).2.1 x d),((a F).1 b).1⟩) (λx=>x∈K) (zS c a h)
def Le(p:α->Bool):∀l:List α,l_ l=l_ (l.filter λx=>p x==true)+l_ (l.filter λx=>p x==false)
 |[]=>rfl
 |a::l=>by
  have:=Le p l
  cases h:p a with
  |true=>rw[ir_ (by simp[h]),is_ (by simp[h])];simp only[p8];omega
  |false=>rw[is_ (by simp[h]),ir_ (by simp[h])];simp only[p8];omega
theorem Bh{n:Nat}{L:(List (List Int))}(h:L.Nodup)(d:∀T∈L,Inc T/\∀x∈T,0<=x/\x<(n:Int)):L.length<=2 ^ n:=by
 induction n generalizing L with
 |zero=>
  have:∀T∈L,T=[]:=λT c=>by
   cases T with
   |nil=>rfl
   |cons x l=>have:=(d _ c).2 x S_;omega
  (have:L.length<= [([]:(List Int))].length:=lZ h λT c=>by grind);simpa using this
 |succ n o=>
  (have j:∀(b:Bool),(L.filter λT=>decide ((n:Int)∈T)==b).length<=2 ^ n:=λb=>by(have y:((L.filter λT=>decide ((n:Int)∈T)==b).map λT=>T.filter λx=>decide (x≠(n:Int))).Nodup:=by rw[it_,by_];refine iu_ (R:=λa b=>a≠b) (λ{T S} c i r e=>r ?_) (it_.1 (List.Nodup.sublist fh_ h));obtain⟨s,t⟩:=y5.1 c;obtain⟨g,u⟩:=y5.1 i;(refine kV (d T s).1 (d S g).1 λx=>?_);by_cases f:x=(n:Int);(·grind);·(have k:x∈T↔x∈T.filter λx=>decide (x≠(n:Int)):=by grind);grind);grind);have q:=Le (λT:(List Int)=>decide ((n:Int)∈T)) L;have k:=j true;have m:=j false;rw[q,Nat.pow_succ];omega
end
def h_.card{k:T_}{m:Type}{b:Nat}{f:m->Option V_}{K:KK P k m}{t:T_}(h:h_ w K b n f)(A:P.underlying t=some (.map k e))(r:T_)(l:List m)(hl:l.Nodup)(j:∀x∈l,K.ok x)(G:∀x,K.ok x->((f x).isSome=true↔x∈l)):(Builtin.len_ #[t] r #[.map (some b)]).run P w=.ok (.int .i64 (l_ l)) w:=by obtain⟨D,s,u,d,rfl,B⟩:=h;have v:=s.len A r;rw[Maps.size_eq]at v;have⟨X,o,I,Z⟩:=s.entries K.keyed;injection o with o;subst o;(have W:l_ d=l_ l:=by classical (have N:(d.map (·.1)).Nodup:=by rwa[it_,by_]);(have C:(l.map K.kl).Nodup:=by rw[it_,by_];exact iu_ (λ{a b} E hb L e=>L (K.inj _ _ (j a E) (j b hb) e)) (it_.1 hl));(have M:∀z∈d.map (·.1),z∈l.map K.kl:=λz q=>by obtain⟨p,i,rfl⟩:=pq.1 q;have⟨x,c,y⟩:=B p i;have g:=(u x c).1;(have F:Maps.has (.map d) (K.kl x)=true:=by rw[bv_];exact bx_.2 ⟨p,i,by rw[y];exact WideAt.sameKey_self (K.keyed.key (K.key x c))⟩);rw[F]at g;exact pq.2 ⟨x,(G x c).1 g.symm,y.symm⟩);(have H:∀z∈l.map K.kl,z∈d.map (·.1):=λz q=>by obtain⟨x,c,rfl⟩:=pq.1 q;have g:=(u x (j x c)).1;rw[(G x (j x c)).2 c,bv_]at g;have⟨p,i,T⟩:=bx_.1 g;exact pq.2 ⟨p,i,WideAt.sameKey_eq T⟩);have a:=lZ N M;have b:=lZ C H;simp only[qm]at a b;omega);rwa[<-W]
def Xq:(lU l x).isSome=true↔x∈l:=by unfold lU;by_cases h:x∈l<;>simp[h]
def Lf{b:Nat}(h:h_ w K3 b n (lU l))(a:T_)(c:s.Nodup)(hw:∀x∈s,qD x)(d:∀x,x∈l↔x∈s):(Builtin.len_ #[109] a #[.map (some b)]).run prog w=.ok (.int .i64 (l_ s)) w:=h.card underlying109 a s c hw λx _=>Xq.trans (d x)
noncomputable def Ec (set l:I_):I_:=l.filter λx=>jS (x∈set)
noncomputable def nE (set:I_):H_->I_
 |[]=>[]
 |s::L=>(if(Ec set s).length=1 then[(Ec set s).getLastD 0] else[])++nE set L
def zA(set:I_):∀L M:H_,nE set (L++M)=nE set L++nE set M
 |[],_=>rfl
 |s::L,M=>by rw[Ka,nE,nE,zA set L M,Kg]
def Z7(h:l[k]?=some x):Ec set (l.take (k+1))=if jS (x∈set) then Ec set (l.take k)++[x] else Ec set (l.take k):=by unfold Ec;rw[G_ h,Y9];cases hb:jS (x∈set)<;>simp[hb]
def vI:x∈Ec set l↔x∈l/\x∈set:=by unfold Ec;rw[y5,jE]
def AllAlone(set:I_)(L:H_):Prop:=∀x∈set,∃s∈L,x∈s/\∀y∈s,y∈set->y=x
def vJ{set:I_}{x:Int}:∀{L:H_},(∀s∈L,Inc s)->(x∈nE set L↔x∈set/\∃s∈L,x∈s/\∀y∈s,y∈set->y=x)
 |[],_=>by simp[nE]
 |s::L,hi=>by
  have n:=vJ (set:=set) (x:=x) (L:=L) λt f=>hi t (by simp[f])
  have o:(x∈(if(Ec set s).length=1 then[(Ec set s).getLastD 0] else[]))↔x∈set/\x∈s/\∀y∈s,y∈set->y=x:=by
   have j:(Ec set s).Nodup:=(uw (hi s S)).sublist fh_;constructor;.intro h;split at h;(.rename_i c;have⟨z,i⟩:=ij_.1 c;rw[i]at h;have v:x=z:=Q h;subst v;have l:=vI.1 (by rw[i];simp:x∈Ec set s);refine⟨l.2,l.1,λy p w=>?_⟩;have:=vI.2 ⟨p,w⟩;rw[i]at this;simpa using this);.cases h
   .rintro⟨c,d,g⟩
    have i:Ec set s=[x]:=by
     match k:Ec set s,j with
     |[],_=>have:=vI.2 ⟨d,c⟩;rw[k]at this;cases this
     |[a],_=>
      have:=vI.2 ⟨d,c⟩;rw[k]at this;have e:x=a:=Q this;rw[e]
     |a::b::r,j=>
      have m:=vI.1 (by rw[k];simp:a∈Ec set s);have hb:=vI.1 (by rw[k];simp:b∈Ec set s);have q:=g a m.1 m.2;have u:=g b hb.1 hb.2;rw[q,u]at j;simp at j
    rw[i];simp
  rw[nE,iq,o,n];constructor;(.rintro(⟨c,d,g⟩|⟨c,t,f,d⟩);(.exact⟨c,s,S,d,g⟩);.exact⟨c,t,by simp[f],d⟩);.rintro⟨c,t,f,d,g⟩;rcases jL.1 f with rfl|f;(.exact .inl ⟨c,d,g⟩);.exact .inr ⟨c,t,f,d,g⟩
def Xr(hi:∀s∈L,Inc s):(l_ (set.filter λx=>jS (x∈nE set L))=l_ set)↔AllAlone set L:=by rw[List.length_filter_eq_length_iff];unfold AllAlone;constructor;(.intro h x a;exact((vJ hi).1 (jE.1 (h x a))).2);.intro h x a;exact fQ ((vJ hi).2 ⟨a,h x a⟩)
def Nc(ag v2:V_)(set:I_)(L:H_)(w:W_)(r:SI w ag set)(ah:SS w v2 L)(hi:Inc set)(ai:∀s∈L,Inc s)(hw:∀x∈set,qD x)(aK:wfS L)(hl:l_ set<=1000000)(a9:l_ L<=1000000)(aL:∀s∈L,l_ s<=1000000):Y 55 #[ag,v2] w (jS (AllAlone set L)):=by
 obtain⟨a1,c1,rfl,_,aq,aM⟩:=r.form;obtain⟨a2,c2,rfl,_,d,aN⟩:=ah.form;unfold m_ at aq d;clear r ah aq d;have aO:= @run_makeMap prog;have K:G w ((w.alloc (.map #[] 0)).alloc (.map #[] 0)):=X_ bA _;(have P:h_ ((w.alloc (.map #[] 0)).alloc (.map #[] 0)) K3 w 0 (lU []):=((h_.made w K3).alloc _).congr λx _=>by unfold lU;rw[C_ S]);(have T:h_ ((w.alloc (.map #[] 0)).alloc (.map #[] 0)) K3 (w+1) 0 (lU []):=by(have:=(h_.made (w.alloc (.map #[] 0)) K3).congr (g:=lU []) λx _=>by unfold lU;rw[C_ S]);simpa using this);have⟨z,W⟩:=e_ w.heap.size;have⟨a3,X⟩:=e_ ((w.alloc (.map #[] 0)).alloc (.map #[] 0));rw[X,W]at P T;rw[X]at K;have ar:=O P;have au:=O T;have av:=O K;have aj:w.heap.size=z:=W;clear P T K;go_in;go_wp2;clear X W aO;go_loopw [19] (λi wr=>∃k:Nat,k<=l_ set/\i=.int .i64 (k:Int)/\Hid (h_ wr K3 z k (lU (set.take k)))/\Hid (h_ wr K3 (z+1) 0 (lU []))/\Hid (G w wr)) (λi _=>l_ set-(intOf i).toNat);exact⟨0,gZ _,rfl,ar,au,av⟩;obtain⟨k,aB,rfl,f,n,a⟩:=hrel;by_cases Z:k<l_ set;.obtain⟨b1,E,rfl,D,t⟩:=aM U;have⟨x,b⟩:=get_some Z;have ak:=(a.o.cell (p:=a_ b1 (E+k)) D).trans (t k x b);have aP:=(hw x (gV b));have aC:=O b;have r1:0<=(k:Int):=U;have aD:(k:Int)<l_ set:=U;clear t b;go_wp2_with (at_mapUpdate;refine iI _ rfl _ _ _ 109 rfl 4 K3 underlying109 z k _ rfl f.o ?c1 x aP (.bool true) rfl rfl ?_);(case c1=>unfold m_;omega);intro aE d o;rw[om,<-G_ aC.o]at d;have J:=O d;have N:=O (n.o.kept o (by intro e;injection e with e;omega));have Q:=O (a.o.grown o a.o.size (λg e=>by cases e;have:=aj;omega));clear d o;go_wp2;go_roundw;exact⟨k+1,U,R,J,N,Q⟩;exact M_
 .obtain rfl:k=l_ set:=by omega
  have aQ:Hid (h_ wr K3 z (l_ set) (lU set)):=O (by have:=f.o;rwa[jy]at this);have aR:=n;have aS:=a;clear f n a ar au av;obtain⟨al,rfl⟩:∃al:W_,al=wr:=⟨_,rfl⟩;go_wp2;go_loopw [28] (λi wr=>∃k:Nat,k<=l_ L/\i=.int .i64 (k:Int)/\Hid (h_ wr K3 z (l_ set) (lU set))/\Hid (h_ wr K3 (z+1) k (lU (nE set (L.take k))))/\Hid (G w wr)) (λi _=>l_ L-(intOf i).toNat);exact⟨0,gZ _,rfl,aQ,aR,aS⟩;obtain⟨k,aB,rfl,f,n,a⟩:=hrel;by_cases Z:k<l_ L
  .obtain⟨b1,E,rfl,D,t⟩:=aN U
   have⟨s,v⟩:=get_some Z;have⟨u,am,an⟩:=t k s v;obtain⟨a4,a5,rfl,_,aT,aU⟩:=S1.form an;simp only[m_]at aT;have ak:=(a.o.cell (p:=a_ b1 (E+k)) D).trans am;have aw:=(aK s (gV v));have aV:=aL s (gV v);have r1:0<=(k:Int):=U;have aD:(k:Int)<l_ L:=U;(have aW:nE set (L.take (k+1))=nE set (L.take k)++(if(Ec set s).length=1 then[(Ec set s).getLastD 0] else[]):=by rw[G_ v,zA];simp[nE]);clear t am an;go_wp2;clear ak;go_loopw [11,12,34] (λaF aX i aG=>∃j:Nat,j<=l_ s/\i=.int .i64 (j:Int)/\aF=.int .i64 ((Ec set (s.take j)).getLastD 0)/\aX=.int .i64 (l_ (Ec set (s.take j)):Int)/\aG=wr) (λ_ _ i _=>l_ s-(intOf i).toNat);exact⟨0,gZ _,rfl,rfl,rfl,rfl⟩;obtain⟨j,a6,rfl,rfl,rfl,rfl⟩:=hrel;by_cases a0:j<l_ s;.obtain⟨b2,aH,rfl,aY,ax⟩:=aU U;have⟨x,b⟩:=get_some a0;have a7:=(a.o.cell (p:=a_ b2 (aH+j)) aY).trans (ax j x b);have⟨c,hc⟩:=e_ (jS (x∈set));have a':=uD f.o (aw x (gV b)) hc;have B:=Z7 (set:=set) b;rw[hc]at B;have q1:0<=(j:Int):=U;have q2:(j:Int)<l_ s:=U;have ay:l_ (Ec set (s.take j))<=l_ s:=gY (OA _ _) (List.length_take_le' _ _);have⟨M,ao⟩:=e_ (Ec set (s.take j));rw[ao]at B ay ⊢;have C:=O B;clear ax b hc ao B;have⟨m,l⟩:=e_ (l_ M);have az:=O l;rw[l]at ay ⊢;clear l;cases c;(.go_wp2;go_roundw;exact⟨j+1,U,R,by rw[C.o,C_ S],by rw[C.o,C_ S,az.o],by trivial⟩;exact M_);.go_wp2;go_roundw;exact⟨j+1,U,R,by rw[C.o,P_ rfl];simp[ix_],by rw[C.o,P_ rfl,ny,az.o];rfl,by trivial⟩;exact M_
   .obtain rfl:j=l_ s:=by omega
    rw[jy]
    have V:qD ((Ec set s).getLastD 0):=by
     rw[ix_]
     cases h:(Ec set s).getLast? with
     |none=>exact tJ S S
     |some y=>exact aw y (vI.1 (List.mem_of_getLast? h)).1
    have⟨y,A⟩:=e_ ((Ec set s).getLastD 0);have⟨m,l⟩:=e_ (l_ (Ec set s));have af:=aW;rw[A,l]at af;rw[A]at V;rw[A,l];have aA:=O af;have aZ:=O V;(have ba:m<=1000000:=by rw[<-l];exact gY (OA _ _) aV);clear af V A l;by_cases r:m=1;(.subst r;go_wp2_with (at_mapUpdate;refine iI _ rfl _ _ _ 109 rfl 4 K3 underlying109 (z+1) k _ rfl n.o ?c1 y aZ.o (.bool true) rfl rfl ?_);(case c1=>unfold m_;omega);intro aE d o;rw[om]at d;have N:=O d;have J:=O (f.o.kept o (by intro e;injection e with e;omega));have Q:=O (a.o.grown o a.o.size (λg e=>by cases e;have:=aj;omega));clear d o;go_wp2;go_roundw;exact⟨k+1,U,R,J,O (by rw[aA.o,P_ (by trivial)];exact N.o),Q⟩;exact M_);·(have bb:((m:Int)==1)=false:=by simp;omega);(have bc:(m==1)=false:=by simp;omega);go_wp2;go_roundw;exact⟨k+1,U,R,f,O (by rw[aA.o,C_ r,fq_];exact n.o.mono U),a⟩;exact M_
  ·(obtain rfl:k=l_ L:=by omega);have F:=n.o;rw[jy]at F;have H:=uw hi;(have a8:=Lf f.o 3 H hw λx=>Iff.rfl);have I:=Xr (set:=set) ai;(have aI:=Lf (s:=set.filter λx=>jS (x∈nE set L)) F 3 (H.sublist fh_) (λx b=>hw x (y5.1 b).1) λx=>by rw[y5,jE];exact⟨λh=>⟨((vJ ai).1 h).1,h⟩,λh=>h.2⟩);have⟨q,ap⟩:=e_ (l_ (set.filter λx=>jS (x∈nE set L)));rw[ap]at I aI;have aJ:=O I;clear F H I ap;go_wp2;go_ret;refine⟨fP ?_,a.o⟩;rw[Zd,jE,<-aJ.o];simp;omega
section
variable{P:(Int->Prop)->Prop}{s0 s set:I_}{lo hi:Nat}
structure nX(P:(Int->Prop)->Prop)(s0 s set:List Int):Prop where
 pre:s<+:s0
 inc:Inc (s++set)
 sub:∀x∈set,x∈s0
 bad:P (·∈s++set)
 min:∀x∈set,¬P λy=>y∈s++set/\y≠x
def nX.start(h:Inc s0)(hb:P (·∈s0)):nX P s0 s0 [] where
 pre:=List.prefix_refl _
 inc:=by rwa[fq_]
 sub:=λ_ h=>(by cases h)
 bad:=by rwa[fq_]
 min:=λ_ h=>(by cases h)
def nX.done(b:sw P)(h:nX P s0 s set)(hb:P (·∈s.take 0++set)):jh P s0 set:=⟨h.inc.sublist (List.sublist_append_right _ _),h.sub,b _ _ (λx a=>Q a) hb,λx a d=>h.min x a (b _ _ (λy c=>⟨iq.2 (.inr c.1),c.2⟩) d)⟩
def nX.next(d:sw P)(h:nX P s0 s set)(f:s[k]?=some x)(hb:P (·∈s.take (k+1)++set))(i:¬P (·∈s.take k++set)):nX P s0 (s.take k) (x::set):=by(have e:s.take k++x::set=s.take (k+1)++set:=by rw[G_ f,Kg];rfl);have l:x∈s:=gV f;refine⟨(List.take_prefix _ _).trans h.pre,?_,λy b=>?_,?_,λy b g=>?_⟩;(.rw[e];exact h.inc.sublist ((List.take_sublist _ _).append_right _));(.rcases jL.1 b with rfl|b;(.exact h.pre.subset l);.exact h.sub y b);(.rwa[e]);.rcases jL.1 b with rfl|b;(.refine i (d _ _ (λz c=>?_) g);obtain⟨a,j⟩:=c;rcases iq.1 a with a|a;(.exact iq.2 (.inl a));.exact iq.2 (.inr (List.mem_of_ne_of_mem j a)));.refine h.min y b (d _ _ (λz c=>⟨?_,c.2⟩) g);have a:=c.1;rw[e]at a;rcases iq.1 a with a|a;(.exact iq.2 (.inl (R4 a)));.exact iq.2 (.inr a)
def nX.len(h:nX P s0 s set):l_ (s++set)<=l_ s0:=AY h.inc λx a=>by rcases iq.1 a with a|a;(.exact h.pre.subset a);.exact h.sub x a
structure JK(P:(Int->Prop)->Prop)(s set:List Int)(lo hi:Nat):Prop where
 le:lo<=hi
 top:hi<=l_ s
 bad:P (·∈s.take hi++set)
 no:∀n,n<lo->¬P (·∈s.take n++set)
def JK.start(h:nX P s0 s set):JK P s set 0 (l_ s):=⟨gZ _,gH _,by rw[jy];exact h.bad,λn a=>absurd a U⟩
def JK.low(h:JK P s set lo hi)(a:lo<=n)(b:n<hi)(hb:P (·∈s.take n++set)):JK P s set lo n:=⟨a,by have:=h.top;omega,hb,h.no⟩
def JK.high(b:sw P)(h:JK P s set lo hi)(c:n<hi)(hb:¬P (·∈s.take n++set)):JK P s set (n+1) hi:=⟨c,h.top,h.bad,λk e d=>hb (b _ _ (λx a=>by
 rcases iq.1 a with a|a;.exact iq.2 (.inl ((id_ s U) a))
 .exact iq.2 (.inr a)) d)⟩
end
def S1.take{f:α->V_}{A:J_}{l:List α}(h:S1 w f (.slice A m c) l)(n:Nat)(q:n<=l_ l):S1 w f (.slice A n c) (l.take n):=by
 obtain⟨r,t,e,u,d,g⟩:=h.form;injection e with j v k;subst j;subst k;have hl:l_ (l.take n)=n:=by rw[wE];omega
 have:=S1.mk (w:=w) (f:=f) (l:=l.take n) (A:=A) (c:=c) U d (λy=>by
  obtain⟨b,p,o,hb,H⟩:=g U
  exact⟨b,p,o,hb,λi x a=>H i x (by
   rw[YW]at a;split at a;.exact a
   .cases a)⟩)
 rwa[hl]at this
def Lg(w:W_)(P:(Int->Prop)->Prop)(s:I_)(e:E_)(w':W_):Prop:=G w w'/\((¬P (·∈s)/\e=.returned (.tuple #[.slice none 0 0,false,V 0]))\/ ∃(T:I_)(A:J_)(c:Nat),jh P s T/\e=.returned (.tuple #[.slice A (l_ T) c,true,V 0])/\w'.ownsRow w 3 1 (.slice A (l_ T) c) (l_ T) (T.map iV))
abbrev Nd:=V_×List Int×Nat
variable{a:List Nd}{q:Nd}
def Dh(q:Nd):O_:=[q.1,.int .i64 (q.2.2:Int)]
def Qa(q:Nd):l_ (Dh q)=2:=rfl
def zU(q:List Nd):List (I_×Nat):=q.map (·.2)
theorem Z8{i:Nat}(h:w.ownsRow base e 2 (.slice g n cap) n (a.flatMap Dh))(b:n=l_ a)(hi:i<=n):w.ownsRow base e 2 (.slice g i cap) i ((a.take i).flatMap Dh):=by
 have K:(a.take i).flatMap Dh=(a.flatMap Dh).take (i*2):=by
  clear h;subst b
  induction a generalizing i with
  |nil=>simp
  |cons q a c=>
   cases i with
   |zero=>simp
   |succ i=>
    rw[Vn,OD,OD,c (Q hi),show(i+1)*2=l_ (Dh q)+i*2 by rw[Qa];omega,hp_]
 rcases h with⟨d,⟨e,_⟩|⟨o,r,m,e,hb,f,p,j,k,l⟩⟩;(.cases e);.cases e;refine⟨?_,.inr ⟨g,cap,m,rfl,hb,f,U,j,k,?_⟩⟩;(.grind);.rw[K,<-l,cu_];congr 1;omega
theorem TU{i:Nat}(h:w.ownsRow base e 2 (.slice g n cap) n (a.flatMap Dh))(b:a[i]?=some q):N w g (i*2) q.1/\N w g (i*2+1) q.2.2:=by(have k:=λj c=>nY Dh 2 Qa a i j q b c);have C:=h.cells (g:=g) rfl (i*2+0) q.1 (by rw[k 0 U];rfl);have c1:=h.cells (g:=g) rfl (i*2+1) (.int .i64 (q.2.2:Int)) (by rw[k 1 U];rfl);rw[add_lit,Jc]at C c1;grind
structure CM(W:W_)(B:Nat)(fv sv:V_)(ps:List (V_×List Int))(qs:List Nd)(xs:List (V_×List Int)):Prop where
 f:kD W B fv ps
 s:W.ownsRow B 98 2 sv (l_ qs) (qs.flatMap Dh)
 sq:∀q∈qs,SI W q.1 q.2.1/\Apart q.1 sv.ownBlock/\Apart q.1 fv.ownBlock
 fs:∀p∈ps,Apart p.1 sv.ownBlock
 ne:fv.ownBlock=none\/fv.ownBlock≠sv.ownBlock
 x:∀p∈xs,SI W p.1 p.2/\Apart p.1 sv.ownBlock/\Apart p.1 fv.ownBlock
section
variable{A:J_}{a:V_}
variable{W W':W_}{B:Nat}{fv sv v' u:V_}{l:I_}{ps xs:List (V_×I_)}{qs:List Nd}
def CM.up(h:CM W B fv sv ps qs xs)(hb:G W W'):CM W' B fv sv ps qs xs:=⟨h.f.up hb,gJ h.s hb,λq a=>⟨S1.up (h.sq q a).1 hb,(h.sq q a).2⟩,h.fs,h.ne,λq a=>⟨S1.up (h.x q a).1 hb,(h.x q a).2⟩⟩
theorem GD{a b:Option Nat}(h:a=none\/a≠b):b=none\/b≠a:=by grind
def rP(f:SI W u l)(g:Apart u fv.ownBlock)(hb:v'.ownBlock=fv.ownBlock\/v'.ownBlock=some W):Apart u v'.ownBlock:=λa n c e b=>by rcases hb with hb|hb;(.rw[hb];exact g a n c e b);.rw[hb];intro d;injection d with d;have:=SI.block_lt f e b;omega
theorem VJ(h:fv.ownBlock=none\/fv.ownBlock≠a.ownBlock)(b:∀g,a.ownBlock=some g->g<W)(hb:v'.ownBlock=fv.ownBlock\/v'.ownBlock=some W):v'.ownBlock=none\/v'.ownBlock≠a.ownBlock:=by grind
def CM.find(h:CM W B fv sv ps qs xs)(e:n=l_ ps+1)(m:d=ps.map (·.1)++[u])(o:W'.ownsRow B 31 1 v' n d)(b:W.grownBy W' fv.ownBlock)(hb:v'.ownBlock=fv.ownBlock\/v'.ownBlock=some W)(i:SI W u l)(j:Apart u fv.ownBlock)(k:Apart u sv.ownBlock):CM W' B v' sv (ps++[(u,l)]) qs xs where
 f:=h.f.snoc e m o b hb i j
 s:=h.s.kept b (GD h.ne)
 sq:=λq a=>⟨SI.kept (h.sq q a).1 b (h.sq q a).2.2,(h.sq q a).2.1,rP (h.sq q a).1 (h.sq q a).2.2 hb⟩
 fs:=λp c=>by rcases iq.1 c with c|c;(.exact h.fs p c);.rwa[gW.1 c]
 ne:=VJ h.ne (λg b=>(h.s.lt g b).2) hb
 x:=λq a=>⟨SI.kept (h.x q a).1 b (h.x q a).2.2,(h.x q a).2.1,rP (h.x q a).1 (h.x q a).2.2 hb⟩
def CM.push{c:O_}(h:CM W B fv sv ps qs xs)(j:n=l_ qs+1)(y:c=qs.flatMap Dh++[u,.int .i64 (m:Int)])(A:W'.ownsRow B 98 2 v' n c)(b:W.grownBy W' sv.ownBlock)(hb:v'.ownBlock=sv.ownBlock\/v'.ownBlock=some W)(k:SI W u l)(o:Apart u fv.ownBlock)(r:Apart u sv.ownBlock):CM W' B fv v' ps (qs++[(u,l,m)]) xs where
 f:=h.f.kept b h.ne h.fs
 s:=by(have t:l_ (qs++[(u,l,m)])=n:=by simp[j]);(have v:(qs++[(u,l,m)]).flatMap Dh=c:=by rw[y];simp[Dh]);rwa[t,v]
 sq:=λq a=>by(have K:∀q:Nd,SI W q.1 q.2.1->Apart q.1 sv.ownBlock->Apart q.1 fv.ownBlock->SI W' q.1 q.2.1/\Apart q.1 v'.ownBlock/\Apart q.1 fv.ownBlock:=λq d e w=>⟨SI.kept d b e,rP d e hb,w⟩);rcases iq.1 a with a|a;(.exact K q (h.sq q a).1 (h.sq q a).2.1 (h.sq q a).2.2);.rw[gW.1 a];exact K (u,l,m) k r o
 fs:=λp i=>rP (h.f.2 p i).1 (h.fs p i) hb
 ne:=GD (VJ (GD h.ne) (λg b=>(h.f.1.lt g b).2) hb)
 x:=λq a=>⟨SI.kept (h.x q a).1 b (h.x q a).2.1,rP (h.x q a).1 (h.x q a).2.1 hb,(h.x q a).2.2⟩
def CM.pop(h:CM W B fv (.slice g n cap) ps (qs++[(u,l,m)]) [])(a:n=l_ qs+1):CM W B fv (.slice g (l_ qs) cap) ps qs [(u,l)] where
 f:=h.f
 s:=by have:=Z8 (i:=l_ qs) (by have:=h.s;rwa[ny,wT,<-a]at this) (by simp[a]) U;rwa[List.take_left]at this
 sq:=λq b=>h.sq q (iq.2 (.inl b))
 fs:=h.fs
 ne:=h.ne
 x:=λp c=>by rw[gW.1 c];exact h.sq (u,l,m) S
def CM.drop(h:CM W B fv sv ps qs xs):CM W B fv sv ps qs []:=⟨h.f,h.s,h.sq,h.fs,h.ne,λ_ h=>(by cases h)⟩
def CM.top(h:CM W B fv (.slice g n cap) ps (qs++[(u,l,m)]) xs)(a:n=l_ qs+1):N W g (l_ qs*2) u/\N W g (l_ qs*2+1) m:=TU (by have:=h.s;rwa[ny,wT,<-a]at this) (q:=(u,l,m)) S
theorem CM.addr(h:CM W B fv (.slice A n c) ps (qs++[q]) xs):n=l_ qs+1/\n<=c/\c<=m_/\∃g,A=some ⟨g,0,none⟩/\B<=g/\g<W:=by rcases h.s.2 with⟨e,b⟩|⟨g,cap,r,e,hb,d,f,i,o,p⟩;(.grind);grind
def CM.xsi(h:CM W B fv sv ps qs [(u,l)]):SI W u l:=(h.x (u,l) S).1
def CM.fsi(h:CM W B fv sv ps qs xs)(a:ps[m]?=some p):SI W p.1 p.2:=(h.f.2 p (gV a)).1
theorem CM.Z9(h:CM W B (.slice A n c) sv ps qs xs)(j:l_ ps=n)(a:ps[m]?=some p):∃g,n<=c/\c<=m_/\A=some ⟨g,0,none⟩/\N W g m p.1:=by have k:=(jv.1 a).1;rcases h.f.1.2 with⟨e,o⟩|⟨g,cap,v,e,hb,q,w,i,r,s⟩;(.omega);.injection e with b t d;subst b d;refine⟨g,U,i,rfl,?_⟩;have:=h.f.1.cells (g:=g) rfl m p.1 (by grind);rwa[add_lit,Jc]at this
theorem CM.fss(h:CM W B (.slice g n c) sv ps qs xs)(e:l_ ps=n)(b:ps[m]?=some p):SS W (.slice (a_ g m) 1 (c-m)) [p.2]:=by
 have k:=(jv.1 b).1;obtain⟨o,r,s,a,d⟩:=h.Z9 e b;injection a with a;injection a with a;subst a;have j:=zK _ _ d;refine⟨[p],rfl,S1.mk (l:=[p]) (by grind) U λ_=>⟨g,m,rfl,j,λi x hi=>?_⟩,λq f=>by rw[gW.1 f];exact h.fsi b⟩
 match i,hi with
 |0,hi=>simp at hi;subst hi;exact d
def CM.af0(h:CM W B (.slice A n c) sv ps qs xs)(k:Nat)(a:k<=l_ ps):SS W (.slice A k c) ((ps.map (·.2)).take k):=by have b:=jg h.f.1;refine⟨ps.take k,by rw[ii_],S1.take b k a,λq d=>(h.f.2 q (R4 d)).1⟩
end
def aed:(prog.info? 98).map (λi=>(i.zero,i.size,i.bytes))=some (some (.agg #[(),V 0]),2,32):=k_
def Nf(i v:V_)(a b:I_)(w:W_)(d:SI w i a)(f:SI w v b):z 57 #[i,v] w λe w'=>e=.returned (mW a b)/\w=w':=by obtain⟨o,c1,rfl⟩:=SI.slice_form d;obtain⟨p,c2,rfl⟩:=SI.slice_form f;have G:=d.jH;have k:=f.jH;unfold m_ at G k;by_cases hl:l_ a=l_ b;(·(have hb:((l_ a:Int) !=(l_ b:Int))=false:=by simp[hl]);have g:Hid (mW a b=cmpL a b):=O (by unfold mW;rw[C_ U,C_ U]);clear hl;go_in;go_wp2_with fail;refine(zm _ _ a b _ d f).mono ?_;rintro e m ⟨rfl,rfl⟩;go_wp2;go_ret;exact⟨l9 g.o.symm,rfl⟩);·(have hb:((l_ a:Int) !=(l_ b:Int))=true:=by simp;omega);(obtain⟨c,n,j⟩:∃c,Lib.compareInt (l_ a:Int) (l_ b:Int)=c/\mW a b=c:=by rcases Nat.lt_or_gt_of_ne hl with h|h;(.exact⟨-1,MJ U,by unfold mW;rw[P_ h]⟩);.exact⟨1,MK U,by unfold mW;rw[C_ U,P_ h]⟩);have g:=O j;clear j;go_in;go_wp2_with fail;refine(cmp_eq _ _ _ n).mono ?_;rintro e m ⟨rfl,rfl⟩;go_wp2;go_ret;exact⟨l9 g.o.symm,rfl⟩
def Qb:∀args w,(callFunc 57 args).run prog w=.ok (.enter 57 args) w:=enters_of func57 k_ rfl
def TW(w:W_)(g size:Nat):CmpLays1 prog 57 #[] (El.v (w:=w) (g:=g)) (λp q=>mW p.l q.l) g 0 size w:=by intro m os a _ x y;refine(Nf x.v y.v x.l y.l _ (x.2.1.CW x.2.2 m a os) (y.2.1.CW y.2.2 m a os)).mono ?_;rintro e w' ⟨rfl,rfl⟩;exact⟨rfl,0,#[],by simp[grow];rfl⟩
theorem Xt(base:Nat)(v:V_)(ps:List (V_×I_))(w:W_)(h:kD w base v ps)(D:l_ ps<=1000000):z 56 #[v,.func (.func 57) #[] #[]] w (Pt w base v ps):=by rcases h.1.2 with⟨rfl,m⟩|⟨g,cap,B,rfl,hb,o,T,X,Z,u⟩;(.have:ps=[]:=Jg m;subst this;refine(Tryz.oJ (α:=Nat) none 0 (.func (.func 57) #[] #[]) w).mono ?_;rintro e w' ⟨rfl,rfl⟩;exact⟨rfl,[],hl_ _,List.Pairwise.nil,kD.nil _ _,R8 _ _⟩);.have A:g<w:=(yZ.1 o).1;(have⟨d,l⟩:∃d:List (El w g),d.map (·.1)=ps:=by refine⟨ps.attach.map λp=>⟨p.1,(h.2 p.1 p.2).1,(h.2 p.1 p.2).2⟩,?_⟩;rw[Vr];exact hm_ ps);(have a:l_ d=l_ ps:=by rw[<-l,qm]);(have C:d.map El.v=ps.map (·.1):=by rw[<-l,Vr];rfl);(have f:w.ownsRow base 31 1 (.slice g (l_ ps) cap) (l_ d) (d.map El.v):=by rw[a,C];exact h.1);have k:=Tryz.sJ (El.v (w:=w) (g:=g)) (El.one w g) (λp q=>mW p.l q.l) (El.swo w g) 57 #[] g 0 cap d.toArray w Qb (TW w g _) (l5 f) A (by simp;omega);rw[show d.toArray.size=l_ ps by simp[a]]at k;refine k.mono ?_;rintro e w' ⟨rfl,d',n,os,b,E,rfl⟩;have c:d'.size=l_ d:=Q b.1;have⟨r,F⟩:=mX (d':=d') c f n os;(have P:d'.toList.Perm d:=by have:=b.2.2;have s:List.take (l_ ps) d'.toList=d'.toList:=J9 (by simp[c,a]);have t:List.take (l_ ps) d=d:=J9 U;simpa[s,t]using this);refine⟨rfl,d'.toList.map (·.1),?_,?_,⟨?_,?_⟩,F⟩;(.grind);(.rw[Vr,by_,R7];intro i j hi x H;have I:i<d'.size:=Q hi;have K:j<d'.size:=Q x;have:=E i j (gZ _) H U;rw[R5 d' i I,R5 d' j K]at this;have y:=(MW _ _).2.1 this;rwa[ho_,ho_]);(.rwa[qm,Vr]);.intro p L;obtain⟨q,_,rfl⟩:=pq.1 L;exact⟨q.2.1.CW q.2.2 n d' os,q.2.2⟩
def T9(h:∀y∈l,i<y):zy l i=0:=by unfold zy;rw[List.countP_eq_zero];intro y a;have:=h y a;simp;omega
def Qc:∀{l:I_},Inc l->i∉l->uH l (zy l i) i=lX l i
 |[],_,_=>rfl
 |x::l,h,hn=>by
  obtain⟨b,c⟩:=EI.1 h;(have d:i≠x:=λe=>hn (by simp[e]));unfold lX;by_cases g:i<x
  .rw[P_ g,T9 (λy a=>by
    rcases jL.1 a with rfl|a;.exact g
    .have:=b y a;omega)]
   rfl
  .rw[C_ g,C_ d,<-Qc c (λf=>hn (by simp[f]))];(have:zy (x::l) i=zy l i+1:=by unfold zy;rw[List.countP_cons_of_pos (by simp;omega)]);rw[this];rfl
def Xu(a:Inc T)(b:∀s∈L,∃x∈s,x∈T):EW L T↔AllAlone T L:=⟨λh=>h.2.2,λh=>⟨a,b,h⟩⟩
noncomputable def qF (found:H_) (X:I_) (m:Nat) (s:I_):List (I_×Nat):=(s.filter λi=>jS (AllAlone (lX X i) (found.take (m+1)))).map λi=>(lX X i,m+1)
def Xv(h:s[j]?=some i):qF found X m (s.take (j+1))=if jS (AllAlone (lX X i) (found.take (m+1))) then qF found X m (s.take j)++[(lX X i,m+1)] else qF found X m (s.take j):=by unfold qF;rw[G_ h,Y9];cases hb:jS (AllAlone (lX X i) (found.take (m+1)))<;>simp[hb]
def GH(found:H_)(X:I_)(m:Nat)(s:I_):l_ (qF found X m s)<=l_ s:=by unfold qF;rw[qm];exact OA _ _
def Qd:∀q∈qF found X m s,q.2=m+1:=λq a=>by unfold qF at a;obtain⟨i,_,rfl⟩:=pq.1 a;rfl
def Xw{a:List (I_×Nat)}(h:∀(i:Nat)(q:I_×Nat),(a++[(X,m)])[i]?=some q->i<=n*q.2)(d:m<=c)(f:l_ s<=n):∀(i:Nat)(q:I_×Nat),(a++qF found X c s)[i]?=some q->i<=n*q.2:=λi q b=>by by_cases hi:i<l_ a;(.rw[cz_ hi]at b;exact h i q (by rwa[cz_ hi]));.rw[db_ U]at b;have g:=(jv.1 b).1;have j:=GH found X c s;have e:=Qd q (gV b);have k:l_ a<=n*m:=h (l_ a) (X,m) (by rw[db_ U];simp);have l:n*m<=n*c:=Nat.mul_le_mul_left _ d;rw[e,Nat.mul_succ];omega
def aac(c:found[m]?=some s)(d:Inc X)(e:∀t∈found.take m,∃x∈t,x∈X)(q:I_×Nat):q∈qF found X m s↔∃i∈s,q=(lX X i,m+1)/\EW (found.take (m+1)) (lX X i):=by have f:found.take (m+1)=found.take m++[s]:=G_ c;(have k:∀i∈s,(EW (found.take (m+1)) (lX X i)↔AllAlone (lX X i) (found.take (m+1))):=λi hi=>Xu (Bg i d) λt h=>by rw[f]at h;rcases iq.1 h with h|h;(.obtain⟨x,a,b⟩:=e t h;exact⟨x,a,(rO _ _ _).2 (.inl b)⟩);.rw[gW.1 h];exact⟨i,hi,(rO _ _ _).2 (.inr rfl)⟩);unfold qF;constructor;(.intro h;obtain⟨i,hi,rfl⟩:=pq.1 h;obtain⟨a,b⟩:=y5.1 hi;exact⟨i,a,rfl,(k i a).2 (jE.1 b)⟩);.rintro⟨i,hi,rfl,g⟩;exact pq.2 ⟨i,y5.2 ⟨hi,fQ ((k i hi).1 g)⟩,rfl⟩
def jW(n K:Nat)(s:List (I_×Nat)):Nat:=(s.map λq=>(n+1) ^ (K-q.2)).sum
def tN(n K:Nat)(a b:List (I_×Nat)):jW n K (a++b)=jW n K a+jW n K b:=by unfold jW;rw[wO,List.sum_append]
def Ed(n K m:Nat):∀b:List (I_×Nat),(∀q∈b,q.2=m+1)->jW n K b=l_ b*(n+1) ^ (K-(m+1))
 |[],_=>by simp[jW]
 |q::b,h=>by
  (have a:=Ed n K m b λq c=>h q (by simp[c]));have d:=h q S;(have:jW n K (q::b)=(n+1) ^ (K-q.2)+jW n K b:=by unfold jW;simp);rw[this,a,d,p8,dx_,iw_]
def Xx(n K a m:Nat)(s M:List (I_×Nat))(X:I_)(f:a<=m)(g:m<K)(hl:l_ M<=n)(b:∀q∈M,q.2=m+1):jW n K (s++M)<jW n K (s++[(X,a)]):=by rw[tN,tN,Ed n K m M b];(have c:jW n K [(X,a)]=(n+1) ^ (K-a):=by simp[jW]);rw[c];have d:(n+1) ^ (K-m)<=(n+1) ^ (K-a):=ft_ U U;(have e:(n+1) ^ (K-m)=(n+1) ^ (K-(m+1))*(n+1):=by rw[<-Nat.pow_succ];congr 1;omega);have h:0<(n+1) ^ (K-(m+1)):=Nat.pow_pos U;have i:l_ M*(n+1) ^ (K-(m+1))<=n*(n+1) ^ (K-(m+1)):=gn_ _ hl;rw[e]at d;generalize (n+1) ^ (K-(m+1))=z at *;(have j:z*(n+1)=n*z+z:=by rw[Nat.mul_succ,OI]);omega
def Ua(n K a:Nat)(s:List (I_×Nat))(X:I_):jW n K s<jW n K (s++[(X,a)]):=by rw[tN];(have b:jW n K [(X,a)]=(n+1) ^ (K-a):=by simp[jW]);have:0<(n+1) ^ (K-a):=Nat.pow_pos U;omega



