import Derived.Sort.Grow
import Derived.StillTailTactics
import Derived.Test.YtjmbkfjklemmpaaGreatDoorJ02
set_option linter.all false
set_option maxRecDepth 100000
set_option maxHeartbeats 32000000
open Go renaming World->W_,Value->V_,maxLen->m_,TypeId->T_
namespace Go.Proofs
abbrev Ih:=@Go.wpList_append_own_at
abbrev bq_:=@Go.callsIn_of_wp_marks
abbrev bs_:=@Go.run_takeDeferred
abbrev bu_:=@Go.belowK_b
abbrev es_:=@Go.wp_region_still_tail
end Go.Proofs
namespace Go.Proofs.YtjmbkfjklemmpaaGreatDoor
section
open Go.RowKit Go.Shelf Tryz
attribute [local go_sem] Zy
def gq{P:Program}{b:Func}{p:Tmp}{c:T_}(h:b.results= #[.cell p c])(tmps:Array V_)(w:W_){a:Addr}{u:V_}(d:tmps.getD p undef=.pointer (some a))(hl:(loadVar c a).run P w=.ok u w):(results b tmps).run P w=.ok u w:=by have e:tmps[p]?.getD undef=.pointer (some a):=Q d;simp[results,h,e,asAddr,hl]
def EW{w:W_}{a:Addr}{v:V_}(h:w.cell? a=some v):(loadVar 29 a).run prog w=.ok v w:=by simp[loadVar,h]
def wB(l:List Cn)(c:Cn):jF (l++[c])=if jF l≠0 then jF l else fI c:=by
 induction l with
 |nil=>simp only[Zh,jF];split<;>simp_all
 |cons a l b=>simp only[IY,jF,b];split<;>simp_all
def Qj{l r:List Cn}(h:jF l≠0):jF (l++r)=jF l:=by
 induction l with
 |nil=>exact absurd rfl h
 |cons a l b=>
  simp only[IY,jF]at h ⊢;split;(·rfl);·rename_i c;rw[u_ c]at h;exact b h
def ZQ(c:Cn):Prop:=∀x∈c.pre,x.name.length<=1000000
def lI:∀ps:List Cn,ps.length<=Cn.sizes ps
 |[]=>gL _
 |c::l=>by have:=lI l;have:=c.size_pos;simp only[Cn.sizes,p8];omega
def WX(c:Cn):∀x∈c.pre,x.size<=c.size:=by
 induction c using Cn.ind with
 |h c e=>
  intro x b;rw[pre_eq]at b;rcases jU.1 b with rfl|b;·exact fU _
  ·have:∀ps:List Cn,(∀p∈ps,p∈c.parts)->x∈Cn.jV ps->x.size<=c.size:=λps=>by
    induction ps with
    |nil=>intro _ h;simp[Cn.jV]at h
    |cons a l g=>
     intro d h;simp only[Cn.jV]at h;rcases gH.1 h with h|h;(·have i:=e a (d a S) x h;have j:=Cn.kr (d a S);omega);·exact g (λp f=>d p (by simp[f])) h
   exact this c.parts (λ_ h=>h) b
def f_.keep{w w':W_}{g:Nat}{t:T_}{a:Array V_}(h:f_ w g t a)(b:w'.heap[g]?=w.heap[g]?):f_ w' g t a:=b.trans h
structure CkI(w:W_)(s:Int)(W:W_):Prop where
 low:G w W
 r:f_ W (w.heap.size+1) 29 #[s]
def ckI(w:W_)(pre:List Cn)(W:W_):Prop:=CkI w 0 W/\jF pre=0
def ckX(w:W_):Code->JC
 | .ret=>λpre W=>CkI w (jF pre) W/\jF pre≠0
 |_=>λ_ _=>False
def CkI.move{w:W_}{s:Int}{W a:W_}{B:Nat}{row:Option Nat}(h:CkI w s W)(b:W.grownBy a row)(c:∀r,row=some r->B<=r)(d:w.heap.size+2<=B):CkI w s a:=⟨h.low.grown b h.low.size (λk e=>by have:=c k e;omega),h.r.keep (b.block _ h.r.lt λe=>by have:=c _ e.symm;omega)⟩
def ckI.own{w:W_}{B:Nat}(a:w.heap.size+2<=B):OwnFrom B (ckI w):=λ_ _ _ _ h b c=>⟨h.1.move b (λr e=>(c r e).1) a,h.2⟩
def ckX.own{w:W_}{B:Nat}(a:w.heap.size+2<=B)(c:Code):OwnFrom B (ckX w c):=λs W f row h b d=>by
 cases c with
 |ret=>exact⟨h.1.move b (λr e=>(d r e).1) a,h.2⟩
 |_=>exact h.elim
def oh(c:Cn)(v:V_)(w:W_)(hc:CV w v c)(hw:ZQ c)(aG:Needs w):z 116 #[v] w λe w'=>e=.returned (r_ c)/\G w w':=by
 refine(x9 (n:=4)).1 ?_;obtain⟨A,cap,rfl,ba,bb,aX⟩:=hc.form;clear aX;have aO:=O hc;obtain⟨a,s⟩:∃a,((((w.alloc (.cells (Cs c A cap) 40)).alloc (.cells #[V 0] 29)).alloc (.cells #[V 0] 3)).setCell ⟨w.heap.size+1+1,0,none⟩ (.int .i64 0))=a:=⟨_,rfl⟩;(have B:f_ a w.heap.size 40 (Cs c A cap):=by rw[<-s];exact(((f_.new _ _ _).alloc _).alloc _).far (by simp only;omega) _);(have aP:f_ a (w.heap.size+1) 29 #[V 0]:=by rw[<-s];exact((f_.newAt _ _ _ S).alloc _).far (by simp only;omega) _);(have ay:f_ a (w.heap.size+1+1) 3 #[V 0]:=by rw[<-s];have:=(f_.newAt ((w.alloc (.cells (Cs c A cap) 40)).alloc (.cells #[V 0] 29)) 3 #[V 0] (n:=w.heap.size+1+1) S).iK 0 (.int .i64 0);simpa using this);(have ak:G w a:=by rw[<-s];exact(L_ (L_ bA _) _).setCell (by simp only;omega) _);(have al:a.heap.size=w.heap.size+3:=by rw[<-s];simp);have H:N a w 0 c.kind:=B.cell 0;have I:N a w 1 (d_ c.name):=B.cell 1;have K:N a w 2 c.lo:=B.cell 2;have L:N a w 3 c.hi:=B.cell 3;have P:N a w 4 (.slice A c.parts.length cap):=B.cell 4;have aE:z 169 #[.agg (Cs c A cap),V 0,.pointer (some ⟨w.heap.size+1+1,0,none⟩)] a (EP a (w.heap.size+1+1) c 0 0):=(WR c _ 0 0 w a _ hc ak U ay U U);have a3:a.heap.size<=w.heap.size+3/\w.heap.size+3<=a.heap.size:=U;clear hc ay al;refine bq_ func116 rfl trivial ?_ rfl;simp only[ntmps116,Zg,p8,MV,Nat.reduceAdd,Nat.reduceSub,bi_,bj_,bk_,bl_,Zh,IY];gi_wp2_with (rw[s]);clear s;refine⟨trivial,((x9).2 aE).mono ?_⟩;rintro e b ⟨aH,aY,rfl,X,aQ,ac,az⟩;clear aE;have ae:G w b:=ak.grown X ak.size (λk e=>by cases e;omega);have C:f_ b (w.heap.size+1) 29 #[V 0]:=aP.grown X S;have t:f_ b w.heap.size 40 (Cs c A cap):=B.grown X (by simp;omega);have a4:=X.size;clear X aQ H I K L P
 cases aH with
 |false=>
  have aI:r_ c=21:=(by unfold r_ Jc;refine u_ λh=>?_;exact absurd (ac.2 ⟨U,U⟩) S);have c1:N b (w.heap.size+1) 0 (V 0):=C.cell 0;have av:=C.frozen 0;have am:=O C;have an:=O ae;clear ac az C ae t;gi_wp2_with fail;(have g1:f_ (b.setCell ⟨w.heap.size+1,0,none⟩ (.int .i64 21)) (w.heap.size+1) 29 #[V 21]:=by have:=am.o.iK 0 (.int .i64 21);simpa using this);exact⟨_,gq rfl _ _ rfl (EW (g1.cell 0)),by rw[aI];rfl,an.o.setCell (by simp only;omega) _⟩
 |true=>
  have af:Jc c:=(by have:=ac.1 rfl;unfold Jc;omega);have H:N b w 0 c.kind:=t.cell 0;have I:N b w 1 (d_ c.name):=t.cell 1;have K:N b w 2 c.lo:=t.cell 2;have L:N b w 3 c.hi:=t.cell 3;have P:N b w 4 (.slice A c.parts.length cap):=t.cell 4;have am:=O C;have an:=O ae;clear ac az C ae t;gi_wp2_with fail;refine⟨trivial,((x9).2 (Nb c.kind c.name c.lo c.hi A c.parts.length cap b)).mono ?_⟩;rintro e aZ ⟨rfl,rfl⟩;clear H I K L P;gi_wp2_with fail;obtain⟨d,E⟩:=e_ (b.alloc (.cells (Cs c A cap) 40));(have aA:G w d:=by rw[<-E];exact L_ an.o _);(have aB:f_ d (w.heap.size+1) 29 #[V 0]:=by rw[<-E];exact am.o.alloc _);(have aR:f_ d b.heap.size 40 (Cs c A cap):=by rw[<-E];exact f_.new _ _ _);(have a5:d.heap.size=b.heap.size+1:=by rw[<-E];simp);rw[E];have aS:ckI w [] d:=⟨⟨aA,aB⟩,rfl⟩;clear aB E
  refine EU (λ_ x=>x.name.length<=1000000/\x.size<=64) w c (λq x r aJ=>have aw:x∈c.pre:=(by rw[aJ];simp);⟨hw x aw,gT (WX c x aw) af.2⟩) b.heap.size c.kind c.name c.lo c.hi A c.parts.length cap U rfl rfl aA aR aO.o (ckI w) (ckX w) (ckI.own U) (ckX.own U) aS
   (λu a1 W=>∃(T:Array V_)(g:Nat),u=.agg T/\f_ W g 40 T/\b.heap.size+3<=g/\a1={tmps:= #[.agg (Cs c A cap),.pointer (some ⟨w.heap.size,0,none⟩),.pointer (some ⟨w.heap.size+1,0,none⟩),.pointer (some ⟨w.heap.size+1+1,0,none⟩),.pointer (some ⟨g,0,none⟩),undef,
    .agg (Cs c A cap),.bool true,.bool false,.agg (Cs c A cap),
    .func (.func 227) #[] #[.pointer (some ⟨b.heap.size,0,none⟩)],u,undef,undef,undef,undef,undef],defers:=[]})
   ?assign ?ap ?body ?done ?stop
  (case assign=>intro lp u x W a0 Z al l;obtain⟨Ax,ag,rfl,_⟩:=Z.form;have y:=O l;clear l;gi_wp2;exact y.o _ _ ⟨_,_,rfl,f_.new _ _ _,U,rfl⟩ bA);case ap=>rintro u a1 W a2 ⟨T,g,rfl,aK,aL,rfl⟩;exact⟨T,g,rfl,aK.keep (Hf U),aL,rfl⟩
  case body=>
   rintro lp pre u x a1 W a6 ⟨a7,aT⟩ m Z aU al ⟨T,g,rfl,F,a8,rfl⟩;obtain⟨Ax,ag,ao,_⟩:=Z.form;injection ao with ao;subst ao;have H:N W g 0 x.kind:=F.cell 0;have I:N W g 1 (d_ x.name):=F.cell 1;have K:N W g 2 x.lo:=F.cell 2;have L:N W g 3 x.hi:=F.cell 3;have P:N W g 4 (.slice Ax x.parts.length ag):=F.cell 4;have f:=O m;(have a9:x.parts.length<=64:=by have:=lI x.parts;rw[size_eq]at aT;omega);clear m Z F aU;gi_wp2_with fail;refine⟨trivial,((x9).2 (DJ x Ax ag W (aG.up f.o.1.low) U U)).mono ?_⟩;rintro e i ⟨rfl,j⟩;have aF:G w i:=b_ f.o.1.low j;have ad:f_ i (w.heap.size+1) 29 #[V 0]:=f.o.1.r.below j;have c1:N i (w.heap.size+1) 0 (V 0):=ad.cell 0;have av:=ad.frozen 0;clear H I K L P;by_cases aa:fI x=0
   ·have ah:Hid (KeepsFrom d.heap.size W i/\zA w.heap.size (d.heap.size+2) W i/\ckI w (pre++[x]) i):=O
     ⟨⟨j.size,λk o _ ai _=>(j.block k (vR.1 ai).1).trans ai⟩,zA.below j,⟨aF,ad⟩,by rw[wB,f.o.2,aa];rfl⟩
    rw[aa]
    gi_wp2_with fail
    exact ah.o
   ·have hb:(fI x !=0)=true:=Q aa
    have ai:w.heap.size+1<d.heap.size:=U
    have ah:Hid (KeepsFrom d.heap.size W (i.setCell ⟨w.heap.size+1,0,none⟩ (.int .i64 (fI x)))/\zA w.heap.size (d.heap.size+2) W (i.setCell ⟨w.heap.size+1,0,none⟩ (.int .i64 (fI x)))/\ckX w .ret (pre++[x]) (i.setCell ⟨w.heap.size+1,0,none⟩ (.int .i64 (fI x)))):=O
     ⟨⟨by simpa[World.setCell]using j.size,λk o aC aq _=>(D8 _ _ _ _ (by simp only;omega)).trans ((j.block k (vR.1 aq).1).trans aq)⟩,⟨by simpa[World.setCell]using j.size,λk aC aq=>(D8 _ _ _ _ (by simp only;omega)).trans (j.block k aC)⟩,⟨aF.setCell (by simp only;omega) _,by have:=ad.iK 0 (.int .i64 (fI x));rw[wB,f.o.2];simpa using this⟩,by rw[wB,f.o.2];simpa using aa⟩
    gi_wp2_with fail;exact ah.o
  case done=>intro D W aM m l;have c1:N W (w.heap.size+1) 0 (V 0):=m.1.r.cell 0;have av:=m.1.r.frozen 0;have f:=O m;have y:=O l;have a':D≠w.heap.size+1:=U;clear m l;gi_wp2_with fail;obtain⟨p,ab⟩:∃p,W.setCell ⟨w.heap.size+1,0,none⟩ (.int .i64 0)=p:=⟨_,rfl⟩;(have aD:p.heap[D]?=some (.deferred (some [])):=by rw[<-ab];exact(D8 _ _ _ _ (by simp only;omega)).trans y.o);(have aV:G w p:=by rw[<-ab];exact f.o.1.low.setCell (by simp only;omega) _);(have aW:f_ p (w.heap.size+1) 29 #[V 0]:=by rw[<-ab];have:=f.o.1.r.iK 0 (.int .i64 0);simpa using this);rw[ab];refine⟨S,.inl ⟨_,_,rfl,bs_ aD,?_⟩⟩;have ar:=aW.keep (Hf (w:=p) (r:=D) (o:= .deferred none) (k:=w.heap.size+1) U);refine⟨_,gq rfl _ _ rfl (EW (ar.cell 0)),?_,aV.trans (bu_ (w:=w) (fU _) p D _ _ U aD rfl rfl)⟩;(have:r_ c=0:=by unfold r_;rw[A_ af];exact f.o.2);rw[this];rfl
  case stop=>
   intro D ax q r W aM aN aj l
   have hc:ax=.ret:=by
    cases ax with
    |ret=>rfl
    |_=>exact aj.elim
   subst hc;have au:CkI w (jF q) W/\jF q≠0:=aj;have y:=O l;clear aj l;gi_wp2_with fail;refine⟨S,.inl ⟨_,_,rfl,bs_ y.o,?_⟩⟩;have ar:=au.1.r.keep (Hf (w:=W) (r:=D) (o:= .deferred none) (k:=w.heap.size+1) U);refine⟨_,gq rfl _ _ rfl (EW (ar.cell 0)),?_,au.1.low.trans (bu_ (w:=w) (fU _) W D _ _ U y.o rfl rfl)⟩;(have:r_ c=jF q:=by unfold r_;rw[A_ af,aN,Qj au.2]);rw[this];rfl
end
section
open Go.RowKit Go.Sort Tryz
def jO(w w':W_):Prop:=∃q os,w'=grow (w.drewN q) os
def jO.refl(w:W_):jO w w:=⟨0,#[],by unfold grow World.drewN;simp⟩
def jO.trans{a b c:W_}(h:jO a b)(k:jO b c):jO a c:=by obtain⟨q,os,rfl⟩:=h;obtain⟨d,e,rfl⟩:=k;exact⟨q+d,os++e,by unfold grow World.drewN;simp[Array.append_assoc,gx_]⟩
def jO.al{a b:W_}(h:jO a b)(o:Obj):jO a (b.alloc o):=h.trans ⟨0,#[o],by unfold grow World.drewN World.alloc;simp⟩
def jO.drew{a b:W_}(h:jO a b):jO a b.drew:=h.trans ⟨1,#[],by unfold grow World.drewN World.drew;simp⟩
def jO.below{a b:W_}(h:jO a b):G a b:=by obtain⟨q,os,rfl⟩:=h;refine⟨rfl,rfl,rfl,by simp[grow,World.drewN],λk c=>?_⟩;show(a.heap++os)[k]?=_;rw[dk_ c]
mutual
def qZ(w:W_):Cn->List V_->Prop
 | .mk k n l h ps,cs=>∃A cap B abH,cs=[.int .i64 k,d_ n,.int .i64 l,.int .i64 h,.slice A ps.length cap,.int .i64 (Cn.sizes ps+1:Nat),.slice B ps.length abH]/\ mU w (.mk k n l h ps) [.int .i64 k,d_ n,.int .i64 l,.int .i64 h,.slice A ps.length cap]/\ps.length<=abH/\abH<=m_/\ (0<ps.length->∃b off,B=some ⟨b,off,none⟩/\b<w.heap.size/\wC w ps b off)
def wC(w:W_):List Cn->Nat->Nat->Prop
 |[],_,_=>True
 |c::l,b,off=>(∃cs,(∀(j:Nat) u,cs[j]?=some u->N w b (off+j) u)/\qZ w c cs)/\wC w l b (off+7)
end
section
variable{w w':W_}
def qZ.up{c:Cn}{a:List V_}(h:qZ w c a)(hb:G w w'):qZ w' c a:=by suffices q:∀a,qZ w c a->qZ w' c a from q a h;clear h;refine Cn.rec (motive_1:=λc=>∀a,qZ w c a->qZ w' c a) (motive_2:=λps=>∀b d,b<w.heap.size->wC w ps b d->wC w' ps b d) ?_ ?_ ?_ c;(·intro k n l g ps r a h;unfold qZ at h ⊢;obtain⟨A,cap,B,y,e,s,i,m,t⟩:=h;refine⟨A,cap,B,y,e,s.up hb,i,m,λhl=>?_⟩;obtain⟨b,d,v,f,o⟩:=t hl;exact⟨b,d,v,sK f hb.size,r b d f o⟩);(·intro b d _ _;unfold wC;trivial);·intro c l i m b d f h;unfold wC at h ⊢;obtain⟨⟨a,hc,o⟩,h⟩:=h;exact⟨⟨a,λj u x=>(hb.cell (p:=⟨b,d+j,none⟩) f).trans (hc j u x),i a o⟩,m b _ f h⟩
def wC.get:∀{ps:List Cn}{b d:Nat},wC w ps b d->∀{i:Nat}{p:Cn},ps[i]?=some p->∃a,(∀(j:Nat) u,a[j]?=some u->N w b (d+7*i+j) u)/\qZ w p a
 |[],_,_,_,_,_,hi=>by simp at hi
 |c::l,b,d,h,0,p,hi=>by
  simp at hi;subst hi;unfold wC at h;simpa using h.1
 |c::l,b,d,h,i+1,p,hi=>by
  unfold wC at h;obtain⟨a,e,f⟩:=wC.get h.2 (i:=i) (p:=p) (Q hi);exact⟨a,λj u g=>by rw[<-e j u g];congr 2;omega,f⟩
def wC.of:∀{ps:List Cn}{b g:Nat},(∀i p,ps[i]?=some p->∃a,(∀(j:Nat) u,a[j]?=some u->N w b (g+7*i+j) u)/\qZ w p a)->wC w ps b g
 |[],_,_,_=>by unfold wC;trivial
 |c::l,b,g,h=>by
  unfold wC;obtain⟨a,d,e⟩:=h 0 c rfl;refine⟨⟨a,λj u f=>by have:=d j u f;simpa using this,e⟩,wC.of λi p k=>?_⟩;obtain⟨a,d,e⟩:=h (i+1) p (Q k);exact⟨a,λj u f=>by rw[<-d j u f];congr 2;omega,e⟩
def qZ.cells{c:Cn}{b:List V_}(h:qZ w c b):∃A cap B a,b=[.int .i64 c.kind,d_ c.name,.int .i64 c.lo,.int .i64 c.hi,.slice A c.parts.length cap,.int .i64 (c.size:Nat),.slice B c.parts.length a]:=by obtain⟨k,n,l,g,ps⟩:=c;unfold qZ at h;obtain⟨A,cap,B,a,rfl,_⟩:=h;exact⟨A,cap,B,a,rfl⟩
def qZ.form{c:Cn}{a:List V_}(h:qZ w c a):∃A cap B d,a=[.int .i64 c.kind,d_ c.name,.int .i64 c.lo,.int .i64 c.hi,.slice A c.parts.length cap,.int .i64 (c.size:Nat),.slice B c.parts.length d]/\ mU w c [.int .i64 c.kind,d_ c.name,.int .i64 c.lo,.int .i64 c.hi,.slice A c.parts.length cap]/\c.parts.length<=d/\d<=m_/\ (0<c.parts.length->∃b e,B=some ⟨b,e,none⟩/\b<w.heap.size/\∀i p,c.parts[i]?=some p->∃a,(∀(j:Nat) u,a[j]?=some u->N w b (e+7*i+j) u)/\qZ w p a):=by obtain⟨k,n,l,g,ps⟩:=c;unfold qZ at h;obtain⟨A,cap,B,d,rfl,f,m,o,q⟩:=h;refine⟨A,cap,B,d,rfl,f,m,o,λhl=>?_⟩;obtain⟨b,e,r,v,s⟩:=q hl;exact⟨b,e,r,v,λi p t=>s.get t⟩
def qZ.mk{c:Cn}{A B:Option Addr}{cap d:Nat}(f:mU w c [.int .i64 c.kind,d_ c.name,.int .i64 c.lo,.int .i64 c.hi,.slice A c.parts.length cap])(h:c.parts.length<=d)(m:d<=m_)(o:0<c.parts.length->∃b a,B=some ⟨b,a,none⟩/\b<w.heap.size/\∀i p,c.parts[i]?=some p->∃e,(∀(j:Nat) u,e[j]?=some u->N w b (a+7*i+j) u)/\qZ w p e):qZ w c [.int .i64 c.kind,d_ c.name,.int .i64 c.lo,.int .i64 c.hi,.slice A c.parts.length cap,.int .i64 (c.size:Nat),.slice B c.parts.length d]:=by obtain⟨k,n,l,g,ps⟩:=c;unfold qZ;refine⟨A,cap,B,d,rfl,f,h,m,λhl=>?_⟩;obtain⟨b,a,q,s,r⟩:=o hl;exact⟨b,a,q,s,wC.of r⟩
def qZ.len{c:Cn}{a:List V_}(h:qZ w c a):a.length=7:=by obtain⟨A,cap,B,b,rfl⟩:=h.cells;rfl
def qZ.one{c:Cn}{a:List V_}(h:qZ w c a):∀u∈a,u.oneCell'=true:=by obtain⟨A,cap,B,d,rfl⟩:=h.cells;intro u b;simp at b;rcases b with rfl|rfl|rfl|rfl|rfl|rfl|rfl<;>rfl
def TV(w:W_)(v:V_)(c:Cn):Prop:=∃cs,v=.agg cs.toArray/\qZ w c cs
end
section
variable{w w':W_}{base:Nat}{v:V_}{ps:List (List V_×Cn)}
def Tg{α:Type}{k:Nat}{f:α->List V_}:∀{l:List α}(_:∀x∈l,(f x).length=k){i:Nat}{x:α}(_:l[i]?=some x){j:Nat}{u:V_}(_:(f x)[j]?=some u),(l.flatMap f)[i*k+j]?=some u
 |[],_,i,x,hi,_,_,_=>by simp at hi
 |a::l,hk,0,x,hi,j,u,hj=>by
  simp at hi;subst hi;have d:=(iR.1 hj).1;rw[M5,Qa U];simpa using hj
 |a::l,hk,i+1,x,hi,j,u,hj=>by
  have b:=hk a S;rw[M5,WJ (by rw[b,ec_];omega),b,show(i+1)*k+j-k=i*k+j by rw[ec_];omega];exact Tg (λy c=>hk y (by simp[c])) (Q hi) hj
def WY{α:Type}{base k n:Nat}{e:T_}{f:α->List V_}{l:List α}(h:w.ownsRow base e k v n (l.flatMap f))(q:0<n)(b:∀x∈l,(f x).length=k):∃g cap,v=.slice (some ⟨g,0,none⟩) n cap/\base<=g/\g<w.heap.size/\n<=cap/\cap<=m_/\∀i x,l[i]?=some x->∀(j:Nat) u,(f x)[j]?=some u->N w g (i*k+j) u:=by rcases h.2 with⟨_,r⟩|⟨g,cap,y,rfl,hb,c,p,d,s,t⟩;(·omega);·refine⟨g,cap,rfl,hb,(vR.1 c).1,p,d,λi x hi j u m=>?_⟩;have o:=Tg b hi m;have a:=h.cells (g:=g) rfl (i*k+j) u o;rw[add_lit,IZ]at a;exact a
end
def mU.kp{w w':W_}{c:Cn}{a:List V_}(h:mU w c a)(o:∀k,k<w.heap.size->w'.heap[k]?=w.heap[k]?)(f:w.heap.size<=w'.heap.size):mU w' c a:=by have hb:G w {w with heap:=w'.heap}:=⟨rfl,rfl,rfl,f,o⟩;have:=h.up hb;(have key:∀(c:Cn)(a:List V_),mU {w with heap:=w'.heap} c a->mU w' c a:=λc a h=>by suffices f:∀a,mU {w with heap:=w'.heap} c a->mU w' c a from f a h;clear h;refine Cn.rec (motive_1:=λc=>∀a,mU {w with heap:=w'.heap} c a->mU w' c a) (motive_2:=λps=>∀b d,pK {w with heap:=w'.heap} ps b d->pK w' ps b d) ?_ ?_ ?_ c;(·intro k n l g ps p a h;unfold mU at h ⊢;obtain⟨A,cap,e,i,j,q⟩:=h;refine⟨A,cap,e,i,j,λr=>?_⟩;obtain⟨b,d,s,t,m⟩:=q r;exact⟨b,d,s,t,p b d m⟩);(·intro b d _;unfold pK;trivial);·intro c l i j b d h;unfold pK at h ⊢;obtain⟨⟨a,hc,m⟩,h⟩:=h;exact⟨⟨a,hc,i a m⟩,j b _ h⟩);exact key c a this
def zO(Q:Nat->Prop)(row:Option Nat)(w:W_)(c:Cn)(cs:List V_):Prop:=∃Z:Nat->Prop,(∀k,Z k->Q k/\k<w.heap.size/\some k≠row)/\∀W:W_,(∀k,Z k->W.heap[k]?=w.heap[k]?)->w.heap.size<=W.heap.size->qZ W c cs
section
variable{Q:Nat->Prop}{row:Option Nat}{w w':W_}{c:Cn}{cs:List V_}
def zO.rd(h:zO Q row w c cs):qZ w c cs:=by obtain⟨Z,_,a⟩:=h;exact a w (λ_ _=>rfl) (fU _)
def zO.kept(h:zO Q row w c cs)(d:w.grownBy w' row):zO Q row w' c cs:=by obtain⟨Z,b,f⟩:=h;have e:=d.size;exact⟨Z,λk a=>⟨(b k a).1,sK (b k a).2.1 e,(b k a).2.2⟩,λW g i=>f W (λk a=>(g k a).trans (d.block k (b k a).2.1 (b k a).2.2)) (gT e i)⟩
def zO.move(h:zO Q row w c cs)(d:w.grownBy w' row){f:Option Nat}(i:f=row\/f=some w.heap.size):zO Q f w' c cs:=by rcases i with rfl|rfl;(·exact h.kept d);·obtain⟨Z,o,p⟩:=h.kept d;obtain⟨j,b,l⟩:=h;have g:=d.size;refine⟨j,λk a=>⟨(b k a).1,sK (b k a).2.1 g,λe=>?_⟩,λW m n=>l W (λk a=>(m k a).trans (d.block k (b k a).2.1 (b k a).2.2)) (gT g n)⟩;injection e with e;have:=(b k a).2.1;omega
def zO.up(h:zO Q row w c cs)(hb:G w w'):zO Q row w' c cs:=by obtain⟨Z,b,d⟩:=h;exact⟨Z,λk a=>⟨(b k a).1,sK (b k a).2.1 hb.size,(b k a).2.2⟩,λW e f=>d W (λk a=>(e k a).trans (hb.block k (b k a).2.1)) (gT hb.size f)⟩
def zO.far(h:zO Q row w c cs){p:Addr}{u:V_}(f:¬Q p.block):zO Q row (w.setCell p u) c cs:=by obtain⟨Z,b,g⟩:=h;(have d:(w.setCell p u).heap.size=w.heap.size:=by simp[World.setCell]);exact⟨Z,λk a=>⟨(b k a).1,by rw[d];exact(b k a).2.1,(b k a).2.2⟩,λW i j=>g W (λk a=>(i k a).trans (D8 w p u k (λe=>f (e ▸ (b k a).1)))) (by rw[<-d];exact j)⟩
end
def jk(Q:Nat->Prop)(base:Nat)(w:W_)(v:V_)(ps:List (List V_×Cn)):Prop:=w.ownsRow base 183 7 v ps.length (ps.flatMap (·.1))/\∀p∈ps,zO Q v.ownBlock w p.2 p.1
def jk.snoc{Q:Nat->Prop}{base:Nat}{w w':W_}{v v':V_}{ps:List (List V_×Cn)}{c:Cn}{cs:List V_}(h:jk Q base w v ps)(d:w'.ownsRow base 183 7 v' (ps.length+1) (ps.flatMap (·.1)++cs))(b:w.grownBy w' v.ownBlock)(hb:v'.ownBlock=v.ownBlock\/v'.ownBlock=some w.heap.size)(hc:zO Q v.ownBlock w c cs):jk Q base w' v' (ps++[(cs,c)]):=by refine⟨by simpa[WK]using d,λp a=>?_⟩;rcases gH.1 a with a|a;(·exact(h.2 p a).move b hb);·rw[gy.1 a];exact hc.move b hb
def RdZ(Z:Nat->Prop)(w w':W_)(c:Cn)(cs:List V_):Prop:=∀W:W_,(∀k,(Z k\/(w.heap.size<=k/\k<w'.heap.size))->W.heap[k]?=w'.heap[k]?)->w'.heap.size<=W.heap.size->qZ W c cs
def RdZ.apT{Z:Nat->Prop}{w w':W_}{c:Cn}{cs:List V_}(h:RdZ Z w w' c cs){Q:Nat->Prop}{row:Option Nat}(b:∀k,Z k\/w.heap.size<=k->Q k)(d:∀k,Z k->k<w.heap.size)(j:w.heap.size<=w'.heap.size)(f:∀k,row=some k->¬Z k/\k<w.heap.size):zO Q row w' c cs:=
 ⟨λk=>Z k\/(w.heap.size<=k/\k<w'.heap.size),λk a=>⟨b k (a.imp id (·.1)),by rcases a with a|a;(·have:=d k a;omega);(·exact a.2),λe=>by
  have:=f k e.symm;rcases a with a|a;·exact this.1 a
  ·omega⟩,λW g i=>h W g i⟩
def CZ(Z:Nat->Prop)(w:W_)(c:Cn)(cs:List V_):Prop:=(∀k,Z k->k<w.heap.size)/\∀W:W_,(∀k,Z k->W.heap[k]?=w.heap[k]?)->w.heap.size<=W.heap.size->mU W c cs
def CZ.rd{Z:Nat->Prop}{w:W_}{c:Cn}{cs:List V_}(h:CZ Z w c cs):mU w c cs:=h.2 w (λ_ _=>rfl) (fU _)
def CZ.kp{Z:Nat->Prop}{w w':W_}{c:Cn}{cs:List V_}(h:CZ Z w c cs)(d:∀k,Z k->w'.heap[k]?=w.heap[k]?)(b:w.heap.size<=w'.heap.size):CZ Z w' c cs:=⟨λk a=>sK (h.1 k a) b,λW e f=>h.2 W (λk a=>(e k a).trans (d k a)) (gT b f)⟩
def CZ.up{Z:Nat->Prop}{w w':W_}{c:Cn}{cs:List V_}(h:CZ Z w c cs)(hb:G w w'):CZ Z w' c cs:=h.kp (λk a=>hb.block k (h.1 k a)) hb.size
def CZ.mono{Z a:Nat->Prop}{w:W_}{c:Cn}{cs:List V_}(h:CZ Z w c cs)(b:∀k,Z k->a k)(hb:∀k,a k->k<w.heap.size):CZ a w c cs:=⟨hb,λW d f=>h.2 W (λk e=>d k (b k e)) f⟩
def mU.Ti{a w:W_}{c:Cn}{cs:List V_}(h:mU a c cs)(d:G a w):CZ (λk=>k<a.heap.size) w c cs:=⟨λ_ b=>sK b d.size,λ_ e f=>h.kp (λk b=>(e k b).trans (d.block k b)) (gT d.size f)⟩
def CZ.parts{Z:Nat->Prop}{w:W_}{c:Cn}{cs:List V_}{A:Option Addr}{n cap:Nat}(h:CZ Z w c cs)(y:cs[4]?=some (.slice A n cap))(r:0<c.parts.length):∃b d,A=some ⟨b,d,none⟩/\Z b/\∀i p,c.parts[i]?=some p->∃a,(∀(j:Nat) u,a[j]?=some u->N w b (d+5*i+j) u)/\CZ Z w p a:=by
 obtain⟨k,ad,l,g,ps⟩:=c;have B:=h.rd;unfold mU at B;obtain⟨ae,am,rfl,ai,aj,H⟩:=B;simp at y;obtain⟨rfl,rfl,rfl⟩:=y;obtain⟨b,d,rfl,X,af⟩:=H r;have part:∀W:W_,(∀k,Z k->W.heap[k]?=w.heap[k]?)->w.heap.size<=W.heap.size->pK W ps b d:=λW f s=>by have C:=h.2 W f s;unfold mU at C;obtain⟨ak,ao,e,_,_,I⟩:=C;obtain⟨ag,an,K,_,L⟩:=I r;simp at e;rw[K]at e;simp at e;obtain⟨⟨rfl,rfl⟩,_⟩:=e;exact L
 have F:Z b:=by
  by_cases E:Z b;(·exact E);exfalso;have aa:=g_ r;obtain⟨p,m⟩:=aa
  obtain⟨a,q,v⟩:=(part {w with heap:=w.heap.setIfInBounds b (.cells #[] 40)} (λk P=>by
   show(w.heap.setIfInBounds b _)[k]?=_
   rw[Zm,u_ (show ¬b=k from λe=>E (by rw[e];exact P))]) S).get m
  obtain⟨T,c2,rfl⟩:=v.cells;have:=q 0 _ rfl;simp[World.cell?,X]at this
 refine⟨b,d,rfl,F,λi p m=>?_⟩;obtain⟨a,q,v⟩:=(part w (λ_ _=>rfl) (fU _)).get m;refine⟨a,q,h.1,λW f s=>?_⟩;obtain⟨al,ab,x⟩:=(part W f s).get m;obtain⟨T,c2,rfl⟩:=v.cells;obtain⟨ah,c3,rfl⟩:=x.cells;(have ac:∀o,W.cell? ⟨b,o,none⟩=w.cell? ⟨b,o,none⟩:=λo=>by unfold World.cell?;simp only[f b F]);have t:=(ab 4 _ rfl).symm.trans ((ac _).trans (q 4 _ rfl));injection t with t;rw[t]at x;exact x
def qw(Z:Nat->Prop)(w:W_)(c:Cn)(e:Ending)(w':W_):Prop:=∃cs:List V_,e=.returned (.agg cs.toArray)/\RdZ Z w w' c cs/\G w w'
def aa9:(prog.info? 183).map (λi=>(i.zero,i.size,i.bytes))=some (some (.agg #[V 0,.string ⟨#[]⟩,V 0,V 0,.slice none 0 0,V 0,.slice none 0 0]),7,96):=by kernel_rfl
def yV(w:W_)(n:Nat)(b:n=w.heap.size)(t:T_)(a:List V_):∀(j:Nat)(x:V_),a[j]?=some x->(w.alloc (.cells a.toArray t)).cell? ((⟨n,0,none⟩:Addr).add j)=some x:=by subst b;intro j x h;rw[add_lit,ji];simpa using h
def iN{w:W_}{g:Nat}{t:T_}{a:Array V_}(h:f_ w g t a){i:Nat}{u:V_}(hi:a[i]?=some u):w.setCell ⟨g,i,none⟩ u=w:=by(have c:(w.setCell ⟨g,i,none⟩ u).heap=w.heap:=by(refine Array.ext_getElem? λk=>?_);by_cases b:k=g;(·subst b;refine(h.iK i u).trans (Eq.trans ?_ h.symm);congr 2;(refine Array.ext_getElem? λj=>?_);rw[Zm];split;(·rename_i e;subst e;split;(·exact hi.symm);·rename_i d;have:=(vR.1 hi).1;exact absurd this d);·rfl);·exact D8 w _ u k b);have hw:w.setCell ⟨g,i,none⟩ u={w with heap:=(w.setCell ⟨g,i,none⟩ u).heap}:=rfl;rw[hw,c]
def seven{w:W_}{g:Nat}{t:T_}{a b c d e f i:V_}(h:f_ w g t #[a,b,c,d,e,f,i]):N w g 0 a/\N w g 1 b/\N w g 2 c/\N w g 3 d/\N w g 4 e/\N w g 5 f/\N w g 6 i:=⟨h.cell 0,h.cell 1,h.cell 2,h.cell 3,h.cell 4,h.cell 5,h.cell 6⟩
def iU(w:W_)(p:Addr)(u:V_):w.grownBy (w.setCell p u) (some p.block):=⟨rfl,rfl,rfl,by simp[World.setCell],λk _ a=>D8 w p u k λe=>a (by rw[e])⟩
def jk.far{Q:Nat->Prop}{base:Nat}{w:W_}{v:V_}{ps:List (List V_×Cn)}(h:jk Q base w v ps){p:Addr}{u:V_}(a:¬Q p.block)(hb:p.block<base):jk Q base (w.setCell p u) v ps:=⟨h.1.kept (iU w p u) (.inr λe=>by have:=(h.1.lt _ e).1;omega),λq b=>(h.2 q b).far a⟩
def jk.al{Q:Nat->Prop}{base:Nat}{w:W_}{v:V_}{ps:List (List V_×Cn)}(h:jk Q base w v ps)(o:Obj):jk Q base (w.alloc o) v ps:=⟨gB h.1 bA,λq a=>(h.2 q a).up bA⟩
def Bo(Z:Nat->Prop)(c:Cn):∀(ac:List V_)(w:W_),CZ Z w c ac->c.size<=100000->z 119 #[.agg ac.toArray] w (qw Z w c):=by
 induction c using Cn.ind with
 |h c au=>
  intro ac w hc bM;obtain⟨A,cap,aV,bS,bu,_⟩:=hc.rd.cv.form;(obtain rfl:ac=(Cs c A cap):=by injection aV with e;have:=qQ Array.toList e;simpa using this);have a1:=hc.parts (A:=A) (n:=c.parts.length) (cap:=cap) rfl;unfold m_ at bu;have T:Hid (∀k,Z k->k<w.heap.size):=O hc.1
  obtain⟨Q,av,aC⟩:∃Q:Nat->Prop,(∀k,Q k↔(Z k\/w.heap.size+2<=k))/\¬Q (w.heap.size+1):=⟨λk=>Z k\/w.heap.size+2<=k,λ_=>gb_,λh=>by
   rcases h with h|h;·have:=hc.1 _ h;omega
   ·omega⟩
  have aw:=O av;have am:=O aC;have bf:=lI c.parts;have aD:=size_eq c;have a2:=O a1;have bg:=O au;have bh:=O hc;have aE:=O aD;have bD:c.parts.length<=100000:=U;obtain⟨i0,hi,bi,bj,bk⟩:=qV aa9;clear a1 au hc bf aD aV av aC;go_in;go_wp2_with fail;obtain⟨t,I⟩:∃t,(w.alloc (.cells (Cs c A cap) 40)).alloc (.cells #[c.kind,c.name,c.lo,c.hi,.slice A c.parts.length cap,V 1,.slice none 0 0] 183)=t:=⟨_,rfl⟩;(have aF:f_ t (w.heap.size+1) 183 #[c.kind,c.name,c.lo,c.hi,.slice A c.parts.length cap,V ((1+Cn.sizes (c.parts.take 0):Nat):Int),.slice none 0 0]:=by rw[<-I];simpa[Cn.sizes]using f_.newAt (w.alloc (.cells (Cs c A cap) 40)) 183 #[c.kind,c.name,c.lo,c.hi,.slice A c.parts.length cap,V 1,.slice none 0 0] (n:=w.heap.size+1) S);(have aG:G w t:=by rw[<-I];exact L_ bA _);(have an:w.heap.size+2<=t.heap.size:=by rw[<-I];simp);rw[I];have aH:Hid (G w t/\f_ t (w.heap.size+1) 183 #[c.kind,c.name,c.lo,c.hi,.slice A c.parts.length cap,V ((1+Cn.sizes (c.parts.take 0):Nat):Int),.slice none 0 0]/\jk Q (w.heap.size+2) t (.slice none 0 0) []/\([]:List (List V_×Cn)).map (·.2)=c.parts.take 0):=O ⟨aG,aF,⟨Ba _ _ _ _,λ_ h=>by cases h⟩,rfl⟩;clear I aF aG;go_loopw [11] (λi wr=>∃(k:Nat)(m:V_)(ps:List (List V_×Cn)),k<=c.parts.length/\i=.int .i64 (k:Int)/\w.heap.size+2<=wr.heap.size/\Hid (G w wr/\f_ wr (w.heap.size+1) 183 #[c.kind,c.name,c.lo,c.hi,.slice A c.parts.length cap,V ((1+Cn.sizes (c.parts.take k):Nat):Int),m]/\jk Q (w.heap.size+2) wr m ps/\ps.map (·.2)=c.parts.take k)) (λi _=>c.parts.length-(intOf i).toNat);exact⟨0,_,[],gL _,rfl,an,aH⟩;clear aH an;obtain⟨k,m,ps,r,rfl,an,l⟩:=hrel;by_cases bl:k<c.parts.length
  ·obtain⟨b,o,rfl,aI,aZ⟩:=a2.o U
   obtain⟨p,s⟩:=g_ bl;obtain⟨ax,E,ao⟩:=aZ k p s;obtain⟨X,aa,rfl⟩:=ao.rd.cells;have x:G w wr:=l.o.1;have F:b<w.heap.size:=T.o b aI;have a3:N wr b (o+k*5) p.kind:=(x.cell (p:=⟨b,o+k*5,none⟩) F).trans (by have:=E 0 _ rfl;rw[<-this];congr 2;omega);have ag:N wr b (o+k*5+1) (d_ p.name):=(x.cell (p:=⟨b,o+k*5+1,none⟩) F).trans (by have:=E 1 _ rfl;rw[<-this];congr 2;omega);have ah:N wr b (o+k*5+2) p.lo:=(x.cell (p:=⟨b,o+k*5+2,none⟩) F).trans (by have:=E 2 _ rfl;rw[<-this];congr 2;omega);have a4:N wr b (o+k*5+3) p.hi:=(x.cell (p:=⟨b,o+k*5+3,none⟩) F).trans (by have:=E 3 _ rfl;rw[<-this];congr 2;omega);have a5:N wr b (o+k*5+4) (.slice X p.parts.length aa):=(x.cell (p:=⟨b,o+k*5+4,none⟩) F).trans (by have:=E 4 _ rfl;rw[<-this];congr 2;omega);have bN:=Cn.kr (gM s);have aq:=pO s;have bT:=aE.o;have aJ:=O s;have r1:(0:Int)<=(k:Int):=U;have bE:(k:Int)<(c.parts.length:Int):=U;have a0:Hid (z 119 #[.agg (Cs p X aa)] (wr.alloc (.cells (Cs p X aa) 40)) (qw Z (wr.alloc (.cells (Cs p X aa) 40)) p)):=O (bg.o p (gM s) _ _ ((ao.up x).up bA) U);clear aZ E ao s x F aI;go_wp2_with fail;refine a0.o.mono ?_;rintro e f ⟨ax,rfl,ai,K⟩;have aW:qZ f p ax:=ai f (λ_ _=>rfl) (fU _);obtain⟨a6,bv,a7,bB,rfl⟩:=aW.cells;(have bO:wr.heap.size+1<=f.heap.size:=by have:=K.size;simpa using this);have L:f_ f (w.heap.size+1) 183 #[c.kind,c.name,c.lo,c.hi,.slice (some ⟨b,o,none⟩) c.parts.length cap,V ((1+Cn.sizes (c.parts.take k):Nat):Int),m]:=(l.o.2.1.alloc _).below K;have ae:Below wr.heap.size wr f:=b_ (L_ (fD _ _) _) K;have aX:G w f:=b_ l.o.1 ae;have aK:jk Q (w.heap.size+2) f m ps:=⟨gB l.o.2.2.1.1 ae,λq B=>(l.o.2.2.1.2 q B).up ae⟩
   have aL:zO Q m.ownBlock f p _:=ai.apT (λk r=>(aw.o k).2 (r.imp id λh=>by simp at h;omega)) (λk r=>by have:=T.o k r;simp;omega) K.size (λj v=>by
    have:=l.o.2.2.1.1.lt j v
    exact⟨λh=>by have:=T.o j h;omega,by simp;omega⟩)
   have aM:=O L;have aN:=O aX;have ap:=O aK;have aO:=O aL;have bm:N f (w.heap.size+1) 5 (V ((1+Cn.sizes (c.parts.take k):Nat):Int)):=L.cell 5;have bn:N f (w.heap.size+1) 6 m:=L.cell 6;have bo:=L.frozen 5;have bU:w.heap.size+1<f.heap.size:=U;have s2:((1+Cn.sizes (c.parts.take k):Nat):Int)<=100000:=U;have s4:((p.size:Nat):Int)<=100000:=U;clear ai K L aX ae aK aL aW a3 ag ah a4 a5 a0;have ay:Hid (jk Q (w.heap.size+2) (f.setCell ⟨w.heap.size+1,5,none⟩ (.int .i64 (1+(Cn.sizes (c.parts.take k):Nat)+(p.size:Nat)))) m ps):=O (ap.o.far am.o (by simp only;omega));have bw:Hid (zO Q m.ownBlock (f.setCell ⟨w.heap.size+1,5,none⟩ (.int .i64 (1+(Cn.sizes (c.parts.take k):Nat)+(p.size:Nat)))) p _):=O (aO.o.far am.o);have aP:Hid (G w (f.setCell ⟨w.heap.size+1,5,none⟩ (.int .i64 (1+(Cn.sizes (c.parts.take k):Nat)+(p.size:Nat))))):=O (aN.o.setCell (by simp only;omega) _);have bx:Hid (f_ (f.setCell ⟨w.heap.size+1,5,none⟩ (.int .i64 (1+(Cn.sizes (c.parts.take k):Nat)+(p.size:Nat)))) (w.heap.size+1) 183 #[c.kind,c.name,c.lo,c.hi,.slice (some ⟨b,o,none⟩) c.parts.length cap,V (1+(Cn.sizes (c.parts.take k):Nat)+(p.size:Nat)),m]):=O (by have:=aM.o.iK 5 (.int .i64 (1+(Cn.sizes (c.parts.take k):Nat)+(p.size:Nat)));simpa using this);(have y:ps.length=k:=by have:=qQ List.length l.o.2.2.2;rw[oD,qg]at this;omega);(have aQ:∀j,m.ownBlock=some j->w.heap.size+2<=j:=λj v=>(ap.o.1.lt j v).1);have aR:=O aQ;have a8:=O l.o.2.2.2;clear ap aO aN aM aQ l;go_wp2_with (at_builtin;refine Ih _ rfl _ _ 181 rfl (w.heap.size+2) 183 i0 (.agg #[V 0,.string ⟨#[]⟩,V 0,V 0,.slice none 0 0,V 0,.slice none 0 0]) 7 96 underlying181 hi bi bj bk rfl D _ _ _ rfl ((ay.o.al _).al _).1 ⟨f.heap.size+1,0,none⟩ 1 1 [.int .i64 p.kind,.string ⟨p.name.toArray⟩,.int .i64 p.lo,.int .i64 p.hi,.slice a6 p.parts.length bv,.int .i64 (p.size:Nat),.slice a7 p.parts.length bB] rfl rfl ?c1 ?c2 ?c3 ?c4 ?c5 ?_);(case c1=>exact yV _ _ (by simp[World.setCell]) _ _);(case c2=>intro u az;simp at az;rcases az with rfl|rfl|rfl|rfl|rfl|rfl|rfl<;>rfl);(case c3=>simp only[m_];omega);(case c4=>omega);(case c5=>simp[World.setCell];omega);intro v' w' ar P _ aS;have aY:=jk.snoc ((ay.o.al _).al _) (by rw[y];exact ar) P (by simpa[World.setCell]using aS) ((bw.out.up (L_ (fD _ _) _)).up (L_ (fD _ _) _));have aT:G w w':=(L_ (L_ aP.o _) _).grown P (by have:=aP.o.size;simp at this ⊢;omega) (λj v=>by have:=aR.o j v;omega);have af:f_ w' (w.heap.size+1) 183 #[c.kind,c.name,c.lo,c.hi,.slice (some ⟨b,o,none⟩) c.parts.length cap,V (1+(Cn.sizes (c.parts.take k):Nat)+(p.size:Nat)),m]:=((bx.o.alloc _).alloc _).grown P (λe=>by have:=aR.o _ e.symm;omega);have bF:N w' (w.heap.size+1) 6 m:=af.cell 6;have f6:=af.frozen 6;(have bz:w.heap.size+2<=w'.heap.size:=by have:=P.size;simp[World.setCell]at this;omega);have a9:=O aY;have bp:=O aT;have d:=O af;obtain⟨C,cv,ad⟩:=o_ ar;subst ad;clear aY aT af ar P aS bm bn bo;go_wp2;go_roundw;refine⟨k+1,_,ps++[(_,p)],U,R,by simpa[World.setCell]using bz,O ⟨bp.o.setCell (by simp only;omega) _,?_,a9.o.far am.o (by simp only;omega),by rw[sJ,a8.o,DC,aJ.o];rfl⟩⟩;have H:=d.o.iK 6 (.slice C (ps.length+1) cv);(have aA:(1+(Cn.sizes (c.parts.take k):Nat)+(p.size:Nat):Int)=((1+Cn.sizes (c.parts.take (k+1)):Nat):Int):=by rw[kV aJ.o];omega);rw[aA,y]at H;simpa using H;exact M
  ·(obtain rfl:k=c.parts.length:=by omega);have d:=O l.o.2.1;obtain⟨C,cv,ad⟩:=o_ l.o.2.2.1.1;(have y:ps.length=c.parts.length:=by have:=qQ List.length l.o.2.2.2;rw[oD,qg]at this;omega);rw[y]at ad;subst ad;(have aq:((1+Cn.sizes (c.parts.take c.parts.length):Nat):Int)=((c.size:Nat):Int):=by rw[jh,aE.o];omega);rw[aq]at d l;obtain⟨a',g1,ba,g3,g4,bb,bc⟩:=seven d.o;have bG:=d.o.frozen 0;have bH:=d.o.frozen 1;have bI:=d.o.frozen 2;have bJ:=d.o.frozen 3;have bK:=d.o.frozen 4;have bL:=d.o.frozen 5;have f6:=d.o.frozen 6;clear y aq;go_wp2_with fail;(have bd:(((((((wr.setCell ⟨w.heap.size+1,0,none⟩ (.int .i64 c.kind)).setCell ⟨w.heap.size+1,1,none⟩ (.string ⟨c.name.toArray⟩)).setCell ⟨w.heap.size+1,2,none⟩ (.int .i64 c.lo)).setCell ⟨w.heap.size+1,3,none⟩ (.int .i64 c.hi)).setCell ⟨w.heap.size+1,4,none⟩ (.slice A c.parts.length cap)).setCell ⟨w.heap.size+1,5,none⟩ (.int .i64 (c.size:Nat))).setCell ⟨w.heap.size+1,6,none⟩ (.slice C c.parts.length cv))=wr:=by rw[iN d.o (i:=0) (u:= .int .i64 c.kind) rfl,iN d.o (i:=1) (u:= .string ⟨c.name.toArray⟩) rfl,iN d.o (i:=2) (u:= .int .i64 c.lo) rfl,iN d.o (i:=3) (u:= .int .i64 c.hi) rfl,iN d.o (i:=4) (u:= .slice A c.parts.length cap) rfl,iN d.o (i:=5) (u:= .int .i64 (c.size:Nat)) rfl,iN d.o (i:=6) (u:= .slice C c.parts.length cv) rfl]);rw[bd];refine qW (gq rfl _ _ rfl (u:= .agg #[c.kind,c.name,c.lo,c.hi,.slice A c.parts.length cap,V (c.size:Nat),.slice C c.parts.length cv]) (by simp[loadVar,go_sem,a',g1,ba,g3,g4,bb,bc])) rfl ?_;refine⟨[.int .i64 c.kind,.string ⟨c.name.toArray⟩,.int .i64 c.lo,.int .i64 c.hi,.slice A c.parts.length cap,.int .i64 (c.size:Nat),.slice C c.parts.length cv],rfl,?_,l.o.1⟩;intro W aj bq;obtain⟨H,aA,ab,ak⟩:=l.o;rw[jh]at ak;(have br:∀q∈ps,q.1.length=7:=λq B=>(ab.2 q B).rd.len);(have y:ps.length=c.parts.length:=by rw[<-ak,oD]);(have aU:c.parts.length<=cv/\cv<=m_:=by rcases ab.1.2 with⟨e,aB⟩|⟨g,bA,bP,e,_,_,bQ,bs,_⟩;(·injection e with _ _ e;subst e;rw[y]at aB;exact⟨U,gL _⟩);·injection e with _ _ e;subst e;exact⟨U,bs⟩);(refine qZ.mk (bh.o.2 W (λk r=>?_) ?_) aU.1 aU.2 λaB=>?_);(·exact(aj k (.inl r)).trans (H.block k (T.o k r)));(·have:=H.size;omega);·obtain⟨g,bA,e,bR,bt,_,_,bC⟩:=WY ab.1 U br;injection e with ag _ ah;subst ag ah;refine⟨g,0,rfl,U,λi p s=>?_⟩;(obtain⟨q,B,rfl⟩:∃q,ps[i]?=some q/\q.2=p:=by rw[<-ak,Cx]at s;exact M0.1 s);refine⟨q.1,λj u v=>?_,?_⟩;(·refine(He (w:=wr) (a:=⟨g,0+7*i+j,none⟩) (aj g (.inr ⟨U,bt⟩))).trans ?_;rw[<-bC i q B j u v];congr 2;omega);·obtain⟨Z,be,z2⟩:=ab.2 q (gM B);exact z2 W (λk r=>aj k (by have:=be k r;exact((aw.o k).1 this.1).imp id λh=>U)) bq
def Nq(a:W_)(c:Cn)(v:V_)(w:W_)(hc:CV a v c)(b:G a w)(d:c.size<=100000):z 119 #[v] w (qw (λk=>k<a.heap.size) w c):=by obtain⟨e,rfl,f⟩:=hc;exact Bo _ c e w (f.Ti b) d
def vD:∀a b:St,Lib.compareBytes a b=fJ a b
 |[],[]=>by simp[Lib.compareBytes,fJ]
 |[],_::_=>by simp[Lib.compareBytes,fJ]
 |_::_,[]=>by simp[Lib.compareBytes,fJ]
 |a::l,b::m=>by
  have:=vD l m;simp only[Lib.compareBytes,fJ,this]
def Ii(a b:Int):Lib.compareInt a b=gK a b:=by unfold Lib.compareInt gK;rfl
def yX(a b:St)(w:W_):z 77 #[a,b] w λe w'=>e=.returned (fJ a b)/\w'=w:=(Tryz.strings_Compare ⟨a.toArray⟩ ⟨b.toArray⟩ w).mono λe w' ⟨c,d⟩=>⟨by rw[c];exact qQ _ (qQ _ (vD a b)),d⟩
def yY(a b:Int)(w:W_):z 63 #[a,b] w λe w'=>e=.returned (gK a b)/\w'=w:=(Tryz.cmp_Compare_int a b w).mono λe w' ⟨c,d⟩=>⟨by rw[c,Ii],d⟩
def wD:List Int->Int
 |[]=>0
 |a::l=>if a≠0 then a else wD l
def WZ{l:List Int}{k:Nat}{a:Int}(h:l[k]?=some a):wD (l.drop k)=if a≠0 then a else wD (l.drop (k+1)):=by have b:=(iR.1 h).1;rw[Hq b,(iR.1 h).2];rfl
def KZ(l:List Int)(v:V_)(w:W_)(h:SI w v l)(hl:l.length<=1000000):z 74 #[v] w λe w'=>e=.returned (wD l)/\w=w':=by obtain⟨A,c,rfl,hc,p,n⟩:=h.form;clear h;go_in;go_wp2;go_loop [8] (λi=>∃k:Nat,k<=l.length/\i=.int .i64 (k:Int)/\Hid (wD l=wD (l.drop k))) (λi=>l.length-(intOf i).toNat);exact⟨0,gL _,rfl,O S⟩;obtain⟨k,q,rfl,f⟩:=hrel;by_cases o:k<l.length;(·obtain⟨b,t,rfl,hb,m⟩:=n U;obtain⟨x,g⟩:=g_ o;have r:=m k x g;have r1:(0:Int)<=(k:Int):=U;have s:(k:Int)<(l.length:Int):=U;have a:=WZ g;clear m g;by_cases d:x=0;(·subst d;have j:Hid (wD l=wD (l.drop (k+1))):=O (by rw[f.o,a];simp);clear a;go_wp2;go_round;exact⟨k+1,U,R,j⟩;exact M);·have u:(x !=0)=true:=Q d;have j:Hid (wD l=x):=O (by rw[f.o,a,A_ d]);clear a d;go_wp2;go_ret;exact⟨by rw[j.o];rfl,rfl⟩);·(obtain rfl:k=l.length:=by omega);go_wp2;go_ret;exact⟨by have:=f.o;rw[Qb]at this;rw[this];rfl,rfl⟩
def abb(c:Cn):Prop:=∀(d:Cn)(u v:V_)(w:W_),TV w u c->TV w v d->z 120 #[u,v] w λe w'=>e=.returned (fO c d)/\jO w w'
def adC(w:W_)(B:Option Addr)(cap:Nat)(ps:List Cn):Prop:=ps.length<=cap/\cap<=m_/\(0<ps.length->∃b off,B=some ⟨b,off,none⟩/\b<w.heap.size/\∀i p,ps[i]?=some p->∃cs,(∀(j:Nat) u,cs[j]?=some u->N w b (off+7*i+j) u)/\qZ w p cs)
def Qk{ps a:List Cn}{k:Nat}{p q:Cn}(b:ps[k]?=some p)(c:a[k]?=some q):gU (ps.drop k) (a.drop k)=kM (fO p q) (gU (ps.drop (k+1)) (a.drop (k+1))):=by have d:=(iR.1 b).1;have e:=(iR.1 c).1;rw[Hq d,Hq e,(iR.1 b).2,(iR.1 c).2,gU]
def DK(ps c:List Cn)(aA:∀p∈ps,abb p)(A B:Option Addr)(ca cb:Nat)(w:W_)(ak:adC w A ca ps)(hb:adC w B cb c):z 176 #[.slice A ps.length ca,.slice B c.length cb,.func (.func 120) #[] #[]] w λe w'=>e=.returned (gU ps c)/\jO w w':=by
 obtain⟨a1,a2,a3⟩:=ak;obtain⟨b1,b2,b3⟩:=hb;unfold m_ at a2 b2;go_in;go_wp2;go_loopw [13] (λi wr=>∃k:Nat,k<=ps.length/\k<=c.length/\i=.int .i64 (k:Int)/\Hid (gU ps c=gU (ps.drop k) (c.drop k))/\Hid (jO w wr)) (λi _=>ps.length-(intOf i).toNat);exact⟨0,gL _,gL _,rfl,O S,O (jO.refl _)⟩;obtain⟨k,aD,aH,rfl,v,x⟩:=hrel;by_cases Z:k<ps.length
 ·obtain⟨b,g,rfl,t,ah⟩:=a3 U
  obtain⟨p,y⟩:=g_ Z;obtain⟨aE,n,aa⟩:=ah k p y;obtain⟨H,I,K,ab,rfl⟩:=aa.cells;have d:=x.o.below;have am:N wr b (g+k*7) p.kind:=(d.cell (p:=⟨b,g+k*7,none⟩) t).trans (by have:=n 0 _ rfl;rw[<-this];congr 2;omega);have an:N wr b (g+k*7+1) (d_ p.name):=(d.cell (p:=⟨b,g+k*7+1,none⟩) t).trans (by have:=n 1 _ rfl;rw[<-this];congr 2;omega);have ao:N wr b (g+k*7+2) p.lo:=(d.cell (p:=⟨b,g+k*7+2,none⟩) t).trans (by have:=n 2 _ rfl;rw[<-this];congr 2;omega);have ap:N wr b (g+k*7+3) p.hi:=(d.cell (p:=⟨b,g+k*7+3,none⟩) t).trans (by have:=n 3 _ rfl;rw[<-this];congr 2;omega);have aq:N wr b (g+k*7+4) (.slice H p.parts.length I):=(d.cell (p:=⟨b,g+k*7+4,none⟩) t).trans (by have:=n 4 _ rfl;rw[<-this];congr 2;omega);have ar:N wr b (g+k*7+5) (V (p.size:Nat)):=(d.cell (p:=⟨b,g+k*7+5,none⟩) t).trans (by have:=n 5 _ rfl;rw[<-this];congr 2;omega);have au:N wr b (g+k*7+6) (.slice K p.parts.length ab):=(d.cell (p:=⟨b,g+k*7+6,none⟩) t).trans (by have:=n 6 _ rfl;rw[<-this];congr 2;omega);have r1:(0:Int)<=(k:Int):=U;have aF:(k:Int)<(ps.length:Int):=U;by_cases E:k<c.length;·obtain⟨f,j,rfl,s,aj⟩:=b3 U;obtain⟨q,C⟩:=g_ E;obtain⟨aG,r,F⟩:=aj k q C;obtain⟨L,P,T,ac,rfl⟩:=F.cells;have av:N wr f (j+k*7) q.kind:=(d.cell (p:=⟨f,j+k*7,none⟩) s).trans (by have:=r 0 _ rfl;rw[<-this];congr 2;omega);have g1:N wr f (j+k*7+1) (d_ q.name):=(d.cell (p:=⟨f,j+k*7+1,none⟩) s).trans (by have:=r 1 _ rfl;rw[<-this];congr 2;omega);have aw:N wr f (j+k*7+2) q.lo:=(d.cell (p:=⟨f,j+k*7+2,none⟩) s).trans (by have:=r 2 _ rfl;rw[<-this];congr 2;omega);have g3:N wr f (j+k*7+3) q.hi:=(d.cell (p:=⟨f,j+k*7+3,none⟩) s).trans (by have:=r 3 _ rfl;rw[<-this];congr 2;omega);have g4:N wr f (j+k*7+4) (.slice L q.parts.length P):=(d.cell (p:=⟨f,j+k*7+4,none⟩) s).trans (by have:=r 4 _ rfl;rw[<-this];congr 2;omega);have ax:N wr f (j+k*7+5) (V (q.size:Nat)):=(d.cell (p:=⟨f,j+k*7+5,none⟩) s).trans (by have:=r 5 _ rfl;rw[<-this];congr 2;omega);have ay:N wr f (j+k*7+6) (.slice T q.parts.length ac):=(d.cell (p:=⟨f,j+k*7+6,none⟩) s).trans (by have:=r 6 _ rfl;rw[<-this];congr 2;omega);(have ai:Hid (∀W,G wr W->z 120 #[.agg #[p.kind,p.name,p.lo,p.hi,.slice H p.parts.length I,V (p.size:Nat),.slice K p.parts.length ab],.agg #[q.kind,q.name,q.lo,q.hi,.slice L q.parts.length P,V (q.size:Nat),.slice T q.parts.length ac]] W λe w'=>e=.returned (fO p q)/\jO W w'):=O λW X=>aA p (gM y) q _ _ W ⟨_,rfl,(aa.up d).up X⟩ ⟨_,rfl,(F.up d).up X⟩);have ad:=Qk y C;(have t1:decide (c.length<=k)=false:=by simp;omega);have aB:f<wr.heap.size:=sK s d.size;go_wp2_with fail;refine(ai.o _ ?_).mono ?_;(·exact L_ bA _);rintro e az ⟨rfl,ae⟩;have af:Hid (jO w az):=O (((x.o.al _).al _).trans ae);by_cases u:fO p q=0;(·have m:Hid (gU ps c=gU (ps.drop (k+1)) (c.drop (k+1))):=O (by rw[v.o,ad,u];rfl);rw[u];go_wp2;go_roundw;exact⟨k+1,U,U,R,m,af⟩;exact M);·have m:Hid (gU ps c=fO p q):=O (by rw[v.o,ad];unfold kM;rw[u_ u]);have aI:(fO p q !=0)=true:=Q u;go_wp2;go_ret;exact⟨by rw[m.o];rfl,af.o⟩
  ·obtain rfl:k=c.length:=by omega
   have m:Hid (gU ps c=1):=O (by
    rw[v.o,Qb];(have:∃a l,ps.drop c.length=a::l:=by rw[Hq Z];exact⟨_,_,rfl⟩);obtain⟨a,l,h⟩:=this
    rw[h,gU])
   (have aC:∀o,jO w (wr.alloc o):=λo=>x.o.al o);go_wp2;go_ret;exact⟨by rw[m.o];rfl,aC _⟩
 ·obtain rfl:k=ps.length:=by omega
  by_cases E:ps.length<c.length
  ·have m:Hid (gU ps c= -1):=O (by
    rw[v.o,Qb];(have:∃a l,c.drop ps.length=a::l:=by rw[Hq E];exact⟨_,_,rfl⟩);obtain⟨a,l,h⟩:=this
    rw[h,gU])
   (have t1:decide (ps.length<c.length)=true:=by simp;omega);go_wp2;go_ret;exact⟨by rw[m.o];rfl,x.o⟩
  ·(have ag:ps.length=c.length:=by omega);have m:Hid (gU ps c=0):=O (by rw[v.o,Qb,ag,Qb,gU]);(have t1:decide (ps.length<c.length)=false:=by simp;omega);go_wp2;go_ret;exact⟨by rw[m.o];rfl,x.o⟩
def Ed(f:Int):∀l:List Int,kM (wD l) f=l.foldr kM f
 |[]=>by simp[wD,kM]
 |a::l=>by
  rw[er_,<-Ed f l,wD];by_cases h:a=0;(·rw[u_ (by simp[h])];simp[kM,h]);·rw[A_ h];simp[kM,h]
def uz(c:Cn):abb c:=by
 induction c using Cn.ind with
 |h c K=>
  intro d u v w ad hv;obtain⟨l,rfl,hc⟩:=ad;obtain⟨am,rfl,L⟩:=hv;obtain⟨P,T,m,s,rfl,_,c1,c2,c3⟩:=hc.form;obtain⟨X,Z,n,t,rfl,_,ae,af,aa⟩:=L.form
  have ai:Hid (∀W,jO w W->z 176 #[.slice m c.parts.length s,.slice n d.parts.length t,.func (.func 120) #[] #[]] W λe w'=>e=.returned (gU c.parts d.parts)/\jO W w'):=O λW f=>DK c.parts d.parts K m n s t W ⟨c1,c2,λx=>by
    obtain⟨b,g,e,hb,I⟩:=c3 x;refine⟨b,g,e,sK hb f.below.size,λi p y=>?_⟩;obtain⟨l,A,B⟩:=I i p y
    exact⟨l,λj u C=>(f.below.cell (p:=⟨b,g+7*i+j,none⟩) hb).trans (A j u C),B.up f.below⟩⟩ ⟨ae,af,λx=>by
    obtain⟨b,g,e,hb,I⟩:=aa x;refine⟨b,g,e,sK hb f.below.size,λi p y=>?_⟩;obtain⟨l,A,B⟩:=I i p y
    exact⟨l,λj u C=>(f.below.cell (p:=⟨b,g+7*i+j,none⟩) hb).trans (A j u C),B.up f.below⟩⟩
  have ab:fO c d=kM (oW c.size d.size) (kM (gK c.kind d.kind) (kM (fJ c.name d.name) (kM (gK c.lo d.lo) (kM (gK c.hi d.hi) (gU c.parts d.parts))))):=(by cases c;cases d;rfl);simp only[d_];go_in;go_wp2_with fail;obtain⟨a,k⟩:∃a,(w.alloc (.cells #[c.kind,c.name,c.lo,c.hi,.slice P c.parts.length T,V (c.size:Nat),.slice m c.parts.length s] 183)).alloc (.cells #[d.kind,d.name,d.lo,d.hi,.slice X d.parts.length Z,V (d.size:Nat),.slice n d.parts.length t] 183)=a:=⟨_,rfl⟩;(have aj:f_ a.drew w.heap.size 183 #[c.kind,c.name,c.lo,c.hi,.slice P c.parts.length T,V (c.size:Nat),.slice m c.parts.length s]:=by rw[<-k];exact((f_.new _ _ _).alloc _).drew);(have ac:f_ a.drew (w.heap.size+1) 183 #[d.kind,d.name,d.lo,d.hi,.slice X d.parts.length Z,V (d.size:Nat),.slice n d.parts.length t]:=by rw[<-k];exact(f_.newAt _ _ _ S).drew);(have ag:jO w a.drew:=by rw[<-k];exact(((jO.refl _).al _).al _).drew);rw[k];refine es_ 33 (by kernel_rfl) (by kernel_rfl) ?_;simp only[SX,ZF,Zn,ZG];change wpStill _ _ (World.drew a) (λah=>wpList _ _ _ _ ah (World.drew a)) _ _;generalize World.drew a=D at *;obtain⟨an,ao,ap,aq,ar,au,av⟩:=seven aj;obtain⟨aw,q1,q2,q3,ax,ay,az⟩:=seven ac;have aC:=ac.lt;have aD:w.heap.size<D.heap.size:=U;(repeat (first|still_step|still_call (yY _ _ _)|still_call (yX _ _ _)));refine ex_ ?_;have E:Hid (z 74 #[.slice (some ⟨D.heap.size,0,none⟩) 5 5] (D.alloc (.cells #[(oW c.size d.size),(gK c.kind d.kind),(fJ c.name d.name),(gK c.lo d.lo),(gK c.hi d.hi)] 3)) λe w'=>e=.returned (wD [oW c.size d.size,gK c.kind d.kind,fJ c.name d.name,gK c.lo d.lo,gK c.hi d.hi])/\D.alloc (.cells #[(oW c.size d.size),(gK c.kind d.kind),(fJ c.name d.name),(gK c.lo d.lo),(gK c.hi d.hi)] 3)=w'):=O (KZ [oW c.size d.size,gK c.kind d.kind,fJ c.name d.name,gK c.lo d.lo,gK c.hi d.hi] _ _ (S1.lit D _ rfl 3 _ iV _ 5 rfl rfl (by simp[m_])) S);unfold oW at E;go_wp2_with fail;refine E.o.mono ?_;rintro e aA ⟨rfl,rfl⟩
  have o:fO c d=kM (wD [gK c.size d.size,gK c.kind d.kind,fJ c.name d.name,gK c.lo d.lo,gK c.hi d.hi]) (gU c.parts d.parts):=(by
   rw[ab,Ed];rfl)
  generalize wD [gK c.size d.size,gK c.kind d.kind,fJ c.name d.name,gK c.lo d.lo,gK c.hi d.hi]=r at *;have F:jO w (D.alloc (.cells #[(gK c.size d.size),(gK c.kind d.kind),(fJ c.name d.name),(gK c.lo d.lo),(gK c.hi d.hi)] 3)):=ag.al _;by_cases q:r=0;(·subst q;have H:fO c d=gU c.parts d.parts:=o;go_wp2_with fail;refine(ai.o _ F).mono ?_;rintro e aB ⟨rfl,ak⟩;go_wp2;go_ret;exact⟨by rw[H];rfl,F.trans ak⟩);·have hb:(r !=0)=true:=Q q;have H:fO c d=r:=(by rw[o];unfold kM;rw[u_ q]);go_wp2;go_ret;exact⟨by rw[H];rfl,F⟩
def five{w:W_}{g:Nat}{t:T_}{a b c d e:V_}(h:f_ w g t #[a,b,c,d,e]):N w g 0 a/\N w g 1 b/\N w g 2 c/\N w g 3 d/\N w g 4 e:=⟨h.cell 0,h.cell 1,h.cell 2,h.cell 3,h.cell 4⟩
def uD(c d:Cn)(u v:V_)(w:W_)(A:CV w u c)(hv:CV w v d)(hc:c.size<=100000)(K:d.size<=100000):z 67 #[u,v] w λe w'=>e=.returned (fO c d)/\G w w':=by
 obtain⟨p,q,rfl,_⟩:=A.form;obtain⟨r,s,rfl,_⟩:=hv.form;(have F:∀W,G w W->z 119 #[.agg (Cs c p q)] W (qw (λk=>k<w.heap.size) W c):=λW B=>Nq w c _ W A B hc);(have H:∀W,G w W->z 119 #[.agg (Cs d r s)] W (qw (λk=>k<w.heap.size) W d):=λW B=>Nq w d _ W hv B K);(have ah:∀(b f:List V_)(W:W_),qZ W c b->qZ W d f->z 120 #[.agg b.toArray,.agg f.toArray] W λe w'=>e=.returned (fO c d)/\jO W w':=λb f W L P=>uz c d _ _ W ⟨b,rfl,L⟩ ⟨f,rfl,P⟩);obtain⟨a,t⟩:=e_ ((w.alloc (.cells (Cs c p q) 40)).alloc (.cells (Cs d r s) 40));(have l:f_ a w.heap.size 40 (Cs c p q):=by rw[<-t];exact(f_.new _ _ _).alloc _);(have m:f_ a (w.heap.size+1) 40 (Cs d r s):=by rw[<-t];exact f_.newAt _ _ _ S);have T:G w a:=(by rw[<-t];exact L_ bA _);go_in;go_wp2_with fail;have X:N a w 0 c.kind:=l.cell 0;have Z:N a w 1 (d_ c.name):=l.cell 1;have aa:N a w 2 c.lo:=l.cell 2;have ab:N a w 3 c.hi:=l.cell 3;have ac:N a w 4 (.slice p c.parts.length q):=l.cell 4;have ad:N a (w.heap.size+1) 0 d.kind:=m.cell 0;have q1:N a (w.heap.size+1) 1 (d_ d.name):=m.cell 1;have q2:N a (w.heap.size+1) 2 d.lo:=m.cell 2;have q3:N a (w.heap.size+1) 3 d.hi:=m.cell 3;have ae:N a (w.heap.size+1) 4 (.slice r d.parts.length s):=m.cell 4;have x:G w a.drew:=(T.drew)
 go_region_with
  (first|((go_at_call 119;with_reducible refine(F _ x).mono ?_);rintro e i ⟨b,rfl,n,g⟩;have C:qZ i c b/\G w i:=⟨n _ (λ_ _=>rfl) (fU _),b_ x g⟩;obtain⟨s0,s1,s2,s3,s4⟩:=five (m.drew.below g);clear n g X Z aa ab ac)|((go_at_call 119;with_reducible refine(H _ x).mono ?_);rintro e j ⟨f,rfl,o,h⟩;have E:qZ j d f/\G w j:=⟨o _ (λ_ _=>rfl) (fU _),b_ x h⟩;obtain⟨s0,s1,s2,s3,s4⟩:=five (l.drew.below h);clear o h ad q1 q2 q3 ae)|((go_at_call 119;with_reducible refine(H _ C.2).mono ?_);rintro e j ⟨f,rfl,o,h⟩;have y:qZ j c b/\qZ j d f/\G w j:=⟨C.1.up h,o _ (λ_ _=>rfl) (fU _),b_ C.2 h⟩;clear o h)|((go_at_call 119;with_reducible refine(F _ E.2).mono ?_);rintro e i ⟨b,rfl,n,g⟩;have y:qZ i c b/\qZ i d f/\G w i:=⟨n _ (λ_ _=>rfl) (fU _),E.1.up g,b_ E.2 g⟩;clear n g)|((go_at_call 120;with_reducible refine(ah _ _ _ y.1 y.2.1).mono ?_);rintro e af ⟨rfl,I⟩;have ag:G w af:=(b_ y.2.2 I.below);clear I))
 all_goals go_wp2;go_ret;exact⟨rfl,ag⟩
end
section
open Go.RowKit Go.Shelf Tryz
attribute [local go_sem] Zy
def W9{w:W_}{a:Addr}{v:V_}(h:w.cell? a=some v):(loadVar 3 a).run prog w=.ok v w:=by simp[loadVar,h]
structure SzI(w:W_)(n:Nat)(W:W_):Prop where
 low:G w W
 r:f_ W (w.heap.size+1) 3 #[n]
def szI(w:W_)(pre:List Cn)(W:W_):Prop:=SzI w pre.length W
def szX(_:W_):Code->JC:=λ_ _ _=>False
def szI.own{w:W_}{B:Nat}(c:w.heap.size+2<=B):OwnFrom B (szI w):=λ_ W d row h a b=>⟨h.low.grown a h.low.size (λk e=>by have:=(b k e).1;omega),h.r.keep (a.block _ h.r.lt λe=>by have:=(b _ e.symm).1;omega)⟩
def szX.own{w:W_}{B:Nat}(c:Code):OwnFrom B (szX w c):=λ_ _ _ _ h _ _=>h.elim
def Nr(c:Cn)(v:V_)(w:W_)(hc:CV w v c)(ae:c.size<=100000):z 127 #[v] w λe w'=>e=.returned (V (c.size:Nat))/\G w w':=by
 refine(x9 (n:=4)).1 ?_;obtain⟨A,cap,rfl,ab,ac,ad⟩:=hc.form;clear ad ab ac;have m:Hid (c.pre.length=c.size):=O (Cn.ZK c);obtain⟨d,h⟩:=e_ (((w.alloc (.cells (Cs c A cap) 40)).alloc (.cells #[V 0] 3)).alloc (.cells (Cs c A cap) 40));(have p:f_ d (w.heap.size+1) 3 #[V 0]:=by rw[<-h];exact(f_.newAt _ _ _ S).alloc _);(have K:f_ d (w.heap.size+1+1) 40 (Cs c A cap):=by rw[<-h];exact f_.newAt _ _ _ S);(have s:G w d:=by rw[<-h];exact L_ (L_ bA _) _);(have t:d.heap.size=w.heap.size+3:=by rw[<-h];simp);refine bq_ func127 rfl trivial ?_ rfl;simp only[ntmps127,Zg,p8,MV,Nat.reduceAdd,Nat.reduceSub,bi_,bj_,bk_,bl_,Zh,IY];gi_wp2_with fail;refine⟨trivial,((x9).2 (Nb c.kind c.name c.lo c.hi A c.parts.length cap _)).mono ?_⟩;rintro e af ⟨rfl,rfl⟩;gi_wp2_with fail;have L:Hid (szI w [] d):=O ⟨s,p⟩;clear h p
 refine EU (λq x=>q.length<c.size) w c (λq x r C=>by rw[<-m.o,C];simp) (w.heap.size+1+1) c.kind c.name c.lo c.hi A c.parts.length cap U rfl rfl s K hc (szI w) (szX w) (szI.own U) (szX.own) L.o
  (λu a1 W=>a1={tmps:= #[.agg (Cs c A cap),.pointer (some ⟨w.heap.size,0,none⟩),.pointer (some ⟨w.heap.size+1,0,none⟩),
   .agg (Cs c A cap),.func (.func 227) #[] #[.pointer (some ⟨w.heap.size+1+1,0,none⟩)],u,undef,undef,undef],defers:=[]})
  ?assign ?ap ?body ?done ?stop
 (case assign=>intro lp u x W ag l t f;have j:=O f;clear f;gi_wp2;refine j.o _ _ ?_ (fD _ _);first|rfl|simp);case ap=>rintro u a1 W ah rfl;rfl
 case body=>
  rintro lp pre u x a1 W al am a l P t rfl;have g:=O a;have c1:N W (w.heap.size+1) 0 pre.length:=a.r.cell 0;have E:=a.r.frozen 0;have ai:(pre.length:Int)<=100000:=U;clear a l P
  have F:Hid (Nc w.heap.size d.heap.size (szI w) (szX w) (pre++[x]) W .normal {tmps:= #[],defers:=[]} (W.setCell ⟨w.heap.size+1,0,none⟩ (.int .i64 ((pre.length:Int)+1)))):=O
   ⟨⟨by simp[World.setCell],λk o T y _=>(D8 _ _ _ _ (by simp only;omega)).trans y⟩,⟨by simp[World.setCell],λk T y=>D8 _ _ _ _ (by simp only;omega)⟩,⟨g.o.low.setCell (by simp only;omega) _,by have:=g.o.r.iK 0 (.int .i64 ((pre.length:Int)+1));simpa using this⟩⟩
  gi_wp2_with fail;exact F.o
 (case done=>intro D W H a f;have c1:N W (w.heap.size+1) 0 c.pre.length:=a.r.cell 0;have E:=a.r.frozen 0;have g:=O a;have j:=O f;have an:D≠w.heap.size+1:=U;clear a f;gi_wp2_with fail;obtain⟨b,i⟩:∃b,W.setCell ⟨w.heap.size+1,0,none⟩ (.int .i64 (c.pre.length:Int))=b:=⟨_,rfl⟩;(have B:b.heap[D]?=some (.deferred (some [])):=by rw[<-i];exact(D8 _ _ _ _ (by simp only;omega)).trans j.o);(have X:G w b:=by rw[<-i];exact g.o.low.setCell (by simp only;omega) _);(have Z:f_ b (w.heap.size+1) 3 #[c.pre.length]:=by rw[<-i];have:=g.o.r.iK 0 (.int .i64 (c.pre.length:Int));simpa using this);rw[i];refine⟨S,.inl ⟨_,_,rfl,bs_ B,?_⟩⟩;have aa:=Z.keep (Hf (w:=b) (r:=D) (o:= .deferred none) (k:=w.heap.size+1) U);refine⟨_,gq rfl _ _ rfl (W9 (aa.cell 0)),?_,X.trans (bu_ (w:=w) (fU _) b D _ _ U B rfl rfl)⟩;rw[m.o];rfl);case stop=>intro D aj q r W H ak I f;exact I.elim
end
end Go.Proofs.YtjmbkfjklemmpaaGreatDoor
