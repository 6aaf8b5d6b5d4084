import Derived.Test.YtjmbkfjklemmpaaGreatDoorJ18
set_option linter.all false
set_option maxRecDepth 100000
set_option maxHeartbeats 32000000
open Go renaming World->W_,Value->V_,maxLen->m_,TypeId->T_
namespace Go.Proofs.YtjmbkfjklemmpaaGreatDoor
open Go.Maps Go.RowKit Tryz
def Dc(s:ES)(f c:Fc):Prop:=n_ f.B iE∈s.D/\c=n_ f.A iE
def Md:nU 213 2 Dc:=by
 (refine kE λP most B X v w vf s f a o an au ai ao T l C E ad aj ak av j ay=>?_);unfold vF d_;go_in;go_wp2_with fail;obtain⟨x,g⟩:=e_ (n_ f.B iE);obtain⟨c1,hc⟩:=e_ (decide (x∈s.D));have t:=O g;(have ag:∀W,z 149 #[f.B,.string ⟨#[33]⟩] W λe w'=>e=.returned (.agg (mJ x))/\G W w':=λW=>by rw[<-t.o];exact lD (f.B) iE W);(have ah:∀W,G a W->(Instr.lookup 218 (.map (some (B+1))) (.agg (mJ x)) false).run prog W=.ok (.bool c1) W:=λW i=>lT ((l.o.up i).e.e.m.kn.toF) (by rw[<-t.o];exact(Q8 ao.o.b D).ok) hc);have k:N a (B+9) 2 (.map (some (B+1)))/\N a o 2 f.B:=⟨l.o.e.e.blk.cell 2,l.o.cell (C.o.cell 2) E.o⟩;(have p:Hid (∀W,G a W->N W (B+9) 2 (.map (some (B+1)))/\N W o 2 f.B):=O λW i=>⟨(l.o.up i).e.e.blk.cell 2,(l.o.up i).cell (C.o.cell 2) E.o⟩);have d:Hid (G a a.drew):=O (fD _ _).drew;go_wp2
 go_region_held3 (λW=>N W (B+9) 2 (.map (some (B+1)))/\N W o 2 f.B)
  (first|with_reducible exact k|with_reducible exact ae|exact k)
  (first|(go_at_call 149;(with_reducible refine(ag _).mono ?_);rintro e af ⟨rfl,n⟩;have u:=(d.o.trans (n.mono d.o.size));have ae:=p.o _ u;have aq:=ah _ u;clear n)|fail)
 all_goals
  have q:=(l.o.up u)
  cases c1
  ·have y:=q.base T.o;go_wp2;go_end0;refine⟨rfl,_,_,y.weak λc h=>?_⟩;have j:=hc;rw[<-t.o]at j;exact absurd h.1 (Q j)
  ·obtain⟨F,g⟩:=e_ (n_ (f.A) iE)
   (have H:jK P F:=by rw[<-g];have j:=hc;rw[<-t.o]at j;have al:=ak.o.CO _ (Q j);have I:=ad.o;rw[JN ad.o aj.o]at I;exact .none I al);(have Z:Hid (∀W,Y 149 #[f.A,.string ⟨#[33]⟩] W (.agg (mJ F))):=O λW=>g ▸ lD (f.A) iE W);(have aa:=O λW i=>q.emit ai.o j H (λh=>by rw[<-g]at h;cases h) (W:=W) i);(have r:Hid (∀W ab K Q',ER P most B X v a vf s W ab K Q'->N W (B+9) 3 (nT v)/\F6 W o f):=O λW ab K Q' L=>⟨L.e.e.blk.cell 3,H_ (L.blk C.o E.o)⟩);have k:=r.o _ _ _ _ q;(have p:=O λW i=>r.o W _ _ _ (q.up i));have d:Hid (G af af.drew):=O (fD _ _).drew;have am:=O g;go_wp2
   go_region_held3 (λW=>N W (B+9) 3 (nT v)/\F6 W o f)
    (first|with_reducible exact k|with_reducible exact s4|with_reducible exact s2|exact k)
    (first|(go_at_call 141;(with_reducible refine(aa.o _ ap).mono ?_);rintro e aw ⟨rfl,az,ax,ac,_⟩;have s4:=r.o _ _ _ _ ac)|(go_at_call 149;(with_reducible refine(Z.o _).mono ?_);rintro e ar ⟨rfl,n⟩;have s2:=p.o _ (d.o.trans (n.mono d.o.size));have ap:=(d.o.trans (n.mono d.o.size));clear n)|fail)
   all_goals clear k p r aa Z d;(try clear s4);(try clear s2);have y:=ac.base T.o;go_wp2;go_end0;refine⟨rfl,_,_,y.weak λc h=> .inr ?_⟩;rw[<-am.o];exact h.2
def X8(s:ES)(f c:Fc):Prop:=∃x∈jd s.pu ⟨2,[],f.B⟩,n_ f.A x.A∈s.D/\n_ f.A x.B∈s.D/\c=n_ f.A x.C
def aao:nU 205 1 X8:=by
 (refine kE λP most B X n w vf s f al ae bj bD am ay bk ag aX aJ bG bv bw bE y bH=>?_);unfold vF d_;go_in;go_wp2_with fail;obtain⟨p,bx,bI,hl,hv,bl,a8,bs⟩:=ag.o.Zw ⟨2,[],f.B⟩ ⟨(show(Lit.int .i64 2).wf=true by decide),by simp[m_],gT ay.o.b (by simp[m_])⟩ (.agg #[V 2,.string ⟨#[]⟩,f.B]) rfl;simp only[m_]at bs;obtain⟨a',b1,b2,b3,ba,bb⟩:=H_ (ag.o.blk aX.o aJ.o);go_quiet (fail);have ah:ER P most B X n al vf s (al.drewN nq) vf s (λ_=>False):=(ag.o.drewN nq);generalize al.drewN nq=aa at *;obtain⟨E,bm⟩:∃q,q=vf:=⟨_,rfl⟩;obtain⟨sq,bc⟩:∃q,q=s:=⟨_,rfl⟩;subst bm bc;have aY:=(ah.blk aX.o aJ.o);have aZ:=aJ;have aN:ER P most B X n aa E sq aa E sq (λ_=>False):=(ER.refl ah.e ah.t.inv);go_wp2;go_loopw [15] (λi wr=>∃(k:Nat)(bn:Slot->V_)(s1:ES),k<=p.length/\i=.int .i64 (k:Int)/\Hid (ER P most B X n aa E sq wr bn s1 (λc=>∃x∈p.take k,n_ f.A x.A∈sq.D/\n_ f.A x.B∈sq.D/\c=n_ f.A x.C))) (λi _=>p.length-(intOf i).toNat);exact⟨0,E,sq,gL _,rfl,O (aN.weak λc h=>by simp at h)⟩;obtain⟨o,ab,H,bz,rfl,an⟩:=hrel;by_cases bo:o<p.length
 ·obtain⟨x,v⟩:=g_ bo
  obtain⟨b,bF,d,af,rfl,hb,bp,aW,l,aK,aL,az,aO,a0,a1,a2,a3,a4,a5,bd,be,bf,a9⟩:=an.o.Iy aN am.o ⟨2,[],f.B⟩ hl hv v;have r1:(0:Int)<=(o:Int):=U;have bB:(o:Int)<(p.length:Int):=U;have aA:=O v;have a6:=(l.o.blk aY aZ.o);have a7:¬Yb X ab ae:=(l.o.k.nx aY.lt aZ.o);have K:ER P most B X n d ab H d ab H (λ_=>False):=(ER.refl l.o.e l.o.t.inv);go_wp2_with fail;(all_goals clear bp a0 a1 a2 a3 a4 a5 bd be bf a9;(try rw[aW]);clear aW);obtain⟨ao,g⟩:=e_ (n_ f.A x.A);obtain⟨c1,hc⟩:=e_ (decide (ao∈H.D));have aj:=O g;have aH:=O hc;obtain⟨ap,g⟩:=e_ (n_ f.A x.B);obtain⟨c2,hc⟩:=e_ (decide (ap∈H.D));have ak:=O g;have aI:=O hc;(have aq:∀s:Later d,N s.at (B+9) 2 (.map (some (B+1))):=λs=>(K.up s.below).e.e.blk.cell 2);(have ar:∀s:Later d,N s.at ae 1 f.A:=λs=>(K.up s.below).cell (a6.cell 1) a7);(have au:∀s:Later d,N s.at af 1 x.A:=λs=>(K.up s.below).cell (aK.o.cell 1) aL.o);(have av:∀s:Later d,N s.at af 2 x.B:=λs=>(K.up s.below).cell (aK.o.cell 2) aL.o);(have r:∀s:Later d,z 149 #[f.A,x.A] s.at λe aB=>e=.returned (.agg (mJ ao))/\∃L:Later d,aB=L.at:=λs=>by rw[<-aj.o];exact BN s _ _);(have aC:∀s:Later d,(Instr.lookup 218 (.map (some (B+1))) (.agg (mJ ao)) false).run prog s.at=.ok (.bool c1) s.at:=λs=>lT ((K.up s.below).e.e.m.kn.toF) (by rw[<-aj.o];exact(Q8 ay.o.a aO.o.a).ok) aH.o);(have u:∀s:Later d,z 149 #[f.A,x.B] s.at λe aB=>e=.returned (.agg (mJ ap))/\∃L:Later d,aB=L.at:=λs=>by rw[<-ak.o];exact BN s _ _);(have aD:∀s:Later d,(Instr.lookup 218 (.map (some (B+1))) (.agg (mJ ap)) false).run prog s.at=.ok (.bool c2) s.at:=λs=>lT ((K.up s.below).e.e.m.kn.toF) (by rw[<-ak.o];exact(Q8 ay.o.a aO.o.b).ok) aI.o);cases c1
  ·go_wp2
   refine gN (by kernel_rfl) (by kernel_rfl) ?_;(repeat (first|go_big_quiet_step (first|with_reducible exact r _|with_reducible exact u _)|quiet_step (first|with_reducible exact r _|with_reducible exact u _)));refine wpQuiet_nil ?_;rintro _ ⟨j,rfl⟩;have I:G d j.at:=j.below;generalize j.at=T at *
   have ac:Hid (ER P most B X n aa E sq T ab H (λc=>∃x∈p.take (o+1),n_ f.A x.A∈sq.D/\n_ f.A x.B∈sq.D/\c=n_ f.A x.C)):=O ((l.o.up I).weak λc h=>by
    rcases jT (C:=λx c=>n_ f.A x.A∈sq.D/\n_ f.A x.B∈sq.D/\c=n_ f.A x.C) aA.o h with h|h;·exact h
    ·have y:=aH.o
     rw[<-aj.o]at y
     exact absurd (l.o.t.mem h.1) (Q y))
   go_wp2;go_roundw;exact⟨o+1,_,_,U,R,ac⟩;exact M
  ·cases c2
   ·go_wp2
    refine gN (by kernel_rfl) (by kernel_rfl) ?_;(repeat (first|go_big_quiet_step (first|with_reducible exact r _|with_reducible exact u _)|quiet_step (first|with_reducible exact r _|with_reducible exact u _)));refine wpQuiet_nil ?_;rintro _ ⟨j,rfl⟩;have I:G d j.at:=j.below;generalize j.at=T at *
    have ac:Hid (ER P most B X n aa E sq T ab H (λc=>∃x∈p.take (o+1),n_ f.A x.A∈sq.D/\n_ f.A x.B∈sq.D/\c=n_ f.A x.C)):=O ((l.o.up I).weak λc h=>by
     rcases jT (C:=λx c=>n_ f.A x.A∈sq.D/\n_ f.A x.B∈sq.D/\c=n_ f.A x.C) aA.o h with h|h;·exact h
     ·have y:=aI.o
      rw[<-ak.o]at y
      exact absurd (l.o.t.mem h.2.1) (Q y))
    go_wp2;go_roundw;exact⟨o+1,_,_,U,R,ac⟩;exact M
   ·go_wp2
    refine gN (by kernel_rfl) (by kernel_rfl) ?_;(repeat (first|go_big_quiet_step (first|with_reducible exact r _|with_reducible exact u _)|quiet_step (first|with_reducible exact r _|with_reducible exact u _)));refine wpQuiet_nil ?_;rintro _ ⟨j,rfl⟩;have I:G d j.at:=j.below;generalize j.at=T at *;have aE:=(K.up I);obtain⟨F,g⟩:=e_ (n_ (f.A) (x.C));(have aM:jK P F:=by rw[<-g];have v:=(ad1 (am.o.can _ az.o.1) az.o.2).1;have Z:=az.o.1;rw[v]at Z;have aP:=aH.o;have aQ:=aI.o;rw[<-aj.o]at aP;rw[<-ak.o]at aQ;have bg:=l.o.t.inv.CO _ (Q aP);have bh:=l.o.t.inv.CO _ (Q aQ);exact .both bg bh Z);(have aR:Hid (∀W,Y 149 #[f.A,x.C] W (.agg (mJ F))):=O λW=>g ▸ lD (f.A) (x.C) W);(have aS:=O λW aw=>aE.emit am.o y aM (λh=>by rw[<-g]at h;cases h) (W:=W) aw);(have ai:Hid (∀W aT L Q',ER P most B X n d ab H W aT L Q'->N W (B+9) 3 (nT n)/\F6 W ae f/\MZ W af x):=O λW aT L Q' Z=>⟨Z.e.e.blk.cell 3,H_ (Z.blk a6 a7),gZ (Z.blk aK.o aL.o)⟩);have ax:=ai.o _ _ _ _ aE;(have aU:=O λW aw=>ai.o W _ _ _ (aE.up aw));have ad:Hid (G T T.drew):=O (fD _ _).drew;have bi:=O g;go_wp2
    go_region_held3 (λW=>N W (B+9) 3 (nT n)/\F6 W ae f/\MZ W af x)
     (first|with_reducible exact ax|with_reducible exact s4|with_reducible exact s2|exact ax)
     (first|(go_at_call 141;(with_reducible refine(aS.o _ aV).mono ?_);rintro e bq ⟨rfl,bt,br,aF,_⟩;have s4:=ai.o _ _ _ _ aF)|(go_at_call 149;(with_reducible refine(aR.o _).mono ?_);rintro e bC ⟨rfl,aG⟩;have s2:=aU.o _ (ad.o.trans (aG.mono ad.o.size));have aV:=(ad.o.trans (aG.mono ad.o.size));clear aG)|fail)
    all_goals
     have ac:Hid (ER P most B X n aa E sq bq bt br (λc=>∃x∈p.take (o+1),n_ f.A x.A∈sq.D/\n_ f.A x.B∈sq.D/\c=n_ f.A x.C)):=O ((l.o.trans aF).weak λc h=>by
      rcases jT (C:=λx c=>n_ f.A x.A∈sq.D/\n_ f.A x.B∈sq.D/\c=n_ f.A x.C) aA.o h with h|h;·exact .inl h
      ·exact .inr (.inr (by rw[<-bi.o];exact h.2.2)))
     go_wp2
     go_roundw
     exact⟨o+1,_,_,U,R,ac⟩
     exact M
 ·(obtain rfl:o=p.length:=by omega);have bu:=(ah.trans an.o).base bk.o;go_wp2;go_end0;refine⟨rfl,_,_,bu.weak λc h=>?_⟩;obtain⟨x,v,h⟩:=h;rw[hl]at v;exact .inr ⟨x,by rw[jh];exact v,h⟩
def abl(s:ES)(f c:Fc):Prop:=∃x∈jd s.pu ⟨9,f.R,[]⟩,x.lo<=f.lo/\f.hi<=x.hi/\c=n_ f.A x.C
def ace:nU 215 3 abl:=by
 (refine kE λP most B X d w vf s f ab ac bd bB m an be H aN aw av ax bq bC aU bE=>?_);unfold vF d_;go_in;go_wp2_with fail;obtain⟨g,br,bF,hl,hv,bf,aV,bn⟩:=H.o.Zw ⟨9,f.R,[]⟩ ⟨(show(Lit.int .i64 9).wf=true by decide),gT an.o.r (by simp[m_]),by simp[m_]⟩ (.agg #[V 9,f.R,.string ⟨#[]⟩]) rfl;simp only[m_]at bn;have aB:=O hl;have bg:=O hv;obtain⟨ad,b1,b2,b3,ae,af⟩:=H_ (H.o.blk aN.o aw.o);go_quiet (fail);have I:Hid (ER P most B X d ab vf s (ab.drewN nq) vf s (λ_=>False)):=O (H.o.drewN nq);generalize ab.drewN nq=v at *;obtain⟨n,bh⟩:∃q,q=vf:=⟨_,rfl⟩;obtain⟨sq,aW⟩:∃q,q=s:=⟨_,rfl⟩;subst bh aW;have aO:=O (I.o.blk aN.o aw.o);have aP:=aw;have aC:Hid (ER P most B X d v n sq v n sq (λ_=>False)):=O (ER.refl I.o.e I.o.t.inv);go_wp2;go_loopw [15] (λi wr=>∃(k:Nat)(bi:Slot->V_)(s1:ES),k<=g.length/\i=.int .i64 (k:Int)/\Hid (ER P most B X d v n sq wr bi s1 (λc=>∃x∈g.take k,x.lo<=f.lo/\f.hi<=x.hi/\c=n_ f.A x.C))) (λi _=>g.length-(intOf i).toNat);exact⟨0,n,sq,gL _,rfl,O (aC.o.weak λc h=>by simp at h)⟩;obtain⟨j,E,K,bs,rfl,ag⟩:=hrel;by_cases bj:j<g.length
 ·obtain⟨x,a⟩:=g_ bj
  obtain⟨b,bD,ao,ay,rfl,hb,bk,aM,o,aQ,aR,p,aD,a0,a1,a2,a3,a4,a5,aX,aY,aZ,a9⟩:=ag.o.Iy aC.o m.o ⟨9,f.R,[]⟩ aB.o bg.o a;have r1:(0:Int)<=(j:Int):=U;have bt:(j:Int)<(g.length:Int):=U;have aE:=O a;have aS:=O (o.o.blk aO.o aP.o);have aT:Hid (¬Yb X E ac):=O (o.o.k.nx aO.o.lt aP.o);have aa:Hid (ER P most B X d ao E K ao E K (λ_=>False)):=O (ER.refl o.o.e o.o.t.inv);obtain⟨ah,ap⟩:∃t,Az (f.lo,f.hi) (x.lo,x.hi)=t:=⟨_,rfl⟩
  have aF:Hid (ah=true↔(x.lo<=f.lo/\f.hi<=x.hi)):=O (by
   have l:=an.o.lo;have ai:=an.o.hi;have bu:=aD.o.lo;have bv:=aD.o.hi;have bw:=abL m.o av.o ax.o;have a:=abj (m.o.can _ p.o.1) p.o.2;have bx:=m.o.rng _ p.o.1 (.inr (by rw[a];rfl));(have a6:Rb (f.lo,f.hi)=0:=by unfold Rb;rw[u_ (by simp only[];omega),u_ (by simp only[];omega)]);(have a7:Rb (x.lo,x.hi)=0:=by unfold Rb;rw[u_ (by simp only[];omega),u_ (by simp only[];omega)]);rw[<-ap];unfold Az;rw[Rf,a6,a7]
   simp)
  (have aq:Hid (∀W,z 250 #[.agg #[f.lo,f.hi],.agg #[x.lo,x.hi]] W λe w'=>e=.returned ah/\G W w'):=O λW=>by rw[<-ap];exact Mc (f.lo,f.hi) (x.lo,x.hi) W);obtain⟨ad,b1,b2,b3,ae,af⟩:=H_ (aa.o.blk aS.o aT.o);obtain⟨c0,c1,c2,c3,c4,c5,a8,a',ba,bb⟩:=gZ (aa.o.blk aQ.o aR.o);cases ah;(all_goals go_wp2_with (go_at_call 250;(with_reducible refine(aq.o _).mono ?_);rintro e aj ⟨rfl,aG⟩;have L:=O aG;clear aG ad b1 b2 b3 ae af c0 c1 c2 c3 c4 c5 a8 a' ba bb));all_goals clear bk a0 a1 a2 a3 a4 a5 aX aY aZ a9;(try rw[aM]);clear aM
  ·have T:=O (aa.o.up L.o)
   have ak:Hid (ER P most B X d v n sq aj E K (λc=>∃x∈g.take (j+1),x.lo<=f.lo/\f.hi<=x.hi/\c=n_ f.A x.C)):=O ((o.o.up L.o).weak λc h=>by
    rcases jT (C:=λx c=>x.lo<=f.lo/\f.hi<=x.hi/\c=n_ f.A x.C) aE.o h with h|h;·exact h
    ·exact absurd (aF.o.2 ⟨h.1,h.2.1⟩) S)
   go_wp2;go_roundw;exact⟨j+1,_,_,U,R,ak⟩;exact M
  ·have T:=O (aa.o.up L.o)
   obtain⟨F,u⟩:=e_ (n_ (f.A) (x.C));(have az:jK P F:=by rw[<-u];have a:=abj (m.o.can _ p.o.1) p.o.2;have l:=p.o.1;rw[a]at l;have ai:=av.o;rw[F3 av.o ax.o]at ai;have hw:=aF.o.1 (by first|rfl|trivial);exact .out ai l hw.1 hw.2);(have aH:Hid (∀W,Y 149 #[f.A,x.C] W (.agg (mJ F))):=O λW=>u ▸ lD (f.A) (x.C) W);(have aI:=O λW al=>T.o.emit m.o aU az (λh=>by rw[<-u]at h;cases h) (W:=W) al);(have Z:Hid (∀W aJ aA Q',ER P most B X d ao E K W aJ aA Q'->N W (B+9) 3 (nT d)/\F6 W ac f/\MZ W ay x):=O λW aJ aA Q' l=>⟨l.e.e.blk.cell 3,H_ (l.blk aS.o aT.o),gZ (l.blk aQ.o aR.o)⟩);have am:=Z.o _ _ _ _ T.o;(have aK:=O λW al=>Z.o W _ _ _ (T.o.up al));have y:Hid (G aj aj.drew):=O (fD _ _).drew;have bc:=O u;go_wp2
   go_region_held3 (λW=>N W (B+9) 3 (nT d)/\F6 W ac f/\MZ W ay x)
    (first|with_reducible exact am|with_reducible exact s4|with_reducible exact s2|exact am)
    (first|(go_at_call 141;(with_reducible refine(aI.o _ aL.o).mono ?_);rintro e bl ⟨rfl,bo,bm,ar,_⟩;have s4:=Z.o _ _ _ _ ar)|(go_at_call 149;(with_reducible refine(aH.o _).mono ?_);rintro e bz ⟨rfl,au⟩;have s2:=aK.o _ (y.o.trans (au.mono y.o.size));have aL:=O (y.o.trans (au.mono y.o.size));clear au)|fail)
   all_goals
    have ak:Hid (ER P most B X d v n sq bl bo bm (λc=>∃x∈g.take (j+1),x.lo<=f.lo/\f.hi<=x.hi/\c=n_ f.A x.C)):=O ((o.o.trans ar).weak λc h=>by
     rcases jT (C:=λx c=>x.lo<=f.lo/\f.hi<=x.hi/\c=n_ f.A x.C) aE.o h with h|h;·exact .inl h
     ·exact .inr (.inr (by rw[<-bc.o];exact h.2.2)))
    go_wp2
    go_roundw
    exact⟨j+1,_,_,U,R,ak⟩
    exact M
 ·(obtain rfl:j=g.length:=by omega);have bp:=(I.o.trans ag.o).base be.o;go_wp2;go_end0;refine⟨rfl,_,_,bp.weak λc h=>?_⟩;obtain⟨x,a,h⟩:=h;rw[aB.o]at a;exact .inr ⟨x,by rw[jh];exact a,h⟩
def TF(s:ES)(f c:Fc):Prop:=∃x∈jd s.pu ⟨8,[],f.B⟩,c=Y_ f.A x.R x.lo x.hi
def X9:nU 209 1 TF:=by
 (refine kE λP most B X d w vf s f au bs bG b9 Z bH bI al bp aW bn bt b4 b' aY bT=>?_);unfold vF d_;go_in;go_wp2_with fail;obtain⟨y,b5,cc,hl,hv,aI,bu,bU⟩:=al.o.Zw ⟨8,[],f.B⟩ ⟨(show(Lit.int .i64 8).wf=true by decide),by simp[m_],gT bH.o.b (by simp[m_])⟩ (.agg #[V 8,.string ⟨#[]⟩,f.B]) rfl;simp only[m_]at bU;have aJ:=O hl;have bJ:=O hv;obtain⟨av,b1,b2,b3,aw,ax⟩:=H_ (al.o.blk bp.o aW.o);go_quiet (fail);have am:Hid (ER P most B X d au vf s (au.drewN nq) vf s (λ_=>False)):=O (al.o.drewN nq);generalize au.drewN nq=ad at *;obtain⟨ab,bK⟩:∃q,q=vf:=⟨_,rfl⟩;obtain⟨sq,bv⟩:∃q,q=s:=⟨_,rfl⟩;subst bK bv;have bq:=O (am.o.blk bp.o aW.o);have br:=aW;have aK:Hid (ER P most B X d ad ab sq ad ab sq (λ_=>False)):=O (ER.refl am.o.e am.o.t.inv);go_wp2;go_loopw [16] (λi wr=>∃(k:Nat)(bL:Slot->V_)(s1:ES),k<=y.length/\i=.int .i64 (k:Int)/\Hid (ER P most B X d ad ab sq wr bL s1 (λc=>∃x∈y.take k,c=Y_ f.A x.R x.lo x.hi))/\s1.fm.length<=1000000+k) (λi _=>y.length-(intOf i).toNat);exact⟨0,ab,sq,gL _,rfl,O (aK.o.weak λc h=>by simp at h),bT⟩;obtain⟨u,r,p,b6,rfl,ay,an⟩:=hrel;by_cases bM:u<y.length
 ·obtain⟨x,H⟩:=g_ bM
  obtain⟨b,ca,ao,b7,rfl,hb,bN,bo,ae,bX,bY,aL,cb,a0,a1,a2,a3,a4,a5,bw,bx,bz,a9⟩:=ay.o.Iy aK.o Z.o ⟨8,[],f.B⟩ aJ.o bJ.o H;have r1:(0:Int)<=(u:Int):=U;have b8:(u:Int)<(y.length:Int):=U;have a8:=O H;have bZ:=O (ae.o.blk bq.o br.o);have b0:Hid (¬Yb X r bs):=O (ae.o.k.nx bq.o.lt br.o);have ar:Hid (ER P most B X d ao r p ao r p (λ_=>False)):=O (ER.refl ae.o.e ae.o.t.inv);obtain⟨F,aj⟩:=e_ (Y_ f.A x.R x.lo x.hi)
  have ak:Hid (jK P F):=O (by
   have H:=ad5 (Z.o.can _ aL.o.1) aL.o.2;have o:=aL.o.1;rw[H]at o;have aa:=bn.o;rw[JM bn.o bt.o]at aa;rw[<-aj]
   exact .value aa o)
  (have a':Hid (∀W,z 234 #[f.A,x.R,x.lo,x.hi] W λe w'=>e=.returned (.agg (mJ F))/\G W w'):=O λW=>by rw[<-aj];exact Ak f.A x.R x.lo x.hi W);have az:=O aj;obtain⟨av,b1,b2,b3,aw,ax⟩:=H_ (ar.o.blk bZ.o b0.o);obtain⟨c0,c1,c2,c3,c4,c5,bB,bC,bD,bE⟩:=gZ (ar.o.blk bX.o bY.o);go_wp2_with (go_at_call 234;(with_reducible refine(a'.o _).mono ?_);rintro e aZ ⟨rfl,ba⟩;have aM:=O ba;obtain⟨E,aN⟩:=e_ (aZ.alloc (.cells (mJ F) 148));obtain⟨a,ap⟩:=e_ aZ.heap.size;clear ba av b1 b2 b3 aw ax c0 c1 c2 c3 c4 c5 bB bC bD bE);(all_goals clear bN a0 a1 a2 a3 a4 a5 bw bx bz a9;(try rw[bo]);clear bo);(have aO:f_ E a 148 (vF F):=by rw[<-aN,<-ap];exact f_.new _ _ _);(have aP:G ao E:=by rw[<-aN];exact L_ aM.o _);(have bb:¬Yb X r a:=by rw[<-ap];exact(ar.o.up aM.o).e.e.fresh (fU _));have aQ:=ar.o.up aP;obtain⟨a6,aR⟩:=e_ (decide (F∈p.D));have bF:N E (B+9) 2 (.map (some (B+1))):=aQ.e.e.blk.cell 2;obtain⟨aA,aB,aC,aD,aE,aF⟩:=H_ aO;(have aI:∀nq,(Instr.lookup 218 (.map (some (B+1))) (.agg #[F.kind,F.A,F.B,F.R,F.lo,F.hi]) false).run prog (E.drewN nq)=.ok (.bool a6) (E.drewN nq):=λnq=>lT ((aQ.drewN nq).e.e.m.kn.toF) (rZ Z.o ak.o).ok aR);have bc:=O aR;have bd:=O aP;have be:=O aO;have bf:=O bb;(try rw[ap]);go_quiet (fail);have aq:=O ((ae.o.up bd.o).drewN nq);have I:Hid (ER P most B X d (E.drewN nq) r p (E.drewN nq) r p (λ_=>False)):=O (ER.refl aq.o.e aq.o.t.inv);have v:Hid (f_ (E.drewN nq) a 148 (vF F)):=O (be.o.drewN nq);have aX:=bf;generalize E.drewN nq=g at *;cases a6
  ·go_wp2_with fail
   obtain⟨aA,aB,aC,aD,aE,aF⟩:=H_ v.o;have bO:N g (B+9) 10 (.map (some (B+8))):=I.o.e.e.blk.cell 10;(have bg:F∉p.D:=by have:=bc.o;simpa using this);(have bP:y.length<=1000000:=by rw[<-aJ.o];exact gT (rH _ _) aK.o.t.inv.pul);obtain⟨w5,bh,bi,bj⟩:=((I.o.up (fD _ _).drew).e.e.m.mz).put (K:=KF) underlying218 (by simp only[m_];omega) (rZ Z.o ak.o).ok (.bool true);have bQ:(Instr.mapUpdate 218 (.map (some (B+8))) (.agg #[F.kind,F.A,F.B,F.R,F.lo,F.hi]) (.bool true)).run prog g.drew=.ok () w5:=bh;have bR:=O bi;have aS:=O bj;have bV:=O bg;go_region;have bk:=I.o.up (fD _ _).drew;have bl:f_ w5 a 148 (vF F):=(v.o.drew).grown aS.o (by intro e;injection e with e;exact aX.o (.inl (by rw[e];exact I.o.e.e.xb 8 U)));have bm:f_ w5 (B+9) 224 (Ap B (nT d) (r .loops)):=(bk.e.e.blk).grown aS.o (by intro e;injection e with e;omega);have ac:=O bl;have bS:=O bm;(have af:Hid (∀W,G w5 W->z 141 #[.agg #[F.kind,F.A,F.B,F.R,F.lo,F.hi],.pointer (some ⟨d,0,none⟩),.pointer (some ⟨d+1,0,none⟩),.pointer (some ⟨d+2,0,none⟩)] W λe w'=>e=.returned (.tuple #[])/\∃n j,ER P most B X d g r p w' n j (λc=>(λ_=>False) c\/c=F)/\j.fm.length<=p.fm.length+1):=O λW aG=>((I.o.up (fD _ _).drew).X3 Z.o aY ak.o (by rw[<-az.o];rfl) bV.o aS.o bR.o aG).mono λe w' ⟨o,n,j,aa,a7⟩=>⟨o,n,j,aa,U⟩);have L:N w5 (B+9) 3 (nT d)/\N w5 a 0 F.kind/\N w5 a 1 F.A/\N w5 a 2 F.B/\N w5 a 3 F.R/\N w5 a 4 F.lo/\N w5 a 5 F.hi:=⟨bS.o.cell 3,ac.o.cell 0,ac.o.cell 1,ac.o.cell 2,ac.o.cell 3,ac.o.cell 4,ac.o.cell 5⟩;(have ag:Hid (∀W n j Q',ER P most B X d g r p W n j Q'->N W (B+9) 3 (nT d)/\N W a 0 F.kind/\N W a 1 F.A/\N W a 2 F.B/\N W a 3 F.R/\N W a 4 F.lo/\N W a 5 F.hi):=O λW n j Q' o=>have l:f_ W a 148 (vF F):=o.blk v.o aX.o;⟨o.e.e.blk.cell 3,l.cell 0,l.cell 1,l.cell 2,l.cell 3,l.cell 4,l.cell 5⟩);have ah:Hid (G w5 w5.drew):=O (fD _ _).drew;go_wp2
   go_region_held3 (λW=>N W (B+9) 3 (nT d)/\N W a 0 F.kind/\N W a 1 F.A/\N W a 2 F.B/\N W a 3 F.R/\N W a 4 F.lo/\N W a 5 F.hi)
    (first|with_reducible exact L|with_reducible exact s4|exact L)
    (first|(go_at_call 141;(with_reducible refine(af.o _ ah.o).mono ?_);rintro e aT ⟨rfl,aV,ai,T,aU⟩;have s4:=ag.o _ _ _ _ T)|fail)
   all_goals
    have aH:Hid (ER P most B X d ad ab sq aT aV ai (λc=>∃x∈y.take (u+1),c=Y_ f.A x.R x.lo x.hi)):=O ((aq.o.trans T).weak λc h=>by
     rcases jT (C:=λx c=>c=Y_ f.A x.R x.lo x.hi) a8.o h with h|h;·exact .inl h
     ·exact .inr (.inr (by rw[<-az.o];exact h)))
    have an:ai.fm.length<=1000000+(u+1):=U
    go_wp2
    go_roundw
    exact⟨u+1,_,_,U,R,aH,an⟩
    exact M
  ·have af:Hid (∀W,G g W->z 141 #[.agg #[F.kind,F.A,F.B,F.R,F.lo,F.hi],.pointer (some ⟨d,0,none⟩),.pointer (some ⟨d+1,0,none⟩),.pointer (some ⟨d+2,0,none⟩)] W λe w'=>e=.returned (.tuple #[])/\∃n j,ER P most B X d g r p w' n j (λc=>(λ_=>False) c\/c=F)/\j.fm.length<=p.fm.length+1):=O λW aG=>(I.o.emit Z.o aY ak.o (λh=>I.o.t.inv.is F (by have:=bc.o;simpa using this) h) aG).mono λe w' ⟨o,n,j,aa,a7⟩=>⟨o,n,j,aa,by rw[a7];omega⟩
   have L:N g (B+9) 3 (nT d)/\N g a 0 F.kind/\N g a 1 F.A/\N g a 2 F.B/\N g a 3 F.R/\N g a 4 F.lo/\N g a 5 F.hi:=⟨I.o.e.e.blk.cell 3,v.o.cell 0,v.o.cell 1,v.o.cell 2,v.o.cell 3,v.o.cell 4,v.o.cell 5⟩;(have ag:Hid (∀W n j Q',ER P most B X d g r p W n j Q'->N W (B+9) 3 (nT d)/\N W a 0 F.kind/\N W a 1 F.A/\N W a 2 F.B/\N W a 3 F.R/\N W a 4 F.lo/\N W a 5 F.hi):=O λW n j Q' o=>have l:f_ W a 148 (vF F):=o.blk v.o aX.o;⟨o.e.e.blk.cell 3,l.cell 0,l.cell 1,l.cell 2,l.cell 3,l.cell 4,l.cell 5⟩);have ah:Hid (G g g.drew):=O (fD _ _).drew;go_wp2
   go_region_held3 (λW=>N W (B+9) 3 (nT d)/\N W a 0 F.kind/\N W a 1 F.A/\N W a 2 F.B/\N W a 3 F.R/\N W a 4 F.lo/\N W a 5 F.hi)
    (first|with_reducible exact L|with_reducible exact s4|exact L)
    (first|(go_at_call 141;(with_reducible refine(af.o _ ah.o).mono ?_);rintro e aT ⟨rfl,aV,ai,T,aU⟩;have s4:=ag.o _ _ _ _ T)|fail)
   all_goals
    have aH:Hid (ER P most B X d ad ab sq aT aV ai (λc=>∃x∈y.take (u+1),c=Y_ f.A x.R x.lo x.hi)):=O ((aq.o.trans T).weak λc h=>by
     rcases jT (C:=λx c=>c=Y_ f.A x.R x.lo x.hi) a8.o h with h|h;·exact .inl h
     ·exact .inr (.inr (by rw[<-az.o];exact h)))
    have an:ai.fm.length<=1000000+(u+1):=U
    go_wp2
    go_roundw
    exact⟨u+1,_,_,U,R,aH,an⟩
    exact M
 ·(obtain rfl:u=y.length:=by omega);have bW:=(am.o.trans ay.o).base bI.o;go_wp2;go_end0;refine⟨rfl,_,_,bW.weak λc h=>?_⟩;obtain⟨x,H,h⟩:=h;rw[aJ.o]at H;exact .inr ⟨x,by rw[jh];exact H,h⟩
def ad8(P:List Pc)(most B:Nat)(X:Nat->Prop)(d:Nat)(w:W_)(vf:Slot->V_)(s:ES)(f:Fc)(a':kJ w B X most d vf s)(aF:Inv P most s)(ba:vM P)(bF:most<=1000000)(ct:s.fm.length<=1000000)(hf:f∈s.ix)(bb:f.kind=3)(bJ:f∈s.fm):z 214 #[.pointer (some ⟨B+9,0,none⟩),.agg (vF f)] w (L6 P most B X d w vf s (λc=>(∃x∈jd s.ra ⟨f.A,f.R⟩,max f.lo x.lo<=min f.hi x.hi/\c=Y_ f.A f.R (max f.lo x.lo) (min f.hi x.hi))\/((∃x∈jd s.ra ⟨f.A,f.R⟩,min f.hi x.hi<max f.lo x.lo)/\c=n_ f.A iE))):=by
 unfold vF d_;have bw:=aF.CO f (aF.Bt f hf);have bK:=rZ ba bw;obtain⟨af,be⟩:=e_ (w.alloc (.cells (vF f) 148));(have bf:G w af:=by rw[<-be];exact L_ (fD _ _) _);have bg:¬Yb X vf w.heap.size:=a'.e.fresh (fU _);obtain⟨aj,bL⟩:=e_ w.heap.size;(have bM:f_ af aj 148 (vF f):=by rw[<-be,<-bL];exact f_.new _ _ _);rw[bL]at bg;have cV:s.fm.length<=1000000:=ct;have bG:=O ba;have bh:=O bK;have bN:=O bf;have bO:Hid (ER P most B X d af vf s af vf s (λ_=>False)):=O (ER.refl (a'.up bf) aF);have bD:=O bM;have bE:=O bg;have aU:=O bw;have bc:=O bb;have cO:=O aF;have cu:=O hf;clear a' aF ba hf bb bw bK bf bg bM;go_in;obtain⟨ak,b1,b2,b3,al,am⟩:=H_ bD.o;obtain⟨aa,bi⟩:∃q,af.alloc (.cells #[f.A,f.R] 273)=q:=⟨_,rfl⟩;obtain⟨aG,bP⟩:=e_ af.heap.size;have bQ:=O bJ;clear bJ;go_wp2_with fail;clear be ak b1 b2 b3 al am;(have az:G af aa:=by rw[<-bi];exact bA);(have bR:f_ aa aG 273 #[f.A,f.R]:=by rw[<-bi,<-bP];exact f_.new _ _ _);have aK:=O (bO.o.up az);have aA:=O bR;clear az bR bi bP bO;have b7:Zq ⟨f.A,f.R⟩:=⟨gT bh.o.a (by simp[m_]),gT bh.o.r (by simp[m_])⟩;have aH:N aa (B+9) 9 (.map (some (B+7))):=aK.o.e.e.blk.cell 9;have a0:N aa aG 0 f.A:=aA.o.cell 0;have a1:N aa aG 1 f.R:=aA.o.cell 1;obtain⟨cf,cJ,bj,_⟩:=(aK.o.fis ⟨f.A,f.R⟩).form;(have aL:∀nq,(Instr.lookup 222 (.map (some (B+7))) (.agg #[f.A,f.R]) false).run prog (aa.drewN nq)=.ok (.slice cf (jd s.fi ⟨f.A,f.R⟩).length cJ) (aa.drewN nq):=λnq=>by have:=(aK.o.drewN nq).e.e.abg ⟨f.A,f.R⟩ b7;rw[bj]at this;exact this);have cS:=O bj;clear bj;go_quiet (fail);clear aL aH a0 a1;have aM:=O (aK.o.drewN nq);have bS:=O (aA.o.drewN nq);clear aK aA;generalize aa.drewN nq=aV at *;go_wp2_with fail;have aH:N aV (B+9) 10 (.map (some (B+8))):=aM.o.e.e.blk.cell 10;obtain⟨ak,b1,b2,b3,al,am⟩:=H_ (aM.o.blk bD.o bE.o);(have aL:∀nq,(Instr.lookup 218 (.map (some (B+8))) (.agg #[f.kind,f.A,f.B,f.R,f.lo,f.hi]) false).run prog (aV.drewN nq)=.ok (.bool true) (aV.drewN nq):=λnq=>lT ((aM.o.drewN nq).e.e.m.mz) bh.o.ok (Dx bQ.o));go_quiet (fail);clear aL aH ak b1 b2 b3 al am;have aN:=O (aM.o.drewN nq);have bl:=O (bS.o.drewN nq);clear aM bS;generalize aV.drewN nq=ax at *;go_wp2_with fail;have aH:N ax (B+9) 8 (.map (some (B+6))):=aN.o.e.e.blk.cell 8;have a0:N ax aG 0 f.A:=bl.o.cell 0;have a1:N ax aG 1 f.R:=bl.o.cell 1;obtain⟨p,hl⟩:∃l,jd s.ra ⟨f.A,f.R⟩=l:=⟨_,rfl⟩;have av:=aN.o.ras ⟨f.A,f.R⟩;rw[hl]at av;obtain⟨cg,cK,hv,b8,b9,_⟩:=av.form;(have aL:∀nq,(Instr.lookup 222 (.map (some (B+6))) (.agg #[f.A,f.R]) false).run prog (ax.drewN nq)=.ok (.slice cg p.length cK) (ax.drewN nq):=λnq=>by have:=(aN.o.drewN nq).e.e.adY ⟨f.A,f.R⟩ b7;rw[hv]at this;exact this);have cL:=gT b8 b9;simp only[m_]at cL;have aB:=O hl;have cv:=O hv;clear av hl hv b8 b9;go_quiet (fail);clear aL aH a0 a1;have aO:=O (aN.o.drewN nq);clear aN bl;generalize ax.drewN nq=ap at *;obtain⟨ah,cw⟩:∃q,q=vf:=⟨_,rfl⟩;obtain⟨sq,ch⟩:∃q,q=s:=⟨_,rfl⟩;subst cw ch;have cc:=O (aO.o.blk bD.o bE.o);have cd:=bE;have K:Hid (ER P most B X d ap ah sq ap ah sq (λ_=>False)):=O (ER.refl aO.o.e aO.o.t.inv);(have cT:prog.eqGuardType prog.depth 148=false:=by kernel_rfl);go_wp2;go_loopw [6,37] (λci i wr=>∃(k:Nat)(cx:Slot->V_)(s1:ES)(an:Bool),k<=p.length/\i=.int .i64 (k:Int)/\ci=.bool an/\Hid (an=true↔∃x∈p.take k,min f.hi x.hi<max f.lo x.lo)/\Hid (ER P most B X d ap ah sq wr cx s1 (λc=>∃x∈p.take k,max f.lo x.lo<=min f.hi x.hi/\c=Y_ f.A f.R (max f.lo x.lo) (min f.hi x.hi)))) (λ_ i _=>p.length-(intOf i).toNat);exact⟨0,ah,sq,false,gL _,rfl,rfl,O S,O (K.o.weak λc h=>by simp at h)⟩;obtain⟨u,Z,v,an,bb,rfl,rfl,aP,ag⟩:=hrel;by_cases bm:u<p.length
 ·obtain⟨x,o⟩:=g_ bm
  have av:=ag.o.ras ⟨f.A,f.R⟩;rw[aB.o,cv.o]at av;obtain⟨b,cU,rfl,hb,a0,a1,a2,a3,a4,a5⟩:=X4 av o;have r1:(0:Int)<=(u:Int):=U;have cP:(u:Int)<(p.length:Int):=U;have aC:=O o;clear av o;obtain⟨ab,bn⟩:=e_ (wr.alloc (.cells (vF x) 148));(have bo:f_ ab wr.heap.size 148 (vF x):=by rw[<-bn];exact f_.new _ _ _);(have bT:G wr ab:=by rw[<-bn];exact bA);have bU:¬Yb X Z wr.heap.size:=ag.o.e.e.fresh (fU _);have aQ:=O (ag.o.up bT);obtain⟨aW,bx⟩:=e_ wr.heap.size;rw[bx]at bo bU;have a8:=O bo;(have bV:x∈jd sq.ra ⟨f.A,f.R⟩:=by rw[aB.o];exact gM aC.o);have aR:=(K.o.t.inv.ra ⟨f.A,f.R⟩ x).1 (jl.1 bV);have aZ:=O aR;clear bo bT bU bV aR ag;have a9:=O (aQ.o.blk cc.o cd.o);have b':Hid (ER P most B X d ab Z v ab Z v (λ_=>False)):=O (ER.refl aQ.o.e aQ.o.t.inv);go_wp2_with fail;clear bn a0 a1 a2 a3 a4 a5;(try rw[bx]);clear bx;obtain⟨aq,bz⟩:=e_ (max f.lo x.lo);obtain⟨ar,bB⟩:=e_ (min f.hi x.hi);(have cy:∀W,(Builtin.max_ #[3,3] 3 #[f.lo,x.lo]).run prog W=.ok (.int .i64 aq) W:=λW=>by rw[<-bz];exact TB _ _ W);(have cz:∀W,(Builtin.min_ #[3,3] 3 #[f.hi,x.hi]).run prog W=.ok (.int .i64 ar) W:=λW=>by rw[<-bB];exact L8 _ _ W);have ad:=O bz;have ae:=O bB;clear bz bB;have E:N ab aj 4 f.lo/\N ab aj 5 f.hi/\N ab aW 4 x.lo/\N ab aW 5 x.hi:=⟨a9.o.cell 4,a9.o.cell 5,a8.o.cell 4,a8.o.cell 5⟩
  go_region_held3 (λW=>N W aj 4 f.lo/\N W aj 5 f.hi/\N W aW 4 x.lo/\N W aW 5 x.hi)
   (first|with_reducible exact E|exact E)
   (first|fail)
  all_goals
   clear E cy cz
   have aS:=O (aQ.o.up (fD _ _).drew)
   have cA:=O (b'.o.up (fD _ _).drew)
   have ce:=O (a9.o.drew)
   have cM:=O (a8.o.drew)
   clear aQ b' a9 a8
   generalize ab.drew=bd at *
   by_cases aD:ar<aq
   ·have aX:decide (ar<aq)=true:=Dx aD
    have a6:Hid (true=true↔∃x∈p.take (u+1),min f.hi x.hi<max f.lo x.lo):=O ⟨λ_=>⟨x,gM (i:=u) (by rw[MW,A_ U];exact aC.o),by rw[ad.o,ae.o];exact aD⟩,λ_=>rfl⟩
    have aI:Hid (ER P most B X d ap ah sq bd Z v (λc=>∃x∈p.take (u+1),max f.lo x.lo<=min f.hi x.hi/\c=Y_ f.A f.R (max f.lo x.lo) (min f.hi x.hi))):=O (aS.o.weak λc h=>by
     rcases jT (C:=λx c=>max f.lo x.lo<=min f.hi x.hi/\c=Y_ f.A f.R (max f.lo x.lo) (min f.hi x.hi)) aC.o h with h|h;·exact h
     ·exact absurd h.1 (by rw[ad.o,ae.o];omega))
    clear aD;go_wp2;go_roundw;exact⟨u+1,_,_,true,U,R,rfl,a6,aI⟩;exact M
   ·have aX:decide (ar<aq)=false:=yR aD
    have a6:Hid (an=true↔∃x∈p.take (u+1),min f.hi x.hi<max f.lo x.lo):=O (by
     rw[aP.o];constructor;·rintro⟨y,cj,h⟩;exact⟨y,im_ p U cj,h⟩
     ·intro h
      rcases jT (C:=λx (_:Fc)=>min f.hi x.hi<max f.lo x.lo) aC.o (c:=f) h with h|h;·exact h
      ·rw[ad.o,ae.o]at h;exact absurd h aD)
    obtain⟨F,H⟩:=e_ (Y_ f.A f.R aq ar);have bp:Hid (x=Y_ f.A f.R x.lo x.hi):=O aZ.o.2
    have ck:Hid (jK P F):=O (by
     have ao:=aU.o;rw[F3 aU.o bc.o]at ao;have L:=K.o.t.inv.CO _ (K.o.t.inv.Bt _ aZ.o.1);rw[bp.o]at L;rw[<-H,<-ad.o,<-ae.o]
     exact .meet ao L (by rw[ad.o,ae.o];omega))
    have cB:Hid (pE (·∈v.fm) F.A F.R F.lo F.hi):=O (by
     (have up:∀g,g∈sq.fm->g∈v.fm:=λg cl=>by obtain⟨t,e⟩:=aS.o.t.fm;rw[e];exact P7 _ cl);have cC:=F3 aU.o bc.o;rw[<-H,<-ad.o,<-ae.o];have L:=(K.o.t.inv.is x (K.o.t.inv.Bt _ aZ.o.1) (by rw[bp.o];rfl)).mono up;rw[bp.o]at L;(have cm:Y_ f.A f.R f.lo f.hi∈v.fm:=by rw[<-cC];exact up _ bQ.o);have bH:=pE.meet L cm (by have cQ:=ad.o;have cR:=ae.o;simp only[Y_];omega);rw[show max (Y_ f.A f.R x.lo x.hi).lo f.lo=max f.lo x.lo by simp only[Y_];omega,show min (Y_ f.A f.R x.lo x.hi).hi f.hi=min f.hi x.hi by simp only[Y_];omega]at bH
     exact bH)
    (have bW:Hid (∀W,z 234 #[f.A,f.R,aq,ar] W λe w'=>e=.returned (.agg (mJ F))/\G W w'):=O λW=>by rw[<-H];exact Ak f.A f.R aq ar W);have aY:=O H;obtain⟨q1,bq⟩:∃t,decide (F=f)=t:=⟨_,rfl⟩;obtain⟨q2,br⟩:∃t,decide (F=x)=t:=⟨_,rfl⟩;(have cD:∀W,(Op.equalIn 10000 148 (.agg #[F.kind,F.A,F.B,F.R,F.lo,F.hi]) (.agg #[f.kind,f.A,f.B,f.R,f.lo,f.hi])).run prog W=.ok q1 W:=λW=>by rw[<-bq];exact Ao W F f);(have cE:∀W,(Op.equalIn 10000 148 (.agg #[F.kind,F.A,F.B,F.R,F.lo,F.hi]) (.agg #[x.kind,x.A,x.B,x.R,x.lo,x.hi])).run prog W=.ok q2 W:=λW=>by rw[<-br];exact Ao W F x);have cF:=O bq;have cG:=O br;clear H aD bq br aP;obtain⟨ak,b1,b2,b3,al,am⟩:=H_ ce.o;cases q1<;>cases q2;(all_goals go_wp2_with (go_at_call 234;(with_reducible refine(bW.o _).mono ?_);rintro e bI ⟨rfl,bX⟩;have bs:=O bX;obtain⟨n,bt⟩:=e_ (bI.alloc (.cells (mJ F) 148));obtain⟨j,bu⟩:=e_ bI.heap.size;clear bX ak b1 b2 b3 al am;have bv:Hid (G bd n):=O (by rw[<-bt];exact L_ bs.o _);have bY:Hid (f_ n j 148 (vF F)):=O (by rw[<-bt,<-bu];exact f_.new _ _ _);have cN:Hid (¬Yb X Z j):=O (by rw[<-bu];exact(cA.o.up bs.o).e.e.fresh (fU _));obtain⟨cn,co,cp,cq,cr,cs⟩:=H_ bY.o;obtain⟨ak,b1,b2,b3,al,am⟩:=H_ (bk bv.o ce.o);obtain⟨c0,c1,c2,c3,c4,c5⟩:=H_ (bk bv.o cM.o)));(all_goals (try clear bt);(try clear bu);clear cD cE cn co cp cq cr cs ak b1 b2 b3 al am c0 c1 c2 c3 c4 c5 bW bs;have a7:=O (aS.o.up bv.o));rotate_left
    all_goals try
     have bZ:F∈v.D:=by first|((have I:F=f:=by have:=cF.o;simpa using this);rw[I];exact aS.o.t.mem (K.o.t.inv.Bt _ cu.o))|((have I:F=x:=by have:=cG.o;simpa using this);rw[I];exact aS.o.t.mem (K.o.t.inv.Bt _ aZ.o.1))
     have aI:Hid (ER P most B X d ap ah sq n Z v (λc=>∃x∈p.take (u+1),max f.lo x.lo<=min f.hi x.hi/\c=Y_ f.A f.R (max f.lo x.lo) (min f.hi x.hi))):=O ((a7.o.also bZ).weak λc h=>by
      rcases jT (C:=λx c=>max f.lo x.lo<=min f.hi x.hi/\c=Y_ f.A f.R (max f.lo x.lo) (min f.hi x.hi)) aC.o h with h|h;·exact .inl h
      ·exact .inr (by rw[h.2,ad.o,ae.o];exact aY.o))
     clear bZ
     go_wp2
     go_roundw
     exact⟨u+1,_,_,an,U,R,rfl,a6,aI⟩
     exact M
    have ca:Hid (ER P most B X d n Z v n Z v (λ_=>False)):=O (ER.refl a7.o.e a7.o.t.inv);have aw:=bY;(have aT:Hid (∀W,G n W->z 141 #[.agg #[F.kind,F.A,F.B,F.R,F.lo,F.hi],.pointer (some ⟨d,0,none⟩),.pointer (some ⟨d+1,0,none⟩),.pointer (some ⟨d+2,0,none⟩)] W λe w'=>e=.returned (.tuple #[])/\∃ac T,ER P most B X d n Z v w' ac T (λc=>(λ_=>False) c\/c=F)/\T.fm.length<=v.fm.length+1):=O λW aJ=>(ca.o.emit bG.o bF ck.o (λ_=>cB.o) aJ).mono λe w' ⟨I,ac,T,ao,L⟩=>⟨I,ac,T,ao,by rw[L];omega⟩);have E:N n (B+9) 3 (nT d)/\N n j 0 F.kind/\N n j 1 F.A/\N n j 2 F.B/\N n j 3 F.R/\N n j 4 F.lo/\N n j 5 F.hi:=⟨ca.o.e.e.blk.cell 3,aw.o.cell 0,aw.o.cell 1,aw.o.cell 2,aw.o.cell 3,aw.o.cell 4,aw.o.cell 5⟩;(have au:Hid (∀W ac T Q',ER P most B X d n Z v W ac T Q'->N W (B+9) 3 (nT d)/\N W j 0 F.kind/\N W j 1 F.A/\N W j 2 F.B/\N W j 3 F.R/\N W j 4 F.lo/\N W j 5 F.hi):=O λW ac T Q' I=>have ay:f_ W j 148 (vF F):=I.blk aw.o cN.o;⟨I.e.e.blk.cell 3,ay.cell 0,ay.cell 1,ay.cell 2,ay.cell 3,ay.cell 4,ay.cell 5⟩);have ai:Hid (G n n.drew):=O (fD _ _).drew;go_wp2
    go_region_held3 (λW=>N W (B+9) 3 (nT d)/\N W j 0 F.kind/\N W j 1 F.A/\N W j 2 F.B/\N W j 3 F.R/\N W j 4 F.lo/\N W j 5 F.hi)
     (first|with_reducible exact E|with_reducible exact s4|exact E)
     (first|(go_at_call 141;(with_reducible refine(aT.o _ ai.o).mono ?_);rintro e b0 ⟨rfl,cb,b4,aE,cH⟩;have s4:=au.o _ _ _ _ aE)|fail)
    all_goals
     clear E au aT ai
     try clear s4
     have aI:Hid (ER P most B X d ap ah sq b0 cb b4 (λc=>∃x∈p.take (u+1),max f.lo x.lo<=min f.hi x.hi/\c=Y_ f.A f.R (max f.lo x.lo) (min f.hi x.hi))):=O ((a7.o.trans aE).weak λc h=>by
      rcases jT (C:=λx c=>max f.lo x.lo<=min f.hi x.hi/\c=Y_ f.A f.R (max f.lo x.lo) (min f.hi x.hi)) aC.o h with h|h;·exact .inl h
      ·exact .inr (.inr (by rw[h.2,ad.o,ae.o];exact aY.o)))
     clear aE cH
     go_wp2
     go_roundw
     exact⟨u+1,_,_,an,U,R,rfl,a6,aI⟩
     exact M
 ·obtain rfl:u=p.length:=by omega
  cases an;·have bC:=(aO.o.trans ag.o).base bN.o;go_wp2;go_end0;refine⟨rfl,_,_,bC.weak λc h=>?_⟩;rcases h with⟨x,o,h⟩|⟨⟨x,o,h⟩,_⟩;(·rw[aB.o]at o;exact .inr ⟨x,by rw[jh];exact o,h⟩);·rw[aB.o]at o;have:=aP.o.2 ⟨x,by rw[jh];exact o,h⟩;cases this
  ·have cI:Hid (jK P (n_ f.A iE)):=O (by
    obtain⟨x,o,bm⟩:=aP.o.1 rfl;rw[jh,<-aB.o]at o;have aR:=(K.o.t.inv.ra ⟨f.A,f.R⟩ x).1 (jl.1 o);have ao:=aU.o;rw[F3 aU.o bc.o]at ao;have L:=K.o.t.inv.CO _ (K.o.t.inv.Bt _ aR.1);rw[aR.2]at L
    exact .apart ao L bm)
   clear aP;obtain⟨F,H⟩:=e_ (n_ (f.A) iE);(have aX:jK P F:=by rw[<-H];exact cI.o);(have b5:Hid (∀W,Y 149 #[f.A,.string ⟨#[33]⟩] W (.agg (mJ F))):=O λW=>H ▸ lD (f.A) iE W);(have aT:=O λW aJ=>ag.o.emit bG.o bF aX (λh=>by rw[<-H]at h;cases h) (W:=W) aJ);(have au:Hid (∀W ac T Q',ER P most B X d ap ah sq W ac T Q'->N W (B+9) 3 (nT d)/\F6 W aj f):=O λW ac T Q' I=>⟨I.e.e.blk.cell 3,H_ (I.blk cc.o cd.o)⟩);have E:=au.o _ _ _ _ ag.o;(have b6:=O λW aJ=>au.o W _ _ _ (ag.o.up aJ));have ai:Hid (G wr wr.drew):=O (fD _ _).drew;have aY:=O H;clear aX H;go_wp2
   go_region_held3 (λW=>N W (B+9) 3 (nT d)/\F6 W aj f)
    (first|with_reducible exact E|with_reducible exact s4|with_reducible exact s2|exact E)
    (first|(go_at_call 141;(with_reducible refine(aT.o _ aA.o).mono ?_);rintro e b0 ⟨rfl,cb,b4,aE,_⟩;have s4:=au.o _ _ _ _ aE)|(go_at_call 149;(with_reducible refine(b5.o _).mono ?_);rintro e aa ⟨rfl,az⟩;have s2:=b6.o _ (ai.o.trans (az.mono ai.o.size));have aA:=O (ai.o.trans (az.mono ai.o.size));clear az)|fail)
   all_goals clear E b6 au aT b5 ai;(try clear s4);(try clear s2);have bC:=(aO.o.trans aE).base bN.o;go_wp2;go_end0;refine⟨rfl,_,_,bC.weak λc h=>?_⟩;rcases h with⟨x,o,h⟩|⟨_,h⟩;(·rw[aB.o]at o;exact .inr (.inl ⟨x,by rw[jh];exact o,h⟩));·exact .inr (.inr (by rw[h];exact aY.o))
def ad9(P:List Pc)(most B:Nat)(X:Nat->Prop)(d:Nat)(w:W_)(vf:Slot->V_)(s:ES)(f:Fc)(aZ:kJ w B X most d vf s)(aE:Inv P most s)(a6:vM P)(bB:most<=1000000)(cr:s.fm.length<=1000000)(hf:f∈s.ix)(a7:f.kind=3)(bE:f∉s.fm):z 214 #[.pointer (some ⟨B+9,0,none⟩),.agg (vF f)] w (L6 P most B X d w vf s (λc=>(∃x∈jd s.fi ⟨f.A,f.R⟩,max f.lo x.lo<=min f.hi x.hi/\c=Y_ f.A f.R (max f.lo x.lo) (min f.hi x.hi))\/((∃x∈jd s.fi ⟨f.A,f.R⟩,min f.hi x.hi<max f.lo x.lo)/\c=n_ f.A iE))):=by
 unfold vF d_;have bs:=aE.CO f (aE.Bt f hf);have bF:=rZ a6 bs;obtain⟨ag,bb⟩:=e_ (w.alloc (.cells (vF f) 148));(have bc:G w ag:=by rw[<-bb];exact bA);have bd:¬Yb X vf w.heap.size:=aZ.e.fresh (fU _);obtain⟨ak,bG⟩:=e_ w.heap.size;(have bH:f_ ag ak 148 (vF f):=by rw[<-bb,<-bG];exact f_.new _ _ _);rw[bG]at bd;have cU:s.fm.length<=1000000:=cr;have bC:=O a6;have be:=O bF;have bI:=O bc;have bJ:Hid (ER P most B X d ag vf s ag vf s (λ_=>False)):=O (ER.refl (aZ.up bc) aE);have bx:=O bH;have bz:=O bd;have aW:=O bs;have a8:=O a7;have cM:=O aE;have bK:=O hf;clear aZ aE a6 hf a7 bs bF bc bd bH;go_in;obtain⟨al,b1,b2,b3,am,an⟩:=H_ bx.o;obtain⟨Z,bf⟩:∃q,ag.alloc (.cells #[f.A,f.R] 273)=q:=⟨_,rfl⟩;obtain⟨a9,bL⟩:=e_ ag.heap.size;have cs:=O bE;clear bE;go_wp2_with fail;clear bb al b1 b2 b3 am an;(have ay:G ag Z:=by rw[<-bf];exact L_ (fD _ _) _);(have bM:f_ Z a9 273 #[f.A,f.R]:=by rw[<-bf,<-bL];exact f_.new _ _ _);have aH:=O (bJ.o.up ay);have az:=O bM;clear ay bM bf bL bJ;have cH:Zq ⟨f.A,f.R⟩:=⟨gT be.o.a (by simp[m_]),gT be.o.r (by simp[m_])⟩;have a':N Z (B+9) 9 (.map (some (B+7))):=aH.o.e.e.blk.cell 9;have a0:N Z a9 0 f.A:=az.o.cell 0;have a1:N Z a9 1 f.R:=az.o.cell 1;obtain⟨cd,cI,bg,_⟩:=(aH.o.fis ⟨f.A,f.R⟩).form;(have bh:∀nq,(Instr.lookup 222 (.map (some (B+7))) (.agg #[f.A,f.R]) false).run prog (Z.drewN nq)=.ok (.slice cd (jd s.fi ⟨f.A,f.R⟩).length cI) (Z.drewN nq):=λnq=>by have:=(aH.o.drewN nq).e.e.abg ⟨f.A,f.R⟩ cH;rw[bg]at this;exact this);have bN:=O bg;clear bg;go_quiet (fail);clear bh a' a0 a1;have aI:=O (aH.o.drewN nq);have bO:=O (az.o.drewN nq);clear aH az;generalize Z.drewN nq=aP at *;go_wp2_with fail;have a':N aP (B+9) 10 (.map (some (B+8))):=aI.o.e.e.blk.cell 10;obtain⟨al,b1,b2,b3,am,an⟩:=H_ (aI.o.blk bx.o bz.o);(have bh:∀nq,(Instr.lookup 218 (.map (some (B+8))) (.agg #[f.kind,f.A,f.B,f.R,f.lo,f.hi]) false).run prog (aP.drewN nq)=.ok (.bool false) (aP.drewN nq):=λnq=>lT ((aI.o.drewN nq).e.e.m.mz) be.o.ok (yR cs.o));go_quiet (fail);clear bh a' al b1 b2 b3 am an;have bP:=O (aI.o.drewN nq);have cR:=O (bO.o.drewN nq);clear aI bO;generalize aP.drewN nq=ce at *;obtain⟨p,hl⟩:∃l,jd s.fi ⟨f.A,f.R⟩=l:=⟨_,rfl⟩;have av:=bP.o.fis ⟨f.A,f.R⟩;rw[hl]at av bN;obtain⟨cN,cV,hv,b6,b7,_⟩:=av.form;have bQ:=bN.o;rw[hv]at bQ;injection bQ with u _ aa;subst u aa;rw[hl];have cJ:=gT b6 b7;simp only[m_]at cJ;have aA:=O hl;have ct:=O hv;clear av hl hv b6 b7;obtain⟨ap,cu⟩:∃q,q=ce:=⟨_,rfl⟩;subst cu;have aJ:=bP;obtain⟨ai,cv⟩:∃q,q=vf:=⟨_,rfl⟩;obtain⟨sq,cf⟩:∃q,q=s:=⟨_,rfl⟩;subst cv cf;have ca:=O (aJ.o.blk bx.o bz.o);have cb:=bz;have K:Hid (ER P most B X d ap ai sq ap ai sq (λ_=>False)):=O (ER.refl aJ.o.e aJ.o.t.inv);(have cS:prog.eqGuardType prog.depth 148=false:=by kernel_rfl);go_wp2;go_loopw [6,37] (λcg i wr=>∃(k:Nat)(cw:Slot->V_)(s1:ES)(ao:Bool),k<=p.length/\i=.int .i64 (k:Int)/\cg=.bool ao/\Hid (ao=true↔∃x∈p.take k,min f.hi x.hi<max f.lo x.lo)/\Hid (ER P most B X d ap ai sq wr cw s1 (λc=>∃x∈p.take k,max f.lo x.lo<=min f.hi x.hi/\c=Y_ f.A f.R (max f.lo x.lo) (min f.hi x.hi)))) (λ_ i _=>p.length-(intOf i).toNat);exact⟨0,ai,sq,false,gL _,rfl,rfl,O S,O (K.o.weak λc h=>by simp at h)⟩;obtain⟨v,T,E,ao,a7,rfl,rfl,aK,ah⟩:=hrel;by_cases bi:v<p.length
 ·obtain⟨x,o⟩:=g_ bi
  have av:=ah.o.fis ⟨f.A,f.R⟩;rw[aA.o,ct.o]at av;obtain⟨b,cT,rfl,hb,a0,a1,a2,a3,a4,a5⟩:=X4 av o;have r1:(0:Int)<=(v:Int):=U;have cO:(v:Int)<(p.length:Int):=U;have aB:=O o;clear av o;obtain⟨ac,bj⟩:=e_ (wr.alloc (.cells (vF x) 148));(have bl:f_ ac wr.heap.size 148 (vF x):=by rw[<-bj];exact f_.new _ _ _);(have bR:G wr ac:=by rw[<-bj];exact L_ (fD _ _) _);have bS:¬Yb X T wr.heap.size:=ah.o.e.e.fresh (fU _);have aL:=O (ah.o.up bR);obtain⟨aQ,bt⟩:=e_ wr.heap.size;rw[bt]at bl bS;have aX:=O bl;(have bT:x∈jd sq.fi ⟨f.A,f.R⟩:=by rw[aA.o];exact gM aB.o);have aM:=((K.o.t.inv.fi ⟨f.A,f.R⟩ x).1 (jl.1 bT));have aT:=O aM;clear bl bR bS bT aM ah;have aY:=O (aL.o.blk ca.o cb.o);have b8:Hid (ER P most B X d ac T E ac T E (λ_=>False)):=O (ER.refl aL.o.e aL.o.t.inv);go_wp2_with fail;clear bj a0 a1 a2 a3 a4 a5;(try rw[bt]);clear bt;obtain⟨aq,bu⟩:=e_ (max f.lo x.lo);obtain⟨ar,bv⟩:=e_ (min f.hi x.hi);(have cx:∀W,(Builtin.max_ #[3,3] 3 #[f.lo,x.lo]).run prog W=.ok (.int .i64 aq) W:=λW=>by rw[<-bu];exact TB _ _ W);(have cy:∀W,(Builtin.min_ #[3,3] 3 #[f.hi,x.hi]).run prog W=.ok (.int .i64 ar) W:=λW=>by rw[<-bv];exact L8 _ _ W);have ae:=O bu;have af:=O bv;clear bu bv;have H:N ac ak 4 f.lo/\N ac ak 5 f.hi/\N ac aQ 4 x.lo/\N ac aQ 5 x.hi:=⟨aY.o.cell 4,aY.o.cell 5,aX.o.cell 4,aX.o.cell 5⟩
  go_region_held3 (λW=>N W ak 4 f.lo/\N W ak 5 f.hi/\N W aQ 4 x.lo/\N W aQ 5 x.hi)
   (first|with_reducible exact H|exact H)
   (first|fail)
  all_goals
   clear H cx cy
   have aN:=O (aL.o.up (fD _ _).drew)
   have cz:=O (b8.o.up (fD _ _).drew)
   have cc:=O (aY.o.drew)
   have cK:=O (aX.o.drew)
   clear aL b8 aY aX
   generalize ac.drew=ba at *
   by_cases aC:ar<aq
   ·have aR:decide (ar<aq)=true:=Dx aC
    have aU:Hid (true=true↔∃x∈p.take (v+1),min f.hi x.hi<max f.lo x.lo):=O ⟨λ_=>⟨x,gM (i:=v) (by rw[MW,A_ U];exact aB.o),by rw[ae.o,af.o];exact aC⟩,λ_=>rfl⟩
    have aF:Hid (ER P most B X d ap ai sq ba T E (λc=>∃x∈p.take (v+1),max f.lo x.lo<=min f.hi x.hi/\c=Y_ f.A f.R (max f.lo x.lo) (min f.hi x.hi))):=O (aN.o.weak λc h=>by
     rcases jT (C:=λx c=>max f.lo x.lo<=min f.hi x.hi/\c=Y_ f.A f.R (max f.lo x.lo) (min f.hi x.hi)) aB.o h with h|h;·exact h
     ·exact absurd h.1 (by rw[ae.o,af.o];omega))
    clear aC;go_wp2;go_roundw;exact⟨v+1,_,_,true,U,R,rfl,aU,aF⟩;exact M
   ·have aR:decide (ar<aq)=false:=yR aC
    have aU:Hid (ao=true↔∃x∈p.take (v+1),min f.hi x.hi<max f.lo x.lo):=O (by
     rw[aK.o];constructor;·rintro⟨y,ch,h⟩;exact⟨y,im_ p U ch,h⟩
     ·intro h
      rcases jT (C:=λx (_:Fc)=>min f.hi x.hi<max f.lo x.lo) aB.o (c:=f) h with h|h;·exact h
      ·rw[ae.o,af.o]at h;exact absurd h aC)
    obtain⟨F,I⟩:=e_ (Y_ f.A f.R aq ar);have bU:Hid (x=Y_ f.A f.R x.lo x.hi):=O aT.o.1.2
    have ci:Hid (jK P F):=O (by
     have aa:=aW.o;rw[F3 aW.o a8.o]at aa;have ab:=K.o.t.inv.CO _ (K.o.t.inv.Bt _ aT.o.1.1);rw[bU.o]at ab;rw[<-I,<-ae.o,<-af.o]
     exact .meet aa ab (by rw[ae.o,af.o];omega))
    have cA:Hid (pE (·∈E.fm) F.A F.R F.lo F.hi):=O (by
     (have up:∀g,g∈sq.fm->g∈E.fm:=λg cj=>by obtain⟨t,e⟩:=aN.o.t.fm;rw[e];exact P7 _ cj);rw[<-I,<-ae.o,<-af.o];have ab:=(K.o.t.inv.is f (K.o.t.inv.Bt _ bK.o) a8.o).mono up;have ck:Y_ f.A f.R x.lo x.hi∈E.fm:=by rw[<-bU.o];exact up _ aT.o.2
     exact pE.meet ab ck (by have cP:=ae.o;have cQ:=af.o;omega))
    (have bV:Hid (∀W,z 234 #[f.A,f.R,aq,ar] W λe w'=>e=.returned (.agg (mJ F))/\G W w'):=O λW=>by rw[<-I];exact Ak f.A f.R aq ar W);have aS:=O I;obtain⟨q1,bm⟩:∃t,decide (F=f)=t:=⟨_,rfl⟩;obtain⟨q2,bn⟩:∃t,decide (F=x)=t:=⟨_,rfl⟩;(have cB:∀W,(Op.equalIn 10000 148 (.agg #[F.kind,F.A,F.B,F.R,F.lo,F.hi]) (.agg #[f.kind,f.A,f.B,f.R,f.lo,f.hi])).run prog W=.ok q1 W:=λW=>by rw[<-bm];exact Ao W F f);(have cC:∀W,(Op.equalIn 10000 148 (.agg #[F.kind,F.A,F.B,F.R,F.lo,F.hi]) (.agg #[x.kind,x.A,x.B,x.R,x.lo,x.hi])).run prog W=.ok q2 W:=λW=>by rw[<-bn];exact Ao W F x);have cD:=O bm;have cE:=O bn;clear I aC bm bn aK;obtain⟨al,b1,b2,b3,am,an⟩:=H_ cc.o;cases q1<;>cases q2;(all_goals go_wp2_with (go_at_call 234;(with_reducible refine(bV.o _).mono ?_);rintro e bD ⟨rfl,bW⟩;have bo:=O bW;obtain⟨n,bp⟩:=e_ (bD.alloc (.cells (mJ F) 148));obtain⟨j,bq⟩:=e_ bD.heap.size;clear bW al b1 b2 b3 am an;have br:Hid (G ba n):=O (by rw[<-bp];exact L_ bo.o _);have bX:Hid (f_ n j 148 (vF F)):=O (by rw[<-bp,<-bq];exact f_.new _ _ _);have cL:Hid (¬Yb X T j):=O (by rw[<-bq];exact(cz.o.up bo.o).e.e.fresh (fU _));obtain⟨cl,cm,cn,co,cp,cq⟩:=H_ bX.o;obtain⟨al,b1,b2,b3,am,an⟩:=H_ (bk br.o cc.o);obtain⟨c0,c1,c2,c3,c4,c5⟩:=H_ (bk br.o cK.o)));(all_goals (try clear bp);(try clear bq);clear cB cC cl cm cn co cp cq al b1 b2 b3 am an c0 c1 c2 c3 c4 c5 bV bo;have aV:=O (aN.o.up br.o));rotate_left
    all_goals try
     have bY:F∈E.D:=by first|((have u:F=f:=by have:=cD.o;simpa using this);rw[u];exact aN.o.t.mem (K.o.t.inv.Bt _ bK.o))|((have u:F=x:=by have:=cE.o;simpa using this);rw[u];exact aN.o.t.mem (K.o.t.inv.Bt _ aT.o.1.1))
     have aF:Hid (ER P most B X d ap ai sq n T E (λc=>∃x∈p.take (v+1),max f.lo x.lo<=min f.hi x.hi/\c=Y_ f.A f.R (max f.lo x.lo) (min f.hi x.hi))):=O ((aV.o.also bY).weak λc h=>by
      rcases jT (C:=λx c=>max f.lo x.lo<=min f.hi x.hi/\c=Y_ f.A f.R (max f.lo x.lo) (min f.hi x.hi)) aB.o h with h|h;·exact .inl h
      ·exact .inr (by rw[h.2,ae.o,af.o];exact aS.o))
     clear bY
     go_wp2
     go_roundw
     exact⟨v+1,_,_,ao,U,R,rfl,aU,aF⟩
     exact M
    have b9:Hid (ER P most B X d n T E n T E (λ_=>False)):=O (ER.refl aV.o.e aV.o.t.inv);have aw:=bX;(have aO:Hid (∀W,G n W->z 141 #[.agg #[F.kind,F.A,F.B,F.R,F.lo,F.hi],.pointer (some ⟨d,0,none⟩),.pointer (some ⟨d+1,0,none⟩),.pointer (some ⟨d+2,0,none⟩)] W λe w'=>e=.returned (.tuple #[])/\∃ad L,ER P most B X d n T E w' ad L (λc=>(λ_=>False) c\/c=F)/\L.fm.length<=E.fm.length+1):=O λW aG=>(b9.o.emit bC.o bB ci.o (λ_=>cA.o) aG).mono λe w' ⟨u,ad,L,aa,ab⟩=>⟨u,ad,L,aa,by rw[ab];omega⟩);have H:N n (B+9) 3 (nT d)/\N n j 0 F.kind/\N n j 1 F.A/\N n j 2 F.B/\N n j 3 F.R/\N n j 4 F.lo/\N n j 5 F.hi:=⟨b9.o.e.e.blk.cell 3,aw.o.cell 0,aw.o.cell 1,aw.o.cell 2,aw.o.cell 3,aw.o.cell 4,aw.o.cell 5⟩;(have au:Hid (∀W ad L Q',ER P most B X d n T E W ad L Q'->N W (B+9) 3 (nT d)/\N W j 0 F.kind/\N W j 1 F.A/\N W j 2 F.B/\N W j 3 F.R/\N W j 4 F.lo/\N W j 5 F.hi):=O λW ad L Q' u=>have ax:f_ W j 148 (vF F):=u.blk aw.o cL.o;⟨u.e.e.blk.cell 3,ax.cell 0,ax.cell 1,ax.cell 2,ax.cell 3,ax.cell 4,ax.cell 5⟩);have aj:Hid (G n n.drew):=O (fD _ _).drew;go_wp2
    go_region_held3 (λW=>N W (B+9) 3 (nT d)/\N W j 0 F.kind/\N W j 1 F.A/\N W j 2 F.B/\N W j 3 F.R/\N W j 4 F.lo/\N W j 5 F.hi)
     (first|with_reducible exact H|with_reducible exact s4|exact H)
     (first|(go_at_call 141;(with_reducible refine(aO.o _ aj.o).mono ?_);rintro e bZ ⟨rfl,b',b0,aD,cF⟩;have s4:=au.o _ _ _ _ aD)|fail)
    all_goals
     clear H au aO aj
     try clear s4
     have aF:Hid (ER P most B X d ap ai sq bZ b' b0 (λc=>∃x∈p.take (v+1),max f.lo x.lo<=min f.hi x.hi/\c=Y_ f.A f.R (max f.lo x.lo) (min f.hi x.hi))):=O ((aV.o.trans aD).weak λc h=>by
      rcases jT (C:=λx c=>max f.lo x.lo<=min f.hi x.hi/\c=Y_ f.A f.R (max f.lo x.lo) (min f.hi x.hi)) aB.o h with h|h;·exact .inl h
      ·exact .inr (.inr (by rw[h.2,ae.o,af.o];exact aS.o)))
     clear aD cF
     go_wp2
     go_roundw
     exact⟨v+1,_,_,ao,U,R,rfl,aU,aF⟩
     exact M
 ·obtain rfl:v=p.length:=by omega
  cases ao;·have bw:=(aJ.o.trans ah.o).base bI.o;go_wp2;go_end0;refine⟨rfl,_,_,bw.weak λc h=>?_⟩;rcases h with⟨x,o,h⟩|⟨⟨x,o,h⟩,_⟩;(·rw[aA.o]at o;exact .inr ⟨x,by rw[jh];exact o,h⟩);·rw[aA.o]at o;have:=aK.o.2 ⟨x,by rw[jh];exact o,h⟩;cases this
  ·have cG:Hid (jK P (n_ f.A iE)):=O (by
    obtain⟨x,o,bi⟩:=aK.o.1 rfl;rw[jh,<-aA.o]at o;have aM:=((K.o.t.inv.fi ⟨f.A,f.R⟩ x).1 (jl.1 o)).1;have aa:=aW.o;rw[F3 aW.o a8.o]at aa;have ab:=K.o.t.inv.CO _ (K.o.t.inv.Bt _ aM.1);rw[aM.2]at ab
    exact .apart aa ab bi)
   clear aK;obtain⟨F,I⟩:=e_ (n_ (f.A) iE);(have aR:jK P F:=by rw[<-I];exact cG.o);(have b4:Hid (∀W,Y 149 #[f.A,.string ⟨#[33]⟩] W (.agg (mJ F))):=O λW=>I ▸ lD (f.A) iE W);(have aO:=O λW aG=>ah.o.emit bC.o bB aR (λh=>by rw[<-I]at h;cases h) (W:=W) aG);(have au:Hid (∀W ad L Q',ER P most B X d ap ai sq W ad L Q'->N W (B+9) 3 (nT d)/\F6 W ak f):=O λW ad L Q' u=>⟨u.e.e.blk.cell 3,H_ (u.blk ca.o cb.o)⟩);have H:=au.o _ _ _ _ ah.o;(have b5:=O λW aG=>au.o W _ _ _ (ah.o.up aG));have aj:Hid (G wr wr.drew):=O (fD _ _).drew;have aS:=O I;clear aR I;go_wp2
   go_region_held3 (λW=>N W (B+9) 3 (nT d)/\F6 W ak f)
    (first|with_reducible exact H|with_reducible exact s4|with_reducible exact s2|exact H)
    (first|(go_at_call 141;(with_reducible refine(aO.o _ az.o).mono ?_);rintro e bZ ⟨rfl,b',b0,aD,_⟩;have s4:=au.o _ _ _ _ aD)|(go_at_call 149;(with_reducible refine(b4.o _).mono ?_);rintro e Z ⟨rfl,ay⟩;have s2:=b5.o _ (aj.o.trans (ay.mono aj.o.size));have az:=O (aj.o.trans (ay.mono aj.o.size));clear ay)|fail)
   all_goals clear H b5 au aO b4 aj;(try clear s4);(try clear s2);have bw:=(aJ.o.trans aD).base bI.o;go_wp2;go_end0;refine⟨rfl,_,_,bw.weak λc h=>?_⟩;rcases h with⟨x,o,h⟩|⟨_,h⟩;(·rw[aA.o]at o;exact .inr (.inl ⟨x,by rw[jh];exact o,h⟩));·exact .inr (.inr (by rw[h];exact aS.o))
noncomputable def Vl (s:ES) (f:Fc):List Fc:=if f∈s.fm then jd s.ra ⟨f.A,f.R⟩ else jd s.fi ⟨f.A,f.R⟩
def Me(s:ES)(f c:Fc):Prop:=(∃x∈Vl s f,max f.lo x.lo<=min f.hi x.hi/\c=Y_ f.A f.R (max f.lo x.lo) (min f.hi x.hi))\/((∃x∈Vl s f,min f.hi x.hi<max f.lo x.lo)/\c=n_ f.A iE)
def aap:nU 214 3 Me:=by intro P most B X b w vf s f c d e g j hf i;by_cases a:f∈s.fm;(·have h:=ad8 P most B X b w vf s f c d e g j hf i a;unfold Me Vl;simp only[A_ a];exact h);·have h:=ad9 P most B X b w vf s f c d e g j hf i a;unfold Me Vl;simp only[u_ a];exact h
def aaq(x:Pc)(role atom:St)(w:W_)(B:Nat)(X:Nat->Prop)(y:V_)(vf:Slot->V_)(s:ES)(b l:Nat)(h:jm w B X y vf s)(ao:f_ w b 146 (vP x))(ae:¬Yb X vf b)(aF:f_ w l 215 #[.pointer (some ⟨B+9,0,none⟩)])(af:¬Yb X vf l)(aC:okY ⟨x.kind,role,atom⟩)(hl:s.pu.length<=1000000):
 z 249 #[role,atom,.pointer (some ⟨b,0,none⟩),.pointer (some ⟨l,0,none⟩)] w λe w'=>
  e=.returned (.tuple #[])/\∃aG,jm w' B X y aG {s with pu:=s.pu++[(⟨x.kind,role,atom⟩,x)]}/\q9 X vf w aG w':=by
 obtain⟨d,ap⟩:∃q,w.alloc (.cells #[x.kind,role,atom] 315)=q:=⟨_,rfl⟩
 obtain⟨j,aq⟩:=e_ w.heap.size
 have ac:G w d:=by rw[<-ap];exact bA
 have aS:f_ d j 315 #[x.kind,role,atom]:=by rw[<-ap,<-aq];exact f_.new _ _ _
 have ag:¬Yb X vf j:=by rw[<-aq];exact h.fresh (fU _)
 have r:=h.up ac
 have aT:=bk ac ao
 have aU:=bk ac aF
 have a3:N w b 0 x.kind:=ao.cell 0
 obtain⟨K,ad⟩:∃K:Ky,(⟨x.kind,role,atom⟩:Ky)=K:=⟨_,rfl⟩
 have L:=r.rows.own (.pc K)
 obtain⟨E,c3,F⟩:=o_ L
 obtain⟨p,ar⟩:=e_ ((SC s (.pc K)).length)
 rw[ar]at F L
 have aB:p=(jd s.pu K).length:=by rw[<-ar];simp[SC]
 have bn:p<=1000000:=by rw[aB];exact gT (rH _ _) hl
 have t:=h.xb 0 U
 have aH:=h.xb 9 U
 rw[F]at L
 have ah:∀g,X g->some g≠(Value.slice E p c3).ownBlock:=λg f e=>by rw[<-F]at e;exact h.rows.fx _ _ e.symm f
 have ai:∀g,¬Yb X vf g->some g≠(Value.slice E p c3).ownBlock:=λg f e=>by rw[<-F]at e;exact f (.inr ⟨_,e.symm⟩)
 have H:∀g,¬Yb X vf g->g≠B:=λg f e=>f (.inl (by rw[e];exact t))
 have aV:s.pu.length<m_:=by simp only[m_];omega
 have aI:KY.ok K:=by rw[<-ad];exact aC
 have aJ:(nK (λk=>vf (.pc k)) (jd s.pu) K).getD (.slice none 0 0)=.slice E p c3:=by rw[l8 (vf:=λk=>vf (.pc k)) (λe=>h.rows.nil (.pc K) (by simp[SC,e]))];exact F
 obtain⟨aK,v,au,av,a8,aW⟩:=t_.entry adK ((r.m.mp.alloc (.cells (vP x) 146)).drew) underlying217 (λu=>zeroValue140 u) aV aI
 rw[aJ,<-ad]at au
 have P:(Instr.mapEntry 217 (.map (some B)) (.agg #[x.kind,role,atom])).run prog (d.alloc (.cells #[x.kind,x.A,x.B,x.C,x.R,x.S,x.T,x.lo,x.hi,x.fA] 146)).drew=.ok (.tuple #[.slice E p c3,aK]) v:=au
 have aX:=O aW
 have a2:Aw (λg=>g=B) d v:=(((Aw.refl _ d).al _).then (fD _ _).drew).grown av λ_=>rfl
 have aD:∀W,Aw (λg=>g=B) d W->W.ownsRow B 146 10 (.slice E p c3) p (SC s (.pc K)).flatten:=λW I=>rJ L λg f=>I.block g ((L.lt g f).2) λe=>by subst e;exact ah _ t f.symm
 have aL:=O (aD _ a2)
 have Z:∀W,Aw (λg=>g=B) d W->f_ W l 215 #[.pointer (some ⟨B+9,0,none⟩)]/\f_ W (B+9) 224 (Ap B y (vf .loops))/\f_ W j 315 #[x.kind,role,atom]/\f_ W b 146 (vP x):=λW I=>⟨I.blk aU (H _ af),I.blk r.blk U,I.blk aS (H _ ag),I.blk aT (H _ ae)⟩
 have ak:∀aa i,Aw (λg=>g=B) d aa->aa.grownBy i (Value.slice E p c3).ownBlock->(f_ i l 215 #[.pointer (some ⟨B+9,0,none⟩)]/\f_ i (B+9) 224 (Ap B y (vf .loops))/\f_ i j 315 #[x.kind,role,atom]/\f_ i b 146 (vP x))/\i.heap[B]?=aa.heap[B]? :=λaa i am f=>have k:=Z aa am;⟨⟨k.1.grown f (ai _ af),k.2.1.grown f (ah _ aH),k.2.2.1.grown f (ai _ ag),k.2.2.2.grown f (ai _ ae)⟩,f.block _ (sK (r.xlt _ t).2 am.size) (ah _ t)⟩
 have aE:∀i w5,i.grownBy w5 (some B)->(f_ i l 215 #[.pointer (some ⟨B+9,0,none⟩)]/\f_ i (B+9) 224 (Ap B y (vf .loops))/\f_ i j 315 #[x.kind,role,atom]/\f_ i b 146 (vP x))->(f_ w5 l 215 #[.pointer (some ⟨B+9,0,none⟩)]/\f_ w5 (B+9) 224 (Ap B y (vf .loops))/\f_ w5 j 315 #[x.kind,role,atom]/\f_ w5 b 146 (vP x)):=λi w5 f k=>⟨k.1.grown f (by intro e;injection e with e;exact H _ af e),k.2.1.grown f (by intro e;injection e with e;omega),k.2.2.1.grown f (by intro e;injection e with e;exact H _ ag e),k.2.2.2.grown f (by intro e;injection e with e;exact H _ ae e)⟩
 have ab:∀W,(f_ W l 215 #[.pointer (some ⟨B+9,0,none⟩)]/\f_ W (B+9) 224 (Ap B y (vf .loops))/\f_ W j 315 #[x.kind,role,atom]/\f_ W b 146 (vP x))-> (N W l 0 (.pointer (some ⟨B+9,0,none⟩))/\N W (B+9) 0 (.map (some B))/\N W j 0 x.kind/\N W j 1 role/\N W j 2 atom/\N W b 0 x.kind/\N W b 1 x.A/\N W b 2 x.B/\N W b 3 x.C/\N W b 4 x.R/\N W b 5 x.S/\N W b 6 x.T/\N W b 7 x.lo/\N W b 8 x.hi/\N W b 9 x.fA):=λW k=>⟨k.1.cell 0,k.2.1.cell 0,k.2.2.1.cell 0,k.2.2.1.cell 1,k.2.2.1.cell 2,k.2.2.2.cell 0,k.2.2.2.cell 1,k.2.2.2.cell 2,k.2.2.2.cell 3,k.2.2.2.cell 4,k.2.2.2.cell 5,k.2.2.2.cell 6,k.2.2.2.cell 7,k.2.2.2.cell 8,k.2.2.2.cell 9⟩
 have an:=ab _ (Z d (.refl _ _))
 have aM:=ab _ (Z v a2)
 have aw:∀o,(N (d.alloc o) l 0 (.pointer (some ⟨B+9,0,none⟩))/\N (d.alloc o) (B+9) 0 (.map (some B))/\N (d.alloc o) j 0 x.kind/\N (d.alloc o) j 1 role/\N (d.alloc o) j 2 atom/\N (d.alloc o) b 0 x.kind/\N (d.alloc o) b 1 x.A/\N (d.alloc o) b 2 x.B/\N (d.alloc o) b 3 x.C/\N (d.alloc o) b 4 x.R/\N (d.alloc o) b 5 x.S/\N (d.alloc o) b 6 x.T/\N (d.alloc o) b 7 x.lo/\N (d.alloc o) b 8 x.hi/\N (d.alloc o) b 9 x.fA):=λo=>ab _ (Z _ ((Aw.refl _ _).al o))
 have aY:=O λ(W:W_)(f:v.grownBy W (Value.slice E p c3).ownBlock)=>(show Aw (λg=>g=B) d v/\W.heap[B]?=v.heap[B]? /\_ from⟨a2,(ak _ W a2 f).2,(ak _ W a2 f).1⟩)
 have aZ:Hid (Rd v jM 10 (.slice (some ⟨d.heap.size,0,none⟩) 1 1) [x]):=O (((abY d x).up (fD _ _).drew).kept av λa n c e bm P=>by
  injection e with e;injection e with e;subst e;injection P with P;have:=(r.xlt _ t).2
  simp only at P;omega)
 have aN:=O aE
 have ax:=O ab
 have ay:=O r
 have aO:=O F
 have a9:=O ac
 have a':=O aB
 have a4:=O ad
 have bh:B<=v.heap.size:=by have:=(r.xlt _ t).2;have am:=a2.size;omega
 have aP:=O t
 obtain⟨a5,ba,bb,bi,bj⟩:=qV FJ
 clear h ao ae aF af aC hl aS ag r aT aU L F ar aB t aH ah ai H aV aI aJ au av a8 aW a2 aD Z ak aE ab ac ad
 go_in
 go_wp2_with fail
 clear ap a3 aq
 go_region_held3 (λW=>(N W l 0 (.pointer (some ⟨B+9,0,none⟩))/\N W (B+9) 0 (.map (some B))/\N W j 0 x.kind/\N W j 1 role/\N W j 2 atom/\N W b 0 x.kind/\N W b 1 x.A/\N W b 2 x.B/\N W b 3 x.C/\N W b 4 x.R/\N W b 5 x.S/\N W b 6 x.T/\N W b 7 x.lo/\N W b 8 x.hi/\N W b 9 x.fA))
  (first|with_reducible exact an|with_reducible exact s5|with_reducible exact s4|with_reducible exact aM|with_reducible exact aw _|exact an|exact aw _)
  (first|(refine gX _ jM rfl (.tmp 17) (.tmp 19) 140 rfl B 146 a5 (.agg (vP ⟨0,[],[],[],[],[],[],0,0,0⟩)) 10 128 underlying140 ba bb bi bj rfl D _ _ _ rfl (aL.o) _ _ [x] mI rfl (aZ.o) (λx _ u a6=>wQ x u a6) ?c1 ?c2 ?c3 ?_;(case c1=>(simp only[m_,zC];omega));(case c2=>(simp only[zC];omega));(case c3=>exact bh);intro v4 i a1 az a0;have aj:=O (aY.o _ az);have bc:=O a1;have bd:=O az;have bl:=O a0;have s4:=ax.o _ aj.o.2.2;obtain⟨w5,aQ,aR,aA⟩:=aX.o i v4 aj.o.2.1;have be:(Instr.entryStore 217 (.map (some B)) (.int .i64 aK) v4).run prog i=.ok () w5:=aQ;have s5:=ax.o _ (aN.o _ _ aA aj.o.2.2);have bf:=O aR;have bg:=O aA;clear a1 az a0 aQ aR aA)|fail)
 all_goals clear an aM aw P ax aN aY aX aL aZ;(try clear s4 s5 be);go_wp2;go_end0;have R:=En (c:=jM x) ay.o.rows (λg f=>(ay.o.xlt g f).2) (.pc K) (q:=B+0) aP.o aj.o.1 bc.o (by rw[a'.o];simp[SC]) (by simp[SC,in_]) (by rw[aO.o];exact bd.o) (by rw[aO.o];exact bl.o) bg.o;have a7:=ay.o.ab2 K x R bf.o;refine⟨rfl,_,?_,(q9.of a9.o).trans (R.to aP.o)⟩;rw[a4.o];exact a7
def kJ.step{w w5:W_}{B most a:Nat}{X:Nat->Prop}{vf:Slot->V_}{s b:ES}{i:Slot}{v':V_}{c:List V_}(h:kJ w B X most a vf s){j:Nat}(n:j<=8)(hi:i≠.queue)(R:jg w w5 B X vf s i (B+j) v' c)(d:jm w5 B X (nT a) (j6 vf i v') b):kJ w5 B X most a (j6 vf i v') b:=by have o:=h.gt;(have k:∀g,X g->g≠B+j->w5.heap[g]?=w.heap[g]? :=λg f l=>jg.at h.e R f l);refine⟨d,(k _ h.xx.1 U).trans h.g,(k _ h.xx.2.1 U).trans h.m,?_,h.xx,h.gt⟩;rw[ko _ _ (Zl hi)];exact(k _ h.xx.2.2 U).trans h.q
noncomputable def Eo (s:ES) (f:Fc):ES:=
 if f.kind=1 then {s with ix:=s.ix++[f],ab:=s.ab++[(f.A,f.B)]}
 else if f.kind=2 then {s with ix:=s.ix++[f],un:=s.un++[(f.B,f.A)],fr:=s.fr++[(⟨f.A,f.R⟩,f.B)],it:=s.it++[(⟨f.B,f.R⟩,f.A)]}
 else {s with ix:=s.ix++[f],ra:=s.ra++[(⟨f.A,f.R⟩,f)],fi:=s.fi++(if f∈s.fm then[(⟨f.A,f.R⟩,f)] else[])}
def kJ.ghost{w:W_}{B most a:Nat}{X:Nat->Prop}{vf:Slot->V_}{s:ES}(h:kJ w B X most a vf s)(l:List Fc):kJ w B X most a vf {s with ix:=l}:=⟨⟨h.e.blk,h.e.rows,h.e.xb,h.e.xlt,⟨h.e.m.mp,h.e.m.kn,h.e.m.ma,h.e.m.mu,h.e.m.mf,h.e.m.mi,h.e.m.mr,h.e.m.ms,h.e.m.mz⟩⟩,h.g,h.m,h.q,h.xx,h.gt⟩
structure Ya(s:ES):Prop where
 ab:s.ab.length<=1000000
 un:s.un.length<=1000000
 fr:s.fr.length<=1000000
 it:s.it.length<=1000000
 ra:s.ra.length<=1000000
 fi:s.fi.length<=1000000
def Yc(w:W_)(B:Nat)(X:Nat->Prop)(most bg:Nat)(vf:Slot->V_)(s:ES)(f:Fc)(e:Ending)(w':W_):Prop:=e=.returned (.tuple #[])/\∃l7,kJ w' B X most bg l7 (Eo s f)/\q9 X vf w l7 w'
def afH(f:Fc):Prop:=∀(w:W_)(B:Nat)(X:Nat->Prop)(most bg:Nat)(vf:Slot->V_)(s:ES),kJ w B X most bg vf s->SmF f->Ya s-> z 145 #[.pointer (some ⟨B+9,0,none⟩),.agg (vF f)] w (Yc w B X most bg vf s f)
section
variable{w w3 w4 w5 W:W_}{B most bg:Nat}{X:Nat->Prop}{vf l7:Slot->V_}{s:ES}{i:Slot}{v':V_}{cs:List V_}{j n c:Nat}{A:Option Addr}
structure Rw(w:W_)(B:Nat)(X:Nat->Prop)(most bg:Nat)(vf:Slot->V_)(s:ES)(i:Slot)(j:Nat)(A:Option Addr)(n c:Nat):Prop where
 h:kJ w B X most bg vf s
 j:j<=8
 v:vf i=.slice A n c
 n:n=(SC s i).length
def Rw.of(h:kJ w B X most bg vf s)(i:Slot)(a:j<=8):∃A n c,Rw w B X most bg vf s i j A n c:=by obtain⟨A,c,hv⟩:=o_ (h.e.rows.own i);exact⟨A,_,c,h,a,hv,rfl⟩
def Rw.x(p:Rw w B X most bg vf s i j A n c):X (B+j):=p.h.e.xb j (gT p.j D)
def Rw.fx(p:Rw w B X most bg vf s i j A n c){g:Nat}(h:(Value.slice A n c).ownBlock=some g):¬X g:=p.h.e.rows.fx i g (by rw[p.v];exact h)
def Rw.own(p:Rw w B X most bg vf s i j A n c)(a:Aw (λg=>g=B+j) w W):W.ownsRow B (eT i) (kT i) (.slice A n c) n (SC s i).flatten:=by have b:=p.h.e.rows.own i;rw[p.v,<-p.n]at b;exact rJ b λg d=>a.block g (b.lt g d).2 λe=>p.fx d (by rw[e];exact p.x)
def Kp(X:Nat->Prop)(vf:Slot->V_)(B:Nat)(w W:W_):Prop:=∀b t v,f_ w b t v->b=B+9\/¬Yb X vf b->f_ W b t v
def Rw.ne(p:Rw w B X most bg vf s i j A n c){b:Nat}(h:b=B+9\/¬Yb X vf b):b≠B+j/\some b≠(Value.slice A n c).ownBlock:=by have a:=p.j;rcases h with h|h;(·exact⟨U,λe=>p.fx e.symm (by rw[h];exact p.h.e.xb 9 D)⟩);·exact⟨λe=>h (.inl (by rw[e];exact p.x)),λe=>h (.inr ⟨i,by rw[p.v];exact e.symm⟩)⟩
def Rw.k0(p:Rw w B X most bg vf s i j A n c)(a:Aw (λg=>g=B+j) w W):Kp X vf B w W:=λ_ _ _ hb h=>a.blk hb (p.ne h).1
def Rw.k4(p:Rw w B X most bg vf s i j A n c)(a:Aw (λg=>g=B+j) w w3)(b:w3.grownBy W (Value.slice A n c).ownBlock):Kp X vf B w W:=λ_ _ _ hb h=>(a.blk hb (p.ne h).1).grown b (p.ne h).2
def Rw.k5(p:Rw w B X most bg vf s i j A n c)(k:Kp X vf B w w4)(a:w4.grownBy w5 (some (B+j))):Kp X vf B w w5:=λb t v hb h=>(k b t v hb h).grown a λe=>(p.ne h).1 (by injection e)
def Rw.map(p:Rw w B X most bg vf s i j A n c)(a:Aw (λg=>g=B+j) w w3)(b:w3.grownBy W (Value.slice A n c).ownBlock):W.heap[B+j]?=w3.heap[B+j]? :=b.block _ (sK (p.h.e.xlt _ p.x).2 a.size) λe=>p.fx e.symm p.x
def Rw.base(p:Rw w B X most bg vf s i j A n c)(a:Aw (λg=>g=B+j) w W):B<=W.heap.size:=by have:=p.h.e.xlt _ p.x;have:=a.size;omega
def Rw.step(p:Rw w B X most bg vf s i j A n c)(a:Aw (λg=>g=B+j) w w3)(d:w4.ownsRow B (eT i) (kT i) v' (n+1) ((SC s i).flatten++cs))(b:w3.grownBy w4 (Value.slice A n c).ownBlock)(f:v'.ownBlock=(Value.slice A n c).ownBlock\/v'.ownBlock=some w3.heap.size)(k:w4.grownBy w5 (some (B+j))):jg w w5 B X vf s i (B+j) v' cs:=En p.h.e.rows (λg b=>(p.h.e.xlt g b).2) i p.x a d (by rw[p.n]) rfl (by rw[p.v];exact b) (by rw[p.v];exact f) k
def Rw.lit{α:Type}{enc:α->List V_}{k:Nat}{l:List α}(p:Rw w B X most bg vf s i j A n c)(h:Rd w3 enc k (.slice (some ⟨w.heap.size,0,none⟩) 1 1) l)(d:w3.drew.grownBy W (some (B+j))):Rd W enc k (.slice (some ⟨w.heap.size,0,none⟩) 1 1) l:=
 (h.up (fD _ _).drew).kept d λa n c e _ b=>by injection e with e;injection e with e;subst e;injection b with b;have:=(p.h.e.xlt _ p.x).2;simp only at b;omega
def Rw.gd{a α:Type}{g:a->Slot}{l:List (a×α)}[DecidableEq a]{k:a}{r:Result V_}{u:V_}(p:Rw w B X most bg vf s (g k) j A n c)(h:r=.ok (.tuple #[(nK (λk=>vf (g k)) (jd l) k).getD (.slice none 0 0),u]) W)(e:jd l k=[]->SC s (g k)=[]):r=.ok (.tuple #[.slice A n c,u]) W:=by rw[h,l8 (vf:=λk=>vf (g k)) (λx=>p.h.e.rows.nil _ (e x)),p.v]
def LB(w:W_)(X:Nat->Prop)(vf:Slot->V_)(b:Nat)(t:T_)(v:Array V_):Prop:=f_ w b t v/\¬Yb X vf b
def LB.to{b:Nat}{t:T_}{v:Array V_}(h:LB w X vf b t v)(k:q9 X vf w l7 W):LB W X l7 b t v:=⟨k.blk h.1 h.2,k.nx h.1.lt h.2⟩
def LB.up{b:Nat}{t:T_}{v:Array V_}(h:LB w X vf b t v)(k:G w W):LB W X vf b t v:=⟨bk k h.1,h.2⟩
def fcS{w:W_}{b:Nat}{t:T_}{f:Fc}(h:f_ w b t (vF f)):N w b 0 f.kind/\N w b 1 (d_ f.A)/\N w b 2 (d_ f.B)/\N w b 3 (d_ f.R)/\N w b 4 f.lo/\N w b 5 f.hi:=⟨h.cell 0,h.cell 1,h.cell 2,h.cell 3,h.cell 4,h.cell 5⟩
def kJ.lb{b:Nat}{t:T_}{v:Array V_}(h:kJ w B X most bg vf s)(hl:w.heap.size<=b)(k:f_ W b t v):LB W X vf b t v:=⟨k,h.e.fresh hl⟩
end
def Rh(f:Fc)(au:1<=f.kind/\f.kind<=3):afH f:=by
 intro aO B X most bg a3 s1 h ao ax;unfold vF;obtain⟨P,aT⟩:=e_ (aO.alloc (.cells (vF f) 148));obtain⟨C,aU⟩:=e_ aO.heap.size;(have a0:G aO P:=by rw[<-aT];exact bA);have r:=O (h.lb (Nat.le_of_eq aU) (by rw[<-aT,<-aU];exact f_.new _ _ _:f_ P C 148 (vF f)));have d:=O (h.up a0);have ac:Hid (q9 X a3 aO a3 P):=O (.of a0);obtain⟨aP,b1,b2,b3,aQ,aR⟩:=fcS r.o.1;rcases(show f.kind=1\/f.kind=2\/f.kind=3 by omega) with au|au|au;all_goals (have b:∀m:Int,(f.kind==m)=(_==m):=λm=>qQ (·==m) au);replace au:=O au
 ·go_in
  go_wp2_with fail;obtain⟨A,n,c,p⟩:=Rw.of d.o (.ab f.A) (show 2<=8 by decide);(have ay:n<=1000000:=by rw[p.n];exact gT (by simp only[SC,oD];exact rH _ _) ax.ab);have E:=(L_ (fD P.heap.size P) (.cells #[d_ f.B] 9)).drew;(have aW:(Instr.lookup 220 (.map (some (B+2))) (d_ f.A) false).run prog P.drew=.ok (.slice A n c) P.drew:=by rw[<-p.v];exact(d.o.up (fD _ _).drew).e.XV _ ao.ok.2.1);(have aX:(Instr.lookup 220 (.map (some (B+2))) (d_ f.A) false).run prog (P.alloc (.cells #[d_ f.B] 9)).drew=.ok (.slice A n c) (P.alloc (.cells #[d_ f.B] 9)).drew:=by rw[<-p.v];exact(d.o.up E).e.XV _ ao.ok.2.1);have a:=Aw.of (X:=λg=>g=B+2) E;have aS:=(d.o.up E).e.m.ma;(have y:=λ(W:W_)(k:Kp X _ B P W)=>show N W (B+9) 4 (.map (some (B+2)))/\N W C 1 (d_ f.A)/\N W C 2 (d_ f.B) from⟨(k _ _ _ d.o.e.blk (.inl rfl)).cell 4,(k _ _ _ r.o.1 (.inr r.o.2)).cell 1,(k _ _ _ r.o.1 (.inr r.o.2)).cell 2⟩);have L:=y _ (p.k0 (.refl _ _));have s2:=y _ (p.k0 a);(have s3:=λo=>y _ (p.k0 (.al (.refl _ _) o)));have hb:=p.base a;have ad:=(p.own a);have F:=O p;have H:=O a;obtain⟨az,ae,af,ag,ah⟩:=qV oI;go_wp2
  go_region_held3 (λW=>N W (B+9) 4 (.map (some (B+2)))/\N W C 1 (d_ f.A)/\N W C 2 (d_ f.B))
   (first|with_reducible exact L|with_reducible exact s5|with_reducible exact s4|with_reducible exact s2|with_reducible exact s3 _|exact L|exact s3 _|exact s2)
   (first|(refine gX _ (enc1 d_) rfl (.tmp 23) (.tmp 26) 41 rfl B 9 az (.string ⟨#[]⟩) 1 16 underlying41 ae af ag ah rfl D _ _ _ rfl ad _ _ [f.B] (λ_=>rfl) rfl (S1.lit P P.heap.size rfl 9 #[d_ f.B] d_ [f.B] 1 rfl rfl (by simp[m_])) (λx _ u aA=>by(rw[gy.1 aA];rfl)) ?c1 ?c2 hb ?_;(case c1=>(simp only[m_,zC];omega));(case c2=>(simp only[zC];omega));intro v4 ap an I am;have T:=(F.o.k4 H.o I);have s4:=y _ T;obtain⟨Z,ai,aj,aa⟩:=(aS.pz (F.o.map H.o I)).put (K:=KT) underlying220 (io_ ax.ab (by simp[m_])) (x:=f.A) ao.ok.2.1 v4;have aF:(Instr.mapUpdate 220 (.map (some (B+2))) (d_ f.A) v4).run prog ap=.ok () Z:=ai;have s5:=y _ (F.o.k5 T aa);have R:=(F.o.step H.o an I am aa);have ak:=O aj;clear an I am ai aj aa T)|fail)
  all_goals clear L s2 s3 aW aX y ad F H hb ay ae af ag ah aS;(try clear s4);(try clear s5);(try clear aF);have t:=R.to (d.o.e.xb 2 D);replace r:=O (r.o.to t);replace ac:=O (ac.o.trans t);replace d:=O (d.o.step D (by intro e;cases e) R (d.o.e.ab3 f.A f.B R ak.o));go_wp2;go_end0;refine⟨rfl,_,?_,ac.o⟩;unfold Eo;rw[A_ au.o];exact d.o.ghost (s1.ix++[f])
 ·go_in
  go_wp2_with fail;obtain⟨A,n,c,p⟩:=Rw.of d.o (.un f.B) (show 3<=8 by decide);(have ay:n<=1000000:=by rw[p.n];exact gT (by simp only[SC,oD];exact rH _ _) ax.un);have E:=(L_ (fD P.heap.size P) (.cells #[d_ f.A] 9)).drew;(have aW:(Instr.lookup 220 (.map (some (B+3))) (d_ f.B) false).run prog P.drew=.ok (.slice A n c) P.drew:=by rw[<-p.v];exact(d.o.up (fD _ _).drew).e.XW _ ao.ok.2.2.1);(have aX:(Instr.lookup 220 (.map (some (B+3))) (d_ f.B) false).run prog (P.alloc (.cells #[d_ f.A] 9)).drew=.ok (.slice A n c) (P.alloc (.cells #[d_ f.A] 9)).drew:=by rw[<-p.v];exact(d.o.up E).e.XW _ ao.ok.2.2.1);have a:=Aw.of (X:=λg=>g=B+3) E;have aS:=(d.o.up E).e.m.mu;(have y:=λ(W:W_)(k:Kp X _ B P W)=>show N W (B+9) 5 (.map (some (B+3)))/\N W C 1 (d_ f.A)/\N W C 2 (d_ f.B) from⟨(k _ _ _ d.o.e.blk (.inl rfl)).cell 5,(k _ _ _ r.o.1 (.inr r.o.2)).cell 1,(k _ _ _ r.o.1 (.inr r.o.2)).cell 2⟩);have L:=y _ (p.k0 (.refl _ _));have s2:=y _ (p.k0 a);(have s3:=λo=>y _ (p.k0 (.al (.refl _ _) o)));have hb:=p.base a;have ad:=(p.own a);have F:=O p;have H:=O a;obtain⟨az,ae,af,ag,ah⟩:=qV oI;go_wp2
  go_region_held3 (λW=>N W (B+9) 5 (.map (some (B+3)))/\N W C 1 (d_ f.A)/\N W C 2 (d_ f.B))
   (first|with_reducible exact L|with_reducible exact s5|with_reducible exact s4|with_reducible exact s2|with_reducible exact s3 _|exact L|exact s3 _|exact s2)
   (first|(refine gX _ (enc1 d_) rfl (.tmp 42) (.tmp 45) 41 rfl B 9 az (.string ⟨#[]⟩) 1 16 underlying41 ae af ag ah rfl D _ _ _ rfl ad _ _ [f.A] (λ_=>rfl) rfl (S1.lit P P.heap.size rfl 9 #[d_ f.A] d_ [f.A] 1 rfl rfl (by simp[m_])) (λx _ u aA=>by(rw[gy.1 aA];rfl)) ?c1 ?c2 hb ?_;(case c1=>(simp only[m_,zC];omega));(case c2=>(simp only[zC];omega));intro v4 ap an I am;have T:=(F.o.k4 H.o I);have s4:=y _ T;obtain⟨Z,ai,aj,aa⟩:=(aS.pz (F.o.map H.o I)).put (K:=KT) underlying220 (io_ ax.un (by simp[m_])) (x:=f.B) ao.ok.2.2.1 v4;have aF:(Instr.mapUpdate 220 (.map (some (B+3))) (d_ f.B) v4).run prog ap=.ok () Z:=ai;have s5:=y _ (F.o.k5 T aa);have R:=(F.o.step H.o an I am aa);have ak:=O aj;clear an I am ai aj aa T)|fail)
  all_goals
   have t:=R.to (d.o.e.xb 3 D)
   replace r:=O (r.o.to t)
   replace ac:=O (ac.o.trans t)
   replace d:=O (d.o.step D (by intro e;cases e) R (d.o.e.ab4 f.B f.A R ak.o))
   go_wp2_with fail
   have y:=λW (aY:G Z W)=>show N W C 1 (d_ f.A)/\N W C 2 (d_ f.B)/\N W C 3 (d_ f.R) from⟨(bk aY r.o.1).cell 1,(bk aY r.o.1).cell 2,(bk aY r.o.1).cell 3⟩
   have L:=y _ (fD _ _)
   go_region_held3 (λW=>N W C 1 (d_ f.A)/\N W C 2 (d_ f.B)/\N W C 3 (d_ f.R))
    (first|with_reducible exact L|exact y _ bA.drew|exact y _ (L_ bA _).drew|exact L)
    (first|fail)
   all_goals
    first|(obtain⟨w3,aG⟩:∃q,((Z.alloc (.cells #[d_ f.A,d_ f.R] 273)).alloc (.cells #[d_ f.B,d_ f.R] 273)).drew=q:=⟨_,rfl⟩;rw[aG];obtain⟨aB,aM⟩:=e_ (Z.heap.size+1);rw[aM];obtain⟨aC,aN⟩:=e_ Z.heap.size;rw[aN];(have E:G Z w3:=by rw[<-aG];exact(L_ bA _).drew);have av:=O (d.o.lb U (by rw[<-aG,<-aN];exact((f_.new _ _ _).alloc _).drew:f_ w3 aC 273 #[d_ f.A,d_ f.R]));have aw:=O (d.o.lb U (by rw[<-aG,<-aM];exact(f_.newAt _ _ _ S).drew:f_ w3 aB 273 #[d_ f.B,d_ f.R]));clear aG aN aM)|(obtain⟨w3,aG⟩:∃q,((Z.alloc (.cells #[d_ f.B,d_ f.R] 273)).alloc (.cells #[d_ f.A,d_ f.R] 273)).drew=q:=⟨_,rfl⟩;rw[aG];obtain⟨aC,aN⟩:=e_ (Z.heap.size+1);rw[aN];obtain⟨aB,aM⟩:=e_ Z.heap.size;rw[aM];(have E:G Z w3:=by rw[<-aG];exact(L_ bA _).drew);have aw:=O (d.o.lb U (by rw[<-aG,<-aM];exact((f_.new _ _ _).alloc _).drew:f_ w3 aB 273 #[d_ f.B,d_ f.R]));have av:=O (d.o.lb U (by rw[<-aG,<-aN];exact(f_.newAt _ _ _ S).drew:f_ w3 aC 273 #[d_ f.A,d_ f.R]));clear aG aN aM)
    replace d:=O (d.o.up E)
    replace ac:=O (ac.o.then E)
    replace r:=O (r.o.up E)
    obtain⟨A,n,c,p⟩:=Rw.of d.o (.fr ⟨f.A,f.R⟩) (show 4<=8 by decide)
    have ay:n<=1000000:=by rw[p.n];exact gT (by simp only[SC,oD];exact rH _ _) ax.fr
    have E:=(L_ (fD w3.heap.size w3) (.cells #[d_ f.B] 9)).drew
    obtain⟨st,aK,aD,aq,_,aH⟩:=t_.entry Xk (d.o.up E).e.m.mf underlying221 (λu=>zeroValue41 u) (io_ ax.fr (by simp[m_])) (x:=⟨f.A,f.R⟩) ⟨ao.ok.2.1,ao.ok.2.2.2.1⟩
    have aL:(Instr.mapEntry 221 (.map (some (B+4))) (.agg #[d_ f.A,d_ f.R])).run prog (w3.alloc (.cells #[d_ f.B] 9)).drew=.ok (.tuple #[.slice A n c,st]) aK:=p.gd (g:=Slot.fr) aD λe=>by simp[SC,e]
    have a:=(Aw.of (X:=λg=>g=B+4) E).grown aq λ_=>rfl
    have aE:=(p.lit (enc:=enc1 d_) (k:=1) (l:=[f.B]) (S1.lit w3 w3.heap.size rfl 9 #[d_ f.B] d_ [f.B] 1 rfl rfl (by simp[m_])) aq)
    have aI:=O aH
    have y:=λ(W:W_)(k:Kp X _ B w3 W)=>show N W (B+9) 6 (.map (some (B+4)))/\N W C 2 (d_ f.B)/\N W aC 0 (d_ f.A)/\N W aC 1 (d_ f.R)/\N W aB 0 (d_ f.B)/\N W aB 1 (d_ f.R) from⟨(k _ _ _ d.o.e.blk (.inl rfl)).cell 6,(k _ _ _ r.o.1 (.inr r.o.2)).cell 2,(k _ _ _ av.o.1 (.inr av.o.2)).cell 0,(k _ _ _ av.o.1 (.inr av.o.2)).cell 1,(k _ _ _ aw.o.1 (.inr aw.o.2)).cell 0,(k _ _ _ aw.o.1 (.inr aw.o.2)).cell 1⟩
    have L:=y _ (p.k0 (.refl _ _))
    have s2:=y _ (p.k0 a)
    have s3:=λo=>y _ (p.k0 (.al (.refl _ _) o))
    have hb:=p.base a
    have ad:=(p.own a)
    have F:=O p
    have H:=O a
    obtain⟨az,ae,af,ag,ah⟩:=qV oI
    go_wp2
    go_region_held3 (λW=>N W (B+9) 6 (.map (some (B+4)))/\N W C 2 (d_ f.B)/\N W aC 0 (d_ f.A)/\N W aC 1 (d_ f.R)/\N W aB 0 (d_ f.B)/\N W aB 1 (d_ f.R))
     (first|with_reducible exact L|with_reducible exact s5|with_reducible exact s4|with_reducible exact s2|with_reducible exact s3 _|exact L|exact s3 _|exact s2)
     (first|(refine gX _ (enc1 d_) rfl (.tmp 62) (.tmp 65) 41 rfl B 9 az (.string ⟨#[]⟩) 1 16 underlying41 ae af ag ah rfl D _ _ _ rfl ad _ _ [f.B] (λ_=>rfl) rfl (aE) (λx _ u aA=>by(rw[gy.1 aA];rfl)) ?c1 ?c2 hb ?_;(case c1=>(simp only[m_,zC];omega));(case c2=>(simp only[zC];omega));intro v4 ap an I am;have T:=(F.o.k4 H.o I);have s4:=y _ T;obtain⟨w4,ai,aj,aa⟩:=aI.o ap v4 (F.o.map H.o I);have aF:(Instr.entryStore 221 (.map (some (B+4))) (.int .i64 st) v4).run prog ap=.ok () w4:=ai;have s5:=y _ (F.o.k5 T aa);have R:=(F.o.step H.o an I am aa);have ak:=O aj;clear an I am ai aj aa T)|fail)
    all_goals
     have t:=R.to (d.o.e.xb 4 D)
     replace r:=O (r.o.to t)
     replace av:=O (av.o.to t)
     replace aw:=O (aw.o.to t)
     replace ac:=O (ac.o.trans t)
     replace d:=O (d.o.step D (by intro e;cases e) R (d.o.e.ab5 ⟨f.A,f.R⟩ f.B R ak.o))
     obtain⟨A,n,c,p⟩:=Rw.of d.o (.it ⟨f.B,f.R⟩) (show 5<=8 by decide)
     have ay:n<=1000000:=by rw[p.n];exact gT (by simp only[SC,oD];exact rH _ _) ax.it
     have E:=(L_ (fD w4.heap.size w4) (.cells #[d_ f.A] 9)).drew
     obtain⟨st,aK,aD,aq,_,aH⟩:=t_.entry Xk (d.o.up E).e.m.mi underlying221 (λu=>zeroValue41 u) (io_ ax.it (by simp[m_])) (x:=⟨f.B,f.R⟩) ⟨ao.ok.2.2.1,ao.ok.2.2.2.1⟩
     have aL:(Instr.mapEntry 221 (.map (some (B+5))) (.agg #[d_ f.B,d_ f.R])).run prog (w4.alloc (.cells #[d_ f.A] 9)).drew=.ok (.tuple #[.slice A n c,st]) aK:=p.gd (g:=Slot.it) aD λe=>by simp[SC,e]
     have a:=(Aw.of (X:=λg=>g=B+5) E).grown aq λ_=>rfl
     have aE:=(p.lit (enc:=enc1 d_) (k:=1) (l:=[f.A]) (S1.lit w4 w4.heap.size rfl 9 #[d_ f.A] d_ [f.A] 1 rfl rfl (by simp[m_])) aq)
     have aI:=O aH
     have y:=λ(W:W_)(k:Kp X _ B w4 W)=>show N W (B+9) 7 (.map (some (B+5)))/\N W C 1 (d_ f.A)/\N W aC 0 (d_ f.A)/\N W aC 1 (d_ f.R)/\N W aB 0 (d_ f.B)/\N W aB 1 (d_ f.R) from⟨(k _ _ _ d.o.e.blk (.inl rfl)).cell 7,(k _ _ _ r.o.1 (.inr r.o.2)).cell 1,(k _ _ _ av.o.1 (.inr av.o.2)).cell 0,(k _ _ _ av.o.1 (.inr av.o.2)).cell 1,(k _ _ _ aw.o.1 (.inr aw.o.2)).cell 0,(k _ _ _ aw.o.1 (.inr aw.o.2)).cell 1⟩
     have L:=y _ (p.k0 (.refl _ _))
     have s2:=y _ (p.k0 a)
     have s3:=λo=>y _ (p.k0 (.al (.refl _ _) o))
     have hb:=p.base a
     have ad:=(p.own a)
     have F:=O p
     have H:=O a
     obtain⟨az,ae,af,ag,ah⟩:=qV oI
     go_wp2
     go_region_held3 (λW=>N W (B+9) 7 (.map (some (B+5)))/\N W C 1 (d_ f.A)/\N W aC 0 (d_ f.A)/\N W aC 1 (d_ f.R)/\N W aB 0 (d_ f.B)/\N W aB 1 (d_ f.R))
      (first|with_reducible exact L|with_reducible exact s5|with_reducible exact s4|with_reducible exact s2|with_reducible exact s3 _|exact L|exact s3 _|exact s2)
      (first|(refine gX _ (enc1 d_) rfl (.tmp 74) (.tmp 77) 41 rfl B 9 az (.string ⟨#[]⟩) 1 16 underlying41 ae af ag ah rfl D _ _ _ rfl ad _ _ [f.A] (λ_=>rfl) rfl (aE) (λx _ u aA=>by(rw[gy.1 aA];rfl)) ?c1 ?c2 hb ?_;(case c1=>(simp only[m_,zC];omega));(case c2=>(simp only[zC];omega));intro v4 ap an I am;have T:=(F.o.k4 H.o I);have s4:=y _ T;obtain⟨w5,ai,aj,aa⟩:=aI.o ap v4 (F.o.map H.o I);have aF:(Instr.entryStore 221 (.map (some (B+5))) (.int .i64 st) v4).run prog ap=.ok () w5:=ai;have s5:=y _ (F.o.k5 T aa);have R:=(F.o.step H.o an I am aa);have ak:=O aj;clear an I am ai aj aa T)|fail)
     all_goals clear L s2 s3 aL y ad F H hb ay ae af ag ah aI aE;(try clear s4);(try clear s5);(try clear aF);have t:=R.to (d.o.e.xb 5 D);replace r:=O (r.o.to t);replace av:=O (av.o.to t);replace aw:=O (aw.o.to t);replace ac:=O (ac.o.trans t);replace d:=O (d.o.step D (by intro e;cases e) R (d.o.e.ab6 ⟨f.B,f.R⟩ f.A R ak.o));go_wp2;go_end0;refine⟨rfl,_,?_,ac.o⟩;unfold Eo;rw[u_ (by rw[au.o];decide),A_ au.o];exact d.o.ghost (s1.ix++[f])
 ·obtain⟨Z,a1⟩:∃q,P.alloc (.cells #[d_ f.A,d_ f.R] 273)=q:=⟨_,rfl⟩
  obtain⟨aJ,a4⟩:=e_ P.heap.size;go_in;go_wp2_with fail;(have E:G P Z:=by rw[<-a1];exact bA);have ar:=O (d.o.lb U (by rw[<-a1,<-a4];exact f_.new _ _ _:f_ Z aJ 273 #[d_ f.A,d_ f.R]));replace d:=O (d.o.up E);replace ac:=O (ac.o.then E);replace r:=O (r.o.up E);obtain⟨A,n,c,p⟩:=Rw.of d.o (.ra ⟨f.A,f.R⟩) (show 6<=8 by decide);(have ay:n<=1000000:=by rw[p.n];exact gT (by simp only[SC,oD];exact rH _ _) ax.ra);have E:=(L_ (fD Z.heap.size Z) (.cells #[f.kind,d_ f.A,d_ f.B,d_ f.R,f.lo,f.hi] 148)).drew;obtain⟨st,aK,aD,aq,_,aH⟩:=t_.entry Xk (d.o.up E).e.m.mr underlying222 (λu=>zeroValue81 u) (io_ ax.ra (by simp[m_])) (x:=⟨f.A,f.R⟩) ⟨ao.ok.2.1,ao.ok.2.2.2.1⟩;(have aL:(Instr.mapEntry 222 (.map (some (B+6))) (.agg #[d_ f.A,d_ f.R])).run prog (Z.alloc (.cells #[f.kind,d_ f.A,d_ f.B,d_ f.R,f.lo,f.hi] 148)).drew=.ok (.tuple #[.slice A n c,st]) aK:=p.gd (g:=Slot.ra) aD λe=>by simp[SC,e]);(have a:=(Aw.of (X:=λg=>g=B+6) E).grown aq λ_=>rfl);have aE:=(p.lit (enc:=kg) (k:=6) (l:=[f]) (aaj Z f) aq);have aI:=O aH;(have y:=λ(W:W_)(k:Kp X _ B Z W)=>show N W (B+9) 8 (.map (some (B+6)))/\N W C 0 f.kind/\N W C 1 (d_ f.A)/\N W C 2 (d_ f.B)/\N W C 3 (d_ f.R)/\N W C 4 f.lo/\N W C 5 f.hi/\N W aJ 0 (d_ f.A)/\N W aJ 1 (d_ f.R) from⟨(k _ _ _ d.o.e.blk (.inl rfl)).cell 8,(k _ _ _ r.o.1 (.inr r.o.2)).cell 0,(k _ _ _ r.o.1 (.inr r.o.2)).cell 1,(k _ _ _ r.o.1 (.inr r.o.2)).cell 2,(k _ _ _ r.o.1 (.inr r.o.2)).cell 3,(k _ _ _ r.o.1 (.inr r.o.2)).cell 4,(k _ _ _ r.o.1 (.inr r.o.2)).cell 5,(k _ _ _ ar.o.1 (.inr ar.o.2)).cell 0,(k _ _ _ ar.o.1 (.inr ar.o.2)).cell 1⟩);have L:=y _ (p.k0 (.refl _ _));have s2:=y _ (p.k0 a);(have s3:=λo=>y _ (p.k0 (.al (.refl _ _) o)));have hb:=p.base a;have ad:=(p.own a);have F:=O p;have H:=O a;obtain⟨az,ae,af,ag,ah⟩:=qV Q0;go_wp2
  go_region_held3 (λW=>N W (B+9) 8 (.map (some (B+6)))/\N W C 0 f.kind/\N W C 1 (d_ f.A)/\N W C 2 (d_ f.B)/\N W C 3 (d_ f.R)/\N W C 4 f.lo/\N W C 5 f.hi/\N W aJ 0 (d_ f.A)/\N W aJ 1 (d_ f.R))
   (first|with_reducible exact L|with_reducible exact s5|with_reducible exact s4|with_reducible exact s2|with_reducible exact s3 _|exact L|exact s3 _|exact s2)
   (first|(refine gX _ kg rfl (.tmp 93) (.tmp 95) 81 rfl B 148 az (.agg (vF ⟨0,[],[],[],0,0⟩)) 6 72 underlying81 ae af ag ah rfl D _ _ _ rfl ad _ _ [f] qG rfl (aE) (λx _ u aA=>Am x u aA) ?c1 ?c2 hb ?_;(case c1=>(simp only[m_,zC];omega));(case c2=>(simp only[zC];omega));intro v4 ap an I am;have T:=(F.o.k4 H.o I);have s4:=y _ T;obtain⟨w3,ai,aj,aa⟩:=aI.o ap v4 (F.o.map H.o I);have aF:(Instr.entryStore 222 (.map (some (B+6))) (.int .i64 st) v4).run prog ap=.ok () w3:=ai;have s5:=y _ (F.o.k5 T aa);have R:=(F.o.step H.o an I am aa);have ak:=O aj;clear an I am ai aj aa T)|fail)
  all_goals
   have t:=R.to (d.o.e.xb 6 D)
   replace r:=O (r.o.to t)
   replace ar:=O (ar.o.to t)
   replace ac:=O (ac.o.trans t)
   replace d:=O (d.o.step D (by intro e;cases e) R (d.o.e.ab7 ⟨f.A,f.R⟩ f R ak.o))
   go_wp2_with fail
   obtain⟨a2,aV⟩:=e_ (decide (f∈s1.fm))
   have a5:=d.o.e.blk.cell 10
   obtain⟨aP,b1,b2,b3,aQ,aR⟩:=fcS r.o.1
   have a6:∀nq,(Instr.lookup 218 (.map (some (B+8))) (.agg #[f.kind,d_ f.A,d_ f.B,d_ f.R,f.lo,f.hi]) false).run prog (w3.drewN nq)=.ok (.bool a2) (w3.drewN nq):=λnq=>lT ((d.o.up (nJ (fD _ _) nq)).e.m.mz) ao.ok aV
   replace aV:=O aV
   go_quiet (fail)
   have E:=nJ (fD w3.heap.size w3) nq
   replace d:=O (d.o.up E)
   replace ac:=O (ac.o.then E)
   replace r:=O (r.o.up E)
   replace ar:=O (ar.o.up E)
   generalize w3.drewN nq=w4 at *
   cases a2
   ·go_wp2;go_end0;refine⟨rfl,_,?_,ac.o⟩;(have aZ:f∉s1.fm:=by have:=aV.o;simpa using this);unfold Eo;rw[u_ (by rw[au.o];decide),u_ (by rw[au.o];decide),u_ aZ,Zo];exact d.o.ghost (s1.ix++[f])
   ·obtain⟨A,n,c,p⟩:=Rw.of d.o (.fi ⟨f.A,f.R⟩) (show 7<=8 by decide)
    (have ay:n<=1000000:=by rw[p.n];exact gT (by simp only[SC,oD];exact rH _ _) ax.fi);have E:=(L_ (fD w4.heap.size w4) (.cells #[f.kind,d_ f.A,d_ f.B,d_ f.R,f.lo,f.hi] 148)).drew;obtain⟨st,aK,aD,aq,_,aH⟩:=t_.entry Xk (d.o.up E).e.m.ms underlying222 (λu=>zeroValue81 u) (io_ ax.fi (by simp[m_])) (x:=⟨f.A,f.R⟩) ⟨ao.ok.2.1,ao.ok.2.2.2.1⟩;(have aL:(Instr.mapEntry 222 (.map (some (B+7))) (.agg #[d_ f.A,d_ f.R])).run prog (w4.alloc (.cells #[f.kind,d_ f.A,d_ f.B,d_ f.R,f.lo,f.hi] 148)).drew=.ok (.tuple #[.slice A n c,st]) aK:=p.gd (g:=Slot.fi) aD λe=>by simp[SC,e]);(have a:=(Aw.of (X:=λg=>g=B+7) E).grown aq λ_=>rfl);have aE:=(p.lit (enc:=kg) (k:=6) (l:=[f]) (aaj w4 f) aq);have aI:=O aH;(have y:=λ(W:W_)(k:Kp X _ B w4 W)=>show N W (B+9) 9 (.map (some (B+7)))/\N W C 0 f.kind/\N W C 1 (d_ f.A)/\N W C 2 (d_ f.B)/\N W C 3 (d_ f.R)/\N W C 4 f.lo/\N W C 5 f.hi/\N W aJ 0 (d_ f.A)/\N W aJ 1 (d_ f.R) from⟨(k _ _ _ d.o.e.blk (.inl rfl)).cell 9,(k _ _ _ r.o.1 (.inr r.o.2)).cell 0,(k _ _ _ r.o.1 (.inr r.o.2)).cell 1,(k _ _ _ r.o.1 (.inr r.o.2)).cell 2,(k _ _ _ r.o.1 (.inr r.o.2)).cell 3,(k _ _ _ r.o.1 (.inr r.o.2)).cell 4,(k _ _ _ r.o.1 (.inr r.o.2)).cell 5,(k _ _ _ ar.o.1 (.inr ar.o.2)).cell 0,(k _ _ _ ar.o.1 (.inr ar.o.2)).cell 1⟩);have L:=y _ (p.k0 (.refl _ _));have s2:=y _ (p.k0 a);(have s3:=λo=>y _ (p.k0 (.al (.refl _ _) o)));have hb:=p.base a;have ad:=(p.own a);have F:=O p;have H:=O a;obtain⟨az,ae,af,ag,ah⟩:=qV Q0;go_wp2
    go_region_held3 (λW=>N W (B+9) 9 (.map (some (B+7)))/\N W C 0 f.kind/\N W C 1 (d_ f.A)/\N W C 2 (d_ f.B)/\N W C 3 (d_ f.R)/\N W C 4 f.lo/\N W C 5 f.hi/\N W aJ 0 (d_ f.A)/\N W aJ 1 (d_ f.R))
     (first|with_reducible exact L|with_reducible exact s5|with_reducible exact s4|with_reducible exact s2|with_reducible exact s3 _|exact L|exact s3 _|exact s2)
     (first|(refine gX _ kg rfl (.tmp 110) (.tmp 112) 81 rfl B 148 az (.agg (vF ⟨0,[],[],[],0,0⟩)) 6 72 underlying81 ae af ag ah rfl D _ _ _ rfl ad _ _ [f] qG rfl (aE) (λx _ u aA=>Am x u aA) ?c1 ?c2 hb ?_;(case c1=>(simp only[m_,zC];omega));(case c2=>(simp only[zC];omega));intro v4 ap an I am;have T:=(F.o.k4 H.o I);have s4:=y _ T;obtain⟨w5,ai,aj,aa⟩:=aI.o ap v4 (F.o.map H.o I);have aF:(Instr.entryStore 222 (.map (some (B+7))) (.int .i64 st) v4).run prog ap=.ok () w5:=ai;have s5:=y _ (F.o.k5 T aa);have R:=(F.o.step H.o an I am aa);have ak:=O aj;clear an I am ai aj aa T)|fail)
    all_goals clear L s2 s3 aL y ad F H hb ay ae af ag ah aI aE;(try clear s4);(try clear s5);(try clear aF);have t:=R.to (d.o.e.xb 7 D);replace r:=O (r.o.to t);replace ar:=O (ar.o.to t);replace ac:=O (ac.o.trans t);replace d:=O (d.o.step D (by intro e;cases e) R (d.o.e.ab8 ⟨f.A,f.R⟩ f R ak.o));go_wp2;go_end0;refine⟨rfl,_,?_,ac.o⟩;(have aZ:f∈s1.fm:=by have:=aV.o;simpa using this);unfold Eo;rw[u_ (by rw[au.o];decide),u_ (by rw[au.o];decide),A_ aZ];exact d.o.ghost (s1.ix++[f])
end Go.Proofs.YtjmbkfjklemmpaaGreatDoor
