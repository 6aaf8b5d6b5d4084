import Derived.Test.YtgoapenfbanhaaaGreatDoorJ04
import Derived.Test.YtgoapenfbanhaaaGreatDoorJ31
import Derived.Test.YtgoapenfbanhaaaGreatDoorJ32
set_option linter.all false
set_option maxRecDepth 100000
set_option maxHeartbeats 32000000
open List renaming length->l_
open Go.Maps Go.RowKit Go.Proofs.Tryz
open Go renaming Value->V_,maxLen->m_
namespace Go.Proofs.YtgoapenfbanhaaaGreatDoor
variable{s:ES}{f:Fc}{P:List Pc}{k most:Nat}{x:Pc}
def EB(s:ES)(f c:Fc):Prop:=t_ f.B iR∈s.D/\c=t_ f.A iR
def Oi:oU 216 2 EB:=by
 (refine lJ λP most B X v w vf s f a o am ar U an L l C E z V aj au j ax=>?_);unfold vF d_;go_in;go_wp2;have⟨x,g⟩:=e_ (t_ f.B iR);have⟨c1,b⟩:=e_ (decide (x∈s.D));have t:=O g;(have R:∀W,Y 150 #[f.B,.string ⟨#[33]⟩] W (.agg (mH x)):=λW=>by rw[<-t.o];exact mg (f.B) iR W);(have S:∀W,G a W->(Instr.lookup 221 (.map (some (B+1))) (.agg (mH x)) false).run prog W=.ok (.bool c1) W:=λW i=>mQ ((l.o.up i).e.e.m.kn.toF) (by rw[<-t.o];exact(UJ an.o.b D).ok) b);have k:N a (B+9) 2 (.map (some (B+1)))/\N a o 2 f.B:=⟨l.o.e.e.blk.cell 2,l.o.cell (C.o.cell 2) E.o⟩;(have p:Hid (∀W,G a W->N W (B+9) 2 (.map (some (B+1)))/\N W o 2 f.B):=O λW i=>⟨(l.o.up i).e.e.blk.cell 2,(l.o.up i).cell (C.o.cell 2) E.o⟩);have d:Hid (G a a.drew):=O (fu _ _).drew;go_wp2
 go_region_held3 (λW=>N W (B+9) 2 (.map (some (B+1)))/\N W o 2 f.B)
  (first|with_reducible exact k|with_reducible exact M|exact k)
  (first|(go_at_call 150;refine(R _).mono ?_;rintro e J ⟨rfl,n⟩;have u:=(d.o.trans (n.mono d.o.size));have M:=p.o _ u;have ap:=S _ u;clear n)|fail)
 all_goals
  have q:=(l.o.up u)
  cases c1
  .have y:=q.base L.o;go_wp2;go_end0;refine⟨rfl,_,_,y.weak λc h=>?_⟩;have j:=b;rw[<-t.o]at j;exact absurd h.1 (Q j)
  .have⟨F,g⟩:=e_ (t_ (f.A) iR)
   (have hd:kC P F:=by rw[<-g];have j:=b;rw[<-t.o]at j;have ak:=aj.o.Ej _ (Q j);have H:=z.o;rw[LZ z.o V.o]at H;exact .none H ak);(have T:Hid (∀W,Y 150 #[f.A,.string ⟨#[33]⟩] W (.agg (mH F))):=O λW=>g ▸ mg (f.A) iR W);(have Z:=O λW i=>q.emit U.o j hd (λh=>by rw[<-g]at h;cases h) (W:=W) i);(have r:Hid (∀W A I Q',ER P most B X v a vf s W A I Q'->N W (B+9) 3 (oQ v)/\F6 W o f):=O λW A I Q' K=>⟨K.e.e.blk.cell 3,fA (K.blk C.o E.o)⟩);have k:=r.o _ _ _ _ q;(have p:=O λW i=>r.o W _ _ _ (q.up i));have d:Hid (G J J.drew):=O (fu _ _).drew;have al:=O g;go_wp2
   go_region_held3 (λW=>N W (B+9) 3 (oQ v)/\F6 W o f)
    (first|with_reducible exact k|with_reducible exact s4|with_reducible exact s2|exact k)
    (first|(go_at_call 142;refine(Z.o _ ao).mono ?_;rintro e av ⟨rfl,ay,aw,m,_⟩;have s4:=r.o _ _ _ _ m)|(go_at_call 150;refine(T.o _).mono ?_;rintro e aq ⟨rfl,n⟩;have s2:=p.o _ (d.o.trans (n.mono d.o.size));have ao:=(d.o.trans (n.mono d.o.size));clear n)|fail)
   all_goals clear k p r Z T d;(try clear s4);(try clear s2);have y:=m.base L.o;go_wp2;go_end0;refine⟨rfl,_,_,y.weak λc h=> .inr ?_⟩;rw[<-al.o];exact h.2
def abd(s:ES)(f c:Fc):Prop:=∃x∈jC s.pu ⟨2,[],f.B⟩,t_ f.A x.A∈s.D/\t_ f.A x.B∈s.D/\c=t_ f.A x.C
def acZ:oU 208 1 abd:=by
 (refine lJ λP most B X n w vf s f al D bi bC am ay bj ag aW aJ bF bu bv bD y bG=>?_);unfold vF d_;go_in;go_wp2;have⟨p,bw,bH,hl,hv,bk,a7,br⟩:=ag.o.lkP ⟨2,[],f.B⟩ ⟨(show(Lit.int .i64 2).wf=true by decide),by simp[m_],gY ay.o.b (by simp[m_])⟩ (.agg #[V 2,x_,f.B]) rfl;simp only[m_]at br;have⟨a8,b1,b2,b3,a',ba⟩:=fA (ag.o.blk aW.o aJ.o);go_quiet (fail);have ah:ER P most B X n al vf s (al.drewN nq) vf s (λ_=>False):=(ag.o.drewN nq);generalize al.drewN nq=a at *;have⟨E,bl⟩:∃q,q=vf:=⟨_,rfl⟩;have⟨S,bb⟩:∃q,q=s:=⟨_,rfl⟩;subst bl bb;have aX:=(ah.blk aW.o aJ.o);have aY:=aJ;have aM:ER P most B X n a E S a E S (λ_=>False):=(ER.refl ah.e ah.t.inv);go_wp2;go_loopw [15] (λi wr=>∃(k:Nat)(bm:Slot->V_)(s1:ES),k<=l_ p/\i=.int .i64 (k:Int)/\Hid (ER P most B X n a E S wr bm s1 (λc=>∃x∈p.take k,t_ f.A x.A∈S.D/\t_ f.A x.B∈S.D/\c=t_ f.A x.C))) (λi _=>l_ p-(intOf i).toNat);exact⟨0,E,S,gZ _,rfl,O (aM.weak λc h=>by simp at h)⟩;obtain⟨o,A,H,bx,rfl,an⟩:=hrel;by_cases bn:o<l_ p
 .have⟨x,v⟩:=g_ bn
  obtain⟨b,bE,d,J,rfl,hb,bo,aV,l,aK,aL,az,aN,a0,a1,a2,a3,a4,a5,bc,bd,be,a9⟩:=an.o.JX aM am.o ⟨2,[],f.B⟩ hl hv v;have r1:0<=(o:Int):=U;have bz:(o:Int)<l_ p:=U;have aA:=O v;have aZ:=(l.o.blk aX aY.o);have a6:¬Yb X A D:=(l.o.k.nx aX.lt aY.o);have K:ER P most B X n d A H d A H (λ_=>False):=(ER.refl l.o.e l.o.t.inv);go_wp2;(all_goals clear bo a0 a1 a2 a3 a4 a5 bc bd be a9;(try rw[aV]);clear aV);have⟨ao,g⟩:=e_ (t_ f.A x.A);have⟨c1,hc⟩:=e_ (decide (ao∈H.D));have aj:=O g;have aH:=O hc;have⟨ap,g⟩:=e_ (t_ f.A x.B);have⟨c2,hc⟩:=e_ (decide (ap∈H.D));have ak:=O g;have aI:=O hc;(have aq:∀s:Later d,N s.at (B+9) 2 (.map (some (B+1))):=λs=>(K.up s.below).e.e.blk.cell 2);(have ar:∀s:Later d,N s.at D 1 f.A:=λs=>(K.up s.below).cell (aZ.cell 1) a6);(have au:∀s:Later d,N s.at J 1 x.A:=λs=>(K.up s.below).cell (aK.o.cell 1) aL.o);(have av:∀s:Later d,N s.at J 2 x.B:=λs=>(K.up s.below).cell (aK.o.cell 2) aL.o);(have r:∀s:Later d,z 150 #[f.A,x.A] s.at λe aB=>e=.returned (.agg (mH ao))/\∃L:Later d,aB=L.at:=λs=>by rw[<-aj.o];exact Dn s _ _);(have aC:∀s:Later d,(Instr.lookup 221 (.map (some (B+1))) (.agg (mH ao)) false).run prog s.at=.ok (.bool c1) s.at:=λs=>mQ ((K.up s.below).e.e.m.kn.toF) (by rw[<-aj.o];exact(UJ ay.o.a aN.o.a).ok) aH.o);(have u:∀s:Later d,z 150 #[f.A,x.B] s.at λe aB=>e=.returned (.agg (mH ap))/\∃L:Later d,aB=L.at:=λs=>by rw[<-ak.o];exact Dn s _ _);(have aD:∀s:Later d,(Instr.lookup 221 (.map (some (B+1))) (.agg (mH ap)) false).run prog s.at=.ok (.bool c2) s.at:=λs=>mQ ((K.up s.below).e.e.m.kn.toF) (by rw[<-ak.o];exact(UJ ay.o.a aN.o.b).ok) aI.o);cases c1
  .go_wp2
   refine iy k_ k_ ?_;(repeat (first|go_big_quiet_step (first|with_reducible exact r _|with_reducible exact u _)|quiet_step (first|with_reducible exact r _|with_reducible exact u _)));refine wpQuiet_nil ?_;rintro _ ⟨j,rfl⟩;have I:G d j.at:=j.below;generalize j.at=T at *
   have m:Hid (ER P most B X n a E S T A H (λc=>∃x∈p.take (o+1),t_ f.A x.A∈S.D/\t_ f.A x.B∈S.D/\c=t_ f.A x.C)):=O ((l.o.up I).weak λc h=>by
    rcases kP (C:=λx c=>t_ f.A x.A∈S.D/\t_ f.A x.B∈S.D/\c=t_ f.A x.C) aA.o h with h|h;.exact h
    .have y:=aH.o
     rw[<-aj.o]at y
     exact absurd (l.o.t.mem h.1) (Q y))
   go_wp2;go_roundw;exact⟨o+1,_,_,U,R,m⟩;exact M
  .cases c2
   .go_wp2
    refine iy k_ k_ ?_;(repeat (first|go_big_quiet_step (first|with_reducible exact r _|with_reducible exact u _)|quiet_step (first|with_reducible exact r _|with_reducible exact u _)));refine wpQuiet_nil ?_;rintro _ ⟨j,rfl⟩;have I:G d j.at:=j.below;generalize j.at=T at *
    have m:Hid (ER P most B X n a E S T A H (λc=>∃x∈p.take (o+1),t_ f.A x.A∈S.D/\t_ f.A x.B∈S.D/\c=t_ f.A x.C)):=O ((l.o.up I).weak λc h=>by
     rcases kP (C:=λx c=>t_ f.A x.A∈S.D/\t_ f.A x.B∈S.D/\c=t_ f.A x.C) aA.o h with h|h;.exact h
     .have y:=aI.o
      rw[<-ak.o]at y
      exact absurd (l.o.t.mem h.2.1) (Q y))
    go_wp2;go_roundw;exact⟨o+1,_,_,U,R,m⟩;exact M
   .go_wp2
    refine iy k_ k_ ?_;(repeat (first|go_big_quiet_step (first|with_reducible exact r _|with_reducible exact u _)|quiet_step (first|with_reducible exact r _|with_reducible exact u _)));refine wpQuiet_nil ?_;rintro _ ⟨j,rfl⟩;have I:G d j.at:=j.below;generalize j.at=T at *;have aE:=(K.up I);have⟨F,g⟩:=e_ (t_ (f.A) (x.C));(have hd:kC P F:=by rw[<-g];have v:=(agw (am.o.can _ az.o.1) az.o.2).1;have Z:=az.o.1;rw[v]at Z;have aO:=aH.o;have aP:=aI.o;rw[<-aj.o]at aO;rw[<-ak.o]at aP;have bf:=l.o.t.inv.Ej _ (Q aO);have bg:=l.o.t.inv.Ej _ (Q aP);exact .both bf bg Z);(have aQ:Hid (∀W,Y 150 #[f.A,x.C] W (.agg (mH F))):=O λW=>g ▸ mg (f.A) (x.C) W);(have aR:=O λW aw=>aE.emit am.o y hd (λh=>by rw[<-g]at h;cases h) (W:=W) aw);(have ai:Hid (∀W aS L Q',ER P most B X n d A H W aS L Q'->N W (B+9) 3 (oQ n)/\F6 W D f/\OG W J x):=O λW aS L Q' Z=>⟨Z.e.e.blk.cell 3,fA (Z.blk aZ a6),iJ (Z.blk aK.o aL.o)⟩);have ax:=ai.o _ _ _ _ aE;(have aT:=O λW aw=>ai.o W _ _ _ (aE.up aw));have t:Hid (G T T.drew):=O (fu _ _).drew;have bh:=O g;go_wp2
    go_region_held3 (λW=>N W (B+9) 3 (oQ n)/\F6 W D f/\OG W J x)
     (first|with_reducible exact ax|with_reducible exact s4|with_reducible exact s2|exact ax)
     (first|(go_at_call 142;refine(aR.o _ aU).mono ?_;rintro e bp ⟨rfl,bs,bq,aF,_⟩;have s4:=ai.o _ _ _ _ aF)|(go_at_call 150;refine(aQ.o _).mono ?_;rintro e bB ⟨rfl,aG⟩;have s2:=aT.o _ (t.o.trans (aG.mono t.o.size));have aU:=(t.o.trans (aG.mono t.o.size));clear aG)|fail)
    all_goals
     have m:Hid (ER P most B X n a E S bp bs bq (λc=>∃x∈p.take (o+1),t_ f.A x.A∈S.D/\t_ f.A x.B∈S.D/\c=t_ f.A x.C)):=O ((l.o.trans aF).weak λc h=>by
      rcases kP (C:=λx c=>t_ f.A x.A∈S.D/\t_ f.A x.B∈S.D/\c=t_ f.A x.C) aA.o h with h|h;.exact .inl h
      .exact .inr (.inr (by rw[<-bh.o];exact h.2.2)))
     go_wp2
     go_roundw
     exact⟨o+1,_,_,U,R,m⟩
     exact M
 ·(obtain rfl:o=l_ p:=by omega);have bt:=(ah.trans an.o).base bj.o;go_wp2;go_end0;refine⟨rfl,_,_,bt.weak λc h=>?_⟩;obtain⟨x,v,h⟩:=h;rw[hl]at v;exact .inr ⟨x,by rw[jy];exact v,h⟩
def adO(s:ES)(f c:Fc):Prop:=∃x∈jC s.pu ⟨9,f.R,[]⟩,x.lo<=f.lo/\f.hi<=x.hi/\c=t_ f.A x.C
def aeV:oU 218 3 adO:=by
 (refine lJ λP most B X d w vf s f z D a7 bt m am a8 H aL av au aw bk bu aS bw=>?_);unfold vF d_;go_in;go_wp2;have⟨g,bl,bx,hl,hv,a',aT,bh⟩:=H.o.lkP ⟨9,f.R,[]⟩ ⟨(show(Lit.int .i64 9).wf=true by decide),gY am.o.r (by simp[m_]),by simp[m_]⟩ (.agg #[V 9,f.R,x_]) rfl;simp only[m_]at bh;have az:=O hl;have ba:=O hv;have⟨ad,b1,b2,b3,ae,af⟩:=fA (H.o.blk aL.o av.o);go_quiet (fail);have I:Hid (ER P most B X d z vf s (z.drewN nq) vf s (λ_=>False)):=O (H.o.drewN nq);generalize z.drewN nq=v at *;have⟨n,bb⟩:∃q,q=vf:=⟨_,rfl⟩;have⟨r,aU⟩:∃q,q=s:=⟨_,rfl⟩;subst bb aU;have aM:=O (I.o.blk aL.o av.o);have aN:=av;have aA:Hid (ER P most B X d v n r v n r (λ_=>False)):=O (ER.refl I.o.e I.o.t.inv);go_wp2;go_loopw [15] (λi wr=>∃(k:Nat)(bc:Slot->V_)(s1:ES),k<=l_ g/\i=.int .i64 (k:Int)/\Hid (ER P most B X d v n r wr bc s1 (λc=>∃x∈g.take k,x.lo<=f.lo/\f.hi<=x.hi/\c=t_ f.A x.C))) (λi _=>l_ g-(intOf i).toNat);exact⟨0,n,r,gZ _,rfl,O (aA.o.weak λc h=>by simp at h)⟩;obtain⟨j,E,K,bm,rfl,ag⟩:=hrel;by_cases bd:j<l_ g
 .have⟨x,a⟩:=g_ bd
  obtain⟨b,bv,an,ax,rfl,hb,be,aK,o,aO,aP,p,aB,a0,a1,a2,a3,a4,a5,aV,aW,aX,a9⟩:=ag.o.JX aA.o m.o ⟨9,f.R,[]⟩ az.o ba.o a;have r1:0<=(j:Int):=U;have bn:(j:Int)<l_ g:=U;have aC:=O a;have aQ:=O (o.o.blk aM.o aN.o);have aR:Hid (¬Yb X E D):=O (o.o.k.nx aM.o.lt aN.o);have A:Hid (ER P most B X d an E K an E K (λ_=>False)):=O (ER.refl o.o.e o.o.t.inv);have⟨tb,ao⟩:∃t,AZ (f.lo,f.hi) (x.lo,x.hi)=t:=⟨_,rfl⟩
  have aD:Hid (tb=true↔(x.lo<=f.lo/\f.hi<=x.hi)):=O (by
   have l:=am.o.lo;have J:=am.o.hi;have bo:=aB.o.lo;have bp:=aB.o.hi;have bq:=aei m.o au.o aw.o;have a:=adK (m.o.can _ p.o.1) p.o.2;have br:=m.o.rng _ p.o.1 (.inr (by rw[a];rfl));(have aY:SE (f.lo,f.hi)=0:=by unfold SE;rw[C_ (by simp only[];omega),C_ (by simp only[];omega)]);(have aZ:SE (x.lo,x.hi)=0:=by unfold SE;rw[C_ (by simp only[];omega),C_ (by simp only[];omega)]);rw[<-ao];unfold AZ;rw[SH,aY,aZ]
   simp)
  (have ap:Hid (∀W,Y 264 #[.agg #[f.lo,f.hi],.agg #[x.lo,x.hi]] W tb):=O λW=>by rw[<-ao];exact MQ (f.lo,f.hi) (x.lo,x.hi) W);have⟨ad,b1,b2,b3,ae,af⟩:=fA (A.o.blk aQ.o aR.o);have⟨c0,c1,c2,c3,c4,c5,c6,c7,c8,c9⟩:=iJ (A.o.blk aO.o aP.o);cases tb;(all_goals go_wp2_with (go_at_call 264;refine(ap.o _).mono ?_;rintro e Q ⟨rfl,aE⟩;have L:=O aE;clear aE ad b1 b2 b3 ae af c0 c1 c2 c3 c4 c5 c6 c7 c8 c9));all_goals clear be a0 a1 a2 a3 a4 a5 aV aW aX a9;(try rw[aK]);clear aK
  .have T:=O (A.o.up L.o)
   have aj:Hid (ER P most B X d v n r Q E K (λc=>∃x∈g.take (j+1),x.lo<=f.lo/\f.hi<=x.hi/\c=t_ f.A x.C)):=O ((o.o.up L.o).weak λc h=>by
    rcases kP (C:=λx c=>x.lo<=f.lo/\f.hi<=x.hi/\c=t_ f.A x.C) aC.o h with h|h;.exact h
    .exact absurd (aD.o.2 ⟨h.1,h.2.1⟩) S)
   go_wp2;go_roundw;exact⟨j+1,_,_,U,R,aj⟩;exact M
  .have T:=O (A.o.up L.o)
   have⟨F,u⟩:=e_ (t_ (f.A) (x.C));(have hd:kC P F:=by rw[<-u];have a:=adK (m.o.can _ p.o.1) p.o.2;have l:=p.o.1;rw[a]at l;have J:=au.o;rw[Io au.o aw.o]at J;have hw:=aD.o.1 (by first|rfl|trivial);exact .out J l hw.1 hw.2);(have aF:Hid (∀W,Y 150 #[f.A,x.C] W (.agg (mH F))):=O λW=>u ▸ mg (f.A) (x.C) W);(have aG:=O λW ak=>T.o.emit m.o aS hd (λh=>by rw[<-u]at h;cases h) (W:=W) ak);(have Z:Hid (∀W aH ay Q',ER P most B X d an E K W aH ay Q'->N W (B+9) 3 (oQ d)/\F6 W D f/\OG W ax x):=O λW aH ay Q' l=>⟨l.e.e.blk.cell 3,fA (l.blk aQ.o aR.o),iJ (l.blk aO.o aP.o)⟩);have al:=Z.o _ _ _ _ T.o;(have aI:=O λW ak=>Z.o W _ _ _ (T.o.up ak));have y:Hid (G Q Q.drew):=O (fu _ _).drew;have a6:=O u;go_wp2
   go_region_held3 (λW=>N W (B+9) 3 (oQ d)/\F6 W D f/\OG W ax x)
    (first|with_reducible exact al|with_reducible exact s4|with_reducible exact s2|exact al)
    (first|(go_at_call 142;refine(aG.o _ aJ.o).mono ?_;rintro e bf ⟨rfl,bi,bg,aq,_⟩;have s4:=Z.o _ _ _ _ aq)|(go_at_call 150;refine(aF.o _).mono ?_;rintro e bs ⟨rfl,ar⟩;have s2:=aI.o _ (y.o.trans (ar.mono y.o.size));have aJ:=O (y.o.trans (ar.mono y.o.size));clear ar)|fail)
   all_goals
    have aj:Hid (ER P most B X d v n r bf bi bg (λc=>∃x∈g.take (j+1),x.lo<=f.lo/\f.hi<=x.hi/\c=t_ f.A x.C)):=O ((o.o.trans aq).weak λc h=>by
     rcases kP (C:=λx c=>x.lo<=f.lo/\f.hi<=x.hi/\c=t_ f.A x.C) aC.o h with h|h;.exact .inl h
     .exact .inr (.inr (by rw[<-a6.o];exact h.2.2)))
    go_wp2
    go_roundw
    exact⟨j+1,_,_,U,R,aj⟩
    exact M
 ·(obtain rfl:j=l_ g:=by omega);have bj:=(I.o.trans ag.o).base a8.o;go_wp2;go_end0;refine⟨rfl,_,_,bj.weak λc h=>?_⟩;obtain⟨x,a,h⟩:=h;rw[az.o]at a;exact .inr ⟨x,by rw[jy];exact a,h⟩
def agH(P:List Pc)(most B:Nat)(X:Nat->Prop)(d:Nat)(w:World)(vf:Slot->V_)(s:ES)(f:Fc)(a9:lK w B X most d vf s)(aF:Inv P most s)(a':wR P)(bE:most<=1000000)(cs:l_ s.fm<=1000000)(hf:f∈s.ix)(ba:f.K=3)(bI:f∈s.fm):z 217 #[.pointer (a_ (B+9) 0),.agg (vF f)] w (NY P most B X d w vf s (λc=>(∃x∈jC s.ra ⟨f.A,f.R⟩,max f.lo x.lo<=min f.hi x.hi/\c=fG f.A f.R (max f.lo x.lo) (min f.hi x.hi))\/((∃x∈jC s.ra ⟨f.A,f.R⟩,min f.hi x.hi<max f.lo x.lo)/\c=t_ f.A iR))):=by
 unfold vF d_;have bv:=aF.Ej f (aF.Dl f hf);have bJ:=tQ a' bv;have⟨af,bd⟩:=e_ (w.alloc (.cells (vF f) 152));(have be:G w af:=by rw[<-bd];exact X_ (fu _ _) _);have bf:¬Yb X vf w.heap.size:=a9.e.fresh (gH _);have⟨aj,bK⟩:=e_ w.heap.size;(have bL:f_ af aj 152 (vF f):=by rw[<-bd,<-bK];exact f_.new _ _ _);rw[bK]at bf;have cU:l_ s.fm<=1000000:=cs;have bF:=O a';have bg:=O bJ;have bM:=O be;have bN:Hid (ER P most B X d af vf s af vf s (λ_=>False)):=O (ER.refl (a9.up be) aF);have bC:=O bL;have bD:=O bf;have aU:=O bv;have bb:=O ba;have cN:=O aF;have ct:=O hf;clear a9 aF a' hf ba bv bJ be bf bL;go_in;have⟨ak,b1,b2,b3,al,am⟩:=fA bC.o;have⟨A,bh⟩:∃q,af.alloc (.cells #[f.A,f.R] 284)=q:=⟨_,rfl⟩;have⟨aG,bO⟩:=e_ af.heap.size;have bP:=O bI;clear bI;go_wp2;clear bd ak b1 b2 b3 al am;(have az:G af A:=by rw[<-bh];exact bA);(have bQ:f_ A aG 284 #[f.A,f.R]:=by rw[<-bh,<-bO];exact f_.new _ _ _);have aK:=O (bN.o.up az);have aA:=O bQ;clear az bQ bh bO bN;have b6:okS ⟨f.A,f.R⟩:=⟨gY bg.o.a (by simp[m_]),gY bg.o.r (by simp[m_])⟩;have aH:N A (B+9) 9 (.map (some (B+7))):=aK.o.e.e.blk.cell 9;have a0:N A aG 0 f.A:=aA.o.cell 0;have a1:N A aG 1 f.R:=aA.o.cell 1;have⟨ce,cI,bi,_⟩:=(aK.o.fis ⟨f.A,f.R⟩).form;(have aL:∀nq,(Instr.lookup 225 (.map (some (B+7))) (.agg #[f.A,f.R]) false).run prog (A.drewN nq)=.ok (.slice ce (l_ (jC s.fi ⟨f.A,f.R⟩)) cI) (A.drewN nq):=λnq=>by have:=(aK.o.drewN nq).e.e.adH ⟨f.A,f.R⟩ b6;rw[bi]at this;exact this);have cR:=O bi;clear bi;go_quiet (fail);clear aL aH a0 a1;have aM:=O (aK.o.drewN nq);have bR:=O (aA.o.drewN nq);clear aK aA;generalize A.drewN nq=aV at *;go_wp2;have aH:N aV (B+9) 10 (.map (some (B+8))):=aM.o.e.e.blk.cell 10;have⟨ak,b1,b2,b3,al,am⟩:=fA (aM.o.blk bC.o bD.o);(have aL:∀nq,(Instr.lookup 221 (.map (some (B+8))) (.agg #[f.K,f.A,f.B,f.R,f.lo,f.hi]) false).run prog (aV.drewN nq)=.ok (.bool true) (aV.drewN nq):=λnq=>mQ ((aM.o.drewN nq).e.e.m.mz) bg.o.ok (y7 bP.o));go_quiet (fail);clear aL aH ak b1 b2 b3 al am;have aN:=O (aM.o.drewN nq);have bj:=O (bR.o.drewN nq);clear aM bR;generalize aV.drewN nq=ax at *;go_wp2;have aH:N ax (B+9) 8 (.map (some (B+6))):=aN.o.e.e.blk.cell 8;have a0:N ax aG 0 f.A:=bj.o.cell 0;have a1:N ax aG 1 f.R:=bj.o.cell 1;have⟨p,hl⟩:∃l,jC s.ra ⟨f.A,f.R⟩=l:=⟨_,rfl⟩;have av:=aN.o.ras ⟨f.A,f.R⟩;rw[hl]at av;have⟨cf,cJ,hv,b7,b8,_⟩:=av.form;(have aL:∀nq,(Instr.lookup 225 (.map (some (B+6))) (.agg #[f.A,f.R]) false).run prog (ax.drewN nq)=.ok (.slice cf (l_ p) cJ) (ax.drewN nq):=λnq=>by have:=(aN.o.drewN nq).e.e.agq ⟨f.A,f.R⟩ b6;rw[hv]at this;exact this);have cK:=gY b7 b8;simp only[m_]at cK;have aB:=O hl;have cu:=O hv;clear av hl hv b7 b8;go_quiet (fail);clear aL aH a0 a1;have aO:=O (aN.o.drewN nq);clear aN bj;generalize ax.drewN nq=ap at *;have⟨V,cv⟩:∃q,q=vf:=⟨_,rfl⟩;have⟨a,cg⟩:∃q,q=s:=⟨_,rfl⟩;subst cv cg;have cb:=O (aO.o.blk bC.o bD.o);have cc:=bD;have K:Hid (ER P most B X d ap V a ap V a (λ_=>False)):=O (ER.refl aO.o.e aO.o.t.inv);(have cS:prog.eqGuardType prog.depth 152=false:=by kernel_rfl);go_wp2;go_loopw [6,37] (λch i wr=>∃(k:Nat)(cw:Slot->V_)(s1:ES)(an:Bool),k<=l_ p/\i=.int .i64 (k:Int)/\ch=.bool an/\Hid (an=true↔∃x∈p.take k,min f.hi x.hi<max f.lo x.lo)/\Hid (ER P most B X d ap V a wr cw s1 (λc=>∃x∈p.take k,max f.lo x.lo<=min f.hi x.hi/\c=fG f.A f.R (max f.lo x.lo) (min f.hi x.hi)))) (λ_ i _=>l_ p-(intOf i).toNat);exact⟨0,V,a,false,gZ _,rfl,rfl,O S,O (K.o.weak λc h=>by simp at h)⟩;obtain⟨u,Z,v,an,ba,rfl,rfl,aP,Q⟩:=hrel;by_cases bl:u<l_ p
 .have⟨x,o⟩:=g_ bl
  have av:=Q.o.ras ⟨f.A,f.R⟩;rw[aB.o,cu.o]at av;obtain⟨b,cT,rfl,hb,a0,a1,a2,a3,a4,a5⟩:=aa1 av o;have r1:0<=(u:Int):=U;have cO:(u:Int)<l_ p:=U;have aC:=O o;clear av o;have⟨m,bm⟩:=e_ (wr.alloc (.cells (vF x) 152));(have bn:f_ m wr 152 (vF x):=by rw[<-bm];exact f_.new _ _ _);(have bS:G wr m:=by rw[<-bm];exact bA);have bT:¬Yb X Z wr.heap.size:=Q.o.e.e.fresh (gH _);have aQ:=O (Q.o.up bS);have⟨aW,bw⟩:=e_ wr.heap.size;rw[bw]at bn bT;have a7:=O bn;(have bU:x∈jC a.ra ⟨f.A,f.R⟩:=by rw[aB.o];exact gV aC.o);have aR:=(K.o.t.inv.ra ⟨f.A,f.R⟩ x).1 (jN.1 bU);have aY:=O aR;clear bn bS bT bU aR Q;have a8:=O (aQ.o.blk cb.o cc.o);have b9:Hid (ER P most B X d m Z v m Z v (λ_=>False)):=O (ER.refl aQ.o.e aQ.o.t.inv);go_wp2;clear bm a0 a1 a2 a3 a4 a5;(try rw[bw]);clear bw;have⟨aq,bx⟩:=e_ (max f.lo x.lo);have⟨ar,bz⟩:=e_ (min f.hi x.hi);(have cx:∀W,(Builtin.max_ #[3,3] 3 #[f.lo,x.lo]).run prog W=.ok (.int .i64 aq) W:=λW=>by rw[<-bx];exact V7 _ _ W);(have cy:∀W,(Builtin.min_ #[3,3] 3 #[f.hi,x.hi]).run prog W=.ok (.int .i64 ar) W:=λW=>by rw[<-bz];exact NZ _ _ W);have D:=O bx;have J:=O bz;clear bx bz;have E:N m aj 4 f.lo/\N m aj 5 f.hi/\N m aW 4 x.lo/\N m aW 5 x.hi:=⟨a8.o.cell 4,a8.o.cell 5,a7.o.cell 4,a7.o.cell 5⟩
  go_region_held3 (λW=>N W aj 4 f.lo/\N W aj 5 f.hi/\N W aW 4 x.lo/\N W aW 5 x.hi)
   (first|with_reducible exact E|exact E)
   (first|fail)
  all_goals
   clear E cx cy
   have aS:=O (aQ.o.up (fu _ _).drew)
   have cz:=O (b9.o.up (fu _ _).drew)
   have cd:=O (a8.o.drew)
   have cL:=O (a7.o.drew)
   clear aQ b9 a8 a7
   generalize m.drew=bc at *
   by_cases aD:ar<aq
   .have hd:decide (ar<aq)=true:=y7 aD
    have aZ:Hid (true=true↔∃x∈p.take (u+1),min f.hi x.hi<max f.lo x.lo):=O ⟨λ_=>⟨x,gV (i:=u) (by rw[YW,P_ U];exact aC.o),by rw[D.o,J.o];exact aD⟩,λ_=>rfl⟩
    have aI:Hid (ER P most B X d ap V a bc Z v (λc=>∃x∈p.take (u+1),max f.lo x.lo<=min f.hi x.hi/\c=fG f.A f.R (max f.lo x.lo) (min f.hi x.hi))):=O (aS.o.weak λc h=>by
     rcases kP (C:=λx c=>max f.lo x.lo<=min f.hi x.hi/\c=fG f.A f.R (max f.lo x.lo) (min f.hi x.hi)) aC.o h with h|h;.exact h
     .exact absurd h.1 (by rw[D.o,J.o];omega))
    clear aD;go_wp2;go_roundw;exact⟨u+1,_,_,true,U,R,rfl,aZ,aI⟩;exact M
   .have hd:decide (ar<aq)=false:=sj aD
    have aZ:Hid (an=true↔∃x∈p.take (u+1),min f.hi x.hi<max f.lo x.lo):=O (by
     rw[aP.o];constructor;.rintro⟨y,ci,h⟩;exact⟨y,id_ p U ci,h⟩
     .intro h
      rcases kP (C:=λx (_:Fc)=>min f.hi x.hi<max f.lo x.lo) aC.o (c:=f) h with h|h;.exact h
      .rw[D.o,J.o]at h;exact absurd h aD)
    have⟨F,H⟩:=e_ (fG f.A f.R aq ar);have bo:Hid (x=fG f.A f.R x.lo x.hi):=O aY.o.2
    have cj:Hid (kC P F):=O (by
     have ao:=aU.o;rw[Io aU.o bb.o]at ao;have L:=K.o.t.inv.Ej _ (K.o.t.inv.Dl _ aY.o.1);rw[bo.o]at L;rw[<-H,<-D.o,<-J.o]
     exact .meet ao L (by rw[D.o,J.o];omega))
    have cA:Hid (qG (·∈v.fm) F.A F.R F.lo F.hi):=O (by
     (have up:∀g,g∈a.fm->g∈v.fm:=λg ck=>by obtain⟨t,e⟩:=aS.o.t.fm;rw[e];exact Jf _ ck);have cB:=Io aU.o bb.o;rw[<-H,<-D.o,<-J.o];have L:=(K.o.t.inv.is x (K.o.t.inv.Dl _ aY.o.1) (by rw[bo.o];rfl)).mono up;rw[bo.o]at L;(have cl:fG f.A f.R f.lo f.hi∈v.fm:=by rw[<-cB];exact up _ bP.o);have bG:=qG.meet L cl (by have cP:=D.o;have cQ:=J.o;simp only[fG];omega);rw[show max (fG f.A f.R x.lo x.hi).lo f.lo=max f.lo x.lo by simp only[fG];omega,show min (fG f.A f.R x.lo x.hi).hi f.hi=min f.hi x.hi by simp only[fG];omega]at bG
     exact bG)
    (have bV:Hid (∀W,Y 190 #[f.A,f.R,aq,ar] W (.agg (mH F))):=O λW=>by rw[<-H];exact Bo f.A f.R aq ar W);have aX:=O H;have⟨q1,bp⟩:∃t,decide (F=f)=t:=⟨_,rfl⟩;have⟨q2,bq⟩:∃t,decide (F=x)=t:=⟨_,rfl⟩;(have cC:∀W,(Op.equalIn 10000 152 (.agg #[F.K,F.A,F.B,F.R,F.lo,F.hi]) (.agg #[f.K,f.A,f.B,f.R,f.lo,f.hi])).run prog W=.ok q1 W:=λW=>by rw[<-bp];exact Bp W F f);(have cD:∀W,(Op.equalIn 10000 152 (.agg #[F.K,F.A,F.B,F.R,F.lo,F.hi]) (.agg #[x.K,x.A,x.B,x.R,x.lo,x.hi])).run prog W=.ok q2 W:=λW=>by rw[<-bq];exact Bp W F x);have cE:=O bp;have cF:=O bq;clear H aD bp bq aP;have⟨ak,b1,b2,b3,al,am⟩:=fA cd.o;cases q1<;>cases q2;(all_goals go_wp2_with (go_at_call 190;refine(bV.o _).mono ?_;rintro e bH ⟨rfl,bW⟩;have br:=O bW;have⟨n,bs⟩:=e_ (bH.alloc (.cells (mH F) 152));have⟨j,bt⟩:=e_ bH.heap.size;clear bW ak b1 b2 b3 al am;have bu:Hid (G bc n):=O (by rw[<-bs];exact X_ br.o _);have bX:Hid (f_ n j 152 (vF F)):=O (by rw[<-bs,<-bt];exact f_.new _ _ _);have cM:Hid (¬Yb X Z j):=O (by rw[<-bt];exact(cz.o.up br.o).e.e.fresh (gH _));have⟨cm,cn,co,cp,cq,cr⟩:=fA bX.o;have⟨ak,b1,b2,b3,al,am⟩:=fA (bk bu.o cd.o);have⟨c0,c1,c2,c3,c4,c5⟩:=fA (bk bu.o cL.o)));(all_goals (try clear bs);(try clear bt);clear cC cD cm cn co cp cq cr ak b1 b2 b3 al am c0 c1 c2 c3 c4 c5 bV br;have a6:=O (aS.o.up bu.o));rotate_left
    all_goals try
     have bY:F∈v.D:=by first|((have I:F=f:=by have:=cE.o;simpa using this);rw[I];exact aS.o.t.mem (K.o.t.inv.Dl _ ct.o))|((have I:F=x:=by have:=cF.o;simpa using this);rw[I];exact aS.o.t.mem (K.o.t.inv.Dl _ aY.o.1))
     have aI:Hid (ER P most B X d ap V a n Z v (λc=>∃x∈p.take (u+1),max f.lo x.lo<=min f.hi x.hi/\c=fG f.A f.R (max f.lo x.lo) (min f.hi x.hi))):=O ((a6.o.also bY).weak λc h=>by
      rcases kP (C:=λx c=>max f.lo x.lo<=min f.hi x.hi/\c=fG f.A f.R (max f.lo x.lo) (min f.hi x.hi)) aC.o h with h|h;.exact .inl h
      .exact .inr (by rw[h.2,D.o,J.o];exact aX.o))
     clear bY
     go_wp2
     go_roundw
     exact⟨u+1,_,_,an,U,R,rfl,aZ,aI⟩
     exact M
    have b':Hid (ER P most B X d n Z v n Z v (λ_=>False)):=O (ER.refl a6.o.e a6.o.t.inv);have aw:=bX;(have aT:Hid (∀W,G n W->z 142 #[.agg #[F.K,F.A,F.B,F.R,F.lo,F.hi],.pointer d,.pointer (a_ (d+1) 0),.pointer (a_ (d+2) 0)] W λe w'=>e=.returned (.tuple #[])/\∃r T,ER P most B X d n Z v w' r T (λc=>(λ_=>False) c\/c=F)/\l_ T.fm<=l_ v.fm+1):=O λW aJ=>(b'.o.emit bF.o bE cj.o (λ_=>cA.o) aJ).mono λe w' ⟨I,r,T,ao,L⟩=>⟨I,r,T,ao,by rw[L];omega⟩);have E:N n (B+9) 3 (oQ d)/\N n j 0 F.K/\N n j 1 F.A/\N n j 2 F.B/\N n j 3 F.R/\N n j 4 F.lo/\N n j 5 F.hi:=⟨b'.o.e.e.blk.cell 3,aw.o.cell 0,aw.o.cell 1,aw.o.cell 2,aw.o.cell 3,aw.o.cell 4,aw.o.cell 5⟩;(have au:Hid (∀W r T Q',ER P most B X d n Z v W r T Q'->N W (B+9) 3 (oQ d)/\N W j 0 F.K/\N W j 1 F.A/\N W j 2 F.B/\N W j 3 F.R/\N W j 4 F.lo/\N W j 5 F.hi):=O λW r T Q' I=>have ay:f_ W j 152 (vF F):=I.blk aw.o cM.o;⟨I.e.e.blk.cell 3,ay.cell 0,ay.cell 1,ay.cell 2,ay.cell 3,ay.cell 4,ay.cell 5⟩);have ai:Hid (G n n.drew):=O (fu _ _).drew;go_wp2
    go_region_held3 (λW=>N W (B+9) 3 (oQ d)/\N W j 0 F.K/\N W j 1 F.A/\N W j 2 F.B/\N W j 3 F.R/\N W j 4 F.lo/\N W j 5 F.hi)
     (first|with_reducible exact E|with_reducible exact s4|exact E)
     (first|(go_at_call 142;refine(aT.o _ ai.o).mono ?_;rintro e bZ ⟨rfl,ca,b0,aE,cG⟩;have s4:=au.o _ _ _ _ aE)|fail)
    all_goals
     clear E au aT ai
     try clear s4
     have aI:Hid (ER P most B X d ap V a bZ ca b0 (λc=>∃x∈p.take (u+1),max f.lo x.lo<=min f.hi x.hi/\c=fG f.A f.R (max f.lo x.lo) (min f.hi x.hi))):=O ((a6.o.trans aE).weak λc h=>by
      rcases kP (C:=λx c=>max f.lo x.lo<=min f.hi x.hi/\c=fG f.A f.R (max f.lo x.lo) (min f.hi x.hi)) aC.o h with h|h;.exact .inl h
      .exact .inr (.inr (by rw[h.2,D.o,J.o];exact aX.o)))
     clear aE cG
     go_wp2
     go_roundw
     exact⟨u+1,_,_,an,U,R,rfl,aZ,aI⟩
     exact M
 .obtain rfl:u=l_ p:=by omega
  cases an;.have bB:=(aO.o.trans Q.o).base bM.o;go_wp2;go_end0;refine⟨rfl,_,_,bB.weak λc h=>?_⟩;rcases h with⟨x,o,h⟩|⟨⟨x,o,h⟩,_⟩;(.rw[aB.o]at o;exact .inr ⟨x,by rw[jy];exact o,h⟩);.rw[aB.o]at o;have:=aP.o.2 ⟨x,by rw[jy];exact o,h⟩;cases this
  .have cH:Hid (kC P (t_ f.A iR)):=O (by
    have⟨x,o,bl⟩:=aP.o.1 rfl;rw[jy,<-aB.o]at o;have aR:=(K.o.t.inv.ra ⟨f.A,f.R⟩ x).1 (jN.1 o);have ao:=aU.o;rw[Io aU.o bb.o]at ao;have L:=K.o.t.inv.Ej _ (K.o.t.inv.Dl _ aR.1);rw[aR.2]at L
    exact .apart ao L bl)
   clear aP;have⟨F,H⟩:=e_ (t_ (f.A) iR);(have hd:kC P F:=by rw[<-H];exact cH.o);(have b4:Hid (∀W,Y 150 #[f.A,.string ⟨#[33]⟩] W (.agg (mH F))):=O λW=>H ▸ mg (f.A) iR W);(have aT:=O λW aJ=>Q.o.emit bF.o bE hd (λh=>by rw[<-H]at h;cases h) (W:=W) aJ);(have au:Hid (∀W r T Q',ER P most B X d ap V a W r T Q'->N W (B+9) 3 (oQ d)/\F6 W aj f):=O λW r T Q' I=>⟨I.e.e.blk.cell 3,fA (I.blk cb.o cc.o)⟩);have E:=au.o _ _ _ _ Q.o;(have b5:=O λW aJ=>au.o W _ _ _ (Q.o.up aJ));have ai:Hid (G wr wr.drew):=O (fu _ _).drew;have aX:=O H;clear hd H;go_wp2
   go_region_held3 (λW=>N W (B+9) 3 (oQ d)/\F6 W aj f)
    (first|with_reducible exact E|with_reducible exact s4|with_reducible exact s2|exact E)
    (first|(go_at_call 142;refine(aT.o _ aA.o).mono ?_;rintro e bZ ⟨rfl,ca,b0,aE,_⟩;have s4:=au.o _ _ _ _ aE)|(go_at_call 150;refine(b4.o _).mono ?_;rintro e A ⟨rfl,az⟩;have s2:=b5.o _ (ai.o.trans (az.mono ai.o.size));have aA:=O (ai.o.trans (az.mono ai.o.size));clear az)|fail)
   all_goals clear E b5 au aT b4 ai;(try clear s4);(try clear s2);have bB:=(aO.o.trans aE).base bM.o;go_wp2;go_end0;refine⟨rfl,_,_,bB.weak λc h=>?_⟩;rcases h with⟨x,o,h⟩|⟨_,h⟩;(.rw[aB.o]at o;exact .inr (.inl ⟨x,by rw[jy];exact o,h⟩));.exact .inr (.inr (by rw[h];exact aX.o))
def L9(s:ES)(f c:Fc):Prop:=∃x∈jC s.pu ⟨1,[],f.B⟩,c=t_ f.A x.C
def U1:oU 207 1 L9:=by
 (refine lJ λP most B X a w vf s f I K aI bb L aJ aK u au J aq ax a6 bc ay bf=>?_);unfold vF d_;go_in;go_wp2;have⟨g,a7,bg,hl,hv,aL,az,aT⟩:=u.o.lkP ⟨1,[],f.B⟩ ⟨(show(Lit.int .i64 1).wf=true by decide),by simp[m_],gY aJ.o.b (by simp[m_])⟩ (.agg #[V 1,x_,f.B]) rfl;simp only[m_]at aT;have⟨aA,b1,b2,b3,aB,aC⟩:=fA (u.o.blk au.o J.o);go_quiet (fail);have v:ER P most B X a I vf s (I.drewN nq) vf s (λ_=>False):=(u.o.drewN nq);generalize I.drewN nq=y at *;have⟨m,aM⟩:∃q,q=vf:=⟨_,rfl⟩;have⟨S,aD⟩:∃q,q=s:=⟨_,rfl⟩;subst aM aD;have av:=(v.blk au.o J.o);have aw:=J;have ak:ER P most B X a y m S y m S (λ_=>False):=(ER.refl v.e v.t.inv);go_wp2;go_loopw [15] (λi wr=>∃(k:Nat)(aN:Slot->V_)(s1:ES),k<=l_ g/\i=.int .i64 (k:Int)/\Hid (ER P most B X a y m S wr aN s1 (λc=>∃x∈g.take k,c=t_ f.A x.C))) (λi _=>l_ g-(intOf i).toNat);exact⟨0,m,S,gZ _,rfl,O (ak.weak λc h=>by simp at h)⟩;obtain⟨j,H,A,a8,rfl,T⟩:=hrel;by_cases aO:j<l_ g
 .have⟨x,d⟩:=g_ aO
  obtain⟨b,bd,n,ah,rfl,hb,aP,ar,o,aW,aX,t,be,a0,a1,a2,a3,a4,a5,aE,aF,aG,a9⟩:=T.o.JX ak L.o ⟨1,[],f.B⟩ hl hv d;have r1:0<=(j:Int):=U;have a':(j:Int)<l_ g:=U;have aQ:=O d;have aY:=(o.o.blk av aw.o);have aZ:¬Yb X H K:=(o.o.k.nx av.lt aw.o);have D:ER P most B X a n H A n H A (λ_=>False):=(ER.refl o.o.e o.o.t.inv);go_wp2;(all_goals clear aP a0 a1 a2 a3 a4 a5 aE aF aG a9;(try rw[ar]);clear ar);have⟨F,r⟩:=e_ (t_ (f.A) (x.C));(have hd:kC P F:=by rw[<-r];have d:=agv (L.o.can _ t.o.1) t.o.2;have l:=t.o.1;rw[d]at l;have ai:=aq.o;rw[LY aq.o ax.o]at ai;exact .sub ai l);(have al:Hid (∀W,Y 150 #[f.A,x.C] W (.agg (mH F))):=O λW=>r ▸ mg (f.A) (x.C) W);(have am:=O λW Z=>D.emit L.o ay hd (λh=>by rw[<-r]at h;cases h) (W:=W) Z);(have E:Hid (∀W an aj Q',ER P most B X a n H A W an aj Q'->N W (B+9) 3 (oQ a)/\F6 W K f/\OG W ah x):=O λW an aj Q' l=>⟨l.e.e.blk.cell 3,fA (l.blk aY aZ),iJ (l.blk aW.o aX.o)⟩);have Q:=E.o _ _ _ _ D;(have ao:=O λW Z=>E.o W _ _ _ (D.up Z));have p:Hid (G n n.drew):=O (fu _ _).drew;go_wp2
  go_region_held3 (λW=>N W (B+9) 3 (oQ a)/\F6 W K f/\OG W ah x)
   (first|with_reducible exact Q|with_reducible exact s4|with_reducible exact s2|exact Q)
   (first|(go_at_call 142;refine(am.o _ ap).mono ?_;rintro e aR ⟨rfl,aU,aS,ad,_⟩;have s4:=E.o _ _ _ _ ad)|(go_at_call 150;refine(al.o _).mono ?_;rintro e ba ⟨rfl,z⟩;have s2:=ao.o _ (p.o.trans (z.mono p.o.size));have ap:=(p.o.trans (z.mono p.o.size));clear z)|fail)
  all_goals
   have aH:Hid (ER P most B X a y m S aR aU aS (λc=>∃x∈g.take (j+1),c=t_ f.A x.C)):=O ((o.o.trans ad).weak λc h=>by
    rcases kP (C:=λx c=>c=t_ f.A x.C) aQ.o h with h|h;.exact .inl h
    .exact .inr (.inr (by rw[<-r];exact h)))
   go_wp2
   go_roundw
   exact⟨j+1,_,_,U,R,aH⟩
   exact M
 ·(obtain rfl:j=l_ g:=by omega);have aV:=(v.trans T.o).base aK.o;go_wp2;go_end0;refine⟨rfl,_,_,aV.weak λc h=>?_⟩;obtain⟨x,d,h⟩:=h;rw[hl]at d;exact .inr ⟨x,by rw[jy];exact d,h⟩
def abe(s:ES)(f c:Fc):Prop:=∃x∈jC s.pu ⟨3,[],f.B⟩,c=fC f.A x.R x.C
def ac0:oU 209 1 abe:=by
 (refine lJ λP most B X a w vf s f I K aI bb L aJ aK u au J aq ax a6 bc ay bf=>?_);unfold vF d_;go_in;go_wp2;have⟨g,a7,bg,hl,hv,aL,az,aT⟩:=u.o.lkP ⟨3,[],f.B⟩ ⟨(show(Lit.int .i64 3).wf=true by decide),by simp[m_],gY aJ.o.b (by simp[m_])⟩ (.agg #[V 3,x_,f.B]) rfl;simp only[m_]at aT;have⟨aA,b1,b2,b3,aB,aC⟩:=fA (u.o.blk au.o J.o);go_quiet (fail);have v:ER P most B X a I vf s (I.drewN nq) vf s (λ_=>False):=(u.o.drewN nq);generalize I.drewN nq=y at *;have⟨m,aM⟩:∃q,q=vf:=⟨_,rfl⟩;have⟨S,aD⟩:∃q,q=s:=⟨_,rfl⟩;subst aM aD;have av:=(v.blk au.o J.o);have aw:=J;have ak:ER P most B X a y m S y m S (λ_=>False):=(ER.refl v.e v.t.inv);go_wp2;go_loopw [15] (λi wr=>∃(k:Nat)(aN:Slot->V_)(s1:ES),k<=l_ g/\i=.int .i64 (k:Int)/\Hid (ER P most B X a y m S wr aN s1 (λc=>∃x∈g.take k,c=fC f.A x.R x.C))) (λi _=>l_ g-(intOf i).toNat);exact⟨0,m,S,gZ _,rfl,O (ak.weak λc h=>by simp at h)⟩;obtain⟨j,H,A,a8,rfl,T⟩:=hrel;by_cases aO:j<l_ g
 .have⟨x,d⟩:=g_ aO
  obtain⟨b,bd,n,ah,rfl,hb,aP,ar,o,aW,aX,t,be,a0,a1,a2,a3,a4,a5,aE,aF,aG,a9⟩:=T.o.JX ak L.o ⟨3,[],f.B⟩ hl hv d;have r1:0<=(j:Int):=U;have a':(j:Int)<l_ g:=U;have aQ:=O d;have aY:=(o.o.blk av aw.o);have aZ:¬Yb X H K:=(o.o.k.nx av.lt aw.o);have D:ER P most B X a n H A n H A (λ_=>False):=(ER.refl o.o.e o.o.t.inv);go_wp2;(all_goals clear aP a0 a1 a2 a3 a4 a5 aE aF aG a9;(try rw[ar]);clear ar);have⟨F,r⟩:=e_ (fC (f.A) (x.R) (x.C));(have hd:kC P F:=by rw[<-r];have d:=agx (L.o.can _ t.o.1) t.o.2;have l:=t.o.1;rw[d]at l;have ai:=aq.o;rw[LY aq.o ax.o]at ai;exact .some ai l);(have al:Hid (∀W,Y 206 #[f.A,x.R,x.C] W (.agg (mH F))):=O λW=>r ▸ xQ (f.A) (x.R) (x.C) W);(have am:=O λW Z=>D.emit L.o ay hd (λh=>by rw[<-r]at h;cases h) (W:=W) Z);(have E:Hid (∀W an aj Q',ER P most B X a n H A W an aj Q'->N W (B+9) 3 (oQ a)/\F6 W K f/\OG W ah x):=O λW an aj Q' l=>⟨l.e.e.blk.cell 3,fA (l.blk aY aZ),iJ (l.blk aW.o aX.o)⟩);have Q:=E.o _ _ _ _ D;(have ao:=O λW Z=>E.o W _ _ _ (D.up Z));have p:Hid (G n n.drew):=O (fu _ _).drew;go_wp2
  go_region_held3 (λW=>N W (B+9) 3 (oQ a)/\F6 W K f/\OG W ah x)
   (first|with_reducible exact Q|with_reducible exact s4|with_reducible exact s2|exact Q)
   (first|(go_at_call 142;refine(am.o _ ap).mono ?_;rintro e aR ⟨rfl,aU,aS,ad,_⟩;have s4:=E.o _ _ _ _ ad)|(go_at_call 206;refine(al.o _).mono ?_;rintro e ba ⟨rfl,z⟩;have s2:=ao.o _ (p.o.trans (z.mono p.o.size));have ap:=(p.o.trans (z.mono p.o.size));clear z)|fail)
  all_goals
   have aH:Hid (ER P most B X a y m S aR aU aS (λc=>∃x∈g.take (j+1),c=fC f.A x.R x.C)):=O ((o.o.trans ad).weak λc h=>by
    rcases kP (C:=λx c=>c=fC f.A x.R x.C) aQ.o h with h|h;.exact .inl h
    .exact .inr (.inr (by rw[<-r];exact h)))
   go_wp2
   go_roundw
   exact⟨j+1,_,_,U,R,aH⟩
   exact M
 ·(obtain rfl:j=l_ g:=by omega);have aV:=(v.trans T.o).base aK.o;go_wp2;go_end0;refine⟨rfl,_,_,aV.weak λc h=>?_⟩;obtain⟨x,d,h⟩:=h;rw[hl]at d;exact .inr ⟨x,by rw[jy];exact d,h⟩
def Ma(s:ES)(f c:Fc):Prop:=∃x∈jC s.pu ⟨5,f.R,[]⟩,c=fC f.A x.T f.B
def U2:oU 213 2 Ma:=by
 (refine lJ λP most B X a w vf s f K L aK bd Z aL aM v aw J au az a8 be aA bh=>?_);unfold vF d_;go_in;go_wp2;have⟨g,a',bi,hl,hv,aN,aB,aV⟩:=v.o.lkP ⟨5,f.R,[]⟩ ⟨(show(Lit.int .i64 5).wf=true by decide),gY aL.o.r (by simp[m_]),by simp[m_]⟩ (.agg #[V 5,f.R,x_]) rfl;simp only[m_]at aV;have⟨aC,b1,b2,b3,aD,aE⟩:=fA (v.o.blk aw.o J.o);go_quiet (fail);have y:ER P most B X a K vf s (K.drewN nq) vf s (λ_=>False):=(v.o.drewN nq);generalize K.drewN nq=E at *;have⟨m,aO⟩:∃q,q=vf:=⟨_,rfl⟩;have⟨S,aF⟩:∃q,q=s:=⟨_,rfl⟩;subst aO aF;have ax:=(y.blk aw.o J.o);have ay:=J;have am:ER P most B X a E m S E m S (λ_=>False):=(ER.refl y.e y.t.inv);go_wp2;go_loopw [15] (λi wr=>∃(k:Nat)(aP:Slot->V_)(s1:ES),k<=l_ g/\i=.int .i64 (k:Int)/\Hid (ER P most B X a E m S wr aP s1 (λc=>∃x∈g.take k,c=fC f.A x.T f.B))) (λi _=>l_ g-(intOf i).toNat);exact⟨0,m,S,gZ _,rfl,O (am.weak λc h=>by simp at h)⟩;obtain⟨j,I,r,ba,rfl,Q⟩:=hrel;by_cases aQ:j<l_ g
 .have⟨x,d⟩:=g_ aQ
  obtain⟨b,bf,n,aj,rfl,hb,aR,av,o,aY,aZ,t,bg,a0,a1,a2,a3,a4,a5,aG,aH,aI,a9⟩:=Q.o.JX am Z.o ⟨5,f.R,[]⟩ hl hv d;have r1:0<=(j:Int):=U;have bb:(j:Int)<l_ g:=U;have aS:=O d;have a6:=(o.o.blk ax ay.o);have a7:¬Yb X I L:=(o.o.k.nx ax.lt ay.o);have D:ER P most B X a n I r n I r (λ_=>False):=(ER.refl o.o.e o.o.t.inv);go_wp2;(all_goals clear aR a0 a1 a2 a3 a4 a5 aG aH aI a9;(try rw[av]);clear av);have⟨F,u⟩:=e_ (fC (f.A) (x.T) (f.B));(have hd:kC P F:=by rw[<-u];have d:=agy (Z.o.can _ t.o.1) t.o.2;have l:=t.o.1;rw[d]at l;have ak:=au.o;rw[LZ au.o az.o]at ak;exact .U ak l);(have an:Hid (∀W,Y 206 #[f.A,x.T,f.B] W (.agg (mH F))):=O λW=>u ▸ xQ (f.A) (x.T) (f.B) W);(have ao:=O λW A=>D.emit Z.o aA hd (λh=>by rw[<-u]at h;cases h) (W:=W) A);(have H:Hid (∀W ap al Q',ER P most B X a n I r W ap al Q'->N W (B+9) 3 (oQ a)/\F6 W L f/\OG W aj x):=O λW ap al Q' l=>⟨l.e.e.blk.cell 3,fA (l.blk a6 a7),iJ (l.blk aY.o aZ.o)⟩);have T:=H.o _ _ _ _ D;(have aq:=O λW A=>H.o W _ _ _ (D.up A));have p:Hid (G n n.drew):=O (fu _ _).drew;go_wp2
  go_region_held3 (λW=>N W (B+9) 3 (oQ a)/\F6 W L f/\OG W aj x)
   (first|with_reducible exact T|with_reducible exact s4|with_reducible exact s2|exact T)
   (first|(go_at_call 142;refine(ao.o _ ar).mono ?_;rintro e aT ⟨rfl,aW,aU,af,_⟩;have s4:=H.o _ _ _ _ af)|(go_at_call 206;refine(an.o _).mono ?_;rintro e bc ⟨rfl,z⟩;have s2:=aq.o _ (p.o.trans (z.mono p.o.size));have ar:=(p.o.trans (z.mono p.o.size));clear z)|fail)
  all_goals
   have aJ:Hid (ER P most B X a E m S aT aW aU (λc=>∃x∈g.take (j+1),c=fC f.A x.T f.B)):=O ((o.o.trans af).weak λc h=>by
    rcases kP (C:=λx c=>c=fC f.A x.T f.B) aS.o h with h|h;.exact .inl h
    .exact .inr (.inr (by rw[<-u];exact h)))
   go_wp2
   go_roundw
   exact⟨j+1,_,_,U,R,aJ⟩
   exact M
 ·(obtain rfl:j=l_ g:=by omega);have aX:=(y.trans Q.o).base aM.o;go_wp2;go_end0;refine⟨rfl,_,_,aX.weak λc h=>?_⟩;obtain⟨x,d,h⟩:=h;rw[hl]at d;exact .inr ⟨x,by rw[jy];exact d,h⟩
def IL(s:ES)(f c:Fc):Prop:=∃a∈jC s.ab f.B,∃x∈jC s.pu ⟨4,f.R,a⟩,c=t_ f.A x.C
def Rx:oU 215 2 IL:=by
 (refine lJ λP most B X d w vf s f ak y bn bP E aT bo ac ba aL aH aO bL bQ bf bS=>?_);unfold vF d_;go_in;go_wp2;have⟨l,bM,bT,hl,hv,av,al,bD⟩:=ac.o.lkA f.B (gY aT.o.b (by simp[m_]));simp only[m_]at bD;have aw:=O hl;have bp:=O hv;have⟨am,b1,b2,b3,an,ao⟩:=fA (ac.o.blk ba.o aL.o);go_quiet (fail);have r:ER P most B X d ak vf s (ak.drewN nq) vf s (λ_=>False):=(ac.o.drewN nq);generalize ak.drewN nq=t at *;have⟨I,ax⟩:∃q,q=vf:=⟨_,rfl⟩;have⟨S,ap⟩:∃q,q=s:=⟨_,rfl⟩;subst ax ap;have bb:=(r.blk ba.o aL.o);have bc:=aL;have z:ER P most B X d t I S t I S (λ_=>False):=(ER.refl r.e r.t.inv);go_wp2;go_loopw [16] (λi wr=>∃(k:Nat)(ay:Slot->V_)(s1:ES),k<=l_ l/\i=.int .i64 (k:Int)/\Hid (ER P most B X d t I S wr ay s1 (λc=>∃a∈l.take k,∃x∈jC S.pu ⟨4,f.R,a⟩,c=t_ f.A x.C))) (λi _=>l_ l-(intOf i).toNat);exact⟨0,I,S,gZ _,rfl,O (z.weak λc h=>by simp at h)⟩;obtain⟨n,Q,az,bg,rfl,j⟩:=hrel;by_cases aA:n<l_ l
 .have⟨a,g⟩:=g_ aA
  have aI:=j.o.abs f.B;rw[aw.o,bp.o]at aI;obtain⟨b,bq,rfl,hb,a0⟩:=Ev aI g;have r1:0<=(n:Int):=U;have bh:(n:Int)<l_ l:=U;have br:=O g;have u:=j;have⟨aB,bs⟩:∃bi,bi=wr:=⟨_,rfl⟩;subst bs;have bt:a∈jC S.ab f.B:=(by rw[aw.o];exact gV g);go_wp2;have aU:kC P (t_ f.B a):=(z.t.inv.Ej _ (z.t.inv.Dl _ ((z.t.inv.ab f.B a).1 (jN.1 bt))));have bu:l_ a<=100000:=(tQ E.o aU).b;have aM:=(u.o.blk bb bc.o);have aN:¬Yb X Q y:=(u.o.k.nx bb.lt bc.o);have aJ:ER P most B X d aB Q az aB Q az (λ_=>False):=(ER.refl u.o.e u.o.t.inv);have⟨m,bN,bU,hl,hv,av,al,bE⟩:=aJ.lkP ⟨4,f.R,a⟩ ⟨(show(Lit.int .i64 4).wf=true by decide),gY aT.o.r (by simp[m_]),gY (bu) (by simp[m_])⟩ (.agg #[V 4,f.R,a]) rfl;simp only[m_]at bE;have aV:=O hl;have bv:=O hv;have⟨am,b1,b2,b3,an,ao⟩:=fA (aJ.blk aM aN);go_quiet (fail);have aC:=(u.o.drewN nq);have aD:=(aJ.drewN nq);generalize aB.drewN nq=D at *;have⟨v,ax⟩:∃q,q=Q:=⟨_,rfl⟩;have⟨H,ap⟩:∃q,q=az:=⟨_,rfl⟩;subst ax ap;have bd:=(aD.blk aM aN);have be:¬Yb X v y:=(aD.k.nx aM.lt aN);have aW:ER P most B X d D v H D v H (λ_=>False):=(ER.refl aC.e aC.t.inv);go_wp2;go_loopw [30] (λi wr=>∃(k:Nat)(ay:Slot->V_)(s1:ES),k<=l_ m/\i=.int .i64 (k:Int)/\Hid (ER P most B X d D v H wr ay s1 (λc=>∃x∈m.take k,c=t_ f.A x.C))) (λi _=>l_ m-(intOf i).toNat);exact⟨0,v,H,gZ _,rfl,O (aW.weak λc h=>by simp at h)⟩;obtain⟨o,Z,J,bg,rfl,j⟩:=hrel;by_cases aA:o<l_ m
  .have⟨x,g⟩:=g_ aA
   obtain⟨b,bq,K,aP,rfl,hb,bw,a',L,bH,bI,aE,bR,a0,a1,a2,a3,a4,a5,bj,bk,bl,a9⟩:=j.o.JX aW E.o ⟨4,f.R,a⟩ aV.o bv.o g;have r1:0<=(o:Int):=U;have bh:(o:Int)<l_ m:=U;have bx:=O g;have bJ:=(L.o.blk bd be);have bK:¬Yb X Z y:=(L.o.k.nx bd.lt be);have aK:ER P most B X d K Z J K Z J (λ_=>False):=(ER.refl L.o.e L.o.t.inv);go_wp2;(all_goals clear bw a0 a1 a2 a3 a4 a5 bj bk bl a9;(try rw[a']);clear a');have⟨F,A⟩:=e_ (t_ (f.A) (x.C));(have hd:kC P F:=by rw[<-A];have aX:=adJ (E.o.can _ aE.o.1) aE.o.2;have bm:=aal E.o aH.o aO.o;have bz:f.R=x.R:=aX.2.resolve_left bm;have p:=aE.o.1;rw[aX.1,<-bz]at p;have aQ:=aH.o;rw[LZ aH.o aO.o]at aQ;exact .fill aQ aU p);(have aY:Hid (∀W,Y 150 #[f.A,x.C] W (.agg (mH F))):=O λW=>A ▸ mg (f.A) (x.C) W);(have aZ:=O λW aq=>aK.emit E.o bf hd (λh=>by rw[<-A]at h;cases h) (W:=W) aq);(have ai:Hid (∀W a6 aR Q',ER P most B X d K Z J W a6 aR Q'->N W (B+9) 3 (oQ d)/\F6 W y f/\OG W aP x):=O λW a6 aR Q' p=>⟨p.e.e.blk.cell 3,fA (p.blk bJ bK),iJ (p.blk bH.o bI.o)⟩);have ar:=ai.o _ _ _ _ aK;(have a7:=O λW aq=>ai.o W _ _ _ (aK.up aq));have T:Hid (G K K.drew):=O (fu _ _).drew;go_wp2
   go_region_held3 (λW=>N W (B+9) 3 (oQ d)/\F6 W y f/\OG W aP x)
    (first|with_reducible exact ar|with_reducible exact s4|with_reducible exact s2|exact ar)
    (first|(go_at_call 142;refine(aZ.o _ a8).mono ?_;rintro e bB ⟨rfl,bF,bC,aF,_⟩;have s4:=ai.o _ _ _ _ aF)|(go_at_call 150;refine(aY.o _).mono ?_;rintro e bO ⟨rfl,aG⟩;have s2:=a7.o _ (T.o.trans (aG.mono T.o.size));have a8:=(T.o.trans (aG.mono T.o.size));clear aG)|fail)
   all_goals
    have au:Hid (ER P most B X d D v H bB bF bC (λc=>∃x∈m.take (o+1),c=t_ f.A x.C)):=O ((L.o.trans aF).weak λc h=>by
     rcases kP (C:=λx c=>c=t_ f.A x.C) bx.o h with h|h;.exact .inl h
     .exact .inr (.inr (by rw[<-A];exact h)))
    go_wp2
    go_roundw
    exact⟨o+1,_,_,U,R,au⟩
    exact M
  .obtain rfl:o=l_ m:=by omega
   have au:Hid (ER P most B X d t I S wr Z J (λc=>∃a∈l.take (n+1),∃x∈jC S.pu ⟨4,f.R,a⟩,c=t_ f.A x.C)):=O ((aC.trans j.o).weak λc h=>by
    rcases kP (C:=λa c=>∃x∈jC S.pu ⟨4,f.R,a⟩,c=t_ f.A x.C) br.o h with h|⟨x,g,h⟩;.exact .inl h
    .refine .inr ⟨x,?_,h⟩
     have e:=aV.o;rw[u.o.t.pu]at e
     rw[jy,<-e];exact g)
   go_wp2;go_roundw;exact⟨n+1,_,_,U,R,au⟩;exact M
 ·(obtain rfl:n=l_ l:=by omega);have bG:=(r.trans j.o).base bo.o;go_wp2;go_end0;refine⟨rfl,_,_,bG.weak λc h=>?_⟩;obtain⟨a,aS,h⟩:=h;rw[aw.o]at aS;exact .inr ⟨a,by rw[jy];exact aS,h⟩
def EC(s:ES)(f c:Fc):Prop:=f.B=iR/\∃a∈jC s.un f.A,c=t_ a iR
def Oj:oU 211 1 EC:=by
 (refine lJ λP most B X d w vf s f H aY aG a5 au aH aj n ar aX aq av aZ a6 aw a9=>?_);unfold vF d_;go_in;have⟨I,b1,b2,b3,K,L⟩:=fA ar.o;by_cases o:f.B=iR;rotate_left;(·(have aI:(f.B==[33])=false:=by rw[Mw];exact o);go_wp2;go_end0;exact⟨rfl,_,_,(n.o.base aj.o).weak λc h=>absurd h.1 o⟩);(have aI:(f.B==[33])=true:=by rw[YX];exact o);have aJ:=O o;clear o;go_wp2;clear aG;clear I b1 b2 b3 K L;have⟨g,a1,a',hl,hv,aK,ax,aU⟩:=n.o.lkU f.A (gY aH.o.a (by simp[m_]));simp only[m_]at aU;have A:=O hl;have aL:=O hv;clear hl hv;have⟨I,b1,b2,b3,K,L⟩:=fA (n.o.blk ar.o aX.o);go_quiet (fail);have t:Hid (ER P most B X d H vf s (H.drewN nq) vf s (λ_=>False)):=O (n.o.drewN nq);generalize H.drewN nq=p at *;have⟨l,aM⟩:∃q,q=vf:=⟨_,rfl⟩;have⟨S,ay⟩:∃q,q=s:=⟨_,rfl⟩;subst aM ay;have y:Hid (ER P most B X d p l S p l S (λ_=>False)):=O (ER.refl t.o.e t.o.t.inv);go_wp2;go_loopw [17] (λi wr=>∃(k:Nat)(aN:Slot->V_)(s1:ES),k<=l_ g/\i=.int .i64 (k:Int)/\Hid (ER P most B X d p l S wr aN s1 (λc=>∃a∈g.take k,c=t_ a iR))) (λi _=>l_ g-(intOf i).toNat);exact⟨0,l,S,gZ _,rfl,O (y.o.weak λc h=>by simp at h)⟩;obtain⟨j,ba,a7,a2,rfl,v⟩:=hrel;by_cases aO:j<l_ g
 .have⟨a,x⟩:=g_ aO
  have Q:=v.o.uns f.A;rw[A.o,aL.o]at Q;obtain⟨b,a8,rfl,hb,a0⟩:=Ev Q x;have r1:0<=(j:Int):=U;have a3:(j:Int)<l_ g:=U;have aP:=O x;have z:=v;have⟨ak,aQ⟩:∃az,az=wr:=⟨_,rfl⟩;subst aQ;have aR:Hid (a∈jC S.un f.A):=O (by rw[A.o];exact gV x);go_wp2;have⟨F,m⟩:=e_ (t_ a iR);(have hd:kC P F:=by rw[<-m];have aA:=aR.o;have⟨r,aB⟩:=(y.o.t.inv.un f.A a).1 (jN.1 aA);have aC:=y.o.t.inv.Ej _ (y.o.t.inv.Dl _ aB);have V:=aq.o;rw[LY aq.o av.o,aJ.o]at V;exact .none aC V);(have al:Hid (∀W,Y 150 #[a,.string ⟨#[33]⟩] W (.agg (mH F))):=O λW=>m ▸ mg a iR W);(have am:=O λW T=>z.o.emit au.o aw hd (λh=>by rw[<-m]at h;cases h) (W:=W) T);(have E:Hid (∀W an ah Q',ER P most B X d p l S W an ah Q'->N W (B+9) 3 (oQ d)):=O λW an ah Q' aD=>aD.e.e.blk.cell 3);have Z:=E.o _ _ _ _ z.o;(have ao:=O λW T=>E.o W _ _ _ (z.o.up T));have u:Hid (G ak ak.drew):=O (fu _ _).drew;have aE:=O m;go_wp2
  go_region_held3 (λW=>N W (B+9) 3 (oQ d))
   (first|with_reducible exact Z|with_reducible exact s4|with_reducible exact s2|exact Z)
   (first|(go_at_call 142;refine(am.o _ ap.o).mono ?_;rintro e aS ⟨rfl,aV,aT,J,_⟩;have s4:=E.o _ _ _ _ J)|(go_at_call 150;refine(al.o _).mono ?_;rintro e a4 ⟨rfl,D⟩;have s2:=ao.o _ (u.o.trans (D.mono u.o.size));have ap:=O (u.o.trans (D.mono u.o.size));clear D)|fail)
  all_goals
   have aF:Hid (ER P most B X d p l S aS aV aT (λc=>∃a∈g.take (j+1),c=t_ a iR)):=O (J.weak λc h=>by
    rcases kP (C:=λa c=>c=t_ a iR) aP.o h with h|h;.exact .inl h
    .exact .inr (by rw[<-aE.o];exact h))
   go_wp2
   go_roundw
   exact⟨j+1,_,_,U,R,aF⟩
   exact M
 ·(obtain rfl:j=l_ g:=by omega);have aW:=(t.o.trans v.o).base aj.o;go_wp2;go_end0;refine⟨rfl,_,_,aW.weak λc h=>?_⟩;obtain⟨_,a,ai,h⟩:=h;rw[A.o]at ai;exact .inr ⟨a,by rw[jy];exact ai,h⟩
def Wn(s:ES)(f c:Fc):Prop:=∃x∈jC s.pu ⟨8,[],f.B⟩,c=fG f.A x.R x.lo x.hi
def abf:oU 212 1 Wn:=by
 (refine lJ λP most B X d w vf s f au bs bC b5 Z bD bE al bp aW bn bt bX b6 aY bP=>?_);unfold vF d_;go_in;go_wp2;have⟨y,bY,b9,hl,hv,aI,bu,bQ⟩:=al.o.lkP ⟨8,[],f.B⟩ ⟨(show(Lit.int .i64 8).wf=true by decide),by simp[m_],gY bD.o.b (by simp[m_])⟩ (.agg #[V 8,x_,f.B]) rfl;simp only[m_]at bQ;have aJ:=O hl;have bF:=O hv;have⟨av,b1,b2,b3,aw,ax⟩:=fA (al.o.blk bp.o aW.o);go_quiet (fail);have am:Hid (ER P most B X d au vf s (au.drewN nq) vf s (λ_=>False)):=O (al.o.drewN nq);generalize au.drewN nq=D at *;have⟨m,bG⟩:∃q,q=vf:=⟨_,rfl⟩;have⟨S,bv⟩:∃q,q=s:=⟨_,rfl⟩;subst bG bv;have bq:=O (am.o.blk bp.o aW.o);have br:=aW;have aK:Hid (ER P most B X d D m S D m S (λ_=>False)):=O (ER.refl am.o.e am.o.t.inv);go_wp2;go_loopw [16] (λi wr=>∃(k:Nat)(bH:Slot->V_)(s1:ES),k<=l_ y/\i=.int .i64 (k:Int)/\Hid (ER P most B X d D m S wr bH s1 (λc=>∃x∈y.take k,c=fG f.A x.R x.lo x.hi))/\l_ s1.fm<=1000000+k) (λi _=>l_ y-(intOf i).toNat);exact⟨0,m,S,gZ _,rfl,O (aK.o.weak λc h=>by simp at h),bP⟩;obtain⟨u,r,p,bZ,rfl,ay,an⟩:=hrel;by_cases bI:u<l_ y
 .have⟨x,H⟩:=g_ bI
  obtain⟨b,b7,ao,b0,rfl,hb,bJ,bo,J,bT,bU,aL,b8,a0,a1,a2,a3,a4,a5,bw,bx,bz,a9⟩:=ay.o.JX aK.o Z.o ⟨8,[],f.B⟩ aJ.o bF.o H;have r1:0<=(u:Int):=U;have b4:(u:Int)<l_ y:=U;have a8:=O H;have bV:=O (J.o.blk bq.o br.o);have bW:Hid (¬Yb X r bs):=O (J.o.k.nx bq.o.lt br.o);have ar:Hid (ER P most B X d ao r p ao r p (λ_=>False)):=O (ER.refl J.o.e J.o.t.inv);have⟨F,aj⟩:=e_ (fG f.A x.R x.lo x.hi)
  have ak:Hid (kC P F):=O (by
   have H:=agA (Z.o.can _ aL.o.1) aL.o.2;have o:=aL.o.1;rw[H]at o;have A:=bn.o;rw[LY bn.o bt.o]at A;rw[<-aj]
   exact .value A o)
  (have a':Hid (∀W,Y 190 #[f.A,x.R,x.lo,x.hi] W (.agg (mH F))):=O λW=>by rw[<-aj];exact Bo f.A x.R x.lo x.hi W);have az:=O aj;have⟨av,b1,b2,b3,aw,ax⟩:=fA (ar.o.blk bV.o bW.o);have⟨c0,c1,c2,c3,c4,c5,c6,c7,c8,c9⟩:=iJ (ar.o.blk bT.o bU.o);go_wp2_with (go_at_call 190;refine(a'.o _).mono ?_;rintro e aZ ⟨rfl,ba⟩;have aM:=O ba;have⟨E,aN⟩:=e_ (aZ.alloc (.cells (mH F) 152));have⟨a,ap⟩:=e_ aZ.heap.size;clear ba av b1 b2 b3 aw ax c0 c1 c2 c3 c4 c5 c6 c7 c8 c9);(all_goals clear bJ a0 a1 a2 a3 a4 a5 bw bx bz a9;(try rw[bo]);clear bo);(have aO:f_ E a 152 (vF F):=by rw[<-aN,<-ap];exact f_.new _ _ _);(have aP:G ao E:=by rw[<-aN];exact X_ aM.o _);(have bb:¬Yb X r a:=by rw[<-ap];exact(ar.o.up aM.o).e.e.fresh (gH _));have aQ:=ar.o.up aP;have⟨a6,aR⟩:=e_ (decide (F∈p.D));have bB:N E (B+9) 2 (.map (some (B+1))):=aQ.e.e.blk.cell 2;have⟨aA,aB,aC,aD,aE,aF⟩:=fA aO;(have aI:∀nq,(Instr.lookup 221 (.map (some (B+1))) (.agg #[F.K,F.A,F.B,F.R,F.lo,F.hi]) false).run prog (E.drewN nq)=.ok (.bool a6) (E.drewN nq):=λnq=>mQ ((aQ.drewN nq).e.e.m.kn.toF) (tQ Z.o ak.o).ok aR);have bc:=O aR;have bd:=O aP;have be:=O aO;have bf:=O bb;(try rw[ap]);go_quiet (fail);have aq:=O ((J.o.up bd.o).drewN nq);have I:Hid (ER P most B X d (E.drewN nq) r p (E.drewN nq) r p (λ_=>False)):=O (ER.refl aq.o.e aq.o.t.inv);have v:Hid (f_ (E.drewN nq) a 152 (vF F)):=O (be.o.drewN nq);have aX:=bf;generalize E.drewN nq=g at *;cases a6
  .go_wp2
   have⟨aA,aB,aC,aD,aE,aF⟩:=fA v.o;have bK:N g (B+9) 10 (.map (some (B+8))):=I.o.e.e.blk.cell 10;(have bg:F∉p.D:=by have:=bc.o;simpa using this);(have bL:l_ y<=1000000:=by rw[<-aJ.o];exact gY (sQ _ _) aK.o.t.inv.pul);have⟨w5,bh,bi,bj⟩:=((I.o.up (fu _ _).drew).e.e.m.mz).put (K:=KF) underlying221 (by simp only[m_];omega) (tQ Z.o ak.o).ok (.bool true);have bM:(Instr.mapUpdate 221 (.map (some (B+8))) (.agg #[F.K,F.A,F.B,F.R,F.lo,F.hi]) (.bool true)).run prog g.drew=.ok () w5:=bh;have bN:=O bi;have aS:=O bj;have bR:=O bg;go_region;have bk:=I.o.up (fu _ _).drew;have bl:f_ w5 a 152 (vF F):=(v.o.drew).grown aS.o (by intro e;injection e with e;exact aX.o (.inl (by rw[e];exact I.o.e.e.xb 8 U)));have bm:f_ w5 (B+9) 227 (BL B (oQ d) (r .loops)):=(bk.e.e.blk).grown aS.o (by intro e;injection e with e;omega);have t:=O bl;have bO:=O bm;(have af:Hid (∀W,G w5 W->z 142 #[.agg #[F.K,F.A,F.B,F.R,F.lo,F.hi],.pointer d,.pointer (a_ (d+1) 0),.pointer (a_ (d+2) 0)] W λe w'=>e=.returned (.tuple #[])/\∃n j,ER P most B X d g r p w' n j (λc=>(λ_=>False) c\/c=F)/\l_ j.fm<=l_ p.fm+1):=O λW aG=>((I.o.up (fu _ _).drew).aa0 Z.o aY ak.o (by rw[<-az.o];rfl) bR.o aS.o bN.o aG).mono λe w' ⟨o,n,j,A,a7⟩=>⟨o,n,j,A,U⟩);have L:N w5 (B+9) 3 (oQ d)/\N w5 a 0 F.K/\N w5 a 1 F.A/\N w5 a 2 F.B/\N w5 a 3 F.R/\N w5 a 4 F.lo/\N w5 a 5 F.hi:=⟨bO.o.cell 3,t.o.cell 0,t.o.cell 1,t.o.cell 2,t.o.cell 3,t.o.cell 4,t.o.cell 5⟩;(have ag:Hid (∀W n j Q',ER P most B X d g r p W n j Q'->N W (B+9) 3 (oQ d)/\N W a 0 F.K/\N W a 1 F.A/\N W a 2 F.B/\N W a 3 F.R/\N W a 4 F.lo/\N W a 5 F.hi):=O λW n j Q' o=>have l:f_ W a 152 (vF F):=o.blk v.o aX.o;⟨o.e.e.blk.cell 3,l.cell 0,l.cell 1,l.cell 2,l.cell 3,l.cell 4,l.cell 5⟩);have ah:Hid (G w5 w5.drew):=O (fu _ _).drew;go_wp2
   go_region_held3 (λW=>N W (B+9) 3 (oQ d)/\N W a 0 F.K/\N W a 1 F.A/\N W a 2 F.B/\N W a 3 F.R/\N W a 4 F.lo/\N W a 5 F.hi)
    (first|with_reducible exact L|with_reducible exact s4|exact L)
    (first|(go_at_call 142;refine(af.o _ ah.o).mono ?_;rintro e aT ⟨rfl,aV,Q,T,aU⟩;have s4:=ag.o _ _ _ _ T)|fail)
   all_goals
    have aH:Hid (ER P most B X d D m S aT aV Q (λc=>∃x∈y.take (u+1),c=fG f.A x.R x.lo x.hi)):=O ((aq.o.trans T).weak λc h=>by
     rcases kP (C:=λx c=>c=fG f.A x.R x.lo x.hi) a8.o h with h|h;.exact .inl h
     .exact .inr (.inr (by rw[<-az.o];exact h)))
    have an:l_ Q.fm<=1000000+(u+1):=U
    go_wp2
    go_roundw
    exact⟨u+1,_,_,U,R,aH,an⟩
    exact M
  .have af:Hid (∀W,G g W->z 142 #[.agg #[F.K,F.A,F.B,F.R,F.lo,F.hi],.pointer d,.pointer (a_ (d+1) 0),.pointer (a_ (d+2) 0)] W λe w'=>e=.returned (.tuple #[])/\∃n j,ER P most B X d g r p w' n j (λc=>(λ_=>False) c\/c=F)/\l_ j.fm<=l_ p.fm+1):=O λW aG=>(I.o.emit Z.o aY ak.o (λh=>I.o.t.inv.is F (by have:=bc.o;simpa using this) h) aG).mono λe w' ⟨o,n,j,A,a7⟩=>⟨o,n,j,A,by rw[a7];omega⟩
   have L:N g (B+9) 3 (oQ d)/\N g a 0 F.K/\N g a 1 F.A/\N g a 2 F.B/\N g a 3 F.R/\N g a 4 F.lo/\N g a 5 F.hi:=⟨I.o.e.e.blk.cell 3,v.o.cell 0,v.o.cell 1,v.o.cell 2,v.o.cell 3,v.o.cell 4,v.o.cell 5⟩;(have ag:Hid (∀W n j Q',ER P most B X d g r p W n j Q'->N W (B+9) 3 (oQ d)/\N W a 0 F.K/\N W a 1 F.A/\N W a 2 F.B/\N W a 3 F.R/\N W a 4 F.lo/\N W a 5 F.hi):=O λW n j Q' o=>have l:f_ W a 152 (vF F):=o.blk v.o aX.o;⟨o.e.e.blk.cell 3,l.cell 0,l.cell 1,l.cell 2,l.cell 3,l.cell 4,l.cell 5⟩);have ah:Hid (G g g.drew):=O (fu _ _).drew;go_wp2
   go_region_held3 (λW=>N W (B+9) 3 (oQ d)/\N W a 0 F.K/\N W a 1 F.A/\N W a 2 F.B/\N W a 3 F.R/\N W a 4 F.lo/\N W a 5 F.hi)
    (first|with_reducible exact L|with_reducible exact s4|exact L)
    (first|(go_at_call 142;refine(af.o _ ah.o).mono ?_;rintro e aT ⟨rfl,aV,Q,T,aU⟩;have s4:=ag.o _ _ _ _ T)|fail)
   all_goals
    have aH:Hid (ER P most B X d D m S aT aV Q (λc=>∃x∈y.take (u+1),c=fG f.A x.R x.lo x.hi)):=O ((aq.o.trans T).weak λc h=>by
     rcases kP (C:=λx c=>c=fG f.A x.R x.lo x.hi) a8.o h with h|h;.exact .inl h
     .exact .inr (.inr (by rw[<-az.o];exact h)))
    have an:l_ Q.fm<=1000000+(u+1):=U
    go_wp2
    go_roundw
    exact⟨u+1,_,_,U,R,aH,an⟩
    exact M
 ·(obtain rfl:u=l_ y:=by omega);have bS:=(am.o.trans ay.o).base bE.o;go_wp2;go_end0;refine⟨rfl,_,_,bS.weak λc h=>?_⟩;obtain⟨x,H,h⟩:=h;rw[aJ.o]at H;exact .inr ⟨x,by rw[jy];exact H,h⟩
def agI(P:List Pc)(most B:Nat)(X:Nat->Prop)(d:Nat)(w:World)(vf:Slot->V_)(s:ES)(f:Fc)(aY:lK w B X most d vf s)(aE:Inv P most s)(aZ:wR P)(bz:most<=1000000)(cq:l_ s.fm<=1000000)(hf:f∈s.ix)(a6:f.K=3)(bD:f∉s.fm):z 217 #[.pointer (a_ (B+9) 0),.agg (vF f)] w (NY P most B X d w vf s (λc=>(∃x∈jC s.fi ⟨f.A,f.R⟩,max f.lo x.lo<=min f.hi x.hi/\c=fG f.A f.R (max f.lo x.lo) (min f.hi x.hi))\/((∃x∈jC s.fi ⟨f.A,f.R⟩,min f.hi x.hi<max f.lo x.lo)/\c=t_ f.A iR))):=by
 unfold vF d_;have br:=aE.Ej f (aE.Dl f hf);have bE:=tQ aZ br;have⟨ag,ba⟩:=e_ (w.alloc (.cells (vF f) 152));(have bb:G w ag:=by rw[<-ba];exact bA);have bc:¬Yb X vf w.heap.size:=aY.e.fresh (gH _);have⟨ak,bF⟩:=e_ w.heap.size;(have bG:f_ ag ak 152 (vF f):=by rw[<-ba,<-bF];exact f_.new _ _ _);rw[bF]at bc;have cT:l_ s.fm<=1000000:=cq;have bB:=O aZ;have bd:=O bE;have bH:=O bb;have bI:Hid (ER P most B X d ag vf s ag vf s (λ_=>False)):=O (ER.refl (aY.up bb) aE);have bw:=O bG;have bx:=O bc;have aV:=O br;have a7:=O a6;have cL:=O aE;have bJ:=O hf;clear aY aE aZ hf a6 br bE bb bc bG;go_in;have⟨al,b1,b2,b3,am,an⟩:=fA bw.o;have⟨Z,be⟩:∃q,ag.alloc (.cells #[f.A,f.R] 284)=q:=⟨_,rfl⟩;have⟨a8,bK⟩:=e_ ag.heap.size;have cr:=O bD;clear bD;go_wp2;clear ba al b1 b2 b3 am an;(have ay:G ag Z:=by rw[<-be];exact X_ (fu _ _) _);(have bL:f_ Z a8 284 #[f.A,f.R]:=by rw[<-be,<-bK];exact f_.new _ _ _);have aH:=O (bI.o.up ay);have az:=O bL;clear ay bL be bK bI;have cG:okS ⟨f.A,f.R⟩:=⟨gY bd.o.a (by simp[m_]),gY bd.o.r (by simp[m_])⟩;have a9:N Z (B+9) 9 (.map (some (B+7))):=aH.o.e.e.blk.cell 9;have a0:N Z a8 0 f.A:=az.o.cell 0;have a1:N Z a8 1 f.R:=az.o.cell 1;have⟨cc,cH,bf,_⟩:=(aH.o.fis ⟨f.A,f.R⟩).form;(have bg:∀nq,(Instr.lookup 225 (.map (some (B+7))) (.agg #[f.A,f.R]) false).run prog (Z.drewN nq)=.ok (.slice cc (l_ (jC s.fi ⟨f.A,f.R⟩)) cH) (Z.drewN nq):=λnq=>by have:=(aH.o.drewN nq).e.e.adH ⟨f.A,f.R⟩ cG;rw[bf]at this;exact this);have bM:=O bf;clear bf;go_quiet (fail);clear bg a9 a0 a1;have aI:=O (aH.o.drewN nq);have bN:=O (az.o.drewN nq);clear aH az;generalize Z.drewN nq=aP at *;go_wp2;have a9:N aP (B+9) 10 (.map (some (B+8))):=aI.o.e.e.blk.cell 10;have⟨al,b1,b2,b3,am,an⟩:=fA (aI.o.blk bw.o bx.o);(have bg:∀nq,(Instr.lookup 221 (.map (some (B+8))) (.agg #[f.K,f.A,f.B,f.R,f.lo,f.hi]) false).run prog (aP.drewN nq)=.ok (.bool false) (aP.drewN nq):=λnq=>mQ ((aI.o.drewN nq).e.e.m.mz) bd.o.ok (sj cr.o));go_quiet (fail);clear bg a9 al b1 b2 b3 am an;have bO:=O (aI.o.drewN nq);have cQ:=O (bN.o.drewN nq);clear aI bN;generalize aP.drewN nq=cd at *;have⟨p,hl⟩:∃l,jC s.fi ⟨f.A,f.R⟩=l:=⟨_,rfl⟩;have av:=bO.o.fis ⟨f.A,f.R⟩;rw[hl]at av bM;have⟨cM,cU,hv,b5,b6,_⟩:=av.form;have bP:=bM.o;rw[hv]at bP;injection bP with u _ A;subst u A;rw[hl];have cI:=gY b5 b6;simp only[m_]at cI;have aA:=O hl;have cs:=O hv;clear av hl hv b5 b6;have⟨ap,ct⟩:∃q,q=cd:=⟨_,rfl⟩;subst ct;have aJ:=bO;have⟨ai,cu⟩:∃q,q=vf:=⟨_,rfl⟩;have⟨a,ce⟩:∃q,q=s:=⟨_,rfl⟩;subst cu ce;have b':=O (aJ.o.blk bw.o bx.o);have ca:=bx;have K:Hid (ER P most B X d ap ai a ap ai a (λ_=>False)):=O (ER.refl aJ.o.e aJ.o.t.inv);(have cR:prog.eqGuardType prog.depth 152=false:=by kernel_rfl);go_wp2;go_loopw [6,37] (λcf i wr=>∃(k:Nat)(cv:Slot->V_)(s1:ES)(ao:Bool),k<=l_ p/\i=.int .i64 (k:Int)/\cf=.bool ao/\Hid (ao=true↔∃x∈p.take k,min f.hi x.hi<max f.lo x.lo)/\Hid (ER P most B X d ap ai a wr cv s1 (λc=>∃x∈p.take k,max f.lo x.lo<=min f.hi x.hi/\c=fG f.A f.R (max f.lo x.lo) (min f.hi x.hi)))) (λ_ i _=>l_ p-(intOf i).toNat);exact⟨0,ai,a,false,gZ _,rfl,rfl,O S,O (K.o.weak λc h=>by simp at h)⟩;obtain⟨v,T,E,ao,a6,rfl,rfl,aK,V⟩:=hrel;by_cases bh:v<l_ p
 .have⟨x,o⟩:=g_ bh
  have av:=V.o.fis ⟨f.A,f.R⟩;rw[aA.o,cs.o]at av;obtain⟨b,cS,rfl,hb,a0,a1,a2,a3,a4,a5⟩:=aa1 av o;have r1:0<=(v:Int):=U;have cN:(v:Int)<l_ p:=U;have aB:=O o;clear av o;have⟨r,bi⟩:=e_ (wr.alloc (.cells (vF x) 152));(have bj:f_ r wr 152 (vF x):=by rw[<-bi];exact f_.new _ _ _);(have bQ:G wr r:=by rw[<-bi];exact X_ (fu _ _) _);have bR:¬Yb X T wr.heap.size:=V.o.e.e.fresh (gH _);have aL:=O (V.o.up bQ);have⟨aQ,bs⟩:=e_ wr.heap.size;rw[bs]at bj bR;have aW:=O bj;(have bS:x∈jC a.fi ⟨f.A,f.R⟩:=by rw[aA.o];exact gV aB.o);have aM:=((K.o.t.inv.fi ⟨f.A,f.R⟩ x).1 (jN.1 bS));have aS:=O aM;clear bj bQ bR bS aM V;have aX:=O (aL.o.blk b'.o ca.o);have b7:Hid (ER P most B X d r T E r T E (λ_=>False)):=O (ER.refl aL.o.e aL.o.t.inv);go_wp2;clear bi a0 a1 a2 a3 a4 a5;(try rw[bs]);clear bs;have⟨aq,bt⟩:=e_ (max f.lo x.lo);have⟨ar,bu⟩:=e_ (min f.hi x.hi);(have cw:∀W,(Builtin.max_ #[3,3] 3 #[f.lo,x.lo]).run prog W=.ok (.int .i64 aq) W:=λW=>by rw[<-bt];exact V7 _ _ W);(have cx:∀W,(Builtin.min_ #[3,3] 3 #[f.hi,x.hi]).run prog W=.ok (.int .i64 ar) W:=λW=>by rw[<-bu];exact NZ _ _ W);have J:=O bt;have Q:=O bu;clear bt bu;have H:N r ak 4 f.lo/\N r ak 5 f.hi/\N r aQ 4 x.lo/\N r aQ 5 x.hi:=⟨aX.o.cell 4,aX.o.cell 5,aW.o.cell 4,aW.o.cell 5⟩
  go_region_held3 (λW=>N W ak 4 f.lo/\N W ak 5 f.hi/\N W aQ 4 x.lo/\N W aQ 5 x.hi)
   (first|with_reducible exact H|exact H)
   (first|fail)
  all_goals
   clear H cw cx
   have aN:=O (aL.o.up (fu _ _).drew)
   have cy:=O (b7.o.up (fu _ _).drew)
   have cb:=O (aX.o.drew)
   have cJ:=O (aW.o.drew)
   clear aL b7 aX aW
   generalize r.drew=a' at *
   by_cases aC:ar<aq
   .have hd:decide (ar<aq)=true:=y7 aC
    have aT:Hid (true=true↔∃x∈p.take (v+1),min f.hi x.hi<max f.lo x.lo):=O ⟨λ_=>⟨x,gV (i:=v) (by rw[YW,P_ U];exact aB.o),by rw[J.o,Q.o];exact aC⟩,λ_=>rfl⟩
    have aF:Hid (ER P most B X d ap ai a a' T E (λc=>∃x∈p.take (v+1),max f.lo x.lo<=min f.hi x.hi/\c=fG f.A f.R (max f.lo x.lo) (min f.hi x.hi))):=O (aN.o.weak λc h=>by
     rcases kP (C:=λx c=>max f.lo x.lo<=min f.hi x.hi/\c=fG f.A f.R (max f.lo x.lo) (min f.hi x.hi)) aB.o h with h|h;.exact h
     .exact absurd h.1 (by rw[J.o,Q.o];omega))
    clear aC;go_wp2;go_roundw;exact⟨v+1,_,_,true,U,R,rfl,aT,aF⟩;exact M
   .have hd:decide (ar<aq)=false:=sj aC
    have aT:Hid (ao=true↔∃x∈p.take (v+1),min f.hi x.hi<max f.lo x.lo):=O (by
     rw[aK.o];constructor;.rintro⟨y,cg,h⟩;exact⟨y,id_ p U cg,h⟩
     .intro h
      rcases kP (C:=λx (_:Fc)=>min f.hi x.hi<max f.lo x.lo) aB.o (c:=f) h with h|h;.exact h
      .rw[J.o,Q.o]at h;exact absurd h aC)
    have⟨F,I⟩:=e_ (fG f.A f.R aq ar);have bT:Hid (x=fG f.A f.R x.lo x.hi):=O aS.o.1.2
    have ch:Hid (kC P F):=O (by
     have A:=aV.o;rw[Io aV.o a7.o]at A;have m:=K.o.t.inv.Ej _ (K.o.t.inv.Dl _ aS.o.1.1);rw[bT.o]at m;rw[<-I,<-J.o,<-Q.o]
     exact .meet A m (by rw[J.o,Q.o];omega))
    have cz:Hid (qG (·∈E.fm) F.A F.R F.lo F.hi):=O (by
     (have up:∀g,g∈a.fm->g∈E.fm:=λg ci=>by obtain⟨t,e⟩:=aN.o.t.fm;rw[e];exact Jf _ ci);rw[<-I,<-J.o,<-Q.o];have m:=(K.o.t.inv.is f (K.o.t.inv.Dl _ bJ.o) a7.o).mono up;have cj:fG f.A f.R x.lo x.hi∈E.fm:=by rw[<-bT.o];exact up _ aS.o.2
     exact qG.meet m cj (by have cO:=J.o;have cP:=Q.o;omega))
    (have bU:Hid (∀W,Y 190 #[f.A,f.R,aq,ar] W (.agg (mH F))):=O λW=>by rw[<-I];exact Bo f.A f.R aq ar W);have aR:=O I;have⟨q1,bl⟩:∃t,decide (F=f)=t:=⟨_,rfl⟩;have⟨q2,bm⟩:∃t,decide (F=x)=t:=⟨_,rfl⟩;(have cA:∀W,(Op.equalIn 10000 152 (.agg #[F.K,F.A,F.B,F.R,F.lo,F.hi]) (.agg #[f.K,f.A,f.B,f.R,f.lo,f.hi])).run prog W=.ok q1 W:=λW=>by rw[<-bl];exact Bp W F f);(have cB:∀W,(Op.equalIn 10000 152 (.agg #[F.K,F.A,F.B,F.R,F.lo,F.hi]) (.agg #[x.K,x.A,x.B,x.R,x.lo,x.hi])).run prog W=.ok q2 W:=λW=>by rw[<-bm];exact Bp W F x);have cC:=O bl;have cD:=O bm;clear I aC bl bm aK;have⟨al,b1,b2,b3,am,an⟩:=fA cb.o;cases q1<;>cases q2;(all_goals go_wp2_with (go_at_call 190;refine(bU.o _).mono ?_;rintro e bC ⟨rfl,bV⟩;have bn:=O bV;have⟨n,bo⟩:=e_ (bC.alloc (.cells (mH F) 152));have⟨j,bp⟩:=e_ bC.heap.size;clear bV al b1 b2 b3 am an;have bq:Hid (G a' n):=O (by rw[<-bo];exact X_ bn.o _);have bW:Hid (f_ n j 152 (vF F)):=O (by rw[<-bo,<-bp];exact f_.new _ _ _);have cK:Hid (¬Yb X T j):=O (by rw[<-bp];exact(cy.o.up bn.o).e.e.fresh (gH _));have⟨ck,cl,cm,cn,co,cp⟩:=fA bW.o;have⟨al,b1,b2,b3,am,an⟩:=fA (bk bq.o cb.o);have⟨c0,c1,c2,c3,c4,c5⟩:=fA (bk bq.o cJ.o)));(all_goals (try clear bo);(try clear bp);clear cA cB ck cl cm cn co cp al b1 b2 b3 am an c0 c1 c2 c3 c4 c5 bU bn;have aU:=O (aN.o.up bq.o));rotate_left
    all_goals try
     have bX:F∈E.D:=by first|((have u:F=f:=by have:=cC.o;simpa using this);rw[u];exact aN.o.t.mem (K.o.t.inv.Dl _ bJ.o))|((have u:F=x:=by have:=cD.o;simpa using this);rw[u];exact aN.o.t.mem (K.o.t.inv.Dl _ aS.o.1.1))
     have aF:Hid (ER P most B X d ap ai a n T E (λc=>∃x∈p.take (v+1),max f.lo x.lo<=min f.hi x.hi/\c=fG f.A f.R (max f.lo x.lo) (min f.hi x.hi))):=O ((aU.o.also bX).weak λc h=>by
      rcases kP (C:=λx c=>max f.lo x.lo<=min f.hi x.hi/\c=fG f.A f.R (max f.lo x.lo) (min f.hi x.hi)) aB.o h with h|h;.exact .inl h
      .exact .inr (by rw[h.2,J.o,Q.o];exact aR.o))
     clear bX
     go_wp2
     go_roundw
     exact⟨v+1,_,_,ao,U,R,rfl,aT,aF⟩
     exact M
    have b8:Hid (ER P most B X d n T E n T E (λ_=>False)):=O (ER.refl aU.o.e aU.o.t.inv);have aw:=bW;(have aO:Hid (∀W,G n W->z 142 #[.agg #[F.K,F.A,F.B,F.R,F.lo,F.hi],.pointer d,.pointer (a_ (d+1) 0),.pointer (a_ (d+2) 0)] W λe w'=>e=.returned (.tuple #[])/\∃D L,ER P most B X d n T E w' D L (λc=>(λ_=>False) c\/c=F)/\l_ L.fm<=l_ E.fm+1):=O λW aG=>(b8.o.emit bB.o bz ch.o (λ_=>cz.o) aG).mono λe w' ⟨u,D,L,A,m⟩=>⟨u,D,L,A,by rw[m];omega⟩);have H:N n (B+9) 3 (oQ d)/\N n j 0 F.K/\N n j 1 F.A/\N n j 2 F.B/\N n j 3 F.R/\N n j 4 F.lo/\N n j 5 F.hi:=⟨b8.o.e.e.blk.cell 3,aw.o.cell 0,aw.o.cell 1,aw.o.cell 2,aw.o.cell 3,aw.o.cell 4,aw.o.cell 5⟩;(have au:Hid (∀W D L Q',ER P most B X d n T E W D L Q'->N W (B+9) 3 (oQ d)/\N W j 0 F.K/\N W j 1 F.A/\N W j 2 F.B/\N W j 3 F.R/\N W j 4 F.lo/\N W j 5 F.hi):=O λW D L Q' u=>have ax:f_ W j 152 (vF F):=u.blk aw.o cK.o;⟨u.e.e.blk.cell 3,ax.cell 0,ax.cell 1,ax.cell 2,ax.cell 3,ax.cell 4,ax.cell 5⟩);have aj:Hid (G n n.drew):=O (fu _ _).drew;go_wp2
    go_region_held3 (λW=>N W (B+9) 3 (oQ d)/\N W j 0 F.K/\N W j 1 F.A/\N W j 2 F.B/\N W j 3 F.R/\N W j 4 F.lo/\N W j 5 F.hi)
     (first|with_reducible exact H|with_reducible exact s4|exact H)
     (first|(go_at_call 142;refine(aO.o _ aj.o).mono ?_;rintro e bY ⟨rfl,b9,bZ,aD,cE⟩;have s4:=au.o _ _ _ _ aD)|fail)
    all_goals
     clear H au aO aj
     try clear s4
     have aF:Hid (ER P most B X d ap ai a bY b9 bZ (λc=>∃x∈p.take (v+1),max f.lo x.lo<=min f.hi x.hi/\c=fG f.A f.R (max f.lo x.lo) (min f.hi x.hi))):=O ((aU.o.trans aD).weak λc h=>by
      rcases kP (C:=λx c=>max f.lo x.lo<=min f.hi x.hi/\c=fG f.A f.R (max f.lo x.lo) (min f.hi x.hi)) aB.o h with h|h;.exact .inl h
      .exact .inr (.inr (by rw[h.2,J.o,Q.o];exact aR.o)))
     clear aD cE
     go_wp2
     go_roundw
     exact⟨v+1,_,_,ao,U,R,rfl,aT,aF⟩
     exact M
 .obtain rfl:v=l_ p:=by omega
  cases ao;.have bv:=(aJ.o.trans V.o).base bH.o;go_wp2;go_end0;refine⟨rfl,_,_,bv.weak λc h=>?_⟩;rcases h with⟨x,o,h⟩|⟨⟨x,o,h⟩,_⟩;(.rw[aA.o]at o;exact .inr ⟨x,by rw[jy];exact o,h⟩);.rw[aA.o]at o;have:=aK.o.2 ⟨x,by rw[jy];exact o,h⟩;cases this
  .have cF:Hid (kC P (t_ f.A iR)):=O (by
    have⟨x,o,bh⟩:=aK.o.1 rfl;rw[jy,<-aA.o]at o;have aM:=((K.o.t.inv.fi ⟨f.A,f.R⟩ x).1 (jN.1 o)).1;have A:=aV.o;rw[Io aV.o a7.o]at A;have m:=K.o.t.inv.Ej _ (K.o.t.inv.Dl _ aM.1);rw[aM.2]at m
    exact .apart A m bh)
   clear aK;have⟨F,I⟩:=e_ (t_ (f.A) iR);(have hd:kC P F:=by rw[<-I];exact cF.o);(have b0:Hid (∀W,Y 150 #[f.A,.string ⟨#[33]⟩] W (.agg (mH F))):=O λW=>I ▸ mg (f.A) iR W);(have aO:=O λW aG=>V.o.emit bB.o bz hd (λh=>by rw[<-I]at h;cases h) (W:=W) aG);(have au:Hid (∀W D L Q',ER P most B X d ap ai a W D L Q'->N W (B+9) 3 (oQ d)/\F6 W ak f):=O λW D L Q' u=>⟨u.e.e.blk.cell 3,fA (u.blk b'.o ca.o)⟩);have H:=au.o _ _ _ _ V.o;(have b4:=O λW aG=>au.o W _ _ _ (V.o.up aG));have aj:Hid (G wr wr.drew):=O (fu _ _).drew;have aR:=O I;clear hd I;go_wp2
   go_region_held3 (λW=>N W (B+9) 3 (oQ d)/\F6 W ak f)
    (first|with_reducible exact H|with_reducible exact s4|with_reducible exact s2|exact H)
    (first|(go_at_call 142;refine(aO.o _ az.o).mono ?_;rintro e bY ⟨rfl,b9,bZ,aD,_⟩;have s4:=au.o _ _ _ _ aD)|(go_at_call 150;refine(b0.o _).mono ?_;rintro e Z ⟨rfl,ay⟩;have s2:=b4.o _ (aj.o.trans (ay.mono aj.o.size));have az:=O (aj.o.trans (ay.mono aj.o.size));clear ay)|fail)
   all_goals clear H b4 au aO b0 aj;(try clear s4);(try clear s2);have bv:=(aJ.o.trans aD).base bH.o;go_wp2;go_end0;refine⟨rfl,_,_,bv.weak λc h=>?_⟩;rcases h with⟨x,o,h⟩|⟨_,h⟩;(.rw[aA.o]at o;exact .inr (.inl ⟨x,by rw[jy];exact o,h⟩));.exact .inr (.inr (by rw[h];exact aR.o))
noncomputable def YE (s:ES) (f:Fc):List Fc:=if f∈s.fm then jC s.ra ⟨f.A,f.R⟩ else jC s.fi ⟨f.A,f.R⟩
def Ol(s:ES)(f c:Fc):Prop:=(∃x∈YE s f,max f.lo x.lo<=min f.hi x.hi/\c=fG f.A f.R (max f.lo x.lo) (min f.hi x.hi))\/((∃x∈YE s f,min f.hi x.hi<max f.lo x.lo)/\c=t_ f.A iR)
def ac1:oU 217 3 Ol:=by intro P most B X b w vf s f c d e g j H i;by_cases a:f∈s.fm;(.have h:=agH P most B X b w vf s f c d e g j H i a;unfold Ol YE;simp only[P_ a];exact h);.have h:=agI P most B X b w vf s f c d e g j H i a;unfold Ol YE;simp only[C_ a];exact h
structure ac2(kind:Int)(r:FuncId×(ES->Fc->Fc->Prop)):Prop where
 at_:oU r.1 kind r.2
 enter:∀args w,(callFunc r.1 args).run prog w=.ok (.enter r.1 args) w
def abg:List (FuncId×(ES->Fc->Fc->Prop)):=[(207,L9),(208,abd),(209,abe),(210,Iz),(211,EC),(212,Wn)]
def abh:List (FuncId×(ES->Fc->Fc->Prop)):=[(213,Ma),(214,Wh),(215,IL),(216,EB)]
def abj:List (FuncId×(ES->Fc->Fc->Prop)):=[(217,Ol),(218,adO)]
def ac3:∀r∈abg,ac2 1 r:=by intro r a;simp only[abg,jL,Vp,Vq]at a;rcases a with rfl|rfl|rfl|rfl|rfl|rfl;(.exact⟨U1,enters_of func207 k_ rfl⟩);(.exact⟨acZ,enters_of func208 k_ rfl⟩);(.exact⟨ac0,enters_of func209 k_ rfl⟩);(.exact⟨Rk,enters_of func210 k_ rfl⟩);(.exact⟨Oj,enters_of func211 k_ rfl⟩);.exact⟨abf,enters_of func212 k_ rfl⟩
def ac4:∀r∈abh,ac2 2 r:=by intro r a;simp only[abh,jL,Vp,Vq]at a;rcases a with rfl|rfl|rfl|rfl;(.exact⟨U2,enters_of func213 k_ rfl⟩);(.exact⟨aa7,enters_of func214 k_ rfl⟩);(.exact⟨Rx,enters_of func215 k_ rfl⟩);.exact⟨Oi,enters_of func216 k_ rfl⟩
def ac5:∀r∈abj,ac2 3 r:=by intro r a;simp only[abj,jL,Vp,Vq]at a;rcases a with rfl|rfl;(.exact⟨ac1,enters_of func217 k_ rfl⟩);.exact⟨aeV,enters_of func218 k_ rfl⟩
def R6(k:Nat):List (FuncId×(ES->Fc->Fc->Prop)):=if k=1 then abg else if k=2 then abh else abj
theorem YF(h:Inv P most s)(m:f∈s.D)(t:f∉s.ix)(hl:l_ s.ix+1<=l_ s.D)(u:1<=f.K/\f.K<=3):Inv P most (FJ s f):=by have H:=h.Ej f m;(have j:∀x,x∈s.ix++[f]↔x∈s.ix\/x=f:=λx=>S);rcases(show f.K=1\/f.K=2\/f.K=3 by omega) with k|k|k;(.have e:=LY H k;unfold FJ;rw[P_ k];have l:=h.ln;refine⟨h.pu,h.lp,h.nd,h.Ej,h.len,λx i=>?_,λa b=>?_,λb a=>?_,λa r b=>?_,λa r b=>?_,λp x=>?_,λp x=>?_,h.fm,h.fmd,h.is,h.fmb,h.pul,⟨by simp;omega,by simp;omega,by simp;omega,by simp;omega,by simp;omega,by simp;omega,by simp;omega⟩⟩;(.rcases(j x).1 i with i|rfl;(.exact h.Dl x i);grind);(.show(a,b)∈s.ab++[(f.A,f.B)]↔t_ a b∈s.ix++[f];rw[iq,gW,j,h.ab];constructor;(.grind);.rintro(d|d);(.grind);.rw[<-d];exact .inr rfl);(.show(b,a)∈s.un↔∃r,fC a r b∈s.ix++[f];rw[h.un];constructor;(.grind);.rintro⟨r,g⟩;rcases(j _).1 g with g|g;(.grind);.rw[<-g]at k;cases k);(.show _∈s.fr↔_∈s.ix++[f];rw[h.fr,j];exact⟨.inl,λg=>g.elim id λg=>by rw[<-g]at k;cases k⟩);(.show _∈s.it↔_∈s.ix++[f];rw[h.it,j];exact⟨.inl,λg=>g.elim id λg=>by rw[<-g]at k;cases k⟩);(.show _∈s.ra↔x∈s.ix++[f]/\_;rw[h.ra,j];exact⟨λ⟨a,b⟩=>⟨.inl a,b⟩,λ⟨a,b⟩=>⟨(a.elim id λa=>by rw[<-a,b]at k;cases k),b⟩⟩);.show _∈s.fi↔(x∈s.ix++[f]/\_)/\_;rw[h.fi,j];exact⟨λ⟨⟨a,b⟩,c⟩=>⟨⟨.inl a,b⟩,c⟩,λ⟨⟨a,b⟩,c⟩=>⟨⟨(a.elim id λa=>by rw[<-a,b]at k;cases k),b⟩,c⟩⟩);(.have e:=LZ H k;unfold FJ;rw[C_ U,P_ k];have l:=h.ln;refine⟨h.pu,h.lp,h.nd,h.Ej,h.len,λx i=>?_,λa b=>?_,λb a=>?_,λa r b=>?_,λa r b=>?_,λp x=>?_,λp x=>?_,h.fm,h.fmd,h.is,h.fmb,h.pul,⟨by simp;omega,by simp;omega,by simp;omega,by simp;omega,by simp;omega,by simp;omega,by simp;omega⟩⟩;(.rcases(j x).1 i with i|rfl;(.exact h.Dl x i);grind);(.show(a,b)∈s.ab↔t_ a b∈s.ix++[f];rw[h.ab,j];exact⟨.inl,λg=>g.elim id λg=>by rw[<-g]at k;cases k⟩);(.show(b,a)∈s.un++[(f.B,f.A)]↔∃r,fC a r b∈s.ix++[f];rw[iq,gW,h.un];constructor;(.grind);.rintro⟨r,g⟩;rcases(j _).1 g with g|g;(.grind);.rw[<-g];exact .inr rfl);(.show(⟨a,r⟩,b)∈s.fr++[(⟨f.A,f.R⟩,f.B)]↔_∈s.ix++[f];rw[iq,gW,h.fr,j];constructor;(.grind);.rintro(d|d);(.grind);.rw[<-d];exact .inr rfl);(.show(⟨b,r⟩,a)∈s.it++[(⟨f.B,f.R⟩,f.A)]↔_∈s.ix++[f];rw[iq,gW,h.it,j];constructor;(.grind);.rintro(d|d);(.grind);.rw[<-d];exact .inr rfl);(.show _∈s.ra↔x∈s.ix++[f]/\_;rw[h.ra,j];exact⟨λ⟨a,b⟩=>⟨.inl a,b⟩,λ⟨a,b⟩=>⟨(a.elim id λa=>by rw[<-a,b]at k;cases k),b⟩⟩);.show _∈s.fi↔(x∈s.ix++[f]/\_)/\_;rw[h.fi,j];exact⟨λ⟨⟨a,b⟩,c⟩=>⟨⟨.inl a,b⟩,c⟩,λ⟨⟨a,b⟩,c⟩=>⟨⟨(a.elim id λa=>by rw[<-a,b]at k;cases k),b⟩,c⟩⟩);.have e:=Io H k;unfold FJ;rw[C_ U,C_ U];have l:=h.ln;refine⟨h.pu,h.lp,h.nd,h.Ej,h.len,λx i=>?_,λa b=>?_,λb a=>?_,λa r b=>?_,λa r b=>?_,λp x=>?_,λp x=>?_,h.fm,h.fmd,h.is,h.fmb,h.pul,⟨by simp;omega,by simp;omega,by simp;omega,by simp;omega,by simp;omega,by simp;omega,by(split<;>simp)<;>omega⟩⟩;(.rcases(j x).1 i with i|rfl;(.exact h.Dl x i);grind);(.show(a,b)∈s.ab↔t_ a b∈s.ix++[f];rw[h.ab,j];exact⟨.inl,λg=>g.elim id λg=>by rw[<-g]at k;cases k⟩);(.show(b,a)∈s.un↔∃r,fC a r b∈s.ix++[f];rw[h.un];constructor;(.grind);.rintro⟨r,g⟩;rcases(j _).1 g with g|g;(.grind);.rw[<-g]at k;cases k);(.show _∈s.fr↔_∈s.ix++[f];rw[h.fr,j];exact⟨.inl,λg=>g.elim id λg=>by rw[<-g]at k;cases k⟩);(.show _∈s.it↔_∈s.ix++[f];rw[h.it,j];exact⟨.inl,λg=>g.elim id λg=>by rw[<-g]at k;cases k⟩);(.show(p,x)∈s.ra++[(⟨f.A,f.R⟩,f)]↔x∈s.ix++[f]/\x=fG p.atom p.U x.lo x.hi;rw[iq,gW,h.ra,j];constructor;(.grind);.rintro⟨a|a,b⟩;(.grind);.subst a;refine .inr ?_;have n:p.atom=x.A:=(iM Fc.A b).symm;have o:p.U=x.R:=(iM Fc.R b).symm;rw[<-n,<-o]);.show(p,x)∈s.fi++(if f∈s.fm then[(⟨f.A,f.R⟩,f)] else[])↔(x∈s.ix++[f]/\x=fG p.atom p.U x.lo x.hi)/\x∈s.fm;rw[iq,h.fi,j];constructor;(.grind);.rintro⟨⟨a|a,b⟩,c⟩;(.grind);.subst a;refine .inr ?_;rw[P_ c,gW];have n:p.atom=x.A:=(iM Fc.A b).symm;have o:p.U=x.R:=(iM Fc.R b).symm;rw[<-n,<-o]
def zF(h:Inv P most s){k:Ky}(a:uq P x)(b:k∈iY x):x∈jC s.pu k:=jN.2 ((h.pu k x).2 ⟨a,b⟩)
def cover{S:ES}{c:Fc}(H:f∈S.ix)(h:Cq P (·∈S.fm) (·∈S.ix) f c)(o:f.K=(k:Int)):∃(i:Nat)(r:FuncId×(ES->Fc->Fc->Prop)),(R6 k)[i]?=some r/\∀n,To P most S n (λ_=>False)->r.2 n f c:=by
 (have I:∀{n:ES},To P most S n (λ_=>False)->∀x,x∈S.ix->x∈n.ix:=λh x A=>by rw[h.ix];exact A);(have F:∀{n:ES},To P most S n (λ_=>False)->∀x,x∈S.fm->x∈n.fm:=λh x A=>by obtain⟨t,e⟩:=h.fm;rw[e];exact Jf _ A);(have q:∀{a b:St},(t_ a b).K=(k:Int)->k=1:=λh=>by simp[t_]at h;omega);(have u:∀{a r b:St},(fC a r b).K=(k:Int)->k=2:=λh=>by simp[fC]at h;omega);have K:∀{a r:St}{l h:Int},(fG a r l h).K=(k:Int)->k=3:=λh=>by simp[fG]at h;omega
 cases h with
 | @contain a b c j=>
   obtain rfl:=q o;exact⟨0,_,rfl,λn g=>⟨kF b c,zF g.inv j (by simp[iY,kF,t_]),rfl⟩⟩
 | @both a b d c f j m p v=>
   (have C:k=1:=by rcases v with rfl|rfl<;>exact q o);subst C;refine⟨1,_,rfl,λn g=>⟨wP b d c,zF g.inv j ?_,?_,?_,?_⟩⟩;(.rcases v with rfl|rfl;(.by_cases e:d=b<;>simp[iY,wP,t_,e]);.by_cases e:d=b<;>simp[iY,wP,t_,e]);(.rcases v with rfl|rfl<;>exact g.inv.Dl _ (I g _ m));(.rcases v with rfl|rfl<;>exact g.inv.Dl _ (I g _ p));.rcases v with rfl|rfl<;>rfl
 | @some a b r c j=>
   obtain rfl:=q o;exact⟨2,_,rfl,λn g=>⟨mE b r c,zF g.inv j (by simp[iY,mE,t_]),rfl⟩⟩
 | @VK a b r x d j m=>
   obtain rfl:=q o;exact⟨3,_,rfl,λn g=>⟨og r b d,zF g.inv j (by simp[iY,og,t_]),a,jN.2 ((g.inv.it a r x).2 (I g _ m)),rfl⟩⟩
 | @Np a r x j=>
   obtain rfl:=q o;exact⟨4,_,rfl,λn g=>⟨rfl,a,jN.2 ((g.inv.un x a).2 ⟨r,I g _ j⟩),rfl⟩⟩
 | @value a b r l h j=>
   obtain rfl:=q o;exact⟨5,_,rfl,λn g=>⟨Vy b r l h,zF g.inv j (by simp[iY,Vy,t_]),rfl⟩⟩
 | @U a r b t j=>
   obtain rfl:=u o;exact⟨0,_,rfl,λn g=>⟨sK r t,zF g.inv j (by simp[iY,sK,fC]),rfl⟩⟩
 | @Nq a r b s c t j m=>
   obtain rfl:=u o;exact⟨1,_,rfl,λn g=> .inl ⟨jV r s t,zF g.inv j (by simp[iY,jV,fC]),c,jN.2 ((g.inv.fr b s c).2 (I g _ m)),rfl⟩⟩
 | @Nr a r b s c t j m=>
   obtain rfl:=u o;exact⟨1,_,rfl,λn g=> .inr ⟨jV r s t,zF g.inv j (by simp[iY,jV,fC]),a,jN.2 ((g.inv.it a r b).2 (I g _ m)),rfl⟩⟩
 | @VL a r b c d j m=>
   obtain rfl:=u o;exact⟨2,_,rfl,λn g=>⟨c,jN.2 ((g.inv.ab b c).2 (I g _ m)),og r c d,zF g.inv j (by simp[iY,og,fC]),rfl⟩⟩
 | @Ns a r b j=>
   obtain rfl:=u o;exact⟨3,_,rfl,λn g=>⟨g.inv.Dl _ (I g _ j),rfl⟩⟩
 | @meet a r l h w y j m p=>
   obtain rfl:=K o;refine⟨0,_,rfl,λn g=> .inl ⟨fG a r w y,?_,p,rfl⟩⟩;unfold YE;split;(.exact jN.2 ((g.inv.ra ⟨a,r⟩ _).2 ⟨I g _ j,rfl⟩));.rename_i B;refine jN.2 ((g.inv.fi ⟨a,r⟩ _).2 ⟨⟨I g _ j,rfl⟩,?_⟩);rcases m with m|m;(.exact absurd (F g _ m) B);.exact F g _ m
 | @apart a r l h w y j m p=>
   obtain rfl:=K o;refine⟨0,_,rfl,λn g=> .inr ⟨⟨fG a r w y,?_,p⟩,rfl⟩⟩;unfold YE;split;(.exact jN.2 ((g.inv.ra ⟨a,r⟩ _).2 ⟨I g _ j,rfl⟩));.rename_i B;refine jN.2 ((g.inv.fi ⟨a,r⟩ _).2 ⟨⟨I g _ j,rfl⟩,?_⟩);rcases m with m|m;(.exact absurd (F g _ m) B);.exact F g _ m
 | @out a r c l h w y j m p=>
   obtain rfl:=K o;exact⟨1,_,rfl,λn g=>⟨AQ r w y c,zF g.inv j (by simp[iY,AQ,fG]),m,p,rfl⟩⟩



