import Derived.Test.YtgoapenfbanhaaaGreatDoorJ26
set_option linter.all false
set_option maxRecDepth 100000
set_option maxHeartbeats 32000000
open List renaming length->l_
open Go.Maps Go.RowKit Go.Sort Go.Proofs.Tryz
open Go renaming World->W_,Value->V_,maxLen->m_,TypeId->T_
namespace Go.Proofs.YtgoapenfbanhaaaGreatDoor
variable{a α:Type}{c f:Fc}{F:Int}{A:J_}{l:List St}{b g j k o:Nat}{p:Pc}{P:Program}{s:St}{t:T_}{u v:V_}{W d w w5:W_}{C:α->Fc->Prop}
def QV(a b:St)(w:W_):Y 184 #[d_ a,d_ b] w (.agg (mH (t_ a b))):=by unfold mH t_ d_;go_in;go_wp2;refine rY (gM rfl _ _ rfl (Nt (f_.new _ _ _))) rfl ⟨rfl,bA⟩
def nO(f:Fc):l_ (kX f)=6:=rfl
def NT:(prog.info? 152).map (λi=>(i.zero,i.size,i.bytes))=some (some (.agg (mH ⟨0,[],[],[],0,0⟩)),6,72):=k_
def acU(W:W_)(q:Fc):SF (L_ W 152 #[q.K,d_ q.A,d_ q.B,d_ q.R,q.lo,q.hi]) (.slice W 1 1) [q]:=
 ⟨_,1,rfl,gH _,by simp[m_],λ_=>⟨_,0,rfl,S,λi x hi j y a=>by
   (obtain rfl:i=0:=by have:=(jv.1 hi).1;simp at this;omega);injection hi with hi;subst hi;have:=(f_.new W 152 (mH q)).cell (0+0*6+j);rw[show 0+0*6+j=j by omega]at this ⊢;rw[this,<-a]
   simp[kX]⟩⟩
def QW{lo K d:Nat}{f:List Pc}(g:Col w lo K d v F f)(H:G w W)(a b:St)(m:l_ a<=100000)(hb:l_ b<=100000)(p: -1<=F/\F<=100000)(o:l_ f<=90000):
 z 186 #[.pointer K,.slice W 2 2] (L_ W 9 #[d_ a,d_ b])
  λe w'=>e=.returned (.tuple #[])/\∃v',Col w' lo K d v' F (gU F f [fE a,fE b])/\mq K d v w v' w':=by
 have j:=X_ H (.cells #[d_ a,d_ b] 9)
 refine(QC [a,b] _ _ lo K d v F f (g.up j) (S1.lit W _ rfl 9 _ d_ [a,b] 2 rfl rfl (by simp[m_])) (λx n c e h=>?_) (λs i=>by simp at i;rcases i with rfl|rfl<;>assumption) p (by simp;omega)).mono ?_
 .injection e with e _ _;injection e with e;rw[<-e];exact g.fresh H.size
 .rintro e w' ⟨rfl,v',k,l⟩;exact⟨rfl,v',k,(mq.of j).trans l⟩
def LQ(n:Int)(w:W_):∃k a,w.heap.size<=k/\z 138 #[n] w λe w'=>e=.returned (.pointer k)/\Col w' w k a () n []/\G w w':=⟨_,_,U,uM n w⟩
def oP(x:Ax):Int:=if Z_ x≠0 then Z_ x else if x.K=5\/x.K=6\/x.K=7 then 22 else 0
def uQ(w:W_)(x:Ax)(e:Ending)(w':W_):Prop:=G w w'/\∃v u,e=.returned (.tuple #[v,u,(oP x)])/\(oP x≠0->v=.slice none 0 0/\u=.slice none 0 0)/\(oP x=0->Rd w' kJ 10 v (nA x)/\SF w' u (lM x))
def Yi(x:Ax):∀p∈ng x,p.fM=0:=by intro p d;have L:=LP;have R:=H7;unfold ng at d;(have M:∀a q,q=fE a->q.fM=0:=λa q h=>by rw[h];rfl);(have S:∀a b q,q=kF a b->q.fM=0:=λa b q h=>by rw[h];rfl);(have T:∀a b c q,q=mE a b c->q.fM=0:=λa b c q h=>by rw[h];rfl);(repeat' split at d);(all_goals try simp only[iq,gW,jL,Vp,Vq,Y0]at d);(.rcases d with h|h|h|h;(.exact M _ _ h);(.exact M _ _ h);(.exact R _ p h);.exact L _ p h);(.rcases d with h|h|h|h|h|h;(.exact M _ _ h);(.exact M _ _ h);(.exact R _ p h);(.exact L _ p h);(.exact R _ p h);.exact L _ p h);(.rcases d with h|h|h|h|h|h;(.exact M _ _ h);(.exact M _ _ h);(.exact S _ _ _ h);(.exact R _ p h);(.exact S _ _ _ h);.exact R _ p h);(.rcases d with h|h|h|h;(.exact M _ _ h);(.exact M _ _ h);(.exact T _ _ _ _ h);.exact L _ p h);(.rcases d with h|h|h;(.exact M _ _ h);(.exact M _ _ h);.exact L _ p h);.rcases d with h|h;(.exact M _ _ h);.exact M _ _ h
def LU(x:Ax):nA x=gU (-1) [] (ng x):=(Hl (-1) (ng x) (Yi x)).symm
inductive Slot
 |queue
 |loops
 |pc (k:Ky)
 |ab (a:St)
 |un (a:St)
 |fr (p:Sp)
 |it (p:Sp)
 |ra (p:Sp)
 |fi (p:Sp)
deriving DecidableEq
variable{i:Slot}{QZ m vf:Slot->V_}
def eT:Slot->T_
 | .queue=>152
 | .pc _=>150
 | .ra _=>152
 | .fi _=>152
 |_=>9
def kT:Slot->Nat
 | .queue=>6
 | .pc _=>10
 | .ra _=>6
 | .fi _=>6
 |_=>1
def SC(s:ES):Slot->List O_
 | .queue=>s.D.map kX
 | .loops=>s.lp.map λx=>[d_ x]
 | .pc k=>(jC s.pu k).map kJ
 | .ab a=>(jC s.ab a).map λx=>[d_ x]
 | .un a=>(jC s.un a).map λx=>[d_ x]
 | .fr p=>(jC s.fr p).map λx=>[d_ x]
 | .it p=>(jC s.it p).map λx=>[d_ x]
 | .ra p=>(jC s.ra p).map kX
 | .fi p=>(jC s.fi p).map kX
def ni(D:List Fc):Fc->Option V_:=λf=>if f∈D then some (.bool true) else none
theorem Ic(D:List Fc)(f:Fc):upd (ni D) f (some (.bool true))=ni (D++[f]):=by funext x;unfold upd ni;grind
theorem BK[DecidableEq a](vf:a->V_)(g:a->List α)(r:a)(x:α)(v':V_):upd (lq vf g) r (some v')=lq (iE vf r v') (iE g r (g r++[x])):=by funext y;unfold upd lq iE;by_cases e:y=r;(.subst e;simp only[ds_];cases b:g y<;>simp);grind
def Yb(X:Nat->Prop)(vf:Slot->V_)(g:Nat):Prop:=X g\/∃i,(vf i).ownBlock=some g
structure sF(X:Nat->Prop)(vf:Slot->V_)(w:W_)(mP:Slot->V_)(w':W_):Prop where
 aw:Aw (Yb X vf) w w'
 up:∀g,Yb X mP g->Yb X vf g\/w<=g
section
variable{a:A_}
variable{X:Nat->Prop}{vf mP agl:Slot->V_}{w w' w'':W_}
def sF.refl(X:Nat->Prop)(vf:Slot->V_)(w:W_):sF X vf w vf w:=⟨.refl _ _,λ_ h=> .inl h⟩
def sF.trans(h:sF X vf w mP w')(k:sF X mP w' agl w''):sF X vf w agl w'':=by refine⟨⟨k.aw.os.trans h.aw.os,k.aw.tape.trans h.aw.tape,k.aw.output.trans h.aw.output,gY h.aw.size k.aw.size,λg b c=>?_⟩,λg b=>?_⟩;(.exact(k.aw.block g (qO b h.aw.size) λd=>by rcases h.up g d with a|a;exact c a;omega).trans (h.aw.block g b c));.rcases k.up g b with a|a;(.exact h.up g a);.exact .inr (gY h.aw.size a)
def sF.then(h:sF X vf w mP w')(k:G w' w''):sF X vf w mP w'':=⟨h.aw.then k,h.up⟩
def sF.of(h:G w w'):sF X vf w vf w':=⟨.of h,λ_ h=> .inl h⟩
theorem sF.nx(h:sF X vf w mP w')(c:g<w)(b:¬Yb X vf g):¬Yb X mP g:=λe=>by rcases h.up g e with a|a;(.grind);.omega
def sF.blk(h:sF X vf w mP w')(hb:f_ w g t a)(b:¬Yb X vf g):f_ w' g t a:=h.aw.blk hb b
def sF.cell(h:sF X vf w mP w')(H:N w b o u)(a:¬Yb X vf b):N w' b o u:=h.aw.cell H a
end
structure EM(w:W_)(B:Nat)(vf:Slot->V_)(s:ES):Prop where
 mp:h_ w KY B (l_ s.pu) (lq (λk=>vf (.pc k)) (jC s.pu))
 kn:oL w KF (B+1) (l_ s.D) (ni s.D)
 ma:h_ w KT (B+2) (l_ s.ab) (lq (λk=>vf (.ab k)) (jC s.ab))
 mu:h_ w KT (B+3) (l_ s.un) (lq (λk=>vf (.un k)) (jC s.un))
 mf:h_ w KS (B+4) (l_ s.fr) (lq (λk=>vf (.fr k)) (jC s.fr))
 mi:h_ w KS (B+5) (l_ s.it) (lq (λk=>vf (.it k)) (jC s.it))
 mr:h_ w KS (B+6) (l_ s.ra) (lq (λk=>vf (.ra k)) (jC s.ra))
 ms:h_ w KS (B+7) (l_ s.fi) (lq (λk=>vf (.fi k)) (jC s.fi))
 mz:h_ w KF (B+8) (l_ s.fm) (ni s.fm)
abbrev BL(B:Nat)(e l:V_):Array V_:= #[.map (some B),l,.map (some (B+1)),e,.map (some (B+2)),.map (some (B+3)),.map (some (B+4)),.map (some (B+5)),.map (some (B+6)),.map (some (B+7)),.map (some (B+8))]
structure jR(w:W_)(B:Nat)(X:Nat->Prop)(em:V_)(vf:Slot->V_)(s:ES):Prop where
 blk:f_ w (B+9) 227 (BL B em (vf .loops))
 rows:RF w X B eT kT vf (SC s)
 xb:∀j,j<=9->X (B+j)
 xlt:∀g,X g->B<=g/\g<w
 m:EM w B vf s
section
variable{c:Bool}
variable{w w' w'':W_}{B:Nat}{X:Nat->Prop}{em:V_}{vf:Slot->V_}{s:ES}
def EM.mY(h:EM w B vf s)(hb:∀j,j<=8->w'.heap[B+j]?=w.heap[B+j]?):EM w' B vf s:=⟨h.mp.mY (hb 0 U),h.kn.mY (hb 1 U),h.ma.mY (hb 2 U),h.mu.mY (hb 3 U),h.mf.mY (hb 4 U),h.mi.mY (hb 5 U),h.mr.mY (hb 6 U),h.ms.mY (hb 7 U),h.mz.mY (hb 8 U)⟩
def jR.lt(h:jR w B X em vf s)(a:Yb X vf g):B<=g/\g<w:=by rcases a with b|⟨i,hi⟩;(.exact h.xlt g b);.exact h.rows.lt hi
def jR.fresh(h:jR w B X em vf s)(a:w<=g):¬Yb X vf g:=λe=>by have:=(h.lt e).2;omega
def jR.low(h:jR w B X em vf s)(a:g<B):¬Yb X vf g:=λe=>by have:=(h.lt e).1;omega
def jR.at(h:jR w B X em vf s)(b:(w:Nat)<=w')(hb:∀g,Yb X vf g->w'.heap[g]?=w.heap[g]?):jR w' B X em vf s:=⟨(hb _ (.inl (h.xb 9 U))).trans h.blk,h.rows.at λi g hi=>hb g (.inr ⟨i,hi⟩),h.xb,λg a=>⟨(h.xlt g a).1,qO (h.xlt g a).2 b⟩,h.m.mY λj c=>hb _ (.inl (h.xb j U))⟩
def jR.up(h:jR w B X em vf s)(hb:G w w'):jR w' B X em vf s:=h.at hb.size λg a=>hb.block g (h.lt a).2
def jR.grown(h:jR w B X em vf s)(a:w.grownBy w' (some b))(hb:¬Yb X vf b):jR w' B X em vf s:=h.at a.size λg c=>a.block g (h.lt c).2 λe=>by injection e with e;subst e;exact hb c
def jR.below(h:jR w B X em vf s)(k:sF X vf w m w'):Below B w w':=by(have H:B<=w:=by have:=(h.xlt _ (h.xb 0 U));omega);exact k.aw.below H λg a b=>h.low a b
def BM:∀l:List St,(l.map λx=>[d_ x]).flatten=l.map d_
 |[]=>rfl
 |a::l=>by simp only[Zc,List.flatten_cons,BM l];rfl
theorem vT{base:Nat}(h:w.ownsRow base 9 1 v (l_ (l.map λx=>[d_ x])) (l.map λx=>[d_ x]).flatten):jQ w v l:=by refine jg (w:=w) (base:=base) (e:=9) ?_;rw[BM,qm]at h;grind
def jR.rdP(h:jR w B X em vf s)(k:Ky):Rd w kJ 10 (vf (.pc k)) (jC s.pu k):=by have:=h.rows.own (.pc k);rw[show SC s (.pc k)=(jC s.pu k).map kJ from rfl,qm,<-Ze]at this;exact nD mM U this
def jR.rdF(h:jR w B X em vf s)(k:Sp):Rd w kX 6 (vf (.ra k)) (jC s.ra k)/\Rd w kX 6 (vf (.fi k)) (jC s.fi k):=by have a:=h.rows.own (.ra k);have b:=h.rows.own (.fi k);rw[show SC s (.ra k)=(jC s.ra k).map kX from rfl,qm,<-Ze]at a;rw[show SC s (.fi k)=(jC s.fi k).map kX from rfl,qm,<-Ze]at b;exact⟨nD nO U a,nD nO U b⟩
def jR.rdQ(h:jR w B X em vf s):Rd w kX 6 (vf .queue) s.D:=by have a:=h.rows.own .queue;rw[show SC s .queue=s.D.map kX from rfl,qm,<-Ze]at a;exact nD nO U a
def jR.rdL(h:jR w B X em vf s):jQ w (vf .loops) s.lp:=vT (h.rows.own .loops)
def jR.rdA(h:jR w B X em vf s)(a:St):jQ w (vf (.ab a)) (jC s.ab a):=vT (h.rows.own (.ab a))
def jR.rdU(h:jR w B X em vf s)(a:St):jQ w (vf (.un a)) (jC s.un a):=vT (h.rows.own (.un a))
def jR.rdR(h:jR w B X em vf s)(a:Sp):jQ w (vf (.fr a)) (jC s.fr a):=vT (h.rows.own (.fr a))
def jR.rdI(h:jR w B X em vf s)(a:Sp):jQ w (vf (.it a)) (jC s.it a):=vT (h.rows.own (.it a))
def jP{b:Type}{vf:b->V_}{g:b->List α}{k:b}(h:g k=[]->vf k=.slice none 0 0):(lq vf g k).getD (.slice none 0 0)=vf k:=by
 unfold lq
 cases c:g k with
 |nil=>simp only[];rw[h c];rfl
 |cons a l=>rfl
def jR.agm(h:jR w B X em vf s)(k:Ky)(a:okY k):(Instr.lookup 220 (.map (some B)) (.agg (vY k)) false).run prog w=.ok (vf (.pc k)) w:=by have:=h.m.mp.look (K:=KY) underlying220 (zeroValue144 w) (x:=k) a;rw[jP (vf:=λk=>vf (.pc k)) (λe=>h.rows.nil (.pc k) (by simp[SC,e]))]at this;exact this
def jR.aaP(h:jR w B X em vf s)(a:St)(b:l_ a<=m_):(Instr.lookup 223 (.map (some (B+2))) (.string ⟨a.toArray⟩) false).run prog w=.ok (vf (.ab a)) w:=by have:=h.m.ma.look (K:=KT) underlying223 (zeroValue28 w) (x:=a) b;rw[jP (vf:=λk=>vf (.ab k)) (λe=>h.rows.nil (.ab a) (by simp[SC,e]))]at this;exact this
def jR.aaQ(h:jR w B X em vf s)(a:St)(b:l_ a<=m_):(Instr.lookup 223 (.map (some (B+3))) (.string ⟨a.toArray⟩) false).run prog w=.ok (vf (.un a)) w:=by have:=h.m.mu.look (K:=KT) underlying223 (zeroValue28 w) (x:=a) b;rw[jP (vf:=λk=>vf (.un k)) (λe=>h.rows.nil (.un a) (by simp[SC,e]))]at this;exact this
def jR.agn(h:jR w B X em vf s)(a:Sp)(b:okS a):(Instr.lookup 224 (.map (some (B+4))) (.agg (vS a)) false).run prog w=.ok (vf (.fr a)) w:=by have:=h.m.mf.look (K:=KS) underlying224 (zeroValue28 w) (x:=a) b;rw[jP (vf:=λk=>vf (.fr k)) (λe=>h.rows.nil (.fr a) (by simp[SC,e]))]at this;exact this
def jR.agp(h:jR w B X em vf s)(a:Sp)(b:okS a):(Instr.lookup 224 (.map (some (B+5))) (.agg (vS a)) false).run prog w=.ok (vf (.it a)) w:=by have:=h.m.mi.look (K:=KS) underlying224 (zeroValue28 w) (x:=a) b;rw[jP (vf:=λk=>vf (.it k)) (λe=>h.rows.nil (.it a) (by simp[SC,e]))]at this;exact this
def jR.agq(h:jR w B X em vf s)(a:Sp)(b:okS a):(Instr.lookup 225 (.map (some (B+6))) (.agg (vS a)) false).run prog w=.ok (vf (.ra a)) w:=by have:=h.m.mr.look (K:=KS) underlying225 (zeroValue90 w) (x:=a) b;rw[jP (vf:=λk=>vf (.ra k)) (λe=>h.rows.nil (.ra a) (by simp[SC,e]))]at this;exact this
def jR.adH(h:jR w B X em vf s)(a:Sp)(b:okS a):(Instr.lookup 225 (.map (some (B+7))) (.agg (vS a)) false).run prog w=.ok (vf (.fi a)) w:=by have:=h.m.ms.look (K:=KS) underlying225 (zeroValue90 w) (x:=a) b;rw[jP (vf:=λk=>vf (.fi k)) (λe=>h.rows.nil (.fi a) (by simp[SC,e]))]at this;exact this
def mQ{n:Nat}{D:List Fc}(h:h_ w KF b n (ni D))(d:okF f)(H:decide (f∈D)=c):(Instr.lookup 221 (.map (some b)) (.agg (vF f)) false).run prog w=.ok (.bool c) w:=by have:=h.look (K:=KF) underlying221 (zeroValue4 w) (x:=f) d;unfold ni at this;by_cases a:f∈D;(.rw[P_ a]at this;rw[<-H,y7 a];exact this);.rw[C_ a]at this;rw[<-H,sj a];exact this
theorem SmF.ok(h:SmF f):okF f:=by(have m:(100000:Nat)<=m_:=by simp[m_]);have d:=h.k;(have c:∀x:Int,-1099511627776<=x/\x<=1099511627776->(Lit.int .i64 x).wf=true:=λx h=>uN (by rw[jT];grind));exact⟨c _ U,gY h.a m,gY h.b m,gY h.r m,c _ h.lo,c _ h.hi⟩
end
def pO{c:a->Slot}(h:∀k,c k≠i):(λk=>iE vf i v (c k))=λk=>vf (c k):=by funext k;exact ku _ _ (h k)
theorem acV[DecidableEq a]{c:a->Slot}(p:a)(h:∀k,c k=c p->k=p):(λk=>iE vf (c p) v (c k))=iE (λk=>vf (c k)) p v:=by funext k;unfold iE;grind
structure jG(w w5:W_)(B:Nat)(X:Nat->Prop)(vf:Slot->V_)(s:ES)(i:Slot)(q:Nat)(v':V_)(c:List V_):Prop where
 rows:RF w5 X B eT kT (iE vf i v') (iE (SC s) i (SC s i++[c]))
 aw:Aw (λg=>g=q\/(vf i).ownBlock=some g) w w5
 up:∀g,v'.ownBlock=some g->(vf i).ownBlock=some g\/w<=g
section
variable{w w3 w4 w5:W_}{B:Nat}{X:Nat->Prop}{em:V_}{vf:Slot->V_}{s:ES}{i:Slot}{q n:Nat}{v':V_}{c xs:O_}
theorem FI(h:RF w X B eT kT vf (SC s))(f:∀g,X g->g<w)(i:Slot)(k:X q)(a:Aw (λg=>g=q) w w3)(C:w4.ownsRow B (eT i) (kT i) v' n xs)(r:n=l_ (SC s i)+1)(x:xs=(SC s i).flatten++c)(b:w3.grownBy w4 (vf i).ownBlock)(o:v'.ownBlock=(vf i).ownBlock\/v'.ownBlock=some w3.heap.size)(d:w4.grownBy w5 (some q)):jG w w5 B X vf s i q v' c:=by(have y:RF w3 X B eT kT vf (SC s):=h.at λj g l=>a.block g (h.lt l).2 λe=>by subst e;exact h.fx j _ l k);have A:=y.add (c:=c) C r x b o (λg b=>qO (f g b) a.size);refine⟨A.kept d k,⟨d.os.trans (b.os.trans a.os),d.tape.trans (b.tape.trans a.tape),d.output.trans (b.output.trans a.output),gY a.size (gY b.size d.size),λg p f=>?_⟩,λg H=>?_⟩;(.have m:g<w3:=qO p a.size;have t:g<w4:=qO m b.size;(have u:some g≠some q:=λe=>f (.inl (by grind)));(have v:some g≠(vf i).ownBlock:=λe=>f (.inr e.symm));exact(d.block g t u).trans ((b.block g m v).trans (a.block g p λe=>f (.inl e))));.rcases o with e|e;(.grind);.rw[e]at H;injection H with H;exact .inr (by rw[<-H];exact a.size)
theorem jG.to(R:jG w w5 B X vf s i q v' c)(h:X q):sF X vf w (iE vf i v') w5:=by refine⟨R.aw.mono λg _ b=>?_,λg d=>?_⟩;(.rcases b with rfl|b;(.exact .inl h);.exact .inr ⟨i,b⟩);.rcases d with d|⟨j,a⟩;(.exact .inl (.inl d));.by_cases e:j=i;(.subst e;rw[l6]at a;rcases R.up g a with f|f;(.exact .inl (.inr ⟨_,f⟩));grind);.rw[ku _ _ e]at a;exact .inl (.inr ⟨j,a⟩)
theorem jG.at(h:jR w B X em vf s)(R:jG w w5 B X vf s i q v' c)(a:X g)(b:g≠q):w5.heap[g]?=w.heap[g]? :=R.aw.block g (h.xlt g a).2 λe=>by rcases e with e|e;(.grind);.exact h.rows.fx i g e a
def jG.xlt(h:jR w B X em vf s)(R:jG w w5 B X vf s i q v' c):∀g,X g->B<=g/\g<w5:=λg a=>⟨(h.xlt g a).1,qO (h.xlt g a).2 R.aw.size⟩
structure EMk(w:W_)(B:Nat)(em:V_)(vf:Slot->V_)(s:ES)(i:Slot)(j:Nat):Prop where
 mp:j≠0->(∀k,.pc k≠i)->h_ w KY B (l_ s.pu) (lq (λk=>vf (.pc k)) (jC s.pu))
 kn:j≠1->oL w KF (B+1) (l_ s.D) (ni s.D)
 ma:j≠2->(∀k,.ab k≠i)->h_ w KT (B+2) (l_ s.ab) (lq (λk=>vf (.ab k)) (jC s.ab))
 mu:j≠3->(∀k,.un k≠i)->h_ w KT (B+3) (l_ s.un) (lq (λk=>vf (.un k)) (jC s.un))
 mf:j≠4->(∀k,.fr k≠i)->h_ w KS (B+4) (l_ s.fr) (lq (λk=>vf (.fr k)) (jC s.fr))
 mi:j≠5->(∀k,.it k≠i)->h_ w KS (B+5) (l_ s.it) (lq (λk=>vf (.it k)) (jC s.it))
 mr:j≠6->(∀k,.ra k≠i)->h_ w KS (B+6) (l_ s.ra) (lq (λk=>vf (.ra k)) (jC s.ra))
 ms:j≠7->(∀k,.fi k≠i)->h_ w KS (B+7) (l_ s.fi) (lq (λk=>vf (.fi k)) (jC s.fi))
 mz:j≠8->h_ w KF (B+8) (l_ s.fm) (ni s.fm)
 blk: .loops≠i->f_ w (B+9) 227 (BL B em (vf .loops))
def jR.keep(h:jR w B X em vf s)(e:j<=8)(R:jG w w5 B X vf s i (B+j) v' c):EMk w5 B em (iE vf i v') s i j:=by(have k:∀t,t<=9->j≠t->w5.heap[B+t]?=w.heap[B+t]? :=λt d f=>R.at h (h.xb t d) U);exact⟨λa b=>by rw[pO (c:=Slot.pc) b];exact h.m.mp.mY (k 0 U a),λa=>h.m.kn.mY (k 1 U a),λa b=>by rw[pO (c:=Slot.ab) b];exact h.m.ma.mY (k 2 U a),λa b=>by rw[pO (c:=Slot.un) b];exact h.m.mu.mY (k 3 U a),λa b=>by rw[pO (c:=Slot.fr) b];exact h.m.mf.mY (k 4 U a),λa b=>by rw[pO (c:=Slot.it) b];exact h.m.mi.mY (k 5 U a),λa b=>by rw[pO (c:=Slot.ra) b];exact h.m.mr.mY (k 6 U a),λa b=>by rw[pO (c:=Slot.fi) b];exact h.m.ms.mY (k 7 U a),λa=>h.m.mz.mY (k 8 U a),λa=>by rw[ku _ _ a];exact(k 9 U U).trans h.blk⟩
theorem acW[DecidableEq a]{K:KK P t a}{l:List (a×α)}{f:a->Slot}(p:a)(x:α)(d:h_ w5 K b (l_ l+1) (upd (lq (λk=>vf (f k)) (jC l)) p (some v')))(h:∀k,f k=f p->k=p):h_ w5 K b (l_ (l++[(p,x)])) (lq (λk=>iE vf (f p) v' (f k)) (jC (l++[(p,x)]))):=by rw[acV (c:=f) p h,GN,<-BK,ny];grind
theorem jR.UG(h:jR w B X em vf s):(∀(p:Ky)(x:Pc),jG w w5 B X vf s (.pc p) (B+0) v' (kJ x)->h_ w5 KY (B+0) (l_ s.pu+1) (upd (lq (λk=>vf (.pc k)) (jC s.pu)) p (some v'))->jR w5 B X em (iE vf (.pc p) v') {s with pu:=s.pu++[(p,x)]})/\ (∀(p:St)(x:St),jG w w5 B X vf s (.ab p) (B+2) v' ([d_ x])->h_ w5 KT (B+2) (l_ s.ab+1) (upd (lq (λk=>vf (.ab k)) (jC s.ab)) p (some v'))->jR w5 B X em (iE vf (.ab p) v') {s with ab:=s.ab++[(p,x)]})/\ (∀(p:St)(x:St),jG w w5 B X vf s (.un p) (B+3) v' ([d_ x])->h_ w5 KT (B+3) (l_ s.un+1) (upd (lq (λk=>vf (.un k)) (jC s.un)) p (some v'))->jR w5 B X em (iE vf (.un p) v') {s with un:=s.un++[(p,x)]})/\ (∀(p:Sp)(x:St),jG w w5 B X vf s (.fr p) (B+4) v' ([d_ x])->h_ w5 KS (B+4) (l_ s.fr+1) (upd (lq (λk=>vf (.fr k)) (jC s.fr)) p (some v'))->jR w5 B X em (iE vf (.fr p) v') {s with fr:=s.fr++[(p,x)]})/\ (∀(p:Sp)(x:St),jG w w5 B X vf s (.it p) (B+5) v' ([d_ x])->h_ w5 KS (B+5) (l_ s.it+1) (upd (lq (λk=>vf (.it k)) (jC s.it)) p (some v'))->jR w5 B X em (iE vf (.it p) v') {s with it:=s.it++[(p,x)]})/\ (∀(p:Sp)(x:Fc),jG w w5 B X vf s (.ra p) (B+6) v' (kX x)->h_ w5 KS (B+6) (l_ s.ra+1) (upd (lq (λk=>vf (.ra k)) (jC s.ra)) p (some v'))->jR w5 B X em (iE vf (.ra p) v') {s with ra:=s.ra++[(p,x)]})/\ (∀(p:Sp)(x:Fc),jG w w5 B X vf s (.fi p) (B+7) v' (kX x)->h_ w5 KS (B+7) (l_ s.fi+1) (upd (lq (λk=>vf (.fi k)) (jC s.fi)) p (some v'))->jR w5 B X em (iE vf (.fi p) v') {s with fi:=s.fi++[(p,x)]}):=by refine⟨?_,?_,?_,?_,?_,?_,?_⟩<;>intro p x R a;all_goals have o:=h.keep D R;refine⟨o.blk (λe=>by cases e),Eq.subst (motive:=λz=>RF w5 X B eT kT _ z) (Eq.symm ?_) R.rows,h.xb,R.xlt h,?_⟩;(.funext j;(cases j<;>first|rfl|skip);all_goals rename_i b;unfold iE;by_cases e:b=p;(.subst e;simp[SC,GN,iE]);.rw[C_ (λd=>e (by grind))];simp[SC,GN,iE,e]);.constructor<;>first|exact acW p x a (λk e=>by grind)|exact o.kn D|exact o.mz D|exact o.mp D (λk e=>by cases e)|exact o.ma D (λk e=>by cases e)|exact o.mu D (λk e=>by cases e)|exact o.mf D (λk e=>by cases e)|exact o.mi D (λk e=>by cases e)|exact o.mr D (λk e=>by cases e)|exact o.ms D (λk e=>by cases e)
abbrev jR.aeF(h:jR w B X em vf s):=(h.UG (w5:=w5) (v':=v')).1
abbrev jR.aeG(h:jR w B X em vf s):=(h.UG (w5:=w5) (v':=v')).2.1
abbrev jR.aeH(h:jR w B X em vf s):=(h.UG (w5:=w5) (v':=v')).2.2.1
abbrev jR.aeI(h:jR w B X em vf s):=(h.UG (w5:=w5) (v':=v')).2.2.2.1
abbrev jR.aeJ(h:jR w B X em vf s):=(h.UG (w5:=w5) (v':=v')).2.2.2.2.1
abbrev jR.aeK(h:jR w B X em vf s):=(h.UG (w5:=w5) (v':=v')).2.2.2.2.2.1
abbrev jR.aeL(h:jR w B X em vf s):=(h.UG (w5:=w5) (v':=v')).2.2.2.2.2.2
def aaX(s:ES)(x:Fc):SC {s with D:=s.D++[x]}=iE (SC s) .queue (SC s .queue++[kX x]):=by funext j;(cases j<;>first|rfl|skip);all_goals simp[SC,iE]
def aaY(s:ES)(x:St):SC {s with lp:=s.lp++[x]}=iE (SC s) .loops (SC s .loops++[[d_ x]]):=by funext j;(cases j<;>first|rfl|skip);all_goals simp[SC,iE]
def EM.other(h:EM w B vf s)(H:∀i,i≠.queue->i≠.loops->QZ i=vf i):EM w B QZ s:=by(have e:∀{a:Type}(c:a->Slot),(∀k,c k≠.queue)->(∀k,c k≠.loops)->(λk=>QZ (c k))=λk=>vf (c k):=λc b d=>funext λk=>H _ (b k) (d k));refine⟨?_,h.kn,?_,?_,?_,?_,?_,?_,h.mz⟩;(.rw[e Slot.pc (λk e=>by cases e) (λk e=>by cases e)];exact h.mp);(.rw[e Slot.ab (λk e=>by cases e) (λk e=>by cases e)];exact h.ma);(.rw[e Slot.un (λk e=>by cases e) (λk e=>by cases e)];exact h.mu);(.rw[e Slot.fr (λk e=>by cases e) (λk e=>by cases e)];exact h.mf);(.rw[e Slot.it (λk e=>by cases e) (λk e=>by cases e)];exact h.mi);(.rw[e Slot.ra (λk e=>by cases e) (λk e=>by cases e)];exact h.mr);.rw[e Slot.fi (λk e=>by cases e) (λk e=>by cases e)];exact h.ms
theorem jR.Yn(h:jR w B X em vf s)(x:Fc)(A:x∉s.D)(R:jG d w5 B X vf s .queue q v' (kX x))(u:∀j,j<=9->B+j≠q)(p:w.grownBy d (some (B+1)))(v:oL d KF (B+1) (l_ s.D+1) (upd (ni s.D) x (some (.bool true)))):jR w5 B X em (iE vf .queue v') {s with D:=s.D++[x]}:=by(have o:∀g,X g->B<=g/\g<d:=λg f=>⟨(h.xlt g f).1,qO (h.xlt g f).2 p.size⟩);(have r:∀j,j<=9->j≠1->d.heap[B+j]?=w.heap[B+j]? :=λj a t=>p.block _ (h.xlt _ (h.xb j a)).2 (by grind));(have l:∀j,j<=9->w5.heap[B+j]?=d.heap[B+j]? :=λj a=>R.aw.block _ (o _ (h.xb j a)).2 λe=>by rcases e with e|e;(.grind);.exact h.rows.fx _ _ e (h.xb j a));(have b:=h.m.other (QZ:=iE vf .queue v') λi y _=>ku _ _ y);refine⟨?_,by rw[aaX];exact R.rows,h.xb,λg f=>⟨(o g f).1,qO (o g f).2 R.aw.size⟩,?_⟩;(.rw[ku _ _ (by grind)];exact((l 9 U).trans (r 9 U U)).trans h.blk);·(have k:=λj a t=>(l j a).trans (r j a t));refine⟨b.mp.mY (k 0 U U),?_,b.ma.mY (k 2 U U),b.mu.mY (k 3 U U),b.mf.mY (k 4 U U),b.mi.mY (k 5 U U),b.mr.mY (k 6 U U),b.ms.mY (k 7 U U),b.mz.mY (k 8 U U)⟩;show oL w5 KF (B+1) (l_ (s.D++[x])) (ni (s.D++[x]));rw[<-Ic,ny];exact v.mY (l 1 U)
theorem jR.aaZ(h:jR w B X em vf s)(x:Fc)(d:w.grownBy w5 (some (B+8)))(f:h_ w5 KF (B+8) (l_ s.fm+1) (upd (ni s.fm) x (some (.bool true)))):jR w5 B X em vf {s with fm:=s.fm++[x]}:=by(have k:∀g,X g->g≠B+8->w5.heap[g]?=w.heap[g]? :=λg b o=>d.block _ (h.xlt _ b).2 (by grind));refine⟨(k _ (h.xb 9 U) U).trans h.blk,h.rows.kept d (h.xb 8 U),h.xb,λg b=>⟨(h.xlt g b).1,qO (h.xlt g b).2 d.size⟩,?_⟩;(have a:∀j,j<=7->w5.heap[B+j]?=w.heap[B+j]? :=λj l=>k _ (h.xb j U) U);refine⟨h.m.mp.mY (a 0 U),h.m.kn.mY (a 1 U),h.m.ma.mY (a 2 U),h.m.mu.mY (a 3 U),h.m.mf.mY (a 4 U),h.m.mi.mY (a 5 U),h.m.mr.mY (a 6 U),h.m.ms.mY (a 7 U),?_⟩;show h_ w5 KF (B+8) (l_ (s.fm++[x])) (ni (s.fm++[x]));rw[<-Ic,ny];grind
def jR.Yo(h:jR w B X em vf s)(x:St)(R:jG w w5 B X vf s .loops (B+9) v' [d_ x])(hb:f_ w5 (B+9) 227 (BL B em v')):jR w5 B X em (iE vf .loops v') {s with lp:=s.lp++[x]}:=by(have d:=h.m.other (QZ:=iE vf .loops v') λi _ b=>ku _ _ b);refine⟨by rw[l6];exact hb,by rw[aaY];exact R.rows,h.xb,R.xlt h,?_⟩;(have a:=d.mY (w':=w5) λj e=>R.at h (h.xb j U) U);exact⟨a.mp,a.kn,a.ma,a.mu,a.mf,a.mi,a.mr,a.ms,a.mz⟩
end
abbrev oQ(b:Nat):V_:= .func (.func 142) #[] #[.pointer b,.pointer (a_ (b+1) 0),.pointer (a_ (b+2) 0)]
structure lK(w:W_)(B:Nat)(X:Nat->Prop)(most bg:Nat)(vf:Slot->V_)(s:ES):Prop where
 e:jR w B X (oQ bg) vf s
 g:f_ w bg 218 #[.pointer (a_ (B+9) 0)]
 m:f_ w (bg+1) 3 #[most]
 q:f_ w (bg+2) 90 #[vf .queue]
 xx:X bg/\X (bg+1)/\X (bg+2)
 gt:B+10<=bg
section
variable{w w':W_}{B most bg:Nat}{X:Nat->Prop}{vf mP:Slot->V_}{s:ES}
def lK.at(h:lK w B X most bg vf s)(a:(w:Nat)<=w')(hb:∀g,Yb X vf g->w'.heap[g]?=w.heap[g]?):lK w' B X most bg vf s:=⟨h.e.at a hb,(hb _ (.inl h.xx.1)).trans h.g,(hb _ (.inl h.xx.2.1)).trans h.m,(hb _ (.inl h.xx.2.2)).trans h.q,h.xx,h.gt⟩
def lK.up(h:lK w B X most bg vf s)(hb:G w w'):lK w' B X most bg vf s:=h.at hb.size λg a=>hb.block g (h.e.lt a).2
def lK.drew'(h:lK w B X most bg vf s):lK w.drew B X most bg vf s:=h.up (fu _ _).drew
end
def UH(W:W_)(b o:Nat)(v:V_):W.grownBy (W.setCell (a_ b o) v) (some b):=⟨rfl,rfl,rfl,S,λk c a=>Fg _ _ _ _ λe=>a (by rw[e])⟩
def fA(h:f_ w b t (vF f)):N w b 0 f.K/\N w b 1 f.A/\N w b 2 f.B/\ N w b 3 f.R/\N w b 4 f.lo/\N w b 5 f.hi:=⟨h.cell 0,h.cell 1,h.cell 2,h.cell 3,h.cell 4,h.cell 5⟩
def aeM(w:W_)(B:Nat)(X:Nat->Prop)(most b:Nat)(vf:Slot->V_)(s:ES)(c:Fc)(e:Ending)(w':W_):Prop:=e=.returned (.tuple #[])/\∃m,lK w' B X most b m {s with D:=jw most s.D c}/\sF X vf w m w'/\∀i,i≠.queue->m i=vf i
def Q0(c:Fc)(w:W_)(B:Nat)(X:Nat->Prop)(most m:Nat)(vf:Slot->V_)(s:ES)(h:lK w B X most m vf s)(hc:SmF c)(a7:most<=1000000)(hl:l_ s.D<=most+1):z 142 #[.agg (vF c),.pointer m,.pointer (a_ (m+1) 0),.pointer (a_ (m+2) 0)] w (aeM w B X most m vf s c):=by unfold vF d_;have⟨b,I⟩:=e_ (w.alloc (.cells (vF c) 152));(have V:G w b:=by rw[<-I];exact bA);(have L:f_ b w 152 (vF c):=by rw[<-I];exact f_.new _ _ _);have l:=h.up V;have ap:¬Yb X vf w.heap.size:=h.e.fresh (gH _);have⟨C,q,A,J,E,F⟩:=fA L;have Z:N b m 0 (.pointer (a_ (B+9) 0)):=l.g.cell 0;have aG:N b (m+1) 0 most:=l.m.cell 0;have M:N b (B+9) 2 (.map (some (B+1))):=l.e.blk.cell 2;have⟨d,Y⟩:=e_ (l_ s.D);(have aq:∀nq,(Builtin.len_ #[221] 3 #[.map (some (B+1))]).run prog (b.drewN nq)=.ok (.int .i64 d) (b.drewN nq):=λnq=>by rw[<-Y];exact((l.e.m.kn.mY rfl:oL (b.drewN nq) KF (B+1) (l_ s.D) (ni s.D))).len underlying221 3);have⟨an,ae⟩:=e_ (decide (c∈s.D));(have ar:∀nq,(Instr.lookup 221 (.map (some (B+1))) (.agg #[c.K,c.A,c.B,c.R,c.lo,c.hi]) false).run prog (b.drewN nq)=.ok (.bool an) (b.drewN nq):=λnq=>mQ (oL.toF (l.e.m.kn.mY rfl:oL (b.drewN nq) KF (B+1) (l_ s.D) (ni s.D))) hc.ok ae);have P:=O l;have T:=O V;have au:=O L;have av:=O ae;have n:=O Y;have aH:=O hc;have aK:=O ap;have aL:(w:Nat)<b:=L.lt;have be:d<=most+1:=U;clear h hc l V L ae Y ap aL;by_cases aM:d<=most;(.have hd:decide ((d:Int)<=most)=true:=y7 U;go_in;go_wp2;clear I;go_quiet (fail);clear aq ar;cases an;(.go_wp2;have a:Hid (lK (b.drewN nq) B X most m vf s):=O (P.o.up (oD (fu _ _) _));have aN:Hid (G w (b.drewN nq)):=O (oD T.o _);have aE:Hid (f_ (b.drewN nq) w 152 (vF c)):=O (au.o.drewN nq);clear C q A J E F Z aG M P T au;generalize b.drewN nq=H at *;have⟨C,q,A,J,E,F⟩:=fA aE.o;have Z:N H m 0 (.pointer (a_ (B+9) 0)):=a.o.g.cell 0;have M:N H (B+9) 2 (.map (some (B+1))):=a.o.e.blk.cell 2;(have af:c∉s.D:=by have:=av.o;simpa using this);have⟨w5,t,ax,ay⟩:=(a.o.drew'.e.m.kn).put (K:=KF) underlying221 (by rw[n.o];simp only[m_];omega) aH.o.ok (by unfold ni;rw[C_ af]) (.bool true);have aO:(Instr.mapUpdate 221 (.map (some (B+1))) (.agg #[c.K,c.A,c.B,c.R,c.lo,c.hi]) (.bool true)).run prog H.drew=.ok () w5:=t;have aP:=O ax;have p:=O ay;have az:=O af;clear t ax ay af;go_region;clear aO;have ag:=a.o.e.xb 1 U;have ba:=a.o.gt;(have ah:∀g,g≠B+1->some g≠some (B+1):=λg f e=>f (by injection e));have aA:f_ w5 w 152 (vF c):=aE.o.drew.grown p.o (ah _ (by intro e;exact aK.o (.inl (by rw[e];exact ag))));have W:f_ w5 (m+2) 90 #[vf .queue]:=a.o.q.drew.grown p.o (ah _ U);have bb:m+2<w5.heap.size:=W.lt;have t:RF w5 X B eT kT vf (SC s):=(a.o.drew'.e.rows).kept p.o ag;(have Q:w5.ownsRow B 152 6 (vf .queue) (l_ s.D) (s.D.flatMap kX):=by have:=t.own .queue;rw[show SC s .queue=s.D.map kX from rfl,qm,<-Ze]at this;exact this);clear C q A J E F Z M;have⟨C,q,A,J,E,F⟩:=fA aA;have⟨A5,c5,y⟩:=n_ Q;(have aQ:N w5 (m+2) 0 (.slice A5 (l_ s.D) c5):=by rw[<-y];exact W.cell 0);have ao:Hid (w5.ownsRow B 152 6 (.slice A5 (l_ s.D) c5) (l_ s.D) (s.D.flatMap kX)):=O (by rw[<-y];exact Q);rw[n.o]at aQ;rw[n.o]at y;have aR:Hid (w5.ownsRow B 152 6 (.slice A5 d c5) (l_ s.D) (s.D.flatMap kX)):=O (by rw[<-n.o];exact ao.o);have aS:=O y;have aT:=O t;have aU:=O W;have bc:B<=w5:=U;have⟨aV,aW,aX,aY,aZ⟩:=qw NT;(have aB:(vf .queue).ownBlock≠some (m+2):=λe=>a.o.e.rows.fx _ _ e a.o.xx.2.2);have a0:=O aB;clear aA W t Q y aB ah ao;go_wp2_with (at_builtin;refine gQ _ kX rfl _ _ 90 rfl B 152 aV (.agg (vF ⟨0,[],[],[],0,0⟩)) 6 72 underlying90 aW aX aY aZ rfl D _ _ _ rfl (gJ aR.o bA) _ _ [c] nO rfl (acU w5 c) (λx _ u aI=>xR x u aI) ?c1 ?c2 ?c3 ?_);(case c1=>simp only[m_,wT];omega);(case c2=>have bd:=n.o;simp;omega);(case c3=>simp;omega);intro a8 k am ai aF;(have ak:(vf .queue).ownBlock=(Value.slice A5 d c5).ownBlock:=by rw[aS.o]);have aj:f_ k (m+2) 90 #[vf .queue]:=(aU.o.alloc _).grown ai (λe=>a0.o (by rw[ak];exact e.symm));have a1:=O ai;have a2:=O aF;have a3:=O am;have bf:N k (m+2) 0 (vf .queue):=aj.cell 0;have bh:k.frozen? (a_ (m+2) 0)=false:=aj.frozen 0;obtain⟨r,c6,rfl⟩:=n_ am;clear am ai aF;go_wp2;go_end0;(have aC:∀g,X g->g<w5:=λg f=>qO (a.o.e.xlt g f).2 p.o.size);have a4:=UH k (m+2) 0 (.slice r (l_ s.D+1) c6);have R:jG w5 (k.setCell (a_ (m+2) 0) (.slice r (l_ s.D+1) c6)) B X vf s .queue (m+2) (.slice r (l_ s.D+1) c6) (kX c):=FI aT.o aC .queue a.o.xx.2.2 ((Aw.refl _ _).al _) a3.o (by simp[SC]) (by simp[SC,Ze]) (by rw[ak];exact a1.o) (by rw[ak,(show ∀o,(w5.alloc o).heap.size=w5.heap.size+1 from λo=>S)];exact a2.o) a4;have a6:=a.o.drew'.e.Yn c az.o R (λj a9=>U) p.o aP.o;(have a5:sF X vf w (iE vf .queue (.slice r (l_ s.D+1) c6)) (k.setCell (a_ (m+2) 0) (.slice r (l_ s.D+1) c6)):=by refine(sF.of aN.o).trans ((sF.of (fu _ _).drew).trans (sF.trans ⟨(Aw.refl _ _).grown p.o λ_=> .inl ag,λg h=> .inl h⟩ (R.to a.o.xx.2.2))));(have aD:∀g,X g->g≠B+1->g≠m+2->(k.setCell (a_ (m+2) 0) (.slice r (l_ s.D+1) c6)).heap[g]?=H.drew.heap[g]? :=λg f a' aJ=>by refine(R.aw.block g (aC g f) λe=>?_).trans (p.o.block g (a.o.e.xlt g f).2 (by intro e;injection e with e;omega));rcases e with e|e;(.exact aJ e);.exact a.o.e.rows.fx _ _ e f);(have v:jw most s.D c=s.D++[c]:=by unfold jw;rw[P_ ⟨by rw[n.o];omega,az.o⟩]);refine⟨rfl,_,⟨by rw[v];exact a6,(aD _ a.o.xx.1 U U).trans a.o.g,(aD _ a.o.xx.2.1 U U).trans a.o.m,?_,a.o.xx,a.o.gt⟩,a5,λi hi=>ku _ _ hi⟩;rw[l6];exact aj.iK 0 _);.go_wp2;go_end0;(have v:jw most s.D c=s.D:=by unfold jw;rw[C_ (λh=>h.2 (by have:=av.o;simpa using this))]);exact⟨rfl,vf,by rw[v];exact P.o.up (oD (fu _ _) _),(sF.of T.o).then (oD (fu _ _) _),λ_ _=>rfl⟩);.have hd:decide ((d:Int)<=most)=false:=sj U;go_in;go_wp2;clear I;go_quiet (fail);clear aq ar;go_wp2;go_end0;(have v:jw most s.D c=s.D:=by unfold jw;rw[C_ (λh=>by have:=h.1;rw[n.o]at this;exact aM this)]);exact⟨rfl,vf,by rw[v];exact P.o.up (oD (fu _ _) _),(sF.of T.o).then (oD (fu _ _) _),λ_ _=>rfl⟩
section
variable{k:Ky}
variable{P:List Pc}{most:Nat}{s:ES}{x:Pc}{f:Fc}{b r t:St}
theorem agv(H:Canon x)(h:(⟨1,[],b⟩:Ky)∈iY x):x=kF b x.C:=by rcases H with⟨k,e⟩|⟨k,e⟩|⟨k,e,_⟩|⟨k,e,_⟩|⟨k,e,_⟩|⟨k,e,_⟩|⟨k,e,_⟩|⟨k,e,_⟩|⟨k,e,_⟩<;>simp[iY,k]at h;(.grind);grind
theorem agw(H:Canon x)(h:(⟨2,[],b⟩:Ky)∈iY x):x=wP x.A x.B x.C/\(b=x.A\/b=x.B):=by rcases H with⟨k,e⟩|⟨k,e⟩|⟨k,e,_⟩|⟨k,e,_⟩|⟨k,e,_⟩|⟨k,e,_⟩|⟨k,e,_⟩|⟨k,e,_⟩|⟨k,e,_⟩<;>simp[iY,k]at h;grind
theorem agx(H:Canon x)(h:(⟨3,[],b⟩:Ky)∈iY x):x=mE b x.R x.C:=by rcases H with⟨k,e⟩|⟨k,e⟩|⟨k,e,_⟩|⟨k,e,_⟩|⟨k,e,_⟩|⟨k,e,_⟩|⟨k,e,_⟩|⟨k,e,_⟩|⟨k,e,_⟩<;>simp[iY,k]at h;(.grind);grind
theorem adJ(H:Canon x)(h:(⟨4,r,b⟩:Ky)∈iY x):x=og x.R b x.C/\(r=[]\/r=x.R):=by rcases H with⟨k,e⟩|⟨k,e⟩|⟨k,e,_⟩|⟨k,e,_⟩|⟨k,e,_⟩|⟨k,e,_⟩|⟨k,e,_⟩|⟨k,e,_⟩|⟨k,e,_⟩<;>simp[iY,k]at h;(.grind);grind
theorem agy(H:Canon x)(h:(⟨5,r,[]⟩:Ky)∈iY x):x=sK r x.T:=by rcases H with⟨k,e⟩|⟨k,e⟩|⟨k,e,_⟩|⟨k,e,_⟩|⟨k,e,_⟩|⟨k,e,_⟩|⟨k,e,_⟩|⟨k,e,_⟩|⟨k,e,_⟩<;>simp[iY,k]at h;(.grind);grind
theorem agz(H:Canon x)(h:(⟨6,r,[]⟩:Ky)∈iY x):x=jV r x.S x.T:=by rcases H with⟨k,e⟩|⟨k,e⟩|⟨k,e,_⟩|⟨k,e,_⟩|⟨k,e,_⟩|⟨k,e,c,a,d⟩|⟨k,e,_⟩|⟨k,e,_⟩|⟨k,e,_⟩<;>simp[iY,k]at h;(.grind);grind
theorem aeN(H:Canon x)(h:(⟨6,[],t⟩:Ky)∈iY x):x=jV x.R t x.T:=by rcases H with⟨k,e⟩|⟨k,e⟩|⟨k,e,_⟩|⟨k,e,_⟩|⟨k,e,_⟩|⟨k,e,a,c,d⟩|⟨k,e,_⟩|⟨k,e,_⟩|⟨k,e,_⟩<;>simp[iY,k]at h;(.grind);grind
theorem agA(H:Canon x)(h:(⟨8,[],b⟩:Ky)∈iY x):x=Vy b x.R x.lo x.hi:=by rcases H with⟨k,e⟩|⟨k,e⟩|⟨k,e,_⟩|⟨k,e,_⟩|⟨k,e,_⟩|⟨k,e,_⟩|⟨k,e,_⟩|⟨k,e,_⟩|⟨k,e,_⟩<;>simp[iY,k]at h;(.grind);grind
theorem adK(H:Canon x)(h:(⟨9,r,[]⟩:Ky)∈iY x):x=AQ r x.lo x.hi x.C:=by rcases H with⟨k,e⟩|⟨k,e⟩|⟨k,e,_⟩|⟨k,e,_⟩|⟨k,e,_⟩|⟨k,e,_⟩|⟨k,e,_⟩|⟨k,e,_⟩|⟨k,e,_⟩<;>simp[iY,k]at h;(.grind);grind
def Inv.at(h:Inv P most s)(a:x∈jC s.pu k):uq P x/\k∈iY x:=(h.pu k x).1 (jN.1 a)
def LY(h:kC P f)(a:f.K=1):f=t_ f.A f.B:=by rcases GQ h with e|e|e;(.exact e);(.rw[e]at a;cases a);.rw[e]at a;cases a
def LZ(h:kC P f)(a:f.K=2):f=fC f.A f.R f.B:=by rcases GQ h with e|e|e;(.rw[e]at a;cases a);(.exact e);.rw[e]at a;cases a
theorem Io(h:kC P f)(a:f.K=3):f=fG f.A f.R f.lo f.hi:=by rcases GQ h with e|e|e;(.rw[e]at a;cases a);(.rw[e]at a;cases a);grind
end
structure ER(P:List Pc)(most B:Nat)(X:Nat->Prop)(bg:Nat)(w0:W_)(rZ:Slot->V_)(s0:ES)(w:W_)(vf:Slot->V_)(s:ES)(Q:Fc->Prop):Prop where
 e:lK w B X most bg vf s
 t:To P most s0 s Q
 f:∀i,i≠.queue->vf i=rZ i
 k:sF X rZ w0 vf w
section
variable{a:A_}
variable{P:List Pc}{most B bg:Nat}{X:Nat->Prop}{w0 w w' w1:W_}{rZ vf mP:Slot->V_}{s0 s s':ES}{Q R:Fc->Prop}
def ER.refl(h:lK w B X most bg vf s)(a:Inv P most s):ER P most B X bg w vf s w vf s (λ_=>False):=⟨h,.refl a,λ_ _=>rfl,.refl _ _ _⟩
def ER.up(h:ER P most B X bg w0 rZ s0 w vf s Q)(hb:G w w'):ER P most B X bg w0 rZ s0 w' vf s Q:=⟨h.e.up hb,h.t,h.f,h.k.then hb⟩
def ER.drewN(h:ER P most B X bg w0 rZ s0 w vf s Q)(n:Nat):ER P most B X bg w0 rZ s0 (w.drewN n) vf s Q:=h.up (oD (fu _ _) _)
def ER.weak(h:ER P most B X bg w0 rZ s0 w vf s Q)(a:∀c,R c->Q c):ER P most B X bg w0 rZ s0 w vf s R:=⟨h.e,h.t.weak a,h.f,h.k⟩
def ER.trans(h:ER P most B X bg w0 rZ s0 w vf s Q)(k:ER P most B X bg w vf s w' mP s' R):ER P most B X bg w0 rZ s0 w' mP s' (λc=>Q c\/R c):=⟨k.e,h.t.trans k.t,λi hi=>(k.f i hi).trans (h.f i hi),h.k.trans k.k⟩
def ER.base(h:ER P most B X bg w1 rZ s0 w vf s Q)(hb:G w0 w1):ER P most B X bg w0 rZ s0 w vf s Q:=⟨h.e,h.t,h.f,(sF.of hb).trans h.k⟩
def ER.cell(h:ER P most B X bg w0 rZ s0 w vf s Q)(H:N w0 b o u)(a:¬Yb X rZ b):N w b o u:=h.k.cell H a
def ER.blk(h:ER P most B X bg w0 rZ s0 w vf s Q)(H:f_ w0 b t a)(c:¬Yb X rZ b):f_ w b t a:=h.k.blk H c
theorem ER.also(h:ER P most B X bg w0 rZ s0 w vf s Q)(H:c∈s.D):ER P most B X bg w0 rZ s0 w vf s (λx=>Q x\/x=c):=⟨h.e,⟨h.t.inv,h.t.d,h.t.fm,h.t.fmn,h.t.pu,h.t.lp,h.t.ix,h.t.ab,h.t.un,h.t.fr,h.t.it,h.t.ra,h.t.fi,λx a=>by rcases a with a|a;exact h.t.all x a;exact .inl (by grind)⟩,h.f,h.k⟩
def ER.emit(h:ER P most B X bg w0 rZ s0 w vf s Q)(d:wR P)(g:most<=1000000)(H:kC P c)(i:c.K=3->qG (·∈s.fm) c.A c.R c.lo c.hi)(a:G w W):z 142 #[.agg (vF c),.pointer bg,.pointer (a_ (bg+1) 0),.pointer (a_ (bg+2) 0)] W λe w'=>e=.returned (.tuple #[])/\∃mP s',ER P most B X bg w0 rZ s0 w' mP s' (λx=>Q x\/x=c)/\s'.fm=s.fm:=by refine(Q0 c W B X most bg vf s (h.e.up a) (tQ d H) g h.t.inv.len).mono ?_;rintro e w' ⟨rfl,mP,j,k,l⟩;have m:=To.emit (most:=most) h.t.inv H i;have n:ER P most B X bg w vf s w' mP _ (λx=>x=c):=⟨j,m,l,(sF.of a).trans k⟩;exact⟨rfl,mP,_,h.trans n,rfl⟩
theorem ER.aa0(h:ER P most B X bg w0 rZ s0 w vf s Q)(i:wR P)(j:most<=1000000)(b:kC P c)(f:c=fG c.A c.R c.lo c.hi)(l:c∉s.D)(a:w.grownBy w5 (some (B+8)))(F:h_ w5 KF (B+8) (l_ s.fm+1) (upd (ni s.fm) c (some (.bool true))))(d:G w5 W):z 142 #[.agg (vF c),.pointer bg,.pointer (a_ (bg+1) 0),.pointer (a_ (bg+2) 0)] W λe w'=>e=.returned (.tuple #[])/\∃mP s',ER P most B X bg w0 rZ s0 w' mP s' (λx=>Q x\/x=c)/\l_ s'.fm=l_ s.fm+1:=by have n:=h.e.e.aaZ c a F;have H:=h.e.gt;(have k:∀g,X g->g≠B+8->w5.heap[g]?=w.heap[g]? :=λg o I=>a.block _ (h.e.e.xlt _ o).2 (by grind));have p:lK w5 B X most bg vf {s with fm:=s.fm++[c]}:=⟨n,(k _ h.e.xx.1 U).trans h.e.g,(k _ h.e.xx.2.1 U).trans h.e.m,(k _ h.e.xx.2.2 U).trans h.e.q,h.e.xx,h.e.gt⟩;refine(Q0 c W B X most bg vf _ (p.up d) (tQ i b) j h.t.inv.len).mono ?_;rintro e w' ⟨rfl,mP,u,v,y⟩;have C:=To.ah5 (most:=most) h.t.inv b f l;have E:ER P most B X bg w vf s w' mP _ (λx=>x=c):=⟨u,C,y,sF.trans ⟨(Aw.refl _ _).grown a λ_=> .inl (h.e.e.xb 8 U),λg h=> .inl h⟩ ((sF.of d).trans v)⟩;exact⟨rfl,mP,_,h.trans E,S⟩
def UJ{a b:St}(c:l_ a<=100000)(hb:l_ b<=100000):SmF (t_ a b):=⟨by simp[t_],c,hb,by simp[t_],by simp[t_],by simp[t_]⟩
def NY(P:List Pc)(most B:Nat)(X:Nat->Prop)(bg:Nat)(w:W_)(vf:Slot->V_)(s:ES)(Q:Fc->Prop)(e:Ending)(w':W_):Prop:=e=.returned (.tuple #[])/\∃mP s',ER P most B X bg w vf s w' mP s' Q
def oU(F:FuncId)(kind:Int)(Q:ES->Fc->Fc->Prop):Prop:=∀(P:List Pc)(most B:Nat)(X:Nat->Prop)(bg:Nat)(w:W_)(vf:Slot->V_)(s:ES)(f:Fc),lK w B X most bg vf s->Inv P most s->wR P->most<=1000000->l_ s.fm<=1000000->f∈s.ix->f.K=kind-> z F #[.pointer (a_ (B+9) 0),.agg (vF f)] w (NY P most B X bg w vf s (Q s f))
theorem ER.pcs(h:ER P most B X bg w0 rZ s0 w vf s Q)(k:Ky):Rd w kJ 10 (rZ (.pc k)) (jC s0.pu k):=by have:=h.e.e.rdP k;rw[h.f _ (by grind),h.t.pu]at this;grind
theorem ER.lps(h:ER P most B X bg w0 rZ s0 w vf s Q):jQ w (rZ .loops) s0.lp:=by have:=h.e.e.rdL;rw[h.f _ (by grind),h.t.lp]at this;grind
theorem ER.abs(h:ER P most B X bg w0 rZ s0 w vf s Q)(k:St):jQ w (rZ (.ab k)) (jC s0.ab k):=by have:=h.e.e.rdA k;rw[h.f _ (by grind),h.t.ab]at this;grind
theorem ER.uns(h:ER P most B X bg w0 rZ s0 w vf s Q)(k:St):jQ w (rZ (.un k)) (jC s0.un k):=by have:=h.e.e.rdU k;rw[h.f _ (by grind),h.t.un]at this;grind
theorem ER.frs(h:ER P most B X bg w0 rZ s0 w vf s Q)(k:Sp):jQ w (rZ (.fr k)) (jC s0.fr k):=by have:=h.e.e.rdR k;rw[h.f _ (by grind),h.t.fr]at this;grind
theorem ER.its(h:ER P most B X bg w0 rZ s0 w vf s Q)(k:Sp):jQ w (rZ (.it k)) (jC s0.it k):=by have:=h.e.e.rdI k;rw[h.f _ (by grind),h.t.it]at this;grind
theorem ER.ras(h:ER P most B X bg w0 rZ s0 w vf s Q)(k:Sp):Rd w kX 6 (rZ (.ra k)) (jC s0.ra k):=by have:=(h.e.e.rdF k).1;rw[h.f _ (by grind),h.t.ra]at this;grind
theorem ER.fis(h:ER P most B X bg w0 rZ s0 w vf s Q)(k:Sp):Rd w kX 6 (rZ (.fi k)) (jC s0.fi k):=by have:=(h.e.e.rdF k).2;rw[h.f _ (by grind),h.t.fi]at this;grind
end
theorem V6{c:Nat}{l:List Pc}(h:Rd w kJ 10 (.slice A (l_ l) c) l)(d:l[k]?=some p):∃b a,A=some ⟨b,a,none⟩/\b<w/\ N w b (a+k*10) p.K/\N w b (a+k*10+1) p.A/\N w b (a+k*10+2) p.B/\N w b (a+k*10+3) p.C/\ N w b (a+k*10+4) p.R/\N w b (a+k*10+5) p.S/\N w b (a+k*10+6) p.T/\N w b (a+k*10+7) p.lo/\ N w b (a+k*10+8) p.hi/\N w b (a+k*10+9) p.fM:=by have⟨o,q,e,_,_,g⟩:=h.form;injection e with i _ _;subst i;have⟨b,a,m,hb,H⟩:=g (by grind);(have K:∀(j:Nat) z,(kJ p)[j]?=some z->N w b (a+k*10+j) z:=λj z n=>H k p d j z n);exact⟨b,a,m,hb,K 0 _ rfl,K 1 _ rfl,K 2 _ rfl,K 3 _ rfl,K 4 _ rfl,K 5 _ rfl,K 6 _ rfl,K 7 _ rfl,K 8 _ rfl,K 9 _ rfl⟩
def V7(a b:Int)(w:W_):(Builtin.max_ #[3,3] 3 #[a,b]).run prog w=.ok (.int .i64 (max a b)) w:=by simp only[Builtin.max_,go_sem];simp[Builtin.max2];rw[Int.max_def];split<;>split<;>first|rfl|(congr 2;omega)|omega
def NZ(a b:Int)(w:W_):(Builtin.min_ #[3,3] 3 #[a,b]).run prog w=.ok (.int .i64 (min a b)) w:=by simp only[Builtin.min_,go_sem];simp[Builtin.min2];rw[Int.min_def];split<;>split<;>first|rfl|(congr 2;omega)|omega
theorem aa1{c:Nat}{l:List Fc}(h:Rd w kX 6 (.slice A (l_ l) c) l){p:Fc}(d:l[k]?=some p):∃b a,A=some ⟨b,a,none⟩/\b<w/\ N w b (a+k*6) p.K/\N w b (a+k*6+1) p.A/\N w b (a+k*6+2) p.B/\N w b (a+k*6+3) p.R/\ N w b (a+k*6+4) p.lo/\N w b (a+k*6+5) p.hi:=by have⟨o,q,e,_,_,g⟩:=h.form;injection e with i _ _;subst i;have⟨b,a,m,hb,H⟩:=g (by grind);(have K:∀(j:Nat) z,(kX p)[j]?=some z->N w b (a+k*6+j) z:=λj z n=>H k p d j z n);exact⟨b,a,m,hb,K 0 _ rfl,K 1 _ rfl,K 2 _ rfl,K 3 _ rfl,K 4 _ rfl,K 5 _ rfl⟩
theorem Ev{c:Nat}(h:jQ w (.slice A (l_ l) c) l)(d:l[k]?=some s):∃b a,A=some ⟨b,a,none⟩/\b<w/\N w b (a+k) s:=by have⟨m,n,e,_,_,g⟩:=S1.form h;grind
theorem kP{l:List α}{a:α}(h:l[k]?=some a):(∃x∈l.take (k+1),C x c)->(∃x∈l.take k,C x c)\/C a c:=λ⟨x,d,e⟩=>by obtain⟨g,i⟩:=jv.1 h;rw[Fh g,i]at d;rcases iq.1 d with d|d;(.grind);.rw[gW.1 d]at e;exact .inr e
def acX(x:Pc)(m A:St)(w:W_)(B:Nat)(X:Nat->Prop)(y:V_)(vf:Slot->V_)(s:ES)(b l:Nat)(h:jR w B X y vf s)(ao:f_ w b 150 (vP x))(S:¬Yb X vf b)(aF:f_ w l 218 #[.pointer (a_ (B+9) 0)])(T:¬Yb X vf l)(aC:okY ⟨x.K,m,A⟩)(hl:l_ s.pu<=1000000):
 z 263 #[m,A,.pointer b,.pointer l] w λe w'=>
  e=.returned (.tuple #[])/\∃aG,jR w' B X y aG {s with pu:=s.pu++[(⟨x.K,m,A⟩,x)]}/\sF X vf w aG w':=by
 have⟨d,ap⟩:∃q,w.alloc (.cells #[x.K,m,A] 325)=q:=⟨_,rfl⟩
 have⟨j,aq⟩:=e_ w.heap.size
 have M:G w d:=by rw[<-ap];exact bA
 have aS:f_ d j 325 #[x.K,m,A]:=by rw[<-ap,<-aq];exact f_.new _ _ _
 have V:¬Yb X vf j:=by rw[<-aq];exact h.fresh (gH _)
 have r:=h.up M
 have aT:=bk M ao
 have aU:=bk M aF
 have a3:N w b 0 x.K:=ao.cell 0
 have⟨K,Q⟩:∃K:Ky,(⟨x.K,m,A⟩:Ky)=K:=⟨_,rfl⟩
 have L:=r.rows.own (.pc K)
 have⟨E,c3,F⟩:=n_ L
 have⟨p,ar⟩:=e_ (l_ (SC s (.pc K)))
 rw[ar]at F L
 have aB:p=l_ (jC s.pu K):=by rw[<-ar];simp[SC]
 have bn:p<=1000000:=by rw[aB];exact gY (sQ _ _) hl
 have t:=h.xb 0 U
 have aH:=h.xb 9 U
 rw[F]at L
 have Y:∀g,X g->some g≠(Value.slice E p c3).ownBlock:=λg f e=>by rw[<-F]at e;exact h.rows.fx _ _ e.symm f
 have ai:∀g,¬Yb X vf g->some g≠(Value.slice E p c3).ownBlock:=λg f e=>by rw[<-F]at e;exact f (.inr ⟨_,e.symm⟩)
 have H:∀g,¬Yb X vf g->g≠B:=λg f e=>f (.inl (by rw[e];exact t))
 have aV:l_ s.pu<m_:=by simp only[m_];omega
 have aI:KY.ok K:=by rw[<-Q];exact aC
 have aJ:(lq (λk=>vf (.pc k)) (jC s.pu) K).getD ()=.slice E p c3:=by rw[jP (vf:=λk=>vf (.pc k)) (λe=>h.rows.nil (.pc K) (by simp[SC,e]))];exact F
 have⟨aK,v,au,av,a8,aW⟩:=h_.entry afX ((r.m.mp.alloc (.cells (vP x) 150)).drew) underlying220 (λu=>zeroValue144 u) aV aI
 rw[aJ,<-Q]at au
 have P:(Instr.mapEntry 220 (.map (some B)) (.agg #[x.K,m,A])).run prog (d.alloc (.cells #[x.K,x.A,x.B,x.C,x.R,x.S,x.T,x.lo,x.hi,x.fM] 150)).drew=.ok (.tuple #[.slice E p c3,aK]) v:=au
 have aX:=O aW
 have a2:Aw (λg=>g=B) d v:=(((Aw.refl _ d).al _).then (fu _ _).drew).grown av λ_=>rfl
 have aD:∀W,Aw (λg=>g=B) d W->W.ownsRow B 150 10 (.slice E p c3) p (SC s (.pc K)).flatten:=λW I=>sU L λg f=>I.block g ((L.lt g f).2) λe=>by subst e;exact Y _ t f.symm
 have aL:=O (aD _ a2)
 have Z:∀W,Aw (λg=>g=B) d W->f_ W l 218 #[.pointer (a_ (B+9) 0)]/\f_ W (B+9) 227 (BL B y (vf .loops))/\f_ W j 325 #[x.K,m,A]/\f_ W b 150 (vP x):=λW I=>⟨I.blk aU (H _ T),I.blk r.blk U,I.blk aS (H _ V),I.blk aT (H _ S)⟩
 have ak:∀C i,Aw (λg=>g=B) d C->C.grownBy i (Value.slice E p c3).ownBlock->(f_ i l 218 #[.pointer (a_ (B+9) 0)]/\f_ i (B+9) 227 (BL B y (vf .loops))/\f_ i j 325 #[x.K,m,A]/\f_ i b 150 (vP x))/\i.heap[B]?=C.heap[B]? :=λC i am f=>have k:=Z C am;⟨⟨k.1.grown f (ai _ T),k.2.1.grown f (Y _ aH),k.2.2.1.grown f (ai _ V),k.2.2.2.grown f (ai _ S)⟩,f.block _ (qO (r.xlt _ t).2 am.size) (Y _ t)⟩
 have aE:∀i w5,i.grownBy w5 (some B)->(f_ i l 218 #[.pointer (a_ (B+9) 0)]/\f_ i (B+9) 227 (BL B y (vf .loops))/\f_ i j 325 #[x.K,m,A]/\f_ i b 150 (vP x))->(f_ w5 l 218 #[.pointer (a_ (B+9) 0)]/\f_ w5 (B+9) 227 (BL B y (vf .loops))/\f_ w5 j 325 #[x.K,m,A]/\f_ w5 b 150 (vP x)):=λi w5 f k=>⟨k.1.grown f (by intro e;injection e with e;exact H _ T e),k.2.1.grown f (by intro e;injection e with e;omega),k.2.2.1.grown f (by intro e;injection e with e;exact H _ V e),k.2.2.2.grown f (by intro e;injection e with e;exact H _ S e)⟩
 have J:∀W,(f_ W l 218 #[.pointer (a_ (B+9) 0)]/\f_ W (B+9) 227 (BL B y (vf .loops))/\f_ W j 325 #[x.K,m,A]/\f_ W b 150 (vP x))-> (N W l 0 (.pointer (a_ (B+9) 0))/\N W (B+9) 0 (.map (some B))/\N W j 0 x.K/\N W j 1 m/\N W j 2 A/\N W b 0 x.K/\N W b 1 x.A/\N W b 2 x.B/\N W b 3 x.C/\N W b 4 x.R/\N W b 5 x.S/\N W b 6 x.T/\N W b 7 x.lo/\N W b 8 x.hi/\N W b 9 x.fM):=λW k=>⟨k.1.cell 0,k.2.1.cell 0,k.2.2.1.cell 0,k.2.2.1.cell 1,k.2.2.1.cell 2,k.2.2.2.cell 0,k.2.2.2.cell 1,k.2.2.2.cell 2,k.2.2.2.cell 3,k.2.2.2.cell 4,k.2.2.2.cell 5,k.2.2.2.cell 6,k.2.2.2.cell 7,k.2.2.2.cell 8,k.2.2.2.cell 9⟩
 have an:=J _ (Z d (.refl _ _))
 have aM:=J _ (Z v a2)
 have aw:∀o,(N (d.alloc o) l 0 (.pointer (a_ (B+9) 0))/\N (d.alloc o) (B+9) 0 (.map (some B))/\N (d.alloc o) j 0 x.K/\N (d.alloc o) j 1 m/\N (d.alloc o) j 2 A/\N (d.alloc o) b 0 x.K/\N (d.alloc o) b 1 x.A/\N (d.alloc o) b 2 x.B/\N (d.alloc o) b 3 x.C/\N (d.alloc o) b 4 x.R/\N (d.alloc o) b 5 x.S/\N (d.alloc o) b 6 x.T/\N (d.alloc o) b 7 x.lo/\N (d.alloc o) b 8 x.hi/\N (d.alloc o) b 9 x.fM):=λo=>J _ (Z _ ((Aw.refl _ _).al o))
 have aY:=O λ(W:W_)(f:v.grownBy W (Value.slice E p c3).ownBlock)=>(show Aw (λg=>g=B) d v/\W.heap[B]?=v.heap[B]? /\_ from⟨a2,(ak _ W a2 f).2,(ak _ W a2 f).1⟩)
 have aZ:Hid (Rd v kJ 10 (.slice d 1 1) [x]):=O (((aes d x).up (fu _ _).drew).kept av λa n c e bm P=>by
  injection e with e;injection e with e;subst e;injection P with P;have:=(r.xlt _ t).2
  simp only at P;omega)
 have aN:=O aE
 have ax:=O J
 have ay:=O r
 have aO:=O F
 have a9:=O M
 have a':=O aB
 have a4:=O Q
 have bh:B<=v:=by have:=(r.xlt _ t).2;have am:=a2.size;omega
 have aP:=O t
 have⟨a5,ba,bb,bi,bj⟩:=qw Ho
 clear h ao S aF T aC hl aS V r aT aU L F ar aB t aH Y ai H aV aI aJ au av a8 aW a2 aD Z ak aE J M Q
 go_in
 go_wp2
 clear ap a3 aq
 go_region_held3 (λW=>(N W l 0 (.pointer (a_ (B+9) 0))/\N W (B+9) 0 (.map (some B))/\N W j 0 x.K/\N W j 1 m/\N W j 2 A/\N W b 0 x.K/\N W b 1 x.A/\N W b 2 x.B/\N W b 3 x.C/\N W b 4 x.R/\N W b 5 x.S/\N W b 6 x.T/\N W b 7 x.lo/\N W b 8 x.hi/\N W b 9 x.fM))
  (first|with_reducible exact an|with_reducible exact s5|with_reducible exact s4|with_reducible exact aM|with_reducible exact aw _|exact an|exact aw _)
  (first|(refine gI _ kJ rfl (.tmp 17) (.tmp 19) 144 rfl B 150 a5 (.agg (vP ⟨0,[],[],[],[],[],[],0,0,0⟩)) 10 128 underlying144 ba bb bi bj rfl D _ _ _ rfl (aL.o) _ _ [x] mM rfl (aZ.o) (λx _ u a6=>xX x u a6) ?c1 ?c2 ?c3 ?_;(case c1=>(simp only[m_,wT];omega));(case c2=>(simp only[wT];omega));(case c3=>exact bh);intro v4 i a1 az a0;have aj:=O (aY.o _ az);have bc:=O a1;have bd:=O az;have bl:=O a0;have s4:=ax.o _ aj.o.2.2;have⟨w5,aQ,aR,aA⟩:=aX.o i v4 aj.o.2.1;have be:(Instr.entryStore 220 (.map (some B)) (.int .i64 aK) v4).run prog i=.ok () w5:=aQ;have s5:=ax.o _ (aN.o _ _ aA aj.o.2.2);have bf:=O aR;have bg:=O aA;clear a1 az a0 aQ aR aA)|fail)
 all_goals clear an aM aw P ax aN aY aX aL aZ;(try clear s4 s5 be);go_wp2;go_end0;have R:=FI (c:=kJ x) ay.o.rows (λg f=>(ay.o.xlt g f).2) (.pc K) (q:=B+0) aP.o aj.o.1 bc.o (by rw[a'.o];simp[SC]) (by simp[SC,Ze]) (by rw[aO.o];exact bd.o) (by rw[aO.o];exact bl.o) bg.o;have a7:=ay.o.aeF K x R bf.o;refine⟨rfl,_,?_,(sF.of a9.o).trans (R.to aP.o)⟩;rw[a4.o];exact a7
def Yu(s:ES)(x:Pc):ES:={s with pu:=s.pu++(iY x).map (λk=>(k,x)),lp:=s.lp++(if x.K=7 then[x.R] else[])}
def aa2(x:Pc):Prop:=∀(w:W_)(B:Nat)(X:Nat->Prop)(E:V_)(vf:Slot->V_)(s:ES),jR w B X E vf s->Y2 x->l_ s.pu<=999990->l_ s.lp<=1000000-> Calls prog 202 #[.pointer (a_ (B+9) 0),.agg (vP x)] w λe w'=>e=.returned (.tuple #[])/\∃m,jR w' B X E m (Yu s x)/\sF X vf w m w'
def agB(x:Pc)(I:1<=x.K/\x.K<=9)(K:x.K≠7):aa2 x:=by
 intro w B X i vf s h d hl ao;unfold vP d_;obtain⟨j,A⟩:∃q,w.alloc (.cells #[.pointer (a_ (B+9) 0)] 218)=q:=⟨_,rfl⟩;obtain⟨k,o⟩:=e_ w.heap.size;obtain⟨c,D⟩:=e_ (j.alloc (.cells (vP x) 150));obtain⟨p,J⟩:=e_ j.heap.size;(have g:G w j:=by rw[<-A];exact bA);(have y:G j c:=by rw[<-D];exact bA);have ap:=O (g.trans (y.mono g.size));have M:Hid (f_ c k 218 #[.pointer (a_ (B+9) 0)]):=O (bk y (by rw[<-A,<-o];exact f_.new _ _ _));have C:Hid (f_ c p 150 (vP x)):=O (by rw[<-D,<-J];exact f_.new _ _ _);have N:Hid (¬Yb X vf k):=O (by rw[<-o];exact h.fresh (gH _));have H:Hid (¬Yb X vf p):=O (by rw[<-J];exact(h.up g).fresh (gH _));have F:Hid (jR c B X i vf {s with pu:=s.pu++[]}):=O (by simpa using(h.up g).up y);have t:=O (sF.refl X vf c)
 have aq:Hid (∀(r a:List UInt8)(W:W_)(E:Slot->V_)(L:List (Ky×Pc)),l_ r<=m_->l_ a<=m_->jR W B X i E {s with pu:=s.pu++L}->sF X vf c E W->l_ L<=5->z 263 #[r,a,.pointer (a_ p 0),.pointer (a_ k 0)] W λe w'=>
  e=.returned (.tuple #[])/\∃R,jR w' B X i R {s with pu:=s.pu++(L++[(⟨x.K,r,a⟩,x)])}/\sF X vf c R w'):=O λr a W E L Y aj u f ar=>
  (acX x r a W B X i E _ p k u (f.blk C.o H.o) (f.nx C.o.lt H.o) (f.blk M.o N.o) (f.nx M.o.lt N.o) ⟨d.1,Y,aj⟩ (by simp;omega)).mono λ_ _ ⟨e,_,ak,al⟩=>⟨e,_,Q ak,f.trans al⟩
 have U:Hid (∀l:List UInt8,l=[]\/l=x.A\/l=x.B\/l=x.R\/l=x.S->l_ l<=m_):=O (by rintro l (rfl|rfl|rfl|rfl|rfl)<;>first|exact d.2.1|exact d.2.2.1|exact d.2.2.2.2.1|exact d.2.2.2.2.2.1|simp);obtain⟨V,c1,c2,c3,c4,c5,c6,c7,c8,c9⟩:=iJ C.o;obtain⟨n,v⟩:=e_ x.K;(have b:∀m:Int,(x.K==m)=(n==m):=λm=>by rw[v]);rw[v]at I K;have P:=O v;clear h d g y v hl ao;obtain⟨q,am⟩:∃q,(x.B==x.A)=q:=⟨_,rfl⟩;have an:Hid (q=true↔x.B=x.A):=O (by rw[<-am];simp);rcases(show n=1\/n=2\/n=3\/n=4\/n=5\/n=6\/n=8\/n=9 by omega) with rfl|rfl|rfl|rfl|rfl|rfl|rfl|rfl;(case' inr.inl=>cases q);all_goals clear I K;go_in;go_wp2_with (go_at_call 263;(with_reducible refine(aq.o _ _ _ _ _ (U.o _ S) (U.o _ S) F.o t.o S).mono ?_);rintro e au ⟨rfl,av,T,t3⟩;replace F:=O T;replace t:=O t3;clear T t3 V c1 c2 c3 c4 c5 c6 c7 c8 c9;obtain⟨V,c1,c2,c3,c4,c5,c6,c7,c8,c9⟩:=iJ (t.o.blk C.o H.o));go_end0;refine⟨rfl,_,?_,(sF.of ap.o).trans t.o⟩;have u:=F.o;have Z:=an.o;simp[P.o]at u Z;unfold Yu iY;simpa[P.o,Z]using u
def agC(x:Pc)(d:x.K=7):aa2 x:=by
 intro w B X T vf s h aE hl a1;unfold vP d_;obtain⟨r,Q⟩:∃q,w.alloc (.cells #[.pointer (a_ (B+9) 0)] 218)=q:=⟨_,rfl⟩;obtain⟨i,S⟩:=e_ w.heap.size;obtain⟨b,V⟩:=e_ (r.alloc (.cells (vP x) 150));obtain⟨l,Y⟩:=e_ r.heap.size;(have K:Below w.heap.size w r:=by rw[<-Q];exact X_ (fu _ _) _);(have ak:f_ r i 218 #[.pointer (a_ (B+9) 0)]:=by rw[<-Q,<-S];exact f_.new _ _ _);(have L:Below r.heap.size r b:=by rw[<-V];exact X_ (fu _ _) _);have aF:Hid (Below w.heap.size w b):=j_ (K.trans (L.mono K.size));have A:=bk L ak;(have C:f_ b l 150 (vP x):=by rw[<-V,<-Y];exact f_.new _ _ _);have Z:=h.up K;have m:=Z.up L;(have z:¬Yb X vf i:=by rw[<-S];exact h.fresh (gH _));(have G:¬Yb X vf l:=by rw[<-Y];exact Z.fresh (gH _));obtain⟨c0,c1,c2,c3,c4,c5,c6,c7,c8,c9⟩:=iJ C;have J:=j_ m;have am:=j_ d;(have b1:(x.K==1)=false:=by rw[d];decide);(have b3:(x.K==3)=false:=by rw[d];decide);(have aS:(x.K==8)=false:=by rw[d];decide);(have b2:(x.K==2)=false:=by rw[d];decide);(have aT:(x.K==4)=false:=by rw[d];decide);(have aU:(x.K==5)=false:=by rw[d];decide);(have aV:(x.K==9)=false:=by rw[d];decide);(have aW:(x.K==6)=false:=by rw[d];decide);(have aX:(x.K==7)=true:=by rw[d];decide);have F:=m.rows.own .loops;obtain⟨n,p,j⟩:=n_ F;(have an:l_ (SC s .loops)=l_ s.lp:=by simp[SC]);rw[an]at j F;rw[j]at F;(have ay:b.cell? (a_ (B+9) 1)=some (.slice n (l_ s.lp) p):=by rw[<-j];exact m.blk.cell 1);(have aG:∀o,(b.alloc o).cell? (a_ (B+9) 1)=some (.slice n (l_ s.lp) p):=λo=>by rw[<-j];exact(m.blk.alloc o).cell 1);have az:b.cell? (a_ i 0)=some (.pointer (a_ (B+9) 0)):=A.cell 0;have t:=h.xb 9 U;(have ao:∀g,X g->some g≠(Value.slice n (l_ s.lp) p).ownBlock:=λg f e=>by rw[<-j]at e;exact h.rows.fx _ _ e.symm f);(have M:∀g,¬Yb X vf g->some g≠(Value.slice n (l_ s.lp) p).ownBlock:=λg f e=>by rw[<-j]at e;exact f (.inr ⟨_,e.symm⟩));have aH:Hid (b.ownsRow B 9 1 (.slice n (l_ s.lp) p) (l_ s.lp) (s.lp.map d_)):=j_ (by rw[<-BM];exact F);(have ap:=j_ λ(o:Obj)(W:W_)(f:(b.alloc o).drew.grownBy W (Value.slice n (l_ s.lp) p).ownBlock)=>(show(W.cell? (a_ i 0)=some (.pointer (a_ (B+9) 0))/\W.cell? (a_ l 4)=some (.string ⟨x.R.toArray⟩))/\f_ W (B+9) 227 (BL B T (.slice n (l_ s.lp) p)) from⟨⟨(((A.alloc o).drew).grown f (M _ z)).cell 0,(((C.alloc o).drew).grown f (M _ G)).cell 4⟩,by rw[<-j];exact((m.blk.alloc o).drew).grown f (ao _ t)⟩));have aA:b.cell? (a_ i 0)=some (.pointer (a_ (B+9) 0))/\b.cell? (a_ l 4)=some (.string ⟨x.R.toArray⟩):=⟨A.cell 0,C.cell 4⟩;(have aq:∀o,(b.alloc o).cell? (a_ i 0)=some (.pointer (a_ (B+9) 0))/\(b.alloc o).cell? (a_ l 4)=some (.string ⟨x.R.toArray⟩):=λo=>⟨(A.alloc o).cell 0,(C.alloc o).cell 4⟩);(have a2:B<=b:=by have:=(m.xlt _ t).2;omega);have ar:=j_ j;have au:=j_ t;(have av:i≠B+9:=λe=>z (.inl (by rw[e];exact t)));have aw:l≠B+9:=λe=>G (.inl (by rw[e];exact t))
 have aI:Hid (∀(W:W_)(v:V_),(W.cell? (a_ i 0)=some (.pointer (a_ (B+9) 0))/\W.cell? (a_ l 4)=some (.string ⟨x.R.toArray⟩))->(W.setCell (a_ (B+9) 1) v).cell? (a_ i 0)=some (.pointer (a_ (B+9) 0))/\(W.setCell (a_ (B+9) 1) v).cell? (a_ l 4)=some (.string ⟨x.R.toArray⟩)):=j_ λW v k=>
  have tr:∀(g H:Nat)(u:V_),g≠B+9->W.cell? (a_ g H)=some u->(W.setCell (a_ (B+9) 1) v).cell? (a_ g H)=some u:=λg H u f hc=>(EH (w:=W) (a:=a_ g H) (Fg _ _ _ _ f)).trans hc
  ⟨tr _ _ _ av k.1,tr _ _ _ aw k.2⟩
 obtain⟨is,aJ,aK,aL,aM⟩:=qw mh;clear h aE d K ak L A C Z m z G F j an t ao M av aw;go_in;go_wp2_with fail;clear c0 c1 c2 c3 c5 c6 c7 c8 c9;obtain⟨a0,a4⟩:=aA;obtain⟨aY,aZ⟩:=aq (.cells #[.string ⟨x.R.toArray⟩] 9);go_region_law ((refine gI _ (enc1 d_) rfl (.tmp 66) (.tmp 69) 28 rfl B 9 is (x_) 1 16 underlying28 aJ aK aL aM rfl D _ _ _ rfl (aH.out.alloc _) _ _ [x.R] (λ_=>rfl) rfl (S1.lit b b.heap.size rfl 9 #[.string ⟨x.R.toArray⟩] d_ [x.R] 1 rfl rfl (by simp[m_])) (λx _ u aB=>by(rw[gW.1 aB];rfl)) ?c1 ?c2 ?c3 ?_;(case c1=>(simp only[m_,wT];omega));(case c2=>(simp only[wT];omega));(case c3=>(simp;omega));intro v4 I O N ax;have P:=j_ (ap.out _ _ N);have aN:=j_ O;have aO:=j_ N;have aR:=j_ ax;have s4:=P.out.1;have k4:=P.out.2.cell 1;have z4:I.frozen? (a_ (B+9) 1)=false:=P.out.2.frozen 1;obtain⟨y,E,rfl⟩:=n_ O;clear O N ax));all_goals clear aq ay aG az c4 ap aI;(try clear s4 k4 z4);go_wp2;go_end0;have aP:=UH I (B+9) 1 (.slice y (l_ s.lp+1) E);have R:=FI (c:=[d_ x.R]) J.out.rows (λg f=>(J.out.xlt g f).2) .loops (q:=B+9) au.out (((Aw.refl _ _).al _).then (fu _ _).drew) aN.out (by simp[SC]) (by simp[SC,BM,enc1]) (by rw[ar.out];exact aO.out) (by rw[ar.out];exact aR.out) aP;have aQ:f_ (I.setCell (a_ (B+9) 1) (.slice y (l_ s.lp+1) E)) (B+9) 227 (BL B T (.slice y (l_ s.lp+1) E)):=P.out.2.iK 1 _;have aC:=J.out.Yo x.R R aQ;(have e:iY x=[]:=by unfold iY;rw[am.out];simp);(have aD:jR (I.setCell (a_ (B+9) 1) (.slice y (l_ s.lp+1) E)) B X T (iE vf .loops (.slice y (l_ s.lp+1) E)) (Yu s x):=by unfold Yu;rw[e,P_ am.out];simpa using aC);exact⟨rfl,_,aD,(sF.of aF.out).trans (R.to au.out)⟩
def Q7(x:Pc)(a:1<=x.K/\x.K<=9):aa2 x:=by by_cases h:x.K=7;(.exact agC x h);.exact agB x a h




