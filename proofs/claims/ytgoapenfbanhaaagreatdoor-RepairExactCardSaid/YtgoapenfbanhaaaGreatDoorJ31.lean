import Derived.Test.YtgoapenfbanhaaaGreatDoorJ28
set_option linter.all false
set_option maxRecDepth 100000
set_option maxHeartbeats 32000000
open List renaming length->l_
open Go.Maps Go.RowKit Go.Proofs.Tryz
open Go renaming World->W_,Value->V_,maxLen->m_,TypeId->T_
namespace Go.Proofs.YtgoapenfbanhaaaGreatDoor
variable{α:Type}{v:A_}{s:ES}{c f:Fc}{n:FuncId}{A:J_}{P l:List Pc}{B b cap g k most:Nat}{X:Nat->Prop}{r:Result V_}{vf:Slot->V_}{t:T_}{u:V_}{W d w:W_}{enc:α->O_}
def lK.step{w w5:W_}{B most a:Nat}{X:Nat->Prop}{vf:Slot->V_}{s b:ES}{i:Slot}{v':V_}{c:O_}(h:lK w B X most a vf s){j:Nat}(n:j<=8)(hi:i≠.queue)(R:jG w w5 B X vf s i (B+j) v' c)(d:jR w5 B X (oQ a) (iE vf i v') b):lK w5 B X most a (iE vf i v') b:=by have o:=h.gt;(have k:∀g,X g->g≠B+j->w5.heap[g]?=w.heap[g]? :=λg f l=>jG.at h.e R f l);refine⟨d,(k _ h.xx.1 U).trans h.g,(k _ h.xx.2.1 U).trans h.m,?_,h.xx,h.gt⟩;rw[ku _ _ (cv_ hi)];exact(k _ h.xx.2.2 U).trans h.q
noncomputable def FJ (s:ES) (f:Fc):ES:=
 if f.K=1 then {s with ix:=s.ix++[f],ab:=s.ab++[(f.A,f.B)]}
 else if f.K=2 then {s with ix:=s.ix++[f],un:=s.un++[(f.B,f.A)],fr:=s.fr++[(⟨f.A,f.R⟩,f.B)],it:=s.it++[(⟨f.B,f.R⟩,f.A)]}
 else {s with ix:=s.ix++[f],ra:=s.ra++[(⟨f.A,f.R⟩,f)],fi:=s.fi++(if f∈s.fm then[(⟨f.A,f.R⟩,f)] else[])}
def lK.ghost{a:Nat}(h:lK w B X most a vf s)(l:List Fc):lK w B X most a vf {s with ix:=l}:=⟨⟨h.e.blk,h.e.rows,h.e.xb,h.e.xlt,⟨h.e.m.mp,h.e.m.kn,h.e.m.ma,h.e.m.mu,h.e.m.mf,h.e.m.mi,h.e.m.mr,h.e.m.ms,h.e.m.mz⟩⟩,h.g,h.m,h.q,h.xx,h.gt⟩
structure aa5(s:ES):Prop where
 ab:l_ s.ab<=1000000
 un:l_ s.un<=1000000
 fr:l_ s.fr<=1000000
 it:l_ s.it<=1000000
 ra:l_ s.ra<=1000000
 fi:l_ s.fi<=1000000
def aa6(w:W_)(B:Nat)(X:Nat->Prop)(most b:Nat)(vf:Slot->V_)(s:ES)(f:Fc)(e:Ending)(w':W_):Prop:=e=.returned (.tuple #[])/\∃m,lK w' B X most b m (FJ s f)/\sF X vf w m w'
def aik(f:Fc):Prop:=∀(w:W_)(B:Nat)(X:Nat->Prop)(most b:Nat)(vf:Slot->V_)(s:ES),lK w B X most b vf s->SmF f->aa5 s-> z 146 #[.pointer (a_ (B+9) 0),.agg (vF f)] w (aa6 w B X most b vf s f)
section
variable{l:List α}
variable{w w3 w4 w5 W:W_}{B most bg:Nat}{X:Nat->Prop}{vf mP:Slot->V_}{s:ES}{i:Slot}{v':V_}{cs:O_}{j n c:Nat}{A:J_}
structure Rw(w:W_)(B:Nat)(X:Nat->Prop)(most bg:Nat)(vf:Slot->V_)(s:ES)(i:Slot)(j:Nat)(A:Option Addr)(n c:Nat):Prop where
 h:lK w B X most bg vf s
 j:j<=8
 v:vf i=.slice A n c
 n:n=l_ (SC s i)
def Rw.of(h:lK w B X most bg vf s)(i:Slot)(a:j<=8):∃A n c,Rw w B X most bg vf s i j A n c:=by obtain⟨A,c,H⟩:=n_ (h.e.rows.own i);exact⟨A,_,c,h,a,H,rfl⟩
def Rw.x(p:Rw w B X most bg vf s i j A n c):X (B+j):=p.h.e.xb j (gY p.j D)
def Rw.fx(p:Rw w B X most bg vf s i j A n c)(h:(Value.slice A n c).ownBlock=some g):¬X g:=p.h.e.rows.fx i g (by rw[p.v];exact h)
def Rw.own(p:Rw w B X most bg vf s i j A n c)(a:Aw (λg=>g=B+j) w W):W.ownsRow B (eT i) (kT i) (.slice A n c) n (SC s i).flatten:=by have b:=p.h.e.rows.own i;rw[p.v,<-p.n]at b;exact sU b λg d=>a.block g (b.lt g d).2 λe=>p.fx d (by rw[e];exact p.x)
def Kp(X:Nat->Prop)(vf:Slot->V_)(B:Nat)(w W:W_):Prop:=∀b t v,f_ w b t v->b=B+9\/¬Yb X vf b->f_ W b t v
def Rw.ne(p:Rw w B X most bg vf s i j A n c)(h:b=B+9\/¬Yb X vf b):b≠B+j/\some b≠(Value.slice A n c).ownBlock:=by have a:=p.j;rcases h with h|h;(.exact⟨U,λe=>p.fx e.symm (by rw[h];exact p.h.e.xb 9 D)⟩);.exact⟨λe=>h (.inl (by rw[e];exact p.x)),λe=>h (.inr ⟨i,by rw[p.v];exact e.symm⟩)⟩
def Rw.k0(p:Rw w B X most bg vf s i j A n c)(a:Aw (λg=>g=B+j) w W):Kp X vf B w W:=λ_ _ _ hb h=>a.blk hb (p.ne h).1
def Rw.k4(p:Rw w B X most bg vf s i j A n c)(a:Aw (λg=>g=B+j) w w3)(b:w3.grownBy W (Value.slice A n c).ownBlock):Kp X vf B w W:=λ_ _ _ hb h=>(a.blk hb (p.ne h).1).grown b (p.ne h).2
def Rw.k5(p:Rw w B X most bg vf s i j A n c)(k:Kp X vf B w w4)(a:w4.grownBy w5 (some (B+j))):Kp X vf B w w5:=λb t v hb h=>(k b t v hb h).grown a λe=>(p.ne h).1 (by injection e)
def Rw.map(p:Rw w B X most bg vf s i j A n c)(a:Aw (λg=>g=B+j) w w3)(b:w3.grownBy W (Value.slice A n c).ownBlock):W.heap[B+j]?=w3.heap[B+j]? :=b.block _ (qO (p.h.e.xlt _ p.x).2 a.size) λe=>p.fx e.symm p.x
def Rw.base(p:Rw w B X most bg vf s i j A n c)(a:Aw (λg=>g=B+j) w W):B<=W:=by have:=p.h.e.xlt _ p.x;have:=a.size;omega
def Rw.step(p:Rw w B X most bg vf s i j A n c)(a:Aw (λg=>g=B+j) w w3)(d:w4.ownsRow B (eT i) (kT i) v' (n+1) ((SC s i).flatten++cs))(b:w3.grownBy w4 (Value.slice A n c).ownBlock)(f:v'.ownBlock=(Value.slice A n c).ownBlock\/v'.ownBlock=some w3.heap.size)(k:w4.grownBy w5 (some (B+j))):jG w w5 B X vf s i (B+j) v' cs:=FI p.h.e.rows (λg b=>(p.h.e.xlt g b).2) i p.x a d (by rw[p.n]) rfl (by rw[p.v];exact b) (by rw[p.v];exact f) k
def Rw.lit(p:Rw w B X most bg vf s i j A n c)(h:Rd w3 enc k (.slice (a_ w.heap.size 0) 1 1) l)(d:w3.drew.grownBy W (some (B+j))):Rd W enc k (.slice (a_ w.heap.size 0) 1 1) l:=
 (h.up (fu _ _).drew).kept d λa n c e _ b=>by injection e with e;injection e with e;subst e;injection b with b;have:=(p.h.e.xlt _ p.x).2;simp only at b;omega
def Rw.gd{a:Type}{g:a->Slot}{l:List (a×α)}[DecidableEq a]{k:a}(p:Rw w B X most bg vf s (g k) j A n c)(h:r=.ok (.tuple #[(lq (λk=>vf (g k)) (jC l) k).getD (.slice none 0 0),u]) W)(e:jC l k=[]->SC s (g k)=[]):r=.ok (.tuple #[.slice A n c,u]) W:=by rw[h,jP (vf:=λk=>vf (g k)) (λx=>p.h.e.rows.nil _ (e x)),p.v]
def LB(w:W_)(X:Nat->Prop)(vf:Slot->V_)(b:Nat)(t:T_)(v:A_):Prop:=f_ w b t v/\¬Yb X vf b
def LB.to(h:LB w X vf b t v)(k:sF X vf w mP W):LB W X mP b t v:=⟨k.blk h.1 h.2,k.nx h.1.lt h.2⟩
def LB.up(h:LB w X vf b t v)(k:G w W):LB W X vf b t v:=⟨bk k h.1,h.2⟩
def fcS{w:W_}(h:f_ w b t (vF f)):N w b 0 f.K/\N w b 1 (d_ f.A)/\N w b 2 (d_ f.B)/\N w b 3 (d_ f.R)/\N w b 4 f.lo/\N w b 5 f.hi:=⟨h.cell 0,h.cell 1,h.cell 2,h.cell 3,h.cell 4,h.cell 5⟩
def lK.lb(h:lK w B X most bg vf s)(hl:w<=b)(k:f_ W b t v):LB W X vf b t v:=⟨k,h.e.fresh hl⟩
end
def UQ(f:Fc)(ar:1<=f.K/\f.K<=3):aik f:=by
 intro aN B X most bg a2 s1 h M aw;unfold vF;obtain⟨L,aS⟩:=e_ (aN.alloc (.cells (vF f) 152));obtain⟨C,aT⟩:=e_ aN.heap.size;(have aZ:G aN L:=by rw[<-aS];exact bA);have r:=O (h.lb (Nat.le_of_eq aT) (by rw[<-aS,<-aT];exact f_.new _ _ _:f_ L C 152 (vF f)));have d:=O (h.up aZ);have j:Hid (sF X a2 aN a2 L):=O (.of aZ);obtain⟨aO,b1,b2,b3,aP,aQ⟩:=fcS r.o.1;rcases(show f.K=1\/f.K=2\/f.K=3 by omega) with ar|ar|ar;all_goals (have b:∀m:Int,(f.K==m)=(_==m):=λm=>iM (·==m) ar);replace ar:=O ar
 .go_in
  go_wp2_with fail;obtain⟨A,n,c,p⟩:=Rw.of d.o (.ab f.A) (show 2<=8 by decide);(have ax:n<=1000000:=by rw[p.n];exact gY (by simp only[SC,qm];exact sQ _ _) aw.ab);have i:=(X_ (fu L.heap.size L) (.cells #[d_ f.B] 9)).drew;(have aV:(Instr.lookup 223 (.map (some (B+2))) (d_ f.A) false).run prog L.drew=.ok (.slice A n c) L.drew:=by rw[<-p.v];exact(d.o.up (fu _ _).drew).e.aaP _ M.ok.2.1);(have aW:(Instr.lookup 223 (.map (some (B+2))) (d_ f.A) false).run prog (L.alloc (.cells #[d_ f.B] 9)).drew=.ok (.slice A n c) (L.alloc (.cells #[d_ f.B] 9)).drew:=by rw[<-p.v];exact(d.o.up i).e.aaP _ M.ok.2.1);have a:=Aw.of (X:=λg=>g=B+2) i;have aR:=(d.o.up i).e.m.ma;(have y:=λ(W:W_)(k:Kp X _ B L W)=>show N W (B+9) 4 (.map (some (B+2)))/\N W C 1 (d_ f.A)/\N W C 2 (d_ f.B) from⟨(k _ _ _ d.o.e.blk (.inl rfl)).cell 4,(k _ _ _ r.o.1 (.inr r.o.2)).cell 1,(k _ _ _ r.o.1 (.inr r.o.2)).cell 2⟩);have I:=y _ (p.k0 (.refl _ _));have s2:=y _ (p.k0 a);(have s3:=λo=>y _ (p.k0 (.al (.refl _ _) o)));have hb:=p.base a;have Y:=(p.own a);have E:=O p;have F:=O a;obtain⟨ay,ad,ae,af,ag⟩:=qw mh;go_wp2
  go_region_held3 (λW=>N W (B+9) 4 (.map (some (B+2)))/\N W C 1 (d_ f.A)/\N W C 2 (d_ f.B))
   (first|with_reducible exact I|with_reducible exact s5|with_reducible exact s4|with_reducible exact s2|with_reducible exact s3 _|exact I|exact s3 _|exact s2)
   (first|(refine gI _ (enc1 d_) rfl (.tmp 23) (.tmp 26) 28 rfl B 9 ay (x_) 1 16 underlying28 ad ae af ag rfl D _ _ _ rfl Y _ _ [f.B] (λ_=>rfl) rfl (S1.lit L L.heap.size rfl 9 #[d_ f.B] d_ [f.B] 1 rfl rfl (by simp[m_])) (λx _ u az=>by(rw[gW.1 az];rfl)) ?c1 ?c2 hb ?_;(case c1=>(simp only[m_,wT];omega));(case c2=>(simp only[wT];omega));intro V Q J H z;have P:=(E.o.k4 F.o H);have s4:=y _ P;obtain⟨T,s,v,Z⟩:=(aR.mY (E.o.map F.o H)).put (K:=KT) underlying223 (Zf aw.ab (by simp[m_])) (x:=f.A) M.ok.2.1 V;have aE:(Instr.mapUpdate 223 (.map (some (B+2))) (d_ f.A) V).run prog Q=.ok () T:=s;have s5:=y _ (E.o.k5 P Z);have R:=(E.o.step F.o J H z Z);have aj:=O v;clear J H z s v Z P)|fail)
  all_goals clear I s2 s3 aV aW y Y E F hb ax ad ae af ag aR;(try clear s4);(try clear s5);(try clear aE);have t:=R.to (d.o.e.xb 2 D);replace r:=O (r.o.to t);replace j:=O (j.o.trans t);replace d:=O (d.o.step D (by intro e;cases e) R (d.o.e.aeG f.A f.B R aj.o));go_wp2;go_end0;refine⟨rfl,_,?_,j.o⟩;unfold FJ;rw[P_ ar.o];exact d.o.ghost (s1.ix++[f])
 .go_in
  go_wp2_with fail;obtain⟨A,n,c,p⟩:=Rw.of d.o (.un f.B) (show 3<=8 by decide);(have ax:n<=1000000:=by rw[p.n];exact gY (by simp only[SC,qm];exact sQ _ _) aw.un);have i:=(X_ (fu L.heap.size L) (.cells #[d_ f.A] 9)).drew;(have aV:(Instr.lookup 223 (.map (some (B+3))) (d_ f.B) false).run prog L.drew=.ok (.slice A n c) L.drew:=by rw[<-p.v];exact(d.o.up (fu _ _).drew).e.aaQ _ M.ok.2.2.1);(have aW:(Instr.lookup 223 (.map (some (B+3))) (d_ f.B) false).run prog (L.alloc (.cells #[d_ f.A] 9)).drew=.ok (.slice A n c) (L.alloc (.cells #[d_ f.A] 9)).drew:=by rw[<-p.v];exact(d.o.up i).e.aaQ _ M.ok.2.2.1);have a:=Aw.of (X:=λg=>g=B+3) i;have aR:=(d.o.up i).e.m.mu;(have y:=λ(W:W_)(k:Kp X _ B L W)=>show N W (B+9) 5 (.map (some (B+3)))/\N W C 1 (d_ f.A)/\N W C 2 (d_ f.B) from⟨(k _ _ _ d.o.e.blk (.inl rfl)).cell 5,(k _ _ _ r.o.1 (.inr r.o.2)).cell 1,(k _ _ _ r.o.1 (.inr r.o.2)).cell 2⟩);have I:=y _ (p.k0 (.refl _ _));have s2:=y _ (p.k0 a);(have s3:=λo=>y _ (p.k0 (.al (.refl _ _) o)));have hb:=p.base a;have Y:=(p.own a);have E:=O p;have F:=O a;obtain⟨ay,ad,ae,af,ag⟩:=qw mh;go_wp2
  go_region_held3 (λW=>N W (B+9) 5 (.map (some (B+3)))/\N W C 1 (d_ f.A)/\N W C 2 (d_ f.B))
   (first|with_reducible exact I|with_reducible exact s5|with_reducible exact s4|with_reducible exact s2|with_reducible exact s3 _|exact I|exact s3 _|exact s2)
   (first|(refine gI _ (enc1 d_) rfl (.tmp 42) (.tmp 45) 28 rfl B 9 ay (x_) 1 16 underlying28 ad ae af ag rfl D _ _ _ rfl Y _ _ [f.A] (λ_=>rfl) rfl (S1.lit L L.heap.size rfl 9 #[d_ f.A] d_ [f.A] 1 rfl rfl (by simp[m_])) (λx _ u az=>by(rw[gW.1 az];rfl)) ?c1 ?c2 hb ?_;(case c1=>(simp only[m_,wT];omega));(case c2=>(simp only[wT];omega));intro V Q J H z;have P:=(E.o.k4 F.o H);have s4:=y _ P;obtain⟨T,s,v,Z⟩:=(aR.mY (E.o.map F.o H)).put (K:=KT) underlying223 (Zf aw.un (by simp[m_])) (x:=f.B) M.ok.2.2.1 V;have aE:(Instr.mapUpdate 223 (.map (some (B+3))) (d_ f.B) V).run prog Q=.ok () T:=s;have s5:=y _ (E.o.k5 P Z);have R:=(E.o.step F.o J H z Z);have aj:=O v;clear J H z s v Z P)|fail)
  all_goals
   have t:=R.to (d.o.e.xb 3 D)
   replace r:=O (r.o.to t)
   replace j:=O (j.o.trans t)
   replace d:=O (d.o.step D (by intro e;cases e) R (d.o.e.aeH f.B f.A R aj.o))
   go_wp2_with fail
   have y:=λW (aX:G T W)=>show N W C 1 (d_ f.A)/\N W C 2 (d_ f.B)/\N W C 3 (d_ f.R) from⟨(bk aX r.o.1).cell 1,(bk aX r.o.1).cell 2,(bk aX r.o.1).cell 3⟩
   have I:=y _ (fu _ _)
   go_region_held3 (λW=>N W C 1 (d_ f.A)/\N W C 2 (d_ f.B)/\N W C 3 (d_ f.R))
    (first|with_reducible exact I|exact y _ bA.drew|exact y _ (X_ bA _).drew|exact I)
    (first|fail)
   all_goals
    first|(obtain⟨w,aF⟩:∃q,((T.alloc (.cells #[d_ f.A,d_ f.R] 284)).alloc (.cells #[d_ f.B,d_ f.R] 284)).drew=q:=⟨_,rfl⟩;rw[aF];obtain⟨aA,aL⟩:=e_ (T.heap.size+1);rw[aL];obtain⟨aB,aM⟩:=e_ T.heap.size;rw[aM];(have i:G T w:=by rw[<-aF];exact(X_ bA _).drew);have au:=O (d.o.lb U (by rw[<-aF,<-aM];exact((f_.new _ _ _).alloc _).drew:f_ w aB 284 #[d_ f.A,d_ f.R]));have av:=O (d.o.lb U (by rw[<-aF,<-aL];exact(f_.newAt _ _ _ S).drew:f_ w aA 284 #[d_ f.B,d_ f.R]));clear aF aM aL)|(obtain⟨w,aF⟩:∃q,((T.alloc (.cells #[d_ f.B,d_ f.R] 284)).alloc (.cells #[d_ f.A,d_ f.R] 284)).drew=q:=⟨_,rfl⟩;rw[aF];obtain⟨aB,aM⟩:=e_ (T.heap.size+1);rw[aM];obtain⟨aA,aL⟩:=e_ T.heap.size;rw[aL];(have i:G T w:=by rw[<-aF];exact(X_ bA _).drew);have av:=O (d.o.lb U (by rw[<-aF,<-aL];exact((f_.new _ _ _).alloc _).drew:f_ w aA 284 #[d_ f.B,d_ f.R]));have au:=O (d.o.lb U (by rw[<-aF,<-aM];exact(f_.newAt _ _ _ S).drew:f_ w aB 284 #[d_ f.A,d_ f.R]));clear aF aM aL)
    replace d:=O (d.o.up i)
    replace j:=O (j.o.then i)
    replace r:=O (r.o.up i)
    obtain⟨A,n,c,p⟩:=Rw.of d.o (.fr ⟨f.A,f.R⟩) (show 4<=8 by decide)
    have ax:n<=1000000:=by rw[p.n];exact gY (by simp only[SC,qm];exact sQ _ _) aw.fr
    have i:=(X_ (fu w.heap.size w) (.cells #[d_ f.B] 9)).drew
    obtain⟨st,aJ,aC,ap,_,aG⟩:=h_.entry ZG (d.o.up i).e.m.mf underlying224 (λu=>zeroValue28 u) (Zf aw.fr (by simp[m_])) (x:=⟨f.A,f.R⟩) ⟨M.ok.2.1,M.ok.2.2.2.1⟩
    have aK:(Instr.mapEntry 224 (.map (some (B+4))) (.agg #[d_ f.A,d_ f.R])).run prog (w.alloc (.cells #[d_ f.B] 9)).drew=.ok (.tuple #[.slice A n c,st]) aJ:=p.gd (g:=Slot.fr) aC λe=>by simp[SC,e]
    have a:=(Aw.of (X:=λg=>g=B+4) i).grown ap λ_=>rfl
    have aD:=(p.lit (enc:=enc1 d_) (k:=1) (l:=[f.B]) (S1.lit w w.heap.size rfl 9 #[d_ f.B] d_ [f.B] 1 rfl rfl (by simp[m_])) ap)
    have aH:=O aG
    have y:=λ(W:W_)(k:Kp X _ B w W)=>show N W (B+9) 6 (.map (some (B+4)))/\N W C 2 (d_ f.B)/\N W aB 0 (d_ f.A)/\N W aB 1 (d_ f.R)/\N W aA 0 (d_ f.B)/\N W aA 1 (d_ f.R) from⟨(k _ _ _ d.o.e.blk (.inl rfl)).cell 6,(k _ _ _ r.o.1 (.inr r.o.2)).cell 2,(k _ _ _ au.o.1 (.inr au.o.2)).cell 0,(k _ _ _ au.o.1 (.inr au.o.2)).cell 1,(k _ _ _ av.o.1 (.inr av.o.2)).cell 0,(k _ _ _ av.o.1 (.inr av.o.2)).cell 1⟩
    have I:=y _ (p.k0 (.refl _ _))
    have s2:=y _ (p.k0 a)
    have s3:=λo=>y _ (p.k0 (.al (.refl _ _) o))
    have hb:=p.base a
    have Y:=(p.own a)
    have E:=O p
    have F:=O a
    obtain⟨ay,ad,ae,af,ag⟩:=qw mh
    go_wp2
    go_region_held3 (λW=>N W (B+9) 6 (.map (some (B+4)))/\N W C 2 (d_ f.B)/\N W aB 0 (d_ f.A)/\N W aB 1 (d_ f.R)/\N W aA 0 (d_ f.B)/\N W aA 1 (d_ f.R))
     (first|with_reducible exact I|with_reducible exact s5|with_reducible exact s4|with_reducible exact s2|with_reducible exact s3 _|exact I|exact s3 _|exact s2)
     (first|(refine gI _ (enc1 d_) rfl (.tmp 62) (.tmp 65) 28 rfl B 9 ay (x_) 1 16 underlying28 ad ae af ag rfl D _ _ _ rfl Y _ _ [f.B] (λ_=>rfl) rfl (aD) (λx _ u az=>by(rw[gW.1 az];rfl)) ?c1 ?c2 hb ?_;(case c1=>(simp only[m_,wT];omega));(case c2=>(simp only[wT];omega));intro V Q J H z;have P:=(E.o.k4 F.o H);have s4:=y _ P;obtain⟨w4,s,v,Z⟩:=aH.o Q V (E.o.map F.o H);have aE:(Instr.entryStore 224 (.map (some (B+4))) (.int .i64 st) V).run prog Q=.ok () w4:=s;have s5:=y _ (E.o.k5 P Z);have R:=(E.o.step F.o J H z Z);have aj:=O v;clear J H z s v Z P)|fail)
    all_goals
     have t:=R.to (d.o.e.xb 4 D)
     replace r:=O (r.o.to t)
     replace au:=O (au.o.to t)
     replace av:=O (av.o.to t)
     replace j:=O (j.o.trans t)
     replace d:=O (d.o.step D (by intro e;cases e) R (d.o.e.aeI ⟨f.A,f.R⟩ f.B R aj.o))
     obtain⟨A,n,c,p⟩:=Rw.of d.o (.it ⟨f.B,f.R⟩) (show 5<=8 by decide)
     have ax:n<=1000000:=by rw[p.n];exact gY (by simp only[SC,qm];exact sQ _ _) aw.it
     have i:=(X_ (fu w4.heap.size w4) (.cells #[d_ f.A] 9)).drew
     obtain⟨st,aJ,aC,ap,_,aG⟩:=h_.entry ZG (d.o.up i).e.m.mi underlying224 (λu=>zeroValue28 u) (Zf aw.it (by simp[m_])) (x:=⟨f.B,f.R⟩) ⟨M.ok.2.2.1,M.ok.2.2.2.1⟩
     have aK:(Instr.mapEntry 224 (.map (some (B+5))) (.agg #[d_ f.B,d_ f.R])).run prog (w4.alloc (.cells #[d_ f.A] 9)).drew=.ok (.tuple #[.slice A n c,st]) aJ:=p.gd (g:=Slot.it) aC λe=>by simp[SC,e]
     have a:=(Aw.of (X:=λg=>g=B+5) i).grown ap λ_=>rfl
     have aD:=(p.lit (enc:=enc1 d_) (k:=1) (l:=[f.A]) (S1.lit w4 w4.heap.size rfl 9 #[d_ f.A] d_ [f.A] 1 rfl rfl (by simp[m_])) ap)
     have aH:=O aG
     have y:=λ(W:W_)(k:Kp X _ B w4 W)=>show N W (B+9) 7 (.map (some (B+5)))/\N W C 1 (d_ f.A)/\N W aB 0 (d_ f.A)/\N W aB 1 (d_ f.R)/\N W aA 0 (d_ f.B)/\N W aA 1 (d_ f.R) from⟨(k _ _ _ d.o.e.blk (.inl rfl)).cell 7,(k _ _ _ r.o.1 (.inr r.o.2)).cell 1,(k _ _ _ au.o.1 (.inr au.o.2)).cell 0,(k _ _ _ au.o.1 (.inr au.o.2)).cell 1,(k _ _ _ av.o.1 (.inr av.o.2)).cell 0,(k _ _ _ av.o.1 (.inr av.o.2)).cell 1⟩
     have I:=y _ (p.k0 (.refl _ _))
     have s2:=y _ (p.k0 a)
     have s3:=λo=>y _ (p.k0 (.al (.refl _ _) o))
     have hb:=p.base a
     have Y:=(p.own a)
     have E:=O p
     have F:=O a
     obtain⟨ay,ad,ae,af,ag⟩:=qw mh
     go_wp2
     go_region_held3 (λW=>N W (B+9) 7 (.map (some (B+5)))/\N W C 1 (d_ f.A)/\N W aB 0 (d_ f.A)/\N W aB 1 (d_ f.R)/\N W aA 0 (d_ f.B)/\N W aA 1 (d_ f.R))
      (first|with_reducible exact I|with_reducible exact s5|with_reducible exact s4|with_reducible exact s2|with_reducible exact s3 _|exact I|exact s3 _|exact s2)
      (first|(refine gI _ (enc1 d_) rfl (.tmp 74) (.tmp 77) 28 rfl B 9 ay (x_) 1 16 underlying28 ad ae af ag rfl D _ _ _ rfl Y _ _ [f.A] (λ_=>rfl) rfl (aD) (λx _ u az=>by(rw[gW.1 az];rfl)) ?c1 ?c2 hb ?_;(case c1=>(simp only[m_,wT];omega));(case c2=>(simp only[wT];omega));intro V Q J H z;have P:=(E.o.k4 F.o H);have s4:=y _ P;obtain⟨w5,s,v,Z⟩:=aH.o Q V (E.o.map F.o H);have aE:(Instr.entryStore 224 (.map (some (B+5))) (.int .i64 st) V).run prog Q=.ok () w5:=s;have s5:=y _ (E.o.k5 P Z);have R:=(E.o.step F.o J H z Z);have aj:=O v;clear J H z s v Z P)|fail)
     all_goals clear I s2 s3 aK y Y E F hb ax ad ae af ag aH aD;(try clear s4);(try clear s5);(try clear aE);have t:=R.to (d.o.e.xb 5 D);replace r:=O (r.o.to t);replace au:=O (au.o.to t);replace av:=O (av.o.to t);replace j:=O (j.o.trans t);replace d:=O (d.o.step D (by intro e;cases e) R (d.o.e.aeJ ⟨f.B,f.R⟩ f.A R aj.o));go_wp2;go_end0;refine⟨rfl,_,?_,j.o⟩;unfold FJ;rw[C_ (by rw[ar.o];decide),P_ ar.o];exact d.o.ghost (s1.ix++[f])
 .obtain⟨T,a0⟩:∃q,L.alloc (.cells #[d_ f.A,d_ f.R] 284)=q:=⟨_,rfl⟩
  obtain⟨aI,a3⟩:=e_ L.heap.size;go_in;go_wp2_with fail;(have i:G L T:=by rw[<-a0];exact bA);have aq:=O (d.o.lb U (by rw[<-a0,<-a3];exact f_.new _ _ _:f_ T aI 284 #[d_ f.A,d_ f.R]));replace d:=O (d.o.up i);replace j:=O (j.o.then i);replace r:=O (r.o.up i);obtain⟨A,n,c,p⟩:=Rw.of d.o (.ra ⟨f.A,f.R⟩) (show 6<=8 by decide);(have ax:n<=1000000:=by rw[p.n];exact gY (by simp only[SC,qm];exact sQ _ _) aw.ra);have i:=(X_ (fu T.heap.size T) (.cells #[f.K,d_ f.A,d_ f.B,d_ f.R,f.lo,f.hi] 152)).drew;obtain⟨st,aJ,aC,ap,_,aG⟩:=h_.entry ZG (d.o.up i).e.m.mr underlying225 (λu=>zeroValue90 u) (Zf aw.ra (by simp[m_])) (x:=⟨f.A,f.R⟩) ⟨M.ok.2.1,M.ok.2.2.2.1⟩;(have aK:(Instr.mapEntry 225 (.map (some (B+6))) (.agg #[d_ f.A,d_ f.R])).run prog (T.alloc (.cells #[f.K,d_ f.A,d_ f.B,d_ f.R,f.lo,f.hi] 152)).drew=.ok (.tuple #[.slice A n c,st]) aJ:=p.gd (g:=Slot.ra) aC λe=>by simp[SC,e]);(have a:=(Aw.of (X:=λg=>g=B+6) i).grown ap λ_=>rfl);have aD:=(p.lit (enc:=kX) (k:=6) (l:=[f]) (acU T f) ap);have aH:=O aG;(have y:=λ(W:W_)(k:Kp X _ B T W)=>show N W (B+9) 8 (.map (some (B+6)))/\N W C 0 f.K/\N W C 1 (d_ f.A)/\N W C 2 (d_ f.B)/\N W C 3 (d_ f.R)/\N W C 4 f.lo/\N W C 5 f.hi/\N W aI 0 (d_ f.A)/\N W aI 1 (d_ f.R) from⟨(k _ _ _ d.o.e.blk (.inl rfl)).cell 8,(k _ _ _ r.o.1 (.inr r.o.2)).cell 0,(k _ _ _ r.o.1 (.inr r.o.2)).cell 1,(k _ _ _ r.o.1 (.inr r.o.2)).cell 2,(k _ _ _ r.o.1 (.inr r.o.2)).cell 3,(k _ _ _ r.o.1 (.inr r.o.2)).cell 4,(k _ _ _ r.o.1 (.inr r.o.2)).cell 5,(k _ _ _ aq.o.1 (.inr aq.o.2)).cell 0,(k _ _ _ aq.o.1 (.inr aq.o.2)).cell 1⟩);have I:=y _ (p.k0 (.refl _ _));have s2:=y _ (p.k0 a);(have s3:=λo=>y _ (p.k0 (.al (.refl _ _) o)));have hb:=p.base a;have Y:=(p.own a);have E:=O p;have F:=O a;obtain⟨ay,ad,ae,af,ag⟩:=qw NT;go_wp2
  go_region_held3 (λW=>N W (B+9) 8 (.map (some (B+6)))/\N W C 0 f.K/\N W C 1 (d_ f.A)/\N W C 2 (d_ f.B)/\N W C 3 (d_ f.R)/\N W C 4 f.lo/\N W C 5 f.hi/\N W aI 0 (d_ f.A)/\N W aI 1 (d_ f.R))
   (first|with_reducible exact I|with_reducible exact s5|with_reducible exact s4|with_reducible exact s2|with_reducible exact s3 _|exact I|exact s3 _|exact s2)
   (first|(refine gI _ kX rfl (.tmp 93) (.tmp 95) 90 rfl B 152 ay (.agg (vF ⟨0,[],[],[],0,0⟩)) 6 72 underlying90 ad ae af ag rfl D _ _ _ rfl Y _ _ [f] nO rfl (aD) (λx _ u az=>xR x u az) ?c1 ?c2 hb ?_;(case c1=>(simp only[m_,wT];omega));(case c2=>(simp only[wT];omega));intro V Q J H z;have P:=(E.o.k4 F.o H);have s4:=y _ P;obtain⟨w,s,v,Z⟩:=aH.o Q V (E.o.map F.o H);have aE:(Instr.entryStore 225 (.map (some (B+6))) (.int .i64 st) V).run prog Q=.ok () w:=s;have s5:=y _ (E.o.k5 P Z);have R:=(E.o.step F.o J H z Z);have aj:=O v;clear J H z s v Z P)|fail)
  all_goals
   have t:=R.to (d.o.e.xb 6 D)
   replace r:=O (r.o.to t)
   replace aq:=O (aq.o.to t)
   replace j:=O (j.o.trans t)
   replace d:=O (d.o.step D (by intro e;cases e) R (d.o.e.aeK ⟨f.A,f.R⟩ f R aj.o))
   go_wp2_with fail
   obtain⟨a1,aU⟩:=e_ (decide (f∈s1.fm))
   have a4:=d.o.e.blk.cell 10
   obtain⟨aO,b1,b2,b3,aP,aQ⟩:=fcS r.o.1
   have a5:∀nq,(Instr.lookup 221 (.map (some (B+8))) (.agg #[f.K,d_ f.A,d_ f.B,d_ f.R,f.lo,f.hi]) false).run prog (w.drewN nq)=.ok (.bool a1) (w.drewN nq):=λnq=>mQ ((d.o.up (oD (fu _ _) nq)).e.m.mz) M.ok aU
   replace aU:=O aU
   go_quiet (fail)
   have i:=oD (fu w.heap.size w) nq
   replace d:=O (d.o.up i)
   replace j:=O (j.o.then i)
   replace r:=O (r.o.up i)
   replace aq:=O (aq.o.up i)
   generalize w.drewN nq=w4 at *
   cases a1
   .go_wp2;go_end0;refine⟨rfl,_,?_,j.o⟩;(have aY:f∉s1.fm:=by have:=aU.o;simpa using this);unfold FJ;rw[C_ (by rw[ar.o];decide),C_ (by rw[ar.o];decide),C_ aY,fq_];exact d.o.ghost (s1.ix++[f])
   .obtain⟨A,n,c,p⟩:=Rw.of d.o (.fi ⟨f.A,f.R⟩) (show 7<=8 by decide)
    (have ax:n<=1000000:=by rw[p.n];exact gY (by simp only[SC,qm];exact sQ _ _) aw.fi);have i:=(X_ (fu w4.heap.size w4) (.cells #[f.K,d_ f.A,d_ f.B,d_ f.R,f.lo,f.hi] 152)).drew;obtain⟨st,aJ,aC,ap,_,aG⟩:=h_.entry ZG (d.o.up i).e.m.ms underlying225 (λu=>zeroValue90 u) (Zf aw.fi (by simp[m_])) (x:=⟨f.A,f.R⟩) ⟨M.ok.2.1,M.ok.2.2.2.1⟩;(have aK:(Instr.mapEntry 225 (.map (some (B+7))) (.agg #[d_ f.A,d_ f.R])).run prog (w4.alloc (.cells #[f.K,d_ f.A,d_ f.B,d_ f.R,f.lo,f.hi] 152)).drew=.ok (.tuple #[.slice A n c,st]) aJ:=p.gd (g:=Slot.fi) aC λe=>by simp[SC,e]);(have a:=(Aw.of (X:=λg=>g=B+7) i).grown ap λ_=>rfl);have aD:=(p.lit (enc:=kX) (k:=6) (l:=[f]) (acU w4 f) ap);have aH:=O aG;(have y:=λ(W:W_)(k:Kp X _ B w4 W)=>show N W (B+9) 9 (.map (some (B+7)))/\N W C 0 f.K/\N W C 1 (d_ f.A)/\N W C 2 (d_ f.B)/\N W C 3 (d_ f.R)/\N W C 4 f.lo/\N W C 5 f.hi/\N W aI 0 (d_ f.A)/\N W aI 1 (d_ f.R) from⟨(k _ _ _ d.o.e.blk (.inl rfl)).cell 9,(k _ _ _ r.o.1 (.inr r.o.2)).cell 0,(k _ _ _ r.o.1 (.inr r.o.2)).cell 1,(k _ _ _ r.o.1 (.inr r.o.2)).cell 2,(k _ _ _ r.o.1 (.inr r.o.2)).cell 3,(k _ _ _ r.o.1 (.inr r.o.2)).cell 4,(k _ _ _ r.o.1 (.inr r.o.2)).cell 5,(k _ _ _ aq.o.1 (.inr aq.o.2)).cell 0,(k _ _ _ aq.o.1 (.inr aq.o.2)).cell 1⟩);have I:=y _ (p.k0 (.refl _ _));have s2:=y _ (p.k0 a);(have s3:=λo=>y _ (p.k0 (.al (.refl _ _) o)));have hb:=p.base a;have Y:=(p.own a);have E:=O p;have F:=O a;obtain⟨ay,ad,ae,af,ag⟩:=qw NT;go_wp2
    go_region_held3 (λW=>N W (B+9) 9 (.map (some (B+7)))/\N W C 0 f.K/\N W C 1 (d_ f.A)/\N W C 2 (d_ f.B)/\N W C 3 (d_ f.R)/\N W C 4 f.lo/\N W C 5 f.hi/\N W aI 0 (d_ f.A)/\N W aI 1 (d_ f.R))
     (first|with_reducible exact I|with_reducible exact s5|with_reducible exact s4|with_reducible exact s2|with_reducible exact s3 _|exact I|exact s3 _|exact s2)
     (first|(refine gI _ kX rfl (.tmp 110) (.tmp 112) 90 rfl B 152 ay (.agg (vF ⟨0,[],[],[],0,0⟩)) 6 72 underlying90 ad ae af ag rfl D _ _ _ rfl Y _ _ [f] nO rfl (aD) (λx _ u az=>xR x u az) ?c1 ?c2 hb ?_;(case c1=>(simp only[m_,wT];omega));(case c2=>(simp only[wT];omega));intro V Q J H z;have P:=(E.o.k4 F.o H);have s4:=y _ P;obtain⟨w5,s,v,Z⟩:=aH.o Q V (E.o.map F.o H);have aE:(Instr.entryStore 225 (.map (some (B+7))) (.int .i64 st) V).run prog Q=.ok () w5:=s;have s5:=y _ (E.o.k5 P Z);have R:=(E.o.step F.o J H z Z);have aj:=O v;clear J H z s v Z P)|fail)
    all_goals clear I s2 s3 aK y Y E F hb ax ad ae af ag aH aD;(try clear s4);(try clear s5);(try clear aE);have t:=R.to (d.o.e.xb 7 D);replace r:=O (r.o.to t);replace aq:=O (aq.o.to t);replace j:=O (j.o.trans t);replace d:=O (d.o.step D (by intro e;cases e) R (d.o.e.aeL ⟨f.A,f.R⟩ f R aj.o));go_wp2;go_end0;refine⟨rfl,_,?_,j.o⟩;(have aY:f∈s1.fm:=by have:=aU.o;simpa using this);unfold FJ;rw[C_ (by rw[ar.o];decide),C_ (by rw[ar.o];decide),P_ aY];exact d.o.ghost (s1.ix++[f])
structure C6(W:W_)(b:Nat)(f:Fc)
def F6(W:W_)(b:Nat)(f:Fc):C6 W b f:=⟨⟩
structure C10(W:W_)(b:Nat)(q:Pc)
def OG(W:W_)(b:Nat)(q:Pc):C10 W b q:=⟨⟩
section
variable{W:W_}{b:Nat}{f:Fc}{q:Pc}
instance:CoeOut (C6 W b f) Prop:=⟨λ_=>N W b 0 f.K/\N W b 1 f.A/\N W b 2 f.B/\N W b 3 f.R/\N W b 4 f.lo/\N W b 5 f.hi⟩
instance:CoeOut (C10 W b q) Prop:=⟨λ_=>N W b 0 q.K/\N W b 1 q.A/\N W b 2 q.B/\N W b 3 q.C/\N W b 4 q.R/\N W b 5 q.S/\N W b 6 q.T/\N W b 7 q.lo/\N W b 8 q.hi/\N W b 9 q.fM⟩
end
section
variable{P:List Pc}{most B bg:Nat}{X:Nat->Prop}{w:W_}{vf:Slot->V_}{s:ES}{Q:Fc->Prop}
def Rj{m k v:V_}{n c:Nat}(h:∀W,G w W->(Instr.lookup t m k false).run prog W=.ok v W)(H:v=.slice A n c):∀nq,(Instr.lookup t m k false).run prog (w.drewN nq)=.ok (.slice A n c) (w.drewN nq):=λnq=>H ▸ h _ (oD (fu _ _) nq)
def ER.lkP(h:ER P most B X bg w vf s w vf s Q)(k:Ky)(a:okY k)(K:V_)(d: .agg (vY k)=K):∃(l:List Pc)(A:J_)(c:Nat),jC s.pu k=l/\vf (.pc k)=.slice A (l_ l) c/\ (∀nq,(Instr.lookup 220 (.map (some B)) K false).run prog (w.drewN nq)=.ok (.slice A (l_ l) c) (w.drewN nq))/\N w (B+9) 0 (.map (some B))/\l_ l<=m_:=by obtain⟨A,c,H,g,i,_⟩:=(h.pcs k).form;exact⟨_,A,c,rfl,H,Rj (λW j=>d ▸ (h.e.up j).e.agm k a) H,h.e.e.blk.cell 0,gY g i⟩
def ER.lkA(h:ER P most B X bg w vf s w vf s Q)(k:St)(a:l_ k<=m_):∃(l:List St)(A:J_)(c:Nat),jC s.ab k=l/\vf (.ab k)=.slice A (l_ l) c/\ (∀nq,(Instr.lookup 223 (.map (some (B+2))) (.string ⟨k.toArray⟩) false).run prog (w.drewN nq)=.ok (.slice A (l_ l) c) (w.drewN nq))/\N w (B+9) 4 (.map (some (B+2)))/\l_ l<=m_:=by obtain⟨A,c,H,d,g,_⟩:=S1.form (h.abs k);exact⟨_,A,c,rfl,H,Rj (λW i=>(h.e.up i).e.aaP k a) H,h.e.e.blk.cell 4,gY d g⟩
def ER.lkU(h:ER P most B X bg w vf s w vf s Q)(k:St)(a:l_ k<=m_):∃(l:List St)(A:J_)(c:Nat),jC s.un k=l/\vf (.un k)=.slice A (l_ l) c/\ (∀nq,(Instr.lookup 223 (.map (some (B+3))) (.string ⟨k.toArray⟩) false).run prog (w.drewN nq)=.ok (.slice A (l_ l) c) (w.drewN nq))/\N w (B+9) 5 (.map (some (B+3)))/\l_ l<=m_:=by obtain⟨A,c,H,d,g,_⟩:=S1.form (h.uns k);exact⟨_,A,c,rfl,H,Rj (λW i=>(h.e.up i).e.aaQ k a) H,h.e.e.blk.cell 5,gY d g⟩
def ER.lkR(h:ER P most B X bg w vf s w vf s Q)(k:Sp)(a:okS k)(K:V_)(d: .agg (vS k)=K):∃(l:List St)(A:J_)(c:Nat),jC s.fr k=l/\vf (.fr k)=.slice A (l_ l) c/\ (∀nq,(Instr.lookup 224 (.map (some (B+4))) K false).run prog (w.drewN nq)=.ok (.slice A (l_ l) c) (w.drewN nq))/\N w (B+9) 6 (.map (some (B+4)))/\l_ l<=m_:=by obtain⟨A,c,H,g,i,_⟩:=S1.form (h.frs k);exact⟨_,A,c,rfl,H,Rj (λW j=>d ▸ (h.e.up j).e.agn k a) H,h.e.e.blk.cell 6,gY g i⟩
def ER.lkI(h:ER P most B X bg w vf s w vf s Q)(k:Sp)(a:okS k)(K:V_)(d: .agg (vS k)=K):∃(l:List St)(A:J_)(c:Nat),jC s.it k=l/\vf (.it k)=.slice A (l_ l) c/\ (∀nq,(Instr.lookup 224 (.map (some (B+5))) K false).run prog (w.drewN nq)=.ok (.slice A (l_ l) c) (w.drewN nq))/\N w (B+9) 7 (.map (some (B+5)))/\l_ l<=m_:=by obtain⟨A,c,H,g,i,_⟩:=S1.form (h.its k);exact⟨_,A,c,rfl,H,Rj (λW j=>d ▸ (h.e.up j).e.agp k a) H,h.e.e.blk.cell 7,gY g i⟩
end
def ER.JX{wr:W_}{c:Slot->V_}{S:ES}{Q R:Fc->Prop}{f:Nat}(h:ER P most B X f d c S wr vf s Q)(n:ER P most B X f d c S d c S R)(o:wR P)(K:Ky)(hl:jC S.pu K=l)(H:c (.pc K)=.slice A (l_ l) cap){x:Pc}(j:l[k]?=some x):∃b a g i,A=some ⟨b,a,none⟩/\b<wr/\wr.alloc (.cells (vP x) 150)=g/\wr.heap.size=i/\ Hid (ER P most B X f d c S g vf s Q)/\Hid (f_ g i 150 (vP x))/\Hid (¬Yb X vf i)/\Hid (uq P x/\K∈iY x)/\Hid (SmQ x)/\ N wr b (a+k*10) x.K/\N wr b (a+k*10+1) x.A/\N wr b (a+k*10+2) x.B/\N wr b (a+k*10+3) x.C/\N wr b (a+k*10+4) x.R/\N wr b (a+k*10+5) x.S/\N wr b (a+k*10+6) x.T/\N wr b (a+k*10+7) x.lo/\N wr b (a+k*10+8) x.hi/\N wr b (a+k*10+9) x.fM:=by have m:=h.pcs K;rw[hl,H]at m;obtain⟨b,a,e,hb,r⟩:=V6 m j;have hi:=n.t.inv.at (k:=K) (x:=x) (by rw[hl];exact gV j);exact⟨b,a,_,_,e,hb,rfl,rfl,h.up bA,f_.new _ _ _,h.e.e.fresh (gH _),hi,o.sm _ hi.1,r⟩
def lJ{k:Int}{Q:ES->Fc->Fc->Prop}(h:∀(P:List Pc)(most B:Nat)(X:Nat->Prop)(b:Nat)(w:W_)(vf:Slot->V_)(s:ES)(f:Fc)(a:W_)(d:Nat),w.alloc (.cells (vF f) 152)=a->w.heap.size=d->Hid (wR P)->Hid (SmF f)->Hid (G w a)-> Hid (ER P most B X b a vf s a vf s (λ_=>False))->Hid (f_ a d 152 (vF f))->Hid (¬Yb X vf d)->Hid (kC P f)->Hid (f.K=k)->Hid (Inv P most s)->Hid (f∈s.ix)->most<=1000000->l_ s.fm<=1000000-> z n #[.pointer (a_ (B+9) 0),.agg (vF f)] w (NY P most B X b w vf s (Q s f))):oU n k Q:=by intro P most B X b w vf s f g c i l o H m;have j:=c.Ej f (c.Dl f H);exact h P most B X b w vf s f _ _ rfl rfl i (tQ i j) bA (ER.refl (g.up bA) c) (f_.new _ _ _) (g.e.fresh (gH _)) j m c H l o
structure Iy(P:List Pc)(most B:Nat)(X:Nat->Prop)(bg:Nat)(w0:W_)(rZ:Slot->V_)(s0:ES)(w:W_)(vf:Slot->V_)(s:ES)(Q:Fc->Prop):Prop extends ER P most B X bg w0 rZ s0 w vf s Q where
 nf:s.fm=s0.fm
section
variable{P:List Pc}{most B bg:Nat}{X:Nat->Prop}{w0 w w' w1:W_}{rZ vf mP:Slot->V_}{s0 s s':ES}{Q R:Fc->Prop}
def Iy.refl(h:lK w B X most bg vf s)(a:Inv P most s):Iy P most B X bg w vf s w vf s (λ_=>False):=⟨ER.refl h a,rfl⟩
def Iy.weak(h:Iy P most B X bg w0 rZ s0 w vf s Q)(a:∀c,R c->Q c):Iy P most B X bg w0 rZ s0 w vf s R:=⟨h.toER.weak a,h.nf⟩
def Iy.emit(h:Iy P most B X bg w0 rZ s0 w vf s Q)(b:wR P)(d:most<=1000000)(H:kC P c)(a:c.K=3->qG (·∈s.fm) c.A c.R c.lo c.hi)(f:G w W):z 142 #[.agg (vF c),.pointer bg,.pointer (a_ (bg+1) 0),.pointer (a_ (bg+2) 0)] W λe w'=>e=.returned (.tuple #[])/\∃mP s',Iy P most B X bg w0 rZ s0 w' mP s' (λx=>Q x\/x=c)/\True:=(h.toER.emit b d H a f).mono λe w' ⟨g,mP,s',i,a⟩=>⟨g,mP,s',⟨i,a.trans h.nf⟩,trivial⟩
end
def V9(P:List Pc)(most B:Nat)(X:Nat->Prop)(b:Nat)(w:W_)(vf:Slot->V_)(s:ES)(Q:Fc->Prop)(e:Ending)(w':W_):Prop:=e=.returned (.tuple #[])/\∃m S,Iy P most B X b w vf s w' m S Q
def Yz(P:List Pc)(most B:Nat)(X:Nat->Prop)(f:Nat)(w:W_)(vf:Slot->V_)(s:ES)(N:List St)(v:V_)(aa:lK w B X most f vf s)(J:Inv P most s)(V:wR P)(ad:most<=1000000)(hv:jQ w v N)(aA:∀a∈N,mF P a)(aE:∀a n c,v=.slice (some a) n c->0<n->¬Yb X vf a.block):Calls prog 144 #[.pointer (a_ (B+9) 0),v] w (V9 P most B X f w vf s (λc=>∃a∈N,(c=t_ a a\/c=t_ a jI\/∃r∈s.lp,c=fC a r a))):=by
 obtain⟨A,cap,rfl,av,aw,_⟩:=S1.form hv;have aF:=gY av aw;simp only[m_]at aF;have⟨aB,aP,ao,ay,az,_⟩:=S1.form ((ER.refl aa J).lps);have aQ:=gY ay az;simp only[m_]at aQ;have aG:=(Iy.refl aa J);go_in;go_wp2;go_loopw [10] (λi wr=>∃(k:Nat)(ap:Slot->V_)(s1:ES),k<=l_ N/\i=.int .i64 (k:Int)/\Hid (Iy P most B X f w vf s wr ap s1 (λc=>(∃a∈N.take k,(c=t_ a a\/c=t_ a jI\/∃r∈s.lp,c=fC a r a))))) (λi _=>l_ N-(intOf i).toNat);exact⟨0,vf,s,gZ _,rfl,j_ (aG.weak λc h=>by simp at h)⟩;obtain⟨k,ap,s1,aU,rfl,K⟩:=hrel;by_cases aH:k<l_ N
 .have⟨a,ae⟩:=g_ aH
  obtain⟨b,aI,rfl,hb,aq⟩:=Ev hv ae;have a0:wr.cell? (a_ b (aI+k))=some (.string ⟨a.toArray⟩):=K.out.cell aq (aE _ _ _ rfl U);have r1:0<=(k:Int):=U;have aV:(k:Int)<l_ N:=U;have af:mF P a:=(aA a (gV ae));go_wp2;have⟨F,d⟩:=e_ (t_ a a);(have D:kC P F:=by rw[<-d];exact .refl af);(have u:∀W,Calls prog 150 #[.string ⟨a.toArray⟩,.string ⟨a.toArray⟩] W λe w'=>e=.returned (.agg (mH F))/\Below W W w':=λW=>by rw[<-d];exact mg a a W);(have x:∀W,Below wr wr W->Calls prog 142 #[.agg (mH F),.pointer f,.pointer (a_ (f+1) 0),.pointer (a_ (f+2) 0)] W λe w'=>e=.returned (.tuple #[])/\∃z S,Iy P most B X f w vf s w' z S (λc=>(∃a∈N.take k,(c=t_ a a\/c=t_ a jI\/∃r∈s.lp,c=fC a r a))\/c=F):=λW l=>(K.out.emit V ad D (λh=>by rw[<-d]at h;cases h) l).mono λe w' ⟨j,z,S,L,_⟩=>⟨j,z,S,L⟩);have m:wr.cell? (a_ (B+9) 3)=some (oQ f):=K.out.e.e.blk.cell 3;(have y:∀W,Below wr wr W->W.cell? (a_ (B+9) 3)=some (oQ f):=λW l=>(K.out.up l).e.e.blk.cell 3);(have E:∀W z S Q',Iy P most B X f w vf s W z S Q'->W.cell? (a_ (B+9) 3)=some (oQ f):=λW z S Q' j=>j.e.e.blk.cell 3);have g:Below wr wr wr.drew:=(fu _ _).drew;have I:=j_ d;go_wp2
  go_region_held3 (λW=>W.cell? (a_ (B+9) 3)=some (oQ f))
   (first|with_reducible exact m|with_reducible exact s4|with_reducible exact s2|exact m)
   (first|(go_at_call 142;refine(x _ H).mono ?_;rintro e t ⟨rfl,aR,aJ,ag⟩;have s4:=E _ _ _ _ ag)|(go_at_call 150;refine(u _).mono ?_;rintro e an ⟨rfl,p⟩;have s2:=y _ (g.trans (p.mono g.size));have H:=(g.trans (p.mono g.size));clear p)|fail)
  all_goals
   have Z:Iy P most B X f w vf s t aR aJ (λc=>(∃a∈N.take k,(c=t_ a a\/c=t_ a jI\/∃r∈s.lp,c=fC a r a))\/c=t_ a a):=(ag.weak λc h=>by rw[I.out]at h;exact h)
   go_wp2
   have⟨F,d⟩:=e_ (t_ a jI)
   have D:kC P F:=by rw[<-d];exact .top af
   have u:∀W,Calls prog 150 #[.string ⟨a.toArray⟩,.string ⟨#[42]⟩] W λe w'=>e=.returned (.agg (mH F))/\Below W W w':=λW=>by rw[<-d];exact mg a jI W
   have x:∀W,Below t t W->Calls prog 142 #[.agg (mH F),.pointer f,.pointer (a_ (f+1) 0),.pointer (a_ (f+2) 0)] W λe w'=>e=.returned (.tuple #[])/\∃z S,Iy P most B X f w vf s w' z S (λc=>((∃a∈N.take k,(c=t_ a a\/c=t_ a jI\/∃r∈s.lp,c=fC a r a))\/c=t_ a a)\/c=F):=λW l=>(Z.emit V ad D (λh=>by rw[<-d]at h;cases h) l).mono λe w' ⟨j,z,S,L,_⟩=>⟨j,z,S,L⟩
   have m:t.cell? (a_ (B+9) 3)=some (oQ f):=Z.e.e.blk.cell 3
   have y:∀W,Below t t W->W.cell? (a_ (B+9) 3)=some (oQ f):=λW l=>(Z.up l).e.e.blk.cell 3
   have E:∀W z S Q',Iy P most B X f w vf s W z S Q'->W.cell? (a_ (B+9) 3)=some (oQ f):=λW z S Q' j=>j.e.e.blk.cell 3
   have g:Below t t t.drew:=(fu _ _).drew
   have I:=j_ d
   go_wp2
   go_region_held3 (λW=>W.cell? (a_ (B+9) 3)=some (oQ f))
    (first|with_reducible exact m|with_reducible exact s4|with_reducible exact s2|exact m)
    (first|(go_at_call 142;refine(x _ H).mono ?_;rintro e ar ⟨rfl,ax,au,ah⟩;have s4:=E _ _ _ _ ah)|(go_at_call 150;refine(u _).mono ?_;rintro e an ⟨rfl,p⟩;have s2:=y _ (g.trans (p.mono g.size));have H:=(g.trans (p.mono g.size));clear p)|fail)
   all_goals
    have ai:Iy P most B X f w vf s ar ax au (λc=>(((∃a∈N.take k,(c=t_ a a\/c=t_ a jI\/∃r∈s.lp,c=fC a r a))\/c=t_ a a)\/c=t_ a jI)):=(ah.weak λc h=>by rw[I.out]at h;exact h)
    have aC:ar.cell? (a_ (B+9) 1)=some (.slice aB (l_ s.lp) aP):=by have j:=ai.e.e.blk.cell 1;rw[<-ao,<-ai.f .loops (by intro e;cases e)];exact j
    go_wp2
    go_loopw [34] (λi aD=>∃(o:Nat)(aj:Slot->V_)(si:ES),o<=l_ s.lp/\i=.int .i64 (o:Int)/\Hid (Iy P most B X f w vf s aD aj si (λc=>(((∃a∈N.take k,(c=t_ a a\/c=t_ a jI\/∃r∈s.lp,c=fC a r a))\/c=t_ a a)\/c=t_ a jI)\/∃r∈s.lp.take o,c=fC a r a))) (λi _=>l_ s.lp-(intOf i).toNat)
    exact⟨0,ax,au,gZ _,rfl,j_ (ai.weak λc h=>Q h)⟩
    obtain⟨o,aj,si,aY,rfl,T⟩:=hrel
    by_cases aS:o<l_ s.lp
    .have⟨r,ak⟩:=g_ aS
     have am:=T.out.lps;rw[ao]at am;obtain⟨b2,a3,rfl,aZ,c0⟩:=Ev am ak;have aW:0<=(o:Int):=U;have aX:(o:Int)<l_ s.lp:=U;have aK:uq P (qc r):=((J.lp r).1 (gV ak));have⟨a1,a2⟩:∃q,q=wr:=⟨_,rfl⟩;go_wp2;have⟨F,d⟩:=e_ (fC a r a);(have D:kC P F:=by rw[<-d];exact .loop af aK);(have u:∀W,Y 206 #[.string ⟨a.toArray⟩,.string ⟨r.toArray⟩,.string ⟨a.toArray⟩] W (.agg (mH F)):=λW=>by rw[<-d];exact xQ a r a W);(have x:∀W,G wr W->Calls prog 142 #[.agg (mH F),.pointer f,.pointer (a_ (f+1) 0),.pointer (a_ (f+2) 0)] W λe w'=>e=.returned (.tuple #[])/\∃z S,Iy P most B X f w vf s w' z S (λc=>((((∃a∈N.take k,(c=t_ a a\/c=t_ a jI\/∃r∈s.lp,c=fC a r a))\/c=t_ a a)\/c=t_ a jI)\/∃r∈s.lp.take o,c=fC a r a)\/c=F):=λW l=>(T.o.emit V ad D (λh=>by rw[<-d]at h;cases h) l).mono λe w' ⟨j,z,S,L,_⟩=>⟨j,z,S,L⟩);have m:wr.cell? (a_ (B+9) 3)=some (oQ f):=T.out.e.e.blk.cell 3;(have y:∀W,Below wr wr W->W.cell? (a_ (B+9) 3)=some (oQ f):=λW l=>(T.out.up l).e.e.blk.cell 3);(have E:∀W z S Q',Iy P most B X f w vf s W z S Q'->W.cell? (a_ (B+9) 3)=some (oQ f):=λW z S Q' j=>j.e.e.blk.cell 3);have g:Below wr wr wr.drew:=(fu _ _).drew;have I:=j_ d;go_wp2
     go_region_held3 (λW=>W.cell? (a_ (B+9) 3)=some (oQ f))
      (first|with_reducible exact m|with_reducible exact s4|with_reducible exact s2|exact m)
      (first|(go_at_call 142;refine(x _ H).mono ?_;rintro e aL ⟨rfl,aT,aM,al⟩;have s4:=E _ _ _ _ al)|(go_at_call 206;refine(u _).mono ?_;rintro e an ⟨rfl,p⟩;have s2:=y _ (g.trans (p.mono g.size));have H:=(g.trans (p.mono g.size));clear p)|fail)
     all_goals
      have aN:Hid (Iy P most B X f w vf s aL aT aM (λc=>(((∃a∈N.take k,(c=t_ a a\/c=t_ a jI\/∃r∈s.lp,c=fC a r a))\/c=t_ a a)\/c=t_ a jI)\/∃r∈s.lp.take (o+1),c=fC a r a)):=O (al.weak λc h=>by
       rcases h with h|h;.exact .inl (.inl h)
       .rcases kP (C:=λr c=>c=fC a r a) ak h with h|h
        .exact .inl (.inr h)
        .exact .inr (by rw[<-I.o];exact h))
      go_wp2
      go_roundw
      exact⟨o+1,_,_,U,R,aN⟩
      exact M
    .obtain rfl:o=l_ s.lp:=by omega
     have aO:Hid (Iy P most B X f w vf s wr aj si (λc=>∃a∈N.take (k+1),(c=t_ a a\/c=t_ a jI\/∃r∈s.lp,c=fC a r a))):=O (T.o.weak λc h=>by
      rcases kP (C:=λa c=>(c=t_ a a\/c=t_ a jI\/∃r∈s.lp,c=fC a r a)) ae h with h|h;.exact .inl (.inl (.inl h))
      .rcases h with h|h|h
       (.exact .inl (.inl (.inr h)));.exact .inl (.inr h)
       .exact .inr (by rw[jy];exact h))
     go_wp2;go_roundw;exact⟨k+1,_,_,U,R,aO⟩;exact M
 ·(obtain rfl:k=l_ N:=by omega);go_wp2;go_end0;exact⟨rfl,_,_,K.o.weak λc h=>by rw[jy];exact h⟩
def Iz(s:ES)(f c:Fc):Prop:=∃x∈jC s.pu ⟨4,[],f.B⟩,∃a∈jC s.it ⟨f.A,x.R⟩,c=t_ a x.C
def Rk:oU 210 1 Iz:=by
 (refine lJ λP most B X g w vf s f ae aY bf bJ af aL bg T aV J aT aZ bF bK a6 bL=>?_);unfold vF d_;go_in;go_wp2;have⟨l,bG,bM,hl,hv,ap,ag,bu⟩:=T.o.lkP ⟨4,[],f.B⟩ ⟨(show(Lit.int .i64 4).wf=true by decide),by simp[m_],gY aL.o.b (by simp[m_])⟩ (.agg #[V 4,x_,f.B]) rfl;simp only[m_]at bu;have aM:=O hl;have bh:=O hv;have⟨ah,b1,b2,b3,ai,aj⟩:=fA (T.o.blk aV.o J.o);go_quiet (fail);have Z:ER P most B X g ae vf s (ae.drewN nq) vf s (λ_=>False):=(T.o.drewN nq);generalize ae.drewN nq=A at *;have⟨E,aq⟩:∃q,q=vf:=⟨_,rfl⟩;have⟨S,ak⟩:∃q,q=s:=⟨_,rfl⟩;subst aq ak;have aW:=(Z.blk aV.o J.o);have aX:=J;have H:ER P most B X g A E S A E S (λ_=>False):=(ER.refl Z.e Z.t.inv);go_wp2;go_loopw [17] (λi wr=>∃(k:Nat)(ar:Slot->V_)(s1:ES),k<=l_ l/\i=.int .i64 (k:Int)/\Hid (ER P most B X g A E S wr ar s1 (λc=>∃x∈l.take k,∃a∈jC S.it ⟨f.A,x.R⟩,c=t_ a x.C))) (λi _=>l_ l-(intOf i).toNat);exact⟨0,E,S,gZ _,rfl,O (H.weak λc h=>by simp at h)⟩;obtain⟨u,r,au,a7,rfl,j⟩:=hrel;by_cases av:u<l_ l
 .have⟨x,d⟩:=g_ av
  obtain⟨b,bi,aw,al,rfl,hb,bj,aU,o,Q,aH,ax,bk,a0,a1,a2,a3,a4,a5,a8,a',ba,a9⟩:=j.o.JX H af.o ⟨4,[],f.B⟩ aM.o bh.o d;have r1:0<=(u:Int):=U;have bb:(u:Int)<l_ l:=U;have bl:=O d;have bD:=(o.o.blk aW aX.o);have bE:¬Yb X r aY:=(o.o.k.nx aW.lt aX.o);have t:ER P most B X g aw r au aw r au (λ_=>False):=(ER.refl o.o.e o.o.t.inv);go_wp2;(all_goals clear bj a0 a1 a2 a3 a4 a5 a8 a' ba a9;(try rw[aU]);clear aU);have⟨m,bH,bN,hl,hv,ap,ag,bv⟩:=t.lkI ⟨f.A,x.R⟩ ⟨gY aL.o.a (by simp[m_]),gY bk.o.r (by simp[m_])⟩ (.agg #[f.A,x.R]) rfl;simp only[m_]at bv;have ay:=O hl;have bm:=O hv;have⟨ah,b1,b2,b3,ai,aj⟩:=fA (t.blk bD bE);have⟨c0,c1,c2,c3,c4,c5,c6,c7,c8,c9⟩:=iJ (t.blk Q.o aH.o);go_quiet (fail);have az:=(o.o.drewN nq);have aA:=(t.drewN nq);generalize aw.drewN nq=I at *;have⟨p,aq⟩:∃q,q=r:=⟨_,rfl⟩;have⟨n,ak⟩:∃q,q=au:=⟨_,rfl⟩;subst aq ak;have bB:=(aA.blk Q.o aH.o);have bC:¬Yb X p al:=(aA.k.nx Q.o.lt aH.o);have bn:ER P most B X g I p n I p n (λ_=>False):=(ER.refl az.e az.t.inv);go_wp2;go_loopw [32] (λi wr=>∃(k:Nat)(ar:Slot->V_)(s1:ES),k<=l_ m/\i=.int .i64 (k:Int)/\Hid (ER P most B X g I p n wr ar s1 (λc=>∃a∈m.take k,c=t_ a x.C))) (λi _=>l_ m-(intOf i).toNat);exact⟨0,p,n,gZ _,rfl,O (bn.weak λc h=>by simp at h)⟩;obtain⟨v,bw,bo,a7,rfl,j⟩:=hrel;by_cases av:v<l_ m
  .have⟨a,d⟩:=g_ av
   have aE:=j.o.its ⟨f.A,x.R⟩;rw[ay.o,bm.o]at aE;obtain⟨b,bi,rfl,hb,a0⟩:=Ev aE d;have r1:0<=(v:Int):=U;have bb:(v:Int)<l_ m:=U;have bp:=O d;have z:=j;have⟨aN,bq⟩:∃bc,bc=wr:=⟨_,rfl⟩;subst bq;have br:a∈jC n.it ⟨f.A,x.R⟩:=(by rw[ay.o];exact gV d);go_wp2;have⟨F,L⟩:=e_ (t_ a (x.C));(have hd:kC P F:=by rw[<-L];have d:=(adJ (af.o.can _ ax.o.1) ax.o.2).1;have y:=ax.o.1;rw[d]at y;have aI:=aT.o;rw[LY aT.o aZ.o]at aI;have aJ:=br;rw[o.o.t.it]at aJ;have bd:=H.t.inv.Ej _ (H.t.inv.Dl _ ((H.t.inv.it a x.R f.A).1 (jN.1 aJ)));exact .fill bd aI y);(have aO:Hid (∀W,Y 150 #[a,x.C] W (.agg (mH F))):=O λW=>L ▸ mg a (x.C) W);(have aP:=O λW am=>z.o.emit af.o a6 hd (λh=>by rw[<-L]at h;cases h) (W:=W) am);(have ab:Hid (∀W aQ aK Q',ER P most B X g I p n W aQ aK Q'->N W (B+9) 3 (oQ g)/\OG W al x):=O λW aQ aK Q' y=>⟨y.e.e.blk.cell 3,iJ (y.blk bB bC)⟩);have an:=ab.o _ _ _ _ z.o;(have aR:=O λW am=>ab.o W _ _ _ (z.o.up am));have K:Hid (G aN aN.drew):=O (fu _ _).drew;go_wp2
   go_region_held3 (λW=>N W (B+9) 3 (oQ g)/\OG W al x)
    (first|with_reducible exact an|with_reducible exact s4|with_reducible exact s2|exact an)
    (first|(go_at_call 142;refine(aP.o _ aS).mono ?_;rintro e bs ⟨rfl,bx,bt,aC,_⟩;have s4:=ab.o _ _ _ _ aC)|(go_at_call 150;refine(aO.o _).mono ?_;rintro e bI ⟨rfl,D⟩;have s2:=aR.o _ (K.o.trans (D.mono K.o.size));have aS:=(K.o.trans (D.mono K.o.size));clear D)|fail)
   all_goals
    have ao:Hid (ER P most B X g I p n bs bx bt (λc=>∃a∈m.take (v+1),c=t_ a x.C)):=O (aC.weak λc h=>by
     rcases kP (C:=λa c=>c=t_ a x.C) bp.o h with h|h;.exact .inl h
     .exact .inr (by rw[<-L];exact h))
    go_wp2
    go_roundw
    exact⟨v+1,_,_,U,R,ao⟩
    exact M
  .obtain rfl:v=l_ m:=by omega
   have ao:Hid (ER P most B X g A E S wr bw bo (λc=>∃x∈l.take (u+1),∃a∈jC S.it ⟨f.A,x.R⟩,c=t_ a x.C)):=O ((az.trans j.o).weak λc h=>by
    rcases kP (C:=λx c=>∃a∈jC S.it ⟨f.A,x.R⟩,c=t_ a x.C) bl.o h with h|⟨a,be,h⟩;.exact .inl h
    .refine .inr ⟨a,?_,h⟩
     have e:=ay.o;rw[o.o.t.it]at e
     rw[jy,<-e];exact be)
   go_wp2;go_roundw;exact⟨u+1,_,_,U,R,ao⟩;exact M
 ·(obtain rfl:u=l_ l:=by omega);have bz:=(Z.trans j.o).base bg.o;go_wp2;go_end0;refine⟨rfl,_,_,bz.weak λc h=>?_⟩;obtain⟨x,d,h⟩:=h;rw[aM.o]at d;exact .inr ⟨x,by rw[jy];exact d,h⟩
def Wh(s:ES)(f c:Fc):Prop:=(∃x∈jC s.pu ⟨6,f.R,[]⟩,∃a∈jC s.fr ⟨f.B,x.S⟩,c=fC f.A x.T a)\/∃x∈jC s.pu ⟨6,[],f.R⟩,∃a∈jC s.it ⟨f.A,x.R⟩,c=fC a x.T f.B
def aa7:oU 214 2 Wh:=by
 (refine lJ λP most B X g w vf s f bb o bZ cC aw aU b0 aV bV bE aZ bP cx cD bQ cE=>?_);unfold vF d_;go_in;go_wp2;have⟨H,cy,cF,hl,hv,ak,I,ci⟩:=aV.o.lkP ⟨6,f.R,[]⟩ ⟨(show(Lit.int .i64 6).wf=true by decide),gY aU.o.r (by simp[m_]),by simp[m_]⟩ (.agg #[V 6,f.R,x_]) rfl;simp only[m_]at ci;have bR:=O hl;have b4:=O hv;have⟨K,b1,b2,b3,L,Z⟩:=fA (aV.o.blk bV.o bE.o);go_quiet (fail);have aW:ER P most B X g bb vf s (bb.drewN nq) vf s (λ_=>False):=(aV.o.drewN nq);generalize bb.drewN nq=aX at *;have⟨aG,al⟩:∃q,q=vf:=⟨_,rfl⟩;have⟨S,A⟩:∃q,q=s:=⟨_,rfl⟩;subst al A;have a':=(aW.blk bV.o bE.o);have ba:=bE;have aH:ER P most B X g aX aG S aX aG S (λ_=>False):=(ER.refl aW.e aW.t.inv);go_wp2;go_loopw [21] (λi wr=>∃(k:Nat)(am:Slot->V_)(s1:ES),k<=l_ H/\i=.int .i64 (k:Int)/\Hid (ER P most B X g aX aG S wr am s1 (λc=>∃x∈H.take k,∃a∈jC S.fr ⟨f.B,x.S⟩,c=fC f.A x.T a))) (λi _=>l_ H-(intOf i).toNat);exact⟨0,aG,S,gZ _,rfl,O (aH.weak λc h=>by simp at h)⟩;obtain⟨ax,E,aA,bc,rfl,j⟩:=hrel;by_cases an:ax<l_ H
 .have⟨x,d⟩:=g_ an
  obtain⟨b,bk,bl,r,rfl,hb,bm,aT,ao,bF,bG,ap,bn,a0,a1,a2,a3,a4,a5,bd,be,bf,a9⟩:=j.o.JX aH aw.o ⟨6,f.R,[]⟩ bR.o b4.o d;have r1:0<=(ax:Int):=U;have bg:(ax:Int)<l_ H:=U;have b5:=O d;have bH:=(ao.o.blk a' ba.o);have bI:¬Yb X E o:=(ao.o.k.nx a'.lt ba.o);have a6:ER P most B X g bl E aA bl E aA (λ_=>False):=(ER.refl ao.o.e ao.o.t.inv);go_wp2;(all_goals clear bm a0 a1 a2 a3 a4 a5 bd be bf a9;(try rw[aT]);clear aT);have⟨t,cz,cG,hl,hv,ak,I,cj⟩:=a6.lkR ⟨f.B,x.S⟩ ⟨gY aU.o.b (by simp[m_]),gY bn.o.s (by simp[m_])⟩ (.agg #[f.B,x.S]) rfl;simp only[m_]at cj;have bo:=O hl;have b6:=O hv;have⟨K,b1,b2,b3,L,Z⟩:=fA (a6.blk bH bI);have⟨c0,c1,c2,c3,c4,c5,c6,c7,c8,c9⟩:=iJ (a6.blk bF.o bG.o);go_quiet (fail);have bp:=(ao.o.drewN nq);have aI:=(a6.drewN nq);generalize bl.drewN nq=aJ at *;have⟨v,al⟩:∃q,q=E:=⟨_,rfl⟩;have⟨z,A⟩:∃q,q=aA:=⟨_,rfl⟩;subst al A;have cp:=(aI.blk bH bI);have cq:¬Yb X v o:=(aI.k.nx bH.lt bI);have cr:=(aI.blk bF.o bG.o);have cs:¬Yb X v r:=(aI.k.nx bF.o.lt bG.o);have b7:ER P most B X g aJ v z aJ v z (λ_=>False):=(ER.refl bp.e bp.t.inv);go_wp2;go_loopw [36] (λi wr=>∃(k:Nat)(am:Slot->V_)(s1:ES),k<=l_ t/\i=.int .i64 (k:Int)/\Hid (ER P most B X g aJ v z wr am s1 (λc=>∃a∈t.take k,c=fC f.A x.T a))) (λi _=>l_ t-(intOf i).toNat);exact⟨0,v,z,gZ _,rfl,O (b7.weak λc h=>by simp at h)⟩;obtain⟨ay,ck,b8,bc,rfl,j⟩:=hrel;by_cases an:ay<l_ t
  .have⟨a,d⟩:=g_ an
   have av:=j.o.frs ⟨f.B,x.S⟩;rw[bo.o,b6.o]at av;obtain⟨b,bk,rfl,hb,a0⟩:=Ev av d;have r1:0<=(ay:Int):=U;have bg:(ay:Int)<l_ t:=U;have b9:=O d;have bq:=j;have⟨bS,br⟩:∃bh,bh=wr:=⟨_,rfl⟩;subst br;have b':a∈jC z.fr ⟨f.B,x.S⟩:=(by rw[bo.o];exact gV d);go_wp2;have⟨F,m⟩:=e_ (fC (f.A) (x.T) a);(have hd:kC P F:=by rw[<-m];have d:=agz (aw.o.can _ ap.o.1) ap.o.2;have l:=ap.o.1;rw[d]at l;have aC:=aZ.o;rw[LZ aZ.o bP.o]at aC;have aD:=b';rw[ao.o.t.fr]at aD;have bi:=aH.t.inv.Ej _ (aH.t.inv.Dl _ ((aH.t.inv.fr f.B x.S a).1 (jN.1 aD)));exact .chain aC bi l);(have aK:Hid (∀W,Y 206 #[f.A,x.T,a] W (.agg (mH F))):=O λW=>m ▸ xQ (f.A) (x.T) a W);(have aL:=O λW D=>bq.o.emit aw.o bQ hd (λh=>by rw[<-m]at h;cases h) (W:=W) D);(have p:Hid (∀W aM aE Q',ER P most B X g aJ v z W aM aE Q'->N W (B+9) 3 (oQ g)/\F6 W o f/\OG W r x):=O λW aM aE Q' l=>⟨l.e.e.blk.cell 3,fA (l.blk cp cq),iJ (l.blk cr cs)⟩);have af:=p.o _ _ _ _ bq.o;(have aN:=O λW D=>p.o W _ _ _ (bq.o.up D));have n:Hid (G bS bS.drew):=O (fu _ _).drew;have bj:=O m;go_wp2
   go_region_held3 (λW=>N W (B+9) 3 (oQ g)/\F6 W o f/\OG W r x)
    (first|with_reducible exact af|with_reducible exact s4|with_reducible exact s2|exact af)
    (first|(go_at_call 142;refine(aL.o _ aO).mono ?_;rintro e bs ⟨rfl,bC,bt,aq,_⟩;have s4:=p.o _ _ _ _ aq)|(go_at_call 206;refine(aK.o _).mono ?_;rintro e bY ⟨rfl,ar⟩;have s2:=aN.o _ (n.o.trans (ar.mono n.o.size));have aO:=(n.o.trans (ar.mono n.o.size));clear ar)|fail)
   all_goals
    have J:Hid (ER P most B X g aJ v z bs bC bt (λc=>∃a∈t.take (ay+1),c=fC f.A x.T a)):=O (aq.weak λc h=>by
     rcases kP (C:=λa c=>c=fC f.A x.T a) b9.o h with h|h;.exact .inl h
     .exact .inr (by rw[<-bj.o];exact h))
    go_wp2
    go_roundw
    exact⟨ay+1,_,_,U,R,J⟩
    exact M
  .obtain rfl:ay=l_ t:=by omega
   have J:Hid (ER P most B X g aX aG S wr ck b8 (λc=>∃x∈H.take (ax+1),∃a∈jC S.fr ⟨f.B,x.S⟩,c=fC f.A x.T a)):=O ((bp.trans j.o).weak λc h=>by
    rcases kP (C:=λx c=>∃a∈jC S.fr ⟨f.B,x.S⟩,c=fC f.A x.T a) b5.o h with h|⟨a,aF,h⟩;.exact .inl h
    .refine .inr ⟨a,?_,h⟩
     have e:=bo.o;rw[ao.o.t.fr]at e
     rw[jy,<-e];exact aF)
   go_wp2;go_roundw;exact⟨ax+1,_,_,U,R,J⟩;exact M
 .obtain rfl:ax=l_ H:=by omega
  have ca:=(aW.trans j.o);have bJ:=(j.o.blk a' ba.o);have bK:¬Yb X E o:=(j.o.k.nx a'.lt ba.o);have bD:ER P most B X g wr E aA wr E aA (λ_=>False):=(ER.refl j.o.e j.o.t.inv);go_wp2;have⟨Q,cA,cH,hl,hv,ak,I,cl⟩:=bD.lkP ⟨6,[],f.R⟩ ⟨(show(Lit.int .i64 6).wf=true by decide),by simp[m_],gY aU.o.r (by simp[m_])⟩ (.agg #[V 6,x_,f.R]) rfl;simp only[m_]at cl;have bT:=O hl;have cb:=O hv;have⟨K,b1,b2,b3,L,Z⟩:=fA (bD.blk bJ bK);go_quiet (fail);have aP:=(ca.drewN nq);have bu:=(bD.drewN nq);generalize wr.drewN nq=aY at *;have⟨aB,al⟩:∃q,q=E:=⟨_,rfl⟩;have⟨u,A⟩:∃q,q=aA:=⟨_,rfl⟩;subst al A;have bW:=(bu.blk bJ bK);have bX:¬Yb X aB o:=(bu.k.nx bJ.lt bK);have aQ:ER P most B X g aY aB u aY aB u (λ_=>False):=(ER.refl aP.e aP.t.inv);go_wp2;go_loopw [62] (λi wr=>∃(k:Nat)(am:Slot->V_)(s1:ES),k<=l_ Q/\i=.int .i64 (k:Int)/\Hid (ER P most B X g aY aB u wr am s1 (λc=>∃x∈Q.take k,∃a∈jC u.it ⟨f.A,x.R⟩,c=fC a x.T f.B))) (λi _=>l_ Q-(intOf i).toNat);exact⟨0,aB,u,gZ _,rfl,O (aQ.weak λc h=>by simp at h)⟩;obtain⟨az,a7,bv,bc,rfl,j⟩:=hrel;by_cases an:az<l_ Q
  .have⟨x,d⟩:=g_ an
   obtain⟨b,bk,bw,r,rfl,hb,bm,aT,au,bL,bM,ap,bn,a0,a1,a2,a3,a4,a5,bd,be,bf,a9⟩:=j.o.JX aQ aw.o ⟨6,[],f.R⟩ bT.o cb.o d;have r1:0<=(az:Int):=U;have bg:(az:Int)<l_ Q:=U;have cc:=O d;have bN:=(au.o.blk bW bX);have bO:¬Yb X a7 o:=(au.o.k.nx bW.lt bX);have a8:ER P most B X g bw a7 bv bw a7 bv (λ_=>False):=(ER.refl au.o.e au.o.t.inv);go_wp2;(all_goals clear bm a0 a1 a2 a3 a4 a5 bd be bf a9;(try rw[aT]);clear aT);have⟨T,cB,cI,hl,hv,ak,I,cm⟩:=a8.lkI ⟨f.A,x.R⟩ ⟨gY aU.o.a (by simp[m_]),gY bn.o.r (by simp[m_])⟩ (.agg #[f.A,x.R]) rfl;simp only[m_]at cm;have bx:=O hl;have cd:=O hv;have⟨K,b1,b2,b3,L,Z⟩:=fA (a8.blk bN bO);have⟨c0,c1,c2,c3,c4,c5,c6,c7,c8,c9⟩:=iJ (a8.blk bL.o bM.o);go_quiet (fail);have bz:=(au.o.drewN nq);have aR:=(a8.drewN nq);generalize bw.drewN nq=aS at *;have⟨y,al⟩:∃q,q=a7:=⟨_,rfl⟩;have⟨aj,A⟩:∃q,q=bv:=⟨_,rfl⟩;subst al A;have ct:=(aR.blk bN bO);have cu:¬Yb X y o:=(aR.k.nx bN.lt bO);have cv:=(aR.blk bL.o bM.o);have cw:¬Yb X y r:=(aR.k.nx bL.o.lt bM.o);have ce:ER P most B X g aS y aj aS y aj (λ_=>False):=(ER.refl bz.e bz.t.inv);go_wp2;go_loopw [77] (λi wr=>∃(k:Nat)(am:Slot->V_)(s1:ES),k<=l_ T/\i=.int .i64 (k:Int)/\Hid (ER P most B X g aS y aj wr am s1 (λc=>∃a∈T.take k,c=fC a x.T f.B))) (λi _=>l_ T-(intOf i).toNat);exact⟨0,y,aj,gZ _,rfl,O (ce.weak λc h=>by simp at h)⟩;obtain⟨kv,cn,cf,bc,rfl,j⟩:=hrel;by_cases an:kv<l_ T
   .have⟨a,d⟩:=g_ an
    have av:=j.o.its ⟨f.A,x.R⟩;rw[bx.o,cd.o]at av;obtain⟨b,bk,rfl,hb,a0⟩:=Ev av d;have r1:0<=(kv:Int):=U;have bg:(kv:Int)<l_ T:=U;have cg:=O d;have bB:=j;have⟨bU,br⟩:∃bh,bh=wr:=⟨_,rfl⟩;subst br;have ch:a∈jC aj.it ⟨f.A,x.R⟩:=(by rw[bx.o];exact gV d);go_wp2;have⟨F,m⟩:=e_ (fC a (x.T) (f.B));(have hd:kC P F:=by rw[<-m];have d:=aeN (aw.o.can _ ap.o.1) ap.o.2;have l:=ap.o.1;rw[d]at l;have aC:=aZ.o;rw[LZ aZ.o bP.o]at aC;have aD:=ch;rw[au.o.t.it]at aD;have bi:=aQ.t.inv.Ej _ (aQ.t.inv.Dl _ ((aQ.t.inv.it a x.R f.A).1 (jN.1 aD)));exact .chain bi aC l);(have aK:Hid (∀W,Y 206 #[a,x.T,f.B] W (.agg (mH F))):=O λW=>m ▸ xQ a (x.T) (f.B) W);(have aL:=O λW D=>bB.o.emit aw.o bQ hd (λh=>by rw[<-m]at h;cases h) (W:=W) D);(have p:Hid (∀W aM aE Q',ER P most B X g aS y aj W aM aE Q'->N W (B+9) 3 (oQ g)/\F6 W o f/\OG W r x):=O λW aM aE Q' l=>⟨l.e.e.blk.cell 3,fA (l.blk ct cu),iJ (l.blk cv cw)⟩);have af:=p.o _ _ _ _ bB.o;(have aN:=O λW D=>p.o W _ _ _ (bB.o.up D));have n:Hid (G bU bU.drew):=O (fu _ _).drew;have bj:=O m;go_wp2
    go_region_held3 (λW=>N W (B+9) 3 (oQ g)/\F6 W o f/\OG W r x)
     (first|with_reducible exact af|with_reducible exact s4|with_reducible exact s2|exact af)
     (first|(go_at_call 142;refine(aL.o _ aO).mono ?_;rintro e bs ⟨rfl,bC,bt,aq,_⟩;have s4:=p.o _ _ _ _ aq)|(go_at_call 206;refine(aK.o _).mono ?_;rintro e bY ⟨rfl,ar⟩;have s2:=aN.o _ (n.o.trans (ar.mono n.o.size));have aO:=(n.o.trans (ar.mono n.o.size));clear ar)|fail)
    all_goals
     have J:Hid (ER P most B X g aS y aj bs bC bt (λc=>∃a∈T.take (kv+1),c=fC a x.T f.B)):=O (aq.weak λc h=>by
      rcases kP (C:=λa c=>c=fC a x.T f.B) cg.o h with h|h;.exact .inl h
      .exact .inr (by rw[<-bj.o];exact h))
     go_wp2
     go_roundw
     exact⟨kv+1,_,_,U,R,J⟩
     exact M
   .obtain rfl:kv=l_ T:=by omega
    have J:Hid (ER P most B X g aY aB u wr cn cf (λc=>∃x∈Q.take (az+1),∃a∈jC u.it ⟨f.A,x.R⟩,c=fC a x.T f.B)):=O ((bz.trans j.o).weak λc h=>by
     rcases kP (C:=λx c=>∃a∈jC u.it ⟨f.A,x.R⟩,c=fC a x.T f.B) cc.o h with h|⟨a,aF,h⟩;.exact .inl h
     .refine .inr ⟨a,?_,h⟩
      have e:=bx.o;rw[au.o.t.it]at e
      rw[jy,<-e];exact aF)
    go_wp2;go_roundw;exact⟨az+1,_,_,U,R,J⟩;exact M
  ·(obtain rfl:az=l_ Q:=by omega);have co:=(aP.trans j.o).base b0.o;go_wp2;go_end0;refine⟨rfl,_,_,co.weak λc h=>?_⟩;rcases h with h|h;(.obtain⟨x,d,h⟩:=h;rw[bR.o]at d;exact .inl (.inr ⟨x,by rw[jy];exact d,h⟩));.obtain⟨x,d,a,aF,h⟩:=h;have e:=bT.o;rw[aP.t.pu]at e;rw[e]at d;refine .inr ⟨x,by rw[jy];exact d,a,?_,h⟩;rw[aP.t.it];exact aF



