import Derived.Deep.DeepCutAuto
import Derived.Deep.DrawnRows
import Derived.Test.YtjmbkfjklemmpaaGreatDoorJ17
set_option linter.all false
set_option maxRecDepth 100000
set_option maxHeartbeats 32000000
open Go renaming World->W_,Value->V_,maxLen->m_,TypeId->T_
namespace Go.Proofs.YtjmbkfjklemmpaaGreatDoor
section
open Go.RowKit Go.Sort Tryz
def sD(f:Fc):Bool:=decide (f=n_ f.A f.B)&&decide (f.B=[33])&&(decide (f.A=[42])||Lib.hasPrefix f.A [123])
def SF(w:W_)(v:V_)(l:List Fc):Prop:=Sl w w.heap.size kg 6 v l
def SF.up{w w':W_}{v:V_}{l:List Fc}(h:SF w v l)(hb:G w w'):SF w' v l:=(Sl.below h hb).more hb.size
def SF.form{w:W_}{v:V_}{l:List Fc}(h:SF w v l):∃A c,v=.slice A l.length c/\l.length<=c/\c<=m_/\ (0<l.length->∃b a,A=some ⟨b,a,none⟩/\b<w.heap.size/\∀i f,l[i]?=some f->∀(j:Nat) u,(kg f)[j]?=some u->N w b (a+i*6+j) u):=by obtain⟨A,c,rfl,hc,d,g⟩:=h;exact⟨A,c,rfl,hc,d,λk=>by obtain⟨b,a,e,hb,n⟩:=g k;exact⟨b,a,e,hb,λi f hi j u m=>n i f hi j u m⟩⟩
def Oq{α:Type}{p:α->Bool}{l:List α}{k:Nat}{x:α}(h:l[k]?=some x):(l.take (k+1)).any p=((l.take k).any p||p x):=by rw[DC,h];simp
def Vf(r vf:V_)(l:List Fc)(w:W_)(h:SF w vf l)(hl:l.length<=1000000):z 47 #[.agg #[r,vf]] w λe w'=>(∃s:St,e=.returned (.tuple #[d_ s,(l.any sD)]))/\G w w':=by obtain⟨A,c,rfl,hc,E,F⟩:=h.form;obtain⟨m,n⟩:∃m,w.alloc (.cells #[r,.slice A l.length c] 83)=m:=⟨_,rfl⟩;have aa:Hid (G w m):=O (by rw[<-n];exact bA);(have ai:N m w 1 (.slice A l.length c):=by rw[<-n,ji];rfl);go_in;go_wp2_with fail;go_loopw [2,3,9] (λs o i wr=>∃(k:Nat)(t:St)(b:Bool),k<=l.length/\i=.int .i64 (k:Int)/\s=.string ⟨t.toArray⟩/\o=.bool b/\Hid (b=(l.take k).any sD)/\Hid (G w wr)) (λ_ _ i _=>l.length-(intOf i).toNat);exact⟨0,[],false,gL _,rfl,rfl,rfl,O S,aa⟩;obtain⟨k,t,ok,aj,rfl,rfl,rfl,u,d⟩:=hrel;by_cases ab:k<l.length;(·obtain⟨b,a,rfl,j,C⟩:=F U;obtain⟨f,hf⟩:=g_ ab;have g:=C k f hf;have H:N wr b (a+k*6) f.kind:=(d.o.cell (p:=⟨b,a+k*6,none⟩) j).trans (g 0 _ rfl);have I:N wr b (a+k*6+1) f.A:=(d.o.cell (p:=⟨b,a+k*6+1,none⟩) j).trans (g 1 _ rfl);have K:N wr b (a+k*6+2) f.B:=(d.o.cell (p:=⟨b,a+k*6+2,none⟩) j).trans (g 2 _ rfl);have L:N wr b (a+k*6+3) f.R:=(d.o.cell (p:=⟨b,a+k*6+3,none⟩) j).trans (g 3 _ rfl);have P:N wr b (a+k*6+4) f.lo:=(d.o.cell (p:=⟨b,a+k*6+4,none⟩) j).trans (g 4 _ rfl);have T:N wr b (a+k*6+5) f.hi:=(d.o.cell (p:=⟨b,a+k*6+5,none⟩) j).trans (g 5 _ rfl);have r1:(0:Int)<=(k:Int):=U;have ak:(k:Int)<(l.length:Int):=U;have ac:(l.take (k+1)).any sD=(ok||sD f):=(by rw[Oq hf,u.o]);have ad:sD f=(decide (f=n_ f.A f.B)&&decide (f.B=[33])&&(decide (f.A=[42])||Lib.hasPrefix f.A [123])):=rfl;(have x:z 85 #[.agg #[f.kind,f.A,f.B,f.R,f.lo,f.hi]] (wr.alloc (.cells #[f.kind,f.A,f.B,f.R,f.lo,f.hi] 148)) λe w'=>e=.returned (.bool (decide (f=n_ f.A f.B)))/\Below (wr.alloc (.cells #[f.kind,f.A,f.B,f.R,f.lo,f.hi] 148)).heap.size (wr.alloc (.cells #[f.kind,f.A,f.B,f.R,f.lo,f.hi] 148)) w':=(Ve f _));generalize decide (f=n_ f.A f.B)=sb at *;(have W:∀w,z 86 #[f.A,.string ⟨#[123]⟩] w λe w'=>e=.returned (Lib.hasPrefix f.A [123])/\w'=w:=λw=>Tryz.strings_HasPrefix ⟨f.A.toArray⟩ ⟨#[123]⟩ w);generalize Lib.hasPrefix f.A [123]=X at *;have ae:f_ (wr.alloc (.cells #[f.kind,f.A,f.B,f.R,f.lo,f.hi] 148)) wr.heap.size 148 #[f.kind,f.A,f.B,f.R,f.lo,f.hi]:=f_.new _ _ _;go_wp2_with fail;refine x.mono ?_;rintro e Z ⟨rfl,q⟩;obtain⟨al,g1,am,g3,g4,an⟩:=six (ae.below q);have af:Hid (G w Z):=O (b_ (L_ d.o _) q);cases sb<;>cases ok<;>cases X<;>by_cases v:f.B=[33]<;>by_cases y:f.A=[42];(all_goals (have ag:(f.B==[33])=decide (f.B=[33]):=by rw[WA,Uh,hp_]);(have ah:(f.A==[42])=decide (f.A=[42]):=by rw[WA,Uh,hp_]);simp only[v,y,dw_,dy_]at ag ah;go_wp2_with (go_at_call 86;with_reducible refine(W _).mono ?_;rintro e ao ⟨rfl,rfl⟩));all_goals go_roundw;exact⟨k+1,_,_,U,R,rfl,rfl,O (by rw[ac,ad];simp[v,y]),af⟩;exact M);·(obtain rfl:k=l.length:=by omega);go_wp2;go_ret2;exact⟨⟨t,by have:=u.o;rw[jh]at this;rw[<-this];rfl⟩,d.o⟩
end
section
open Go.Maps Go.RowKit Go.Sort Tryz
def XT(a b:St)(w:W_):z 231 #[d_ a,d_ b] w λe w'=>e=.returned (.agg (mJ (n_ a b)))/\G w w':=by unfold mJ n_ d_;go_in;go_wp2;refine qW (gq rfl _ _ rfl (LX (f_.new _ _ _))) rfl ⟨rfl,bA⟩
def qG(f:Fc):(kg f).length=6:=rfl
def Q0:(prog.info? 148).map (λi=>(i.zero,i.size,i.bytes))=some (some (.agg (mJ ⟨0,[],[],[],0,0⟩)),6,72):=by kernel_rfl
def aaj(W:W_)(q:Fc):SF (W.alloc (.cells #[q.kind,d_ q.A,d_ q.B,d_ q.R,q.lo,q.hi] 148)) (.slice (some ⟨W.heap.size,0,none⟩) 1 1) [q]:=
 ⟨_,1,rfl,fU _,by simp[m_],λ_=>⟨_,0,rfl,S,λi x hi j y a=>by
   (obtain rfl:i=0:=by have:=(iR.1 hi).1;simp at this;omega);injection hi with hi;subst hi;have:=(f_.new W 148 (mJ q)).cell (0+0*6+j);rw[show 0+0*6+j=j by omega]at this ⊢;rw[this,<-a]
   simp[kg]⟩⟩
def Ot{w W:W_}{lo kp d:Nat}{v:V_}{fA:Int}{f:List Pc}(g:Col w lo kp d v fA f)(i:G w W)(a b:St)(o:a.length<=100000)(hb:b.length<=100000)(hf: -1<=fA/\fA<=100000)(p:f.length<=90000):
 z 232 #[.pointer (some ⟨kp,0,none⟩),.slice (some ⟨W.heap.size,0,none⟩) 2 2] (W.alloc (.cells #[d_ a,d_ b] 9))
  λe w'=>e=.returned (.tuple #[])/\∃v',Col w' lo kp d v' fA (fT fA f [O_ a,O_ b])/\kU kp d v w v' w':=by
 have k:=L_ i (.cells #[d_ a,d_ b] 9)
 refine(Ob [a,b] _ _ lo kp d v fA f (g.up k) (S1.lit W _ rfl 9 _ d_ [a,b] 2 rfl rfl (by simp[m_])) (λx n c e h=>?_) (λs j=>by simp at j;rcases j with rfl|rfl<;>assumption) hf (by simp;omega)).mono ?_
 ·injection e with e _ _;injection e with e;rw[<-e];exact g.fresh i.size
 ·rintro e w' ⟨rfl,v',l,m⟩;exact⟨rfl,v',l,(kU.of k).trans m⟩
def Vg(n:Int)(w:W_):∃kp a,w.heap.size<=kp/\z 137 #[n] w λe w'=>e=.returned (.pointer (some ⟨kp,0,none⟩))/\Col w' w.heap.size kp a (.slice none 0 0) n []/\G w w':=⟨_,_,U,tN n w⟩
def rM(x:Ax):Int:=if X_ x≠0 then X_ x else if x.kind=5\/x.kind=6\/x.kind=7 then 22 else 0
def FY(w:W_)(x:Ax)(e:Ending)(w':W_):Prop:=G w w'/\∃v u,e=.returned (.tuple #[v,u,(rM x)])/\(rM x≠0->v=.slice none 0 0/\u=.slice none 0 0)/\(rM x=0->Rd w' jM 10 v (lK x)/\SF w' u (yx x))
def Vh(x:Ax):∀p∈yw x,p.fA=0:=by intro p d;have L:=JL;have R:=FT;unfold yw at d;(have M:∀a q,q=O_ a->q.fA=0:=λa q h=>by rw[h];rfl);(have S:∀a b q,q=kP a b->q.fA=0:=λa b q h=>by rw[h];rfl);(have T:∀a b c q,q=ng a b c->q.fA=0:=λa b c q h=>by rw[h];rfl);(repeat' split at d);(all_goals try simp only[gH,gy,jU,ZH,ZI,gs_]at d);(·rcases d with h|h|h|h;(·exact M _ _ h);(·exact M _ _ h);(·exact R _ p h);·exact L _ p h);(·rcases d with h|h|h|h|h|h;(·exact M _ _ h);(·exact M _ _ h);(·exact R _ p h);(·exact L _ p h);(·exact R _ p h);·exact L _ p h);(·rcases d with h|h|h|h|h|h;(·exact M _ _ h);(·exact M _ _ h);(·exact S _ _ _ h);(·exact R _ p h);(·exact S _ _ _ h);·exact R _ p h);(·rcases d with h|h|h|h;(·exact M _ _ h);(·exact M _ _ h);(·exact T _ _ _ _ h);·exact L _ p h);(·rcases d with h|h|h;(·exact M _ _ h);(·exact M _ _ h);·exact L _ p h);·rcases d with h|h;(·exact M _ _ h);·exact M _ _ h
def Vi(x:Ax):lK x=fT (-1) [] (yw x):=(FI (-1) (yw x) (Vh x)).symm
end
section
open Go.Maps Go.RowKit Tryz
inductive Slot
 |queue
 |loops
 |pc (k:Ky)
 |ab (a:St)
 |un (a:St)
 |fr (p:Sp)
 |it (p:Sp)
 |ra (p:Sp)
 |fi (p:Sp)
deriving DecidableEq
def eT:Slot->T_
 | .queue=>148
 | .pc _=>146
 | .ra _=>148
 | .fi _=>148
 |_=>9
def kT:Slot->Nat
 | .queue=>6
 | .pc _=>10
 | .ra _=>6
 | .fi _=>6
 |_=>1
def SC(s:ES):Slot->List (List V_)
 | .queue=>s.D.map kg
 | .loops=>s.lp.map λx=>[d_ x]
 | .pc k=>(jd s.pu k).map jM
 | .ab a=>(jd s.ab a).map λx=>[d_ x]
 | .un a=>(jd s.un a).map λx=>[d_ x]
 | .fr p=>(jd s.fr p).map λx=>[d_ x]
 | .it p=>(jd s.it p).map λx=>[d_ x]
 | .ra p=>(jd s.ra p).map kg
 | .fi p=>(jd s.fi p).map kg
def l9(D:List Fc):Fc->Option V_:=λf=>if f∈D then some (.bool true) else none
def FZ(D:List Fc)(f:Fc):upd (l9 D) f (some (.bool true))=l9 (D++[f]):=by funext x;unfold upd l9;by_cases h:x=f;(·rw[A_ h,A_ (by simp[h])]);·rw[u_ h];by_cases a:x∈D;(·rw[A_ a,A_ (by simp[a])]);·rw[u_ a,u_ (by simp[a,h])]
def XU{a α:Type}[DecidableEq a](vf:a->V_)(g:a->List α)(r:a)(x:α)(v':V_):upd (nK vf g) r (some v')=nK (j6 vf r v') (j6 g r (g r++[x])):=by funext y;unfold upd nK j6;by_cases e:y=r;(·subst e;simp only[ZC];cases b:g y<;>simp);·simp only[u_ e]
def Yb(X:Nat->Prop)(vf:Slot->V_)(g:Nat):Prop:=X g\/∃i,(vf i).ownBlock=some g
structure q9(X:Nat->Prop)(vf:Slot->V_)(w:W_)(l7:Slot->V_)(w':W_):Prop where
 aw:Aw (Yb X vf) w w'
 up:∀g,Yb X l7 g->Yb X vf g\/w.heap.size<=g
section
variable{X:Nat->Prop}{vf l7 adU:Slot->V_}{w w' w'':W_}
def q9.refl(X:Nat->Prop)(vf:Slot->V_)(w:W_):q9 X vf w vf w:=⟨.refl _ _,λ_ h=> .inl h⟩
def q9.trans(h:q9 X vf w l7 w')(k:q9 X l7 w' adU w''):q9 X vf w adU w'':=by refine⟨⟨k.aw.os.trans h.aw.os,k.aw.tape.trans h.aw.tape,k.aw.output.trans h.aw.output,gT h.aw.size k.aw.size,λg b c=>?_⟩,λg b=>?_⟩;(·exact(k.aw.block g (sK b h.aw.size) λd=>by rcases h.up g d with a|a;exact c a;omega).trans (h.aw.block g b c));·rcases k.up g b with a|a;(·exact h.up g a);·exact .inr (gT h.aw.size a)
def q9.then(h:q9 X vf w l7 w')(k:G w' w''):q9 X vf w l7 w'':=⟨h.aw.then k,h.up⟩
def q9.of(h:G w w'):q9 X vf w vf w':=⟨.of h,λ_ h=> .inl h⟩
def q9.nx(h:q9 X vf w l7 w'){g:Nat}(c:g<w.heap.size)(b:¬Yb X vf g):¬Yb X l7 g:=λe=>by rcases h.up g e with a|a;(·exact b a);·omega
def q9.blk(h:q9 X vf w l7 w'){g:Nat}{t:T_}{a:Array V_}(hb:f_ w g t a)(b:¬Yb X vf g):f_ w' g t a:=h.aw.blk hb b
def q9.cell(h:q9 X vf w l7 w'){b o:Nat}{u:V_}(hc:N w b o u)(a:¬Yb X vf b):N w' b o u:=h.aw.cell hc a
end
structure EM(w:W_)(B:Nat)(vf:Slot->V_)(s:ES):Prop where
 mp:t_ w KY B s.pu.length (nK (λk=>vf (.pc k)) (jd s.pu))
 kn:nQ w KF (B+1) s.D.length (l9 s.D)
 ma:t_ w KT (B+2) s.ab.length (nK (λk=>vf (.ab k)) (jd s.ab))
 mu:t_ w KT (B+3) s.un.length (nK (λk=>vf (.un k)) (jd s.un))
 mf:t_ w KS (B+4) s.fr.length (nK (λk=>vf (.fr k)) (jd s.fr))
 mi:t_ w KS (B+5) s.it.length (nK (λk=>vf (.it k)) (jd s.it))
 mr:t_ w KS (B+6) s.ra.length (nK (λk=>vf (.ra k)) (jd s.ra))
 ms:t_ w KS (B+7) s.fi.length (nK (λk=>vf (.fi k)) (jd s.fi))
 mz:t_ w KF (B+8) s.fm.length (l9 s.fm)
abbrev Ap(B:Nat)(em lv:V_):Array V_:= #[.map (some B),lv,.map (some (B+1)),em,.map (some (B+2)),.map (some (B+3)),.map (some (B+4)),.map (some (B+5)),.map (some (B+6)),.map (some (B+7)),.map (some (B+8))]
structure jm(w:W_)(B:Nat)(X:Nat->Prop)(em:V_)(vf:Slot->V_)(s:ES):Prop where
 blk:f_ w (B+9) 224 (Ap B em (vf .loops))
 rows:RF w X B eT kT vf (SC s)
 xb:∀j,j<=9->X (B+j)
 xlt:∀g,X g->B<=g/\g<w.heap.size
 m:EM w B vf s
section
variable{w w' w'':W_}{B:Nat}{X:Nat->Prop}{em:V_}{vf:Slot->V_}{s:ES}
def EM.pz(h:EM w B vf s)(hb:∀j,j<=8->w'.heap[B+j]?=w.heap[B+j]?):EM w' B vf s:=⟨h.mp.pz (hb 0 U),h.kn.pz (hb 1 U),h.ma.pz (hb 2 U),h.mu.pz (hb 3 U),h.mf.pz (hb 4 U),h.mi.pz (hb 5 U),h.mr.pz (hb 6 U),h.ms.pz (hb 7 U),h.mz.pz (hb 8 U)⟩
def jm.lt(h:jm w B X em vf s){g:Nat}(a:Yb X vf g):B<=g/\g<w.heap.size:=by rcases a with b|⟨i,hi⟩;(·exact h.xlt g b);·exact h.rows.lt hi
def jm.fresh(h:jm w B X em vf s){g:Nat}(a:w.heap.size<=g):¬Yb X vf g:=λe=>by have:=(h.lt e).2;omega
def jm.low(h:jm w B X em vf s){g:Nat}(a:g<B):¬Yb X vf g:=λe=>by have:=(h.lt e).1;omega
def jm.at(h:jm w B X em vf s)(b:w.heap.size<=w'.heap.size)(hb:∀g,Yb X vf g->w'.heap[g]?=w.heap[g]?):jm w' B X em vf s:=⟨(hb _ (.inl (h.xb 9 U))).trans h.blk,h.rows.at λi g hi=>hb g (.inr ⟨i,hi⟩),h.xb,λg a=>⟨(h.xlt g a).1,sK (h.xlt g a).2 b⟩,h.m.pz λj c=>hb _ (.inl (h.xb j U))⟩
def jm.up(h:jm w B X em vf s)(hb:G w w'):jm w' B X em vf s:=h.at hb.size λg a=>hb.block g (h.lt a).2
def jm.grown(h:jm w B X em vf s){b:Nat}(a:w.grownBy w' (some b))(hb:¬Yb X vf b):jm w' B X em vf s:=h.at a.size λg c=>a.block g (h.lt c).2 λe=>by injection e with e;subst e;exact hb c
def jm.below(h:jm w B X em vf s){l7:Slot->V_}(k:q9 X vf w l7 w'):Below B w w':=by(have a:B<=w.heap.size:=by have:=(h.xlt _ (h.xb 0 U));omega);exact k.aw.below a λg b c=>h.low b c
def Aq:∀l:List St,(l.map λx=>[d_ x]).flatten=l.map d_
 |[]=>rfl
 |a::l=>by simp only[ZB,List.flatten_cons,Aq l];rfl
def Ay{base:Nat}{v:V_}{l:List St}(h:w.ownsRow base 9 1 v (l.map λx=>[d_ x]).length (l.map λx=>[d_ x]).flatten):lg w v l:=by refine iL (w:=w) (base:=base) (e:=9) ?_;rw[Aq,oD]at h;exact h
def jm.rdP(h:jm w B X em vf s)(k:Ky):Rd w jM 10 (vf (.pc k)) (jd s.pu k):=by have:=h.rows.own (.pc k);rw[show SC s (.pc k)=(jd s.pu k).map jM from rfl,oD,<-in_]at this;exact qy mI U this
def jm.rdF(h:jm w B X em vf s)(k:Sp):Rd w kg 6 (vf (.ra k)) (jd s.ra k)/\Rd w kg 6 (vf (.fi k)) (jd s.fi k):=by have a:=h.rows.own (.ra k);have b:=h.rows.own (.fi k);rw[show SC s (.ra k)=(jd s.ra k).map kg from rfl,oD,<-in_]at a;rw[show SC s (.fi k)=(jd s.fi k).map kg from rfl,oD,<-in_]at b;exact⟨qy qG U a,qy qG U b⟩
def jm.rdQ(h:jm w B X em vf s):Rd w kg 6 (vf .queue) s.D:=by have a:=h.rows.own .queue;rw[show SC s .queue=s.D.map kg from rfl,oD,<-in_]at a;exact qy qG U a
def jm.rdL(h:jm w B X em vf s):lg w (vf .loops) s.lp:=Ay (h.rows.own .loops)
def jm.rdA(h:jm w B X em vf s)(a:St):lg w (vf (.ab a)) (jd s.ab a):=Ay (h.rows.own (.ab a))
def jm.rdU(h:jm w B X em vf s)(a:St):lg w (vf (.un a)) (jd s.un a):=Ay (h.rows.own (.un a))
def jm.rdR(h:jm w B X em vf s)(a:Sp):lg w (vf (.fr a)) (jd s.fr a):=Ay (h.rows.own (.fr a))
def jm.rdI(h:jm w B X em vf s)(a:Sp):lg w (vf (.it a)) (jd s.it a):=Ay (h.rows.own (.it a))
def l8{b α:Type}{vf:b->V_}{g:b->List α}{k:b}(h:g k=[]->vf k=.slice none 0 0):(nK vf g k).getD (.slice none 0 0)=vf k:=by
 unfold nK
 cases c:g k with
 |nil=>simp only[];rw[h c];rfl
 |cons a l=>rfl
def jm.adV(h:jm w B X em vf s)(k:Ky)(a:okY k):(Instr.lookup 217 (.map (some B)) (.agg (vY k)) false).run prog w=.ok (vf (.pc k)) w:=by have:=h.m.mp.look (K:=KY) underlying217 (zeroValue140 w) (x:=k) a;rw[l8 (vf:=λk=>vf (.pc k)) (λe=>h.rows.nil (.pc k) (by simp[SC,e]))]at this;exact this
def jm.XV(h:jm w B X em vf s)(a:St)(b:a.length<=m_):(Instr.lookup 220 (.map (some (B+2))) (.string ⟨a.toArray⟩) false).run prog w=.ok (vf (.ab a)) w:=by have:=h.m.ma.look (K:=KT) underlying220 (zeroValue41 w) (x:=a) b;rw[l8 (vf:=λk=>vf (.ab k)) (λe=>h.rows.nil (.ab a) (by simp[SC,e]))]at this;exact this
def jm.XW(h:jm w B X em vf s)(a:St)(b:a.length<=m_):(Instr.lookup 220 (.map (some (B+3))) (.string ⟨a.toArray⟩) false).run prog w=.ok (vf (.un a)) w:=by have:=h.m.mu.look (K:=KT) underlying220 (zeroValue41 w) (x:=a) b;rw[l8 (vf:=λk=>vf (.un k)) (λe=>h.rows.nil (.un a) (by simp[SC,e]))]at this;exact this
def jm.adW(h:jm w B X em vf s)(a:Sp)(b:Zq a):(Instr.lookup 221 (.map (some (B+4))) (.agg (vS a)) false).run prog w=.ok (vf (.fr a)) w:=by have:=h.m.mf.look (K:=KS) underlying221 (zeroValue41 w) (x:=a) b;rw[l8 (vf:=λk=>vf (.fr k)) (λe=>h.rows.nil (.fr a) (by simp[SC,e]))]at this;exact this
def jm.adX(h:jm w B X em vf s)(a:Sp)(b:Zq a):(Instr.lookup 221 (.map (some (B+5))) (.agg (vS a)) false).run prog w=.ok (vf (.it a)) w:=by have:=h.m.mi.look (K:=KS) underlying221 (zeroValue41 w) (x:=a) b;rw[l8 (vf:=λk=>vf (.it k)) (λe=>h.rows.nil (.it a) (by simp[SC,e]))]at this;exact this
def jm.adY(h:jm w B X em vf s)(a:Sp)(b:Zq a):(Instr.lookup 222 (.map (some (B+6))) (.agg (vS a)) false).run prog w=.ok (vf (.ra a)) w:=by have:=h.m.mr.look (K:=KS) underlying222 (zeroValue81 w) (x:=a) b;rw[l8 (vf:=λk=>vf (.ra k)) (λe=>h.rows.nil (.ra a) (by simp[SC,e]))]at this;exact this
def jm.abg(h:jm w B X em vf s)(a:Sp)(b:Zq a):(Instr.lookup 222 (.map (some (B+7))) (.agg (vS a)) false).run prog w=.ok (vf (.fi a)) w:=by have:=h.m.ms.look (K:=KS) underlying222 (zeroValue81 w) (x:=a) b;rw[l8 (vf:=λk=>vf (.fi k)) (λe=>h.rows.nil (.fi a) (by simp[SC,e]))]at this;exact this
def lT{b n:Nat}{D:List Fc}(h:t_ w KF b n (l9 D)){f:Fc}(hf:okF f){c:Bool}(hc:decide (f∈D)=c):(Instr.lookup 218 (.map (some b)) (.agg (vF f)) false).run prog w=.ok (.bool c) w:=by have:=h.look (K:=KF) underlying218 (zeroValue4 w) (x:=f) hf;unfold l9 at this;by_cases a:f∈D;(·rw[A_ a]at this;rw[<-hc,Dx a];exact this);·rw[u_ a]at this;rw[<-hc,yR a];exact this
def SmF.ok{f:Fc}(h:SmF f):okF f:=by(have m:(100000:Nat)<=m_:=by simp[m_]);have d:=h.k;(have c:∀x:Int,-1099511627776<=x/\x<=1099511627776->(Lit.int .i64 x).wf=true:=λx h=>tO (by rw[jr];exact h));exact⟨c _ U,gT h.a m,gT h.b m,gT h.r m,c _ h.lo,c _ h.hi⟩
end
def oq{vf:Slot->V_}{i:Slot}{v:V_}{a:Type}{c:a->Slot}(h:∀k,c k≠i):(λk=>j6 vf i v (c k))=λk=>vf (c k):=by funext k;exact ko _ _ (h k)
def aak{vf:Slot->V_}{v:V_}{a:Type}[DecidableEq a]{c:a->Slot}(p:a)(h:∀k,c k=c p->k=p):(λk=>j6 vf (c p) v (c k))=j6 (λk=>vf (c k)) p v:=by funext k;unfold j6;by_cases e:k=p;(·subst e;rw[A_ rfl,A_ rfl]);·rw[u_ e,u_ (λb=>e (h k b))]
structure jg(w w5:W_)(B:Nat)(X:Nat->Prop)(vf:Slot->V_)(s:ES)(i:Slot)(q:Nat)(v':V_)(c:List V_):Prop where
 rows:RF w5 X B eT kT (j6 vf i v') (j6 (SC s) i (SC s i++[c]))
 aw:Aw (λg=>g=q\/(vf i).ownBlock=some g) w w5
 up:∀g,v'.ownBlock=some g->(vf i).ownBlock=some g\/w.heap.size<=g
section
variable{w w3 w4 w5:W_}{B:Nat}{X:Nat->Prop}{em:V_}{vf:Slot->V_}{s:ES}{i:Slot}{q n:Nat}{v':V_}{c xs:List V_}
def En(h:RF w X B eT kT vf (SC s))(f:∀g,X g->g<w.heap.size)(i:Slot)(k:X q)(a:Aw (λg=>g=q) w w3)(C:w4.ownsRow B (eT i) (kT i) v' n xs)(r:n=(SC s i).length+1)(x:xs=(SC s i).flatten++c)(b:w3.grownBy w4 (vf i).ownBlock)(o:v'.ownBlock=(vf i).ownBlock\/v'.ownBlock=some w3.heap.size)(d:w4.grownBy w5 (some q)):jg w w5 B X vf s i q v' c:=by(have y:RF w3 X B eT kT vf (SC s):=h.at λj g l=>a.block g (h.lt l).2 λe=>by subst e;exact h.fx j _ l k);have A:=y.add (c:=c) C r x b o (λg b=>sK (f g b) a.size);refine⟨A.kept d k,⟨d.os.trans (b.os.trans a.os),d.tape.trans (b.tape.trans a.tape),d.output.trans (b.output.trans a.output),gT a.size (gT b.size d.size),λg p f=>?_⟩,λg hv=>?_⟩;(·have m:g<w3.heap.size:=sK p a.size;have t:g<w4.heap.size:=sK m b.size;(have u:some g≠some q:=λe=>f (.inl (by injection e)));(have v:some g≠(vf i).ownBlock:=λe=>f (.inr e.symm));exact(d.block g t u).trans ((b.block g m v).trans (a.block g p λe=>f (.inl e))));·rcases o with e|e;(·rw[e]at hv;exact .inl hv);·rw[e]at hv;injection hv with hv;exact .inr (by rw[<-hv];exact a.size)
def jg.to(R:jg w w5 B X vf s i q v' c)(h:X q):q9 X vf w (j6 vf i v') w5:=by refine⟨R.aw.mono λg _ b=>?_,λg d=>?_⟩;(·rcases b with rfl|b;(·exact .inl h);·exact .inr ⟨i,b⟩);·rcases d with d|⟨j,a⟩;(·exact .inl (.inl d));·by_cases e:j=i;(·subst e;rw[lZ]at a;rcases R.up g a with f|f;(·exact .inl (.inr ⟨_,f⟩));·exact .inr f);·rw[ko _ _ e]at a;exact .inl (.inr ⟨j,a⟩)
def jg.at(h:jm w B X em vf s)(R:jg w w5 B X vf s i q v' c){g:Nat}(a:X g)(b:g≠q):w5.heap[g]?=w.heap[g]? :=R.aw.block g (h.xlt g a).2 λe=>by rcases e with e|e;(·exact b e);·exact h.rows.fx i g e a
def jg.xlt(h:jm w B X em vf s)(R:jg w w5 B X vf s i q v' c):∀g,X g->B<=g/\g<w5.heap.size:=λg a=>⟨(h.xlt g a).1,sK (h.xlt g a).2 R.aw.size⟩
structure EMk(w:W_)(B:Nat)(em:V_)(vf:Slot->V_)(s:ES)(i:Slot)(j:Nat):Prop where
 mp:j≠0->(∀k,.pc k≠i)->t_ w KY B s.pu.length (nK (λk=>vf (.pc k)) (jd s.pu))
 kn:j≠1->nQ w KF (B+1) s.D.length (l9 s.D)
 ma:j≠2->(∀k,.ab k≠i)->t_ w KT (B+2) s.ab.length (nK (λk=>vf (.ab k)) (jd s.ab))
 mu:j≠3->(∀k,.un k≠i)->t_ w KT (B+3) s.un.length (nK (λk=>vf (.un k)) (jd s.un))
 mf:j≠4->(∀k,.fr k≠i)->t_ w KS (B+4) s.fr.length (nK (λk=>vf (.fr k)) (jd s.fr))
 mi:j≠5->(∀k,.it k≠i)->t_ w KS (B+5) s.it.length (nK (λk=>vf (.it k)) (jd s.it))
 mr:j≠6->(∀k,.ra k≠i)->t_ w KS (B+6) s.ra.length (nK (λk=>vf (.ra k)) (jd s.ra))
 ms:j≠7->(∀k,.fi k≠i)->t_ w KS (B+7) s.fi.length (nK (λk=>vf (.fi k)) (jd s.fi))
 mz:j≠8->t_ w KF (B+8) s.fm.length (l9 s.fm)
 blk: .loops≠i->f_ w (B+9) 224 (Ap B em (vf .loops))
def jm.keep(h:jm w B X em vf s){j:Nat}(e:j<=8)(R:jg w w5 B X vf s i (B+j) v' c):EMk w5 B em (j6 vf i v') s i j:=by(have k:∀t,t<=9->j≠t->w5.heap[B+t]?=w.heap[B+t]? :=λt d f=>R.at h (h.xb t d) U);exact⟨λa b=>by rw[oq (c:=Slot.pc) b];exact h.m.mp.pz (k 0 U a),λa=>h.m.kn.pz (k 1 U a),λa b=>by rw[oq (c:=Slot.ab) b];exact h.m.ma.pz (k 2 U a),λa b=>by rw[oq (c:=Slot.un) b];exact h.m.mu.pz (k 3 U a),λa b=>by rw[oq (c:=Slot.fr) b];exact h.m.mf.pz (k 4 U a),λa b=>by rw[oq (c:=Slot.it) b];exact h.m.mi.pz (k 5 U a),λa b=>by rw[oq (c:=Slot.ra) b];exact h.m.mr.pz (k 6 U a),λa b=>by rw[oq (c:=Slot.fi) b];exact h.m.ms.pz (k 7 U a),λa=>h.m.mz.pz (k 8 U a),λa=>by rw[ko _ _ a];exact(k 9 U U).trans h.blk⟩
def aal{P:Program}{kt:T_}{a α:Type}[DecidableEq a]{K:KK P kt a}{b:Nat}{l:List (a×α)}{f:a->Slot}(p:a)(x:α)(d:t_ w5 K b (l.length+1) (upd (nK (λk=>vf (f k)) (jd l)) p (some v')))(hc:∀k,f k=f p->k=p):t_ w5 K b (l++[(p,x)]).length (nK (λk=>j6 vf (f p) v' (f k)) (jd (l++[(p,x)]))):=by rw[aak (c:=f) p hc,Fb,<-XU,lG];exact d
def jm.Q5(h:jm w B X em vf s):(∀(p:Ky)(x:Pc),jg w w5 B X vf s (.pc p) (B+0) v' (jM x)->t_ w5 KY (B+0) (s.pu.length+1) (upd (nK (λk=>vf (.pc k)) (jd s.pu)) p (some v'))->jm w5 B X em (j6 vf (.pc p) v') {s with pu:=s.pu++[(p,x)]})/\ (∀(p:St)(x:St),jg w w5 B X vf s (.ab p) (B+2) v' ([d_ x])->t_ w5 KT (B+2) (s.ab.length+1) (upd (nK (λk=>vf (.ab k)) (jd s.ab)) p (some v'))->jm w5 B X em (j6 vf (.ab p) v') {s with ab:=s.ab++[(p,x)]})/\ (∀(p:St)(x:St),jg w w5 B X vf s (.un p) (B+3) v' ([d_ x])->t_ w5 KT (B+3) (s.un.length+1) (upd (nK (λk=>vf (.un k)) (jd s.un)) p (some v'))->jm w5 B X em (j6 vf (.un p) v') {s with un:=s.un++[(p,x)]})/\ (∀(p:Sp)(x:St),jg w w5 B X vf s (.fr p) (B+4) v' ([d_ x])->t_ w5 KS (B+4) (s.fr.length+1) (upd (nK (λk=>vf (.fr k)) (jd s.fr)) p (some v'))->jm w5 B X em (j6 vf (.fr p) v') {s with fr:=s.fr++[(p,x)]})/\ (∀(p:Sp)(x:St),jg w w5 B X vf s (.it p) (B+5) v' ([d_ x])->t_ w5 KS (B+5) (s.it.length+1) (upd (nK (λk=>vf (.it k)) (jd s.it)) p (some v'))->jm w5 B X em (j6 vf (.it p) v') {s with it:=s.it++[(p,x)]})/\ (∀(p:Sp)(x:Fc),jg w w5 B X vf s (.ra p) (B+6) v' (kg x)->t_ w5 KS (B+6) (s.ra.length+1) (upd (nK (λk=>vf (.ra k)) (jd s.ra)) p (some v'))->jm w5 B X em (j6 vf (.ra p) v') {s with ra:=s.ra++[(p,x)]})/\ (∀(p:Sp)(x:Fc),jg w w5 B X vf s (.fi p) (B+7) v' (kg x)->t_ w5 KS (B+7) (s.fi.length+1) (upd (nK (λk=>vf (.fi k)) (jd s.fi)) p (some v'))->jm w5 B X em (j6 vf (.fi p) v') {s with fi:=s.fi++[(p,x)]}):=by refine⟨?_,?_,?_,?_,?_,?_,?_⟩<;>intro p x R a;all_goals have o:=h.keep D R;refine⟨o.blk (λe=>by cases e),Eq.subst (motive:=λz=>RF w5 X B eT kT _ z) (Eq.symm ?_) R.rows,h.xb,R.xlt h,?_⟩;(·funext j;(cases j<;>first|rfl|skip);all_goals rename_i b;unfold j6;by_cases e:b=p;(·subst e;simp[SC,Fb,j6]);·rw[u_ (λd=>e (by injection d))];simp[SC,Fb,j6,e]);·constructor<;>first|exact aal p x a (λk e=>by injection e)|exact o.kn D|exact o.mz D|exact o.mp D (λk e=>by cases e)|exact o.ma D (λk e=>by cases e)|exact o.mu D (λk e=>by cases e)|exact o.mf D (λk e=>by cases e)|exact o.mi D (λk e=>by cases e)|exact o.mr D (λk e=>by cases e)|exact o.ms D (λk e=>by cases e)
abbrev jm.ab2(h:jm w B X em vf s):=(h.Q5 (w5:=w5) (v':=v')).1
abbrev jm.ab3(h:jm w B X em vf s):=(h.Q5 (w5:=w5) (v':=v')).2.1
abbrev jm.ab4(h:jm w B X em vf s):=(h.Q5 (w5:=w5) (v':=v')).2.2.1
abbrev jm.ab5(h:jm w B X em vf s):=(h.Q5 (w5:=w5) (v':=v')).2.2.2.1
abbrev jm.ab6(h:jm w B X em vf s):=(h.Q5 (w5:=w5) (v':=v')).2.2.2.2.1
abbrev jm.ab7(h:jm w B X em vf s):=(h.Q5 (w5:=w5) (v':=v')).2.2.2.2.2.1
abbrev jm.ab8(h:jm w B X em vf s):=(h.Q5 (w5:=w5) (v':=v')).2.2.2.2.2.2
def XY(s:ES)(x:Fc):SC {s with D:=s.D++[x]}=j6 (SC s) .queue (SC s .queue++[kg x]):=by funext j;(cases j<;>first|rfl|skip);all_goals simp[SC,j6]
def XZ(s:ES)(x:St):SC {s with lp:=s.lp++[x]}=j6 (SC s) .loops (SC s .loops++[[d_ x]]):=by funext j;(cases j<;>first|rfl|skip);all_goals simp[SC,j6]
def EM.other(h:EM w B vf s){Q6:Slot->V_}(hv:∀i,i≠.queue->i≠.loops->Q6 i=vf i):EM w B Q6 s:=by(have e:∀{a:Type}(c:a->Slot),(∀k,c k≠.queue)->(∀k,c k≠.loops)->(λk=>Q6 (c k))=λk=>vf (c k):=λc b d=>funext λk=>hv _ (b k) (d k));refine⟨?_,h.kn,?_,?_,?_,?_,?_,?_,h.mz⟩;(·rw[e Slot.pc (λk e=>by cases e) (λk e=>by cases e)];exact h.mp);(·rw[e Slot.ab (λk e=>by cases e) (λk e=>by cases e)];exact h.ma);(·rw[e Slot.un (λk e=>by cases e) (λk e=>by cases e)];exact h.mu);(·rw[e Slot.fr (λk e=>by cases e) (λk e=>by cases e)];exact h.mf);(·rw[e Slot.it (λk e=>by cases e) (λk e=>by cases e)];exact h.mi);(·rw[e Slot.ra (λk e=>by cases e) (λk e=>by cases e)];exact h.mr);·rw[e Slot.fi (λk e=>by cases e) (λk e=>by cases e)];exact h.ms
def jm.Vj(h:jm w B X em vf s){d:W_}(x:Fc)(A:x∉s.D)(R:jg d w5 B X vf s .queue q v' (kg x))(u:∀j,j<=9->B+j≠q)(p:w.grownBy d (some (B+1)))(v:nQ d KF (B+1) (s.D.length+1) (upd (l9 s.D) x (some (.bool true)))):jm w5 B X em (j6 vf .queue v') {s with D:=s.D++[x]}:=by(have o:∀g,X g->B<=g/\g<d.heap.size:=λg f=>⟨(h.xlt g f).1,sK (h.xlt g f).2 p.size⟩);(have r:∀j,j<=9->j≠1->d.heap[B+j]?=w.heap[B+j]? :=λj a t=>p.block _ (h.xlt _ (h.xb j a)).2 (by intro e;injection e with e;omega));(have l:∀j,j<=9->w5.heap[B+j]?=d.heap[B+j]? :=λj a=>R.aw.block _ (o _ (h.xb j a)).2 λe=>by rcases e with e|e;(·exact u j a e);·exact h.rows.fx _ _ e (h.xb j a));(have b:=h.m.other (Q6:=j6 vf .queue v') λi y _=>ko _ _ y);refine⟨?_,by rw[XY];exact R.rows,h.xb,λg f=>⟨(o g f).1,sK (o g f).2 R.aw.size⟩,?_⟩;(·rw[ko _ _ (by intro e;cases e)];exact((l 9 U).trans (r 9 U U)).trans h.blk);·(have k:=λj a t=>(l j a).trans (r j a t));refine⟨b.mp.pz (k 0 U U),?_,b.ma.pz (k 2 U U),b.mu.pz (k 3 U U),b.mf.pz (k 4 U U),b.mi.pz (k 5 U U),b.mr.pz (k 6 U U),b.ms.pz (k 7 U U),b.mz.pz (k 8 U U)⟩;show nQ w5 KF (B+1) (s.D++[x]).length (l9 (s.D++[x]));rw[<-FZ,lG];exact v.pz (l 1 U)
def jm.X0(h:jm w B X em vf s)(x:Fc)(d:w.grownBy w5 (some (B+8)))(f:t_ w5 KF (B+8) (s.fm.length+1) (upd (l9 s.fm) x (some (.bool true)))):jm w5 B X em vf {s with fm:=s.fm++[x]}:=by(have k:∀g,X g->g≠B+8->w5.heap[g]?=w.heap[g]? :=λg b o=>d.block _ (h.xlt _ b).2 (by intro e;injection e with e;omega));refine⟨(k _ (h.xb 9 U) U).trans h.blk,h.rows.kept d (h.xb 8 U),h.xb,λg b=>⟨(h.xlt g b).1,sK (h.xlt g b).2 d.size⟩,?_⟩;(have a:∀j,j<=7->w5.heap[B+j]?=w.heap[B+j]? :=λj l=>k _ (h.xb j U) U);refine⟨h.m.mp.pz (a 0 U),h.m.kn.pz (a 1 U),h.m.ma.pz (a 2 U),h.m.mu.pz (a 3 U),h.m.mf.pz (a 4 U),h.m.mi.pz (a 5 U),h.m.mr.pz (a 6 U),h.m.ms.pz (a 7 U),?_⟩;show t_ w5 KF (B+8) (s.fm++[x]).length (l9 (s.fm++[x]));rw[<-FZ,lG];exact f
def jm.Vk(h:jm w B X em vf s)(x:St)(R:jg w w5 B X vf s .loops (B+9) v' [d_ x])(hb:f_ w5 (B+9) 224 (Ap B em v')):jm w5 B X em (j6 vf .loops v') {s with lp:=s.lp++[x]}:=by(have d:=h.m.other (Q6:=j6 vf .loops v') λi _ b=>ko _ _ b);refine⟨by rw[lZ];exact hb,by rw[XZ];exact R.rows,h.xb,R.xlt h,?_⟩;(have a:=d.pz (w':=w5) λj e=>R.at h (h.xb j U) U);exact⟨a.mp,a.kn,a.ma,a.mu,a.mf,a.mi,a.mr,a.ms,a.mz⟩
end
abbrev nT(bg:Nat):V_:= .func (.func 141) #[] #[.pointer (some ⟨bg,0,none⟩),.pointer (some ⟨bg+1,0,none⟩),.pointer (some ⟨bg+2,0,none⟩)]
structure kJ(w:W_)(B:Nat)(X:Nat->Prop)(most bg:Nat)(vf:Slot->V_)(s:ES):Prop where
 e:jm w B X (nT bg) vf s
 g:f_ w bg 215 #[.pointer (some ⟨B+9,0,none⟩)]
 m:f_ w (bg+1) 3 #[most]
 q:f_ w (bg+2) 81 #[vf .queue]
 xx:X bg/\X (bg+1)/\X (bg+2)
 gt:B+10<=bg
section
variable{w w':W_}{B most bg:Nat}{X:Nat->Prop}{vf l7:Slot->V_}{s:ES}
def kJ.at(h:kJ w B X most bg vf s)(a:w.heap.size<=w'.heap.size)(hb:∀g,Yb X vf g->w'.heap[g]?=w.heap[g]?):kJ w' B X most bg vf s:=⟨h.e.at a hb,(hb _ (.inl h.xx.1)).trans h.g,(hb _ (.inl h.xx.2.1)).trans h.m,(hb _ (.inl h.xx.2.2)).trans h.q,h.xx,h.gt⟩
def kJ.up(h:kJ w B X most bg vf s)(hb:G w w'):kJ w' B X most bg vf s:=h.at hb.size λg a=>hb.block g (h.e.lt a).2
def kJ.drew'(h:kJ w B X most bg vf s):kJ w.drew B X most bg vf s:=h.up (fD _ _).drew
end
def Q7(W:W_)(b o:Nat)(v:V_):W.grownBy (W.setCell ⟨b,o,none⟩ v) (some b):=⟨rfl,rfl,rfl,S,λk c a=>D8 _ _ _ _ λe=>a (by rw[e])⟩
def H_{w:W_}{b:Nat}{t:T_}{f:Fc}(h:f_ w b t (vF f)):N w b 0 f.kind/\N w b 1 f.A/\N w b 2 f.B/\ N w b 3 f.R/\N w b 4 f.lo/\N w b 5 f.hi:=⟨h.cell 0,h.cell 1,h.cell 2,h.cell 3,h.cell 4,h.cell 5⟩
def ab9(w:W_)(B:Nat)(X:Nat->Prop)(most bg:Nat)(vf:Slot->V_)(s:ES)(c:Fc)(e:Ending)(w':W_):Prop:=e=.returned (.tuple #[])/\∃l7,kJ w' B X most bg l7 {s with D:=iW most s.D c}/\q9 X vf w l7 w'/\∀i,i≠.queue->l7 i=vf i
def Ou(c:Fc)(w:W_)(B:Nat)(X:Nat->Prop)(most bg:Nat)(vf:Slot->V_)(s:ES)(h:kJ w B X most bg vf s)(hc:SmF c)(a9:most<=1000000)(hl:s.D.length<=most+1):z 141 #[.agg (vF c),.pointer (some ⟨bg,0,none⟩),.pointer (some ⟨bg+1,0,none⟩),.pointer (some ⟨bg+2,0,none⟩)] w (ab9 w B X most bg vf s c):=by unfold vF d_;obtain⟨b,L⟩:=e_ (w.alloc (.cells (vF c) 148));(have ad:G w b:=by rw[<-L];exact bA);(have P:f_ b w.heap.size 148 (vF c):=by rw[<-L];exact f_.new _ _ _);have l:=h.up ad;have aq:¬Yb X vf w.heap.size:=h.e.fresh (fU _);obtain⟨E,b1,b2,b3,F,H⟩:=H_ P;have aa:N b bg 0 (.pointer (some ⟨B+9,0,none⟩)):=l.g.cell 0;have aH:N b (bg+1) 0 most:=l.m.cell 0;have ab:N b (B+9) 2 (.map (some (B+1))):=l.e.blk.cell 2;obtain⟨d,ae⟩:=e_ s.D.length;(have ar:∀nq,(Builtin.len_ #[218] 3 #[.map (some (B+1))]).run prog (b.drewN nq)=.ok (.int .i64 d) (b.drewN nq):=λnq=>by rw[<-ae];exact((l.e.m.kn.pz rfl:nQ (b.drewN nq) KF (B+1) s.D.length (l9 s.D))).len underlying218 3);obtain⟨ao,af⟩:=e_ (decide (c∈s.D));(have au:∀nq,(Instr.lookup 218 (.map (some (B+1))) (.agg #[c.kind,c.A,c.B,c.R,c.lo,c.hi]) false).run prog (b.drewN nq)=.ok (.bool ao) (b.drewN nq):=λnq=>lT (nQ.toF (l.e.m.kn.pz rfl:nQ (b.drewN nq) KF (B+1) s.D.length (l9 s.D))) hc.ok af);have T:=O l;have W:=O ad;have av:=O P;have ax:=O af;have n:=O ae;have aI:=O hc;have aM:=O aq;have aN:w.heap.size<b.heap.size:=P.lt;have bh:d<=most+1:=U;clear h hc l ad P af ae aq aN;by_cases aO:d<=most;(·have aJ:decide ((d:Int)<=(most:Int))=true:=Dx U;go_in;go_wp2_with fail;clear L;go_quiet (fail);clear ar au;cases ao;(·go_wp2_with fail;have a:Hid (kJ (b.drewN nq) B X most bg vf s):=O (T.o.up (nJ (fD _ _) _));have aP:Hid (G w (b.drewN nq)):=O (nJ W.o _);have aF:Hid (f_ (b.drewN nq) w.heap.size 148 (vF c)):=O (av.o.drewN nq);clear E b1 b2 b3 F H aa aH ab T W av;generalize b.drewN nq=I at *;obtain⟨E,b1,b2,b3,F,H⟩:=H_ aF.o;have aa:N I bg 0 (.pointer (some ⟨B+9,0,none⟩)):=a.o.g.cell 0;have ab:N I (B+9) 2 (.map (some (B+1))):=a.o.e.blk.cell 2;(have ag:c∉s.D:=by have:=ax.o;simpa using this);obtain⟨w5,v,ay,az⟩:=(a.o.drew'.e.m.kn).put (K:=KF) underlying218 (by rw[n.o];simp only[m_];omega) aI.o.ok (by unfold l9;rw[u_ ag]) (.bool true);have aQ:(Instr.mapUpdate 218 (.map (some (B+1))) (.agg #[c.kind,c.A,c.B,c.R,c.lo,c.hi]) (.bool true)).run prog I.drew=.ok () w5:=v;have aR:=O ay;have p:=O az;have aA:=O ag;clear v ay az ag;go_region;clear aQ;have ah:=a.o.e.xb 1 U;have bc:=a.o.gt;(have ai:∀g,g≠B+1->some g≠some (B+1):=λg f e=>f (by injection e));have aB:f_ w5 w.heap.size 148 (vF c):=aF.o.drew.grown p.o (ai _ (by intro e;exact aM.o (.inl (by rw[e];exact ah))));have Z:f_ w5 (bg+2) 81 #[vf .queue]:=a.o.q.drew.grown p.o (ai _ U);have bd:bg+2<w5.heap.size:=Z.lt;have v:RF w5 X B eT kT vf (SC s):=(a.o.drew'.e.rows).kept p.o ah;(have ac:w5.ownsRow B 148 6 (vf .queue) s.D.length (s.D.flatMap kg):=by have:=v.own .queue;rw[show SC s .queue=s.D.map kg from rfl,oD,<-in_]at this;exact this);clear E b1 b2 b3 F H aa ab;obtain⟨E,b1,b2,b3,F,H⟩:=H_ aB;obtain⟨A5,c5,C⟩:=o_ ac;(have aS:N w5 (bg+2) 0 (.slice A5 s.D.length c5):=by rw[<-C];exact Z.cell 0);have ap:Hid (w5.ownsRow B 148 6 (.slice A5 s.D.length c5) s.D.length (s.D.flatMap kg)):=O (by rw[<-C];exact ac);rw[n.o]at aS;rw[n.o]at C;have aT:Hid (w5.ownsRow B 148 6 (.slice A5 d c5) s.D.length (s.D.flatMap kg)):=O (by rw[<-n.o];exact ap.o);have aU:=O C;have aV:=O v;have aW:=O Z;have be:B<=w5.heap.size:=U;obtain⟨aX,aY,aZ,a0,a1⟩:=qV Q0;(have aC:(vf .queue).ownBlock≠some (bg+2):=λe=>a.o.e.rows.fx _ _ e a.o.xx.2.2);have a2:=O aC;clear aB Z v ac C aC ai ap;go_wp2_with (at_builtin;refine gP _ kg rfl _ _ 81 rfl B 148 aX (.agg (vF ⟨0,[],[],[],0,0⟩)) 6 72 underlying81 aY aZ a0 a1 rfl D _ _ _ rfl (gB aT.o bA) _ _ [c] qG rfl (aaj w5 c) (λx _ u aK=>Am x u aK) ?c1 ?c2 ?c3 ?_);(case c1=>simp only[m_,zC];omega);(case c2=>have bf:=n.o;simp;omega);(case c3=>simp;omega);intro a' k an aj aG;(have am:(vf .queue).ownBlock=(Value.slice A5 d c5).ownBlock:=by rw[aU.o]);have ak:f_ k (bg+2) 81 #[vf .queue]:=(aW.o.alloc _).grown aj (λe=>a2.o (by rw[am];exact e.symm));have a3:=O aj;have a4:=O aG;have a5:=O an;have bi:N k (bg+2) 0 (vf .queue):=ak.cell 0;have bj:k.frozen? ⟨bg+2,0,none⟩=false:=ak.frozen 0;obtain⟨r,t,rfl⟩:=o_ an;clear an aj aG;go_wp2;go_end0;(have aD:∀g,X g->g<w5.heap.size:=λg f=>sK (a.o.e.xlt g f).2 p.o.size);have a6:=Q7 k (bg+2) 0 (.slice r (s.D.length+1) t);have R:jg w5 (k.setCell ⟨bg+2,0,none⟩ (.slice r (s.D.length+1) t)) B X vf s .queue (bg+2) (.slice r (s.D.length+1) t) (kg c):=En aV.o aD .queue a.o.xx.2.2 ((Aw.refl _ _).al _) a5.o (by simp[SC]) (by simp[SC,in_]) (by rw[am];exact a3.o) (by rw[am,(show ∀o,(w5.alloc o).heap.size=w5.heap.size+1 from λo=>S)];exact a4.o) a6;have a8:=a.o.drew'.e.Vj c aA.o R (λj ba=>U) p.o aR.o;(have a7:q9 X vf w (j6 vf .queue (.slice r (s.D.length+1) t)) (k.setCell ⟨bg+2,0,none⟩ (.slice r (s.D.length+1) t)):=by refine(q9.of aP.o).trans ((q9.of (fD _ _).drew).trans (q9.trans ⟨(Aw.refl _ _).grown p.o λ_=> .inl ah,λg h=> .inl h⟩ (R.to a.o.xx.2.2))));(have aE:∀g,X g->g≠B+1->g≠bg+2->(k.setCell ⟨bg+2,0,none⟩ (.slice r (s.D.length+1) t)).heap[g]?=I.drew.heap[g]? :=λg f bb aL=>by refine(R.aw.block g (aD g f) λe=>?_).trans (p.o.block g (a.o.e.xlt g f).2 (by intro e;injection e with e;omega));rcases e with e|e;(·exact aL e);·exact a.o.e.rows.fx _ _ e f);(have y:iW most s.D c=s.D++[c]:=by unfold iW;rw[A_ ⟨by rw[n.o];omega,aA.o⟩]);refine⟨rfl,_,⟨by rw[y];exact a8,(aE _ a.o.xx.1 U U).trans a.o.g,(aE _ a.o.xx.2.1 U U).trans a.o.m,?_,a.o.xx,a.o.gt⟩,a7,λi hi=>ko _ _ hi⟩;rw[lZ];exact ak.iK 0 _);·go_wp2;go_end0;(have y:iW most s.D c=s.D:=by unfold iW;rw[u_ (λh=>h.2 (by have:=ax.o;simpa using this))]);exact⟨rfl,vf,by rw[y];exact T.o.up (nJ (fD _ _) _),(q9.of W.o).then (nJ (fD _ _) _),λ_ _=>rfl⟩);·have aJ:decide ((d:Int)<=(most:Int))=false:=yR U;go_in;go_wp2_with fail;clear L;go_quiet (fail);clear ar au;go_wp2;go_end0;(have y:iW most s.D c=s.D:=by unfold iW;rw[u_ (λh=>by have:=h.1;rw[n.o]at this;exact aO this)]);exact⟨rfl,vf,by rw[y];exact T.o.up (nJ (fD _ _) _),(q9.of W.o).then (nJ (fD _ _) _),λ_ _=>rfl⟩
section
variable{P:List Pc}{most:Nat}{s:ES}{x:Pc}{f:Fc}{b r t:St}
def adZ(hc:Canon x)(h:(⟨1,[],b⟩:Ky)∈iG x):x=kP b x.C:=by rcases hc with⟨k,e⟩|⟨k,e⟩|⟨k,e,_⟩|⟨k,e,_⟩|⟨k,e,_⟩|⟨k,e,_⟩|⟨k,e,_⟩|⟨k,e,_⟩|⟨k,e,_⟩<;>simp[iG,k]at h;(·rw[h];exact e);·split at h<;>simp at h
def ad1(hc:Canon x)(h:(⟨2,[],b⟩:Ky)∈iG x):x=vL x.A x.B x.C/\(b=x.A\/b=x.B):=by rcases hc with⟨k,e⟩|⟨k,e⟩|⟨k,e,_⟩|⟨k,e,_⟩|⟨k,e,_⟩|⟨k,e,_⟩|⟨k,e,_⟩|⟨k,e,_⟩|⟨k,e,_⟩<;>simp[iG,k]at h;refine⟨e,?_⟩;split at h<;>simp at h;(·exact .inl h);·exact h
def ad2(hc:Canon x)(h:(⟨3,[],b⟩:Ky)∈iG x):x=ng b x.R x.C:=by rcases hc with⟨k,e⟩|⟨k,e⟩|⟨k,e,_⟩|⟨k,e,_⟩|⟨k,e,_⟩|⟨k,e,_⟩|⟨k,e,_⟩|⟨k,e,_⟩|⟨k,e,_⟩<;>simp[iG,k]at h;(·split at h<;>simp at h);·rw[h];exact e
def abh(hc:Canon x)(h:(⟨4,r,b⟩:Ky)∈iG x):x=ni x.R b x.C/\(r=[]\/r=x.R):=by rcases hc with⟨k,e⟩|⟨k,e⟩|⟨k,e,_⟩|⟨k,e,_⟩|⟨k,e,_⟩|⟨k,e,_⟩|⟨k,e,_⟩|⟨k,e,_⟩|⟨k,e,_⟩<;>simp[iG,k]at h;(·split at h<;>simp at h);·rcases h with⟨a,c⟩|⟨a,c⟩;(·rw[c];exact⟨e,.inl a⟩);·rw[c];exact⟨e,.inr a⟩
def ad3(hc:Canon x)(h:(⟨5,r,[]⟩:Ky)∈iG x):x=rF r x.T:=by rcases hc with⟨k,e⟩|⟨k,e⟩|⟨k,e,_⟩|⟨k,e,_⟩|⟨k,e,_⟩|⟨k,e,_⟩|⟨k,e,_⟩|⟨k,e,_⟩|⟨k,e,_⟩<;>simp[iG,k]at h;(·split at h<;>simp at h);·rw[h];exact e
def ad4(hc:Canon x)(h:(⟨6,r,[]⟩:Ky)∈iG x):x=jy r x.S x.T:=by rcases hc with⟨k,e⟩|⟨k,e⟩|⟨k,e,_⟩|⟨k,e,_⟩|⟨k,e,_⟩|⟨k,e,c,a,d⟩|⟨k,e,_⟩|⟨k,e,_⟩|⟨k,e,_⟩<;>simp[iG,k]at h;(·split at h<;>simp at h);·rcases h with h|⟨_,h⟩;(·rw[h];exact e);·exact absurd h a
def acd(hc:Canon x)(h:(⟨6,[],t⟩:Ky)∈iG x):x=jy x.R t x.T:=by rcases hc with⟨k,e⟩|⟨k,e⟩|⟨k,e,_⟩|⟨k,e,_⟩|⟨k,e,_⟩|⟨k,e,a,c,d⟩|⟨k,e,_⟩|⟨k,e,_⟩|⟨k,e,_⟩<;>simp[iG,k]at h;(·split at h<;>simp at h);·rcases h with⟨h,_⟩|h;(·exact absurd h a);·rw[h];exact e
def ad5(hc:Canon x)(h:(⟨8,[],b⟩:Ky)∈iG x):x=Tk b x.R x.lo x.hi:=by rcases hc with⟨k,e⟩|⟨k,e⟩|⟨k,e,_⟩|⟨k,e,_⟩|⟨k,e,_⟩|⟨k,e,_⟩|⟨k,e,_⟩|⟨k,e,_⟩|⟨k,e,_⟩<;>simp[iG,k]at h;(·split at h<;>simp at h);·rw[h];exact e
def abj(hc:Canon x)(h:(⟨9,r,[]⟩:Ky)∈iG x):x=zU r x.lo x.hi x.C:=by rcases hc with⟨k,e⟩|⟨k,e⟩|⟨k,e,_⟩|⟨k,e,_⟩|⟨k,e,_⟩|⟨k,e,_⟩|⟨k,e,_⟩|⟨k,e,_⟩|⟨k,e,_⟩<;>simp[iG,k]at h;(·split at h<;>simp at h);·rw[h];exact e
def Inv.at(h:Inv P most s){k:Ky}(a:x∈jd s.pu k):sQ P x/\k∈iG x:=(h.pu k x).1 (jl.1 a)
def JM(h:jK P f)(a:f.kind=1):f=n_ f.A f.B:=by rcases Fe h with e|e|e;(·exact e);(·rw[e]at a;cases a);·rw[e]at a;cases a
def JN(h:jK P f)(a:f.kind=2):f=N_ f.A f.R f.B:=by rcases Fe h with e|e|e;(·rw[e]at a;cases a);(·exact e);·rw[e]at a;cases a
def F3(h:jK P f)(a:f.kind=3):f=Y_ f.A f.R f.lo f.hi:=by rcases Fe h with e|e|e;(·rw[e]at a;cases a);(·rw[e]at a;cases a);·exact e
end
structure ER(P:List Pc)(most B:Nat)(X:Nat->Prop)(bg:Nat)(w0:W_)(qU:Slot->V_)(s0:ES)(w:W_)(vf:Slot->V_)(s:ES)(Q:Fc->Prop):Prop where
 e:kJ w B X most bg vf s
 t:To P most s0 s Q
 f:∀i,i≠.queue->vf i=qU i
 k:q9 X qU w0 vf w
section
variable{P:List Pc}{most B bg:Nat}{X:Nat->Prop}{w0 w w' w1:W_}{qU vf l7:Slot->V_}{s0 s s':ES}{Q R:Fc->Prop}
def ER.refl(h:kJ w B X most bg vf s)(a:Inv P most s):ER P most B X bg w vf s w vf s (λ_=>False):=⟨h,.refl a,λ_ _=>rfl,.refl _ _ _⟩
def ER.up(h:ER P most B X bg w0 qU s0 w vf s Q)(hb:G w w'):ER P most B X bg w0 qU s0 w' vf s Q:=⟨h.e.up hb,h.t,h.f,h.k.then hb⟩
def ER.drewN(h:ER P most B X bg w0 qU s0 w vf s Q)(n:Nat):ER P most B X bg w0 qU s0 (w.drewN n) vf s Q:=h.up (nJ (fD _ _) _)
def ER.weak(h:ER P most B X bg w0 qU s0 w vf s Q)(a:∀c,R c->Q c):ER P most B X bg w0 qU s0 w vf s R:=⟨h.e,h.t.weak a,h.f,h.k⟩
def ER.trans(h:ER P most B X bg w0 qU s0 w vf s Q)(k:ER P most B X bg w vf s w' l7 s' R):ER P most B X bg w0 qU s0 w' l7 s' (λc=>Q c\/R c):=⟨k.e,h.t.trans k.t,λi hi=>(k.f i hi).trans (h.f i hi),h.k.trans k.k⟩
def ER.base(h:ER P most B X bg w1 qU s0 w vf s Q)(hb:G w0 w1):ER P most B X bg w0 qU s0 w vf s Q:=⟨h.e,h.t,h.f,(q9.of hb).trans h.k⟩
def ER.cell(h:ER P most B X bg w0 qU s0 w vf s Q){b o:Nat}{u:V_}(hc:N w0 b o u)(a:¬Yb X qU b):N w b o u:=h.k.cell hc a
def ER.blk(h:ER P most B X bg w0 qU s0 w vf s Q){b:Nat}{t:T_}{a:Array V_}(hc:f_ w0 b t a)(c:¬Yb X qU b):f_ w b t a:=h.k.blk hc c
def ER.also(h:ER P most B X bg w0 qU s0 w vf s Q){c:Fc}(hc:c∈s.D):ER P most B X bg w0 qU s0 w vf s (λx=>Q x\/x=c):=⟨h.e,⟨h.t.inv,h.t.d,h.t.fm,h.t.fmn,h.t.pu,h.t.lp,h.t.ix,h.t.ab,h.t.un,h.t.fr,h.t.it,h.t.ra,h.t.fi,λx a=>by rcases a with a|a;exact h.t.all x a;exact .inl (by rw[a];exact hc)⟩,h.f,h.k⟩
def ER.emit(h:ER P most B X bg w0 qU s0 w vf s Q)(g:vM P)(i:most<=1000000){c:Fc}(a:jK P c)(j:c.kind=3->pE (·∈s.fm) c.A c.R c.lo c.hi){W:W_}(d:G w W):z 141 #[.agg (vF c),.pointer (some ⟨bg,0,none⟩),.pointer (some ⟨bg+1,0,none⟩),.pointer (some ⟨bg+2,0,none⟩)] W λe w'=>e=.returned (.tuple #[])/\∃l7 s',ER P most B X bg w0 qU s0 w' l7 s' (λx=>Q x\/x=c)/\s'.fm=s.fm:=by refine(Ou c W B X most bg vf s (h.e.up d) (rZ g a) i h.t.inv.len).mono ?_;rintro e w' ⟨rfl,l7,k,l,m⟩;have n:=To.emit (most:=most) h.t.inv a j;have o:ER P most B X bg w vf s w' l7 _ (λx=>x=c):=⟨k,n,m,(q9.of d).trans l⟩;exact⟨rfl,l7,_,h.trans o,rfl⟩
def ER.X3(h:ER P most B X bg w0 qU s0 w vf s Q)(j:vM P)(l:most<=1000000){c:Fc}(d:jK P c)(hc:c=Y_ c.A c.R c.lo c.hi)(n:c∉s.D){w5:W_}(a:w.grownBy w5 (some (B+8)))(H:t_ w5 KF (B+8) (s.fm.length+1) (upd (l9 s.fm) c (some (.bool true)))){W:W_}(i:G w5 W):z 141 #[.agg (vF c),.pointer (some ⟨bg,0,none⟩),.pointer (some ⟨bg+1,0,none⟩),.pointer (some ⟨bg+2,0,none⟩)] W λe w'=>e=.returned (.tuple #[])/\∃l7 s',ER P most B X bg w0 qU s0 w' l7 s' (λx=>Q x\/x=c)/\s'.fm.length=s.fm.length+1:=by have o:=h.e.e.X0 c a H;have I:=h.e.gt;(have k:∀g,X g->g≠B+8->w5.heap[g]?=w.heap[g]? :=λg p K=>a.block _ (h.e.e.xlt _ p).2 (by intro e;injection e with e;omega));have u:kJ w5 B X most bg vf {s with fm:=s.fm++[c]}:=⟨o,(k _ h.e.xx.1 U).trans h.e.g,(k _ h.e.xx.2.1 U).trans h.e.m,(k _ h.e.xx.2.2 U).trans h.e.q,h.e.xx,h.e.gt⟩;refine(Ou c W B X most bg vf _ (u.up i) (rZ j d) l h.t.inv.len).mono ?_;rintro e w' ⟨rfl,l7,v,y,C⟩;have E:=To.afy (most:=most) h.t.inv d hc n;have F:ER P most B X bg w vf s w' l7 _ (λx=>x=c):=⟨v,E,C,q9.trans ⟨(Aw.refl _ _).grown a λ_=> .inl (h.e.e.xb 8 U),λg h=> .inl h⟩ ((q9.of i).trans y)⟩;exact⟨rfl,l7,_,h.trans F,S⟩
def Q8{a b:St}(c:a.length<=100000)(hb:b.length<=100000):SmF (n_ a b):=⟨by simp[n_],c,hb,by simp[n_],by simp[n_],by simp[n_]⟩
def L6(P:List Pc)(most B:Nat)(X:Nat->Prop)(bg:Nat)(w:W_)(vf:Slot->V_)(s:ES)(Q:Fc->Prop)(e:Ending)(w':W_):Prop:=e=.returned (.tuple #[])/\∃l7 s',ER P most B X bg w vf s w' l7 s' Q
def nU(fn:FuncId)(kind:Int)(Q:ES->Fc->Fc->Prop):Prop:=∀(P:List Pc)(most B:Nat)(X:Nat->Prop)(bg:Nat)(w:W_)(vf:Slot->V_)(s:ES)(f:Fc),kJ w B X most bg vf s->Inv P most s->vM P->most<=1000000->s.fm.length<=1000000->f∈s.ix->f.kind=kind-> z fn #[.pointer (some ⟨B+9,0,none⟩),.agg (vF f)] w (L6 P most B X bg w vf s (Q s f))
def ER.pcs(h:ER P most B X bg w0 qU s0 w vf s Q)(k:Ky):Rd w jM 10 (qU (.pc k)) (jd s0.pu k):=by have:=h.e.e.rdP k;rw[h.f _ (by intro e;cases e),h.t.pu]at this;exact this
def ER.lps(h:ER P most B X bg w0 qU s0 w vf s Q):lg w (qU .loops) s0.lp:=by have:=h.e.e.rdL;rw[h.f _ (by intro e;cases e),h.t.lp]at this;exact this
def ER.abs(h:ER P most B X bg w0 qU s0 w vf s Q)(k:St):lg w (qU (.ab k)) (jd s0.ab k):=by have:=h.e.e.rdA k;rw[h.f _ (by intro e;cases e),h.t.ab]at this;exact this
def ER.uns(h:ER P most B X bg w0 qU s0 w vf s Q)(k:St):lg w (qU (.un k)) (jd s0.un k):=by have:=h.e.e.rdU k;rw[h.f _ (by intro e;cases e),h.t.un]at this;exact this
def ER.frs(h:ER P most B X bg w0 qU s0 w vf s Q)(k:Sp):lg w (qU (.fr k)) (jd s0.fr k):=by have:=h.e.e.rdR k;rw[h.f _ (by intro e;cases e),h.t.fr]at this;exact this
def ER.its(h:ER P most B X bg w0 qU s0 w vf s Q)(k:Sp):lg w (qU (.it k)) (jd s0.it k):=by have:=h.e.e.rdI k;rw[h.f _ (by intro e;cases e),h.t.it]at this;exact this
def ER.ras(h:ER P most B X bg w0 qU s0 w vf s Q)(k:Sp):Rd w kg 6 (qU (.ra k)) (jd s0.ra k):=by have:=(h.e.e.rdF k).1;rw[h.f _ (by intro e;cases e),h.t.ra]at this;exact this
def ER.fis(h:ER P most B X bg w0 qU s0 w vf s Q)(k:Sp):Rd w kg 6 (qU (.fi k)) (jd s0.fi k):=by have:=(h.e.e.rdF k).2;rw[h.f _ (by intro e;cases e),h.t.fi]at this;exact this
end
def TA{w:W_}{A:Option Addr}{c:Nat}{l:List Pc}(h:Rd w jM 10 (.slice A l.length c) l){k:Nat}{p:Pc}(d:l[k]?=some p):∃b a,A=some ⟨b,a,none⟩/\b<w.heap.size/\ N w b (a+k*10) p.kind/\N w b (a+k*10+1) p.A/\N w b (a+k*10+2) p.B/\N w b (a+k*10+3) p.C/\ N w b (a+k*10+4) p.R/\N w b (a+k*10+5) p.S/\N w b (a+k*10+6) p.T/\N w b (a+k*10+7) p.lo/\ N w b (a+k*10+8) p.hi/\N w b (a+k*10+9) p.fA:=by obtain⟨o,q,e,_,_,g⟩:=h.form;injection e with i _ _;subst i;obtain⟨b,a,m,hb,hc⟩:=g (by have:=(iR.1 d).1;omega);(have key:∀(j:Nat) z,(jM p)[j]?=some z->N w b (a+k*10+j) z:=λj z n=>hc k p d j z n);exact⟨b,a,m,hb,key 0 _ rfl,key 1 _ rfl,key 2 _ rfl,key 3 _ rfl,key 4 _ rfl,key 5 _ rfl,key 6 _ rfl,key 7 _ rfl,key 8 _ rfl,key 9 _ rfl⟩
def TB(a b:Int)(w:W_):(Builtin.max_ #[3,3] 3 #[a,b]).run prog w=.ok (.int .i64 (max a b)) w:=by simp only[Builtin.max_,go_sem];simp[Builtin.max2];rw[Int.max_def];split<;>split<;>first|rfl|(congr 2;omega)|omega
def L8(a b:Int)(w:W_):(Builtin.min_ #[3,3] 3 #[a,b]).run prog w=.ok (.int .i64 (min a b)) w:=by simp only[Builtin.min_,go_sem];simp[Builtin.min2];rw[Int.min_def];split<;>split<;>first|rfl|(congr 2;omega)|omega
def X4{w:W_}{A:Option Addr}{c:Nat}{l:List Fc}(h:Rd w kg 6 (.slice A l.length c) l){k:Nat}{p:Fc}(d:l[k]?=some p):∃b a,A=some ⟨b,a,none⟩/\b<w.heap.size/\ N w b (a+k*6) p.kind/\N w b (a+k*6+1) p.A/\N w b (a+k*6+2) p.B/\N w b (a+k*6+3) p.R/\ N w b (a+k*6+4) p.lo/\N w b (a+k*6+5) p.hi:=by obtain⟨o,q,e,_,_,g⟩:=h.form;injection e with i _ _;subst i;obtain⟨b,a,m,hb,hc⟩:=g (by have:=(iR.1 d).1;omega);(have key:∀(j:Nat) z,(kg p)[j]?=some z->N w b (a+k*6+j) z:=λj z n=>hc k p d j z n);exact⟨b,a,m,hb,key 0 _ rfl,key 1 _ rfl,key 2 _ rfl,key 3 _ rfl,key 4 _ rfl,key 5 _ rfl⟩
def Da{w:W_}{A:Option Addr}{c:Nat}{l:List St}(h:lg w (.slice A l.length c) l){k:Nat}{s:St}(d:l[k]?=some s):∃b a,A=some ⟨b,a,none⟩/\b<w.heap.size/\N w b (a+k) s:=by obtain⟨m,n,e,_,_,g⟩:=S1.form h;injection e with i _ _;subst i;obtain⟨b,a,j,hb,hc⟩:=g (by have:=(iR.1 d).1;omega);exact⟨b,a,j,hb,hc k s d⟩
def jT{α:Type}{l:List α}{k:Nat}{a:α}(h:l[k]?=some a){C:α->Fc->Prop}{c:Fc}:(∃x∈l.take (k+1),C x c)->(∃x∈l.take k,C x c)\/C a c:=λ⟨x,d,e⟩=>by obtain⟨g,i⟩:=iR.1 h;rw[Ht g,i]at d;rcases gH.1 d with d|d;(·exact .inl ⟨x,d,e⟩);·rw[gy.1 d]at e;exact .inr e
structure C6(W:W_)(b:Nat)(f:Fc)
def F6(W:W_)(b:Nat)(f:Fc):C6 W b f:=⟨⟩
structure C10(W:W_)(b:Nat)(q:Pc)
def MZ(W:W_)(b:Nat)(q:Pc):C10 W b q:=⟨⟩
section
variable{W:W_}{b:Nat}{f:Fc}{q:Pc}
instance:CoeOut (C6 W b f) Prop:=⟨λ_=>N W b 0 f.kind/\N W b 1 f.A/\N W b 2 f.B/\N W b 3 f.R/\N W b 4 f.lo/\N W b 5 f.hi⟩
instance:CoeOut (C10 W b q) Prop:=⟨λ_=>N W b 0 q.kind/\N W b 1 q.A/\N W b 2 q.B/\N W b 3 q.C/\N W b 4 q.R/\N W b 5 q.S/\N W b 6 q.T/\N W b 7 q.lo/\N W b 8 q.hi/\N W b 9 q.fA⟩
end
section
variable{P:List Pc}{most B bg:Nat}{X:Nat->Prop}{w:W_}{vf:Slot->V_}{s:ES}{Q:Fc->Prop}
def Ov{t:T_}{m k v:V_}{A:Option Addr}{n c:Nat}(h:∀W,G w W->(Instr.lookup t m k false).run prog W=.ok v W)(hv:v=.slice A n c):∀nq,(Instr.lookup t m k false).run prog (w.drewN nq)=.ok (.slice A n c) (w.drewN nq):=λnq=>hv ▸ h _ (nJ (fD _ _) nq)
def ER.Zw(h:ER P most B X bg w vf s w vf s Q)(k:Ky)(a:okY k)(kv:V_)(d: .agg (vY k)=kv):∃(l:List Pc)(A:Option Addr)(c:Nat),jd s.pu k=l/\vf (.pc k)=.slice A l.length c/\ (∀nq,(Instr.lookup 217 (.map (some B)) kv false).run prog (w.drewN nq)=.ok (.slice A l.length c) (w.drewN nq))/\N w (B+9) 0 (.map (some B))/\l.length<=m_:=by obtain⟨A,c,hv,g,i,_⟩:=(h.pcs k).form;exact⟨_,A,c,rfl,hv,Ov (λW j=>d ▸ (h.e.up j).e.adV k a) hv,h.e.e.blk.cell 0,gT g i⟩
def ER.lkA(h:ER P most B X bg w vf s w vf s Q)(k:St)(a:k.length<=m_):∃(l:List St)(A:Option Addr)(c:Nat),jd s.ab k=l/\vf (.ab k)=.slice A l.length c/\ (∀nq,(Instr.lookup 220 (.map (some (B+2))) (.string ⟨k.toArray⟩) false).run prog (w.drewN nq)=.ok (.slice A l.length c) (w.drewN nq))/\N w (B+9) 4 (.map (some (B+2)))/\l.length<=m_:=by obtain⟨A,c,hv,d,g,_⟩:=S1.form (h.abs k);exact⟨_,A,c,rfl,hv,Ov (λW i=>(h.e.up i).e.XV k a) hv,h.e.e.blk.cell 4,gT d g⟩
def ER.lkU(h:ER P most B X bg w vf s w vf s Q)(k:St)(a:k.length<=m_):∃(l:List St)(A:Option Addr)(c:Nat),jd s.un k=l/\vf (.un k)=.slice A l.length c/\ (∀nq,(Instr.lookup 220 (.map (some (B+3))) (.string ⟨k.toArray⟩) false).run prog (w.drewN nq)=.ok (.slice A l.length c) (w.drewN nq))/\N w (B+9) 5 (.map (some (B+3)))/\l.length<=m_:=by obtain⟨A,c,hv,d,g,_⟩:=S1.form (h.uns k);exact⟨_,A,c,rfl,hv,Ov (λW i=>(h.e.up i).e.XW k a) hv,h.e.e.blk.cell 5,gT d g⟩
def ER.lkR(h:ER P most B X bg w vf s w vf s Q)(k:Sp)(a:Zq k)(kv:V_)(d: .agg (vS k)=kv):∃(l:List St)(A:Option Addr)(c:Nat),jd s.fr k=l/\vf (.fr k)=.slice A l.length c/\ (∀nq,(Instr.lookup 221 (.map (some (B+4))) kv false).run prog (w.drewN nq)=.ok (.slice A l.length c) (w.drewN nq))/\N w (B+9) 6 (.map (some (B+4)))/\l.length<=m_:=by obtain⟨A,c,hv,g,i,_⟩:=S1.form (h.frs k);exact⟨_,A,c,rfl,hv,Ov (λW j=>d ▸ (h.e.up j).e.adW k a) hv,h.e.e.blk.cell 6,gT g i⟩
def ER.lkI(h:ER P most B X bg w vf s w vf s Q)(k:Sp)(a:Zq k)(kv:V_)(d: .agg (vS k)=kv):∃(l:List St)(A:Option Addr)(c:Nat),jd s.it k=l/\vf (.it k)=.slice A l.length c/\ (∀nq,(Instr.lookup 221 (.map (some (B+5))) kv false).run prog (w.drewN nq)=.ok (.slice A l.length c) (w.drewN nq))/\N w (B+9) 7 (.map (some (B+5)))/\l.length<=m_:=by obtain⟨A,c,hv,g,i,_⟩:=S1.form (h.its k);exact⟨_,A,c,rfl,hv,Ov (λW j=>d ▸ (h.e.up j).e.adX k a) hv,h.e.e.blk.cell 7,gT g i⟩
end
def ER.Iy{d wr:W_}{c vf:Slot->V_}{s0 s:ES}{Q R:Fc->Prop}{P:List Pc}{most B bg:Nat}{X:Nat->Prop}(h:ER P most B X bg d c s0 wr vf s Q)(n:ER P most B X bg d c s0 d c s0 R)(o:vM P)(key:Ky){l:List Pc}{A:Option Addr}{cap:Nat}(hl:jd s0.pu key=l)(hv:c (.pc key)=.slice A l.length cap){k:Nat}{x:Pc}(j:l[k]?=some x):∃b a g i,A=some ⟨b,a,none⟩/\b<wr.heap.size/\wr.alloc (.cells (vP x) 146)=g/\wr.heap.size=i/\ Hid (ER P most B X bg d c s0 g vf s Q)/\Hid (f_ g i 146 (vP x))/\Hid (¬Yb X vf i)/\Hid (sQ P x/\key∈iG x)/\Hid (ZW x)/\ N wr b (a+k*10) x.kind/\N wr b (a+k*10+1) x.A/\N wr b (a+k*10+2) x.B/\N wr b (a+k*10+3) x.C/\N wr b (a+k*10+4) x.R/\N wr b (a+k*10+5) x.S/\N wr b (a+k*10+6) x.T/\N wr b (a+k*10+7) x.lo/\N wr b (a+k*10+8) x.hi/\N wr b (a+k*10+9) x.fA:=by have m:=h.pcs key;rw[hl,hv]at m;obtain⟨b,a,e,hb,r⟩:=TA m j;have hi:=n.t.inv.at (k:=key) (x:=x) (by rw[hl];exact gM j);exact⟨b,a,_,_,e,hb,rfl,rfl,h.up bA,f_.new _ _ _,h.e.e.fresh (fU _),hi,o.sm _ hi.1,r⟩
def kE{n:FuncId}{k:Int}{Q:ES->Fc->Fc->Prop}(h:∀(P:List Pc)(most B:Nat)(X:Nat->Prop)(bg:Nat)(w:W_)(vf:Slot->V_)(s:ES)(f:Fc)(a:W_)(d:Nat),w.alloc (.cells (vF f) 148)=a->w.heap.size=d->Hid (vM P)->Hid (SmF f)->Hid (G w a)-> Hid (ER P most B X bg a vf s a vf s (λ_=>False))->Hid (f_ a d 148 (vF f))->Hid (¬Yb X vf d)->Hid (jK P f)->Hid (f.kind=k)->Hid (Inv P most s)->Hid (f∈s.ix)->most<=1000000->s.fm.length<=1000000-> z n #[.pointer (some ⟨B+9,0,none⟩),.agg (vF f)] w (L6 P most B X bg w vf s (Q s f))):nU n k Q:=by intro P most B X bg w vf s f g c i l o hf m;have j:=c.CO f (c.Bt f hf);exact h P most B X bg w vf s f _ _ rfl rfl i (rZ i j) bA (ER.refl (g.up bA) c) (f_.new _ _ _) (g.e.fresh (fU _)) j m c hf l o
def JO(s:ES)(f c:Fc):Prop:=∃x∈jd s.pu ⟨1,[],f.B⟩,c=n_ f.A x.C
def Q9:nU 204 1 JO:=by
 (refine kE λP most B X a w vf s f I K aJ bc L aK aL u av ag ar ay a7 bd az bg=>?_);unfold vF d_;go_in;go_wp2_with fail;obtain⟨g,a8,bh,hl,hv,aM,aA,aU⟩:=u.o.Zw ⟨1,[],f.B⟩ ⟨(show(Lit.int .i64 1).wf=true by decide),by simp[m_],gT aK.o.b (by simp[m_])⟩ (.agg #[V 1,.string ⟨#[]⟩,f.B]) rfl;simp only[m_]at aU;obtain⟨aB,b1,b2,b3,aC,aD⟩:=H_ (u.o.blk av.o ag.o);go_quiet (fail);have v:ER P most B X a I vf s (I.drewN nq) vf s (λ_=>False):=(u.o.drewN nq);generalize I.drewN nq=y at *;obtain⟨m,aN⟩:∃q,q=vf:=⟨_,rfl⟩;obtain⟨sq,aE⟩:∃q,q=s:=⟨_,rfl⟩;subst aN aE;have aw:=(v.blk av.o ag.o);have ax:=ag;have al:ER P most B X a y m sq y m sq (λ_=>False):=(ER.refl v.e v.t.inv);go_wp2;go_loopw [15] (λi wr=>∃(k:Nat)(aO:Slot->V_)(s1:ES),k<=g.length/\i=.int .i64 (k:Int)/\Hid (ER P most B X a y m sq wr aO s1 (λc=>∃x∈g.take k,c=n_ f.A x.C))) (λi _=>g.length-(intOf i).toNat);exact⟨0,m,sq,gL _,rfl,O (al.weak λc h=>by simp at h)⟩;obtain⟨j,H,ab,a',rfl,T⟩:=hrel;by_cases aP:j<g.length
 ·obtain⟨x,d⟩:=g_ aP
  obtain⟨b,be,n,ah,rfl,hb,aQ,au,o,aX,aY,ac,bf,a0,a1,a2,a3,a4,a5,aF,aG,aH,a9⟩:=T.o.Iy al L.o ⟨1,[],f.B⟩ hl hv d;have r1:(0:Int)<=(j:Int):=U;have ba:(j:Int)<(g.length:Int):=U;have aR:=O d;have aZ:=(o.o.blk aw ax.o);have a6:¬Yb X H K:=(o.o.k.nx aw.lt ax.o);have af:ER P most B X a n H ab n H ab (λ_=>False):=(ER.refl o.o.e o.o.t.inv);go_wp2_with fail;(all_goals clear aQ a0 a1 a2 a3 a4 a5 aF aG aH a9;(try rw[au]);clear au);obtain⟨F,r⟩:=e_ (n_ (f.A) (x.C));(have ai:jK P F:=by rw[<-r];have d:=adZ (L.o.can _ ac.o.1) ac.o.2;have l:=ac.o.1;rw[d]at l;have aj:=ar.o;rw[JM ar.o ay.o]at aj;exact .sub aj l);(have am:Hid (∀W,Y 149 #[f.A,x.C] W (.agg (mJ F))):=O λW=>r ▸ lD (f.A) (x.C) W);(have an:=O λW Z=>af.emit L.o az ai (λh=>by rw[<-r]at h;cases h) (W:=W) Z);(have E:Hid (∀W ao ak Q',ER P most B X a n H ab W ao ak Q'->N W (B+9) 3 (nT a)/\F6 W K f/\MZ W ah x):=O λW ao ak Q' l=>⟨l.e.e.blk.cell 3,H_ (l.blk aZ a6),gZ (l.blk aX.o aY.o)⟩);have aa:=E.o _ _ _ _ af;(have ap:=O λW Z=>E.o W _ _ _ (af.up Z));have p:Hid (G n n.drew):=O (fD _ _).drew;go_wp2
  go_region_held3 (λW=>N W (B+9) 3 (nT a)/\F6 W K f/\MZ W ah x)
   (first|with_reducible exact aa|with_reducible exact s4|with_reducible exact s2|exact aa)
   (first|(go_at_call 141;(with_reducible refine(an.o _ aq).mono ?_);rintro e aS ⟨rfl,aV,aT,ad,_⟩;have s4:=E.o _ _ _ _ ad)|(go_at_call 149;(with_reducible refine(am.o _).mono ?_);rintro e bb ⟨rfl,ae⟩;have s2:=ap.o _ (p.o.trans (ae.mono p.o.size));have aq:=(p.o.trans (ae.mono p.o.size));clear ae)|fail)
  all_goals
   have aI:Hid (ER P most B X a y m sq aS aV aT (λc=>∃x∈g.take (j+1),c=n_ f.A x.C)):=O ((o.o.trans ad).weak λc h=>by
    rcases jT (C:=λx c=>c=n_ f.A x.C) aR.o h with h|h;·exact .inl h
    ·exact .inr (.inr (by rw[<-r];exact h)))
   go_wp2
   go_roundw
   exact⟨j+1,_,_,U,R,aI⟩
   exact M
 ·(obtain rfl:j=g.length:=by omega);have aW:=(v.trans T.o).base aL.o;go_wp2;go_end0;refine⟨rfl,_,_,aW.weak λc h=>?_⟩;obtain⟨x,d,h⟩:=h;rw[hl]at d;exact .inr ⟨x,by rw[jh];exact d,h⟩
def X5(s:ES)(f c:Fc):Prop:=∃x∈jd s.pu ⟨3,[],f.B⟩,c=N_ f.A x.R x.C
def aam:nU 206 1 X5:=by
 (refine kE λP most B X a w vf s f I K aJ bc L aK aL u av ag ar ay a7 bd az bg=>?_);unfold vF d_;go_in;go_wp2_with fail;obtain⟨g,a8,bh,hl,hv,aM,aA,aU⟩:=u.o.Zw ⟨3,[],f.B⟩ ⟨(show(Lit.int .i64 3).wf=true by decide),by simp[m_],gT aK.o.b (by simp[m_])⟩ (.agg #[V 3,.string ⟨#[]⟩,f.B]) rfl;simp only[m_]at aU;obtain⟨aB,b1,b2,b3,aC,aD⟩:=H_ (u.o.blk av.o ag.o);go_quiet (fail);have v:ER P most B X a I vf s (I.drewN nq) vf s (λ_=>False):=(u.o.drewN nq);generalize I.drewN nq=y at *;obtain⟨m,aN⟩:∃q,q=vf:=⟨_,rfl⟩;obtain⟨sq,aE⟩:∃q,q=s:=⟨_,rfl⟩;subst aN aE;have aw:=(v.blk av.o ag.o);have ax:=ag;have al:ER P most B X a y m sq y m sq (λ_=>False):=(ER.refl v.e v.t.inv);go_wp2;go_loopw [15] (λi wr=>∃(k:Nat)(aO:Slot->V_)(s1:ES),k<=g.length/\i=.int .i64 (k:Int)/\Hid (ER P most B X a y m sq wr aO s1 (λc=>∃x∈g.take k,c=N_ f.A x.R x.C))) (λi _=>g.length-(intOf i).toNat);exact⟨0,m,sq,gL _,rfl,O (al.weak λc h=>by simp at h)⟩;obtain⟨j,H,ab,a',rfl,T⟩:=hrel;by_cases aP:j<g.length
 ·obtain⟨x,d⟩:=g_ aP
  obtain⟨b,be,n,ah,rfl,hb,aQ,au,o,aX,aY,ac,bf,a0,a1,a2,a3,a4,a5,aF,aG,aH,a9⟩:=T.o.Iy al L.o ⟨3,[],f.B⟩ hl hv d;have r1:(0:Int)<=(j:Int):=U;have ba:(j:Int)<(g.length:Int):=U;have aR:=O d;have aZ:=(o.o.blk aw ax.o);have a6:¬Yb X H K:=(o.o.k.nx aw.lt ax.o);have af:ER P most B X a n H ab n H ab (λ_=>False):=(ER.refl o.o.e o.o.t.inv);go_wp2_with fail;(all_goals clear aQ a0 a1 a2 a3 a4 a5 aF aG aH a9;(try rw[au]);clear au);obtain⟨F,r⟩:=e_ (N_ (f.A) (x.R) (x.C));(have ai:jK P F:=by rw[<-r];have d:=ad2 (L.o.can _ ac.o.1) ac.o.2;have l:=ac.o.1;rw[d]at l;have aj:=ar.o;rw[JM ar.o ay.o]at aj;exact .some aj l);(have am:Hid (∀W,Y 203 #[f.A,x.R,x.C] W (.agg (mJ F))):=O λW=>r ▸ wS (f.A) (x.R) (x.C) W);(have an:=O λW Z=>af.emit L.o az ai (λh=>by rw[<-r]at h;cases h) (W:=W) Z);(have E:Hid (∀W ao ak Q',ER P most B X a n H ab W ao ak Q'->N W (B+9) 3 (nT a)/\F6 W K f/\MZ W ah x):=O λW ao ak Q' l=>⟨l.e.e.blk.cell 3,H_ (l.blk aZ a6),gZ (l.blk aX.o aY.o)⟩);have aa:=E.o _ _ _ _ af;(have ap:=O λW Z=>E.o W _ _ _ (af.up Z));have p:Hid (G n n.drew):=O (fD _ _).drew;go_wp2
  go_region_held3 (λW=>N W (B+9) 3 (nT a)/\F6 W K f/\MZ W ah x)
   (first|with_reducible exact aa|with_reducible exact s4|with_reducible exact s2|exact aa)
   (first|(go_at_call 141;(with_reducible refine(an.o _ aq).mono ?_);rintro e aS ⟨rfl,aV,aT,ad,_⟩;have s4:=E.o _ _ _ _ ad)|(go_at_call 203;(with_reducible refine(am.o _).mono ?_);rintro e bb ⟨rfl,ae⟩;have s2:=ap.o _ (p.o.trans (ae.mono p.o.size));have aq:=(p.o.trans (ae.mono p.o.size));clear ae)|fail)
  all_goals
   have aI:Hid (ER P most B X a y m sq aS aV aT (λc=>∃x∈g.take (j+1),c=N_ f.A x.R x.C)):=O ((o.o.trans ad).weak λc h=>by
    rcases jT (C:=λx c=>c=N_ f.A x.R x.C) aR.o h with h|h;·exact .inl h
    ·exact .inr (.inr (by rw[<-r];exact h)))
   go_wp2
   go_roundw
   exact⟨j+1,_,_,U,R,aI⟩
   exact M
 ·(obtain rfl:j=g.length:=by omega);have aW:=(v.trans T.o).base aL.o;go_wp2;go_end0;refine⟨rfl,_,_,aW.weak λc h=>?_⟩;obtain⟨x,d,h⟩:=h;rw[hl]at d;exact .inr ⟨x,by rw[jh];exact d,h⟩
def JQ(s:ES)(f c:Fc):Prop:=∃x∈jd s.pu ⟨5,f.R,[]⟩,c=N_ f.A x.T f.B
def Ra:nU 210 2 JQ:=by
 (refine kE λP most B X a w vf s f K L aL be Z aM aN v ax ai av aA a' bf aB bi=>?_);unfold vF d_;go_in;go_wp2_with fail;obtain⟨g,ba,bj,hl,hv,aO,aC,aW⟩:=v.o.Zw ⟨5,f.R,[]⟩ ⟨(show(Lit.int .i64 5).wf=true by decide),gT aM.o.r (by simp[m_]),by simp[m_]⟩ (.agg #[V 5,f.R,.string ⟨#[]⟩]) rfl;simp only[m_]at aW;obtain⟨aD,b1,b2,b3,aE,aF⟩:=H_ (v.o.blk ax.o ai.o);go_quiet (fail);have y:ER P most B X a K vf s (K.drewN nq) vf s (λ_=>False):=(v.o.drewN nq);generalize K.drewN nq=E at *;obtain⟨m,aP⟩:∃q,q=vf:=⟨_,rfl⟩;obtain⟨sq,aG⟩:∃q,q=s:=⟨_,rfl⟩;subst aP aG;have ay:=(y.blk ax.o ai.o);have az:=ai;have an:ER P most B X a E m sq E m sq (λ_=>False):=(ER.refl y.e y.t.inv);go_wp2;go_loopw [15] (λi wr=>∃(k:Nat)(aQ:Slot->V_)(s1:ES),k<=g.length/\i=.int .i64 (k:Int)/\Hid (ER P most B X a E m sq wr aQ s1 (λc=>∃x∈g.take k,c=N_ f.A x.T f.B))) (λi _=>g.length-(intOf i).toNat);exact⟨0,m,sq,gL _,rfl,O (an.weak λc h=>by simp at h)⟩;obtain⟨j,I,ad,bb,rfl,aa⟩:=hrel;by_cases aR:j<g.length
 ·obtain⟨x,d⟩:=g_ aR
  obtain⟨b,bg,n,aj,rfl,hb,aS,aw,o,aZ,a6,ae,bh,a0,a1,a2,a3,a4,a5,aH,aI,aJ,a9⟩:=aa.o.Iy an Z.o ⟨5,f.R,[]⟩ hl hv d;have r1:(0:Int)<=(j:Int):=U;have bc:(j:Int)<(g.length:Int):=U;have aT:=O d;have a7:=(o.o.blk ay az.o);have a8:¬Yb X I L:=(o.o.k.nx ay.lt az.o);have ah:ER P most B X a n I ad n I ad (λ_=>False):=(ER.refl o.o.e o.o.t.inv);go_wp2_with fail;(all_goals clear aS a0 a1 a2 a3 a4 a5 aH aI aJ a9;(try rw[aw]);clear aw);obtain⟨F,u⟩:=e_ (N_ (f.A) (x.T) (f.B));(have ak:jK P F:=by rw[<-u];have d:=ad3 (Z.o.can _ ae.o.1) ae.o.2;have l:=ae.o.1;rw[d]at l;have al:=av.o;rw[JN av.o aA.o]at al;exact .role al l);(have ao:Hid (∀W,Y 203 #[f.A,x.T,f.B] W (.agg (mJ F))):=O λW=>u ▸ wS (f.A) (x.T) (f.B) W);(have ap:=O λW ab=>ah.emit Z.o aB ak (λh=>by rw[<-u]at h;cases h) (W:=W) ab);(have H:Hid (∀W aq am Q',ER P most B X a n I ad W aq am Q'->N W (B+9) 3 (nT a)/\F6 W L f/\MZ W aj x):=O λW aq am Q' l=>⟨l.e.e.blk.cell 3,H_ (l.blk a7 a8),gZ (l.blk aZ.o a6.o)⟩);have ac:=H.o _ _ _ _ ah;(have ar:=O λW ab=>H.o W _ _ _ (ah.up ab));have p:Hid (G n n.drew):=O (fD _ _).drew;go_wp2
  go_region_held3 (λW=>N W (B+9) 3 (nT a)/\F6 W L f/\MZ W aj x)
   (first|with_reducible exact ac|with_reducible exact s4|with_reducible exact s2|exact ac)
   (first|(go_at_call 141;(with_reducible refine(ap.o _ au).mono ?_);rintro e aU ⟨rfl,aX,aV,af,_⟩;have s4:=H.o _ _ _ _ af)|(go_at_call 203;(with_reducible refine(ao.o _).mono ?_);rintro e bd ⟨rfl,ag⟩;have s2:=ar.o _ (p.o.trans (ag.mono p.o.size));have au:=(p.o.trans (ag.mono p.o.size));clear ag)|fail)
  all_goals
   have aK:Hid (ER P most B X a E m sq aU aX aV (λc=>∃x∈g.take (j+1),c=N_ f.A x.T f.B)):=O ((o.o.trans af).weak λc h=>by
    rcases jT (C:=λx c=>c=N_ f.A x.T f.B) aT.o h with h|h;·exact .inl h
    ·exact .inr (.inr (by rw[<-u];exact h)))
   go_wp2
   go_roundw
   exact⟨j+1,_,_,U,R,aK⟩
   exact M
 ·(obtain rfl:j=g.length:=by omega);have aY:=(y.trans aa.o).base aN.o;go_wp2;go_end0;refine⟨rfl,_,_,aY.weak λc h=>?_⟩;obtain⟨x,d,h⟩:=h;rw[hl]at d;exact .inr ⟨x,by rw[jh];exact d,h⟩
def F4(s:ES)(f c:Fc):Prop:=∃x∈jd s.pu ⟨4,[],f.B⟩,∃a∈jd s.it ⟨f.A,x.R⟩,c=n_ a x.C
def Ow:nU 207 1 F4:=by
 (refine kE λP most B X g w vf s f ae aZ bk bO af aM bl T aW aF aU a6 bK bP a7 bQ=>?_);unfold vF d_;go_in;go_wp2_with fail;obtain⟨l,bL,bR,hl,hv,ap,ag,bB⟩:=T.o.Zw ⟨4,[],f.B⟩ ⟨(show(Lit.int .i64 4).wf=true by decide),by simp[m_],gT aM.o.b (by simp[m_])⟩ (.agg #[V 4,.string ⟨#[]⟩,f.B]) rfl;simp only[m_]at bB;have aN:=O hl;have bm:=O hv;obtain⟨ah,b1,b2,b3,ai,aj⟩:=H_ (T.o.blk aW.o aF.o);go_quiet (fail);have Z:ER P most B X g ae vf s (ae.drewN nq) vf s (λ_=>False):=(T.o.drewN nq);generalize ae.drewN nq=aa at *;obtain⟨E,aq⟩:∃q,q=vf:=⟨_,rfl⟩;obtain⟨sq,ak⟩:∃q,q=s:=⟨_,rfl⟩;subst aq ak;have aX:=(Z.blk aW.o aF.o);have aY:=aF;have H:ER P most B X g aa E sq aa E sq (λ_=>False):=(ER.refl Z.e Z.t.inv);go_wp2;go_loopw [17] (λi wr=>∃(k:Nat)(ar:Slot->V_)(s1:ES),k<=l.length/\i=.int .i64 (k:Int)/\Hid (ER P most B X g aa E sq wr ar s1 (λc=>∃x∈l.take k,∃a∈jd sq.it ⟨f.A,x.R⟩,c=n_ a x.C))) (λi _=>l.length-(intOf i).toNat);exact⟨0,E,sq,gL _,rfl,O (H.weak λc h=>by simp at h)⟩;obtain⟨u,ac,au,a8,rfl,j⟩:=hrel;by_cases av:u<l.length
 ·obtain⟨x,d⟩:=g_ av
  obtain⟨b,bn,aw,al,rfl,hb,bo,aV,o,aG,aH,ax,bp,a0,a1,a2,a3,a4,a5,a',ba,bb,a9⟩:=j.o.Iy H af.o ⟨4,[],f.B⟩ aN.o bm.o d;have r1:(0:Int)<=(u:Int):=U;have bc:(u:Int)<(l.length:Int):=U;have bq:=O d;have bI:=(o.o.blk aX aY.o);have bJ:¬Yb X ac aZ:=(o.o.k.nx aX.lt aY.o);have ad:ER P most B X g aw ac au aw ac au (λ_=>False):=(ER.refl o.o.e o.o.t.inv);go_wp2_with fail;(all_goals clear bo a0 a1 a2 a3 a4 a5 a' ba bb a9;(try rw[aV]);clear aV);obtain⟨m,bM,bS,hl,hv,ap,ag,bC⟩:=ad.lkI ⟨f.A,x.R⟩ ⟨gT aM.o.a (by simp[m_]),gT bp.o.r (by simp[m_])⟩ (.agg #[f.A,x.R]) rfl;simp only[m_]at bC;have ay:=O hl;have br:=O hv;obtain⟨ah,b1,b2,b3,ai,aj⟩:=H_ (ad.blk bI bJ);obtain⟨c0,c1,c2,c3,c4,c5,bd,be,bf,bg⟩:=gZ (ad.blk aG.o aH.o);go_quiet (fail);have az:=(o.o.drewN nq);have aA:=(ad.drewN nq);generalize aw.drewN nq=I at *;obtain⟨p,aq⟩:∃q,q=ac:=⟨_,rfl⟩;obtain⟨n,ak⟩:∃q,q=au:=⟨_,rfl⟩;subst aq ak;have bG:=(aA.blk aG.o aH.o);have bH:¬Yb X p al:=(aA.k.nx aG.o.lt aH.o);have bs:ER P most B X g I p n I p n (λ_=>False):=(ER.refl az.e az.t.inv);go_wp2;go_loopw [32] (λi wr=>∃(k:Nat)(ar:Slot->V_)(s1:ES),k<=m.length/\i=.int .i64 (k:Int)/\Hid (ER P most B X g I p n wr ar s1 (λc=>∃a∈m.take k,c=n_ a x.C))) (λi _=>m.length-(intOf i).toNat);exact⟨0,p,n,gL _,rfl,O (bs.weak λc h=>by simp at h)⟩;obtain⟨v,bD,bt,a8,rfl,j⟩:=hrel;by_cases av:v<m.length
  ·obtain⟨a,d⟩:=g_ av
   have aE:=j.o.its ⟨f.A,x.R⟩;rw[ay.o,br.o]at aE;obtain⟨b,bn,rfl,hb,a0⟩:=Da aE d;have r1:(0:Int)<=(v:Int):=U;have bc:(v:Int)<(m.length:Int):=U;have bu:=O d;have aB:=j;obtain⟨aO,bv⟩:∃bh,bh=wr:=⟨_,rfl⟩;subst bv;have bw:a∈jd n.it ⟨f.A,x.R⟩:=(by rw[ay.o];exact gM d);go_wp2_with fail;obtain⟨F,L⟩:=e_ (n_ a (x.C));(have aI:jK P F:=by rw[<-L];have d:=(abh (af.o.can _ ax.o.1) ax.o.2).1;have y:=ax.o.1;rw[d]at y;have aJ:=aU.o;rw[JM aU.o a6.o]at aJ;have aK:=bw;rw[o.o.t.it]at aK;have bi:=H.t.inv.CO _ (H.t.inv.Bt _ ((H.t.inv.it a x.R f.A).1 (jl.1 aK)));exact .fill bi aJ y);(have aP:Hid (∀W,Y 149 #[a,x.C] W (.agg (mJ F))):=O λW=>L ▸ lD a (x.C) W);(have aQ:=O λW am=>aB.o.emit af.o a7 aI (λh=>by rw[<-L]at h;cases h) (W:=W) am);(have ab:Hid (∀W aR aL Q',ER P most B X g I p n W aR aL Q'->N W (B+9) 3 (nT g)/\MZ W al x):=O λW aR aL Q' y=>⟨y.e.e.blk.cell 3,gZ (y.blk bG bH)⟩);have an:=ab.o _ _ _ _ aB.o;(have aS:=O λW am=>ab.o W _ _ _ (aB.o.up am));have K:Hid (G aO aO.drew):=O (fD _ _).drew;go_wp2
   go_region_held3 (λW=>N W (B+9) 3 (nT g)/\MZ W al x)
    (first|with_reducible exact an|with_reducible exact s4|with_reducible exact s2|exact an)
    (first|(go_at_call 141;(with_reducible refine(aQ.o _ aT).mono ?_);rintro e bx ⟨rfl,bE,bz,aC,_⟩;have s4:=ab.o _ _ _ _ aC)|(go_at_call 149;(with_reducible refine(aP.o _).mono ?_);rintro e bN ⟨rfl,aD⟩;have s2:=aS.o _ (K.o.trans (aD.mono K.o.size));have aT:=(K.o.trans (aD.mono K.o.size));clear aD)|fail)
   all_goals
    have ao:Hid (ER P most B X g I p n bx bE bz (λc=>∃a∈m.take (v+1),c=n_ a x.C)):=O (aC.weak λc h=>by
     rcases jT (C:=λa c=>c=n_ a x.C) bu.o h with h|h;·exact .inl h
     ·exact .inr (by rw[<-L];exact h))
    go_wp2
    go_roundw
    exact⟨v+1,_,_,U,R,ao⟩
    exact M
  ·obtain rfl:v=m.length:=by omega
   have ao:Hid (ER P most B X g aa E sq wr bD bt (λc=>∃x∈l.take (u+1),∃a∈jd sq.it ⟨f.A,x.R⟩,c=n_ a x.C)):=O ((az.trans j.o).weak λc h=>by
    rcases jT (C:=λx c=>∃a∈jd sq.it ⟨f.A,x.R⟩,c=n_ a x.C) bq.o h with h|⟨a,bj,h⟩;·exact .inl h
    ·refine .inr ⟨a,?_,h⟩
     have e:=ay.o;rw[o.o.t.it]at e
     rw[jh,<-e];exact bj)
   go_wp2;go_roundw;exact⟨u+1,_,_,U,R,ao⟩;exact M
 ·(obtain rfl:u=l.length:=by omega);have bF:=(Z.trans j.o).base bl.o;go_wp2;go_end0;refine⟨rfl,_,_,bF.weak λc h=>?_⟩;obtain⟨x,d,h⟩:=h;rw[aN.o]at d;exact .inr ⟨x,by rw[jh];exact d,h⟩
def TD(s:ES)(f c:Fc):Prop:=(∃x∈jd s.pu ⟨6,f.R,[]⟩,∃a∈jd s.fr ⟨f.B,x.S⟩,c=N_ f.A x.T a)\/∃x∈jd s.pu ⟨6,[],f.R⟩,∃a∈jd s.it ⟨f.A,x.R⟩,c=N_ a x.T f.B
def X6:nU 211 2 TD:=by
 (refine kE λP most B X g w vf s f bc o b7 cH aw aV b8 aW b0 bJ a6 bU cC cI bV cJ=>?_);unfold vF d_;go_in;go_wp2_with fail;obtain⟨H,cD,cK,hl,hv,ak,I,cn⟩:=aW.o.Zw ⟨6,f.R,[]⟩ ⟨(show(Lit.int .i64 6).wf=true by decide),gT aV.o.r (by simp[m_]),by simp[m_]⟩ (.agg #[V 6,f.R,.string ⟨#[]⟩]) rfl;simp only[m_]at cn;have bW:=O hl;have b9:=O hv;obtain⟨K,b1,b2,b3,L,Z⟩:=H_ (aW.o.blk b0.o bJ.o);go_quiet (fail);have aX:ER P most B X g bc vf s (bc.drewN nq) vf s (λ_=>False):=(aW.o.drewN nq);generalize bc.drewN nq=aY at *;obtain⟨aH,al⟩:∃q,q=vf:=⟨_,rfl⟩;obtain⟨sq,aa⟩:∃q,q=s:=⟨_,rfl⟩;subst al aa;have ba:=(aX.blk b0.o bJ.o);have bb:=bJ;have aI:ER P most B X g aY aH sq aY aH sq (λ_=>False):=(ER.refl aX.e aX.t.inv);go_wp2;go_loopw [21] (λi wr=>∃(k:Nat)(am:Slot->V_)(s1:ES),k<=H.length/\i=.int .i64 (k:Int)/\Hid (ER P most B X g aY aH sq wr am s1 (λc=>∃x∈H.take k,∃a∈jd sq.fr ⟨f.B,x.S⟩,c=N_ f.A x.T a))) (λi _=>H.length-(intOf i).toNat);exact⟨0,aH,sq,gL _,rfl,O (aI.weak λc h=>by simp at h)⟩;obtain⟨ax,E,aA,bd,rfl,j⟩:=hrel;by_cases an:ax<H.length
 ·obtain⟨x,d⟩:=g_ an
  obtain⟨b,bp,bq,ab,rfl,hb,br,aU,ao,bK,bL,ap,bs,a0,a1,a2,a3,a4,a5,be,bf,bg,a9⟩:=j.o.Iy aI aw.o ⟨6,f.R,[]⟩ bW.o b9.o d;have r1:(0:Int)<=(ax:Int):=U;have bh:(ax:Int)<(H.length:Int):=U;have b':=O d;have bM:=(ao.o.blk ba bb.o);have bN:¬Yb X E o:=(ao.o.k.nx ba.lt bb.o);have a7:ER P most B X g bq E aA bq E aA (λ_=>False):=(ER.refl ao.o.e ao.o.t.inv);go_wp2_with fail;(all_goals clear br a0 a1 a2 a3 a4 a5 be bf bg a9;(try rw[aU]);clear aU);obtain⟨ac,cE,cL,hl,hv,ak,I,co⟩:=a7.lkR ⟨f.B,x.S⟩ ⟨gT aV.o.b (by simp[m_]),gT bs.o.s (by simp[m_])⟩ (.agg #[f.B,x.S]) rfl;simp only[m_]at co;have bt:=O hl;have ca:=O hv;obtain⟨K,b1,b2,b3,L,Z⟩:=H_ (a7.blk bM bN);obtain⟨c0,c1,c2,c3,c4,c5,bi,bj,bk,bl⟩:=gZ (a7.blk bK.o bL.o);go_quiet (fail);have bu:=(ao.o.drewN nq);have aJ:=(a7.drewN nq);generalize bq.drewN nq=aK at *;obtain⟨v,al⟩:∃q,q=E:=⟨_,rfl⟩;obtain⟨ad,aa⟩:∃q,q=aA:=⟨_,rfl⟩;subst al aa;have cu:=(aJ.blk bM bN);have cv:¬Yb X v o:=(aJ.k.nx bM.lt bN);have cw:=(aJ.blk bK.o bL.o);have cx:¬Yb X v ab:=(aJ.k.nx bK.o.lt bL.o);have cb:ER P most B X g aK v ad aK v ad (λ_=>False):=(ER.refl bu.e bu.t.inv);go_wp2;go_loopw [36] (λi wr=>∃(k:Nat)(am:Slot->V_)(s1:ES),k<=ac.length/\i=.int .i64 (k:Int)/\Hid (ER P most B X g aK v ad wr am s1 (λc=>∃a∈ac.take k,c=N_ f.A x.T a))) (λi _=>ac.length-(intOf i).toNat);exact⟨0,v,ad,gL _,rfl,O (cb.weak λc h=>by simp at h)⟩;obtain⟨ay,cp,cc,bd,rfl,j⟩:=hrel;by_cases an:ay<ac.length
  ·obtain⟨a,d⟩:=g_ an
   have av:=j.o.frs ⟨f.B,x.S⟩;rw[bt.o,ca.o]at av;obtain⟨b,bp,rfl,hb,a0⟩:=Da av d;have r1:(0:Int)<=(ay:Int):=U;have bh:(ay:Int)<(ac.length:Int):=U;have cd:=O d;have bv:=j;obtain⟨bX,bw⟩:∃bm,bm=wr:=⟨_,rfl⟩;subst bw;have ce:a∈jd ad.fr ⟨f.B,x.S⟩:=(by rw[bt.o];exact gM d);go_wp2_with fail;obtain⟨F,m⟩:=e_ (N_ (f.A) (x.T) a);(have aC:jK P F:=by rw[<-m];have d:=ad4 (aw.o.can _ ap.o.1) ap.o.2;have l:=ap.o.1;rw[d]at l;have aD:=a6.o;rw[JN a6.o bU.o]at aD;have aE:=ce;rw[ao.o.t.fr]at aE;have bn:=aI.t.inv.CO _ (aI.t.inv.Bt _ ((aI.t.inv.fr f.B x.S a).1 (jl.1 aE)));exact .chain aD bn l);(have aL:Hid (∀W,Y 203 #[f.A,x.T,a] W (.agg (mJ F))):=O λW=>m ▸ wS (f.A) (x.T) a W);(have aM:=O λW ae=>bv.o.emit aw.o bV aC (λh=>by rw[<-m]at h;cases h) (W:=W) ae);(have p:Hid (∀W aN aF Q',ER P most B X g aK v ad W aN aF Q'->N W (B+9) 3 (nT g)/\F6 W o f/\MZ W ab x):=O λW aN aF Q' l=>⟨l.e.e.blk.cell 3,H_ (l.blk cu cv),gZ (l.blk cw cx)⟩);have af:=p.o _ _ _ _ bv.o;(have aO:=O λW ae=>p.o W _ _ _ (bv.o.up ae));have n:Hid (G bX bX.drew):=O (fD _ _).drew;have bo:=O m;go_wp2
   go_region_held3 (λW=>N W (B+9) 3 (nT g)/\F6 W o f/\MZ W ab x)
    (first|with_reducible exact af|with_reducible exact s4|with_reducible exact s2|exact af)
    (first|(go_at_call 141;(with_reducible refine(aM.o _ aP).mono ?_);rintro e bx ⟨rfl,bH,bz,aq,_⟩;have s4:=p.o _ _ _ _ aq)|(go_at_call 203;(with_reducible refine(aL.o _).mono ?_);rintro e b6 ⟨rfl,ar⟩;have s2:=aO.o _ (n.o.trans (ar.mono n.o.size));have aP:=(n.o.trans (ar.mono n.o.size));clear ar)|fail)
   all_goals
    have ag:Hid (ER P most B X g aK v ad bx bH bz (λc=>∃a∈ac.take (ay+1),c=N_ f.A x.T a)):=O (aq.weak λc h=>by
     rcases jT (C:=λa c=>c=N_ f.A x.T a) cd.o h with h|h;·exact .inl h
     ·exact .inr (by rw[<-bo.o];exact h))
    go_wp2
    go_roundw
    exact⟨ay+1,_,_,U,R,ag⟩
    exact M
  ·obtain rfl:ay=ac.length:=by omega
   have ag:Hid (ER P most B X g aY aH sq wr cp cc (λc=>∃x∈H.take (ax+1),∃a∈jd sq.fr ⟨f.B,x.S⟩,c=N_ f.A x.T a)):=O ((bu.trans j.o).weak λc h=>by
    rcases jT (C:=λx c=>∃a∈jd sq.fr ⟨f.B,x.S⟩,c=N_ f.A x.T a) b'.o h with h|⟨a,aG,h⟩;·exact .inl h
    ·refine .inr ⟨a,?_,h⟩
     have e:=bt.o;rw[ao.o.t.fr]at e
     rw[jh,<-e];exact aG)
   go_wp2;go_roundw;exact⟨ax+1,_,_,U,R,ag⟩;exact M
 ·obtain rfl:ax=H.length:=by omega
  have cf:=(aX.trans j.o);have bO:=(j.o.blk ba bb.o);have bP:¬Yb X E o:=(j.o.k.nx ba.lt bb.o);have bI:ER P most B X g wr E aA wr E aA (λ_=>False):=(ER.refl j.o.e j.o.t.inv);go_wp2_with fail;obtain⟨ah,cF,cM,hl,hv,ak,I,cq⟩:=bI.Zw ⟨6,[],f.R⟩ ⟨(show(Lit.int .i64 6).wf=true by decide),by simp[m_],gT aV.o.r (by simp[m_])⟩ (.agg #[V 6,.string ⟨#[]⟩,f.R]) rfl;simp only[m_]at cq;have bY:=O hl;have cg:=O hv;obtain⟨K,b1,b2,b3,L,Z⟩:=H_ (bI.blk bO bP);go_quiet (fail);have aQ:=(cf.drewN nq);have bB:=(bI.drewN nq);generalize wr.drewN nq=aZ at *;obtain⟨aB,al⟩:∃q,q=E:=⟨_,rfl⟩;obtain⟨u,aa⟩:∃q,q=aA:=⟨_,rfl⟩;subst al aa;have b4:=(bB.blk bO bP);have b5:¬Yb X aB o:=(bB.k.nx bO.lt bP);have aR:ER P most B X g aZ aB u aZ aB u (λ_=>False):=(ER.refl aQ.e aQ.t.inv);go_wp2;go_loopw [62] (λi wr=>∃(k:Nat)(am:Slot->V_)(s1:ES),k<=ah.length/\i=.int .i64 (k:Int)/\Hid (ER P most B X g aZ aB u wr am s1 (λc=>∃x∈ah.take k,∃a∈jd u.it ⟨f.A,x.R⟩,c=N_ a x.T f.B))) (λi _=>ah.length-(intOf i).toNat);exact⟨0,aB,u,gL _,rfl,O (aR.weak λc h=>by simp at h)⟩;obtain⟨az,a8,bC,bd,rfl,j⟩:=hrel;by_cases an:az<ah.length
  ·obtain⟨x,d⟩:=g_ an
   obtain⟨b,bp,bD,ab,rfl,hb,br,aU,au,bQ,bR,ap,bs,a0,a1,a2,a3,a4,a5,be,bf,bg,a9⟩:=j.o.Iy aR aw.o ⟨6,[],f.R⟩ bY.o cg.o d;have r1:(0:Int)<=(az:Int):=U;have bh:(az:Int)<(ah.length:Int):=U;have ch:=O d;have bS:=(au.o.blk b4 b5);have bT:¬Yb X a8 o:=(au.o.k.nx b4.lt b5);have a':ER P most B X g bD a8 bC bD a8 bC (λ_=>False):=(ER.refl au.o.e au.o.t.inv);go_wp2_with fail;(all_goals clear br a0 a1 a2 a3 a4 a5 be bf bg a9;(try rw[aU]);clear aU);obtain⟨ai,cG,cN,hl,hv,ak,I,cr⟩:=a'.lkI ⟨f.A,x.R⟩ ⟨gT aV.o.a (by simp[m_]),gT bs.o.r (by simp[m_])⟩ (.agg #[f.A,x.R]) rfl;simp only[m_]at cr;have bE:=O hl;have ci:=O hv;obtain⟨K,b1,b2,b3,L,Z⟩:=H_ (a'.blk bS bT);obtain⟨c0,c1,c2,c3,c4,c5,bi,bj,bk,bl⟩:=gZ (a'.blk bQ.o bR.o);go_quiet (fail);have bF:=(au.o.drewN nq);have aS:=(a'.drewN nq);generalize bD.drewN nq=aT at *;obtain⟨y,al⟩:∃q,q=a8:=⟨_,rfl⟩;obtain⟨aj,aa⟩:∃q,q=bC:=⟨_,rfl⟩;subst al aa;have cy:=(aS.blk bS bT);have cz:¬Yb X y o:=(aS.k.nx bS.lt bT);have cA:=(aS.blk bQ.o bR.o);have cB:¬Yb X y ab:=(aS.k.nx bQ.o.lt bR.o);have cj:ER P most B X g aT y aj aT y aj (λ_=>False):=(ER.refl bF.e bF.t.inv);go_wp2;go_loopw [77] (λi wr=>∃(k:Nat)(am:Slot->V_)(s1:ES),k<=ai.length/\i=.int .i64 (k:Int)/\Hid (ER P most B X g aT y aj wr am s1 (λc=>∃a∈ai.take k,c=N_ a x.T f.B))) (λi _=>ai.length-(intOf i).toNat);exact⟨0,y,aj,gL _,rfl,O (cj.weak λc h=>by simp at h)⟩;obtain⟨kv,cs,ck,bd,rfl,j⟩:=hrel;by_cases an:kv<ai.length
   ·obtain⟨a,d⟩:=g_ an
    have av:=j.o.its ⟨f.A,x.R⟩;rw[bE.o,ci.o]at av;obtain⟨b,bp,rfl,hb,a0⟩:=Da av d;have r1:(0:Int)<=(kv:Int):=U;have bh:(kv:Int)<(ai.length:Int):=U;have cl:=O d;have bG:=j;obtain⟨bZ,bw⟩:∃bm,bm=wr:=⟨_,rfl⟩;subst bw;have cm:a∈jd aj.it ⟨f.A,x.R⟩:=(by rw[bE.o];exact gM d);go_wp2_with fail;obtain⟨F,m⟩:=e_ (N_ a (x.T) (f.B));(have aC:jK P F:=by rw[<-m];have d:=acd (aw.o.can _ ap.o.1) ap.o.2;have l:=ap.o.1;rw[d]at l;have aD:=a6.o;rw[JN a6.o bU.o]at aD;have aE:=cm;rw[au.o.t.it]at aE;have bn:=aR.t.inv.CO _ (aR.t.inv.Bt _ ((aR.t.inv.it a x.R f.A).1 (jl.1 aE)));exact .chain bn aD l);(have aL:Hid (∀W,Y 203 #[a,x.T,f.B] W (.agg (mJ F))):=O λW=>m ▸ wS a (x.T) (f.B) W);(have aM:=O λW ae=>bG.o.emit aw.o bV aC (λh=>by rw[<-m]at h;cases h) (W:=W) ae);(have p:Hid (∀W aN aF Q',ER P most B X g aT y aj W aN aF Q'->N W (B+9) 3 (nT g)/\F6 W o f/\MZ W ab x):=O λW aN aF Q' l=>⟨l.e.e.blk.cell 3,H_ (l.blk cy cz),gZ (l.blk cA cB)⟩);have af:=p.o _ _ _ _ bG.o;(have aO:=O λW ae=>p.o W _ _ _ (bG.o.up ae));have n:Hid (G bZ bZ.drew):=O (fD _ _).drew;have bo:=O m;go_wp2
    go_region_held3 (λW=>N W (B+9) 3 (nT g)/\F6 W o f/\MZ W ab x)
     (first|with_reducible exact af|with_reducible exact s4|with_reducible exact s2|exact af)
     (first|(go_at_call 141;(with_reducible refine(aM.o _ aP).mono ?_);rintro e bx ⟨rfl,bH,bz,aq,_⟩;have s4:=p.o _ _ _ _ aq)|(go_at_call 203;(with_reducible refine(aL.o _).mono ?_);rintro e b6 ⟨rfl,ar⟩;have s2:=aO.o _ (n.o.trans (ar.mono n.o.size));have aP:=(n.o.trans (ar.mono n.o.size));clear ar)|fail)
    all_goals
     have ag:Hid (ER P most B X g aT y aj bx bH bz (λc=>∃a∈ai.take (kv+1),c=N_ a x.T f.B)):=O (aq.weak λc h=>by
      rcases jT (C:=λa c=>c=N_ a x.T f.B) cl.o h with h|h;·exact .inl h
      ·exact .inr (by rw[<-bo.o];exact h))
     go_wp2
     go_roundw
     exact⟨kv+1,_,_,U,R,ag⟩
     exact M
   ·obtain rfl:kv=ai.length:=by omega
    have ag:Hid (ER P most B X g aZ aB u wr cs ck (λc=>∃x∈ah.take (az+1),∃a∈jd u.it ⟨f.A,x.R⟩,c=N_ a x.T f.B)):=O ((bF.trans j.o).weak λc h=>by
     rcases jT (C:=λx c=>∃a∈jd u.it ⟨f.A,x.R⟩,c=N_ a x.T f.B) ch.o h with h|⟨a,aG,h⟩;·exact .inl h
     ·refine .inr ⟨a,?_,h⟩
      have e:=bE.o;rw[au.o.t.it]at e
      rw[jh,<-e];exact aG)
    go_wp2;go_roundw;exact⟨az+1,_,_,U,R,ag⟩;exact M
  ·(obtain rfl:az=ah.length:=by omega);have ct:=(aQ.trans j.o).base b8.o;go_wp2;go_end0;refine⟨rfl,_,_,ct.weak λc h=>?_⟩;rcases h with h|h;(·obtain⟨x,d,h⟩:=h;rw[bW.o]at d;exact .inl (.inr ⟨x,by rw[jh];exact d,h⟩));·obtain⟨x,d,a,aG,h⟩:=h;have e:=bY.o;rw[aQ.t.pu]at e;rw[e]at d;refine .inr ⟨x,by rw[jh];exact d,a,?_,h⟩;rw[aQ.t.it];exact aG
def F5(s:ES)(f c:Fc):Prop:=∃a∈jd s.ab f.B,∃x∈jd s.pu ⟨4,f.R,a⟩,c=n_ f.A x.C
def Ox:nU 212 2 F5:=by
 (refine kE λP most B X d w vf s f ak y bo bQ E aU bp ac bb aL aH aO bM bR bg bT=>?_);unfold vF d_;go_in;go_wp2_with fail;obtain⟨l,bN,bU,hl,hv,av,al,bE⟩:=ac.o.lkA f.B (gT aU.o.b (by simp[m_]));simp only[m_]at bE;have aw:=O hl;have bq:=O hv;obtain⟨am,b1,b2,b3,an,ao⟩:=H_ (ac.o.blk bb.o aL.o);go_quiet (fail);have ad:ER P most B X d ak vf s (ak.drewN nq) vf s (λ_=>False):=(ac.o.drewN nq);generalize ak.drewN nq=ae at *;obtain⟨I,ax⟩:∃q,q=vf:=⟨_,rfl⟩;obtain⟨sq,ap⟩:∃q,q=s:=⟨_,rfl⟩;subst ax ap;have bc:=(ad.blk bb.o aL.o);have bd:=aL;have af:ER P most B X d ae I sq ae I sq (λ_=>False):=(ER.refl ad.e ad.t.inv);go_wp2;go_loopw [16] (λi wr=>∃(k:Nat)(ay:Slot->V_)(s1:ES),k<=l.length/\i=.int .i64 (k:Int)/\Hid (ER P most B X d ae I sq wr ay s1 (λc=>∃a∈l.take k,∃x∈jd sq.pu ⟨4,f.R,a⟩,c=n_ f.A x.C))) (λi _=>l.length-(intOf i).toNat);exact⟨0,I,sq,gL _,rfl,O (af.weak λc h=>by simp at h)⟩;obtain⟨n,aj,az,bh,rfl,j⟩:=hrel;by_cases aA:n<l.length
 ·obtain⟨a,g⟩:=g_ aA
  have aI:=j.o.abs f.B;rw[aw.o,bq.o]at aI;obtain⟨b,br,rfl,hb,a0⟩:=Da aI g;have r1:(0:Int)<=(n:Int):=U;have bi:(n:Int)<(l.length:Int):=U;have bs:=O g;have u:=j;obtain⟨aB,bt⟩:∃bj,bj=wr:=⟨_,rfl⟩;subst bt;have bu:a∈jd sq.ab f.B:=(by rw[aw.o];exact gM g);go_wp2_with fail;have aV:jK P (n_ f.B a):=(af.t.inv.CO _ (af.t.inv.Bt _ ((af.t.inv.ab f.B a).1 (jl.1 bu))));have bv:a.length<=100000:=(rZ E.o aV).b;have aM:=(u.o.blk bc bd.o);have aN:¬Yb X aj y:=(u.o.k.nx bc.lt bd.o);have aJ:ER P most B X d aB aj az aB aj az (λ_=>False):=(ER.refl u.o.e u.o.t.inv);obtain⟨m,bO,bV,hl,hv,av,al,bF⟩:=aJ.Zw ⟨4,f.R,a⟩ ⟨(show(Lit.int .i64 4).wf=true by decide),gT aU.o.r (by simp[m_]),gT (bv) (by simp[m_])⟩ (.agg #[V 4,f.R,a]) rfl;simp only[m_]at bF;have aW:=O hl;have bw:=O hv;obtain⟨am,b1,b2,b3,an,ao⟩:=H_ (aJ.blk aM aN);go_quiet (fail);have aC:=(u.o.drewN nq);have aD:=(aJ.drewN nq);generalize aB.drewN nq=ag at *;obtain⟨v,ax⟩:∃q,q=aj:=⟨_,rfl⟩;obtain⟨H,ap⟩:∃q,q=az:=⟨_,rfl⟩;subst ax ap;have be:=(aD.blk aM aN);have bf:¬Yb X v y:=(aD.k.nx aM.lt aN);have aX:ER P most B X d ag v H ag v H (λ_=>False):=(ER.refl aC.e aC.t.inv);go_wp2;go_loopw [30] (λi wr=>∃(k:Nat)(ay:Slot->V_)(s1:ES),k<=m.length/\i=.int .i64 (k:Int)/\Hid (ER P most B X d ag v H wr ay s1 (λc=>∃x∈m.take k,c=n_ f.A x.C))) (λi _=>m.length-(intOf i).toNat);exact⟨0,v,H,gL _,rfl,O (aX.weak λc h=>by simp at h)⟩;obtain⟨o,Z,ah,bh,rfl,j⟩:=hrel;by_cases aA:o<m.length
  ·obtain⟨x,g⟩:=g_ aA
   obtain⟨b,br,K,aP,rfl,hb,bx,ba,L,bI,bJ,aE,bS,a0,a1,a2,a3,a4,a5,bk,bl,bm,a9⟩:=j.o.Iy aX E.o ⟨4,f.R,a⟩ aW.o bw.o g;have r1:(0:Int)<=(o:Int):=U;have bi:(o:Int)<(m.length:Int):=U;have bz:=O g;have bK:=(L.o.blk be bf);have bL:¬Yb X Z y:=(L.o.k.nx be.lt bf);have aK:ER P most B X d K Z ah K Z ah (λ_=>False):=(ER.refl L.o.e L.o.t.inv);go_wp2_with fail;(all_goals clear bx a0 a1 a2 a3 a4 a5 bk bl bm a9;(try rw[ba]);clear ba);obtain⟨F,aa⟩:=e_ (n_ (f.A) (x.C));(have aQ:jK P F:=by rw[<-aa];have aY:=abh (E.o.can _ aE.o.1) aE.o.2;have bn:=Xl E.o aH.o aO.o;have bB:f.R=x.R:=aY.2.resolve_left bn;have p:=aE.o.1;rw[aY.1,<-bB]at p;have aR:=aH.o;rw[JN aH.o aO.o]at aR;exact .fill aR aV p);(have aZ:Hid (∀W,Y 149 #[f.A,x.C] W (.agg (mJ F))):=O λW=>aa ▸ lD (f.A) (x.C) W);(have a6:=O λW aq=>aK.emit E.o bg aQ (λh=>by rw[<-aa]at h;cases h) (W:=W) aq);(have ai:Hid (∀W a7 aS Q',ER P most B X d K Z ah W a7 aS Q'->N W (B+9) 3 (nT d)/\F6 W y f/\MZ W aP x):=O λW a7 aS Q' p=>⟨p.e.e.blk.cell 3,H_ (p.blk bK bL),gZ (p.blk bI.o bJ.o)⟩);have ar:=ai.o _ _ _ _ aK;(have a8:=O λW aq=>ai.o W _ _ _ (aK.up aq));have T:Hid (G K K.drew):=O (fD _ _).drew;go_wp2
   go_region_held3 (λW=>N W (B+9) 3 (nT d)/\F6 W y f/\MZ W aP x)
    (first|with_reducible exact ar|with_reducible exact s4|with_reducible exact s2|exact ar)
    (first|(go_at_call 141;(with_reducible refine(a6.o _ a').mono ?_);rintro e bC ⟨rfl,bG,bD,aF,_⟩;have s4:=ai.o _ _ _ _ aF)|(go_at_call 149;(with_reducible refine(aZ.o _).mono ?_);rintro e bP ⟨rfl,aG⟩;have s2:=a8.o _ (T.o.trans (aG.mono T.o.size));have a':=(T.o.trans (aG.mono T.o.size));clear aG)|fail)
   all_goals
    have au:Hid (ER P most B X d ag v H bC bG bD (λc=>∃x∈m.take (o+1),c=n_ f.A x.C)):=O ((L.o.trans aF).weak λc h=>by
     rcases jT (C:=λx c=>c=n_ f.A x.C) bz.o h with h|h;·exact .inl h
     ·exact .inr (.inr (by rw[<-aa];exact h)))
    go_wp2
    go_roundw
    exact⟨o+1,_,_,U,R,au⟩
    exact M
  ·obtain rfl:o=m.length:=by omega
   have au:Hid (ER P most B X d ae I sq wr Z ah (λc=>∃a∈l.take (n+1),∃x∈jd sq.pu ⟨4,f.R,a⟩,c=n_ f.A x.C)):=O ((aC.trans j.o).weak λc h=>by
    rcases jT (C:=λa c=>∃x∈jd sq.pu ⟨4,f.R,a⟩,c=n_ f.A x.C) bs.o h with h|⟨x,g,h⟩;·exact .inl h
    ·refine .inr ⟨x,?_,h⟩
     have e:=aW.o;rw[u.o.t.pu]at e
     rw[jh,<-e];exact g)
   go_wp2;go_roundw;exact⟨n+1,_,_,U,R,au⟩;exact M
 ·(obtain rfl:n=l.length:=by omega);have bH:=(ad.trans j.o).base bp.o;go_wp2;go_end0;refine⟨rfl,_,_,bH.weak λc h=>?_⟩;obtain⟨a,aT,h⟩:=h;rw[aw.o]at aT;exact .inr ⟨a,by rw[jh];exact aT,h⟩
def Db(s:ES)(f c:Fc):Prop:=f.B=iE/\∃a∈jd s.un f.A,c=n_ a iE
def L9:nU 208 1 Db:=by
 (refine kE λP most B X d w vf s f H aZ aH a6 av aI ak n au aY ar aw a1 a7 ax a'=>?_);unfold vF d_;go_in;obtain⟨I,b1,b2,b3,K,L⟩:=H_ au.o;by_cases o:f.B=iE;rotate_left;(·(have aJ:(f.B==[33])=false:=by rw[KG];exact o);go_wp2;go_end0;exact⟨rfl,_,_,(n.o.base ak.o).weak λc h=>absurd h.1 o⟩);(have aJ:(f.B==[33])=true:=by rw[Uh];exact o);have aK:=O o;clear o;go_wp2_with fail;clear aH;clear I b1 b2 b3 K L;obtain⟨g,a2,ba,hl,hv,aL,ay,aV⟩:=n.o.lkU f.A (gT aI.o.a (by simp[m_]));simp only[m_]at aV;have aa:=O hl;have aM:=O hv;clear hl hv;obtain⟨I,b1,b2,b3,K,L⟩:=H_ (n.o.blk au.o aY.o);go_quiet (fail);have ab:Hid (ER P most B X d H vf s (H.drewN nq) vf s (λ_=>False)):=O (n.o.drewN nq);generalize H.drewN nq=p at *;obtain⟨l,aN⟩:∃q,q=vf:=⟨_,rfl⟩;obtain⟨sq,az⟩:∃q,q=s:=⟨_,rfl⟩;subst aN az;have y:Hid (ER P most B X d p l sq p l sq (λ_=>False)):=O (ER.refl ab.o.e ab.o.t.inv);go_wp2;go_loopw [17] (λi wr=>∃(k:Nat)(aO:Slot->V_)(s1:ES),k<=g.length/\i=.int .i64 (k:Int)/\Hid (ER P most B X d p l sq wr aO s1 (λc=>∃a∈g.take k,c=n_ a iE))) (λi _=>g.length-(intOf i).toNat);exact⟨0,l,sq,gL _,rfl,O (y.o.weak λc h=>by simp at h)⟩;obtain⟨j,bb,a8,a3,rfl,v⟩:=hrel;by_cases aP:j<g.length
 ·obtain⟨a,x⟩:=g_ aP
  have af:=v.o.uns f.A;rw[aa.o,aM.o]at af;obtain⟨b,a9,rfl,hb,a0⟩:=Da af x;have r1:(0:Int)<=(j:Int):=U;have a4:(j:Int)<(g.length:Int):=U;have aQ:=O x;have ac:=v;obtain⟨al,aR⟩:∃aA,aA=wr:=⟨_,rfl⟩;subst aR;have aS:Hid (a∈jd sq.un f.A):=O (by rw[aa.o];exact gM x);go_wp2_with fail;obtain⟨F,m⟩:=e_ (n_ a iE);(have ag:jK P F:=by rw[<-m];have aB:=aS.o;obtain⟨r,aC⟩:=(y.o.t.inv.un f.A a).1 (jl.1 aB);have aD:=y.o.t.inv.CO _ (y.o.t.inv.Bt _ aC);have ah:=ar.o;rw[JM ar.o aw.o,aK.o]at ah;exact .none aD ah);(have am:Hid (∀W,Y 149 #[a,.string ⟨#[33]⟩] W (.agg (mJ F))):=O λW=>m ▸ lD a iE W);(have an:=O λW T=>ac.o.emit av.o ax ag (λh=>by rw[<-m]at h;cases h) (W:=W) T);(have E:Hid (∀W ao ai Q',ER P most B X d p l sq W ao ai Q'->N W (B+9) 3 (nT d)):=O λW ao ai Q' aE=>aE.e.e.blk.cell 3);have Z:=E.o _ _ _ _ ac.o;(have ap:=O λW T=>E.o W _ _ _ (ac.o.up T));have u:Hid (G al al.drew):=O (fD _ _).drew;have aF:=O m;go_wp2
  go_region_held3 (λW=>N W (B+9) 3 (nT d))
   (first|with_reducible exact Z|with_reducible exact s4|with_reducible exact s2|exact Z)
   (first|(go_at_call 141;(with_reducible refine(an.o _ aq.o).mono ?_);rintro e aT ⟨rfl,aW,aU,ad,_⟩;have s4:=E.o _ _ _ _ ad)|(go_at_call 149;(with_reducible refine(am.o _).mono ?_);rintro e a5 ⟨rfl,ae⟩;have s2:=ap.o _ (u.o.trans (ae.mono u.o.size));have aq:=O (u.o.trans (ae.mono u.o.size));clear ae)|fail)
  all_goals
   have aG:Hid (ER P most B X d p l sq aT aW aU (λc=>∃a∈g.take (j+1),c=n_ a iE)):=O (ad.weak λc h=>by
    rcases jT (C:=λa c=>c=n_ a iE) aQ.o h with h|h;·exact .inl h
    ·exact .inr (by rw[<-aF.o];exact h))
   go_wp2
   go_roundw
   exact⟨j+1,_,_,U,R,aG⟩
   exact M
 ·(obtain rfl:j=g.length:=by omega);have aX:=(ab.o.trans v.o).base ak.o;go_wp2;go_end0;refine⟨rfl,_,_,aX.weak λc h=>?_⟩;obtain⟨_,a,aj,h⟩:=h;rw[aa.o]at aj;exact .inr ⟨a,by rw[jh];exact aj,h⟩
end
section
open Go.RowKit Tryz
attribute [local go_sem ↓] Go.wp_at_zero Go.wp_at_succ
def Rb(x:Int×Int):Int:=if x.1< -1099511627776\/x.2< -1099511627776\/1099511627776<x.1\/1099511627776<x.2 then 1 else if x.2<x.1 then 80 else 0
def pW(e:Int)(x:Int×Int):Int:=if e=0 then Rb x else e
def za(l:List (Int×Int)):Int:=l.foldl pW 0
def Az(x y:Int×Int):Bool:=decide (za [x,y]=0/\y.1<=x.1/\x.2<=y.2)
def ad6(x:Int×Int):List V_:=[.int .i64 x.1,.int .i64 x.2]
abbrev ivV(x:Int×Int):V_:= .agg #[x.1,x.2]
abbrev ad7(w:W_)(v:V_)(l:List (Int×Int)):Prop:=Sl w w.heap.size ad6 2 v l
def aan{lo hi:Int}(h:lo< -1099511627776\/hi< -1099511627776\/1099511627776<lo\/1099511627776<hi):1=Rb (lo,hi):=(A_ h).symm
def Rc{lo hi:Int}(h:¬(lo< -1099511627776\/hi< -1099511627776\/1099511627776<lo\/1099511627776<hi))(a:hi<lo):80=Rb (lo,hi):=by unfold Rb;rw[u_ h,A_ a]
def X7{lo hi:Int}(h:¬(lo< -1099511627776\/hi< -1099511627776\/1099511627776<lo\/1099511627776<hi))(a:¬hi<lo):0=Rb (lo,hi):=by unfold Rb;rw[u_ h,u_ a]
def Oy(x:Int×Int)(w:W_):z 318 #[ivV x] w λe w'=>e=.returned (Rb x)/\G w w':=by
 obtain⟨lo,hi⟩:=x;by_cases a:lo<hi;(all_goals by_cases b:hi<lo);(all_goals by_cases c:lo< -1099511627776\/hi< -1099511627776);all_goals by_cases d:1099511627776<lo\/1099511627776<hi
 all_goals first
  |(exfalso;omega)
  |(go_in
    go_wp2
    all_goals
     go_ret
     refine⟨lu ?_,(fD _ _).alloc (fU _) _⟩
     first
      |exact aan U
      |exact Rc U U
      |exact X7 U U
      |(exfalso;omega))
def Iz(e:Int)(x:Int×Int)(w:W_):z 317 #[e,ivV x] w λr w'=>r=.returned (pW e x)/\G w w':=by obtain⟨lo,hi⟩:=x;by_cases h:e=0;(·(have hb:(e !=0)=false:=by simp[h]);have b:pW e (lo,hi)=Rb (lo,hi):=A_ h;have a:=O b;clear h b;go_in;go_wp2_with (go_at_call 318;refine(Oy (lo,hi) _).mono ?_;rintro e w' ⟨rfl,c⟩);go_ret;exact⟨lu a.o.symm,((fD _ _).alloc (fU _) _).trans (c.mono S)⟩);·(have hb:(e !=0)=true:=by simp[h]);have a:=O (show pW e (lo,hi)=e from u_ h);clear h;go_in;go_wp2;go_ret;exact⟨lu a.o.symm,((fD _ _).alloc (fU _) _)⟩
def BO(l:List (Int×Int))(k:Nat)(x:Int×Int)(h:l[k]?=some x):(l.take (k+1)).foldl pW 0=pW ((l.take k).foldl pW 0) x:=by obtain⟨a,rfl⟩:=iR.1 h;rw[Ht a,ac_];rfl
def Ma(v:V_)(l:List (Int×Int))(w:W_)(h:ad7 w v l):z 316 #[v,V 0,.func (.func 317) #[] #[]] w λr w'=>r=.returned (za l)/\G w w':=by obtain⟨A,c,rfl,hc,j,m⟩:=h;unfold m_ at j;go_in;go_wp2;go_loopw [1,11] (λs i wr=>∃k:Nat,k<=l.length/\i=.int .i64 k/\s=.int .i64 ((l.take k).foldl pW 0)/\G w wr) (λ_ i _=>l.length-(intOf i).toNat);exact⟨0,gL _,rfl,rfl,fD _ _⟩;obtain⟨k,t,rfl,rfl,a⟩:=hrel;by_cases o:k<l.length;(·obtain⟨b,g,rfl,hb,f⟩:=m U;obtain⟨x,d⟩:∃x,l[k]?=some x:=⟨l[k],by simp[o]⟩;have c0:N wr b (g+k*2) x.1:=(a.cell hb).trans (f k x d 0 _ rfl);have c1:N wr b (g+k*2+1) x.2:=(a.cell hb).trans (f k x d 1 _ rfl);have n:=(BO l k x d);clear f d;go_wp2_with (go_at_call 317;refine(Iz _ x _).mono ?_;rintro e w' ⟨rfl,p⟩);have q:G w w':=(a.alloc a.size _).trans (p.mono (by have:=a.size;simp;omega));go_roundw;exact⟨k+1,U,R,by rw[n],q⟩;exact M);·go_wp2;go_ret;exact⟨lu (by rw[MU U];rfl),a⟩
def wT(v:V_)(l:List (Int×Int))(w:W_)(h:ad7 w v l):z 295 #[v] w λr w'=>r=.returned (za l)/\G w w':=by go_in;go_wp2_with (go_at_call 316;refine(Ma _ l _ h).mono ?_;rintro e w' ⟨rfl,a⟩);go_ret;exact⟨rfl,a⟩
def abk{α:Type}(w:W_)(n:Nat)(f:n=w.heap.size)(t:T_)(enc:α->List V_)(x y:α)(a b c d:V_)(g:enc x=[a,b])(h:enc y=[c,d]):Sl (w.alloc (.cells #[a,b,c,d] t)) (w.alloc (.cells #[a,b,c,d] t)).heap.size enc 2 (.slice (some ⟨n,0,none⟩) 2 2) [x,y]:=by
 subst f;refine⟨_,2,rfl,fU _,by simp[m_],λ_=>⟨w.heap.size,0,rfl,S,?_⟩⟩;intro i z hi j u e;have hc:∀o,(w.alloc (.cells #[a,b,c,d] t)).cell? ⟨w.heap.size,o,none⟩= #[a,b,c,d][o]? :=ji w _ t;rw[hc]
 match i,hi with
 |0,hi=>
  simp at hi;subst hi;rw[g]at e
  match j,e with
  |0,e=>simpa using e
  |1,e=>simpa using e
  |j+2,e=>simp at e
 |1,hi=>
  simp at hi;subst hi;rw[h]at e
  match j,e with
  |0,e=>simpa using e
  |1,e=>simpa using e
  |j+2,e=>simp at e
 |i+2,hi=>simp at hi
def Rf(x y:Int×Int):za [x,y]=if Rb x=0 then Rb y else Rb x:=by simp[za,pW]
def Mc(x y:Int×Int)(w:W_):z 250 #[ivV x,ivV y] w λr w'=>r=.returned (Az x y)/\G w w':=by obtain⟨a,b⟩:=x;obtain⟨c,d⟩:=y;have h:Hid (Az (a,b) (c,d)=decide (za [(a,b),(c,d)]=0/\c<=a/\b<=d)):=O rfl;generalize Az (a,b) (c,d)=z at *;generalize i:za [(a,b),(c,d)]=k at *;by_cases g:k=0;(·subst g;go_in;go_wp2_with (go_at_call 295;refine(wT _ [(a,b),(c,d)] _ (by exact abk _ _ S _ _ _ _ _ _ _ _ rfl rfl)).mono ?_;rintro e w' ⟨rfl,f⟩;obtain⟨hc,hf⟩:=Ez f;rw[i]);all_goals go_ret;exact⟨fG (by rw[h.o];simp;omega),b_ (L_ (L_ bA _) _) f⟩);·(have j:(k==0)=false:=by simp[g]);go_in;go_wp2_with (go_at_call 295;refine(wT _ [(a,b),(c,d)] _ (by exact abk _ _ S _ _ _ _ _ _ _ _ rfl rfl)).mono ?_;rintro e w' ⟨rfl,f⟩;obtain⟨hc,hf⟩:=Ez f;rw[i]);go_ret;exact⟨fG (by rw[h.o];simp[g]),b_ (L_ (L_ bA _) _) f⟩
end
end Go.Proofs.YtjmbkfjklemmpaaGreatDoor
