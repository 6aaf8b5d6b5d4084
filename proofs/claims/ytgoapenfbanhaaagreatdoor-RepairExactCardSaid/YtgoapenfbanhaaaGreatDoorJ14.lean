import Derived.WideKeyEntry
import Derived.Test.YtgoapenfbanhaaaGreatDoorJ07
import Derived.Test.YtgoapenfbanhaaaGreatDoorJ11
set_option linter.all false
set_option maxRecDepth 100000
set_option maxHeartbeats 32000000
open List renaming length->l_
open Go.RowKit Go.Proofs.Tryz Go.Maps Go.Sort Go.ChangeMaps
open Go renaming World->W_,Value->V_,maxLen->m_,TypeId->T_
namespace Go.Proofs.YtgoapenfbanhaaaGreatDoor
variable{a α:Type}{t:Bool}{c:Fc}{d:List MapEntry}{P:List Pc}{l:List St}{B b g k m n:Nat}{xs:O_}{r s:St}{f:St->Option V_}{F:St->St->Option Bool}{e:T_}{u v':V_}{w:W_}
theorem EZ(h:l[k]?=some s):(l.take (k+1)).count r=(l.take k).count r+if s=r then 1 else 0:=by obtain⟨a,e⟩:=jv.1 h;rw[Fh a,List.count_append,e,List.count_singleton];grind
def Ui(x:Ax)(i:Nat)(E F X:J_)(H I y:Nat)(w:W_)(hi:i<l_ x.H)(Z:jQ w (.slice X (l_ x.H) y) x.H)(hl:l_ x.H<=1000000):Y 111 #[.agg (fZ x E H F I X y),i] w (pW x i):=by
 obtain⟨ax,ay,ai,_,_,J⟩:=S1.form Z;injection ai with aj _ ak;subst aj ak;obtain⟨b,g,rfl,hb,ah⟩:=J U;obtain⟨s,K⟩:=g_ hi;have ac:N w b (g+i) s:=ah i s K;have r1:0<=(i:Int):=U;have az:(i:Int)<l_ x.H:=U
 have A:pW x i=(if s≠x.U then false else(x.H.count x.U==1&&(i==0||i+1==l_ x.H))||(x.H.count x.U==2&&x.H.length==2)):=(by
  unfold pW;have:x.H.getD i []=s:=by rw[R3,K];rfl
  rw[this])
 generalize pW x i=f at *;clear Z J;obtain⟨o,q⟩:∃o,w.alloc (.cells (fZ x E H F I (a_ b g) y) 30)=o:=⟨_,rfl⟩;(have u:f_ o w.heap.size 30 (fZ x E H F I (a_ b g) y):=by rw[<-q];exact f_.new _ _ _);have W:G w o:=(by rw[<-q];exact bA);have ag:N o b (g+i) s:=(W.cell (p:=a_ b (g+i)) hb).trans ac;unfold fZ d_ at q u ⊢;have ao:=K_ u 12 rfl;have ap:=K_ u 13 rfl;have al:=fq ag;have ad:=O u;clear u ac ag;go_in;go_wp2_with (rw[q]);clear q;refine iy k_ k_ ?_;(repeat quiet_step (fail));refine wpQuiet_nil ?_;rintro _ ⟨L,rfl⟩;have d:=(b_ W L.below);have ae:=(bk L.below ad.o);generalize L.at=am at *;clear ao ap al ad W;have aq:=ae.cell 12;have ar:=ae.cell 13;simp at aq ar;by_cases v:s=x.U;(.have z:(s==x.U)=true:=Q v;rw[z];have a:f=((x.H.count x.U==1&&(i==0||i+1==l_ x.H))||(x.H.count x.U==2&&x.H.length==2)):=(by rw[A];simp[v]);clear A;go_wp2;go_loopw [6,23] (λm j wr=>∃k:Nat,k<=l_ x.H/\j=.int .i64 (k:Int)/\m=.int .i64 (((x.H.take k).count x.U:Nat):Int)/\wr=am) (λ_ j _=>l_ x.H-(intOf j).toNat);exact⟨0,gZ _,rfl,S,rfl⟩;obtain⟨k,an,rfl,rfl,rfl⟩:=hrel;by_cases af:k<l_ x.H;(.obtain⟨t,V⟩:=g_ af;have aA:N wr b (g+k) t:=(d.cell (p:=a_ b (g+k)) hb).trans (ah k t V);have l:=EZ (r:=x.U) V;have aB:(x.H.take k).count x.U<=k:=gY List.count_le_length (by simp;omega);have q1:0<=(k:Int):=U;have q2:(k:Int)<l_ x.H:=U;by_cases h:t=x.U;(.have au:(t==x.U)=true:=Q h;rw[P_ h]at l;have P:=O l;clear l h;go_wp2;go_roundw;exact⟨k+1,U,R,by rw[P.o];go_num,trivial⟩;exact M);.have au:(t==x.U)=false:=Q h;rw[C_ h]at l;have P:=O l;clear l h;go_wp2;go_roundw;exact⟨k+1,U,R,by rw[P.o];go_num,trivial⟩;exact M);·(obtain rfl:k=l_ x.H:=by omega);rw[jy];have aC:1<=l_ x.H:=U;generalize x.H.count x.U=n at *;clear K v hb af an;by_cases D:n=1;(.subst D;by_cases e:i=0;(.subst e;have c:f=true:=(by rw[a];simp);clear a;go_wp2;go_ret;exact⟨lC c.symm,d⟩);.have aD:((i:Int)==0)=false:=Q e;by_cases B:i+1=l_ x.H;(.have c:f=true:=(by rw[a];simp[B]);(have av:((i:Int)==(l_ x.H:Int)-1)=true:=by simp;omega);clear a e B;go_wp2;go_ret;exact⟨lC c.symm,d⟩);.have c:f=false:=(by rw[a];simp[B,e]);(have av:((i:Int)==(l_ x.H:Int)-1)=false:=by simp;omega);clear a e B;go_wp2;go_ret;exact⟨lC c.symm,d⟩);.by_cases T:n=2;(.subst T;by_cases C:l_ x.H=2;(.have c:f=true:=(by rw[a];simp[C]);(have aw:((l_ x.H:Int)==2)=true:=by simp;omega);clear a C;go_wp2;go_ret;exact⟨lC c.symm,d⟩);.have c:f=false:=(by rw[a];simp[C]);(have aw:((l_ x.H:Int)==2)=false:=by simp;omega);clear a C;go_wp2;go_ret;exact⟨lC c.symm,d⟩);.have c:f=false:=(by rw[a];simp[D,T]);(have aE:((n:Int)==1)=false:=by simp;omega);(have aF:((n:Int)==2)=false:=by simp;omega);clear a D T;go_wp2;go_ret;exact⟨lC c.symm,d⟩);.have z:(s==x.U)=false:=Q v;rw[z];have a:f=false:=(by rw[A];simp[v]);clear A;go_wp2;go_ret;exact⟨lC a.symm,d⟩
structure Aw(X:Nat->Prop)(w w':W_):Prop where
 os:w'.os=w.os
 tape:w'.tape=w.tape
 output:w'.output=w.output
 size:(w:Nat)<=w'
 block:∀g,g<w.heap.size->¬X g->w'.heap[g]?=w.heap[g]?
section
variable{a:A_}{t:T_}
variable{X Y:Nat->Prop}{w w' w'':W_}
def Aw.refl(X:Nat->Prop)(w:W_):Aw X w w:=⟨rfl,rfl,rfl,gH _,λ_ _ _=>rfl⟩
def Aw.trans(h:Aw X w w')(k:Aw Y w' w'')(c:∀g,g<w.heap.size->Y g->X g):Aw X w w'':=⟨k.os.trans h.os,k.tape.trans h.tape,k.output.trans h.output,gY h.size k.size,λg a b=>(k.block g (qO a h.size) (λd=>b (c g a d))).trans (h.block g a b)⟩
def Aw.mono(h:Aw X w w')(b:∀g,g<w.heap.size->X g->Y g):Aw Y w w':=⟨h.os,h.tape,h.output,h.size,λg a c=>h.block g a λd=>c (b g a d)⟩
def Aw.of(h:Below w w w'):Aw X w w':=⟨h.os,h.tape,h.output,h.size,λg a _=>h.block g a⟩
def Aw.al(h:Aw X w w')(o:Obj):Aw X w (w'.alloc o):=h.trans (Y:=X) (.of (X_ (fu _ _) o)) λ_ _ h=>h
def Aw.then(h:Aw X w w')(k:Below w' w' w''):Aw X w w'':=h.trans (Y:=X) (.of k) λ_ _ h=>h
def Aw.grown(h:Aw X w w')(a:w'.grownBy w'' (some b))(hb:b<w->X b):Aw X w w'':=h.trans (Y:=λg=>g=b) ⟨a.os,a.tape,a.output,a.size,λg c d=>a.block g c (Q d)⟩ λg c e=>by subst e;exact hb c
def Aw.below(h:Aw X w w')(H:B<=w)(a:∀g,g<B->¬X g):Below B w w':=⟨h.os,h.tape,h.output,h.size,λg b=>h.block g U (a g b)⟩
def Aw.blk(h:Aw X w w')(hb:f_ w g t a)(b:¬X g):f_ w' g t a:=(h.block g hb.lt b).trans hb
def Aw.cell(h:Aw X w w'){o:Nat}(H:w.cell? (a_ b o)=some u)(a:¬X b):w'.cell? (a_ b o)=some u:=by have:=h.block b (zK w _ H) a;rw[<-H];simp only[World.cell?,this]
end
noncomputable def KT:KK prog 9 St:=adA underlying9
def GK(R:St->Option Nat):St->Option V_:=λr=>(R r).map λb=> .map (some b)
def XE(f:St->Option Bool):St->Option V_:=λs=>(f s).map .bool
structure M2(w:W_)(base bo n:Nat)(R:St->Option Nat)(F:St->St->Option Bool):Prop where
 lo:base<=bo
 out:h_ w KT bo n (GK R)
 inn:∀r b,R r=some b->base<=b/\b≠bo/\h_ w KT b n (XE (F r))
 inj:∀r s b,R r=some b->R s=some b->r=s
 non:∀r,R r=none->∀s,F r s=none
def Full(R:St->Option Nat)(F:St->St->Option Bool):Prop:=∀r b,R r=some b->∃s,l_ s<=m_/\(F r s).isSome=true
def qz(R:St->Option Nat)(r:St)(b:Nat):St->Option Nat:=λy=>if y=r then some b else R y
section
variable{a:Nat}
variable{w w':W_}{base bo n:Nat}{R:St->Option Nat}{F:St->St->Option Bool}
def M2.up(h:M2 w base bo n R F)(hb:Below w w w'):M2 w' base bo n R F:=⟨h.lo,h.out.up hb,λr b a=>⟨(h.inn r b a).1,(h.inn r b a).2.1,(h.inn r b a).2.2.up hb⟩,h.inj,h.non⟩
def M2.mono(h:M2 w base bo n R F)(c:n<=m):M2 w base bo m R F:=⟨h.lo,h.out.mono c,λr b a=>⟨(h.inn r b a).1,(h.inn r b a).2.1,(h.inn r b a).2.2.mono c⟩,h.inj,h.non⟩
theorem M2.new(h:M2 w base bo n R F)(i:R r=none)(hb:base<=w)(j:h_ w' KT bo (n+1) (upd (GK R) r (some (.map (some w)))))(f:(w.alloc (.map #[] 0)).grownBy w' (some bo)):M2 w' base bo (n+1) (qz R r w) F:=by have m:bo<w:=h.out.lt;refine⟨h.lo,j.congr λx _=>?_,λx b a=>?_,λx y b a c=>?_,λx a=>?_⟩;(.unfold upd GK qz;grind);(.unfold qz at a;by_cases e:x=r;(.rw[P_ e]at a;injection a with a;subst a;refine⟨hb,U,?_⟩;have:=((h_.made w KT).mono (n':=n+1) U).kept f (by grind);exact this.congr λy _=>by unfold XE;rw[e,h.non r i];rfl);.rw[C_ e]at a;obtain⟨k,g,l⟩:=h.inn x b a;exact⟨k,g,((l.alloc _).kept f (by grind)).mono U⟩);(.unfold qz at a c;by_cases e:x=r<;>by_cases d:y=r;(.rw[e,d]);(.rw[P_ e]at a;rw[C_ d]at c;injection a with a;subst a;have:=(h.inn y _ c).2.2.lt;omega);(.rw[C_ e]at a;rw[P_ d]at c;injection c with c;subst c;have:=(h.inn x _ a).2.2.lt;omega);.rw[C_ e]at a;rw[C_ d]at c;exact h.inj x y b a c);.unfold qz at a;by_cases e:x=r;(.grind);.rw[C_ e]at a;exact h.non x a
theorem M2.put(h:M2 w base bo n R F)(d:R r=some a)(i:h_ w' KT a (n+1) (upd (XE (F r)) s (some (.bool ((F r s).getD false||t)))))(g:w.grownBy w' (some a)):M2 w' base bo (n+1) R (xC F r s t):=by obtain⟨m,j,o⟩:=h.inn r a d;refine⟨h.lo,(h.out.kept g (by grind)).mono U,λx b c=>?_,h.inj,λx c y=>?_⟩;(.obtain⟨G,k,g3⟩:=h.inn x b c;refine⟨G,k,?_⟩;by_cases e:x=r;(.subst e;obtain rfl:a=b:=Ch (d.symm.trans c);exact i.congr λy _=>by unfold upd XE xC;grind);·(have l:some b≠some a:=λf=>e (h.inj x r b c (by grind)));exact((g3.kept g l).mono U).congr λy _=>by unfold XE xC;grind);.unfold xC;rw[C_ (by grind)];exact h.non x c y
def M2.look(h:M2 w base bo n R F)(hl:l_ r<=m_):(Instr.lookup 122 (.map (some bo)) (.string ⟨r.toArray⟩) false).run prog w=.ok (.map (R r)) w:=by
 have:=h.out.look (K:=KT) underlying122 (zeroValue169 w) (x:=r) hl;unfold GK at this
 cases a:R r with
 |none=>rwa[a]at this
 |some b=>rwa[a]at this
def M2.aak(h:M2 w base bo n R F)(a:R r=some b)(hl:l_ s<=m_):(Instr.lookup 169 (.map (some b)) (.string ⟨s.toArray⟩) false).run prog w=.ok (.bool ((F r s).getD false)) w:=by
 have:=(h.inn r b a).2.2.look (K:=KT) underlying169 (zeroValue4 w) (x:=s) hl;unfold XE at this
 cases a:F r s with
 |none=>rwa[a]at this
 |some b=>rwa[a]at this
end
def Full.add{R:St->Option Nat}(h:Full R F)(a:l_ s<=m_):Full R (xC F r s t):=λx b c=>by by_cases e:x=r;(.subst e;exact⟨s,a,by unfold xC;simp⟩);.obtain⟨y,d,f⟩:=h x b c;exact⟨y,d,by unfold xC;simp[e,f]⟩
def Full.new{R:St->Option Nat}(h:Full R F)(b:Nat)(c:l_ s<=m_):Full (qz R r b) (xC F r s t):=λx b a=>by by_cases e:x=r;(.subst e;exact⟨s,c,by unfold xC;simp⟩);.unfold qz at a;rw[C_ e]at a;obtain⟨y,d,f⟩:=h x b a;exact⟨y,d,by unfold xC;simp[e,f]⟩
def Nl(r s:St)(t:Bool)(w:W_)(base z n G:Nat)(R:St->Option Nat)(F:St->St->Option Bool)(hb:base<=w)(hc:w.cell? G=some (.map (some z)))(i:M2 w base z n R F)(v:Full R F)(O:G≠z)(Q:∀r,R r≠some G)(I:l_ r<=m_)(j:l_ s<=m_)(aj:n+2<=m_):Calls prog 110 #[d_ r,d_ s,.bool t,.pointer G] w λe w'=>e=.returned (.tuple #[])/\∃K,M2 w' base z (n+2) K (xC F r s t)/\Full K (xC F r s t)/\Aw (λg=>g=z\/∃r,R r=some g) w w'/\∀r b,K r=some b->R r=some b\/w<=b:=by
 unfold d_;have u:=i.look I;(have ak:=λ(m:Option Nat) W=>run_eql_map_nil (P:=prog) W 169 _ _ m underlying169);have am:= @run_makeMap prog
 cases k:R r with
 |none=>
  rw[k]at u;have S:h_ (w.alloc (.map #[] 0)) KT z n (GK R):=(i.out.alloc _);have y:=j_ i;have A:=j_ v;clear i v;go_in;go_wp2_with (at_mapUpdate;refine iI _ rfl _ _ _ 122 rfl 169 KT underlying122 z n _ rfl S ?c1 r I (.map (some w)) rfl rfl ?_);(case c1=>omega);intro B J T;have E:M2 B base z (n+1) (qz R r w) F:=(y.out.new k hb J T);have M:Aw (λg=>g=z\/∃r,R r=some g) w B:=((Aw.refl _ w).al _).grown T (λ_=> .inl rfl);have V:B.cell? G=some (.map (some z)):=M.cell hc (λh=>h.elim O λ⟨r,e⟩=>Q r e);have H:qz R r w r=some w.heap.size:=P_ rfl;have N:=E.look I;rw[H]at N;have o:=E.aak H j;have C:h_ B KT w (n+1) (XE (F r)):=(E.inn r _ H).2.2;(have D:(F r s).getD false=false:=by rw[y.out.non r k s];rfl);have L:(F r s).getD false=false:=D;rw[D]at o;clear D J T u;go_wp2_with (at_mapUpdate;refine iI _ rfl _ _ _ 169 rfl 4 KT underlying169 w (n+1) _ rfl C ?c2 s j (.bool t) rfl rfl ?_);(case c2=>omega);intro d f a;have X:M2 d base z (n+2) (qz R r w) (xC F r s t):=(E.put H (by rwa[L]) a);have Y:=(M.grown a (λh=>absurd h (fr_ _)));clear f a N o V;go_wp2;go_end0;refine⟨rfl,_,X,A.out.new _ j,Y,λx b l=>?_⟩;unfold qz at l;by_cases e:x=r;(.rw[P_ e]at l;injection l with l;exact .inr U);.rw[C_ e]at l;exact .inl l
 |some p=>
  rw[k]at u;have o:=i.aak k j;have C:h_ w KT p n (XE (F r)):=(i.inn r _ k).2.2;have y:=j_ i;have A:=j_ v;clear i v;obtain⟨c,D⟩:=e_ ((F r s).getD false);have L:(F r s).getD false=c:=D;rw[D]at o;clear D;(have Z:∀d,h_ d KT p (n+1) (upd (XE (F r)) s (some (.bool (c||t))))->w.grownBy d (some p)->M2 d base z (n+2) R (xC F r s t)/\Aw (λg=>g=z\/∃r,R r=some g) w d:=λd f a=>⟨(y.out.put k (by rwa[L]) a).mono U,(Aw.refl _ w).grown a (λ_=> .inr ⟨r,k⟩)⟩);cases c;(.go_in;go_wp2_with (at_mapUpdate;refine iI _ rfl _ _ _ 169 rfl 4 KT underlying169 p n _ rfl C ?c2 s j (.bool t) rfl rfl ?_);(case c2=>omega);intro d f a;have q:=Z d f a;clear f a u o;go_wp2;go_end0;exact⟨rfl,_,q.1,A.out.add j,q.2,λ_ _ h=> .inl h⟩);.go_in;go_wp2_with (at_mapUpdate;refine iI _ rfl _ _ _ 169 rfl 4 KT underlying169 p n _ rfl C ?c2 s j (.bool true) rfl rfl ?_);(case c2=>omega);intro d f a;have q:=Z d f a;clear f a u o;go_wp2;go_end0;exact⟨rfl,_,q.1,A.out.add j,q.2,λ_ _ h=> .inl h⟩
structure Qh(f:St->Option V_)(V:List St):Prop where
 nodup:V.Nodup
 inc:V.Pairwise λa b=>leB a b=true
 len:∀x∈V,l_ x<=m_
 mem:∀x,l_ x<=m_->(x∈V↔(f x).isSome=true)
theorem h_.keys(h:h_ w KT b n f):∃D:DataW V_,w.ownsMap prog 9 AX b n D/\Maps.size D<=n/\∀S:List St,S.Perm (strKeys D)->Qh f (S.mergeSort leB)/\l_ (S.mergeSort leB)<=n:=by obtain⟨D,i,r,g,rfl,v⟩:=h;refine⟨.map g,i,i.size_le,λS s=>?_⟩;have⟨E,A,F,_⟩:=i.entries (KT).keyed;obtain rfl:g=E:=Q A;(have l:∀p∈g,∃x:St,l_ x<=m_/\p.1=.string x:=λp s=>by obtain⟨x,j,e⟩:=v p s;exact⟨x,j,e⟩);(have H:(strKeys (.map g)).Nodup:=by show(g.map λp=>strOf p.1).Nodup;refine by_.2 (F.imp_of_mem λ{p q} d I K e=>K ?_);have⟨a,_,k⟩:=l p d;have⟨b,_,hb⟩:=l q I;rw[k,hb]at e ⊢;exact iM _ e);(have u:∀x,x∈strKeys (.map g)↔∃p∈g,p.1=.string x:=λx=>by show x∈g.map (λp=>strOf p.1)↔_;rw[pq];constructor;(.rintro⟨p,d,rfl⟩;have⟨a,_,k⟩:=l p d;exact⟨p,d,by rw[k];rfl⟩);.rintro⟨p,d,e⟩;exact⟨p,d,by rw[e];rfl⟩);have o:=(hu_ S leB).trans s;refine⟨⟨o.nodup_iff.2 H,?_,λx j=>?_,λx j=>?_⟩,?_⟩;(.refine hv_ (λa b c i r=>?_) (λa b=>?_) S;(.simp only[leB,OC]at *;exact List.le_trans i r);.simp only[leB,WB,OC];exact List.le_total a b);(.grind);(.rw[o.mem_iff,u];have C:=(r x j).1;rw[<-C,has_eq,bx_];constructor;(.rintro⟨p,d,e⟩;exact⟨p,d,by rw[e];show Lit.sameKey (.string x) (.string x)=true;simp[Lit.sameKey]⟩);.rintro⟨p,d,t⟩;have⟨a,_,k⟩:=l p d;refine⟨p,d,?_⟩;rw[k]at t ⊢;have L:Lit.sameKey (.string a) (.string x)=true:=t;(have:a=x:=by simpa[Lit.sameKey]using L);grind);.rw[o.length_eq];have:=i.size_le;rw[Go.Maps.size_eq]at this;show(g.map λp=>strOf p.1).length<=n;grind
def XF(a:Option Nat)(W:W_):z 107 #[.map a] W λe w'=>e=.returned (.func (.func 172) #[] #[.pointer W])/\w'=W.alloc (.cells #[.map a] 122):=yY.1 (Tryz.Jl a W)
def Lm(a:Option Nat)(W:W_):z 108 #[.map a] W λe w'=>e=.returned (.func (.func 173) #[] #[.pointer W])/\w'=W.alloc (.cells #[.map a] 169):=yY.1 (Tryz.Jm a W)
def Bl(w:W_)(f:St->Option V_)(n:Nat)(e:Ending)(w':W_):Prop:=∃(v:V_)(V:List St),e=.returned v/\Qh f V/\l_ V<=n/\w'.ownsRow w 9 1 v (l_ V) (V.map d_)/\G w w'
theorem Qi(w:W_)(h:h_ w KT b n f)(i:n*16<=140737488355328):z 106 #[.func (.func 172) #[] #[.pointer w]] (L_ w 122 #[.map (some b)]) (Bl w f n):=by have⟨D,d,j,a⟩:=h.keys;refine(yY.1 (Tryz.qZ b n D AX w d (by unfold m_;omega) U)).mono ?_;rintro e w' ⟨v,s,rfl,c,g,_,hb⟩;refine⟨v,s.mergeSort leB,rfl,(a s c).1,(a s c).2,?_,bA.trans (hb.mono S)⟩;have:=jD g (B':=w) S;rw[(hu_ s leB).length_eq];grind
theorem Ei(w:W_)(h:h_ w KT b n f)(i:n*16<=140737488355328):z 106 #[.func (.func 173) #[] #[.pointer w]] (L_ w 169 #[.map (some b)]) (Bl w f n):=by have⟨D,d,j,a⟩:=h.keys;refine(yY.1 (Tryz.q8 b n D AX w d (by unfold m_;omega) U)).mono ?_;rintro e w' ⟨v,s,rfl,c,g,_,hb⟩;refine⟨v,s.mergeSort leB,rfl,(a s c).1,(a s c).2,?_,bA.trans (hb.mono S)⟩;have:=jD g (B':=w) S;rw[(hu_ s leB).length_eq];grind
theorem XG(V:List St)(y:V.Nodup)(p:V.Pairwise λa b=>leB a b=true)(v:V_)(s:St)(w:W_)(h:jQ w v V)(hl:l_ V<=140737488355328):z 109 #[v,d_ s] w λe w'=>∃i:Nat,e=.returned (.tuple #[i,(decide (s∈V))])/\(s∈V->V[i]?=some s)/\G w w':=by obtain⟨A,c,rfl,J,P,B⟩:=S1.form h;by_cases r:V=[];(.subst r;refine(Any2.slices_BinarySearch_string_empty Tryz.zi A c ⟨s.toArray⟩ w).mono ?_;rintro e w' ⟨rfl,rfl⟩;exact⟨0,S,S,fu _ _⟩);have H:0<l_ V:=ei_.2 r;obtain⟨b,C,rfl,hb,L⟩:=B H;refine(Any2.slices_BinarySearch_string Tryz.zi b C (l_ V) c (λt=>⟨(V.getD t s).toArray⟩) ⟨s.toArray⟩ w U λj u=>?_).mono ?_;(.grind);rintro e w' ⟨rfl,q,rfl⟩;generalize E:Lib.bsGo _ (l_ V) 0 (l_ V)=I;have D:G w (w.drewN q):=oD (fu _ _) q;(have found:(I<l_ V/\(⟨(V.getD I s).toArray⟩:ByteArray)=⟨s.toArray⟩)↔s∈V:=by constructor;(.grind);.intro n;have⟨k,x⟩:=WE n;have⟨m,o⟩:=jv.1 x;(have F:I=k:=by rw[<-E];refine Lib.bsGo_spec _ k (λt l=>?_) (λt l=>?_) _ _ _ U (gZ _) U;(.simp only[Lib.toList_data];rw[Go.Proofs.bytesLess_eq,OC];have g:t<l_ V:=U;rw[R3,r9 g];have d:=R7.1 p t k g m l;have f:=R7.1 y t k g m l;grind);.simp only[Lib.toList_data];rw[Go.Proofs.bytesLess_eq,hk_];by_cases g:t<l_ V;(.rw[R3,r9 g];rcases Nat.eq_or_lt_of_le l with e|K;(.grind);.have d:=R7.1 p k t m g K;grind);grind);grind);grind
section
open Go.Maps (Keyed)
section
variable{t:T_}
variable{P:Program}{k:T_}{κ:Type}{w w':W_}{b n:Nat}{f:κ->Option V_}
theorem XH(h:(d.map (·.key)).Nodup){a c:MapEntry}(j:a∈d)(H:c∈d)(e:a.key=c.key):a=c:=by
 induction d with
 |nil=>cases j
 |cons x l p=>
  rw[Zc,dp_]at h;rcases jL.1 j with m|o;(.grind);.rcases jL.1 H with g|i;(.grind);.exact p h.2 o i
def h_.mY{K:KK P k κ}(h:h_ w K b n f)(a:w'.heap[b]?=w.heap[b]?):h_ w' K b n f:=by obtain⟨D,⟨c,e,hb,r⟩,d⟩:=h;exact⟨D,⟨c,e,a.trans hb,r⟩,d⟩
theorem h_.entry[DecidableEq κ]{K:KK P k κ}(hl:WideMaps.KeyLaw P k)(h:h_ w K b n f)(d:P.underlying t=some (.map k e)){z:V_}(o:∀u:W_,(zeroValue e).run P u=.ok z u)(H:n<m_){x:κ}(g:K.ok x):∃(S:Nat)(i:W_),(Instr.mapEntry t (.map (some b)) (K.kv x)).run P w=.ok (.tuple #[(f x).getD z,goInt S]) i/\w.grownBy i (some b)/\i.heap.size=w/\ ∀(c:W_)(u:V_),c.heap[b]?=i.heap[b]? ->∃p,(Instr.entryStore t (.map (some b)) (goInt S) u).run P c=.ok () p/\h_ p K b (n+1) (upd f x (some u))/\c.grownBy p (some b):=by have I:=h;have B:=h.look d (o w) g;obtain⟨D,⟨L,R,hb,F,ai,aj⟩,ak,al⟩:=h;obtain⟨Y,S,j,m,T,V,Z⟩:=WideElems.entry_then_store hl d o hb F (K.key x g);(have G:Y=(f x).getD z:=by rcases Maps.fit_look false K.keyed d (o w) hb F (K.key x g) with⟨a,q,_⟩|⟨W,y,C,E,a,_⟩;(.grind);.rw[B]at a;injection a with a _;rcases V with⟨A,r,s,rfl⟩|⟨q,_⟩;(.rw[XH F.stamped.2.2 r C (s.trans E.symm)];grind);grind);have X:w.grownBy (setBlock w b (.map j m)) (some b):=World.mapTurned.grown ⟨L,R,j,m,hb,rfl⟩;refine⟨S,_,by rw[T,G],X,by simp[setBlock],λc u J=>?_⟩;have v:c.heap[b]?=some (.map j m):=J.trans (heap_setBlock_same hb _);obtain⟨M,U,N,O⟩:=Z c u v;obtain⟨am,l,Q,an⟩:=I.put d H g u;rw[O]at l;injection l with _ l;subst l;exact⟨_,N,Q.mY ((heap_setBlock_same v _).trans (heap_setBlock_same hb _).symm),World.mapTurned.grown ⟨j,m,M,U,v,rfl⟩⟩
def oL(w:W_)(K:KK P k κ)(b n:Nat)(f:κ->Option V_):Prop:=∃D:DataW V_,w.ownsMap P k AX b n D/\(∀x,K.ok x->(Maps.has D (K.kl x)=(f x).isSome/\∀z,D.atKey (K.kl x) z=match f x with|some u=> .held u|none=>z))/\ (∃e,D=.map e/\∀p∈e,∃x,K.ok x/\p.1=K.kl x)/\Maps.size D=n
def oL.toF{K:KK P k κ}(h:oL w K b n f):h_ w K b n f:=by obtain⟨D,a,c,d,_⟩:=h;exact⟨D,a,c,d⟩
def oL.lt{K:KK P k κ}(h:oL w K b n f):b<w:=h.toF.lt
def oL.made(w:W_)(K:KK P k κ):oL (w.alloc (.map #[] 0)) K w 0 (λ_=>none):=⟨.map [],World.ownsMap_made w P k AX,λ_ _=>⟨rfl,λ_=>rfl⟩,⟨[],rfl,λ_ h=>by cases h⟩,rfl⟩
def oL.mY{K:KK P k κ}(h:oL w K b n f)(a:w'.heap[b]?=w.heap[b]?):oL w' K b n f:=by obtain⟨D,⟨c,e,hb,r⟩,d⟩:=h;exact⟨D,⟨c,e,a.trans hb,r⟩,d⟩
def oL.congr{K:KK P k κ}{g:κ->Option V_}(h:oL w K b n f)(e:∀x,K.ok x->f x=g x):oL w K b n g:=by obtain⟨D,c,d,i⟩:=h;exact⟨D,c,λx a=>by rw[<-e x a];exact d x a,i⟩
theorem oL.put[DecidableEq κ]{K:KK P k κ}(h:oL w K b n f)(r:P.underlying t=some (.map k e))(s:n<m_){x:κ}(a:K.ok x)(H:f x=none)(u:V_):∃w',(Instr.mapUpdate t (.map (some b)) (K.kv x) u).run P w=.ok () w'/\oL w' K b (n+1) (upd f x (some u))/\w.grownBy w' (some b):=by obtain⟨D,l,c,⟨F,rfl,v⟩,A⟩:=h;obtain⟨w',B,C,E⟩:=l.update K.keyed r s (val:=u) (d:= .held u) (ps:=[]) (K.key x a) rfl;refine⟨w',B,⟨_,C,λy g=>?_,⟨_,rfl,λp i=>?_⟩,?_⟩,E⟩;(.have m:=K.keyed.key (K.key x a);unfold upd;by_cases j:y=x;(.subst j;rw[P_ rfl];exact⟨bw_ ⟨_,rfl⟩ m _,λz=>Maps.atKey_put_same ⟨_,rfl⟩ m _ z⟩);.rw[C_ j];(have q:K.kl y≠K.kl x:=λe=>j (K.inj _ _ g a e));exact⟨(Maps.has_put_other q _).trans (c y g).1,λz=>(Maps.atKey_put_other q _ z).trans ((c y g).2 z)⟩);(.rcases mem_insert _ _ _ i with rfl|i;(.grind);grind);.have o:=Maps.size_put (k:=K.kl x) (l.tidy K.keyed) (DataW.held u);grind
def oL.len{K:KK P k κ}(h:oL w K b n f)(c:P.underlying t=some (.map k e))(a:T_):(Builtin.len_ #[t] a #[.map (some b)]).run P w=.ok (.int .i64 n) w:=by obtain⟨D,d,_,_,g⟩:=h;rw[d.len c a,g]
end
variable{c:O_}
def lq(vf:a->V_)(g:a->List α):a->Option V_:=λr=>match g r with|[]=>none|_=>some (vf r)
section
variable{ι:Type}{w w':W_}{X:Nat->Prop}{base:Nat}{e k:ι->Nat}{vf:ι->V_}{C:ι->List O_}
structure RF(w:W_)(X:Nat->Prop)(base:Nat)(e k:ι->Nat)(vf:ι->V_)(C:ι->List (List V_)):Prop where
 own:∀i,w.ownsRow base (e i) (k i) (vf i) (l_ (C i)) (C i).flatten
 ap:∀i j,i≠j->(vf i).ownBlock=none\/(vf i).ownBlock≠(vf j).ownBlock
 nil:∀i,C i=[]->vf i=.slice none 0 0
 fx:∀i g,(vf i).ownBlock=some g->¬X g
def iE[DecidableEq ι](f:ι->α)(i:ι)(a:α):ι->α:=λj=>if j=i then a else f j
theorem l6[DecidableEq ι](f:ι->α)(i:ι)(a:α):iE f i a i=a:=by unfold iE;grind
theorem ku[DecidableEq ι](f:ι->α){i j:ι}(a:α)(h:j≠i):iE f i a j=f j:=by unfold iE;grind
def RF.begin(w:W_)(X:Nat->Prop)(base:Nat)(e k:ι->Nat):RF w X base e k (λ_=> .slice none 0 0) (λ_=>[]):=⟨λ_=>Ce _ _ _ _,λ_ _ _=> .inl rfl,λ_ _=>rfl,λ_ _ h=>by cases h⟩
def RF.lt(h:RF w X base e k vf C){i:ι}(a:(vf i).ownBlock=some g):base<=g/\g<w:=(h.own i).lt g a
theorem RF.at(h:RF w X base e k vf C)(hb:∀i g,(vf i).ownBlock=some g->w'.heap[g]?=w.heap[g]?):RF w' X base e k vf C:=by refine⟨λi=>?_,h.ap,h.nil,h.fx⟩;refine⟨(h.own i).1,?_⟩;rcases(h.own i).2 with a|⟨g,c,l,a,d,j,r⟩;(.grind);.exact .inr ⟨g,c,l,a,d,(hb i g (by rw[a];rfl)).trans j,r⟩
def RF.kept(h:RF w X base e k vf C)(a:w.grownBy w' (some b))(hb:X b):RF w' X base e k vf C:=h.at λi g hi=>a.block g (h.lt hi).2 λe=>by injection e with e;subst e;exact h.fx i _ hi hb
def RF.up(h:RF w X base e k vf C)(hb:G w w'):RF w' X base e k vf C:=h.at λ_ g hi=>hb.block g (h.lt hi).2
def RF.more{Y:Nat->Prop}(h:RF w X base e k vf C)(a:∀i g,(vf i).ownBlock=some g->¬Y g):RF w Y base e k vf C:=⟨h.own,h.ap,h.nil,a⟩
theorem RF.add[DecidableEq ι](h:RF w X base e k vf C){i:ι}(A:w'.ownsRow base (e i) (k i) v' n xs)(s:n=l_ (C i)+1)(u:xs=(C i).flatten++c)(q:w.grownBy w' (vf i).ownBlock)(r:v'.ownBlock=(vf i).ownBlock\/v'.ownBlock=some w)(t:∀g,X g->g<w):RF w' X base e k (iE vf i v') (iE C i (C i++[c])):=by subst s u;(have L:∀x g,(vf x).ownBlock=some g->g<w:=λx g q=>(h.lt q).2);refine⟨λj=>?_,λx y p=>?_,λx d=>?_,λx g d=>?_⟩;(.by_cases a:j=i;(.subst a;rw[l6,l6];grind);.rw[ku _ _ a,ku _ _ a];exact(h.own j).kept q (h.ap j i a));(.by_cases a:x=i<;>by_cases o:y=i;(.grind);(.subst a;rw[l6,ku _ _ o];rcases r with l|l;(.rw[l];exact h.ap x y p);grind);(.subst o;rw[l6,ku _ _ a];rcases r with l|l;(.rw[l];exact h.ap x y p);grind);.rw[ku _ _ a,ku _ _ o];exact h.ap x y p);(.by_cases a:x=i;(.subst a;rw[l6]at d;simp at d);.rw[ku _ _ a]at d ⊢;exact h.nil x d);.by_cases a:x=i;(.subst a;rw[l6]at d;rcases r with l|l;(.rw[l]at d;exact h.fx x g d);grind);.rw[ku _ _ a]at d;exact h.fx x g d
end
end
def jC[DecidableEq a](l:List (a×α))(k:a):List α:=l.filterMap λq=>if q.1=k then some q.2 else none
theorem jN{c:Type}[DecidableEq c]{l:List (c×α)}{k:c}{a:α}:a∈jC l k↔(k,a)∈l:=by unfold jC;grind
theorem GN{c:Type}[DecidableEq c](l:List (c×α))(b:c)(a:α):jC (l++[(b,a)])=iE (jC l) b (jC l b++[a]):=by funext k;unfold jC iE;grind
def sQ[DecidableEq a](l:List (a×α))(k:a):l_ (jC l k)<=l_ l:=fk_ _ _
def iY(x:Pc):List Ky:=
 if x.K=1\/x.K=3\/x.K=8 then[⟨x.K,[],x.A⟩]
 else if x.K=2 then(if x.B≠x.A then[⟨2,[],x.A⟩,⟨2,[],x.B⟩] else[⟨2,[],x.A⟩])
 else if x.K=4 then[⟨4,[],x.A⟩,⟨4,x.R,x.A⟩]
 else if x.K=5\/x.K=9 then[⟨x.K,x.R,[]⟩]
 else if x.K=6 then[⟨6,x.R,[]⟩,⟨6,[],x.S⟩] else[]
def Canon(x:Pc):Prop:=
 (x.K=1/\x=kF x.A x.C)\/(x.K=2/\x=wP x.A x.B x.C)\/(x.K=3/\x=mE x.A x.R x.C/\x.R≠[])\/(x.K=4/\x=og x.R x.A x.C/\x.R≠[])\/(x.K=5/\x=sK x.R x.T/\x.R≠[]/\x.T≠[])\/
 (x.K=6/\x=jV x.R x.S x.T/\x.R≠[]/\x.S≠[]/\x.T≠[])\/(x.K=7/\x=qc x.R/\x.R≠[])\/(x.K=8/\x=Vy x.A x.R x.lo x.hi/\x.R≠[])\/(x.K=9/\x=AQ x.R x.lo x.hi x.C/\x.R≠[])
structure SmF(f:Fc):Prop where
 k:1<=f.K/\f.K<=3
 a:l_ f.A<=100000
 b:l_ f.B<=100000
 r:l_ f.R<=100000
 lo: -1099511627776<=f.lo/\f.lo<=1099511627776
 hi: -1099511627776<=f.hi/\f.hi<=1099511627776
structure SmQ(p:Pc):Prop where
 a:l_ p.A<=100000
 b:l_ p.B<=100000
 c:l_ p.C<=100000
 r:l_ p.R<=100000
 s:l_ p.S<=100000
 t:l_ p.T<=100000
 lo: -1099511627776<=p.lo/\p.lo<=1099511627776
 hi: -1099511627776<=p.hi/\p.hi<=1099511627776
structure wR(P:List Pc):Prop where
 can:∀x,uq P x->Canon x
 sm:∀x,uq P x->SmQ x
 rng:∀x,uq P x->x.K=8\/x.K=9->x.lo<=x.hi
section
variable{f:Fc}
variable{P:List Pc}
def aal(b:wR P)(h:kC P f):f.K=2->f.R≠[]:=by
 have k:∀{x:Pc},uq P x->Canon x:=λh=>b.can _ h
 induction h with
 |refl _=>intro h;cases h
 |top _=>intro h;cases h
 |loop _ a=>intro _;have:=k a;simp[Canon,qc]at this;exact this
 |sub _ _ _=>intro h;cases h
 |both _ _ _ _ _=>intro h;cases h
 |some _ a _=>intro _;have:=k a;simp[Canon,mE]at this;exact this
 |U _ a _=>intro _;have:=k a;simp[Canon,sK]at this;exact this.2
 |chain _ _ c _ _=>intro _;have:=k c;simp[Canon,jV]at this;exact this.2.2
 |fill _ _ _ _ _=>intro h;cases h
 |none _ _ _ _=>intro h;cases h
 |value _ _ _=>intro h;cases h
 |meet _ _ _ _ _=>intro h;cases h
 |apart _ _ _ _ _=>intro h;cases h
 |out _ _ _ _ _=>intro h;cases h
def GQ(h:kC P f):f=t_ f.A f.B\/f=fC f.A f.R f.B\/f=fG f.A f.R f.lo f.hi:=by cases h<;>first|exact .inl rfl|exact .inr (.inl rfl)|exact .inr (.inr rfl)
def Nn(e:wR P)(h:mF P s):l_ s<=100000:=by rcases h with rfl|rfl|⟨_,x,f,h⟩;(.decide);(.decide);.have d:=e.sm _ ⟨x,f,rfl⟩;rcases h with rfl|rfl|rfl;(.exact d.a);(.exact d.b);.exact d.c
def tQ(e:wR P)(h:kC P f):SmF f:=by
 (have K:∀{x:Pc},uq P x->SmQ x:=λh=>e.sm _ h);have z:(-1099511627776:Int)<=0/\(0:Int)<=1099511627776:=U;have n:l_ ([]:St)<=100000:=S;have t:l_ jI<=100000:=D;have k:l_ iR<=100000:=D
 induction h with
 |refl h=>have:=Nn e h;exact⟨by simp[t_],this,this,n,z,z⟩
 |top h=>have:=Nn e h;exact⟨by simp[t_],this,t,n,z,z⟩
 |loop h d=>have:=Nn e h;exact⟨by simp[fC],this,this,(K d).r,z,z⟩
 |sub _ d i=>exact⟨by simp[t_],i.a,(K d).c,n,z,z⟩
 |both _ _ h i _=>exact⟨by simp[t_],i.a,(K h).c,n,z,z⟩
 |some _ h i=>exact⟨by simp[fC],i.a,(K h).c,(K h).r,z,z⟩
 |U _ h i=>exact⟨by simp[fC],i.a,i.b,(K h).t,z,z⟩
 |chain _ _ h i j=>exact⟨by simp[fC],i.a,j.b,(K h).t,z,z⟩
 |fill _ _ h i j=>exact⟨by simp[t_],i.a,(K h).c,n,z,z⟩
 |none _ _ i _=>exact⟨by simp[t_],i.a,k,n,z,z⟩
 |value _ h i=>exact⟨by simp[fG],i.a,n,(K h).r,(K h).lo,(K h).hi⟩
 |meet _ _ _ i j=>
  refine⟨by simp[fG],i.a,n,i.r,?_,?_⟩;(.have g:=i.lo;have d:=j.lo;simp only[fG]at g d ⊢;omega);.have g:=i.hi;have d:=j.hi;simp only[fG]at g d ⊢;omega
 |apart _ _ _ i _=>exact⟨by simp[t_],i.a,k,n,z,z⟩
 |out _ h _ _ i=>exact⟨by simp[t_],i.a,(K h).c,n,z,z⟩
def aei(a:wR P)(h:kC P f):f.K=3->f.lo<=f.hi:=by
 cases h with
 |value _ b=>intro _;exact a.rng _ b (.inl rfl)
 |meet _ _ h=>intro _;exact h
 |refl _=>intro h;cases h
 |top _=>intro h;cases h
 |loop _ _=>intro h;cases h
 |sub _ _=>intro h;cases h
 |both _ _ _=>intro h;cases h
 |some _ _=>intro h;cases h
 |U _ _=>intro h;cases h
 |chain _ _ _=>intro h;cases h
 |fill _ _ _=>intro h;cases h
 |none _ _=>intro h;cases h
 |apart _ _ _=>intro h;cases h
 |out _ _ _ _=>intro h;cases h
end
inductive qG(F:Fc->Prop)(a r:St):Int->Int->Prop
 |one {l h:Int}:F (fG a r l h)->qG F a r l h
 |meet {l h l' h':Int}:qG F a r l h->F (fG a r l' h')->max l l'<=min h h'->qG F a r (max l l') (min h h')
def qG.mono{F G:Fc->Prop}{a:St}{l h:Int}(hi:qG F a r l h)(b:∀f,F f->G f):qG G a r l h:=by
 induction hi with
 |one c=>exact .one (b _ c)
 |meet _ d e g=>exact .meet g (b _ d) e
structure ES where
 pu:List (Ky×Pc)
 lp:List St
 D:List Fc
 fm:List Fc
 ix:List Fc
 ab:List (St×St)
 un:List (St×St)
 fr:List (Sp×St)
 it:List (Sp×St)
 ra:List (Sp×Fc)
 fi:List (Sp×Fc)
structure Inv(P:List Pc)(most:Nat)(s:ES):Prop where
 pu:∀k x,(k,x)∈s.pu↔uq P x/\k∈iY x
 lp:∀r,r∈s.lp↔uq P (qc r)
 nd:s.D.Nodup
 Ej:∀f∈s.D,kC P f
 len:l_ s.D<=most+1
 Dl:∀f∈s.ix,f∈s.D
 ab:∀a b,(a,b)∈s.ab↔t_ a b∈s.ix
 un:∀b a,(b,a)∈s.un↔∃r,fC a r b∈s.ix
 fr:∀a r b,(⟨a,r⟩,b)∈s.fr↔fC a r b∈s.ix
 it:∀a r b,(⟨b,r⟩,a)∈s.it↔fC a r b∈s.ix
 ra:∀p x,(p,x)∈s.ra↔x∈s.ix/\x=fG p.atom p.U x.lo x.hi
 fi:∀p x,(p,x)∈s.fi↔(x∈s.ix/\x=fG p.atom p.U x.lo x.hi)/\x∈s.fm
 fm:∀x∈s.fm,x∈s.D\/most<l_ s.D
 fmd:∀x∈s.fm,kC P x
 is:∀x∈s.D,x.K=3->qG (·∈s.fm) x.A x.R x.lo x.hi
 fmb:l_ s.D<=most->l_ s.fm<=l_ s.D
 pul:l_ s.pu<=1000000
 ln:l_ s.ix<=l_ s.D/\l_ s.ab<=l_ s.ix/\l_ s.un<=l_ s.ix/\l_ s.fr<=l_ s.ix/\l_ s.it<=l_ s.ix/\l_ s.ra<=l_ s.ix/\l_ s.fi<=l_ s.ix
structure To(P:List Pc)(most:Nat)(s s':ES)(Q:Fc->Prop):Prop where
 inv:Inv P most s'
 d:∃t,s'.D=s.D++t
 fm:∃t,s'.fm=s.fm++t
 fmn:∀x∈s.D,x∈s'.fm->x∈s.fm
 pu:s'.pu=s.pu
 lp:s'.lp=s.lp
 ix:s'.ix=s.ix
 ab:s'.ab=s.ab
 un:s'.un=s.un
 fr:s'.fr=s.fr
 it:s'.it=s.it
 ra:s'.ra=s.ra
 fi:s'.fi=s.fi
 all:∀c,Q c->c∈s'.D\/most<l_ s'.D
section
variable{P:List Pc}{most:Nat}{s s' s'':ES}{Q R:Fc->Prop}
def To.refl(h:Inv P most s):To P most s s (λ_=>False):=⟨h,⟨[],S⟩,⟨[],S⟩,λ_ _ h=>h,rfl,rfl,rfl,rfl,rfl,rfl,rfl,rfl,rfl,λ_ h=>h.elim⟩
theorem To.mem(h:To P most s s' Q)(H:c∈s.D):c∈s'.D:=by obtain⟨t,e⟩:=h.d;grind
theorem To.le(h:To P most s s' Q):l_ s.D<=l_ s'.D:=by obtain⟨t,e⟩:=h.d;grind
theorem To.trans(h:To P most s s' Q)(k:To P most s' s'' R):To P most s s'' (λc=>Q c\/R c):=by refine⟨k.inv,?_,?_,λx f g=>h.fmn x f (k.fmn x (h.mem f) g),k.pu.trans h.pu,k.lp.trans h.lp,k.ix.trans h.ix,k.ab.trans h.ab,k.un.trans h.un,k.fr.trans h.fr,k.it.trans h.it,k.ra.trans h.ra,k.fi.trans h.fi,λc hc=>?_⟩;(.obtain⟨t,e⟩:=h.d;obtain⟨u,a⟩:=k.d;grind);(.obtain⟨t,e⟩:=h.fm;obtain⟨u,a⟩:=k.fm;grind);.rcases hc with hc|hc;(.rcases h.all c hc with b|b;(.exact .inl (k.mem b));.exact .inr (qO b k.le));.exact k.all c hc
def To.weak(h:To P most s s' Q)(a:∀c,R c->Q c):To P most s s' R:=⟨h.inv,h.d,h.fm,h.fmn,h.pu,h.lp,h.ix,h.ab,h.un,h.fr,h.it,h.ra,h.fi,λc H=>h.all c (a c H)⟩
def jw(most:Nat)(D:List Fc)(c:Fc):List Fc:=if l_ D<=most/\c∉D then D++[c] else D
theorem Dm(D:List Fc)(c:Fc):c∈jw most D c\/most<l_ (jw most D c):=by unfold jw;grind
theorem To.emit(h:Inv P most s)(q:kC P c)(n:c.K=3->qG (·∈s.fm) c.A c.R c.lo c.hi):To P most s {s with D:=jw most s.D c} (λx=>x=c):=by(have l:∀x∈s.D,x∈jw most s.D c:=λx d=>by unfold jw;grind);(have m:∀x∈jw most s.D c,x∈s.D\/x=c:=λx d=>by unfold jw at d;grind);(have g:l_ s.D<=l_ (jw most s.D c):=by unfold jw;grind);refine⟨⟨h.pu,h.lp,?_,λf H=>?_,?_,λf H=>l f (h.Dl f H),h.ab,h.un,h.fr,h.it,h.ra,h.fi,λx d=>?_,h.fmd,λx d j=>?_,λp=>?_,h.pul,⟨gY h.ln.1 g,h.ln.2⟩⟩,?_,⟨[],S⟩,λ_ _ h=>h,rfl,rfl,rfl,rfl,rfl,rfl,rfl,rfl,rfl,λx d=>by rw[d];exact Dm _ _⟩;(.show(jw most s.D c).Nodup;unfold jw;split;(.rename_i e;exact WC.2 ⟨h.nd,S,λa o b hb k=>e.2 (by grind)⟩);.exact h.nd);(.rcases m f H with H|rfl;(.exact h.Ej f H);grind);(.show(jw most s.D c).length<=_;unfold jw;split;(.grind);.exact h.len);(.rcases h.fm x d with i|i;(.grind);grind);(.rcases m x d with d|rfl;(.exact h.is x d j);grind);(.exact gY (h.fmb (gY g p)) g);.show ∃t,jw most s.D c=s.D++t;unfold jw;split;(.grind);.exact⟨[],S⟩
theorem To.ah5(h:Inv P most s)(w:kC P c)(y:c=fG c.A c.R c.lo c.hi)(k:c∉s.D):To P most s {s with fm:=s.fm++[c],D:=jw most s.D c} (λx=>x=c):=by have l:(λx=>x∈s.fm) c\/True:= .inr trivial;have i:=To.emit (most:=most) h (c:=c) w;(have o:∀x∈s.D,x∈jw most s.D c:=λx d=>by unfold jw;grind);(have q:∀x∈jw most s.D c,x∈s.D\/x=c:=λx d=>by unfold jw at d;grind);(have j:l_ s.D<=l_ (jw most s.D c):=by unfold jw;grind);(have up:∀x,x∈s.fm->x∈s.fm++[c]:=λx d=>Jf _ d);refine⟨⟨h.pu,h.lp,?_,λf H=>?_,?_,λf H=>o f (h.Dl f H),h.ab,h.un,h.fr,h.it,h.ra,λp x=>?_,λx d=>?_,λx d=>?_,λx d l=>?_,λn=>?_,h.pul,⟨gY h.ln.1 j,h.ln.2⟩⟩,?_,⟨[c],rfl⟩,λx d g=>?_,rfl,rfl,rfl,rfl,rfl,rfl,rfl,rfl,rfl,λx d=>by rw[d];exact Dm _ _⟩;(.show(jw most s.D c).Nodup;unfold jw;split;(.rename_i e;exact WC.2 ⟨h.nd,S,λa r b hb m=>e.2 (by grind)⟩);.exact h.nd);(.rcases q f H with H|rfl;(.exact h.Ej f H);grind);(.show(jw most s.D c).length<=_;unfold jw;split;(.grind);.exact h.len);(.rw[h.fi p x];constructor;(.grind);.rintro⟨a,b⟩;refine⟨a,?_⟩;rcases iq.1 b with b|b;(.exact b);.rw[gW.1 b]at a;exact absurd (h.Dl _ a.1) k);(.rcases iq.1 d with d|d;(.rcases h.fm x d with i|i;(.grind);grind);.rw[gW.1 d];exact Dm _ _);(.rcases iq.1 d with d|d;(.exact h.fmd x d);grind);(.rcases q x d with d|rfl;(.exact(h.is x d l).mono up);.refine .one ?_;grind);(.have v:=h.fmb (gY j n);have u:l_ s.D<=most:=gY j n;show(s.fm++[c]).length<=l_ (jw most s.D c);unfold jw;grind);(.show ∃t,jw most s.D c=s.D++t;unfold jw;split;(.grind);.exact⟨[],S⟩);grind
end
inductive Cq(P:List Pc)(F I:Fc->Prop):Fc->Fc->Prop
 |contain {a b c:St}:uq P (kF b c)->Cq P F I (t_ a b) (t_ a c)
 |both {a b d c:St} {f:Fc}:uq P (wP b d c)->I (t_ a b)->I (t_ a d)->f=t_ a b\/f=t_ a d->Cq P F I f (t_ a c)
 |some {a b r c:St}:uq P (mE b r c)->Cq P F I (t_ a b) (fC a r c)
 |VK {a b r x d:St}:uq P (og r b d)->I (fC a r x)->Cq P F I (t_ x b) (t_ a d)
 |Np {a r x:St}:I (fC a r x)->Cq P F I (t_ x iR) (t_ a iR)
 |value {a b r:St} {l h:Int}:uq P (Vy b r l h)->Cq P F I (t_ a b) (fG a r l h)
 |U {a r b t:St}:uq P (sK r t)->Cq P F I (fC a r b) (fC a t b)
 |Nq {a r b s c t:St}:uq P (jV r s t)->I (fC b s c)->Cq P F I (fC a r b) (fC a t c)
 |Nr {a r b s c t:St}:uq P (jV r s t)->I (fC a r b)->Cq P F I (fC b s c) (fC a t c)
 |VL {a r b c d:St}:uq P (og r c d)->I (t_ b c)->Cq P F I (fC a r b) (t_ a d)
 |Ns {a r b:St}:I (t_ b iR)->Cq P F I (fC a r b) (t_ a iR)
 |meet {a r:St} {l h l' h':Int}:I (fG a r l' h')->F (fG a r l h)\/F (fG a r l' h')->max l l'<=min h h'->Cq P F I (fG a r l h) (fG a r (max l l') (min h h'))
 |apart {a r:St} {l h l' h':Int}:I (fG a r l' h')->F (fG a r l h)\/F (fG a r l' h')->min h h'<max l l'->Cq P F I (fG a r l h) (t_ a iR)
 |out {a r c:St} {l h l' h':Int}:uq P (AQ r l' h' c)->l'<=l->h<=h'->Cq P F I (fG a r l h) (t_ a c)
theorem saturated{D:List Fc}{F:Fc->Prop}(J:∀f∈D,kC P f)(T:∀x,F x->x∈D)(hb:∀a,mF P a->t_ a a∈D/\t_ a jI∈D/\∀r,uq P (qc r)->fC a r a∈D)(W:∀x∈D,x.K=3->qG F x.A x.R x.lo x.hi)(H:∀n f,D[n]?=some f->∀c,Cq P F (·∈D.take (n+1)) f c->c∈D){f:Fc}(h:kC P f):f∈D:=by
 (have t:∀x y,x∈D->y∈D->∀c,((∀I:Fc->Prop,I x->I y->Cq P F I x c))->((∀I:Fc->Prop,I x->I y->Cq P F I y c))->c∈D:=λx y u q c p g=>by obtain⟨i,hi⟩:=WE u;obtain⟨j,B⟩:=WE q;(have v:∀(n m:Nat)(z:Fc),D[n]?=some z->n<=m->z∈D.take (m+1):=λn m z C G=>gV (i:=n) (by grind));rcases Nat.le_total i j with E|E;(.exact H j y B c (g _ (v i j x hi E) (v j j y B (gH _))));.exact H i x hi c (p _ (v i i x hi (gH _)) (v j i y B E)));(have one:∀x,x∈D->∀c,(∀I:Fc->Prop,Cq P F I x c)->c∈D:=λx u c p=>t x x u u c (λI _ _=>p I) (λI _ _=>p I));have K:∀a r l h b d,F (fG a r l h)->fG a r b d∈D->(max l b<=min h d->fG a r (max l b) (min h d)∈D)/\(min h d<max l b->t_ a iR∈D):=λa r l h b d o q=>by refine⟨λX=>t _ _ (T _ o) q _ (λI _ k=> .meet k (.inl o) X) (λI e _=>?_),λA=>t _ _ (T _ o) q _ (λI _ k=> .apart k (.inl o) A) (λI e _=> .apart e (.inr o) U)⟩;have:=Cq.meet (P:=P) (F:=F) (I:=I) (l:=b) (h:=d) e (.inr o) U;rwa[show max b l=max l b by omega,show min d h=min h d by omega]at this
 have M2:∀a r l h,qG F a r l h->∀b d,fG a r b d∈D->(max l b<=min h d->fG a r (max l b) (min h d)∈D)/\(min h d<max l b->t_ a iR∈D):=λa r l h Z=>by
  induction Z with
  |one o=>exact λb d q=>K a r _ _ b d o q
  | @meet L p w g _ o X s=>
    intro b d q;have m:=K a r w g b d o q;by_cases C:max w b<=min g d;(.grind);.exact⟨λh=>U,λ_=>m.2 U⟩
 induction h with
 |refl h=>exact(hb _ h).1
 |top h=>exact(hb _ h).2.1
 |loop h g=>exact(hb _ h).2.2 _ g
 |sub _ g i=>exact one _ i _ λI=> .contain g
 |both _ _ h i j=>exact t _ _ i j _ (λI e k=> .both h e k (.inl rfl)) (λI e k=> .both h e k (.inr rfl))
 |some _ h i=>exact one _ i _ λI=> .some h
 |U _ h i=>exact one _ i _ λI=> .U h
 |chain _ _ h i j=>exact t _ _ i j _ (λI _ k=> .Nq h k) (λI e _=> .Nr h e)
 |fill _ _ h i j=>exact t _ _ i j _ (λI _ k=> .VL h k) (λI e _=> .VK h e)
 |none _ _ i j=>exact t _ _ i j _ (λI _ k=> .Ns k) (λI e _=> .Np e)
 |value _ h i=>exact one _ i _ λI=> .value h
 |meet _ _ h i j=>exact(M2 _ _ _ _ (W _ i rfl) _ _ j).1 h
 |apart _ _ h i j=>exact(M2 _ _ _ _ (W _ i rfl) _ _ j).2 h
 |out _ h p g i=>exact one _ i _ λI=> .out h p g



