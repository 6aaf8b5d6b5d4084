import Derived.Deep.RegionLaw
import Derived.Lib.SlicesCompact
import Derived.Test.YtjmbkfjklemmpaaGreatDoorJ19
set_option linter.all false
set_option maxRecDepth 100000
set_option maxHeartbeats 32000000
open Go renaming World->W_,Value->V_,maxLen->m_
namespace Go.Proofs.YtjmbkfjklemmpaaGreatDoor
section
open Go.Maps Go.RowKit Tryz
abbrev Ri(fn:FuncId)(p:V_):V_:= .func (.func fn) #[p] #[]
abbrev Mf(p:V_):Array V_:= #[Ri 204 p,Ri 205 p,Ri 206 p,Ri 207 p,Ri 208 p,Ri 209 p]
abbrev Mg(p:V_):Array V_:= #[Ri 210 p,Ri 211 p,Ri 212 p,Ri 213 p]
abbrev Mh(p:V_):Array V_:= #[Ri 214 p,Ri 215 p]
abbrev F7(b1 b2 b3:Nat):Array V_:= #[.slice none 0 0,.slice (some ⟨b1,0,none⟩) 6 6,.slice (some ⟨b2,0,none⟩) 4 4,.slice (some ⟨b3,0,none⟩) 2 2]
def acf{w:W_}{g:Nat}{a b c d:V_}(h:f_ w g 228 #[a,b,c,d]):(loadVar 228 ⟨g,0,none⟩).run prog w=.ok (.agg #[a,b,c,d]) w:=by have e:N w g 0 a:=h.cell 0;have f:N w g 1 b:=h.cell 1;have i:N w g 2 c:=h.cell 2;have j:N w g 3 d:=h.cell 3;simp[loadVar,go_sem,e,f,i,j]
def Vm(g:Nat)(w:W_):z 144 #[.pointer (some ⟨g,0,none⟩)] w λe w'=>∃b1 b2 b3,e=.returned (.agg (F7 b1 b2 b3))/\ f_ w' b1 219 (Mf (.pointer (some ⟨g,0,none⟩)))/\f_ w' b2 219 (Mg (.pointer (some ⟨g,0,none⟩)))/\f_ w' b3 219 (Mh (.pointer (some ⟨g,0,none⟩)))/\w.heap.size<=b1/\w.heap.size<=b2/\w.heap.size<=b3/\G w w':=by go_in;go_wp2;refine qW (gq rfl _ _ rfl (acf ((((f_.new _ _ _).alloc _).alloc _).alloc _))) rfl ⟨w.heap.size+1,w.heap.size+2,w.heap.size+3,rfl,?_,?_,?_,U,U,U,?_⟩;(·exact((f_.newAt _ _ _ S).alloc _).alloc _);(·exact(f_.newAt _ _ _ S).alloc _);(·exact f_.newAt _ _ _ S);·exact L_ (L_ (L_ bA _) _) _
structure aar(kind:Int)(r:FuncId×(ES->Fc->Fc->Prop)):Prop where
 at_:nU r.1 kind r.2
 enter:∀args w,(callFunc r.1 args).run prog w=.ok (.enter r.1 args) w
def Yd:List (FuncId×(ES->Fc->Fc->Prop)):=[(204,JO),(205,X8),(206,X5),(207,F4),(208,Db),(209,TF)]
def Ye:List (FuncId×(ES->Fc->Fc->Prop)):=[(210,JQ),(211,TD),(212,F5),(213,Dc)]
def Yf:List (FuncId×(ES->Fc->Fc->Prop)):=[(214,Me),(215,abl)]
def aas:∀r∈Yd,aar 1 r:=by intro r a;simp only[Yd,jU,ZH,ZI]at a;rcases a with rfl|rfl|rfl|rfl|rfl|rfl;(·exact⟨Q9,vW func204 (by kernel_rfl) rfl⟩);(·exact⟨aao,vW func205 (by kernel_rfl) rfl⟩);(·exact⟨aam,vW func206 (by kernel_rfl) rfl⟩);(·exact⟨Ow,vW func207 (by kernel_rfl) rfl⟩);(·exact⟨L9,vW func208 (by kernel_rfl) rfl⟩);·exact⟨X9,vW func209 (by kernel_rfl) rfl⟩
def aat:∀r∈Ye,aar 2 r:=by intro r a;simp only[Ye,jU,ZH,ZI]at a;rcases a with rfl|rfl|rfl|rfl;(·exact⟨Ra,vW func210 (by kernel_rfl) rfl⟩);(·exact⟨X6,vW func211 (by kernel_rfl) rfl⟩);(·exact⟨Ox,vW func212 (by kernel_rfl) rfl⟩);·exact⟨Md,vW func213 (by kernel_rfl) rfl⟩
def aau:∀r∈Yf,aar 3 r:=by intro r a;simp only[Yf,jU,ZH,ZI]at a;rcases a with rfl|rfl;(·exact⟨aap,vW func214 (by kernel_rfl) rfl⟩);·exact⟨ace,vW func215 (by kernel_rfl) rfl⟩
def P6(k:Nat):List (FuncId×(ES->Fc->Fc->Prop)):=if k=1 then Yd else if k=2 then Ye else Yf
def Vn{P:List Pc}{most:Nat}{s:ES}{f:Fc}(h:Inv P most s)(hf:f∈s.D)(u:f∉s.ix)(hl:s.ix.length+1<=s.D.length)(v:1<=f.kind/\f.kind<=3):Inv P most (Eo s f):=by have m:=h.CO f hf;(have sub:∀x,x∈s.ix++[f]↔x∈s.ix\/x=f:=λx=>S);rcases(show f.kind=1\/f.kind=2\/f.kind=3 by omega) with k|k|k;(·have e:=JM m k;unfold Eo;rw[A_ k];have l:=h.ln;refine⟨h.pu,h.lp,h.nd,h.CO,h.len,λx i=>?_,λa b=>?_,λb a=>?_,λa r b=>?_,λa r b=>?_,λp x=>?_,λp x=>?_,h.fm,h.fmd,h.is,h.fmb,h.pul,⟨by simp;omega,by simp;omega,by simp;omega,by simp;omega,by simp;omega,by simp;omega,by simp;omega⟩⟩;(·rcases(sub x).1 i with i|rfl;(·exact h.Bt x i);·exact hf);(·show(a,b)∈s.ab++[(f.A,f.B)]↔n_ a b∈s.ix++[f];rw[gH,gy,sub,h.ab];constructor;(·rintro(d|d);(·exact .inl d);·injection d with d j;exact .inr (by rw[d,j];exact e.symm));·rintro(d|d);(·exact .inl d);·rw[<-d];exact .inr rfl);(·show(b,a)∈s.un↔∃r,N_ a r b∈s.ix++[f];rw[h.un];constructor;(·rintro⟨r,g⟩;exact⟨r,(sub _).2 (.inl g)⟩);·rintro⟨r,g⟩;rcases(sub _).1 g with g|g;(·exact⟨r,g⟩);·rw[<-g]at k;cases k);(·show _∈s.fr↔_∈s.ix++[f];rw[h.fr,sub];exact⟨.inl,λg=>g.elim id λg=>by rw[<-g]at k;cases k⟩);(·show _∈s.it↔_∈s.ix++[f];rw[h.it,sub];exact⟨.inl,λg=>g.elim id λg=>by rw[<-g]at k;cases k⟩);(·show _∈s.ra↔x∈s.ix++[f]/\_;rw[h.ra,sub];exact⟨λ⟨a,b⟩=>⟨.inl a,b⟩,λ⟨a,b⟩=>⟨(a.elim id λa=>by rw[<-a,b]at k;cases k),b⟩⟩);·show _∈s.fi↔(x∈s.ix++[f]/\_)/\_;rw[h.fi,sub];exact⟨λ⟨⟨a,b⟩,c⟩=>⟨⟨.inl a,b⟩,c⟩,λ⟨⟨a,b⟩,c⟩=>⟨⟨(a.elim id λa=>by rw[<-a,b]at k;cases k),b⟩,c⟩⟩);(·have e:=JN m k;unfold Eo;rw[u_ U,A_ k];have l:=h.ln;refine⟨h.pu,h.lp,h.nd,h.CO,h.len,λx i=>?_,λa b=>?_,λb a=>?_,λa r b=>?_,λa r b=>?_,λp x=>?_,λp x=>?_,h.fm,h.fmd,h.is,h.fmb,h.pul,⟨by simp;omega,by simp;omega,by simp;omega,by simp;omega,by simp;omega,by simp;omega,by simp;omega⟩⟩;(·rcases(sub x).1 i with i|rfl;(·exact h.Bt x i);·exact hf);(·show(a,b)∈s.ab↔n_ a b∈s.ix++[f];rw[h.ab,sub];exact⟨.inl,λg=>g.elim id λg=>by rw[<-g]at k;cases k⟩);(·show(b,a)∈s.un++[(f.B,f.A)]↔∃r,N_ a r b∈s.ix++[f];rw[gH,gy,h.un];constructor;(·rintro(⟨r,g⟩|d);(·exact⟨r,(sub _).2 (.inl g)⟩);·injection d with d j;exact⟨f.R,(sub _).2 (.inr (by rw[d,j];exact e.symm))⟩);·rintro⟨r,g⟩;rcases(sub _).1 g with g|g;(·exact .inl ⟨r,g⟩);·rw[<-g];exact .inr rfl);(·show(⟨a,r⟩,b)∈s.fr++[(⟨f.A,f.R⟩,f.B)]↔_∈s.ix++[f];rw[gH,gy,h.fr,sub];constructor;(·rintro(d|d);(·exact .inl d);·injection d with d j;injection d with d n;exact .inr (by rw[d,j,n];exact e.symm));·rintro(d|d);(·exact .inl d);·rw[<-d];exact .inr rfl);(·show(⟨b,r⟩,a)∈s.it++[(⟨f.B,f.R⟩,f.A)]↔_∈s.ix++[f];rw[gH,gy,h.it,sub];constructor;(·rintro(d|d);(·exact .inl d);·injection d with d j;injection d with d n;exact .inr (by rw[d,j,n];exact e.symm));·rintro(d|d);(·exact .inl d);·rw[<-d];exact .inr rfl);(·show _∈s.ra↔x∈s.ix++[f]/\_;rw[h.ra,sub];exact⟨λ⟨a,b⟩=>⟨.inl a,b⟩,λ⟨a,b⟩=>⟨(a.elim id λa=>by rw[<-a,b]at k;cases k),b⟩⟩);·show _∈s.fi↔(x∈s.ix++[f]/\_)/\_;rw[h.fi,sub];exact⟨λ⟨⟨a,b⟩,c⟩=>⟨⟨.inl a,b⟩,c⟩,λ⟨⟨a,b⟩,c⟩=>⟨⟨(a.elim id λa=>by rw[<-a,b]at k;cases k),b⟩,c⟩⟩);·have e:=F3 m k;unfold Eo;rw[u_ U,u_ U];have l:=h.ln;refine⟨h.pu,h.lp,h.nd,h.CO,h.len,λx i=>?_,λa b=>?_,λb a=>?_,λa r b=>?_,λa r b=>?_,λp x=>?_,λp x=>?_,h.fm,h.fmd,h.is,h.fmb,h.pul,⟨by simp;omega,by simp;omega,by simp;omega,by simp;omega,by simp;omega,by simp;omega,by(split<;>simp)<;>omega⟩⟩;(·rcases(sub x).1 i with i|rfl;(·exact h.Bt x i);·exact hf);(·show(a,b)∈s.ab↔n_ a b∈s.ix++[f];rw[h.ab,sub];exact⟨.inl,λg=>g.elim id λg=>by rw[<-g]at k;cases k⟩);(·show(b,a)∈s.un↔∃r,N_ a r b∈s.ix++[f];rw[h.un];constructor;(·rintro⟨r,g⟩;exact⟨r,(sub _).2 (.inl g)⟩);·rintro⟨r,g⟩;rcases(sub _).1 g with g|g;(·exact⟨r,g⟩);·rw[<-g]at k;cases k);(·show _∈s.fr↔_∈s.ix++[f];rw[h.fr,sub];exact⟨.inl,λg=>g.elim id λg=>by rw[<-g]at k;cases k⟩);(·show _∈s.it↔_∈s.ix++[f];rw[h.it,sub];exact⟨.inl,λg=>g.elim id λg=>by rw[<-g]at k;cases k⟩);(·show(p,x)∈s.ra++[(⟨f.A,f.R⟩,f)]↔x∈s.ix++[f]/\x=Y_ p.atom p.role x.lo x.hi;rw[gH,gy,h.ra,sub];constructor;(·rintro(⟨a,b⟩|d);(·exact⟨.inl a,b⟩);·injection d with d j;subst d j;exact⟨.inr rfl,e⟩);·rintro⟨a|a,b⟩;(·exact .inl ⟨a,b⟩);·subst a;refine .inr ?_;have o:p.atom=x.A:=(qQ Fc.A b).symm;have q:p.role=x.R:=(qQ Fc.R b).symm;rw[<-o,<-q]);·show(p,x)∈s.fi++(if f∈s.fm then[(⟨f.A,f.R⟩,f)] else[])↔(x∈s.ix++[f]/\x=Y_ p.atom p.role x.lo x.hi)/\x∈s.fm;rw[gH,h.fi,sub];constructor;(·rintro(⟨⟨a,b⟩,c⟩|d);(·exact⟨⟨.inl a,b⟩,c⟩);·split at d;(·rename_i t;rw[gy]at d;injection d with d j;subst d j;exact⟨⟨.inr rfl,e⟩,t⟩);·cases d);·rintro⟨⟨a|a,b⟩,c⟩;(·exact .inl ⟨⟨a,b⟩,c⟩);·subst a;refine .inr ?_;rw[A_ c,gy];have o:p.atom=x.A:=(qQ Fc.A b).symm;have q:p.role=x.R:=(qQ Fc.R b).symm;rw[<-o,<-q]
def yF{P:List Pc}{most:Nat}{s:ES}(h:Inv P most s){k:Ky}{x:Pc}(a:sQ P x)(b:k∈iG x):x∈jd s.pu k:=jl.2 ((h.pu k x).2 ⟨a,b⟩)
def cover{P:List Pc}{most:Nat}{sb:ES}{f c:Fc}(hf:f∈sb.ix)(h:Cq P (·∈sb.fm) (·∈sb.ix) f c){k:Nat}(o:f.kind=(k:Int)):∃(i:Nat)(r:FuncId×(ES->Fc->Fc->Prop)),(P6 k)[i]?=some r/\∀n,To P most sb n (λ_=>False)->r.2 n f c:=by
 (have ix:∀{n:ES},To P most sb n (λ_=>False)->∀x,x∈sb.ix->x∈n.ix:=λh x A=>by rw[h.ix];exact A);(have fm:∀{n:ES},To P most sb n (λ_=>False)->∀x,x∈sb.fm->x∈n.fm:=λh x A=>by obtain⟨t,e⟩:=h.fm;rw[e];exact P7 _ A);(have q:∀{a b:St},(n_ a b).kind=(k:Int)->k=1:=λh=>by simp[n_]at h;omega);(have u:∀{a r b:St},(N_ a r b).kind=(k:Int)->k=2:=λh=>by simp[N_]at h;omega);have k3:∀{a r:St}{l h:Int},(Y_ a r l h).kind=(k:Int)->k=3:=λh=>by simp[Y_]at h;omega
 cases h with
 | @contain a b c j=>
   obtain rfl:=q o;exact⟨0,_,rfl,λn g=>⟨kP b c,yF g.inv j (by simp[iG,kP,n_]),rfl⟩⟩
 | @both a b d c f j m p v=>
   (have C:k=1:=by rcases v with rfl|rfl<;>exact q o);subst C;refine⟨1,_,rfl,λn g=>⟨vL b d c,yF g.inv j ?_,?_,?_,?_⟩⟩;(·rcases v with rfl|rfl;(·by_cases e:d=b<;>simp[iG,vL,n_,e]);·by_cases e:d=b<;>simp[iG,vL,n_,e]);(·rcases v with rfl|rfl<;>exact g.inv.Bt _ (ix g _ m));(·rcases v with rfl|rfl<;>exact g.inv.Bt _ (ix g _ p));·rcases v with rfl|rfl<;>rfl
 | @some a b r c j=>
   obtain rfl:=q o;exact⟨2,_,rfl,λn g=>⟨ng b r c,yF g.inv j (by simp[iG,ng,n_]),rfl⟩⟩
 | @Tp a b r x d j m=>
   obtain rfl:=q o;exact⟨3,_,rfl,λn g=>⟨ni r b d,yF g.inv j (by simp[iG,ni,n_]),a,jl.2 ((g.inv.it a r x).2 (ix g _ m)),rfl⟩⟩
 | @Lc a r x j=>
   obtain rfl:=q o;exact⟨4,_,rfl,λn g=>⟨rfl,a,jl.2 ((g.inv.un x a).2 ⟨r,ix g _ j⟩),rfl⟩⟩
 | @value a b r l h j=>
   obtain rfl:=q o;exact⟨5,_,rfl,λn g=>⟨Tk b r l h,yF g.inv j (by simp[iG,Tk,n_]),rfl⟩⟩
 | @role a r b t j=>
   obtain rfl:=u o;exact⟨0,_,rfl,λn g=>⟨rF r t,yF g.inv j (by simp[iG,rF,N_]),rfl⟩⟩
 | @Ld a r b s c t j m=>
   obtain rfl:=u o;exact⟨1,_,rfl,λn g=> .inl ⟨jy r s t,yF g.inv j (by simp[iG,jy,N_]),c,jl.2 ((g.inv.fr b s c).2 (ix g _ m)),rfl⟩⟩
 | @Le a r b s c t j m=>
   obtain rfl:=u o;exact⟨1,_,rfl,λn g=> .inr ⟨jy r s t,yF g.inv j (by simp[iG,jy,N_]),a,jl.2 ((g.inv.it a r b).2 (ix g _ m)),rfl⟩⟩
 | @Tt a r b c d j m=>
   obtain rfl:=u o;exact⟨2,_,rfl,λn g=>⟨c,jl.2 ((g.inv.ab b c).2 (ix g _ m)),ni r c d,yF g.inv j (by simp[iG,ni,N_]),rfl⟩⟩
 | @Lf a r b j=>
   obtain rfl:=u o;exact⟨3,_,rfl,λn g=>⟨g.inv.Bt _ (ix g _ j),rfl⟩⟩
 | @meet a r l h w y j m p=>
   obtain rfl:=k3 o;refine⟨0,_,rfl,λn g=> .inl ⟨Y_ a r w y,?_,p,rfl⟩⟩;unfold Vl;split;(·exact jl.2 ((g.inv.ra ⟨a,r⟩ _).2 ⟨ix g _ j,rfl⟩));·rename_i B;refine jl.2 ((g.inv.fi ⟨a,r⟩ _).2 ⟨⟨ix g _ j,rfl⟩,?_⟩);rcases m with m|m;(·exact absurd (fm g _ m) B);·exact fm g _ m
 | @apart a r l h w y j m p=>
   obtain rfl:=k3 o;refine⟨0,_,rfl,λn g=> .inr ⟨⟨Y_ a r w y,?_,p⟩,rfl⟩⟩;unfold Vl;split;(·exact jl.2 ((g.inv.ra ⟨a,r⟩ _).2 ⟨ix g _ j,rfl⟩));·rename_i B;refine jl.2 ((g.inv.fi ⟨a,r⟩ _).2 ⟨⟨ix g _ j,rfl⟩,?_⟩);rcases m with m|m;(·exact absurd (fm g _ m) B);·exact fm g _ m
 | @out a r c l h w y j m p=>
   obtain rfl:=k3 o;exact⟨1,_,rfl,λn g=>⟨zU r w y c,yF g.inv j (by simp[iG,zU,Y_]),m,p,rfl⟩⟩
structure F8(P:List Pc)(most B:Nat)(X:Nat->Prop)(bg:Nat)(w0:W_)(qU:Slot->V_)(s0:ES)(w:W_)(vf:Slot->V_)(s:ES)(Q:Fc->Prop):Prop extends ER P most B X bg w0 qU s0 w vf s Q where
 nf:s.fm=s0.fm
section
variable{P:List Pc}{most B bg:Nat}{X:Nat->Prop}{w0 w w' w1:W_}{qU vf l7:Slot->V_}{s0 s s':ES}{Q R:Fc->Prop}
def F8.refl(h:kJ w B X most bg vf s)(a:Inv P most s):F8 P most B X bg w vf s w vf s (λ_=>False):=⟨ER.refl h a,rfl⟩
def F8.weak(h:F8 P most B X bg w0 qU s0 w vf s Q)(a:∀c,R c->Q c):F8 P most B X bg w0 qU s0 w vf s R:=⟨h.toER.weak a,h.nf⟩
def F8.emit(h:F8 P most B X bg w0 qU s0 w vf s Q)(b:vM P)(d:most<=1000000){c:Fc}(f:jK P c)(a:c.kind=3->pE (·∈s.fm) c.A c.R c.lo c.hi){W:W_}(g:G w W):z 141 #[.agg (vF c),.pointer (some ⟨bg,0,none⟩),.pointer (some ⟨bg+1,0,none⟩),.pointer (some ⟨bg+2,0,none⟩)] W λe w'=>e=.returned (.tuple #[])/\∃l7 s',F8 P most B X bg w0 qU s0 w' l7 s' (λx=>Q x\/x=c)/\True:=(h.toER.emit b d f a g).mono λe w' ⟨i,l7,s',j,a⟩=>⟨i,l7,s',⟨j,a.trans h.nf⟩,trivial⟩
end
def TG(P:List Pc)(most B:Nat)(X:Nat->Prop)(bg:Nat)(w:W_)(vf:Slot->V_)(s:ES)(Q:Fc->Prop)(e:Ending)(w':W_):Prop:=e=.returned (.tuple #[])/\∃l7 s',F8 P most B X bg w vf s w' l7 s' Q
def Vo(P:List Pc)(most B:Nat)(X:Nat->Prop)(bg:Nat)(w:W_)(vf:Slot->V_)(s:ES)(N:List St)(v:V_)(ab:kJ w B X most bg vf s)(ac:Inv P most s)(ad:vM P)(ae:most<=1000000)(hv:lg w v N)(aB:∀a∈N,lM P a)(aF:∀a n c,v=.slice (some a) n c->0<n->¬Yb X vf a.block):Calls prog 143 #[.pointer (some ⟨B+9,0,none⟩),v] w (TG P most B X bg w vf s (λc=>∃a∈N,(c=n_ a a\/c=n_ a jo\/∃r∈s.lp,c=N_ a r a))):=by
 obtain⟨A,cap,rfl,aw,ax,_⟩:=S1.form hv;have aG:=gT aw ax;simp only[m_]at aG;obtain⟨aC,aQ,ap,az,aA,_⟩:=S1.form ((ER.refl ab ac).lps);have aR:=gT az aA;simp only[m_]at aR;have aH:=(F8.refl ab ac);go_in;go_wp2;go_loopw [10] (λi wr=>∃(k:Nat)(aq:Slot->V_)(s1:ES),k<=N.length/\i=.int .i64 (k:Int)/\Hid (F8 P most B X bg w vf s wr aq s1 (λc=>(∃a∈N.take k,(c=n_ a a\/c=n_ a jo\/∃r∈s.lp,c=N_ a r a))))) (λi _=>N.length-(intOf i).toNat);exact⟨0,vf,s,gL _,rfl,K_ (aH.weak λc h=>by simp at h)⟩;obtain⟨k,aq,s1,aV,rfl,L⟩:=hrel;by_cases aI:k<N.length
 ·obtain⟨a,af⟩:=g_ aI
  obtain⟨b,aJ,rfl,hb,ar⟩:=Da hv af;have a0:wr.cell? ⟨b,aJ+k,none⟩=some (.string ⟨a.toArray⟩):=L.out.cell ar (aF _ _ _ rfl U);have r1:(0:Int)<=(k:Int):=U;have aW:(k:Int)<(N.length:Int):=U;have ag:lM P a:=(aB a (gM af));go_wp2_with fail;obtain⟨F,d⟩:=e_ (n_ a a);(have u:jK P F:=by rw[<-d];exact .refl ag);(have x:∀W,Calls prog 149 #[.string ⟨a.toArray⟩,.string ⟨a.toArray⟩] W λe w'=>e=.returned (.agg (mJ F))/\Below W.heap.size W w':=λW=>by rw[<-d];exact lD a a W);(have y:∀W,Below wr.heap.size wr W->Calls prog 141 #[.agg (mJ F),.pointer (some ⟨bg,0,none⟩),.pointer (some ⟨bg+1,0,none⟩),.pointer (some ⟨bg+2,0,none⟩)] W λe w'=>e=.returned (.tuple #[])/\∃l7 s',F8 P most B X bg w vf s w' l7 s' (λc=>(∃a∈N.take k,(c=n_ a a\/c=n_ a jo\/∃r∈s.lp,c=N_ a r a))\/c=F):=λW l=>(L.out.emit ad ae u (λh=>by rw[<-d]at h;cases h) l).mono λe w' ⟨j,l7,s',T,_⟩=>⟨j,l7,s',T⟩);have m:wr.cell? ⟨B+9,3,none⟩=some (nT bg):=L.out.e.e.blk.cell 3;(have E:∀W,Below wr.heap.size wr W->W.cell? ⟨B+9,3,none⟩=some (nT bg):=λW l=>(L.out.up l).e.e.blk.cell 3);(have H:∀W l7 s' Q',F8 P most B X bg w vf s W l7 s' Q'->W.cell? ⟨B+9,3,none⟩=some (nT bg):=λW l7 s' Q' j=>j.e.e.blk.cell 3);have g:Below wr.heap.size wr wr.drew:=(fD _ _).drew;have K:=K_ d;go_wp2
  go_region_held3 (λW=>W.cell? ⟨B+9,3,none⟩=some (nT bg))
   (first|with_reducible exact m|with_reducible exact s4|with_reducible exact s2|exact m)
   (first|(go_at_call 141;(with_reducible refine(y _ I).mono ?_);rintro e t ⟨rfl,aS,aK,ah⟩;have s4:=H _ _ _ _ ah)|(go_at_call 149;(with_reducible refine(x _).mono ?_);rintro e ao ⟨rfl,p⟩;have s2:=E _ (g.trans (p.mono g.size));have I:=(g.trans (p.mono g.size));clear p)|fail)
  all_goals
   have aa:F8 P most B X bg w vf s t aS aK (λc=>(∃a∈N.take k,(c=n_ a a\/c=n_ a jo\/∃r∈s.lp,c=N_ a r a))\/c=n_ a a):=(ah.weak λc h=>by rw[K.out]at h;exact h)
   go_wp2_with fail
   obtain⟨F,d⟩:=e_ (n_ a jo)
   have u:jK P F:=by rw[<-d];exact .top ag
   have x:∀W,Calls prog 149 #[.string ⟨a.toArray⟩,.string ⟨#[42]⟩] W λe w'=>e=.returned (.agg (mJ F))/\Below W.heap.size W w':=λW=>by rw[<-d];exact lD a jo W
   have y:∀W,Below t.heap.size t W->Calls prog 141 #[.agg (mJ F),.pointer (some ⟨bg,0,none⟩),.pointer (some ⟨bg+1,0,none⟩),.pointer (some ⟨bg+2,0,none⟩)] W λe w'=>e=.returned (.tuple #[])/\∃l7 s',F8 P most B X bg w vf s w' l7 s' (λc=>((∃a∈N.take k,(c=n_ a a\/c=n_ a jo\/∃r∈s.lp,c=N_ a r a))\/c=n_ a a)\/c=F):=λW l=>(aa.emit ad ae u (λh=>by rw[<-d]at h;cases h) l).mono λe w' ⟨j,l7,s',T,_⟩=>⟨j,l7,s',T⟩
   have m:t.cell? ⟨B+9,3,none⟩=some (nT bg):=aa.e.e.blk.cell 3
   have E:∀W,Below t.heap.size t W->W.cell? ⟨B+9,3,none⟩=some (nT bg):=λW l=>(aa.up l).e.e.blk.cell 3
   have H:∀W l7 s' Q',F8 P most B X bg w vf s W l7 s' Q'->W.cell? ⟨B+9,3,none⟩=some (nT bg):=λW l7 s' Q' j=>j.e.e.blk.cell 3
   have g:Below t.heap.size t t.drew:=(fD _ _).drew
   have K:=K_ d
   go_wp2
   go_region_held3 (λW=>W.cell? ⟨B+9,3,none⟩=some (nT bg))
    (first|with_reducible exact m|with_reducible exact s4|with_reducible exact s2|exact m)
    (first|(go_at_call 141;(with_reducible refine(y _ I).mono ?_);rintro e au ⟨rfl,ay,av,ai⟩;have s4:=H _ _ _ _ ai)|(go_at_call 149;(with_reducible refine(x _).mono ?_);rintro e ao ⟨rfl,p⟩;have s2:=E _ (g.trans (p.mono g.size));have I:=(g.trans (p.mono g.size));clear p)|fail)
   all_goals
    have aj:F8 P most B X bg w vf s au ay av (λc=>(((∃a∈N.take k,(c=n_ a a\/c=n_ a jo\/∃r∈s.lp,c=N_ a r a))\/c=n_ a a)\/c=n_ a jo)):=(ai.weak λc h=>by rw[K.out]at h;exact h)
    have aD:au.cell? ⟨B+9,1,none⟩=some (.slice aC s.lp.length aQ):=by have j:=aj.e.e.blk.cell 1;rw[<-ap,<-aj.f .loops (by intro e;cases e)];exact j
    go_wp2_with fail
    go_loopw [34] (λi aE=>∃(o:Nat)(ak:Slot->V_)(si:ES),o<=s.lp.length/\i=.int .i64 (o:Int)/\Hid (F8 P most B X bg w vf s aE ak si (λc=>(((∃a∈N.take k,(c=n_ a a\/c=n_ a jo\/∃r∈s.lp,c=N_ a r a))\/c=n_ a a)\/c=n_ a jo)\/∃r∈s.lp.take o,c=N_ a r a))) (λi _=>s.lp.length-(intOf i).toNat)
    exact⟨0,ay,av,gL _,rfl,K_ (aj.weak λc h=>Q h)⟩
    obtain⟨o,ak,si,aZ,rfl,Z⟩:=hrel
    by_cases aT:o<s.lp.length
    ·obtain⟨r,al⟩:=g_ aT
     have an:=Z.out.lps;rw[ap]at an;obtain⟨b2,a4,rfl,a1,c0⟩:=Da an al;have aX:(0:Int)<=(o:Int):=U;have aY:(o:Int)<(s.lp.length:Int):=U;have aL:sQ P (oP r):=((ac.lp r).1 (gM al));obtain⟨a2,a3⟩:∃q,q=wr:=⟨_,rfl⟩;go_wp2_with fail;obtain⟨F,d⟩:=e_ (N_ a r a);(have u:jK P F:=by rw[<-d];exact .loop ag aL);(have x:∀W,Calls prog 203 #[.string ⟨a.toArray⟩,.string ⟨r.toArray⟩,.string ⟨a.toArray⟩] W λe w'=>e=.returned (.agg (mJ F))/\G W w':=λW=>by rw[<-d];exact wS a r a W);(have y:∀W,G wr W->Calls prog 141 #[.agg (mJ F),.pointer (some ⟨bg,0,none⟩),.pointer (some ⟨bg+1,0,none⟩),.pointer (some ⟨bg+2,0,none⟩)] W λe w'=>e=.returned (.tuple #[])/\∃l7 s',F8 P most B X bg w vf s w' l7 s' (λc=>((((∃a∈N.take k,(c=n_ a a\/c=n_ a jo\/∃r∈s.lp,c=N_ a r a))\/c=n_ a a)\/c=n_ a jo)\/∃r∈s.lp.take o,c=N_ a r a)\/c=F):=λW l=>(Z.o.emit ad ae u (λh=>by rw[<-d]at h;cases h) l).mono λe w' ⟨j,l7,s',T,_⟩=>⟨j,l7,s',T⟩);have m:wr.cell? ⟨B+9,3,none⟩=some (nT bg):=Z.out.e.e.blk.cell 3;(have E:∀W,Below wr.heap.size wr W->W.cell? ⟨B+9,3,none⟩=some (nT bg):=λW l=>(Z.out.up l).e.e.blk.cell 3);(have H:∀W l7 s' Q',F8 P most B X bg w vf s W l7 s' Q'->W.cell? ⟨B+9,3,none⟩=some (nT bg):=λW l7 s' Q' j=>j.e.e.blk.cell 3);have g:Below wr.heap.size wr wr.drew:=(fD _ _).drew;have K:=K_ d;go_wp2
     go_region_held3 (λW=>W.cell? ⟨B+9,3,none⟩=some (nT bg))
      (first|with_reducible exact m|with_reducible exact s4|with_reducible exact s2|exact m)
      (first|(go_at_call 141;(with_reducible refine(y _ I).mono ?_);rintro e aM ⟨rfl,aU,aN,am⟩;have s4:=H _ _ _ _ am)|(go_at_call 203;(with_reducible refine(x _).mono ?_);rintro e ao ⟨rfl,p⟩;have s2:=E _ (g.trans (p.mono g.size));have I:=(g.trans (p.mono g.size));clear p)|fail)
     all_goals
      have aO:Hid (F8 P most B X bg w vf s aM aU aN (λc=>(((∃a∈N.take k,(c=n_ a a\/c=n_ a jo\/∃r∈s.lp,c=N_ a r a))\/c=n_ a a)\/c=n_ a jo)\/∃r∈s.lp.take (o+1),c=N_ a r a)):=O (am.weak λc h=>by
       rcases h with h|h;·exact .inl (.inl h)
       ·rcases jT (C:=λr c=>c=N_ a r a) al h with h|h
        ·exact .inl (.inr h)
        ·exact .inr (by rw[<-K.o];exact h))
      go_wp2
      go_roundw
      exact⟨o+1,_,_,U,R,aO⟩
      exact M
    ·obtain rfl:o=s.lp.length:=by omega
     have aP:Hid (F8 P most B X bg w vf s wr ak si (λc=>∃a∈N.take (k+1),(c=n_ a a\/c=n_ a jo\/∃r∈s.lp,c=N_ a r a))):=O (Z.o.weak λc h=>by
      rcases jT (C:=λa c=>(c=n_ a a\/c=n_ a jo\/∃r∈s.lp,c=N_ a r a)) af h with h|h;·exact .inl (.inl (.inl h))
      ·rcases h with h|h|h
       (·exact .inl (.inl (.inr h)));·exact .inl (.inr h)
       ·exact .inr (by rw[jh];exact h))
     go_wp2;go_roundw;exact⟨k+1,_,_,U,R,aP⟩;exact M
 ·(obtain rfl:k=N.length:=by omega);go_wp2;go_end0;exact⟨rfl,_,_,L.o.weak λc h=>by rw[jh];exact h⟩
end
section
open Go.Maps Go.RowKit Go.Sort Tryz
def vH{zs:List St}:∀m,m<=zs.length->∀x,x∈Lib.compactUpTo zs.toArray m↔x∈zs.take m
 |0,_,x=>by simp[Lib.compactUpTo]
 |m+1,h,x=>by
  have f:=vH (zs:=zs) m U x;have c:m<zs.length:=U;(have d:zs.toArray[m]! =zs[m]:=by rw[PZ _ m (Q c)];simp);rw[Lib.compactUpTo_succ,Ht c,gH,gH,f,d];by_cases b:Lib.keeps zs.toArray m=true;(·rw[A_ b]);·rw[u_ b];constructor;(·rintro(a|a);(·exact .inl a);·cases a);·rintro(a|a);(·exact .inl a);·rw[gy]at a;unfold Lib.keeps at b;simp only[I5,not_or,Classical.not_not]at b;have e:m-1<zs.length:=U;(have g:zs.toArray[m-1]! =zs[m-1]:=by rw[PZ _ (m-1) (Q e)];simp);rw[d,g]at b;refine .inl ?_;rw[a,b.2];exact gM (i:=m-1) (by rw[MW,A_ U];exact qY e)
def Df{zs:List St}(x:St):x∈Lib.compact zs↔x∈zs:=by unfold Lib.compact;rw[vH _ (fU _),jh]
def Vp:(encStr:St->V_)=d_:=rfl
def Yg{w:W_}{base:Nat}{e:TypeId}{g n cap:Nat}{c:List V_}(h:w.ownsRow base e 1 (.slice (some ⟨g,0,none⟩) n cap) n c){m:Nat}(o:m<=n):w.ownsRow base e 1 (.slice (some ⟨g,0,none⟩) m cap) m (c.take m):=by obtain⟨p,b⟩:=h;rcases b with⟨b,_⟩|⟨q,t,l,hv,hb,d,r,f,i,j⟩;(·cases b);·injection hv with a s k;injection a with a;injection a with a;subst a k;refine⟨by rw[qg];omega,.inr ⟨g,cap,l,rfl,hb,d,U,f,i,?_⟩⟩;rw[<-j,Zk];congr 1;omega
noncomputable def nY (l:List St):List St:=l.mergeSort λx y=>decide (x<=y)
def Dh(base:Nat)(v:V_)(l:List St)(w:W_)(h:w.ownsRow base 9 1 v l.length (l.map d_))(q:l.length<=1000000):z 189 #[v] w λe w'=>e=.returned (.tuple #[])/\w'.ownsRow base 9 1 v (nY l).length ((nY l).map d_)/\w.grownBy w' v.ownBlock:=by rcases h.2 with⟨rfl,b⟩|⟨g,cap,p,rfl,hb,c,j,k,m,o⟩;(·have:l=[]:=Hl b;subst this;refine(Tryz.slices_Sort_string_none none 0 w).mono ?_;rintro e w' ⟨rfl,rfl⟩;exact⟨rfl,by simpa[nY]using h,P8 _ _⟩);·have d:g<w.heap.size:=(vR.1 c).1;refine(Tryz.slices_Sort_string g 0 cap l w (kY (enc:=d_) h) d U).mono ?_;rintro e w' ⟨rfl,n,os,rfl⟩;(have f:(nY l).toArray.size=l.length:=by simp[nY,by_]);obtain⟨a,i⟩:=l6 (enc:=d_) (d':=(nY l).toArray) f h n os;exact⟨rfl,by simp at a;exact a,i⟩
def wU(base:Nat)(v:V_)(l:List St)(w:W_)(h:w.ownsRow base 9 1 v l.length (l.map d_))(u:l.length<=1000000):z 202 #[v] w λe w'=>∃v',e=.returned v'/\w'.ownsRow base 9 1 v' (Lib.compact l).length ((Lib.compact l).map d_)/\w.grownBy w' v.ownBlock/\v'.ownBlock=v.ownBlock:=by rcases h.2 with⟨rfl,d⟩|⟨g,cap,s,rfl,hb,f,i,o,p,r⟩;(·have:l=[]:=Hl d;subst this;go_in;go_wp2;go_ret;exact⟨_,rfl,Ba _ _ _ _,P8 _ _,rfl⟩);·have t:g<w.heap.size:=(vR.1 f).1;refine(Tryz.slices_Compact_string g 0 cap l w (kY (enc:=d_) h) U i).mono ?_;rintro e w' ⟨rfl,q,rfl⟩;have b:=Lib.compact_length_le l;obtain⟨a,c⟩:=l6 (enc:=d_) (d':=(Lib.compact l++List.replicate (l.length-(Lib.compact l).length) []).toArray) (by simp;omega) h q #[];(have j:sortWorld d_ w g 0 q (Lib.compact l++List.replicate (l.length-(Lib.compact l).length) []).toArray #[]=putRow encStr (Sort.ahead w q) g 0 (Lib.compact l++List.replicate (l.length-(Lib.compact l).length) []).toArray:=by simp[sortWorld,grow,Vp];rfl);rw[j]at a c;refine⟨_,rfl,?_,c,rfl⟩;have k:=Yg (m:=(Lib.compact l).length) (n:=l.length) (by simpa[Nat.add_sub_cancel' b]using a) b;simpa using k
def jB(P:List Pc):List St:=P.flatMap λx=>[x.A,x.B,x.C].filter (·≠[])
def Oz{P:List Pc}{k:Nat}{p:Pc}(h:P[k]?=some p):jB (P.take (k+1))=jB (P.take k)++[p.A,p.B,p.C].filter (·≠[]):=by obtain⟨a,b⟩:=iR.1 h;rw[Ht a,b];simp[jB]
def F9(P:List Pc):(jB P).length<=3*P.length:=by
 induction P with
 |nil=>simp[jB]
 |cons a l c=>
  have h:(jB (a::l))=[a.A,a.B,a.C].filter (·≠[])++jB l:=rfl;have b:=PY (λx=>decide (x≠[])) [a.A,a.B,a.C];rw[h,lG];simp only[p8,MV]at b ⊢;omega
def Rj{P:List Pc}{s:St}:s∈jB P↔s≠[]/\∃x∈P,x.A=s\/x.B=s\/x.C=s:=by unfold jB;rw[gp_];constructor;(·rintro⟨x,a,h⟩;simp only[qX,jU,ZH,ZI,I5]at h;refine⟨h.2,x,a,?_⟩;rcases h.1 with h|h|h;(·exact .inl h.symm);(·exact .inr (.inl h.symm));·exact .inr (.inr h.symm));·rintro⟨b,x,a,h⟩;refine⟨x,a,?_⟩;simp only[qX,jU,ZH,ZI,I5];refine⟨?_,b⟩;rcases h with h|h|h;(·exact .inl h.symm);(·exact .inr (.inl h.symm));·exact .inr (.inr h.symm)
def JR(w:W_)(M:St->Prop)(n:Nat)(e:Ending)(w':W_):Prop:=∃(v:V_)(l:List St),e=.returned v/\w'.ownsRow w.heap.size 9 1 v l.length (l.map d_)/\(∀s,s∈l↔M s)/\l.length<=n/\G w w'
def Rk(P:List Pc)(v:V_)(w:W_)(h:Rd w jM 10 v P)(hl:P.length<=100000):z 201 #[v] w (JR w (λs=>s∈jB P) (3*P.length)):=by
 obtain⟨A,c,rfl,hc,H,_⟩:=h.form;obtain⟨is,aT,aU,aV,aW⟩:=qV oI;clear hc H;go_in;go_wp2;go_loopw [2,9] (λu i wr=>∃(k n:Nat)(r:Option Addr)(t:Nat),k<=P.length/\i=.int .i64 (k:Int)/\u=.slice r n t/\n<=300000/\Hid (n=(jB (P.take k)).length)/\Hid (wr.ownsRow w.heap.size 9 1 (.slice r n t) n ((jB (P.take k)).map d_))/\Hid (G w wr)) (λ_ i _=>P.length-(intOf i).toNat);exact⟨0,0,none,0,gL _,rfl,rfl,U,O rfl,O (Ba _ _ _ _),O (fD _ _)⟩;obtain⟨k,n,r,t,bh,rfl,rfl,aI,aq,I,K⟩:=hrel;by_cases aX:k<P.length
 ·obtain⟨p,ar⟩:=g_ aX
  obtain⟨b,bo,rfl,hb,a0,a1,a2,a3,a4,a5,aJ,aK,aL,a9⟩:=TA (h.up K.o) ar;have r1:(0:Int)<=(k:Int):=U;have bi:(k:Int)<(P.length:Int):=U;have au:=(Oz ar);have aM:=(F9 (P.take k));obtain⟨L,af⟩:=e_ (wr.alloc (.cells (vP p) 146));(have aa:f_ L wr.heap.size 146 (vP p):=by rw[<-af];exact f_.new _ _ _);(have ag:G wr L:=by rw[<-af];exact bA);obtain⟨aN,ah⟩:=e_ wr.heap.size;(have aY:aN<L.heap.size:=by rw[<-ah];exact aa.lt);rw[ah]at aa;obtain⟨X,ai⟩:∃X,L.alloc (.cells #[p.A,p.B,p.C] 9)=X:=⟨_,rfl⟩;obtain⟨d,ax⟩:=e_ L.heap.size;(have aj:G wr X:=by rw[<-ai];exact L_ ag _);(have ay:f_ X d 9 #[p.A,p.B,p.C]:=by rw[<-ai,<-ax];exact f_.new _ _ _);(have aZ:∀g,(Value.slice r n t).ownBlock=some g->g<d:=λg T=>by have:=(I.o.lt g T).2;have:=ag.size;omega);obtain⟨c0,c1,c2,c3,c4,c5,aO,aP,aQ,aR⟩:=gZ aa;go_wp2_with fail;have a6:=O (b_ K.o aj);have a7:=(gB I.o aj);have a8:=O ay;clear af ai ah ax aa ag aj ay a0 a1 a2 a3 a4 a5 aJ aK aL a9 c0 c1 c2 c3 c4 c5 aO aP aQ aR aY I K;go_loopw [2,21] (λu i ae=>∃(j m:Nat)(l:Option Addr)(o:Nat),j<=3/\i=.int .i64 (j:Int)/\u=.slice l m o/\m<=300000/\Hid (m=(jB (P.take k)++([p.A,p.B,p.C].take j).filter (·≠[])).length)/\Hid (ae.ownsRow w.heap.size 9 1 (.slice l m o) m ((jB (P.take k)++([p.A,p.B,p.C].take j).filter (·≠[])).map d_))/\Hid (G w ae)/\Hid (f_ ae d 9 #[p.A,p.B,p.C])/\Hid ((Value.slice l m o).ownBlock≠some d)) (λ_ i _=>3-(intOf i).toNat);exact⟨0,n,r,t,U,rfl,rfl,aI,O (Q aq.o),O (Q a7),a6,a8,O λe=>by have:=aZ _ e;omega⟩;obtain⟨j,m,l,o,bj,rfl,rfl,H,Z,ab,ac,F,ak⟩:=hrel;by_cases bf:j<3
  ·obtain⟨s,a⟩:∃s,[p.A,p.B,p.C][j]?=some s:=⟨_,qY (Q bf)⟩
   have av:N wr d (0+j) s:=by
    rw[IZ]
    match j,a with
    |0,a=>simp at a;rw[<-a];exact F.o.cell 0
    |1,a=>simp at a;rw[<-a];exact F.o.cell 1
    |2,a=>simp at a;rw[<-a];exact F.o.cell 2
   (have bp:N wr d j s:=by rw[IZ]at av;exact av);have bk:(0:Int)<=(j:Int):=U;have bl:(j:Int)<3:=U
   have az:([p.A,p.B,p.C].take (j+1)).filter (·≠[])=([p.A,p.B,p.C].take j).filter (·≠[])++if s=[] then[] else[s]:=(by
    obtain⟨f,q⟩:=iR.1 a;rw[Ht f,q,P9]
    by_cases h:s=[]<;>simp[h])
   (have a':m<=3*k+j:=by have f:=Z.o;have q:=aM;have aw:=PY (λx=>decide (x≠[])) ([p.A,p.B,p.C].take j);rw[lG]at f;rw[qg]at q aw;simp only[p8,MV]at aw;omega);clear a;by_cases y:s=[];·have hb:(s==[])=true:=Q y;have W:([p.A,p.B,p.C].take (j+1)).filter (·≠[])=([p.A,p.B,p.C].take j).filter (·≠[]):=(by rw[az,A_ y,Zo]);clear y;go_wp2;go_roundw;exact⟨j+1,m,l,o,U,R,rfl,H,O (by rw[W];exact Z.o),O (by rw[W];exact ab.o),ac,F,ak⟩;(try simp[intOf]);omega
   ·have hb:(s==[])=false:=Q y
    have W:([p.A,p.B,p.C].take (j+1)).filter (·≠[])=([p.A,p.B,p.C].take j).filter (·≠[])++[s]:=(by rw[az,u_ y]);clear y;go_wp2_with (at_builtin;refine gP _ (enc1 d_) rfl _ _ 41 rfl w.heap.size 9 is (.string ⟨#[]⟩) 1 16 underlying41 aT aU aV aW rfl D _ _ _ rfl (gB ab.o bA) _ _ [s] (λ_=>rfl) rfl (S1.lit wr _ rfl 9 #[s] d_ [s] 1 rfl rfl (by simp[m_])) (λx _ u aS=>by(rw[gy.1 aS];rfl)) ?c1 ?c2 ?c3 ?_);(case c1=>simp only[m_,zC];omega);(case c2=>(try simp);omega);(case c3=>have:=ac.o.size;simp;omega);intro v5 w5 ap E aG;obtain⟨A5,c5,rfl⟩:=o_ ap;have al:G w (wr.alloc (.cells #[s] 9)):=L_ ac.o _;have ad:=O (al.grown E al.size (λg T=>(ab.o.lt g T).1));have bg:Hid (f_ w5 d 9 #[p.A,p.B,p.C]):=O ((F.o.alloc _).grown E (λe=>ak.o e.symm))
    have aA:Hid (w5.ownsRow w.heap.size 9 1 (.slice A5 (m+1) c5) (m+1) ((jB (P.take k)++([p.A,p.B,p.C].take (j+1)).filter (·≠[])).map d_)):=O (by
     rw[W,<-Ho,sJ]
     simpa[enc1]using ap)
    have ba:Hid (m+1=(jB (P.take k)++([p.A,p.B,p.C].take (j+1)).filter (·≠[])).length):=O (by
     rw[W,<-Ho,lG,<-Z.o];rfl)
    (have bb:Hid ((Value.slice A5 (m+1) c5).ownBlock≠some d):=O λe=>by rcases aG with h|h;(·rw[h]at e;exact ak.o e);·rw[h]at e;injection e with e;have:=F.o.lt;(try simp at e);omega);clear ap E aG al;go_wp2;go_roundw;exact⟨j+1,m+1,A5,c5,U,R,rfl,U,ba,aA,ad,bg,bb⟩
    (try simp[intOf]);omega
  ·obtain rfl:j=3:=by omega
   have a':m<=300000:=H;have bc:Hid (m=(jB (P.take (k+1))).length):=O (by rw[au];exact Z.o);have am:Hid (wr.ownsRow w.heap.size 9 1 (.slice l m o) m ((jB (P.take (k+1))).map d_)):=O (by rw[au];exact ab.o);go_wp2;go_roundw;exact⟨k+1,m,l,o,U,R,rfl,H,bc,am,ac⟩
   (try simp[intOf]);omega
 ·(obtain rfl:k=P.length:=by omega);(have aH:wr.ownsRow w.heap.size 9 1 (.slice r n t) (jB P).length ((jB P).map d_):=by have f:=I.o;have q:=aq.o;rw[jh]at f q;rw[<-q];exact f);have an:=(F9 P);have aB:=(Dh _ _ (jB P) wr aH (by have:=an;omega));(have aC:=λg T=>(I.o.lt g T).1);clear aH;go_wp2_with (first|(go_at_call 189;(with_reducible refine aB.mono ?_);rintro e w5 ⟨rfl,ao,E⟩;have aA:=O ao;have ad:=O (K.o.grown E K.o.size aC);have aD:=(wU _ _ (nY (jB P)) w5 ao (by have:=an;simp[nY,by_];omega));clear ao E aB)|(go_at_call 202;(with_reducible refine aD.mono ?_);rintro e bm ⟨bn,rfl,aE,aF,bd⟩;have am:=O aE;have be:=(ad.o.grown aF ad.o.size aC);clear aE aF bd aD));go_ret;refine⟨_,Lib.compact (nY (jB P)),rfl,am.o,λs=>?_,?_,be⟩;(·rw[Df];unfold nY;rw[gq_]);·have f:=Lib.compact_length_le (nY (jB P));have q:=an;simp only[nY,by_]at f ⊢;omega
def Rm{w:W_}{b c:Nat}{e:TypeId}{k n:Nat}{v:V_}{d:List V_}(h:w.ownsRow b e k v n d)(hb:c<=b):w.ownsRow c e k v n d:=by obtain⟨f,a⟩:=h;rcases a with a|⟨g,cap,i,hv,j,r⟩;(·exact⟨f,.inl a⟩);·exact⟨f,.inr ⟨g,cap,i,hv,gT hb j,r⟩⟩
def Mi(base:Nat)(v:V_)(l:List St)(w:W_)(h:w.ownsRow base 9 1 v l.length (l.map d_))(q:l.length<=1000000):z 200 #[v] w λe w'=>∃v',e=.returned v'/\w'.ownsRow w.heap.size 9 1 v' l.length (l.map d_)/\G w w':=by rcases h.2 with⟨rfl,c⟩|⟨g,cap,p,rfl,hb,i,k,m,n,o⟩;(·have:l=[]:=Hl c;subst this;refine(Tryz.slices_Clone_string_nil 0 0 w).mono ?_;rintro e w' ⟨rfl,rfl⟩;exact⟨_,rfl,Ba _ _ _ _,fD _ _⟩);·have hc:=h.cells (g:=g) rfl;refine(Tryz.slices_Clone_string g 0 l.length cap (l.map λs=>(⟨s.toArray⟩:ByteArray)) w S U (λj d=>?_)).mono ?_;(·have b:j<l.length:=Q d;have a:=hc j (d_ l[j]) (by simp[Cx,qY b]);rw[add_lit]at a;rw[a];simp[b,d_]);·rintro e w' ⟨v',rfl,a,_,f⟩;refine⟨v',rfl,?_,f⟩;(have e:((l.map λs=>(⟨s.toArray⟩:ByteArray)).take l.length).map Value.string=l.map d_:=by rw[MU S,SY];rfl);rw[e]at a;exact a
def Mj(P:List Pc)(v:V_)(w:W_)(h:Rd w jM 10 v P)(hl:P.length<=100000):z 142 #[v] w (JR w (λs=>lM P s) (3*P.length+2)):=by have k:=O (Rk P v w h hl);obtain⟨A,c,rfl,_,_,_⟩:=h.form;obtain⟨is,ag,ah,ai,aj⟩:=qV oI;clear h;go_in;go_wp2_with (first|(go_at_call 201;(with_reducible refine k.o.mono ?_);rintro e ad ⟨ap,a,rfl,o,p,q,r⟩;have hl1:a.length<=1000000:=U;have l:=O (Mi _ _ a ad o hl1);have ak:=O p;have t:=O q;have y:=O r;clear p q r o k)|(go_at_call 200;(with_reducible refine l.o.mono ?_);rintro e m ⟨v2,rfl,B,C⟩;have E:=O (b_ y.o C);have f:=O (Rm B y.o.size);clear B C l)|(at_builtin;refine gP _ (enc1 d_) rfl _ _ 41 rfl w.heap.size 9 is (.string ⟨#[]⟩) 1 16 underlying41 ag ah ai aj rfl D _ _ _ rfl (gB f.o bA) _ _ [jo,iE] (λ_=>rfl) rfl (S1.lit m _ rfl 9 #[.string ⟨#[42]⟩,.string ⟨#[33]⟩] d_ [jo,iE] 2 rfl rfl (by simp[m_])) (λx _ u ae=>by(rw[gy.1 ae];rfl)) ?c1 ?c2 ?c3 ?_));(case c1=>simp only[m_,p8,MV];omega);(case c2=>simp only[p8,MV];omega);(case c3=>have:=E.o.size;simp;omega);intro v5 w5 ac F ao;have i:G w (m.alloc (.cells #[.string ⟨#[42]⟩,.string ⟨#[33]⟩] 9)):=L_ E.o _;have H:=O (i.grown F i.size (λg b=>(f.o.lt g b).1));(have j:w5.ownsRow w.heap.size 9 1 v5 (a++[jo,iE]).length ((a++[jo,iE]).map d_):=by rw[lG,sJ];simpa[enc1]using ac);(have I:(a++[jo,iE]).length<=1000000:=by have:=t.o;simp;omega);have K:=O (Dh _ _ _ w5 j I);(have L:=O λg b=>(j.lt g b).1);clear ac F ao i j f;go_wp2_with (first|(go_at_call 189;(with_reducible refine K.o.mono ?_);rintro e af ⟨rfl,T,W⟩;have X:=O (H.o.grown W H.o.size L.o);have Z:=O (wU _ _ (nY (a++[jo,iE])) af T (by simp only[nY,by_];exact I));clear T W K)|(go_at_call 202;(with_reducible refine Z.o.mono ?_);rintro e aq ⟨ar,rfl,aa,ab,al⟩;have am:=O aa;have an:=O (X.o.grown ab X.o.size L.o);clear aa ab al Z));go_ret;refine⟨_,Lib.compact (nY (a++[jo,iE])),rfl,am.o,λs=>?_,?_,an.o⟩;(·rw[Df];unfold nY;rw[gq_,gH,ak.o,Rj];simp only[jU,ZH,ZI];constructor;(·rintro(⟨d,n⟩|h|h);(·exact .inr (.inr ⟨d,n⟩));(·exact .inl h);·exact .inr (.inl h));·rintro(h|h|h);(·exact .inr (.inl h));(·exact .inr (.inr h));·exact .inl h);·have d:=Lib.compact_length_le (nY (a++[jo,iE]));have n:=t.o;simp only[nY,by_,lG,p8,MV]at d ⊢;omega
end
section
open Go.Maps Go.RowKit Tryz
def Vq(s:ES)(x:Pc):ES:={s with pu:=s.pu++(iG x).map (λk=>(k,x)),lp:=s.lp++(if x.kind=7 then[x.R] else[])}
def Yh(x:Pc):Prop:=∀(w:W_)(B:Nat)(X:Nat->Prop)(em:V_)(vf:Slot->V_)(s:ES),jm w B X em vf s->WC x->s.pu.length<=999990->s.lp.length<=1000000-> z 199 #[.pointer (some ⟨B+9,0,none⟩),.agg (vP x)] w λe w'=>e=.returned (.tuple #[])/\∃l7,jm w' B X em l7 (Vq s x)/\q9 X vf w l7 w'
def aea(x:Pc)(I:1<=x.kind/\x.kind<=9)(K:x.kind≠7):Yh x:=by
 intro w B X i vf s h d hl au;unfold vP d_;obtain⟨j,ae⟩:∃q,w.alloc (.cells #[.pointer (some ⟨B+9,0,none⟩)] 215)=q:=⟨_,rfl⟩;obtain⟨k,af⟩:=e_ w.heap.size;obtain⟨c,ag⟩:=e_ (j.alloc (.cells (vP x) 146));obtain⟨p,ah⟩:=e_ j.heap.size;(have g:G w j:=by rw[<-ae];exact bA);(have y:G j c:=by rw[<-ag];exact bA);have av:=O (g.trans (y.mono g.size));have ai:Hid (f_ c k 215 #[.pointer (some ⟨B+9,0,none⟩)]):=O (bk y (by rw[<-ae,<-af];exact f_.new _ _ _));have C:Hid (f_ c p 146 (vP x)):=O (by rw[<-ag,<-ah];exact f_.new _ _ _);have aj:Hid (¬Yb X vf k):=O (by rw[<-af];exact h.fresh (fU _));have H:Hid (¬Yb X vf p):=O (by rw[<-ah];exact(h.up g).fresh (fU _));have F:Hid (jm c B X i vf {s with pu:=s.pu++[]}):=O (by simpa using(h.up g).up y);have t:=O (q9.refl X vf c)
 have aw:Hid (∀(r a:List UInt8)(W:W_)(E:Slot->V_)(L:List (Ky×Pc)),r.length<=m_->a.length<=m_->jm W B X i E {s with pu:=s.pu++L}->q9 X vf c E W->L.length<=5->z 249 #[r,a,.pointer (some ⟨p,0,none⟩),.pointer (some ⟨k,0,none⟩)] W λe w'=>
  e=.returned (.tuple #[])/\∃ak,jm w' B X i ak {s with pu:=s.pu++(L++[(⟨x.kind,r,a⟩,x)])}/\q9 X vf c ak w'):=O λr a W E L am an u f ax=>
  (aaq x r a W B X i E _ p k u (f.blk C.o H.o) (f.nx C.o.lt H.o) (f.blk ai.o aj.o) (f.nx ai.o.lt aj.o) ⟨d.1,am,an⟩ (by simp;omega)).mono λ_ _ ⟨e,_,ao,ap⟩=>⟨e,_,Q ao,f.trans ap⟩
 have al:Hid (∀l:List UInt8,l=[]\/l=x.A\/l=x.B\/l=x.R\/l=x.S->l.length<=m_):=O (by rintro l (rfl|rfl|rfl|rfl|rfl)<;>first|exact d.2.1|exact d.2.2.1|exact d.2.2.2.2.1|exact d.2.2.2.2.2.1|simp);obtain⟨c0,c1,c2,c3,c4,c5,P,T,Z,aa⟩:=gZ C.o;obtain⟨n,v⟩:=e_ x.kind;(have b:∀m:Int,(x.kind==m)=(n==m):=λm=>by rw[v]);rw[v]at I K;have ab:=O v;clear h d g y v hl au;obtain⟨q,aq⟩:∃q,(x.B==x.A)=q:=⟨_,rfl⟩;have ar:Hid (q=true↔x.B=x.A):=O (by rw[<-aq];simp);rcases(show n=1\/n=2\/n=3\/n=4\/n=5\/n=6\/n=8\/n=9 by omega) with rfl|rfl|rfl|rfl|rfl|rfl|rfl|rfl;(case' inr.inl=>cases q);all_goals clear I K;go_in;go_wp2_with (go_at_call 249;(with_reducible refine(aw.o _ _ _ _ _ (al.o _ S) (al.o _ S) F.o t.o S).mono ?_);rintro e ay ⟨rfl,az,ac,t3⟩;replace F:=O ac;replace t:=O t3;clear ac t3 c0 c1 c2 c3 c4 c5 P T Z aa;obtain⟨c0,c1,c2,c3,c4,c5,P,T,Z,aa⟩:=gZ (t.o.blk C.o H.o));go_end0;refine⟨rfl,_,?_,(q9.of av.o).trans t.o⟩;have u:=F.o;have ad:=ar.o;simp[ab.o]at u ad;unfold Vq iG;simpa[ab.o,ad]using u
def aeb(x:Pc)(d:x.kind=7):Yh x:=by
 intro w B X T vf s h aI hl a1;unfold vP d_;obtain⟨r,ah⟩:∃q,w.alloc (.cells #[.pointer (some ⟨B+9,0,none⟩)] 215)=q:=⟨_,rfl⟩;obtain⟨i,ai⟩:=e_ w.heap.size;obtain⟨b,aj⟩:=e_ (r.alloc (.cells (vP x) 146));obtain⟨j,ak⟩:=e_ r.heap.size;(have I:G w r:=by rw[<-ah];exact bA);(have am:f_ r i 215 #[.pointer (some ⟨B+9,0,none⟩)]:=by rw[<-ah,<-ai];exact f_.new _ _ _);(have K:G r b:=by rw[<-aj];exact bA);have aJ:Hid (G w b):=O (I.trans (K.mono I.size));have L:=bk K am;(have E:f_ b j 146 (vP x):=by rw[<-aj,<-ak];exact f_.new _ _ _);have Z:=h.up I;have m:=Z.up K;(have ab:¬Yb X vf i:=by rw[<-ai];exact h.fresh (fU _));(have ac:¬Yb X vf j:=by rw[<-ak];exact Z.fresh (fU _));obtain⟨c0,c1,c2,c3,c4,c5,aA,aB,aC,aD⟩:=gZ E;have ad:=O m;have an:=O d;(have b1:(x.kind==1)=false:=by rw[d];decide);(have b3:(x.kind==3)=false:=by rw[d];decide);(have aV:(x.kind==8)=false:=by rw[d];decide);(have b2:(x.kind==2)=false:=by rw[d];decide);(have aW:(x.kind==4)=false:=by rw[d];decide);(have aX:(x.kind==5)=false:=by rw[d];decide);(have aY:(x.kind==9)=false:=by rw[d];decide);(have aZ:(x.kind==6)=false:=by rw[d];decide);(have a0:(x.kind==7)=true:=by rw[d];decide);have F:=m.rows.own .loops;obtain⟨n,p,l⟩:=o_ F;(have ao:(SC s .loops).length=s.lp.length:=by simp[SC]);rw[ao]at l F;rw[l]at F;(have aE:N b (B+9) 1 (.slice n s.lp.length p):=by rw[<-l];exact m.blk.cell 1);(have aK:∀o,N (b.alloc o) (B+9) 1 (.slice n s.lp.length p):=λo=>by rw[<-l];exact(m.blk.alloc o).cell 1);have y:=h.xb 9 U;(have ap:∀g,X g->some g≠(Value.slice n s.lp.length p).ownBlock:=λg f e=>by rw[<-l]at e;exact h.rows.fx _ _ e.symm f);(have ae:∀g,¬Yb X vf g->some g≠(Value.slice n s.lp.length p).ownBlock:=λg f e=>by rw[<-l]at e;exact f (.inr ⟨_,e.symm⟩));have aL:Hid (b.ownsRow B 9 1 (.slice n s.lp.length p) s.lp.length (s.lp.map d_)):=O (by rw[<-Aq];exact F);(have aq:=O λ(o:Obj)(W:W_)(f:(b.alloc o).drew.grownBy W (Value.slice n s.lp.length p).ownBlock)=>(show(N W i 0 (.pointer (some ⟨B+9,0,none⟩))/\N W j 4 x.R)/\f_ W (B+9) 224 (Ap B T (.slice n s.lp.length p)) from⟨⟨(((L.alloc o).drew).grown f (ae _ ab)).cell 0,(((E.alloc o).drew).grown f (ae _ ac)).cell 4⟩,by rw[<-l];exact((m.blk.alloc o).drew).grown f (ap _ y)⟩));have aa:N b i 0 (.pointer (some ⟨B+9,0,none⟩))/\N b j 4 x.R:=⟨L.cell 0,E.cell 4⟩;(have ar:∀o,N (b.alloc o) i 0 (.pointer (some ⟨B+9,0,none⟩))/\N (b.alloc o) j 4 x.R:=λo=>⟨(L.alloc o).cell 0,(E.alloc o).cell 4⟩);(have a2:B<=b.heap.size:=by have:=(m.xlt _ y).2;omega);have au:=O l;have av:=O y;(have aw:i≠B+9:=λe=>ab (.inl (by rw[e];exact y)));have ax:j≠B+9:=λe=>ac (.inl (by rw[e];exact y))
 have ay:Hid (∀(W:W_)(v:V_),(N W i 0 (.pointer (some ⟨B+9,0,none⟩))/\N W j 4 x.R)->N (W.setCell ⟨B+9,1,none⟩ v) i 0 (.pointer (some ⟨B+9,0,none⟩))/\N (W.setCell ⟨B+9,1,none⟩ v) j 4 x.R):=O λW v k=>
  have tr:∀(g H:Nat)(u:V_),g≠B+9->N W g H u->N (W.setCell ⟨B+9,1,none⟩ v) g H u:=λg H u f hc=>(He (w:=W) (a:=⟨g,H,none⟩) (D8 _ _ _ _ f)).trans hc
  ⟨tr _ _ _ aw k.1,tr _ _ _ ax k.2⟩
 obtain⟨is,aM,aN,aO,aP⟩:=qV oI;clear h aI d I am K L E Z m ab ac F l ao y ap ae aw ax;go_in;go_wp2_with fail;clear c0 c1 c2 c3 c5 aA aB aC aD
 obtain⟨m0,m4⟩:=aa;obtain⟨m5,m6⟩:=ar (.cells #[x.R] 9);have m7:=aK (.cells #[x.R] 9)
 go_region_law (
  (refine gX _ (enc1 d_) rfl (.tmp 66) (.tmp 69) 41 rfl B 9 is (.string ⟨#[]⟩) 1 16 underlying41 aM aN aO aP rfl D _ _ _ rfl (aL.o.alloc _) _ _ [x.R] (λ_=>rfl) rfl (S1.lit b b.heap.size rfl 9 #[x.R] d_ [x.R] 1 rfl rfl (by simp[m_])) (λx _ u aF=>by(rw[gy.1 aF];rfl)) ?c1 ?c2 ?c3 ?_;(case c1=>(simp only[m_,zC];omega));(case c2=>(simp only[zC];omega));(case c3=>(simp;omega));intro v4 C ag af az;have P:=O (aq.o _ _ af);have aQ:=O ag;have aR:=O af;have aU:=O az;have s4:=P.o.1;have k4:=P.o.2.cell 1;have z4:C.frozen? ⟨B+9,1,none⟩=false:=P.o.2.frozen 1;obtain⟨t,A,rfl⟩:=o_ ag;have s5:=ay.o C (.slice t (s.lp.length+1) A) s4;clear ag af az))
 all_goals clear ar aE aK c4 aq ay;(try clear s4 s5 k4 z4);go_wp2;go_end0;have aS:=Q7 C (B+9) 1 (.slice t (s.lp.length+1) A);have R:=En (c:=[d_ x.R]) ad.o.rows (λg f=>(ad.o.xlt g f).2) .loops (q:=B+9) av.o (((Aw.refl _ _).al _).then (fD _ _).drew) aQ.o (by simp[SC]) (by simp[SC,Aq,enc1]) (by rw[au.o];exact aR.o) (by rw[au.o];exact aU.o) aS;have aT:f_ (C.setCell ⟨B+9,1,none⟩ (.slice t (s.lp.length+1) A)) (B+9) 224 (Ap B T (.slice t (s.lp.length+1) A)):=P.o.2.iK 1 _;have aG:=ad.o.Vk x.R R aT;(have e:iG x=[]:=by unfold iG;rw[an.o];simp);(have aH:jm (C.setCell ⟨B+9,1,none⟩ (.slice t (s.lp.length+1) A)) B X T (j6 vf .loops (.slice t (s.lp.length+1) A)) (Vq s x):=by unfold Vq;rw[e,A_ an.o];simpa using aG);exact⟨rfl,_,aH,(q9.of aJ.o).trans (R.to av.o)⟩
def OA(x:Pc)(a:1<=x.kind/\x.kind<=9):Yh x:=by by_cases h:x.kind=7;(·exact aeb x h);·exact aea x a h
end
end Go.Proofs.YtjmbkfjklemmpaaGreatDoor
