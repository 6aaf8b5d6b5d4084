import Derived.Test.YtgoapenfbanhaaaGreatDoorJ02
set_option linter.all false
set_option maxRecDepth 100000
set_option maxHeartbeats 32000000
open List renaming length->l_
open Go.RowKit Go.Proofs.Tryz
namespace Go.Proofs.YtgoapenfbanhaaaGreatDoor
variable{c p x:Cn}{n:Int}{k:Nat}
def zo(c:Cn)(r:Int):Prop:=(c.size:Int)<=r/\∀x∈c.pre,(l_ x.N:Int)<=40*r+39
def KL(c:Cn)(k:Nat)(n:Int):Prop:=1+(Cn.sizes (c.J.take k):Int)<=n/\(l_ c.N:Int)<=40*n+39/\∀p∈c.J.take k,∀x∈p.pre,(l_ x.N:Int)<=40*n+39
def KL.next{r:Int}(h:KL c k n)(b:c.J[k]?=some p)(d:zo p r)(g:0<=r)(i:0<=n):KL c (k+1) (n+r):=by obtain⟨j,l,f⟩:=h;refine⟨by rw[lW b];have:=d.1;omega,U,λq a x e=>?_⟩;rw[DL,b]at a;rcases iq.1 a with a|a;(.have:=f q a x e;omega);.simp at a;subst a;have:=d.2 x e;omega
def A9:∀{ps:List Cn},x∈Cn.kR ps->∃p∈ps,x∈p.pre
 |[],h=>by simp[Cn.kR]at h
 |a::l,h=>by
  simp only[Cn.kR]at h;rcases iq.1 h with h|h;(.exact⟨a,S,h⟩);.obtain⟨p,b,c⟩:=A9 h;exact⟨p,by simp[b],c⟩
def KL.all(h:KL c (l_ c.J) n):zo c n:=by obtain⟨b,e,d⟩:=h;rw[jy]at b d;obtain⟨k,s,l,g,ps⟩:=c;refine⟨by simp only[Cn.size,Cn.J]at b ⊢;omega,λx a=>?_⟩;simp only[Cn.pre]at a;rcases jL.1 a with rfl|a;(.exact e);.obtain⟨p,f,i⟩:=A9 a;exact d p f x i
def zQ(c:Cn):Prop:=∀x∈c.pre,l_ x.N<=140737488355328
def Zz(c:Cn):c∈c.pre:=by cases c;simp[Cn.pre]
def CQ:∀{ps:List Cn},p∈ps->x∈p.pre->x∈Cn.kR ps
 |[],h,_=>(by cases h)
 |a::l,h,hx=>by
  simp only[Cn.kR];rcases jL.1 h with rfl|h;(.exact iq.2 (.inl hx));.exact iq.2 (.inr (CQ h hx))
def zQ.part(h:zQ c)(a:p∈c.J):zQ p:=λx b=>h x (by cases c;simp only[Cn.pre];exact YZ _ (CQ a b))
def CS(w:World)(c:Cn)(m:Int)(e:Ending)(w':World):Prop:=G w w'/\∃r:Int,e=.returned r/\0<=r/\r<=m+3600000000000/\(r<=m->zo c r)
def WT(c:Cn):∀(v:Value)(w:World)(d m:Int),CV w v c->zQ c->0<=m->m<=150->0<=d->d<=40->z 101 #[v,d,m] w (CS w c m):=by
 induction c using Cn.ind with
 |h c E=>
  intro v w d m Y l aB aC aD aE;obtain⟨A,cap,rfl,aK,ax,S⟩:=Y.form;have ad:=O S;have aF:=l c (Zz c);unfold maxLen at ax;have am:=O l;have an:=O E;clear S Y l E;have o:Hid (G w (w.alloc (.cells #[c.K,d_ c.N,c.lo,c.hi,.slice A (l_ c.J) cap] 27))):=O bA;go_in;by_cases hd:d<=0;(·(obtain rfl:d=0:=by omega);go_wp2;go_ret;exact⟨o.o,m+1,rfl,U,U,λh=>U⟩);.obtain⟨q,F⟩:∃q:Int,q=(l_ c.N:Int) / 40:=⟨_,rfl⟩;have aG:0<=q/\q<=3518437208883/\(l_ c.N:Int)<=40*q+39:=U;(have aH:decide (d<=0)=false:=by simp;omega);have H:Hid (0<=d-1/\d-1<=40):=O U;obtain⟨f,s⟩:=e_ (w.alloc (.cells #[c.K,d_ c.N,c.lo,c.hi,.slice A (l_ c.J) cap] 27));(have t:f_ f w 27 #[c.K,d_ c.N,c.lo,c.hi,.slice A (l_ c.J) cap]:=by rw[<-s];exact f_.new _ _ _);have ao:=O t;rw[s]at o;have c1:=t.cell 1;clear t hd;go_wp2_with fail;rw[<-F];clear c1 s F;go_loopw [7,8] (λn i wr=>∃(k:Nat)(n':Int),k<=l_ c.J/\i=.int .i64 (k:Int)/\n=.int .i64 n'/\1<=n'/\n'<=m+3600000000000/\Hid (n'<=m->KL c k n')/\Hid (G f wr)) (λ_ i _=>l_ c.J-(intOf i).toNat);exact⟨0,1+q,gZ _,rfl,rfl,U,U,O λ_=>⟨by simp[Cn.sizes];omega,U,λ_ h=>by simp at h⟩,O (fu _ _)⟩;obtain⟨k,n,ay,rfl,rfl,aI,T,I,g⟩:=hrel;have K:=bk g.o ao.o;have c4:N wr w 4 (.slice A (l_ c.J) cap):=K.cell 4;have x:Hid (G w wr):=O (b_ o.o g.o);clear K;by_cases ap:k<l_ c.J;(.by_cases aq:n<=m;(.obtain⟨b,y,rfl,ar,J⟩:=ad.o U;obtain⟨p,a⟩:=g_ ap;obtain⟨az,W,B⟩:=J k p a;obtain⟨L,P,rfl⟩:=B.cells;have C:=x.o;(have D:∀(j:Nat) u,[Value.int .i64 p.K,d_ p.N,.int .i64 p.lo,.int .i64 p.hi,.slice L (l_ p.J) P][j]?=some u->N wr b (y+k*5+j) u:=λj u ae=>(C.cell (p:=a_ b (y+k*5+j)) ar).trans (by have:=W j u ae;rw[<-this];congr 2;omega));have af:N wr b (y+k*5) p.K:=D 0 _ rfl;have ag:=D 1 _ rfl;have ah:=D 2 _ rfl;have ai:=D 3 _ rfl;have aj:=D 4 _ rfl;have au:=O a;have Q:Hid (z 101 #[.agg #[p.K,d_ p.N,p.lo,p.hi,.slice L (l_ p.J) P],V (d-1),V (m-n)] wr (CS wr p (m-n))):=O (an.o p (gV a) _ wr (d-1) (m-n) ⟨_,rfl,B.up C⟩ (am.o.part (gV a)) U U H.o.1 H.o.2);have r1:0<=(k:Int):=U;have ak:(k:Int)<l_ c.J:=U;clear J W B C D a;go_wp2_with (go_at_call 101;refine Q.o.mono ?_;rintro e aA ⟨X,r,rfl,av,aJ,Z⟩;have aw:=O (b_ g.o X);have al:=O Z;clear X Z af ag ah ai aj c4 Q);go_roundw;exact⟨k+1,n+r,U,R,rfl,U,U,O λh=>(I.o aq).next au.o (al.o U) av U,aw⟩;exact M);·(have r1:decide (n<=m)=false:=by simp;omega);have ak:(k:Int)<l_ c.J:=U;go_wp2;go_ret;exact⟨x.o,n,rfl,U,T,λh=>U⟩);·(obtain rfl:k=l_ c.J:=by omega);go_wp2;go_ret;exact⟨x.o,n,rfl,U,T,λh=>(I.o h).all⟩



