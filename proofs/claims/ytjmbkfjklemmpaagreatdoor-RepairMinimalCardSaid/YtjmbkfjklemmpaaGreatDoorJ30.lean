import Derived.Test.YtjmbkfjklemmpaaGreatDoorJ29
set_option linter.all false
set_option maxRecDepth 100000
set_option maxHeartbeats 32000000
namespace Go.Proofs.YtjmbkfjklemmpaaGreatDoor
section
open Go.Maps Go.RowKit Go.Proofs.Tryz
def S1.drop{α:Type}{w:World}{f:α->Value}{b a m c:Nat}{l:List α}(h:S1 w f (.slice (some ⟨b,a,none⟩) m c) l)(n:Nat)(s:n<=l.length):S1 w f (.slice (if c=n then some ⟨b,a,none⟩ else some ⟨b,a+n,none⟩) (m-n) (c-n)) (l.drop n):=by
 obtain⟨t,u,e,v,y,j⟩:=h.form;injection e with k o p;subst o p;have hl:(l.drop n).length=l.length-n:=by rw[fx_]
 have:=S1.mk (w:=w) (f:=f) (l:=l.drop n) (A:=if c=n then some ⟨b,a,none⟩ else some ⟨b,a+n,none⟩) (c:=c-n) U (by unfold maxLen at *;omega) (λB=>by
  obtain⟨C,E,d,hb,hc⟩:=j U;rw[<-k]at d;injection d with d;injection d with q r;subst q r;refine⟨b,a+n,u_ U,hb,λi x g=>?_⟩;have:=hc (n+i) x (by rw[hz_]at g;exact g)
  rwa[<-gx_]at this)
 rwa[hl]at this
def GZ(w:World)(l:List Int)(k:Nat)(e:Ending)(w':World):Prop:=G w w'/\∃u,e=.returned u/\SI w' u (l.take k++l.drop (k+1))
def Y1(v:Value)(l:List Int)(k:Nat)(w:World)(h:SI w v l)(ag:k<l.length)(hl:l.length<=1000000):z 11 #[v,k] w (GZ w l k):=by obtain⟨A,c,rfl,hc,P,m⟩:=h.form;obtain⟨b,ah,rfl,hb,_⟩:=m U;simp only[maxLen]at P;have T:=(S1.take h k U);have a:=S1.drop h (k+1) U;have q1:(k:Int)<=(c:Int):=U;obtain⟨n,r,s,t,y⟩:=qV BJ;(have B:∀o,G w (w.alloc o):=λo=>L_ (fD _ _) o);have C:(w.alloc (.cells #[] 3)).ownsRow w.heap.size 3 1 (.slice (some ⟨w.heap.size,0,none⟩) 0 0) 0 []:=⟨rfl,.inr ⟨w.heap.size,0,#[],rfl,fU _,dj_ w _,fU _,by simp[maxLen],rfl,rfl⟩⟩;clear h m;by_cases E:c=k+1;(case' pos=>subst E;rw[A_ rfl,show l.length-(k+1)=0 by omega,Nat.sub_self]at a);(case' neg=>rw[u_ E]at a);all_goals have W:=O a;clear a;go_in;go_wp2_with (at_builtin;refine gP _ (enc1 iV) rfl _ _ 25 rfl w.heap.size 3 n (.int .i64 0) 1 8 underlying25 r s t y rfl D _ _ _ rfl C _ _ (l.take k) (λ_=>rfl) rfl (T.up (B _)) (λx _ u e=>by(rw[gy.1 e];rfl)) (by(simp only[maxLen,qg];omega)) (by(simp only[qg];omega)) S ?_);intro v5 w5 d F ae;rw[fg_ U,S9]at d;obtain⟨A5,c5,rfl⟩:=o_ d;have H:=O d;have i:G w w5:=((B _).grown F S λg f=>(C.lt g f).1);have ab:=(W.o.up i);have I:=i.size;clear d F ae;go_wp2_with (at_builtin;refine gP _ (enc1 iV) rfl _ _ 25 rfl w.heap.size 3 n (.int .i64 0) 1 8 underlying25 r s t y rfl D _ _ _ rfl H.o _ _ (l.drop (k+1)) (λ_=>rfl) rfl ab (λx _ u e=>by(rw[gy.1 e];rfl)) (by(simp only[maxLen,fx_];omega)) (by(simp only[fx_];omega)) I ?_);intro p q j K af;(have L:q.ownsRow w.heap.size 3 1 p (l.take k++l.drop (k+1)).length ((l.take k++l.drop (k+1)).map iV):=by(have X:(l.take k++l.drop (k+1)).length=k+(l.length-(k+1)):=by rw[lG,qg,fx_];omega);(have Z:(l.take k++l.drop (k+1)).map iV=(l.map iV).take k++(l.drop (k+1)).flatMap (enc1 iV):=by rw[sJ,S9,iq_]);rw[X,Z];first|exact j|((have aa:k+(l.length-(k+1))=k:=U);rw[aa];exact j));have ac:=(iL L);have ad:G w q:=(i.grown K I λg f=>(H.o.lt g f).1);clear j K af L;go_wp2;go_ret;exact⟨ad,p,rfl,ac⟩
def Kr(w:World)(L:List Ax)(out:List Int)(e:Ending)(w':World):Prop:=G w w'/\∃b:Bool,e=.returned b/\(mW L out≠0->b=false)/\(mW L out=0->(b=true↔je (gJ L (wZ (fK L.length out)))=0/\¬Bad (gJ L (wZ (fK L.length out)))))
def Wo(L:List Ax)(v i:Value)(out:List Int)(w:World)(h:lC w v L)(K:SI w i out)(hl:L.length<=100000)(r:∀x∈L,qR x)(ab:∀x∈out,oG x)(ay:out.length<=1000000)(s:kG w):z 9 #[.agg #[v],i] w (Kr w L out):=by obtain⟨A,c,rfl,_,_,_⟩:=h.form;obtain⟨b,p⟩:=e_ (w.alloc (.cells #[.slice A L.length c] 24));obtain⟨P,ac⟩:=e_ w.heap.size;(have q:G w b:=by rw[<-p];exact bA);(have ad:f_ b P 24 #[.slice A L.length c]:=by rw[<-p,<-ac];exact f_.new _ _ _);have g:Hid (z 17 #[.agg #[.slice A L.length c],i] b (xQ b L out)):=O (BU L _ i out b (h.up q) (K.up q) hl r ab ay (s.up q));(have y:Hid (∀(W:World)(A:Option Addr)(c:Nat)(M:List Ax),M.Sublist L->G w W->lC W (.slice A M.length c) M->z 23 #[.agg #[.slice A M.length c]] W (oU W M)):=O λW A c M T av aw=>nW M _ W aw (s.up av) (λx ax=>r x (T.subset ax)) (gT T.length_le hl));have c0:N b P 0 (.slice A L.length c):=ad.cell 0;unfold xQ at g;unfold oU at y;unfold Kr;have ae:Hid ((gJ L (wZ (fK L.length out))).Sublist L):=O (kH _ _);obtain⟨j,B⟩:=e_ (mW L out);obtain⟨N,k⟩:=e_ (gJ L (wZ (fK L.length out)));rw[B,k]at g;rw[k]at ae;rw[B,k];obtain⟨n0,af⟩:=e_ L.length;rw[af]at g c0 p ⊢;clear h K r ab s B k ad hl af;go_in;go_wp2_with fail;refine g.o.mono ?_;rintro e l ⟨ag,m,n,M,rfl,ah,ai,aj⟩;obtain⟨m1,ak⟩:=e_ M.length;obtain⟨f,C⟩:=e_ (l.alloc (.cells #[.slice m m1 n] 24));obtain⟨X,al⟩:=e_ l.heap.size;(have E:Below l.heap.size l f:=by rw[<-C];exact L_ (fD _ _) _);(have am:f_ f X 24 #[.slice m m1 n]:=by rw[<-C,<-al];exact f_.new _ _ _);have c2:f.cell? ⟨X,0,none⟩=some (.slice m m1 n):=am.cell 0;have an:Below w.heap.size w f:=(b_ (b_ q ag) E);(have ao:M.Sublist L:=by by_cases Z:j=0;(·rw[aj Z];exact ae.out);·rw[ai Z];exact List.nil_sublist _);have F:=K_ (y.out f m n M ao an (ah.up E));rw[ak]at F ⊢;clear ag ah ai E am ao ak y g c0;go_wp2_with fail;refine F.o.mono ?_;rintro e aC ⟨ap,ok,rfl,aq,ar⟩;have H:=(b_ an ap);have az:=O aq;have au:=O ar;obtain⟨t,I⟩:=e_ (je M);rw[I]at az au ⊢;clear ap aq ar c2 C al p ac F;by_cases a:j=0;(·have aA:(j==0)=true:=Q a;have aa:=(aj a);have u:=O a;clear a;by_cases d:t=0;(·have aB:(t==0)=true:=Q d;have o:=O d;clear d;go_wp2;go_ret;exact⟨H,ok,rfl,λh=>absurd u.o h,λ_=>by rw[<-aa];exact(au.o o.o).trans ⟨λh=>⟨by rw[I];exact o.o,h⟩,λh=>h.2⟩⟩);·have aB:(t==0)=false:=Q d;have o:=O d;clear d;go_wp2;go_ret;exact⟨H,false,rfl,λ_=>rfl,λ_=>by rw[<-aa];exact⟨λh=>(by cases h),λh=>absurd (I.symm.trans h.1) o.o⟩⟩);·have aA:(j==0)=false:=Q a;have u:=O a;clear a;go_wp2;go_ret;exact⟨H,false,rfl,λ_=>rfl,λh=>absurd h u.o⟩
end
section
open Go.Proofs.Tryz
def yO(P:List Pc):Prop:=∀x∈P,∃b c,h_ 0 x=kP b c
def aaL{P:List Pc}(h:yO P){q:Pc}(a:sQ P q):∃b c,q=kP b c:=by obtain⟨x,d,rfl⟩:=a;exact h x d
def nE{P:List Pc}(h:yO P){q:Pc}(a:sQ P q):q.kind=1:=by obtain⟨b,c,rfl⟩:=aaL h a;rfl
def PD{P:List Pc}(h:yO P){f:Fc}(hf:jK P f):∃a c,f=n_ a c/\lM P a/\∀M:St->Prop,M a->M jo->(∀b d,M b->sQ P (kP b d)->M d)->M c:=by
 induction hf with
 |refl k=>exact⟨_,_,rfl,k,λM h _ _=>h⟩
 |top k=>exact⟨_,_,rfl,k,λM _ h _=>h⟩
 |loop _ g=>exact absurd (nE h g) (show(7:Int)≠1 by decide)
 |sub k g i=>
  obtain⟨a,c,e,j,n⟩:=i;have l:=qQ Fc.A e;have m:=qQ Fc.B e;simp only[n_]at l m;subst l m;exact⟨_,_,rfl,j,λM m1 o m3=>m3 _ _ (n M m1 o m3) g⟩
 |both _ _ j=>exact absurd (nE h j) (show(2:Int)≠1 by decide)
 |some _ g=>exact absurd (nE h g) (show(3:Int)≠1 by decide)
 |role _ g=>exact absurd (nE h g) (show(5:Int)≠1 by decide)
 |chain _ _ j=>exact absurd (nE h j) (show(6:Int)≠1 by decide)
 |fill _ _ j=>exact absurd (nE h j) (show(4:Int)≠1 by decide)
 |none _ _ i=>
  obtain⟨a,c,e,_⟩:=i;exact absurd (qQ Fc.kind e) (show(2:Int)≠1 by decide)
 |value _ g=>exact absurd (nE h g) (show(8:Int)≠1 by decide)
 |meet _ _ _ i=>
  obtain⟨a,c,e,_⟩:=i;exact absurd (qQ Fc.kind e) (show(3:Int)≠1 by decide)
 |apart _ _ _ i=>
  obtain⟨a,c,e,_⟩:=i;exact absurd (qQ Fc.kind e) (show(3:Int)≠1 by decide)
 |out _ g=>exact absurd (nE h g) (show(9:Int)≠1 by decide)
def PE{P:List Pc}(h:yO P){a c:St}(M:St->Prop)(m1:M a)(i:M jo)(m3:∀b d,M b->sQ P (kP b d)->M d)(j:¬M c):¬jK P (n_ a c):=λhf=>by obtain⟨l,m,e,_,k⟩:=PD h hf;have f:=qQ Fc.A e;have g:=qQ Fc.B e;simp only[n_]at f g;subst f g;exact j (k M m1 i m3)
def mQ(P:List Pc):List St:=[jo,iE]++P.map (·.A)++P.map (·.C)
def Kt{P:List Pc}(h:yO P){s:St}(f:lM P s):s∈mQ P:=by unfold mQ;rcases f with rfl|rfl|⟨g,x,d,a⟩;(·simp);(·simp);·obtain⟨b,c,e⟩:=h x d;have i:x.B=[]:=(show(h_ 0 x).B=(kP b c).B by rw[e]);rcases a with a|a|a;(·exact gH.2 (.inl (gH.2 (.inr (pY.2 ⟨x,d,a⟩)))));(·rw[i]at a;exact absurd a.symm g);·exact gH.2 (.inr (pY.2 ⟨x,d,a⟩))
def G5{α:Type}[DecidableEq α]:∀{a b:List α},a.Nodup->(∀x∈a,x∈b)->a.length<=b.length
 |[],_,_,_=>gL _
 |x::a,b,ha,h=>by
  have f:=du_.1 ha;have c:=h x S;(have g:∀y∈a,y∈b.erase x:=λy d=>(hl_ (λe=>f.1 (by rw[<-e];exact d))).2 (h y (by simp[d])));have i:=G5 f.2 g;have j:=hm_ c;have k:0<b.length:=hn_ c;simp only[p8];omega
def Y2{P:List Pc}(h:yO P){n:Nat}(u:(2*P.length+2)*(2*P.length+2)<=n):¬pU P n:=by
 rintro⟨l,i,j,v⟩;have hl:=G5 (b:=(mQ P).flatMap λa=>(mQ P).map λc=>n_ a c) i λf hf=>by obtain⟨a,c,rfl,g,k⟩:=PD h (j f hf);refine gp_.2 ⟨a,Kt h g,pY.2 ⟨c,?_,rfl⟩⟩;(refine k (·∈mQ P) (Kt h g) (by simp[mQ]) λb d _ o=>?_);obtain⟨x,p,e⟩:=o;have q:x.C=d:=(show(h_ 0 x).C=d by rw[e];rfl);exact gH.2 (.inr (pY.2 ⟨x,p,q⟩))
 have t:((mQ P).flatMap λa=>(mQ P).map λc=>n_ a c).length=(mQ P).length*(mQ P).length:=by
  have:∀(l m:List St),(l.flatMap λa=>m.map λc=>n_ a c).length=l.length*m.length:=λl m=>by
   induction l with
   |nil=>simp
   |cons x l r=>simp only[M5,lG,oD,r,p8,ec_];omega
  exact this _ _
 (have s:(mQ P).length=2*P.length+2:=by simp[mQ];omega);rw[t,s]at hl;omega
end
end Go.Proofs.YtjmbkfjklemmpaaGreatDoor
