import Derived.Test.YtjmbkfjklemmpaaGreatDoorJ26
set_option linter.all false
set_option maxRecDepth 100000
set_option maxHeartbeats 32000000
open Go renaming World->W_,Value->V_,maxLen->m_,TypeId->T_,Ending->E_
namespace Go.Proofs.YtjmbkfjklemmpaaGreatDoor
section
open Go.RowKit Go.Shelf Go.Proofs.Tryz
def ug{α:Type}(l:List α)(k:Nat)(x:α):List α:=l.take k++x::l.drop k
def Ka{α:Type}(l:List α)(x:α):ug l l.length x=l++[x]:=by simp[ug]
def Ke{α a:Type}(f:α->a)(l:List α)(k:Nat)(x:α):(ug l k x).map f=ug (l.map f) k (f x):=by simp[ug]
def Kg{α:Type}(l:List α)(k:Nat)(x:α)(a:k<=l.length):(ug l k x).length=l.length+1:=by simp[ug];omega
def Kh{α:Type}{l:List α}{k:Nat}{x:α}(b:k<=l.length){j:Nat}{u:α}(h:(ug l k x)[j]?=some u):(j<k/\l[j]?=some u)\/(j=k/\u=x)\/(k<j/\(l.drop k)[j-(k+1)]?=some u):=by unfold ug at h;rcases Nat.lt_trichotomy j k with a|a|a;(·rw[Qa (by rw[qg];omega),MW,A_ a]at h;exact .inl ⟨a,h⟩);(·rw[WJ (by rw[qg];omega),qg]at h;have:j-min k l.length=0:=U;rw[this]at h;simp at h;exact .inr (.inl ⟨a,h.symm⟩));·rw[WJ (by rw[qg];omega),qg]at h;have:j-min k l.length=(j-(k+1))+1:=U;rw[this,List.getElem?_cons_succ]at h;exact .inr (.inr ⟨a,h⟩)
def pX{w:W_}{base g:Nat}{e:T_}{b:Array V_}{n cap:Nat}{a:List V_}(c:w.heap[g]?=some (.cells b e (0,0)))(hb:base<=g)(f:n<=cap)(h:cap<=m_)(i:b.size=cap)(hl:a.length=n)(hc:∀j u,a[j]?=some u->N w g j u):w.ownsRow base e 1 (.slice (some ⟨g,0,none⟩) n cap) n a:=by refine⟨U,.inr ⟨g,cap,b,rfl,hb,c,f,h,U,?_⟩⟩;apply Zi;intro j;rw[MW];by_cases m:j<n;(·rw[A_ U];obtain⟨u,d⟩:=get_some (l:=a) (k:=j) U;have:=hc j u d;rw[dh_ w g j b e (0,0) c]at this;rw[d,di_,this]);·rw[u_ U,KI U]
def f_.sets{g:Nat}{t:T_}:∀(vs:List V_)(o:Nat){w:W_}{a:Array V_},f_ w g t a->∃b,f_ (w.setCells g o vs) g t b/\b.size=a.size
 |[],_,_,a,h=>⟨a,h,rfl⟩
 |v::vs,o,w,a,h=>by
  obtain⟨b,c,d⟩:=f_.sets vs (o+1) (h.iK o v);exact⟨b,c,by rw[d];simp⟩
def uV{g:Nat}:∀(vs:List V_)(o:Nat){w w':W_},w.grownBy w' (some g)->w.grownBy (w'.setCells g o vs) (some g)
 |[],_,_,_,h=>h
 |v::vs,o,w,w',h=>uV vs (o+1) ⟨h.os,h.tape,h.output,by rw[size_set];exact h.size,λk b a=>(fC w' _ v (λe=>a (by rw[e]))).trans (h.block k b a)⟩
def R9{w w':W_}{o:Option Nat}(h:w.grownBy w' none):w.grownBy w' o:=⟨h.os,h.tape,h.output,h.size,λk a _=>h.block k a S⟩
def qI{g:Nat}{w:W_}(a:w.heap.size<=g):∀(vs:List V_)(o:Nat){w':W_},w.grownBy w' none->w.grownBy (w'.setCells g o vs) none
 |[],_,_,h=>h
 |v::vs,o,w',h=>qI a vs (o+1) ⟨h.os,h.tape,h.output,by rw[size_set];exact h.size,λk b _=>(fC w' _ v (λe=>by simp only at e;omega)).trans (h.block k b S)⟩
def TS(e3:T_)(w:W_)(base:Nat)(v:V_)(xs:List V_)(e:E_)(w':W_):Prop:=∃v',e=.returned v'/\w'.ownsRow base e3 1 v' xs.length xs/\w.grownBy w' v.ownBlock
def uW(n:Nat):(Builtin.zeroCells (Value.int .i64 0).cells n).size=n:=by have:(Value.int .i64 0).cells.size=1:=rfl;simp[Builtin.zeroCells,this]
def yJ(w:W_)(base:Nat)(e:T_)(a:List V_)(n G:Nat)(Z:Array V_)(c:a.length=n)(d:n<=G)(f:G<=m_)(h:Z.size=G-n)(hb:base<=w.heap.size):(w.alloc (.cells (a.toArray++Z) e)).ownsRow base e 1 (.slice (some ⟨w.heap.size,0,none⟩) n G) n a:=by refine pX (dj_ w _) hb d f (by simp;omega) c (λj u b=>?_);have g:=(iR.1 b).1;rw[ji,dk_ (Q g)];simpa using b
def Sb{w w':W_}{r:Option Nat}(h:w.grownBy w' r):w.grownBy w'.drew r:=⟨h.os,h.tape,h.output,h.size,h.block⟩
def Cg(w:W_)(o:Obj):w.grownBy (w.alloc o).drew none:=⟨rfl,rfl,rfl,S,λk a _=>Uf w o k a⟩
def uh(w:W_)(o:Obj)(r:Option Nat):w.grownBy (w.drew.alloc o) r:=⟨rfl,rfl,rfl,S,λk a _=>Uf w.drew o k a⟩
def Pe(base:Nat)(v:V_)(l:List Int)(k:Nat)(x:Int)(f:Nat)(w:W_)(h:w.ownsRow base 3 1 v l.length (l.map iV))(C:k<=l.length)(hl:l.length<=1000000)(E:f_ w f 3 #[iV x])(ae:v.ownBlock≠some f)(T:base<=w.heap.size):z 53 #[v,k,.slice (some ⟨f,0,none⟩) 1 1] w (TS 3 w base v ((ug l k x).map iV)):=by
 (have q:((ug l k x).map iV).length=l.length+1:=by rw[oD,Kg l k x C]);(have s:∀(j:Nat)(u:V_),[iV x][j]?=some u->N w f (0+j) u:=λj u b=>by rw[IZ,E.cell j];simpa using b);(have B:∀u∈[iV x],u.oneCell'=true:=λu d=>by rw[gy.1 d];rfl);(have ab:∀u∈l.map iV,u.oneCell'=true:=λu d=>by obtain⟨y,_,rfl⟩:=pY.1 d;rfl);(have K:∀(m c:Nat),m<=1000001->m<=grownCap w m c 3/\grownCap w m c 3<=m_:=λm c r=>⟨grownCap_ge _ _ _ _,dl_ _ _ _ _ (by simp only[m_];omega)⟩);rcases h.2 with⟨rfl,ac⟩|⟨g,cap,Z,hv,hb,W,X,r,ak,al⟩;·have af:l=[]:=Hl ac;subst af;obtain rfl:k=0:=Q C;refine(Any2.slices_Insert_int_end_grow Tryz.oO none 0 0 f 0 1 1 [] [iV x] w U U U U rfl rfl (λ_=>rfl) (λa e=>by cases e) s B).mono ?_;rintro e w' ⟨rfl,rfl⟩;have n:=K (0+1) 0 U;exact⟨_,rfl,yJ w.drew base 3 [iV x] 1 _ _ rfl n.1 n.2 (uW _) T,uh _ _ _⟩
 ·subst hv
  have o:f_ w g 3 Z:=W;(have t:∀(j:Nat)(u:V_),(l.map iV)[j]?=some u->N w g (0+j) u:=λj u b=>by have:=h.cells (g:=g) rfl j u b;rwa[add_lit]at this);(have ag:g≠f:=λe=>ae (by rw[e];rfl));rcases PX k l.length with L|L
  ·rcases PX cap (l.length+1) with hc|hc
   ·refine(Any2.slices_Insert_int_grow Tryz.oO g 0 l.length cap k f 0 1 1 (l.map iV) [iV x] w L U X hc U S rfl t s ab B).mono ?_
    rintro e w' ⟨rfl,rfl⟩;have n:=K (l.length+1) cap U;refine⟨_,rfl,?_,R9 ?_⟩
    ·rw[q]
     obtain⟨A,H⟩:∃A:Array V_,((l.map iV).take k).toArray++Builtin.zeroCells (Value.int .i64 0).cells (l.length+1-k)++Builtin.zeroCells (Value.int .i64 0).cells (grownCap w (l.length+1) cap 3-(l.length+1))=A:=⟨_,rfl⟩;(have aa:A.size=grownCap w (l.length+1) cap 3:=by rw[<-H,dm_,dm_,uW,uW];simp;omega);(have ah:∀j u,j<k->(l.map iV)[j]?=some u->A[j]?=some u:=λj u b d=>by(have ai:j<(((l.map iV).take k).toArray).size:=by rw[Zg,qg,oD];omega);rw[<-H,Array.append_assoc,dk_ ai,List.getElem?_toArray,MW,A_ b];exact d);show World.ownsRow ((((w.alloc (.cells (((l.map iV).take k).toArray++Builtin.zeroCells (Value.int .i64 0).cells (l.length+1-k)++Builtin.zeroCells (Value.int .i64 0).cells (grownCap w (l.length+1) cap 3-(l.length+1))) 3)).drew.setCells w.heap.size k [iV x]).drew.setCells w.heap.size (k+1) ((l.map iV).drop k))) base 3 1 _ _ _;rw[H];have b1:f_ (w.alloc (.cells A 3)).drew w.heap.size 3 A:=f_.new w 3 A;obtain⟨I,b2,s2⟩:=b1.sets [iV x] k;obtain⟨ad,b3,s3⟩:=(show f_ ((w.alloc (.cells A 3)).drew.setCells w.heap.size k [iV x]).drew w.heap.size 3 I from b2).sets ((l.map iV).drop k) (k+1);refine pX b3 T n.1 n.2 (by rw[s3,s2,aa];rfl) q (λj u b=>?_);rw[Ke]at b;rcases Kh (Q C) b with⟨F,d⟩|⟨rfl,rfl⟩|⟨F,d⟩;(·rw[dn_ _ _ _ _ _ (λ_ _=> .inl (by simp only;omega))];show World.cell? ((w.alloc (.cells A 3)).drew.setCells w.heap.size k [iV x]) _=_;rw[dn_ _ _ _ _ _ (λ_ _=> .inl (by simp only;omega))];exact(b1.cell j).trans (ah j u F d));·rw[dn_ _ _ _ _ _ (λ_ _=> .inl (by simp only;omega))];have:=(b1.iK j (iV x)).cell j;refine this.trans ?_;rw[dp_ U]
     ·have p:=(iR.1 d).1
      have:=World.cell?_setCells_in w.heap.size ((l.map iV).drop k) (k+1) ((w.alloc (.cells A 3)).drew.setCells w.heap.size k [iV x]).drew (λi hi=>by
       show(World.cell? ((w.alloc (.cells A 3)).drew.setCells w.heap.size k [iV x]) _).isSome=true
       rw[b2.cell,ZA (by rw[s2,aa];simp at hi;omega)];rfl) (j-(k+1)) p
      have P:k+1+(j-(k+1))=j:=U;rw[P]at this;rw[this];exact(iR.1 d).2 ▸ rfl
    ·exact qI (fU _) _ _ (Sb (qI (fU _) _ _ (Cg w _)))
   ·refine(Any2.slices_Insert_int_shift Tryz.oO g 0 l.length cap k f 0 1 1 (l.map iV) [iV x] w L U hc r (Zl ag) S rfl t (λj b=>?_) (λj b=>o.frozen _) s ab B 3 3 1 cap ?_ ?_ U (E.frozen _) (E.frozen _)).mono ?_
    (·rw[o.cell,ZA U];rfl);(·unfold World.shape?;rw[show w.heap[f]?=_ from E];rfl);(·unfold World.shape?;rw[W];simp;omega);rintro e w' ⟨rfl,rfl⟩;refine⟨_,rfl,?_,uV _ _ (uV _ _ ⟨rfl,rfl,rfl,fU _,λ_ _ _=>rfl⟩)⟩;rw[q];have b1:f_ w.drew g 3 Z:=o;obtain⟨I,b2,s2⟩:=b1.sets ((l.map iV).drop k) (0+(k+1));obtain⟨ad,b3,s3⟩:=b2.sets [iV x] (0+k);refine pX b3 hb hc r U q (λj u b=>?_);rw[Ke]at b;rcases Kh (Q C) b with⟨F,d⟩|⟨rfl,rfl⟩|⟨F,d⟩;(·rw[dn_ _ _ _ _ _ (λ_ _=> .inl (by simp only;omega)),dn_ _ _ _ _ _ (λ_ _=> .inl (by simp only;omega))];have:=t j u d;rw[IZ]at this;exact this);·have:=(b2.iK (0+j) (iV x)).cell j;refine this.trans ?_;rw[IZ,dp_ U]
    ·have p:=(iR.1 d).1
     rw[dn_ _ _ _ _ _ (λ_ _=> .inr (by simp;omega))]
     have:=World.cell?_setCells_in g ((l.map iV).drop k) (0+(k+1)) w.drew (λi hi=>by
      rw[b1.cell,ZA (by simp at hi;omega)];rfl) (j-(k+1)) p
     have P:0+(k+1)+(j-(k+1))=j:=U;rw[P]at this;rw[this];exact(iR.1 d).2 ▸ rfl
  ·(obtain rfl:k=l.length:=by omega);rcases PX cap (l.length+1) with hc|hc;(·refine(Any2.slices_Insert_int_end_grow Tryz.oO (some ⟨g,0,none⟩) l.length cap f 0 1 1 (l.map iV) [iV x] w U X hc U S rfl (λe=>by cases e) (λa e j u b=>by cases e;rw[add_lit];exact t j u b) s B).mono ?_;rintro e w' ⟨rfl,rfl⟩;have n:=K (l.length+1) cap U;refine⟨_,rfl,?_,uh _ _ _⟩;rw[q,Ka,sJ];exact yJ w.drew base 3 (l.map iV++[iV x]) (l.length+1) _ _ S n.1 n.2 (uW _) T);·refine(Any2.slices_Insert_int_end_room Tryz.oO g 0 l.length cap f 0 1 1 [iV x] w U hc r rfl (λj b=>?_) (λj b=>o.frozen _) s B).mono ?_;(·rw[o.cell,ZA U];rfl);·rintro e w' ⟨rfl,rfl⟩;refine⟨_,rfl,?_,uV _ _ (P8 _ _)⟩;rw[q,Ka,sJ];obtain⟨I,b2,s2⟩:=o.sets [iV x] (0+l.length);refine pX b2 hb hc r U S (λj u b=>?_);rcases PX j l.length with p|p;(·rw[Qa (Q p)]at b;rw[dn_ _ _ _ _ _ (λ_ _=> .inl (by simp only;omega))];have:=t j u b;rwa[IZ]at this);·have aj:=(iR.1 b).1;simp at aj;obtain rfl:j=l.length:=U;rw[WJ S]at b;simp at b;have:=(o.iK (0+l.length) (iV x)).cell l.length;refine this.trans ?_;rw[IZ,dp_ U,<-b]
def yK(l:List Int)(x:Int):Nat:=l.countP λy=>decide (y<x)
def YG(l:List Int)(x:Int):yK l x<=l.length:=List.countP_le_length
def MH(v:V_)(l:List Int)(x:Int)(w:W_)(h:SI w v l)(d:Inc l)(hl:l.length<=1000000):z 52 #[v,x] w λe w'=>∃b:Bool,e=.returned (.tuple #[(yK l x),b])/\G w w':=by obtain⟨A,c,rfl,hc,n,f⟩:=h.form;by_cases g:l.length=0;(·have:l=[]:=Hl g;subst this;refine(Tryz.slices_BinarySearch_int_empty A c x w).mono ?_;rintro e w' ⟨rfl,rfl⟩;exact⟨false,rfl,fD _ _⟩);·obtain⟨b,k,rfl,hb,m⟩:=f U;refine(Tryz.slices_BinarySearch_int b k l.length c l x w (fU _) U (λj i=>?_) ?_).mono ?_;(·obtain⟨y,a⟩:=get_some i;rw[m j y a,KH,a];rfl);(·rw[jh];exact d.imp (λh=>U));·rintro e w' ⟨rfl,q,rfl⟩;rw[jh];exact⟨_,rfl,nJ (fD _ _) q⟩
end
section
open Go.RowKit Go.Proofs.Tryz
def pairs(S:List (List Int))(k:Nat):List (Nat×Int):=(List.range k).flatMap λi=>(S.getD i []).map λx=>(i,x)
def iQ(S:List (List Int))(k j:Nat):List (Nat×Int):=pairs S k++((S.getD k []).take j).map λx=>(k,x)
def qJ(D:List (Nat×Int))(x:Int):List Int:=(D.filter λp=>decide (p.2=x)).map λp=>(p.1:Int)
def uX(S:List (List Int))(k:Nat):pairs S (k+1)=pairs S k++(S.getD k []).map λx=>(k,x):=by unfold pairs;rw[dr_,WK];simp
def MI(S:List (List Int))(k:Nat):iQ S k 0=pairs S k:=by simp[iQ]
def MJ{S:List (List Int)}{k:Nat}{s:List Int}(h:S[k]?=some s):iQ S k s.length=pairs S (k+1):=by unfold iQ;rw[uX,rU h,jh]
def MK{S:List (List Int)}{k j:Nat}{s:List Int}{x:Int}(h:S[k]?=some s)(a:s[j]?=some x):iQ S k (j+1)=iQ S k j++[(k,x)]:=by unfold iQ;rw[rU h,w_ a,sJ,Ho];rfl
def VR(D:List (Nat×Int))(i:Nat)(x y:Int):qJ (D++[(i,x)]) y=if y=x then qJ D y++[(i:Int)] else qJ D y:=by unfold qJ;rw[P9,sJ];by_cases h:y=x;(·rw[A_ h];simp[h]);·rw[u_ h];(have:¬x=y:=λe=>h e.symm);simp[this]
def uY(k:Nat)(x:Int):∀(l:List Int),l.Nodup->(((l.map λy=>(k,y)).filter λp=>decide (p.2=x)).map λp=>(p.1:Int))=if x∈l then[(k:Int)] else[]
 |[],_=>rfl
 |y::l,h=>by
  have a:=du_.1 h;rw[ZB,List.filter_cons];by_cases b:y=x;(·subst b;have:=uY k y l a.2;rw[u_ a.1]at this;simp only[dw_,ZC,ZB,this];simp);·have:=uY k x l a.2;(have c:¬x=y:=λe=>b e.symm);simp only[b,dy_,dz_,ZE,this];simp[c]
def GH{S:List (List Int)}(hv:jq S)(x:Int):∀k≤S.length,qJ (pairs S k) x=((List.range k).filter λi=>decide (x∈S.getD i [])).map λi:Nat=>(i:Int)
 |0,_=>rfl
 |k+1,d=>by
  have b:=GH hv x k U;unfold qJ at b ⊢;obtain⟨s,a⟩:=get_some (l:=S) (k:=k) U;have c:s.Nodup:=(hv s (gM a)).2.imp (λh=>U);rw[uX,P9,sJ,b,rU a,uY k x s c,dr_,P9,sJ];congr 1;by_cases h:x∈s<;>simp[a,h]
def YH{S:List (List Int)}(hv:jq S)(x:Int):qJ (pairs S S.length) x=idxs S x:=GH hv x S.length (fU _)
def xV(S:List (List Int)):∀k≤S.length,(pairs S k).map (·.2)=(S.take k).flatten
 |0,_=>rfl
 |k+1,b=>by
  obtain⟨s,a⟩:=get_some (l:=S) (k:=k) U;rw[uX,sJ,xV S k U,w_ a,List.flatten_append,rU a];simp[Function.comp_def]
def Ki(S:List (List Int))(x:Int):x∈(pairs S S.length).map (·.2)↔x∈S.flatten:=by rw[xV S _ (fU _),jh]
def D6(S:List (List Int))(k:Nat):(S.take k).flatten.length<=S.flatten.length:=by(have h:S.flatten=(S.take k).flatten++(S.drop k).flatten:=by rw[<-List.flatten_append,eb_]);rw[h,lG];omega
def VT(S:List (List Int)){k:Nat}(a:k<=S.length):(pairs S k).length<=S.flatten.length:=by have:=qQ List.length (xV S k a);rw[oD]at this;rw[this];exact D6 S k
def Pf{S:List (List Int)}{k j:Nat}{s:List Int}(h:S[k]?=some s):(iQ S k j).length<=S.flatten.length:=by refine gT ?_ (VT S (k:=k+1) (iR.1 h).1);rw[uX,rU h];unfold iQ;rw[rU h,lG,lG,oD,oD,qg];omega
def IJ(S:List (List Int)):(pairs S S.length).length=S.flatten.length:=by have:=qQ List.length (xV S _ (fU _));rw[oD,jh]at this;exact this
def uj{l:List Int}(h:Valid l):l.length<=1024:=by
 have:=l5 (a:=l) (b:=(List.range 1024).map λi:Nat=>(i:Int)) (h.2.imp (λh=>U)) (λx c=>by
  have:=h.1 x c
  refine pY.2 ⟨x.toNat,Zj.2 U,U⟩)
 simpa using this
def xg{m:Nat}:∀{L:List (List Int)},(∀l∈L,l.length<=m)->L.flatten.length<=L.length*m
 |[],_=>S
 |l::L,h=>by
  have a:=h l S;(have b:=xg (L:=L) λl hl=>h l (by simp[hl]));rw[List.flatten_cons,lG,p8,ec_];omega
def xk(D:List (Nat×Int))(wv:Int->V_):Int->Option V_:=λx=>if x∈D.map (·.2) then some (wv x) else none
def Dp(D:List (Nat×Int)):Int->Option V_:=λx=>if x∈D.map (·.2) then some (.bool true) else none
def Sc(wv:Int->V_)(x:Int)(v:V_):Int->V_:=λy=>if y=x then v else wv y
def Pg{D:List (Nat×Int)}{i:Nat}{x y:Int}(h:¬y=x):y∈(D++[(i,x)]).map (·.2)↔y∈D.map (·.2):=by rw[sJ,gH];exact⟨λa=>a.elim id λb=>absurd (gy.1 b) h,.inl⟩
def Sd(D:List (Nat×Int))(a:Int->V_)(i:Nat)(x:Int)(v:V_):upd (xk D a) x (some v)=xk (D++[(i,x)]) (Sc a x v):=by funext y;unfold upd xk Sc;by_cases h:y=x;(·rw[A_ h,A_ (by simp[h]),A_ h]);·simp only[u_ h,Pg h]
def Sg(D:List (Nat×Int))(i:Nat)(x:Int):upd (Dp D) x (some (.bool true))=Dp (D++[(i,x)]):=by funext y;unfold upd Dp;by_cases h:y=x;(·rw[A_ h,A_ (by simp[h])]);·simp only[u_ h,Pg h]
structure pG(B:Nat)(wr:W_)(D:List (Nat×Int))(wv:Int->V_):Prop where
 own:∀x,wr.ownsRow B 3 1 (wv x) (qJ D x).length ((qJ D x).map iV)
 out:∀x,x∉D.map (·.2)->wv x=.slice none 0 0
 ne:∀x y g,x≠y->(wv x).ownBlock=some g->(wv y).ownBlock≠some g
def pG.kept{B:Nat}{w w':W_}{D:List (Nat×Int)}{a:Int->V_}{row:Option Nat}(h:pG B w D a)(c:w.grownBy w' row)(d:∀k,row=some k->k<B):pG B w' D a:=⟨λx=>gW (h.own x) λg b=>c.block g ((h.own x).lt g b).2 λe=>by have:=((h.own x).lt g b).1;have:=d g e.symm;omega,h.out,h.ne⟩
def pG.alloc{B:Nat}{w:W_}{D:List (Nat×Int)}{a:Int->V_}(h:pG B w D a)(o:Obj):pG B (w.alloc o) D a:=h.kept (ed_ w o none) (λ_ e=>by cases e)
def pG.step{B:Nat}{w w':W_}{D:List (Nat×Int)}{d:Int->V_}(h:pG B w D d){i:Nat}{x:Int}{v:V_}{n:Nat}{j:List V_}(m:n=(qJ D x).length+1)(q:j=(qJ D x).map iV++[iV i])(o:w'.ownsRow B 3 1 v n j)(p:w.grownBy w' (d x).ownBlock)(b:v.ownBlock=(d x).ownBlock\/v.ownBlock=some w.heap.size):pG B w' (D++[(i,x)]) (Sc d x v):=by subst m q;refine⟨λy=>?_,λy a=>?_,λy z g f=>?_⟩;(·rw[VR];unfold Sc;by_cases a:y=x;(·subst a;rw[A_ rfl,A_ rfl];simpa using o);·rw[u_ a,u_ a];exact gW (h.own y) λg l=>p.block g ((h.own y).lt g l).2 λe=>h.ne x y g (λc=>a c.symm) e.symm l);(·unfold Sc;(have:¬y=x:=λe=>a (by simp[e]));rw[u_ this];exact h.out y λr=>a (by simp only[sJ,gH];exact .inl r));·unfold Sc;by_cases a:y=x;(·subst a;rw[A_ rfl,u_ (λe=>f e.symm)];intro e c;rcases b with b|b;(·exact h.ne y z g f (b.symm.trans e) c);·rw[b]at e;injection e with e;have:=((h.own z).lt g c).2;omega);·rw[u_ a];by_cases k:z=x;(·subst k;rw[A_ rfl];intro e c;rcases b with b|b;(·exact h.ne y z g a e (b.symm.trans c));·rw[b]at c;injection c with c;have:=((h.own y).lt g e).2;omega);·rw[u_ k];exact h.ne y z g f
structure NF(w0:W_)(vs:V_)(S:List (List Int))(D:List (Nat×Int))(wr:W_):Prop where
 low:G w0 wr
 size:w0.heap.size+4<=wr.heap.size
 blk:f_ wr (w0.heap.size+1+1) 107 #[vs,.map (some w0.heap.size),.slice (some ⟨w0.heap.size+1+1+1,0,none⟩) S.length S.length,.map (some (w0.heap.size+1)),.slice none 0 0]
 hits:wr.ownsRow (w0.heap.size+1+1+1) 3 1 (.slice (some ⟨w0.heap.size+1+1+1,0,none⟩) S.length S.length) S.length ((vJ S []).map iV)
 free:t_ wr K3 (w0.heap.size+1) D.length (Dp D)
 wth:∃wv,t_ wr K3 w0.heap.size D.length (xk D wv)/\pG (w0.heap.size+4) wr D wv
def NF.drew{b:W_}{vs:V_}{S:List (List Int)}{D:List (Nat×Int)}{wr:W_}(h:NF b vs S D wr):NF b vs S D wr.drew:=by obtain⟨c,d,a⟩:=h.wth;exact⟨h.low.drew,h.size,h.blk,h.hits,h.free,c,d,⟨a.own,a.out,a.ne⟩⟩
def VU(n:Nat)(S:List (List Int))(a:n=S.length):(madeCells (Value.int .i64 0).cells (n*1)).toList=(vJ S []).map iV:=by subst a;apply Zi;intro i;unfold madeCells vJ;rw[ee_];rcases PX i S.length with h|h;(·obtain⟨s,d⟩:=get_some h;(have b:((Value.int .i64 0).cells)[i % ((Value.int .i64 0).cells).size]! =.int .i64 0:=by have c:i % ((Value.int .i64 0).cells).size=0:=Nat.mod_one i;rw[c];rfl);simp[h,b,cnt]);·simp[h]
def YI(w:W_)(L:List (List Int))(e:E_)(w':W_):Prop:=∃K:FK,e=.returned K.p/\K.base0=w.heap.size/\K.base=w'.heap.size/\Dn L K.S/\Fam K w' [] (λ_=>true)/\G w w'
def NF.fam{w f wr:W_}{vs:V_}{ps:List (V_×List Int)}{S:List (List Int)}(F:ps.map (·.2)=S)(j:jL f w.heap.size vs ps)(v:∀p∈ps,Gq w.heap.size p.1)(y:G w f)(hv:jq S)(hl:S.length<=900)(h:NF f vs S (pairs S S.length) wr):Fam ⟨f.heap.size+1+1,vs,f.heap.size,f.heap.size+1+1+1,S.length,f.heap.size+1,S,w.heap.size,wr.heap.size⟩ wr [] (λ_=>true):=by obtain⟨s,I,A,B,t,u,C,E⟩:=h;have K:=y.size;(have H:S.flatten.length<=1000000:=by(have:=xg (m:=1024) (L:=S) λl hl=>uj (hv l hl));omega);refine⟨⟨⟨by simp only;omega,by simp only;omega⟩,⟨by simp only;omega,by simp only;omega⟩,⟨⟨by simp only;omega,by simp only;omega⟩,by simp only;omega,by simp only;omega,by simp only;omega⟩,⟨by simp only;omega,by simp only;omega⟩,⟨by simp only;omega,by simp only;omega⟩,⟨by simp only;omega,by simp only;omega,by simp only;omega⟩,⟨ps,F,gW j.1 λg q=>s.block g (j.1.lt g q).2,λg q=>?_,λp k=>⟨(j.2 p k).1.up s,v p k,?_⟩⟩,⟨u,_,C.congr λx _=>?_,λx d=>?_⟩,hv,⟨by simp only;omega,H⟩⟩,⟨⟨_,A,Ba _ _ _ _⟩,?_,?_⟩⟩;(·have:=(j.1.lt g q).2;refine⟨?_,?_,?_,?_⟩<;>simp only<;>omega);(·refine⟨λa n c e b=>?_,λa n c e b=>?_,λa n c e b=>?_,λa n c e b=>?_⟩;(·have:=(j.2 p k).1.block_lt e b;simp only;omega);all_goals (have:=(j.2 p k).1.block_lt e b;intro i;injection i with i;simp only at i;omega));(·unfold xk YD;have:=Ki S x;by_cases d:x∈S.flatten;(·rw[A_ d,A_ (this.2 d)]);·rw[u_ d,u_ (λh=>d (this.1 h))]);(·have o:=E.own x;rw[YH hv]at o;(have r:∀a n c,u x=.slice (some a) n c->0<n->f.heap.size+4<=a.block/\a.block<wr.heap.size:=λa n c e b=>⟨rP o (fU _) a n c e b,SI.block_lt (iL o) e b⟩);refine⟨iL o,λa n c e b=>?_,λa n c e b=>?_,λa n c e b=>?_,λa n c e b=>?_,λa n c e b=>?_⟩;(·have:=r a n c e b;simp only;omega);(·have:=r a n c e b;simp only;omega);all_goals (have:=r a n c e b;intro i;injection i with i;simp only at i;omega));(·exact jf B (by simp only;omega));·rw[IJ]at t;(refine t.congr λx _=>?_);unfold Dp yI;have:=Ki S x;by_cases d:x∈S.flatten;(·rw[A_ d,A_ (this.2 d)]);·rw[u_ d,u_ (λh=>d (this.1 h))]
def NF.start(a:W_)(vs:V_)(S:List (List Int))(hl:S.length<=900){n:Nat}(l:n=S.length):NF a vs S (pairs S 0) ((((a.alloc (.map #[] 0)).alloc (.map #[] 0)).alloc (.cells #[vs,.map (some a.heap.size),.slice (some ⟨a.heap.size+1+1+1,0,none⟩) S.length S.length,.map (some (a.heap.size+1)),.slice none 0 0] 107)).alloc (.cells (madeCells (Value.int .i64 0).cells n) 3)):=by obtain⟨b,h⟩:∃b:Array V_,b= #[vs,.map (some a.heap.size),.slice (some ⟨a.heap.size+1+1+1,0,none⟩) S.length S.length,.map (some (a.heap.size+1)),.slice none 0 0]:=⟨_,rfl⟩;have j:n=S.length*1:=U;subst j;rw[<-h];have d:(a.alloc (.map #[] 0)).heap.size=a.heap.size+1:=S_;have f:((a.alloc (.map #[] 0)).alloc (.map #[] 0)).heap.size=a.heap.size+1+1:=S_;have c:(((a.alloc (.map #[] 0)).alloc (.map #[] 0)).alloc (.cells b 107)).heap.size=a.heap.size+1+1+1:=S_;have m1:=t_.made a K3;have g:=t_.made (a.alloc (.map #[] 0)) K3;rw[d]at g;have k:=(f_.newAt ((a.alloc (.map #[] 0)).alloc (.map #[] 0)) 107 b f.symm).alloc (.cells (madeCells (Value.int .i64 0).cells (S.length*1)) 3);have i:=World.ownsRow_lit (e:=3) (size:=1) (((a.alloc (.map #[] 0)).alloc (.map #[] 0)).alloc (.cells b 107)) (madeCells (Value.int .i64 0).cells (S.length*1)) S.length (base:=a.heap.size+1+1+1) (by rw[c];exact fU _) (by simp[m_];omega) (size_madeCells _ _);rw[c,VU _ S rfl]at i;refine⟨?_,?_,?_,i,?_,λ_=> .slice none 0 0,?_,⟨λx=>?_,λ_ _=>rfl,λ_ _ _ _ e=>by cases e⟩⟩;(·exact(((fD _ a).alloc (fU _) _).alloc (by rw[d];omega) _).alloc (by rw[f];omega) _ |>.alloc (by rw[c];omega) _);(·simp);(·rw[<-h];exact k);(·have:=(g.alloc (.cells b 107)).alloc (.cells (madeCells (Value.int .i64 0).cells (S.length*1)) 3);exact this.congr λx _=>by simp[Dp,pairs]);(·have:=((m1.alloc (.map #[] 0)).alloc (.cells b 107)).alloc (.cells (madeCells (Value.int .i64 0).cells (S.length*1)) 3);exact this.congr λx _=>by simp[xk,pairs]);·exact Ba _ _ _ _
def NF.cells{a:W_}{vs:V_}{S:List (List Int)}{D:List (Nat×Int)}{wr:W_}(h:NF a vs S D wr):N wr (a.heap.size+1+1) 1 (.map (some a.heap.size))/\N wr (a.heap.size+1+1) 3 (.map (some (a.heap.size+1))):=⟨h.blk.cell 1,h.blk.cell 3⟩
def pG.drew{B:Nat}{w:W_}{D:List (Nat×Int)}{a:Int->V_}(h:pG B w D a):pG B w.drew D a:=⟨h.own,h.out,h.ne⟩
def NF.alloc{a:W_}{vs:V_}{S:List (List Int)}{D:List (Nat×Int)}{wr:W_}(h:NF a vs S D wr)(o:Obj):NF a vs S D (wr.alloc o):=by obtain⟨b,c,d⟩:=h.wth;exact⟨L_ h.low o,by have:=h.size;simp;omega,h.blk.alloc o,h.hits.alloc o,h.free.alloc o,b,c.alloc o,d.alloc o⟩
def NF.afS{a:W_}{vs:V_}{S:List (List Int)}{D:List (Nat×Int)}{f j b:W_}(h:NF a vs S D f){c:Int->V_}(hw:pG (a.heap.size+4) f D c){i:Nat}{x:Int}{v:V_}{n:Nat}{o:List V_}(q:n=(qJ D x).length+1)(t:o=(qJ D x).map iV++[iV i])(r:j.ownsRow (a.heap.size+4) 3 1 v n o)(d:f.grownBy j (c x).ownBlock)(u:v.ownBlock=(c x).ownBlock\/v.ownBlock=some f.heap.size)(s:t_ b K3 a.heap.size (D.length+1) (upd (xk D c) x (some v)))(m:j.grownBy b (some a.heap.size)):G a b/\a.heap.size+4<=b.heap.size/\f_ b (a.heap.size+1+1) 107 #[vs,.map (some a.heap.size),.slice (some ⟨a.heap.size+1+1+1,0,none⟩) S.length S.length,.map (some (a.heap.size+1)),.slice none 0 0]/\ b.ownsRow (a.heap.size+1+1+1) 3 1 (.slice (some ⟨a.heap.size+1+1+1,0,none⟩) S.length S.length) S.length ((vJ S []).map iV)/\t_ b K3 (a.heap.size+1) D.length (Dp D)/\ ∃c,t_ b K3 a.heap.size (D++[(i,x)]).length (xk (D++[(i,x)]) c)/\pG (a.heap.size+4) b (D++[(i,x)]) c:=by(have l:∀k,k<a.heap.size+4->k≠a.heap.size->b.heap[k]?=f.heap[k]? :=λk l w=>by have A:=h.size;have B:=d.size;refine(m.block k U (λe=>w (Dy e))).trans (d.block k U λe=>?_);have:=((hw.own x).lt k e.symm).1;omega);have p:G a j:=h.low.grown d (by have:=h.size;omega) (λk e=>by have:=((hw.own x).lt k e).1;omega);have y:G a b:=p.grown m (by have:=p.size;omega) (λk e=>by injection e with e;omega);refine⟨y,by have:=h.size;have:=d.size;have:=m.size;omega,h.blk.block (l _ U U),gW h.hits λg d=>?_,h.free.block (l _ U U),Sc c x v,?_,(hw.step q t r d u).kept m λk e=>by injection e with e;omega⟩;(·cases d;exact l (a.heap.size+1+1+1) U U);·rw[<-Sd];simpa using s
def NF.afT{a:W_}{vs:V_}{S:List (List Int)}{D:List (Nat×Int)}{b d:W_}{i:Nat}{x:Int}(j:G a b)(s:a.heap.size+4<=b.heap.size)(l:f_ b (a.heap.size+1+1) 107 #[vs,.map (some a.heap.size),.slice (some ⟨a.heap.size+1+1+1,0,none⟩) S.length S.length,.map (some (a.heap.size+1)),.slice none 0 0])(m:b.ownsRow (a.heap.size+1+1+1) 3 1 (.slice (some ⟨a.heap.size+1+1+1,0,none⟩) S.length S.length) S.length ((vJ S []).map iV))(n:∃f,t_ b K3 a.heap.size (D++[(i,x)]).length (xk (D++[(i,x)]) f)/\pG (a.heap.size+4) b (D++[(i,x)]) f)(o:t_ d K3 (a.heap.size+1) (D.length+1) (upd (Dp D) x (some (.bool true))))(c:b.grownBy d (some (a.heap.size+1))):NF a vs S (D++[(i,x)]) d:=by obtain⟨f,p,q⟩:=n;(have h:∀k,k<a.heap.size+4->k≠a.heap.size+1->d.heap[k]?=b.heap[k]? :=λk h r=>c.block k U (λe=>r (Dy e)));refine⟨j.grown c U (λk e=>by injection e with e;omega),by have:=c.size;omega,l.block (h _ U U),gW m λg c=>?_,?_,f,p.block (h _ U U),q.kept c λk e=>by injection e with e;omega⟩;(·cases c;exact h (a.heap.size+1+1+1) U U);·rw[<-Sg];simpa using o
def IK(v:V_)(L:List (List Int))(w:W_)(h:SS w v L)(hv:jq L)(hl:L.length<=900)(ag:Tab w):z 28 #[v] w (YI w L):=by
 (have al:wfS L:=λl hl x q=>by have:=(hv l hl).1 x q;exact r9 U U);have be:=(O4 v L w h al (λl hl=>(hv l hl).2) U (λl hl=>by have:=uj (hv l hl);omega) ag);have bl:= @run_makeMap prog;obtain⟨i0,hi,am,an,ao⟩:=qV info3;go_in;go_wp2_with fail;refine be.mono ?_;rintro e b ⟨vs,ps,rfl,⟨I,aJ⟩,K,aX,ah⟩;obtain⟨S,B⟩:=e_ (ps.map (·.2));rw[B]at K;(have aY:ps.length=S.length:=by rw[<-B,oD]);obtain⟨A,c,ap⟩:=o_ I.1;rw[aY]at aX ap;subst ap;have C:=O K;(have bm:∀W:W_,(Instr.makeSlice 25 (.int .i64 (S.length:Int)) (.int .i64 (S.length:Int))).run prog W=.ok (.slice (some ⟨W.heap.size,0,none⟩) S.length S.length) (W.alloc (.cells (madeCells (Value.int .i64 0).cells (S.length*1)) 3)):=λW=>by have r:i0.size=1:=an;have:=run_make (P:=prog) W 25 3 i0 (.int .i64 0) underlying25 hi am .i64 .i64 S.length S.length U (Int.le_refl _) (by rw[ao];omega) U;simpa[r]using this);go_wp2;go_loopw [27] (λi wr=>∃k:Nat,k<=S.length/\i=.int .i64 k/\Hid (NF b (.slice A S.length c) S (pairs S k) wr)) (λi _=>S.length-(intOf i).toNat);exact⟨0,gL _,rfl,O (NF.start b _ S U U)⟩;obtain⟨k,bh,rfl,d⟩:=hrel;by_cases aZ:k<S.length
 ·obtain⟨s,t⟩:=get_some aZ
  obtain⟨aK,aL,Z,_,_,aa⟩:=I.ss.form;rw[B]at Z aa;(obtain⟨a0,rfl⟩:aK=A/\c=aL:=by injection Z with r aM T;exact⟨r.symm,T⟩);subst a0;obtain⟨b1,ai,rfl,a2,aI⟩:=aa U;obtain⟨u,aj,y⟩:=aI k s t;have aN:=(d.o.low.cell (p:=⟨b1,ai+k,none⟩) a2).trans aj;obtain⟨aO,aP,rfl⟩:=SI.slice_form y;have aQ:=O y;have aq:Valid s:=(hv s (((C.o.2 s).1 (gM t)).1));have bn:=uj aq;have q1:(0:Int)<=(k:Int):=U;have q2:(k:Int)<(S.length:Int):=U;go_wp2_with fail;go_loopw [34] (λi wr=>∃j:Nat,j<=s.length/\i=.int .i64 j/\Hid (NF b (.slice (some ⟨b1,ai,none⟩) S.length c) S (iQ S k j) wr)) (λi _=>s.length-(intOf i).toNat);exact⟨0,gL _,rfl,O (by rw[MI];exact d.o)⟩;obtain⟨j,bi,rfl,d⟩:=hrel;by_cases a3:j<s.length
  ·obtain⟨x,q⟩:=get_some a3
   obtain⟨_,_,ar,_,_,au⟩:=aQ.o.form;(obtain⟨rfl,rfl⟩:_=aO/\_=aP:=by injection ar with r aM T;exact⟨r.symm,T.symm⟩);obtain⟨b2,aR,rfl,a6,av⟩:=au U;have bj:=(d.o.low.cell (p:=⟨b2,aR+j,none⟩) a6).trans (av j x q);have bo:=aq.1 x (gM q);have ab:oG x:=(r9 U U)
   have aw:=(gT (Pf (j:=j) t) (show S.flatten.length<=1000000 from by
    have:=xg (m:=1024) (L:=S) λl hl=>uj (hv l ((C.o.2 l).1 hl).1)
    omega))
   go_upto_region 9 with(fail);obtain⟨aS,ak,E⟩:=d.o.wth;obtain⟨f,c3,F⟩:=o_ (E.own x);(have ac:∀W:W_,W.heap[b.heap.size]?=wr.heap[b.heap.size]? ->(Instr.lookup 104 (.map (some b.heap.size)) (.int .i64 x) false).run prog W=.ok (.slice f (qJ (iQ S k j) x).length c3) W:=λW aT=>by have:=(ak.block aT).look underlying104 (zeroValue25 W) ab;unfold xk at this;rw[<-F];by_cases ad:x∈(iQ S k j).map (·.2);(·rw[A_ ad]at this;exact this);·rw[u_ ad]at this;rw[E.out x ad];exact this);have bp:=d.o.size;have a1:N wr (b.heap.size+1+1) 1 (.map (some b.heap.size)):=d.o.cells.1;have aU:=ac wr.drew rfl;have aV:=ac (wr.alloc (.cells #[k] 3)).drew (Uf wr _ _ U);have ae:wr.ownsRow (b.heap.size+4) 3 1 (.slice f (qJ (iQ S k j) x).length c3) (qJ (iQ S k j) x).length ((qJ (iQ S k j) x).map iV):=(by rw[<-F];exact E.own x);(have bq:(qJ (iQ S k j) x).length<=1000000:=by have:=aw;unfold qJ;rw[oD];exact gT (PY _ _) this);(have af:∀g,g<b.heap.size+4->some g≠(Value.slice f (qJ (iQ S k j) x).length c3).ownBlock:=λg n e=>by have:=(ae.lt g e.symm).1;omega);(have ax:∀(o:Obj)(W:W_),(wr.alloc o).drew.grownBy W (Value.slice f (qJ (iQ S k j) x).length c3).ownBlock->N W (b.heap.size+1+1) 1 (.map (some b.heap.size)):=λo W n=>(He (w:=(wr.alloc o).drew) (a:=⟨b.heap.size+1+1,1,none⟩) (n.block _ (show b.heap.size+1+1<(wr.alloc o).drew.heap.size from by simp;omega) (af _ (by simp only;omega)))).trans (rz a1 o));(have aH:∀(o:Obj)(W:W_),(wr.alloc o).drew.grownBy W (Value.slice f (qJ (iQ S k j) x).length c3).ownBlock->t_ W K3 b.heap.size (iQ S k j).length (xk (iQ S k j) aS):=λo W n=>(ak.alloc o).drew.kept n (af _ U));(have ay:∀(o:Obj)(W:W_),(wr.alloc o).drew.grownBy W (Value.slice f (qJ (iQ S k j) x).length c3).ownBlock->b.heap.size+1+1<W.heap.size:=λo W n=>by have:=n.size;simp at this;omega);have az:(iQ S k j).length<m_:=(by have:=aw;simp only[m_];omega);have aA:some (b.heap.size+1+1)≠some b.heap.size:=(λe=>by injection e;omega);clear af
   go_region_held3 (λW=>N W (b.heap.size+1+1) 1 (.map (some b.heap.size))) (first|exact a1|exact rz a1 _|exact a4|exact a5)
    (first|(refine gX _ (enc1 iV) rfl (.tmp 48) (.tmp 50) 25 rfl (b.heap.size+4) 3 i0 (.int .i64 0) 1 8 underlying25 hi am an ao rfl D _ _ _ rfl (ae.alloc _) _ _ [(k:Int)] (λ_=>rfl) rfl (S1.lit wr wr.heap.size rfl 3 #[k] iV [(k:Int)] 1 rfl rfl (by simp[m_])) (λx _ u y=>by(rw[gy.1 y];rfl)) ?c1 ?c2 ?c3 ?_;(case c1=>(simp only[m_,zC];omega));(case c2=>(simp only[zC];omega));(case c3=>(simp;omega));intro v4 X bg H bf;have a4:N X (b.heap.size+1+1) 1 (.map (some b.heap.size)):=ax _ _ H;obtain⟨w5,aB,a7,aC⟩:=(aH _ _ H).put underlying104 az ab v4;have a8:(Instr.mapUpdate 104 (.map (some b.heap.size)) (iV x) v4).run prog X=.ok () w5:=aB;have a5:N w5 (b.heap.size+1+1) 1 (.map (some b.heap.size)):=(He (w:=X) (a:=⟨b.heap.size+1+1,1,none⟩) (aC.block _ (ay _ _ H) (aA))).trans a4;clear aB)|fail)
   all_goals clear a1 aU aV a8 a4 a5 ax aH ay aA ac;obtain⟨a9,aD,aE,a',ba,bb⟩:=NF.afS (i:=k) (x:=x) (v:=v4) ((d.o.alloc _).drew) ((E.alloc _).drew) rfl rfl bg (by rw[F];exact H) (by rw[F];exact bf) a7 aC;have aW:=aE.cell 3;go_wp2_with (at_mapUpdate;refine iO _ rfl _ _ _ 105 rfl 4 K3 underlying105 (b.heap.size+1) _ _ rfl ba az x ab (.bool true) rfl rfl ?_);intro bk aF aG;have bc:=(NF.afT (i:=k) a9 aD aE a' bb aF aG);go_wp2;go_roundw;exact⟨j+1,U,R,O (by rw[MK t q];exact bc)⟩;exact M
  ·(obtain rfl:j=s.length:=by omega);go_wp2;go_roundw;exact⟨k+1,U,R,O (by rw[<-MJ t];exact d.o)⟩;exact M
 ·(obtain rfl:k=S.length:=by omega);go_wp2;go_ret;(have bd:jq S:=λl hl=>hv l ((C.o.2 l).1 hl).1);exact⟨_,rfl,rfl,rfl,C.o,NF.fam B I aJ ah bd U d.o,b_ ah d.o.low⟩
end
section
open Go.Proofs.Tryz
def Dq(S:List (List Int))(T:List Int):Prop:=Inc T/\(∀s∈S,∃x∈s,x∈T)/\∀x∈T,∃s∈S,x∈s/\∀y∈s,y∈T->y=x
def QM(S:List (List Int))(now:List Int)(fr:Int->Bool)(T:List Int):Prop:=Dq S T/\(∀x∈now,x∈T)/\∀x∈T,x∈now\/fr x=true
def IL(S:List (List Int))(now:List Int)(fr:Int->Bool)(ys:List (List Int)):Prop:=ys.Nodup/\∀T,T∈ys↔QM S now fr T
def Part(S:List (List Int))(now:List Int)(fr:Int->Bool)(ys:List (List Int)):Prop:=ys.Nodup/\∀T∈ys,QM S now fr T
def IL.part{S:List (List Int)}{now:List Int}{fr:Int->Bool}{a:List (List Int)}(h:IL S now fr a):Part S now fr a:=⟨h.1,λT b=>(h.2 T).1 b⟩
def Es{now s:List Int}:0<cnt now s↔∃x∈now,x∈s:=by unfold cnt;rw[List.length_pos_iff_exists_mem];simp
def Ph{now s:List Int}:cnt now s=0↔∀x∈now,x∉s:=by have:= @Es now s;constructor;(·intro h x a b;have:=this.2 ⟨x,a,b⟩;omega);·intro h;rcases ha_ (cnt now s) with c|c;(·exact c);·obtain⟨x,a,b⟩:=this.1 c;exact absurd b (h x a)
def aaF{now s:List Int}(h:cnt now s=1){x y:Int}(c:x∈now)(f:x∈s)(d:y∈now)(g:y∈s):y=x:=by unfold cnt at h;obtain⟨z,e⟩:=ir_.1 h;have a:x∈now.filter (·∈s):=qX.2 ⟨c,Q f⟩;have b:y∈now.filter (·∈s):=qX.2 ⟨d,Q g⟩;rw[e]at a b;rw[gy.1 a,gy.1 b]
def Si{now s:List Int}(c:now.Nodup){x:Int}(d:x∈now)(f:x∈s)(h:∀y∈now,y∈s->y=x):cnt now s=1:=by
 have g:0<cnt now s:=Es.2 ⟨x,d,f⟩
 have i:cnt now s<=1:=by
  unfold cnt
  have:=l5 (a:=now.filter (·∈s)) (b:=[x]) (cu_ _ c) (λy e=>by
   have:=qX.1 e
   exact gy.2 (h y this.1 (Q this.2)))
  simpa using this
 omega
def VW(now s:List Int)(x:Int):cnt (now++[x]) s=cnt now s+if x∈s then 1 else 0:=by unfold cnt;rw[P9,lG];by_cases h:x∈s<;>simp[h]
def qd(l:List Int)(x:Int):x∈mK l↔x∈l:=by unfold mK;exact gq_
def Kj{l:List Int}(h:l.Nodup):Inc (mK l):=by(have d:(mK l).Pairwise (λx y=>decide (x<=y)=true):=by unfold mK;exact ie_ (λa b c d e=>by simp at d e ⊢;omega) (λa b=>by simp;omega) l);(have e:(mK l).Nodup:=by unfold mK;exact(id_ l _).nodup_iff.2 h);refine(d.and e).imp ?_;rintro a b ⟨f,g⟩;simp at f;omega
def VX(l:List Int):(mK l).length=l.length:=by unfold mK;exact by_ _
section
variable{S:List (List Int)}{now:List Int}{fr:Int->Bool}
def Kk(f:now.Nodup)(hc:GA S now)(g:∀s∈S,0<cnt now s):IL S now fr [mK now]:=by refine⟨S_,λT=>?_⟩;rw[gy];constructor;(·rintro rfl;refine⟨⟨Kj f,λs b=>?_,λx a=>?_⟩,λx a=>(qd _ _).2 a,λx a=> .inl ((qd _ _).1 a)⟩;(·obtain⟨x,c,d⟩:=Es.1 (g s b);exact⟨x,d,(qd _ _).2 c⟩);·rw[qd]at a;obtain⟨s,b,c,d⟩:=hc x a;exact⟨s,b,d,λy e k=>aaF c a d ((qd _ _).1 k) e⟩);·rintro⟨⟨c,d,i⟩,h,_⟩;(refine jY c (Kj f) λx=>?_);rw[qd];constructor;(·intro a;obtain⟨s,b,m,j⟩:=i x a;obtain⟨y,e,l⟩:=Es.1 (g s b);rw[<-j y l (h y e)];exact e);·exact h x
def VY{T:List Int}(d:now.Nodup)(h:QM S now fr T):GA S now:=by intro x a;obtain⟨⟨_,_,e⟩,b,_⟩:=h;obtain⟨s,f,c,g⟩:=e x (b x a);exact⟨s,f,Si d a c λy i j=>g y j (b y i),c⟩
def GI(S:List (List Int))(now:List Int)(fr:Int->Bool)(l:List Int)(k:Nat)(ys:List (List Int)):Prop:=ys.Nodup/\∀T,T∈ys↔QM S now fr T/\(∃x∈l.take k,x∈T)/\∀x∈l.drop k,x∉T
def Et(fr:Int->Bool)(l:List Int)(k:Nat)(x:Int):Bool:=fr x&& !(decide (x∈l.drop k))
def Sj(l:List Int):GI S now fr l 0 []:=⟨S_,λT=>S_⟩
def Sk{s l:List Int}{c:List (List Int)}(f:s∈S)(hc:cnt now s=0)(hl:l=s.filter λx=>fr x)(h:GI S now fr l l.length c):IL S now fr c:=by refine⟨h.1,λT=>?_⟩;rw[h.2,jh,Qb];constructor;(·exact λh=>h.1);·intro a;refine⟨a,?_,S_⟩;obtain⟨x,d,e⟩:=a.1.2.1 s f;refine⟨x,?_,e⟩;rw[hl,qX];refine⟨d,?_⟩;rcases a.2.2 x e with b|b;(·exact absurd d (Ph.1 hc x b));·exact b
def Eu{l:List Int}{k:Nat}{x:Int}(f:l[k]?=some x)(hl:l.Nodup)(g:∀y∈l,fr y=true/\y∉now)(T:List Int):QM S (now++[x]) (Et fr l k) T↔QM S now fr T/\x∈T/\∀y∈l.drop (k+1),y∉T:=by have d:l.drop k=x::l.drop (k+1):=drop_cons f;(have n:x∉l.drop (k+1):=by have:(l.drop k).Nodup:=hl.sublist (gf_ k l);rw[d]at this;exact(du_.1 this).1);constructor;(·rintro⟨e,b,c⟩;refine⟨⟨e,λy a=>b y (by simp[a]),λy a=>?_⟩,b x S_,λy a o=>?_⟩;(·rcases c y a with h|h;(·rcases gH.1 h with h|h;(·exact .inl h);·rw[gy.1 h];exact .inr (g x (gM f)).1);·unfold Et at h;exact .inr (Bool.and_eq_true_iff.1 h).1);·rcases c y o with h|h;(·rcases gH.1 h with h|h;(·exact(g y (List.mem_of_mem_drop a)).2 h);·rw[gy.1 h]at a;exact n a);·unfold Et at h;have:=(Bool.and_eq_true_iff.1 h).2;rw[d]at this;simp[a]at this);·rintro⟨⟨e,b,c⟩,j,m⟩;refine⟨e,λy a=>?_,λy a=>?_⟩;(·rcases gH.1 a with a|a;(·exact b y a);·rw[gy.1 a];exact j);·rcases c y a with h|h;(·exact .inl (by simp[h]));·by_cases i:y=x;(·exact .inl (by simp[i]));·refine .inr ?_;unfold Et;rw[d,h];(have:y∉l.drop (k+1):=λh=>m y h a);simp[i,this]
def GJ{l:List Int}{k:Nat}{x:Int}{o zs:List (List Int)}(j:l[k]?=some x)(hl:l.Nodup)(q:∀y∈l,fr y=true/\y∉now)(h:GI S now fr l k o)(c:IL S (now++[x]) (Et fr l k) zs):GI S now fr l (k+1) (o++zs):=by have p:l.drop k=x::l.drop (k+1):=drop_cons j;refine⟨fq_.2 ⟨h.1,c.1,λa r b hb e=>?_⟩,λT=>?_⟩;(·subst e;have d:=((h.2 a).1 r).2.2 x (by rw[p];simp);have m:=((Eu j hl q a).1 ((c.2 a).1 hb)).2.1;exact d m);·rw[gH,h.2,c.2,Eu j hl q,w_ j,p];constructor;(·rintro(⟨d,⟨y,f,i⟩,g⟩|⟨d,m,g⟩);(·exact⟨d,⟨y,by simp[f],i⟩,λz c=>g z (by simp[c])⟩);·exact⟨d,⟨x,S_,m⟩,g⟩);·rintro⟨d,⟨y,f,i⟩,g⟩;by_cases n:x∈T;(·exact .inr ⟨d,n,g⟩);·refine .inl ⟨d,⟨y,?_,i⟩,λz c=>?_⟩;(·rcases gH.1 f with f|f;(·exact f);·rw[gy.1 f]at i;exact absurd i n);·rcases jU.1 c with rfl|c;(·exact n);·exact g z c
def VZ{x:Int}{fr':Int->Bool}(a:(now++[x]).Nodup)(hc:¬GA S (now++[x])):IL S (now++[x]) fr' []:=⟨S_,λT=>by
 constructor;·intro h;cases h
 ·intro h;exact absurd (VY a h) hc⟩
def V3{l:List Int}{k:Nat}{x:Int}{g zs:List (List Int)}(d:l[k]?=some x)(hl:l.Nodup)(i:∀y∈l,fr y=true/\y∉now)(h:GI S now fr l k g)(f:Part S (now++[x]) (Et fr l k) zs):Part S now fr (g++zs):=by have j:l.drop k=x::l.drop (k+1):=drop_cons d;refine⟨fq_.2 ⟨h.1,f.1,λa m b hb e=>?_⟩,λT c=>?_⟩;(·subst e;have n:=((h.2 a).1 m).2.2 x (by rw[j];simp);have o:=((Eu d hl i a).1 (f.2 a hb)).2.1;exact n o);·rcases gH.1 c with c|c;(·exact((h.2 T).1 c).1);·exact((Eu d hl i T).1 (f.2 T c)).1
def xq(S:List (List Int))(now:List Int):Nat:=(S.filter λs=>decide (cnt now s=0)).length
def Sm{s:List Int}{x:Int}(a:s∈S)(hc:cnt now s=0)(b:x∈s):xq S (now++[x])<xq S now:=by unfold xq;(have c:(S.filter λs=>decide (cnt (now++[x]) s=0))=(S.filter λs=>decide (cnt now s=0)).filter λs=>decide (x∉s):=by rw[List.filter_filter];congr 1;funext t;rw[VW];by_cases h:x∈t<;>simp[h]);rw[c];refine ib_.2 ⟨s,qX.2 ⟨a,by simp[hc]⟩,by simp[b]⟩
def YJ(S:List (List Int))(now:List Int):xq S now<=S.length:=PY _ _
end
end
section
open Go.RowKit Go.Proofs.Tryz
def Pj(fr:Int->Bool)(x:Int)(b:Bool):Int->Bool:=λy=>if y=x then b else fr y
def V4{S:List (List Int)}{fr:Int->Bool}{x:Int}(a:x∈S.flatten)(b:Bool):upd (yI S fr) x (some (.bool b))=yI S (Pj fr x b):=by funext y;unfold upd yI Pj;by_cases h:y=x;(·subst h;rw[A_ rfl,A_ a,A_ rfl]);·simp only[u_ h]
section
variable{K:FK}{W W':W_}{now:List Int}{fr:Int->Bool}
def Fam.Ev(h:Fam K W now fr){x:Int}(t:x∈K.S.flatten){b:Bool}{n:Nat}(p:t_ W' K3 K.mf n (upd (yI K.S fr) x (some (.bool b))))(d:W.grownBy W' (some K.mf)):Fam K W' now (Pj fr x b)/\BZ K W W':=by obtain⟨c,q⟩:=h;(have f:∀k,k<W.heap.size->k≠K.mf->W'.heap[k]?=W.heap[k]? :=λk l i=>d.block k l (λe=>i (Dy e)));obtain⟨u,B,hb,m⟩:=q.iT;have r:=f K.a hb.lt c.ne.2.1;(have A:iT K W'=iT K W:=by unfold iT;rw[He (w:=W) (a:=⟨K.a,4,none⟩) r]);rw[V4 t]at p;refine⟨⟨c.keep d.size λk _ i _ _ v=>f k (sK i c.rng.2) v,⟨⟨u,hb.block r,gW m λg j=>f g (m.lt g j).2 λe=>?_⟩,gW q.hits λg j=>?_,p.few K.S.flatten λy _ o=>?_⟩⟩,⟨d.os,d.tape,d.output,d.size,λk l i _=>f k l λe=>?_,.inl A⟩⟩;(·have:=(m.lt g j).1;have:=c.rf.2;omega);(·cases j;exact f K.hb (sK c.rh.2 c.rng.2) c.ne.2.2);(·unfold yI at o;by_cases s:y∈K.S.flatten;(·exact s);·rw[u_ s]at o;exact absurd rfl o);·have:=c.rf;omega
def yc(K:FK)(W:W_)(lv:V_)(l:List Int):Prop:=W.ownsRow K.base 3 1 lv l.length (l.map iV)/\∀g,lv.ownBlock=some g->iT K W≠some g
def qK(K:FK)(W W':W_):Prop:=∀lv l,yc K W lv l->yc K W' lv l
def qK.refl(K:FK)(W:W_):qK K W W:=λ_ _ h=>h
def qK.trans{A B C:W_}(b:qK K A B)(c:qK K B C):qK K A C:=λa l h=>c a l (b a l h)
def BZ.rows(h:BZ K W W'):qK K W W':=by rintro f l ⟨b,d⟩;refine⟨gW b λg a=>h.same g (b.lt g a).2 (.inr (b.lt g a).1) λe=>d g a e.symm,λg a e=>?_⟩;rcases h.now with c|⟨k,i,c⟩;(·exact d g a (c.symm.trans e));·rw[c]at e;injection e with e;have:=(b.lt g a).2;omega
def yc.si{a:V_}{l:List Int}(h:yc K W a l):SI W a l:=iL h.1
structure ML(K:FK)(W W':W_):Prop where
 size:W.heap.size<=W'.heap.size
 fam:∀k,K.base0<=k->k<K.base->W'.heap[k]?=W.heap[k]?
 ints:∀k cs,K.base<=k->W.heap[k]?=some (.cells cs 3 (0,0))->W'.heap[k]?=some (.cells cs 3 (0,0))
def ML.trans{A B C:W_}(c:ML K A B)(d:ML K B C):ML K A C:=⟨gT c.size d.size,λk a b=>(d.fam k a b).trans (c.fam k a b),λk e a b=>d.ints k e a (c.ints k e a b)⟩
def Pk{B:Nat}{size n:Nat}{v:V_}{d:List V_}(h:W.ownsRow B 3 size v n d)(e:ML K W W')(f:K.base<=B):∀g,v.ownBlock=some g->W'.heap[g]?=W.heap[g]? :=by intro g a;rcases h.2 with⟨rfl,_⟩|⟨b,cap,i,rfl,hb,c,_⟩;(·cases a);·obtain rfl:b=g:=Dy a;rw[c];exact e.ints b i (gT f hb) c
def Fam.kp(h:Fam K W now fr)(a:ML K W W'):Fam K W' now fr/\iT K W'=iT K W:=by obtain⟨e,d,_,b⟩:=h.2.iT;exact h.keep a.size a.fam λg c=>Pk b a (fU _) g (d.symm.trans c)
def ML.rows(c:Fam K W now fr)(a:ML K W W'):qK K W W':=by rintro f l ⟨b,d⟩;exact⟨gW b (Pk b a (fU _)),λg e=>by rw[(c.kp a).2];exact d g e⟩
def yc.YK{A:W_}{b:V_}{l:List Int}(a:Fam K W now fr)(_:Fam K A now fr)(hb:G W A)(h:A.ownsRow W.heap.size 3 1 b l.length (l.map iV)):yc K A b l:=by refine⟨jf h a.1.rng.2,λg c e=>?_⟩;rw[(a.up hb).2]at e;obtain⟨i,f,_,d⟩:=a.2.iT;have j:=(d.lt g (f.symm.trans e)).2;have k:=(h.lt g c).1;omega
end
abbrev JT:=List (V_×List Int)->W_->Prop
def WG(K:FK)(J:JT):Prop:=∀s A B now fr,J s A->Fam K A now fr->BZ K A B->J s B
def AU(K:FK)(m:Nat)(lp:Nat)(J Jx:JT):Prop:=∀(pre:List (V_×List Int))(u:V_)(T:List Int)(W:W_)(now:List Int)(fr:Int->Bool),J pre W->Fam K W now fr->yc K W u T->T.length<=1000000-> YieldAt Fence.wide m prog lp #[u] W λe W'=>ML K W W'/\((e=.returned true/\J (pre++[(u,T)]) W')\/(e=.returned false/\Jx (pre++[(u,T)]) W'))
def zl(K:FK)(W:W_)(now:List Int)(fr:Int->Bool)(pre:List (V_×List Int))(J Jx:JT)(e:E_)(W':W_):Prop:=∃(b:Bool)(ys:List (V_×List Int)),e=.returned b/\Fam K W' now fr/\qK K W W'/\ ((b=true/\IL K.S now fr (ys.map (·.2))/\J (pre++ys) W')\/(b=false/\Part K.S now fr (ys.map (·.2))/\Jx (pre++ys) W'))
def Dr(K:FK)(now:List Int)(fr:Int->Bool)(l:List Int)(k:Nat)(pre:List (V_×List Int))(J Jx:JT)(b:Bool)(W:W_):Prop:=∃ys:List (V_×List Int),(b=true/\GI K.S now fr l k (ys.map (·.2))/\J (pre++ys) W)\/(b=false/\Part K.S now fr (ys.map (·.2))/\Jx (pre++ys) W)
def Dr.it{K:FK}{now m:List Int}{fr fr':Int->Bool}{l:List Int}{k:Nat}{pre:List (V_×List Int)}{c d:JT}{b:Bool}{A B:W_}(i:WG K c)(j:WG K d)(h:Dr K now fr l k pre c d b A)(e:Fam K A m fr')(f:BZ K A B):Dr K now fr l k pre c d b B:=by obtain⟨g,a|a⟩:=h;(·exact⟨g,.inl ⟨a.1,a.2.1,i _ _ _ _ _ a.2.2 e f⟩⟩);·exact⟨g,.inr ⟨a.1,a.2.1,j _ _ _ _ _ a.2.2 e f⟩⟩
def V5{K:FK}{m m' lp:Nat}{a b:JT}(h:AU K m lp a b):AU K m' lp a b:=by intro pre u T W now fr e f g i;obtain⟨j,tmps,assign,body,k,d⟩:=h pre u T W now fr e f g i;exact⟨j,tmps,assign,body,k,d.1,λc l _=>d.2 c l (room_wide _)⟩
end
section
open Go.RowKit Go.Shelf Go.Proofs.Tryz
attribute [local go_sem] Zy
def Sn:∀args w,(callFunc 160 args).run prog w=.ok (.enter 160 args) w:=vW func160 (by kernel_rfl) rfl
def Sq(K:FK)(J:JT)(now:List Int)(fr:Int->Bool)(pre:List (V_×List Int))(W:W_):Prop:=now.Nodup/\now.length+xq K.S now<=K.S.length/\(∀x∈now,x∈K.S.flatten)/\GA K.S now/\Fam K W now fr/\J pre W
def Ch{fr:Int->Bool}{t:List Int}{x:Int}(h:fr x=true):(t++[x]).filter (λx=>fr x)=t.filter (λx=>fr x)++[x]:=by simp[P9,h]
def AX{fr:Int->Bool}{t:List Int}{x:Int}(h:fr x=false):(t++[x]).filter (λx=>fr x)=t.filter (λx=>fr x):=by simp[P9,h]
def frT(fr:Int->Bool)(l:List Int)(k:Nat)(x:Int):Bool:=fr x&& !(decide (x∈l.take k))
def YL{fr:Int->Bool}{l:List Int}{k:Nat}{x:Int}(a:l[k]?=some x):Pj (frT fr l k) x false=frT fr l (k+1):=by funext y;unfold Pj frT;rw[w_ a];by_cases h:y=x;(·simp[h]);·simp[h]
def YM(fr:Int->Bool)(l:List Int):frT fr l 0=fr:=by funext y;simp[frT]
def YN(fr:Int->Bool)(l:List Int):frT fr l l.length=Et fr l 0:=by funext y;simp[frT,Et]
def YO(fr:Int->Bool)(l:List Int):Et fr l l.length=fr:=by funext y;simp[Et]
def YP{fr:Int->Bool}{l:List Int}{k:Nat}{x:Int}(a:l[k]?=some x)(hf:fr x=true)(hl:l.Nodup):Pj (Et fr l k) x true=Et fr l (k+1):=by funext y;unfold Pj Et;rw[drop_cons a];(have b:x∉l.drop (k+1):=by have:(l.drop k).Nodup:=hl.sublist (gf_ k l);rw[drop_cons a]at this;exact(du_.1 this).1);by_cases h:y=x;(·subst h;simp[hf,b]);·simp[h]
def Pm(K:FK)(lp bP:Nat)(C Z:JT)(I:WG K C)(ab:WG K Z)(bp:AU K bP lp C Z)(now:List Int)(fr:Int->Bool)(pre:List (V_×List Int))(W:W_)(h:Sq K C now fr pre W)(bQ:∀bm fr' bH a6,xq K.S bm<xq K.S now->Sq K C bm fr' bH a6->z 60 #[K.p,.func (.yield lp) #[] #[]] a6 (zl K a6 bm fr' bH C Z)):z 60 #[K.p,.func (.yield lp) #[] #[]] W (zl K W now fr pre C Z):=by
 refine(x9 (n:=3)).1 ?_;obtain⟨ba,cA,bs,bK,f,bt⟩:=h;have cB:=f.1.few.1;have cr:=f.1.few.2;obtain⟨A,c,bu,bR⟩:=f.1.Cc;obtain⟨ck,cs,ay,bI⟩:=f.2.iT;obtain⟨aS,aT,b7⟩:=o_ bI;subst b7;rw[bu]at ay;have a0:N W K.a 0 (.slice A K.S.length c):=ay.cell 0;have a3:N W K.a 3 (.map (some K.mf)):=ay.cell 3;have a4:N W K.a 4 (.slice aS now.length aT):=ay.cell 4;have b8:=ay.lt;have ct:=O ay;have bS:=O (V5 (m':=2) bp);obtain⟨i0,hi,b9,b',ca⟩:=qV info3;clear bp ay bu;refine callsIn_of_wp func60 rfl trivial ?_ rfl;simp only[ntmps60,Zg,p8,MV,Nat.reduceAdd,Nat.reduceSub,bi_,bj_,bk_,bl_,Zh,IY];gi_wp2_with fail;refine⟨trivial,((x9).2 (RZ K W now fr f)).mono ?_⟩;rintro e a7 ⟨rfl,⟨rfl,bn⟩|⟨j,s,rfl,ap,bb⟩⟩;·have cC:=O bn;gi_wp2_with fail;refine⟨trivial,((x9).2 (RV aS now.length aT W)).mono ?_⟩;rintro e ah ⟨rfl,rfl⟩;obtain⟨bT,cb,cj⟩:=RU W.heap.size (.slice aS now.length aT) now (W.alloc (.cells #[.slice aS now.length aT] 25)) (by rw[ji];rfl) S ((iL bI).al _);gi_wp2_with fail;refine⟨trivial,((x9).2 (O6 160 _ bT now _ Sn cj cb U)).mono ?_⟩;rintro e aa ⟨u,rfl,a8,aq⟩;have aI:G W aa:=b_ ((fD _ W).alloc (fU _) _) aq;have ar:=f.up aI;have bv:yc K aa u (mK now):=yc.YK f ar.1 aI (jf a8 S);obtain⟨cl,c3,cc⟩:=o_ a8;have bw:=I _ _ _ _ _ bt f (BZ.up f aI);obtain⟨cm,tmps,assign,body,m,aB⟩:=bS.o pre u (mK now) aa now fr bw ar.1 bv (by rw[VX];omega);have H:=O ar.1;have cd:Hid (qK K W aa):=O (BZ.up f aI).rows;clear aq aI ar bv bw a8;subst cc;gi_wp2_with fail;refine aB.mono ?_;rintro e E ⟨bx,aJ⟩;have B:=O (H.o.kp bx).1;have aj:=O (cd.o.trans (ML.rows H.o bx));rcases aJ with⟨rfl,aJ⟩|⟨rfl,aJ⟩;(·gi_wp2_with fail;refine qW (bt_ rfl _ _ _) rfl ?_;exact⟨true,[(_,mK now)],rfl,B.o,aj.o,.inl ⟨rfl,Kk ba bK bn,aJ⟩⟩);·gi_wp2_with fail;refine qW (bt_ rfl _ _ _) rfl ?_;exact⟨false,[(_,mK now)],rfl,B.o,aj.o,.inr ⟨rfl,(Kk ba bK bn).part,aJ⟩⟩
 ·obtain⟨b1,cn,rfl,cu,bL⟩:=bR (by have:=(iR.1 ap).1;omega)
  obtain⟨co,bU,bz⟩:=bL j s ap;obtain⟨bV,bW,rfl⟩:=SI.slice_form bz;have cv:=(iR.1 ap).1;have q1:(0:Int)<=(j:Int):=U;have q2:(j:Int)<(K.S.length:Int):=U;have cp:decide ((j:Int)<0)=false:=S;have bB:Hid (Valid s):=O (f.1.valid s (gM ap));have cw:=uj bB.o;(have bc:Hid (∀x∈s,x∈K.S.flatten):=O λx o=>ce_.2 ⟨s,gM ap,o⟩);clear bL;gi_wp2_with fail;gi_loopw [6,33] (λbX i wr=>∃k:Nat,k<=s.length/\i=.int .i64 k/\Hid (wr.ownsRow W.heap.size 3 1 bX ((s.take k).filter λx=>fr x).length (((s.take k).filter λx=>fr x).map iV))/\G W wr) (λ_ i _=>s.length-(intOf i).toNat);exact⟨0,gL _,rfl,O (Ba _ _ _ _),fD _ _⟩;obtain⟨k,bq,rfl,aC,F⟩:=hrel;by_cases aK:k<s.length
  ·obtain⟨x,o⟩:=get_some aK
   obtain⟨_,_,ac,_,_,ad⟩:=bz.form;(obtain⟨rfl,rfl⟩:_=bV/\_=bW:=by injection ac with d aD aH;exact⟨d.symm,aH.symm⟩);obtain⟨b2,a9,rfl,bd,ae⟩:=ad U;have a':=(F.cell (p:=⟨b2,a9+k,none⟩) bd).trans (ae k x o);have cq:N wr K.a 3 (.map (some K.mf)):=(F.cell (p:=⟨K.a,3,none⟩) b8).trans a3;have af:=bc.o x (gM o);have au:=(f.1.uU af).1;have aE:=O (w_ o);(have cx:((s.take k).filter λx=>fr x).length<=1024:=by have:=PY (λx=>fr x) (s.take k);rw[qg]at this;omega);obtain⟨A5,c5,be⟩:=o_ aC.o;subst be
   cases hf:fr x with
   |true=>
    have ce:=(f.up F).1.2.xU af au hf;have cf:=O hf;clear hf af au ac ad ae o;gi_wp2_with (gi_at_builtin;refine wpListIn_append_own _ rfl _ _ 25 rfl W.heap.size 3 i0 (.int .i64 0) 1 8 underlying25 hi b9 b' ca rfl D _ _ _ rfl (aC.o.alloc _) ⟨wr.heap.size,0,none⟩ 1 1 [.int .i64 x] rfl rfl ?c1 ?c2 ?c3 ?c4 ?c5 ?_);(case c1=>exact new1 _ _ rfl _ _);(case c2=>intro y m;rw[gy.1 m];rfl);(case c3=>simp only[m_];omega);(case c4=>omega);(case c5=>have:=F.size;simp;omega);intro v' a7 bM bN _;have cg:G W a7:=(L_ F _).grown bN (by have:=F.size;simp;omega) (λk e=>by exact(aC.o.lt k e).1)
    have bf:Hid (a7.ownsRow W.heap.size 3 1 v' ((s.take (k+1)).filter λx=>fr x).length (((s.take (k+1)).filter λx=>fr x).map iV)):=O (by
     rw[aE.o,Ch cf.o]
     simpa using bM)
    clear bM bN;gi_wp2_with fail;go_roundw;exact⟨k+1,U,S,bf,cg⟩;exact M
   |false=>
    have ce:=(f.up F).1.2.xU af au hf
    have bf:Hid (wr.ownsRow W.heap.size 3 1 (.slice A5 ((s.take k).filter λx=>fr x).length c5) ((s.take (k+1)).filter λx=>fr x).length (((s.take (k+1)).filter λx=>fr x).map iV)):=O (by
     rw[aE.o,AX hf]
     exact aC.o)
    clear hf af au ac ad ae o;gi_wp2_with fail;go_roundw;exact⟨k+1,U,S,bf,F⟩;exact M
  ·obtain rfl:k=s.length:=by omega
   obtain⟨l,hl⟩:∃l,(s.filter λx=>fr x)=l:=⟨_,rfl⟩;have aB:=aC.o;rw[jh,hl]at aB;have bg:=f.up F;have v:Hid (yc K wr u6 l):=O (yc.YK f bg.1 F aB);have bY:=O hl.symm;(have cy:l.length<=1024:=by have:=PY (λx=>fr x) s;rw[hl]at this;omega);(have aU:Hid (∀y∈l,y∈s/\fr y=true):=O λy m=>by rw[<-hl,qX]at m;exact m);have aV:Hid l.Nodup:=O (by rw[<-hl];exact cu_ _ (sV bB.o.2));(have aW:Hid (∀y∈l,fr y=true/\y∉now):=O λy m=>⟨(aU.o y m).2,λh=>Ph.1 bb y h (aU.o y m).1⟩);obtain⟨A5,c5,be⟩:=o_ aB;subst be;have ai:=O bg.1;have av:=O (BZ.up f F);clear aB bg aC hl bU;gi_wp2_with fail;gi_loopw [50] (λi wr=>∃k:Nat,k<=l.length/\i=.int .i64 k/\Hid (Fam K wr now (frT fr l k))/\Hid (yc K wr (.slice A5 l.length c5) l)/\Hid (BZ K W wr)) (λi _=>l.length-(intOf i).toNat);exact⟨0,gL _,rfl,O (by rw[YM];exact ai.o),v,av⟩;clear ai av v F;obtain⟨k,bq,rfl,ai,v,av⟩:=hrel;have aX:Hid (K.S.flatten.length<m_):=O (by simp only[m_];omega);obtain⟨cz,_,bO,_⟩:=ai.o.2.iT;have bZ:N wr K.a 3 (.map (some K.mf)):=bO.cell 3;clear bO;by_cases aK:k<l.length;·obtain⟨x,o⟩:=get_some aK;obtain⟨_,_,ac,_,_,ad⟩:=v.o.si.form;(obtain⟨rfl,rfl⟩:_=A5/\_=c5:=by injection ac with d aD aH;exact⟨d.symm,aH.symm⟩);obtain⟨b2,a9,rfl,bd,ae⟩:=ad U;have a':=ae k x o;have af:=bc.o x (aU.o x (gM o)).1;have au:=(f.1.uU af).1;obtain⟨w5,L,P,T⟩:=ai.o.2.free.put underlying105 aX.o au (.bool false);have bh:(Instr.mapUpdate 105 (.map (some K.mf)) (.int .i64 x) (.bool false)).run prog wr=.ok () w5:=L;obtain⟨w,q⟩:=ai.o.Ev af P T;rw[YL o]at w;have aw:=O w;have ch:=O (av.o.trans q);have az:=O (q.rows _ _ v.o);clear ac ad ae o af au L P T w q;gi_wp2_with fail;go_roundw;exact⟨k+1,U,S,aw,az,ch⟩;exact M
   ·obtain rfl:k=l.length:=by omega
    have ax:Hid (Fam K wr now (Et fr l 0)):=O (by rw[<-YN];exact ai.o);have aF:Hid (Dr K now fr l 0 pre C Z true wr):=O ⟨[],.inl ⟨rfl,Sj l,by rw[Zo];exact I _ _ _ _ _ bt f av.o⟩⟩;have aA:=O av.o.rows;clear ai av;gi_wp2_with fail;gi_loopw [4,62] (λb0 i wr=>∃(k:Nat)(b:Bool),k<=l.length/\i=.int .i64 k/\b0=.bool b/\Hid (Fam K wr now (Et fr l k))/\Hid (yc K wr (.slice A5 l.length c5) l)/\Hid (qK K W wr)/\Hid (Dr K now fr l k pre C Z b wr)) (λ_ i _=>l.length-(intOf i).toNat);exact⟨0,true,gL _,rfl,rfl,ax,v,aA,aF⟩;clear ax v aA aF bZ;obtain⟨k,b,bq,rfl,rfl,ax,v,aA,aF⟩:=hrel;by_cases aK:k<l.length
    ·obtain⟨x,o⟩:=get_some aK
     obtain⟨b3,b4,ac,_,_,ad⟩:=v.o.si.form;(obtain⟨ci,rfl⟩:b3=A5/\c5=b4:=by injection ac with d aD aH;exact⟨d.symm,aH⟩);subst ci;obtain⟨b2,a9,rfl,bd,ae⟩:=ad U;have a':=ae k x o;have aE:=O o;have aY:=aU.o x (gM o);have ag:Hid (x∈K.S.flatten):=O (bc.o x aY.1);have aZ:Hid (oG x):=O (f.1.uU ag.o).1;have bi:Hid (Pj (Et fr l k) x true=Et fr l (k+1)):=O (YP o aY.2 aV.o);have a1:now.length<=100000:=U
     have bC:Hid ((now++[x]).Nodup):=O (fq_.2 ⟨ba,S,λa b5 b hb e=>by
      rw[gy.1 hb]at e;subst e
      exact(aW.o a (gM o)).2 b5⟩)
     have bD:Hid (xq K.S (now++[x])<xq K.S now):=O (Sm (gM ap) bb aY.1);clear ac ad ae o aY;gi_wp2_with fail;refine⟨trivial,((x9).2 (acr K wr now (Et fr l k) x ax.o ag.o a1)).mono ?_⟩;rintro e ah ⟨rfl,ar,a2⟩;have H:=O ar;have aG:=O (aF.o.it I ab ax.o a2);have bo:=O (aA.o.trans a2.rows);have cD:=O (a2.rows _ _ v.o);clear ar a2 ax aF aA v a';rename Hid (yc K ah _ l)=>v
     cases b with
     |false=>
      have ak:=H.o;have X:qK K ah ah:=qK.refl _ _;(have am:Dr K now fr l (k+1) pre C Z false ah:=by obtain⟨t,d|d⟩:=aG.o;(·cases d.1);·exact⟨t,.inr d⟩);clear H aG;have an:=O (ak);have aL:=O (am);have aM:=O (bo.o.trans X);have aN:=O (X _ _ v.o);clear ak am X;gi_wp2_with fail
      (refine⟨trivial,?_⟩;gi_wp2_with fail)
      refine⟨trivial,((x9).2 (GD K _ now (Et fr l k) x an.o ag.o a1)).mono ?_⟩;rintro e E ⟨rfl,r,g⟩;have aO:=O (aL.o.it I ab an.o g);have aj:=O (aM.o.trans g.rows);have aP:=O (g.rows _ _ aN.o);have B:=O r;obtain⟨bE,_,ao,_⟩:=r.2.iT;have g3:N E K.a 3 (.map (some K.mf)):=ao.cell 3;obtain⟨w5,L,P,T⟩:=B.o.2.free.put underlying105 aX.o aZ.o (.bool true);have bh:(Instr.mapUpdate 105 (.map (some K.mf)) (.int .i64 x) (.bool true)).run prog E=.ok () w5:=L;obtain⟨w,q⟩:=B.o.Ev ag.o P T;rw[bi.o]at w;have aw:=O w;have aQ:=O (aO.o.it I ab B.o q);have aR:=O (aj.o.trans q.rows);have az:=O (q.rows _ _ aP.o);clear r g ao L P T w q;gi_wp2_with fail;go_roundw;exact⟨k+1,_,U,S,rfl,aw,az,aR,aQ⟩;exact M
     |true=>
      gi_wp2_with fail;refine⟨trivial,((x9).2 (MG K ah (now++[x]) (Et fr l k) H.o (λy m=>?hw) ?hl)).mono ?_⟩;(case hw=>rcases gH.1 m with m|m;(·exact(f.1.uU (bs y m)).1);·rw[gy.1 m];exact aZ.o);(case hl=>simp;omega);rintro e aa ⟨rfl,aq⟩;have r:=H.o.up aq;have g:=BZ.up H.o aq
      cases a5:iX (GA K.S (now++[x])) with
      |false=>
       have ak:=r.1;have X:qK K ah aa:=g.rows;(have am:Dr K now fr l (k+1) pre C Z true aa:=by obtain⟨t,d|d⟩:=aG.o.it I ab H.o g;(·refine⟨t,.inl ⟨rfl,?_,d.2.2⟩⟩;have:=GJ aE.o aV.o aW.o d.2.1 (VZ (fr':=Et fr l k) bC.o (jD.1 a5));simpa using this);·cases d.1);clear H aG r g aq a5;have an:=O (ak);have aL:=O (am);have aM:=O (bo.o.trans X);have aN:=O (X _ _ v.o);clear ak am X;gi_wp2_with fail;skip;refine⟨trivial,((x9).2 (GD K _ now (Et fr l k) x an.o ag.o a1)).mono ?_⟩;rintro e E ⟨rfl,r,g⟩;have aO:=O (aL.o.it I ab an.o g);have aj:=O (aM.o.trans g.rows);have aP:=O (g.rows _ _ aN.o);have B:=O r;obtain⟨bE,_,ao,_⟩:=r.2.iT;have g3:N E K.a 3 (.map (some K.mf)):=ao.cell 3;obtain⟨w5,L,P,T⟩:=B.o.2.free.put underlying105 aX.o aZ.o (.bool true);have bh:(Instr.mapUpdate 105 (.map (some K.mf)) (.int .i64 x) (.bool true)).run prog E=.ok () w5:=L;obtain⟨w,q⟩:=B.o.Ev ag.o P T;rw[bi.o]at w;have aw:=O w;have aQ:=O (aO.o.it I ab B.o q);have aR:=O (aj.o.trans q.rows);have az:=O (q.rows _ _ aP.o);clear r g ao L P T w q;gi_wp2_with fail;go_roundw;exact⟨k+1,_,U,S,rfl,aw,az,aR,aQ⟩;exact M
      |true=>
       obtain⟨t,bj⟩:∃t:List (V_×List Int),GI K.S now fr l k (t.map (·.2))/\C (pre++t) aa:=by obtain⟨t,d|d⟩:=aG.o.it I ab H.o g;(·exact⟨t,d.2⟩);·cases d.1
       have bF:Hid (Sq K C (now++[x]) (Et fr l k) (pre++t) aa):=O ⟨bC.o,by have:=bD.o;simp;omega,λy m=>by
        rcases gH.1 m with m|m;·exact bs y m
        ·rw[gy.1 m];exact ag.o,iq.1 a5,r.1,bj.2⟩
       have bk:=O bj.1;have bG:=O g;clear bj r g aq a5 H aG;gi_wp2_with fail;refine⟨trivial,((x9).2 (bQ _ _ _ _ bD.o bF.o)).mono ?_⟩;rintro e E ⟨b6,zs,rfl,ak,bJ,br⟩;have X:qK K ah E:=bG.o.rows.trans bJ;(have am:Dr K now fr l (k+1) pre C Z b6 E:=by rcases br with⟨rfl,d,aD⟩|⟨rfl,d,aD⟩;(·refine⟨t++zs,.inl ⟨rfl,?_,by rw[<-Ho];exact aD⟩⟩;rw[sJ];exact GJ aE.o aV.o aW.o bk.o d);·refine⟨t++zs,.inr ⟨rfl,?_,by rw[<-Ho];exact aD⟩⟩;rw[sJ];exact V3 aE.o aV.o aW.o bk.o d);clear bJ br bG bF bk;have an:=O (ak);have aL:=O (am);have aM:=O (bo.o.trans X);have aN:=O (X _ _ v.o);clear ak am X;gi_wp2_with fail;skip;refine⟨trivial,((x9).2 (GD K _ now (Et fr l k) x an.o ag.o a1)).mono ?_⟩;rintro e E ⟨rfl,r,g⟩;have aO:=O (aL.o.it I ab an.o g);have aj:=O (aM.o.trans g.rows);have aP:=O (g.rows _ _ aN.o);have B:=O r;obtain⟨bE,_,ao,_⟩:=r.2.iT;have g3:N E K.a 3 (.map (some K.mf)):=ao.cell 3;obtain⟨w5,L,P,T⟩:=B.o.2.free.put underlying105 aX.o aZ.o (.bool true);have bh:(Instr.mapUpdate 105 (.map (some K.mf)) (.int .i64 x) (.bool true)).run prog E=.ok () w5:=L;obtain⟨w,q⟩:=B.o.Ev ag.o P T;rw[bi.o]at w;have aw:=O w;have aQ:=O (aO.o.it I ab B.o q);have aR:=O (aj.o.trans q.rows);have az:=O (q.rows _ _ aP.o);clear r g ao L P T w q;gi_wp2_with fail;go_roundw;exact⟨k+1,_,U,S,rfl,aw,az,aR,aQ⟩;exact M
    ·(obtain rfl:k=l.length:=by omega);gi_wp2_with fail;refine qW (bt_ rfl _ _ _) rfl ?_;have bl:=ax.o;rw[YO]at bl;obtain⟨t,d|d⟩:=aF.o;(·exact⟨b,t,rfl,bl,aA.o,.inl ⟨d.1,Sk (gM ap) bb bY.o d.2.1,d.2.2⟩⟩);·exact⟨b,t,rfl,bl,aA.o,.inr d⟩
attribute [local go_sem] Zy
def GK(K:FK)(lp c:Nat)(a b:JT)(d:WG K a)(f:WG K b)(e:AU K c lp a b):∀(m:Nat)(now:List Int)(fr:Int->Bool)(pre:List (V_×List Int))(W:W_),xq K.S now<m->Sq K a now fr pre W-> z 60 #[K.p,.func (.yield lp) #[] #[]] W (zl K W now fr pre a b)
 |0,_,_,_,_,h,_=>absurd h U
 |m+1,now,fr,pre,W,h,g=>Pm K lp c a b d f e now fr pre W g λk fr' l i n j=>GK K lp c a b d f e m k fr' l i U j
def Sq.start{K:FK}{a:JT}{W:W_}(b:Fam K W [] (λ_=>true))(h:a [] W):Sq K a [] (λ_=>true) [] W:=⟨hk_,(Q (YJ K.S [])),(λ_ h=>by cases h),(λ_ h=>by cases h),b,h⟩
def Pn(K:FK)(W:W_):z 29 #[K.p] W λe a=>e=.returned (.func (.func 59) #[] #[.pointer (some ⟨W.heap.size,0,none⟩)])/\a=W.alloc (.cells #[K.p] 62):=by go_in;go_wp2;go_ret;exact⟨rfl,rfl⟩
def MN(K:FK)(lp i j:Nat)(c d:JT)(k:WG K c)(q:WG K d)(l:AU K i lp c d)(W:W_)(m:Fam K W [] (λ_=>true))(n:c [] W)(r:N W j 0 K.p):z 59 #[.func (.yield lp) #[] #[],.pointer (some ⟨j,0,none⟩)] W λe o=>(∃v,e=.returned v)/\ ∃a:List (V_×List Int),(IL K.S [] (λ_=>true) (a.map (·.2))/\c a o)\/(Part K.S [] (λ_=>true) (a.map (·.2))/\d a o):=by have H:=(GK K lp i c d k q l (xq K.S []+1) [] (λ_=>true) [] W U (Sq.start m n));clear k q l m n;go_in;go_wp2_with fail;refine H.mono ?_;rintro e s ⟨b,a,rfl,_,_,h⟩;go_wp2;go_end0;refine⟨⟨_,rfl⟩,a,?_⟩;rcases h with⟨_,f,g⟩|⟨_,f,g⟩;(·exact .inl ⟨f,g⟩);·exact .inr ⟨f,g⟩
def aaG(K:FK)(B:Nat)(I:JT)(Ix:Code->JT)(xs:List (V_×List Int))(W:W_):Exit->Act->W_->Prop
 | .normal,_,W'=>KeepsFrom B W W'/\ML K W W'/\I xs W'
 | .ret,_,W'=>KeepsFrom B W W'/\ML K W W'/\Ix .ret xs W'
 | .exit id,_,W'=>KeepsFrom B W W'/\ML K W W'/\Ix (.exit id) xs W'
 | .goto t,_,W'=>KeepsFrom B W W'/\ML K W W'/\Ix (.goto t) xs W'
 | .panic _,_,_=>False
 | .outgrown,_,_=>False
def qL{K:FK}{W:W_}{l:Nat}{o:Obj}(a:Obj)(hl:K.base<=l)(h:W.heap[l]?=some o)(b:o.isCells=false):ML K W (W.putObj l a):=by refine⟨by simp[World.putObj],λk _ c=>Hf U,λk d f hc=>?_⟩;by_cases e:k=l;(·subst e;rw[hc]at h;injection h with h;subst h;cases b);·exact(Hf e).trans hc
def aaH{K:FK}{A:W_}{now:List Int}{fr:Int->Bool}(a:Fam K A now fr){k:Nat}{o:Obj}(h:A.heap[k]?=some o)(b:o.isCells=false):some k≠iT K A:=by intro e;obtain⟨i,d,_,f⟩:=a.2.iT;rw[d]at e;rcases f.2 with⟨rfl,_⟩|⟨g,cap,j,rfl,_,c,_⟩;(·cases e);·obtain rfl:k=g:=Dy e;rw[c]at h;injection h with h;subst h;cases b
def BZ.record{K:FK}{A B:W_}{now:List Int}{fr:Int->Bool}(a:Fam K A now fr)(b:BZ K A B){k:Nat}{o:Obj}(c:K.base<=k)(h:A.heap[k]?=some o)(d:o.isCells=false):B.heap[k]?=some o:=(b.same k (vR.1 h).1 (.inr c) (aaH a h d)).trans h
def aaI{K:FK}{A:W_}{now:List Int}{fr:Int->Bool}(a:Fam K A now fr)(g:Nat)(e:iT K A=some g):g<A.heap.size:=by obtain⟨d,b,_,c⟩:=a.2.iT;exact(c.lt g (b.symm.trans e)).2
def V6{n:Nat}{g:Operand}{ps:Array Tmp}{assign body:Code}{Q:Exit->Act->W_->Prop}{a:Act}{w:W_}(K:FK)(X:Nat)(an:1<=n)(ao:a.eval g=.func (.func 59) #[] #[.pointer (some ⟨X,0,none⟩)])(av:ps.size=1)(ag:Fam K w [] (λ_=>true))(ak:N w X 0 K.p)(I:JT)(Z:Code->JT)(aa:OwnFrom w.heap.size I)(ac:∀c,OwnFrom w.heap.size (Z c))(aw:WG K I)(aF:∀c,WG K (Z c))(ap:I [] w)(ah:V_->Act)
 (aJ:∀(l:Nat)(u:V_)(W:W_)(ai:Act->W_->Prop),ai (ah u) W->
  assign.wpIn (Fence.wide.inRound l) (n-1-1) prog (Exit.then ai (λ_ _ _=>False)) {tmps:=(ps.zip #[u]).foldl (λt (p,v)=>t.setIfInBounds p v) a.tmps,defers:=[]} W)
 (aG:∀(l:Nat)(pre:List (V_×List Int))(u:V_)(T:List Int)(W:W_),w.heap.size<=l->I pre W->yc K W u T->T.length<=1000000->(∀g,iT K W=some g->g<W.heap.size)->body.wpIn (Fence.wide.inRound l) (n-1-1) prog (aaG K w.heap.size I Z (pre++[(u,T)]) W) (ah u) W)
 (aH:∀(D:Nat)(k:List (V_×List Int))(W:W_),w.heap.size<=D->IL K.S [] (λ_=>true) (k.map (·.2))->I k W->W.heap[D]?=some (.deferred (some []))->Q .normal {a with defers:={target:= .collected D,args:= #[]}::a.defers} W)
 (aI:∀(D:Nat)(c:Code)(k:List (V_×List Int))(W:W_),w.heap.size<=D->Part K.S [] (λ_=>true) (k.map (·.2))->Z c k W->W.heap[D]?=some (.deferred (some []))->c.wpIn Fence.wide n prog Q {a with defers:={target:= .collected D,args:= #[]}::a.defers} W):
 (Code.rangeFunc g ps assign body).wpIn Fence.wide n prog Q a w:=by
 refine wpIn_rangeFunc ?_
 intro fn ax
 obtain⟨b,j⟩:∃b:LoopState->Option Code->Loop,b=λst aq=>{state:=st,pending:=aq,fn,tmps:=a.tmps,params:=ps,assign,body,defers:=w.heap.size}:=⟨_,rfl⟩
 obtain⟨m,ab⟩:=e_ ((w.alloc (.deferred (some []))).alloc (.loop (b .ready none)))
 have aM:=ag.1.rng.2
 have ay:m.heap[w.heap.size+1]?=some (.loop (b .ready none)):=by rw[<-ab];have:=iw_ (w.alloc (.deferred (some []))) (.loop (b .ready none));rwa[World.size_alloc]at this
 have az:m.heap[w.heap.size]?=some (.deferred (some [])):=by rw[<-ab];exact(Uf _ _ _ S).trans (iw_ w _)
 have aA:I [] m:=by rw[<-ab];exact aa.alloc _ (aa.alloc _ ap)
 have al:G w m:=by rw[<-ab];exact((fD _ w).alloc (fU _) _).alloc S _
 refine⟨w.heap.size+1,[{target:= .collected w.heap.size,args:= #[]}],m,{target:= .fn (.func 59) #[.pointer (some ⟨X,0,none⟩)],args:= #[.func (.yield (w.heap.size+1)) #[] #[]]},m,59,#[.func (.yield (w.heap.size+1)) #[] #[]]++ #[.pointer (some ⟨X,0,none⟩)],m,?_,?_,λ_ _=>trivial,?_,λ_=>an,(x9).2 ?_⟩
 ·rw[<-ab,j];exact run_enterLoop_outer _ _ _ _ _
 ·simp only[resolve,ao];simp[go_sem]
 ·simp[invoke,go_sem]
 ·refine(MN K (w.heap.size+1) (n-1-1) X (λpre W=>I pre W/\W.heap[w.heap.size+1]?=some (.loop (b .ready none))/\W.heap[w.heap.size]?=some (.deferred (some []))) (λpre W=>∃c,Z c pre W/\W.heap[w.heap.size+1]?=some (.loop (b .done (some c)))/\W.heap[w.heap.size]?=some (.deferred (some []))) (λs A B now fr ae r x=>⟨aw s A B now fr ae.1 r x,x.record r U ae.2.1 rfl,x.record r U ae.2.2 rfl⟩) (λs A B now fr ⟨c,hc,hl,o⟩ r x=>⟨c,aF c s A B now fr hc r x,x.record r U hl rfl,x.record r U o rfl⟩) ?_ m (ag.up al).1 ⟨aA,ay,az⟩ ((al.cell (zy _ _ ak)).trans ak)).mono ?_
  ·rintro pre u T W now fr ⟨hi,hl,o⟩ am aB ar
   have aC:w.heap.size+1<W.heap.size:=(vR.1 hl).1;have af:=run_yield (P:=prog) (args:= #[u]) hl (by rw[j];exact av.symm);rw[j]at af;refine⟨fn,_,assign,body,af,roundIn_of_wpIn ax (aJ _ u W _ ?_)⟩;clear af;refine⟨_,run_beginRound hl (by rw[j]),?_⟩;have hl2:(W.putObj (w.heap.size+1) (.loop {b .ready none with state:= .busy})).heap[w.heap.size+1]?=some (.loop {b .ready none with state:= .busy}):=ix_ aC;have aD:(W.putObj (w.heap.size+1) (.loop {b .ready none with state:= .busy})).heap[w.heap.size]?=some (.deferred (some [])):=(Hf U).trans o;have L:ML K W (W.putObj (w.heap.size+1) (.loop {b .ready none with state:= .busy})):=qL _ U hl rfl;refine wpIn_mono (aG _ pre u T _ U (aa.putObj _ hi U hl rfl) (ML.rows am L _ _ aB) ar (aaI (am.kp L).1)) ?_;(have ad:∀(h:Option Code)(f:W_),KeepsFrom w.heap.size (W.putObj (w.heap.size+1) (.loop {b .ready none with state:= .busy})) f-> (Instr.endRound (w.heap.size+1) h).run prog f=.ok (.bool h.isNone) (f.putObj (w.heap.size+1) (.loop (b (if h.isNone then .ready else .done) h)))/\ f.heap[w.heap.size+1]?=some (.loop {b .ready none with state:= .busy})/\ (f.putObj (w.heap.size+1) (.loop (b (if h.isNone then .ready else .done) h))).heap[w.heap.size+1]?=some (.loop (b (if h.isNone then .ready else .done) h))/\ (f.putObj (w.heap.size+1) (.loop (b (if h.isNone then .ready else .done) h))).heap[w.heap.size]?=some (.deferred (some [])):=λh f i=>by have d:=i.same _ _ U hl2 rfl;have:=run_endRound (P:=prog) h d;rw[j]at this ⊢;exact⟨this,by rw[j]at d;exact d,ix_ (vR.1 d).1,(Hf U).trans (i.same _ _ (fU _) aD rfl)⟩);rintro e a3 f H
   cases e with
   |normal=>
    obtain⟨i,F,y⟩:=H;obtain⟨q,d,C,E⟩:=ad none f i;exact⟨_,_,q,(L.trans F).trans (qL _ U d rfl),.inl ⟨rfl,aa.putObj _ y U d rfl,C,E⟩⟩
   |ret=>
    obtain⟨i,F,y⟩:=H;obtain⟨q,d,C,E⟩:=ad (some .ret) f i;exact⟨_,_,q,(L.trans F).trans (qL _ U d rfl),.inr ⟨rfl,.ret,(ac _).putObj _ y U d rfl,C,E⟩⟩
   |exit aj=>
    obtain⟨i,F,y⟩:=H;obtain⟨q,d,C,E⟩:=ad (some (.exit aj)) f i;exact⟨_,_,q,(L.trans F).trans (qL _ U d rfl),.inr ⟨rfl,.exit aj,(ac _).putObj _ y U d rfl,C,E⟩⟩
   |goto t=>
    obtain⟨i,F,y⟩:=H;obtain⟨q,d,C,E⟩:=ad (some (.goto t)) f i;exact⟨_,_,q,(L.trans F).trans (qL _ U d rfl),.inr ⟨rfl,.goto t,(ac _).putObj _ y U d rfl,C,E⟩⟩
   |panic aK=>exact H.elim
   |outgrown=>exact H.elim
  ·rintro e aL ⟨⟨v,rfl⟩,k,(⟨au,hi,hl,o⟩|⟨aE,c,hi,hl,o⟩)⟩;(·exact⟨none,_,by have:=iy_ (P:=prog) hl (by rw[j];simp);rw[j]at this;exact this,aH _ k _ (fU _) au (aa.putObj _ hi U hl rfl) ((Hf U).trans o)⟩);·exact⟨some c,_,by have:=iy_ (P:=prog) hl (by rw[j];simp);rw[j]at this;exact this,aI _ c k _ (fU _) aE ((ac c).putObj _ hi U hl rfl) ((Hf U).trans o)⟩
def Dt{L S:List (List Int)}(hv:jq L)(h:Dn L S):∀(n:Nat)(l:List Int),l.length<=n->l∈L->∃s∈S,∀x∈s,x∈l
 |0,l,d,hl=>⟨l,(h.2 l).2 ⟨hl,λt _ a=>by have:=a.1;omega⟩,λ_ h=>h⟩
 |n+1,l,d,hl=>by
  by_cases c:∃t∈L,qB t l;(·obtain⟨t,a,b⟩:=c;obtain⟨s,e,g⟩:=Dt hv h n t (by have:=b.1;omega) a;exact⟨s,e,λx f=>b.2 x (g x f)⟩);·exact⟨l,(h.2 l).2 ⟨hl,λt a b=>c ⟨t,a,b⟩⟩,λ_ h=>h⟩
def TT{L S:List (List Int)}(hv:jq L)(h:Dn L S)(T:List Int):Dq S T↔Dq L T:=by(have hb:=λl hl=>Dt hv h l.length l (fU _) hl);constructor;(·rintro⟨e,c,f⟩;refine⟨e,λl hl=>?_,λx b=>?_⟩;(·obtain⟨s,a,d⟩:=hb l hl;obtain⟨x,b,k⟩:=c s a;exact⟨x,d x b,k⟩);·obtain⟨s,a,r⟩:=f x b;exact⟨s,((h.2 s).1 a).1,r⟩);·rintro⟨e,c,f⟩;refine⟨e,λs a=>c s ((h.2 s).1 a).1,λx b=>?_⟩;obtain⟨l,hl,o,g⟩:=f x b;obtain⟨s,a,d⟩:=hb l hl;obtain⟨y,i,m⟩:=c s ((h.2 s).1 a).1;have:=g y (d y i) m;subst this;exact⟨s,a,i,λz j n=>g z (d z j) n⟩
def vK(L N:List (List Int)):Prop:=N.Pairwise vN/\∀T,T∈N↔Dq L T
def vK.unique{L M N:List (List Int)}(a:vK L M)(b:vK L N):M=N:=mG a.1 b.1 λx=>(a.2 x).trans (b.2 x).symm
def YQ{S:List (List Int)}{T:List Int}:QM S [] (λ_=>true) T↔Dq S T:=⟨λh=>h.1,λh=>⟨h,λ_ h=>(by cases h),λ_ _=> .inr rfl⟩⟩
def zm(L:List (List Int))(most:Int):Prop:=jq L/\0<=most/\most<=256
def Po(w:W_)(L:List (List Int))(most:Int)(e:E_)(w':W_):Prop:=
 ∃v M c,e=.returned (.tuple #[v,.int .i64 c])/\SS w' v M/\G w w'/\
  ((¬zm L most/\M=[]/\c=1)\/(zm L most/\vK L M/\(M.length:Int)<=most/\c=0)\/
    (zm L most/\M=[]/\c=2/\∃P:List (List Int),P.Nodup/\(∀T∈P,Dq L T)/\most<P.length))
def cells_of_cell{w:W_}{a:Addr}{v:V_}(h:w.cell? a=some v):∃o,w.heap[a.block]?=some o/\o.isCells=true:=by
 unfold World.cell? at h
 cases hb:w.heap[a.block]? with
 |none=>rw[hb]at h;simp at h
 |some o=>
  rw[hb]at h
  cases o with
  |cells b t c=>exact⟨_,rfl,rfl⟩
  |_=>simp at h
def SI.obj{w:W_}{u:V_}{l:List Int}(h:SI w u l){a:Addr}{n c:Nat}(e:u=.slice (some a) n c)(d:0<n):∃o,w.heap[a.block]?=some o/\o.isCells=true:=by obtain⟨A,m,hv,_,_,f⟩:=h.form;rw[e]at hv;injection hv with g i p;subst g i;obtain⟨b,q,hb,_,k⟩:=f d;injection hb with hb;obtain⟨x,j⟩:=get_some d;have:=cells_of_cell (k 0 x j);rw[hb];exact this
def xW{w:W_}{B:Nat}{e:T_}{size n:Nat}{v:V_}{b:List V_}(h:w.ownsRow B e size v n b){g:Nat}(a:v.ownBlock=some g):∃c,w.heap[g]?=some (.cells c e (0,0)):=by rcases h.2 with⟨rfl,_⟩|⟨d,cap,i,rfl,hb,f,_⟩;(·cases a);·obtain rfl:d=g:=Dy a;exact⟨_,f⟩
structure yg(w:W_)(K:FK)(most:Int)(pre:List (V_×List Int))(W:W_):Prop where
 low:G w W
 b1:f_ W w.heap.size 3 #[most]
 b3:f_ W (w.heap.size+1+1) 29 #[V 0]
 cnt:(pre.length:Int)<=most
 big:K.base<=W.heap.size
 row:∃vx,f_ W (w.heap.size+1) 28 #[vx]/\jL W K.base vx pre/\(∀p∈pre,Gq K.base p.1/\Apart p.1 (iT K W))/\∀g,vx.ownBlock=some g->iT K W≠some g
def yg.move{w:W_}{K:FK}{most:Int}{pre:List (V_×List Int)}{W b:W_}(h:yg w K most pre W)(B:b.os=W.os)(C:b.tape=W.tape)(E:b.output=W.output)(r:W.heap.size<=b.heap.size)(q:∀k,k<w.heap.size+3->b.heap[k]?=W.heap[k]?)(A:∀k o,K.base<=k->W.heap[k]?=some o->o.isCells=true->some k≠iT K W->b.heap[k]?=some o)(P:iT K b=iT K W\/∃k,W.heap.size<=k/\iT K b=some k):yg w K most pre b:=by obtain⟨F,r1,i,m,s⟩:=h.row;(have u:∀k,k<W.heap.size->iT K W≠some k->iT K b≠some k:=λk t L e=>by rcases P with f|⟨j,T,f⟩;(·exact L (f.symm.trans e));·rw[f]at e;injection e with e;omega);(have v:∀p∈pre,SI b p.1 p.2/\Apart p.1 (iT K b):=λp d=>by refine⟨(i.2 p d).1.block r λa n c e f=>?_,λa n c e f H=>u a.block ((i.2 p d).1.block_lt e f) (λI=>(m p d).2 a n c e f I.symm) H.symm⟩;obtain⟨o,x,hc⟩:=(i.2 p d).1.obj e f;rw[A _ o ((m p d).1 a n c e f) x hc ((m p d).2 a n c e f),x]);refine⟨⟨B.trans h.low.os,C.trans h.low.tape,E.trans h.low.output,gT h.low.size r,λk t=>(q k U).trans (h.low.block k t)⟩,h.b1.block (q _ U),h.b3.block (q _ U),h.cnt,gT h.big r,F,r1.block (q _ U),⟨gW i.1 λg l=>?_,λp d=>⟨(v p d).1,(i.2 p d).2⟩⟩,λp d=>⟨(m p d).1,(v p d).2⟩,λg l=>u g (i.1.lt g l).2 (s g l)⟩;obtain⟨X,y⟩:=xW i.1 l;rw[A g _ (i.1.lt g l).1 y rfl (λe=>s g l e.symm),y]
def yg.it{w:W_}{K:FK}{most:Int}(hb:w.heap.size+3<=K.base0):WG K (yg w K most):=by intro s A B now fr h b a;refine h.move a.os a.tape a.output a.size (λk c=>a.same k ?_ (.inl U) λe=>?_) (λk o c d hc g=>(a.same k (vR.1 d).1 (.inr c) g).trans d) a.now;(·have:=b.1.rng;omega);·obtain⟨j,i,_,f⟩:=b.2.iT;have l:=(f.lt k (i.symm.trans e.symm)).1;have:=b.1.rng;omega
def TU{K:FK}{W b:W_}(h:b.heap[K.a]?=W.heap[K.a]?):iT K b=iT K W:=by unfold iT;rw[He (w:=W) (a:=⟨K.a,4,none⟩) h]
def yg.own{w:W_}{K:FK}{most:Int}{B:Nat}(hb:w.heap.size+3<=K.base0)(l:K.a<K.base)(m:K.base<=B)(q:K.base0<=K.base):OwnFrom B (yg w K most):=by intro s W n row h b f;(have i:∀k,k<K.base->some k≠row:=λk g e=>by have:=(f k e.symm).1;omega);have r:=h.big;refine h.move b.os b.tape b.output b.size (λk g=>b.block k U (i k U)) (λk o g d hc _=>(b.block k (vR.1 d).1 λe=>?_).trans d) (.inl (TU (b.block _ U (i _ l))));obtain⟨_,p,c,j⟩:=f k e.symm;rw[d]at c;injection c with c;subst c;rw[hc]at j;cases j
def GL{L:List (List Int)}:∀(n:Nat)(U:List Int),U.length<=n->Inc U->(∀s∈L,∃x∈s,x∈U)->∃H,Dq L H/\∀x∈H,x∈U
 |0,U,g,hi,c=>by
  have:U=[]:=Hl U_;subst this;exact⟨[],⟨hi,c,λx b=>(by cases b)⟩,λ_ h=>h⟩
 |n+1,U,g,hi,c=>by
  by_cases hc:∀x∈U,∃s∈L,x∈s/\∀y∈s,y∈U->y=x;·exact⟨U,⟨hi,c,hc⟩,λ_ h=>h⟩
  ·obtain⟨x,b⟩:=iz_.1 hc
   obtain⟨k,b⟩:=ja_.1 b;have o:(U.filter λy=>decide (y≠x)).length<U.length:=by rcases PX (U.filter λy=>decide (y≠x)).length U.length with h|h;(·exact h);·have p:=PY (λy=>decide (y≠x)) U;have:=(ge_.1 (fl_.eq_of_length_le h)) x k;simp at this
   obtain⟨H,i,j⟩:=GL n (U.filter λy=>decide (y≠x)) U_ (hi.filter _) (λs e=>by
    by_cases f:x∈s;·refine Hr λl=>b ⟨s,e,f,λy a d=>Hr λm=>l ⟨y,a,qX.2 ⟨d,Q m⟩⟩⟩
    ·obtain⟨y,a,d⟩:=c s e
     exact⟨y,a,qX.2 ⟨d,by simp;rintro rfl;exact f a⟩⟩)
   exact⟨H,i,λy a=>(qX.1 (j y a)).1⟩
def Pp:List Int:=(List.range 1024).map λn:Nat=>(n:Int)
def YR:Inc Pp:=by unfold Inc Pp;exact List.Pairwise.map _ (λa b h=>U) List.pairwise_lt_range
def YS{x:Int}:x∈Pp↔0<=x/\x<=1023:=by unfold Pp;rw[pY];constructor;(·rintro⟨n,a,rfl⟩;rw[Zj]at a;omega);·rintro⟨b,c⟩;exact⟨x.toNat,Zj.2 U,U⟩
open Classical in
def YT{L:List (List Int)}(hv:jq L)(p:Int->Prop)(h:∀s∈L,∃x∈s,p x):∃H,Dq L H/\∀x∈H,p x:=by
 obtain⟨H,c,d⟩:=GL (L:=L) _ (Pp.filter λx=>decide (p x)) (fU _) (YR.filter _) (λs b=>by
  obtain⟨x,a,e⟩:=h s b
  exact⟨x,a,qX.2 ⟨YS.2 ((hv s b).1 x a),Q e⟩⟩)
 exact⟨H,c,λx a=>by simpa using(qX.1 (d x a)).2⟩
end
section
open Go.Proofs.Tryz
section
variable{Bd:(Int->Prop)->Prop}{U:List Int}
def uZ(Bd:(Int->Prop)->Prop):Prop:=∀S T:Int->Prop,(∀x,S x->T x)->Bd S->Bd T
def iZ(Bd:(Int->Prop)->Prop)(U T:List Int):Prop:=Inc T/\(∀x∈T,x∈U)/\Bd (·∈T)/\∀x∈T,¬Bd λy=>y∈T/\y≠x
def Clear(Bd:(Int->Prop)->Prop)(U H:List Int):Prop:=¬Bd λy=>y∈U/\y∉H
def Clear.more(b:uZ Bd){H K:List Int}(h:Clear Bd U H)(c:∀x∈H,x∈K):Clear Bd U K:=λhb=>h (b _ _ (λy a=>⟨a.1,λd=>a.2 (c y d)⟩) hb)
def Kl(f:uZ Bd){F C:List Int}(a:iZ Bd U F)(b:iZ Bd U C)(c:∀x∈F,x∈C):F=C:=by refine jY a.1 b.1 λx=>⟨c x,λg=>Hr λh=>b.2.2.2 x g (f _ _ (λy d=>⟨c y d,λe=>h (by rw[<-e];exact d)⟩) a.2.2.1)⟩
def kX:List Int->Int->List Int
 |[],n=>[n]
 |x::l,n=>if n<x then n::x::l else if n=x then x::l else x::kX l n
def qM(n z:Int):∀l:List Int,z∈kX l n↔z∈l\/z=n
 |[]=>by simp[kX]
 |x::l=>by
  unfold kX;by_cases a:n<x;(·rw[A_ a];simp only[jU];constructor;(·rintro(h|h|h);(·exact .inr h);(·exact .inl (.inl h));·exact .inl (.inr h));·rintro((h|h)|h);(·exact .inr (.inl h));(·exact .inr (.inr h));·exact .inl h);·by_cases b:n=x;(·rw[u_ a,A_ b,b];simp only[jU];constructor;(·exact .inl);·rintro(h|h);(·exact h);·exact .inl h);·rw[u_ a,u_ b,jU,qM n z l,jU,gs_]
def AY(n:Int):∀{l:List Int},Inc l->Inc (kX l n)
 |[],_=>by simp[kX]
 |x::l,h=>by
  obtain⟨b,d⟩:=Dz.1 h;unfold kX;by_cases g1:n<x;(·rw[A_ g1];refine Dz.2 ⟨λz a=>?_,h⟩;rcases jU.1 a with rfl|a;(·exact g1);·have:=b z a;omega);·by_cases c:n=x;(·rw[u_ g1,A_ c];exact h);·rw[u_ g1,u_ c];refine Dz.2 ⟨λz a=>?_,AY n d⟩;rcases(qM n z l).1 a with a|rfl;(·exact b z a);·omega
inductive yh(E:List (List Int))(H:List Int):List Int->Nat->Prop
 |here:yh E H H E.length
 |hit {X:List Int} {m:Nat} {s:List Int}:E[m]?=some s->(∃x∈s,x∈X)->yh E H X (m+1)->yh E H X m
 |add {X:List Int} {m:Nat} {s:List Int} {i:Int}:E[m]?=some s->(¬∃x∈s,x∈X)->i∈s->Dq (E.take (m+1)) (kX X i)->yh E H (kX X i) (m+1)->yh E H X m
def yh.sub{E:List (List Int)}{H X:List Int}{m:Nat}(h:yh E H X m):∀x∈X,x∈H:=by
 induction h with
 |here=>exact λ_ h=>h
 |hit _ _ _ a=>exact a
 |add _ _ _ _ _ a=>exact λx b=>a x ((qM _ _ _).2 (.inl b))
def yh.acs{E:List (List Int)}{H X s:List Int}{m:Nat}(h:yh E H X m)(a:E[m]?=some s)(c:∃x∈s,x∈X):yh E H X (m+1):=by
 cases h with
 |here=>rw[KI (fU _)]at a;cases a
 |hit _ _ h=>exact h
 |add b d=>rw[a]at b;injection b with e;subst e;exact absurd c d
def yh.acu{E:List (List Int)}{H X s:List Int}{m:Nat}(h:yh E H X m)(b:E[m]?=some s)(c:¬∃x∈s,x∈X):∃i∈s,Dq (E.take (m+1)) (kX X i)/\yh E H (kX X i) (m+1):=by
 cases h with
 |here=>rw[KI (fU _)]at b;cases b
 |hit a d _=>rw[b]at a;injection a with e;subst e;exact absurd d c
 |add a _ hi f g=>rw[b]at a;injection a with e;subst e;exact⟨_,hi,f,g⟩
def Sr{L:List (List Int)}{s G:List Int}(h:Dq (L++[s]) G):∃X,Dq L X/\(((∃x∈s,x∈X)/\G=X)\/((¬∃x∈s,x∈X)/\∃i∈s,G=kX X i)):=by obtain⟨g,n,o⟩:=h;(have p:∀t∈L,∃x∈t,x∈G:=λt c=>n t (by simp[c]));by_cases A:∀x∈G,∃t∈L,x∈t/\∀y∈t,y∈G->y=x;(·exact⟨G,⟨g,p,A⟩,.inl ⟨n s S,rfl⟩⟩);·obtain⟨i,hi⟩:=iz_.1 A;obtain⟨q,hi⟩:=ja_.1 hi;obtain⟨t,c,hit,j⟩:=o i q;(have B:t=s:=by rcases gH.1 c with c|c;(·exact absurd ⟨t,c,hit,j⟩ hi);·exact gy.1 c);subst B;(have d:∀y,y∈(G.filter λy=>decide (y≠i))↔y∈G/\y≠i:=λy=>by rw[qX];simp);refine⟨G.filter λy=>decide (y≠i),⟨g.filter _,λu b=>?_,λx k=>?_⟩,.inr ⟨?_,i,hit,?_⟩⟩;(·(refine Hr λr=>hi ⟨u,b,?_,λy a l=>Hr λf=>r ⟨y,a,(d y).2 ⟨l,f⟩⟩⟩);obtain⟨y,a,l⟩:=p u b;(have:y=i:=Hr λf=>r ⟨y,a,(d y).2 ⟨l,f⟩⟩);rw[<-this];exact a);(·obtain⟨v,f⟩:=(d x).1 k;obtain⟨u,b,m,C⟩:=o x v;rcases gH.1 b with b|b;(·exact⟨u,b,m,λy a E=>C y a ((d y).1 E).1⟩);·rw[gy.1 b]at m;exact absurd (j x m v) f);(·rintro⟨x,k,w⟩;exact((d x).1 w).2 (j x k ((d x).1 w).1));·(refine jY g (AY _ (g.filter _)) λy=>?_);rw[qM,d];constructor;(·intro a;by_cases e:y=i;(·exact .inr e);·exact .inl ⟨a,e⟩);·rintro(h|rfl);(·exact h.1);·exact q
def Ci{E:List (List Int)}{H:List Int}:∀(m:Nat){G:List Int},m<=E.length->Dq (E.take m) G->yh E H G m->yh E H [] 0
 |0,G,_,b,c=>by
  have:G=[]:=by
   cases G with
   |nil=>rfl
   |cons x l=>obtain⟨s,a,_⟩:=b.2.2 x S;simp at a
  rw[<-this];exact c
 |m+1,G,j,b,c=>by
  obtain⟨s,a⟩:∃s,E[m]?=some s:=⟨_,qY U_⟩;(have f:E.take (m+1)=E.take m++[s]:=by rw[DC,a];rfl);have e:=b;rw[f]at e;obtain⟨X,d,⟨g,rfl⟩|⟨h,i,hi,rfl⟩⟩:=Sr e;(·exact Ci m U_ d (.hit a g c));·exact Ci m U_ d (.add a h hi b c)
structure SearchI(Bd:(Int->Prop)->Prop)(U:List Int)(found:List (List Int))(stack:List (List Int×Nat)):Prop where
 nd:found.Nodup
 bad:∀F∈found,iZ Bd U F
 node:∀q∈stack,q.2<=found.length/\Dq (found.take q.2) q.1
 all:∀E,found<+:E->∀H,Dq E H->Clear Bd U H\/∃q∈stack,yh E H q.1 q.2
def SearchI.start:SearchI Bd U [] [([],0)] where
 nd:=hk_
 bad:=λ_ h=>(by cases h)
 node:=λq a=>by rw[gy.1 a];exact⟨fU _,List.Pairwise.nil,λ_ h=>by simp at h,λ_ h=>(by cases h)⟩
 all:=λE _ H b=> .inr ⟨_,gy.2 rfl,Ci E.length (fU _) (by rwa[jh]) .here⟩
variable{found:List (List Int)}{stack:List (List Int×Nat)}{X:List Int}{m:Nat}
def SearchI.hit(h:SearchI Bd U found (stack++[(X,m)])){s:List Int}(c:found[m]?=some s)(e:∃x∈s,x∈X):SearchI Bd U found (stack++[(X,m+1)]) where
 nd:=h.nd
 bad:=h.bad
 node:=λq a=>by rcases gH.1 a with a|a;(·exact h.node q (gH.2 (.inl a)));·rw[gy.1 a];obtain⟨f,i,j,k⟩:=h.node (X,m) (gH.2 (.inr (gy.2 rfl)));have hl:=(iR.1 c).1;(have l:found.take (m+1)=found.take m++[s]:=by rw[DC,c];rfl);refine⟨hl,?_⟩;show Dq (found.take (m+1)) X;rw[l];refine⟨i,λt b=>?_,λx n=>?_⟩;(·rcases gH.1 b with b|b;(·exact j t b);·rw[gy.1 b];exact e);·obtain⟨t,b,r⟩:=k x n;exact⟨t,gH.2 (.inl b),r⟩
 all:=λE g H o=>by rcases h.all E g H o with f|⟨q,a,d⟩;(·exact .inl f);·rcases gH.1 a with a|a;(·exact .inr ⟨q,gH.2 (.inl a),d⟩);·rw[gy.1 a]at d;obtain⟨r,rfl⟩:=g;have hl:=(iR.1 c).1;exact .inr ⟨_,gH.2 (.inr (gy.2 rfl)),d.acs (by rw[Qa hl];exact c) e⟩
def SearchI.close(c:uZ Bd)(h:SearchI Bd U found (stack++[(X,m)]))(hc:Clear Bd U X):SearchI Bd U found stack where
 nd:=h.nd
 bad:=h.bad
 node:=λq a=>h.node q (gH.2 (.inl a))
 all:=λE d H e=>by rcases h.all E d H e with f|⟨q,a,b⟩;(·exact .inl f);·rcases gH.1 a with a|a;(·exact .inr ⟨q,a,b⟩);·rw[gy.1 a]at b;exact .inl (hc.more c b.sub)
def SearchI.find(h:SearchI Bd U found (stack++[(X,found.length)])){T:List Int}(d:iZ Bd U T)(f:∀x∈T,x∉X)(g:∀s∈found,∃x∈s,x∈X):SearchI Bd U (found++[T]) (stack++[(X,found.length)]) where
 nd:=fq_.2 ⟨h.nd,S,λa i b hb e=>by
  rw[gy.1 hb]at e;subst e;obtain⟨x,j,r⟩:=g _ i
  exact f x j r⟩
 bad:=λF c=>by rcases gH.1 c with c|c;(·exact h.bad F c);·rw[gy.1 c];exact d
 node:=λq k=>by obtain⟨l,n⟩:=h.node q k;rw[ip_ l];exact⟨by simp;omega,n⟩
 all:=λE o H p=>h.all E (List.IsPrefix.trans (List.prefix_append _ _) o) H p
def SearchI.split(h:SearchI Bd U found (stack++[(X,m)])){s:List Int}(c:found[m]?=some s)(g:¬∃x∈s,x∈X){more:List (List Int×Nat)}(f:∀q,q∈more↔∃i∈s,q=(kX X i,m+1)/\Dq (found.take (m+1)) (kX X i)):SearchI Bd U found (stack++more) where
 nd:=h.nd
 bad:=h.bad
 node:=λq a=>by rcases gH.1 a with a|a;(·exact h.node q (gH.2 (.inl a)));·obtain⟨i,_,rfl,b⟩:=(f q).1 a;exact⟨(iR.1 c).1,b⟩
 all:=λE e H j=>by rcases h.all E e H j with k|⟨q,a,d⟩;(·exact .inl k);·rcases gH.1 a with a|a;(·exact .inr ⟨q,gH.2 (.inl a),d⟩);·rw[gy.1 a]at d;obtain⟨r,rfl⟩:=e;have hl:=(iR.1 c).1;obtain⟨i,hi,b,l⟩:=d.acu (by rw[Qa hl];exact c) g;rw[ip_ hl]at b;exact .inr ⟨_,gH.2 (.inr ((f _).2 ⟨i,hi,rfl,b⟩)),l⟩
def SearchI.done(d:uZ Bd)(hv:∀x∈U,0<=x/\x<=1023)(h:SearchI Bd U found [])(C:List Int):C∈found↔iZ Bd U C:=by refine⟨h.bad C,λb=>Hr λf=>?_⟩;(have p:jq found:=λF a=>⟨λx c=>hv x ((h.bad F a).2.1 x c),(h.bad F a).1⟩);(obtain⟨H,g,k⟩:=YT p (λx=>x∉C) λF a=>Hr λl=>by refine f ?_;rw[<-Kl d (h.bad F a) b λx c=>Hr λn=>l ⟨x,c,n⟩];exact a);rcases h.all found (List.prefix_refl _) H g with i|⟨q,j,_⟩;(·exact i (d _ _ (λy e=>⟨b.2.1 y e,λo=>k y o e⟩) b.2.2.1));·cases j
end
section
variable{Bd:(Int->Prop)->Prop}{U:List Int}
def Cj(e:uZ Bd):∀(n:Nat)(S:List Int),S.length<=n->Inc S->(∀x∈S,x∈U)->(Bd (·∈S))->∃T,iZ Bd U T/\∀x∈T,x∈S
 |0,S,f,hi,c,hb=>by
  have:S=[]:=Hl U_;subst this;exact⟨[],⟨hi,c,hb,λx a=>(by cases a)⟩,λ_ h=>h⟩
 |n+1,S,f,hi,c,hb=>by
  (by_cases hc:∀x∈S,¬Bd λy=>y∈S/\y≠x);(·exact⟨S,⟨hi,c,hb,hc⟩,λ_ h=>h⟩);·obtain⟨x,a⟩:=iz_.1 hc;obtain⟨j,a⟩:=ja_.1 a;have a:=Classical.not_not.1 a;(have d:∀y,y∈(S.filter λy=>decide (y≠x))↔y∈S/\y≠x:=λy=>by rw[qX];simp);(have k:(S.filter λy=>decide (y≠x)).length<S.length:=by rcases PX (S.filter λy=>decide (y≠x)).length S.length with h|h;(·exact h);·have l:=PY (λy=>decide (y≠x)) S;have:=(ge_.1 (fl_.eq_of_length_le h)) x j;simp at this);obtain⟨T,g,i⟩:=Cj e n (S.filter λy=>decide (y≠x)) U_ (hi.filter _) (λy b=>c y ((d y).1 b).1) (e _ _ (λy b=>(d y).2 b) a);exact⟨T,g,λy b=>((d y).1 (i y b)).1⟩
variable{C:List (List Int)}
def zn(b:uZ Bd)(c:∀T,T∈C↔iZ Bd U T){K:List Int}(h:Clear Bd U K):∀s∈C,∃x∈s,x∈K:=λs d=>by(refine Hr λe=>h ?_);have hb:=(c s).1 d;exact b _ _ (λy a=>⟨hb.2.1 y a,λf=>e ⟨y,a,f⟩⟩) hb.2.2.1
def GN(c:uZ Bd)(d:Inc U)(e:∀T,T∈C↔iZ Bd U T){K:List Int}(h:∀s∈C,∃x∈s,x∈K):Clear Bd U K:=λhb=>by(have a:∀y,y∈(U.filter λy=>decide (y∉K))↔y∈U/\y∉K:=λy=>by rw[qX];simp);obtain⟨T,f,g⟩:=Cj (U:=U) c _ (U.filter λy=>decide (y∉K)) (fU _) (d.filter _) (λy b=>((a y).1 b).1) (c _ _ (λy b=>(a y).2 b) hb);obtain⟨x,i,j⟩:=h T ((e T).2 f);exact((a x).1 (g x i)).2 j
def Pq(Bd:(Int->Prop)->Prop)(U R:List Int):Prop:=Inc R/\(∀x∈R,x∈U)/\Clear Bd U R/\∀x∈R,∀K:List Int,(∀y∈K,y∈R/\y≠x)->¬Clear Bd U K
def MO(e:uZ Bd)(k:Inc U)(c:∀T,T∈C↔iZ Bd U T){R:List Int}:Dq C R↔Pq Bd U R:=by constructor;(·rintro⟨g,l,f⟩;refine⟨g,λx d=>?_,GN e k c l,λx d K m hc=>?_⟩;(·obtain⟨s,a,p,_⟩:=f x d;exact((c s).1 a).2.1 x p);·obtain⟨s,a,p,r⟩:=f x d;obtain⟨y,u,q⟩:=zn e c hc s a;exact(m y q).2 (r y u (m y q).1));·rintro⟨g,l,f,t⟩;have n:=zn e c f;refine⟨g,n,λx d=>Hr λv=>?_⟩;(have h:∀y,y∈(R.filter λy=>decide (y≠x))↔y∈R/\y≠x:=λy=>by rw[qX];simp);refine t x d (R.filter λy=>decide (y≠x)) (λy b=>(h y).1 b) (GN e k c λs a=>Hr λo=>v ⟨s,a,?_,λy b i=>Hr λj=>o ⟨y,b,(h y).2 ⟨i,j⟩⟩⟩);obtain⟨y,b,i⟩:=n s a;(have:y=x:=Hr λj=>o ⟨y,b,(h y).2 ⟨i,j⟩⟩);rw[<-this];exact b
def Km(c:uZ Bd)(hv:∀x∈U,0<=x/\x<=1023)(a:∀T,T∈C↔iZ Bd U T){K:List Int}(h:Clear Bd U K):∃R,Dq C R/\∀x∈R,x∈K:=YT (λF b=>⟨λx d=>hv x (((a F).1 b).2.1 x d),((a F).1 b).1⟩) (λx=>x∈K) (zn c a h)
def Kn{α:Type}(p:α->Bool):∀l:List α,l.length=(l.filter λx=>p x==true).length+(l.filter λx=>p x==false).length
 |[]=>rfl
 |a::l=>by
  have:=Kn p l
  cases h:p a with
  |true=>rw[jc_ (by simp[h]),jd_ (by simp[h])];simp only[p8];omega
  |false=>rw[jd_ (by simp[h]),jc_ (by simp[h])];simp only[p8];omega
def xu{n:Nat}{L:List (List Int)}(h:L.Nodup)(d:∀T∈L,Inc T/\∀x∈T,0<=x/\x<(n:Int)):L.length<=2 ^ n:=by
 induction n generalizing L with
 |zero=>
  have:∀T∈L,T=[]:=λT c=>by
   cases T with
   |nil=>rfl
   |cons x l=>have:=(d _ c).2 x S_;omega
  (have:L.length<= [([]:List Int)].length:=l5 h λT c=>by rw[this T c];simp);simpa using this
 |succ n o=>
  (have j:∀(b:Bool),(L.filter λT=>decide ((n:Int)∈T)==b).length<=2 ^ n:=λb=>by(have y:((L.filter λT=>decide ((n:Int)∈T)==b).map λT=>T.filter λx=>decide (x≠(n:Int))).Nodup:=by rw[je_,Zz];refine jf_ (R:=λa b=>a≠b) (λ{T S} c i r e=>r ?_) (je_.1 (List.Nodup.sublist fl_ h));obtain⟨s,t⟩:=qX.1 c;obtain⟨g,u⟩:=qX.1 i;(refine jY (d T s).1 (d S g).1 λx=>?_);by_cases f:x=(n:Int);(·subst f;have p:decide ((n:Int)∈T)=decide ((n:Int)∈S):=(eq_of_beq t).trans (eq_of_beq u).symm;exact jg_.1 p);·(have k:x∈T↔x∈T.filter λx=>decide (x≠(n:Int)):=by rw[qX];simp[f]);(have m:x∈S↔x∈S.filter λx=>decide (x≠(n:Int)):=by rw[qX];simp[f]);rw[k,m,e]);(have:=o y λT c=>by obtain⟨S,i,rfl⟩:=pY.1 c;obtain⟨g,_⟩:=qX.1 i;refine⟨(d S g).1.filter _,λx f=>?_⟩;obtain⟨v,w⟩:=qX.1 f;have A:=(d S g).2 x v;have B:x≠(n:Int):=Q w;omega);simpa using this);have q:=Kn (λT:List Int=>decide ((n:Int)∈T)) L;have k:=j true;have m:=j false;rw[q,Nat.pow_succ];omega
end
end
end Go.Proofs.YtjmbkfjklemmpaaGreatDoor
