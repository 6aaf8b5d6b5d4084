import Derived.Test.YtgoapenfbanhaaaGreatDoorJ36
set_option linter.all false
set_option maxRecDepth 100000
set_option maxHeartbeats 32000000
open List renaming length->l_
open Go.Maps Go.RowKit Go.Proofs.Tryz
open Go renaming World->W_,Value->V_,maxLen->m_
open Go.RowKit renaming Below->B_
namespace Go.Proofs.YtgoapenfbanhaaaGreatDoor
variable{P:(Int->Prop)->Prop}{x y:Ax}{C:H_}{K T k u:I_}{c:Int}{l:List (V_×I_)}{L:List Ax}{e f g j most p:Nat}{a b:St}{t:TypeId}{W w:W_}
def abB{k:Nat}{g:O_}(r:∀(j:Nat) u,g[j]?=some u->N w e (f+k*16+j) u)(s:Ji w (wC a b) g)(t:e<w):∃(A:J_)(c:Nat)(B:J_)(d:Nat)(C:J_)(n:Nat),∀W,G w W->N W e (f+k*16) (V 1)/\N W e (f+k*16+1) false/\N W e (f+k*16+2) (V 3)/\N W e (f+k*16+3) a/\N W e (f+k*16+4) (V 0)/\N W e (f+k*16+5) (V 0)/\N W e (f+k*16+6) (.slice A 0 c)/\N W e (f+k*16+7) (V 3)/\N W e (f+k*16+8) b/\N W e (f+k*16+9) (V 0)/\N W e (f+k*16+10) (V 0)/\N W e (f+k*16+11) (.slice B 0 d)/\N W e (f+k*16+12) (.slice C 0 n)/\N W e (f+k*16+13) (x_)/\N W e (f+k*16+14) (x_)/\N W e (f+k*16+15) (x_):=by obtain⟨h,i,l,m,v,rfl,_,_,o⟩:=s.form;obtain⟨C,n,rfl,_⟩:=S1.form o;refine⟨h,i,l,m,C,n,λW x=>?_⟩;(have H:∀(j:Nat) u,[Value.int .i64 1,.bool false,.int .i64 3,.string ⟨a.toArray⟩,.int .i64 0,.int .i64 0,.slice h 0 i,.int .i64 3,.string ⟨b.toArray⟩,.int .i64 0,.int .i64 0,.slice l 0 m,.slice C 0 n,x_,x_,x_][j]?=some u->N W e (f+k*16+j) u:=λj u q=>(x.cell (p:=a_ e (f+k*16+j)) t).trans (r j u q));exact⟨H 0 _ rfl,H 1 _ rfl,H 2 _ rfl,H 3 _ rfl,H 4 _ rfl,H 5 _ rfl,H 6 _ rfl,H 7 _ rfl,H 8 _ rfl,H 9 _ rfl,H 10 _ rfl,H 11 _ rfl,H 12 _ rfl,H 13 _ rfl,H 14 _ rfl,H 15 _ rfl⟩
def J7(L:List Ax)(u v:V_)(w:W_)(C:lT w u L)(hv:lT w v L)(S:∀x∈L,∃a b,x=wC a b)(hl:l_ L<=100):Y 34 #[u,v] w true:=by
 obtain⟨A,c,rfl,_,ac,ab⟩:=C.form;obtain⟨B,d,rfl,_,ad,J⟩:=hv.form;simp only[m_]at ac ad;(have ae:∀(a b:St)(h j l m n o:J_)(c1 p Q c2 q r:Nat)(W:W_),Y 58 #[.agg (qH a b h j l c1 p Q),.agg (qH a b m n o c2 q r)] W true:=Fe);go_in;go_wp2;go_loopw [5] (λi wr=>∃k:Nat,k<=l_ L/\i=.int .i64 (k:Int)/\Hid (G w wr)) (λi _=>l_ L-(intOf i).toNat);exact⟨0,gZ _,rfl,O (fu _ _)⟩;obtain⟨k,aj,rfl,t⟩:=hrel;by_cases af:k<l_ L
 .obtain⟨z,f,rfl,ag,H⟩:=ab U
  obtain⟨D,g,rfl,ah,I⟩:=J U;obtain⟨x,s⟩:=g_ af;obtain⟨al,P,T⟩:=H k x s;obtain⟨am,X,Z⟩:=I k x s;obtain⟨a,b,rfl⟩:=S x (gV s);obtain⟨h,c1,j,p,l,Q,E⟩:=abB P T ag;obtain⟨m,c2,n,q,o,r,F⟩:=abB X Z ah;(have K:∀W,G w W->(N W z (f+k*16) (V 1)/\N W z (f+k*16+1) false/\N W z (f+k*16+2) (V 3)/\N W z (f+k*16+3) a/\N W z (f+k*16+4) (V 0)/\N W z (f+k*16+5) (V 0)/\N W z (f+k*16+6) (.slice h 0 c1)/\N W z (f+k*16+7) (V 3)/\N W z (f+k*16+8) b/\N W z (f+k*16+9) (V 0)/\N W z (f+k*16+10) (V 0)/\N W z (f+k*16+11) (.slice j 0 p)/\N W z (f+k*16+12) (.slice l 0 Q)/\N W z (f+k*16+13) (x_)/\N W z (f+k*16+14) (x_)/\N W z (f+k*16+15) (x_))/\N W D (g+k*16) (V 1)/\N W D (g+k*16+1) false/\N W D (g+k*16+2) (V 3)/\N W D (g+k*16+3) a/\N W D (g+k*16+4) (V 0)/\N W D (g+k*16+5) (V 0)/\N W D (g+k*16+6) (.slice m 0 c2)/\N W D (g+k*16+7) (V 3)/\N W D (g+k*16+8) b/\N W D (g+k*16+9) (V 0)/\N W D (g+k*16+10) (V 0)/\N W D (g+k*16+11) (.slice n 0 q)/\N W D (g+k*16+12) (.slice o 0 r)/\N W D (g+k*16+13) (x_)/\N W D (g+k*16+14) (x_)/\N W D (g+k*16+15) (x_):=λW J=>⟨E W J,F W J⟩);have r1:0<=(k:Int):=U;have ak:(k:Int)<l_ L:=U;go_wp2
  go_region_held3 (λW=>(N W z (f+k*16) (V 1)/\N W z (f+k*16+1) false/\N W z (f+k*16+2) (V 3)/\N W z (f+k*16+3) a/\N W z (f+k*16+4) (V 0)/\N W z (f+k*16+5) (V 0)/\N W z (f+k*16+6) (.slice h 0 c1)/\N W z (f+k*16+7) (V 3)/\N W z (f+k*16+8) b/\N W z (f+k*16+9) (V 0)/\N W z (f+k*16+10) (V 0)/\N W z (f+k*16+11) (.slice j 0 p)/\N W z (f+k*16+12) (.slice l 0 Q)/\N W z (f+k*16+13) (x_)/\N W z (f+k*16+14) (x_)/\N W z (f+k*16+15) (x_))/\N W D (g+k*16) (V 1)/\N W D (g+k*16+1) false/\N W D (g+k*16+2) (V 3)/\N W D (g+k*16+3) a/\N W D (g+k*16+4) (V 0)/\N W D (g+k*16+5) (V 0)/\N W D (g+k*16+6) (.slice m 0 c2)/\N W D (g+k*16+7) (V 3)/\N W D (g+k*16+8) b/\N W D (g+k*16+9) (V 0)/\N W D (g+k*16+10) (V 0)/\N W D (g+k*16+11) (.slice n 0 q)/\N W D (g+k*16+12) (.slice o 0 r)/\N W D (g+k*16+13) (x_)/\N W D (g+k*16+14) (x_)/\N W D (g+k*16+15) (x_))
   (first|with_reducible exact hS|with_reducible exact s5|exact K _ t.o.drew)
   (first|(go_at_call 58;(refine(ae _ _ _ _ _ _ _ _ _ _ _ _ _ _ _).mono ?_);rintro e w5 ⟨rfl,y⟩;have s5:=K _ (b_ t.o.drew y);have ai:=O (b_ t.o.drew y);clear y)|fail)
  all_goals clear s5;go_wp2;go_roundw;exact⟨k+1,U,R,ai⟩;exact M
 ·(obtain rfl:k=l_ L:=by omega);go_wp2;go_ret;exact⟨rfl,t.o⟩
def Vh(L:List Ax)(u v:V_)(w:W_)(h:lT w u L)(H:lT w v L)(l:∀x∈L,∃a b,x=wC a b)(hl:l_ L<=100):Y 18 #[.agg #[u],.agg #[v]] w true:=by obtain⟨A,c,rfl,_⟩:=h.form;obtain⟨B,d,rfl,_⟩:=H.form;obtain⟨s,i⟩:=e_ (l_ L);obtain⟨f,j⟩:=e_ ((w.alloc (.cells #[.slice A s c] 24)).alloc (.cells #[.slice B s d] 24));obtain⟨g,m⟩:=e_ w.heap.size;(have k:G w f:=by rw[<-j];exact X_ bA _);(have n:f_ f g 24 #[.slice A s c]:=by rw[<-j,<-m];exact(f_.new _ _ _).alloc _);(have o:f_ f (g+1) 24 #[.slice B s d]:=by rw[<-j,<-m];exact f_.newAt _ _ _ S);(have q:Y 34 #[.slice A s c,.slice B s d] f true:=(by rw[<-i];exact J7 L _ _ f (h.up k) (H.up k) l hl));have c1:N f g 0 (.slice A s c):=n.cell 0;have c2:N f (g+1) 0 (.slice B s d):=o.cell 0;rw[i];go_in;go_wp2_with (go_at_call 34;(with_reducible refine q.mono ?_);rintro e w5 ⟨rfl,p⟩;have r:=(b_ k p);clear p);go_ret;exact⟨rfl,r⟩
def Ms{U:I_}(c:Inc K)(g:∀x∈K,x∈U)(a:∀S,P S↔∀x∈K,S x):jh P U T↔T=K:=by constructor;(.rintro⟨i,_,j,k⟩;have d:=(a _).1 j;refine kV i c λx=>⟨λb=>Mx λl=>k x b ((a _).2 λy f=>⟨d y f,λe=>l (e ▸ f)⟩),d x⟩);.rintro rfl;exact⟨c,g,(a _).2 λx h=>h,λx b h=>((a _).1 h x b).2 rfl⟩
theorem Wu:EW [K] T↔∃a∈K,T=[a]:=by constructor;(.rintro⟨h,i,j⟩;obtain⟨x,b,g⟩:=i K S;refine⟨x,b,kV h (by grind) λy=>⟨λc=>?_,λc=>by rw[gW.1 c];exact g⟩⟩;grind);.rintro⟨a,f,rfl⟩;exact⟨by simp[Inc],λs d=>by rw[gW.1 d];exact⟨a,f,S⟩,λx b=>⟨K,S,by rw[gW.1 b];exact f,λy _ c=>by rw[gW.1 b];exact gW.1 c⟩⟩
def adi:EW [] T↔T=[]:=by
 constructor
 .rintro⟨_,_,a⟩
  match T,a with
  |[],_=>rfl
  |x::l,a=>obtain⟨s,b,_⟩:=a x S;cases b
 .rintro rfl;exact⟨by simp[Inc],λ_ h=>(by cases h),λ_ h=>(by cases h)⟩
theorem Vi{U:I_}{M R:H_}(h:o8 P U most c M)(b:¬P (·∈[]))(d:C.Pairwise vk)(l:∀T,T∈C↔jh P U T)(e:wH C R):c=0/\M=R.take most:=by rcases h with⟨a,_⟩|⟨_,a,f,m,g,i,j,k⟩;(.grind);·(obtain rfl:f=C:=nL g d λx=>(i x).trans (l x).symm);obtain rfl:=j.unique e;grind
def abC(p:Nat->Bool):iG gD p=(if p 0 then[xAB] else[])++(if p 1 then[xBC] else[]):=by unfold iG;cases a:p 0<;>cases b:p 1<;>simp[List.zipIdx,a,b]
def aeZ(p:Nat->Bool):ug (iG gD p) Y7↔p 0=true/\p 1=true:=by rw[DJ (.inl rfl),t6,abC];cases a:p 0<;>cases b:p 1;(.refine⟨λh=>?_,λh=>absurd h.1 D⟩;rcases h _ (gW.2 rfl) with h|h;(.exact absurd h (tq (nT D) [[65],[42]] D D D D));.exact absurd h (tq (nT D) [[65],[42]] D D D D));(.refine⟨λh=>?_,λh=>absurd h.1 D⟩;rcases h _ (gW.2 rfl) with h|h;(.exact absurd h (tq (nT D) [[65],[42]] D D D D));.exact absurd h (tq (nT D) [[65],[42]] D D D D));(.refine⟨λh=>?_,λh=>absurd h.2 D⟩;rcases h _ (gW.2 rfl) with h|h;(.exact absurd h (tq (nT D) [[65],[66],[42]] D D D D));.exact absurd h (tq (nT D) [[65],[66],[42]] D D D D));.refine⟨λ_=>⟨rfl,rfl⟩,λ_ f H=>?_⟩;rw[gW]at H;subst H;exact .inl (.sub (.sub (.refl (.inr (.inr ⟨D,o_ 0 (kF [65] [66]),D,.inl rfl⟩))) ⟨o_ 0 (kF [65] [66]),D,rfl⟩) ⟨o_ 1 (kF [66] [67]),D,rfl⟩)
def ae0(p:Nat->Bool):¬ug (iG gD p) xCA:=by
 rw[DJ (.inl rfl),abC];intro h
 cases a:p 0<;>cases b:p 1<;>rw[a,b]at h<;>
  (rcases h (t_ [67] [65]) D with h|h;(.exact absurd h (tq (nT D) [[67],[42]] D D D D));.exact absurd h (tq (nT D) [[67],[42]] D D D D))
def abD(p:Nat->Bool):¬Bad (iG gD p):=λh=>adg (h.mono (mZ _ _).subset)
def FM(n:Nat):gN [] n:=⟨by simp[Inc],λ_ h=>(by cases h)⟩
def agK:gN [0] (l_ gD):=⟨by simp[Inc],λx h=>by rw[gW.1 h];decide⟩
def ae1:gN [0,1] (l_ gD):=⟨by simp[Inc],λx h=>by
 rcases jL.1 h with rfl|h;.decide
 .rw[gW.1 h];decide⟩
theorem RL:fT (l_ gD) []=[0,1]:=kV (uS _ _) (by grind) λx=>by rw[iC];simp[gD];omega
theorem ae2:fT (l_ gD) [0]=[1]:=kV (uS _ _) (by grind) λx=>by rw[iC];simp[gD];omega
theorem Mt(a:(fD x).2=0)(b:gN k (l_ gD))(c:uf gD x=0):uU gD x k=0:=by unfold uU;rw[C_ (by rw[wD];simp),C_ (by grind),C_ (Q b),c]
def eAC(k:I_)(h:gN k (l_ gD)):uU gD Y7 k=0:=Mt rfl h aeX
def eCA(k:I_)(h:gN k (l_ gD)):uU gD xCA k=0:=Mt rfl h aeY
def eCl:iW gD []=0:=by unfold iW;rw[C_ (by rw[wD];simp),C_ (Q (FM _)),adf]
def eAp:qC gD []=0:=by unfold qC;rw[C_ (by rw[wD];simp),C_ (Q (FM _))]
theorem agL:qC gD [2]=1:=by unfold qC;rw[C_ (by rw[wD];simp),P_];intro h;have:=(h.2 2 S).2;grind
theorem RN(k:I_)(S:Int->Prop):gq gD k (λM=>ug M (fD Y7).1) S↔((0:Int)∈k\/S 0)/\((1:Int)∈k\/S 1):=by unfold gq;refine(aeZ _).trans ?_;simp only[jE];grind
theorem all_nil{M:H_}(h:o8 (gq gD [] λM=>ug M (fD Y7).1) (fT (l_ gD) []) most c M):c=0/\M=[[0],[1]].take most:=by rw[RL]at h;refine Vi h (λh=>?_) (C:=[[0,1]]) (an_ _ _) (λT=>?_) ⟨EI.2 ⟨λy a=>by rw[gW.1 a];show mW [0] [1]<0;decide,an_ _ _⟩,λT=>?_⟩;(.have:=(RN [] _).1 h;grind);(.rw[Ms (K:=[0,1]) (by grind) (λx h=>h) λS=>(RN [] S).trans S_];grind);.rw[Wu];simp
theorem agM{M:H_}(h:o8 (gq gD [0] λM=>ug M (fD Y7).1) (fT (l_ gD) [0]) most c M):c=0/\M=[[1]].take most:=by rw[ae2]at h;refine Vi h (λh=>?_) (C:=[[1]]) (an_ _ _) (λT=>?_) ⟨an_ _ _,λT=>?_⟩;(.have:=(RN [0] _).1 h;grind);(.rw[Ms (K:=[1]) (by grind) (λx h=>h) λS=>(RN [0] S).trans S_];grind);.rw[Wu];simp
def ae3{M:H_}{U:I_}(h:o8 (gq gD [0,1] λM=>ug M (fD Y7).1) U most c M):c=180:=by rcases h with⟨_,_,h⟩|⟨h,_⟩;(.exact h);.exact absurd ((RN [0,1] _).2 S) h
def never{U:I_}{M:H_}(a:∀S,¬P S)(h:o8 P U most c M):c=0/\M=[[]].take most:=Vi h (a _) (C:=[]) List.Pairwise.nil (λT=>⟨λh=>(by cases h),λh=>absurd h.2.2.1 (a _)⟩) ⟨an_ _ _,λT=>by rw[adi];exact gW⟩
def ae4{M:H_}{U:I_}(h:o8 (gq gD [] λM=>ug M (fD xCA).1) U most c M):c=0/\M=[[]].take most:=never (λS h=>by unfold gq at h;exact ae0 _ h) h
def YQ{M:H_}{U:I_}(h:o8 (gq gD [] Bad) U most c M):c=0/\M=[[]].take most:=never (λS h=>by unfold gq at h;exact abD _ h) h
def YR{U:I_}(h:∀T,T∈C↔jh (gq gD [] Bad) U T):C=[]:=List.eq_nil_iff_forall_not_mem.2 λT a=>by have:=((h T).1 a).2.2.1;unfold gq at this;exact abD _ this
theorem abE:iG gD (Ag (fT (l_ gD) []))=gD:=by rw[RL,abC];have a:Ag [0,1] 0=true:=fQ S;have b:Ag [0,1] 1=true:=fQ S;grind
def RO(W:W_)(a b:St):Ji W (wC a b) (oC a b).toList:=by(have c:∀s:St,nV W (nmC s) (I8 s).toList:=λs=>by unfold nmC nV;exact⟨none,0,rfl,gH _,gZ _,λh=>absurd h S⟩);exact⟨(I8 a).toList,(I8 b).toList,(),rfl,c a,c b,S1.nil _ _⟩
def yV(W:W_)(a b:St):kH W (wC a b) none 0 none 0 none 0:=by
 have c:∀s:St,CV W (.agg (I8 s)) (nmC s):=λs=>⟨(I8 s).toList,rfl,by
  unfold nmC nV
  exact⟨none,0,rfl,gH _,gZ _,λh=>absurd h S⟩⟩
 exact⟨c a,c b,S1.nil _ _⟩
theorem aiv{c d:St}(h:f_ W g t ((oC a b).toList++(oC c d).toList).toArray):lT W (.slice g 2 2) [wC a b,wC c d]:=by
 refine⟨[((oC a b).toList,wC a b),((oC c d).toList,wC c d)],rfl,⟨_,_,rfl,gH _,by simp[m_],λ_=>⟨g,0,rfl,h.lt,λi p hi j u e=>?_⟩⟩,λp f=>?_⟩
 .have H:=λ(n:Nat)(v:V_)(k:((oC a b).toList++(oC c d).toList)[n]?=some v)=>h.all n v k
  match i,hi with
  |0,hi=>
   obtain rfl:=Ch hi;have:=H j u (by grind);simpa using this
  |1,hi=>
   obtain rfl:=Ch hi;have:=H (16+j) u (by rw[db_ S];simpa using e);simpa using this
  |i+2,hi=>simp at hi
 .rcases jL.1 f with rfl|f;(.exact RO W a b);.rw[gW.1 f];exact RO W c d
def DK{l:I_}(hl:l_ l<=1000)(h:f_ W g t (l.map iV).toArray):SI W (.slice g (l_ l) (l_ l)) l:=S1.mk (gH _) (by simp only[m_];omega) λ_=>⟨g,0,rfl,h.lt,λi x a=>by
  have:=h.all i (iV x) (by simp[a])
  simpa using this⟩
def Vj(hl:l_ l<=1000)(h:f_ W g t (l.map (·.1)).toArray)(a:∀p∈l,SI W p.1 p.2):SS W (.slice g (l_ l) (l_ l)) (l.map (·.2)):=
 ⟨l,rfl,S1.mk (gH _) (by simp only[m_];omega) λ_=>⟨g,0,rfl,h.lt,λi x b=>by
   have:=h.all i x.1 (by simp[b])
   simpa using this⟩,a⟩
def ae5(W:W_):SS (L_ (L_ (L_ W 3 #[V 0]) 3 #[V 1]) 31 #[.slice W 1 1,.slice (a_ (W+1) 0) 1 1]) (.slice (a_ (W+1+1) 0) 2 2) [[0],[1]]:=Vj (l:=[(.slice W 1 1,[0]),(.slice (a_ (W+1) 0) 1 1,[1])]) S (f_.newAt _ _ _ S) λp a=>by rcases jL.1 a with rfl|a;(.exact DK (l:=[0]) S (((f_.new _ _ _).alloc _).alloc _));.rw[gW.1 a];exact DK (l:=[1]) S ((f_.newAt _ _ _ S).alloc _)
def ae6(W:W_):SS (L_ (L_ W 3 #[V 1]) 31 #[.slice W 1 1]) (.slice (a_ (W+1) 0) 1 1) [[1]]:=Vj (l:=[(.slice W 1 1,[1])]) S (f_.newAt _ _ _ S) λp a=>by rw[gW.1 a];exact DK (l:=[1]) S ((f_.new _ _ _).alloc _)
def adj(W:W_):SS (L_ (L_ W 3 #[]) 31 #[.slice W 0 0]) (.slice (a_ (W+1) 0) 1 1) [[]]:=Vj (l:=[(.slice W 0 0,[])]) S (f_.newAt _ _ _ S) λp a=>by rw[gW.1 a];exact S1.mk (l:=[]) (gH _) (gZ _) λh=>absurd h S
def yX(e:l_ a<=1000000)(hb:l_ b<=1000000):oZ (wC a b):=by(have c:∀s:St,l_ s<=1000000->Je (nmC s):=λs f=>by intro x d;simp[nmC,Cn.pre,Cn.kR]at d;subst d;exact f);exact⟨c a e,c b hb,λ_ h=>(by cases h),by simp[wC],by simp[wC],by simp[wC],by simp[wC],gZ _,gZ _⟩
theorem YS:∀x∈gD,∃a b,x=wC a b:=λx c=>by rcases jL.1 c with rfl|c;(.grind);.rw[gW.1 c];exact⟨_,_,rfl⟩
def tu:∀x∈gD,oZ x:=λx a=>by rcases jL.1 a with rfl|a;(.exact yX D D);.rw[gW.1 a];exact yX D D
section
variable{g:Nat}{W:W_}
theorem YT(b:lT W (.slice g 2 2) gD)(d:l8 W):z 8 #[.agg #[.slice g 2 2],.agg (oC [65] [67]),(),V 5] W λe w'=>G W w'/\∃A k,e=.returned (.tuple #[.slice A 2 k,V 0])/\SS w' (.slice A 2 k) [[0],[1]]:=by refine(pR gD _ Y7 none 0 none 0 none 0 () [] 5 W b (yV W _ _) (S1.nil _ _) D tu (yX D D) (λ_ h=>(by cases h)) S d D).mono ?_;rintro e w' ⟨f,A,k,c,M,rfl,i,a⟩;rcases a with⟨a,_⟩|⟨_,a⟩;(.exact absurd (eAC [] (FM _)) a);.obtain⟨rfl,rfl⟩:=all_nil a;grind
theorem Wv(b:lT W (.slice g 2 2) gD)(d:l8 W)(f:f_ W p 3 #[V 0]):z 8 #[.agg #[.slice g 2 2],.agg (oC [65] [67]),.slice p 1 1,V 5] W λe w'=>G W w'/\∃A k,e=.returned (.tuple #[.slice A 1 k,V 0])/\SS w' (.slice A 1 k) [[1]]:=by refine(pR gD _ Y7 none 0 none 0 none 0 _ [0] 5 W b (yV W _ _) (DK (l:=[0]) S f) D tu (yX D D) (λx h=>by rw[gW.1 h];exact vV (k:=0) U) S d D).mono ?_;rintro e w' ⟨i,A,k,c,M,rfl,j,a⟩;rcases a with⟨a,_⟩|⟨_,a⟩;(.exact absurd (eAC [0] agK) a);.obtain⟨rfl,rfl⟩:=agM a;grind
def RQ(b:lT W (.slice g 2 2) gD)(d:l8 W)(f:f_ W p 3 #[V 0,V 1]):z 8 #[.agg #[.slice g 2 2],.agg (oC [65] [67]),.slice p 2 2,V 5] W λe w'=>G W w'/\∃A n k,e=.returned (.tuple #[.slice A n k,V 180]):=by
 refine(pR gD _ Y7 none 0 none 0 none 0 _ [0,1] 5 W b (yV W _ _) (DK (l:=[0,1]) S f) D tu (yX D D) (λx h=>by
  rcases jL.1 h with rfl|h;.exact vV (k:=0) U
  .rw[gW.1 h];exact vV (k:=1) U) S d D).mono ?_
 rintro e w' ⟨i,A,k,c,M,rfl,j,a⟩;rcases a with⟨a,_⟩|⟨_,a⟩;(.exact absurd (eAC [0,1] ae1) a);.obtain rfl:=ae3 a;exact⟨i,A,_,k,rfl⟩
theorem YU(b:lT W (.slice g 2 2) gD)(d:l8 W):z 8 #[.agg #[.slice g 2 2],.agg (oC [67] [65]),(),V 5] W λe w'=>G W w'/\∃A k,e=.returned (.tuple #[.slice A 1 k,V 0])/\SS w' (.slice A 1 k) [[]]:=by refine(pR gD _ xCA none 0 none 0 none 0 () [] 5 W b (yV W _ _) (S1.nil _ _) D tu (yX D D) (λ_ h=>(by cases h)) S d D).mono ?_;rintro e w' ⟨f,A,k,c,M,rfl,i,a⟩;rcases a with⟨a,_⟩|⟨_,a⟩;(.exact absurd (eCA [] (FM _)) a);.obtain⟨rfl,rfl⟩:=ae4 a;grind
theorem abF(b:lT W (.slice g 2 2) gD)(d:l8 W):z 14 #[.agg #[.slice g 2 2],(),V 0] W λe w'=>G W w'/\∃A k,e=.returned (.tuple #[.slice A 0 k,V 0]):=by refine(IZ gD _ () [] 0 W b (S1.nil _ _) D tu (λ_ h=>(by cases h)) S d D).mono ?_;rintro e w' ⟨f,A,k,c,M,rfl,i,a⟩;rcases a with⟨a,_⟩|⟨_,a⟩;(.exact absurd eCl a);.obtain⟨rfl,rfl⟩:=YQ a;grind
theorem abG(b:lT W (.slice g 2 2) gD)(d:l8 W):z 15 #[.agg #[.slice g 2 2],(),V 3] W λe w'=>G W w'/\∃A k,e=.returned (.tuple #[.slice A 0 k,V 0]):=by refine(rX gD _ () [] 3 W b (S1.nil _ _) D tu (λ_ h=>(by cases h)) S d D).mono ?_;rintro e w' ⟨f,A,k,c,M,rfl,j,a⟩;rcases a with⟨a,_⟩|⟨_,rfl,C,_,i,rfl⟩;(.exact absurd eCl a);.obtain rfl:=YR i;grind
theorem adk(a:lT W (.slice g 2 2) gD)(b:l8 W)(c:f_ W p 3 #[V 2]):z 17 #[.agg #[.slice g 2 2],.slice p 1 1] W λe w'=>G W w'/\∃A k,e=.returned (.tuple #[.agg #[.slice A 0 k],V 1]):=by refine(DF gD _ _ [2] W a (DK (l:=[2]) S c) D tu (λx h=>by rw[gW.1 h];exact vV (k:=2) U) S b).mono ?_;rintro e w' ⟨d,A,k,M,rfl,_,f,_⟩;obtain rfl:=f (by rw[agL];grind);exact⟨d,A,k,by rw[agL];rfl⟩
theorem YV(a:lT W (.slice g 2 2) gD)(b:l8 W):z 17 #[.agg #[.slice g 2 2],()] W λe w'=>G W w'/\∃A k,e=.returned (.tuple #[.agg #[.slice A 2 k],V 0])/\lT w' (.slice A 2 k) gD:=by refine(DF gD _ () [] W a (S1.nil _ _) D tu (λ_ h=>(by cases h)) S b).mono ?_;rintro e w' ⟨c,A,k,M,rfl,d,_,f⟩;obtain rfl:=(f eAp).trans abE;grind
end
def RS(w:W_)(ay:l8 w):Y 5 #[] w (.bool true):=by
 have a2:=j_ ay;clear ay;have n:Hid (∀a b W,Y 16 #[.string ⟨a.toArray⟩,.string ⟨b.toArray⟩] W (.agg (oC a b))):=j_ abA;(have am:Hid (∀W u v a,SS W u a->SS W v a->Y 13 #[u,v] W (.bool true)):=j_ λW u v a a3 hv=>by have:=BO u v a a W a3 hv;rwa[fQ rfl]at this);go_in;go_wp2_with (first|(go_at_call 16;have _n:=aC;(with_reducible refine(n.out _ _ _).mono ?_);rintro e B ⟨rfl,aD⟩;have bi:=j_ (b_ aC.out aD);clear aD)|(go_at_call 16;(with_reducible refine(n.out _ _ _).mono ?_);rintro e bB ⟨rfl,aE⟩;have aC:=j_ aE;clear aE));obtain⟨k,s⟩:=e_ ((B.alloc (.cells ((oC [65] [66]).toList++(oC [66] [67]).toList).toArray 30)).alloc (.cells #[.slice B 2 2] 24));obtain⟨g,L⟩:=e_ B.heap.size;(have aF:B_ B B k:=by rw[<-s];exact X_ (X_ (fu _ _) _) _);(have aG:f_ k g 30 ((oC [65] [66]).toList++(oC [66] [67]).toList).toArray:=by rw[<-s,<-L];exact(f_.new _ _ _).alloc _);(have aH:f_ k (g+1) 24 #[.slice g 2 2]:=by rw[<-s,<-L];exact f_.newAt _ _ _ S);simp only[List.toList_toArray,Ka,Y8]at s;rw[s,L];have an:=j_ (b_ bi.out aF);have aI:=aiv aG;(have au:Hid (∀W,B_ k k W->lT W (.slice g 2 2) gD):=j_ λW z=>aI.up z);(have av:Hid (∀W,B_ k k W->l8 W):=j_ λW z=>a2.out.up (b_ an.out z));(have I:Hid (∀W,B_ k k W->W.cell? (a_ (g+1) 0)=some (.slice g 2 2)):=j_ λW z=>(bk z aH).cell 0);clear aF aG aH aI s L
 go_region_held3 (λW=>W.cell? (a_ (g+1) 0)=some (.slice g 2 2))
  (first|with_reducible exact hS|with_reducible exact s5|with_reducible exact az|exact I.out _ (fu _ _).drew)
  (first|(go_at_call 16;(refine(n.out _ _ _).mono ?_);rintro e w5 ⟨rfl,aJ⟩;have P:=j_ (b_ (fu _ _).drew aJ);have s5:=I.out _ P.out;clear aJ)|(go_at_call 8;(refine(YT (au.out _ P.out) (av.out _ P.out)).mono ?_);rintro e l ⟨aK,O,k6,rfl,aL⟩;have C:=j_ (b_ P.out aK);have az:=I.out _ C.out;have bj:=j_ aL;clear aK aL)|fail)
 (have M:Hid (∀W,B_ l l W->lT W (.slice g 2 2) gD):=j_ λW z=>au.out _ (b_ C.out z));(have N:Hid (∀W,B_ l l W->l8 W):=j_ λW z=>av.out _ (b_ C.out z));(have m:Hid (∀W,B_ l l W->W.cell? (a_ (g+1) 0)=some (.slice g 2 2)):=j_ λW z=>I.out _ (b_ C.out z));have aM:Hid (B_ w w l):=j_ (b_ an.out C.out);(have bt:Hid (∀W,B_ l l W->SS W (.slice O 2 k6) [[0],[1]]):=j_ λW z=>bj.out.up z);clear au av I an;clear s5 az;go_wp2
 go_region_held3 (λW=>W.cell? (a_ (g+1) 0)=some (.slice g 2 2))
  (first|with_reducible exact hS|with_reducible exact Q|with_reducible exact R|exact m.out _ (fu _ _).drew|exact m.out _ (X_ (fu _ _) _).drew|exact m.out _ (X_ i.out _))
  (first|(go_at_call 16;(refine(n.out _ _ _).mono ?_);rintro e a4 ⟨rfl,t⟩;have i:=j_ (b_ (X_ (fu _ _) _).drew t);have bl:=j_ (bk t (f_.new _ _ _).drew);have Q:=m.out _ i.out;clear t)|(go_at_call 16;(refine(n.out _ _ _).mono ?_);rintro e a4 ⟨rfl,t⟩;have i:=j_ (b_ (fu _ _).drew t);have Q:=m.out _ i.out;clear t)|(go_at_call 8;(refine(Wv (M.out _ i.out) (N.out _ i.out) bl.out).mono ?_);rintro e d ⟨E,U,V,rfl,F⟩;have o:=j_ (b_ i.out E);have R:=m.out _ o.out;have aN:=j_ F;clear F;clear E)|(go_at_call 8;(refine(Wv (M.out _ (X_ i.out _)) (N.out _ (X_ i.out _)) (f_.new _ _ _)).mono ?_);rintro e d ⟨E,U,V,rfl,F⟩;have o:=j_ (b_ (X_ i.out _) E);have R:=m.out _ o.out;have aN:=j_ F;clear F;clear E)|fail)
 all_goals
  have aw:Hid (∀W,B_ d d W->lT W (.slice g 2 2) gD):=j_ λW z=>M.out _ (b_ o.out z)
  have ax:Hid (∀W,B_ d d W->l8 W):=j_ λW z=>N.out _ (b_ o.out z)
  have K:Hid (∀W,B_ d d W->W.cell? (a_ (g+1) 0)=some (.slice g 2 2)):=j_ λW z=>m.out _ (b_ o.out z)
  have aO:Hid (B_ w w d):=j_ (b_ aM.out o.out)
  have bu:Hid (∀W,B_ d d W->SS W (.slice O 2 k6) [[0],[1]]):=j_ λW z=>bt.out _ (b_ o.out z)
  have bv:Hid (∀W,B_ d d W->SS W (.slice U 1 V) [[1]]):=j_ λW z=>aN.out.up z
  clear M N m aM
  clear Q R
  go_wp2
  go_region_held3 (λW=>W.cell? (a_ (g+1) 0)=some (.slice g 2 2))
   (first|with_reducible exact hS|with_reducible exact aA|with_reducible exact aB|exact K.out _ (fu _ _).drew)
   (first|(go_at_call 16;(refine(n.out _ _ _).mono ?_);rintro e bC ⟨rfl,aP⟩;have T:=j_ (b_ (fu _ _).drew aP);have aA:=K.out _ T.out;clear aP)|(go_at_call 8;(refine(YU (aw.out _ T.out) (ax.out _ T.out)).mono ?_);rintro e c ⟨aQ,a5,a6,rfl,aR⟩;have p:=j_ (b_ T.out aQ);have aB:=K.out _ p.out;have bm:=j_ aR;clear aQ aR)|fail)
  have r:Hid (∀W,B_ c c W->lT W (.slice g 2 2) gD):=j_ λW z=>aw.out _ (b_ p.out z)
  have A:Hid (∀W,B_ c c W->l8 W):=j_ λW z=>ax.out _ (b_ p.out z)
  have h:Hid (∀W,B_ c c W->W.cell? (a_ (g+1) 0)=some (.slice g 2 2)):=j_ λW z=>K.out _ (b_ p.out z)
  have bn:Hid (B_ w w c):=j_ (b_ aO.out p.out)
  have bw:Hid (∀W,B_ c c W->SS W (.slice O 2 k6) [[0],[1]]):=j_ λW z=>bu.out _ (b_ p.out z)
  have bx:Hid (∀W,B_ c c W->SS W (.slice U 1 V) [[1]]):=j_ λW z=>bv.out _ (b_ p.out z)
  have bz:Hid (∀W,B_ c c W->SS W (.slice a5 1 a6) [[]]):=j_ λW z=>bm.out.up z
  clear aw ax K aO
  clear aA aB
  go_wp2
  go_region_held3 (λW=>W.cell? (a_ (g+1) 0)=some (.slice g 2 2))
   (first|with_reducible exact hS|with_reducible exact sb|with_reducible exact aj|exact h.out _ (fu _ _).drew|exact h.out _ (X_ (fu _ _) _).drew|exact h.out _ (X_ j.out _))
   (first|(go_at_call 16;(refine(n.out _ _ _).mono ?_);rintro e a7 ⟨rfl,x⟩;have j:=j_ (b_ (X_ (fu _ _) _).drew x);have bo:=j_ (bk x (f_.new _ _ _).drew);have sb:=h.out _ j.out;clear x)|(go_at_call 16;(refine(n.out _ _ _).mono ?_);rintro e a7 ⟨rfl,x⟩;have j:=j_ (b_ (fu _ _).drew x);have sb:=h.out _ j.out;clear x)|(go_at_call 8;(refine(RQ (r.out _ j.out) (A.out _ j.out) bo.out).mono ?_);rintro e a8 ⟨H,a9,a',ba,rfl⟩;have y:=j_ (b_ j.out H);have aj:=h.out _ y.out;clear H)|(go_at_call 8;(refine(RQ (r.out _ (X_ j.out _)) (A.out _ (X_ j.out _)) (f_.new _ _ _)).mono ?_);rintro e a8 ⟨H,a9,a',ba,rfl⟩;have y:=j_ (b_ (X_ j.out _) H);have aj:=h.out _ y.out;clear H)|fail)
 all_goals clear sb;go_wp2_with (first|(go_at_call 15;(refine(abG (r.out _ (X_ X.out _)) (A.out _ (X_ X.out _))).mono ?_);rintro e wg ⟨Z,bD,bE,rfl⟩;(have aS:Hid (∀W,B_ wg wg W->W.cell? bb=some (.slice ak 2 al)/\lT W (.slice ak 2 al) gD):=j_ λW z=>⟨(bk z (bk Z (f_.new _ _ _))).cell 0,bp.out.up (b_ (b_ (X_ (fu _ _) _) Z) z)⟩);have aT:=j_ (b_ (X_ X.out _) Z);clear Z)|(go_at_call 17;(refine(YV (r.out _ (X_ G.out _)) (A.out _ (X_ G.out _))).mono ?_);rintro e bb ⟨aU,ak,al,rfl,aV⟩;have X:=j_ (b_ (X_ G.out _) aU);have bc:=h.out _ (X_ X.out (.cells #[.slice ak 2 al] 24));have bp:=j_ aV;clear aU aV)|(go_at_call 17;(refine(adk (r.out _ (X_ J.out _)) (A.out _ (X_ J.out _)) (f_.new _ _ _)).mono ?_);rintro e bF ⟨aW,bd,be,rfl⟩;have G:=j_ (b_ (X_ J.out _) aW);have se:=h.out _ (X_ G.out (.cells #[.slice bd 0 be] 24));clear aW)|(go_at_call 14;(refine(abF (r.out _ y.out) (A.out _ y.out)).mono ?_);rintro e wd ⟨aX,bG,bH,rfl⟩;have J:=j_ (b_ y.out aX);have bf:=h.out _ J.out;clear aX));clear aj bf se bc;go_wp2_with (first|(go_at_call 18;have f:=Vh gD _ _ _ (aS.out _ aY.out).2 (r.out _ ao.out) YS D;(with_reducible refine f.mono ?_);clear f;rintro e bI ⟨rfl,aZ⟩;have bq:=j_ (b_ ao.out aZ);clear aZ)|(go_at_call 13;have f:=am.out _ _ _ [[]] (bz.out _ (X_ (X_ a0.out _) _)) (adj bg);(with_reducible refine f.mono ?_);clear f;rintro e bJ ⟨rfl,ap⟩;have ao:=j_ (b_ (X_ (X_ a0.out _) _) ap);have aY:=j_ (b_ (X_ (X_ br.out _) _) ap);have bK:=h.out _ ao.out;have sq:=(aS.out _ aY.out).1;clear ap)|(go_at_call 13;have f:=am.out _ _ _ [[1]] (bx.out _ (X_ (X_ a1.out _) _)) (ae6 bh);(with_reducible refine f.mono ?_);clear f;rintro e bg ⟨rfl,aq⟩;have a0:=j_ (b_ (X_ (X_ a1.out _) _) aq);have br:=j_ (b_ (X_ (X_ bs.out _) _) aq);clear aq)|(go_at_call 13;have f:=am.out _ _ _ [[0],[1]] (bw.out _ (X_ (X_ (X_ aT.out _) _) _)) (ae5 wg);(with_reducible refine f.mono ?_);clear f;rintro e bh ⟨rfl,ar⟩;have a1:=j_ (b_ (X_ (X_ (X_ aT.out _) _) _) ar);have bs:=j_ (b_ (X_ (X_ (X_ (fu _ _) _) _) _) ar);clear ar));go_ret;exact⟨rfl,b_ bn.out bq.out⟩
def RU{c:Cn}(h:zo c 150):Je c:=λx a=>by have:=h.2 x a;omega
def pls(c:Cn):l_ c.J<=c.size:=by cases c;simp only[Cn.J,Cn.size];have:=lD ‹List Cn›;omega
def o7.sm(h:o7 x):oZ x:=by have b:=h.n;have c:=h.sz;have d:=pls x.L;have e:=pls x.R;exact⟨RU h.l,RU h.r,λs a=>by have:=h.rs s a;omega,U,U,U,U,U,U⟩
def yD(w:W_)(L:List Ax)(e:Ending)(w':W_):Prop:=G w w'/\∃b:Bool,e=.returned b/\(b=true->l_ L<=6/\∀x∈L,o7 x)
def Ww(L:List Ax)(v:V_)(w:W_)(h:lT w v L)(d:∀x∈L,vN x):z 6 #[.agg #[v]] w (yD w L):=by obtain⟨A,c,rfl,_,_,_⟩:=h.form;obtain⟨b,k⟩:=e_ (w.alloc (.cells #[.slice A (l_ L) c] 24));obtain⟨f,t⟩:=e_ w.heap.size;(have l:G w b:=by rw[<-k];exact bA);(have m:f_ b f 24 #[.slice A (l_ L) c]:=by rw[<-k,<-t];exact f_.new _ _ _);have n:=O (JO L _ 6 b (h.up l) d U);(have o:∀(W:W_),G w W->l_ L<=6->z 7 #[.slice (a_ W 0) 1 1] (W.alloc (.cells #[.slice A (l_ L) c] 22)) (pK [(.slice A (l_ L) c,L)] (W.alloc (.cells #[.slice A (l_ L) c] 22))):=λW H hl=>by refine Ab [(.slice A (l_ L) c,L)] W.heap.size _ (f_.new _ _ _) (λp a=>?_) (λp a=>?_) S (λp a=>?_);(.rw[gW.1 a];exact h.up (X_ H _));(.rw[gW.1 a];exact d);.rw[gW.1 a];exact gY hl U);have E:N b f 0 (.slice A (l_ L) c):=m.cell 0;unfold Qu at n;clear h d;go_in;go_wp2_with fail;refine n.o.mono ?_;rintro e j ⟨g,C,rfl,r⟩;have i:=(b_ l g);have c1:N j f 0 (.slice A (l_ L) c):=(bk g m).cell 0;clear g E;cases C;(.go_wp2;go_ret;exact⟨i,false,rfl,λh=>by cases h⟩);.obtain⟨hl,s⟩:=r rfl;have u:=(o j i hl);clear o;go_wp2_with (go_at_call 7;(refine u.mono ?_);rintro e B ⟨q,D,rfl,_⟩;have y:=(b_ (X_ i _) q);clear q c1);go_ret;exact⟨y,D,rfl,λ_=>⟨hl,s⟩⟩
def Vk(L:List Ax)(T:I_):Prop:=kQ (iG L (Ag (fT (l_ L) T)))=0/\¬Bad (iG L (Ag (fT (l_ L) T)))
def RV{p q:Nat->Bool}(h:∀i,i<l_ L->p i=true->q i=true):∀x∈iG L p,x∈iG L q:=λx b=>by obtain⟨i,a,c⟩:=yR.1 b;exact yR.2 ⟨i,a,h i (jv.1 a).1 c⟩
structure ajr(L:List Ax)(keep:List Int)(R:List (List Int)):Prop where
 idx:∀T∈R,gN T (l_ L)
 ok:∀T∈R,Vk L T
 out:∀T∈R,∀x∈T,x∉keep
 less:∀T∈R,∀j,j<l_ T->gN (T.take j++T.drop (j+1)) (l_ L)/\¬Vk L (T.take j++T.drop (j+1))
 some:R≠[]
 has:∀K,Vk L K->(∀x∈K,x∉keep)->∃T∈R,∀x∈T,x∈K
 len:l_ R<=256
def abH(a:Inc T){x y:Int}(b:T[j]?=some x)(c:y∈T.take j++T.drop (j+1)):y∈T/\y≠x:=by obtain⟨i,rfl⟩:=jv.1 b;(have e:T=T.take j++T[j]::T.drop (j+1):=by rw[List.getElem_cons_drop,dw_]);(have d:(T.take j++T[j]::T.drop (j+1)).Pairwise (·<·):=by rw[<-e];exact a);obtain⟨_,f,g⟩:=am_.1 d;rcases iq.1 c with h|h;(.exact⟨R4 h,λe=>by have:=g y h T[j] gf_;omega⟩);.exact⟨List.mem_of_mem_drop h,λe=>by have:=(EI.1 f).1 y h;omega⟩
def Wx{R:H_}(c:sw P)(d:∀T,T∈C↔jh P (fT (l_ L) k) T)(e:wH C R):(∀T,T∈R↔GA P (fT (l_ L) k) T)/\∀T∈R,gN T (l_ L):=by(have a:∀T,T∈R↔GA P (fT (l_ L) k) T:=λT=>(e.2 T).trans (Nb c (uS (l_ L) k) d));exact⟨a,λT b=>⟨((a T).1 b).1,λx f=>by have:=iC.1 (((a T).1 b).2.1 x f);exact⟨this.1,this.2.1⟩⟩⟩
def Ox{R:H_}(hl:l_ L<=8)(b:sw P)(c:∀T,T∈C↔jh P (fT (l_ L) k) T)(a:wH C R):l_ R<=256:=by(have d:R.Nodup:=a.1.imp λh e=>by rw[e]at h;unfold vk at h;rw[yH.2 rfl]at h;omega);have:=Bh (n:=l_ L) d (Wx b c a).2;have f:2 ^ (l_ L)<=2 ^ 8:=ft_ U hl;omega
def zh(L:List Ax)(y:Ax)(T:I_):Prop:=ug (iG L (Ag (fT (l_ L) T))) y
theorem Ja(H:∀x∈T,x∉k):¬zh L y T↔Clear (gq L k λM=>ug M y) (fT (l_ L) k) T:=by unfold zh Clear gq;refine not_congr ⟨λh=>h.mono (RV λi hi a=>?_),λh=>h.mono (RV λi hi a=>fQ (iC.2 ⟨U,U,λb=>?_⟩))⟩;(.have:=iC.1 (jE.1 a);by_cases c:(i:Int)∈k;(.exact fQ (.inl c));.exact fQ (.inr ⟨iC.2 ⟨U,U,c⟩,this.2.2⟩));.rcases jE.1 a with h|h;(.grind);grind
structure agN(L:List Ax)(keep:List Int)(y:Ax)(R:List (List Int)):Prop where
 idx:∀T∈R,gN T (l_ L)
 ok:∀T∈R,¬zh L y T
 out:∀T∈R,∀x∈T,x∉keep
 less:∀T∈R,∀j,j<l_ T->gN (T.take j++T.drop (j+1)) (l_ L)/\zh L y (T.take j++T.drop (j+1))
 ord:∀(i j:Nat)(S T:I_),i<j->R[i]?=some S->R[j]?=some T->l_ S<=l_ T
 some:R≠[]
 has:∀K,¬zh L y K->(∀x∈K,x∉keep)->∃T∈R,∀x∈T,x∈K
 len:l_ R<=256
theorem aiw{R:H_}(hl:l_ L<=8)(p:¬gq L u (λM=>ug M y) (·∈[]))(g:∀T,T∈C↔jh (gq L u λM=>ug M y) (fT (l_ L) u) T)(c:wH C R):agN L u y R:=by have d:=BZ L u y;obtain⟨m,k⟩:=Wx d g c;(have n:∀T∈R,∀x∈T,x∉u:=λT a x b=>(iC.1 (((m T).1 a).2.1 x b)).2.2);(have v:∀x∈fT (l_ L) u,0<=x/\x<=1023:=λx b=>by have:=iC.1 b;omega);refine⟨k,λT a=>(Ja (n T a)).2 ((m T).1 a).2.2.1,n,λT a j l=>?_,λi j S T t q a=>?_,?_,λK r w=>?_,Ox hl d g c⟩;(.obtain⟨x,b⟩:=g_ l;(have o:=λy f=>abH (k T a).1 b (y:=y) f);refine⟨⟨List.Pairwise.sublist ?_ (k T a).1,λy f=>(k T a).2 y (o y f).1⟩,?_⟩;(.have e:T=T.take j++T.drop j:=(dw_ _ _).symm;grind);·(refine Mx λH=>?_);exact((m T).1 a).2.2.2 x (gV b) _ o ((Ja λy f=>n T a y (o y f).1).1 H));(.obtain⟨hi,rfl⟩:=jv.1 q;obtain⟨l,rfl⟩:=jv.1 a;exact aci (R7.1 c.1 i j hi l t));(·(have H:Clear (gq L u λM=>ug M y) (fT (l_ L) u) (fT (l_ L) u):=λh=>p (d _ _ (λx b=>absurd b.1 b.2) h));obtain⟨T,a,_⟩:=Ld d v g H;intro e;have:=(c.2 T).2 a;grind);.obtain⟨T,a,s⟩:=Ld d v g ((Ja w).1 r);exact⟨T,(c.2 T).2 a,s⟩
def Wy{W:World}{a b c:J_}{d:Nat}(h:f_ W g t (fZ x a d b e c f))(k:kH W x a d b e c f):lT W (.slice (a_ g 0) 1 1) [x]:=by refine⟨[((fZ x a d b e c f).toList,x)],rfl,⟨_,_,rfl,gH _,by simp[maxLen],λ_=>⟨g,0,rfl,h.lt,λi p hi j u l=>?_⟩⟩,λp m=>?_⟩;(·(obtain rfl:i=0:=by have:=(jv.1 hi).1;simp at this;omega);obtain rfl:=Ch hi;have:=h.all j u l;simpa using this);.rw[gW.1 m];exact k.rda


