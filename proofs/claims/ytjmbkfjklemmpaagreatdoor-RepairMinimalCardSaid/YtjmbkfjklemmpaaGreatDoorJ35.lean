import Derived.Test.YtjmbkfjklemmpaaGreatDoorJ33
set_option linter.all false
set_option maxRecDepth 100000
set_option maxHeartbeats 32000000
namespace Go.Proofs.YtjmbkfjklemmpaaGreatDoor
section
open Go.RowKit Go.Proofs.Tryz
noncomputable def um (n:Nat) (p:Int->Prop):List Int:=((List.range n).map λi:Nat=>(i:Int)).filter λx=>iX (p x)
def oC(n:Nat)(p:Int->Prop):um (n+1) p=if iX (p (n:Int)) then um n p++[(n:Int)] else um n p:=by unfold um;rw[dr_,sJ,P9];cases h:iX (p (n:Int))<;>simp[h]
def Cu(n:Nat)(p:Int->Prop):(um n p).length<=n:=by unfold um;refine gT (PY _ _) ?_;simp
def uo{n:Nat}{p:Int->Prop}{x:Int}:x∈um n p↔0<=x/\x<(n:Int)/\p x:=by unfold um;rw[qX,pY,iq];constructor;(·rintro⟨⟨i,hi,rfl⟩,a⟩;have:=Zj.1 hi;exact⟨U,U,a⟩);·rintro⟨b,c,a⟩;exact⟨⟨x.toNat,Zj.2 U,U⟩,a⟩
def Cw(p:Int->Prop):∀n,Inc (um n p)
 |0=>List.Pairwise.nil
 |n+1=>by
  rw[oC];cases h:iX (p (n:Int));(·exact Cw p n);·rw[A_ rfl];exact am_.2 ⟨Cw p n,Wy _ _,λa c b hb=>by rw[gy.1 hb];exact(uo.1 c).2.1⟩
def KC(n:Nat)(p:Int->Prop):fQ (um n p) n:=⟨Cw p n,λ_ a=>⟨(uo.1 a).1,(uo.1 a).2.1⟩⟩
noncomputable abbrev nI (n:Nat) (keep T:List Int):List Int:=um n λk=>k∉keep/\k∉T
noncomputable abbrev G9 (n:Nat) (R:List Int) (x:Int):List Int:=um n λk=>k∈R\/k=x
def KD{L:List Ax}{keep K:List Int}{S:Int->Prop}(b:je L=0)(h:∀i:Nat,i<L.length->((i:Int)∉K↔((i:Int)∈keep\/S i))):kI L K↔¬fP L keep Bad S:=by unfold kI fP;(have c:Bad (gJ L (wZ (fK L.length K)))↔Bad (gJ L λi=>iX ((i:Int)∈keep\/S i)):=by constructor;(·exact λhb=>hb.mono (A9 λi hi a=>P_ ((h i hi).1 (gu.1 (iq.1 a)).2.2)));·exact λhb=>hb.mono (A9 λi hi a=>P_ (gu.2 ⟨U,U,(h i hi).2 (iq.1 a)⟩)));rw[c];exact⟨λh=>h.2,λh=>⟨xO (kH _ _) b,h⟩⟩
structure aaT(L:List Ax)(keep:List Int)(C:List (List Int)):Prop where
 idx:∀T∈C,fQ T L.length
 rest:∀T∈C,¬kI L (nI L.length keep T)
 free:∀T∈C,∀x∈T,x∉keep
 out:∀T∈C,∀x∈T,kI L (G9 L.length (nI L.length keep T) x)
 len:C.length<=256
 none: []∈C->C=[[]]/\fP L keep Bad (·∈[])
 some: []∉C->¬fP L keep Bad (·∈[])
 valid:jq C
 sort:C.Pairwise vN
 min:∀T,T∈C↔iZ (fP L keep Bad) (fK L.length keep) T
def af4{L:List Ax}{keep:List Int}{C:List (List Int)}(hl:L.length<=8)(m:je L=0)(k:C.Pairwise vN)(c:∀T,T∈C↔iZ (fP L keep Bad) (fK L.length keep) T):aaT L keep C:=by have o:=A8 L keep;(have j:∀T∈C,fQ T L.length:=λT a=>⟨((c T).1 a).1,λx d=>by have:=gu.1 (((c T).1 a).2.1 x d);exact⟨this.1,this.2.1⟩⟩);(have p:∀T∈C,∀x∈T,x∉keep:=λT a x d=>(gu.1 (((c T).1 a).2.1 x d)).2.2);(have l:∀T (i:Nat),i<L.length->((i:Int)∉nI L.length keep T↔((i:Int)∈keep\/(i:Int)∈T)):=λT i hi=>by rw[uo];constructor;(·intro h;refine Hr λg=>h ⟨U_,U_,λq=>g (.inl q),λa=>g (.inr a)⟩);·rintro(h|h) ⟨_,_,b,f⟩;(·exact b h);·exact f h);refine⟨j,λT a hc=>(KD (S:=(·∈T)) m (l T)).1 hc ((c T).1 a).2.2.1,p,λT a x d=>?_,?_,λh=>?_,λh hb=>?_,λT a=>⟨λx d=>?_,(j T a).1⟩,k,c⟩;(·refine(KD (S:=λy=>y∈T/\y≠x) m λi hi=>?_).2 (((c T).1 a).2.2.2 x d);rw[uo];constructor;(·intro h;(have b:(i:Int)∉nI L.length keep T:=λr=>h ⟨U_,U_,.inl r⟩);(have f:(i:Int)≠x:=λe=>h ⟨U_,U_,.inr e⟩);exact((l T i hi).1 b).imp id λa=>⟨a,f⟩);·rintro h ⟨_,_,b⟩;rcases b with b|b;(·exact(l T i hi).2 (h.imp id (·.1)) b);·rcases h with h|h;(·exact p T a x d (by rw[<-b];exact h));·exact h.2 b);(·(have g:C.Nodup:=k.imp λh e=>by rw[e]at h;unfold vN at h;rw[sU.2 rfl]at h;omega);have:=xu (n:=L.length) g j;have f:2 ^ L.length<=2 ^ 8:=fy_ U_ hl;omega);(·have hb:=((c []).1 h).2.2.1;refine⟨?_,hb⟩;(refine mG k (Wy _ _) λT=>⟨λa=>?_,λa=>by rw[gy.1 a];exact h⟩);rw[gy];exact(Kl o ((c []).1 h) ((c T).1 a) (λ_ h=>(by cases h))).symm);(·obtain⟨T,b,f⟩:=Cj (U:=fK L.length keep) o 0 [] (fU _) List.Pairwise.nil (λ_ h=>(by cases h)) hb;(have:T=[]:=fz_.2 λx d=>by cases f x d);subst this;exact h ((c []).2 b));·have:=(j T a).2 x d;omega
def KE{n:Nat}{C P:List (List Int)}(c:∀T∈C,fQ T n)(d:P.Nodup)(a:∀T∈P,Dq C T):P.length<=2 ^ n:=xu d λT b=>⟨(a T b).1,λx e=>by
  obtain⟨s,f,g,_⟩:=(a T b).2.2 x e
  exact(c s f).2 x g⟩
end
section
open Go.Maps Go.RowKit Go.Proofs.Tryz
def xC(w:World)(L:List Ax)(keep:List Int)(e:Ending)(w':World):Prop:=G w w'/\∃(A:Option Addr)(k:Nat)(c:Int)(M:List (List Int)),e=.returned (.tuple #[.slice A M.length k,c])/\SS w' (.slice A M.length k) M/\((c≠0/\M=[])\/(c=0/\lq L keep=0/\aaT L keep M))
def aaU(L:List Ax)(v:Value)(kv:Value)(keep:List Int)(w:World)(h:lC w v L)(g:SI w kv keep)(hl:L.length<=8)(i:∀x∈L,qR x)(p:∀x∈keep,oG x)(q:keep.length<=1000000)(j:kG w):z 12 #[.agg #[v],kv,V 256] w (xC w L keep):=by refine(qO L v kv keep 256 w h g hl i p q j D).mono ?_;rintro e w' ⟨l,A,k,c,M,rfl,m,a⟩;refine⟨l,A,k,c,M,rfl,m,?_⟩;rcases a with⟨a,rfl,b⟩|⟨a,b,C,n,o,d⟩;(·exact .inl ⟨a,b⟩);·have f:=af4 hl (rX a) n o;rw[MU f.len]at d;subst d;exact .inr ⟨b,a,f⟩
def acI(L:List Ax)(v:Value)(kv:Value)(keep:List Int)(C:List (List Int))(w:World)(h:lC w v L)(n:SI w kv keep)(hl:L.length<=8)(o:∀x∈L,qR x)(u:∀x∈keep,oG x)(y:keep.length<=1000000)(f:kG w)(p:lq L keep=0)(a:aaT L keep C):z 7 #[.agg #[v],kv,V 256] w λe w'=>G w w'/\∃(A:Option Addr)(k:Nat)(c:Int)(R:List (List Int)),e=.returned (.tuple #[.slice A R.length k,c])/\SS w' (.slice A R.length k) R/\([]∈C->c=180/\R=[])/\([]∉C->c=0/\vK C R):=by refine(zq L v kv keep 256 w h n hl o u y f D).mono ?_;rintro e w' ⟨q,A,k,c,M,rfl,l,b⟩;refine⟨q,A,k,c,M,rfl,l,?_⟩;rcases b with⟨b,_⟩|⟨_,⟨b,g,i⟩|⟨r,g,s,R,i,t,j,m⟩⟩;(·exact absurd p b);(·exact⟨λ_=>⟨i,g⟩,λd=>absurd b (a.some d)⟩);·refine⟨λd=>absurd (a.none d).2 r,λ_=>⟨g,?_⟩⟩;(obtain rfl:s=C:=mG i a.sort λx=>(t x).trans (a.min x).symm);(have d:R.Nodup:=j.1.imp λh e=>by rw[e]at h;unfold vN at h;rw[sU.2 rfl]at h;omega);(have B:=KE a.idx d λT f=>(j.2 T).1 f);have l:2 ^ L.length<=2 ^ 8:=fy_ U hl;rw[MU U]at m;rw[m];exact j
def aaV(L:List Ax)(keep:List Int)(v:Value)(C R:List (List Int))(w:World)(h:SS w v C)(hl:L.length<=8)(i:kG w)(d:aaT L keep C)(j:vK C R):z 13 #[v,V 256] w λe w'=>G w w'/\∃(A:Option Addr)(k:Nat),e=.returned (.tuple #[.slice A R.length k,V 0])/\SS w' (.slice A R.length k) R:=by have p:=d.len;refine(T9 v C 256 w h U i.a.t).mono ?_;rintro e w' ⟨v',M,c,rfl,f,g,b⟩;have n:zm C 256:=⟨d.valid,D,D⟩;rcases b with⟨b,_⟩|⟨_,b,_,rfl⟩|⟨_,_,_,P,l,m,o⟩;(·exact absurd n b);(·obtain rfl:=b.unique j;obtain⟨A,k,rfl,_⟩:=f.form;exact⟨g,A,k,rfl,f⟩);·have q:=KE d.idx l m;have g:2 ^ L.length<=2 ^ 8:=fy_ U hl;omega
theorem repairMinimal_any(L:List Ax)(v kv:Value)(keep:List Int)(w:World)(h:lC w v L)(aq:SI w kv keep)(bm:∀x∈L,DN x)(bt:∀x∈keep,oG x)(B:kG w):z 4 #[.agg #[v],kv] w λe w'=>e=.returned true/\G w w':=by
 obtain⟨A,c,rfl,_,bX,_⟩:=h.form;obtain⟨aI,aJ,rfl,_,b',_⟩:=S1.form aq;have gk:=aq.jw;simp only[maxLen]at bX b' gk;obtain⟨o,bu⟩:=e_ (w.alloc (.cells #[.slice A L.length c] 24));obtain⟨ar,ca⟩:=e_ w.heap.size;(have aN:G w o:=by rw[<-bu];exact bA);(have bv:f_ o ar 24 #[.slice A L.length c]:=by rw[<-bu,<-ca];exact f_.new _ _ _);(have aO:Hid (∀W,G o W->N W ar 0 (.slice A L.length c)):=O λW a=>(bk a bv).cell 0);(have E:Hid (∀W,G o W->lC W (.slice A L.length c) L/\kG W/\SI W (.slice aI keep.length aJ) keep):=O λW a=>by have a:=b_ aN a;exact⟨h.up a,B.up a,aq.up a⟩);have bw:Hid (z 5 #[] o λe w'=>e=.returned true/\G o w'):=O (PU o (B.up aN));(have a3:Hid (∀W,G o W->z 6 #[.agg #[.slice A L.length c]] W (xB W L)):=O λW a=>Ue L _ W (E.o _ a).1 bm);have bx:=O bt;have ay:=O aN;unfold xB at a3;clear h aq bm bt B aN bv;go_in;go_wp2_with (go_at_call 5;(with_reducible refine bw.o.mono ?_);rintro e ct ⟨rfl,a4⟩;have a5:=O a4;have s1:=aO.o _ a4;clear a4);refine(a3.o _ a5.o).mono ?_;rintro e aW ⟨a6,b,rfl,hb⟩;have s2:=aO.o _ (b_ a5.o a6);have ad:=O (b_ a5.o a6);have bz:=O hb;clear hb a6 s1;cases b;(case false=>go_wp2;go_ret;exact⟨rfl,b_ ay.o ad.o⟩);have aX:=bz.o rfl;have cG:=aX.1;(have a7:Hid (∀x∈L,qR x):=O λx ah=>(aX.2 x ah).sm);clear bz aX a3 bw;by_cases cJ:keep.length<=20;(case neg=>have au:decide (20<(keep.length:Int))=true:=Dx U;go_wp2;go_ret;exact⟨rfl,b_ ay.o ad.o⟩);have au:decide (20<(keep.length:Int))=false:=yR U;have a8:Hid (z 12 #[.agg #[.slice A L.length c],.slice aI keep.length aJ,V 256] aW (xC aW L keep)):=O (aaU L _ _ keep aW (E.o _ ad.o).1 (E.o _ ad.o).2.2 U a7.o bx.o U (E.o _ ad.o).2.1);unfold xC at a8;go_wp2_with fail;refine a8.o.mono ?_;rintro e r ⟨a9,bY,k3,c3,M,rfl,bB,cb⟩;have s3:=aO.o _ (b_ ad.o a9);have F:=O (b_ ad.o a9);have bC:=O bB;clear a9 bB a8 s2 ad;rcases cb with⟨bD,rfl⟩|⟨rfl,a',bE⟩;(·have bn:(c3 !=0)=true:=Q bD;clear bD;go_wp2;go_ret;exact⟨rfl,b_ ay.o F.o⟩);have bF:fZ L=0:=(ou.1 (rX a')).1;have ae:=O bE;have cc:=O a';clear bE a';(have cd:Hid (∀W u T,SI W u T->z 8 #[u,L.length] W λe w'=>e=.returned (iX (fQ T L.length))/\G W w'):=O λW u T h=>Dk u T L.length W h);(have bG:Hid (∀W u T,G o W->SI W u T->fQ T L.length->z 9 #[.agg #[.slice A L.length c],u] W λe w'=>e=.returned (iX (kI L T))/\G W w'):=O λW u T a h hi=>Zf L _ u T W (E.o _ a).1 h U a7.o bF hi (E.o _ a).2.1);(have aP:Hid (∀W u l n,SI W u l->z 10 #[u,.int .i64 n] W λe w'=>e=.returned (iX (n∈l))/\W=w'):=O λW u l n h=>Gs u l n W h);(have ba:Hid (∀W,G r W->SI W (.slice aI keep.length aJ) keep):=O λW a=>(E.o _ (b_ F.o a)).2.2);(have ce:Hid (0<M.length->∃b t,bY=some ⟨b,t,none⟩/\∀i T,M[i]?=some T->∃H Z,∀W,G r W->N W b (t+i) (.slice H T.length Z)/\SI W (.slice H T.length Z) T):=O λaY=>by obtain⟨bZ,b0,e,_,_,hc⟩:=bC.o.form;injection e with au bn b1;obtain⟨b,t,aZ,hb,hc⟩:=hc aY;refine⟨b,t,au.trans aZ,λi T B=>?_⟩;obtain⟨u,av,al⟩:=hc i T B;obtain⟨H,Z,rfl⟩:=SI.slice_form al;exact⟨H,Z,λW a=>⟨(a.cell (p:=⟨b,t+i,none⟩) hb).trans av,al.up a⟩⟩);have cH:M.length<=256:=ae.o.len;(have aU:Hid (∀W,G r W->N W ar 0 (.slice A L.length c)):=O λW a=>aO.o _ (b_ F.o a));clear bF;go_wp2_with fail;clear s3;go_loopw [7,8] (λb2 i wr=>∃(q:Bool)(k:Nat),k<=M.length/\b2=.bool q/\i=.int .i64 (k:Int)/\Hid (q=true↔ []∈M.take k)/\Hid (G r wr)) (λ_ i _=>M.length-(intOf i).toNat);exact⟨_,0,gL _,rfl,rfl,O S,O (fD _ _)⟩;obtain⟨q,k,aq,rfl,rfl,aw,af⟩:=hrel;by_cases cf:k<M.length
 ·obtain⟨b3,bo,rfl,bW⟩:=ce.out U
  obtain⟨T,B⟩:=get_some cf;obtain⟨H,Z,bH⟩:=bW k T B;have aQ:=O (gM B);have b4:=O B;have bI:=O (ae.o.idx T aQ.o);(have cI:T.length<=8:=by have:=Er bI.o;omega);have aR:=O bH;(have bJ:Hid (∀W,G r W->z 8 #[.slice H T.length Z,L.length] W λe w'=>e=.returned true/\G W w'):=O λW a=>by have:=cd.o W _ T (aR.o W a).2;rwa[P_ bI.o]at this);(have az:Hid (∀W,G r W->N W ar 0 (.slice A L.length c)/\N W b3 (bo+k) (.slice H T.length Z)):=O λW a=>⟨aU.o W a,(aR.o W a).1⟩);have q1:(0:Int)<=(k:Int):=U;have q2:(k:Int)<(M.length:Int):=U;clear bW B bH;go_wp2
  go_region_held3 (λW=>N W ar 0 (.slice A L.length c)/\N W b3 (bo+k) (.slice H T.length Z))
   (first|with_reducible exact hS|with_reducible exact bp|exact az.o _ af.o.drew)
   (first|(go_at_call 8;(with_reducible refine(bJ.o _ af.o.drew).mono ?_);rintro e I ⟨rfl,bK⟩;have ag:=O (b_ af.o.drew bK);have bp:=az.o _ ag.o;clear bK)|fail)
  clear bp;obtain⟨bq,bL,bM,bN,bO⟩:=qV BJ;go_wp2;go_loopw [9,10] (λu i wr=>∃k:Nat,k<=L.length/\i=.int .i64 (k:Int)/\I.heap.size<=wr.heap.size/\Hid (wr.ownsRow I.heap.size 3 1 u (nI k keep T).length ((nI k keep T).map iV))/\Hid (G I wr)) (λ_ i _=>L.length-(intOf i).toNat);exact⟨0,gL _,rfl,fU _,O (Ba _ _ _ _),O (fD _ _)⟩;obtain⟨m,cg,rfl,aS,s,d⟩:=hrel;obtain⟨aK,aL,rfl⟩:=o_ s.out;have aM:=aU.o _ (b_ ag.o d.o);by_cases cq:m<L.length
  ·have a0:=(az.o _ (b_ ag.o d.o)).2
   have f:=aP.o _ _ _ (m:Int) (ba.o _ (b_ ag.o d.o));have aA:=aP.o _ _ _ (m:Int) (aR.o _ (b_ ag.o d.o)).2;obtain⟨aa,ak⟩:=e_ (iX ((m:Int)∈keep));obtain⟨ab,aB⟩:=e_ (iX ((m:Int)∈T));rw[ak]at f;rw[aB]at aA;have f:=O f;have aA:=O aA
   have am:Hid (iX ((m:Int)∉keep/\(m:Int)∉T)=(!aa&& !ab)):=O (by
    rw[<-ak,<-aB]
    by_cases av:(m:Int)∈keep<;>by_cases al:(m:Int)∈T<;>simp[P_,J_,av,al])
   clear ak aB;have aC:=Cu m (λk=>k∉keep/\k∉T);obtain⟨N,ai⟩:=e_ ((nI m keep T).length);have ac:=O ai;rw[ai]at aC;have b5:(m:Int)<(L.length:Int):=U;clear ai;cases aa
   case' true=>
    have K:Hid (wr.ownsRow I.heap.size 3 1 (.slice aK (nI m keep T).length aL) (nI (m+1) keep T).length ((nI (m+1) keep T).map iV)):=O (by
     unfold nI;rw[oC,am.o,u_ S];exact s.o)
    go_wp2_with (go_at_call 10;(with_reducible refine f.o.mono ?_);rintro e _ ⟨rfl,rfl⟩);go_roundw;exact⟨m+1,U,R_,aS,K,d⟩;exact M_
   cases ab
   case' true=>
    have K:Hid (wr.ownsRow I.heap.size 3 1 (.slice aK (nI m keep T).length aL) (nI (m+1) keep T).length ((nI (m+1) keep T).map iV)):=O (by
     unfold nI;rw[oC,am.o,u_ S];exact s.o)
    go_wp2_with (first|(go_at_call 10;(with_reducible refine f.o.mono ?_);rintro e _ ⟨rfl,rfl⟩)|(go_at_call 10;(with_reducible refine aA.o.mono ?_);rintro e _ ⟨rfl,rfl⟩));go_roundw;exact⟨m+1,U,R_,aS,K,d⟩;exact M_
   have an:=O (by have:=s.o;rw[ac.out]at this;exact this:wr.ownsRow I.heap.size 3 1 (.slice aK N aL) N ((nI m keep T).map iV));rw[ac.out];go_wp2_with (first|(go_at_call 10;(with_reducible refine f.out.mono ?_);rintro e _ ⟨rfl,rfl⟩)|(go_at_call 10;(with_reducible refine aA.out.mono ?_);rintro e _ ⟨rfl,rfl⟩)|(at_builtin;refine Ih _ rfl _ _ 25 rfl I.heap.size 3 bq (.int .i64 0) 1 8 underlying25 bL bM bN bO rfl D _ _ _ rfl (gB an.out (L_ (fD _ _) _)) ⟨wr.heap.size,0,none⟩ 1 1 [.int .i64 (m:Int)] rfl rfl ?c1 ?c2 ?c3 ?c4 ?c5 ?_));(case c1=>exact yV _ _ rfl _ _);(case c2=>intro u ax;simp at ax;subst ax;rfl);(case c3=>simp only[maxLen];omega);(case c4=>omega);(case c5=>simp;omega);intro v5 w5 aH aD _ _
   have K:Hid (w5.ownsRow I.heap.size 3 1 v5 (nI (m+1) keep T).length ((nI (m+1) keep T).map iV)):=O (by
    unfold nI;rw[oC,am.o,A_ S,lG,sJ];have h:=aH;rw[<-ac.o]at h
    exact h)
   have aE:=O ((L_ d.o _).grown aD (by simp;omega) (λg a1=>(an.o.lt g a1).1));have bl:=aE.o.size;clear aH aD aM a0;go_wp2;go_roundw;exact⟨m+1,U,R_,bl,K,aE⟩;exact M_
  ·obtain rfl:m=L.length:=by omega
   have aC:=Cu L.length (λk=>k∉keep/\k∉T);have bb:=KC L.length (λk=>k∉keep/\k∉T);have ao:=iL s.o;have y:=bG.o wr _ _ (b_ F.o (b_ ag.o d.o)) ao bb;rw[J_ (ae.o.rest T aQ.o)]at y;have y:=O y;have aF:=O ao;have bU:=K_ (ae.out.out T aQ.out);have ch:=O (ae.o.free T aQ.o);obtain⟨R,a2⟩:=e_ (nI L.length keep T);rw[show um L.length (λk=>k∉keep/\k∉T)=R from a2]at aC bb;rw[a2]at y aF bU ⊢;have bc:=O (b_ ag.o d.o);clear ao bb s d ag bJ a2;go_wp2_with (go_at_call 9;(with_reducible refine y.o.mono ?_);rintro e aj ⟨rfl,ap⟩;have aF:=O (aF.o.up ap);have P:=O (b_ bc.o ap);clear ap);clear aM;(have ci:Hid (∀W,G aj W->SI W (.slice aK R.length aL) R):=O λW a=>aF.o.up a);(have cj:Hid (0<T.length->∃b t,H=some ⟨b,t,none⟩/\∀i x,T[i]?=some x->∀W,G aj W->N W b (t+i) (.int .i64 x)):=O λaY=>by obtain⟨bZ,b0,e,_,_,hc⟩:=S1.form (aR.o _ P.o).2;injection e with au bn b1;obtain⟨b,t,aZ,hb,hc⟩:=hc aY;exact⟨b,t,au.trans aZ,λi x ah W a=>(a.cell (p:=⟨b,t+i,none⟩) hb).trans (hc i x ah)⟩);clear y aF;go_loopw [11] (λj b6=>∃n:Nat,n<=T.length/\j=.int .i64 (n:Int)/\Hid (G aj b6)) (λj _=>T.length-(intOf j).toNat);exact⟨0,gL _,rfl,O (fD _ _)⟩;obtain⟨n,cu,rfl,X⟩:=hrel;have s1:=(az.o _ (b_ P.o X.o)).2;by_cases cr:n<T.length
   ·obtain⟨cw,cx,rfl,bP⟩:=cj.out U
    obtain⟨x,ah⟩:=get_some cr;have bd:=gM ah;have ck:=O (bP n x ah);have cl:=O (bU.o x bd);have cm:=O (ch.o x bd);have q3:(0:Int)<=(n:Int):=U;have cy:(n:Int)<(T.length:Int):=U;clear bP ah bd;obtain⟨C,rfl⟩:∃C:World,C=wr:=⟨_,rfl⟩;go_wp2_with fail;clear s1;go_loopw [12,13] (λu i wr=>∃m:Nat,m<=L.length/\i=.int .i64 (m:Int)/\C.heap.size<=wr.heap.size/\Hid (wr.ownsRow C.heap.size 3 1 u (G9 m R x).length ((G9 m R x).map iV))/\Hid (G C wr)) (λ_ i _=>L.length-(intOf i).toNat);exact⟨0,gL _,rfl,fU _,K_ (Ba _ _ _ _),K_ (fD _ _)⟩;obtain⟨m,cg,rfl,aS,s,d⟩:=hrel;obtain⟨br,cv,rfl⟩:=o_ s.out;have aM:=aU.out _ (b_ P.out (b_ X.out d.out));have a0:=(az.out _ (b_ P.out (b_ X.out d.out))).2;have b7:=ck.out _ (b_ X.out d.out);by_cases cq:m<L.length
    ·have f:=aP.out _ _ _ (m:Int) (ci.out _ (b_ X.out d.out))
     obtain⟨aa,ak⟩:=e_ (iX ((m:Int)∈R));obtain⟨ab,aB⟩:∃q,((m:Int)==x)=q:=⟨_,rfl⟩;rw[ak]at f;have f:=K_ f
     have am:Hid (iX ((m:Int)∈R\/(m:Int)=x)=(aa||ab)):=K_ (by
      rw[<-ak,<-aB]
      by_cases av:(m:Int)∈R<;>by_cases al:(m:Int)=x<;>simp[P_,J_,av,al])
     clear ak;have aC:=Cu m (λk=>k∈R\/k=x);obtain⟨N,ai⟩:=e_ ((G9 m R x).length);have ac:=K_ ai;rw[ai]at aC;have b5:(m:Int)<(L.length:Int):=U;clear ai;have an:=K_ (by have:=s.out;rw[ac.out]at this;exact this:wr.ownsRow C.heap.size 3 1 (.slice br N cv) N ((G9 m R x).map iV));rw[ac.out];by_cases aG:aa=false/\ab=false
     ·obtain⟨rfl,rfl⟩:=aG
      have K:Hid (wr.ownsRow C.heap.size 3 1 (.slice br N cv) (G9 (m+1) R x).length ((G9 (m+1) R x).map iV)):=K_ (by
       unfold G9;rw[oC,am.out,u_ S];have h:=an.out;rw[<-ac.out]at h ⊢;exact h)
      go_wp2_with (go_at_call 10;(with_reducible refine f.out.mono ?_);rintro e _ ⟨rfl,rfl⟩);go_roundw;exact⟨m+1,U,R_,aS,K,d⟩;exact M_
     ·have bQ:Hid ((aa||ab)=true):=K_ (by cases aa<;>cases ab<;>simp_all)
      clear aG;cases aa;case' false=>obtain rfl:ab=true:=bQ.out
      all_goals
       go_wp2_with (first|(go_at_call 10;(with_reducible refine f.out.mono ?_);rintro e _ ⟨rfl,rfl⟩)|(at_builtin;refine Ih _ rfl _ _ 25 rfl C.heap.size 3 bq (.int .i64 0) 1 8 underlying25 bL bM bN bO rfl D _ _ _ rfl (gB an.out (L_ (fD _ _) _)) ⟨wr.heap.size,0,none⟩ 1 1 [.int .i64 (m:Int)] rfl rfl ?c1 ?c2 ?c3 ?c4 ?c5 ?_))
       case c1=>exact yV _ _ rfl _ _
       case c2=>intro u ax;simp at ax;subst ax;rfl
       case c3=>simp only[maxLen];omega
       case c4=>omega
       case c5=>simp;omega
       intro v5 w5 aH aD _ _
       have K:Hid (w5.ownsRow C.heap.size 3 1 v5 (G9 (m+1) R x).length ((G9 (m+1) R x).map iV)):=O (by
        unfold G9;rw[oC,am.o,bQ.o,A_ rfl,lG,sJ];have h:=aH;rw[<-ac.o]at h
        exact h)
       have aE:=O ((L_ d.o _).grown aD (by simp;omega) (λg a1=>(an.o.lt g a1).1))
       have bl:=aE.o.size
       clear aH aD aM a0 b7
       go_wp2
       go_roundw
       exact⟨m+1,U,R_,bl,K,aE⟩
       exact M_
    ·(obtain rfl:m=L.length:=by omega);have ao:=iL s.o;have y:=bG.o wr _ _ (b_ F.o (b_ P.o (b_ X.o d.o))) ao (KC _ _);rw[P_ cl.o]at y;have y:=O y;have f:=aP.o _ _ _ x (ba.o _ (b_ P.o (b_ X.o d.o)));rw[J_ cm.o]at f;have f:=O f;clear ao s;go_wp2_with (first|(go_at_call 10;(with_reducible refine f.o.mono ?_);rintro e _ ⟨rfl,rfl⟩)|(go_at_call 9;(with_reducible refine y.o.mono ?_);rintro e cz ⟨rfl,bR⟩;have cn:=O (b_ (b_ X.o d.o) bR);clear bR));go_roundw;exact⟨n+1,U,R_,cn⟩;exact M_
   ·obtain rfl:n=T.length:=by omega
    have co:Hid ((q||(T.length==0))=true↔ []∈M.take (k+1)):=O (by
     rw[Ug,aw.o,w_ b4.o,gH,gy,Uh]
     exact or_congr gb_ ⟨λh=>(Hl h).symm,λh=>by rw[<-h];rfl⟩)
    (have cA:((T.length:Int)==0)=(T.length==0):=by by_cases h:T.length=0;(·rw[h];rfl);·rw[gc_ h,gc_ U]);clear aw;cases q;all_goals go_wp2;go_roundw;exact⟨_,k+1,U,rfl,R_,co,O (b_ P.o X.o)⟩;exact M_
 ·(obtain rfl:k=M.length:=by omega);rw[jh]at aw;have s3:=aU.o _ af.o;have bS:=O (acI L (.slice A L.length c) (.slice aI keep.length aJ) keep M wr (E.o _ (b_ F.o af.o)).1 (ba.o _ af.o) U a7.o bx.o U (E.o _ (b_ F.o af.o)).2.1 cc.o ae.o);go_wp2_with fail;refine bS.o.mono ?_;rintro e b8 ⟨be,cB,cC,cD,R,rfl,bf,bg,bh⟩;have cp:=O bf;have aT:=O (b_ af.o be);clear s3 bS;cases q;(·(have aG: []∉M:=λh=>by have:=aw.o.2 h;cases this);obtain⟨rfl,bV⟩:=bh aG;have bs:=O (aaV L keep _ M R b8 (bC.o.up aT.o) U (E.o _ (b_ F.o aT.o)).2.1 ae.o bV);clear bg bh aG bV bf be;go_wp2_with fail;refine bs.o.mono ?_;rintro e b9 ⟨bi,cE,cF,rfl,bT⟩;have aV:=AL _ _ R R b9 (cp.o.up bi) bT;rw[P_ rfl]at aV;have aV:=O aV;have bc:=O (b_ aT.o bi);clear bi bT bs;go_wp2_with (go_at_call 14;(with_reducible refine aV.o.mono ?_);rintro e aj ⟨rfl,ap⟩;have P:=O (b_ bc.o ap);clear ap);go_ret;exact⟨rfl,b_ (b_ ay.o F.o) P.o⟩);·have bj:=aw.o.1 rfl;obtain⟨rfl,rfl⟩:=bg bj;(have cs:M.length=1:=by rw[(ae.o.none bj).1];rfl);(have cK:((M.length:Int)==1)=true:=by rw[cs];rfl);clear bg bh bf be bj;go_wp2;go_ret;exact⟨rfl,b_ (b_ ay.o F.o) aT.o⟩
end
end Go.Proofs.YtjmbkfjklemmpaaGreatDoor
