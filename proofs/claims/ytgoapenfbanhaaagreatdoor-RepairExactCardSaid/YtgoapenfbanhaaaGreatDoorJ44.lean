import Derived.Test.YtgoapenfbanhaaaGreatDoorJ19
set_option linter.all false
set_option maxRecDepth 100000
set_option maxHeartbeats 32000000
open List renaming length->l_
open Go.RowKit Go.Proofs.Tryz Go.Sort
open Go renaming World->W_,Value->V_,maxLen->m_
namespace Go.Proofs.YtgoapenfbanhaaaGreatDoor
variable{x:Ax}{T:List Stp}{m:O_}{w:W_}
def wK{wr:W_}{b d k:Nat}(q:∀(j:Nat) u,m[j]?=some u->N w b (d+k*16+j) u)(r:Ji w x m)(hb:b<w)(H:G w wr):∃e f g i l c,kH w x e f g i l c/\ N wr b (d+k*16) x.K/\N wr b (d+k*16+1) x.op/\N wr b (d+k*16+2) x.L.K/\N wr b (d+k*16+3) (d_ x.L.N)/\ N wr b (d+k*16+4) x.L.lo/\N wr b (d+k*16+5) x.L.hi/\N wr b (d+k*16+6) (.slice e (l_ x.L.J) f)/\ N wr b (d+k*16+7) x.R.K/\N wr b (d+k*16+8) (d_ x.R.N)/\N wr b (d+k*16+9) x.R.lo/\N wr b (d+k*16+10) x.R.hi/\ N wr b (d+k*16+11) (.slice g (l_ x.R.J) i)/\N wr b (d+k*16+12) (.slice l (l_ x.H) c)/\N wr b (d+k*16+13) (d_ x.U)/\N wr b (d+k*16+14) (d_ x.a)/\N wr b (d+k*16+15) (d_ x.b):=by obtain⟨e,f,g,i,s,rfl,hl,o,n⟩:=r.form;obtain⟨l,c,rfl,_⟩:=S1.form n;(have K:∀(j:Nat) u,[Value.int .i64 x.K,.bool x.op,.int .i64 x.L.K,d_ x.L.N,.int .i64 x.L.lo,.int .i64 x.L.hi,.slice e (l_ x.L.J) f,.int .i64 x.R.K,d_ x.R.N,.int .i64 x.R.lo,.int .i64 x.R.hi,.slice g (l_ x.R.J) i,.slice l (l_ x.H) c,d_ x.U,d_ x.a,d_ x.b][j]?=some u->N wr b (d+k*16+j) u:=λj u h=>(H.cell (p:=a_ b (d+k*16+j)) hb).trans (q j u h));exact⟨e,f,g,i,l,c,kH.mk hl o n,K 0 _ rfl,K 1 _ rfl,K 2 _ rfl,K 3 _ rfl,K 4 _ rfl,K 5 _ rfl,K 6 _ rfl,K 7 _ rfl,K 8 _ rfl,K 9 _ rfl,K 10 _ rfl,K 11 _ rfl,K 12 _ rfl,K 13 _ rfl,K 14 _ rfl,K 15 _ rfl⟩
structure GY(w wr:W_)(R:St->Option Nat)(T:List Stp):Prop where
 m:M2 wr w w (2*l_ T) R (sM T)
 full:Full R (sM T)
 below:G w wr
 cell:N wr (w+1) 0 (.map (some w))
 pc:∀r,R r≠some (w.heap.size+1)
def GY.up{wr w':W_}{R:St->Option Nat}(h:GY w wr R T)(hb:G wr w'):GY w w' R T:=⟨h.m.up hb,h.full,b_ h.below hb,(hb.cell (zK wr _ h.cell)).trans h.cell,h.pc⟩
def GY.begin(w:W_):GY w (L_ (w.alloc (.map #[] 0)) 122 #[.map (some w)]) (λ_=>none) [] where
 m:=⟨gH _,((h_.made w KT).alloc _).congr λ_ _=>rfl,(λ_ _ h=>by cases h),(λ_ _ _ h=>by cases h),λ_ _ _=>rfl⟩
 full:=λ_ _ h=>(by cases h)
 below:=X_ bA _
 cell:=(f_.newAt _ _ _ S).cell 0
 pc:=λ_ h=>(by cases h)
def GY.size{wr:W_}{R:St->Option Nat}(h:GY w wr R T):w.heap.size+2<=wr.heap.size:=zK wr _ h.cell
def GY.add{wr:W_}{R:St->Option Nat}(h:GY w wr R T){r s:St}(t:Bool)(n:l_ r<=m_)(o:l_ s<=m_)(p:2*l_ T+2<=m_):z 110 #[d_ r,d_ s,t,.pointer (a_ (w+1) 0)] wr λe w'=>e=.returned (.tuple #[])/\∃c,GY w w' c (T++[(r,s,t)])/\ ∀g d f,f_ wr g d f->g≠w.heap.size->(∀r,R r≠some g)->f_ w' g d f/\∀r,c r≠some g:=by refine(Nl r s t wr w w (2*l_ T) (w+1) R (sM T) h.below.size h.cell h.m h.full U h.pc n o p).mono ?_;rintro e w' ⟨rfl,c,q,u,i,j⟩;have v:w.heap.size+1<wr.heap.size:=zK wr _ h.cell;refine⟨rfl,c,⟨by rw[zO,ny];exact q.mono (by simp;omega),by rw[zO];exact u,h.below.trans (i.below h.below.size ?_),i.cell h.cell ?_,?_⟩,?_⟩;(.rintro g k (rfl|⟨x,a⟩);(.omega);.have:=(h.m.inn x g a).1;omega);(.rintro(e|⟨x,a⟩);(.omega);.exact h.pc x a);(.intro x a;rcases j x _ a with b|b;(.exact h.pc x b);.omega);.intro g d f hb k l;refine⟨i.blk hb ?_,λx a=>?_⟩;(.rintro(e|⟨x,a⟩);(.exact k e);.exact l x a);.rcases j x _ a with b|b;(.exact l x b);.have:=hb.lt;omega
def XW(L:List Ax)(v:V_)(w:W_)(h:lT w v L)(hl:l_ L<=1000000)(ak:∀x∈L,oZ x)(aF:∀x∈L,x.K=5->0<l_ x.H):z 68 #[v] w λe w'=>e=.returned (.map (some w.heap.size))/\∃R,GY w w' R (tr L):=by
 obtain⟨A,c,rfl,hc,bi,aG⟩:=h.form;have bj:=O aG;have al:=O ak;have bl:=O aF;(have be:Hid (∀k,k<=l_ L->l_ (tr (L.take k))<=k*1000000):=O λk ad=>by(have:=Sw (L:=L.take k) λx P=>(ak x (R4 P)).rn);rwa[wE,fc_ ad]at this);have br:=O (GY.begin w);have bV:= @run_makeMap prog;clear h aG ak aF hc bi;go_in;go_wp2;go_loopw [13] (λi wr=>∃(k:Nat)(R:St->Option Nat),k<=l_ L/\i=.int .i64 (k:Int)/\w.heap.size+2<=wr.heap.size/\Hid (GY w wr R (tr (L.take k)))) (λi _=>l_ L-(intOf i).toNat);exact⟨0,_,gZ _,rfl,S,br⟩;obtain⟨k,R,ad,rfl,aN,B⟩:=hrel;by_cases bs:k<l_ L
 .obtain⟨b,bW,rfl,bt,bh⟩:=bj.o U
  obtain⟨x,P⟩:=g_ bs;obtain⟨bK,aO,aP⟩:=bh k x P;obtain⟨C,E,F,H,T,f,aQ,a0,a1,a2,a3,a4,a5,bL,bM,bN,a9,bO,ab,bP,bQ,bR,bS⟩:=wK aO aP bt B.o.below;have n:=O P;have av:=O aQ;have r1:0<=(k:Int):=U;have bT:(k:Int)<l_ L:=U;obtain⟨d,ae⟩:=e_ (wr.alloc (.cells (fZ x C E F H T f) 30));(have aR:f_ d wr.heap.size 30 (fZ x C E F H T f):=by rw[<-ae];exact f_.new _ _ _);(have aw:G wr d:=by rw[<-ae];exact bA);have X:Hid (GY w d R (tr (L.take k))):=O (B.o.up aw);have bu:=O aw;have ax:=O ae;have y:=O aR;have bv:Hid (N wr (w+1) 0 (.map (some w.heap.size))):=O B.o.cell;clear bh aO aP P aQ aw ae aR;by_cases D:x.K=5
  .have aS:=bl.o x (gV n.o) D
   obtain⟨bm,c2,am,_,_,Z⟩:=S1.form av.o.rs;injection am with an _ ao;subst an ao;obtain⟨bA,g,rfl,ay,V⟩:=Z aS;obtain⟨m,o⟩:=g_ aS
   have aT:x.H.headD []=m:=by
    cases aU:x.H with
    |nil=>rw[aU]at o;cases o
    |cons a l=>rw[aU]at o;simp at o;simp[o]
   have aV:=V 0 m o;have af:∀s:Later d,N s.at bA g m:=fq ((X.o.below.cell (p:=a_ bA g) ay).trans aV);have az:∀s:Later d,N s.at wr 12 (.slice (a_ bA g) (l_ x.H) f):=K_ y.o 12 rfl;have aA:∀s:Later d,N s.at wr 13 x.U:=K_ y.o 13 rfl;have aH:(x.K==5)=true:=Q D;have aW:Hid (Y1 x=if m=x.U then[] else[(m,x.U,false)]):=O (by unfold Y1;rw[P_ D,aT])
   have aX:Hid (l_ m<=m_/\l_ x.U<=m_):=O (by
    have q:=al.o x (gV n.o);have aI:=q.rs m (gV o);have aJ:=q.ro
    unfold m_;omega)
   have aK:N d wr 0 x.K:=y.o.cell 0;clear D V Z aV o aT;go_wp2_with (rw[ax.o]);refine iy k_ k_ ?_;(repeat quiet_step (fail));refine wpQuiet_nil ?_;rintro _ ⟨s1,rfl⟩;have ag:=O (X.o.up s1.below);have aB:=bk s1.below y.o;have aY:=af s1;clear af az aA;generalize s1.at=ap at *;have az:∀s:Later ap,N s.at wr 12 (.slice (a_ bA g) (l_ x.H) f):=K_ aB 12 rfl;have aA:∀s:Later ap,N s.at wr 13 x.U:=K_ aB 13 rfl;have af:=fq aY;clear aB aY s1;by_cases K:m=x.U;(.have hv:(m==x.U)=true:=Q K;have ac:Hid (GY w ap R (tr (L.take (k+1)))):=O (by rw[Fu n.o,aW.o,P_ K,fq_];exact ag.o);rw[hv];clear K hv;go_wp2;go_roundw;exact⟨k+1,R,U,R_,ac.o.size,ac⟩;exact M);.have hv:(m==x.U)=false:=Q K;have aq:Hid (tr (L.take (k+1))=tr (L.take k)++[(m,x.U,false)]):=O (by rw[Fu n.o,aW.o,C_ K]);rw[hv];clear K hv;go_wp2;refine kK 7 k_ k_ ?_;simp only[Vn,eo_,ep_,er_];(repeat quiet_step (fail));refine wpQuiet_nil ?_;rintro _ ⟨s2,rfl⟩;have ac:=O (ag.o.up s2.below);clear af az aA;generalize s2.at=bU at *;go_wp2_with fail;refine(ac.o.add (r:=m) (s:=x.U) false aX.o.1 aX.o.2 ?_).mono ?_;(.have:=be.o k ad;unfold m_;omega);rintro e w5 ⟨rfl,W,aZ,_⟩;have a6:Hid (GY w w5 W (tr (L.take (k+1)))):=O (by rw[aq.o];exact aZ);clear aZ ac;go_wp2;go_roundw;exact⟨k+1,W,U,R_,a6.o.size,a6⟩;exact M
  .by_cases J:x.K=6
   .have aH:(x.K==5)=false:=Q D
    have bn:(x.K==6)=true:=Q J;obtain⟨bm,c2,am,_,_,Z⟩:=S1.form av.o.rs;injection am with an _ ao;subst an ao;have bw:=O Z;have bx:Hid (Y1 x=OE x (l_ x.H)):=O (by unfold Y1;rw[C_ D,P_ J]);have bz:=(al.o x (gV n.o)).rn;have bB:Hid (jQ w (.slice T (l_ x.H) f) x.H):=O av.o.rs;have aK:N d wr 0 x.K:=y.o.cell 0;have bC:N d wr 12 (.slice T (l_ x.H) f):=y.o.cell 12;(have bJ:Hid (∀r,R r≠some wr.heap.size):=O λr bo=>absurd (B.o.m.inn r _ bo).2.2.lt (fr_ _));have bD:=O aN;clear D J Z aN;obtain⟨I,bE⟩:∃I,I=wr:=⟨_,rfl⟩;subst bE;go_wp2_with (rw[ax.o]);clear aK bC;go_loopw [41] (λj wr=>∃(i:Nat)(t:St->Option Nat),i<=l_ x.H/\j=.int .i64 (i:Int)/\Hid (GY w wr t (tr (L.take k)++OE x i))/\ Hid (G w wr/\f_ wr I.heap.size 30 (fZ x C E F H T f)/\∀r,t r≠some I.heap.size)) (λj _=>l_ x.H-(intOf j).toNat);exact⟨0,R,gZ _,rfl,O (by rw[Zn,fq_];exact X.o),O ⟨X.o.below,y.o,bJ.o⟩⟩;obtain⟨i,t,hi,rfl,ar,u⟩:=hrel;by_cases bf:i<l_ x.H
    .obtain⟨bA,g,rfl,ay,V⟩:=bw.o U
     obtain⟨s,q⟩:=g_ bf;have bp:N wr bA (g+i) s:=(u.o.1.cell (p:=a_ bA (g+i)) ay).trans (V i s q);have q1:0<=(i:Int):=U;have q2:(i:Int)<l_ x.H:=U;have bF:=O q
     have a7:Hid (l_ s<=m_/\l_ x.U<=m_):=O (by
      have aL:=al.o x (gV n.o);have aI:=aL.rs s (gV q);have aJ:=aL.ro
      unfold m_;omega)
     obtain⟨aM,aC⟩:=e_ (pW x i)
     have a8:Hid (Y 111 #[.agg (fZ x C E F H (a_ bA g) f),i] wr aM):=O (by
      rw[<-aC];exact Ui x i C F _ E H f wr bf (S1.up bB.o u.o.1) bz)
     have bg:=O aC;clear V q aC;go_wp2_with (refine Dp rfl 30 _ rfl I.heap.size 0 rfl (fZ x C E F H (a_ bA g) f).toList _ u.o.2.1.all underlying30 rfl gB ?_);refine a8.o.mono ?_;rintro e au ⟨rfl,ah⟩;have aD:=O (ar.o.up ah);have ai:=O (bk ah u.o.2.1);have bG:Hid (G w au):=O (b_ u.o.1 ah);have a':=O u.o.2.2;clear bp ah a8 ar u;cases aM;(.have bH:N au I 13 x.U:=ai.o.cell 13;have bI:Hid (OE x (i+1)=OE x i++[(s,x.U,true)]):=O (ace bF.o bg.o);go_wp2_with fail;refine(aD.o.add (r:=s) (s:=x.U) true a7.o.1 a7.o.2 ?_).mono ?_;(.have aI:=be.o k ad;have aJ:=Vz x i;rw[ny];unfold m_;omega);rintro e bq ⟨rfl,W,ba,bb⟩;have bc:=bb _ _ _ ai.o (by have:=bD.o;omega) a'.o;have aj:Hid (GY w bq W (tr (L.take k)++OE x (i+1))):=O (by rw[bI.o,<-Kg];exact ba);have aE:=O (And.intro aj.o.below bc);clear ba bb bc bH aD ai;go_wp2;go_roundw;exact⟨i+1,W,U,R_,aj,aE⟩;exact M);.have aj:Hid (GY w au t (tr (L.take k)++OE x (i+1))):=O (by rw[ad4 bg.o];exact aD.o);have aE:=O (And.intro bG.o (And.intro ai.o a'.o));go_wp2;go_roundw;exact⟨i+1,t,U,R_,aj,aE⟩;exact M
    ·(obtain rfl:i=l_ x.H:=by omega);have bd:Hid (GY w wr t (tr (L.take (k+1)))):=O (by rw[Fu n.o,bx.o];exact ar.o);go_wp2;go_roundw;exact⟨k+1,t,U,R_,bd.o.size,bd⟩;exact M
   .have aq:Hid (tr (L.take (k+1))=tr (L.take k)):=O (by rw[Fu n.o];simp[Y1,D,J]);have aH:(x.K==5)=false:=Q D;have bn:(x.K==6)=false:=Q J;have ag:Hid (GY w d R (tr (L.take (k+1)))):=O (by rw[aq.o];exact X.o);clear D J;go_wp2;go_roundw;rw[show wr.alloc _=d from ax.o];exact⟨k+1,R,U,R_,by have:=bu.o.size;omega,ag⟩;exact M
 ·(obtain rfl:k=l_ L:=by omega);have bv:=B.o.cell;go_wp2;go_ret;exact⟨rfl,R,by have:=B.o;rwa[jy]at this⟩
theorem tZ(x:Ax)(v:V_)(w:W_)(a:xP w)(b:oZ x)(h:AV w v x):z 22 #[v] w (l7 w (fD x)):=by by_cases hb:Z_ x=0;(.by_cases hl:jB x.K=true;(·(have c:jk x.K=true:=by unfold jB at hl;have:=Cg hl;unfold jk;grind);exact Qp x v w a b h hb hl c);.have d:jB x.K=false:=Q hl;by_cases c:jk x.K=true;(.exact NA x v w a b h hb d c);.exact Qo x v w a b h hb d (Q c));.exact Un x v w a b h hb




