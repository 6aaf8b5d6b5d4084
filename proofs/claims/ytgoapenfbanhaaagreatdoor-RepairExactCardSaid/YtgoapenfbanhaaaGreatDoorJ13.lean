import Derived.Test.YtgoapenfbanhaaaGreatDoorJ11
set_option linter.all false
set_option maxRecDepth 100000
set_option maxHeartbeats 32000000
open List renaming length->l_
open Go.RowKit Go.Proofs.Tryz
namespace Go.Proofs.YtgoapenfbanhaaaGreatDoor
variable{x:Ax}{g:Nat}{t:TypeId}{w w':World}
def gy{a b c d e f i j k l m x n o p q:Value}(h:f_ w g t #[a,b,c,d,e,f,i,j,k,l,m,x,n,o,p,q]):N w g 0 a/\N w g 1 b/\N w g 2 c/\N w g 3 d/\N w g 4 e/\N w g 5 f/\N w g 6 i/\N w g 7 j/\ N w g 8 k/\N w g 9 l/\N w g 10 m/\N w g 11 x/\N w g 12 n/\N w g 13 o/\N w g 14 p/\N w g 15 q:=⟨h.cell 0,h.cell 1,h.cell 2,h.cell 3,h.cell 4,h.cell 5,h.cell 6,h.cell 7,h.cell 8,h.cell 9,h.cell 10,h.cell 11,h.cell 12,h.cell 13,h.cell 14,h.cell 15⟩
def rQ{a b c d e f i:Value}(h:f_ w g t #[a,b,c,d,e,f,i]):N w g 0 a/\N w g 1 b/\N w g 2 c/\N w g 3 d/\N w g 4 e/\N w g 5 f/\N w g 6 i:=⟨h.cell 0,h.cell 1,h.cell 2,h.cell 3,h.cell 4,h.cell 5,h.cell 6⟩
structure kH(w:World)(x:Ax)(Al:Option Addr)(cl:Nat)(Ar:Option Addr)(cr:Nat)(As:Option Addr)(cs:Nat):Prop where
 l:CV w (.agg #[x.L.K,d_ x.L.N,x.L.lo,x.L.hi,.slice Al (l_ x.L.J) cl]) x.L
 r:CV w (.agg #[x.R.K,d_ x.R.N,x.R.lo,x.R.hi,.slice Ar (l_ x.R.J) cr]) x.R
 rs:jQ w (.slice As (l_ x.H) cs) x.H
def kH.up{a b c:J_}{d e f:Nat}(h:kH w x a d b e c f)(hb:G w w'):kH w' x a d b e c f:=⟨h.l.up hb,h.r.up hb,S1.up h.rs hb⟩
structure xP(w:World):Prop where
 n:Needs w
 u:Uses w
def xP.up(h:xP w)(hb:G w w'):xP w':=⟨h.n.up hb,h.u.up hb⟩
def Nk(x:Ax)(o:x.K<1\/9<x.K)(a b c:J_)(d f g:Nat)(w:World)(j:xP w)(h:oZ x):Y 42 #[.agg (fZ x a d b f c g)] w (Z_ x):=by(have i:iN x=false:=by unfold iN;have:decide (1<=x.K/\x.K<=9)=false:=sj U;rw[this];simp);(have k:Z_ x=22:=by unfold Z_;rw[P_ i]);rw[k];(have l:Hid (∀w',G w w'->Y 70 #[.agg (fZ x a d b f c g)] w' false):=O λw' hb=>by rw[<-i];exact Bj x a b c d f g w' (j.u.up hb) h.lp h.rp);unfold fZ at l ⊢;go_in;go_wp2_with fail;refine(l.o _ bA).mono ?_;rintro e p ⟨rfl,n⟩;go_wp2;go_ret;exact⟨rfl,b_ bA n⟩
def jq(x:Ax)(v:Value)(w:World)(S:xP w)(z:oZ x)(h:AV w v x):Y 42 #[v] w (.int .i64 (Z_ x)):=by
 obtain⟨bc,rfl,h⟩:=h;obtain⟨P,T,X,Z,bd,rfl,hl,aq,al⟩:=h.form;obtain⟨r,c,rfl,_⟩:=S1.form al;have V:kH w x P T X Z r c:=⟨hl,aq,al⟩;by_cases ar:x.K<1\/9<x.K;(.exact Nk x ar P X r T Z c w S z);obtain⟨n,ah⟩:∃n:Nat,x.K=n:=⟨x.K.toNat,U⟩;obtain⟨t0,t1,t2,t3,t4,t5,t6⟩:=S.u n U U;have aH:0<w.heap.size:=zK w _ t0;rw[OI 7 n]at t0 t1 t2 t3 t4 t5 t6;(have aD:(nJ n=false/\uA n=false/\uB n=false)\/(nJ n=true/\uA n=false/\uB n=false)\/(nJ n=false/\uA n=true/\uB n=false)\/(nJ n=true/\uA n=true/\uB n=true):=by rcases(show n=1\/n=2\/n=3\/n=4\/n=5\/n=6\/n=7\/n=8\/n=9 by omega) with rfl|rfl|rfl|rfl|rfl|rfl|rfl|rfl|rfl<;>decide);(have aE:nU x=GI (nJ n) (uA n) (uB n) x:=by unfold nU GI;rw[ah]);(have am:Hid (∀W,G w W->Y 70 #[.agg (fZ x P T X Z r c)] W (.bool (iN x))):=O λW hb=>Bj x P X r T Z c W (S.u.up hb) z.lp z.rp);(have an:Hid (∀W,G w W->Y 71 #[.agg (fZ x P T X Z r c),.agg #[jB n,jk n,nJ n,uA n,uB n,(kE n:Int),(nZ n:Int)]] W (.bool (nU x))):=O λW hb=>by rw[aE];exact Qe x _ _ _ _ _ _ _ P X r T Z c W aD z (S1.up V.rs hb));(have a8:Hid (∀W,G w W->Y 72 #[.agg #[x.L.K,d_ x.L.N,x.L.lo,x.L.hi,.slice P (l_ x.L.J) T]] W (.int .i64 (u_ x.L))):=O λW hb=>pI x.L _ W (V.l.up hb) z.l (S.n.up hb));(have a':Hid (∀W,G w W->Y 72 #[.agg #[x.R.K,d_ x.R.N,x.R.lo,x.R.hi,.slice X (l_ x.R.J) Z]] W (.int .i64 (u_ x.R))):=O λW hb=>pI x.R _ W (V.r.up hb) z.r (S.n.up hb));(have ba:Hid (∀W,G w W->Y 73 #[.agg #[x.L.K,d_ x.L.N,x.L.lo,x.L.hi,.slice P (l_ x.L.J) T]] W (.bool (p9 x.L))):=O λW hb=>Gf x.L _ W (V.l.up hb));(have aF:Hid (∀W,G w W->Y 73 #[.agg #[x.R.K,d_ x.R.N,x.R.lo,x.R.hi,.slice X (l_ x.R.J) Z]] W (.bool (p9 x.R))):=O λW hb=>Gf x.R _ W (V.r.up hb));obtain⟨bh,L⟩:∃a,Hid (Z_ x=a):=⟨_,O rfl⟩;rw[L.o];unfold Z_ at L;unfold fZ at am an;rw[ah]at L am an ⊢;generalize iN x=aI at *;generalize nU x=aJ at *;generalize u_ x.L=au at *;generalize u_ x.R=av at *;generalize p9 x.L=aK at *;generalize p9 x.R=aw at *;generalize jB n=ai at *;generalize jk n=aj at *;generalize nJ n=ax at *;generalize uA n=ay at *;generalize uB n=az at *;generalize kE n=le at *;generalize nZ n=aA at *;have n1:1<=n:=U;have be:n<=9:=U;obtain⟨ak,af⟩:∃ak,w.alloc (.cells #[(n:Int),x.op,x.L.K,d_ x.L.N,x.L.lo,x.L.hi,.slice P (l_ x.L.J) T,x.R.K,d_ x.R.N,x.R.lo,x.R.hi,.slice X (l_ x.R.J) Z,.slice r (l_ x.H) c,d_ x.U,d_ x.a,d_ x.b] 30)=ak:=⟨_,rfl⟩;have f:=O (f_.new w 30 #[(n:Int),x.op,x.L.K,d_ x.L.N,x.L.lo,x.L.hi,.slice P (l_ x.L.J) T,x.R.K,d_ x.R.N,x.R.lo,x.R.hi,.slice X (l_ x.R.J) Z,.slice r (l_ x.H) c,d_ x.U,d_ x.a,d_ x.b]);rw[af]at f;have d:Hid (G w ak):=O (by rw[<-af];exact bA);obtain⟨b,a1,a2,a3,a4,a5,m,s,t,l,y,o,A,B,C,E⟩:=gy f.o;clear ah ar S z V hl aq al h aD aE;go_in;go_wp2_with (rw[af]);clear af;refine(am.o _ d.o).mono ?_;rintro e W ⟨rfl,h⟩;replace d:=O (b_ d.o h);replace f:=O (bk h f.o);clear h b a1 a2 a3 a4 a5 m s t l y o A B C E;obtain⟨b,a1,a2,a3,a4,a5,m,s,t,l,y,o,A,B,C,E⟩:=gy f.o;cases aI;(case false=>go_wp2;go_ret;exact⟨q9 (by have g:=L.o;simp at g;exact g),d.o⟩);(have k:∀j (u:Value),N w 0 (n*7+j) u->N W 0 (n*7+j) u:=λj u e=>(d.o.cell (p:=a_ 0 (n*7+j)) aH).trans e);replace t0:=k 0 _ t0;replace t1:=k 1 _ t1;replace t2:=k 2 _ t2;replace t3:=k 3 _ t3;replace t4:=k 4 _ t4;replace t5:=k 5 _ t5;replace t6:=k 6 _ t6;rw[ej_]at t0;have bb:(w:Nat)<W:=f.o.lt;obtain⟨aL,ag⟩:∃q,W.alloc (.cells #[ai,aj,ax,ay,az,(le:Int),(aA:Int)] 80)=q:=⟨_,rfl⟩;obtain⟨pu,ao⟩:=e_ W.heap.size;have i:=O (f_.new W 80 #[ai,aj,ax,ay,az,(le:Int),(aA:Int)]);rw[ag,ao]at i;(have ap:G W aL:=by rw[<-ag];exact bA);replace f:=O (bk ap f.o);have aG:=O (b_ d.o ap);obtain⟨aM,aN,aO,aP,aQ,aR,aS,aT,aU,aV,aW,xb,aX,aY,aZ,a6⟩:=gy f.o;obtain⟨F,D,J,M,H,I,K⟩:=rQ i.o;clear ap k;go_wp2_with (first|rw[ag]|rw[ao]);replace d:=aG;refine(an.o _ d.o).mono ?_;rintro e W ⟨rfl,h⟩;replace d:=O (b_ d.o h);replace f:=O (bk h f.o);replace i:=O (bk h i.o);clear h b a1 a2 a3 a4 a5 m s t l y o A B C E aM aN aO aP aQ aR aS aT aU aV aW xb aX aY aZ a6 F D J M H I K t0 t1 t2 t3 t4 t5 t6 ag ao aG bb;obtain⟨b,a1,a2,a3,a4,a5,m,s,t,l,y,o,A,B,C,E⟩:=gy f.o;obtain⟨F,D,J,M,H,I,K⟩:=rQ i.o;cases aJ;(case false=>go_wp2;go_ret;exact⟨q9 (by have g:=L.o;simp at g;exact g),d.o⟩);cases ai;(case' true=>go_wp2_with fail;refine(a8.o _ d.o).mono ?_;rintro e W ⟨rfl,h⟩;replace d:=O (b_ d.o h);replace f:=O (bk h f.o);replace i:=O (bk h i.o);obtain⟨b,a1,a2,a3,a4,a5,m,s,t,l,y,o,A,B,C,E⟩:=gy f.o;obtain⟨F,D,J,M,H,I,K⟩:=rQ i.o;by_cases R:au=0;(case neg=>have hb:(au !=0)=true:=Q R;go_wp2;go_ret;exact⟨q9 (by have g:=L.o;simp[R]at g;exact g),d.o⟩);subst R);all_goals cases aj;case' true=>go_wp2_with fail;refine(a'.o _ d.o).mono ?_;rintro e W ⟨rfl,h⟩;replace d:=O (b_ d.o h);replace f:=O (bk h f.o);replace i:=O (bk h i.o);obtain⟨b,a1,a2,a3,a4,a5,m,s,t,l,y,o,A,B,C,E⟩:=gy f.o;obtain⟨F,D,J,M,H,I,K⟩:=rQ i.o;by_cases R:av=0;(case neg=>have hb:(av !=0)=true:=Q R;go_wp2;go_ret;exact⟨q9 (by have g:=L.o;simp[R]at g;exact g),d.o⟩);subst R
 all_goals
  by_cases aB:n=2
  case pos=>
   subst aB;go_wp2_with fail;refine(ba.o _ d.o).mono ?_;rintro e W ⟨rfl,h⟩;replace d:=O (b_ d.o h);replace f:=O (bk h f.o);replace i:=O (bk h i.o);obtain⟨b,a1,a2,a3,a4,a5,m,s,t,l,y,o,A,B,C,E⟩:=gy f.o;obtain⟨F,D,J,M,H,I,K⟩:=rQ i.o;cases aK;(case true=>go_wp2;go_ret;exact⟨q9 (by have g:=L.o;simp at g;exact g),d.o⟩);go_wp2_with fail;refine(aF.o _ d.o).mono ?_;rintro e W ⟨rfl,h⟩;replace d:=O (b_ d.o h);replace f:=O (bk h f.o);replace i:=O (bk h i.o);obtain⟨b,a1,a2,a3,a4,a5,m,s,t,l,y,o,A,B,C,E⟩:=gy f.o;obtain⟨F,D,J,M,H,I,K⟩:=rQ i.o
   cases aw<;>
    (go_wp2;go_ret;exact⟨q9 (by have g:=L.o;simp at g;exact g),d.o⟩)
  by_cases aC:n=1\/n=4\/n=8
  case pos=>
   rcases aC with rfl|rfl|rfl
   all_goals
    go_wp2_with fail
    refine(aF.o _ d.o).mono ?_
    rintro e W ⟨rfl,h⟩
    replace d:=O (b_ d.o h)
    replace f:=O (bk h f.o)
    replace i:=O (bk h i.o)
    obtain⟨b,a1,a2,a3,a4,a5,m,s,t,l,y,o,A,B,C,E⟩:=gy f.o
    obtain⟨F,D,J,M,H,I,K⟩:=rQ i.o
    cases aw<;>
    (go_wp2;go_ret;exact⟨q9 (by have g:=L.o;simp at g;exact g),d.o⟩)
  have q1:((n:Int)==1)=false:=by rw[Mw];omega
  have q2:((n:Int)==2)=false:=by rw[Mw];omega
  have bf:((n:Int)==4)=false:=by rw[Mw];omega
  have bg:((n:Int)==8)=false:=by rw[Mw];omega
  have a7:Hid ((n:Int)≠2/\¬((n:Int)=1\/(n:Int)=4\/(n:Int)=8)):=O U
  go_wp2
  go_ret
  exact⟨q9 (by have g:=L.o;simp[a7.o]at g;exact g),d.o⟩



