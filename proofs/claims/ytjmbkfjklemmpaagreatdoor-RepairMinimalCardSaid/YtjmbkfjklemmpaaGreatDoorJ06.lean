import Derived.Test.YtjmbkfjklemmpaaGreatDoorJ05
set_option linter.all false
set_option maxRecDepth 100000
set_option maxHeartbeats 32000000
namespace Go.Proofs.YtjmbkfjklemmpaaGreatDoor
open Go.RowKit Tryz
def gG{w:World}{g:Nat}{t:TypeId}{a b c d e f i j k l m xb n o p q:Value}(h:f_ w g t #[a,b,c,d,e,f,i,j,k,l,m,xb,n,o,p,q]):N w g 0 a/\N w g 1 b/\N w g 2 c/\N w g 3 d/\N w g 4 e/\N w g 5 f/\N w g 6 i/\N w g 7 j/\ N w g 8 k/\N w g 9 l/\N w g 10 m/\N w g 11 xb/\N w g 12 n/\N w g 13 o/\N w g 14 p/\N w g 15 q:=⟨h.cell 0,h.cell 1,h.cell 2,h.cell 3,h.cell 4,h.cell 5,h.cell 6,h.cell 7,h.cell 8,h.cell 9,h.cell 10,h.cell 11,h.cell 12,h.cell 13,h.cell 14,h.cell 15⟩
def qx{w:World}{g:Nat}{t:TypeId}{a b c d e f i:Value}(h:f_ w g t #[a,b,c,d,e,f,i]):N w g 0 a/\N w g 1 b/\N w g 2 c/\N w g 3 d/\N w g 4 e/\N w g 5 f/\N w g 6 i:=⟨h.cell 0,h.cell 1,h.cell 2,h.cell 3,h.cell 4,h.cell 5,h.cell 6⟩
structure lJ(w:World)(x:Ax)(Al:Option Addr)(cl:Nat)(Ar:Option Addr)(cr:Nat)(As:Option Addr)(cs:Nat):Prop where
 l:CV w (.agg #[x.left.kind,d_ x.left.name,x.left.lo,x.left.hi,.slice Al x.left.parts.length cl]) x.left
 r:CV w (.agg #[x.right.kind,d_ x.right.name,x.right.lo,x.right.hi,.slice Ar x.right.parts.length cr]) x.right
 rs:lg w (.slice As x.roles.length cs) x.roles
def lJ.up{w w':World}{x:Ax}{a b c:Option Addr}{d e f:Nat}(h:lJ w x a d b e c f)(hb:G w w'):lJ w' x a d b e c f:=⟨h.l.up hb,h.r.up hb,S1.up h.rs hb⟩
structure zQ(w:World):Prop where
 n:Needs w
 u:Uses w
def zQ.up{w w':World}(h:zQ w)(hb:G w w'):zQ w':=⟨h.n.up hb,h.u.up hb⟩
def K6(x:Ax)(o:x.kind<1\/9<x.kind)(a b c:Option Addr)(d f g:Nat)(w:World)(j:zQ w)(h:qR x):z 65 #[.agg (gV x a d b f c g)] w λe w'=>e=.returned (X_ x)/\G w w':=by(have i:iM x=false:=by unfold iM;have:decide (1<=x.kind/\x.kind<=9)=false:=yR U;rw[this];simp);(have k:X_ x=22:=by unfold X_;rw[A_ i]);rw[k];(have l:Hid (∀w',G w w'->z 114 #[.agg (gV x a d b f c g)] w' λe m=>e=.returned false/\G w' m):=O λw' hb=>by rw[<-i];exact zP x a b c d f g w' (j.u.up hb) h.lp h.rp);unfold gV at l ⊢;go_in;go_wp2_with fail;refine(l.o _ bA).mono ?_;rintro e p ⟨rfl,n⟩;go_wp2;go_ret;exact⟨rfl,b_ bA n⟩
def jG(x:Ax)(v:Value)(w:World)(ad:zQ w)(ac:qR x)(h:AV w v x):Y 65 #[v] w (.int .i64 (X_ x)):=by
 obtain⟨bc,rfl,h⟩:=h;obtain⟨P,T,X,Z,bd,rfl,hl,aq,al⟩:=h.form;obtain⟨aa,c,rfl,_⟩:=S1.form al;have ae:lJ w x P T X Z aa c:=⟨hl,aq,al⟩;by_cases ar:x.kind<1\/9<x.kind;(·exact K6 x ar P X aa T Z c w ad ac);obtain⟨n,ah⟩:∃n:Nat,x.kind=n:=⟨x.kind.toNat,U⟩;obtain⟨t0,t1,t2,t3,t4,t5,t6⟩:=ad.u n U U;have aH:0<w.heap.size:=zy w _ t0;rw[M4 7 n]at t0 t1 t2 t3 t4 t5 t6;(have aD:(mY n=false/\uA n=false/\uB n=false)\/(mY n=true/\uA n=false/\uB n=false)\/(mY n=false/\uA n=true/\uB n=false)\/(mY n=true/\uA n=true/\uB n=true):=by rcases(show n=1\/n=2\/n=3\/n=4\/n=5\/n=6\/n=7\/n=8\/n=9 by omega) with rfl|rfl|rfl|rfl|rfl|rfl|rfl|rfl|rfl<;>decide);(have aE:oZ x=EY (mY n) (uA n) (uB n) x:=by unfold oZ EY;rw[ah]);(have am:Hid (∀W,G w W->Y 114 #[.agg (gV x P T X Z aa c)] W (.bool (iM x))):=O λW hb=>zP x P X aa T Z c W (ad.u.up hb) ac.lp ac.rp);(have an:Hid (∀W,G w W->Y 115 #[.agg (gV x P T X Z aa c),.agg #[jP n,jN n,mY n,uA n,uB n,(jX n:Int),(mZ n:Int)]] W (.bool (oZ x))):=O λW hb=>by rw[aE];exact Nt x _ _ _ _ _ _ _ P X aa T Z c W aD ac (S1.up ae.rs hb));(have a8:Hid (∀W,G w W->Y 116 #[.agg #[x.left.kind,d_ x.left.name,x.left.lo,x.left.hi,.slice P x.left.parts.length T]] W (.int .i64 (r_ x.left))):=O λW hb=>oh x.left _ W (ae.l.up hb) ac.l (ad.n.up hb));(have a':Hid (∀W,G w W->Y 116 #[.agg #[x.right.kind,d_ x.right.name,x.right.lo,x.right.hi,.slice X x.right.parts.length Z]] W (.int .i64 (r_ x.right))):=O λW hb=>oh x.right _ W (ae.r.up hb) ac.r (ad.n.up hb));(have ba:Hid (∀W,G w W->Y 117 #[.agg #[x.left.kind,d_ x.left.name,x.left.lo,x.left.hi,.slice P x.left.parts.length T]] W (.bool (oM x.left))):=O λW hb=>EX x.left _ W (ae.l.up hb));(have aF:Hid (∀W,G w W->Y 117 #[.agg #[x.right.kind,d_ x.right.name,x.right.lo,x.right.hi,.slice X x.right.parts.length Z]] W (.bool (oM x.right))):=O λW hb=>EX x.right _ W (ae.r.up hb));obtain⟨bh,L⟩:∃a,Hid (X_ x=a):=⟨_,O rfl⟩;rw[L.o];unfold X_ at L;unfold gV at am an;rw[ah]at L am an ⊢;generalize iM x=aI at *;generalize oZ x=aJ at *;generalize r_ x.left=au at *;generalize r_ x.right=av at *;generalize oM x.left=aK at *;generalize oM x.right=aw at *;generalize jP n=ai at *;generalize jN n=aj at *;generalize mY n=ax at *;generalize uA n=ay at *;generalize uB n=az at *;generalize jX n=le at *;generalize mZ n=aA at *;have n1:1<=n:=U;have be:n<=9:=U;obtain⟨ak,af⟩:∃ak,w.alloc (.cells #[(n:Int),x.op,x.left.kind,d_ x.left.name,x.left.lo,x.left.hi,.slice P x.left.parts.length T,x.right.kind,d_ x.right.name,x.right.lo,x.right.hi,.slice X x.right.parts.length Z,.slice aa x.roles.length c,d_ x.role,d_ x.a,d_ x.b] 43)=ak:=⟨_,rfl⟩;have f:=O (f_.new w 43 #[(n:Int),x.op,x.left.kind,d_ x.left.name,x.left.lo,x.left.hi,.slice P x.left.parts.length T,x.right.kind,d_ x.right.name,x.right.lo,x.right.hi,.slice X x.right.parts.length Z,.slice aa x.roles.length c,d_ x.role,d_ x.a,d_ x.b]);rw[af]at f;have d:Hid (G w ak):=O (by rw[<-af];exact bA);obtain⟨a0,a1,a2,a3,a4,a5,m,s,t,a9,y,ab,A,B,C,E⟩:=gG f.o;clear ah ar ad ac ae hl aq al h aD aE;go_in;go_wp2_with (rw[af]);clear af;refine(am.o _ d.o).mono ?_;rintro e W ⟨rfl,h⟩;replace d:=O (b_ d.o h);replace f:=O (bk h f.o);clear h a0 a1 a2 a3 a4 a5 m s t a9 y ab A B C E;obtain⟨a0,a1,a2,a3,a4,a5,m,s,t,a9,y,ab,A,B,C,E⟩:=gG f.o;cases aI;(case false=>go_wp2;go_ret;exact⟨qp (by have g:=L.o;simp at g;exact g),d.o⟩);(have k:∀j (u:Value),N w 0 (n*7+j) u->N W 0 (n*7+j) u:=λj u e=>(d.o.cell (p:=⟨0,n*7+j,none⟩) aH).trans e);replace t0:=k 0 _ t0;replace t1:=k 1 _ t1;replace t2:=k 2 _ t2;replace t3:=k 3 _ t3;replace t4:=k 4 _ t4;replace t5:=k 5 _ t5;replace t6:=k 6 _ t6;rw[eo_]at t0;have bb:w.heap.size<W.heap.size:=f.o.lt;obtain⟨aL,ag⟩:∃q,W.alloc (.cells #[ai,aj,ax,ay,az,(le:Int),(aA:Int)] 115)=q:=⟨_,rfl⟩;obtain⟨pu,ao⟩:=e_ W.heap.size;have i:=O (f_.new W 115 #[ai,aj,ax,ay,az,(le:Int),(aA:Int)]);rw[ag,ao]at i;(have ap:G W aL:=by rw[<-ag];exact bA);replace f:=O (bk ap f.o);have aG:=O (b_ d.o ap);obtain⟨aM,aN,aO,aP,aQ,aR,aS,aT,aU,aV,aW,xb,aX,aY,aZ,a6⟩:=gG f.o;obtain⟨F,b1,b2,b3,H,I,K⟩:=qx i.o;clear ap k;go_wp2_with (first|rw[ag]|rw[ao]);replace d:=aG;refine(an.o _ d.o).mono ?_;rintro e W ⟨rfl,h⟩;replace d:=O (b_ d.o h);replace f:=O (bk h f.o);replace i:=O (bk h i.o);clear h a0 a1 a2 a3 a4 a5 m s t a9 y ab A B C E aM aN aO aP aQ aR aS aT aU aV aW xb aX aY aZ a6 F b1 b2 b3 H I K t0 t1 t2 t3 t4 t5 t6 ag ao aG bb;obtain⟨a0,a1,a2,a3,a4,a5,m,s,t,a9,y,ab,A,B,C,E⟩:=gG f.o;obtain⟨F,b1,b2,b3,H,I,K⟩:=qx i.o;cases aJ;(case false=>go_wp2;go_ret;exact⟨qp (by have g:=L.o;simp at g;exact g),d.o⟩);cases ai;(case' true=>go_wp2_with fail;refine(a8.o _ d.o).mono ?_;rintro e W ⟨rfl,h⟩;replace d:=O (b_ d.o h);replace f:=O (bk h f.o);replace i:=O (bk h i.o);obtain⟨a0,a1,a2,a3,a4,a5,m,s,t,a9,y,ab,A,B,C,E⟩:=gG f.o;obtain⟨F,b1,b2,b3,H,I,K⟩:=qx i.o;by_cases hc:au=0;(case neg=>have hb:(au !=0)=true:=Q hc;go_wp2;go_ret;exact⟨qp (by have g:=L.o;simp[hc]at g;exact g),d.o⟩);subst hc);all_goals cases aj;case' true=>go_wp2_with fail;refine(a'.o _ d.o).mono ?_;rintro e W ⟨rfl,h⟩;replace d:=O (b_ d.o h);replace f:=O (bk h f.o);replace i:=O (bk h i.o);obtain⟨a0,a1,a2,a3,a4,a5,m,s,t,a9,y,ab,A,B,C,E⟩:=gG f.o;obtain⟨F,b1,b2,b3,H,I,K⟩:=qx i.o;by_cases hc:av=0;(case neg=>have hb:(av !=0)=true:=Q hc;go_wp2;go_ret;exact⟨qp (by have g:=L.o;simp[hc]at g;exact g),d.o⟩);subst hc
 all_goals
  by_cases aB:n=2
  case pos=>
   subst aB;go_wp2_with fail;refine(ba.o _ d.o).mono ?_;rintro e W ⟨rfl,h⟩;replace d:=O (b_ d.o h);replace f:=O (bk h f.o);replace i:=O (bk h i.o);obtain⟨a0,a1,a2,a3,a4,a5,m,s,t,a9,y,ab,A,B,C,E⟩:=gG f.o;obtain⟨F,b1,b2,b3,H,I,K⟩:=qx i.o;cases aK;(case true=>go_wp2;go_ret;exact⟨qp (by have g:=L.o;simp at g;exact g),d.o⟩);go_wp2_with fail;refine(aF.o _ d.o).mono ?_;rintro e W ⟨rfl,h⟩;replace d:=O (b_ d.o h);replace f:=O (bk h f.o);replace i:=O (bk h i.o);obtain⟨a0,a1,a2,a3,a4,a5,m,s,t,a9,y,ab,A,B,C,E⟩:=gG f.o;obtain⟨F,b1,b2,b3,H,I,K⟩:=qx i.o
   cases aw<;>
    (go_wp2;go_ret;exact⟨qp (by have g:=L.o;simp at g;exact g),d.o⟩)
  by_cases aC:n=1\/n=4\/n=8
  case pos=>
   rcases aC with rfl|rfl|rfl
   all_goals
    go_wp2_with fail
    refine(aF.o _ d.o).mono ?_
    rintro e W ⟨rfl,h⟩
    replace d:=O (b_ d.o h)
    replace f:=O (bk h f.o)
    replace i:=O (bk h i.o)
    obtain⟨a0,a1,a2,a3,a4,a5,m,s,t,a9,y,ab,A,B,C,E⟩:=gG f.o
    obtain⟨F,b1,b2,b3,H,I,K⟩:=qx i.o
    cases aw<;>
    (go_wp2;go_ret;exact⟨qp (by have g:=L.o;simp at g;exact g),d.o⟩)
  have q1:((n:Int)==1)=false:=by rw[KG];omega
  have q2:((n:Int)==2)=false:=by rw[KG];omega
  have bf:((n:Int)==4)=false:=by rw[KG];omega
  have bg:((n:Int)==8)=false:=by rw[KG];omega
  have a7:Hid ((n:Int)≠2/\¬((n:Int)=1\/(n:Int)=4\/(n:Int)=8)):=O U
  go_wp2
  go_ret
  exact⟨qp (by have g:=L.o;simp[a7.o]at g;exact g),d.o⟩
end Go.Proofs.YtjmbkfjklemmpaaGreatDoor
