import Derived.Test.YtgoapenfbanhaaaGreatDoorJ05
set_option linter.all false
set_option maxRecDepth 100000
set_option maxHeartbeats 32000000
open List renaming length->l_
open Go.RowKit Go.Proofs.Tryz
namespace Go.Proofs
abbrev j_:=@Go.Lib.hid
end Go.Proofs
namespace Go.Proofs.YtgoapenfbanhaaaGreatDoor
def Uses(w:World):Prop:=∀k:Nat,1<=k->k<=9->N w 0 (7*k) (jB k)/\N w 0 (7*k+1) (jk k)/\ N w 0 (7*k+2) (nJ k)/\N w 0 (7*k+3) (uA k)/\N w 0 (7*k+4) (uB k)/\ N w 0 (7*k+5) (kE k)/\N w 0 (7*k+6) (nZ k)
def Uses.up{w w':World}(h:Uses w)(hb:G w w'):Uses w':=λk a b=>by have:=h k a b;have hl:0<w.heap.size:=zK w _ this.1;refine⟨(hb.cell ?_).trans this.1,(hb.cell ?_).trans this.2.1,(hb.cell ?_).trans this.2.2.1,(hb.cell ?_).trans this.2.2.2.1,(hb.cell ?_).trans this.2.2.2.2.1,(hb.cell ?_).trans this.2.2.2.2.2.1,(hb.cell ?_).trans this.2.2.2.2.2.2⟩<;>exact hl
abbrev fZ(x:Ax)(a:Option Addr)(c:Nat)(A:Option Addr)(C:Nat)(s:Option Addr)(b:Nat):Array Value:= #[x.K,x.op,x.L.K,d_ x.L.N,x.L.lo,x.L.hi,.slice a (l_ x.L.J) c,x.R.K,d_ x.R.N,x.R.lo,x.R.hi,.slice A (l_ x.R.J) C,.slice s (l_ x.H) b,d_ x.U,d_ x.a,d_ x.b]
def Ub(x:Ax)(a:x.K<1\/9<x.K)(b c d:J_)(f g h:Nat)(w:World):Y 70 #[.agg (fZ x b f c g d h)] w (iN x):=by(have:iN x=false:=by unfold iN;have:decide (1<=x.K/\x.K<=9)=false:=sj U;rw[this];simp);rw[this];unfold fZ;rcases a with a|a;(.go_in;go_wp2;go_ret;exact⟨rfl,bA⟩);·(have i:¬x.K<1:=by omega);go_in;go_wp2;go_ret;exact⟨rfl,bA⟩
def Bj(x:Ax)(c d k:J_)(f g l:Nat)(w:World)(p:Uses w)(t:l_ x.L.J<=1000000)(u:l_ x.R.J<=1000000):Y 70 #[.agg (fZ x c f d g k l)] w (.bool (iN x)):=by by_cases q:x.K<1\/9<x.K;(.exact Ub x q c d k f g l w);obtain⟨n,r⟩:∃n:Nat,x.K=n:=⟨x.K.toNat,U⟩;obtain⟨o,t1,t2,t3,t4,t5,t6⟩:=p n U U;have B:0<w.heap.size:=zK w _ o;(have v:Hid (∀w,Y 113 #[.agg #[x.L.K,d_ x.L.N,x.L.lo,x.L.hi,.slice c (l_ x.L.J) f]] w (.bool (qY x.L))):=O λw=>D6 x.L c f w t);(have y:Hid (∀w,Y 113 #[.agg #[x.R.K,d_ x.R.N,x.R.lo,x.R.hi,.slice d (l_ x.R.J) g]] w (.bool (qY x.R))):=O λw=>D6 x.R d g w u);obtain⟨H,b⟩:∃a,Hid (iN x=a):=⟨_,O rfl⟩;rw[b.o];unfold iN at b;unfold fZ;rw[r]at b ⊢;have A:n=1\/n=2\/n=3\/n=4\/n=5\/n=6\/n=7\/n=8\/n=9:=U;generalize (l_ x.H)=m at *;generalize qY x.L=C at *;generalize qY x.R=E at *;have I:0<=(m:Int):=U;rcases A with rfl|rfl|rfl|rfl|rfl|rfl|rfl|rfl|rfl;all_goals simp[jB,jk,nJ,uA,uB,kE,nZ]at o t1 t2 t3 t4 t5 t6;go_in;go_wp2_with (first|(go_at_call 113;with_reducible refine(v.o _).mono ?_;rintro e s ⟨rfl,h⟩;obtain⟨K,L⟩:=FU h;obtain⟨W,X⟩:(w:Nat)<s/\w.heap.size+1<s.heap.size:=(by have:=h.size;simp at this;omega))|(go_at_call 113;with_reducible refine(y.o _).mono ?_;rintro e F ⟨rfl,j⟩;obtain⟨P,T⟩:=FU j));all_goals have i:=b.o;simp[jB,jk,nJ,uA,uB,kE,nZ]at i;go_ret;refine⟨lC ?_,?_⟩;(.rw[<-i];(try clear i);all_goals first|(simp_all;done)|(simp_all;omega)|(rw[Zd];simp_all;omega));.first|exact X_ bA _|exact b_ (X_ bA _) h|exact b_ (X_ bA _) j|exact b_ (b_ (X_ bA _) h) j
def GI(u U b:Bool)(x:Ax):Bool:=(!u||fK x.U)&&(!U||Y_ x.a)&&(!b||Y_ x.b)&&x.H.all fK
structure oZ(x:Ax):Prop where
 l:Je x.L
 r:Je x.R
 rs:∀s∈x.H,l_ s<=1000000
 rn:l_ x.H<=1000000
 ro:l_ x.U<=1000000
 a:l_ x.a<=1000000
 b:l_ x.b<=1000000
 lp:l_ x.L.J<=1000000
 rp:l_ x.R.J<=1000000
def Qe(x:Ax)(ag ah f c d:Bool)(le ai:Int)(aj ak E:J_)(al am F:Nat)(w:World)(aD:(f=false/\c=false/\d=false)\/(f=true/\c=false/\d=false)\/(f=false/\c=true/\d=false)\/(f=true/\c=true/\d=true))(m:oZ x)(H:jQ w (.slice E (l_ x.H) F) x.H):Y 71 #[.agg (fZ x aj al ak am E F),.agg #[ag,ah,f,c,d,le,ai]] w (GI f c d x):=by
 obtain⟨aE,aF,an,_,_,ao⟩:=S1.form H;injection an with ap _ aq;subst ap aq;have aI:=m.rn;(have X:Hid (∀w b,fK x.U=b->Y 114 #[x.U] w (.bool b)):=O λw b h=>by subst h;exact mD x.U w (by have:=m.ro;omega));(have Z:Hid (∀w b,Y_ x.a=b->Y 115 #[.string ⟨x.a.toArray⟩] w (.int .i64 (if b then 0 else 20))):=j_ λw b h=>by subst h;exact pV x.a w (by have:=m.a;omega));(have aa:Hid (∀w b,Y_ x.b=b->Y 115 #[.string ⟨x.b.toArray⟩] w (.int .i64 (if b then 0 else 20))):=j_ λw b h=>by subst h;exact pV x.b w (by have:=m.b;omega));(have a:Hid (∀(k:Nat)(s:St) w b,x.H[k]?=some s->fK s=b->Y 114 #[.string ⟨s.toArray⟩] w (.bool b)):=O λk s w b I h=>by subst h;exact mD s w (by have:=m.rs s (gV I);omega));have K:Hid (GI f c d x=((!f||fK x.U)&&(!c||Y_ x.a)&&(!d||Y_ x.b)&&x.H.all fK)):=O rfl;generalize GI f c d x=aJ at *;unfold fZ d_;rcases aD with⟨rfl,rfl,rfl⟩|⟨rfl,rfl,rfl⟩|⟨rfl,rfl,rfl⟩|⟨rfl,rfl,rfl⟩;(case' inr.inl=>cases t:fK x.U);(case' inr.inr.inl=>cases u:Y_ x.a);(case' inr.inr.inr=>cases t:fK x.U<;>cases u:Y_ x.a<;>cases hb:Y_ x.b);all_goals have v:=K.o;simp only[Bool.not_false,Bool.not_true,Bool.true_or,ik_,hr_,gb_,ic_, *]at v;have y:=O v;(try have aC:=O (λw=>X.o w _ t));(try have D:=O (λw=>Z.o w _ u));(try have G:=O (λw=>aa.o w _ hb));(try clear t);(try clear u);(try clear hb);(try simp only[ds_,dv_,du_,reduceIte]at D);(try simp only[ds_,dv_,du_,reduceIte]at G);go_in;go_wp2_with (first|(go_at_call 114;with_reducible refine(aC.o _).mono ?_;rintro e L ⟨rfl,g⟩;obtain⟨au,av⟩:=FU g;obtain⟨aK,aL⟩:(w:Nat)<L/\w.heap.size+1<L.heap.size:=(by have:=g.size;(try simp at this);omega))|(go_at_call 115;with_reducible refine(D.o _).mono ?_;rintro e P ⟨rfl,j⟩;obtain⟨aw,ax⟩:=FU j;obtain⟨aM,aN⟩:(w:Nat)<P/\w.heap.size+1<P.heap.size:=(by have:=j.size;(try simp at this);omega))|(go_at_call 115;with_reducible refine(G.o _).mono ?_;rintro e aG ⟨rfl,A⟩;obtain⟨ay,az⟩:=FU A))
 all_goals first
  |(go_ret
    exact⟨lC y.o.symm,by first
     |exact X_ bA _
     |exact b_ (b_ (b_ (X_ bA _) g) j) A
     |exact b_ (b_ (X_ bA _) g) j
     |exact b_ (X_ bA _) g
     |exact b_ (X_ bA _) j⟩)
  |skip
 all_goals
  go_loopw [38] (λi wr=>∃k:Nat,k<=l_ x.H/\i=.int .i64 (k:Int)/\Hid ((x.H.take k).all fK=true)/\Hid (Below w.heap.size w wr)) (λi _=>l_ x.H-(intOf i).toNat)
  exact⟨0,gZ _,rfl,O S,O (by first
   |exact X_ bA _
   |exact b_ (b_ (b_ (X_ bA _) g) j) A
   |exact b_ (b_ (X_ bA _) g) j
   |exact b_ (X_ bA _) g
   |exact b_ (X_ bA _) j)⟩
  obtain⟨k,I,rfl,T,r⟩:=hrel
  by_cases Q:k<l_ x.H
  .obtain⟨b,z,rfl,V,J⟩:=ao U
   obtain⟨s,n⟩:=g_ Q;have W:N wr b (z+k) s:=(r.o.cell (p:=a_ b (z+k)) V).trans (J k s n);have r1:0<=(k:Int):=U;have aH:(k:Int)<l_ x.H:=U;clear J
   cases l:fK s with
   |true=>
    have C:=O (a.o k s wr true n l);have o:Hid ((x.H.take (k+1)).all fK=true):=O (by rw[pU n,T.o,l];rfl);go_wp2_with fail;refine C.o.mono ?_;rintro e ar ⟨rfl,q⟩;have B:=O (b_ r.o q);go_wp2;go_roundw;exact⟨k+1,U,R,o,B⟩;exact M
   |false=>
    have C:=O (a.o k s wr false n l);have o:Hid (x.H.all fK=false):=O (FW n l);go_wp2_with fail;refine C.o.mono ?_;rintro e ar ⟨rfl,q⟩;have B:=O (b_ r.o q);go_wp2;go_ret;exact⟨lC (by rw[y.o,o.o]),B.o⟩
  ·(obtain rfl:k=l_ x.H:=by omega);have o:Hid (x.H.all fK=true):=O (by have:=T.o;rwa[jy]at this);go_wp2;go_ret;exact⟨lC (by rw[y.o,o.o]),r.o⟩


