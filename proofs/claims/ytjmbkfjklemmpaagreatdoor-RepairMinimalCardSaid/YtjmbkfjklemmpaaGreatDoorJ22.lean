import Derived.Test.YtjmbkfjklemmpaaGreatDoorJ21
set_option linter.all false
set_option maxRecDepth 100000
set_option maxHeartbeats 32000000
namespace Go.Proofs.YtjmbkfjklemmpaaGreatDoor
open Go.Maps Go.RowKit Tryz
def Gj(w:World):Prop:=∀k:Nat,1<=k->k<=9->N w 3 (7*k) (TH k)/\N w 3 (7*k+1) (TI k)/\N w 3 (7*k+2) (TJ k)/\N w 3 (7*k+3) (Ro k)/\ N w 3 (7*k+4) (TL k)/\N w 3 (7*k+5) (TM k)/\N w 3 (7*k+6) (JU k)
def Gj.up{w w':World}(h:Gj w)(hb:G w w'):Gj w':=λk j l=>by obtain⟨a,b,c,d,e,f,g⟩:=h k j l;(have k:∀(o:Nat)(u:Value),N w 3 o u->N w' 3 o u:=λo u i=>(hb.cell (p:=⟨3,o,none⟩) (zy w _ i)).trans i);exact⟨k _ _ a,k _ _ b,k _ _ c,k _ _ d,k _ _ e,k _ _ f,k _ _ g⟩
def qc(y:Bool)(s:St)(a:FuncId)(hf:a=248\/a=246\/a=247)(b:y=true->∀W,Y a #[s] W true)(c:y=false->s=[]):Hid (∀W,Y 245 #[y,s,.func (.func a) #[] #[]] W true):=λW=>by
 cases y;·(have q1:(s==[])=true:=by rw[c rfl];rfl);go_in;go_wp2;go_ret;exact⟨rfl,fD _ _⟩
 ·have H:=O (b rfl W)
  rcases hf with rfl|rfl|rfl<;>
  (go_in;go_wp2_with fail;refine H.o.mono ?_;rintro e f ⟨rfl,d⟩;go_wp2;go_ret;exact⟨rfl,d⟩)
def Rx(n:Nat)(az:1<=n)(aA:n<=9)(A B C R S T:St)(lo hi fA:Int)(w:World)(i l m r s t f:Bool)(fr:FuncId)(v0:N w 3 (7*n) i)(I:N w 3 (7*n+1) l)(v2:N w 3 (7*n+2) m)(v3:N w 3 (7*n+3) r)(v4:N w 3 (7*n+4) s)(v5:N w 3 (7*n+5) t)(K:N w 3 (7*n+6) f)(aB:decide (fA< -1)=false)(aC:decide ((1024:Int)<=fA)=false)(al:Hid (∀W,Y 245 #[i,A,.func (.func 248) #[] #[]] W true))(am:Hid (∀W,Y 245 #[l,B,.func (.func 248) #[] #[]] W true))(an:Hid (∀W,Y 245 #[m,C,.func (.func 248) #[] #[]] W true))(ao:Hid (∀W,Y 245 #[r,R,.func (.func fr) #[] #[]] W true))(ap:Hid (∀W,Y 245 #[s,S,.func (.func 246) #[] #[]] W true))(aq:Hid (∀W,Y 245 #[t,T,.func (.func 246) #[] #[]] W true))(ar:f=true/\fr=247/\-1099511627776<=lo/\lo<=hi/\hi<=1099511627776\/f=false/\fr=246/\lo=0/\hi=0):Y 198 #[.agg #[(n:Int),A,B,C,R,S,T,lo,hi,fA]] w true:=by have g1:decide ((n:Int)<1)=false:=yR U;have aD:decide (9<(n:Int))=false:=yR U;obtain⟨d,aj⟩:∃q,w.alloc (.cells #[(n:Int),A,B,C,R,S,T,lo,hi,fA] 146)=q:=⟨_,rfl⟩;obtain⟨c,ax⟩:=e_ w.heap.size;(have x:G w d:=by rw[<-aj];exact bA);(have y:f_ d c 146 #[(n:Int),A,B,C,R,S,T,lo,hi,fA]:=by rw[<-aj,<-ax];exact f_.new _ _ _);(have k:∀j (u:Value),N w 3 (7*n+j) u->N d 3 (n*7+j) u:=λj u h=>by rw[M4 n 7];exact(x.cell (p:=⟨3,7*n+j,none⟩) (zy w _ h)).trans h);have au:=k 0 _ v0;have aE:=k 1 _ I;have aF:=k 2 _ v2;have aG:=k 3 _ v3;have aH:=k 4 _ v4;have aI:=k 5 _ v5;have aJ:=k 6 _ K;rw[eo_]at au;obtain⟨v,ak⟩:∃q,d.alloc (.cells #[i,l,m,r,s,t,f] 311)=q:=⟨_,rfl⟩;obtain⟨pu,ay⟩:=e_ d.heap.size;(have H:G d v:=by rw[<-ak];exact bA);(have L:f_ v pu 311 #[i,l,m,r,s,t,f]:=by rw[<-ak,<-ay];exact f_.new _ _ _);have P:=bk H y;(have E:Hid (∀W,G v W->N W pu 0 i/\N W c 1 A/\N W pu 1 l/\N W c 2 B/\N W pu 2 m/\N W c 3 C/\N W pu 3 r/\N W c 4 R/\N W pu 4 s/\N W c 5 S/\N W pu 5 t/\N W c 6 T/\N W pu 6 f/\N W c 7 lo/\N W c 8 hi):=O λW h=>have a:=bk h L;have b:=bk h P;⟨a.cell 0,b.cell 1,a.cell 1,b.cell 2,a.cell 2,b.cell 3,a.cell 3,b.cell 4,a.cell 4,b.cell 5,a.cell 5,b.cell 6,a.cell 6,b.cell 7,b.cell 8⟩);have g:=O (fD v.heap.size v);have X:=O (x.trans (H.mono x.size));have c0:N d c 0 (n:Int):=y.cell 0;have aK:N d c 9 fA:=y.cell 9;clear x y H L P k v0 I v2 v3 v4 v5 K;rcases ar with⟨F,rfl,av,aw,k3⟩|⟨F,rfl,rfl,rfl⟩;(case' inl=>have n1:decide (lo< -1099511627776)=false:=yR U;have aL:decide (hi<lo)=false:=yR U;have aM:decide ((1099511627776:Int)<hi)=false:=yR U;clear av aw k3);all_goals rw[F]at E;clear F;obtain⟨c1,c2,c3,c4,c5,Z,aa,ab,ac,ad,ae,af,ag,ah,ai⟩:=E.o _ g.o;go_in;go_wp2_with (go_at_call 245;(with_reducible first|refine(al.o _).mono ?_|refine(am.o _).mono ?_|refine(an.o _).mono ?_|refine(ao.o _).mono ?_|refine(ap.o _).mono ?_|refine(aq.o _).mono ?_);rintro e aN ⟨rfl,h⟩;replace g:=O (g.o.trans (h.mono g.o.size));clear h c1 c2 c3 c4 c5 Z aa ab ac ad ae af ag ah ai;obtain⟨c1,c2,c3,c4,c5,Z,aa,ab,ac,ad,ae,af,ag,ah,ai⟩:=E.o _ g.o);go_ret;exact⟨rfl,X.o.trans (g.o.mono X.o.size)⟩
def OG(p:Pc)(w:World)(d:IC p)(i:ZW p)(j:Gj w):Y 198 #[.agg (vP p)] w true:=by
 obtain⟨k,A,B,C,R,S,T,lo,hi,fA⟩:=p;have l:=d.v.k;simp only at l;obtain⟨n,rfl⟩:∃n:Nat,k=n:=⟨k.toNat,U⟩;obtain⟨m,hb,hc,o,q,u,_,_⟩:=i;obtain⟨v0,x,v2,v3,v4,v5,y⟩:=j n U U;obtain⟨hv,hf⟩:=d;simp only at m hb hc o q u hf
 have E:∀f,(f=247/\JU n=true\/f=246/\JU n=false)->Hid (∀W,Y 245 #[Ro n,R,.func (.func f) #[] #[]] W true):=λf h=>
  qc _ R f (by rcases h with⟨rfl,_⟩|⟨rfl,_⟩;exact .inr (.inr rfl);exact .inr (.inl rfl)) (λe W=>by
   rcases h with⟨rfl,h⟩|⟨rfl,_⟩;·have:=uO R W U;rwa[(hv.r.1 e).2 h]at this
   ·exact wV R W (hv.r.1 e).1 U) hv.r.2
 have go:=λf g h=>Rx n U U A B C R S T lo hi fA w _ _ _ _ _ _ _ f v0 x v2 v3 v4 v5 y (yR U) (yR U)
  (qc _ A _ (.inl rfl) (λe W=>wW A W (hv.a.1 e) U) hv.a.2) (qc _ B _ (.inl rfl) (λe W=>wW B W (hv.b.1 e) U) hv.b.2)
  (qc _ C _ (.inl rfl) (λe W=>wW C W (hv.c.1 e) U) hv.c.2) (E f g)
  (qc _ S _ (.inr (.inl rfl)) (λe W=>wV S W (hv.s.1 e) U) hv.s.2) (qc _ T _ (.inr (.inl rfl)) (λe W=>wV T W (hv.t.1 e) U) hv.t.2) h
 cases h:JU n;(·exact go _ (.inr ⟨rfl,h⟩) (.inr ⟨h,rfl,hv.n.2 h⟩));·have F:=hv.n.1 h;simp only[jr]at F;exact go _ (.inl ⟨rfl,h⟩) (.inl ⟨h,rfl,U⟩)
end Go.Proofs.YtjmbkfjklemmpaaGreatDoor
