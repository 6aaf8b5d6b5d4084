import Derived.Test.YtjmbkfjklemmpaaGreatDoorJ15
set_option linter.all false
set_option maxRecDepth 100000
set_option maxHeartbeats 32000000
open Go renaming World->W_,Value->V_
namespace Go.Proofs.YtjmbkfjklemmpaaGreatDoor
open Go.Maps Go.RowKit Tryz
def ab1(w0:W_)(kp mb:Nat)(fA:Int)(x:Ax):Prop:=∀(w:W_)(v:V_)(acc:List Pc)(Al:Option Addr)(cl:Nat)(Ar:Option Addr)(cr:Nat)(As:Option Addr)(cs:Nat),X_ x=0->lJ w0 x Al cl Ar cr As cs->G w0 w->Ad w0->Col w w0.heap.size kp mb v fA acc->acc.length<=10000-> z 138 #[.pointer (some ⟨kp,0,none⟩),.agg (gV x Al cl Ar cr As cs)] w (xK w0.heap.size kp mb v fA acc (Bb x) w)
def FQ(w:W_)(lo kp a:Nat)(v:V_)(fA:Int)(f:List Pc)(g:Col w lo kp a v fA f):∃b c d,z 194 #[.pointer (some ⟨kp,0,none⟩)] w λe w'=>e=.returned (.tuple #[Ah b c,Ai b d])/\pF w' kp a v b c d/\G w w':=⟨_,_,_,U8 w lo kp a v fA f g⟩
structure C16(W:W_)(b:Nat)(x:Ax)(Al:Option Addr)(cl:Nat)(Ar:Option Addr)(cr:Nat)(As:Option Addr)(cs:Nat)
def A16(W:W_)(b:Nat)(x:Ax)(Al:Option Addr)(cl:Nat)(Ar:Option Addr)(cr:Nat)(As:Option Addr)(cs:Nat):C16 W b x Al cl Ar cr As cs:=⟨⟩
section
variable{W:W_}{b:Nat}{x:Ax}{Al:Option Addr}{cl:Nat}{Ar:Option Addr}{cr:Nat}{As:Option Addr}{cs:Nat}
instance:CoeOut (C16 W b x Al cl Ar cr As cs) Prop:=⟨λ_=>N W b 0 x.kind/\N W b 1 x.op/\N W b 2 x.left.kind/\N W b 3 x.left.name/\N W b 4 x.left.lo/\N W b 5 x.left.hi/\N W b 6 (.slice Al x.left.parts.length cl)/\N W b 7 x.right.kind/\N W b 8 x.right.name/\N W b 9 x.right.lo/\ N W b 10 x.right.hi/\N W b 11 (.slice Ar x.right.parts.length cr)/\N W b 12 (.slice As x.roles.length cs)/\N W b 13 x.role/\N W b 14 x.a/\N W b 15 x.b⟩
structure Oi(w0 q0:W_)(kp mb pk pl pr b:Nat)(fA:Int)(x:Ax)(Al:Option Addr)(cl:Nat)(Ar:Option Addr)(cr:Nat)(As:Option Addr)(cs:Nat)(v0:V_)(acc:List Pc)(q:W_)(v:V_)(P:List Pc)(k:Nat):Prop where
 hf: -1<=fA/\fA<=100000
 tp:Ad w0
 n0:acc.length<=10000
 C:Col q w0.heap.size kp mb v fA (fT fA acc P)
 T:kU kp mb v0 q0 v q
 B:G w0 q
 D:pF q kp mb v pk pl pr
 X:f_ q b 43 (gV x Al cl Ar cr As cs)
 nx:¬Xc kp mb v b
 l:P.length<=k*1024
variable{w0 q0 q q':W_}{kp mb pk pl pr k:Nat}{fA:Int}{v0 v v':V_}{acc P p:List Pc}{c:Cn}{u:V_}
def Oi.to(h:Oi w0 q0 kp mb pk pl pr b fA x Al cl Ar cr As cs v0 acc q v P k)(d:Col q' w0.heap.size kp mb v' fA (fT fA (fT fA acc P) p))(a:kU kp mb v q v' q')(e:p.length<=1024):Oi w0 q0 kp mb pk pl pr b fA x Al cl Ar cr As cs v0 acc q' v' (P++p) (k+1):=⟨h.hf,h.tp,h.n0,by rw[kK];exact d,h.T.trans a,h.B.trans (h.C.low a),h.D.to a,a.blk h.X h.nx,a.nx h.X.lt h.nx,by have:=h.l;simp;omega⟩
def Oi.small(h:Oi w0 q0 kp mb pk pl pr b fA x Al cl Ar cr As cs v0 acc q v P k)(a:k<=8):(fT fA acc P).length<=20000:=by have:=(kW fA acc P).2;have:=h.l;have:=h.n0;omega
def Oi.left(h:Oi w0 q0 kp mb pk pl pr b fA x Al cl Ar cr As cs v0 acc q v P k)(d:k<=8)(hc:CV w0 u c)(a:r_ c=0):z 242 #[u,.pointer (some ⟨pl,0,none⟩),.pointer (some ⟨pk,0,none⟩)] q λe q'=>e=.returned (.tuple #[])/\∃v',Oi w0 q0 kp mb pk pl pr b fA x Al cl Ar cr As cs v0 acc q' v' (P++iF c) (k+1):=(Oe w0 kp mb pk pl pr fA h.hf c a u q v _ hc h.B h.tp h.C h.D (by have:=h.small d;have:=size_le a;omega)).mono λ_ _ ⟨e,_,f,g⟩=>⟨e,_,h.to f g (xL a)⟩
def Oi.right(h:Oi w0 q0 kp mb pk pl pr b fA x Al cl Ar cr As cs v0 acc q v P k)(d:k<=8)(hc:CV w0 u c)(a:r_ c=0):z 243 #[u,.pointer (some ⟨pk,0,none⟩),.pointer (some ⟨pr,0,none⟩)] q λe q'=>e=.returned (.tuple #[])/\∃v',Oi w0 q0 kp mb pk pl pr b fA x Al cl Ar cr As cs v0 acc q' v' (P++fV c) (k+1):=(JK w0 kp mb pk pl pr fA h.hf c a u q v _ hc h.B h.tp h.C h.D (by have:=h.small d;have:=size_le a;omega)).mono λ_ _ ⟨e,_,f,g⟩=>⟨e,_,h.to f g (tT a)⟩
def Oi.add(h:Oi w0 q0 kp mb pk pl pr b fA x Al cl Ar cr As cs v0 acc q v P k)(d:k<=8)(p:Pc)(f:Tx p)(a:Array V_)(g: #[(p.kind:V_),d_ p.A,d_ p.B,d_ p.C,d_ p.R,d_ p.S,d_ p.T,p.lo,p.hi,p.fA]=a)(W:W_)(i:G q W):z 195 #[.pointer (some ⟨kp,0,none⟩),.slice (some ⟨W.heap.size,0,none⟩) 1 1] (W.alloc (.cells a 146)) λe q'=>e=.returned (.tuple #[])/\∃v',Oi w0 q0 kp mb pk pl pr b fA x Al cl Ar cr As cs v0 acc q' v' (P++[p]) (k+1):=g ▸ (add_one h.C i p f h.hf (by have:=h.small d;omega)).mono λ_ _ ⟨e,_,j,l⟩=>⟨e,_,h.to j l S⟩
def Oi.atom(h:Oi w0 q0 kp mb pk pl pr b fA x Al cl Ar cr As cs v0 acc q v P k)(hc:CV w0 u c)(d:r_ c=0){W:W_}(a:G q W):z 196 #[u] W λe w'=>e=.returned (j_ c)/\G q w':=(Af c u W (hc.up (h.B.trans (a.mono h.B.size))) (LJ d) (h.tp.up (h.B.trans (a.mono h.B.size))) d).mono λ_ _ ⟨e,f⟩=>⟨e,a.trans (f.mono a.size)⟩
end
def LV{q W:W_}{s:List UInt8}(f:s.length<=24)(a:G q W):z 197 #[(s:List UInt8)] W λe w'=>e=.returned (lV s)/\G q w':=(wP s W U).mono λ_ _ ⟨e,d⟩=>⟨e,a.trans (d.mono a.size)⟩
def aag(w0:W_)(kp mb:Nat)(fA:Int)(hf: -1<=fA/\fA<=100000)(x:Ax)(aB:x.kind≠6):ab1 w0 kp mb fA x:=by
 intro w v0 acc Al cl Ar cr As cs aC am au aH an aD;have ae:=QX aC;have aI:¬Xc kp mb v0 w.heap.size:=an.fresh (fU _);have ap:=FQ (w.alloc (.cells (gV x Al cl Ar cr As cs) 43)) _ kp mb v0 fA acc (an.up bA);obtain⟨pk,pl,pr,ap⟩:=ap;have av:=O ap;(have aJ:Hid (∀q0,G w q0->pF q0 kp mb v0 pk pl pr->f_ q0 w.heap.size 43 (gV x Al cl Ar cr As cs)->Oi w0 q0 kp mb pk pl pr w.heap.size fA x Al cl Ar cr As cs v0 acc q0 v0 [] 0):=O λq0 aj ag aP=>⟨hf,aH,aD,an.up aj,.refl _ _ _ _,au.trans (aj.mono au.size),ag,aP,aI,S⟩);have ak:=O am.l;have al:=O am.r;have aV:=O am.rs;have ah:=O ae;have ao:=O ae.a;have aw:=O ae.b;unfold d_ at ak al;have j:=O ae.l;have g:=O ae.r;have aK:=ae.kind;obtain⟨n,aq⟩:=e_ x.kind;(have b:∀m:Int,(x.kind==m)=(n==m):=λm=>by rw[aq]);rw[aq]at j g aK aB;have s:=O aq;clear am au aH an ae aC aD aI hf ap aq;(try unfold d_ at av);rcases(show n=5\/n=7\/n=1\/n=2\/n=3\/n=4\/n=8\/n=9 by omega) with rfl|rfl|rfl|rfl|rfl|rfl|rfl|rfl;all_goals clear aK aB;(try replace j:=O (j.o rfl));(try replace g:=O (g.o rfl));go_in;go_wp2_with (go_at_call 194;(with_reducible refine av.o.mono ?_);rintro e q ⟨rfl,aj,ag⟩;have ax:Hid (kU kp mb v0 w v0 q):=O (.of (b_ bA ag));have d:=O (aJ.o q (b_ bA ag) aj (bk ag (f_.new w 43 (gV x Al cl Ar cr As cs))));obtain⟨z0,E,z2,z3,z4,z5,F,H,I,z9,K,L,y,A,Z,aa⟩:=iH d.o.X;clear aj ag);have ab:=O d.o.X;clear av aJ
 ·have ay:=ah.o.n
  rw[s.o]at ay;(have aL:x.roles.length=1:=by simp[jX,mZ]at ay;omega);obtain⟨r0,ar⟩:=y9 aL;have aW:Hid (r0.length<=24):=O (ah.o.rs r0 (by rw[ar];simp));have aX:=O ar;obtain⟨aY,c2,aQ,_,_,aM⟩:=S1.form aV.o;injection aQ with aR _ aS;subst aR aS;obtain⟨bA,t,rfl,az,aN⟩:=aM U;have aA:Hid (bA<w0.heap.size/\N w0 bA t r0):=O ⟨az,aN 0 r0 (by rw[ar];rfl)⟩;have aE:N q bA t r0:=(d.o.B.cell (p:=⟨bA,t,none⟩) az).trans aA.o.2;have aZ:0<x.roles.length:=U;have f:=O (d.o.add D (rF r0 x.role) (abZ (by have:=aW.o;omega) (by have:=ah.o.role;omega)) #[V 5,.string ⟨#[]⟩,.string ⟨#[]⟩,.string ⟨#[]⟩,r0,.string ⟨#[]⟩,x.role,V 0,V 0,V 0] rfl);have i:N q w.heap.size 12 (.slice (some ⟨bA,t,none⟩) x.roles.length cs)/\N q w.heap.size 13 x.role/\N q bA t r0:=⟨y,A,aE⟩;have aO:=d.o.C.blk.lt;have ac:Hid (G q q.drew):=O (fD _ _).drew;clear z0 E z2 z3 z4 z5 F H I z9 K L y A Z aa ay aL ar aM aN aE az;go_wp2
  go_region_held3 (λW=>N W w.heap.size 12 (.slice (some ⟨bA,t,none⟩) x.roles.length cs)/\N W w.heap.size 13 x.role/\N W bA t r0)
   (first|with_reducible exact i|with_reducible exact s4|with_reducible exact⟨rz i.1 _,rz i.2.1 _,rz i.2.2 _⟩|exact i|exact⟨rz i.1 _,rz i.2.1 _,rz i.2.2 _⟩)
   (first|(go_at_call 195;refine(f.o q.drew ac.o).mono ?_;rintro e q1 ⟨rfl,aT,h⟩;obtain⟨_,_,_,_,_,_,_,_,_,_,_,_,aF,aG,_,_⟩:=iH h.X;have s4:N q1 w.heap.size 12 (.slice (some ⟨bA,t,none⟩) x.roles.length cs)/\N q1 w.heap.size 13 x.role/\N q1 bA t r0:=⟨aF,aG,(h.B.cell (p:=⟨bA,t,none⟩) aA.o.1).trans aA.o.2⟩;have ai:=O h;clear h aF aG)|fail)
  all_goals clear f;obtain⟨z0,E,z2,z3,z4,z5,F,H,I,z9,K,L,y,A,Z,aa⟩:=iH ai.o.X;go_wp2;go_end0;exact⟨rfl,_,by unfold Bb;rw[s.o,aX.o];simpa using ai.o.C,ax.o.trans ai.o.T⟩
 ·have f:=O (d.o.add D (oP x.role) (ab0 (by have:=ah.o.role;omega)) #[V 7,.string ⟨#[]⟩,.string ⟨#[]⟩,.string ⟨#[]⟩,x.role,.string ⟨#[]⟩,.string ⟨#[]⟩,V 0,V 0,V 0] rfl);go_wp2_with (go_at_call 195;(with_reducible refine(f.o _ (fD _ _)).mono ?_);rintro e q ⟨rfl,v,h⟩;replace d:=O h;clear h z0 E z2 z3 z4 z5 F H I z9 K L y A Z aa f);go_wp2;go_end0;exact⟨rfl,_,by unfold Bb;rw[s.o];simpa using d.o.C,ax.o.trans d.o.T⟩
 iterate 3
  all_goals
   go_wp2_with (first|(go_at_call 242;(with_reducible first|refine(d.o.left D ak.o j.o).mono ?_|refine(d.o.left D al.o g.o).mono ?_);rintro e q ⟨rfl,v,h⟩;replace d:=O h;clear h z0 E z2 z3 z4 z5 F H I z9 K L y A Z aa;obtain⟨z0,E,z2,z3,z4,z5,F,H,I,z9,K,L,y,A,Z,aa⟩:=iH d.o.X)|(go_at_call 243;(with_reducible first|refine(d.o.right D al.o g.o).mono ?_|refine(d.o.right D ak.o j.o).mono ?_);rintro e q ⟨rfl,v,h⟩;replace d:=O h;clear h z0 E z2 z3 z4 z5 F H I z9 K L y A Z aa;obtain⟨z0,E,z2,z3,z4,z5,F,H,I,z9,K,L,y,A,Z,aa⟩:=iH d.o.X))
   first
    |(go_end0;exact⟨rfl,_,by unfold Bb;rw[s.o];simpa using d.o.C,ax.o.trans d.o.T⟩)
    |((first
     |(have _n:x.kind=1:=s.o;have f:=O (d.o.add D (kP (j_ x.left) (j_ x.right)) (JF (by have:=iD j.o;omega) (by have:=iD g.o;omega)) #[V 1,j_ x.left,.string ⟨#[]⟩,j_ x.right,.string ⟨#[]⟩,.string ⟨#[]⟩,.string ⟨#[]⟩,V 0,V 0,V 0] rfl);have af:=f)
     |(have _n:x.kind=2:=s.o;have f:=O (d.o.add D (kP (j_ x.left) (j_ x.right)) (JF (by have:=iD j.o;omega) (by have:=iD g.o;omega)) #[V 1,j_ x.left,.string ⟨#[]⟩,j_ x.right,.string ⟨#[]⟩,.string ⟨#[]⟩,.string ⟨#[]⟩,V 0,V 0,V 0] rfl);have af:=O (d.o.add D (kP (j_ x.right) (j_ x.left)) (JF (by have:=iD g.o;omega) (by have:=iD j.o;omega)) #[V 1,j_ x.right,.string ⟨#[]⟩,j_ x.left,.string ⟨#[]⟩,.string ⟨#[]⟩,.string ⟨#[]⟩,V 0,V 0,V 0] rfl))
     |(have _n:x.kind=3:=s.o;have f:=O (d.o.add D (vL (j_ x.left) (j_ x.right) iE) (abf (by have:=iD j.o;omega) (by have:=iD g.o;omega) D) #[V 2,j_ x.left,j_ x.right,.string ⟨#[33]⟩,.string ⟨#[]⟩,.string ⟨#[]⟩,.string ⟨#[]⟩,V 0,V 0,V 0] rfl);have af:=f)
     |(have _n:x.kind=4:=s.o;have f:=O (d.o.add D (ni x.role jo (j_ x.right)) (XK (by have:=ah.o.role;omega) D (by have:=iD g.o;omega)) #[V 4,.string ⟨#[42]⟩,.string ⟨#[]⟩,j_ x.right,x.role,.string ⟨#[]⟩,.string ⟨#[]⟩,V 0,V 0,V 0] rfl);have af:=f)
     |(have _n:x.kind=8:=s.o;have f:=O (d.o.add D (kP (lV x.a) (j_ x.right)) (JF (by have:=ao.o;simp[lV];omega) (by have:=iD g.o;omega)) #[V 1,lV x.a,.string ⟨#[]⟩,j_ x.right,.string ⟨#[]⟩,.string ⟨#[]⟩,.string ⟨#[]⟩,V 0,V 0,V 0] rfl);have af:=f)
     |(have _n:x.kind=9:=s.o;have f:=O (d.o.add D (ng (lV x.a) x.role (lV x.b)) (XJ (by have:=ao.o;simp[lV];omega) (by have:=ah.o.role;omega) (by have:=aw.o;simp[lV];omega)) #[V 3,lV x.a,.string ⟨#[]⟩,lV x.b,x.role,.string ⟨#[]⟩,.string ⟨#[]⟩,V 0,V 0,V 0] rfl);have af:=f))
      replace ab:=O d.o.X
      have i:=iH ab.o
      have aO:=d.o.C.blk.lt
      have ac:=O (fD q.heap.size q).drew
      clear z0 E z2 z3 z4 z5 F H I z9 K L y A Z aa
      go_region_held3 (λW=>A16 W w.heap.size x Al cl Ar cr As cs)
       (first|with_reducible exact i|with_reducible exact s2|with_reducible exact s4|with_reducible exact iH (ab.o.alloc _)|exact i)
       (first|(go_at_call 196;(with_reducible first|refine(d.o.atom ak.o j.o ad.o).mono ?_|refine(d.o.atom al.o g.o ad.o).mono ?_|refine(d.o.atom ak.o j.o ac.o).mono ?_|refine(d.o.atom al.o g.o ac.o).mono ?_);rintro e aU ⟨rfl,h⟩;have ab:=O (bk h d.o.X);have s2:=iH ab.o;have ad:=O h;clear h)|(go_at_call 197;(with_reducible first|refine(LV ao.o ad.o).mono ?_|refine(LV aw.o ad.o).mono ?_|refine(LV ao.o ac.o).mono ?_|refine(LV aw.o ac.o).mono ?_);rintro e aU ⟨rfl,h⟩;have ab:=O (bk h d.o.X);have s2:=iH ab.o;have ad:=O h;clear h)|(go_at_call 195;(first|with_reducible refine(f.o _ ad.o).mono ?_|with_reducible refine(af.o _ ad.o).mono ?_|refine(f.o _ ac.o).mono ?_);rintro e q1 ⟨rfl,aT,h⟩;have s4:=iH h.X;have ai:=O h;clear h)|fail)
      all_goals
       clear d i s4 ac aO ab f af
       try clear s2 ad
       have d:=ai
       clear ai
       obtain⟨z0,E,z2,z3,z4,z5,F,H,I,z9,K,L,y,A,Z,aa⟩:=iH d.o.X)
def j3(rs:List St)(t:St):Nat->St
 |0=>rs.headD []
 |k+1=>if k+2<rs.length then j3 rs t k++46::rs.getD (k+1) [] else t
def kD(rs:List St)(t:St)(k:Nat):List Pc:=(List.range k).map λj=>jy (j3 rs t j) (rs.getD (j+1) []) (j3 rs t (j+1))
def Oj(rs:List St)(t:St)(k:Nat):kD rs t (k+1)=kD rs t k++[jy (j3 rs t k) (rs.getD (k+1) []) (j3 rs t (k+1))]:=by unfold kD;rw[dr_,sJ,List.map_singleton]
def QY{rs:List St}{t:St}(d:t.length<=24)(b:∀s∈rs,s.length<=24)(k:Nat):(j3 rs t k).length<=25*(k+1):=by
 have c:∀i,(rs.getD i []).length<=24:=λi=>by
  rw[KH]
  cases h:rs[i]? with
  |none=>simp
  |some s=>exact b s (gM h)
 induction k with
 |zero=>
  show(rs.headD []).length<=_
  cases rs with
  |nil=>simp
  |cons a l=>have:=b a S;simp;omega
 |succ k e=>
  show(if k+2<rs.length then j3 rs t k++46::rs.getD (k+1) [] else t).length<=_;split;(·have:=c (k+1);simp only[lG,p8];omega);·omega
def Ol(rs:List St)(t:St):∀(n j:Nat),rs.length=j+1+n->om (j3 rs t j) t (rs.drop (j+1))=(kD rs t (j+n)).drop j:=by
 intro n
 induction n with
 |zero=>
  intro j h;rw[fb_ U];simp[om,kD]
 |succ n g=>
  intro j h;have c:j+1<rs.length:=U;have e:rs.drop (j+1)=rs[j+1]::rs.drop (j+2):=Hq c;(have hl:j<(kD rs t (j+(n+1))).length:=by simp[kD]);(have d:rs.getD (j+1) []=rs[j+1]:=by rw[KH,qY c];rfl);have i:j+1+n=j+(n+1):=U;have hi:=g (j+1) U;rw[i]at hi;(have k:(kD rs t (j+(n+1)))[j]=jy (j3 rs t j) rs[j+1] (j3 rs t (j+1)):=by rw[<-d];simp[kD]);rw[Hq hl,k,<-hi,e];by_cases l:n=0;(·subst l;have a:rs.drop (j+2)=[]:=fb_ U;(have b:j3 rs t (j+1)=t:=by show(if j+2<rs.length then _ else t)=t;rw[u_ U]);rw[a,b];rfl);·(have f:j+2<rs.length:=by omega);have a:rs.drop (j+2)=rs[j+2]::rs.drop (j+3):=Hq f;(have b:j3 rs t (j+1)=j3 rs t j++46::rs[j+1]:=by show(if j+2<rs.length then _ else t)=_;rw[A_ f,d]);rw[a,b];rfl
def FR{rs:List St}(t:St)(h:0<rs.length):om (rs.headD []) t rs.tail=kD rs t (rs.length-1):=by have:=Ol rs t (rs.length-1) 0 U;simpa[j3]using this
def XQ(c:W_)(kp b:Nat)(fA:Int)(hf: -1<=fA/\fA<=100000)(x:Ax)(d:x.kind=6):ab1 c kp b fA x:=by
 intro w v o ao ap aq ar a1 au av aJ F bd aj a2;have T:=QX av;have aQ:¬Xc kp b v w.heap.size:=aj.fresh (fU _);have ak:=T.n;rw[d]at ak;(have be:2<=x.roles.length/\x.roles.length<=4:=by simp[jX,mZ]at ak;omega);have aR:Hid (∀s∈x.roles,s.length<=24):=K_ T.rs;have aS:Hid (Bb x=kD x.roles x.role (x.roles.length-1)):=K_ (by unfold Bb;rw[d,<-FR x.role U];simp);have aA:Hid (∀k,(j3 x.roles x.role k).length<=25*(k+1)):=K_ (QY T.role T.rs);obtain⟨a3,c2,aK,bm,_,aB⟩:=S1.form aJ.rs;injection aK with aL _ aM;subst aL aM;obtain⟨bA,h,rfl,aC,aD⟩:=aB U;have bf:(1:Int)<=(x.roles.length:Int):=U;obtain⟨r0,q⟩:=get_some (l:=x.roles) (k:=0) U;have aT:Hid (c.cell? ⟨bA,h,none⟩=some (.string ⟨r0.toArray⟩)):=K_ (aD 0 r0 q)
 have aE:Hid (r0=j3 x.roles x.role 0):=K_ (by
  show r0=x.roles.headD []
  cases aw:x.roles with
  |nil=>rw[aw]at q;cases q
  |cons a l=>rw[aw]at q;simp at q;simp[q])
 (have b1:(x.kind==1)=false:=by rw[d];decide);(have b2:(x.kind==2)=false:=by rw[d];decide);(have b3:(x.kind==3)=false:=by rw[d];decide);(have a4:(x.kind==4)=false:=by rw[d];decide);(have a5:(x.kind==5)=false:=by rw[d];decide);(have a6:(x.kind==6)=true:=by rw[d];decide);have r:=K_ (FQ (w.alloc (.cells (gV x ao ap aq ar (some ⟨bA,h,none⟩) au) 43)) _ kp b v fA o (aj.up (L_ (fD _ _) _)));obtain⟨a7,a8,a9,r⟩:=r.out;have r:=K_ r;(try unfold d_ at r);go_in;go_wp2_with (go_at_call 194;(with_reducible refine r.out.mono ?_);rintro e j ⟨rfl,bg,X⟩;have y:=bk X (f_.new w 43 (gV x ao ap aq ar (some ⟨bA,h,none⟩) au));obtain⟨z0,H,z2,z3,z4,z5,I,K,L,z9,Z,aa,ab,ac,ad,ae⟩:=iH y;have aN:j.cell? ⟨bA,h,none⟩=some (.string ⟨r0.toArray⟩):=((F.trans ((b_ (L_ (fD _ _) _) X).mono F.size)).cell (p:=⟨bA,h,none⟩) aC).trans aT.out);have af:Below w.heap.size w j:=b_ (L_ (fD _ _) _) X;have aU:=K_ y;have aF:=K_ (aj.up af);have aV:Hid (kU kp b v w v j):=K_ (.of af);have aW:Hid (kU kp b v j v j):=K_ (.refl _ _ _ _);have aX:Hid (Below c.heap.size c j):=K_ (F.trans (af.mono F.size));rw[aE.out];go_loopw [6,132] (λf i wr=>∃(k:Nat)(u:V_),k<=x.roles.length-1/\i=.int .i64 (k:Int)/\f=.string ⟨(j3 x.roles x.role k).toArray⟩/\Hid (Col wr c.heap.size kp b u fA (fT fA o (kD x.roles x.role k)))/\Hid (kU kp b v j u wr)) (λ_ i _=>x.roles.length-1-(intOf i).toNat);exact⟨0,v,gL _,rfl,rfl,aF,aW⟩;obtain⟨k,u,bh,rfl,rfl,al,A⟩:=hrel;by_cases bi:k<x.roles.length-1;(·obtain⟨s,P⟩:=get_some (l:=x.roles) (k:=k+1) U;have aG:Hid (Below c.heap.size c wr):=K_ (aX.out.trans (aF.out.low A.out));have ax:h+(k+1)=h+1+k:=U;(have ay:wr.cell? ⟨bA,h+1+k,none⟩=some (.string ⟨s.toArray⟩):=by rw[<-ax];exact(aG.out.cell (p:=⟨bA,h+(k+1),none⟩) aC).trans (aD (k+1) s P));have y:=A.out.blk aU.out aQ;obtain⟨z0,H,z2,z3,z4,z5,I,K,L,z9,Z,aa,ab,ac,ad,ae⟩:=iH y;have aH:Hid (x.roles.getD (k+1) []=s):=K_ (by rw[KH,P];rfl);have bj:=aR.out s (gM P);have aY:=aA.out k;have a0:=aA.out (k+1);have ag:=K_ (Oj x.roles x.role k);(have aI:(fT fA o (kD x.roles x.role k)).length<=100000:=by have az:=(kW fA o (kD x.roles x.role k)).2;(have m:(kD x.roles x.role k).length=k:=by simp[kD]);omega);have t:Hid (j3 x.roles x.role (k+1)=if k+2<x.roles.length then j3 x.roles x.role k++46::x.roles.getD (k+1) [] else x.role):=K_ rfl;obtain⟨f,am⟩:=e_ (j3 x.roles x.role k);obtain⟨g,an⟩:=e_ (j3 x.roles x.role (k+1));rw[am]at aY ag t;rw[am];rw[an]at a0 ag t;rw[aH.out]at ag t;(have ah:Hid (∀W,Below wr.heap.size wr W->Calls prog 195 #[.pointer (some ⟨kp,0,none⟩),.slice (some ⟨W.heap.size,0,none⟩) 1 1] (W.alloc (.cells #[.int .i64 6,.string ⟨#[]⟩,.string ⟨#[]⟩,.string ⟨#[]⟩,.string ⟨f.toArray⟩,.string ⟨s.toArray⟩,.string ⟨g.toArray⟩,.int .i64 0,.int .i64 0,.int .i64 0] 146)) λe w'=>e=.returned (.tuple #[])/\∃v',Col w' c.heap.size kp b v' fA (fT fA (fT fA o (kD x.roles x.role k)) [jy f s g])/\kU kp b u wr v' w'):=K_ λW aO=>add_one al.out aO (jy f s g) (aae U U U) hf aI);(have ai:Hid (∀(w':W_)(v':V_),Col w' c.heap.size kp b v' fA (fT fA (fT fA o (kD x.roles x.role k)) [jy f s g])->kU kp b u wr v' w'-> Hid (Col w' c.heap.size kp b v' fA (fT fA o (kD x.roles x.role (k+1))))/\Hid (kU kp b v j v' w')):=K_ λw' v' az m=>⟨K_ (by rw[ag.out,kK];exact az),K_ (A.out.trans m)⟩);have r1:(0:Int)<=(k:Int):=U;have a':(k:Int)<((x.roles.length-1:Nat):Int):=U;have ba:(k:Int)<(x.roles.length:Int)-1:=U;by_cases m:k+2<x.roles.length;(·have aZ:decide ((k:Int)+2<(x.roles.length:Int))=true:=Dx U;(have bl:((⟨f.toArray⟩:ByteArray)++⟨#[46]⟩++⟨s.toArray⟩)=⟨g.toArray⟩:=by have:=t.out;rw[A_ m]at this;rw[this];show((⟨f.toArray⟩++⟨[46].toArray⟩)++⟨s.toArray⟩:ByteArray)=_;rw[mO,mO];simp);have bb:¬9223372036854775807<f.length+1:=U;have bc:¬9223372036854775807<f.length+1+s.length:=U;go_wp2_with fail;refine(ah.out _ (fD _ _)).mono ?_;rintro e w5 ⟨rfl,v5,B,C⟩;have E:=ai.out w5 v5 B C;go_wp2;go_roundw;exact⟨k+1,v5,U,R,by rw[an],E.1,E.2⟩;exact M);·have aZ:decide ((k:Int)+2<(x.roles.length:Int))=false:=yR U;(have aP:g=x.role:=by have:=t.out;rwa[u_ m]at this);subst aP;go_wp2_with fail;refine(ah.out _ (fD _ _)).mono ?_;rintro e w5 ⟨rfl,v5,B,C⟩;have E:=ai.out w5 v5 B C;go_wp2;go_roundw;exact⟨k+1,v5,U,R,by rw[an],E.1,E.2⟩;exact M);·(obtain rfl:k=x.roles.length-1:=by omega);go_wp2;go_end0;exact⟨rfl,u,by rw[aS.out];exact al.out,aV.out.trans A.out⟩
def Va(a:W_)(kp b:Nat)(fA:Int)(hf: -1<=fA/\fA<=100000)(x:Ax):ab1 a kp b fA x:=by by_cases h:x.kind=6;(·exact XQ a kp b fA hf x h);·exact aag a kp b fA hf x h
structure Om(w:W_):Prop where
 s:zQ w
 t:Tab w
def Om.up{w w':W_}(h:Om w)(hb:G w w'):Om w':=⟨h.s.up hb,h.t.up hb⟩
def Om.p{w:W_}(h:Om w):Ad w:=⟨h.s.n,h.t⟩
def lJ.av{w:W_}{x:Ax}{a b d:Option Addr}{f g c:Nat}(h:lJ w x a f b g d c):AV w (.agg (gV x a f b g d c)) x:=⟨_,rfl,⟨_,_,_,rfl,by obtain⟨i,e,h⟩:=h.l;injection e with e;have:=qQ Array.toList e;simp at this;subst this;exact h,by obtain⟨i,e,h⟩:=h.r;injection e with e;have:=qQ Array.toList e;simp at this;subst this;exact h,h.rs⟩⟩
def JL(c:Cn):∀p∈iF c,p.fA=0:=by
 induction c using Cn.ind with
 |h c i=>
  have o:∀ps:List Cn,(∀p∈ps,∀q∈iF p,q.fA=0)->∀q∈iB ps,q.fA=0:=by
   intro ps
   induction ps with
   |nil=>intro _ q b;simp[iB]at b
   |cons a l e=>
    intro h q b;simp only[iB,gH]at b;rcases b with b|b;(·exact h a S q b);·exact e (λp j=>h p (by simp[j])) q b
  have hl:=o c.parts i
  have m:∀(l d:List Cn)(f:St),∀q∈wF f d l,q.fA=0:=by
   intro l
   induction l with
   |nil=>intro d f q b;simp[wF]at b
   |cons a l e=>
    intro d f q b;simp only[wF,jU]at b;rcases b with rfl|b;(·rfl);·exact e _ _ q b
  obtain⟨k,n,l,g,ps⟩:=c;simp only[Cn.parts]at hl;intro q b;simp only[iF]at b;split at b;(·rcases gH.1 b with b|b;(·exact hl q b);·cases ps with|nil=>simp at b|cons p r=>exact m r _ _ q b);split at b;(·rcases gH.1 b with b|b;(·exact hl q b);·rw[gy.1 b];rfl);split at b;(·rw[gy.1 b];rfl);·simp at b
def FT(c:Cn):∀p∈fV c,p.fA=0:=by
 induction c using Cn.ind with
 |h c f=>
  have j:∀(a:St)(ps:List Cn),(∀p∈ps,∀q∈fV p,q.fA=0)->(∀q∈iA a ps,q.fA=0)/\∀q∈lW ps,q.fA=0:=by
   intro a ps
   induction ps with
   |nil=>intro _;exact⟨λq d=>by simp[iA]at d,λq d=>by simp[lW]at d⟩
   |cons b l m=>
    intro h;(have e:=m λp i=>h p (by simp[i]));refine⟨λq d=>?_,λq d=>?_⟩;(·simp only[iA,jU,gH]at d;rcases d with rfl|d|d;(·rfl);(·exact h b S q d);·exact e.1 q d);·simp only[lW,gH]at d;rcases d with d|d;(·exact h b S q d);·exact e.2 q d
  (have hl:=λa=>j a c.parts f);obtain⟨k,n,l,g,ps⟩:=c;simp only[Cn.parts]at hl;intro q d;simp only[fV]at d;split at d;(·exact(hl _).1 q d);split at d;(·rcases jU.1 d with rfl|d;(·rfl);·exact(hl []).2 q d);split at d;(·rw[gy.1 d];rfl);·simp at d
def FU(t:St):∀(l:List St)(f:St),∀p∈om f t l,p.fA=0
 |[],f,p,h=>by simp[om]at h
 |[s],f,p,h=>by simp only[om,gy]at h;rw[h];rfl
 |s::r::l,f,p,h=>by
  simp only[om,jU]at h;rcases h with rfl|h;(·rfl);·exact FU t (r::l) _ p (Q h)
def aah(x:Ax):∀p∈Bb x,p.fA=0:=by intro p a;have L:=JL;have R:=FT;unfold Bb at a;(repeat' split at a);(all_goals try simp only[gH,gy,ZH,ZI]at a);(·rcases a with(h|h)|rfl;(·exact L _ p h);(·exact R _ p h);·rfl);(·rcases a with((((h|h)|rfl)|h)|h)|rfl;(·exact L _ p h);(·exact R _ p h);(·rfl);(·exact L _ p h);(·exact R _ p h);·rfl);(·rcases a with(h|h)|rfl;(·exact L _ p h);(·exact L _ p h);·rfl);(·rcases a with h|rfl;(·exact R _ p h);·rfl);(·rw[a];rfl);(·exact FU _ _ _ p a);(·rw[a];rfl);(·rcases a with h|rfl;(·exact R _ p h);·rfl);·rw[a];rfl
def iJ(L:List Ax):Int:=if 1024<L.length then 2 else if gI L≠0 then gI L else if 16384<(fu L).length then 2 else 0
def wR(n:Nat)(L M:List Ax):iP n (L++M)=iP n L++iP (n+L.length) M:=by
 induction L generalizing n with
 |nil=>simp[iP]
 |cons x l a=>simp only[IY,iP,a,p8,Ho];rw[show n+1+l.length=n+(l.length+1) by omega]
def LW{L:List Ax}{k:Nat}{x:Ax}(h:L[k]?=some x):fu (L.take (k+1))=fu (L.take k)++(qz (Bb x)).map (h_ k):=by obtain⟨a,b⟩:=iR.1 h;unfold fu;rw[Ht a,b,wR];simp[iP,qg,fg_ (fh_ a)]
def DW(L:List Ax)(k:Nat):(fu (L.take k)).length<=(fu L).length:=by(have:fu L=fu (L.take k)++iP (0+(L.take k).length) (L.drop k):=by unfold fu;rw[<-wR,eb_]);rw[this,lG];omega
def aai{x:Ax}(h:X_ x=0):(Bb x).length<=5000:=by have e:=QX h;(have f:∀k:Int,jP k=true->x.kind=k->(iF x.left).length<=1024/\(fV x.left).length<=1024:=λk a b=>by have:=e.l (by rw[b];exact a);exact⟨xL this,tT this⟩);(have c:∀k:Int,jN k=true->x.kind=k->(iF x.right).length<=1024/\(fV x.right).length<=1024:=λk a b=>by have:=e.r (by rw[b];exact a);exact⟨xL this,tT this⟩);unfold Bb;by_cases a:x.kind=1;(·rw[A_ a];have:=f 1 rfl a;have:=c 1 rfl a;simp;omega);rw[u_ a];by_cases b:x.kind=2;(·rw[A_ b];have:=f 2 rfl b;have:=c 2 rfl b;simp;omega);rw[u_ b];by_cases d:x.kind=3;(·rw[A_ d];have:=f 3 rfl d;have:=c 3 rfl d;simp;omega);rw[u_ d];by_cases g:x.kind=4;(·rw[A_ g];have:=c 4 rfl g;simp;omega);rw[u_ g];by_cases m:x.kind=5;(·rw[A_ m];simp);rw[u_ m];by_cases i:x.kind=6;(·rw[A_ i];have o:=e.n;rw[i]at o;simp[jX,mZ]at o;rw[FR _ U];simp[kD];omega);rw[u_ i];by_cases p:x.kind=7;(·rw[A_ p];simp);rw[u_ p];by_cases j:x.kind=8;(·rw[A_ j];have:=c 8 rfl j;simp;omega);rw[u_ j];split<;>simp
def FV(l:List Pc):(qz l).length<=l.length:=by
 have:=(kW 0 [] l).2
 have key:∀(l a:List Pc),(l.foldl (λa p=>if p∈a then a else a++[p]) a).length<=a.length+l.length:=by
  intro l
  induction l with
  |nil=>intro a;simp
  |cons p l b=>
   intro a;rw[fi_];have:=b (if p∈a then a else a++[p]);split at this<;>rename_i h;(·rw[A_ h];simp;omega);·rw[u_ h];simp at this ⊢;omega
 have:=key l [];simpa[qz]using this
def Iw{L:List Ax}(h:gI L=0):∀x∈L,X_ x=0:=pV h
end Go.Proofs.YtjmbkfjklemmpaaGreatDoor
