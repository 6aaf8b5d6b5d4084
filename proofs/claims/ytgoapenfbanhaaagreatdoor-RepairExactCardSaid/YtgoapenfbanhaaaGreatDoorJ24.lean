import Derived.Test.YtgoapenfbanhaaaGreatDoorJ22
set_option linter.all false
set_option maxRecDepth 100000
set_option maxHeartbeats 32000000
open List renaming length->l_
open Go.Maps Go.RowKit Go.Proofs.Tryz
open Go renaming World->W_,Value->V_
namespace Go.Proofs.YtgoapenfbanhaaaGreatDoor
variable{α:Type}{x:Ax}{c p:Cn}{ps r:List Cn}{s:List UInt8}{l:List α}{b g i j k:Nat}{a:St}{u:V_}{W d w:W_}
def Uv(h:u_ c=0):Je c:=λx a=>by have:=(iB ((jX c).1 h |>.2 x a)).2.2.2.2.1;omega
def FE{c:W_}{a:Nat}(h:∃d,(∀(j:Nat) u,d[j]?=some u->N c b (a+5*i+j) u)/\nV c p d)(hb:b<c)(H:G c w):∃A cap,CV c (.agg #[p.K,p.N,p.lo,p.hi,.slice A (l_ p.J) cap]) p/\N w b (a+i*5) p.K/\N w b (a+i*5+1) p.N/\ N w b (a+i*5+2) p.lo/\N w b (a+i*5+3) p.hi/\N w b (a+i*5+4) (.slice A (l_ p.J) cap):=by obtain⟨d,g,e⟩:=h;obtain⟨A,cap,rfl⟩:=e.cells;(have k:∀(j:Nat) u,[Value.int .i64 p.K,d_ p.N,.int .i64 p.lo,.int .i64 p.hi,.slice A (l_ p.J) cap][j]?=some u->N w b (a+i*5+j) u:=λj u f=>by rw[OI i 5];exact(H.cell (p:=a_ b (a+5*i+j)) hb).trans (g j u f));exact⟨A,cap,e.cv,k 0 _ rfl,k 1 _ rfl,k 2 _ rfl,k 3 _ rfl,k 4 _ rfl⟩
theorem acO{a cap:Nat}(hb:b<d)(h:∀i p,c.J[i]?=some p->∃f,(∀(j:Nat) u,f[j]?=some u->N d b (a+5*i+j) u)/\nV d p f)(k:j<=l_ c.J)(H:l_ c.J<=cap)(g:cap<=maxLen):CV d (.agg #[V 5,x_,V 0,V 0,.slice (a_ b a) j cap]) (z8 (c.J.take j)):=by refine⟨[.int .i64 5,x_,.int .i64 0,.int .i64 0,.slice (a_ b a) j cap],rfl,?_⟩;unfold z8 nV;(have hl:l_ (c.J.take j)=j:=by grind);refine⟨some ⟨b,a,none⟩,cap,by rw[hl],U,g,λ_=>⟨b,a,rfl,hb,qI.of λi p e=>?_⟩⟩;grind
def nG(ps:List Cn)(k:Nat):St:=if k=0 then headA ps else r_ (z8 (ps.take (k+1)))
def Du(h:ps[0]?=some p):headA ps=r_ p:=by
 cases ps with
 |nil=>cases h
 |cons a l=>simp at h;subst h;rfl
def wS(ps:List Cn)(k:Nat):List Pc:=(List.range k).map λj=>wP (nG ps j) (r_ (ps.getD (j+1) Cn.nil)) (r_ (z8 (ps.take (j+2))))
def LG(h:ps[k+1]?=some p):wS ps (k+1)=wS ps k++[wP (nG ps k) (r_ p) (r_ (z8 (ps.take (k+2))))]:=by unfold wS;rw[dl_,wO,List.map_singleton,R3,h];rfl
def Uw(ps:List Cn):∀(n j:Nat),l_ ps=j+1+n->xA (nG ps j) (ps.take (j+1)) (ps.drop (j+1))=(wS ps (j+n)).drop j:=by
 intro n
 induction n with
 |zero=>
  intro j h;rw[ex_ U];simp[xA,wS]
 |succ n b=>
  intro j h;have a:j+1<l_ ps:=U;have e:ps.drop (j+1)=ps[j+1]::ps.drop (j+2):=Jd a;have c:ps.take (j+1)++[ps[j+1]]=ps.take (j+2):=(Fh a).symm;have hi:=b (j+1) U;(have d:nG ps (j+1)=r_ (.mk 5 [] 0 0 (ps.take (j+2))):=by unfold nG;rw[C_ U];rfl);rw[d]at hi;rw[e];simp only[xA];rw[c,hi];have f:j+1+n=j+(n+1):=U;rw[f];(have hl:j<l_ (wS ps (j+(n+1))):=by simp[wS]);rw[Jd hl];congr 1;simp[wS,z8,a]
theorem X9(h:ps=p::r):xA (r_ p) [p] r=wS ps (l_ r):=by have:=Uw ps (l_ r) 0 (by grind);subst h;simpa[nG,headA]using this
def LH(a:c.K=5)(b:0<l_ c.J):iO c=iT c.J++wS c.J (l_ c.J-1):=by
 obtain⟨k,n,l,g,ps⟩:=c;simp only[Cn.K,Cn.J]at *;simp only[iO];rw[P_ a]
 cases ps with
 |nil=>simp at b
 |cons p r=>simp only[p8,Nat.add_sub_cancel];rw[X9 rfl]
theorem Hu(a:c.K=6):iO c=iT c.J++[og c.N (headA c.J) (r_ c)]:=by obtain⟨k,n,l,g,ps⟩:=c;simp only[Cn.K,Cn.J,Cn.N]at *;simp only[iO];grind
theorem Er(a:c.K=7):iO c=[AQ c.N c.lo c.hi (r_ c)]:=by obtain⟨k,n,l,g,ps⟩:=c;simp only[Cn.K,Cn.N,Cn.lo,Cn.hi]at *;simp only[iO];grind
theorem QE(a:c.K≠5)(b:c.K≠6)(d:c.K≠7):iO c=[]:=by obtain⟨k,n,l,g,ps⟩:=c;simp only[Cn.K]at *;simp only[iO];grind
theorem Hw(a:c.K=5):gL c=iQ (r_ c) c.J:=by obtain⟨k,n,l,g,ps⟩:=c;simp only[Cn.K,Cn.J]at *;simp only[gL];grind
theorem Es(a:c.K=6):gL c=mE (r_ c) c.N (headA c.J)::mU c.J:=by obtain⟨k,n,l,g,ps⟩:=c;simp only[Cn.K,Cn.J,Cn.N]at *;simp only[gL];grind
theorem BD(a:c.K=7):gL c=[Vy (r_ c) c.N c.lo c.hi]:=by obtain⟨k,n,l,g,ps⟩:=c;simp only[Cn.K,Cn.N,Cn.lo,Cn.hi]at *;simp only[gL];grind
theorem LJ(a:c.K≠5)(b:c.K≠6)(d:c.K≠7):gL c=[]:=by obtain⟨k,n,l,g,ps⟩:=c;simp only[Cn.K]at *;simp only[gL];grind
def QF(h:ps[k]?=some p):iT (ps.take (k+1))=iT (ps.take k)++iO p:=by
 have f:∀a b:List Cn,iT (a++b)=iT a++iT b:=by
  intro a b;induction a with
  |nil=>rfl
  |cons x a c=>simp[iT,c]
 obtain⟨d,e⟩:=jv.1 h;rw[Fh d,e,f];simp[iT]
def NM(h:ps[k]?=some p):iQ a (ps.take (k+1))=iQ a (ps.take k)++([kF a (r_ p)]++gL p):=by
 have e:∀x y:List Cn,iQ a (x++y)=iQ a x++iQ a y:=by
  intro x y;induction x with
  |nil=>rfl
  |cons z x b=>simp[iQ,b]
 obtain⟨c,d⟩:=jv.1 h;rw[Fh c,d,e];simp[iQ]
def Aa(h:l_ l=1):∃p,l=[p]:=by
 match l,h with
 |[p],_=>exact⟨p,rfl⟩
def Et(h:∀p∈ps,u_ p=0)(k:Nat):l_ (iT (ps.take k))<=16*Cn.sizes ps:=by
 induction ps generalizing k with
 |nil=>simp[iT]
 |cons a l b=>
  cases k with
  |zero=>simp[iT]
  |succ k=>
   have d:=Dt a (h a S);have e:=b (λp c=>h p (by simp[c])) k;simp only[Vn,iT,Cn.sizes,ny];omega
def NP(h:∀p∈ps,u_ p=0)(a:St)(k:Nat):l_ (iQ a (ps.take k))<=16*Cn.sizes ps+k:=by
 induction ps generalizing k with
 |nil=>simp[iQ]
 |cons b l c=>
  cases k with
  |zero=>simp[iQ]
  |succ k=>
   have e:=Hq b (h b S);have f:=c (λp d=>h p (by simp[d])) k;simp only[Vn,iQ,Cn.sizes,ny,p8];omega
def cB{p:Addr}(h:w.cell? p=some u)(H:G w W):W.cell? p=some u:=(H.cell (zK w p h)).trans h
def aaF(w0:W_)(k m p P r:Nat)(f:Int)(c:Cn):Prop:=u_ c=0->∀(u:V_)(w:W_)(v:V_)(a:List Pc),CV w0 u c->G w0 w->Bu w0->Col w w0 k m v f a->qj w k m v p P r->l_ a+16*c.size<=50000-> z 240 #[u,.pointer P,.pointer p] w (yN w0 k m v f a (iO c) w)
def VT(w0:W_)(k m p l P:Nat)(f:Int)(c:Cn):Prop:=u_ c=0->∀(u:V_)(w:W_)(v:V_)(a:List Pc),CV w0 u c->G w0 w->Bu w0->Col w w0 k m v f a->qj w k m v p l P->l_ a+16*c.size<=50000-> z 241 #[u,.pointer p,.pointer P] w (yN w0 k m v f a (gL c) w)
structure T5(W:W_)(b:Nat)(c:Cn)(A:Option Addr)(m:Nat)(R:Prop)
def A5(W:W_)(b:Nat)(c:Cn)(A:J_)(m:Nat)(R:Prop):T5 W b c A m R:=⟨⟩
structure U5(W:W_)(b o:Nat)(c:Cn)(A:Option Addr)(m:Nat)
def D5(W:W_)(b o:Nat)(c:Cn)(A:J_)(m:Nat):U5 W b o c A m:=⟨⟩
section
variable{w0 w W q q':W_}{b o kp mb pk pl pr:Nat}{fM:Int}{c p:Cn}{u v v' v0:V_}{A:J_}{m:Nat}{acc P L:List Pc}{R:Prop}{t:TypeId}
instance:CoeSort (T5 W b c A m R) Prop:=⟨λ_=>N W b 0 c.K/\N W b 1 c.N/\N W b 2 c.lo/\N W b 3 c.hi/\N W b 4 (.slice A c.J.length m)/\R⟩
instance:CoeOut (T5 W b c A m R) Prop:=⟨λ_=>N W b 0 c.K/\N W b 1 c.N/\N W b 2 c.lo/\N W b 3 c.hi/\N W b 4 (.slice A c.J.length m)/\R⟩
instance:CoeSort (U5 W b o c A m) Prop:=⟨λ_=>N W b o c.K/\N W b (o+1) c.N/\N W b (o+2) c.lo/\N W b (o+3) c.hi/\N W b (o+4) (.slice A c.J.length m)⟩
instance:CoeOut (U5 W b o c A m) Prop:=⟨λ_=>N W b o c.K/\N W b (o+1) c.N/\N W b (o+2) c.lo/\N W b (o+3) c.hi/\N W b (o+4) (.slice A c.J.length m)⟩
def Kc(kp mb:Nat)(v:V_)(q W:W_):Prop:=∀g o u,N q g o u->¬Xc kp mb v g->N W g o u
def LK(h:G q W):Kc kp mb v q W:=λ_ _ _ a _=>cB a h
def kcT(h:mq kp mb v q v' W):Kc kp mb v q W:=λ_ _ _ a d=>h.cell a d
def c5(h:f_ q b t (Ct c A m)):A5 q b c A m True:=⟨h.cell 0,h.cell 1,h.cell 2,h.cell 3,h.cell 4,trivial⟩
def A5.of(k:Kc kp mb v q W)(x:¬Xc kp mb v b)(h:f_ q b t (Ct c A m))(r:R):A5 W b c A m R:=⟨k _ _ _ (h.cell 0) x,k _ _ _ (h.cell 1) x,k _ _ _ (h.cell 2) x,k _ _ _ (h.cell 3) x,k _ _ _ (h.cell 4) x,r⟩
def D5.of(k:Kc kp mb v q W)(x:¬Xc kp mb v b)(h:D5 q b o c A m):D5 W b o c A m:=⟨k _ _ _ h.1 x,k _ _ _ h.2.1 x,k _ _ _ h.2.2.1 x,k _ _ _ h.2.2.2.1 x,k _ _ _ h.2.2.2.2 x⟩
def aaG(h:∃a,(∀(j:Nat) u,a[j]?=some u->N w0 b (o+5*0+j) u)/\nV w0 p a)(hb:b<w0)(H:G w0 w):∃A m,CV w0 (.agg (Ct p A m)) p/\D5 w b o p A m:=by obtain⟨A,m,d,e⟩:=FE h hb H;exact⟨A,m,d,Q e⟩
structure FH(w0 w:W_)(kp mb pk pl pr:Nat)(fM:Int)(c:Cn)(A:Option Addr)(m:Nat)(v0:V_)(acc:List Pc)(q:W_)(v:V_)(P:List Pc):Prop where
 hf: -1<=fM/\fM<=100000
 tp:Bu w0
 hc:u_ c=0
 cv:CV w0 (.agg (Ct c A m)) c
 n:l_ acc+16*c.size<=50000
 C:Col q w0 kp mb v fM (gU fM acc P)
 T:mq kp mb v0 w v q
 B:G w0 q
 D:qj q kp mb v pk pl pr
 X:f_ q w 27 (Ct c A m)
 nx:¬Xc kp mb v w.heap.size
def FH.up(h:FH w0 w kp mb pk pl pr fM c A m v0 acc q v P)(k:G q q'):FH w0 w kp mb pk pl pr fM c A m v0 acc q' v P:=⟨h.hf,h.tp,h.hc,h.cv,h.n,h.C.up k,h.T.then k,h.B.trans (k.mono h.B.size),h.D.up k,bk k h.X,h.nx⟩
def FH.to(h:FH w0 w kp mb pk pl pr fM c A m v0 acc q v P)(a:Col q' w0 kp mb v' fM (gU fM (gU fM acc P) L))(k:mq kp mb v q v' q'):FH w0 w kp mb pk pl pr fM c A m v0 acc q' v' (P++L):=⟨h.hf,h.tp,h.hc,h.cv,h.n,by rw[mJ];exact a,h.T.trans k,h.B.trans (h.C.low k),h.D.to k,k.blk h.X h.nx,k.nx h.X.lt h.nx⟩
def FH.add(h:FH w0 w kp mb pk pl pr fM c A m v0 acc q v P)(p:Pc)(f:VQ p)(hl:l_ P<=50000)(a:A_)(g: #[(p.K:V_),d_ p.A,d_ p.B,d_ p.C,d_ p.R,d_ p.S,d_ p.T,p.lo,p.hi,p.fM]=a)(W:W_)(i:G q W):z 188 #[.pointer kp,.slice W 1 1] (L_ W 150 a) λe q'=>e=.returned (.tuple #[])/\∃v',FH w0 w kp mb pk pl pr fM c A m v0 acc q' v' (P++[p])/\mq kp mb v q v' q':=g ▸ (add_one h.C i p f h.hf (by have:=(mK fM acc P).2;have:=h.n;omega)).mono λ_ _ ⟨e,_,j,d⟩=>⟨e,_,h.to j d,d⟩
def FH.atom(h:FH w0 w kp mb pk pl pr fM c A m v0 acc q v P)(H:CV w0 u p)(d:u_ p=0){W:W_}(a:G q W):z 185 #[u] W λe w'=>e=.returned (r_ p)/\G q w':=(QA p u W (H.up (h.B.trans (a.mono h.B.size))) (Uv d) (h.tp.up (h.B.trans (a.mono h.B.size))) d).mono λ_ _ ⟨e,f⟩=>⟨e,a.trans (f.mono a.size)⟩
def FH.agi(h:FH w0 w kp mb pk pl pr fM c A m v0 acc q v P)(g:∀p∈c.J,aaF w0 kp mb pk pl pr fM p)(d:p∈c.J)(j:CV w0 u p)(k:l_ P+16*p.size<=16*c.size){W:W_}(a:G q W):z 240 #[u,.pointer pl,.pointer pk] W λe q'=>e=.returned (.tuple #[])/\∃v',FH w0 w kp mb pk pl pr fM c A m v0 acc q' v' (P++iO p)/\mq kp mb v q v' q':=(g p d (iU h.hc d) u W v _ j (h.B.trans (a.mono h.B.size)) h.tp (h.C.up a) (h.D.up a) (by have:=(mK fM acc P).2;have:=h.n;omega)).mono λ_ _ ⟨e,_,i,f⟩=>⟨e,_,(h.up a).to i f,(mq.of a).trans f⟩
def FH.agj(h:FH w0 w kp mb pk pl pr fM c A m v0 acc q v P)(g:∀p∈c.J,VT w0 kp mb pk pl pr fM p)(d:p∈c.J)(j:CV w0 u p)(k:l_ P+16*p.size<=16*c.size){W:W_}(a:G q W):z 241 #[u,.pointer pk,.pointer pr] W λe q'=>e=.returned (.tuple #[])/\∃v',FH w0 w kp mb pk pl pr fM c A m v0 acc q' v' (P++gL p)/\mq kp mb v q v' q':=(g p d (iU h.hc d) u W v _ j (h.B.trans (a.mono h.B.size)) h.tp (h.C.up a) (h.D.up a) (by have:=(mK fM acc P).2;have:=h.n;omega)).mono λ_ _ ⟨e,_,i,f⟩=>⟨e,_,(h.up a).to i f,(mq.of a).trans f⟩
def FH.start(i: -1<=fM/\fM<=100000)(d:u_ c=0)(H:CV w0 (.agg (Ct c A m)) c)(h:G w0 w)(e:Bu w0)(a:Col w w0 kp mb v fM acc)(f:qj w kp mb v pk pl pr)(g:l_ acc+16*c.size<=50000)(hw:w.alloc (.cells (Ct c A m) 27)=q):FH w0 w kp mb pk pl pr fM c A m v acc q v []:=by subst hw;exact⟨i,e,d,H,g,a.up bA,.of bA,h.trans (bA.mono h.size),f.up bA,f_.new _ _ _,a.fresh (gH _)⟩
end
def aaH(w0:W_)(n o P J pr:Nat)(fM:Int)(hf: -1<=fM/\fM<=100000):∀c:Cn,aaF w0 n o P J pr fM c:=by
 (refine Cn.ind λc aK=>?_);intro L u w v acc hc hB aU aL aM a7;obtain⟨A,m,rfl,bm,bn,aN⟩:=hc.form;unfold d_;unfold d_ at hc;obtain⟨T,ax⟩:=e_ (w.alloc (.cells (Ct c A m) 27));have a:=O (FH.start hf L hc hB aU aL aM a7 ax);have aV:=O aK;have aO:=O aN;have av:=O ax;(have Y:Hid (∀p∈c.J,u_ p=0):=O λp g=>iU L g);have H:=iB ((jX c).1 L).2.own;have bG:=size_eq c;have bI:=ig L;have bJ:=FD L;(have bz:T.heap.size=w.heap.size+1:=by rw[<-ax];simp);clear aK L hc aU aN ax hB aL aM;by_cases x:c.K=5
 .have aB:(c.K==5)=true:=Q x
  have aG:=H.2.2.2.1 x;have B:Hid (iO c=iT c.J++wS c.J (l_ c.J-1)):=O (LH x U);have aP:=O x;obtain⟨b,r,rfl,hb,au⟩:=aO.o U;have aA:=O au;clear x H au;go_in;go_wp2_with fail;rw[av.o];go_loopw [17] (λi wr=>∃(k:Nat)(K:V_),k<=l_ c.J/\i=V k/\Hid (FH w0 w n o P J pr fM c (a_ b r) m v acc wr K (iT (c.J.take k)))) (λi _=>l_ c.J-(intOf i).toNat);exact⟨0,v,gZ _,rfl,a⟩;obtain⟨k,K,a8,rfl,a⟩:=hrel;by_cases aW:k<l_ c.J
  .obtain⟨p,g⟩:=get_some aW
   obtain⟨ak,c2,F,a0,a1,a2,a3,a4⟩:=FE (aA.o k p g) hb a.o.B;have al:=O g;have Z:=O F;have r1:0<=(k:Int):=U;have a9:(k:Int)<l_ c.J:=U;go_wp2_with (refine z_ rfl 27 _ _ rfl wr 27 _ (f_.new _ _ _) (Ct p ak c2) rfl rfl rfl xU (xS ..) ?_);intro aw an ao _;have aX:¬Xc n o K wr.heap.size:=a.o.C.fresh (gH _);have bo:=a.o.C.blk.lt;have ap:G wr aw:=bA.grown ao S (λj aC=>by injection aC with e;omega);replace a:=O (a.o.up ap);obtain⟨a',ba,bb,bc,bd,_⟩:=c5 an;have be:=a.o.D.l
   have ar:=O (a.o.agi aV.o (gV al.o) Z.o (by
    have bf:=Et (ps:=c.J.take k) (λq bg=>Y.o q (R4 bg)) k;rw[cu_,Nat.min_self]at bf;have:=qJ al.o
    omega) (fu _ _))
   go_wp2_with (go_at_call 240;(with_reducible refine ar.o.mono ?_);rintro e bB ⟨rfl,v3,h,_⟩;have bp:=O h;clear h);go_wp2;go_roundw;exact⟨k+1,v3,U,R,by rw[QF al.o];exact bp⟩;exact M
  .obtain rfl:k=l_ c.J:=by omega
   have k4:N wr w 4 (.slice (a_ b r) (l_ c.J) m):=a.o.X.cell 4;obtain⟨p,g⟩:=get_some (l:=c.J) (k:=0) U;obtain⟨am,c0,F,a0,a1,a2,a3,a4⟩:=aaG (aA.o 0 p g) hb a.o.B;have aq:=O (a.o.atom F (Y.o p (gV g)) (fu _ _));have aY:Hid (r_ p=nG c.J 0):=O (by unfold nG;rw[P_ rfl,Du g]);rw[show iT (c.J.take (l_ c.J))=iT c.J++wS c.J 0 from by rw[jy];simp[wS]]at a;have bh:(0:Int)<l_ c.J:=U;have q1:(1:Int)<=l_ c.J:=U;have q2:1<=l_ c.J:=U;go_wp2_with (go_at_call 185;refine aq.o.mono ?_;rintro e bC ⟨rfl,C⟩;have m4:=cB k4 C);replace a:=O (a.o.up C);rw[aY.o];clear a0 a1 a2 a3 a4 k4 m4 aq C aY;go_loopw [6,34] (λf i wr=>∃(k:Nat)(K:V_),k<=l_ c.J-1/\i=V k/\f=nG c.J k/\Hid (FH w0 w n o P J pr fM c (a_ b r) m v acc wr K (iT c.J++wS c.J k))) (λ_ i _=>l_ c.J-1-(intOf i).toNat);exact⟨0,K,gZ _,rfl,rfl,a⟩;clear a;obtain⟨k,K,a8,rfl,rfl,a⟩:=hrel;by_cases aW:k<l_ c.J-1
   .obtain⟨p,g⟩:=get_some (l:=c.J) (k:=k+1) U
    obtain⟨ak,c2,F,a0,a1,a2,a3,a4⟩:=FE (aA.o (k+1) p g) hb a.o.B;rw[show r+(k+1)*5=r+5+k*5 by omega]at a0 a1 a2 a3 a4;have al:=O g;have Z:=O F;have r1:0<=(k:Int):=U;have a9:(k:Int)<((l_ c.J-1:Nat):Int):=U;have bD:(k:Int)<l_ c.J-1:=U;have t:=O (Y.o p (gV g));have aJ:=nS (k:=k+2) a.o.hc aP.o U U;clear g F;go_wp2_with (refine z_ rfl 27 _ _ rfl wr 27 _ (f_.new _ _ _) (Ct p ak c2) rfl rfl rfl xU (xS ..) ?_);intro aw an ao _;have aX:¬Xc n o K wr.heap.size:=a.o.C.fresh (gH _);have bo:=a.o.C.blk.lt;have ap:G wr aw:=bA.grown ao S (λj aC=>by injection aC with e;omega);replace a:=O (a.o.up ap);have aH:=O an;have k4:N aw w 4 (.slice (a_ b r) (l_ c.J) m):=a.o.X.cell 4;have aq:=O (a.o.atom (acO hb aA.o (j:=k+2) U bm bn) aJ (fu _ _));have bE:(k:Int)+2<=(m:Int):=U
    have bq:Hid (l_ (nG c.J k)<=100000):=O (by
     unfold nG;split;.obtain⟨y,aQ⟩:=get_some (l:=c.J) (k:=0) U;rw[Du aQ];have:=ig (Y.o y (gV aQ));omega
     .have:=ig (nS (k:=k+1) a.o.hc aP.o U U);omega)
    have br:Hid (nG c.J (k+1)=r_ (z8 (c.J.take (k+2)))):=O (by unfold nG;rw[C_ U]);have bs:=O (ig aJ);clear an ao ap aJ a0 a1 a2 a3 a4;go_wp2_with (go_at_call 185;refine aq.o.mono ?_;rintro e aD ⟨rfl,C⟩);replace a:=O (a.o.up C);replace aH:=O (bk C aH.o)
    have z:=O (a.o.add (wP (nG c.J k) (r_ p) (r_ (z8 (c.J.take (k+2))))) (adG bq.o (by have:=ig t.o;omega) (by have:=bs.o;omega)) (by
     have bi:=Et Y.o (l_ c.J);rw[jy]at bi;(have bF:l_ (wS c.J k)=k:=by simp[wS]);have:=a.o.n;rw[ny]
     omega) #[V 2,nG c.J k,r_ p,r_ (z8 (c.J.take (k+2))),x_,x_,x_,V 0,V 0,V 0] rfl)
    have bt:=O (LG al.o);have bu:=a.o.C.blk.lt;clear C k4 aq;(have d:=O λW (k:Kc n o _ aD W)=>show A5 W wr p ak c2 (N W P 0 (.pointer n)) from A5.of k aX aH.o (k _ _ _ a.o.D.k a.o.D.nk));have s:=d.o _ (LK (fu _ _));have aj:=O (fu aD aD).drew
    go_region_held3 (λW=>A5 W wr p ak c2 (N W P 0 (.pointer n)))
     (first|with_reducible exact s|with_reducible exact s2|with_reducible exact s4|with_reducible exact d.o _ (LK (X_ E.o _))|exact s)
     (first|(go_at_call 185;(with_reducible first|refine(a.o.atom Z.o t.o E.o).mono ?_|refine(a.o.atom Z.o t.o aj.o).mono ?_);rintro e aR ⟨rfl,h⟩;have s2:=d.o _ (LK h);have E:=O h;clear h)|(go_at_call 188;(with_reducible refine(z.o _ E.o).mono ?_);rintro e aS ⟨rfl,aE,h,k⟩;have s4:=d.o _ (kcT k);have D:=O h;have aZ:=O k;clear h k)|fail)
    all_goals clear s d z s2 s4;go_wp2;go_roundw;exact⟨k+1,aE,U,R,by rw[br.o],by rw[bt.o,<-Kg];exact D⟩;exact M
   ·(obtain rfl:k=l_ c.J-1:=by omega);go_wp2;go_end0;exact⟨rfl,_,by rw[B.o];exact a.o.C,a.o.T⟩
 by_cases I:c.K=6
 .have aB:(c.K==5)=false:=Q x
  have aT:(c.K==6)=true:=Q I;have aG:=H.2.2.1 I;obtain⟨p,ay⟩:=Aa aG;have q2:0<l_ c.J:=U;have bh:(0:Int)<l_ c.J:=U;have B:Hid (iO c=iO p++[og c.N (r_ p) (r_ c)]):=O (by rw[Hu I,ay];simp[iT,headA]);have aI:Hid (p∈c.J):=O (by rw[ay];simp);obtain⟨b,r,rfl,hb,au⟩:=aO.o q2;obtain⟨am,c0,F,a5⟩:=aaG (au 0 p (by rw[ay];rfl)) hb a.o.B;(have a6:¬Xc n o v b:=λh=>by have:=(a.o.C.lt h).1;omega);have t:=O (Y.o p aI.o);have Z:=O F;have az:=O a5;have bH:=Cn.lu aI.o;have bK:=ig t.o;clear x I aG ay au H F a5;have ar:Hid (∀{W},G T W->_):=O (a.o.agi aV.o aI.o Z.o (by simp;omega));(have d:=O λW (k:Kc n o v T W)=>show N W J 0 (Bz P J)/\N W w 4 (.slice (a_ b r) (l_ c.J) m)/\D5 W b r p am c0 from⟨k _ _ _ a.o.D.l a.o.D.nl,k _ _ _ (a.o.X.cell 4) a.o.nx,D5.of k a6 az.o⟩);have s:=d.o _ (LK (fu _ _));go_in;go_wp2_with fail;rw[av.o]
  go_region_held3 (λW=>N W J 0 (Bz P J)/\N W w 4 (.slice (a_ b r) (l_ c.J) m)/\D5 W b r p am c0)
   (first|exact s|exact s2)
   (first|(go_at_call 240;(refine(ar.o (fu _ _).drew).mono ?_);rintro e aF ⟨rfl,bj,h,k⟩;have s2:=d.o _ (kcT k);have bv:=O h;have bw:=O k;clear h k)|fail)
  all_goals
   clear s d s2 ar
   replace a:=bv
   replace az:=O (D5.of (kcT bw.o) a6 az.o)
   have bx:¬Xc n o bj b:=λh=>by have:=(a.o.C.lt h).1;omega
   have bu:=a.o.C.blk.lt
   have z:=O (a.o.add (og c.N (r_ p) (r_ c)) (aaD U U U) (by have:=Dt p t.o;simp;omega) #[V 4,r_ p,x_,r_ c,c.N,x_,x_,V 0,V 0,V 0] rfl)
   go_wp2_with fail
   have d:=O λW (k:Kc n o _ aF W)=>show N W P 0 (.pointer n)/\A5 W w c (a_ b r) m (D5 W b r p am c0) from⟨k _ _ _ a.o.D.k a.o.D.nk,A5.of k a.o.nx a.o.X (D5.of k bx az.o)⟩
   have s:=d.o _ (LK (fu _ _))
   have aj:=O (fu aF aF).drew
   go_region_held3 (λW=>N W P 0 (.pointer n)/\A5 W w c (a_ b r) m (D5 W b r p am c0))
    (first|with_reducible exact s|with_reducible exact s2|with_reducible exact s4|with_reducible exact d.o _ (LK (X_ E.o _))|exact s)
    (first|(go_at_call 185;(with_reducible first|refine(a.o.atom Z.o t.o E.o).mono ?_|refine(a.o.atom a.o.cv a.o.hc E.o).mono ?_|refine(a.o.atom Z.o t.o aj.o).mono ?_|refine(a.o.atom a.o.cv a.o.hc aj.o).mono ?_);rintro e aR ⟨rfl,h⟩;have s2:=d.o _ (LK h);have E:=O h;clear h)|(go_at_call 188;(with_reducible refine(z.o _ E.o).mono ?_);rintro e aS ⟨rfl,aE,h,k⟩;have s4:=d.o _ (kcT k);have D:=O h;have aZ:=O k;clear h k)|fail)
   all_goals clear s d z s2 s4;go_wp2;go_end0;exact⟨rfl,_,by rw[B.o];exact D.o.C,D.o.T⟩
 by_cases X:c.K=7
 .have aB:(c.K==5)=false:=Q x
  have aT:(c.K==6)=false:=Q I;have bl:(c.K==7)=true:=Q X;have B:=O (Er X);have z:=O (a.o.add (AQ c.N c.lo c.hi (r_ c)) (agd U U ⟨H.2.2.2.2.2.2.1,H.2.2.2.2.2.2.2.1⟩ ⟨H.2.2.2.2.2.2.2.2.1,H.2.2.2.2.2.2.2.2.2⟩) S #[V 9,x_,x_,r_ c,c.N,x_,x_,c.lo,c.hi,V 0] rfl);clear x I X H;go_in;go_wp2_with fail;rw[av.o];(have d:=O λW (k:Kc n o _ T W)=>show A5 W w c A m (N W P 0 (.pointer n)) from A5.of k a.o.nx a.o.X (k _ _ _ a.o.D.k a.o.D.nk));have s:=d.o _ (LK (fu _ _));have aj:=O (fu T T).drew
  go_region_held3 (λW=>A5 W w c A m (N W P 0 (.pointer n)))
   (first|with_reducible exact s|with_reducible exact s2|with_reducible exact s4|with_reducible exact d.o _ (LK (X_ E.o _))|exact s)
   (first|(go_at_call 185;(with_reducible first|refine(a.o.atom a.o.cv a.o.hc E.o).mono ?_|refine(a.o.atom a.o.cv a.o.hc aj.o).mono ?_);rintro e aR ⟨rfl,h⟩;have s2:=d.o _ (LK h);have E:=O h;clear h)|(go_at_call 188;(with_reducible refine(z.o _ E.o).mono ?_);rintro e aS ⟨rfl,aE,h,k⟩;have s4:=d.o _ (kcT k);have D:=O h;have aZ:=O k;clear h k)|fail)
  all_goals clear s d z s2 s4;go_wp2;go_end0;exact⟨rfl,_,by rw[B.o];exact D.o.C,D.o.T⟩
 .have aB:(c.K==5)=false:=Q x;have aT:(c.K==6)=false:=Q I;have bl:(c.K==7)=false:=Q X;have B:=O (QE x I X);clear x I X H;go_in;go_wp2_with fail;rw[av.o];go_end0;exact⟨rfl,v,by rw[B.o];exact a.o.C,a.o.T⟩
def Ya(az:W_)(n y t aA o:Nat)(fM:Int)(hf: -1<=fM/\fM<=100000):∀c:Cn,VT az n y t aA o fM c:=by
 (refine Cn.ind λc aB=>?_);intro r u w v a9 hc hB aI aC aD aT;obtain⟨A,m,rfl,bj,bk,aE⟩:=hc.form;unfold d_;unfold d_ at hc;obtain⟨H,an⟩:=e_ (w.alloc (.cells (Ct c A m) 27));have a:=O (FH.start hf r hc hB aI aC aD aT an);have aJ:=O aB;have aF:=O aE;have X:=O an;(have aw:Hid (∀p∈c.J,u_ p=0):=O λp z=>iU r z);have x:=iB ((jX c).1 r).2.own;have bl:=size_eq c;have bo:=ig r;have bp:=FD r;(have bd:H.heap.size=w.heap.size+1:=by rw[<-an];simp);clear aB r hc aI aE an hB aC aD;by_cases s:c.K=5
 .have aq:(c.K==5)=true:=Q s
  have ax:=x.2.2.2.1 s;have I:Hid (gL c=iQ (r_ c) c.J):=O (Hw s);obtain⟨b,l,rfl,hb,T⟩:=aF.o U;have bc:=O T;clear s x T;go_in;go_wp2_with fail;rw[X.o];go_loopw [13] (λi wr=>∃(k:Nat)(ar:V_),k<=l_ c.J/\i=V k/\Hid (FH az w n y t aA o fM c (a_ b l) m v a9 wr ar (iQ (r_ c) (c.J.take k)))) (λi _=>l_ c.J-(intOf i).toNat);exact⟨0,v,gZ _,rfl,a⟩;clear a;obtain⟨k,ar,be,rfl,a⟩:=hrel;by_cases a':k<l_ c.J
  .obtain⟨p,z⟩:=get_some a'
   obtain⟨au,c2,C,a0,a1,a2,a3,a4⟩:=FE (bc.o k p z) hb a.o.B;have av:=O z;have K:=O C;have L:=O (aw.o p (gV z));have r1:0<=(k:Int):=U;have bf:(k:Int)<l_ c.J:=U;clear z C;go_wp2_with (refine z_ rfl 27 _ _ rfl wr 27 _ (f_.new _ _ _) (Ct p au c2) rfl rfl rfl xU (xS ..) ?_);intro Y aK aL _;have aM:¬Xc n y ar wr.heap.size:=a.o.C.fresh (gH _);have aN:G wr Y:=bA.grown aL S (λj aU=>by injection aU with e;omega);replace a:=O (a.o.up aN);have aO:=O aK
   have aP:Hid (l_ (iQ (r_ c) (c.J.take k))+16*p.size<=16*(c.size-1)+k):=O (by
    have aV:=NP (ps:=c.J.take k) (λq aW=>aw.o q (R4 aW)) (r_ c) k;rw[cu_,Nat.min_self]at aV;have:=qJ av.o
    omega)
   have F:=O (a.o.add (kF (r_ c) (r_ p)) (Ep U (by have:=ig L.o;omega)) (by have:=aP.o;have:=a.o.n;omega) #[V 1,r_ c,x_,r_ p,x_,x_,x_,V 0,V 0,V 0] rfl);clear aK aL aN a0 a1 a2 a3 a4;go_wp2_with fail;(have d:=O λW (k:Kc n y _ Y W)=>show A5 W w c (a_ b l) m (A5 W wr p au c2 (N W t 0 (.pointer n))) from A5.of k a.o.nx a.o.X (A5.of k aM aO.o (k _ _ _ a.o.D.k a.o.D.nk)));have f:=d.o _ (LK (fu _ _));have P:=O (fu Y Y).drew
   go_region_held3 (λW=>A5 W w c (a_ b l) m (A5 W wr p au c2 (N W t 0 (.pointer n))))
    (first|with_reducible exact f|with_reducible exact s2|with_reducible exact s4|with_reducible exact d.o _ (LK (X_ g.o _))|exact f)
    (first|(go_at_call 185;(with_reducible first|refine(a.o.atom K.o L.o g.o).mono ?_|refine(a.o.atom a.o.cv a.o.hc g.o).mono ?_|refine(a.o.atom K.o L.o P.o).mono ?_|refine(a.o.atom a.o.cv a.o.hc P.o).mono ?_);rintro e aG ⟨rfl,h⟩;have s2:=d.o _ (LK h);have g:=O h;clear h)|(go_at_call 188;(with_reducible refine(F.o _ g.o).mono ?_);rintro e ak ⟨rfl,al,h,k⟩;have s4:=d.o _ (kcT k);have Z:=O h;have D:=O k;clear h k)|fail)
   all_goals clear f d F s2 s4;obtain⟨aX,aY,aZ,a5,a6,_⟩:=c5 (D.o.blk aO.o aM);have a7:=Z.o.D.r;have J:=O (Z.o.agj aJ.o (gV av.o) K.o (by have:=aP.o;simp only[ny,wT];omega) (fu _ _));clear a D;go_wp2_with (go_at_call 241;(with_reducible refine J.o.mono ?_);rintro e bg ⟨rfl,v3,h,_⟩;have ba:=O h;clear h);clear J aX aY aZ a5 a6 a7;go_wp2;go_roundw;exact⟨k+1,v3,U,R,by rw[NM av.o,<-Kg];exact ba⟩;exact M
  ·(obtain rfl:k=l_ c.J:=by omega);rw[jy]at a;go_wp2;go_end0;exact⟨rfl,_,by rw[I.o];exact a.o.C,a.o.T⟩
 by_cases E:c.K=6
 .have aq:(c.K==5)=false:=Q s
  have aH:(c.K==6)=true:=Q E;have ax:=x.2.2.1 E;obtain⟨p,ao⟩:=Aa ax;have q2:0<l_ c.J:=U;have I:Hid (gL c=[mE (r_ c) c.N (r_ p)]++gL p):=O (by rw[Es E,ao];simp[mU,headA]);have ay:Hid (p∈c.J):=O (by rw[ao];simp);obtain⟨b,l,rfl,hb,T⟩:=aF.o q2;obtain⟨am,c0,C,aQ⟩:=aaG (T 0 p (by rw[ao];rfl)) hb a.o.B;(have aR:¬Xc n y v b:=λh=>by have:=(a.o.C.lt h).1;omega);have L:=O (aw.o p ay.o);have K:=O C;have ap:=O aQ;have bm:=Cn.lu ay.o;have bq:=ig L.o;clear s E ax ao T x C aQ;have F:=O (a.o.add (mE (r_ c) c.N (r_ p)) (Uu U U U) S #[V 3,r_ c,x_,r_ p,c.N,x_,x_,V 0,V 0,V 0] rfl);go_in;go_wp2_with fail;rw[X.o];(have d:=O λW (k:Kc n y _ H W)=>show N W t 0 (.pointer n)/\A5 W w c (a_ b l) m (D5 W b l p am c0) from⟨k _ _ _ a.o.D.k a.o.D.nk,A5.of k a.o.nx a.o.X (D5.of k aR ap.o)⟩);have f:=d.o _ (LK (fu _ _));have P:=O (fu H H).drew
  go_region_held3 (λW=>N W t 0 (.pointer n)/\A5 W w c (a_ b l) m (D5 W b l p am c0))
   (first|with_reducible exact f|with_reducible exact s2|with_reducible exact s4|with_reducible exact d.o _ (LK (X_ g.o _))|exact f)
   (first|(go_at_call 185;(with_reducible first|refine(a.o.atom K.o L.o g.o).mono ?_|refine(a.o.atom a.o.cv a.o.hc g.o).mono ?_|refine(a.o.atom K.o L.o P.o).mono ?_|refine(a.o.atom a.o.cv a.o.hc P.o).mono ?_);rintro e aG ⟨rfl,h⟩;have s2:=d.o _ (LK h);have g:=O h;clear h)|(go_at_call 188;(with_reducible refine(F.o _ g.o).mono ?_);rintro e ak ⟨rfl,al,h,k⟩;have s4:=d.o _ (kcT k);have Z:=O h;have D:=O k;clear h k)|fail)
  all_goals
   clear f d F s2 s4
   replace a:=Z
   replace ap:=O (D5.of (kcT D.o) aR ap.o)
   have bb:¬Xc n y al b:=λh=>by have:=(a.o.C.lt h).1;omega
   have J:Hid (∀{W},G ak W->_):=O (a.o.agj aJ.o ay.o K.o (by simp;omega))
   have d:=O λW (k:Kc n y al ak W)=>show N W o 0 (BA t o)/\N W w 4 (.slice (a_ b l) (l_ c.J) m)/\D5 W b l p am c0 from⟨k _ _ _ a.o.D.r a.o.D.nr,k _ _ _ (a.o.X.cell 4) a.o.nx,D5.of k bb ap.o⟩
   have f:=d.o _ (LK (fu _ _))
   go_wp2
   go_region_held3 (λW=>N W o 0 (BA t o)/\N W w 4 (.slice (a_ b l) (l_ c.J) m)/\D5 W b l p am c0)
    (first|exact f|exact s2)
    (first|(go_at_call 241;(refine(J.o (fu _ _).drew).mono ?_);rintro e bh ⟨rfl,bi,h,k⟩;have s2:=d.o _ (kcT k);have aS:=O h;have bn:=O k;clear h k)|fail)
   all_goals clear f d s2 J;go_wp2;go_end0;exact⟨rfl,_,by rw[I.o];exact aS.o.C,aS.o.T⟩
 by_cases B:c.K=7
 .have aq:(c.K==5)=false:=Q s
  have aH:(c.K==6)=false:=Q E;have a8:(c.K==7)=true:=Q B;have I:=O (BD B);have F:=O (a.o.add (Vy (r_ c) c.N c.lo c.hi) (aia U U ⟨x.2.2.2.2.2.2.1,x.2.2.2.2.2.2.2.1⟩ ⟨x.2.2.2.2.2.2.2.2.1,x.2.2.2.2.2.2.2.2.2⟩) S #[V 8,r_ c,x_,x_,c.N,x_,x_,c.lo,c.hi,V 0] rfl);clear s E B x;go_in;go_wp2_with fail;rw[X.o];(have d:=O λW (k:Kc n y _ H W)=>show A5 W w c A m (N W t 0 (.pointer n)) from A5.of k a.o.nx a.o.X (k _ _ _ a.o.D.k a.o.D.nk));have f:=d.o _ (LK (fu _ _));have P:=O (fu H H).drew
  go_region_held3 (λW=>A5 W w c A m (N W t 0 (.pointer n)))
   (first|with_reducible exact f|with_reducible exact s2|with_reducible exact s4|with_reducible exact d.o _ (LK (X_ g.o _))|exact f)
   (first|(go_at_call 185;(with_reducible first|refine(a.o.atom a.o.cv a.o.hc g.o).mono ?_|refine(a.o.atom a.o.cv a.o.hc P.o).mono ?_);rintro e aG ⟨rfl,h⟩;have s2:=d.o _ (LK h);have g:=O h;clear h)|(go_at_call 188;(with_reducible refine(F.o _ g.o).mono ?_);rintro e ak ⟨rfl,al,h,k⟩;have s4:=d.o _ (kcT k);have Z:=O h;have D:=O k;clear h k)|fail)
  all_goals clear f d F s2 s4;go_wp2;go_end0;exact⟨rfl,_,by rw[I.o];exact Z.o.C,Z.o.T⟩
 .have aq:(c.K==5)=false:=Q s;have aH:(c.K==6)=false:=Q E;have a8:(c.K==7)=false:=Q B;have I:=O (LJ s E B);clear s E B x;go_in;go_wp2_with fail;rw[X.o];go_end0;exact⟨rfl,v,by rw[I.o];exact a.o.C,a.o.T⟩
def BG(h:Z_ x=0):x.L.size<=64/\x.R.size<=64/\l_ x.H<=4:=by
 have j:=(lV h).2;(have m:l_ x.H<=4:=by refine gY j ?_;unfold nZ;split<;>(try split)<;>omega);unfold Z_ at h;by_cases e:iN x=false;(.rw[P_ e]at h;cases h);rw[C_ e]at h;by_cases g:nU x=false;(.rw[P_ g]at h;cases h);rw[C_ g]at h;have d:iN x=true:=Q e;unfold iN at d;simp only[OB,WB]at d
 have i:∀c:Cn,qY c=true->c.size<=64:=λc H=>by
  cases c with
  |mk k n l h ps=>
   unfold qY at H;simp only[OB,List.isEmpty_iff]at H;have:ps=[]:=H.2;subst this;simp[Cn.size,Cn.sizes]
 by_cases hl:jB x.K=true/\u_ x.L≠0;(.rw[P_ hl]at h;exact absurd h hl.2);rw[C_ hl]at h;by_cases f:jk x.K=true/\u_ x.R≠0;(.rw[P_ f]at h;exact absurd h f.2);refine⟨?_,?_,m⟩;(.by_cases b:jB x.K=true;(.exact(jZ (Mx λh=>hl ⟨b,h⟩)).2);.rcases d.1.1.1.1.1.2 with a|a;(.exact absurd a b);.exact i _ a);.by_cases b:jk x.K=true;(.exact(jZ (Mx λh=>f ⟨b,h⟩)).2);.rcases d.1.1.1.1.2 with a|a;(.exact absurd a b);.exact i _ a
def xY(h:(fD x).2=0):Z_ x=0/\SzA x/\SzA (fD x).1:=by(have a:Z_ x=0:=by apply Mx;intro f;unfold fD at h;rw[P_ f]at h;exact f h);obtain⟨d,e,i⟩:=BG a;refine⟨a,⟨U,U,U⟩,?_⟩;unfold fD at h ⊢;rw[C_ (Q a)]at h ⊢;dsimp only at h ⊢;(have hl:(if jB x.K=true then fB x.L else(x.L,0)).1.size<=64:=by split;(.exact gY (pF _) d);.exact d);(have g:(if jk x.K=true then fB x.R else(x.R,0)).1.size<=64:=by split;(.exact gY (pF _) e);.exact e);generalize (if jB x.K=true then fB x.L else(x.L,0))=l at h hl ⊢;generalize (if jk x.K=true then fB x.R else(x.R,0))=r at h g ⊢;by_cases b:l.2≠0;(.rw[P_ b]at h;exact absurd h b);rw[C_ b]at h ⊢;by_cases c:r.2≠0;(.rw[P_ c]at h;exact absurd h c);rw[C_ c]at h ⊢;split;(.exact⟨by show r.1.size<=_;omega,by show l.1.size<=_;omega,by show l_ x.H<=_;omega⟩);.exact⟨by show l.1.size<=_;omega,by show r.1.size<=_;omega,by show l_ x.H<=_;omega⟩
def kN(x:Ax):Int:=if(fD x).2≠0 then(fD x).2 else if(x.op==(fD x).1.op&&decide (lg x (fD x).1=0))=true then 0 else 22
def jU:List Ax->Int
 |[]=>0
 |x::l=>if kN x≠0 then kN x else jU l
def JQ{L:List Ax}(h:L[k]?=some x):jU (L.drop k)=if kN x≠0 then kN x else jU (L.drop (k+1)):=by have a:=(jv.1 h).1;rw[Jd a,(jv.1 h).2];rfl
def zB:∀{L:List Ax},jU L=0->∀x∈L,kN x=0
 |y::l,h,x,b=>by
  unfold jU at h;by_cases a:kN y=0;(.rw[C_ (Q a)]at h;rcases jL.1 b with rfl|b;(.exact a);.exact zB h x b);.rw[P_ a]at h;exact absurd h a
def NQ(h:kN x=0):(fD x).2=0/\(x.op==(fD x).1.op&&decide (lg x (fD x).1=0))=true:=by unfold kN at h;by_cases a:(fD x).2=0;(.rw[C_ (Q a)]at h;refine⟨a,Mx λH=>?_⟩;rw[C_ H]at h;cases h);.rw[P_ a]at h;exact absurd h a
def aaI(L:List Ax):Prop:=∀i x y,L[i]?=some x->L[i+1]?=some y->lg x y= -1
def vQ(L:List Ax):Bool:=L.any λx=>qN x.K&& !x.op
noncomputable def gP (L:List Ax):Int:=open Classical in
 if jU L≠0 then jU L else if ¬aaI L then 70 else if 1024<l_ L then 2 else if vQ L=true then 71 else rU L
def uO{s:St}(h:Y_ s=true):l_ s<=24:=by unfold Y_ at h;rcases WB _ _ ▸ h with h|h;(.exact yM h);.unfold iP at h;split at h;(.simp only[OB,OC]at h;exact h.2);.cases h
structure aib(x:Ax):Prop where
 K:1<=x.K/\x.K<=9
 l:jB x.K=true->u_ x.L=0
 r:jk x.K=true->u_ x.R=0
 U:l_ x.U<=24
 a:l_ x.a<=24
 b:l_ x.b<=24
 rs:∀s∈x.H,l_ s<=24
 n:kE x.K<=l_ x.H/\l_ x.H<=nZ x.K
def QG(h:Z_ x=0):aib x:=by have g:=lV h;unfold Z_ at h;by_cases a:iN x=false;(.rw[P_ a]at h;cases h);rw[C_ a]at h;by_cases b:nU x=false;(.rw[P_ b]at h;cases h);rw[C_ b]at h;have c:iN x=true:=Q a;have d:nU x=true:=Q b;unfold iN at c;unfold nU at d;simp only[OB,OC,WB,ev_]at c d;obtain⟨⟨⟨⟨⟨⟨i,_⟩,_⟩,j⟩,k⟩,S⟩,_⟩:=c;obtain⟨⟨⟨r,M⟩,l⟩,o⟩:=d;refine⟨i,λhl=>?_,λn=>?_,?_,?_,?_,λs a=>yM (Vo.1 o s a),g⟩;(.by_cases e:u_ x.L=0;(.exact e);.rw[P_ ⟨hl,e⟩]at h;exact h);(.by_cases e:jB x.K=true/\u_ x.L≠0;(.rw[P_ e]at h;exact absurd h e.2);.rw[C_ e]at h;by_cases f:u_ x.R=0;(.exact f);.rw[P_ ⟨n,f⟩]at h;exact h);(.rcases j with e|e;(.rcases r with m|m;(.rw[m]at e;cases e);.exact yM m);.rw[e];simp);(.rcases k with e|e;(.rcases M with m|m;(.rw[m]at e;cases e);.exact uO m);.rw[e];simp);.rcases S with e|e;(.rcases l with m|m;(.rw[m]at e;cases e);.exact uO m);.rw[e];simp
def N_{c d e:J_}{f:Nat}(h:f_ W g 30 (fZ x c f d i e j)):N W g 0 x.K/\N W g 1 x.op/\N W g 2 x.L.K/\N W g 3 x.L.N/\N W g 4 x.L.lo/\ N W g 5 x.L.hi/\N W g 6 (.slice c (l_ x.L.J) f)/\N W g 7 x.R.K/\N W g 8 x.R.N/\N W g 9 x.R.lo/\ N W g 10 x.R.hi/\N W g 11 (.slice d (l_ x.R.J) i)/\N W g 12 (.slice e (l_ x.H) j)/\N W g 13 x.U/\N W g 14 x.a/\N W g 15 x.b:=⟨h.cell 0,h.cell 1,h.cell 2,h.cell 3,h.cell 4,h.cell 5,h.cell 6,h.cell 7,h.cell 8,h.cell 9,h.cell 10,h.cell 11,h.cell 12,h.cell 13,h.cell 14,h.cell 15⟩
def BH(h:u_ c=0):l_ (iO c)<=1024:=by have:=Dt c h;have:=(jZ h).2;omega
def xZ(h:u_ c=0):l_ (gL c)<=1024:=by have:=Hq c h;have:=(jZ h).2;omega
def size_le(h:u_ c=0):16*c.size<=1024:=by have:=(jZ h).2;omega
def aew(w0:W_)(k m:Nat)(f:Int)(x:Ax):Prop:=∀w(v:V_)(a:List Pc)(A:J_)c(r:J_)C(s:J_)b,Z_ x=0->kH w0 x A c r C s b->G w0 w->Bu w0->Col w w0 k m v f a->l_ a<=10000-> z 139 #[.pointer k,.agg (fZ x A c r C s b)] w (yN w0 k m v f a (Ci x) w)
def BI(w:W_)(lo k a:Nat)(v:V_)(F:Int)(f:List Pc)(g:Col w lo k a v F f):∃b c d,z 183 #[.pointer k] w λe w'=>e=.returned (.tuple #[Bz b c,BA b d])/\qj w' k a v b c d/\G w w':=⟨_,_,_,X8 w lo k a v F f g⟩
structure C16(W:W_)(b:Nat)(x:Ax)(Al:Option Addr)(cl:Nat)(Ar:Option Addr)(cr:Nat)(As:Option Addr)(cs:Nat)
def A16(W:W_)(b:Nat)(x:Ax)(a:J_)(c:Nat)(A:J_)(C:Nat)(s:J_)(d:Nat):C16 W b x a c A C s d:=⟨⟩
section
variable{W:W_}{b:Nat}{x:Ax}{Al:J_}{cl:Nat}{Ar:J_}{cr:Nat}{As:J_}{cs:Nat}
instance:CoeOut (C16 W b x Al cl Ar cr As cs) Prop:=⟨λ_=>N W b 0 x.K/\N W b 1 x.op/\N W b 2 x.L.K/\N W b 3 x.L.N/\N W b 4 x.L.lo/\N W b 5 x.L.hi/\N W b 6 (.slice Al x.L.J.length cl)/\N W b 7 x.R.K/\N W b 8 x.R.N/\N W b 9 x.R.lo/\ N W b 10 x.R.hi/\N W b 11 (.slice Ar x.R.J.length cr)/\N W b 12 (.slice As x.H.length cs)/\N W b 13 x.U/\N W b 14 x.a/\N W b 15 x.b⟩
structure wU(w0 q0:W_)(kp mb pk pl pr b:Nat)(fM:Int)(x:Ax)(Al:Option Addr)(cl:Nat)(Ar:Option Addr)(cr:Nat)(As:Option Addr)(cs:Nat)(v0:V_)(acc:List Pc)(q:W_)(v:V_)(P:List Pc)(k:Nat):Prop where
 hf: -1<=fM/\fM<=100000
 tp:Bu w0
 n0:l_ acc<=10000
 C:Col q w0 kp mb v fM (gU fM acc P)
 T:mq kp mb v0 q0 v q
 B:G w0 q
 D:qj q kp mb v pk pl pr
 X:f_ q b 30 (fZ x Al cl Ar cr As cs)
 nx:¬Xc kp mb v b
 l:l_ P<=k*1024
variable{w0 q0 q q':W_}{kp mb pk pl pr k:Nat}{fM:Int}{v0 v v':V_}{acc P p:List Pc}{c:Cn}{u:V_}
def wU.to(h:wU w0 q0 kp mb pk pl pr b fM x Al cl Ar cr As cs v0 acc q v P k)(d:Col q' w0 kp mb v' fM (gU fM (gU fM acc P) p))(a:mq kp mb v q v' q')(e:l_ p<=1024):wU w0 q0 kp mb pk pl pr b fM x Al cl Ar cr As cs v0 acc q' v' (P++p) (k+1):=⟨h.hf,h.tp,h.n0,by rw[mJ];exact d,h.T.trans a,h.B.trans (h.C.low a),h.D.to a,a.blk h.X h.nx,a.nx h.X.lt h.nx,by have:=h.l;simp;omega⟩
def wU.small(h:wU w0 q0 kp mb pk pl pr b fM x Al cl Ar cr As cs v0 acc q v P k)(a:k<=8):l_ (gU fM acc P)<=20000:=by have:=(mK fM acc P).2;have:=h.l;have:=h.n0;omega
def wU.L(h:wU w0 q0 kp mb pk pl pr b fM x Al cl Ar cr As cs v0 acc q v P k)(d:k<=8)(H:CV w0 u c)(a:u_ c=0):z 240 #[u,.pointer pl,.pointer pk] q λe q'=>e=.returned (.tuple #[])/\∃v',wU w0 q0 kp mb pk pl pr b fM x Al cl Ar cr As cs v0 acc q' v' (P++iO c) (k+1):=(aaH w0 kp mb pk pl pr fM h.hf c a u q v _ H h.B h.tp h.C h.D (by have:=h.small d;have:=size_le a;omega)).mono λ_ _ ⟨e,_,f,g⟩=>⟨e,_,h.to f g (BH a)⟩
def wU.R(h:wU w0 q0 kp mb pk pl pr b fM x Al cl Ar cr As cs v0 acc q v P k)(d:k<=8)(H:CV w0 u c)(a:u_ c=0):z 241 #[u,.pointer pk,.pointer pr] q λe q'=>e=.returned (.tuple #[])/\∃v',wU w0 q0 kp mb pk pl pr b fM x Al cl Ar cr As cs v0 acc q' v' (P++gL c) (k+1):=(Ya w0 kp mb pk pl pr fM h.hf c a u q v _ H h.B h.tp h.C h.D (by have:=h.small d;have:=size_le a;omega)).mono λ_ _ ⟨e,_,f,g⟩=>⟨e,_,h.to f g (xZ a)⟩
def wU.add(h:wU w0 q0 kp mb pk pl pr b fM x Al cl Ar cr As cs v0 acc q v P k)(d:k<=8)(p:Pc)(f:VQ p)(a:A_)(g: #[(p.K:V_),d_ p.A,d_ p.B,d_ p.C,d_ p.R,d_ p.S,d_ p.T,p.lo,p.hi,p.fM]=a)(W:W_)(i:G q W):z 188 #[.pointer kp,.slice W 1 1] (W.alloc (.cells a 150)) λe q'=>e=.returned (.tuple #[])/\∃v',wU w0 q0 kp mb pk pl pr b fM x Al cl Ar cr As cs v0 acc q' v' (P++[p]) (k+1):=g ▸ (add_one h.C i p f h.hf (by have:=h.small d;omega)).mono λ_ _ ⟨e,_,j,l⟩=>⟨e,_,h.to j l S⟩
def wU.atom(h:wU w0 q0 kp mb pk pl pr b fM x Al cl Ar cr As cs v0 acc q v P k)(H:CV w0 u c)(d:u_ c=0){W:W_}(a:G q W):z 185 #[u] W λe w'=>e=.returned (r_ c)/\G q w':=(QA c u W (H.up (h.B.trans (a.mono h.B.size))) (Uv d) (h.tp.up (h.B.trans (a.mono h.B.size))) d).mono λ_ _ ⟨e,f⟩=>⟨e,a.trans (f.mono a.size)⟩
end
def Hy{q:W_}(f:l_ s<=24)(a:G q W):z 189 #[(s:List UInt8)] W λe w'=>e=.returned (j5 s)/\G q w':=(xW s W U).mono λ_ _ ⟨e,d⟩=>⟨e,a.trans (d.mono a.size)⟩
def acP(w0:W_)(J M:Nat)(fM:Int)(hf: -1<=fM/\fM<=100000)(x:Ax)(aA:x.K≠6):aew w0 J M fM x:=by
 intro w o Y P cl R cr T c aB am hB aG an aC;have u:=QG aB;have aH:¬Xc J M o w.heap.size:=an.fresh (gH _);have ap:=BI (w.alloc (.cells (fZ x P cl R cr T c) 30)) _ J M o fM Y (an.up bA);obtain⟨pk,pl,pr,ap⟩:=ap;have au:=O ap;(have aI:Hid (∀Q,G w Q->qj Q J M o pk pl pr->f_ Q w 30 (fZ x P cl R cr T c)->wU w0 Q J M pk pl pr w fM x P cl R cr T c o Y Q o [] 0):=O λQ aj B aO=>⟨hf,aG,aC,an.up aj,.refl _ _ _ _,hB.trans (aj.mono hB.size),B,aO,aH,S⟩);have ak:=O am.l;have al:=O am.r;have aU:=O am.rs;have C:=O u;have ao:=O u.a;have av:=O u.b;unfold d_ at ak al;have j:=O u.l;have g:=O u.r;have aJ:=u.K;obtain⟨n,aq⟩:=e_ x.K;(have b:∀m:Int,(x.K==m)=(n==m):=λm=>by rw[aq]);rw[aq]at j g aJ aA;have s:=O aq;(try unfold d_ at au);rcases(show n=5\/n=7\/n=1\/n=2\/n=3\/n=4\/n=8\/n=9 by omega) with rfl|rfl|rfl|rfl|rfl|rfl|rfl|rfl;all_goals clear aJ aA;(try replace j:=O (j.o rfl));(try replace g:=O (g.o rfl));go_in;go_wp2_with (go_at_call 183;(with_reducible refine au.o.mono ?_);rintro e q ⟨rfl,aj,B⟩;have aw:Hid (mq J M o w o q):=O (.of (b_ bA B));have d:=O (aI.o q (b_ bA B) aj (bk B (f_.new w 30 (fZ x P cl R cr T c))));obtain⟨z0,E,z2,z3,z4,z5,F,H,I,z9,K,L,y,A,Z,X⟩:=N_ d.o.X;clear aj B);have a:=O d.o.X;clear au aI
 .have ax:=C.o.n
  rw[s.o]at ax;(have aK:l_ x.H=1:=by simp[kE,nZ]at ax;omega);obtain⟨r,ar⟩:=Aa aK;have aV:Hid (l_ r<=24):=O (C.o.rs r (by rw[ar];simp));have aW:=O ar;obtain⟨aX,c2,aP,_,_,aL⟩:=S1.form aU.o;injection aP with aQ _ aR;subst aQ aR;obtain⟨bA,t,rfl,ay,aM⟩:=aL U;have az:Hid (bA<w0/\N w0 bA t r):=O ⟨ay,aM 0 r (by rw[ar];rfl)⟩;have aD:N q bA t r:=(d.o.B.cell (p:=a_ bA t) ay).trans az.o.2;have aY:0<l_ x.H:=U;have f:=O (d.o.add D (sK r x.U) (aeu (by have:=aV.o;omega) (by have:=C.o.U;omega)) #[V 5,x_,x_,x_,r,x_,x.U,V 0,V 0,V 0] rfl);have i:N q w 12 (.slice (a_ bA t) (l_ x.H) c)/\N q w 13 x.U/\N q bA t r:=⟨y,A,aD⟩;have aN:=d.o.C.blk.lt;have k:Hid (G q q.drew):=O (fu _ _).drew;go_wp2
  go_region_held3 (λW=>N W w 12 (.slice (a_ bA t) (l_ x.H) c)/\N W w 13 x.U/\N W bA t r)
   (first|with_reducible exact i|with_reducible exact s4|with_reducible exact⟨jc i.1 _,jc i.2.1 _,jc i.2.2 _⟩|exact i|exact⟨jc i.1 _,jc i.2.1 _,jc i.2.2 _⟩)
   (first|(go_at_call 188;refine(f.o q.drew k.o).mono ?_;rintro e q1 ⟨rfl,aS,h⟩;obtain⟨_,_,_,_,_,_,_,_,_,_,_,_,aE,aF,_,_⟩:=N_ h.X;have s4:N q1 w 12 (.slice (a_ bA t) (l_ x.H) c)/\N q1 w 13 x.U/\N q1 bA t r:=⟨aE,aF,(h.B.cell (p:=a_ bA t) az.o.1).trans az.o.2⟩;have ai:=O h;clear h aE aF)|fail)
  all_goals clear f;obtain⟨z0,E,z2,z3,z4,z5,F,H,I,z9,K,L,y,A,Z,X⟩:=N_ ai.o.X;go_wp2;go_end0;exact⟨rfl,_,by unfold Ci;rw[s.o,aW.o];simpa using ai.o.C,aw.o.trans ai.o.T⟩
 .have f:=O (d.o.add D (qc x.U) (aev (by have:=C.o.U;omega)) #[V 7,x_,x_,x_,x.U,x_,x_,V 0,V 0,V 0] rfl);go_wp2_with (go_at_call 188;(with_reducible refine(f.o _ (fu _ _)).mono ?_);rintro e q ⟨rfl,v,h⟩;replace d:=O h;clear h z0 E z2 z3 z4 z5 F H I z9 K L y A Z X f);go_wp2;go_end0;exact⟨rfl,_,by unfold Ci;rw[s.o];simpa using d.o.C,aw.o.trans d.o.T⟩
 iterate 3
  all_goals
   go_wp2_with (first|(go_at_call 240;(with_reducible first|refine(d.o.L D ak.o j.o).mono ?_|refine(d.o.L D al.o g.o).mono ?_);rintro e q ⟨rfl,v,h⟩;replace d:=O h;obtain⟨z0,E,z2,z3,z4,z5,F,H,I,z9,K,L,y,A,Z,X⟩:=N_ d.o.X)|(go_at_call 241;(with_reducible first|refine(d.o.R D al.o g.o).mono ?_|refine(d.o.R D ak.o j.o).mono ?_);rintro e q ⟨rfl,v,h⟩;replace d:=O h;obtain⟨z0,E,z2,z3,z4,z5,F,H,I,z9,K,L,y,A,Z,X⟩:=N_ d.o.X))
   first
    |(go_end0;exact⟨rfl,_,by unfold Ci;rw[s.o];simpa using d.o.C,aw.o.trans d.o.T⟩)
    |((first
     |(have _n:x.K=1:=s.o;have f:=O (d.o.add D (kF (r_ x.L) (r_ x.R)) (Ep (by have:=ig j.o;omega) (by have:=ig g.o;omega)) #[V 1,r_ x.L,x_,r_ x.R,x_,x_,x_,V 0,V 0,V 0] rfl);have z:=f)
     |(have _n:x.K=2:=s.o;have f:=O (d.o.add D (kF (r_ x.L) (r_ x.R)) (Ep (by have:=ig j.o;omega) (by have:=ig g.o;omega)) #[V 1,r_ x.L,x_,r_ x.R,x_,x_,x_,V 0,V 0,V 0] rfl);have z:=O (d.o.add D (kF (r_ x.R) (r_ x.L)) (Ep (by have:=ig g.o;omega) (by have:=ig j.o;omega)) #[V 1,r_ x.R,x_,r_ x.L,x_,x_,x_,V 0,V 0,V 0] rfl))
     |(have _n:x.K=3:=s.o;have f:=O (d.o.add D (wP (r_ x.L) (r_ x.R) iR) (adG (by have:=ig j.o;omega) (by have:=ig g.o;omega) D) #[V 2,r_ x.L,r_ x.R,.string ⟨#[33]⟩,x_,x_,x_,V 0,V 0,V 0] rfl);have z:=f)
     |(have _n:x.K=4:=s.o;have f:=O (d.o.add D (og x.U jI (r_ x.R)) (aaD (by have:=C.o.U;omega) D (by have:=ig g.o;omega)) #[V 4,.string ⟨#[42]⟩,x_,r_ x.R,x.U,x_,x_,V 0,V 0,V 0] rfl);have z:=f)
     |(have _n:x.K=8:=s.o;have f:=O (d.o.add D (kF (j5 x.a) (r_ x.R)) (Ep (by have:=ao.o;simp[j5];omega) (by have:=ig g.o;omega)) #[V 1,j5 x.a,x_,r_ x.R,x_,x_,x_,V 0,V 0,V 0] rfl);have z:=f)
     |(have _n:x.K=9:=s.o;have f:=O (d.o.add D (mE (j5 x.a) x.U (j5 x.b)) (Uu (by have:=ao.o;simp[j5];omega) (by have:=C.o.U;omega) (by have:=av.o;simp[j5];omega)) #[V 3,j5 x.a,x_,j5 x.b,x.U,x_,x_,V 0,V 0,V 0] rfl);have z:=f))
      replace a:=O d.o.X
      have i:=N_ a.o
      have aN:=d.o.C.blk.lt
      have k:=O (fu q q).drew
      go_region_held3 (λW=>A16 W w x P cl R cr T c)
       (first|with_reducible exact i|with_reducible exact s2|with_reducible exact s4|with_reducible exact N_ (a.o.alloc _)|exact i)
       (first|(go_at_call 185;(with_reducible first|refine(d.o.atom ak.o j.o l.o).mono ?_|refine(d.o.atom al.o g.o l.o).mono ?_|refine(d.o.atom ak.o j.o k.o).mono ?_|refine(d.o.atom al.o g.o k.o).mono ?_);rintro e aT ⟨rfl,h⟩;have a:=O (bk h d.o.X);have s2:=N_ a.o;have l:=O h;clear h)|(go_at_call 189;(with_reducible first|refine(Hy ao.o l.o).mono ?_|refine(Hy av.o l.o).mono ?_|refine(Hy ao.o k.o).mono ?_|refine(Hy av.o k.o).mono ?_);rintro e aT ⟨rfl,h⟩;have a:=O (bk h d.o.X);have s2:=N_ a.o;have l:=O h;clear h)|(go_at_call 188;(first|with_reducible refine(f.o _ l.o).mono ?_|with_reducible refine(z.o _ l.o).mono ?_|refine(f.o _ k.o).mono ?_);rintro e q1 ⟨rfl,aS,h⟩;have s4:=N_ h.X;have ai:=O h;clear h)|fail)
      all_goals
       have d:=ai
       obtain⟨z0,E,z2,z3,z4,z5,F,H,I,z9,K,L,y,A,Z,X⟩:=N_ d.o.X)



