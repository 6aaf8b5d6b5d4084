import Derived.Test.YtjmbkfjklemmpaaGreatDoorJ14
set_option linter.all false
set_option maxRecDepth 100000
set_option maxHeartbeats 32000000
open Go renaming World->W_,Value->V_
namespace Go.Proofs.YtjmbkfjklemmpaaGreatDoor
section
open Go.Maps Go.RowKit Tryz
def LJ{c:Cn}(h:r_ c=0):ZQ c:=λx a=>by have:=(gQ ((jA c).1 h |>.2 x a)).2.2.2.2.1;omega
def Ej{c w:W_}{b a i:Nat}{p:Cn}(h:∃d,(∀(j:Nat) u,d[j]?=some u->N c b (a+5*i+j) u)/\mU c p d)(hb:b<c.heap.size)(f:G c w):∃A cap,CV c (.agg #[p.kind,p.name,p.lo,p.hi,.slice A p.parts.length cap]) p/\N w b (a+i*5) p.kind/\N w b (a+i*5+1) p.name/\ N w b (a+i*5+2) p.lo/\N w b (a+i*5+3) p.hi/\N w b (a+i*5+4) (.slice A p.parts.length cap):=by obtain⟨d,k,e⟩:=h;obtain⟨A,cap,rfl⟩:=e.cells;(have key:∀(j:Nat) u,[Value.int .i64 p.kind,d_ p.name,.int .i64 p.lo,.int .i64 p.hi,.slice A p.parts.length cap][j]?=some u->N w b (a+i*5+j) u:=λj u g=>by rw[M4 i 5];exact(f.cell (p:=⟨b,a+5*i+j,none⟩) hb).trans (k j u g));exact⟨A,cap,e.cv,key 0 _ rfl,key 1 _ rfl,key 2 _ rfl,key 3 _ rfl,key 4 _ rfl⟩
def aaf{d:W_}{c:Cn}{b a cap j:Nat}(hb:b<d.heap.size)(h:∀i p,c.parts[i]?=some p->∃f,(∀(j:Nat) u,f[j]?=some u->N d b (a+5*i+j) u)/\mU d p f)(k:j<=c.parts.length)(hc:c.parts.length<=cap)(g:cap<=maxLen):CV d (.agg #[V 5,.string ⟨#[]⟩,V 0,V 0,.slice (some ⟨b,a,none⟩) j cap]) (y8 (c.parts.take j)):=by refine⟨[.int .i64 5,.string ⟨#[]⟩,.int .i64 0,.int .i64 0,.slice (some ⟨b,a,none⟩) j cap],rfl,?_⟩;unfold y8 mU;(have hl:(c.parts.take j).length=j:=by rw[qg];omega);refine⟨some ⟨b,a,none⟩,cap,by rw[hl],U,g,λ_=>⟨b,a,rfl,hb,pK.of λi p e=>?_⟩⟩;rw[MW]at e;split at e;(·exact h i p e);·cases e
def mh(ps:List Cn)(k:Nat):St:=if k=0 then headA ps else j_ (y8 (ps.take (k+1)))
def BM{ps:List Cn}{p:Cn}(h:ps[0]?=some p):headA ps=j_ p:=by
 cases ps with
 |nil=>cases h
 |cons a l=>simp at h;subst h;rfl
def vO(ps:List Cn)(k:Nat):List Pc:=(List.range k).map λj=>vL (mh ps j) (j_ (ps.getD (j+1) Cn.nil)) (j_ (y8 (ps.take (j+2))))
def JG{ps:List Cn}{k:Nat}{p:Cn}(h:ps[k+1]?=some p):vO ps (k+1)=vO ps k++[vL (mh ps k) (j_ p) (j_ (y8 (ps.take (k+2))))]:=by unfold vO;rw[dr_,sJ,List.map_singleton,KH,h];rfl
def QW(ps:List Cn):∀(n j:Nat),ps.length=j+1+n->wF (mh ps j) (ps.take (j+1)) (ps.drop (j+1))=(vO ps (j+n)).drop j:=by
 intro n
 induction n with
 |zero=>
  intro j h;rw[fb_ U];simp[wF,vO]
 |succ n b=>
  intro j h;have a:j+1<ps.length:=U;have e:ps.drop (j+1)=ps[j+1]::ps.drop (j+2):=Hq a;have c:ps.take (j+1)++[ps[j+1]]=ps.take (j+2):=(Ht a).symm;have hi:=b (j+1) U;(have d:mh ps (j+1)=j_ (.mk 5 [] 0 0 (ps.take (j+2))):=by unfold mh;rw[u_ U];rfl);rw[d]at hi;rw[e];simp only[wF];rw[c,hi];have f:j+1+n=j+(n+1):=U;rw[f];(have hl:j<(vO ps (j+(n+1))).length:=by simp[vO]);rw[Hq hl];congr 1;simp[vO,y8,a]
def U9{ps:List Cn}{p:Cn}{r:List Cn}(h:ps=p::r):wF (j_ p) [p] r=vO ps r.length:=by have:=QW ps r.length 0 (by rw[h];simp;omega);subst h;simpa[mh,headA]using this
def JH{c:Cn}(a:c.kind=5)(b:0<c.parts.length):iF c=iB c.parts++vO c.parts (c.parts.length-1):=by
 obtain⟨k,n,l,g,ps⟩:=c;simp only[Cn.kind,Cn.parts]at *;simp only[iF];rw[A_ a]
 cases ps with
 |nil=>simp at b
 |cons p r=>simp only[p8,Nat.add_sub_cancel];rw[U9 rfl]
def FN{c:Cn}(a:c.kind=6):iF c=iB c.parts++[ni c.name (headA c.parts) (j_ c)]:=by obtain⟨k,n,l,g,ps⟩:=c;simp only[Cn.kind,Cn.parts,Cn.name]at *;simp only[iF];rw[u_ U,A_ a]
def CY{c:Cn}(a:c.kind=7):iF c=[zU c.name c.lo c.hi (j_ c)]:=by obtain⟨k,n,l,g,ps⟩:=c;simp only[Cn.kind,Cn.name,Cn.lo,Cn.hi]at *;simp only[iF];rw[u_ U,u_ U,A_ a]
def Oc{c:Cn}(a:c.kind≠5)(b:c.kind≠6)(d:c.kind≠7):iF c=[]:=by obtain⟨k,n,l,g,ps⟩:=c;simp only[Cn.kind]at *;simp only[iF];rw[u_ a,u_ b,u_ d]
def FP{c:Cn}(a:c.kind=5):fV c=iA (j_ c) c.parts:=by obtain⟨k,n,l,g,ps⟩:=c;simp only[Cn.kind,Cn.parts]at *;simp only[fV];rw[A_ a]
def C8{c:Cn}(a:c.kind=6):fV c=ng (j_ c) c.name (headA c.parts)::lW c.parts:=by obtain⟨k,n,l,g,ps⟩:=c;simp only[Cn.kind,Cn.parts,Cn.name]at *;simp only[fV];rw[u_ U,A_ a]
def Aj{c:Cn}(a:c.kind=7):fV c=[Tk (j_ c) c.name c.lo c.hi]:=by obtain⟨k,n,l,g,ps⟩:=c;simp only[Cn.kind,Cn.name,Cn.lo,Cn.hi]at *;simp only[fV];rw[u_ U,u_ U,A_ a]
def JI{c:Cn}(a:c.kind≠5)(b:c.kind≠6)(d:c.kind≠7):fV c=[]:=by obtain⟨k,n,l,g,ps⟩:=c;simp only[Cn.kind]at *;simp only[fV];rw[u_ a,u_ b,u_ d]
def Od{ps:List Cn}{k:Nat}{p:Cn}(h:ps[k]?=some p):iB (ps.take (k+1))=iB (ps.take k)++iF p:=by
 have f:∀a b:List Cn,iB (a++b)=iB a++iB b:=by
  intro a b;induction a with
  |nil=>rfl
  |cons x a c=>simp[iB,c]
 obtain⟨d,e⟩:=iR.1 h;rw[Ht d,e,f];simp[iB]
def LK{a:St}{ps:List Cn}{k:Nat}{p:Cn}(h:ps[k]?=some p):iA a (ps.take (k+1))=iA a (ps.take k)++([kP a (j_ p)]++fV p):=by
 have e:∀x y:List Cn,iA a (x++y)=iA a x++iA a y:=by
  intro x y;induction x with
  |nil=>rfl
  |cons z x b=>simp[iA,b]
 obtain⟨c,d⟩:=iR.1 h;rw[Ht c,d,e];simp[iA]
def y9{α:Type}{l:List α}(h:l.length=1):∃p,l=[p]:=by
 match l,h with
 |[p],_=>exact⟨p,rfl⟩
def C9{ps:List Cn}(h:∀p∈ps,r_ p=0)(k:Nat):(iB (ps.take k)).length<=16*Cn.sizes ps:=by
 induction ps generalizing k with
 |nil=>simp[iB]
 |cons a l b=>
  cases k with
  |zero=>simp[iB]
  |succ k=>
   have d:=BL a (h a S);have e:=b (λp c=>h p (by simp[c])) k;simp only[SX,iB,Cn.sizes,lG];omega
def LM{ps:List Cn}(h:∀p∈ps,r_ p=0)(a:St)(k:Nat):(iA a (ps.take k)).length<=16*Cn.sizes ps+k:=by
 induction ps generalizing k with
 |nil=>simp[iA]
 |cons b l c=>
  cases k with
  |zero=>simp[iA]
  |succ k=>
   have e:=FL b (h b S);have f:=c (λp d=>h p (by simp[d])) k;simp only[SX,iA,Cn.sizes,lG,p8];omega
def cB{w W:W_}{p:Addr}{u:V_}(h:w.cell? p=some u)(a:G w W):W.cell? p=some u:=(a.cell (zy w p h)).trans h
def XM(w0:W_)(kp mb pk pl pr:Nat)(fA:Int)(c:Cn):Prop:=r_ c=0->∀(u:V_)(w:W_)(v:V_)(acc:List Pc),CV w0 u c->G w0 w->Ad w0->Col w w0.heap.size kp mb v fA acc->pF w kp mb v pk pl pr->acc.length+16*c.size<=50000-> z 242 #[u,.pointer (some ⟨pl,0,none⟩),.pointer (some ⟨pk,0,none⟩)] w (xK w0.heap.size kp mb v fA acc (iF c) w)
def Tz(w0:W_)(kp mb pk pl pr:Nat)(fA:Int)(c:Cn):Prop:=r_ c=0->∀(u:V_)(w:W_)(v:V_)(acc:List Pc),CV w0 u c->G w0 w->Ad w0->Col w w0.heap.size kp mb v fA acc->pF w kp mb v pk pl pr->acc.length+16*c.size<=50000-> z 243 #[u,.pointer (some ⟨pk,0,none⟩),.pointer (some ⟨pr,0,none⟩)] w (xK w0.heap.size kp mb v fA acc (fV c) w)
structure T5(W:W_)(b:Nat)(c:Cn)(A:Option Addr)(m:Nat)(R:Prop)
def A5(W:W_)(b:Nat)(c:Cn)(A:Option Addr)(m:Nat)(R:Prop):T5 W b c A m R:=⟨⟩
structure U5(W:W_)(b o:Nat)(c:Cn)(A:Option Addr)(m:Nat)
def D5(W:W_)(b o:Nat)(c:Cn)(A:Option Addr)(m:Nat):U5 W b o c A m:=⟨⟩
section
variable{w0 w W q q':W_}{b o kp mb pk pl pr:Nat}{fA:Int}{c p:Cn}{u v v' v0:V_}{A:Option Addr}{m:Nat}{acc P L:List Pc}{R:Prop}{t:TypeId}
instance:CoeSort (T5 W b c A m R) Prop:=⟨λ_=>N W b 0 c.kind/\N W b 1 c.name/\N W b 2 c.lo/\N W b 3 c.hi/\N W b 4 (.slice A c.parts.length m)/\R⟩
instance:CoeOut (T5 W b c A m R) Prop:=⟨λ_=>N W b 0 c.kind/\N W b 1 c.name/\N W b 2 c.lo/\N W b 3 c.hi/\N W b 4 (.slice A c.parts.length m)/\R⟩
instance:CoeSort (U5 W b o c A m) Prop:=⟨λ_=>N W b o c.kind/\N W b (o+1) c.name/\N W b (o+2) c.lo/\N W b (o+3) c.hi/\N W b (o+4) (.slice A c.parts.length m)⟩
instance:CoeOut (U5 W b o c A m) Prop:=⟨λ_=>N W b o c.kind/\N W b (o+1) c.name/\N W b (o+2) c.lo/\N W b (o+3) c.hi/\N W b (o+4) (.slice A c.parts.length m)⟩
def Kc(kp mb:Nat)(v:V_)(q W:W_):Prop:=∀g o u,N q g o u->¬Xc kp mb v g->N W g o u
def JJ(h:G q W):Kc kp mb v q W:=λ_ _ _ a _=>cB a h
def Zv(h:kU kp mb v q v' W):Kc kp mb v q W:=λ_ _ _ a d=>h.cell a d
def c5(h:f_ q b t (Ct c A m)):A5 q b c A m True:=⟨h.cell 0,h.cell 1,h.cell 2,h.cell 3,h.cell 4,trivial⟩
def A5.of(k:Kc kp mb v q W)(x:¬Xc kp mb v b)(h:f_ q b t (Ct c A m))(r:R):A5 W b c A m R:=⟨k _ _ _ (h.cell 0) x,k _ _ _ (h.cell 1) x,k _ _ _ (h.cell 2) x,k _ _ _ (h.cell 3) x,k _ _ _ (h.cell 4) x,r⟩
def D5.of(k:Kc kp mb v q W)(x:¬Xc kp mb v b)(h:D5 q b o c A m):D5 W b o c A m:=⟨k _ _ _ h.1 x,k _ _ _ h.2.1 x,k _ _ _ h.2.2.1 x,k _ _ _ h.2.2.2.1 x,k _ _ _ h.2.2.2.2 x⟩
def XO(h:∃a,(∀(j:Nat) u,a[j]?=some u->N w0 b (o+5*0+j) u)/\mU w0 p a)(hb:b<w0.heap.size)(d:G w0 w):∃A m,CV w0 (.agg (Ct p A m)) p/\D5 w b o p A m:=by obtain⟨A,m,e,f⟩:=Ej h hb d;exact⟨A,m,e,Q f⟩
structure Em(w0 w:W_)(kp mb pk pl pr:Nat)(fA:Int)(c:Cn)(A:Option Addr)(m:Nat)(v0:V_)(acc:List Pc)(q:W_)(v:V_)(P:List Pc):Prop where
 hf: -1<=fA/\fA<=100000
 tp:Ad w0
 hc:r_ c=0
 cv:CV w0 (.agg (Ct c A m)) c
 n:acc.length+16*c.size<=50000
 C:Col q w0.heap.size kp mb v fA (fT fA acc P)
 T:kU kp mb v0 w v q
 B:G w0 q
 D:pF q kp mb v pk pl pr
 X:f_ q w.heap.size 40 (Ct c A m)
 nx:¬Xc kp mb v w.heap.size
def Em.up(h:Em w0 w kp mb pk pl pr fA c A m v0 acc q v P)(k:G q q'):Em w0 w kp mb pk pl pr fA c A m v0 acc q' v P:=⟨h.hf,h.tp,h.hc,h.cv,h.n,h.C.up k,h.T.then k,h.B.trans (k.mono h.B.size),h.D.up k,bk k h.X,h.nx⟩
def Em.to(h:Em w0 w kp mb pk pl pr fA c A m v0 acc q v P)(a:Col q' w0.heap.size kp mb v' fA (fT fA (fT fA acc P) L))(k:kU kp mb v q v' q'):Em w0 w kp mb pk pl pr fA c A m v0 acc q' v' (P++L):=⟨h.hf,h.tp,h.hc,h.cv,h.n,by rw[kK];exact a,h.T.trans k,h.B.trans (h.C.low k),h.D.to k,k.blk h.X h.nx,k.nx h.X.lt h.nx⟩
def Em.add(h:Em w0 w kp mb pk pl pr fA c A m v0 acc q v P)(p:Pc)(f:Tx p)(hl:P.length<=50000)(a:Array V_)(g: #[(p.kind:V_),d_ p.A,d_ p.B,d_ p.C,d_ p.R,d_ p.S,d_ p.T,p.lo,p.hi,p.fA]=a)(W:W_)(i:G q W):z 195 #[.pointer (some ⟨kp,0,none⟩),.slice (some ⟨W.heap.size,0,none⟩) 1 1] (W.alloc (.cells a 146)) λe q'=>e=.returned (.tuple #[])/\∃v',Em w0 w kp mb pk pl pr fA c A m v0 acc q' v' (P++[p])/\kU kp mb v q v' q':=g ▸ (add_one h.C i p f h.hf (by have:=(kW fA acc P).2;have:=h.n;omega)).mono λ_ _ ⟨e,_,j,d⟩=>⟨e,_,h.to j d,d⟩
def Em.atom(h:Em w0 w kp mb pk pl pr fA c A m v0 acc q v P)(hc:CV w0 u p)(d:r_ p=0){W:W_}(a:G q W):z 196 #[u] W λe w'=>e=.returned (j_ p)/\G q w':=(Af p u W (hc.up (h.B.trans (a.mono h.B.size))) (LJ d) (h.tp.up (h.B.trans (a.mono h.B.size))) d).mono λ_ _ ⟨e,f⟩=>⟨e,a.trans (f.mono a.size)⟩
def Em.adS(h:Em w0 w kp mb pk pl pr fA c A m v0 acc q v P)(g:∀p∈c.parts,XM w0 kp mb pk pl pr fA p)(d:p∈c.parts)(j:CV w0 u p)(k:P.length+16*p.size<=16*c.size){W:W_}(a:G q W):z 242 #[u,.pointer (some ⟨pl,0,none⟩),.pointer (some ⟨pk,0,none⟩)] W λe q'=>e=.returned (.tuple #[])/\∃v',Em w0 w kp mb pk pl pr fA c A m v0 acc q' v' (P++iF p)/\kU kp mb v q v' q':=(g p d (iC h.hc d) u W v _ j (h.B.trans (a.mono h.B.size)) h.tp (h.C.up a) (h.D.up a) (by have:=(kW fA acc P).2;have:=h.n;omega)).mono λ_ _ ⟨e,_,i,f⟩=>⟨e,_,(h.up a).to i f,(kU.of a).trans f⟩
def Em.adT(h:Em w0 w kp mb pk pl pr fA c A m v0 acc q v P)(g:∀p∈c.parts,Tz w0 kp mb pk pl pr fA p)(d:p∈c.parts)(j:CV w0 u p)(k:P.length+16*p.size<=16*c.size){W:W_}(a:G q W):z 243 #[u,.pointer (some ⟨pk,0,none⟩),.pointer (some ⟨pr,0,none⟩)] W λe q'=>e=.returned (.tuple #[])/\∃v',Em w0 w kp mb pk pl pr fA c A m v0 acc q' v' (P++fV p)/\kU kp mb v q v' q':=(g p d (iC h.hc d) u W v _ j (h.B.trans (a.mono h.B.size)) h.tp (h.C.up a) (h.D.up a) (by have:=(kW fA acc P).2;have:=h.n;omega)).mono λ_ _ ⟨e,_,i,f⟩=>⟨e,_,(h.up a).to i f,(kU.of a).trans f⟩
def Em.start(hf: -1<=fA/\fA<=100000)(e:r_ c=0)(hc:CV w0 (.agg (Ct c A m)) c)(a:G w0 w)(f:Ad w0)(d:Col w w0.heap.size kp mb v fA acc)(g:pF w kp mb v pk pl pr)(h:acc.length+16*c.size<=50000)(hw:w.alloc (.cells (Ct c A m) 40)=q):Em w0 w kp mb pk pl pr fA c A m v acc q v []:=by subst hw;exact⟨hf,f,e,hc,h,d.up bA,.of bA,a.trans (bA.mono a.size),g.up bA,f_.new _ _ _,d.fresh (fU _)⟩
end
def Oe(w0:W_)(kp mb pk pl pr:Nat)(fA:Int)(hf: -1<=fA/\fA<=100000):∀c:Cn,XM w0 kp mb pk pl pr fA c:=by
 (refine Cn.ind λc aK=>?_);intro af u w v acc hc aL aV aM aN a8;obtain⟨A,m,rfl,bn,bo,aO⟩:=hc.form;unfold d_;unfold d_ at hc;obtain⟨ag,ax⟩:=e_ (w.alloc (.cells (Ct c A m) 40));have a:=O (Em.start hf af hc aL aV aM aN a8 ax);have aW:=O aK;have aP:=O aO;have av:=O ax;(have ai:Hid (∀p∈c.parts,r_ p=0):=O λp g=>iC af g);have H:=gQ ((jA c).1 af).2.own;have bH:=size_eq c;have bJ:=iD af;have bK:=Ei af;(have bB:ag.heap.size=w.heap.size+1:=by rw[<-ax];simp);clear aK af hc aV aO ax aL aM aN;by_cases x:c.kind=5
 ·have aB:(c.kind==5)=true:=Q x
  have aG:=H.2.2.2.1 x;have ac:Hid (iF c=iB c.parts++vO c.parts (c.parts.length-1)):=O (JH x U);have aQ:=O x;obtain⟨b,r,rfl,hb,au⟩:=aP.o U;have aA:=O au;clear x H au;go_in;go_wp2_with fail;rw[av.o];go_loopw [17] (λi wr=>∃(k:Nat)(K:V_),k<=c.parts.length/\i=V k/\Hid (Em w0 w kp mb pk pl pr fA c (some ⟨b,r,none⟩) m v acc wr K (iB (c.parts.take k)))) (λi _=>c.parts.length-(intOf i).toNat);exact⟨0,v,gL _,rfl,a⟩;obtain⟨k,K,a9,rfl,a⟩:=hrel;by_cases aX:k<c.parts.length
  ·obtain⟨p,g⟩:=get_some aX
   obtain⟨ak,c2,F,a0,a1,a2,a3,a4⟩:=Ej (aA.o k p g) hb a.o.B;have al:=O g;have Z:=O F;have r1:(0:Int)<=(k:Int):=U;have a':(k:Int)<(c.parts.length:Int):=U;go_wp2_with (refine z_ rfl 40 _ _ rfl wr.heap.size 40 _ (f_.new _ _ _) (Ct p ak c2) rfl rfl rfl wM (wL ..) ?_);intro aw an ao _;have aY:¬Xc kp mb K wr.heap.size:=a.o.C.fresh (fU _);have bp:=a.o.C.blk.lt;have ap:G wr aw:=bA.grown ao S (λj aC=>by injection aC with e;omega);replace a:=O (a.o.up ap);obtain⟨ba,bb,bc,bd,be,_⟩:=c5 an;have bf:=a.o.D.l
   have ar:=O (a.o.adS aW.o (gM al.o) Z.o (by
    have bg:=C9 (ps:=c.parts.take k) (λq bh=>ai.o q (Qc bh)) k;rw[Zk,Nat.min_self]at bg;have:=pO al.o
    omega) (fD _ _))
   go_wp2_with (go_at_call 242;(with_reducible refine ar.o.mono ?_);rintro e bC ⟨rfl,v3,h,_⟩;have bq:=O h;clear h);go_wp2;go_roundw;exact⟨k+1,v3,U,R,by rw[Od al.o];exact bq⟩;exact M
  ·obtain rfl:k=c.parts.length:=by omega
   have k4:N wr w.heap.size 4 (.slice (some ⟨b,r,none⟩) c.parts.length m):=a.o.X.cell 4;obtain⟨p,g⟩:=get_some (l:=c.parts) (k:=0) U;obtain⟨am,c0,F,a0,a1,a2,a3,a4⟩:=XO (aA.o 0 p g) hb a.o.B;have aq:=O (a.o.atom F (ai.o p (gM g)) (fD _ _));have aZ:Hid (j_ p=mh c.parts 0):=O (by unfold mh;rw[A_ rfl,BM g]);rw[show iB (c.parts.take c.parts.length)=iB c.parts++vO c.parts 0 from by rw[jh];simp[vO]]at a;have bi:(0:Int)<(c.parts.length:Int):=U;have q1:(1:Int)<=(c.parts.length:Int):=U;have q2:1<=c.parts.length:=U;go_wp2_with (go_at_call 196;refine aq.o.mono ?_;rintro e bD ⟨rfl,ad⟩;have m4:=cB k4 ad);replace a:=O (a.o.up ad);rw[aZ.o];clear a0 a1 a2 a3 a4 k4 m4 aq ad aZ;go_loopw [6,34] (λf i wr=>∃(k:Nat)(K:V_),k<=c.parts.length-1/\i=V k/\f=mh c.parts k/\Hid (Em w0 w kp mb pk pl pr fA c (some ⟨b,r,none⟩) m v acc wr K (iB c.parts++vO c.parts k))) (λ_ i _=>c.parts.length-1-(intOf i).toNat);exact⟨0,K,gL _,rfl,rfl,a⟩;clear a;obtain⟨k,K,a9,rfl,rfl,a⟩:=hrel;by_cases aX:k<c.parts.length-1
   ·obtain⟨p,g⟩:=get_some (l:=c.parts) (k:=k+1) U
    obtain⟨ak,c2,F,a0,a1,a2,a3,a4⟩:=Ej (aA.o (k+1) p g) hb a.o.B;rw[show r+(k+1)*5=r+5+k*5 by omega]at a0 a1 a2 a3 a4;have al:=O g;have Z:=O F;have r1:(0:Int)<=(k:Int):=U;have a':(k:Int)<((c.parts.length-1:Nat):Int):=U;have bE:(k:Int)<(c.parts.length:Int)-1:=U;have aa:=O (ai.o p (gM g));have aJ:=mP (k:=k+2) a.o.hc aQ.o U U;clear g F;go_wp2_with (refine z_ rfl 40 _ _ rfl wr.heap.size 40 _ (f_.new _ _ _) (Ct p ak c2) rfl rfl rfl wM (wL ..) ?_);intro aw an ao _;have aY:¬Xc kp mb K wr.heap.size:=a.o.C.fresh (fU _);have bp:=a.o.C.blk.lt;have ap:G wr aw:=bA.grown ao S (λj aC=>by injection aC with e;omega);replace a:=O (a.o.up ap);have aH:=O an;have k4:N aw w.heap.size 4 (.slice (some ⟨b,r,none⟩) c.parts.length m):=a.o.X.cell 4;have aq:=O (a.o.atom (aaf hb aA.o (j:=k+2) U bn bo) aJ (fD _ _));have bF:(k:Int)+2<=(m:Int):=U
    have br:Hid ((mh c.parts k).length<=100000):=O (by
     unfold mh;split;·obtain⟨y,aR⟩:=get_some (l:=c.parts) (k:=0) U;rw[BM aR];have:=iD (ai.o y (gM aR));omega
     ·have:=iD (mP (k:=k+1) a.o.hc aQ.o U U);omega)
    have bs:Hid (mh c.parts (k+1)=j_ (y8 (c.parts.take (k+2)))):=O (by unfold mh;rw[u_ U]);have bt:=O (iD aJ);clear an ao ap aJ a0 a1 a2 a3 a4;go_wp2_with (go_at_call 196;refine aq.o.mono ?_;rintro e aD ⟨rfl,ad⟩);replace a:=O (a.o.up ad);replace aH:=O (bk ad aH.o)
    have ab:=O (a.o.add (vL (mh c.parts k) (j_ p) (j_ (y8 (c.parts.take (k+2))))) (abf br.o (by have:=iD aa.o;omega) (by have:=bt.o;omega)) (by
     have bj:=C9 ai.o c.parts.length;rw[jh]at bj;(have bG:(vO c.parts k).length=k:=by simp[vO]);have:=a.o.n;rw[lG]
     omega) #[V 2,mh c.parts k,j_ p,j_ (y8 (c.parts.take (k+2))),.string ⟨#[]⟩,.string ⟨#[]⟩,.string ⟨#[]⟩,V 0,V 0,V 0] rfl)
    have bu:=O (JG al.o);have bv:=a.o.C.blk.lt;clear ad k4 aq;(have d:=O λW (k:Kc kp mb _ aD W)=>show A5 W wr.heap.size p ak c2 (N W pk 0 (.pointer (some ⟨kp,0,none⟩))) from A5.of k aY aH.o (k _ _ _ a.o.D.k a.o.D.nk));have s:=d.o _ (JJ (fD _ _));have aj:=O (fD aD.heap.size aD).drew
    go_region_held3 (λW=>A5 W wr.heap.size p ak c2 (N W pk 0 (.pointer (some ⟨kp,0,none⟩))))
     (first|with_reducible exact s|with_reducible exact s2|with_reducible exact s4|with_reducible exact d.o _ (JJ (L_ E.o _))|exact s)
     (first|(go_at_call 196;(with_reducible first|refine(a.o.atom Z.o aa.o E.o).mono ?_|refine(a.o.atom Z.o aa.o aj.o).mono ?_);rintro e aS ⟨rfl,h⟩;have s2:=d.o _ (JJ h);have E:=O h;clear h)|(go_at_call 195;(with_reducible refine(ab.o _ E.o).mono ?_);rintro e aT ⟨rfl,aE,h,k⟩;have s4:=d.o _ (Zv k);have ae:=O h;have a5:=O k;clear h k)|fail)
    all_goals clear s d ab s2 s4;go_wp2;go_roundw;exact⟨k+1,aE,U,R,by rw[bs.o],by rw[bu.o,<-Ho];exact ae⟩;exact M
   ·(obtain rfl:k=c.parts.length-1:=by omega);go_wp2;go_end0;exact⟨rfl,_,by rw[ac.o];exact a.o.C,a.o.T⟩
 by_cases I:c.kind=6
 ·have aB:(c.kind==5)=false:=Q x
  have aU:(c.kind==6)=true:=Q I;have aG:=H.2.2.1 I;obtain⟨p,ay⟩:=y9 aG;have q2:0<c.parts.length:=U;have bi:(0:Int)<(c.parts.length:Int):=U;have ac:Hid (iF c=iF p++[ni c.name (j_ p) (j_ c)]):=O (by rw[FN I,ay];simp[iB,headA]);have aI:Hid (p∈c.parts):=O (by rw[ay];simp);obtain⟨b,r,rfl,hb,au⟩:=aP.o q2;obtain⟨am,c0,F,a6⟩:=XO (au 0 p (by rw[ay];rfl)) hb a.o.B;(have a7:¬Xc kp mb v b:=λh=>by have:=(a.o.C.lt h).1;omega);have aa:=O (ai.o p aI.o);have Z:=O F;have az:=O a6;have bI:=Cn.kr aI.o;have bL:=iD aa.o;clear x I aG ay au H F a6;have ar:Hid (∀{W},G ag W->_):=O (a.o.adS aW.o aI.o Z.o (by simp;omega));(have d:=O λW (k:Kc kp mb v ag W)=>show N W pl 0 (Ah pk pl)/\N W w.heap.size 4 (.slice (some ⟨b,r,none⟩) c.parts.length m)/\D5 W b r p am c0 from⟨k _ _ _ a.o.D.l a.o.D.nl,k _ _ _ (a.o.X.cell 4) a.o.nx,D5.of k a7 az.o⟩);have s:=d.o _ (JJ (fD _ _));go_in;go_wp2_with fail;rw[av.o]
  go_region_held3 (λW=>N W pl 0 (Ah pk pl)/\N W w.heap.size 4 (.slice (some ⟨b,r,none⟩) c.parts.length m)/\D5 W b r p am c0)
   (first|exact s|exact s2)
   (first|(go_at_call 242;(refine(ar.o (fD _ _).drew).mono ?_);rintro e aF ⟨rfl,bl,h,k⟩;have s2:=d.o _ (Zv k);have bw:=O h;have bx:=O k;clear h k)|fail)
  all_goals
   clear s d s2 ar
   replace a:=bw
   replace az:=O (D5.of (Zv bx.o) a7 az.o)
   have bz:¬Xc kp mb bl b:=λh=>by have:=(a.o.C.lt h).1;omega
   have bv:=a.o.C.blk.lt
   have ab:=O (a.o.add (ni c.name (j_ p) (j_ c)) (XK U U U) (by have:=BL p aa.o;simp;omega) #[V 4,j_ p,.string ⟨#[]⟩,j_ c,c.name,.string ⟨#[]⟩,.string ⟨#[]⟩,V 0,V 0,V 0] rfl)
   go_wp2_with fail
   have d:=O λW (k:Kc kp mb _ aF W)=>show N W pk 0 (.pointer (some ⟨kp,0,none⟩))/\A5 W w.heap.size c (some ⟨b,r,none⟩) m (D5 W b r p am c0) from⟨k _ _ _ a.o.D.k a.o.D.nk,A5.of k a.o.nx a.o.X (D5.of k bz az.o)⟩
   have s:=d.o _ (JJ (fD _ _))
   have aj:=O (fD aF.heap.size aF).drew
   go_region_held3 (λW=>N W pk 0 (.pointer (some ⟨kp,0,none⟩))/\A5 W w.heap.size c (some ⟨b,r,none⟩) m (D5 W b r p am c0))
    (first|with_reducible exact s|with_reducible exact s2|with_reducible exact s4|with_reducible exact d.o _ (JJ (L_ E.o _))|exact s)
    (first|(go_at_call 196;(with_reducible first|refine(a.o.atom Z.o aa.o E.o).mono ?_|refine(a.o.atom a.o.cv a.o.hc E.o).mono ?_|refine(a.o.atom Z.o aa.o aj.o).mono ?_|refine(a.o.atom a.o.cv a.o.hc aj.o).mono ?_);rintro e aS ⟨rfl,h⟩;have s2:=d.o _ (JJ h);have E:=O h;clear h)|(go_at_call 195;(with_reducible refine(ab.o _ E.o).mono ?_);rintro e aT ⟨rfl,aE,h,k⟩;have s4:=d.o _ (Zv k);have ae:=O h;have a5:=O k;clear h k)|fail)
   all_goals clear s d ab s2 s4;go_wp2;go_end0;exact⟨rfl,_,by rw[ac.o];exact ae.o.C,ae.o.T⟩
 by_cases ah:c.kind=7
 ·have aB:(c.kind==5)=false:=Q x
  have aU:(c.kind==6)=false:=Q I;have bm:(c.kind==7)=true:=Q ah;have ac:=O (CY ah);have ab:=O (a.o.add (zU c.name c.lo c.hi (j_ c)) (adR U U ⟨H.2.2.2.2.2.2.1,H.2.2.2.2.2.2.2.1⟩ ⟨H.2.2.2.2.2.2.2.2.1,H.2.2.2.2.2.2.2.2.2⟩) S #[V 9,.string ⟨#[]⟩,.string ⟨#[]⟩,j_ c,c.name,.string ⟨#[]⟩,.string ⟨#[]⟩,c.lo,c.hi,V 0] rfl);clear x I ah H;go_in;go_wp2_with fail;rw[av.o];(have d:=O λW (k:Kc kp mb _ ag W)=>show A5 W w.heap.size c A m (N W pk 0 (.pointer (some ⟨kp,0,none⟩))) from A5.of k a.o.nx a.o.X (k _ _ _ a.o.D.k a.o.D.nk));have s:=d.o _ (JJ (fD _ _));have aj:=O (fD ag.heap.size ag).drew
  go_region_held3 (λW=>A5 W w.heap.size c A m (N W pk 0 (.pointer (some ⟨kp,0,none⟩))))
   (first|with_reducible exact s|with_reducible exact s2|with_reducible exact s4|with_reducible exact d.o _ (JJ (L_ E.o _))|exact s)
   (first|(go_at_call 196;(with_reducible first|refine(a.o.atom a.o.cv a.o.hc E.o).mono ?_|refine(a.o.atom a.o.cv a.o.hc aj.o).mono ?_);rintro e aS ⟨rfl,h⟩;have s2:=d.o _ (JJ h);have E:=O h;clear h)|(go_at_call 195;(with_reducible refine(ab.o _ E.o).mono ?_);rintro e aT ⟨rfl,aE,h,k⟩;have s4:=d.o _ (Zv k);have ae:=O h;have a5:=O k;clear h k)|fail)
  all_goals clear s d ab s2 s4;go_wp2;go_end0;exact⟨rfl,_,by rw[ac.o];exact ae.o.C,ae.o.T⟩
 ·have aB:(c.kind==5)=false:=Q x;have aU:(c.kind==6)=false:=Q I;have bm:(c.kind==7)=false:=Q ah;have ac:=O (Oc x I ah);clear x I ah H;go_in;go_wp2_with fail;rw[av.o];go_end0;exact⟨rfl,v,by rw[ac.o];exact a.o.C,a.o.T⟩
def JK(az:W_)(kp y t aA aa:Nat)(fA:Int)(hf: -1<=fA/\fA<=100000):∀c:Cn,Tz az kp y t aA aa fA c:=by
 (refine Cn.ind λc aB=>?_);intro ab u w v a' hc aC aJ aD aE aU;obtain⟨A,m,rfl,bk,bl,aF⟩:=hc.form;unfold d_;unfold d_ at hc;obtain⟨H,an⟩:=e_ (w.alloc (.cells (Ct c A m) 40));have a:=O (Em.start hf ab hc aC aJ aD aE aU an);have aK:=O aB;have aG:=O aF;have ai:=O an;(have aw:Hid (∀p∈c.parts,r_ p=0):=O λp ac=>iC ab ac);have x:=gQ ((jA c).1 ab).2.own;have bm:=size_eq c;have bp:=iD ab;have bq:=Ei ab;(have be:H.heap.size=w.heap.size+1:=by rw[<-an];simp);clear aB ab hc aJ aF an aC aD aE;by_cases s:c.kind=5
 ·have aq:(c.kind==5)=true:=Q s
  have ax:=x.2.2.2.1 s;have I:Hid (fV c=iA (j_ c) c.parts):=O (FP s);obtain⟨b,l,rfl,hb,ah⟩:=aG.o U;have bd:=O ah;clear s x ah;go_in;go_wp2_with fail;rw[ai.o];go_loopw [13] (λi wr=>∃(k:Nat)(ar:V_),k<=c.parts.length/\i=V k/\Hid (Em az w kp y t aA aa fA c (some ⟨b,l,none⟩) m v a' wr ar (iA (j_ c) (c.parts.take k)))) (λi _=>c.parts.length-(intOf i).toNat);exact⟨0,v,gL _,rfl,a⟩;clear a;obtain⟨k,ar,bf,rfl,a⟩:=hrel;by_cases ba:k<c.parts.length
  ·obtain⟨p,ac⟩:=get_some ba
   obtain⟨au,c2,ae,a0,a1,a2,a3,a4⟩:=Ej (bd.o k p ac) hb a.o.B;have av:=O ac;have K:=O ae;have L:=O (aw.o p (gM ac));have r1:(0:Int)<=(k:Int):=U;have bg:(k:Int)<(c.parts.length:Int):=U;clear ac ae;go_wp2_with (refine z_ rfl 40 _ _ rfl wr.heap.size 40 _ (f_.new _ _ _) (Ct p au c2) rfl rfl rfl wM (wL ..) ?_);intro aj aL aM _;have aN:¬Xc kp y ar wr.heap.size:=a.o.C.fresh (fU _);have aO:G wr aj:=bA.grown aM S (λj aV=>by injection aV with e;omega);replace a:=O (a.o.up aO);have aP:=O aL
   have aQ:Hid ((iA (j_ c) (c.parts.take k)).length+16*p.size<=16*(c.size-1)+k):=O (by
    have aW:=LM (ps:=c.parts.take k) (λq aX=>aw.o q (Qc aX)) (j_ c) k;rw[Zk,Nat.min_self]at aW;have:=pO av.o
    omega)
   have F:=O (a.o.add (kP (j_ c) (j_ p)) (JF U (by have:=iD L.o;omega)) (by have:=aQ.o;have:=a.o.n;omega) #[V 1,j_ c,.string ⟨#[]⟩,j_ p,.string ⟨#[]⟩,.string ⟨#[]⟩,.string ⟨#[]⟩,V 0,V 0,V 0] rfl);clear aL aM aO a0 a1 a2 a3 a4;go_wp2_with fail;(have d:=O λW (k:Kc kp y _ aj W)=>show A5 W w.heap.size c (some ⟨b,l,none⟩) m (A5 W wr.heap.size p au c2 (N W t 0 (.pointer (some ⟨kp,0,none⟩)))) from A5.of k a.o.nx a.o.X (A5.of k aN aP.o (k _ _ _ a.o.D.k a.o.D.nk)));have f:=d.o _ (JJ (fD _ _));have P:=O (fD aj.heap.size aj).drew
   go_region_held3 (λW=>A5 W w.heap.size c (some ⟨b,l,none⟩) m (A5 W wr.heap.size p au c2 (N W t 0 (.pointer (some ⟨kp,0,none⟩)))))
    (first|with_reducible exact f|with_reducible exact s2|with_reducible exact s4|with_reducible exact d.o _ (JJ (L_ g.o _))|exact f)
    (first|(go_at_call 196;(with_reducible first|refine(a.o.atom K.o L.o g.o).mono ?_|refine(a.o.atom a.o.cv a.o.hc g.o).mono ?_|refine(a.o.atom K.o L.o P.o).mono ?_|refine(a.o.atom a.o.cv a.o.hc P.o).mono ?_);rintro e aH ⟨rfl,h⟩;have s2:=d.o _ (JJ h);have g:=O h;clear h)|(go_at_call 195;(with_reducible refine(F.o _ g.o).mono ?_);rintro e ak ⟨rfl,al,h,k⟩;have s4:=d.o _ (Zv k);have Z:=O h;have af:=O k;clear h k)|fail)
   all_goals clear f d F s2 s4;obtain⟨aY,aZ,a5,a6,a7,_⟩:=c5 (af.o.blk aP.o aN);have a8:=Z.o.D.r;have ag:=O (Z.o.adT aK.o (gM av.o) K.o (by have:=aQ.o;simp only[lG,zC];omega) (fD _ _));clear a af;go_wp2_with (go_at_call 243;(with_reducible refine ag.o.mono ?_);rintro e bh ⟨rfl,v3,h,_⟩;have bb:=O h;clear h);clear ag aY aZ a5 a6 a7 a8;go_wp2;go_roundw;exact⟨k+1,v3,U,R,by rw[LK av.o,<-Ho];exact bb⟩;exact M
  ·(obtain rfl:k=c.parts.length:=by omega);rw[jh]at a;go_wp2;go_end0;exact⟨rfl,_,by rw[I.o];exact a.o.C,a.o.T⟩
 by_cases E:c.kind=6
 ·have aq:(c.kind==5)=false:=Q s
  have aI:(c.kind==6)=true:=Q E;have ax:=x.2.2.1 E;obtain⟨p,ao⟩:=y9 ax;have q2:0<c.parts.length:=U;have I:Hid (fV c=[ng (j_ c) c.name (j_ p)]++fV p):=O (by rw[C8 E,ao];simp[lW,headA]);have ay:Hid (p∈c.parts):=O (by rw[ao];simp);obtain⟨b,l,rfl,hb,ah⟩:=aG.o q2;obtain⟨am,c0,ae,aR⟩:=XO (ah 0 p (by rw[ao];rfl)) hb a.o.B;(have aS:¬Xc kp y v b:=λh=>by have:=(a.o.C.lt h).1;omega);have L:=O (aw.o p ay.o);have K:=O ae;have ap:=O aR;have bn:=Cn.kr ay.o;have br:=iD L.o;clear s E ax ao ah x ae aR;have F:=O (a.o.add (ng (j_ c) c.name (j_ p)) (XJ U U U) S #[V 3,j_ c,.string ⟨#[]⟩,j_ p,c.name,.string ⟨#[]⟩,.string ⟨#[]⟩,V 0,V 0,V 0] rfl);go_in;go_wp2_with fail;rw[ai.o];(have d:=O λW (k:Kc kp y _ H W)=>show N W t 0 (.pointer (some ⟨kp,0,none⟩))/\A5 W w.heap.size c (some ⟨b,l,none⟩) m (D5 W b l p am c0) from⟨k _ _ _ a.o.D.k a.o.D.nk,A5.of k a.o.nx a.o.X (D5.of k aS ap.o)⟩);have f:=d.o _ (JJ (fD _ _));have P:=O (fD H.heap.size H).drew
  go_region_held3 (λW=>N W t 0 (.pointer (some ⟨kp,0,none⟩))/\A5 W w.heap.size c (some ⟨b,l,none⟩) m (D5 W b l p am c0))
   (first|with_reducible exact f|with_reducible exact s2|with_reducible exact s4|with_reducible exact d.o _ (JJ (L_ g.o _))|exact f)
   (first|(go_at_call 196;(with_reducible first|refine(a.o.atom K.o L.o g.o).mono ?_|refine(a.o.atom a.o.cv a.o.hc g.o).mono ?_|refine(a.o.atom K.o L.o P.o).mono ?_|refine(a.o.atom a.o.cv a.o.hc P.o).mono ?_);rintro e aH ⟨rfl,h⟩;have s2:=d.o _ (JJ h);have g:=O h;clear h)|(go_at_call 195;(with_reducible refine(F.o _ g.o).mono ?_);rintro e ak ⟨rfl,al,h,k⟩;have s4:=d.o _ (Zv k);have Z:=O h;have af:=O k;clear h k)|fail)
  all_goals
   clear f d F s2 s4
   replace a:=Z
   replace ap:=O (D5.of (Zv af.o) aS ap.o)
   have bc:¬Xc kp y al b:=λh=>by have:=(a.o.C.lt h).1;omega
   have ag:Hid (∀{W},G ak W->_):=O (a.o.adT aK.o ay.o K.o (by simp;omega))
   have d:=O λW (k:Kc kp y al ak W)=>show N W aa 0 (Ai t aa)/\N W w.heap.size 4 (.slice (some ⟨b,l,none⟩) c.parts.length m)/\D5 W b l p am c0 from⟨k _ _ _ a.o.D.r a.o.D.nr,k _ _ _ (a.o.X.cell 4) a.o.nx,D5.of k bc ap.o⟩
   have f:=d.o _ (JJ (fD _ _))
   go_wp2
   go_region_held3 (λW=>N W aa 0 (Ai t aa)/\N W w.heap.size 4 (.slice (some ⟨b,l,none⟩) c.parts.length m)/\D5 W b l p am c0)
    (first|exact f|exact s2)
    (first|(go_at_call 243;(refine(ag.o (fD _ _).drew).mono ?_);rintro e bi ⟨rfl,bj,h,k⟩;have s2:=d.o _ (Zv k);have aT:=O h;have bo:=O k;clear h k)|fail)
   all_goals clear f d s2 ag;go_wp2;go_end0;exact⟨rfl,_,by rw[I.o];exact aT.o.C,aT.o.T⟩
 by_cases ad:c.kind=7
 ·have aq:(c.kind==5)=false:=Q s
  have aI:(c.kind==6)=false:=Q E;have a9:(c.kind==7)=true:=Q ad;have I:=O (Aj ad);have F:=O (a.o.add (Tk (j_ c) c.name c.lo c.hi) (afD U U ⟨x.2.2.2.2.2.2.1,x.2.2.2.2.2.2.2.1⟩ ⟨x.2.2.2.2.2.2.2.2.1,x.2.2.2.2.2.2.2.2.2⟩) S #[V 8,j_ c,.string ⟨#[]⟩,.string ⟨#[]⟩,c.name,.string ⟨#[]⟩,.string ⟨#[]⟩,c.lo,c.hi,V 0] rfl);clear s E ad x;go_in;go_wp2_with fail;rw[ai.o];(have d:=O λW (k:Kc kp y _ H W)=>show A5 W w.heap.size c A m (N W t 0 (.pointer (some ⟨kp,0,none⟩))) from A5.of k a.o.nx a.o.X (k _ _ _ a.o.D.k a.o.D.nk));have f:=d.o _ (JJ (fD _ _));have P:=O (fD H.heap.size H).drew
  go_region_held3 (λW=>A5 W w.heap.size c A m (N W t 0 (.pointer (some ⟨kp,0,none⟩))))
   (first|with_reducible exact f|with_reducible exact s2|with_reducible exact s4|with_reducible exact d.o _ (JJ (L_ g.o _))|exact f)
   (first|(go_at_call 196;(with_reducible first|refine(a.o.atom a.o.cv a.o.hc g.o).mono ?_|refine(a.o.atom a.o.cv a.o.hc P.o).mono ?_);rintro e aH ⟨rfl,h⟩;have s2:=d.o _ (JJ h);have g:=O h;clear h)|(go_at_call 195;(with_reducible refine(F.o _ g.o).mono ?_);rintro e ak ⟨rfl,al,h,k⟩;have s4:=d.o _ (Zv k);have Z:=O h;have af:=O k;clear h k)|fail)
  all_goals clear f d F s2 s4;go_wp2;go_end0;exact⟨rfl,_,by rw[I.o];exact Z.o.C,Z.o.T⟩
 ·have aq:(c.kind==5)=false:=Q s;have aI:(c.kind==6)=false:=Q E;have a9:(c.kind==7)=false:=Q ad;have I:=O (JI s E ad);clear s E ad x;go_in;go_wp2_with fail;rw[ai.o];go_end0;exact⟨rfl,v,by rw[I.o];exact a.o.C,a.o.T⟩
end
section
open Go.RowKit Go.Sort Tryz
def LP(x:Ax)(v:V_)(w:W_)(X:zQ w)(ao:qR x)(h:AV w v x)(hb:X_ x=0)(i:jP x.kind=false)(F:jN x.kind=true):z 33 #[v] w (kZ w (gF x)):=by
 (have ax:r_ x.right=0:=by unfold X_ at hb;split at hb;(·exact absurd hb D);·split at hb;(·exact absurd hb D);·split at hb;(·rename_i h;exact absurd hb h.2);·split at hb;(·rename_i h;exact absurd hb h.2);·rename_i h;exact ft_.1 λaJ=>h ⟨F,aJ⟩);(have ay:gF x=if(Z_ x.right).2≠0 then(EJ,(Z_ x.right).2) else({x with right:=(Z_ x.right).1},0):=by(have aT:¬(x.kind=2\/x.kind=3):=by unfold jP at i;have:=hu_ i;omega);unfold gF;simp only[hb,i,F,ne_eq,gr_,ZE,ZC,dz_,aT,false_and]);obtain⟨az,aU⟩:=jE ax;obtain⟨k,E,aV,aW⟩:=wN hb;have aX:=O E;obtain⟨ap,rfl,h⟩:=h;have a3:=O h;obtain⟨f,g,l,m,a4,rfl,hl,aq,ad⟩:=h.form;obtain⟨o,r,rfl,_⟩:=S1.form ad;(have ae:Hid (∀w',G w w'->z 65 #[.agg (Ds x.kind x x.left f g x.right l m o r)] w' λe aY=>e=.returned (V 0)/\G w' aY):=O λw' ar=>by rw[<-hb];exact jG x _ w' (X.up ar) ao ⟨_,rfl,h.up ar⟩);have aK:=O X.u;(have aA:mU w x.right (Cs x.right l m):=by obtain⟨ap,e,h⟩:=aq;injection e with e;have:=qQ Array.toList e;simp at this;rw[this];exact h);have aB:Hid (∀W,G w W->z 66 #[.agg (Cs x.right l m)] W (oQ (λk=>k<w.heap.size) W (Z_ x.right))):=O λW aL=>BG _ x.right az U _ W (aA.Ti aL)
 have aZ:Hid (mU w x.left (Cs x.left f g)):=O (by
  obtain⟨ap,e,h⟩:=hl;injection e with e;have:=qQ Array.toList e;simp at this
  rw[this];exact h)
 have a0:=O ad;generalize gF x=R at *;generalize Z_ x.right=aM at *;obtain⟨q,e⟩:=aM;have H:=O ay;rw[E]at i F ae;rw[show(.int .i64 x.kind:V_)=.int .i64 (k:Int) by rw[E]];(have a8:¬(k:Int)=2:=by intro e;rw[e]at i;simp[jP]at i);(have a9:¬(k:Int)=3:=by intro e;rw[e]at i;simp[jP]at i);clear X ao h hl aq ad hb ay E ax az aU aA;go_in;go_wp2_with fail;have A:=f_.newAt (w.alloc (.cells (Ds k x x.left f g x.right l m o r) 43)) 43 #[V 0,false,V 0,.string ⟨#[]⟩,V 0,V 0,.slice none 0 0,V 0,.string ⟨#[]⟩,V 0,V 0,.slice none 0 0,.slice none 0 0,.string ⟨#[]⟩,.string ⟨#[]⟩,.string ⟨#[]⟩] (n:=w.heap.size+1) S;have d:=(f_.new w 43 (Ds k x x.left f g x.right l m o r)).alloc (.cells #[V 0,false,V 0,.string ⟨#[]⟩,V 0,V 0,.slice none 0 0,V 0,.string ⟨#[]⟩,V 0,V 0,.slice none 0 0,.slice none 0 0,.string ⟨#[]⟩,.string ⟨#[]⟩,.string ⟨#[]⟩] 43);refine(ae.o _ (L_ bA _)).mono ?_;rintro e s ⟨rfl,I⟩;have af:=A.below I;have ag:=d.below I;have Z:Hid (G w s):=O (b_ (L_ bA _) I);obtain⟨t0,t1,t2,t3,t4,t5,t6⟩:=Lv aK.o Z.o aV aW;have a':w.heap.size+1<s.heap.size:=af.lt;have r1:(0:Int)<=(k:Int):=U;have a5:(k:Int)<10:=U;have a6:N s w 0 k:=ag.cell 0;rw[i]at t0;rw[F]at t1;have aC:=O af;have ah:=O ag;clear af A I ae ag d;go_wp2_with (first|refine Hg rfl 43 _ rfl w.heap.size 0 rfl (Ds k x x.left f g x.right l m o r) _ ((ah.o.alloc _).all) underlying43 rfl gD ?_|refine z_ rfl 43 _ _ rfl (w.heap.size+1) 43 _ (aC.o.alloc _) (Ds k x x.left f g x.right l m o r) rfl rfl rfl gD (kR ..) ?_);intro b A K ba;have d:=(ah.o.alloc (.cells #[false,true,(mY k),(uA k),(uB k),(jX k),(mZ k)] 115)).grown K S;have ai:=(f_.new s 115 #[false,true,(mY k),(uA k),(uB k),(jX k),(mZ k)]).grown K (by simp;omega);have am:Hid (G w b):=O ((L_ Z.o _).grown K (by have:=Z.o.size;simp;omega) (λj c=>by injection c with e;omega));have aN:N b s 0 false:=ai.cell 0;have aO:N b s 1 true:=ai.cell 1;have au:N b w 0 k:=d.cell 0;have aP:N b w 7 x.right.kind:=d.cell 7;have av:N b w 8 (d_ x.right.name):=d.cell 8;have aQ:N b w 9 x.right.lo:=d.cell 9;have aR:N b w 10 x.right.hi:=d.cell 10;have aS:N b w 11 (.slice l x.right.parts.length m):=d.cell 11;have aD:=O A;clear A K d ai aC ah t0 t1 t2 t3 t4 t5 t6;simp only[d_]at av;go_wp2_with fail;refine(aB.o b am.o).mono ?_;rintro a7 w5 ⟨bb,rfl,aa,B⟩;obtain⟨t,y,rfl,_,_⟩:=yC aa.rd;have aE:=aD.o.below B;have aF:N w5 w 0 k:=(B.cell (p:=⟨w.heap.size,0,none⟩) (by simp only;omega)).trans au;have bc:=B.size;have an:Hid (G w w5):=O (b_ am.o B);have aG:=O aE;have aj:=O aa;clear aE aa B aB aD am au aP av aQ aR aS aN aO;go_wp2_with (refine kC rfl 40 _ _ rfl (w.heap.size+1) 7 43 _ (Ds k x x.left f g q t y o r) aG.o (Cs q t y) rfl rfl S rfl wM (wL ..) ?_);intro ab aH L bd;have be:N ab w 0 k:=(He (w:=w5) (a:=⟨w.heap.size,0,none⟩) (L.block _ (by simp only;omega) S)).trans aF;have ak:=O aH;have T:Hid (G w ab):=O (an.o.grown L an.o.size (λj c=>by injection c with e;omega));have aI:Hid (CZ (λk=>k<w.heap.size\/(b.heap.size<=k/\k<w5.heap.size)) ab q (Cs q t y)):=O (aj.o.same ((Same.refl _ _).grown aj.o.1 L (λj c=>by injection c with e;omega)));clear aH L aG aj an aF;by_cases aw:e=0;(·subst aw;obtain rfl:R=({x with right:=q},0):=H.o.trans (u_ S);clear H;go_wp2_with (first|refine Hg rfl 43 _ rfl (w.heap.size+1) 0 rfl (Ds k x x.left f g q t y o r) _ (ak.o.all) underlying43 rfl gD ?_|refine z_ rfl 43 _ _ rfl (w.heap.size+1) 43 _ ak.o (Ds k x x.left f g q t y o r) rfl rfl rfl gD (kR ..) ?_);intro ac al P a1;have C:Hid (G w ac):=O (T.o.grown P T.o.size (λj c=>by injection c with e;omega));have a2:=aI.o.same ((Same.refl _ _).grown aI.o.1 P (λj c=>by injection c with e;omega));go_wp2;refine qW (fF rfl _ _ rfl rfl (su al)) rfl ?_;refine⟨_,rfl,?_,C.o⟩;rw[<-aX.o];exact Lx (x:={x with right:=q}) (aZ.o.up C.o) a2.rd (S1.up a0.o C.o));·obtain rfl:R=(EJ,e):=H.o.trans (A_ (Q aw));clear H;go_wp2_with (refine z_ rfl 43 _ _ rfl (w.heap.size+1) 43 _ ak.o #[V 0,false,V 0,.string ⟨#[]⟩,V 0,V 0,.slice none 0 0,V 0,.string ⟨#[]⟩,V 0,V 0,.slice none 0 0,.slice none 0 0,.string ⟨#[]⟩,.string ⟨#[]⟩,.string ⟨#[]⟩] rfl rfl rfl gD (kR (s1:=[]) (s2:=[]) (s3:=[]) (s4:=[]) (s5:=[]) ..) ?_);intro ac al P a1;have C:Hid (G w ac):=O (T.o.grown P T.o.size (λj c=>by injection c with e;omega));go_wp2;refine qW (fF rfl _ _ rfl rfl (su al)) rfl ?_;exact⟨_,rfl,Eh _,C.o⟩
def Og(x:Ax)(v:V_)(w:W_)(aD:zQ w)(a8:qR x)(h:AV w v x)(hb:X_ x=0)(aw:jP x.kind=true)(ax:jN x.kind=true):z 33 #[v] w (kZ w (gF x)):=by
 have aS:r_ x.left=0/\r_ x.right=0:=by unfold X_ at hb;split at hb;(·exact absurd hb D);·split at hb;(·exact absurd hb D);·split at hb;(·rename_i h;exact absurd hb h.2);·rename_i bC;split at hb;(·rename_i h;exact absurd hb h.2);·rename_i h;exact⟨ft_.1 λaE=>bC ⟨aw,aE⟩,ft_.1 λaE=>h ⟨ax,aE⟩⟩
 have aT:gF x=if(Z_ x.left).2≠0 then(EJ,(Z_ x.left).2) else if(Z_ x.right).2≠0 then(EJ,(Z_ x.right).2) else
  if(x.kind=2\/x.kind=3)/\0<fO (Z_ x.left).1 (Z_ x.right).1 then({x with left:=(Z_ x.right).1,right:=(Z_ x.left).1},0) else({x with left:=(Z_ x.left).1,right:=(Z_ x.right).1},0):=by
  unfold gF
  simp only[hb,aw,ax,ne_eq,gr_,ZE,ZC]
 have bT:=oo x.left;have bU:=oo x.right;obtain⟨bz,b1⟩:=jE aS.1;obtain⟨bh,ac⟩:=jE aS.2;obtain⟨k,Z,bV,bW⟩:=wN hb;obtain⟨a9,rfl,h⟩:=h;have b6:=O h;obtain⟨L,P,E,F,b7,rfl,hl,a',ay⟩:=h.form;obtain⟨o,r,rfl,_⟩:=S1.form ay;(have aU:Hid (∀w',G w w'->z 65 #[.agg (Ds x.kind x x.left L P x.right E F o r)] w' λe bX=>e=.returned (V 0)/\G w' bX):=O λw' ba=>by rw[<-hb];exact jG x _ w' (aD.up ba) a8 ⟨_,rfl,h.up ba⟩);have bD:=O aD.u;(have bi:mU w x.right (Cs x.right E F):=by obtain⟨a9,e,h⟩:=a';injection e with e;have:=qQ Array.toList e;simp at this;rw[this];exact h);have bj:∀W,G w W->z 66 #[.agg (Cs x.right E F)] W (oQ (λk=>k<w.heap.size) W (Z_ x.right)):=λW aF=>BG _ x.right bh U _ W (bi.Ti aF)
 have bk:mU w x.left (Cs x.left L P):=(by
  obtain⟨a9,e,h⟩:=hl;injection e with e;have:=qQ Array.toList e;simp at this
  rw[this];exact h)
 (have bl:∀W,G w W->z 66 #[.agg (Cs x.left L P)] W (oQ (λk=>k<w.heap.size) W (Z_ x.left)):=λW aF=>BG _ x.left bz U _ W (bk.Ti aF));have b4:(Z_ x.left).1.size<=100000:=U;have b5:(Z_ x.right).1.size<=100000:=U;clear bT bU;generalize gF x=R at *;generalize Z_ x.right=bE at *;obtain⟨q,e⟩:=bE;generalize Z_ x.left=bF at *;obtain⟨p,d⟩:=bF;rw[Z]at aw ax aU aT;rw[show(.int .i64 x.kind:V_)=.int .i64 (k:Int) by rw[Z]];have X:=O aT;clear aD a8 h hl a' hb aT aS bh ac bi bz b1 bk;go_in;go_wp2_with fail;have aV:=f_.newAt (w.alloc (.cells (Ds k x x.left L P x.right E F o r) 43)) 43 #[V 0,false,V 0,.string ⟨#[]⟩,V 0,V 0,.slice none 0 0,V 0,.string ⟨#[]⟩,V 0,V 0,.slice none 0 0,.slice none 0 0,.string ⟨#[]⟩,.string ⟨#[]⟩,.string ⟨#[]⟩] (n:=w.heap.size+1) S;have I:=(f_.new w 43 (Ds k x x.left L P x.right E F o r)).alloc (.cells #[V 0,false,V 0,.string ⟨#[]⟩,V 0,V 0,.slice none 0 0,V 0,.string ⟨#[]⟩,V 0,V 0,.slice none 0 0,.slice none 0 0,.string ⟨#[]⟩,.string ⟨#[]⟩,.string ⟨#[]⟩] 43);refine(aU.o _ (L_ bA _)).mono ?_;rintro e T ⟨rfl,az⟩;have bm:=aV.below az;have aW:=I.below az;have aG:G w T:=(b_ (L_ bA _) az);obtain⟨t0,t1,t2,t3,t4,t5,t6⟩:=Lv bD.o aG bV bW;have cc:w.heap.size+1<T.heap.size:=bm.lt;have r1:(0:Int)<=(k:Int):=U;have b8:(k:Int)<10:=U;have b9:N T w 0 k:=aW.cell 0;rw[aw]at t0;rw[ax]at t1;go_wp2_with (first|refine Hg rfl 43 _ rfl w.heap.size 0 rfl (Ds k x x.left L P x.right E F o r) _ ((aW.alloc _).all) underlying43 rfl gD ?_|refine z_ rfl 43 _ _ rfl (w.heap.size+1) 43 _ (bm.alloc _) (Ds k x x.left L P x.right E F o r) rfl rfl rfl gD (kR ..) ?_);intro t aV aA bY;have I:=(aW.alloc (.cells #[true,true,(mY k),(uA k),(uB k),(jX k),(mZ k)] 115)).grown aA S;have aX:=(f_.new T 115 #[true,true,(mY k),(uA k),(uB k),(jX k),(mZ k)]).grown aA (by simp;omega);have a3:G w t:=((L_ aG _).grown aA (by have:=aG.size;simp;omega) (λj a=>by injection a with e;omega));have bG:N t T 0 true:=aX.cell 0;have aH:N t T 1 true:=aX.cell 1;have bb:N t w 0 k:=I.cell 0;have bH:N t w 2 x.left.kind:=I.cell 2;have bc:N t w 3 (d_ x.left.name):=I.cell 3;have bI:N t w 4 x.left.lo:=I.cell 4;have bJ:N t w 5 x.left.hi:=I.cell 5;have bK:N t w 6 (.slice L x.left.parts.length P):=I.cell 6;(have cm:T.heap.size<t.heap.size:=by rw[bY];simp);simp only[d_]at bc;go_wp2_with fail;refine(bl t a3).mono ?_;rintro b' av ⟨cd,rfl,aa,ad⟩;obtain⟨g,i,rfl,_,_⟩:=yC aa.rd;have bn:=(aV.below ad);have bo:=(I.below ad);have bp:=(aX.below ad);have ce:=ad.size;have a4:G w av:=(b_ a3 ad);have aY:=O aa;go_wp2_with (refine kC rfl 40 _ _ rfl (w.heap.size+1) 2 43 _ (Ds k x p g i x.right E F o r) bn (Cs p g i) rfl rfl S rfl wM (wL ..) ?_);intro w5 bq ah cf;have ae:=bo.grown ah S;have br:=bp.grown ah (by simp;omega);have aH:N w5 T 1 true:=br.cell 1;have bL:N w5 w 7 x.right.kind:=ae.cell 7;have bd:N w5 w 8 (d_ x.right.name):=ae.cell 8;have bM:N w5 w 9 x.right.lo:=ae.cell 9;have bN:N w5 w 10 x.right.hi:=ae.cell 10;have bO:N w5 w 11 (.slice E x.right.parts.length F):=ae.cell 11;simp only[d_]at bd;have ar:G w w5:=(a4.grown ah a4.size (λj a=>by injection a with e;omega));have bs:CZ (λk=>k<w.heap.size\/(t.heap.size<=k/\k<av.heap.size)) w5 p (Cs p g i):=(aY.o.same ((Same.refl _ _).grown aY.o.1 ah (λj a=>by injection a with e;omega)));by_cases be:d=0
 ·subst be
  go_wp2_with fail;refine(bj w5 ar).mono ?_;rintro ca aI ⟨cg,rfl,aa,ai⟩;obtain⟨l,m,rfl,_,_⟩:=yC aa.rd;have bt:=(bq.below ai);have bu:=(ae.below ai);have a5:G w aI:=(b_ ar ai);have aZ:=O aa;have a0:CZ (λk=>k<w.heap.size\/(t.heap.size<=k/\k<av.heap.size)) aI p (Cs p g i):=(bs.up ai);go_wp2_with (refine kC rfl 40 _ _ rfl (w.heap.size+1) 7 43 _ (Ds k x p g i q l m o r) bt (Cs q l m) rfl rfl S rfl wM (wL ..) ?_);intro f y aj ch;have bb:N f w 0 k:=(bu.grown aj S).cell 0;have af:G w f:=(a5.grown aj a5.size (λj a=>by injection a with e;omega));have ak:CZ (λk=>k<w.heap.size\/(w5.heap.size<=k/\k<aI.heap.size)) f q (Cs q l m):=(aZ.o.same ((Same.refl _ _).grown aZ.o.1 aj (λj a=>by injection a with e;omega)));have al:CZ (λk=>k<w.heap.size\/(t.heap.size<=k/\k<av.heap.size)) f p (Cs p g i):=(a0.same ((Same.refl _ _).grown a0.1 aj (λj a=>by injection a with e;omega)));clear aj bt bu a5 aZ a0;by_cases bf:e=0
  ·subst bf
   by_cases ab:(k:Int)=2\/(k:Int)=3
   ·have a6:Hid (z 67 #[.agg (Cs p g i),.agg (Cs q l m)] f λe w'=>e=.returned (fO p q)/\G f w'):=O (uD p q _ _ f ⟨_,rfl,al.rd⟩ ⟨_,rfl,ak.rd⟩ b4 b5)
    (have bg:R=if 0<fO p q then({x with left:=q,right:=p},0) else({x with left:=p,right:=q},0):=by rw[X.o];simp[ab,Z]);have ag:=O bg;obtain⟨c,hc⟩:=e_ (fO p q);rw[hc]at a6 ag;clear bg hc X;(have key:∀(b2 b3:Bool),((k:Int)==2)=b2->((k:Int)==3)=b3->b2=true\/(b2=false/\b3=true):=λb2 b3 bP bQ=>by rcases ab with h|h;(·left;rw[<-bP];simpa using h);·rcases b2 with _|_;(·right;refine⟨rfl,?_⟩;rw[<-bQ];simpa using h);·left;rfl);obtain⟨b2,t2⟩:∃b,((k:Int)==2)=b:=⟨_,rfl⟩;obtain⟨b3,t3⟩:∃b,((k:Int)==3)=b:=⟨_,rfl⟩;have bZ:=key b2 b3 t2 t3;clear key ab;have aJ:N f (w.heap.size+1) 2 p.kind:=y.cell 2;have aK:N f (w.heap.size+1) 3 p.name:=y.cell 3;have aL:N f (w.heap.size+1) 4 p.lo:=y.cell 4;have aM:N f (w.heap.size+1) 5 p.hi:=y.cell 5;have aN:N f (w.heap.size+1) 6 (.slice g p.parts.length i):=y.cell 6;have aO:N f (w.heap.size+1) 7 q.kind:=y.cell 7;have aP:N f (w.heap.size+1) 8 q.name:=y.cell 8;have aQ:N f (w.heap.size+1) 9 q.lo:=y.cell 9;have aR:N f (w.heap.size+1) 10 q.hi:=y.cell 10;have xb:N f (w.heap.size+1) 11 (.slice l q.parts.length m):=y.cell 11;rcases bZ with rfl|⟨rfl,rfl⟩
    all_goals
     (go_wp2_with fail
      refine a6.o.mono ?_
      rintro cb C ⟨rfl,am⟩
      have A:=y.below am
      have au:G w C:=(b_ af am)
      have an:=(al.up am)
      have ao:=(ak.up am)
      clear aJ aK aL aM aN aO aP aQ aR xb
      have aJ:N C (w.heap.size+1) 2 p.kind:=A.cell 2
      have aK:N C (w.heap.size+1) 3 p.name:=A.cell 3
      have aL:N C (w.heap.size+1) 4 p.lo:=A.cell 4
      have aM:N C (w.heap.size+1) 5 p.hi:=A.cell 5
      have aN:N C (w.heap.size+1) 6 (.slice g p.parts.length i):=A.cell 6
      have aO:N C (w.heap.size+1) 7 q.kind:=A.cell 7
      have aP:N C (w.heap.size+1) 8 q.name:=A.cell 8
      have aQ:N C (w.heap.size+1) 9 q.lo:=A.cell 9
      have aR:N C (w.heap.size+1) 10 q.hi:=A.cell 10
      have xb:N C (w.heap.size+1) 11 (.slice l q.parts.length m):=A.cell 11
      clear am af al ak a6
      by_cases hc:0<c
      ·obtain rfl:R=({x with left:=q,right:=p},0):=ag.o.trans (A_ hc);clear ag;go_wp2_with (refine kC rfl 40 _ _ rfl (w.heap.size+1) 2 43 _ (Ds k x q l m q l m o r) A (Cs q l m) rfl rfl S rfl wM (wL ..) ?_);intro bR b0 aB ci;have a7:G w bR:=(au.grown aB au.size (λj a=>by injection a with e;omega));have a1:=(an.same ((Same.refl _ _).grown an.1 aB (λj a=>by injection a with e;omega)));have a2:=(ao.same ((Same.refl _ _).grown ao.1 aB (λj a=>by injection a with e;omega)));clear aB au an ao aJ aK aL aM aN aO aP aQ aR xb;go_wp2_with (refine kC rfl 40 _ _ rfl (w.heap.size+1) 7 43 _ (Ds k x q l m p g i o r) b0 (Cs p g i) rfl rfl S rfl wM (wL ..) ?_);intro bS bv aC cj;have bB:G w bS:=(a7.grown aC a7.size (λj a=>by injection a with e;omega));have bw:=(a1.same ((Same.refl _ _).grown a1.1 aC (λj a=>by injection a with e;omega)));have bx:=(a2.same ((Same.refl _ _).grown a2.1 aC (λj a=>by injection a with e;omega)));clear aC a7 a1 a2;go_wp2_with (first|refine Hg rfl 43 _ rfl (w.heap.size+1) 0 rfl (Ds k x q l m p g i o r) _ (bv.all) underlying43 rfl gD ?_|refine z_ rfl 43 _ _ rfl (w.heap.size+1) 43 _ bv (Ds k x q l m p g i o r) rfl rfl rfl gD (kR ..) ?_);intro H K s ac;have B:G w H:=(bB.grown s bB.size (λj a=>by injection a with e;omega));have ap:=bw.same ((Same.refl _ _).grown bw.1 s (λj a=>by injection a with e;omega));have aq:=bx.same ((Same.refl _ _).grown bx.1 s (λj a=>by injection a with e;omega));go_wp2;refine qW (fF rfl _ _ rfl rfl (su K)) rfl ?_;refine⟨_,rfl,?_,B⟩;rw[<-Z];exact Lx (x:={x with left:=q,right:=p}) aq.rd ap.rd (S1.up ay B)
      ·obtain rfl:R=({x with left:=p,right:=q},0):=ag.o.trans (u_ hc)
       clear ag;go_wp2_with (first|refine Hg rfl 43 _ rfl (w.heap.size+1) 0 rfl (Ds k x p g i q l m o r) _ (A.all) underlying43 rfl gD ?_|refine z_ rfl 43 _ _ rfl (w.heap.size+1) 43 _ A (Ds k x p g i q l m o r) rfl rfl rfl gD (kR ..) ?_);intro H K s ac;have B:G w H:=(au.grown s au.size (λj a=>by injection a with e;omega));have ap:=an.same ((Same.refl _ _).grown an.1 s (λj a=>by injection a with e;omega));have aq:=ao.same ((Same.refl _ _).grown ao.1 s (λj a=>by injection a with e;omega));go_wp2;refine qW (fF rfl _ _ rfl rfl (su K)) rfl ?_;refine⟨_,rfl,?_,B⟩;rw[<-Z]
       exact Lx (x:={x with left:=p,right:=q}) ap.rd aq.rd (S1.up ay B))
   ·(obtain rfl:R=({x with left:=p,right:=q},0):=by rw[X.o];simp[ab,Z]);(have ck:¬(k:Int)=2:=λh=>ab (.inl h));(have cl:¬(k:Int)=3:=λh=>ab (.inr h));clear X ab;go_wp2_with (first|refine Hg rfl 43 _ rfl (w.heap.size+1) 0 rfl (Ds k x p g i q l m o r) _ (y.all) underlying43 rfl gD ?_|refine z_ rfl 43 _ _ rfl (w.heap.size+1) 43 _ y (Ds k x p g i q l m o r) rfl rfl rfl gD (kR ..) ?_);intro H K s ac;have B:G w H:=(af.grown s af.size (λj a=>by injection a with e;omega));have ap:=al.same ((Same.refl _ _).grown al.1 s (λj a=>by injection a with e;omega));have aq:=ak.same ((Same.refl _ _).grown ak.1 s (λj a=>by injection a with e;omega));go_wp2;refine qW (fF rfl _ _ rfl rfl (su K)) rfl ?_;refine⟨_,rfl,?_,B⟩;rw[<-Z];exact Lx (x:={x with left:=p,right:=q}) ap.rd aq.rd (S1.up ay B)
  ·(obtain rfl:R=(EJ,e):=by rw[X.o];simp[bf]);clear X;go_wp2_with (refine z_ rfl 43 _ _ rfl (w.heap.size+1) 43 _ y #[V 0,false,V 0,.string ⟨#[]⟩,V 0,V 0,.slice none 0 0,V 0,.string ⟨#[]⟩,V 0,V 0,.slice none 0 0,.slice none 0 0,.string ⟨#[]⟩,.string ⟨#[]⟩,.string ⟨#[]⟩] rfl rfl rfl gD (kR (s1:=[]) (s2:=[]) (s3:=[]) (s4:=[]) (s5:=[]) ..) ?_);intro H K s ac;have B:G w H:=(af.grown s af.size (λj a=>by injection a with e;omega));go_wp2;refine qW (fF rfl _ _ rfl rfl (su K)) rfl ?_;exact⟨_,rfl,Eh _,B⟩
 ·(obtain rfl:R=(EJ,d):=by rw[X.o];simp[be]);clear X;go_wp2_with (refine z_ rfl 43 _ _ rfl (w.heap.size+1) 43 _ bq #[V 0,false,V 0,.string ⟨#[]⟩,V 0,V 0,.slice none 0 0,V 0,.string ⟨#[]⟩,V 0,V 0,.slice none 0 0,.slice none 0 0,.string ⟨#[]⟩,.string ⟨#[]⟩,.string ⟨#[]⟩] rfl rfl rfl gD (kR (s1:=[]) (s2:=[]) (s3:=[]) (s4:=[]) (s5:=[]) ..) ?_);intro H K s ac;have B:G w H:=(ar.grown s ar.size (λj a=>by injection a with e;omega));go_wp2;refine qW (fF rfl _ _ rfl rfl (su K)) rfl ?_;exact⟨_,rfl,Eh _,B⟩
def sw(x:Ax)(v:V_)(w:W_)(a:zQ w)(b:qR x)(h:AV w v x):z 33 #[v] w (kZ w (gF x)):=by by_cases hb:X_ x=0;(·by_cases hl:jP x.kind=true;(·(have c:jN x.kind=true:=by unfold jP at hl;have:=I4 hl;unfold jN;exact Dx U);exact Og x v w a b h hb hl c);·have d:jP x.kind=false:=Q hl;by_cases c:jN x.kind=true;(·exact LP x v w a b h hb d c);·exact NS x v w a b h hb d (Q c));·exact QL x v w a b h hb
end
section
open Tryz
def LQ{x:Ax}(h:X_ x=0):x.left.size<=64/\x.right.size<=64/\x.roles.length<=4:=by
 have j:=(uL h).2;(have m:x.roles.length<=4:=by refine gT j ?_;unfold mZ;split<;>(try split)<;>omega);unfold X_ at h;by_cases e:iM x=false;(·rw[A_ e]at h;cases h);rw[u_ e]at h;by_cases g:oZ x=false;(·rw[A_ g]at h;cases h);rw[u_ g]at h;have d:iM x=true:=Q e;unfold iM at d;simp only[KJ,Ug]at d
 have i:∀c:Cn,ql c=true->c.size<=64:=λc hc=>by
  cases c with
  |mk k n l h ps=>
   unfold ql at hc;simp only[KJ,List.isEmpty_iff]at hc;have:ps=[]:=hc.2;subst this;simp[Cn.size,Cn.sizes]
 by_cases hl:jP x.kind=true/\r_ x.left≠0;(·rw[A_ hl]at h;exact absurd h hl.2);rw[u_ hl]at h;by_cases f:jN x.kind=true/\r_ x.right≠0;(·rw[A_ f]at h;exact absurd h f.2);refine⟨?_,?_,m⟩;(·by_cases b:jP x.kind=true;(·exact(jE (Hr λh=>hl ⟨b,h⟩)).2);·rcases d.1.1.1.1.1.2 with a|a;(·exact absurd a b);·exact i _ a);·by_cases b:jN x.kind=true;(·exact(jE (Hr λh=>f ⟨b,h⟩)).2);·rcases d.1.1.1.1.2 with a|a;(·exact absurd a b);·exact i _ a
def Oh{x:Ax}(h:(gF x).2=0):X_ x=0/\Xf x/\Xf (gF x).1:=by(have a:X_ x=0:=by apply Hr;intro f;unfold gF at h;rw[A_ f]at h;exact f h);obtain⟨d,e,i⟩:=LQ a;refine⟨a,⟨U,U,U⟩,?_⟩;unfold gF at h ⊢;rw[u_ (Q a)]at h ⊢;dsimp only at h ⊢;(have hl:(if jP x.kind=true then Z_ x.left else(x.left,0)).1.size<=64:=by split;(·exact gT (oo _) d);·exact d);(have g:(if jN x.kind=true then Z_ x.right else(x.right,0)).1.size<=64:=by split;(·exact gT (oo _) e);·exact e);generalize (if jP x.kind=true then Z_ x.left else(x.left,0))=l at h hl ⊢;generalize (if jN x.kind=true then Z_ x.right else(x.right,0))=r at h g ⊢;by_cases b:l.2≠0;(·rw[A_ b]at h;exact absurd h b);rw[u_ b]at h ⊢;by_cases c:r.2≠0;(·rw[A_ c]at h;exact absurd h c);rw[u_ c]at h ⊢;split;(·exact⟨by show r.1.size<=_;omega,by show l.1.size<=_;omega,by show x.roles.length<=_;omega⟩);·exact⟨by show l.1.size<=_;omega,by show r.1.size<=_;omega,by show x.roles.length<=_;omega⟩
def jS(x:Ax):Int:=if(gF x).2≠0 then(gF x).2 else if(x.op==(gF x).1.op&&decide (j5 x (gF x).1=0))=true then 0 else 22
def jv:List Ax->Int
 |[]=>0
 |x::l=>if jS x≠0 then jS x else jv l
def Iu{L:List Ax}{k:Nat}{x:Ax}(h:L[k]?=some x):jv (L.drop k)=if jS x≠0 then jS x else jv (L.drop (k+1)):=by have a:=(iR.1 h).1;rw[Hq a,(iR.1 h).2];rfl
def yE:∀{L:List Ax},jv L=0->∀x∈L,jS x=0
 |y::l,h,x,b=>by
  unfold jv at h;by_cases a:jS y=0;(·rw[u_ (Q a)]at h;rcases jU.1 b with rfl|b;(·exact a);·exact yE h x b);·rw[A_ a]at h;exact absurd h a
def LU{x:Ax}(h:jS x=0):(gF x).2=0/\(x.op==(gF x).1.op&&decide (j5 x (gF x).1=0))=true:=by unfold jS at h;by_cases a:(gF x).2=0;(·rw[u_ (Q a)]at h;refine⟨a,Hr λhc=>?_⟩;rw[u_ hc]at h;cases h);·rw[A_ a]at h;exact absurd h a
def XP(L:List Ax):Prop:=∀i x y,L[i]?=some x->L[i+1]?=some y->j5 x y= -1
def uN(L:List Ax):Bool:=L.any λx=>pR x.kind&& !x.op
noncomputable def fZ (L:List Ax):Int:=open Classical in
 if jv L≠0 then jv L else if ¬XP L then 70 else if 1024<L.length then 2 else if uN L=true then 71 else qF L
end
section
open Go.Maps Go.RowKit Tryz
def tQ{s:St}(h:fq s=true):s.length<=24:=by unfold fq at h;rcases Ug _ _ ▸ h with h|h;(·exact xJ h);·unfold iy at h;split at h;(·simp only[KJ,I5]at h;exact h.2);·cases h
structure afE(x:Ax):Prop where
 kind:1<=x.kind/\x.kind<=9
 l:jP x.kind=true->r_ x.left=0
 r:jN x.kind=true->r_ x.right=0
 role:x.role.length<=24
 a:x.a.length<=24
 b:x.b.length<=24
 rs:∀s∈x.roles,s.length<=24
 n:jX x.kind<=x.roles.length/\x.roles.length<=mZ x.kind
def QX{x:Ax}(h:X_ x=0):afE x:=by have g:=uL h;unfold X_ at h;by_cases a:iM x=false;(·rw[A_ a]at h;cases h);rw[u_ a]at h;by_cases b:oZ x=false;(·rw[A_ b]at h;cases h);rw[u_ b]at h;have c:iM x=true:=Q a;have d:oZ x=true:=Q b;unfold iM at c;unfold oZ at d;simp only[KJ,I5,Ug,Bool.not_eq_true']at c d;obtain⟨⟨⟨⟨⟨⟨i,_⟩,_⟩,j⟩,k⟩,sb⟩,_⟩:=c;obtain⟨⟨⟨mr,ma⟩,l⟩,ms⟩:=d;refine⟨i,λhl=>?_,λn=>?_,?_,?_,?_,λs a=>xJ (fa_.1 ms s a),g⟩;(·by_cases e:r_ x.left=0;(·exact e);·rw[A_ ⟨hl,e⟩]at h;exact h);(·by_cases e:jP x.kind=true/\r_ x.left≠0;(·rw[A_ e]at h;exact absurd h e.2);·rw[u_ e]at h;by_cases f:r_ x.right=0;(·exact f);·rw[A_ ⟨n,f⟩]at h;exact h);(·rcases j with e|e;(·rcases mr with m|m;(·rw[m]at e;cases e);·exact xJ m);·rw[e];simp);(·rcases k with e|e;(·rcases ma with m|m;(·rw[m]at e;cases e);·exact tQ m);·rw[e];simp);·rcases sb with e|e;(·rcases l with m|m;(·rw[m]at e;cases e);·exact tQ m);·rw[e];simp
def iH{W:W_}{g:Nat}{x:Ax}{c d e:Option Addr}{f i j:Nat}(h:f_ W g 43 (gV x c f d i e j)):N W g 0 x.kind/\N W g 1 x.op/\N W g 2 x.left.kind/\N W g 3 x.left.name/\N W g 4 x.left.lo/\ N W g 5 x.left.hi/\N W g 6 (.slice c x.left.parts.length f)/\N W g 7 x.right.kind/\N W g 8 x.right.name/\N W g 9 x.right.lo/\ N W g 10 x.right.hi/\N W g 11 (.slice d x.right.parts.length i)/\N W g 12 (.slice e x.roles.length j)/\N W g 13 x.role/\N W g 14 x.a/\N W g 15 x.b:=⟨h.cell 0,h.cell 1,h.cell 2,h.cell 3,h.cell 4,h.cell 5,h.cell 6,h.cell 7,h.cell 8,h.cell 9,h.cell 10,h.cell 11,h.cell 12,h.cell 13,h.cell 14,h.cell 15⟩
def xL{c:Cn}(h:r_ c=0):(iF c).length<=1024:=by have:=BL c h;have:=(jE h).2;omega
def tT{c:Cn}(h:r_ c=0):(fV c).length<=1024:=by have:=FL c h;have:=(jE h).2;omega
def size_le{c:Cn}(h:r_ c=0):16*c.size<=1024:=by have:=(jE h).2;omega
end
end Go.Proofs.YtjmbkfjklemmpaaGreatDoor
