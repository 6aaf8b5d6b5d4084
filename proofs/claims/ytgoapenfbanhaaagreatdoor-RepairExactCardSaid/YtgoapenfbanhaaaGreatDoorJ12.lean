import Derived.Laws.Cover1
import Derived.StillTailTactics
import Derived.Test.YtgoapenfbanhaaaGreatDoorJ03
import Derived.Test.YtgoapenfbanhaaaGreatDoorJ05
set_option linter.all false
set_option maxRecDepth 100000
set_option maxHeartbeats 32000000
open List renaming length->l_
open Go.RowKit Go.Sort Go.Proofs.Tryz Go.Shelf
open Go renaming World->W_,Value->V_,maxLen->m_,TypeId->T_
namespace Go.Proofs
abbrev em_:=@Go.wp_region_still_tail
end Go.Proofs
namespace Go.Proofs.YtgoapenfbanhaaaGreatDoor
variable{α:Type}{A:J_}{ps:List (O_×Cn)}{l:List Cn}{base cap g i k n o:Nat}{Z:Nat->Prop}{p:O_×Cn}{P:Program}{t:T_}{a b d e:V_}{W w w':W_}{f:α->O_}
def wI:∀a b:St,Lib.compareBytes a b=fV a b
 |[],[]=>by simp[Lib.compareBytes,fV]
 |[],_::_=>by simp[Lib.compareBytes,fV]
 |_::_,[]=>by simp[Lib.compareBytes,fV]
 |a::l,b::m=>by
  have:=wI l m;simp only[Lib.compareBytes,fV,this]
def JL(a b:Int):Lib.compareInt a b=iw a b:=by unfold Lib.compareInt iw;rfl
def zV(a b:St)(w:W_):z 65 #[a,b] w λe w'=>e=.returned (fV a b)/\w'=w:=(Tryz.strings_Compare ⟨a.toArray⟩ ⟨b.toArray⟩ w).mono λe w' ⟨c,d⟩=>⟨by rw[c];exact iM _ (iM _ (wI a b)),d⟩
def zW(a b:Int)(w:W_):z 62 #[a,b] w λe w'=>e=.returned (iw a b)/\w'=w:=(Tryz.cmp_Compare_int a b w).mono λe w' ⟨c,d⟩=>⟨by rw[c,JL],d⟩
def xM:I_->Int
 |[]=>0
 |a::l=>if a≠0 then a else xM l
def aad{l:I_}{a:Int}(h:l[k]?=some a):xM (l.drop k)=if a≠0 then a else xM (l.drop (k+1)):=by have b:=(jv.1 h).1;rw[Jd b,(jv.1 h).2];rfl
def Ng(l:I_)(v:V_)(w:W_)(h:SI w v l)(hl:l_ l<=1000000):z 61 #[v] w λe w'=>e=.returned (xM l)/\w=w':=by obtain⟨A,c,rfl,u,o,m⟩:=h.form;clear h;go_in;go_wp2;go_loop [8] (λi=>∃k:Nat,k<=l_ l/\i=.int .i64 (k:Int)/\Hid (xM l=xM (l.drop k))) (λi=>l_ l-(intOf i).toNat);exact⟨0,gZ _,rfl,O S⟩;obtain⟨k,p,rfl,d⟩:=hrel;by_cases n:k<l_ l;(.obtain⟨b,s,rfl,hb,j⟩:=m U;obtain⟨x,f⟩:=g_ n;have q:=j k x f;have y:0<=(k:Int):=U;have r:(k:Int)<l_ l:=U;have H:=aad f;clear j f;by_cases a:x=0;(.subst a;have g:Hid (xM l=xM (l.drop (k+1))):=O (by rw[d.o,H];simp);clear H;go_wp2;go_round;exact⟨k+1,U,R,g⟩;exact M);.have t:(x !=0)=true:=Q a;have g:Hid (xM l=x):=O (by rw[d.o,H,P_ a]);clear H a;go_wp2;go_ret;exact⟨by rw[g.o];rfl,rfl⟩);·(obtain rfl:k=l_ l:=by omega);go_wp2;go_ret;exact⟨by have:=d.o;rw[R9]at this;rw[this];rfl,rfl⟩
def adF(c:Cn):Prop:=∀(d:Cn)(u v:V_)(w:W_),TV w u c->TV w v d->z 76 #[u,v] w λe w'=>e=.returned (gF c d)/\kG w w'
def af3(w:W_)(B:J_)(cap:Nat)(ps:List Cn):Prop:=l_ ps<=cap/\cap<=m_/\(0<l_ ps->∃b o,B=some ⟨b,o,none⟩/\b<w/\∀i p,ps[i]?=some p->∃c,(∀(j:Nat) u,c[j]?=some u->N w b (o+7*i+j) u)/\su w p c)
def Uc{ps a:List Cn}{p q:Cn}(b:ps[k]?=some p)(c:a[k]?=some q):iD (ps.drop k) (a.drop k)=lN (gF p q) (iD (ps.drop (k+1)) (a.drop (k+1))):=by have d:=(jv.1 b).1;have e:=(jv.1 c).1;rw[Jd d,Jd e,(jv.1 b).2,(jv.1 c).2,iD]
def EX(ps c:List Cn)(aA:∀p∈ps,adF p)(A B:J_)(ca cb:Nat)(w:W_)(ak:af3 w A ca ps)(hb:af3 w B cb c):z 123 #[.slice A (l_ ps) ca,.slice B (l_ c) cb,.func (.func 76) #[] #[]] w λe w'=>e=.returned (iD ps c)/\kG w w':=by
 obtain⟨a1,a2,a3⟩:=ak;obtain⟨b1,b2,b3⟩:=hb;unfold m_ at a2 b2;go_in;go_wp2;go_loopw [13] (λi wr=>∃k:Nat,k<=l_ ps/\k<=l_ c/\i=.int .i64 (k:Int)/\Hid (iD ps c=iD (ps.drop k) (c.drop k))/\Hid (kG w wr)) (λi _=>l_ ps-(intOf i).toNat);exact⟨0,gZ _,gZ _,rfl,O S,O (kG.refl _)⟩;obtain⟨k,aD,aH,rfl,v,x⟩:=hrel;by_cases Z:k<l_ ps
 .obtain⟨b,g,rfl,t,ah⟩:=a3 U
  obtain⟨p,y⟩:=g_ Z;obtain⟨aE,n,D⟩:=ah k p y;obtain⟨H,I,K,J,rfl⟩:=D.cells;have d:=x.o.below;have am:N wr b (g+k*7) p.K:=(d.cell (p:=a_ b (g+k*7)) t).trans (by have:=n 0 _ rfl;rw[<-this];congr 2;omega);have an:N wr b (g+k*7+1) (d_ p.N):=(d.cell (p:=a_ b (g+k*7+1)) t).trans (by have:=n 1 _ rfl;rw[<-this];congr 2;omega);have ao:N wr b (g+k*7+2) p.lo:=(d.cell (p:=a_ b (g+k*7+2)) t).trans (by have:=n 2 _ rfl;rw[<-this];congr 2;omega);have ap:N wr b (g+k*7+3) p.hi:=(d.cell (p:=a_ b (g+k*7+3)) t).trans (by have:=n 3 _ rfl;rw[<-this];congr 2;omega);have aq:N wr b (g+k*7+4) (.slice H (l_ p.J) I):=(d.cell (p:=a_ b (g+k*7+4)) t).trans (by have:=n 4 _ rfl;rw[<-this];congr 2;omega);have ar:N wr b (g+k*7+5) (V (p.size:Nat)):=(d.cell (p:=a_ b (g+k*7+5)) t).trans (by have:=n 5 _ rfl;rw[<-this];congr 2;omega);have au:N wr b (g+k*7+6) (.slice K (l_ p.J) J):=(d.cell (p:=a_ b (g+k*7+6)) t).trans (by have:=n 6 _ rfl;rw[<-this];congr 2;omega);have r1:0<=(k:Int):=U;have aF:(k:Int)<l_ ps:=U;by_cases E:k<l_ c;.obtain⟨f,j,rfl,s,aj⟩:=b3 U;obtain⟨q,C⟩:=g_ E;obtain⟨aG,r,F⟩:=aj k q C;obtain⟨L,P,T,Y,rfl⟩:=F.cells;have av:N wr f (j+k*7) q.K:=(d.cell (p:=a_ f (j+k*7)) s).trans (by have:=r 0 _ rfl;rw[<-this];congr 2;omega);have g1:N wr f (j+k*7+1) (d_ q.N):=(d.cell (p:=a_ f (j+k*7+1)) s).trans (by have:=r 1 _ rfl;rw[<-this];congr 2;omega);have aw:N wr f (j+k*7+2) q.lo:=(d.cell (p:=a_ f (j+k*7+2)) s).trans (by have:=r 2 _ rfl;rw[<-this];congr 2;omega);have g3:N wr f (j+k*7+3) q.hi:=(d.cell (p:=a_ f (j+k*7+3)) s).trans (by have:=r 3 _ rfl;rw[<-this];congr 2;omega);have g4:N wr f (j+k*7+4) (.slice L (l_ q.J) P):=(d.cell (p:=a_ f (j+k*7+4)) s).trans (by have:=r 4 _ rfl;rw[<-this];congr 2;omega);have ax:N wr f (j+k*7+5) (V (q.size:Nat)):=(d.cell (p:=a_ f (j+k*7+5)) s).trans (by have:=r 5 _ rfl;rw[<-this];congr 2;omega);have ay:N wr f (j+k*7+6) (.slice T (l_ q.J) Y):=(d.cell (p:=a_ f (j+k*7+6)) s).trans (by have:=r 6 _ rfl;rw[<-this];congr 2;omega);(have ai:Hid (∀W,G wr W->z 76 #[.agg #[p.K,p.N,p.lo,p.hi,.slice H (l_ p.J) I,V (p.size:Nat),.slice K (l_ p.J) J],.agg #[q.K,q.N,q.lo,q.hi,.slice L (l_ q.J) P,V (q.size:Nat),.slice T (l_ q.J) Y]] W λe w'=>e=.returned (gF p q)/\kG W w'):=O λW X=>aA p (gV y) q _ _ W ⟨_,rfl,(D.up d).up X⟩ ⟨_,rfl,(F.up d).up X⟩);have ad:=Uc y C;(have t1:decide (l_ c<=k)=false:=by simp;omega);have aB:f<wr:=qO s d.size;go_wp2_with fail;refine(ai.o _ ?_).mono ?_;(.exact X_ bA _);rintro e az ⟨rfl,ae⟩;have af:Hid (kG w az):=O (((x.o.al _).al _).trans ae);by_cases u:gF p q=0;(.have m:Hid (iD ps c=iD (ps.drop (k+1)) (c.drop (k+1))):=O (by rw[v.o,ad,u];rfl);rw[u];go_wp2;go_roundw;exact⟨k+1,U,U,R,m,af⟩;exact M);.have m:Hid (iD ps c=gF p q):=O (by rw[v.o,ad];unfold lN;rw[C_ u]);have aI:(gF p q !=0)=true:=Q u;go_wp2;go_ret;exact⟨by rw[m.o];rfl,af.o⟩
  .obtain rfl:k=l_ c:=by omega
   have m:Hid (iD ps c=1):=O (by
    rw[v.o,R9];(have:∃a l,ps.drop (l_ c)=a::l:=by rw[Jd Z];exact⟨_,_,rfl⟩);obtain⟨a,l,h⟩:=this
    rw[h,iD])
   (have aC:∀o,kG w (wr.alloc o):=λo=>x.o.al o);go_wp2;go_ret;exact⟨by rw[m.o];rfl,aC _⟩
 .obtain rfl:k=l_ ps:=by omega
  by_cases E:l_ ps<l_ c
  .have m:Hid (iD ps c= -1):=O (by
    rw[v.o,R9];(have:∃a l,c.drop (l_ ps)=a::l:=by rw[Jd E];exact⟨_,_,rfl⟩);obtain⟨a,l,h⟩:=this
    rw[h,iD])
   (have t1:decide (l_ ps<l_ c)=true:=by simp;omega);go_wp2;go_ret;exact⟨by rw[m.o];rfl,x.o⟩
  ·(have ag:l_ ps=l_ c:=by omega);have m:Hid (iD ps c=0):=O (by rw[v.o,R9,ag,R9,iD]);(have t1:decide (l_ ps<l_ c)=false:=by simp;omega);go_wp2;go_ret;exact⟨by rw[m.o];rfl,x.o⟩
def Fz(f:Int):∀l:I_,lN (xM l) f=l.foldr lN f
 |[]=>by simp[xM,lN]
 |a::l=>by
  rw[el_,<-Fz f l,xM];by_cases h:a=0;(.rw[C_ (by simp[h])];simp[lN,h]);.rw[P_ h];simp[lN,h]
def vK(c:Cn):adF c:=by
 induction c using Cn.ind with
 |h c K=>
  intro d u v w M hv;obtain⟨l,rfl,hc⟩:=M;obtain⟨ak,rfl,hd⟩:=hv;obtain⟨L,P,m,s,rfl,_,c1,c2,c3⟩:=hc.form;obtain⟨T,X,n,t,rfl,_,N,R,Z⟩:=hd.form
  have ah:Hid (∀W,kG w W->z 123 #[.slice m (l_ c.J) s,.slice n (l_ d.J) t,.func (.func 76) #[] #[]] W λe w'=>e=.returned (iD c.J d.J)/\kG W w'):=O λW f=>EX c.J d.J K m n s t W ⟨c1,c2,λx=>by
    obtain⟨b,g,e,hb,I⟩:=c3 x;refine⟨b,g,e,qO hb f.below.size,λi p y=>?_⟩;obtain⟨l,A,B⟩:=I i p y
    exact⟨l,λj u C=>(f.below.cell (p:=a_ b (g+7*i+j)) hb).trans (A j u C),B.up f.below⟩⟩ ⟨N,R,λx=>by
    obtain⟨b,g,e,hb,I⟩:=Z x;refine⟨b,g,e,qO hb f.below.size,λi p y=>?_⟩;obtain⟨l,A,B⟩:=I i p y
    exact⟨l,λj u C=>(f.below.cell (p:=a_ b (g+7*i+j)) hb).trans (A j u C),B.up f.below⟩⟩
  have J:gF c d=lN (qx c.size d.size) (lN (iw c.K d.K) (lN (fV c.N d.N) (lN (iw c.lo d.lo) (lN (iw c.hi d.hi) (iD c.J d.J))))):=(by cases c;cases d;rfl);simp only[d_];go_in;go_wp2_with fail;obtain⟨a,k⟩:=e_ ((w.alloc (.cells #[c.K,c.N,c.lo,c.hi,.slice L (l_ c.J) P,V (c.size:Nat),.slice m (l_ c.J) s] 130)).alloc (.cells #[d.K,d.N,d.lo,d.hi,.slice T (l_ d.J) X,V (d.size:Nat),.slice n (l_ d.J) t] 130));(have ai:f_ a.drew w 130 #[c.K,c.N,c.lo,c.hi,.slice L (l_ c.J) P,V (c.size:Nat),.slice m (l_ c.J) s]:=by rw[<-k];exact((f_.new _ _ _).alloc _).drew);(have G:f_ a.drew (w+1) 130 #[d.K,d.N,d.lo,d.hi,.slice T (l_ d.J) X,V (d.size:Nat),.slice n (l_ d.J) t]:=by rw[<-k];exact(f_.newAt _ _ _ S).drew);(have Y:kG w a.drew:=by rw[<-k];exact(((kG.refl _).al _).al _).drew);rw[k];refine em_ 33 k_ k_ ?_;simp only[Vn,eo_,ep_,er_];change wpStill _ _ (World.drew a) (λag=>wpList _ _ _ _ ag (World.drew a)) _ _;generalize World.drew a=D at *;obtain⟨am,an,ao,ap,aq,ar,au⟩:=seven ai;obtain⟨av,q1,q2,q3,aw,ax,ay⟩:=seven G;have aB:=G.lt;have aC:(w:Nat)<D:=U;(repeat (first|still_step|still_call (zW _ _ _)|still_call (zV _ _ _)));refine es_ ?_;have E:Hid (z 61 #[.slice (a_ D 0) 5 5] (D.alloc (.cells #[(qx c.size d.size),(iw c.K d.K),(fV c.N d.N),(iw c.lo d.lo),(iw c.hi d.hi)] 3)) λe w'=>e=.returned (xM [qx c.size d.size,iw c.K d.K,fV c.N d.N,iw c.lo d.lo,iw c.hi d.hi])/\D.alloc (.cells #[(qx c.size d.size),(iw c.K d.K),(fV c.N d.N),(iw c.lo d.lo),(iw c.hi d.hi)] 3)=w'):=O (Ng [qx c.size d.size,iw c.K d.K,fV c.N d.N,iw c.lo d.lo,iw c.hi d.hi] _ _ (S1.lit D _ rfl 3 _ iV _ 5 rfl rfl (by simp[m_])) S);unfold qx at E;go_wp2_with fail;refine E.o.mono ?_;rintro e az ⟨rfl,rfl⟩
  have o:gF c d=lN (xM [iw c.size d.size,iw c.K d.K,fV c.N d.N,iw c.lo d.lo,iw c.hi d.hi]) (iD c.J d.J):=(by
   rw[J,Fz];rfl)
  generalize xM [iw c.size d.size,iw c.K d.K,fV c.N d.N,iw c.lo d.lo,iw c.hi d.hi]=r at *;have F:kG w (D.alloc (.cells #[(iw c.size d.size),(iw c.K d.K),(fV c.N d.N),(iw c.lo d.lo),(iw c.hi d.hi)] 3)):=Y.al _;by_cases q:r=0;(.subst q;have H:gF c d=iD c.J d.J:=o;go_wp2_with fail;refine(ah.o _ F).mono ?_;rintro e aA ⟨rfl,aj⟩;go_wp2;go_ret;exact⟨by rw[H];rfl,F.trans aj⟩);.have hb:(r !=0)=true:=Q q;have H:gF c d=r:=(by rw[o];unfold lN;rw[C_ q]);go_wp2;go_ret;exact⟨by rw[H];rfl,F⟩
def five{c:V_}(h:f_ w g t #[a,b,c,d,e]):N w g 0 a/\N w g 1 b/\N w g 2 c/\N w g 3 d/\N w g 4 e:=⟨h.cell 0,h.cell 1,h.cell 2,h.cell 3,h.cell 4⟩
def vL(c d:Cn)(u v:V_)(w:W_)(A:CV w u c)(D:CV w v d)(hc:c.size<=100000)(hd:d.size<=100000):Y 44 #[u,v] w (gF c d):=by
 obtain⟨p,q,rfl,_⟩:=A.form;obtain⟨r,s,rfl,_⟩:=D.form;(have F:∀W,G w W->z 75 #[.agg (Cs c p q)] W (rF (λk=>k<w) W c):=λW B=>Pn w c _ W A B hc);(have H:∀W,G w W->z 75 #[.agg (Cs d r s)] W (rF (λk=>k<w) W d):=λW B=>Pn w d _ W D B hd);(have V:∀(b f:O_)(W:W_),su W c b->su W d f->z 76 #[.agg b.toArray,.agg f.toArray] W λe w'=>e=.returned (gF c d)/\kG W w':=λb f W K L=>vK c d _ _ W ⟨b,rfl,K⟩ ⟨f,rfl,L⟩);obtain⟨a,t⟩:=e_ ((w.alloc (.cells (Cs c p q) 27)).alloc (.cells (Cs d r s) 27));(have l:f_ a w 27 (Cs c p q):=by rw[<-t];exact(f_.new _ _ _).alloc _);(have m:f_ a (w+1) 27 (Cs d r s):=by rw[<-t];exact f_.newAt _ _ _ S);have P:G w a:=(by rw[<-t];exact X_ bA _);go_in;go_wp2_with fail;have T:N a w 0 c.K:=l.cell 0;have X:N a w 1 (d_ c.N):=l.cell 1;have Z:N a w 2 c.lo:=l.cell 2;have J:N a w 3 c.hi:=l.cell 3;have M:N a w 4 (.slice p (l_ c.J) q):=l.cell 4;have O:N a (w+1) 0 d.K:=m.cell 0;have q1:N a (w+1) 1 (d_ d.N):=m.cell 1;have q2:N a (w+1) 2 d.lo:=m.cell 2;have q3:N a (w+1) 3 d.hi:=m.cell 3;have Q:N a (w+1) 4 (.slice r (l_ d.J) s):=m.cell 4;have x:G w a.drew:=(P.drew)
 go_region_with
  (first|((go_at_call 75;with_reducible refine(F _ x).mono ?_);rintro e i ⟨b,rfl,n,g⟩;have C:su i c b/\G w i:=⟨n _ (λ_ _=>rfl) (gH _),b_ x g⟩;obtain⟨s0,s1,s2,s3,s4⟩:=five (m.drew.below g);clear n g T X Z J M)|((go_at_call 75;with_reducible refine(H _ x).mono ?_);rintro e j ⟨f,rfl,o,h⟩;have E:su j d f/\G w j:=⟨o _ (λ_ _=>rfl) (gH _),b_ x h⟩;obtain⟨s0,s1,s2,s3,s4⟩:=five (l.drew.below h);clear o h O q1 q2 q3 Q)|((go_at_call 75;with_reducible refine(H _ C.2).mono ?_);rintro e j ⟨f,rfl,o,h⟩;have y:su j c b/\su j d f/\G w j:=⟨C.1.up h,o _ (λ_ _=>rfl) (gH _),b_ C.2 h⟩;clear o h)|((go_at_call 75;with_reducible refine(F _ E.2).mono ?_);rintro e i ⟨b,rfl,n,g⟩;have y:su i c b/\su i d f/\G w i:=⟨n _ (λ_ _=>rfl) (gH _),E.1.up g,b_ E.2 g⟩;clear n g)|((go_at_call 76;with_reducible refine(V _ _ _ y.1 y.2.1).mono ?_);rintro e R ⟨rfl,I⟩;have U:G w R:=(b_ y.2.2 I.below);clear I))
 all_goals go_wp2;go_ret;exact⟨rfl,U⟩
def Ud(a:St)(w:W_):z 168 #[a] w λe w'=>e=.returned false/\w=w':=by go_in;go_wp2;go_ret;exact⟨rfl,rfl⟩
def bytesLess_eq:∀a b:St,Op.bytesLess a b=decide (fV a b<0)
 |[],[]=>by simp[Op.bytesLess,fV]
 |[],_::_=>by simp[Op.bytesLess,fV]
 |_::_,[]=>by simp[Op.bytesLess,fV]
 |x::l,y::m=>by
  rw[Op.bytesLess,bytesLess_eq l m,fV];by_cases c:x<y;(.simp[c]);.by_cases d:y<x;(·(have:x≠y:=by rintro rfl;exact absurd d S);simp[c,d,this]);.have e:x=y:=UInt8.le_antisymm (UInt8.not_lt.1 d) (UInt8.not_lt.1 c);subst e;simp
def xO(a b:St)(w:W_):z 104 #[a,b] w λe w'=>e=.returned (fV a b)/\w=w':=by have hl:=bytesLess_eq a b;have d:=qX a b;(have c:(a==b)=decide (fV a b=0):=by rw[Zd,YX,hj_,uh]);obtain⟨r,f⟩:=e_ (fV a b);rw[f]at hl d c ⊢;clear f;rcases d with rfl|rfl|rfl;(case' inr.inl=>have g:a=b:=Q c;subst g);(case' inr.inr=>have h:(!a==b)=true:=by rw[c];rfl);all_goals simp at hl;clear c;go_in;go_wp2_with (first|(go_at_call 168;with_reducible refine(Ud _ _).mono ?_;rintro e i ⟨rfl,rfl⟩));go_ret;exact⟨rfl,rfl⟩
def Ue{ps a:List St}{p q:St}(b:ps[k]?=some p)(c:a[k]?=some q):iA (ps.drop k) (a.drop k)=lN (fV p q) (iA (ps.drop (k+1)) (a.drop (k+1))):=by have d:=(jv.1 b).1;have e:=(jv.1 c).1;rw[Jd d,Jd e,(jv.1 b).2,(jv.1 c).2,iA]
def JM(ps c:List St)(A B:J_)(ca cb:Nat)(w:W_)(s:jQ w (.slice A (l_ ps) ca) ps)(hb:jQ w (.slice B (l_ c) cb) c)(hl:l_ ps<=1000000)(hl2:l_ c<=1000000):z 64 #[.slice A (l_ ps) ca,.slice B (l_ c) cb] w λe w'=>e=.returned (iA ps c)/\w'=w:=by
 obtain⟨P,T,j,_,_,E⟩:=S1.form s;injection j with m _ n;subst m n;obtain⟨B',d',j,_,_,D⟩:=S1.form hb;injection j with m _ n;subst m n;clear s hb;go_in;go_wp2;go_loop [11] (λi=>∃k:Nat,k<=l_ ps/\k<=l_ c/\i=.int .i64 (k:Int)/\Hid (iA ps c=iA (ps.drop k) (c.drop k))) (λi=>l_ ps-(intOf i).toNat);exact⟨0,gZ _,gZ _,rfl,O S⟩;obtain⟨k,W,J,rfl,g⟩:=hrel;by_cases u:k<l_ ps
 .obtain⟨b,K,rfl,Y,y⟩:=E U
  obtain⟨p,t⟩:=g_ u;have X:N w b (K+k) p:=y k p t;have r1:0<=(k:Int):=U;have Z:(k:Int)<l_ ps:=U;clear y;by_cases r:k<l_ c;.obtain⟨F,L,rfl,ae,C⟩:=D U;obtain⟨q,o⟩:=g_ r;have G:N w F (L+k) q:=C k q o;have v:=(Ue t o);(have t1:decide (l_ c<=k)=false:=by simp;omega);clear C o;by_cases f:fV p q=0;(.have d:Hid (iA ps c=iA (ps.drop (k+1)) (c.drop (k+1))):=O (by rw[g.o,v,f];rfl);(have H:∀w,z 104 #[p,q] w λe w'=>e=.returned (V 0)/\w=w':=λw=>by rw[<-f];exact xO p q w);clear f;go_wp2_with (go_at_call 104;with_reducible refine(H _).mono ?_;rintro e I ⟨rfl,rfl⟩);go_round;exact⟨k+1,U,U,R,d⟩;exact M);.have d:Hid (iA ps c=fV p q):=O (by rw[g.o,v];unfold lN;rw[C_ f]);have ad:(fV p q !=0)=true:=Q f;clear f;go_wp2_with (go_at_call 104;with_reducible refine(xO p q _).mono ?_;rintro e I ⟨rfl,rfl⟩);go_ret;exact⟨by rw[d.o];rfl,rfl⟩
  .obtain rfl:k=l_ c:=by omega
   have d:Hid (iA ps c=1):=O (by
    rw[g.o,R9];(have:∃a l,ps.drop (l_ c)=a::l:=by rw[Jd u];exact⟨_,_,rfl⟩);obtain⟨a,l,h⟩:=this
    rw[h,iA])
   go_wp2;go_ret;exact⟨by rw[d.o];rfl,rfl⟩
 .obtain rfl:k=l_ ps:=by omega
  by_cases r:l_ ps<l_ c
  .have d:Hid (iA ps c= -1):=O (by
    rw[g.o,R9];(have:∃a l,c.drop (l_ ps)=a::l:=by rw[Jd r];exact⟨_,_,rfl⟩);obtain⟨a,l,h⟩:=this
    rw[h,iA])
   (have t1:decide (l_ ps<l_ c)=true:=by simp;omega);go_wp2;go_ret;exact⟨by rw[d.o];rfl,rfl⟩
  ·(have x:l_ ps=l_ c:=by omega);have d:Hid (iA ps c=0):=O (by rw[g.o,R9,x,R9,iA]);(have t1:decide (l_ ps<l_ c)=false:=by simp;omega);clear x;go_wp2;go_ret;exact⟨by rw[d.o];rfl,rfl⟩
abbrev Am(Q:Nat->Prop)(w:W_)(g:Nat):Type:={p:List V_×Cn // A8 Q (some g) w p.2 p.1}
def Am.enc{Q:Nat->Prop}(p:Am Q w g):O_:=p.1.1
def Am.c{Q:Nat->Prop}(p:Am Q w g):Cn:=p.1.2
def Am.len{Q:Nat->Prop}(p:Am Q w g):l_ p.enc=7:=(p.2.rd).len
def Am.one{Q:Nat->Prop}(p:Am Q w g):∀u∈p.enc,u.oneCell'=true:=(p.2.rd).one
def A8.nil(Q:Nat->Prop)(row:Option Nat)(w:W_):A8 Q row w Cn.nil [.int .i64 0,d_ [],.int .i64 0,.int .i64 0,(),.int .i64 (1:Nat),()]:=by refine⟨λ_=>False,λk h=>h.elim,λW _ _=>?_⟩;unfold Cn.nil su;refine⟨none,0,none,0,rfl,?_,gZ _,gZ _,λh=>absurd h (fr_ _)⟩;unfold nV;exact⟨none,0,rfl,gZ _,gZ _,λh=>absurd h (fr_ _)⟩
instance Am.inh(Q:Nat->Prop)(w:W_)(g:Nat):Inhabited (Am Q w g):=⟨⟨([.int .i64 0,d_ [],.int .i64 0,.int .i64 0,(),.int .i64 (1:Nat),()],Cn.nil),A8.nil Q (some g) w⟩⟩
def uJ[Inhabited α](enc:α->O_)(k:Nat)(w:W_)(g m:Nat)(d:Array α)(os:Array Obj)(_:g<w):w.grownBy (sortWorldK enc k w g 0 m d os) (some g):=by refine⟨rfl,rfl,rfl,?_,?_⟩;(.simp[sortWorldK,putRowK]);.intro i hi a;unfold sortWorldK;rw[hi_ _ _ (by simp[putRowK];exact hi)];show((w.heap.modify g (onCells (putCells id 0 (flatK enc k d))))[i]?)=_;rw[gr_,C_ (λe=>a (by rw[e]))]
def Qf:∀args w,(callFunc 76 args).run prog w=.ok (.enter 76 args) w:=enters_of func76 k_ rfl
def Am.swo(Q:Nat->Prop)(w:W_)(g:Nat):SWO (ltOf λp q:Am Q w g=>gF p.c q.c):=by(have l:∀x y:Am Q w g,(ltOf (λp q:Am Q w g=>gF p.c q.c) x y=true↔EK x.c y.c)/\(ltOf (λp q:Am Q w g=>gF p.c q.c) x y=false↔¬EK x.c y.c):=λx y=>by unfold ltOf EK;exact⟨hj_,hk_⟩);refine⟨λx=>(l x x).2.2 (uW _),λx y z b d=>(l x z).1.2 (um ((l x y).1.1 b) ((l y z).1.1 d)),λx y z b d=>?_⟩;have h:=(l x y).2.1 b;have f:=(l y z).2.1 d;(refine(l x z).2.2 λe=>?_);by_cases a:gF x.c y.c=0;(.rw[uj.1 a]at e;exact f e);.exact f (um (zL h a) e)
def aae(Q:Nat->Prop)(w:W_)(g size:Nat)(b:g<w):CmpLays prog 76 #[] (Am.enc (Q:=Q) (w:=w) (g:=g)) 7 (λp q=>gF p.c q.c) g 0 size w:=by intro m os d _ x y;have a:=uJ (Am.enc (Q:=Q) (w:=w) (g:=g)) 7 w g m d os b;refine(vK x.c y.c _ _ _ ⟨x.enc,rfl,(x.2.kept a).rd⟩ ⟨y.enc,rfl,(y.2.kept a).rd⟩).mono ?_;rintro e w' ⟨rfl,q,f,rfl⟩;exact⟨rfl,q,f,rfl⟩
def Xy(Q:Nat->Prop)(base:Nat)(w:W_)(v:V_)(ps:List (O_×Cn))(e:Ending)(w':W_):Prop:=e=.returned (.tuple #[])/\∃p,p.Perm ps/\(p.map (·.2)).Pairwise (λa b=>¬EK b a)/\jK Q base w' v p/\w.grownBy w' v.ownBlock
def Xz(Q:Nat->Prop)(base:Nat)(v:V_)(ps:List (O_×Cn))(w:W_)(h:jK Q base w v ps)(M:l_ ps<=1000000):z 120 #[v,.func (.func 76) #[] #[]] w (Xy Q base w v ps):=by rcases h.1.2 with⟨rfl,r⟩|⟨g,cap,J,rfl,hb,s,X,Z,D,G⟩;(.have:ps=[]:=Jg r;subst this;refine(ha_ {Tryz.ady with} none 0 (.func (.func 76) #[] #[]) w).mono ?_;rintro e w' ⟨rfl,rfl⟩;exact⟨rfl,[],hl_ _,List.Pairwise.nil,h,R8 _ _⟩);.have a:g<w:=(yZ.1 s).1;(have⟨d,c⟩:∃d:List (Am Q w g),d.map (·.1)=ps:=by have t:∀p∈ps,A8 Q (some g) w p.2 p.1:=h.2;refine⟨ps.attach.map λp=>(⟨p.1,t p.1 p.2⟩:Am Q w g),?_⟩;rw[Vr];exact hm_ ps);(have b:l_ d=l_ ps:=by rw[<-c,qm]);(have F:d.flatMap Am.enc=ps.flatMap (·.1):=by rw[<-c,List.flatMap_map];rfl);(have m:w.ownsRow base 130 7 (.slice g (l_ ps) cap) (l_ d) (d.flatMap Am.enc):=by rw[b,F];exact h.1);have u:=xu (enc:=Am.enc) (k:=7) (λx=>Am.len x) m;have o:=AnyQ.slices_SortFunc Tryz.ady 7 isAgg130 sizeOf130 (Am.enc (Q:=Q) (w:=w) (g:=g)) (λx=>Am.len x) (λx=>Am.one x) (λp q=>gF p.c q.c) (Am.swo Q w g) 76 #[] g 0 cap d.toArray w Qf (aae Q w g _ a) u a (by simp;omega);rw[show d.toArray.size=l_ ps by simp[b]]at o;refine o.mono ?_;rintro e w' ⟨rfl,d',n,os,f,H,rfl⟩;have l:d'.size=l_ d:=Q_ f.1;have⟨y,I⟩:=ownsRow_sorted (enc:=Am.enc) (k:=7) (d':=d') (λx=>Am.len x) l m n os;(have W:d'.toList.Perm d:=by have:=f.2.2;have A:List.take (l_ ps) d'.toList=d'.toList:=J9 (by simp[l,b]);have B:List.take (l_ ps) d=d:=J9 U;simpa[A,B]using this);refine⟨rfl,d'.toList.map (·.1),?_,?_,⟨?_,?_⟩,I⟩;(.have:=W.map (λp:Am Q w g=>p.1);rwa[c]at this);(.rw[Vr,by_,R7];intro i j hi C K;have L:i<d'.size:=Q_ hi;have P:j<d'.size:=Q_ C;have:=H i j (gZ _) K U;rw[R5 d' i L,R5 d' j P]at this;(have E:¬EK (d'[j]).c (d'[i]).c:=by unfold ltOf at this;exact hn_ this);rwa[ho_,ho_]);(.rwa[qm,List.flatMap_map]);.intro p T;obtain⟨q,_,rfl⟩:=pq.1 T;exact q.2.kept (uJ _ 7 w g n d' os a)
def Lh(c d:Cn)(u v:V_)(w:W_)(p:TV w u c)(B:TV w v d):z 122 #[u,v] w λe w'=>e=.returned (.bool (decide (gF c d=0)))/\kG w w':=by obtain⟨t,rfl,H⟩:=p;obtain⟨x,rfl,A⟩:=B;obtain⟨f,g,h,l,rfl⟩:=H.cells;obtain⟨i,j,k,m,rfl⟩:=A.cells;simp only[d_];go_in;obtain⟨a,n⟩:=e_ ((w.alloc (.cells #[c.K,c.N,c.lo,c.hi,.slice f (l_ c.J) g,V (c.size:Nat),.slice h (l_ c.J) l] 130)).alloc (.cells #[d.K,d.N,d.lo,d.hi,.slice i (l_ d.J) j,V (d.size:Nat),.slice k (l_ d.J) m] 130));(have b:kG w a:=by rw[<-n];exact((kG.refl _).al _).al _);have s:Hid (z 76 #[.agg #[c.K,c.N,c.lo,c.hi,.slice f (l_ c.J) g,V (c.size:Nat),.slice h (l_ c.J) l],.agg #[d.K,d.N,d.lo,d.hi,.slice i (l_ d.J) j,V (d.size:Nat),.slice k (l_ d.J) m]] a λe w'=>e=.returned (gF c d)/\kG a w'):=O (vK c d _ _ a ⟨_,rfl,H.up b.below⟩ ⟨_,rfl,A.up b.below⟩);subst n;generalize gF c d=r at *;go_wp2_with fail;refine s.o.mono ?_;rintro e y ⟨rfl,o⟩;have q:=(b.trans o);clear o;go_wp2;go_ret;exact⟨rfl,q⟩
def dedup:List Cn->List Cn
 |[]=>[]
 |x::xs=>x::go x xs
where go (p:Cn):List Cn->List Cn
 |[]=>[]
 |y::ys=>if gF y p=0 then go y ys else y::go y ys
def JN(x y:Cn):∀(l:List Cn)(p:Cn),dedup.go p (l++[x,y])=dedup.go p (l++[x])++(if gF y x=0 then[] else[y]):=by
 intro l
 induction l with
 |nil=>intro p;by_cases b:gF x p=0<;>by_cases c:gF y x=0<;>simp[dedup.go,b,c]
 |cons a l d=>intro p;by_cases h:gF a p=0<;>simp[dedup.go,h,d]
def Uf(l:List Cn)(x y:Cn):dedup (l++[x,y])=dedup (l++[x])++(if gF y x=0 then[] else[y]):=by
 cases l with
 |nil=>by_cases b:gF y x=0<;>simp[dedup,dedup.go,b]
 |cons a l=>simp[dedup,JN]
def aaf{l:List α}{x y:α}(b:l[k]?=some x)(c:l[k+1]?=some y):l.take (k+2)=l.take k++[x,y]/\l.take (k+1)=l.take k++[x]:=by(have a:l.take (k+1)=l.take k++[x]:=by rw[DL,b];rfl);refine⟨?_,a⟩;rw[show k+2=(k+1)+1 from rfl,DL,a,c];simp
def GJ{x y:Cn}(a:l[k]?=some x)(b:l[k+1]?=some y):dedup (l.take (k+2))=dedup (l.take (k+1))++(if gF y x=0 then[] else[y]):=by have⟨c,d⟩:=aaf a b;rw[c,d,Uf]
theorem f_.setCells:∀(V:O_)(o:Nat)(w:W_)(a:A_),f_ w g t a->o+l_ V<=a.size->∃b,f_ (w.setCells g o V) g t b/\b.size=a.size/\b.toList=a.toList.take o++V++a.toList.drop (o+l_ V):=by
 intro V
 induction V with
 |nil=>intro o w a h _;exact⟨a,h,rfl,S⟩
 |cons v V c=>
  intro o w a h hl;simp at hl;have⟨d,e,f,i⟩:=c (o+1) (w.setCell (a_ g o) v) (a.setIfInBounds o v) (h.iK o v) (by grind);refine⟨d,e,Q f,?_⟩;rw[i];(have j:o<l_ a.toList:=by grind);(have k:(a.toList.set o v).take (o+1)=a.toList.take o++[v]:=by rw[DL,List.take_set_of_le (gH o),List.getElem?_set_self j];rfl);(have l:(a.toList.set o v).drop (o+1+l_ V)=a.toList.drop (o+l_ (v::V)):=by rw[List.drop_set_of_lt U];grind);simp only[Array.toList_setIfInBounds];rw[k,l];simp
def kg(g:Nat):∀(V:O_)(o:Nat)(w:W_),w.grownBy (w.setCells g o V) (some g):=by
 intro V
 induction V with
 |nil=>intro o w;exact R8 _ _
 |cons v V a=>intro o w;exact(gT w (a_ g o) v).trans (a (o+1) _)
def Qg:∀(l:List α),(∀p∈l,l_ (f p)=7)->l_ (l.flatMap f)=7*l_ l:=by
 intro l
 induction l with
 |nil=>intro _;rfl
 |cons a l b=>
  intro h;have c:=h a (gf_);(have d:=b λp e=>h p (YZ _ e));simp only[OD,ny,p8,c,d];omega
def Li:∀(l:List α)(i:Nat),(∀p∈l,l_ (f p)=7)->i<=l_ l->(l.flatMap f).take (7*i)=(l.take i).flatMap f:=by
 intro l
 induction l with
 |nil=>intro i _ _;simp
 |cons a l b=>
  intro i h hi;have e:=h a (gf_)
  cases i with
  |zero=>simp
  |succ i=>
   have c:=b i (λp d=>h p (YZ _ d)) (Q hi);rw[OD,Vn,OD,<-c,show 7*(i+1)=l_ (f a)+7*i by omega,hp_]
def Lj:∀(l:List α)(i:Nat),(∀p∈l,l_ (f p)=7)->i<=l_ l->(l.flatMap f).drop (7*i)=(l.drop i).flatMap f:=by
 intro l
 induction l with
 |nil=>intro i _ _;simp
 |cons a l b=>
  intro i h hi;have e:=h a (gf_)
  cases i with
  |zero=>simp
  |succ i=>
   have c:=b i (λp d=>h p (YZ _ d)) (Q hi);rw[OD,ep_,<-c,show 7*(i+1)=l_ (f a)+7*i by omega,List.drop_length_add_append]
theorem aag(l:List α)(i:Nat)(p:α)(h:∀p∈l,l_ (f p)=7)(a:l_ (f p)=7)(hi:i<l_ l):(l.set i p).flatMap f=(l.flatMap f).take (7*i)++f p++(l.flatMap f).drop (7*i+7):=by rw[Li l i h U,show 7*i+7=7*(i+1) by omega,Lj l (i+1) h U,List.set_eq_take_append_cons_drop,P_ hi];grind
theorem jK.put{Q:Nat->Prop}(h:jK Q base w (.slice g (l_ ps) cap) ps)(hi:i<l_ ps){c:Cn}{b:O_}(H:A8 Q (some g) w c b):jK Q base (w.setCells g (7*i) b) (.slice g (l_ ps) cap) (ps.set i (b,c)):=by(have k:∀p∈ps,l_ p.1=7:=λp a=>(h.2 p a).rd.len);have d:l_ b=7:=H.rd.len;have j:=kg g b (7*i) w;rcases h.1.2 with⟨e,_⟩|⟨x,B,f,e,hb,m,n,o,q,r⟩;(.cases e);.cases e;have⟨v,s,y,t⟩:=f_.setCells b (7*i) w f m U;refine⟨⟨?_,.inr ⟨g,cap,v,by rw[List.length_set],hb,s,Q_ n,o,U,?_⟩⟩,λp a=>?_⟩;(.rw[Qg _ λp a=>?_];(.omega);grind);(.rw[aag ps i (b,c) k d hi,<-r,t,List.length_set,d];have A:l_ f.toList=cap*7:=Q_ q;rw[Kg,List.take_append,List.take_append,cu_,cu_,List.drop_take,Kg];simp only[wE];have M:min (7*i) (l_ f.toList)=7*i:=U;have u:min (l_ ps*7) (7*i)=7*i:=U;have z:min (7*i) (l_ ps*7)=7*i:=U;rw[M,u,z,J9 (l:=b) U,d];grind);.rcases List.mem_or_eq_of_mem_set a with a|rfl;(.exact(h.2 p a).kept j);.exact H.kept j
theorem jK.at{Q:Nat->Prop}(h:jK Q base w (.slice g n cap) ps)(x:n=l_ ps)(b:ps[i]?=some p):(∀(j:Nat) u,p.1[j]?=some u->N w g (7*i+j) u)/\∀o,w.frozen? (a_ g o)=false:=by(have d:∀p∈ps,l_ p.1=7:=λp b=>(h.2 p b).rd.len);obtain⟨c,rfl⟩:=jv.1 b;rcases h.1.2 with⟨e,_⟩|⟨y,E,q,e,hb,f,C,A,B,r⟩;(.cases e);.cases e;refine⟨λj u k=>?_,λo=>?_⟩;(·(have v:j<7:=by grind);(have a:(ps.flatMap (·.1))[7*i+j]?=some u:=by have s:=Lj ps i d U;(have t:((ps.flatMap (·.1)).drop (7*i))[j]?=some u:=by rw[s,Jd c,OD,cz_ (by grind)];grind);grind);(have m:q[7*i+j]?=some u:=by grind);have⟨q1,q2⟩:=yZ.1 m;simp[World.cell?,f,m]);.simp[World.frozen?,f]
def kG.grown(h:kG w w')(r:Option Nat):w.grownBy w' r:=by have hb:=h.below;exact⟨hb.os,hb.tape,hb.output,hb.size,λk a _=>hb.block k a⟩
def jK.seven{Q:Nat->Prop}(h:jK Q base w (.slice g n cap) ps)(c:n=l_ ps)(a:ps[i]?=some p):∃A C B cB,p.1=[.int .i64 p.2.K,d_ p.2.N,.int .i64 p.2.lo,.int .i64 p.2.hi,.slice A (l_ p.2.J) C,.int .i64 (p.2.size:Nat),.slice B (l_ p.2.J) cB]/\su w p.2 p.1/\ N w g (i*7) p.2.K/\N w g (i*7+1) (d_ p.2.N)/\N w g (i*7+2) p.2.lo/\N w g (i*7+3) p.2.hi/\ N w g (i*7+4) (.slice A (l_ p.2.J) C)/\N w g (i*7+5) (V (p.2.size:Nat))/\N w g (i*7+6) (.slice B (l_ p.2.J) cB):=by have b:=(h.2 p (gV a)).rd;have⟨A,C,B,cB,e⟩:=b.cells;have H:=(h.at c a).1;rw[e]at H;refine⟨A,C,B,cB,e,b,?_,?_,?_,?_,?_,?_,?_⟩;(.rw[OI];exact H 0 _ rfl);(.rw[OI];exact H 1 _ rfl);(.rw[OI];exact H 2 _ rfl);(.rw[OI];exact H 3 _ rfl);(.rw[OI];exact H 4 _ rfl);(.rw[OI];exact H 5 _ rfl);.rw[OI];exact H 6 _ rfl
def Dk(Q:Nat->Prop)(base:Nat)(w:W_)(v:V_)(ps:List (O_×Cn))(e:Ending)(w':W_):Prop:=∃v' p,e=.returned v'/\p.map (·.2)=dedup (ps.map (·.2))/\jK Q base w' v' p/\w.grownBy w' v.ownBlock/\v'.ownBlock=v.ownBlock
def Eh:∀(l:List Cn),l_ l<2->dedup l=l
 |[],_=>rfl
 |[_],_=>rfl
 |_::_::_,h=>by simp at h;omega
def XB{r:List (O_×Cn)}{M c:Nat}{x y:O_×Cn}(hl:l_ r=l_ ps)(H:r.drop c=ps.drop c)(d:ps[c]?=some x)(a:ps[c+1]?=some y)(i:M<c+1)(e:(r.take M).map (·.2)=dedup ((ps.map (·.2)).take (c+1))):r[c]?=some x/\r[c+1]?=some y/\r.drop (c+1)=ps.drop (c+1)/\(gF y.2 x.2=0->(r.take M).map (·.2)=dedup ((ps.map (·.2)).take (c+2)))/\ (¬gF y.2 x.2=0->l_ (r.set M y)=l_ ps/\(r.set M y).drop (c+1)=ps.drop (c+1)/\((r.set M y).take (M+1)).map (·.2)=dedup ((ps.map (·.2)).take (c+2))):=by(have g:∀j,r[c+j]?=ps[c+j]? :=λj=>by rw[<-hq_,H,hq_]);(have f:r.drop (c+1)=ps.drop (c+1):=by rw[<-List.drop_drop,H,List.drop_drop]);have h:dedup ((ps.map (·.2)).take (c+2))=dedup ((ps.map (·.2)).take (c+1))++(if gF y.2 x.2=0 then[] else[y.2]):=GJ (by simp[d]) (by simp[a]);have k:=(jv.1 a).1;refine⟨(g 0).trans d,(g 1).trans a,f,λb=>by rw[h,P_ b,e];simp,λb=>⟨by simp[hl],?_,?_⟩⟩;(.rw[List.drop_set_of_lt i,f]);.rw[h,C_ b,<-e,DL,List.take_set_of_le (gH M),List.getElem?_set_self U];simp
def jK.aee{Q:Nat->Prop}(h:jK Q base w (.slice g n cap) ps)(c:n=l_ ps)(d:o<n*7):(w.cell? (a_ g o)).isSome=true:=by rcases h.1.2 with⟨e,_⟩|⟨f,m,b,e,hb,a,l,i,j,k⟩;(.cases e);.cases e;have:o<b.size:=U;simp[World.cell?,a,this]
def jK.cleared{Q:Nat->Prop}(h:jK Q base w (.slice g n cap) ps)(t:n=l_ ps)(hi:i<=l_ ps)(V:O_)(y:l_ V=(l_ ps-i)*7):jK Q base (w.setCells g (i*7) V) (.slice g i cap) (ps.take i):=by(have f:∀p∈ps,l_ p.1=7:=λp a=>(h.2 p a).rd.len);(have c:l_ (ps.take i)=i:=by simp;omega);have r:=kg g V (i*7) w;rcases h.1.2 with⟨e,_⟩|⟨u,B,d,e,hb,j,A,k,l,m⟩;(.cases e);.cases e;have b:=Li ps i f hi;have⟨s,o,v,q⟩:=f_.setCells V (i*7) w d j U;refine⟨⟨?_,.inr ⟨g,cap,s,by rw[c],hb,o,U,k,U,?_⟩⟩,λp a=>(h.2 p (R4 a)).kept r⟩;(.rw[<-b,wE,Qg ps f];omega);.have x:l_ d.toList=cap*7:=Q_ l;rw[c,<-b,<-m,cu_,q,Kg,ih_ (by rw[wE];omega),cu_];congr 1;omega
def zT:A_:= #[V 0,x_,V 0,V 0,(),V 0,()]
def aef(n:Nat):∀v∈(Builtin.zeroCells zT n).toList,v.oneCell'=true:=by intro v h;simp only[Builtin.zeroCells,Array.toList_map,pq]at h;obtain⟨i,_,rfl⟩:=h;have a:i % zT.size<7:=Nat.mod_lt _ D;generalize i % zT.size=r at a;obtain rfl|rfl|rfl|rfl|rfl|rfl|rfl:r=0\/r=1\/r=2\/r=3\/r=4\/r=5\/r=6:=U;all_goals rfl
def aah(n:Nat):l_ (Builtin.zeroCells zT n).toList=n*7:=by simp[Builtin.zeroCells,zT]
def aeg(w:W_)(b:T_)(g o n c:Nat)(d:0<n)(h:∀j,j<n*7->(w.cell? (a_ g (o+j))).isSome=true)(H:∀j,w.frozen? (a_ g j)=false):(Builtin.clear_ #[128] b #[.slice (a_ g o) n c]).run prog w=.ok (.tuple #[]) (w.setCells g o (Builtin.zeroCells zT n).toList):=by have a:=run_storeCells_cells (P:=prog) g o (Builtin.zeroCells zT n).toList 0 w (by rw[aah];simpa using h) (λj _=>H _) (aef n);simp only[ej_]at a;have v:=zeroValue130;obtain⟨m,rfl⟩:∃m,n=m+1:=⟨n-1,U⟩;have e:(Value.agg #[V 0,x_,V 0,V 0,(),V 0,()]).cells=zT:=rfl;simp[Builtin.clear_,run_underlying underlying128,v,e,a]
def Nh(Q:Nat->Prop)(base:Nat)(v:V_)(ps:List (O_×Cn))(w:W_)(h:jK Q base w v ps)(bF:l_ ps<=1000000):z 121 #[v,.func (.func 122) #[] #[]] w (Dk Q base w v ps):=by
 by_cases aS:l_ ps<2;·(obtain⟨A,cap,rfl⟩:∃A cap,v=.slice A (l_ ps) cap:=by rcases h.1.2 with⟨rfl,am⟩|⟨g,cap,aI,rfl,_⟩;(.exact⟨none,0,by rw[am]⟩);.exact⟨_,_,rfl⟩);have H:=O h;have t2:(l_ ps:Int)<2:=U;go_in;go_wp2;go_ret;exact⟨_,ps,rfl,(Eh _ (Q_ aS)).symm,H.o,R8 _ _,rfl⟩
 .obtain⟨g,cap,rfl⟩:∃g cap,v=.slice (a_ g 0) (l_ ps) cap:=by
   rcases h.1.2 with⟨rfl,am⟩|⟨g,cap,aI,rfl,_⟩;(.exact absurd am U);.exact⟨_,_,rfl⟩
  have H:=O h;(have bG:l_ ps<=cap:=by rcases h.1.2 with⟨e,_⟩|⟨a8,bH,aI,e,_,_,aT,_⟩;(.cases e);.cases e;exact aT);have t2:¬(l_ ps:Int)<2:=U;go_in;go_wp2;go_loopw [5] (λi wr=>∃m:Nat,1<=m/\m<=l_ ps/\i=.int .i64 (m:Int)/\Hid (dedup ((ps.map (·.2)).take m)=(ps.map (·.2)).take m)/\Hid (kG w wr)) (λi _=>l_ ps-(intOf i).toNat);refine⟨1,U,U,rfl,O (Eh _ ?_),O (kG.refl _)⟩;simp;omega;obtain⟨m,bv,a9,rfl,C,r⟩:=hrel;obtain⟨k,aJ⟩:∃k,k+1=m:=⟨m-1,U⟩;by_cases aK:m<l_ ps
  .obtain⟨p,aF⟩:∃p,ps[k]?=some p:=⟨_,r9 U⟩
   obtain⟨q,an⟩:=g_ aK;have l:jK Q base wr.drew (.slice (a_ g 0) (l_ ps) cap) ps:=⟨H.o.1.kept (r.o.drew.grown none) (.inr (by simp[Value.ownBlock])),λx s=>(H.o.2 x s).kept (r.o.drew.grown _)⟩;have aL:kG w wr.drew:=r.o.drew;obtain⟨ao,c1,ay,ap,T,u,ac,W,ad,ae,af,ag,ah⟩:=l.seven rfl aF;obtain⟨aq,c2,az,ar,X,B,E,q1,q2,q3,F,I,K⟩:=l.seven rfl an;rw[T]at u;rw[X]at B;have aG:Hid (z 122 #[.agg #[q.2.K,q.2.N,q.2.lo,q.2.hi,.slice aq (l_ q.2.J) c2,V (q.2.size:Nat),.slice az (l_ q.2.J) ar],.agg #[p.2.K,p.2.N,p.2.lo,p.2.hi,.slice ao (l_ p.2.J) c1,V (p.2.size:Nat),.slice ay (l_ p.2.J) ap]] wr.drew λe w'=>e=.returned (.bool (decide (gF q.2 p.2=0)))/\kG wr.drew w'):=O (Lh q.2 p.2 _ _ wr.drew ⟨_,rfl,B⟩ ⟨_,rfl,u⟩);have aj:dedup ((ps.map (·.2)).take (m+1))=dedup ((ps.map (·.2)).take m)++(if gF q.2 p.2=0 then[] else[q.2]):=(by subst aJ;exact GJ (by simp[aF]) (by simp[an]));have Z:=O l;simp only[d_]at W q1;have a1:(ps.map (·.2)).take (m+1)=(ps.map (·.2)).take m++[q.2]:=(by rw[DL];simp[an]);have r1:(m:Int)-1=(k:Int):=U;have aU:IntKind.i64.wrap (k:Int)=(k:Int):=WA _ U;have aV:0<=(m:Int):=U;have aW:(m:Int)<l_ ps:=U;have aX:(k:Int)<l_ ps:=U;have aY:0<=(k:Int):=U;go_wp2;refine em_ 10 k_ k_ ?_;simp only[Vn,eo_,ep_,er_];change wpStill _ _ (World.drew wr) (λau=>wpList _ _ _ _ au (World.drew wr)) _ _;generalize World.drew wr=D at *;(repeat still_step);refine es_ ?_;go_wp2_with fail;refine aG.o.mono ?_;rintro e av ⟨rfl,aM⟩;have N:Hid (kG w av):=O (aL.trans aM);by_cases c:gF q.2 p.2=0
   .have aC:Hid (dedup ((ps.map (·.2)).take (m+1))=(ps.map (·.2)).take m):=O (by rw[aj,P_ c,C.o];simp)
    rw[show decide (gF q.2 p.2=0)=true from Q_ c];have aN:jK Q base av (.slice (a_ g 0) (l_ ps) cap) ps/\w.grownBy av (some g):=⟨⟨H.o.1.kept (N.o.grown none) (.inr (by simp[Value.ownBlock])),λx s=>(H.o.2 x s).kept (N.o.grown _)⟩,N.o.grown _⟩;have bw:¬cap=m:=U;go_wp2;go_loopw [5,7] (λi j wr=>∃(M a:Nat)(G:List (O_×Cn)),i=.int .i64 (M:Int)/\j=.int .i64 (a:Int)/\1<=a/\m+a<=l_ ps/\M<m+a/\1<=M/\Hid (l_ G=l_ ps/\jK Q base wr (.slice (a_ g 0) (l_ ps) cap) G/\G.drop (m+a-1)=ps.drop (m+a-1)/\(G.take M).map (·.2)=dedup ((ps.map (·.2)).take (m+a))/\w.grownBy wr (some g))) (λ_ j _=>l_ ps-m-(intOf j).toNat);exact⟨m,1,ps,rfl,rfl,U,U,U,U,O ⟨rfl,aN.1,rfl,by rw[aC.o,ii_],aN.2⟩⟩;obtain⟨M,a,G,rfl,rfl,bI,bx,a',a2,ai⟩:=hrel;obtain⟨d,bz⟩:∃d,d+1=a:=⟨a-1,U⟩;have a3:m+a-1=m+d:=U;have ak:m+a=m+d+1:=U;by_cases a5:m+a<l_ ps
    .obtain⟨x,s⟩:∃x,ps[m+d]?=some x:=⟨_,r9 U⟩
     obtain⟨y,aH⟩:=g_ a5;have b:=ai.o;rw[a3,ak]at b;have n:=XB b.1 b.2.2.1 s (by rwa[<-ak]) U b.2.2.2.1;have l:jK Q base wr.drew (.slice (a_ g 0) (l_ ps) cap) G:=⟨b.2.1.1.kept ((kG.refl wr).drew.grown none) (.inr (by simp[Value.ownBlock])),λz c=>(b.2.1.2 z c).kept ((kG.refl wr).drew.grown _)⟩;have aO:w.grownBy wr.drew (some g):=(b.2.2.2.2.trans ((kG.refl wr).drew.grown _));obtain⟨ao,c1,ay,ap,T,u,ac,W,ad,ae,af,ag,ah⟩:=l.seven b.1.symm n.1;obtain⟨aq,c2,az,ar,X,B,E,q1,q2,q3,F,I,K⟩:=l.seven b.1.symm (i:=m+a) (by rw[ak];exact n.2.1);rw[T]at u;rw[X]at B;have aP:Hid (z 122 #[.agg #[y.2.K,y.2.N,y.2.lo,y.2.hi,.slice aq (l_ y.2.J) c2,V (y.2.size:Nat),.slice az (l_ y.2.J) ar],.agg #[x.2.K,x.2.N,x.2.lo,x.2.hi,.slice ao (l_ x.2.J) c1,V (x.2.size:Nat),.slice ay (l_ x.2.J) ap]] wr.drew λe w'=>e=.returned (.bool (decide (gF y.2 x.2=0)))/\kG wr.drew w'):=O (Lh y.2 x.2 _ _ wr.drew ⟨_,rfl,B⟩ ⟨_,rfl,u⟩);have Z:=O l;have t:=O b.1;simp only[d_,Nat.add_mul]at ac W ad ae af ag ah E q1 q2 q3 F I K;have r1:(a:Int)-1=(d:Int):=U;have aU:IntKind.i64.wrap (d:Int)=(d:Int):=WA _ U;have aV:0<=(a:Int):=U;have aW:(a:Int)<((l_ ps-m:Nat):Int):=U;have aX:(d:Int)<((l_ ps-m:Nat):Int):=U;have aY:0<=(d:Int):=U;go_wp2;refine em_ 10 k_ k_ ?_;simp only[Vn,eo_,ep_,er_];change wpStill _ _ (World.drew wr) (λau=>wpList _ _ _ _ au (World.drew wr)) _ _;generalize World.drew wr=ba at *;(repeat still_step);refine es_ ?_;go_wp2_with fail;refine aP.o.mono ?_;rintro e f ⟨rfl,al⟩;have P:jK Q base f (.slice g (l_ ps) cap) G:=⟨Z.o.1.kept (al.grown none) (.inr (by simp[Value.ownBlock])),λz c=>(Z.o.2 z c).kept (al.grown _)⟩;have aQ:w.grownBy f (some g):=(aO.trans (al.grown _));by_cases c:gF y.2 x.2=0
     .have bB:=O P
      rw[show decide (gF y.2 x.2=0)=true from Q_ c]
      have L:(G.take M).map (·.2)=dedup ((ps.map (·.2)).take (m+(a+1)))/\G.drop (m+(a+1)-1)=ps.drop (m+(a+1)-1):=(by
       rw[show m+(a+1)=m+d+2 by omega,show m+d+2-1=m+d+1 by omega]
       exact⟨n.2.2.2.1 c,n.2.2.1⟩)
      go_wp2;go_roundw;exact⟨M,a+1,G,rfl,R,U,U,U,a2,O ⟨t.o,P,L.2,L.1,aQ⟩⟩;exact M_
     .obtain⟨o,Y⟩:∃o,G[M]?=some o:=⟨_,r9 (by rw[t.o];omega)⟩
      obtain⟨bb,c3,bc,bd,aZ,_,E,q1,q2,q3,F,I,K⟩:=P.seven t.o.symm (i:=m+a) (by rw[ak];exact n.2.1);obtain⟨be,c4,bf,bg,_,_,bh,a0,bi,bj,bk,bl,bm⟩:=P.seven t.o.symm Y;have J:=(P.at t.o.symm Y).2;(have aA:jK Q base f (.slice g (l_ G) cap) G:=by rwa[t.o]);have aD:=aA.put (i:=M) (by rw[t.o];omega) (aA.2 y (gV n.2.1));rw[OI 7 M,t.o]at aD;have aE:jK Q base (f.setCells g (M*7) y.1) (.slice g (l_ ps) cap) (G.set M y):=aD;have aB:=aQ.trans (kg g y.1 (M*7) f);rw[aZ]at aE aB;have a6:=O aE;have a4:=O aB;have bn:f.frozen? (a_ g (M*7))=false:=J _;have bo:f.frozen? (a_ g (M*7+1))=false:=J _;have bp:f.frozen? (a_ g (M*7+2))=false:=J _;have bq:f.frozen? (a_ g (M*7+3))=false:=J _;have br:f.frozen? (a_ g (M*7+4))=false:=J _;have bs:f.frozen? (a_ g (M*7+5))=false:=J _;have f6:f.frozen? (a_ g (M*7+6))=false:=J _;simp only[d_,Nat.add_mul]at E q1 q2 q3 F I K a0;have s1:0<=(M:Int):=U;have s2:(M:Int)<l_ ps:=U
      have L:l_ (G.set M y)=l_ ps/\((G.set M y).take (M+1)).map (·.2)=dedup ((ps.map (·.2)).take (m+(a+1)))/\(G.set M y).drop (m+(a+1)-1)=ps.drop (m+(a+1)-1):=(by
       rw[show m+(a+1)=m+d+2 by omega,show m+d+2-1=m+d+1 by omega]
       exact⟨(n.2.2.2.2 c).1,(n.2.2.2.2 c).2.2,(n.2.2.2.2 c).2.1⟩)
      rw[show decide (gF y.2 x.2=0)=false from Q_ c];go_wp2;go_roundw;exact⟨M+1,a+1,G.set M y,R,R,U,U,U,U,O ⟨L.1,a6.o,L.2.2,L.2.1,a4.o⟩⟩;exact M_
    .have a7:m+a=l_ ps:=by omega
     have b:=ai.o;have bC:¬cap=M:=U;have bD:M<l_ ps:=U
     have bE:∀aw,(Builtin.clear_ #[128] aw #[.slice (a_ g (M*7)) (l_ ps-M) (cap-M)]).run prog wr=.ok (.tuple #[]) (wr.setCells g (M*7) (Builtin.zeroCells zT (l_ ps-M)).toList):=λaw=>aeg wr aw g (M*7) _ _ U (λj bt=>b.2.1.aee b.1.symm U) (λj=>by
       obtain⟨o,Y⟩:∃o,G[M]?=some o:=⟨_,r9 (by rw[b.1];omega)⟩
       exact(b.2.1.at b.1.symm Y).2 j)
     have ax:Dk Q base w (.slice g (l_ ps) cap) ps (.returned (.slice g M cap)) (wr.setCells g (M*7) (Builtin.zeroCells zT (l_ ps-M)).toList):=(by
      refine⟨_,G.take M,rfl,?_,b.2.1.cleared b.1.symm (by rw[b.1];omega) _ (by rw[aah,b.1]),b.2.2.2.2.trans (kg _ _ _ _),rfl⟩
      rw[b.2.2.2.1,a7,J9 S])
     have s1:0<=(M:Int):=U;have s3:¬(a:Int)<((l_ ps-m:Nat):Int):=U;generalize (Builtin.zeroCells zT (l_ ps-M)).toList=zs at *;go_wp2;go_ret;exact ax
   .have aC:Hid (dedup ((ps.map (·.2)).take (m+1))=(ps.map (·.2)).take (m+1)):=O (by rw[aj,C_ c,C.o,a1]);rw[show decide (gF q.2 p.2=0)=false from Q_ c];go_wp2;go_roundw;exact⟨m+1,U,U,R,aC,N⟩;exact M_
  .have aR:m=l_ ps:=by omega
   have ax:Dk Q base w (.slice g (l_ ps) cap) ps (.returned (.slice g (l_ ps) cap)) wr:=(by
    have hd:=C.o;rw[aR,J9 S]at hd
    exact⟨_,ps,rfl,hd.symm,⟨H.o.1.kept (r.o.grown none) (.inr (by simp[Value.ownBlock])),λx s=>(H.o.2 x s).kept (r.o.grown _)⟩,r.o.grown _,rfl⟩)
   have bu:¬(m:Int)<l_ ps:=U;go_wp2;go_ret;exact ax
def fO{b:Func}{p u:Tmp}{c:T_}(h:b.results= #[.cell p c,.tmp u])(t:A_)(w:W_){a:Addr}{v n:V_}(d:t.getD p undef=.pointer (some a))(e:t.getD u undef=n)(hl:(loadVar c a).run P w=.ok v w):(results b t).run P w=.ok (.tuple #[v,n]) w:=by have f:t[p]?.getD undef=.pointer (some a):=Q d;have g:t[u]?.getD undef=n:=Q e;rw[results_cell_tmp h];simp[f,g,asAddr,hl,Result.andThen]
def qy{c:V_}(h:f_ w g 27 #[a,b,c,d,e]):(loadVar 27 g).run prog w=.ok (.agg #[a,b,c,d,e]) w:=by have f:=h.cell 0;have G:=h.cell 1;have i:=h.cell 2;have g3:=h.cell 3;have j:=h.cell 4;simp at f G i g3 j;simp[loadVar,go_sem,f,G,i,g3,j]
abbrev uK(W:W_)(g:Nat)(a b c d e:V_):W_:=((((W.setCell g a).setCell (a_ g 1) b).setCell (a_ g 2) c).setCell (a_ g 3) d).setCell (a_ g 4) e
def nN{f i j k l c:V_}(h:f_ W g t #[f,i,j,k,l]):f_ (uK W g a b c d e) g t #[a,b,c,d,e]:=by have:=((((h.iK 0 a).iK 1 b).iK 2 c).iK 3 d).iK 4 e;simpa using this
def ou{c:V_}(h:Same Z w W)(f:¬Z g):Same Z w (uK W g a b c d e):=((((h.st (p:=g) f _).st (p:=a_ g 1) f _).st (p:=a_ g 2) f _).st (p:=a_ g 3) f _).st (p:=a_ g 4) f _
def kW{c:V_}(h:G w W)(f:w<=g):G w (uK W g a b c d e):=((((h.setCell (p:=g) f _).setCell (p:=a_ g 1) f _).setCell (p:=a_ g 2) f _).setCell (p:=a_ g 3) f _).setCell (p:=a_ g 4) f _
def uL{c:V_}:(uK W g a b c d e).heap.size=W:=by simp[uK,World.setCell]
def Ll{c:V_}(h:f_ w g t #[a,b,c,d,e]):(N w g 0 a/\N w g 1 b/\N w g 2 c/\N w g 3 d/\N w g 4 e)/\ (w.frozen? g=false/\w.frozen? (a_ g 1)=false/\w.frozen? (a_ g 2)=false/\w.frozen? (a_ g 3)=false/\w.frozen? (a_ g 4)=false):=⟨⟨h.cell 0,h.cell 1,h.cell 2,h.cell 3,h.cell 4⟩,h.frozen 0,h.frozen 1,h.frozen 2,h.frozen 3,h.frozen 4⟩
def Ug(Z:Nat->Prop)(c:Cn)(e:¬c.K=6)(f:¬c.K=5):CP Z c:=by intro g w H;obtain⟨A,cap,rfl,h,i⟩:=zn H.rd;(have d:fB c=(c,0):=by cases c;exact O7 e f);rw[d];go_in;go_wp2_with fail;have hb:=f_.newAt (L_ w 27 (Cs c A cap)) 27 (Cs c A cap) (n:=w.heap.size+1) S;refine rY (fO rfl _ _ rfl rfl (qy hb)) rfl ?_;refine⟨_,rfl,?_,?_⟩;(.have b:=H.1;refine(H.same (((Same.refl Z w).al b _).al b _)).mono (λk a=> .inl a) ?_;rintro k (a|a);(.have:=b k a;simp;omega);.exact a.2);.exact X_ bA _
def PartsAt(Z:Nat->Prop)(w:W_)(A:J_)(ps:List Cn):Prop:=0<l_ ps->∃b o,A=some ⟨b,o,none⟩/\Z b/\∀i p,ps[i]?=some p->∃d,(∀(j:Nat) u,d[j]?=some u->N w b (o+5*i+j) u)/\CZ Z w p d
def PartsAt.up{ps:List Cn}(h:PartsAt Z w A ps)(d:∀k,Z k->k<w)(hb:G w w'):PartsAt Z w' A ps:=by intro f;obtain⟨b,c,e,a,g⟩:=h f;refine⟨b,c,e,a,λi p hi=>?_⟩;obtain⟨l,m,n⟩:=g i p hi;exact⟨l,λj u o=>(hb.cell (p:=a_ b (c+5*i+j)) (d b a)).trans (m j u o),n.up hb⟩
def aai(Z:Nat->Prop)(ps:List Cn):Prop:=∀(A:J_)(cap:Nat)(w:W_),l_ ps<=cap->cap<=m_->(∀k,Z k->k<w)->PartsAt Z w A ps-> z 74 #[.slice A (l_ ps) cap] w (qg Z w (zl ps))
def aaj(Z:Nat->Prop)(c:Cn)(B:c.K=5)(m:aai Z c.J):CP Z c:=by intro Y w D;obtain⟨A,cap,rfl,H,I⟩:=zn D.rd;have f:Hid (∀k,Z k->k<w):=O D.1;have s:PartsAt Z w A c.J:=D.J (A:=A) (n:=l_ c.J) (cap:=cap) rfl;(have o:fB c=zl c.J:=by cases c;exact WK B);obtain⟨a,d⟩:=e_ ((w.alloc (.cells #[V 5,d_ c.N,c.lo,c.hi,.slice A (l_ c.J) cap] 27)).alloc (.cells #[V 0,x_,V 0,V 0,()] 27));(have j:G w a:=by rw[<-d];exact X_ bA _);(have ag:a.heap.size=w.heap.size+2:=by rw[<-d];simp);(have t:f_ a (w+1) 27 #[V 0,x_,V 0,V 0,()]:=by rw[<-d];exact f_.newAt _ _ _ S);have y:Hid (z 74 #[.slice A (l_ c.J) cap] a (qg Z a (zl c.J))):=O (m A cap a H I (λk b=>by have:=f.o k b;omega) (s.up f.o j));rw[o];generalize zl c.J=r at *;obtain⟨q,e⟩:=r;have u:=O j;have v:=O d;clear d;have x:=O t;clear D s m j t o;go_in;go_wp2_with fail;rw[v.o];refine y.o.mono ?_;rintro K p ⟨L,rfl,i,l⟩;obtain⟨P,T,rfl,_,_⟩:=zn i.rd;have g:=x.o.below l;have ah:w.heap.size+1<p.heap.size:=g.lt;obtain⟨⟨W,g1,X,g3,g4⟩,J,M,N,Q,R⟩:=Ll g;have C:=O g;have E:=O i;have F:Hid (G w p):=O (b_ u.o l);go_wp2;refine rY (fO rfl _ _ rfl rfl (qy (nN C.o))) rfl ?_;refine⟨_,rfl,?_,?_⟩;(.refine(E.o.same (ou (Same.refl _ _) λh=>?_)).mono (λk b=>b.imp id λh=>?_) ?_;(.rcases h with h|h;(.have:=f.o _ h;omega);.omega);(.rw[uL];omega);.rintro k (b|b);(.have:=f.o k b;rw[uL];omega);.exact b.2);.exact kW F.o U
def XC(Z:Nat->Prop)(c:Cn)(au:c.K=6){p:Cn}{ps:List Cn}(s:c.J=p::ps)(m:CP Z p):CP Z c:=by intro aM w D;obtain⟨A,cap,rfl,aR,aS⟩:=zn D.rd;have E:Hid (∀k,Z k->k<w):=O D.1;obtain⟨b,g,rfl,af,aq⟩:=D.J (A:=A) (n:=l_ c.J) (cap:=cap) rfl (by rw[s];simp);obtain⟨aD,t,P⟩:=aq 0 p (by rw[s];rfl);obtain⟨Q,Y,rfl,aN,aO⟩:=zn P.rd;have aP:b<w:=D.1 b af;have av:N w b g p.K:=t 0 _ rfl;have ae:N w b (g+1) (d_ p.N):=t 1 _ rfl;have aw:N w b (g+2) p.lo:=t 2 _ rfl;have ax:N w b (g+3) p.hi:=t 3 _ rfl;have ay:N w b (g+4) (.slice Q (l_ p.J) Y):=t 4 _ rfl;(have x:fB c=if(fB p).2≠0\/(fB p).1.K=2 then fB p else(.mk 6 c.N 0 0 [(fB p).1],0):=by obtain⟨k,n,l,h,q⟩:=c;simp only[Cn.J]at s;subst s;exact Sm au);obtain⟨f,v⟩:=e_ ((w.alloc (.cells #[V 6,d_ c.N,c.lo,c.hi,.slice (a_ b g) (l_ c.J) cap] 27)).alloc (.cells #[V 0,x_,V 0,V 0,()] 27));(have T:G w f:=by rw[<-v];exact X_ bA _);(have aQ:f.heap.size=w.heap.size+2:=by rw[<-v];simp);(have ag:f_ f (w+1) 27 #[V 0,x_,V 0,V 0,()]:=by rw[<-v];exact f_.newAt _ _ _ S);(have ah:f_ f w 27 #[V 6,d_ c.N,c.lo,c.hi,.slice (a_ b g) (l_ c.J) cap]:=by rw[<-v];exact(f_.new _ _ _).alloc _);have ar:Hid (z 43 #[.agg (Cs p Q Y)] f (qg Z f (fB p))):=O (m _ _ (P.up T));generalize fB c=R at *;generalize fB p=r at *;obtain⟨q,e⟩:=r;have o:=O x;have ai:=O T;have aj:=O v;clear v;have ak:=O ag;have am:=O ah;(have aT:(0:Int)<l_ c.J:=by rw[s];simp);clear D aq t P m T ag ah x af s;go_in;go_wp2_with fail;rw[aj.o];refine ar.o.mono ?_;rintro ae d ⟨aE,rfl,F,B⟩;obtain⟨H,I,rfl,_,_⟩:=zn F.rd;have C:=ak.o.below B;have an:=am.o.below B;have aU:w.heap.size+1<d.heap.size:=C.lt;have aV:(w:Nat)<d:=U;obtain⟨⟨aF,g1,aG,g3,g4⟩,aH,aI,aJ,aK,aL⟩:=Ll C;have n1:N d w 1 (d_ c.N):=an.cell 1;have X:=O C;have y:=O F;have J:Hid (G w d):=O (b_ ai.o B);(have ao:¬(Z (w+1)\/((f:Nat)<=w+1/\w.heap.size+1<d.heap.size)):=by rintro(h|h);(.have:=E.o _ h;omega);.omega);have M:=O ao;(have K:Hid (∀(W:W_),Same (λk=>Z k\/(f<=k/\k<d)) d W->CZ (λk=>Z k\/(w<=k/\k<W)) W q (Cs q H I)):=O λW L=>by refine(y.o.same L).mono (λk a=>a.imp id λh=>?_) ?_;(.have:=L.2;omega);.rintro k (a|a);(.have:=E.o k a;have:=L.2;omega);.exact a.2);by_cases x:e=0;(.subst x;by_cases a:q.K=2;(.obtain rfl:R=(q,0):=o.o.trans (P_ (.inr a));go_wp2_with fail;have ap:=K.o;rw[a]at ap;refine rY (fO rfl _ _ rfl rfl (qy ((nN X.o).alloc _))) rfl ?_;exact⟨_,rfl,ap _ ((ou (Same.refl _ _) M.o).al y.o.1 _),X_ (kW J.o U) _⟩);.obtain rfl:R=(.mk 6 c.N 0 0 [q],0):=o.o.trans (C_ (by simp[a]));go_wp2;refine rY (fO rfl _ _ rfl rfl (qy (((nN X.o).alloc _).alloc _))) rfl ?_;refine⟨_,rfl,?_,X_ (X_ (kW J.o U) _) _⟩;have aC:=f_.newAt (L_ (uK d (w+1) (.int .i64 6) (d_ c.N) (.int .i64 0) (.int .i64 0) (.slice (a_ (d+1) 0) 1 1)) 27 (Cs q H I)) 27 (Cs q H I) (n:=d.heap.size+1) (by simp[uK,World.setCell]);(refine CZ.mk (ps:=[q]) ?_ (gH _) (by simp[m_]) λ_=>⟨d.heap.size+1,0,rfl,.inr ⟨U,by simp[uK,World.setCell]⟩,λi p m=>?_⟩);(.rintro k (a|a);(.have:=E.o k a;simp[uK,World.setCell];omega);.exact a.2);·(have aB:i=0:=by have:=(jv.1 m).1;simpa using this);subst aB;simp at m;subst m;refine⟨_,λj u az=>?_,K.o _ (((ou (Same.refl _ _) M.o).al y.o.1 _).al y.o.1 _)⟩;have aA:=aC.cell j;rw[show 0+5*0+j=j by omega];refine aA.trans ?_;simpa using az);.obtain rfl:R=(q,e):=o.o.trans (P_ (.inl x));go_wp2;refine rY (fO rfl _ _ rfl rfl (qy ((nN X.o).alloc _))) rfl ?_;exact⟨_,rfl,K.o _ ((ou (Same.refl _ _) M.o).al y.o.1 _),X_ (kW J.o U) _⟩
def Ni(z:Cn):∀(l:List Cn)(p:Cn),z∈dedup.go p l\/z=p↔z∈l\/z=p:=by
 intro l
 induction l with
 |nil=>intro p;simp[dedup.go]
 |cons y l b=>
  intro p;have h:=b y;by_cases e:gF y p=0;(.have c:=uj.1 e;subst c;simp only[dedup.go,P_ e,jL];rw[h];constructor;(.rintro(h|h);(.exact .inl (.inr h));.exact .inr h);.rintro((h|h)|h);(.exact .inr h);(.exact .inl h);.exact .inr h);.simp only[dedup.go,C_ e,jL];constructor;(.rintro((a|a)|a);(.exact .inl (.inl a));(.rcases h.1 (.inl a) with a|a;(.exact .inl (.inr a));.exact .inl (.inl a));.exact .inr a);.rintro((a|a)|a);(.exact .inl (.inl a));(.rcases h.2 (.inl a) with a|a;(.exact .inl (.inr a));.exact .inl (.inl a));.exact .inr a
def XD(z:Cn)(l:List Cn):z∈dedup l↔z∈l:=by
 cases l with
 |nil=>simp[dedup]
 |cons x l=>
  simp only[dedup,jL];have h:=Ni z l x;constructor;(.rintro(a|a);(.exact .inl a);.rcases h.1 (.inl a) with a|a;(.exact .inr a);.exact .inl a);.rintro(a|a);(.exact .inl a);.rcases h.2 (.inl a) with a|a;(.exact .inr a);.exact .inl a
def EY:∀(l:List Cn)(p:Cn),(p::l).Pairwise (λa b=>¬EK b a)->(p::dedup.go p l).Pairwise EK:=by
 intro l
 induction l with
 |nil=>intro p _;simp[dedup.go]
 |cons y l d=>
  intro p h;obtain⟨j,f⟩:=EI.1 h;by_cases e:gF y p=0;(.have k:=uj.1 e;subst k;simp only[dedup.go,P_ e];exact d y f);.simp only[dedup.go,C_ e];have g:=d y f;have i:EK p y:=zL (j y (gf_)) e;refine EI.2 ⟨λz c=>?_,g⟩;rcases jL.1 c with rfl|c;(.exact i);.exact um i ((EI.1 g).1 z c)
def Nj(l:List Cn)(h:l.Pairwise (λa b=>¬EK b a)):(dedup l).Pairwise EK:=by
 cases l with
 |nil=>simp[dedup]
 |cons x l=>exact EY l x h
def Uh{c:List Cn}(d:c.Perm l)(e:c.Pairwise (λa b=>¬EK b a)):dedup c=oI l:=wX (Nj c e) (Az l) λz=>by rw[XD,Kn,d.mem_iff]



