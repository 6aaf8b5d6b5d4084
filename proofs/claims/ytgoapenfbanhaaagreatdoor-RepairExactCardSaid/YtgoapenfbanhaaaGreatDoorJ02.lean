import Derived.Test.YtgoapenfbanhaaaGreatDoorJ01
set_option linter.all false
set_option maxRecDepth 100000
set_option maxHeartbeats 32000000
open List renaming length->l_
open Go.RowKit Go.Proofs.Tryz
open Go renaming World->W_
namespace Go.Proofs.YtgoapenfbanhaaaGreatDoor
variable{p:Cn}{ps:List Cn}{k n s:Nat}{r:Option Nat}{w w':W_}
def lW(h:ps[k]?=some p):Cn.sizes (ps.take (k+1))=Cn.sizes (ps.take k)+p.size:=by
 have:∀(l m:List Cn),Cn.sizes (l++m)=Cn.sizes l+Cn.sizes m:=λl m=>by
  induction l with
  |nil=>simp[Cn.sizes]
  |cons a l b=>simp only[Ka,Cn.sizes,b];omega
 rw[DL,h,this];simp[Cn.sizes]
def nK(ps:List Cn)(k:Nat):Cn.sizes (ps.take k)<=Cn.sizes ps:=by
 induction ps generalizing k with
 |nil=>simp
 |cons a l b=>
  cases k with
  |zero=>simp[Cn.sizes]
  |succ k=>simp only[Vn,Cn.sizes];have:=b k;omega
def FZ(h:p∈ps):p.deep+1<=Cn.DN ps:=by
 induction ps with
 |nil=>cases h
 |cons a l b=>
  simp only[Cn.DN];rcases jL.1 h with rfl|h;(.omega);.have:=b h;omega
def OY(h:∀p∈ps,p.deep+1<=n):Cn.DN ps<=n:=by
 induction ps with
 |nil=>simp[Cn.DN]
 |cons a l b=>simp only[Cn.DN];have:=b λp c=>h p (by simp[c]);have:=h a S;omega
def size_eq(c:Cn):c.size=Cn.sizes c.J+1:=by cases c;rfl
def MG(c:Cn):c.deep=Cn.DN c.J:=by cases c;rfl
def qJ(h:ps[k]?=some p):Cn.sizes (ps.take k)+p.size<=Cn.sizes ps:=by rw[<-lW h];exact nK _ _
def Cr(h:w.grownBy w' (some s))(u:Value):w.grownBy (w'.setCell s u) (some s):=⟨h.os,h.tape,h.output,Q h.size,λk b a=>(Fg w' s u k (λe=>a (by rw[e]))).trans (h.block k b a)⟩
def AB(h:w.grownBy w' r)(o:Obj):w.grownBy (w'.alloc o) r:=h.trans (dy_ w' o r)
def F3(w:W_)(s:Nat)(c:Cn)(d n:Nat)(e:Ending)(w':W_):Prop:=∃b m,e=.returned (.bool b)/\w.grownBy w' (some s)/\f_ w' s 3 #[.int .i64 m]/\(b=true↔d+c.deep<=8/\n+c.size<=64)/\(b=true->m=((n+c.size:Nat):Int))
def Zl(c:Cn):∀(v:Value)(d n:Nat)(a w:W_)(S:Nat),CV a v c->G a w->a<=S->f_ w S 3 #[n]->d<=9->n<=64-> z 116 #[v,d,.pointer S] w (F3 w S c d n):=by
 induction c using Cn.ind with
 |h c ao=>
  intro v d n a w S hc hB av r hd aG;obtain⟨A,cap,rfl,aO,aB,aF⟩:=hc.form;unfold maxLen at aB;have c0:N w S 0 n:=r.cell 0;have ap:=r.frozen 0;have aK:=r.lt;have af:=size_eq c;have ag:=MG c;have u:=(And.intro af ag);clear hc ag;by_cases aL:d<=8
  .by_cases aP:n+1<=64
   .have q1:decide ((8:Int)<d)=false:=by simp;omega
    (have q2:decide ((64:Int)<n+1)=false:=by simp;omega);clear af;go_in;go_wp2_with fail;obtain⟨s,C⟩:=e_ ((w.setCell (a_ S 0) (.int .i64 ((n:Int)+1))).alloc (.cells (Cs c A cap) 27));(have ah:w.grownBy s (some S):=by rw[<-C];exact AB (Cr (R8 _ _) _) _);(have ai:f_ s S 3 #[V ((n:Int)+1)]:=by rw[<-C];have:=(r.iK 0 (.int .i64 ((n:Int)+1))).alloc (.cells (Cs c A cap) 27);simpa using this);rw[C];have aj:Hid (w.grownBy s (some S)/\f_ s S 3 #[V ((n+1+Cn.sizes (c.J.take 0):Nat):Int)]/\∀p∈c.J.take 0,d+1+p.deep<=8):=O ⟨ah,by simpa[Cn.sizes]using ai,λ_ h=>by simp at h⟩;clear C ah ai c0 ap r;go_loopw [25] (λi wr=>∃k:Nat,k<=l_ c.J/\i=.int .i64 (k:Int)/\n+1+Cn.sizes (c.J.take k)<=64/\Hid (w.grownBy wr (some S)/\f_ wr S 3 #[V ((n+1+Cn.sizes (c.J.take k):Nat):Int)]/\∀p∈c.J.take k,d+1+p.deep<=8)) (λi _=>l_ c.J-(intOf i).toNat);exact⟨0,gZ _,rfl,by simp[Cn.sizes];omega,aj⟩;clear aj;obtain⟨k,aH,rfl,al,x⟩:=hrel;by_cases aC:k<l_ c.J
    .obtain⟨b,f,rfl,y,an⟩:=aF U
     obtain⟨p,g⟩:=g_ aC;obtain⟨aI,t,P⟩:=an k p g;obtain⟨H,I,rfl⟩:=P.cells;have m:G a wr:=hB.grown x.o.1 hB.size (λj e=>by injection e with e;omega);have Z:N wr b (f+k*5) p.K:=(m.cell (p:=a_ b (f+k*5)) y).trans (by have:=t 0 _ rfl;rw[<-this];congr 2;omega);have D:N wr b (f+k*5+1) (d_ p.N):=(m.cell (p:=a_ b (f+k*5+1)) y).trans (by have:=t 1 _ rfl;rw[<-this];congr 2;omega);have J:N wr b (f+k*5+2) p.lo:=(m.cell (p:=a_ b (f+k*5+2)) y).trans (by have:=t 2 _ rfl;rw[<-this];congr 2;omega);have Q:N wr b (f+k*5+3) p.hi:=(m.cell (p:=a_ b (f+k*5+3)) y).trans (by have:=t 3 _ rfl;rw[<-this];congr 2;omega);have Y:N wr b (f+k*5+4) (.slice H (l_ p.J) I):=(m.cell (p:=a_ b (f+k*5+4)) y).trans (by have:=t 4 _ rfl;rw[<-this];congr 2;omega);have aw:CV a (.agg (Cs p H I)) p:=⟨_,rfl,P⟩;have aM:=qJ g;have aN:=FZ (gV g);have ax:(a:Nat)<=wr:=m.size;have r1:0<=(k:Int):=U;have aJ:(k:Int)<l_ c.J:=U;(have aD:Hid (∀o,z 116 #[.agg (Cs p H I),V ((d:Int)+1),.pointer (a_ S 0)] (wr.alloc o) (F3 (wr.alloc o) S p (d+1) (n+1+Cn.sizes (c.J.take k)))):=O λo=>ao p (gV g) _ (d+1) (n+1+Cn.sizes (c.J.take k)) a _ S aw (m.alloc ax o) av (x.o.2.1.alloc o) U al);clear an t P;go_wp2_with fail;(with_reducible refine(aD.o _).mono ?_);rintro e K ⟨aq,ar,rfl,T,B,E,W⟩;have ak:w.grownBy K (some S):=((AB x.o.1 _).trans T)
     cases aq with
     |true=>
      have⟨L,ae⟩:=E.1 rfl;have X:=lW g
      have au:Hid (w.grownBy K (some S)/\f_ K S 3 #[V ((n+1+Cn.sizes (c.J.take (k+1)):Nat):Int)]/\∀q∈c.J.take (k+1),d+1+q.deep<=8):=O ⟨ak,by
       rw[W rfl]at B
       rwa[X,<-gq_],λq l=>by
       rw[DL,g]at l;rcases iq.1 l with l|l;.exact x.o.2.2 q l
       .simp at l;subst l;exact L⟩
      (have aE:n+1+Cn.sizes (c.J.take (k+1))<=64:=by rw[X];omega);clear E W B T X Z D J Q Y;go_wp2;go_roundw;exact⟨k+1,U,R,aE,au⟩;exact M
     |false=>
      (have ay:¬(d+c.deep<=8/\n+c.size<=64):=λ⟨L,ae⟩=>by have:=E.2 ⟨by rw[u.2]at L;omega,by rw[u.1]at ae;omega⟩;cases this);have az:=O B;clear E W B T Z D J Q Y;go_wp2;go_ret;exact⟨false,ar,rfl,ak,az.o,⟨λh=>(by cases h),λh=>absurd h ay⟩,λh=>(by cases h)⟩
    ·(obtain rfl:k=l_ c.J:=by omega);have F:=x.o;rw[jy]at F al;have am:=O F;have aA:=(OY (ps:=c.J) (n:=8-d) λp g=>by have:=F.2.2 p g;omega);clear F;go_wp2;go_ret;refine⟨true,_,rfl,am.o.1,am.o.2.1,⟨λ_=>⟨by rw[u.2];have:=aA;omega,by rw[u.1];omega⟩,λ_=>rfl⟩,λ_=>by rw[u.1];congr 1;omega⟩
   ·(have q1:decide ((8:Int)<d)=false:=by simp;omega);(have q2:decide ((64:Int)<n+1)=true:=by simp;omega);go_in;go_wp2;go_ret;refine⟨false,(n:Int)+1,rfl,AB (Cr (R8 _ _) _) _,by have:=(r.iK 0 (.int .i64 ((n:Int)+1))).alloc (.cells (Cs c A cap) 27);simpa using this,⟨λh=>(by cases h),λh=>U⟩,λh=>(by cases h)⟩
  ·(have q1:decide ((8:Int)<d)=true:=by simp;omega);go_in;go_wp2;go_ret;refine⟨false,(n:Int)+1,rfl,AB (Cr (R8 _ _) _) _,by have:=(r.iK 0 (.int .i64 ((n:Int)+1))).alloc (.cells (Cs c A cap) 27);simpa using this,⟨λh=>(by cases h),λh=>U⟩,λh=>(by cases h)⟩
def WI(s:St)(w:W_):z 282 #[s,.string ⟨#[58]⟩] w λe w'=>e=.returned (Lib.indexByte s 58)/\w=w':=(Any.stringslite_Index_one Tryz.WH ⟨s.toArray⟩ 58 w).mono λe w' ⟨a,b⟩=>⟨a,b.symm⟩
def Kt(s:St):(Lib.indexByte s 58= -1/\pE s=(s,none))\/∃i:Nat,Lib.indexByte s 58=(i:Int)/\i+1<=l_ s/\pE s=(s.take i,some (s.drop (i+1))):=by
 induction s with
 |nil=>exact .inl ⟨rfl,rfl⟩
 |cons c s d=>
  by_cases h:c=58;(.subst h;exact .inr ⟨0,by simp[Lib.indexByte],S,by simp[pE]⟩);.rcases d with⟨a,b⟩|⟨i,a,b,e⟩;(.exact .inl ⟨by simp[Lib.indexByte,h,a],by simp[pE,h,b]⟩);.refine .inr ⟨i+1,?_,by simp;omega,by simp[pE,h,e]⟩;have:¬Lib.indexByte s 58= -1:=U;simp[Lib.indexByte,h,a]
def ab9{s:St}:l_ (pE s).1<=l_ s/\∀b,(pE s).2=some b->l_ b<=l_ s:=by rcases Kt s with⟨_,h⟩|⟨i,_,a,h⟩;(.rw[h];exact⟨gH _,λb h=>by cases h⟩);.rw[h];exact⟨by simp;omega,λb e=>by cases e;simp⟩
def cutV(s:St):Value:= .tuple #[.string ⟨(pE s).1.toArray⟩,((pE s).2.getD []),(pE s).2.isSome]
def OZ(s:St)(w:W_)(g:l_ s<=4611686018427387904):Y 228 #[s,.string ⟨#[58]⟩] w (cutV s):=by have a:=O (WI s);rcases Kt s with⟨b,c⟩|⟨i,b,c,d⟩;(.rw[b]at a;unfold cutV;rw[c];go_in;go_wp2_with (go_at_call 282;with_reducible refine(a.o _).mono ?_;rintro e f ⟨rfl,rfl⟩);go_ret3;exact⟨rfl,fu _ _⟩);.rw[b]at a;unfold cutV;rw[d];have k:(ByteArray.mk s.toArray).size=l_ s:=rfl;have c1:(0:Int)<=↑i:=U;have c2:(↑i:Int)<=↑s.length:=U;have c3:(0:Int)<=↑i+1:=U;have c4:(↑i+1:Int)<=↑s.length:=U;(have h:(ByteArray.mk s.toArray).extract 0 i=⟨(s.take i).toArray⟩:=by rw[Lib.extract_eq];simp);(have j:(ByteArray.mk s.toArray).extract (i+1) (l_ s)=⟨(s.drop (i+1)).toArray⟩:=by rw[Lib.extract_eq];show ByteArray.mk (List.take (l_ s-(i+1)) (s.drop (i+1))).toArray=_;rw[J9 S]);go_in;go_wp2_with (go_at_call 282;with_reducible refine(a.o _).mono ?_;rintro e f ⟨rfl,rfl⟩);go_region;go_wp2;go_ret3;exact⟨rfl,(fu _ _).drew⟩
def acd(s:St)(w:W_)(b:l_ s<=4611686018427387904):Y 176 #[s,.string ⟨#[58]⟩] w (cutV s):=by(have a:=O λw=>OZ s w b);unfold cutV at a ⊢;go_in;go_wp2_with (go_at_call 228;with_reducible refine(a.o _).mono ?_;rintro e d ⟨rfl,c⟩);go_ret3;exact⟨rfl,c⟩
def mD(s:St)(w:W_)(q:l_ s<=4611686018427387904):Y 114 #[s] w (fK s):=by
 have C:(ByteArray.mk s.toArray).size=l_ s:=rfl;by_cases hl:24<l_ s;·(have G:decide ((24:Int)<((l_ s:Nat):Int))=true:=by simp;omega);have g:fK s=false:=(by simp[fK,hl]);generalize fK s=v at *;go_in;go_wp2;go_ret;exact⟨lC g.symm,fu _ _⟩
 .have G:decide ((24:Int)<((l_ s:Nat):Int))=false:=by simp;omega
  (have i:=O λw=>acd s w q);obtain⟨m,n⟩:=ab9 (s:=s);have g:fK s=(match pE s with|(a,none)=>kr a|(a,some b)=>kr a&&kr b):=(by unfold fK;rw[C_ hl];rcases pE s with⟨_,_|_⟩<;>rfl);unfold cutV at i;generalize fK s=v at *;generalize pE s=cb at *;obtain⟨a,r⟩:=cb;have k:∀w x,kr a=x->Y 177 #[a] w (.bool x):=λw x h=>by subst h;exact FY a w (by dsimp only at m;omega)
  cases r with
  |none=>
   simp only[Option.isSome,Option.getD]at i
   cases d:kr a<;>
   .have f:=g;simp only[d]at f;have l:=O f;have o:=(λw=>k w _ d);clear g f d k m n;go_in;go_wp2_with (first|(go_at_call 176;with_reducible refine(i.o _).mono ?_;rintro e t ⟨rfl,c⟩)|(go_at_call 177;with_reducible refine(o _).mono ?_;rintro e u ⟨rfl,j⟩));go_ret;exact⟨lC l.o.symm,c.trans (j.mono c.size)⟩
  |some b=>
   (have p:∀w x,kr b=x->Y 177 #[b] w (.bool x):=λw x h=>by subst h;exact FY b w (by have:=n b rfl;omega));simp only[Option.isSome,Option.getD]at i
   cases d:kr a<;>cases hb:kr b<;>
   .have f:=g;simp only[d,hb,ib_,ic_,hr_,gb_]at f;have l:=O f;have o:=(λw=>k w _ d);have y:=(λw=>p w _ hb);clear g f d hb k p m n;go_in;go_wp2_with (first|(go_at_call 176;with_reducible refine(i.o _).mono ?_;rintro e t ⟨rfl,c⟩)|(go_at_call 177;with_reducible refine(o _).mono ?_;rintro e u ⟨rfl,j⟩)|(go_at_call 177;with_reducible refine(y _).mono ?_;rintro e B ⟨rfl,A⟩));go_ret;first|exact⟨lC l.o.symm,(c.trans (j.mono c.size)).trans (A.mono (gY c.size j.size))⟩|exact⟨lC l.o.symm,c.trans (j.mono c.size)⟩
def pV(s:St)(w:W_)(f:l_ s<=4611686018427387904):Y 115 #[.string ⟨s.toArray⟩] w (.int .i64 (if Y_ s then 0 else 20)):=by
 (have g:∀w b,fK s=b->Y 114 #[s] w (.bool b):=λw b h=>by subst h;exact mD s w f);(have i:∀w b,iP s=b->Y 178 #[s] w (.bool b):=λw b h=>by subst h;exact w9 s w f);have j:Y_ s=(fK s||iP s):=rfl;generalize Y_ s=q at *
 cases a:fK s<;>cases c:iP s<;>
 .have k:=j;simp only[a,c,gc_,Bool.or_true,Bool.true_or,ik_]at k;subst k;have l:=(λw=>g w _ a);have m:=(λw=>i w _ c);clear j a c g i;go_in;go_wp2_with (first|(go_at_call 114;with_reducible refine(l _).mono ?_;rintro e o ⟨rfl,d⟩)|(go_at_call 178;with_reducible refine(m _).mono ?_;rintro e p ⟨rfl,n⟩));go_ret;first|exact⟨rfl,d.trans (n.mono d.size)⟩|exact⟨rfl,d⟩
def Needs(w:W_):Prop:=∀k:Nat,1<=k->k<=7->N w 2 (4*k) (iH k)/\N w 2 (4*k+1) (kU k)/\ N w 2 (4*k+2) (nI k)/\N w 2 (4*k+3) (.bool (decide (k=7)))
def Needs.up(h:Needs w)(hb:G w w'):Needs w':=λk a b=>by have:=h k a b;have hl:2<w.heap.size:=zK w _ this.1;refine⟨(hb.cell ?_).trans this.1,(hb.cell ?_).trans this.2.1,(hb.cell ?_).trans this.2.2.1,(hb.cell ?_).trans this.2.2.2⟩<;>exact hl
def Cu(s:St):((ByteArray.mk s.toArray)==ByteArray.mk #[])=decide (s=[]):=by cases s<;>rfl
def q9{a b:Int}(h:a=b):Ending.returned a=.returned b:=by rw[h]
def Jo(n:St)(lo hi:Int)(ps:List Cn)(A:J_)(cap:Nat)(w:W_)(f:Needs w)(g:l_ ps<=4611686018427387904)(h:l_ n<=4611686018427387904):Y 118 #[.agg #[V 1,n,lo,hi,.slice A (l_ ps) cap]] w (fU ⟨1,n,lo,hi,ps⟩):=by obtain⟨t,t1,t2,t3⟩:=f 1 D D;have i:2<w.heap.size:=zK w _ t;simp[iH,kU,nI]at t t1 t2 t3;obtain⟨j,b⟩:∃a,Hid (fU ⟨1,n,lo,hi,ps⟩=a):=⟨_,O rfl⟩;rw[b.o];obtain⟨m,d⟩:=e_ (l_ ps);rw[d]at g ⊢;have k:0<=(m:Int):=U;go_in;go_wp2_with fail;all_goals have c:=b.o;have d:=d;simp[fU,Cn.K,Cn.N,Cn.lo,Cn.hi,Cn.J,iH,kU,nI]at c;go_ret;refine⟨q9 ?_,X_ bA _⟩;rw[<-c];first|(simp_all;done)|(simp_all;omega)|(split<;>first|rfl|(split<;>first|rfl|(exfalso;simp_all;done)|(exfalso;simp_all;omega))|(exfalso;simp_all;done)|(exfalso;simp_all;omega))
def Jp(n:St)(lo hi:Int)(ps:List Cn)(A:J_)(cap:Nat)(w:W_)(f:Needs w)(g:l_ ps<=4611686018427387904)(h:l_ n<=4611686018427387904):Y 118 #[.agg #[V 2,n,lo,hi,.slice A (l_ ps) cap]] w (fU ⟨2,n,lo,hi,ps⟩):=by obtain⟨t,t1,t2,t3⟩:=f 2 D D;have i:2<w.heap.size:=zK w _ t;simp[iH,kU,nI]at t t1 t2 t3;obtain⟨j,b⟩:∃a,Hid (fU ⟨2,n,lo,hi,ps⟩=a):=⟨_,O rfl⟩;rw[b.o];obtain⟨m,d⟩:=e_ (l_ ps);rw[d]at g ⊢;have k:0<=(m:Int):=U;go_in;go_wp2_with fail;all_goals have c:=b.o;have d:=d;simp[fU,Cn.K,Cn.N,Cn.lo,Cn.hi,Cn.J,iH,kU,nI]at c;go_ret;refine⟨q9 ?_,X_ bA _⟩;rw[<-c];first|(simp_all;done)|(simp_all;omega)|(split<;>first|rfl|(split<;>first|rfl|(exfalso;simp_all;done)|(exfalso;simp_all;omega))|(exfalso;simp_all;done)|(exfalso;simp_all;omega))
def Jq(n:St)(lo hi:Int)(ps:List Cn)(A:J_)(cap:Nat)(w:W_)(f:Needs w)(g:l_ ps<=4611686018427387904)(h:l_ n<=4611686018427387904):Y 118 #[.agg #[V 5,n,lo,hi,.slice A (l_ ps) cap]] w (fU ⟨5,n,lo,hi,ps⟩):=by obtain⟨t,t1,t2,t3⟩:=f 5 D D;have i:2<w.heap.size:=zK w _ t;simp[iH,kU,nI]at t t1 t2 t3;obtain⟨j,b⟩:∃a,Hid (fU ⟨5,n,lo,hi,ps⟩=a):=⟨_,O rfl⟩;rw[b.o];obtain⟨m,d⟩:=e_ (l_ ps);rw[d]at g ⊢;go_in;go_wp2_with fail;all_goals have c:=b.o;have d:=d;simp[fU,Cn.K,Cn.N,Cn.lo,Cn.hi,Cn.J,iH,kU,nI]at c;go_ret;refine⟨q9 ?_,X_ bA _⟩;rw[<-c];first|(simp_all;done)|(simp_all;omega)|(split<;>first|rfl|(split<;>first|rfl|(exfalso;simp_all;done)|(exfalso;simp_all;omega))|(exfalso;simp_all;done)|(exfalso;simp_all;omega))
def Jr(n:St)(lo hi:Int)(ps:List Cn)(A:J_)(cap:Nat)(w:W_)(j:Needs w)(s:l_ ps<=4611686018427387904)(k:l_ n<=4611686018427387904):Y 118 #[.agg #[V 3,n,lo,hi,.slice A (l_ ps) cap]] w (fU ⟨3,n,lo,hi,ps⟩):=by obtain⟨T,t1,t2,t3⟩:=j 3 D D;have t:2<w.heap.size:=zK w _ T;simp[iH,kU,nI]at T t1 t2 t3;(have l:∀w b,fK n=b->Y 114 #[n] w (.bool b):=λw b h=>by subst h;exact mD n w k);obtain⟨v,c⟩:∃a,Hid (fU ⟨3,n,lo,hi,ps⟩=a):=⟨_,O rfl⟩;rw[c.o];obtain⟨m,i⟩:=e_ (l_ ps);rw[i]at s ⊢;have x:0<=(m:Int):=U;cases d:fK n;(all_goals have q:=(λw=>l w _ d);have r:=O d;go_in;go_wp2_with (first|(go_at_call 114;with_reducible refine(q _).mono ?_;rintro e o ⟨rfl,g⟩;have u:N o (w+1) 0 (V 1):=(g.cell (p:=a_ (w+1) 0) S).trans ((f_.newAt _ _ _ S).cell 0);have M:N o w 1 n:=(g.cell (p:=a_ w 1) (by simp;omega)).trans (((f_.new w _ _).alloc _).cell 1))));all_goals have f:=c.o;have i:=i;have y:=r.o;simp[fU,Cn.K,Cn.N,Cn.lo,Cn.hi,Cn.J,iH,kU,nI,maxNum]at f;go_ret;refine⟨q9 ?_,by first|exact b_ (X_ bA _) g|exact X_ bA _⟩;rw[<-f];first|(simp_all;done)|(simp_all;omega)|(split<;>first|rfl|(split<;>first|rfl|(exfalso;simp_all;done)|(exfalso;simp_all;omega))|(exfalso;simp_all;done)|(exfalso;simp_all;omega))
def Js(n:St)(lo hi:Int)(ps:List Cn)(A:J_)(cap:Nat)(w:W_)(l:Needs w)(x:l_ ps<=4611686018427387904)(d:l_ n<=4611686018427387904):Y 118 #[.agg #[V 4,n,lo,hi,.slice A (l_ ps) cap]] w (fU ⟨4,n,lo,hi,ps⟩):=by obtain⟨T,t1,t2,t3⟩:=l 4 D D;have B:2<w.heap.size:=zK w _ T;simp[iH,kU,nI]at T t1 t2 t3;(have o:∀w b,fK n=b->Y 114 #[n] w (.bool b):=λw b h=>by subst h;exact mD n w d);(have q:∀w b,iP n=b->Y 178 #[n] w (.bool b):=λw b h=>by subst h;exact w9 n w d);obtain⟨F,f⟩:∃a,Hid (fU ⟨4,n,lo,hi,ps⟩=a):=⟨_,O rfl⟩;rw[f.o];obtain⟨m,k⟩:=e_ (l_ ps);rw[k]at x ⊢;have H:0<=(m:Int):=U;cases g:fK n<;>cases i:iP n;(all_goals have s:=(λw=>o w _ g);have t:=(λw=>q w _ i);have u:=O i;have v:=O g;go_in;go_wp2_with (first|(go_at_call 114;with_reducible refine(s _).mono ?_;rintro e r ⟨rfl,c⟩;have C:N r (w+1) 0 (V 2):=(c.cell (p:=a_ (w+1) 0) S).trans ((f_.newAt _ _ _ S).cell 0);have M:N r w 1 n:=(c.cell (p:=a_ w 1) (by simp;omega)).trans (((f_.new w _ _).alloc _).cell 1))|(go_at_call 178;with_reducible refine(t _).mono ?_;rintro e E ⟨rfl,y⟩)));all_goals have j:=f.o;have k:=k;have I:=v.o;have K:=u.o;simp[fU,Cn.K,Cn.N,Cn.lo,Cn.hi,Cn.J,iH,kU,nI,maxNum]at j;go_ret;refine⟨q9 ?_,by first|exact b_ (b_ (X_ bA _) c) y|exact b_ (X_ bA _) c|exact X_ bA _⟩;rw[<-j];first|(simp_all;done)|(simp_all;omega)|(split<;>first|rfl|(split<;>first|rfl|(exfalso;simp_all;done)|(exfalso;simp_all;omega))|(exfalso;simp_all;done)|(exfalso;simp_all;omega))
def Jt(n:St)(lo hi:Int)(ps:List Cn)(A:J_)(cap:Nat)(w:W_)(j:Needs w)(s:l_ ps<=4611686018427387904)(k:l_ n<=4611686018427387904):Y 118 #[.agg #[V 6,n,lo,hi,.slice A (l_ ps) cap]] w (fU ⟨6,n,lo,hi,ps⟩):=by obtain⟨T,t1,t2,t3⟩:=j 6 D D;have v:2<w.heap.size:=zK w _ T;simp[iH,kU,nI]at T t1 t2 t3;(have l:∀w b,fK n=b->Y 114 #[n] w (.bool b):=λw b h=>by subst h;exact mD n w k);obtain⟨y,d⟩:∃a,Hid (fU ⟨6,n,lo,hi,ps⟩=a):=⟨_,O rfl⟩;rw[d.o];obtain⟨m,c⟩:=e_ (l_ ps);rw[c]at s ⊢;cases f:fK n;(all_goals have q:=(λw=>l w _ f);have r:=O f;go_in;go_wp2_with (first|(go_at_call 114;with_reducible refine(q _).mono ?_;rintro e o ⟨rfl,i⟩;have x:N o (w+1) 0 (V 1):=(i.cell (p:=a_ (w+1) 0) S).trans ((f_.newAt _ _ _ S).cell 0);have M:N o w 1 n:=(i.cell (p:=a_ w 1) (by simp;omega)).trans (((f_.new w _ _).alloc _).cell 1))));all_goals have g:=d.o;have c:=c;have t:=r.o;simp[fU,Cn.K,Cn.N,Cn.lo,Cn.hi,Cn.J,iH,kU,nI,maxNum,t]at g;go_ret;refine⟨q9 ?_,by first|exact b_ (X_ bA _) i|exact X_ bA _⟩;rw[<-g];(have u:ps=[]↔m=0:=by rw[<-c];exact in_.symm);(try simp only[u,c]);(repeat' split);all_goals first|rfl|omega|(exfalso;simp_all;done)|(exfalso;simp_all;omega)
def Ju(n:St)(lo hi:Int)(ps:List Cn)(A:J_)(cap:Nat)(w:W_)(j:Needs w)(s:l_ ps<=4611686018427387904)(k:l_ n<=4611686018427387904):Y 118 #[.agg #[V 7,n,lo,hi,.slice A (l_ ps) cap]] w (fU ⟨7,n,lo,hi,ps⟩):=by obtain⟨T,t1,t2,t3⟩:=j 7 D D;have v:2<w.heap.size:=zK w _ T;simp[iH,kU,nI]at T t1 t2 t3;(have l:∀w b,fK n=b->Y 114 #[n] w (.bool b):=λw b h=>by subst h;exact mD n w k);obtain⟨y,d⟩:∃a,Hid (fU ⟨7,n,lo,hi,ps⟩=a):=⟨_,O rfl⟩;rw[d.o];obtain⟨m,c⟩:=e_ (l_ ps);rw[c]at s ⊢;have B:0<=(m:Int):=U;cases f:fK n;(all_goals have q:=(λw=>l w _ f);have r:=O f;go_in;go_wp2_with (first|(go_at_call 114;with_reducible refine(q _).mono ?_;rintro e o ⟨rfl,i⟩;have x:N o (w+1) 0 (V 1):=(i.cell (p:=a_ (w+1) 0) S).trans ((f_.newAt _ _ _ S).cell 0);have M:N o w 1 n:=(i.cell (p:=a_ w 1) (by simp;omega)).trans (((f_.new w _ _).alloc _).cell 1))));all_goals have g:=d.o;have c:=c;have t:=r.o;simp[fU,Cn.K,Cn.N,Cn.lo,Cn.hi,Cn.J,iH,kU,nI,maxNum,t]at g;go_ret;refine⟨q9 ?_,by first|exact b_ (X_ bA _) i|exact X_ bA _⟩;rw[<-g];(have u:ps=[]↔m=0:=by rw[<-c];exact in_.symm);(try simp only[u,c]);(repeat' split);all_goals first|rfl|omega|(exfalso;simp_all;done)|(exfalso;simp_all;omega)



