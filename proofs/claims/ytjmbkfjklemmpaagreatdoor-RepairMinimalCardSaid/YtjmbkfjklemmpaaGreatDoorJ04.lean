import Derived.Test.YtjmbkfjklemmpaaGreatDoorJ03
set_option linter.all false
set_option maxRecDepth 100000
set_option maxHeartbeats 32000000
namespace Go.Proofs.YtjmbkfjklemmpaaGreatDoor
open Go.RowKit Tryz
def Uq(k:Int)(n:St)(lo hi:Int)(ps:List Cn):ql (.mk k n lo hi ps)=(decide (k=0)&&decide (n=[])&&decide (lo=0)&&decide (hi=0)&&decide (ps.length=0)):=by unfold ql;cases ps<;>rfl
def CK(c:Cn)(A:Option Addr)(cap:Nat)(w:World)(d:c.parts.length<=1000000):z 166 #[.agg (Cs c A cap)] w λe w'=>e=.returned (ql c)/\G w w':=by obtain⟨k,n,lo,hi,ps⟩:=c;rw[Uq];simp only[Cn.kind,Cn.name,Cn.lo,Cn.hi,Cn.parts]at d ⊢;unfold d_;generalize ps.length=m at *;obtain⟨g,b⟩:∃a,Hid ((decide (k=0)&&decide (n=[])&&decide (lo=0)&&decide (hi=0)&&decide (m=0))=a):=⟨_,O rfl⟩;rw[b.o];go_in;go_wp2_with fail;all_goals have f:=b.o;go_ret;refine⟨ku ?_,bA⟩;rw[<-f];first|(simp_all;done)|(by_cases h:m=0<;>simp_all)
def Xa(p:Cn):Prop:=∀(v:Value)(w:World),CV w v p->z 117 #[v] w λe w'=>e=.returned (oM p)/\G w w'
def K4{ps:List Cn}{k:Nat}{p:Cn}(h:ps[k]?=some p)(b:iI (ps.take k)=false)(c:oM p=false):iI (ps.take (k+1))=false:=by
 have:∀(l m:List Cn),iI (l++m)=(iI l||iI m):=λl m=>by
  induction l with
  |nil=>simp[iI]
  |cons a l d=>simp only[IY,iI,d,Bool.or_assoc]
 rw[DC,h,this,b];simp[iI,c]
def Ns{ps:List Cn}{k:Nat}{p:Cn}(h:ps[k]?=some p)(b:oM p=true):iI ps=true:=by
 have c:=gM h
 induction ps generalizing k with
 |nil=>cases c
 |cons a l d=>
  rw[iI]
  cases k with
  |zero=>simp at h;subst h;rw[b];rfl
  |succ k=>rw[d (Q h) (gM (Q h)),Bool.or_true]
def Ij(ps:List Cn)(hb:∀p∈ps,Xa p)(A:Option Addr)(cap:Nat)(w:World)(T:ps.length<=cap)(hc:cap<=maxLen)(d:0<ps.length->∃b a,A=some ⟨b,a,none⟩/\b<w.heap.size/\∀i p,ps[i]?=some p->∃l,(∀(j:Nat) u,l[j]?=some u->N w b (a+5*i+j) u)/\mU w p l):z 229 #[.slice A ps.length cap,.func (.func 117) #[] #[]] w λe w'=>∃n:Int,e=.returned n/\(0<=n↔iI ps=true)/\G w w':=by
 unfold maxLen at hc;have C:=O d;clear d;go_in;go_wp2;go_loopw [8] (λi wr=>∃k:Nat,k<=ps.length/\i=.int .i64 (k:Int)/\Hid (iI (ps.take k)=false)/\Hid (G w wr)) (λi _=>ps.length-(intOf i).toNat);exact⟨0,gL _,rfl,O (by simp[iI]),O (fD _ _)⟩;obtain⟨k,W,rfl,q,c⟩:=hrel;by_cases P:k<ps.length
 ·obtain⟨b,a,rfl,g,y⟩:=C.o U
  obtain⟨p,d⟩:=g_ P;obtain⟨l,f,o⟩:=y k p d;obtain⟨r,s,rfl⟩:=o.cells;have E:N wr b (a+k*5) p.kind:=(c.o.cell (p:=⟨b,a+k*5,none⟩) g).trans (by have:=f 0 _ rfl;rw[<-this];congr 2;omega);have F:N wr b (a+k*5+1) (d_ p.name):=(c.o.cell (p:=⟨b,a+k*5+1,none⟩) g).trans (by have:=f 1 _ rfl;rw[<-this];congr 2;omega);have H:N wr b (a+k*5+2) p.lo:=(c.o.cell (p:=⟨b,a+k*5+2,none⟩) g).trans (by have:=f 2 _ rfl;rw[<-this];congr 2;omega);have I:N wr b (a+k*5+3) p.hi:=(c.o.cell (p:=⟨b,a+k*5+3,none⟩) g).trans (by have:=f 3 _ rfl;rw[<-this];congr 2;omega);have K:N wr b (a+k*5+4) (.slice r p.parts.length s):=(c.o.cell (p:=⟨b,a+k*5+4,none⟩) g).trans (by have:=f 4 _ rfl;rw[<-this];congr 2;omega);have B:Hid (z 117 #[.agg (Cs p r s)] wr λe w'=>e=.returned (oM p)/\G wr w'):=O (hb p (gM d) _ wr ⟨_,rfl,o.up c.o⟩);have t:=O d;have r1:(0:Int)<=(k:Int):=U;have X:(k:Int)<(ps.length:Int):=U;clear y f o d;go_wp2_with fail;refine B.o.mono ?_;rintro e L ⟨rfl,v⟩;have x:Hid (G w L):=O (b_ c.o v);clear v E F H I K B
  cases h:oM p with
  |true=>
   have m:Hid (iI ps=true):=O (Ns t.o h);clear h;go_wp2;go_ret;exact⟨_,rfl,by rw[m.o];simp,x.o⟩
  |false=>
   have m:Hid (iI (ps.take (k+1))=false):=O (K4 t.o q.o h);clear h;go_wp2;go_roundw;exact⟨k+1,U,R,m,x⟩;exact M
 ·(obtain rfl:k=ps.length:=by omega);go_wp2;go_ret;refine⟨_,rfl,?_,c.o⟩;have:=q.o;rw[jh]at this;rw[this];simp
def K5(ps:List Cn)(A:Option Addr)(cap:Nat)(w:World)(h:z 229 #[.slice A ps.length cap,.func (.func 117) #[] #[]] w λe w'=>∃n:Int,e=.returned n/\(0<=n↔iI ps=true)/\G w w'):z 172 #[.slice A ps.length cap,.func (.func 117) #[] #[]] w λe w'=>e=.returned (iI ps)/\G w w':=by have d:=O h;clear h;go_in;go_wp2_with fail;refine d.o.mono ?_;rintro e k ⟨n,rfl,a,f⟩;have g:=O f;have b:=O a;clear f d a;by_cases i:0<=n;(·go_wp2;go_ret;exact⟨by rw[b.o.1 i];rfl,g.o⟩);·go_wp2;go_ret;have c:¬0<=n:=U;have j:decide (0<=n)=false:=yR c;rw[j];exact⟨by rw[show iI ps=false by cases hb:iI ps with|false=>rfl|true=>exact absurd (b.o.2 hb) c];rfl,g.o⟩
def EX(c:Cn):Xa c:=by
 induction c using Cn.ind with
 |h c k=>
  intro v w hc;obtain⟨A,cap,rfl,o,q,r⟩:=hc.form
  have g:Hid (z 229 #[.slice A c.parts.length cap,.func (.func 117) #[] #[]] (w.alloc (.cells (Cs c A cap) 40)) λe w'=>∃n:Int,e=.returned n/\(0<=n↔iI c.parts=true)/\Below (w.alloc (.cells (Cs c A cap) 40)).heap.size (w.alloc (.cells (Cs c A cap) 40)) w'):=O (Ij c.parts k A cap _ o q λs=>by
    obtain⟨b,l,e,hb,H⟩:=r s;refine⟨b,l,e,by simp;omega,λi p t=>?_⟩;obtain⟨x,y,B⟩:=H i p t
    exact⟨x,λj u C=>(bA.cell (p:=⟨b,l+5*i+j,none⟩) hb).trans (y j u C),B.up bA⟩)
  have f:oM c=if c.kind=4 then true else if c.kind=5 then iI c.parts else false:=(by cases c;rfl);clear hc r k o q;by_cases a:c.kind=4;(·rw[show oM c=true by rw[f,A_ a]];rw[a]at g ⊢;go_in;go_wp2;go_ret;exact⟨rfl,bA⟩);·by_cases d:c.kind=5;(·rw[show oM c=iI c.parts by rw[f,u_ a,A_ d]];rw[d]at g ⊢;clear a d f;go_in;go_wp2_with fail;refine(K5 _ _ _ _ g.o).mono ?_;rintro e E ⟨rfl,m⟩;have F:G w E:=(b_ bA m);clear m g;go_wp2;go_ret;exact⟨rfl,F⟩);·rw[show oM c=false by rw[f,u_ a,u_ d]];have g4:(c.kind==4)=false:=Q a;have I:(c.kind==5)=false:=Q d;clear f a d;go_in;go_wp2;go_ret;exact⟨rfl,bA⟩
def Uses(w:World):Prop:=∀k:Nat,1<=k->k<=9->N w 0 (7*k) (jP k)/\N w 0 (7*k+1) (jN k)/\ N w 0 (7*k+2) (mY k)/\N w 0 (7*k+3) (uA k)/\N w 0 (7*k+4) (uB k)/\ N w 0 (7*k+5) (jX k)/\N w 0 (7*k+6) (mZ k)
def Uses.up{w w':World}(h:Uses w)(hb:G w w'):Uses w':=λk a b=>by have:=h k a b;have hl:0<w.heap.size:=zy w _ this.1;refine⟨(hb.cell ?_).trans this.1,(hb.cell ?_).trans this.2.1,(hb.cell ?_).trans this.2.2.1,(hb.cell ?_).trans this.2.2.2.1,(hb.cell ?_).trans this.2.2.2.2.1,(hb.cell ?_).trans this.2.2.2.2.2.1,(hb.cell ?_).trans this.2.2.2.2.2.2⟩<;>exact hl
abbrev gV(x:Ax)(Al:Option Addr)(cl:Nat)(Ar:Option Addr)(cr:Nat)(As:Option Addr)(cs:Nat):Array Value:= #[x.kind,x.op,x.left.kind,d_ x.left.name,x.left.lo,x.left.hi,.slice Al x.left.parts.length cl,x.right.kind,d_ x.right.name,x.right.lo,x.right.hi,.slice Ar x.right.parts.length cr,.slice As x.roles.length cs,d_ x.role,d_ x.a,d_ x.b]
def Ql(x:Ax)(a:x.kind<1\/9<x.kind)(b c d:Option Addr)(f g h:Nat)(w:World):z 114 #[.agg (gV x b f c g d h)] w λe w'=>e=.returned (iM x)/\G w w':=by(have:iM x=false:=by unfold iM;have:decide (1<=x.kind/\x.kind<=9)=false:=yR U;rw[this];simp);rw[this];unfold gV;rcases a with a|a;(·go_in;go_wp2;go_ret;exact⟨rfl,bA⟩);·(have i:¬x.kind<1:=by omega);go_in;go_wp2;go_ret;exact⟨rfl,bA⟩
def zP(x:Ax)(c d k:Option Addr)(f g l:Nat)(w:World)(p:Uses w)(t:x.left.parts.length<=1000000)(u:x.right.parts.length<=1000000):Y 114 #[.agg (gV x c f d g k l)] w (.bool (iM x)):=by by_cases q:x.kind<1\/9<x.kind;(·exact Ql x q c d k f g l w);obtain⟨n,r⟩:∃n:Nat,x.kind=n:=⟨x.kind.toNat,U⟩;obtain⟨t0,t1,t2,t3,t4,t5,t6⟩:=p n U U;have B:0<w.heap.size:=zy w _ t0;(have v:Hid (∀w,Y 166 #[.agg #[x.left.kind,d_ x.left.name,x.left.lo,x.left.hi,.slice c x.left.parts.length f]] w (.bool (ql x.left))):=O λw=>CK x.left c f w t);(have y:Hid (∀w,Y 166 #[.agg #[x.right.kind,d_ x.right.name,x.right.lo,x.right.hi,.slice d x.right.parts.length g]] w (.bool (ql x.right))):=O λw=>CK x.right d g w u);obtain⟨H,b⟩:∃a,Hid (iM x=a):=⟨_,O rfl⟩;rw[b.o];unfold iM at b;unfold gV;rw[r]at b ⊢;have A:n=1\/n=2\/n=3\/n=4\/n=5\/n=6\/n=7\/n=8\/n=9:=U;generalize x.roles.length=m at *;generalize ql x.left=C at *;generalize ql x.right=E at *;have I:(0:Int)<=(m:Int):=U;rcases A with rfl|rfl|rfl|rfl|rfl|rfl|rfl|rfl|rfl;all_goals simp[jP,jN,mY,uA,uB,jX,mZ]at t0 t1 t2 t3 t4 t5 t6;go_in;go_wp2_with (first|(go_at_call 166;with_reducible refine(v.o _).mono ?_;rintro e s ⟨rfl,h⟩;obtain⟨K,L⟩:=Ez h;obtain⟨W,X⟩:w.heap.size<s.heap.size/\w.heap.size+1<s.heap.size:=(by have:=h.size;simp at this;omega))|(go_at_call 166;with_reducible refine(y.o _).mono ?_;rintro e F ⟨rfl,j⟩;obtain⟨P,T⟩:=Ez j));all_goals have i:=b.o;simp[jP,jN,mY,uA,uB,jX,mZ]at i;go_ret;refine⟨ku ?_,?_⟩;(·rw[<-i];(try clear i);all_goals first|(simp_all;done)|(simp_all;omega)|(rw[WA];simp_all;omega));·first|exact L_ bA _|exact b_ (L_ bA _) h|exact b_ (L_ bA _) j|exact b_ (b_ (L_ bA _) h) j
end Go.Proofs.YtjmbkfjklemmpaaGreatDoor
