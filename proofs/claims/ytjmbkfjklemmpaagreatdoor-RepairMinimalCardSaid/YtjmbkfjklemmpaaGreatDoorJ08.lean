import Derived.SizedLaws
import Derived.Test.YtjmbkfjklemmpaaGreatDoorJ07
set_option linter.all false
set_option maxRecDepth 100000
set_option maxHeartbeats 32000000
open Go renaming World->W_,Value->V_,TypeId->T_
namespace Go.Proofs.YtjmbkfjklemmpaaGreatDoor
open Go.RowKit Tryz
def adE{w wr:W_}{x:Ax}{m:List V_}{b d k:Nat}(r:∀(j:Nat) u,m[j]?=some u->w.cell? ⟨b,d+k*16+j,none⟩=some u)(s:Hw w x m)(hb:b<w.heap.size)(n:Below w.heap.size w wr):∃e f g i l c,lJ wr x e f g i l c/\ wr.cell? ⟨b,d+k*16,none⟩=some (.int .i64 x.kind)/\wr.cell? ⟨b,d+k*16+1,none⟩=some (.bool x.op)/\wr.cell? ⟨b,d+k*16+2,none⟩=some (.int .i64 x.left.kind)/\wr.cell? ⟨b,d+k*16+3,none⟩=some (d_ x.left.name)/\ wr.cell? ⟨b,d+k*16+4,none⟩=some (.int .i64 x.left.lo)/\wr.cell? ⟨b,d+k*16+5,none⟩=some (.int .i64 x.left.hi)/\wr.cell? ⟨b,d+k*16+6,none⟩=some (.slice e x.left.parts.length f)/\ wr.cell? ⟨b,d+k*16+7,none⟩=some (.int .i64 x.right.kind)/\wr.cell? ⟨b,d+k*16+8,none⟩=some (d_ x.right.name)/\wr.cell? ⟨b,d+k*16+9,none⟩=some (.int .i64 x.right.lo)/\wr.cell? ⟨b,d+k*16+10,none⟩=some (.int .i64 x.right.hi)/\ wr.cell? ⟨b,d+k*16+11,none⟩=some (.slice g x.right.parts.length i)/\wr.cell? ⟨b,d+k*16+12,none⟩=some (.slice l x.roles.length c)/\wr.cell? ⟨b,d+k*16+13,none⟩=some (d_ x.role)/\wr.cell? ⟨b,d+k*16+14,none⟩=some (d_ x.a)/\wr.cell? ⟨b,d+k*16+15,none⟩=some (d_ x.b):=by obtain⟨e,f,g,i,t,rfl,hl,q,o⟩:=s.form;obtain⟨l,c,rfl,_⟩:=S1.form o;(have key:∀(j:Nat) u,[Value.int .i64 x.kind,.bool x.op,.int .i64 x.left.kind,d_ x.left.name,.int .i64 x.left.lo,.int .i64 x.left.hi,.slice e x.left.parts.length f,.int .i64 x.right.kind,d_ x.right.name,.int .i64 x.right.lo,.int .i64 x.right.hi,.slice g x.right.parts.length i,.slice l x.roles.length c,d_ x.role,d_ x.a,d_ x.b][j]?=some u->wr.cell? ⟨b,d+k*16+j,none⟩=some u:=λj u h=>(n.cell (p:=⟨b,d+k*16+j,none⟩) hb).trans (r j u h));exact⟨e,f,g,i,l,c,(lJ.mk hl q o).up n,key 0 _ rfl,key 1 _ rfl,key 2 _ rfl,key 3 _ rfl,key 4 _ rfl,key 5 _ rfl,key 6 _ rfl,key 7 _ rfl,key 8 _ rfl,key 9 _ rfl,key 10 _ rfl,key 11 _ rfl,key 12 _ rfl,key 13 _ rfl,key 14 _ rfl,key 15 _ rfl⟩
def pR(k:Int):Bool:=decide (k=5)||decide (k=6)||decide (k=7)
def Qo(x:Ax)(d f g:Option Addr)(h i j:Nat)(w:W_):Calls prog 44 #[.agg (gV x d h f i g j)] w λe w'=>e=.returned (.bool (pR x.kind))/\Below w.heap.size w w':=by unfold gV;obtain⟨m,b⟩:∃a,Hid (pR x.kind=a):=⟨_,K_ rfl⟩;rw[b.out];generalize x.kind=k at *;go_in;go_wp2_with fail;all_goals have c:=b.out;unfold pR at c;go_ret;refine⟨ku ?_,L_ (fD _ _) _⟩;rw[<-c];first|(simp_all;done)|(by_cases l:k=7<;>simp_all)
def Ur(x y:Ax)(c d f g i j:Option Addr)(k l m n o p:Nat)(w:W_)(s:lJ w x c k d l f m)(t:lJ w y g n i o j p)(u:Xf x)(v:Xf y):Calls prog 73 #[.agg (gV x c k d l f m),.agg (gV y g n i o j p)] w λe w'=>e=.returned (.bool (decide (j5 x y=0)))/\Below w.heap.size w w':=by(have q:Hid (∀W,Below w.heap.size w W->Calls prog 43 #[.agg (gV x c k d l f m),.agg (gV y g n i o j p)] W λe w'=>e=.returned (.int .i64 (j5 x y))/\Below W.heap.size W w'):=K_ λW A=>vE x y c d f g i j k l m n o p W (s.up A) (t.up A) u v);obtain⟨C,b⟩:∃a,Hid (decide (j5 x y=0)=a):=⟨_,K_ rfl⟩;rw[b.out];clear s t u v;unfold gV at q ⊢;go_in;go_wp2_with fail;refine(q.out _ (L_ (L_ (fD _ _) _) _)).mono ?_;rintro e E ⟨rfl,B⟩;clear q;by_cases h:j5 x y=0;(·have r:C=true:=(by rw[<-b.out,Dx h]);rw[h];clear b h;go_wp2;go_ret;exact⟨ku r.symm,b_ (L_ (L_ (fD _ _) _) _) B⟩);·have r:C=false:=(by rw[<-b.out,yR h]);have hb:(j5 x y==0)=false:=Q h;clear b h;go_wp2;go_ret;exact⟨ku r.symm,b_ (L_ (L_ (fD _ _) _) _) B⟩
def Us(x y:Ax)(a b c d f g:Option Addr)(h i j k l m:Nat)(w:W_)(s:lJ w x a h b i c j)(t:lJ w y d k f l g m)(u:Xf x)(v:Xf y):Calls prog 42 #[.agg (gV x a h b i c j),.agg (gV y d k f l g m)] w λe w'=>e=.returned (.bool (x.op==y.op&&decide (j5 x y=0)))/\Below w.heap.size w w':=by(have n:Hid (∀W,Below w.heap.size w W->Calls prog 73 #[.agg (gV x a h b i c j),.agg (gV y d k f l g m)] W λe w'=>e=.returned (.bool (decide (j5 x y=0)))/\Below W.heap.size W w'):=K_ λW A=>Ur x y a b c d f g h i j k l m W (s.up A) (t.up A) u v);clear s t u v;generalize decide (j5 x y=0)=r at *;unfold gV at n ⊢;obtain⟨p,B⟩:=e_ x.op;obtain⟨q,C⟩:=e_ y.op;rw[B,C]at n ⊢;clear B C;cases p<;>cases q;(·simp only[BEq.rfl,ia_];go_in;go_wp2_with fail;refine(n.out _ (L_ (L_ (fD _ _) _) _)).mono ?_;rintro e E ⟨rfl,o⟩;go_wp2;go_ret;exact⟨rfl,b_ (L_ (L_ (fD _ _) _) _) o⟩);(·go_in;go_wp2;go_ret;exact⟨rfl,L_ (L_ (fD _ _) _) _⟩);(·go_in;go_wp2;go_ret;exact⟨rfl,L_ (L_ (fD _ _) _) _⟩);·simp only[BEq.rfl,ia_];go_in;go_wp2_with fail;refine(n.out _ (L_ (L_ (fD _ _) _) _)).mono ?_;rintro e E ⟨rfl,o⟩;go_wp2;go_ret;exact⟨rfl,b_ (L_ (L_ (fD _ _) _) _) o⟩
structure pq(x:Ax):Prop where
 l:yj x.left 150
 r:yj x.right 150
 n:(x.role.length:Int)+x.a.length+x.b.length+10*x.roles.length<=600
 rs:∀s∈x.roles,s.length<=600
structure DN(x:Ax):Prop where
 l:yT x.left
 r:yT x.right
 rs:∀s∈x.roles,s.length<=140737488355328
 rn:x.roles.length<=140737488355328
 ro:x.role.length<=140737488355328
 a:x.a.length<=140737488355328
 b:x.b.length<=140737488355328
def yj.mono{c:Cn}{r s:Int}(h:yj c r)(b:r<=s):yj c s:=⟨by have:=h.1;omega,λx a=>by have:=h.2 x a;omega⟩
def K7(w:W_)(c:Cn)(e:Ending)(w':W_):Prop:=G w w'/\∃b:Bool,e=.returned b/\(b=true->yj c 150)
def Nu(c:Cn)(v:V_)(w:W_)(hc:CV w v c)(g:yT c):z 70 #[v] w (K7 w c):=by obtain⟨A,cap,rfl,_⟩:=hc.form;(have a:Hid (∀o,z 126 #[.agg #[c.kind,d_ c.name,c.lo,c.hi,.slice A c.parts.length cap],V 40,V 150] (w.alloc o) (Bg (w.alloc o) c 150)):=O λo=>Uj c _ _ 40 150 (hc.up (L_ (fD _ _) o)) g U U U U);go_in;go_wp2_with (go_at_call 126;refine(a.o _).mono ?_;rintro e k ⟨b,r,rfl,l,m,f⟩;have i:=O (b_ bA b);have j:=O f;clear b f a);go_ret;refine⟨i.o,_,rfl,λh=>?_⟩;have d:r<=150:=Q h;exact(j.o d).mono d
def E5(w:W_)(x:Ax)(e:Ending)(w':W_):Prop:=G w w'/\∃b:Bool,e=.returned b/\(b=true->pq x)
def zR(x:Ax)(g:Option Addr)(j:Nat)(m:Option Addr)(o:Nat)(y:Option Addr)(A:Nat)(w:W_)(B:lJ w x g j m o y A)(c:DN x):z 40 #[.agg (gV x g j m o y A)] w (E5 w x):=by
 (have ax:∀W,G w W->z 70 #[.agg #[x.left.kind,d_ x.left.name,x.left.lo,x.left.hi,.slice g x.left.parts.length j]] W (K7 W x.left):=λW I=>Nu x.left _ W (B.l.up I) c.l);(have ay:∀W,G w W->z 70 #[.agg #[x.right.kind,d_ x.right.name,x.right.lo,x.right.hi,.slice m x.right.parts.length o]] W (K7 W x.right):=λW I=>Nu x.right _ W (B.r.up I) c.r);obtain⟨aN,aO,ap,aU,az,aq⟩:=S1.form B.rs;injection ap with ar _ au;subst ar au;have aA:=O c.rs;have ai:=c.ro;have aj:=c.a;have aG:=c.b;have aH:=c.rn;obtain⟨C,F⟩:=e_ (w.alloc (.cells (gV x g j m o y A) 43));(have H:f_ C w.heap.size 43 (gV x g j m o y A):=by rw[<-F];exact f_.new _ _ _);(have aB:G w C:=by rw[<-F];exact bA);have al:=O H;unfold gV at H F;obtain⟨z0,K,z2,z3,z4,z5,L,P,T,z9,X,Z,aa,zd,ab,ac⟩:=gG H;unfold gV;obtain⟨u,ae⟩:∃q:Int,q=(x.role.length:Int)+x.a.length+x.b.length+10*x.roles.length:=⟨_,rfl⟩;have aP:0<=u/\u<=2000000000000000:=U;go_in;go_wp2_with fail;rw[<-ae];go_loopw [3,4] (λn i wr=>∃(k:Nat)(n':Int),k<=x.roles.length/\k<=100/\i=.int .i64 (k:Int)/\n=.int .i64 n'/\u<=n'/\n'<=u+k*140737488355328/\Hid (∀s∈x.roles.take k,(s.length:Int)<=n')/\Hid (G C wr)) (λ_ i _=>x.roles.length-(intOf i).toNat);exact⟨0,u,gL _,U,rfl,rfl,U,U,O (λ_ h=>by simp at h),O (fD _ _)⟩;obtain⟨k,n,aI,aQ,rfl,rfl,aR,aS,ak,E⟩:=hrel;have ad:=bk E.o al.o;have v:G w wr:=(b_ aB E.o);unfold gV at ad;obtain⟨z0,K,z2,z3,z4,z5,L,P,T,z9,X,Z,aa,zd,ab,ac⟩:=gG ad;by_cases aC:k<x.roles.length
 ·by_cases aV:k<100
  ·obtain⟨b,am,rfl,aD,ao⟩:=aq U
   obtain⟨s,d⟩:=g_ aC;have aJ:N wr b (am+k) (d_ s):=(v.cell (p:=⟨b,am+k,none⟩) aD).trans (ao k s d);have aT:=aA.o s (gM d);have r1:(0:Int)<=(k:Int):=U;have aK:(k:Int)<(x.roles.length:Int):=U;have aL:(k:Int)<100:=U;go_wp2;go_roundw
   exact⟨k+1,n+s.length,U,U,R,rfl,U,U,O λt f=>(by
    rw[DC,d]at f;rcases gH.1 f with f|f;·have:=ak.o t f;omega
    ·simp at f;subst f;omega),E⟩
   exact M
  ·(obtain rfl:k=100:=by omega);(have hf:decide (n<=600)=false:=by have:=ae;simp;omega);go_wp2;go_ret;exact⟨v,false,rfl,λh=>by cases h⟩
 ·(obtain rfl:k=x.roles.length:=by omega);(have av:∀s∈x.roles,(s.length:Int)<=n:=λs d=>ak.o s (by rw[jh];exact d));by_cases aE:n<=600;(·go_wp2_with fail;refine(ax wr v).mono ?_;rintro e aw ⟨af,b1,rfl,ai⟩;have ag:=(b_ v af);have ah:=bk (b_ E.o af) al.o;unfold gV at ah;obtain⟨z0,K,z2,z3,z4,z5,L,P,T,z9,X,Z,aa,zd,ab,ac⟩:=gG ah;cases b1;(·go_wp2;go_ret;exact⟨ag,false,rfl,λh=>by cases h⟩);·go_wp2_with fail;refine(ay aw ag).mono ?_;rintro e aM ⟨an,b2,rfl,aj⟩;have aF:=(b_ ag an);go_wp2;go_ret;refine⟨aF,b2,rfl,λh=>⟨ai (by first|rfl|trivial),aj h,by have:=ae;omega,λs d=>by have:=av s d;omega⟩⟩);·(have hf:decide (n<=600)=false:=by simp;omega);go_wp2;go_ret;exact⟨v,false,rfl,λh=>by cases h⟩
def Nv(w:W_)(L:List Ax)(m:Nat)(e:Ending)(w':W_):Prop:=G w w'/\∃b:Bool,e=.returned b/\(b=true->L.length<=m/\∀x∈L,pq x)
def Il(L:List Ax)(v:V_)(m:Nat)(w:W_)(h:lC w v L)(H:∀x∈L,DN x)(ak:m<=100):z 19 #[v,m] w (Nv w L m):=by obtain⟨A,c,rfl,hc,ah,I⟩:=h.form;simp only[maxLen]at ah;go_in;by_cases hl:L.length<=m;(case neg=>(have g:decide ((m:Int)<(L.length:Int))=true:=by simp;omega);(have t:decide (m<L.length)=true:=by simp;omega);go_wp2;go_ret;exact⟨fD _ _,false,rfl,λh=>by cases h⟩);(have g:decide ((m:Int)<(L.length:Int))=false:=by simp;omega);(have t:decide (m<L.length)=false:=by simp;omega);go_wp2_with fail;go_loopw [5] (λi wr=>∃k:Nat,k<=L.length/\i=.int .i64 (k:Int)/\Hid (∀x∈L.take k,pq x)/\Hid (G w wr)) (λi _=>L.length-(intOf i).toNat);exact⟨0,gL _,rfl,O S,O (fD _ _)⟩;obtain⟨k,al,rfl,j,f⟩:=hrel;by_cases ai:k<L.length;(·obtain⟨b,ap,rfl,aj,F⟩:=I U;obtain⟨x,d⟩:=g_ ai;obtain⟨am,u,B⟩:=F k x d;obtain⟨l,n,o,p,q,r,s,a0,a1,a2,a3,a4,a5,K,P,T,a9,W,ab,X,Z,aa,ac⟩:=adE u B aj f.o;have ad:z 40 #[.agg (gV x l n o p q r)] wr (E5 wr x):=(zR x l n o p q r wr s (H x (gM d)));have ae:=O d;have r1:(0:Int)<=(k:Int):=U;have an:(k:Int)<(L.length:Int):=U;go_wp2_with fail;refine ad.mono ?_;rintro e ao ⟨C,b1,rfl,af⟩;have E:=O (b_ f.o C);cases b1;(·go_wp2;go_ret;exact⟨E.o,false,rfl,λh=>by cases h⟩);·(have ag:Hid (∀y∈L.take (k+1),pq y):=O λy a=>by rw[DC,ae.o]at a;rcases gH.1 a with a|a;(·exact j.o y a);·simp at a;subst a;exact af rfl);go_wp2;go_roundw;exact⟨k+1,U,R,ag,E⟩;exact M);·(obtain rfl:k=L.length:=by omega);go_wp2;go_ret;exact⟨f.o,true,rfl,λ_=>⟨hl,λx d=>j.o x (by rw[jh];exact d)⟩⟩
end Go.Proofs.YtjmbkfjklemmpaaGreatDoor
namespace Go.Proofs.YtjmbkfjklemmpaaGreatDoor.Q
open Go.RowKit Go.Deep
def adF{H:Type}{P:Program}{e:T_}:∀{l:List (DataW H)}{d:DataW H},d∈l->∀n∈d.weights P e,n∈DataW.weightsAll P e l
 |a::l,d,h,n,hn=>by
  simp only[DataW.weightsAll,gH];rcases jU.1 h with rfl|h;(·exact .inl hn);·exact .inr (adF h n hn)
def K8(s:ByteArray):Value.string s=d_ s.data.toList:=by cases s;simp[d_]
def yT.mk{k l h:Int}{n:St}{ps:List Cn}(b:n.length<=140737488355328)(c:∀p∈ps,yT p):yT (.mk k n l h ps):=λx a=>by simp only[Cn.pre]at a;rcases jU.1 a with rfl|a;(·exact b);·obtain⟨p,d,e⟩:=ET a;exact c p d x e
section
variable{H:Type}{enc:T_×V_->H}{P:Program}{w:W_}{base:Nat}{spare:Nat->Bool}{held:Bool}
def Wt(P:Program)(t:T_)(d:DataW H):Prop:=∀n∈d.weights P t,n<=140737488355328
def Wt.str{t:T_}{s:ByteArray}{x:DataW H×List MemPlace}(e:x=(.lit (.string s.data.toList),[]))(h:Wt P t x.1):s.data.toList.length<=140737488355328:=h _ (by rw[e];simp[DataW.weights])
def open_row{α:Type}{t e:T_}{k:Nat}(m:P.underlying t=some (.slice e))(Z:P.cellsOf e=k)(k0:0<k)(aa:0<P.bytesOf e)(Q:List V_->α->Prop){W:Nat}(ab:∀(n:Nat)(o:List V_)(y:DataW H×List MemPlace),n<W->o.length=k->DataW.trod enc P w base spare held n e o=some y->Wt P e y.1->∃a,Q o a){v:V_}{x:DataW H×List MemPlace}(h:DataW.trod enc P w base spare held W t [v]=some x)(hw:Wt P t x.1):∃L:List (List V_×α),Sl w w.heap.size (λp:List V_×α=>p.1) k v L/\(∀p∈L,Q p.1 p.2)/\L.length<=140737488355328:=by
 rcases DataW.trod_slice m h with⟨g,_⟩|⟨l,len,cap,B,rest,n',ar,F,C,hb,hl,ac,au,X,_⟩;·simp at g;subst g;exact⟨[],Sl.nil _ _ _ _,λ_ h=>(by cases h),gL _⟩
 ·simp at F
  subst F;rw[Z]at X;(have ad:∀y∈B,Wt P e y.1:=λy ae n r=>hw n (by rw[C];simp only[DataW.weights,m,jU,gH];exact .inr (.inl (adF (pY.2 ⟨y,ae,rfl⟩) n r))));(have ao:len<=140737488355328:=by have:=hw ((B.length+rest.length)*P.bytesOf e) (by rw[C];simp[DataW.weights,m]);have d:len*1<=(B.length+rest.length)*P.bytesOf e:=Nat.mul_le_mul U aa;omega);have s:∀i,i<len->∃p:List V_×α,(∀j,j<k->w.cell? (l.add (i*k+j))=p.1[j]?)/\p.1.length=k/\Q p.1 p.2:=λi hi=>by have f:=X i hi;rw[qY U]at f;obtain⟨I,d,af⟩:=hg_.1 f;obtain⟨_,E,ag⟩:=World.cells?_some d;obtain⟨c,ah⟩:=ab n' I _ U E af (ad _ (hy_ _));exact⟨(I,c),λj A=>by have:=ag j A;rwa[Go.Deep.add_add]at this,E,ah⟩
  have ai:∀n,n<=len->∃L:List (List V_×α),L.length=n/\∀i p,L[i]?=some p->(∀j,j<k->w.cell? (l.add (i*k+j))=p.1[j]?)/\p.1.length=k/\Q p.1 p.2:=by
   intro n
   induction n with
   |zero=>exact λ_=>⟨[],rfl,λi p hi=>by simp at hi⟩
   |succ n aj=>
    intro r;obtain⟨L,f,d⟩:=aj U;obtain⟨q,ak⟩:=s n r;refine⟨L++[q],by simp[f],λi p hi=>?_⟩;rw[List.getElem?_append]at hi;split at hi;(·exact d i p hi);·(have an:i-L.length=0:=by have:=(iR.1 hi).1;simp at this;omega);rw[an]at hi;simp at hi;subst hi;obtain rfl:i=n:=U;exact ak
  obtain⟨L,f,d⟩:=ai len (fU _);subst f;refine⟨L,⟨some l,cap,rfl,hl,ac,λg=>?_⟩,λp s=>?_,ao⟩;(·obtain⟨b,K,ap⟩:=l;obtain⟨q1,q2,_⟩:=d 0 L[0] (qY g);have q3:=q1 0 k0;rw[qY U]at q3;(have aq:ap=none:=by simpa[Addr.add]using World.cell?_spot q3);subst aq;(have al:w.cell? ⟨b,K,none⟩=some (L[0].1[0]'U_):=by simpa[Addr.add]using q3);refine⟨b,K,rfl,zy w _ al,λi p hi j u A=>?_⟩;obtain⟨r1,am,_⟩:=d i p hi;have T:p.1[j]?=some u:=A;have:=r1 j (by rw[<-am];exact(iR.1 T).1);rw[add_lit]at this;rw[<-T,<-this];congr 2;omega);·obtain⟨i,hi⟩:=Wz s;exact(d i p hi).2.2
def adG{α:Type}{l:List α}(h:l.length=5):∃a b c d e,l=[a,b,c,d,e]:=by
 match l,h with
 |[a,b,c,d,e],_=>exact⟨a,b,c,d,e,rfl⟩
def Wt.field{t s:T_}{fs:Array Field}{a:List (DataW H×List MemPlace)}{x y:DataW H×List MemPlace}{p:List MemPlace}{i:Nat}(b:P.underlying t=some (.struct fs))(e:x=(.agg (a.map (·.1)),p))(h:Wt P t x.1)(hi:(fs.map (·.type))[i]?=some s)(c:a[i]?=some y):Wt P s y.1:=λn d=>h n (by
 rw[e];simp only[DataW.weights,b]
 exact DataW.weights_mem_each (j:=i) (by rw[<-Array.toList_map,di_];exact hi) (by rw[Cx,c];rfl) n d)
def ZT{o:T_}{r d t v B:Field}(F:P.underlying o=some (.struct #[r,d,t,v,B]))(ar:oneCellFields P #[r,d,t,v,B]=true)(T:P.cellsOf o=5)(af:0<P.bytesOf o)(k0:P.underlying r.type=some (.int .i64))(ag:P.underlying d.type=some .string)(ah:P.underlying t.type=some (.int .i64))(k3:P.underlying v.type=some (.int .i64))(k4:P.underlying B.type=some (.slice o)):∀(E:Nat)(k:List V_)(x:DataW H×List MemPlace),DataW.trod enc P w base spare held E o k=some x->Wt P o x.1->∃c,mU w c k/\yT c:=by
 intro E
 induction E using Nat.strongRecOn with
 |ind E ai=>
  intro k x h hw;obtain⟨aj,n,rfl,W,ae,ap,hf⟩:=hc_ F h;rw[T]at ae;obtain⟨c0,c1,c2,c3,c4,rfl⟩:=adG ae;obtain⟨au,av,aw,ax,ay,rfl⟩:=adG (l:=aj) (Q ap);(have one:=λi f hi=>hone_of ar i f hi);have I:=hf 0 r rfl;have g1:=hf 1 d rfl;have K:=hf 2 t rfl;have g3:=hf 3 v rfl;have g4:=hf 4 B rfl;rw[(one 0 r rfl).1,(one 0 r rfl).2]at I;rw[(one 1 d rfl).1,(one 1 d rfl).2]at g1;rw[(one 2 t rfl).1,(one 2 t rfl).2]at K;rw[(one 3 v rfl).1,(one 3 v rfl).2]at g3;rw[(one 4 B rfl).1,(one 4 B rfl).2]at g4;simp at I g1 K g3 g4;obtain⟨a,X,_,_⟩:=hd_ k0 I;obtain⟨s,Z,ak,_⟩:=he_ ag g1;obtain⟨l,aa,_,_⟩:=hd_ ah K;obtain⟨g,ab,_,_⟩:=hd_ k3 g3;simp at X Z aa ab;subst X Z aa ab;obtain⟨L,⟨A,cap,rfl,hl,ac,al⟩,ad,_⟩:=open_row k4 T U af (λk c=>mU w c k/\yT c) (λm k y ac _ h hw=>ai m U k y h hw) g4 (hw.field F W (i:=4) S rfl);refine⟨.mk a s.data.toList l g (L.map (·.2)),?_,yT.mk (Wt.str ak (hw.field (s:=d.type) F W (i:=1) S rfl)) λp am=>?_⟩;(·unfold mU;refine⟨A,cap,by rw[K8];simp,Q hl,ac,λan=>?_⟩;obtain⟨b,aq,e,hb,hc⟩:=al (Q an);refine⟨b,aq,e,hb,pK.of λi p hi=>?_⟩;rw[Cx]at hi;obtain⟨q,C,rfl⟩:=M0.1 hi;exact⟨q.1,λj u ao=>by have:=hc i q C j u ao;rwa[M4]at this,(ad q (gM C)).1⟩);·obtain⟨q,C,rfl⟩:=pY.1 am;exact(ad q C).2
structure Ea(P:Program)(tA tC tS tL tB:T_)(fs:Array Field):Prop where
 sA:P.underlying tA=some (.struct fs)
 cA:P.cellsOf tA=16
 n:fs.size=8
 f:(fs.map λf:Field=>(f.offset,f.type))= #[(0,3),(1,tB),(2,tC),(7,tC),(12,tL),(13,tS),(14,tS),(15,tS)]
 k3:P.underlying 3=some (.int .i64)
 kB:P.underlying tB=some .bool
 kS:P.underlying tS=some .string
 kL:P.underlying tL=some (.slice tS)
 c3:P.cellsOf 3=1
 cB:P.cellsOf tB=1
 cC:P.cellsOf tC=5
 cS:P.cellsOf tS=1
 cL:P.cellsOf tL=1
 bS:0<P.bytesOf tS
 bA:0<P.bytesOf tA
def Qp{u j tS B C:T_}{fs:Array Field}(T:Ea P u j tS B C fs)(hc:∀(I:Nat)(d:List V_)(x:DataW H×List MemPlace),DataW.trod enc P w base spare held I j d=some x->Wt P j x.1->∃c,mU w c d/\yT c){I:Nat}{d:List V_}{x:DataW H×List MemPlace}(h:DataW.trod enc P w base spare held I u d=some x)(hw:Wt P u x.1):∃a,Hw w a d/\DN a:=by
 obtain⟨ah,n,rfl,ai,af,aE,hf⟩:=hc_ T.sA h;rw[T.cA]at af;rw[T.n]at aE;(have g:∀(i:Nat) o t,(#[(0,3),(1,C),(2,j),(7,j),(12,B),(13,tS),(14,tS),(15,tS)]:Array (Nat×T_))[i]?=some (o,t)->∃y,DataW.trod enc P w base spare held n t ((d.drop o).take (P.cellsOf t))=some y/\Wt P t y.1:=λi o t hi=>by rw[<-T.f,Array.getElem?_map]at hi;obtain⟨f,F,e⟩:=M0.1 hi;have E:f.offset=o:=qQ Prod.fst e;have K:f.type=t:=qQ Prod.snd e;have:=hf i f F;(have ae:i<ah.length:=by have:=(vR.1 F).1;have:=T.n;omega);rw[qY ae,E,K]at this;exact⟨_,this,hw.field T.sA ai (i:=i) (by rw[Array.getElem?_map,F,<-K];rfl) (qY ae)⟩);obtain⟨aH,W,_⟩:=g 0 0 3 rfl;obtain⟨aI,g1,_⟩:=g 1 1 C rfl;obtain⟨aJ,X,z2⟩:=g 2 2 j rfl;obtain⟨aK,g3,z3⟩:=g 3 7 j rfl;obtain⟨aL,g4,z4⟩:=g 4 12 B rfl;obtain⟨aM,Z,z5⟩:=g 5 13 tS rfl;obtain⟨aN,aa,aj⟩:=g 6 14 tS rfl;obtain⟨aO,ab,ak⟩:=g 7 15 tS rfl;rw[T.c3]at W;rw[T.cB]at g1;rw[T.cC]at X g3;rw[T.cL]at g4;rw[T.cS]at Z aa ab;obtain⟨a,al,_,_⟩:=hd_ T.k3 W;obtain⟨b,E,_⟩:=DataW.trod_bool T.kB g1;obtain⟨l,hl,am⟩:=hc _ _ _ X z2;obtain⟨r,an,wr⟩:=hc _ _ _ g3 z3
 obtain⟨k,ac⟩:∃k,(d.drop 12).take 1=[k]:=by
  have:((d.drop 12).take 1).length=1:=by rw[qg,fx_];omega
  match h:(d.drop 12).take 1,this with
  |[v],_=>exact⟨v,rfl⟩
 rw[ac]at g4
 obtain⟨L,ao,ad,ap⟩:=open_row T.kL T.cS U T.bS (λd (s:St)=>d=[d_ s]/\s.length<=140737488355328) (λm d y _ _ h hw=>by
  obtain⟨s,rfl,e,_⟩:=he_ T.kS h
  exact⟨s.data.toList,by rw[K8],Wt.str e hw⟩) g4 z4
 (have aF:lg w k (L.map (·.2)):=by obtain⟨A,cap,rfl,hl,aq,ar⟩:=ao;(have:=S1.mk (w:=w) (f:=d_) (A:=A) (c:=cap) (l:=L.map (·.2)) (Q hl) aq λau=>by obtain⟨b,aG,e,hb,hc⟩:=ar (Q au);refine⟨b,aG,e,hb,λi s hi=>?_⟩;rw[Cx]at hi;obtain⟨q,p,rfl⟩:=M0.1 hi;have:=hc i q p 0 (d_ q.2) (by show q.1[0]?=_;rw[(ad q (gM p)).1];rfl);simpa using this);simpa using this);obtain⟨s5,av,aw,_⟩:=he_ T.kS Z;obtain⟨ax,ay,az,_⟩:=he_ T.kS aa;obtain⟨aA,aB,aC,_⟩:=he_ T.kS ab;refine⟨⟨a,b,l,r,L.map (·.2),s5.data.toList,ax.data.toList,aA.data.toList⟩,⟨(d.drop 2).take 5,(d.drop 7).take 5,k,?_,hl,an,aF⟩,am,wr,λs aD=>?_,Q ap,Wt.str aw z5,Wt.str az aj,Wt.str aC ak⟩
 ·simp only[<-K8]
  have ag:d=(d.drop 0).take 1++(d.drop 1).take 1++(d.drop 2).take 5++(d.drop 7).take 5++((d.drop 12).take 1++(d.drop 13).take 1++(d.drop 14).take 1++(d.drop 15).take 1):=by
   refine Zi λi=>?_
   match d,af with
   |[c0,c1,c2,c3,c4,c5,aP,aQ,aR,aS,ca,cb,aT,aU,aV,aW],_=>rfl
  rw[al,E,ac,av,ay,aB]at ag;(conv=>lhs;rw[ag]);simp
 ·obtain⟨q,p,rfl⟩:=pY.1 aD;exact(ad q p).2
def Nw{g d tS j k e:T_}{fs:Array Field}(T:Ea P g d tS j k fs)(l:P.underlying e=some (.slice g))(hc:∀(f:Nat)(b:List V_)(x:DataW H×List MemPlace),DataW.trod enc P w base spare held f d b=some x->Wt P d x.1->∃c,mU w c b/\yT c){f:Nat}{v:V_}{x:DataW H×List MemPlace}(h:DataW.trod enc P w base spare held f e [v]=some x)(hw:Wt P e x.1):∃L:List Ax,lC w v L/\∀a∈L,DN a:=by obtain⟨L,n,i,_⟩:=open_row l T.cA U T.bA (λb a=>Hw w a b/\DN a) (λm b y _ _ h hw=>Qp T hc h hw) h hw;refine⟨L.map (·.2),⟨L,rfl,n,λp o=>(i p o).1⟩,λa r=>?_⟩;obtain⟨q,s,rfl⟩:=pY.1 r;exact(i q s).2
end
end Go.Proofs.YtjmbkfjklemmpaaGreatDoor.Q
