import Derived.IntWalk
import Derived.Laws.ResultCell
import Derived.Lib.AppendStr
import Derived.Lib.ItoaNum
import Derived.Test.YtjmbkfjklemmpaaGreatDoorJ09
set_option linter.all false
set_option maxRecDepth 100000
set_option maxHeartbeats 32000000
open Go renaming World->W_,Value->V_,maxLen->m_,TypeId->T_
namespace Go.Proofs
abbrev ho_:=@Go.Sort.heap_grow_old
abbrev ig_:=@Go.Lib.itoa_length_le
end Go.Proofs
namespace Go.Proofs.YtjmbkfjklemmpaaGreatDoor
section
open Tryz
noncomputable def iX (p:Prop):Bool:= @decide p (Classical.propDecidable p)
def iq{p:Prop}:iX p=true↔p:=by unfold iX;exact @decide_eq_true_iff p (Classical.propDecidable p)
def P_{p:Prop}(h:p):iX p=true:=iq.2 h
def J_{p:Prop}(h:¬p):iX p=false:=by
 cases e:iX p with
 |false=>rfl
 |true=>exact absurd (iq.1 e) h
def sS{p q:Prop}(h:p↔q):iX p=iX q:=by rw[WA,iq,iq];exact h
def jD{p:Prop}:iX p=false↔¬p:=by constructor;(·intro h a;rw[P_ a]at h;cases h);·exact J_
def drop_cons{α:Type}{l:List α}{k:Nat}{x:α}(h:l[k]?=some x):l.drop k=x::l.drop (k+1):=by obtain⟨a,rfl⟩:=iR.1 h;exact Hq a
def w_{α:Type}{l:List α}{k:Nat}{x:α}(h:l[k]?=some x):l.take (k+1)=l.take k++[x]:=by rw[DC,h];rfl
def get_some{α:Type}{l:List α}{k:Nat}(h:k<l.length):∃x,l[k]?=some x:=⟨l[k],qY h⟩
abbrev Inc(l:List Int):Prop:=l.Pairwise (·<·)
def Valid(l:List Int):Prop:=(∀x∈l,0<=x/\x<=1023)/\Inc l
def jq(L:List (List Int)):Prop:=∀l∈L,Valid l
def vG{l:List Int}{k:Nat}{x:Int}(b:l[k]?=some x)(h:Valid (l.take k))(f:0<=x)(g:x<=1023)(j:∀y,0<k->l[k-1]?=some y->y<x):Valid (l.take (k+1)):=by rw[w_ b];refine⟨λy a=>?_,am_.2 ⟨h.2,Wy _ _,λy a z c=>?_⟩⟩;(·rcases gH.1 a with a|a;(·exact h.1 y a);·simp at a;subst a;exact⟨f,g⟩);·simp at c;subst c;obtain⟨i,hi,rfl⟩:=ad_ a;(have n:i<k:=by rw[qg]at hi;omega);have m:k<l.length:=(iR.1 b).1;have hl:=j (l[k-1]'U_) U (qY _);rw[Zx];by_cases e:i=k-1;(·subst e;exact hl);·have d:=SV.1 h.2 i (k-1) hi (by rw[qg];omega) U;rw[Zx,Zx]at d;exact Int.lt_trans d hl
def Fg{l:List Int}(h:Valid l){k:Nat}{x:Int}(a:l[k]?=some x):0<=x/\x<=1023/\∀y,0<k->l[k-1]?=some y->y<x:=by have b:=h.1 x (gM a);refine⟨b.1,b.2,λy f c=>?_⟩;obtain⟨d,rfl⟩:=iR.1 a;obtain⟨e,rfl⟩:=iR.1 c;exact SV.1 h.2 (k-1) k e d U
def cmpL:List Int->List Int->Int
 |[],[]=>0
 |[],_::_=> -1
 |_::_,[]=>1
 |x::a,y::b=>if x<y then-1 else if y<x then 1 else cmpL a b
def mg(a b:List Int):Int:=if a.length<b.length then-1 else if b.length<a.length then 1 else cmpL a b
def ZX{a b:List Int}{k:Nat}{x y:Int}(c:a[k]?=some x)(d:b[k]?=some y)(h:x<y):cmpL (a.drop k) (b.drop k)= -1:=by rw[drop_cons c,drop_cons d,cmpL,A_ h]
def ZY{a b:List Int}{k:Nat}{x y:Int}(c:a[k]?=some x)(d:b[k]?=some y)(h:y<x):cmpL (a.drop k) (b.drop k)=1:=by rw[drop_cons c,drop_cons d,cmpL,u_ U,A_ h]
def cmpL_eq{a b:List Int}{k:Nat}{x:Int}(c:a[k]?=some x)(d:b[k]?=some x):cmpL (a.drop k) (b.drop k)=cmpL (a.drop (k+1)) (b.drop (k+1)):=by rw[drop_cons c,drop_cons d,cmpL,u_ (gm_ _),u_ (gm_ _)]
def QA{a b:List Int}{k:Nat}(c:k<a.length)(h:b.length<=k):cmpL (a.drop k) (b.drop k)=1:=by obtain⟨x,d⟩:=get_some c;rw[drop_cons d,hi_ h,cmpL]
def Xm{a b:List Int}(h:a.length<b.length):cmpL (a.drop a.length) (b.drop a.length)= -1:=by obtain⟨x,c⟩:=get_some h;rw[Qb,drop_cons c,cmpL]
def Uw{a b:List Int}(h:b.length<=a.length):cmpL (a.drop a.length) (b.drop a.length)=0:=by rw[Qb,hi_ h,cmpL]
def Jk:∀{a b:List Int},cmpL a b=0↔a=b
 |[],[]=>by simp[cmpL]
 |[],_::_=>by simp[cmpL]
 |_::_,[]=>by simp[cmpL]
 |x::a,y::b=>by
  rw[cmpL];by_cases c:x<y;(·rw[A_ c];constructor;(·intro h;cases h);·intro h;injection h with h;omega);·by_cases d:y<x;(·rw[u_ c,A_ d];constructor;(·intro h;cases h);·intro h;injection h with h;omega);·rw[u_ c,u_ d,Jk];have:x=y:=U;subst this;simp
def NC:∀{a b:List Int},cmpL a b<0↔0<cmpL b a
 |[],[]=>by simp[cmpL]
 |[],_::_=>by simp[cmpL]
 |_::_,[]=>by simp[cmpL]
 |x::a,y::b=>by
  rw[cmpL,cmpL];by_cases c:x<y;(·rw[A_ c,u_ U,A_ c];decide);·by_cases d:y<x;(·rw[u_ c,A_ d,A_ d];decide);·rw[u_ c,u_ d,u_ d,u_ c];exact NC
def Fh:∀{a b c:List Int},cmpL a b<0->cmpL b c<0->cmpL a c<0
 |[],[],_,h,_=>by simp[cmpL]at h
 |[],_::_,[],_,h=>by simp[cmpL]at h
 |[],_::_,_::_,_,_=>by simp[cmpL]
 |_::_,[],_,h,_=>by simp[cmpL]at h
 |_::_,_::_,[],_,h=>by simp[cmpL]at h
 |x::a,y::b,z::c,h1,h2=>by
  rw[cmpL]at h1 h2 ⊢;by_cases f:x<y;(·by_cases d:y<z;(·rw[A_ U];decide);·by_cases e:z<y;(·rw[u_ d,A_ e]at h2;omega);·rw[A_ U];decide);·by_cases g:y<x;(·rw[u_ f,A_ g]at h1;omega);·rw[u_ f,u_ g]at h1;have:x=y:=U;subst this;by_cases d:x<z;(·rw[A_ d];decide);·by_cases e:z<x;(·rw[u_ d,A_ e]at h2;omega);·rw[u_ d,u_ e]at h2 ⊢;exact Fh h1 h2
def sU{a b:List Int}:mg a b=0↔a=b:=by unfold mg;by_cases c:a.length<b.length;(·rw[A_ c];constructor;(·intro h;cases h);·intro h;rw[h]at c;omega);·by_cases d:b.length<a.length;(·rw[u_ c,A_ d];constructor;(·intro h;cases h);·intro h;rw[h]at d;omega);·rw[u_ c,u_ d,Jk]
def Xn{a b:List Int}:mg a b<0↔0<mg b a:=by unfold mg;by_cases c:a.length<b.length;(·rw[A_ c,u_ U,A_ c];decide);·by_cases d:b.length<a.length;(·rw[u_ c,A_ d,A_ d];decide);·rw[u_ c,u_ d,u_ d,u_ c];exact NC
def QB{a b c:List Int}(e:mg a b<0)(d:mg b c<0):mg a c<0:=by unfold mg at e d ⊢;by_cases f:a.length<b.length;(·by_cases q1:b.length<c.length;(·rw[A_ U];decide);·by_cases q2:c.length<b.length;(·rw[u_ q1,A_ q2]at d;omega);·rw[A_ U];decide);·by_cases g:b.length<a.length;(·rw[u_ f,A_ g]at e;omega);·rw[u_ f,u_ g]at e;by_cases q1:b.length<c.length;(·rw[A_ U];decide);·by_cases q2:c.length<b.length;(·rw[u_ q1,A_ q2]at d;omega);·rw[u_ q1,u_ q2]at d;rw[u_ U,u_ U];exact Fh e d
def vN(a b:List Int):Prop:=mg a b<0
def Bv{a b c:List Int}(d:vN a b)(e:vN b c):vN a c:=QB d e
def uH(a:List Int):¬vN a a:=by unfold vN;rw[sU.2 rfl];decide
def Jl(a b:List Int):vN a b\/a=b\/vN b a:=by unfold vN;rcases hj_ (mg a b) 0 with h|h|h;(·exact .inl h);(·exact .inr (.inl (sU.1 h)));·exact .inr (.inr (Xn.2 h))
def Jm{a b:List Int}(h:vN a b):¬vN b a:=λc=>uH a (Bv h c)
def QC{a b:List Int}(h:a.length<b.length):vN a b:=by unfold vN mg;rw[A_ h];decide
def mG:∀{a b:List (List Int)},a.Pairwise vN->b.Pairwise vN->(∀x,x∈a↔x∈b)->a=b
 |[],[],_,_,_=>rfl
 |[],y::b,_,_,h=>by have:=(h y).2 S;cases this
 |x::a,[],_,_,h=>by have:=(h x).1 S;cases this
 |x::a,y::b,ha,hb,h=>by
  have d:=Dz.1 ha;have f:=Dz.1 hb;(have e:x=y:=by rcases jU.1 ((h x).1 S) with e|i;(·exact e);·rcases jU.1 ((h y).2 S) with e|j;(·exact e.symm);·exact absurd (f.1 x i) (Jm (d.1 y j)));subst e;congr 1;(refine mG d.2 f.2 λz=>⟨λc=>?_,λc=>?_⟩);(·rcases jU.1 ((h z).1 (by simp[c])) with e|g;(·subst e;exact absurd (d.1 z c) (uH z));·exact g);·rcases jU.1 ((h z).2 (by simp[c])) with e|g;(·subst e;exact absurd (f.1 z c) (uH z));·exact g
def jY:∀{a b:List Int},Inc a->Inc b->(∀x,x∈a↔x∈b)->a=b
 |[],[],_,_,_=>rfl
 |[],y::b,_,_,h=>by have:=(h y).2 S;cases this
 |x::a,[],_,_,h=>by have:=(h x).1 S;cases this
 |x::a,y::b,ha,hb,h=>by
  have d:=Dz.1 ha;have f:=Dz.1 hb;(have e:x=y:=by rcases jU.1 ((h x).1 S) with e|i;(·exact e);·rcases jU.1 ((h y).2 S) with e|j;(·exact e.symm);·have:=f.1 x i;have:=d.1 y j;omega);subst e;congr 1;(refine jY d.2 f.2 λz=>⟨λc=>?_,λc=>?_⟩);(·rcases jU.1 ((h z).1 (by simp[c])) with e|g;(·subst e;have:=d.1 z c;omega);·exact g);·rcases jU.1 ((h z).2 (by simp[c])) with e|g;(·subst e;have:=f.1 z c;omega);·exact g
def sV:∀{a:List Int},Inc a->a.Nodup
 |[],_=>hk_
 |x::a,h=>by
  have b:=Dz.1 h;exact du_.2 ⟨λc=>by have:=b.1 x c;omega,sV b.2⟩
def l5{α:Type}[DecidableEq α]:∀{a b:List α},a.Nodup->(∀x∈a,x∈b)->a.length<=b.length
 |[],_,_,_=>gL _
 |x::a,b,ha,h=>by
  have f:=du_.1 ha;have c:=h x S;(have g:∀y∈a,y∈b.erase x:=λy d=>(hl_ (λe=>f.1 (by rw[<-e];exact d))).2 (h y (by simp[d])));have i:=l5 f.2 g;have j:=hm_ c;have k:0<b.length:=hn_ c;simp only[p8];omega
def zW{a b:List Int}(c:Inc a)(h:∀x∈a,x∈b):a.length<=b.length:=l5 (sV c) h
end
section
open Go.RowKit Tryz
def cmp_eq(x y:Int)(w:W_){c:Int}(h:Lib.compareInt x y=c):z 63 #[x,y] w λe w'=>e=.returned c/\w=w':=(Tryz.cmp_Compare_int x y w).mono λ_ _ ⟨a,hw⟩=>⟨by rw[a,h],hw.symm⟩
def Lg{x y:Int}(h:x<y):Lib.compareInt x y= -1:=A_ h
def Lh{x y:Int}(h:y<x):Lib.compareInt x y=1:=by unfold Lib.compareInt;rw[u_ U,A_ h]
def Z0(x:Int):Lib.compareInt x x=0:=by unfold Lib.compareInt;rw[u_ (gm_ _),u_ (gm_ _)]
def yA(m v2:V_)(a b:List Int)(w:W_)(j:SI w m a)(l:SI w v2 b):z 64 #[m,v2] w λe w'=>e=.returned (cmpL a b)/\w=w':=by obtain⟨B,c1,rfl,_,o,u⟩:=j.form;obtain⟨C,c2,rfl,_,p,v⟩:=l.form;have g1:=j.jw;have t:=l.jw;unfold m_ at o p g1 t;clear j l o p;go_in;go_wp2;go_loop [11] (λi=>∃k:Nat,k<=a.length/\k<=b.length/\i=.int .i64 k/\Hid (cmpL a b=cmpL (a.drop k) (b.drop k))) (λi=>a.length-(intOf i).toNat);exact⟨0,gL _,gL _,rfl,O rfl⟩;obtain⟨k,E,L,rfl,c⟩:=hrel;by_cases q:k<a.length;(·obtain⟨b1,F,rfl,P,r⟩:=u U;obtain⟨x,f⟩:=get_some q;have H:=r k x f;clear r;by_cases A:k<b.length;(·obtain⟨b2,I,rfl,T,s⟩:=v U;obtain⟨y,g⟩:=get_some A;have K:=s k y g;clear s;rcases hj_ x y with h|h|h;(·have d:=(Lg h);go_wp2_with fail;refine(cmp_eq x y _ d).mono ?_;rintro e n ⟨rfl,rfl⟩;go_wp2;go_ret;exact⟨lu (by rw[c.o,ZX f g h]),rfl⟩);(·subst h;have d:=(Z0 x);go_wp2_with fail;refine(cmp_eq x x _ d).mono ?_;rintro e n ⟨rfl,rfl⟩;go_wp2;go_round;exact⟨k+1,U,U,R,O (by rw[c.o,cmpL_eq f g])⟩;exact M);·have d:=(Lh h);go_wp2_with fail;refine(cmp_eq x y _ d).mono ?_;rintro e n ⟨rfl,rfl⟩;go_wp2;go_ret;exact⟨lu (by rw[c.o,ZY f g h]),rfl⟩);·go_wp2;go_ret;exact⟨lu (by rw[c.o,QA q U]),rfl⟩);·(obtain rfl:k=a.length:=by omega);by_cases hl:a.length<b.length;(·go_wp2;go_ret;exact⟨lu (by rw[c.o,Xm hl]),rfl⟩);·go_wp2;go_ret;exact⟨lu (by rw[c.o,Uw U]),rfl⟩
def ND(i v2:V_)(a b:List Int)(w:W_)(d:SI w i a)(f:SI w v2 b):z 31 #[i,v2] w λe w'=>e=.returned (mg a b)/\w=w':=by obtain⟨l,c1,rfl⟩:=SI.slice_form d;obtain⟨m,c2,rfl⟩:=SI.slice_form f;have g1:=d.jw;have k:=f.jw;unfold m_ at g1 k;by_cases hl:a.length=b.length;(·(have hb:((a.length:Int) !=(b.length:Int))=false:=by simp[hl]);have c:mg a b=cmpL a b:=(by unfold mg;rw[u_ U,u_ U]);clear hl;go_in;go_wp2_with fail;refine(yA _ _ a b _ d f).mono ?_;rintro e j ⟨rfl,rfl⟩;go_wp2;go_ret;exact⟨lu c.symm,rfl⟩);·(have hb:((a.length:Int) !=(b.length:Int))=true:=by simp;omega);rcases Nat.lt_or_gt_of_ne hl with h|h;(·have g:Lib.compareInt (a.length:Int) (b.length:Int)= -1:=(Lg U);have c:mg a b= -1:=(by unfold mg;rw[A_ h]);go_in;go_wp2_with fail;refine(cmp_eq _ _ _ g).mono ?_;rintro e j ⟨rfl,rfl⟩;go_wp2;go_ret;exact⟨lu c.symm,rfl⟩);·have g:Lib.compareInt (a.length:Int) (b.length:Int)=1:=(Lh U);have c:mg a b=1:=(by unfold mg;rw[u_ U,A_ h]);go_in;go_wp2_with fail;refine(cmp_eq _ _ _ g).mono ?_;rintro e j ⟨rfl,rfl⟩;go_wp2;go_ret;exact⟨lu c.symm,rfl⟩
def Li(v:V_)(l:List Int)(w:W_)(h:SI w v l):z 57 #[v] w λe w'=>e=.returned (iX (Valid l))/\w=w':=by obtain⟨r,c1,rfl,_,n,p⟩:=h.form;have g1:=h.jw;unfold m_ at n g1;clear h n;go_in;go_wp2;go_loop [7] (λi=>∃k:Nat,k<=l.length/\i=.int .i64 k/\Hid (Valid (l.take k))) (λi=>l.length-(intOf i).toNat);exact⟨0,gL _,rfl,O ⟨λ_ h=>(by cases h),List.Pairwise.nil⟩⟩;obtain⟨k,s,rfl,d⟩:=hrel;by_cases q:k<l.length;(·obtain⟨b1,o,rfl,E,c⟩:=p U;obtain⟨x,b⟩:=get_some q;have t:=c k x b;by_cases u:x<0;(·have a:Hid (iX (Valid l)=false):=O (J_ λhv=>by have:=(Fg hv b).1;omega);clear c;go_wp2;go_ret;exact⟨fG a.o.symm,rfl⟩);·(have F:decide (x<0)=false:=by simp;omega);by_cases A:1023<x;(·have a:Hid (iX (Valid l)=false):=O (J_ λhv=>by have:=(Fg hv b).2.1;omega);clear c;go_wp2;go_ret;exact⟨fG a.o.symm,rfl⟩);·(have H:decide (1023<x)=false:=by simp;omega);by_cases I:0<k;(·obtain⟨y,f⟩:=get_some (l:=l) (k:=k-1) U;have g:=c (k-1) y f;clear c;obtain⟨j,rfl⟩:∃j,k=j+1:=⟨k-1,U⟩;have q1:decide ((0:Int)<((j+1:Nat):Int))=true:=S;have B:N w b1 (o+j) (iV y):=g;clear g;have K:(0:Int)<=(j:Int):=U;have L:(j:Int)<(l.length:Int):=U;by_cases P:x<=y;(·have a:Hid (iX (Valid l)=false):=O (J_ λhv=>by have:=(Fg hv b).2.2 y U f;omega);go_wp2;go_ret;exact⟨fG a.o.symm,rfl⟩);·(have T:decide (x<=y)=false:=by simp;omega);go_wp2;go_round;exact⟨j+1+1,U,R,O (vG b d.o U U (λz _ m=>by have e:=f;rw[m]at e;injection e with e;omega))⟩;exact M);·(have C:decide ((0:Int)<(k:Int))=false:=by simp;omega);(have q1:decide (0<k)=false:=by simp;omega);clear c;go_wp2;go_round;exact⟨k+1,U,R,O (vG b d.o U U (λz m _=>U))⟩;exact M);·(obtain rfl:k=l.length:=by omega);have a:Hid (iX (Valid l)=true):=O (P_ (by have:=d.o;rwa[jh]at this));go_wp2;go_ret;exact⟨fG a.o.symm,rfl⟩
def CP(v:V_)(l:List Int)(w:W_)(h:SI w v l){b:Bool}(hb:iX (Valid l)=b):z 57 #[v] w λe w'=>e=.returned b/\w=w':=by subst hb;exact Li v l w h
def Ux(v:V_)(L:List (List Int))(w:W_)(h:SS w v L):z 27 #[v] w λe w'=>e=.returned (iX (jq L))/\w=w':=by
 obtain⟨o,c1,rfl,y,j,m⟩:=h.form;unfold m_ at j;clear h;go_in;go_wp2;go_loop [7] (λi=>∃k:Nat,k<=L.length/\i=.int .i64 k/\Hid (∀l∈L.take k,Valid l)) (λi=>L.length-(intOf i).toNat);exact⟨0,gL _,rfl,O λ_ h=>by cases h⟩;obtain⟨k,p,rfl,d⟩:=hrel;by_cases n:k<L.length
 ·obtain⟨b1,q,rfl,A,f⟩:=m U
  obtain⟨x,b⟩:=get_some n;obtain⟨u,r,c⟩:=f k x b;obtain⟨s,t,rfl⟩:=SI.slice_form c;clear f
  cases hv:iX (Valid x) with
  |true=>
   have a:=O hv;clear hv;go_wp2_with fail;refine(CP _ x _ c a.o).mono ?_;rintro e g ⟨rfl,rfl⟩;go_wp2;go_round
   exact⟨k+1,U,R,O λl hl=>by
    rw[w_ b]at hl;rcases gH.1 hl with hl|hl;·exact d.o l hl
    ·simp at hl;subst hl;exact iq.1 a.o⟩
   exact M
  |false=>
   have a:=O hv;clear hv;go_wp2_with fail;refine(CP _ x _ c a.o).mono ?_;rintro e g ⟨rfl,rfl⟩;go_wp2;go_ret;exact⟨fG (J_ λh=>jD.1 a.o (h x (gM b))).symm,rfl⟩
 ·(obtain rfl:k=L.length:=by omega);go_wp2;go_ret;exact⟨fG (P_ (by have:=d.o;rwa[jh]at this)).symm,rfl⟩
def valid_eq(v:V_)(L:List (List Int))(w:W_)(h:SS w v L){b:Bool}(hb:iX (jq L)=b):z 27 #[v] w λe w'=>e=.returned b/\w=w':=by subst hb;exact Ux v L w h
def Zr(a b:List Int)(k p:Nat):Prop:=(∀x∈a.take k,x∈b)/\∀y∈b.take p,∀x∈a.drop k,y<x
def Zr.step{a b:List Int}{k p:Nat}{x y:Int}(h:Zr a b k p)(g:Inc a)(i:a[k]?=some x)(j:b[p]?=some y)(f:y<x):Zr a b k (p+1):=by refine⟨h.1,λz c t d=>?_⟩;rw[w_ j]at c;rcases gH.1 c with c|c;(·exact h.2 z c t d);·simp at c;subst c;have e:(a.drop k).Pairwise (·<·):=g.sublist (gf_ k a);rw[drop_cons i]at d e;rcases jU.1 d with rfl|d;(·exact f);·exact Int.lt_trans f ((Dz.1 e).1 t d)
def Zr.next{a b:List Int}{k p:Nat}{x:Int}(h:Zr a b k p)(d:a[k]?=some x)(e:b[p]?=some x):Zr a b (k+1) p:=by refine⟨λz c=>?_,λz c t f=>h.2 z c t ?_⟩;(·rw[w_ d]at c;rcases gH.1 c with c|c;(·exact h.1 z c);·simp at c;subst c;exact gM e);·rw[drop_cons d];exact ZJ _ f
def Zr.none{a b:List Int}{k p:Nat}{x:Int}(h:Zr a b k p)(d:a[k]?=some x)(hb:Inc b)(g:∀y,b[p]?=some y->x<y):¬∀z∈a,z∈b:=by intro l;have c:=l x (gM d);rw[<-eb_ p b]at c;rcases gH.1 c with c|c;(·have:=h.2 x c x (by rw[drop_cons d];simp);omega);·rcases PX p b.length with i|j;(·obtain⟨y,e⟩:=get_some i;have m:=g y e;have f:(b.drop p).Pairwise (·<·):=hb.sublist (gf_ p b);rw[drop_cons e]at c f;rcases jU.1 c with rfl|c;(·omega);·have:=(Dz.1 f).1 x c;omega);·rw[hi_ j]at c;cases c
def QD(n v2:V_)(a b:List Int)(w:W_)(l:SI w n a)(m:SI w v2 b)(u:Inc a)(hb:Inc b):z 159 #[n,v2] w λe w'=>e=.returned (iX (∀x∈a,x∈b))/\w=w':=by obtain⟨K,c1,rfl,_,o,E⟩:=l.form;obtain⟨L,c2,rfl,_,r,F⟩:=m.form;have g1:=l.jw;have v:=m.jw;unfold m_ at o r g1 v;clear l m o r;go_in;go_wp2;go_loop [5,10] (λq i=>∃k p:Nat,k<=a.length/\p<=b.length/\i=.int .i64 k/\q=.int .i64 p/\Hid (Zr a b k p)) (λ_ i=>a.length-(intOf i).toNat);exact⟨0,0,gL _,gL _,rfl,rfl,O ⟨λ_ h=>(by cases h),λ_ h=>(by cases h)⟩⟩;obtain⟨k,p,P,g,rfl,rfl,c⟩:=hrel;by_cases H:k<a.length;(·obtain⟨b1,T,rfl,aa,s⟩:=E U;obtain⟨x,f⟩:=get_some H;have W:=s k x f;clear s;go_wp2;go_loop [5] (λq=>∃p:Nat,p<=b.length/\q=.int .i64 p/\Hid (Zr a b k p)) (λq=>b.length-(intOf q).toNat);exact⟨p,g,rfl,c⟩;clear g c;obtain⟨p,g,rfl,c⟩:=hrel;by_cases I:p<b.length;(·obtain⟨b2,X,rfl,ab,t⟩:=F U;obtain⟨y,j⟩:=get_some I;have Z:=t p y j;clear t;have A:((p:Int)==(b.length:Int))=false:=KG.2 U;rcases hj_ y x with h|h|h;(·go_wp2;go_round;exact⟨p+1,U,R,O (c.o.step u f j h)⟩;exact M);(·subst h;have B:(y !=y)=false:=S;have C:decide (y<y)=false:=S;go_wp2;go_round;exact⟨k+1,p,U,g,R,rfl,O (c.o.next f j)⟩;exact M);·(have B:(y !=x)=true:=by simp;omega);(have C:decide (y<x)=false:=by simp;omega);go_wp2;go_ret;exact⟨fG (J_ (c.o.none f hb (λz d=>by rw[j]at d;injection d with d;omega))).symm,rfl⟩);·(obtain rfl:p=b.length:=by omega);have A:((b.length:Int)==(b.length:Int))=true:=S;go_wp2;go_ret;exact⟨fG (J_ (c.o.none f hb (λz d=>by rw[KI (fU _)]at d;cases d))).symm,rfl⟩);·(obtain rfl:k=a.length:=by omega);go_wp2;go_ret;exact⟨fG (P_ (by have:=c.o.1;rwa[jh]at this)).symm,rfl⟩
def Sub(a b:List Int):Prop:=∀x∈a,x∈b
def qB(a b:List Int):Prop:=a.length<b.length/\Sub a b
def Lj(g v2:V_)(a b:List Int)(w:W_)(c:SI w g a)(d:SI w v2 b)(i:Inc a)(hb:Inc b):z 98 #[g,v2] w λe w'=>e=.returned (iX (qB a b))/\w=w':=by obtain⟨k,c1,rfl⟩:=SI.slice_form c;obtain⟨l,c2,rfl⟩:=SI.slice_form d;have g1:=c.jw;have j:=d.jw;unfold m_ at g1 j;by_cases hl:a.length<b.length;(·have f:iX (qB a b)=iX (∀x∈a,x∈b):=(sS ⟨λh=>h.2,λh=>⟨hl,h⟩⟩);go_in;go_wp2_with fail;refine(QD _ _ a b _ c d i hb).mono ?_;rintro e m ⟨rfl,rfl⟩;go_wp2;go_ret;exact⟨fG f.symm,rfl⟩);·have f:iX (qB a b)=false:=(J_ λh=>hl h.1);(have n:decide (a.length<b.length)=false:=by simp;omega);go_in;go_wp2;go_ret;exact⟨fG f.symm,rfl⟩
def CQ(d v2:V_)(a b:List Int)(w:W_)(f:SI w d a)(g:SI w v2 b)(h:Inc a)(hb:Inc b){c:Bool}(hc:iX (qB a b)=c):z 98 #[d,v2] w λe w'=>e=.returned c/\w=w':=by subst hc;exact Lj d v2 a b w f g h hb
def QE(a b:List Int):Prop:=∃x∈a,x∈b
noncomputable def K3:KK prog 3 Int:=abd underlying3
noncomputable def kQ (l:List Int):Int->Option V_:=λx=>if x∈l then some (.bool true) else none
def nA(l:List Int)(x:Int):upd (kQ l) x (some (.bool true))=kQ (l++[x]):=by funext y;unfold upd kQ;by_cases h:y=x;(·rw[A_ h,A_ (by simp[h])]);·rw[u_ h];by_cases a:y∈l;(·rw[A_ a,A_ (by simp[a])]);·rw[u_ a,u_ (by simp[h,a])]
def Xo(l:List Int)(x:Int):(kQ l x).getD (.bool false)=.bool (iX (x∈l)):=by unfold kQ;by_cases h:x∈l;(·rw[A_ h,P_ h];rfl);·rw[u_ h,J_ h];rfl
def sW{w:W_}{b n:Nat}{l:List Int}(h:t_ w K3 b n (kQ l)){x:Int}(a:oG x){c:Bool}(hc:iX (x∈l)=c):(Instr.lookup 105 (.map (some b)) (.int .i64 x) false).run prog w=.ok (.bool c) w:=by have:=h.look underlying105 (zeroValue4 w) a;rw[Xo,hc]at this;exact this
def Uy(A v2:V_)(a b:List Int)(w:W_)(o:SI w A a)(l:SI w v2 b)(H:∀x∈a,oG x)(hb:∀x∈b,oG x)(ac:a.length<=1000000):z 91 #[A,v2] w λe w'=>e=.returned (iX (QE a b))/\G w w':=by
 obtain⟨Z,c1,rfl,_,f,P⟩:=o.form;obtain⟨aa,c2,rfl,_,C,T⟩:=l.form;have I:=l.jw;unfold m_ at f C I;clear o l f C;have ad:= @run_makeMap prog;go_in;go_wp2;go_loopw [13] (λi wr=>∃k:Nat,k<=a.length/\i=.int .i64 k/\Hid (t_ wr K3 w.heap.size k (kQ (a.take k)))/\G w wr) (λi _=>a.length-(intOf i).toNat);exact⟨0,gL _,rfl,O (by have:=t_.made w K3;exact this.congr λx _=>by unfold kQ;rw[u_ S]),(fD _ _).alloc (fU _) _⟩;obtain⟨k,K,rfl,r,m⟩:=hrel;by_cases u:k<a.length;·obtain⟨b1,s,rfl,v,n⟩:=P U;obtain⟨x,c⟩:=get_some u;have L:=(m.cell (p:=⟨b1,s+k,none⟩) v).trans (n k x c);have g:=O (H x (gM c));have q:=O c;clear n c;go_wp2_with (at_mapUpdate;refine iO _ rfl _ _ _ 105 rfl 4 K3 underlying105 w.heap.size k _ rfl r.o ?c1 x g.o (.bool true) rfl rfl ?_);(case c1=>unfold m_;omega);intro ab f E;rw[nA,<-w_ q.o]at f;have W:=O f;have X:=rA m E (λk e=>by cases e;exact fU _);clear f E;go_wp2;go_roundw;exact⟨k+1,U,R,W,X⟩;exact M
 ·obtain rfl:k=a.length:=by omega
  have F:t_ wr K3 w.heap.size a.length (kQ a):=(by have:=r.o;rwa[jh]at this);clear r;go_wp2;go_loop [22] (λi=>∃k:Nat,k<=b.length/\i=.int .i64 k/\Hid (∀x∈b.take k,x∉a)) (λi=>b.length-(intOf i).toNat);exact⟨0,gL _,rfl,O λ_ h=>by cases h⟩;obtain⟨k,K,rfl,B⟩:=hrel;by_cases u:k<b.length
  ·obtain⟨b1,s,rfl,v,n⟩:=T U
   obtain⟨x,c⟩:=get_some u;have L:=(m.cell (p:=⟨b1,s+k,none⟩) v).trans (n k x c);have q:=O c;have g:=hb x (gM c);clear n c
   cases j:iX (x∈a) with
   |true=>
    have hl:=sW F g j;have t:=O j;clear j g;go_wp2;go_ret;exact⟨fG (P_ ⟨x,iq.1 t.o,gM q.o⟩).symm,m⟩
   |false=>
    have hl:=sW F g j;have t:=O j;clear j g;go_wp2;go_round
    exact⟨k+1,U,R,O λy d=>by
     rw[w_ q.o]at d;rcases gH.1 d with d|d;·exact B.o y d
     ·simp at d;subst d;exact jD.1 t.o⟩
    exact M
  ·(obtain rfl:k=b.length:=by omega);go_wp2;go_ret;exact⟨fG (J_ (by have:=B.o;rw[jh]at this;rintro⟨x,o,l⟩;exact this x l o)).symm,m⟩
def NG(d v2:V_)(a b:List Int)(w:W_)(f:SI w d a)(g:SI w v2 b)(h:∀x∈a,oG x)(hb:∀x∈b,oG x)(i:a.length<=1000000){c:Bool}(hc:iX (QE a b)=c):z 91 #[d,v2] w λe w'=>e=.returned c/\G w w':=by subst hc;exact Uy d v2 a b w f g h hb i
def wfS(L:List (List Int)):Prop:=∀l∈L,∀x∈l,oG x
def Ll{x:Int}:oG x↔-9223372036854775808<=x/\x<=9223372036854775807:=by unfold oG;simp only[Lit.wf,KJ,I5];exact gb_
def r9{x:Int}(a: -9223372036854775808<=x)(b:x<=9223372036854775807):oG x:=Ll.2 ⟨a,b⟩
def Xp(g v2:V_)(L:List (List Int))(s:List Int)(w:W_)(j:SS w g L)(m:SI w v2 s)(B:wfS L)(n:∀x∈s,oG x)(v:s.length<=1000000):z 50 #[g,v2] w λe w'=>e=.returned (iX (∀l∈L,QE s l))/\G w w':=by
 obtain⟨P,c1,rfl,ab,F,H⟩:=j.form;unfold m_ at F;obtain⟨T,c2,rfl⟩:=SI.slice_form m;clear j;go_in;go_wp2;go_loopw [9] (λi wr=>∃k:Nat,k<=L.length/\i=.int .i64 k/\Hid (∀l∈L.take k,QE s l)/\G w wr) (λi _=>L.length-(intOf i).toNat);exact⟨0,gL _,rfl,O (λ_ h=>by cases h),fD _ _⟩;obtain⟨k,W,rfl,o,a⟩:=hrel;by_cases I:k<L.length
 ·obtain⟨b1,C,rfl,K,A⟩:=H U
  obtain⟨x,c⟩:=get_some I;obtain⟨u,q,d⟩:=A k x c;obtain⟨X,Z,rfl⟩:=SI.slice_form d;have aa:=(a.cell (p:=⟨b1,C+k,none⟩) K).trans q;have r:=(S1.up d a);have y:=(S1.up m a);have t:=(B x (gM c));clear d A q
  cases hv:iX (QE s x) with
  |true=>
   have b:=O hv;clear hv;go_wp2_with fail;refine(NG _ _ s x _ y r n t v b.o).mono ?_;rintro e E ⟨rfl,f⟩;go_wp2;go_roundw
   exact⟨k+1,U,R,O (λl hl=>by
    rw[w_ c]at hl;rcases gH.1 hl with hl|hl;·exact o.o l hl
    ·simp at hl;subst hl;exact iq.1 b.o),b_ a f⟩
   exact M
  |false=>
   have b:=O hv;clear hv;go_wp2_with fail;refine(NG _ _ s x _ y r n t v b.o).mono ?_;rintro e E ⟨rfl,f⟩;go_wp2;go_ret;exact⟨fG (J_ λh=>jD.1 b.o (h x (gM c))).symm,b_ a f⟩
 ·(obtain rfl:k=L.length:=by omega);go_wp2;go_ret;exact⟨fG (P_ (by have:=o.o;rwa[jh]at this)).symm,a⟩
def Z4(a v2:V_)(L:List (List Int))(s:List Int)(w:W_)(b:SS w a L)(d:SI w v2 s)(f:wfS L)(g:∀x∈s,oG x)(h:s.length<=1000000){c:Bool}(hc:iX (∀l∈L,QE s l)=c):z 50 #[a,v2] w λe w'=>e=.returned c/\G w w':=by subst hc;exact Xp a v2 L s w b d f g h
def Tv:(prog.info? 280).map (·.size)=some 2:=by kernel_rfl
def info5:(prog.info? 5).map (λi=>(i.zero,i.size,i.bytes))=some (some (.int .u8 0),1,1):=by kernel_rfl
abbrev Xq(B b:Nat)(bs:List V_)(w:W_):Prop:=Lib.IsBuilder 280 5 B b bs w
abbrev abN(B b:Nat)(bs:List V_)(w:W_):Prop:=Lib.BuilderAt 280 5 B b (.pointer (some ⟨b,0,none⟩)) bs w
def Fj(b:Nat)(w:W_)(c:N w b 0 (.pointer (some ⟨b,0,none⟩))):z 267 #[.pointer (some ⟨b,0,none⟩)] w λe w'=>e=.returned (.tuple #[])/\w=w':=by obtain⟨j,a,_⟩:=M0.1 Tv;go_in;go_wp2;rw[Lib.run_neq_ptr_same w _ underlying277 a];go_wp2;go_end0;exact⟨rfl,rfl⟩
def DT(b:Nat)(w:W_)(g:N w b 0 (.pointer none))(c:w.shape? b=some (280,2))(h:w.frozen? ⟨b,0,none⟩=false):z 267 #[.pointer (some ⟨b,0,none⟩)] w λe w'=>e=.returned (.tuple #[])/\w'=w.setCell ⟨b,0,none⟩ (.pointer (some ⟨b,0,none⟩)):=by obtain⟨j,a,d⟩:=M0.1 Tv;(have f:liesAt prog prog.depth 280 (2 / prog.cellsOf 280) 0 280 1=true:=by kernel_rfl);go_in;go_wp2;rw[Lib.run_to_unsafe w ⟨b,0,none⟩ underlying277 underlying364 a (by rw[d];decide) c (Nat.zero_lt_succ 1)];simp only[Result.andThen];rw[ji_];go_wp2;rw[run_callFunc_extern func302 (by kernel_rfl) (by kernel_rfl) (by kernel_rfl) (e:=Extern.AbiNoEscape.same) (by kernel_rfl)];rw[Lib.run_noEscape];simp only[Result.andThen];rw[ji_];go_wp2;rw[Lib.run_from_unsafe w ⟨b,0,none⟩ underlying364 underlying277 a c f];simp only[Result.andThen];rw[ji_];go_wp2;go_end0;exact⟨rfl,rfl⟩
def yB(B b:Nat)(a:List V_)(w:W_)(h:Xq B b a w):z 267 #[.pointer (some ⟨b,0,none⟩)] w λe w'=>e=.returned (.tuple #[])/\abN B b a w'/\Below B w w':=by rcases h with h|h;(·refine(DT b w h.cell0 h.shape h.frozen0).mono ?_;rintro e w' ⟨rfl,rfl⟩;exact⟨rfl,h.used _,(fD B w).setCell (p:=⟨b,0,none⟩) h.1 _⟩);·refine(Fj b w h.cell0).mono ?_;rintro e w' ⟨rfl,rfl⟩;exact⟨rfl,h,fD B _⟩
def DU(B b:Nat)(a:List V_)(s:ByteArray)(w:W_)(h:Xq B b a w)(I:a.length+s.size<=140737488355328)(H:B<=w.heap.size):z 219 #[.pointer (some ⟨b,0,none⟩),.string s] w λe w'=>e=.returned (.tuple #[s.size,.nilIface])/\abN B b (a++Lib.strCells s) w'/\Below B w w':=by obtain⟨i0,hi,q,r,t⟩:=qV info5;go_in;go_wp2_with fail;refine(yB B b a _ h).mono ?_;rintro e g ⟨rfl,⟨l,v,d,m,u⟩,i⟩;(have c0:N g b 0 (.pointer (some ⟨b,0,none⟩)):=by rw[Lib.cell_of_heap d];rfl);(have c1:N g b 1 v:=by rw[Lib.cell_of_heap d];rfl);go_wp2_with (at_builtin;refine Lib.wpList_append_own_string _ rfl _ _ 278 9 rfl B 5 i0 underlying278 underlying9 hi q r t _ _ _ rfl m s rfl ?c3 ?c4 ?c5 ?_);(case c3=>unfold m_;omega);(case c4=>omega);(case c5=>have:=i.size;omega);intro v' c n j _;have x:b<g.heap.size:=(vR.1 d).1;have f:c.heap[b]?=some (.cells #[.pointer (some ⟨b,0,none⟩),v] 280 (0,0)):=(j.block b x (λe=>u e.symm)).trans d;(have A:N c b 0 (.pointer (some ⟨b,0,none⟩)):=by rw[Lib.cell_of_heap f];rfl);(have C:N c b 1 v:=by rw[Lib.cell_of_heap f];rfl);have E:c.frozen? ⟨b,1,none⟩=false:=Lib.frozen_of_heap f 1;have y:=i.grown j (by have:=i.size;omega) (λk o=>(m.lt k o).1);obtain⟨F,cap,rfl⟩:=o_ n;clear j;go_wp2;go_ret2;refine⟨rfl,?_,y.setCell (p:=⟨b,1,none⟩) l _⟩;exact Lib.BuilderAt.put (T:=280) (e:=5) l f (bs':=a++Lib.strCells s) (by simpa[Lib.strCells_length]using n) D
def Io(B b:Nat)(a:List V_)(c:Int)(w:W_)(h:Xq B b a w)(W:a.length+1<=140737488355328)(P:B<=w.heap.size):z 221 #[.pointer (some ⟨b,0,none⟩),.int .u8 c] w λe w'=>e=.returned .nilIface/\abN B b (a++[.int .u8 c]) w'/\Below B w w':=by
 obtain⟨i0,hi,x,y,A⟩:=qV info5;go_in;go_wp2_with fail;refine(yB B b a _ h).mono ?_;rintro e d ⟨rfl,⟨o,v,i,r,C⟩,l⟩;(have c0:N d b 0 (.pointer (some ⟨b,0,none⟩)):=by rw[Lib.cell_of_heap i];rfl);(have c1:N d b 1 v:=by rw[Lib.cell_of_heap i];rfl);go_wp2_with (at_builtin;refine wpList_append_own _ rfl _ _ 278 rfl B 5 i0 (.int .u8 0) 1 1 underlying278 hi x y A rfl D _ _ _ rfl (r.alloc _) ⟨d.heap.size,0,none⟩ 1 1 [.int .u8 c] rfl rfl ?c1 ?c2 ?c3 ?c4 ?c5 ?_)
 case c1=>
  intro j u f
  match j,f with
  |0,f=>simp at f;subst f;simp[Addr.add]
 (case c2=>intro u q;simp at q;subst q;rfl);(case c3=>unfold m_;omega);(case c4=>omega);(case c5=>have:=l.size;simp;omega);intro v' g s n _;have E:b<d.heap.size:=(vR.1 i).1;(have m:g.heap[b]?=some (.cells #[.pointer (some ⟨b,0,none⟩),v] 280 (0,0)):=by rw[n.block b (by simp;omega) (λe=>C e.symm),Lib.alloc_old d _ b E];exact i);(have H:N g b 0 (.pointer (some ⟨b,0,none⟩)):=by rw[Lib.cell_of_heap m];rfl);(have I:N g b 1 v:=by rw[Lib.cell_of_heap m];rfl);have K:g.frozen? ⟨b,1,none⟩=false:=Lib.frozen_of_heap m 1;have F:=(l.alloc (by have:=l.size;omega) _).grown n (by have:=l.size;simp;omega) (λk t=>(r.lt k t).1);obtain⟨L,cap,rfl⟩:=o_ s;clear n;go_wp2;go_ret;refine⟨rfl,?_,F.setCell (p:=⟨b,1,none⟩) o _⟩;exact Lib.BuilderAt.put (T:=280) (e:=5) o m (bs':=a++[.int .u8 c]) (Q s) D
end
section
open Go.RowKit Go.Sort Tryz
def Tab(w:W_):Prop:=Lib.TabIs prog w "internal/strconv.uint64pow10" .u64 Lib.pow10Tab
def afz:∃g,prog.globalNamed "internal/strconv.uint64pow10"=some g:=⟨4,by kernel_rfl⟩
def Tab.keep{w w':W_}(h:Tab w)(b:∀g,prog.globalNamed "internal/strconv.uint64pow10"=some g->g<w.heap.size->w'.heap[g]?=w.heap[g]?):Tab w':=by obtain⟨g,a⟩:=afz;unfold Tab Lib.TabIs World.var? at h ⊢;rw[a]at h ⊢;simp only[Option.bind_some]at h ⊢;rcases PX g w.heap.size with c|d;(·rw[b g a c];exact h);·rw[Array.getElem?_eq_none d]at h;cases h
def Tab.up{w w':W_}(h:Tab w)(hb:G w w'):Tab w':=h.keep λg _ a=>hb.block g a
def below_grow(w:W_)(q:Nat)(os:Array Obj):G w (grow (w.drewN q) os):=
 ⟨rfl,rfl,rfl,by simp[grow,World.drewN],λi hi=>by
  show(w.heap++os)[i]?=_
  rw[dk_ hi]⟩
def Xq.up{B b:Nat}{f:List V_}{w w':W_}(h:Xq B b f w)(hb:G w w'):Xq B b f w':=by rcases h with⟨c,v,a,e,d⟩|⟨c,v,a,e,d⟩;(·exact .inl ⟨c,v,(hb.block b (vR.1 a).1).trans a,gB e hb,d⟩);·exact .inr ⟨c,v,(hb.block b (vR.1 a).1).trans a,gB e hb,d⟩
def mV(l:List Int):List UInt8:=l.flatMap λn=>Lib.itoa n++[44]
def Uz(l:List Int)(x:Int):mV (l++[x])=mV l++(Lib.itoa x++[44]):=by simp[mV]
def Fp:∀(l:List Int),(∀x∈l,oG x)->(mV l).length<=22*l.length
 |[],_=>by simp[mV]
 |x::l,h=>by
  (have b:=Fp l λy c=>h y (by simp[c]));have a:=Ll.1 (h x S);have d:=ig_ x a.1 a.2;unfold mV at b ⊢;rw[M5,lG,lG,p8];simp only[p8,MV];omega
def byteCells_append(a b:List UInt8):Lib.byteCells (a++b)=Lib.byteCells a++Lib.byteCells b:=by simp[Lib.byteCells]
def Z5(v:V_)(l:List Int)(w:W_)(h:SI w v l)(hw:∀x∈l,oG x)(hl:l.length<=1000000)(K:Tab w):z 158 #[v] w λe w'=>e=.returned (mV l)/\G w w':=by obtain⟨ac,c1,rfl,_,s,X⟩:=h.form;unfold m_ at s;clear h s;go_in;go_wp2;go_loopw [8] (λi wr=>∃k:Nat,k<=l.length/\i=.int .i64 k/\Hid (Xq w.heap.size w.heap.size (Lib.byteCells (mV (l.take k))) wr)/\G w wr) (λi _=>l.length-(intOf i).toNat);exact⟨0,gL _,rfl,O (Lib.fresh_isBuilder _ _ w),(fD _ _).alloc (fU _) _⟩;obtain⟨k,ad,rfl,b,a⟩:=hrel;by_cases Z:k<l.length;(·obtain⟨b1,L,rfl,j,t⟩:=X U;obtain⟨x,c⟩:=get_some Z;have P:=(a.cell (p:=⟨b1,L+k,none⟩) j).trans (t k x c);have d:=Ll.1 (hw x (gM c));(have I:=Fp (l.take k) λy T=>hw y (Qc T));have hi:=ig_ x d.1 d.2;rw[qg]at I;have W:=(show mV (l.take (k+1))=mV (l.take k)++(Lib.itoa x++[44]) by rw[w_ c,Uz]);clear t c;generalize mV (l.take k)=kl at *;generalize hit:Lib.itoa x=it at *;have ae:kl.length<=22*k:=U;clear I;go_wp2_with fail;refine(Tryz.strconv_Itoa x d.1 d.2 _ (K.up a)).mono ?_;rintro e m ⟨rfl,q,os,n⟩;rw[hit];(have g:G wr m:=by rw[n];exact below_grow wr q os);clear n;have u:=(Xq.up b.o g);have A:=b_ a g;clear b g P;go_wp2_with fail;refine(DU w.heap.size w.heap.size _ ⟨it.toArray⟩ _ u (by rw[Lib.byteCells_length];show kl.length+it.toArray.size<=_;simp;omega) A.size).mono ?_;rintro e o ⟨rfl,B,C⟩;have E:G w o:=A.trans C;have f:Xq w.heap.size w.heap.size (Lib.byteCells (kl++it)) o:=(.inr (by rw[byteCells_append];exact B));clear B C u;go_wp2_with fail;refine(Io w.heap.size w.heap.size _ 44 _ f (by rw[Lib.byteCells_length,lG];omega) E.size).mono ?_;rintro e r ⟨rfl,F,H⟩;have aa:G w r:=E.trans H;have ab:Hid (Xq w.heap.size w.heap.size (Lib.byteCells (mV (l.take (k+1)))) r):=O (.inr (by rw[W,<-Ho,byteCells_append (kl++it)];exact F));clear F H f;go_wp2;go_roundw;exact⟨k+1,U,R,ab,aa⟩;exact M);·(obtain rfl:k=l.length:=by omega);have f:Xq w.heap.size w.heap.size (Lib.byteCells (mV l)) wr:=(by have:=b.o;rwa[jh]at this);clear b;go_wp2_with fail;refine(Tryz.Builder_String_any w.heap.size w.heap.size (mV l) _ f a.size).mono ?_;rintro e m ⟨rfl,j⟩;go_wp2;go_ret;exact⟨rfl,a.trans j⟩
def Jo(c:UInt8):Prop:=48<=c.toNat/\c.toNat<=57
def Bw(u:Nat):∀c∈Lib.decDigits u,Jo c:=by
 induction u using Nat.strongRecOn with
 |ind u a=>
  intro c hc;rw[Lib.decDigits]at hc;by_cases h:u<10;(·rw[dif_pos h]at hc;obtain rfl:=gy.1 hc;unfold Jo;rw[jj_];omega);·rw[dif_neg h]at hc;rcases gH.1 hc with hc|hc;(·exact a (u / 10) U c hc);·obtain rfl:=gy.1 hc;unfold Jo;rw[jj_];omega
def Fq(l:List UInt8):Nat:=l.foldl (λn c=>n*10+(c.toNat-48)) 0
def uI(u:Nat):Fq (Lib.decDigits u)=u:=by
 induction u using Nat.strongRecOn with
 |ind u a=>
  rw[Lib.decDigits];by_cases h:u<10;(·rw[dif_pos h];simp only[Fq,fi_,List.foldl_nil];rw[jj_];omega);·rw[dif_neg h];unfold Fq at a ⊢;rw[ac_,a (u / 10) U];simp only[fi_,List.foldl_nil];rw[jj_];omega
def Jp(n:Int):∀c∈Lib.itoa n,c≠44:=by intro c hc e;subst e;unfold Lib.itoa at hc;split at hc;(·rcases jU.1 hc with h|h;(·cases h);·have:=Bw _ _ h;unfold Jo at this;simp at this);·have:=Bw _ _ hc;unfold Jo at this;simp at this
def Xr{a b:Int}(h:Lib.itoa a=Lib.itoa b):a=b:=by(have f:∀u:Nat,∀r,Lib.decDigits u≠45::r:=λu r e=>by have:=Bw u 45 (by rw[e];simp);unfold Jo at this;simp at this);unfold Lib.itoa at h;by_cases c:a<0<;>by_cases d:b<0;(·rw[A_ c,A_ d]at h;injection h with _ h;have:=qQ Fq h;rw[uI,uI]at this;omega);(·rw[A_ c,u_ d]at h;exact absurd h.symm (f _ _));(·rw[u_ c,A_ d]at h;exact absurd h (f _ _));·rw[u_ c,u_ d]at h;have:=qQ Fq h;rw[uI,uI]at this;omega
def CS:∀{a b r s:List UInt8},(∀c∈a,c≠44)->(∀c∈b,c≠44)->a++44::r=b++44::s->a=b/\r=s
 |[],[],_,_,_,_,h=>by injection h with _ h;exact⟨rfl,h⟩
 |[],c::b,_,_,_,hb,h=>by injection h with h _;exact absurd h.symm (hb c S)
 |c::a,[],_,_,ha,_,h=>by injection h with h _;exact absurd h (ha c S)
 |c::a,d::b,r,s,ha,hb,h=>by
  injection h with f g;obtain⟨i,j⟩:=CS (a:=a) (b:=b) (λx e=>ha x (by simp[e])) (λx e=>hb x (by simp[e])) g;exact⟨by rw[f,i],j⟩
def NH:∀{a b:List Int},mV a=mV b->a=b
 |[],[],_=>rfl
 |[],y::b,h=>by simp[mV]at h
 |x::a,[],h=>by simp[mV]at h
 |x::a,y::b,h=>by
  (have e:∀(z:Int)(c:List Int),mV (z::c)=Lib.itoa z++44::mV c:=λz c=>by simp[mV]);rw[e,e]at h;obtain⟨d,f⟩:=CS (Jp x) (Jp y) h;rw[Xr d,NH f]
end
section
open Go.RowKit Go.Shelf Go.Sort Tryz
def Apart(u:V_)(o:Option Nat):Prop:=∀a n c,u=.slice (some a) n c->0<n->some a.block≠o
def SI.block_lt{w:W_}{u:V_}{l:List Int}(h:SI w u l){a:Addr}{n c:Nat}(e:u=.slice (some a) n c)(d:0<n):a.block<w.heap.size:=by obtain⟨A,k,hv,_,_,f⟩:=h;rw[e]at hv;injection hv with g i m;subst g i;obtain⟨b,o,hb,j,_⟩:=f d;injection hb with hb;rw[hb];exact j
def SI.kept{w w':W_}{u:V_}{l:List Int}{row:Option Nat}(h:SI w u l)(d:w.grownBy w' row)(g:Apart u row):SI w' u l:=by obtain⟨A,c,rfl,hc,j,k⟩:=h.form;(refine S1.mk hc j λe=>?_);obtain⟨b,f,rfl,hb,n⟩:=k e;refine⟨b,f,rfl,sK hb d.size,λi x hi=>?_⟩;have m:some b≠row:=g _ _ _ rfl e;exact(He (w:=w) (a:=⟨b,f+i,Option.none⟩) (d.block b hb m)).trans (n i x hi)
def jL(w:W_)(base:Nat)(v:V_)(ps:List (V_×List Int)):Prop:=w.ownsRow base 25 1 v ps.length (ps.map (·.1))/\∀p∈ps,SI w p.1 p.2/\Apart p.1 v.ownBlock
section
variable{w w':W_}{base:Nat}{v:V_}{ps:List (V_×List Int)}
def jL.nil(w:W_)(base:Nat):jL w base (.slice none 0 0) []:=⟨Ba _ _ _ _,λ_ h=>by cases h⟩
def jL.sp(h:jL w base v ps):SP w v ps:=⟨iL h.1,λp a=>(h.2 p a).1⟩
def jL.ss(h:jL w base v ps):SS w v (ps.map (·.2)):=⟨ps,rfl,h.sp⟩
def jL.up(h:jL w base v ps)(hb:G w w'):jL w' base v ps:=⟨gB h.1 hb,λp a=>⟨(h.2 p a).1.up hb,(h.2 p a).2⟩⟩
def jL.alloc(h:jL w base v ps)(o:Obj):jL (w.alloc o) base v ps:=h.up ((fD _ _).alloc (fU _) _)
def jL.kept{row:Option Nat}(h:jL w base v ps)(b:w.grownBy w' row)(c:v.ownBlock=none\/v.ownBlock≠row)(d:∀p∈ps,Apart p.1 row):jL w' base v ps:=⟨h.1.kept b c,λp a=>⟨(h.2 p a).1.kept b (d p a),(h.2 p a).2⟩⟩
def jL.snoc{v':V_}{u:V_}{l:List Int}{n:Nat}{i:List V_}(h:jL w base v ps)(d:n=ps.length+1)(m:i=ps.map (·.1)++[u])(o:w'.ownsRow base 25 1 v' n i)(k:w.grownBy w' v.ownBlock)(hb:v'.ownBlock=v.ownBlock\/v'.ownBlock=some w.heap.size)(f:SI w u l)(g:Apart u v.ownBlock):jL w' base v' (ps++[(u,l)]):=by(have key:∀(u:V_)(l:List Int),SI w u l->Apart u v.ownBlock->SI w' u l/\Apart u v'.ownBlock:=λu l f g=>by refine⟨f.kept k g,λa n c e d=>?_⟩;rcases hb with hb|hb;(·rw[hb];exact g a n c e d);·rw[hb];intro j;injection j with j;have:=f.block_lt e d;omega);refine⟨?_,λp b=>?_⟩;(·subst d m;simpa using o);·rcases gH.1 b with b|b;(·exact key _ _ (h.2 p b).1 (h.2 p b).2);·rw[gy.1 b];exact key _ _ f g
def jL.lower(h:jL w base v ps){a:Nat}(hb:a<=base):jL w a v ps:=⟨jf h.1 hb,h.2⟩
end
def kY{α:Type}[Inhabited α]{w:W_}{base:Nat}{e:T_}{g n cap:Nat}{enc:α->V_}{l:List α}(h:w.ownsRow base e 1 (.slice (some ⟨g,0,none⟩) n cap) l.length (l.map enc)):Holds enc w g 0 l.toArray:=by intro j d;have b:j<l.length:=Q d;obtain⟨_,a⟩:=h;rcases a with⟨a,_⟩|⟨f,q,k,hv,hb,c,m,o,p,i⟩;(·cases a);·(obtain⟨rfl⟩:g=f:=by injection hv with h;injection h with h;injection h);constructor;(·rw[IZ,dh_ w g j k e (0,0) c];have:=qQ (λL:List V_=>L[j]?) i;simp only[MW,ee_,A_ b,di_,Cx]at this;rw[this,qY b];simp[b]);·simp[World.frozen?,c]
def l6{α:Type}[Inhabited α]{w:W_}{base:Nat}{e:T_}{g n cap:Nat}{enc:α->V_}{l:List α}{d':Array α}(c:d'.size=l.length)(h:w.ownsRow base e 1 (.slice (some ⟨g,0,none⟩) n cap) l.length (l.map enc))(m:Nat)(os:Array Obj):(sortWorld enc w g 0 m d' os).ownsRow base e 1 (.slice (some ⟨g,0,none⟩) n cap) d'.toList.length (d'.toList.map enc)/\w.grownBy (sortWorld enc w g 0 m d' os) (some g):=by obtain⟨y,b⟩:=h;rcases b with⟨b,_⟩|⟨j,u,f,hv,hb,d,k,o,p,A⟩;(·cases b);·(obtain⟨rfl⟩:g=j:=by injection hv with h;injection h with h;injection h);(obtain⟨rfl⟩:cap=u:=by injection hv);(obtain⟨rfl⟩:n=l.length:=by injection hv);have r:g<w.heap.size:=(vR.1 d).1;(have x:(sortWorld enc w g 0 m d' os).heap[g]?=some (.cells (putCells enc 0 d' f) e (0,0)):=by unfold sortWorld;rw[ho_ _ _ (by simp[putRow,mapBlock];exact r)];show((w.heap.modify g (onCells (putCells enc 0 d')))[g]?)=_;simp[gy_,d,onCells]);refine⟨⟨S,.inr ⟨g,cap,_,by simp[c],hb,x,by simp[c];exact k,o,by simp[putCells,p],?_⟩⟩,rfl,rfl,rfl,?_,?_⟩;(·apply Zi;intro t;rw[MW];split;(·rename_i a;simp only[hf_,ee_]at a;have q:t<f.size:=U;simp[putCells,q,a,PZ]);·rename_i a;simp only[hf_,ee_]at a;rw[KI (by simp;omega)]);(·simp[sortWorld,putRow,mapBlock,grow]);·intro i hi s;unfold sortWorld;rw[ho_ _ _ (by simp[putRow,mapBlock];exact hi)];show((w.heap.modify g (onCells (putCells enc 0 d')))[i]?)=_;rw[gy_,u_ (λe=>s (by rw[e]))]
abbrev El(w:W_)(g:Nat):Type:={p:V_×List Int // SI w p.1 p.2/\Apart p.1 (some g)}
instance El.inh(w:W_)(g:Nat):Inhabited (El w g):=⟨⟨(.slice none 0 0,[]),S1.nil _ _,λ_ _ _ h=>by injection h with h;cases h⟩⟩
def El.v{w:W_}{g:Nat}(p:El w g):V_:=p.1.1
def El.l{w:W_}{g:Nat}(p:El w g):List Int:=p.1.2
def El.one(w:W_)(g:Nat):OneCell (El.v (w:=w) (g:=g)):=λp=>by obtain⟨A,c,h⟩:=SI.slice_form p.2.1;show(p.1.1).oneCell'=true;rw[h];rfl
def Lm{w:W_}{g:Nat}(x y:El w g):(ltOf (λp q:El w g=>mg p.l q.l) x y=true↔vN x.l y.l)/\(ltOf (λp q:El w g=>mg p.l q.l) x y=false↔¬vN x.l y.l):=by unfold ltOf vN;exact⟨hp_,hq_⟩
def El.swo(w:W_)(g:Nat):SWO (ltOf λp q:El w g=>mg p.l q.l):=by refine⟨λx=>(Lm x x).2.2 (uH _),λx y z b c=>(Lm x z).1.2 (Bv ((Lm x y).1.1 b) ((Lm y z).1.1 c)),λx y z b c=>?_⟩;have f:=(Lm x y).2.1 b;have e:=(Lm y z).2.1 c;(refine(Lm x z).2.2 λd=>?_);rcases Jl x.l y.l with a|a|a;(·exact f a);(·rw[a]at d;exact e d);·exact e (Bv a d)
def QF:∀args w,(callFunc 31 args).run prog w=.ok (.enter 31 args) w:=vW func31 (by kernel_rfl) rfl
def SI.Bz{α:Type}[Inhabited α]{enc:α->V_}{w:W_}{g:Nat}{u:V_}{l:List Int}(h:SI w u l)(b:Apart u (some g))(m:Nat)(a:Array α)(os:Array Obj):SI (sortWorld enc w g 0 m a os) u l:=by refine h.kept (row:=some g) ⟨rfl,rfl,rfl,by simp[sortWorld,putRow,mapBlock,grow],λi hi c=>?_⟩ b;unfold sortWorld;rw[ho_ _ _ (by simp[putRow,mapBlock];exact hi)];show((w.heap.modify g (onCells (putCells enc 0 a)))[i]?)=_;rw[gy_,u_ (λe=>c (by rw[e]))]
def UA(w:W_)(g size:Nat):CmpLays1 prog 31 #[] (El.v (w:=w) (g:=g)) (λp q=>mg p.l q.l) g 0 size w:=by intro m os a _ x y;refine(ND x.v y.v x.l y.l _ (x.2.1.Bz x.2.2 m a os) (y.2.1.Bz y.2.2 m a os)).mono ?_;rintro e w' ⟨rfl,rfl⟩;exact⟨rfl,0,#[],by simp[grow];rfl⟩
def NI(w:W_)(base:Nat)(v:V_)(ps:List (V_×List Int))(e:Ending)(w':W_):Prop:=e=.returned (.tuple #[])/\∃ps',ps'.Perm ps/\(ps'.map (·.2)).Pairwise (λa b=>¬vN b a)/\jL w' base v ps'/\w.grownBy w' v.ownBlock
def Fu(base:Nat)(v:V_)(ps:List (V_×List Int))(w:W_)(h:jL w base v ps)(aa:ps.length<=1000000):z 30 #[v,.func (.func 31) #[] #[]] w (NI w base v ps):=by rcases h.1.2 with⟨rfl,o⟩|⟨g,cap,Z,rfl,hb,r,P,T,W,X⟩;(·have:ps=[]:=Hl o;subst this;refine(Tryz.nO (α:=Nat) none 0 (.func (.func 31) #[] #[]) w).mono ?_;rintro e w' ⟨rfl,rfl⟩;exact⟨rfl,[],hr_ _,List.Pairwise.nil,jL.nil _ _,P8 _ _⟩);·have A:g<w.heap.size:=(vR.1 r).1;(obtain⟨d,a⟩:∃d:List (El w g),d.map (·.1)=ps:=by refine⟨ps.attach.map λp=>⟨p.1,(h.2 p.1 p.2).1,(h.2 p.1 p.2).2⟩,?_⟩;rw[SY];exact ht_ ps);(have b:d.length=ps.length:=by rw[<-a,oD]);(have B:d.map El.v=ps.map (·.1):=by rw[<-a,SY];rfl);(have k:w.ownsRow base 25 1 (.slice (some ⟨g,0,none⟩) ps.length cap) d.length (d.map El.v):=by rw[b,B];exact h.1);have m:=Tryz.rD (El.v (w:=w) (g:=g)) (El.one w g) (λp q=>mg p.l q.l) (El.swo w g) 31 #[] g 0 cap d.toArray w QF (UA w g _) (kY k) A (by simp;omega);rw[show d.toArray.size=ps.length by simp[b]]at m;refine m.mono ?_;rintro e w' ⟨rfl,d',n,os,c,C,rfl⟩;have f:d'.size=d.length:=Q c.1;obtain⟨s,E⟩:=l6 (d':=d') f k n os;(have L:d'.toList.Perm d:=by have:=c.2.2;have t:List.take ps.length d'.toList=d'.toList:=MU (by simp[f,b]);have u:List.take ps.length d=d:=MU U;simpa[t,u]using this);refine⟨rfl,d'.toList.map (·.1),?_,?_,⟨?_,?_⟩,E⟩;(·have:=L.map (λp:El w g=>p.1);rwa[a]at this);(·rw[SY,Zz,SV];intro i j hi x F;have H:i<d'.size:=Q hi;have I:j<d'.size:=Q x;have:=C i j (gL _) F U;rw[PZ d' i H,PZ d' j I]at this;have y:=(Lm _ _).2.1 this;rw[hv_,hv_];exact y);(·rw[oD,SY];exact s);·intro p K;obtain⟨q,_,rfl⟩:=pY.1 K;exact⟨q.2.1.Bz q.2.2 n d' os,q.2.2⟩
end
section
open Tryz
inductive nX(E:Nat->List (Nat×Bool))(s:Nat):Nat->Bool->Nat->Prop
 |nil:nX E s s false 0
 |step {v t:Nat} {b c:Bool} {k:Nat}:nX E s v b k->(t,c)∈E v->nX E s t (b||c) (k+1)
inductive RP(R:Nat->Nat->Prop)(A:List Nat)(u:Nat):Nat->Nat->Prop
 |nil:RP R A u u 0
 |snoc {v t:Nat} {k:Nat}:RP R A u v k->R v t->t∈A->RP R A u t (k+1)
section
variable{R:Nat->Nat->Prop}
def RP.sub{A B:List Nat}(h:∀x∈A,x∈B){u v k:Nat}(a:RP R A u v k):RP R B u v k:=by
 induction a with
 |nil=>exact .nil
 |snoc _ b c d=>exact .snoc d b (h _ c)
def RP.cut{A:List Nat}{x v k:Nat}(c:RP R A x v k):∃a,RP R (A.filter (·≠x)) x v a:=by
 induction c with
 |nil=>exact⟨0,.nil⟩
 | @snoc v t k _ d e b=>
   by_cases h:t=x;(·subst h;exact⟨0,.nil⟩);·obtain⟨a,b⟩:=b;exact⟨a+1,.snoc b d (by simp[e,h])⟩
def RP.cons{A:List Nat}{u x v k:Nat}(a:R u x)(b:x∈A)(c:RP R A x v k):RP R A u v (k+1):=by
 induction c with
 |nil=>exact .snoc .nil a b
 |snoc _ a b d=>exact .snoc d a b
def RP.head{A:List Nat}{u:Nat}:∀(k:Nat){v:Nat},RP R A u v (k+1)->∃x,R u x/\x∈A/\RP R A x v k
 |0,v,.snoc a b c=>by cases a;exact⟨v,b,c,.nil⟩
 |k+1,v,.snoc a b c=>by
  obtain⟨x,g1,d,g3⟩:=RP.head k a;exact⟨x,g1,d,.snoc g3 b c⟩
def RP.short:∀(n:Nat){A:List Nat}{u v k:Nat},A.length<=n->RP R A u v k->∃c,c<=n/\RP R A u v c
 |n,_,_,_,0,_,a=>⟨0,gL _,a⟩
 |0,A,_,_,k+1,d,a=>by
  obtain⟨x,_,b,_⟩:=RP.head _ a;have:=hn_ b;omega
 |n+1,A,u,v,k+1,d,a=>by
  obtain⟨x,e,b,a⟩:=RP.head _ a;obtain⟨c,a⟩:=a.cut;have i:(A.filter (·≠x)).length<A.length:=ib_.2 ⟨x,b,S⟩;obtain⟨f,h,a⟩:=RP.short n U a;exact⟨f+1,U,(a.sub λy g=>(qX.1 g).1).cons e b⟩
def RP.back{n:Nat}{t s k:Nat}(c:t<n)(a:RP R (List.range n) t s k):∃b,b+1<=n/\RP R (List.range n) t s b:=by obtain⟨b,a⟩:=a.cut;have f:((List.range n).filter (·≠t)).length<(List.range n).length:=ib_.2 ⟨t,Q c,S⟩;rw[List.length_range]at f;obtain⟨d,g,a⟩:=RP.short (((List.range n).filter (·≠t)).length) (fU _) a;exact⟨d,U,a.sub λy e=>(qX.1 e).1⟩
end
structure Way where
 role:Nat
 strict:Bool
 before:Nat
 many:Nat
def Way.code(w:Way):Nat:=2*w.role+if w.strict then 1 else 0
structure Found(E:Nat->List (Nat×Bool))(n s:Nat)(ws:List Way)(seen:Nat->Bool->Bool)(p:Nat)(D:List (Nat×Bool)):Prop where
 root:∃w:Way,ws[0]?=some w/\w.role=s/\w.strict=false/\w.many=0
 walk:∀(i:Nat)(w:Way),ws[i]?=some w->nX E s w.role w.strict w.many/\w.role<n/\seen w.role w.strict=true/\(w.before<i\/i=0)/\w.many<=i
 seen:∀r b,seen r b=true->∃(i:Nat)(w:Way),ws[i]?=some w/\w.role=r/\w.strict=b
 codes:(ws.map Way.code).Nodup
 inc:∀(i j:Nat)(w v:Way),i<=j->ws[i]?=some w->ws[j]?=some v->w.many<=v.many
 near:∀(i:Nat)(w v:Way),ws[p]?=some w->ws[i]?=some v->v.many<=w.many+1
 done:∀(i:Nat)(w:Way),i<p->ws[i]?=some w->∀t c,(t,c)∈E w.role->¬(t=s/\(w.strict||c)=true)/\∃(j:Nat)(v:Way),ws[j]?=some v/\v.role=t/\v.strict=(w.strict||c)/\v.many<=w.many+1
 now:∀w:Way,ws[p]?=some w->∀t c,(t,c)∈D->¬(t=s/\(w.strict||c)=true)/\∃(j:Nat)(v:Way),ws[j]?=some v/\v.role=t/\v.strict=(w.strict||c)/\v.many<=w.many+1
section
variable{E:Nat->List (Nat×Bool)}{n s:Nat}{ws:List Way}{seen:Nat->Bool->Bool}{p:Nat}{D:List (Nat×Bool)}
def Found.begin(a:s<n):Found E n s [⟨s,false,0,0⟩] (λr b=>decide (r=s)&& !b) 0 [] where
 root:=⟨_,rfl,rfl,rfl,rfl⟩
 walk i w hw:=by
  match i,hw with
  |0,hw=>simp at hw;subst hw;exact⟨.nil,a,S,.inr rfl,fU _⟩
 seen r b h:=by simp at h;exact⟨0,_,rfl,h.1.symm,h.2.symm⟩
 codes:=S
 inc i j w v _ hw hv:=by
  match i,hw,j,hv with
  |0,hw,0,hv=>simp at hw hv;subst hw hv;exact fU _
 near i w v hw hv:=by
  match i,hv with
  |0,hv=>simp at hw hv;subst hw hv;exact gL _
 done i w h:=absurd h (em_ _)
 now w _ t c h:=(by cases h)
def Found.next{w:Way}(h:Found E n s ws seen p D)(hw:ws[p]?=some w)(a:∀x∈E w.role,x∈D):Found E n s ws seen (p+1) [] where
 root:=h.root
 walk:=h.walk
 seen:=h.seen
 codes:=h.codes
 inc:=h.inc
 near i w' v h1 h2:=gT (h.near i w v hw h2) (by have:=h.inc p (p+1) w w' U hw h1;omega)
 done i w' hi hw' t c htc:=by by_cases b:i<p;(·exact h.done i w' b hw' t c htc);·(obtain rfl:i=p:=by omega);obtain rfl:w=w':=Dy (hw.symm.trans hw');exact h.now w hw t c (a _ htc)
 now w _ t c h:=(by cases h)
def Found.skip{w:Way}{t:Nat}{c:Bool}(h:Found E n s ws seen p D)(hw:ws[p]?=some w)(d:¬(t=s/\(w.strict||c)=true))(e:seen t (w.strict||c)=true):Found E n s ws seen p (D++[(t,c)]) where
 root:=h.root
 walk:=h.walk
 seen:=h.seen
 codes:=h.codes
 inc:=h.inc
 near:=h.near
 done:=h.done
 now w' hw' t' c' a:=by obtain rfl:w=w':=Dy (hw.symm.trans hw');rcases gH.1 a with a|a;(·exact h.now w hw t' c' a);·simp at a;obtain⟨rfl,rfl⟩:=a;obtain⟨i,v,b,f,g⟩:=h.seen _ _ e;exact⟨d,i,v,b,f,g,h.near i w v hw b⟩
def p9{α:Type}{l:List α}{x y:α}{i:Nat}(h:(l++[x])[i]?=some y):l[i]?=some y\/(i=l.length/\y=x):=by by_cases hi:i<l.length;(·rw[Qa hi]at h;exact .inl h);·rw[WJ U]at h;(have:i-l.length<1:=by have:=(iR.1 h).1;simpa using this);have e:i=l.length:=U;subst e;simp at h;exact .inr ⟨rfl,h.symm⟩
def Jq{α:Type}(l:List α)(x:α):(l++[x])[l.length]?=some x:=S
def sZ{α:Type}{l:List α}{x y:α}{i:Nat}(h:l[i]?=some y):(l++[x])[i]?=some y:=by rw[Qa (iR.1 h).1];exact h
def Found.new{w:Way}{t:Nat}{c:Bool}(h:Found E n s ws seen p D)(hw:ws[p]?=some w)(B:(t,c)∈E w.role)(C:t<n)(F:¬(t=s/\(w.strict||c)=true))(H:seen t (w.strict||c)=false):Found E n s (ws++[⟨t,w.strict||c,p,w.many+1⟩]) (λr b=>seen r b||(decide (r=t)&&decide (b=(w.strict||c)))) p (D++[(t,c)]):=by have A:=(iR.1 hw).1;(have same:∀v,(ws++[⟨t,w.strict||c,p,w.many+1⟩])[p]?=some v->w=v:=λv hv=>by rw[Qa A]at hv;exact Dy (hw.symm.trans hv));refine⟨?_,?_,?_,?_,?_,?_,?_,?_⟩;(·obtain⟨I,f,g⟩:=h.root;exact⟨I,sZ f,g⟩);(·intro i v hv;rcases p9 hv with hv|⟨rfl,rfl⟩;(·obtain⟨f,g,k,o⟩:=h.walk i v hv;exact⟨f,g,by simp[k],o⟩);·exact⟨(h.walk p w hw).1.step B,C,S,.inl A,by have:=(h.walk p w hw).2.2.2.2;show w.many+1<=ws.length;omega⟩);(·intro r b q;simp at q;rcases q with q|⟨rfl,rfl⟩;(·obtain⟨i,v,f,g⟩:=h.seen r b q;exact⟨i,v,sZ f,g⟩);·exact⟨ws.length,_,Jq _ _,rfl,rfl⟩);(·rw[sJ];refine fq_.2 ⟨h.codes,S,λa K b hb e=>?_⟩;obtain⟨v,hv,rfl⟩:=pY.1 K;have L:=gy.1 hb;obtain⟨i,hi⟩:=Wz hv;have k:=(h.walk i v hi).2.2.1;rw[L]at e;unfold Way.code at e;(have o:v.role=t/\v.strict=(w.strict||c):=by revert e;generalize (w.strict||c)=d;intro e;cases hv:v.strict<;>cases d<;>simp[hv]at e ⊢ <;>omega);rw[o.1,o.2,H]at k;cases k);(·intro i j v u P hv l;rcases p9 hv with hv|⟨rfl,rfl⟩<;>rcases p9 l with l|⟨rfl,rfl⟩;(·exact h.inc i j v u P hv l);(·exact h.near i w v hw hv);(·have:=(iR.1 l).1;omega);·exact fU _);(·intro i v u hv l;obtain rfl:=same v hv;rcases p9 l with l|⟨rfl,rfl⟩;(·exact h.near i w u hw l);·exact fU _);(·intro i v hi hv x y m;rcases p9 hv with hv|⟨rfl,rfl⟩;(·obtain⟨f,j,u,g,k⟩:=h.done i v hi hv x y m;exact⟨f,j,u,sZ g,k⟩);·omega);·intro v hv x y m;obtain rfl:=same v hv;rcases gH.1 m with m|m;(·obtain⟨f,j,u,g,k⟩:=h.now w hw x y m;exact⟨f,j,u,sZ g,k⟩);·simp at m;obtain⟨rfl,rfl⟩:=m;exact⟨F,ws.length,_,Jq _ _,rfl,rfl,fU _⟩
def NJ:∀{a b:List Nat},a.Nodup->(∀x∈a,x∈b)->a.length<=b.length
 |[],_,_,_=>gL _
 |x::a,b,ha,h=>by
  have d:=du_.1 ha;(have f:∀y∈a,y∈b.erase x:=λy c=>(hl_ (λe=>d.1 (by rw[<-e];exact c))).2 (h y (by simp[c])));have g:=NJ d.2 f;have i:=hm_ (h x S);have j:0<b.length:=hn_ (h x S);simp only[p8];omega
def Found.len(h:Found E n s ws seen p D):ws.length<=2*n:=by(have:=NJ (b:=List.range (2*n)) h.codes λx a=>by obtain⟨v,hv,rfl⟩:=pY.1 a;obtain⟨i,hi⟩:=Wz hv;have c:=(h.walk i v hi).2.1;unfold Way.code;rw[Zj];split<;>omega);simpa using this
def Found.none{most:Nat}(h:Found E n s ws seen p D)(l:∀w,ws[p]?=some w->most<=w.many+1)(A:p<=ws.length){k:Nat}(m:k<most):¬nX E s s true k:=by
 have g:∀i w,ws[i]?=some w->w.many+1<most->i<p:=λi w hw B=>by by_cases hi:i<p;(·exact hi);·(have f:p<ws.length:=by have:=(iR.1 hw).1;omega);have e:=l _ (qY f);have a:=h.inc p i _ w U (qY f) hw;omega
 have all:∀{v:Nat}{b:Bool}{k:Nat},nX E s v b k->k<most->∃(i:Nat)(w:Way),ws[i]?=some w/\w.role=v/\w.strict=b/\w.many<=k:=by
  intro v b k d
  induction d with
  |nil=>intro _;obtain⟨w,e,a,o,C⟩:=h.root;exact⟨0,w,e,a,o,U⟩
  | @step v t b c k _ a q=>
    intro m;obtain⟨i,w,g1,rfl,rfl,g4⟩:=q U;obtain⟨_,j,u,r,x,y,F⟩:=h.done i w (g i w g1 U) g1 t c a;exact⟨j,u,r,x,y,U⟩
 intro d;generalize hb:true=b at d
 cases d with
 |nil=>cases hb
 |step d a=>
  obtain⟨i,w,g1,rfl,rfl,g4⟩:=all d U;exact(h.done i w (g i w g1 U) g1 _ _ a).1 ⟨rfl,hb.symm⟩
end
structure uJ(L:List Ax)(V:List St)(E:Nat->List (Nat×Bool)):Prop where
 keys:∀r,r∈V↔∃s b,qA L r s b
 nodup:∀(i j:Nat)(r:St),V[i]?=some r->V[j]?=some r->i=j
 sound:∀(i t:Nat)(c:Bool),(t,c)∈E i->∃r s:St,V[i]?=some r/\V[t]?=some s/\qA L r s c
 full:∀(i t:Nat)(r s:St)(b:Bool),V[i]?=some r->V[t]?=some s->qA L r s b->∃c,(b=true->c=true)/\(t,c)∈E i
section
variable{L:List Ax}{V:List St}{E:Nat->List (Nat×Bool)}
def nX.path(h:uJ L V E){i j k:Nat}{b:Bool}(a:nX E i j b k):k=0\/∃r s:St,V[i]?=some r/\V[j]?=some s/\lN L r s b:=by
 induction a with
 |nil=>exact .inl rfl
 | @step v t b c k a g l=>
   obtain⟨r,s,d,e,f⟩:=h.sound _ _ _ g;rcases l with rfl|⟨m,o,g1,q,g3⟩;(·cases a;exact .inr ⟨r,s,d,e,Q (lN.one f)⟩);·obtain rfl:o=r:=Dy (q.symm.trans d);exact .inr ⟨m,s,g1,e,g3.more f⟩
def UC(h:uJ L V E){i k:Nat}(a:nX E i i true k):uF L:=by
 rcases a.path h with rfl|⟨r,s,c,d,e⟩
 ·generalize hb:true=b at a
  generalize f:0=k at a
  cases a with
  |nil=>cases hb
  |step _ _=>cases f
 ·obtain rfl:r=s:=Dy (c.symm.trans d);exact⟨r,e⟩
def lN.strict{r v:St}{b:Bool}(h:lN L r v b)(hb:b=true):∃s t,qA L s t true/\(r=s\/∃b,lN L r s b)/\(t=v\/∃b,lN L t v b):=by
 induction h with
 |one h=>subst hb;exact⟨_,_,h,.inl rfl,.inl rfl⟩
 | @more s t b c d a e=>
   by_cases hc:c=true;(·subst hc;exact⟨_,_,a,.inr ⟨_,d⟩,.inl rfl⟩);·(have j:b=true:=by simpa[hc]using hb);obtain⟨f,g,g1,i,g3⟩:=e j;refine⟨f,g,g1,i,.inr ?_⟩;rcases g3 with rfl|⟨k,g3⟩;(·exact⟨_,.one a⟩);·exact⟨_,g3.more a⟩
def lN.trans{r s t:St}{b c:Bool}(e:lN L r s b)(f:lN L s t c):∃d,lN L r t d:=by
 induction f with
 |one h=>exact⟨_,e.more h⟩
 |more _ h a=>obtain⟨d,a⟩:=a;exact⟨_,a.more h⟩
def lN.first{r t:St}{b:Bool}(h:lN L r t b):∃s c,qA L r s c:=by
 induction h with
 |one h=>exact⟨_,_,h⟩
 |more _ _ a=>exact a
def Fv(h:uJ L V E){r:St}(a:r∈V):∃i,i<V.length/\V[i]?=some r:=by obtain⟨i,hi⟩:=Wz a;exact⟨i,(iR.1 hi).1,hi⟩
def lN.rp(h:uJ L V E){r t:St}{b:Bool}(l:lN L r t b){i j:Nat}(hi:V[i]?=some r)(a:V[j]?=some t):∃k,RP (λx y=>∃c,(y,c)∈E x) (List.range V.length) i j k:=by
 induction l generalizing j with
 |one e=>
  obtain⟨c,_,hc⟩:=h.full _ _ _ _ _ hi a e;exact⟨1,.snoc .nil ⟨c,hc⟩ (by simpa using(iR.1 a).1)⟩
 | @more s t b c e f d=>
   obtain⟨m,_,g⟩:=Fv h ((h.keys s).2 ⟨_,_,f⟩);obtain⟨k,d⟩:=d g;obtain⟨c,_,hc⟩:=h.full _ _ _ _ _ g a f;exact⟨k+1,.snoc d ⟨c,hc⟩ (by simpa using(iR.1 a).1)⟩
def Lp(h:uJ L V E)(hc:uF L):∃i k,i<V.length/\k<V.length+1/\nX E i i true k:=by
 obtain⟨r,q⟩:=hc;obtain⟨s,t,a,e,f⟩:=q.strict rfl;have o:t=s\/∃b,lN L t s b:=by rcases e with rfl|⟨b,e⟩<;>rcases f with rfl|⟨c,f⟩;(·exact .inl rfl);(·exact .inr ⟨_,f⟩);(·exact .inr ⟨_,e⟩);·exact .inr (f.trans e)
 have u:t∈V:=(h.keys t).2 <| by
  rcases o with rfl|⟨b,g⟩;·exact⟨_,_,a⟩
  ·exact g.first
 obtain⟨i,hi,l⟩:=Fv h ((h.keys s).2 ⟨_,_,a⟩);obtain⟨j,w,m⟩:=Fv h u;(have hb:∃k,RP (λx y=>∃c,(y,c)∈E x) (List.range V.length) j i k:=by rcases o with rfl|⟨b,g⟩;(·obtain rfl:=h.nodup _ _ _ l m;exact⟨0,.nil⟩);·exact g.rp h m l);obtain⟨k,hb⟩:=hb;obtain⟨k,K,hb⟩:=hb.back w;obtain⟨c,F,H⟩:=h.full _ _ _ _ _ l m a
 have I:∀{v k},RP (λx y=>∃c,(y,c)∈E x) (List.range V.length) j v k->nX E i v true (k+1):=by
  intro v k A
  induction A with
  |nil=>have:=(nX.nil (E:=E) (s:=i)).step H;rw[F rfl]at this;simpa using this
  |snoc _ a _ B=>
   obtain⟨d,C⟩:=a;simpa using B.step C
 exact⟨i,k+1,hi,U,I hb⟩
end
end
section
open Go.RowKit Go.Sort Tryz
def oQ(Z:Nat->Prop)(w:W_)(r:Cn×Int)(e:Ending)(w':W_):Prop:=∃cs:List V_,e=.returned (.tuple #[.agg cs.toArray,r.2])/\CZ (λk=>Z k\/(w.heap.size<=k/\k<w'.heap.size)) w' r.1 cs/\G w w'
def BA(Z:Nat->Prop)(c:Cn):Prop:=∀(cs:List V_)(w:W_),CZ Z w c cs->z 66 #[.agg cs.toArray] w (oQ Z w (Z_ c))
def Same(Z:Nat->Prop)(w w':W_):Prop:=(∀k,Z k->w'.heap[k]?=w.heap[k]?)/\w.heap.size<=w'.heap.size
section
variable{Z:Nat->Prop}{w w' w'':W_}
def Same.refl(Z:Nat->Prop)(w:W_):Same Z w w:=⟨λ_ _=>rfl,fU _⟩
def Same.below(h:Same Z w w')(b:∀k,Z k->k<w.heap.size)(hb:G w' w''):Same Z w w'':=⟨λk a=>(hb.block k (sK (b k a) h.2)).trans (h.1 k a),gT h.2 hb.size⟩
def Same.al(h:Same Z w w')(a:∀k,Z k->k<w.heap.size)(o:Obj):Same Z w (w'.alloc o):=h.below a bA
def Same.st(h:Same Z w w'){p:Addr}(b:¬Z p.block)(u:V_):Same Z w (w'.setCell p u):=⟨λk a=>(D8 w' p u k (λe=>b (e ▸ a))).trans (h.1 k a),by simpa[World.setCell]using h.2⟩
def CZ.same{c:Cn}{a:List V_}(h:CZ Z w c a)(b:Same Z w w'):CZ Z w' c a:=h.kp b.1 b.2
end
def yC{c:Cn}{a:List V_}{w:W_}(h:mU w c a):∃A cap,a=[.int .i64 c.kind,d_ c.name,.int .i64 c.lo,.int .i64 c.hi,.slice A c.parts.length cap]/\c.parts.length<=cap/\cap<=m_:=by obtain⟨A,cap,e,b,d,_⟩:=h.cv.form;refine⟨A,cap,?_,b,d⟩;injection e with e;have:=qQ Array.toList e;simpa using this
def CZ.nil(w:W_)(Z:Nat->Prop)(a:∀k,Z k->k<w.heap.size):CZ Z w Cn.nil [.int .i64 0,d_ [],.int .i64 0,.int .i64 0,.slice none 0 0]:=by refine⟨a,λW _ _=>?_⟩;unfold Cn.nil mU;exact⟨none,0,rfl,gL _,gL _,λh=>absurd h (fw_ _)⟩
def CZ.mk{w:W_}{Z:Nat->Prop}{k l h:Int}{n:St}{ps:List Cn}{A:Option Addr}{cap:Nat}(e:∀k,Z k->k<w.heap.size)(hc:ps.length<=cap)(m:cap<=m_)(o:0<ps.length->∃b c,A=some ⟨b,c,none⟩/\Z b/\∀i p,ps[i]?=some p->∃d,(∀(j:Nat) u,d[j]?=some u->N w b (c+5*i+j) u)/\CZ Z w p d):CZ Z w (.mk k n l h ps) [.int .i64 k,d_ n,.int .i64 l,.int .i64 h,.slice A ps.length cap]:=by refine⟨e,λW f g=>?_⟩;unfold mU;refine⟨A,cap,rfl,hc,m,λq=>?_⟩;obtain⟨b,c,rfl,hb,r⟩:=o q;refine⟨b,c,rfl,sK (e b hb) g,pK.of λi p hi=>?_⟩;obtain⟨d,s,t⟩:=r i p hi;exact⟨d,λj u v=>(He (w:=w) (a:=⟨b,c+5*i+j,none⟩) (f b hb)).trans (s j u v),t.2 W f g⟩
end
section
open Tryz
def y5(c:Cn):Prop:=∀d∈c.pre,d.kind=6->d.parts≠[]
def Jr{d:Cn}:∀{ps:List Cn}{p:Cn},p∈ps->d∈p.pre->d∈Cn.jV ps
 |q::ps,p,a,hd=>by
  simp only[Cn.jV,gH];rcases jU.1 a with rfl|a;(·exact .inl hd);·exact .inr (Jr a hd)
def y5.part{c p:Cn}(h:y5 c)(a:p∈c.parts):y5 p:=by intro d b;obtain⟨k,n,l,g,ps⟩:=c;refine h d ?_;simp only[Cn.pre,jU];exact .inr (Jr a b)
def y5.some{k:Int}{n:St}{l h:Int}{ps:List Cn}(H:y5 (.mk k n l h ps))(a:k=6):ps≠[]:=H (.mk k n l h ps) (by simp[Cn.pre]) a
def uK:∀(a b:List Cn),Cn.sizes (a++b)=Cn.sizes a+Cn.sizes b
 |[],b=>by simp[Cn.sizes]
 |x::a,b=>by simp only[IY,Cn.sizes,uK a b];omega
def Fw(x:Cn):∀l:List Cn,Cn.sizes (EH x l)<=x.size+Cn.sizes l
 |[]=>by simp[EH,Cn.sizes]
 |y::l=>by
  unfold EH;have:=Fw x l;split;(·simp[Cn.sizes]);·split;(·simp[Cn.sizes]);·simp only[Cn.sizes];omega
def CU:∀l:List Cn,Cn.sizes (o9 l)<=Cn.sizes l
 |[]=>by simp[o9]
 |x::l=>by
  have a:=CU l;have b:=Fw x (o9 l);unfold o9 at *;rw[er_];simp only[Cn.sizes];omega
def sj:∀{l:List Cn}{p:Cn},p∈l->p.size<=Cn.sizes l
 |q::l,p,a=>by
  simp only[Cn.sizes];rcases jU.1 a with rfl|a;(·omega);·have:=sj a;omega
def Fx:Cn.nil.size=1:=by simp[Cn.nil,Cn.size,Cn.sizes]
def UD(l:List Cn):(zJ l).1.size<=Cn.sizes l+1:=by unfold zJ;split;(·rename_i c hc;have:=sj (List.mem_of_find?_eq_some hc);simp only;omega);·split;(·simp[Cn.size,Cn.sizes]);(·simp[Cn.sizes]);·split;(·simp only[Fx];omega);·simp[Cn.size]
def size_mk(k:Int)(n:St)(l h:Int)(ps:List Cn):(Cn.mk k n l h ps).size=Cn.sizes ps+1:=by simp[Cn.size]
def tq(q:Cn):Cn.sizes (if q.kind=1 then[] else if q.kind=5 then q.parts else[q])<=q.size:=by obtain⟨k,n,l,h,ps⟩:=q;simp only[Cn.kind,Cn.parts,Cn.size];by_cases a:k=1;(·simp[a,Cn.sizes]);·by_cases b:k=5;(·simp[b]);·simp[a,b,Cn.sizes,Cn.size]
def wJ:∀(ps:List Cn),(∀p∈ps,(Z_ p).1.size<=p.size)->Cn.sizes (meets ps).1<=Cn.sizes ps
 |[],_=>by simp[meets,Cn.sizes]
 |p::ps,h=>by
  have a:=h p S;(have b:=wJ ps λq d=>h q (by simp[d]));have c:=tq (Z_ p).1;rw[meets];rcases g:Z_ p with⟨q,e⟩;rw[g]at a c;simp only at a c ⊢;split;(·simp[Cn.sizes]);·rcases i:meets ps with⟨l,f⟩;rw[i]at b;simp only at b ⊢;split;(·simp[Cn.sizes]);·simp only[Cn.sizes,uK];omega
def oo(c:Cn):(Z_ c).1.size<=c.size:=by
 induction c using Cn.Ui with
 |h k n l g ps b=>
  rw[Z_];split;(·cases ps with|nil=>simp[Ta,Fx,Cn.size]|cons p ps=>have a:=b p S;rw[Ta];rcases d:Z_ p with⟨q,e⟩;rw[d]at a;simp only at a ⊢;simp only[size_mk,Cn.sizes];split;(·simp only;omega);·simp only[size_mk,Cn.sizes];omega);·split;(·have a:=wJ ps b;rcases f:meets ps with⟨x,e⟩;rw[f]at a;have i:=CU x;have j:=UD (o9 x);simp only at a ⊢;split;(·rw[size_mk];omega);·simp only[Fx];rw[size_mk];omega);·simp
def yD(ps:List Cn):Cn×Int:=match meets ps with|(x,e)=>if e=0 then zJ (o9 x) else(Cn.nil,e)
def UE{k:Int}{n:St}{l h:Int}{ps:List Cn}(a:k=5):Z_ (.mk k n l h ps)=yD ps:=by subst a;rw[Z_];rfl
def QG{k:Int}{n:St}{l h:Int}{p:Cn}{ps:List Cn}(a:k=6):Z_ (.mk k n l h (p::ps))=if(Z_ p).2≠0\/(Z_ p).1.kind=2 then Z_ p else(.mk 6 n 0 0 [(Z_ p).1],0):=by subst a;rw[Z_,A_ rfl,Ta]
def NK{k:Int}{n:St}{l h:Int}{ps:List Cn}(a:¬k=6)(b:¬k=5):Z_ (.mk k n l h ps)=(.mk k n l h ps,0):=by rw[Z_,u_ a,u_ b]
def bits(q:Cn):List Cn:=if q.kind=1 then[] else if q.kind=5 then q.parts else[q]
def NM:∀{ps:List Cn},(∀p∈ps,(Z_ p).2=0)->meets ps=(ps.flatMap λp=>bits (Z_ p).1,0)
 |[],_=>by simp[meets]
 |p::ps,h=>by
  have a:=h p S;(have b:=NM λq c=>h q (ZJ p c));rw[meets,b];simp only[a,ne_eq,gr_,ZE,M5];rfl
def Js:∀{ps:List Cn}{i:Nat}{p:Cn},(∀q∈ps.take i,(Z_ q).2=0)->ps[i]?=some p->(Z_ p).2≠0->meets ps=([],(Z_ p).2)
 |[],i,p,_,h,_=>by simp at h
 |a::ps,0,p,_,h,he=>by
  simp at h;subst h;rw[meets];simp only[A_ he]
 |a::ps,i+1,p,hq,h,he=>by
  have b:=hq a S;have c:=Js (ps:=ps) (i:=i) (p:=p) (λq d=>hq q (by simp[d])) (Q h) he;rw[meets,c];simp only[b,ne_eq,gr_,ZE,A_ he]
end
section
open Go.RowKit Go.Sort Tryz
def fF{P:Program}{b:Func}{p u:Tmp}{c:T_}(h:b.results= #[.cell p c,.tmp u])(tmps:Array V_)(w:W_){a:Addr}{v n:V_}(d:tmps.getD p undef=.pointer (some a))(e:tmps.getD u undef=n)(hl:(loadVar c a).run P w=.ok v w):(results b tmps).run P w=.ok (.tuple #[v,n]) w:=by have f:tmps[p]?.getD undef=.pointer (some a):=Q d;have g:tmps[u]?.getD undef=n:=Q e;rw[results_cell_tmp h];simp[f,g,asAddr,hl,Result.andThen]
def o7{w:W_}{g:Nat}{a b c d e:V_}(h:f_ w g 40 #[a,b,c,d,e]):(loadVar 40 ⟨g,0,none⟩).run prog w=.ok (.agg #[a,b,c,d,e]) w:=by have f:=h.cell 0;have g1:=h.cell 1;have i:=h.cell 2;have g3:=h.cell 3;have g4:=h.cell 4;simp at f g1 i g3 g4;simp[loadVar,go_sem,f,g1,i,g3,g4]
abbrev tu(W:W_)(g:Nat)(a b c d e:V_):W_:=((((W.setCell ⟨g,0,none⟩ a).setCell ⟨g,1,none⟩ b).setCell ⟨g,2,none⟩ c).setCell ⟨g,3,none⟩ d).setCell ⟨g,4,none⟩ e
def mH{W:W_}{g:Nat}{t:T_}{f i j k l a b c d e:V_}(h:f_ W g t #[f,i,j,k,l]):f_ (tu W g a b c d e) g t #[a,b,c,d,e]:=by have:=((((h.iK 0 a).iK 1 b).iK 2 c).iK 3 d).iK 4 e;simpa using this
def nC{Z:Nat->Prop}{w W:W_}{g:Nat}{a b c d e:V_}(h:Same Z w W)(f:¬Z g):Same Z w (tu W g a b c d e):=((((h.st (p:=⟨g,0,none⟩) f _).st (p:=⟨g,1,none⟩) f _).st (p:=⟨g,2,none⟩) f _).st (p:=⟨g,3,none⟩) f _).st (p:=⟨g,4,none⟩) f _
def jZ{w W:W_}{g:Nat}{a b c d e:V_}(h:G w W)(f:w.heap.size<=g):G w (tu W g a b c d e):=((((h.setCell (p:=⟨g,0,none⟩) f _).setCell (p:=⟨g,1,none⟩) f _).setCell (p:=⟨g,2,none⟩) f _).setCell (p:=⟨g,3,none⟩) f _).setCell (p:=⟨g,4,none⟩) f _
def tH{W:W_}{g:Nat}{a b c d e:V_}:(tu W g a b c d e).heap.size=W.heap.size:=by simp[tu,World.setCell]
def Jt{w:W_}{g:Nat}{t:T_}{a b c d e:V_}(h:f_ w g t #[a,b,c,d,e]):(N w g 0 a/\N w g 1 b/\N w g 2 c/\N w g 3 d/\N w g 4 e)/\ (w.frozen? ⟨g,0,none⟩=false/\w.frozen? ⟨g,1,none⟩=false/\w.frozen? ⟨g,2,none⟩=false/\w.frozen? ⟨g,3,none⟩=false/\w.frozen? ⟨g,4,none⟩=false):=⟨⟨h.cell 0,h.cell 1,h.cell 2,h.cell 3,h.cell 4⟩,h.frozen 0,h.frozen 1,h.frozen 2,h.frozen 3,h.frozen 4⟩
def QH(Z:Nat->Prop)(c:Cn)(e:¬c.kind=6)(f:¬c.kind=5):BA Z c:=by intro g w hc;obtain⟨A,cap,rfl,h,i⟩:=yC hc.rd;(have d:Z_ c=(c,0):=by cases c;exact NK e f);rw[d];go_in;go_wp2_with fail;have hb:=f_.newAt (w.alloc (.cells (Cs c A cap) 40)) 40 (Cs c A cap) (n:=w.heap.size+1) S;refine qW (fF rfl _ _ rfl rfl (o7 hb)) rfl ?_;refine⟨_,rfl,?_,?_⟩;(·have b:=hc.1;refine(hc.same (((Same.refl Z w).al b _).al b _)).mono (λk a=> .inl a) ?_;rintro k (a|a);(·have:=b k a;simp;omega);·exact a.2);·exact L_ bA _
def PartsAt(Z:Nat->Prop)(w:W_)(A:Option Addr)(ps:List Cn):Prop:=0<ps.length->∃b off,A=some ⟨b,off,none⟩/\Z b/\∀i p,ps[i]?=some p->∃ds,(∀(j:Nat) u,ds[j]?=some u->N w b (off+5*i+j) u)/\CZ Z w p ds
def PartsAt.up{Z:Nat->Prop}{w w':W_}{A:Option Addr}{ps:List Cn}(h:PartsAt Z w A ps)(d:∀k,Z k->k<w.heap.size)(hb:G w w'):PartsAt Z w' A ps:=by intro f;obtain⟨b,c,e,a,g⟩:=h f;refine⟨b,c,e,a,λi p hi=>?_⟩;obtain⟨l,m,n⟩:=g i p hi;exact⟨l,λj u o=>(hb.cell (p:=⟨b,c+5*i+j,none⟩) (d b a)).trans (m j u o),n.up hb⟩
def Xt(Z:Nat->Prop)(ps:List Cn):Prop:=∀(A:Option Addr)(cap:Nat)(w:W_),ps.length<=cap->cap<=m_->(∀k,Z k->k<w.heap.size)->PartsAt Z w A ps-> z 118 #[.slice A ps.length cap] w (oQ Z w (yD ps))
def Xu(Z:Nat->Prop)(c:Cn)(B:c.kind=5)(m:Xt Z c.parts):BA Z c:=by intro af w hc;obtain⟨A,cap,rfl,H,I⟩:=yC hc.rd;have f:Hid (∀k,Z k->k<w.heap.size):=O hc.1;have s:PartsAt Z w A c.parts:=hc.parts (A:=A) (n:=c.parts.length) (cap:=cap) rfl;(have o:Z_ c=yD c.parts:=by cases c;exact UE B);obtain⟨a,d⟩:∃a,(w.alloc (.cells #[V 5,d_ c.name,c.lo,c.hi,.slice A c.parts.length cap] 40)).alloc (.cells #[V 0,.string ⟨#[]⟩,V 0,V 0,.slice none 0 0] 40)=a:=⟨_,rfl⟩;(have j:G w a:=by rw[<-d];exact L_ bA _);(have ag:a.heap.size=w.heap.size+2:=by rw[<-d];simp);(have t:f_ a (w.heap.size+1) 40 #[V 0,.string ⟨#[]⟩,V 0,V 0,.slice none 0 0]:=by rw[<-d];exact f_.newAt _ _ _ S);have y:Hid (z 118 #[.slice A c.parts.length cap] a (oQ Z a (yD c.parts))):=O (m A cap a H I (λk b=>by have:=f.o k b;omega) (s.up f.o j));rw[o];generalize yD c.parts=r at *;obtain⟨q,e⟩:=r;have u:=O j;have v:=O d;clear d;have x:=O t;clear hc s m j t o;go_in;go_wp2_with fail;rw[v.o];refine y.o.mono ?_;rintro K p ⟨L,rfl,i,l⟩;obtain⟨P,T,rfl,_,_⟩:=yC i.rd;have g:=x.o.below l;have ah:w.heap.size+1<p.heap.size:=g.lt;obtain⟨⟨W,g1,X,g3,g4⟩,aa,ab,ac,ad,ae⟩:=Jt g;have C:=O g;have E:=O i;have F:Hid (G w p):=O (b_ u.o l);go_wp2;refine qW (fF rfl _ _ rfl rfl (o7 (mH C.o))) rfl ?_;refine⟨_,rfl,?_,?_⟩;(·refine(E.o.same (nC (Same.refl _ _) λh=>?_)).mono (λk b=>b.imp id λh=>?_) ?_;(·rcases h with h|h;(·have:=f.o _ h;omega);·omega);(·rw[tH];omega);·rintro k (b|b);(·have:=f.o k b;rw[tH];omega);·exact b.2);·exact jZ F.o U
def UF(Z:Nat->Prop)(c:Cn)(au:c.kind=6){p:Cn}{ps:List Cn}(s:c.parts=p::ps)(m:BA Z p):BA Z c:=by intro aM w hc;obtain⟨A,cap,rfl,aR,aS⟩:=yC hc.rd;have E:Hid (∀k,Z k->k<w.heap.size):=O hc.1;obtain⟨b,g,rfl,af,aq⟩:=hc.parts (A:=A) (n:=c.parts.length) (cap:=cap) rfl (by rw[s];simp);obtain⟨aD,t,P⟩:=aq 0 p (by rw[s];rfl);obtain⟨ac,ad,rfl,aN,aO⟩:=yC P.rd;have aP:b<w.heap.size:=hc.1 b af;have av:N w b g p.kind:=t 0 _ rfl;have ae:N w b (g+1) (d_ p.name):=t 1 _ rfl;have aw:N w b (g+2) p.lo:=t 2 _ rfl;have ax:N w b (g+3) p.hi:=t 3 _ rfl;have ay:N w b (g+4) (.slice ac p.parts.length ad):=t 4 _ rfl;(have x:Z_ c=if(Z_ p).2≠0\/(Z_ p).1.kind=2 then Z_ p else(.mk 6 c.name 0 0 [(Z_ p).1],0):=by obtain⟨k,n,l,h,q⟩:=c;simp only[Cn.parts]at s;subst s;exact QG au);obtain⟨f,v⟩:∃f,(w.alloc (.cells #[V 6,d_ c.name,c.lo,c.hi,.slice (some ⟨b,g,none⟩) c.parts.length cap] 40)).alloc (.cells #[V 0,.string ⟨#[]⟩,V 0,V 0,.slice none 0 0] 40)=f:=⟨_,rfl⟩;(have T:G w f:=by rw[<-v];exact L_ bA _);(have aQ:f.heap.size=w.heap.size+2:=by rw[<-v];simp);(have ag:f_ f (w.heap.size+1) 40 #[V 0,.string ⟨#[]⟩,V 0,V 0,.slice none 0 0]:=by rw[<-v];exact f_.newAt _ _ _ S);(have ah:f_ f w.heap.size 40 #[V 6,d_ c.name,c.lo,c.hi,.slice (some ⟨b,g,none⟩) c.parts.length cap]:=by rw[<-v];exact(f_.new _ _ _).alloc _);have ar:Hid (z 66 #[.agg (Cs p ac ad)] f (oQ Z f (Z_ p))):=O (m _ _ (P.up T));generalize Z_ c=R at *;generalize Z_ p=r at *;obtain⟨q,e⟩:=r;have o:=O x;have ai:=O T;have aj:=O v;clear v;have ak:=O ag;have am:=O ah;(have aT:(0:Int)<(c.parts.length:Int):=by rw[s];simp);clear hc aq t P m T ag ah x af s;go_in;go_wp2_with fail;rw[aj.o];refine ar.o.mono ?_;rintro ae d ⟨aE,rfl,F,B⟩;obtain⟨H,I,rfl,_,_⟩:=yC F.rd;have C:=ak.o.below B;have an:=am.o.below B;have aU:w.heap.size+1<d.heap.size:=C.lt;have aV:w.heap.size<d.heap.size:=U;obtain⟨⟨aF,g1,aG,g3,g4⟩,aH,aI,aJ,aK,aL⟩:=Jt C;have n1:N d w 1 (d_ c.name):=an.cell 1;have X:=O C;have y:=O F;have aa:Hid (G w d):=O (b_ ai.o B);(have ao:¬(Z (w.heap.size+1)\/(f.heap.size<=w.heap.size+1/\w.heap.size+1<d.heap.size)):=by rintro(h|h);(·have:=E.o _ h;omega);·omega);have ab:=O ao;(have K:Hid (∀(W:W_),Same (λk=>Z k\/(f.heap.size<=k/\k<d.heap.size)) d W->CZ (λk=>Z k\/(w.heap.size<=k/\k<W.heap.size)) W q (Cs q H I)):=O λW L=>by refine(y.o.same L).mono (λk a=>a.imp id λh=>?_) ?_;(·have:=L.2;omega);·rintro k (a|a);(·have:=E.o k a;have:=L.2;omega);·exact a.2);by_cases x:e=0;(·subst x;by_cases a:q.kind=2;(·obtain rfl:R=(q,0):=o.o.trans (A_ (.inr a));go_wp2_with fail;have ap:=K.o;rw[a]at ap;refine qW (fF rfl _ _ rfl rfl (o7 ((mH X.o).alloc _))) rfl ?_;exact⟨_,rfl,ap _ ((nC (Same.refl _ _) ab.o).al y.o.1 _),L_ (jZ aa.o U) _⟩);·obtain rfl:R=(.mk 6 c.name 0 0 [q],0):=o.o.trans (u_ (by simp[a]));go_wp2;refine qW (fF rfl _ _ rfl rfl (o7 (((mH X.o).alloc _).alloc _))) rfl ?_;refine⟨_,rfl,?_,L_ (L_ (jZ aa.o U) _) _⟩;have aC:=f_.newAt ((tu d (w.heap.size+1) (.int .i64 6) (d_ c.name) (.int .i64 0) (.int .i64 0) (.slice (some ⟨d.heap.size+1,0,none⟩) 1 1)).alloc (.cells (Cs q H I) 40)) 40 (Cs q H I) (n:=d.heap.size+1) (by simp[tu,World.setCell]);(refine CZ.mk (ps:=[q]) ?_ (fU _) (by simp[m_]) λ_=>⟨d.heap.size+1,0,rfl,.inr ⟨U,by simp[tu,World.setCell]⟩,λi p m=>?_⟩);(·rintro k (a|a);(·have:=E.o k a;simp[tu,World.setCell];omega);·exact a.2);·(have aB:i=0:=by have:=(iR.1 m).1;simpa using this);subst aB;simp at m;subst m;refine⟨_,λj u az=>?_,K.o _ (((nC (Same.refl _ _) ab.o).al y.o.1 _).al y.o.1 _)⟩;have aA:=aC.cell j;rw[show 0+5*0+j=j by omega];refine aA.trans ?_;simpa using az);·obtain rfl:R=(q,e):=o.o.trans (A_ (.inl x));go_wp2;refine qW (fF rfl _ _ rfl rfl (o7 ((mH X.o).alloc _))) rfl ?_;exact⟨_,rfl,K.o _ ((nC (Same.refl _ _) ab.o).al y.o.1 _),L_ (jZ aa.o U) _⟩
def Ju(c d:Cn)(u v:V_)(w:W_)(q:TV w u c)(hv:TV w v d):z 175 #[u,v] w λe w'=>e=.returned (.bool (decide (fO c d=0)))/\jO w w':=by obtain⟨x,rfl,hc⟩:=q;obtain⟨y,rfl,f⟩:=hv;obtain⟨g,h,i,m,rfl⟩:=hc.cells;obtain⟨j,k,l,n,rfl⟩:=f.cells;simp only[d_];go_in;obtain⟨a,o⟩:∃a,(w.alloc (.cells #[c.kind,c.name,c.lo,c.hi,.slice g c.parts.length h,V (c.size:Nat),.slice i c.parts.length m] 183)).alloc (.cells #[d.kind,d.name,d.lo,d.hi,.slice j d.parts.length k,V (d.size:Nat),.slice l d.parts.length n] 183)=a:=⟨_,rfl⟩;(have b:jO w a:=by rw[<-o];exact((jO.refl _).al _).al _);have t:Hid (z 120 #[.agg #[c.kind,c.name,c.lo,c.hi,.slice g c.parts.length h,V (c.size:Nat),.slice i c.parts.length m],.agg #[d.kind,d.name,d.lo,d.hi,.slice j d.parts.length k,V (d.size:Nat),.slice l d.parts.length n]] a λe w'=>e=.returned (fO c d)/\jO a w'):=O (uz c d _ _ a ⟨_,rfl,hc.up b.below⟩ ⟨_,rfl,f.up b.below⟩);subst o;generalize fO c d=r at *;go_wp2_with fail;refine t.o.mono ?_;rintro e A ⟨rfl,p⟩;have s:=(b.trans p);clear p;go_wp2;go_ret;exact⟨rfl,s⟩
end
end Go.Proofs.YtjmbkfjklemmpaaGreatDoor
