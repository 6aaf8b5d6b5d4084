import Derived.DeepKeys4
import Derived.LaidLaws
import Derived.Lib.ItoaLen
import Derived.Maps.OwnOps
import Derived.OpenShut
import Derived.StringKeys
import Derived.WalkSpells
import Derived.WideKeyEntry
import Derived.Test.YtjmbkfjklemmpaaGreatDoorJ05
set_option linter.all false
set_option maxRecDepth 1000000
set_option maxHeartbeats 32000000
open Go renaming World->W_,Value->V_,maxLen->m_,TypeId->T_
namespace Go.Proofs
abbrev ca_:=@Go.Maps.has_eq
abbrev cb_:=@Go.Maps.has_put_same
abbrev ii_:=@Go.Maps.Keyed.of_law
end Go.Proofs
namespace Go.Proofs.YtjmbkfjklemmpaaGreatDoor
section
open Go.Deep Go.RowKit Tryz
def look(d:DataW Unit)(i j:Nat):Option V_:=
 match d with
 | .agg ds=>match ds[i]? with
   |some (.agg fs)=>match fs[j]? with
    |some (.lit (.int k z))=>some (.int k z)
    |some (.lit (.bool b))=>some (.bool b)
    |_=>none
   |_=>none
 |_=>none
def Ny{P:Program}{w:W_}{enc:T_×V_->Unit}{base:Nat}{sp:Nat->Bool}{d:Bool}{c:Nat}{t:T_}{a:List V_}{p:List MemPlace}{l:Lit}{v:V_}(hv:(match l with| .int k z=>some (.int k z)| .bool b=>some (.bool b)|_=>none:Option V_)=some v)(h:DataW.trod enc P w base sp d c t a=some (.lit l,p)):a=[v]:=by
 cases c with
 |zero=>simp[DataW.trod]at h
 |succ n=>
  unfold DataW.trod at h;cases l<;>simp at hv<;>subst hv;all_goals split at h;all_goals first|(simp at h;done)|(simp at h;simp_all;done)|(simp[M0,hg_]at h;done)|(split at h<;>(try (split at h))<;>simp_all [M0,hg_];done)|(split at h<;>(try (split at h))<;>(try (split at h))<;>simp[M0,hg_]at h)
def Bp{P:Program}{W:W_}{name:String}{d:DataW Unit}{rest:List (String×DataW Unit)}{g:Nat}{t e:T_}{n k:Nat}{fs:Array Field}(u:P.globalNamed name=some g)(af:(P.globals[g]?).map (·.type)=some t)(C:P.underlying t=some (.array n e))(E:P.underlying e=some (.struct fs))(am:oneCellFields P fs=true)(F:P.cellsOf e=k)(hf:fs.size=k)(h:laidMet P ((name,d)::rest) W)(i j o:Nat)(v:V_)(H:o=i*k+j)(hv:look d i j=some v):W.cell? ⟨g,o,none⟩=some v:=by
 subst H;obtain⟨ps,⟨ao,ap,w,aw,p,q,ag,ah,an,I,_,_⟩,_⟩:=h;obtain rfl:=Dy (u.symm.trans ag);obtain rfl:=Dy (af.symm.trans ah);obtain⟨K,m,rfl,L,hl,ai,hi⟩:=DataW.trod_array C I;obtain⟨rfl,_⟩:=Prod.mk.inj L;unfold look at hv;simp only[Cx]at hv
 cases c:K[i]? with
 |none=>rw[c]at hv;simp at hv
 |some x=>
  (have aj:i<n:=by rw[<-ai];exact(iR.1 c).1);have A:=hi i aj;rw[c,F]at A;obtain⟨T,aq,rfl,X,hl2,ak,Z⟩:=hc_ E A;obtain⟨ar,au⟩:=x;obtain⟨rfl,_⟩:=Prod.mk.inj X;rw[c]at hv;simp only[ih_,Cx]at hv
  cases r:T[j]? with
  |none=>rw[r]at hv;simp at hv
  |some y=>
   (have al:j<fs.size:=by rw[<-ak];exact(iR.1 r).1);obtain⟨f,B⟩:∃f,fs[j]?=some f:=⟨_,ZA al⟩;have s:=Z j f B;obtain⟨aa,ab⟩:=hone_of am j f B;rw[aa,ab,r]at s;obtain⟨ac,av⟩:=y;rw[r]at hv;simp only[ih_]at hv
   have ad:(((List.drop (i*k) w.toList).take k).drop j).take 1=[v]:=by
    cases ac with
    |lit l=>cases l with
     |int a z=>exact Ny (l:= .int a z) hv s
     |bool b=>exact Ny (l:= .bool b) hv s
     |_=>simp at hv
    |_=>simp at hv
   (have ae:w[i*k+j]?=some v:=by have:=qQ (·[0]?) ad;simp only[MW,hz_]at this;rw[A_ U,A_ U]at this;simpa[di_]using this);rw[World.var?_cell u an,ae]
end
section
open Go.RowKit Tryz
open Go.Maps (Keyed)
def zS(v:V_):Option (DataW V_×List MemPlace):=some (.held v,[])
structure KK(P:Program)(k:T_)(κ:Type) where
 kv:κ->V_
 kl:κ->Lit
 ok:κ->Prop
 keyed:Keyed P k
 key:∀x,ok x->keyOf P k (kv x)=some (kl x)
 inj:∀x y,ok x->ok y->kl x=kl y->x=y
section
variable{P:Program}{k:T_}{κ:Type}{w w':W_}{b n:Nat}{f:κ->Option V_}
def upd[DecidableEq κ](f:κ->Option V_)(x:κ)(u:Option V_):κ->Option V_:=λy=>if y=x then u else f y
def t_(w:W_)(K:KK P k κ)(b n:Nat)(f:κ->Option V_):Prop:=∃D:DataW V_,w.ownsMap P k zS b n D/\(∀x,K.ok x->(Maps.has D (K.kl x)=(f x).isSome/\∀z,D.atKey (K.kl x) z=match f x with|some u=> .held u|none=>z))/\ (∃es,D=.map es/\∀p∈es,∃x,K.ok x/\p.1=K.kl x)
def mem_insert{H:Type}(x:Lit×DataW H):∀(l:List (Lit×DataW H))(p:Lit×DataW H),p∈DataW.insert x l->p=x\/p∈l
 |[],p,h=>by simp[DataW.insert]at h;exact .inl h
 |y::r,p,h=>by
  unfold DataW.insert at h;split at h;(·rcases jU.1 h with h|h;(·exact .inl h);·exact .inr h);·rcases jU.1 h with h|h;(·exact .inr (by rw[h];exact gn_));·rcases mem_insert x r p h with h|h;(·exact .inl h);·exact .inr (ZJ _ h)
def t_.lt{K:KK P k κ}(h:t_ w K b n f):b<w.heap.size:=by obtain⟨D,a,_⟩:=h;exact a.lt
def t_.made(w:W_)(K:KK P k κ):t_ (w.alloc (.map #[] 0)) K w.heap.size 0 (λ_=>none):=⟨.map [],World.ownsMap_made w P k zS,λ_ _=>⟨rfl,λ_=>rfl⟩,[],rfl,λ_ h=>by cases h⟩
def t_.mono{K:KK P k κ}(h:t_ w K b n f){n':Nat}(a:n<=n'):t_ w K b n' f:=by obtain⟨D,c,d⟩:=h;exact⟨D,c.mono a,d⟩
def t_.kept{K:KK P k κ}{row:Option Nat}(h:t_ w K b n f)(a:w.grownBy w' row)(e:some b≠row):t_ w' K b n f:=by obtain⟨D,c,d⟩:=h;exact⟨D,c.kept a e,d⟩
def t_.up{K:KK P k κ}(h:t_ w K b n f)(hb:Below w.heap.size w w'):t_ w' K b n f:=h.kept (row:=none) ⟨hb.os,hb.tape,hb.output,hb.size,λk a _=>hb.block k a⟩ S
def t_.alloc{K:KK P k κ}(h:t_ w K b n f)(o:Obj):t_ (w.alloc o) K b n f:=h.kept (ed_ w o none) S
def t_.drew{K:KK P k κ}(h:t_ w K b n f):t_ w.drew K b n f:=h
def t_.drewN{K:KK P k κ}(h:t_ w K b n f)(q:Nat):t_ (w.drewN q) K b n f:=h
def t_.setCell{K:KK P k κ}(h:t_ w K b n f){a:Addr}(c:b≠a.block)(u:V_):t_ (w.setCell a u) K b n f:=by obtain⟨D,d,e⟩:=h;exact⟨D,d.setCell c u,e⟩
def t_.congr{K:KK P k κ}{g:κ->Option V_}(h:t_ w K b n f)(e:∀x,K.ok x->f x=g x):t_ w K b n g:=by obtain⟨D,c,d,i⟩:=h;exact⟨D,c,λx a=>by rw[<-e x a];exact d x a,i⟩
def t_.look{K:KK P k κ}{t e:T_}(h:t_ w K b n f)(c:P.underlying t=some (.map k e)){z:V_}(d:(zeroValue e).run P w=.ok z w){x:κ}(a:K.ok x):(Instr.lookup t (.map (some b)) (K.kv x) false).run P w=.ok ((f x).getD z) w:=by
 obtain⟨D,g,i,_⟩:=h;obtain⟨v,ps,j,hv⟩:=g.lookup K.keyed c d (zd:= .held z) (zp:=[]) rfl (K.key x a);rw[j];have:=(i x a).2 (.held z);rw[this]at hv;unfold zS at hv
 cases hf:f x with
 |none=>rw[hf]at hv;simp at hv;rw[hv.1];rfl
 |some u=>rw[hf]at hv;simp at hv;rw[hv.1];rfl
def t_.look_ok{K:KK P k κ}{t e:T_}(h:t_ w K b n f)(d:P.underlying t=some (.map k e)){z:V_}(g:(zeroValue e).run P w=.ok z w){x:κ}(a:K.ok x):(Instr.lookup t (.map (some b)) (K.kv x) true).run P w=.ok (.tuple #[(f x).getD z,(f x).isSome]) w:=by
 obtain⟨D,i,c,_⟩:=h;obtain⟨v,ps,j,hv⟩:=i.look_ok K.keyed d g (zd:= .held z) (zp:=[]) rfl (K.key x a);rw[j,(c x a).1];have:=(c x a).2 (.held z);rw[this]at hv;unfold zS at hv
 cases hf:f x with
 |none=>rw[hf]at hv;simp at hv;rw[hv.1];rfl
 |some u=>rw[hf]at hv;simp at hv;rw[hv.1];rfl
def t_.put[DecidableEq κ]{K:KK P k κ}{t e:T_}(h:t_ w K b n f)(o:P.underlying t=some (.map k e))(q:n<m_){x:κ}(a:K.ok x)(u:V_):∃w',(Instr.mapUpdate t (.map (some b)) (K.kv x) u).run P w=.ok () w'/\t_ w' K b (n+1) (upd f x (some u))/\w.grownBy w' (some b):=by obtain⟨D,r,j,C,rfl,s⟩:=h;obtain⟨w',v,A,B⟩:=r.update K.keyed o q (val:=u) (d:= .held u) (ps:=[]) (K.key x a) rfl;refine⟨w',v,⟨_,A,λy c=>?_,_,rfl,λp g=>?_⟩,B⟩;(·have l:=K.keyed.key (K.key x a);unfold upd;by_cases i:y=x;(·subst i;rw[A_ rfl];exact⟨cb_ ⟨_,rfl⟩ l _,λz=>Maps.atKey_put_same ⟨_,rfl⟩ l _ z⟩);·rw[u_ i];(have m:K.kl y≠K.kl x:=λe=>i (K.inj _ _ c a e));exact⟨(Maps.has_put_other m _).trans (j y c).1,λz=>(Maps.atKey_put_other m _ z).trans ((j y c).2 z)⟩);·rcases mem_insert _ _ _ g with rfl|g;(·exact⟨x,a,rfl⟩);·exact s p (qX.1 g).1
def t_.del[DecidableEq κ]{K:KK P k κ}{t e:T_}(h:t_ w K b n f)(l:P.underlying t=some (.map k e)){x:κ}(d:K.ok x)(g:T_):∃w',(Builtin.delete_ #[t,k] g #[.map (some b),K.kv x]).run P w=.ok (.tuple #[]) w'/\t_ w' K b n (upd f x none)/\w.grownBy w' (some b):=by obtain⟨D,m,i,v,rfl,o⟩:=h;obtain⟨w',q,r,s⟩:=m.drop K.keyed l (K.key x d) g;refine⟨w',q,⟨_,r,λy a=>?_,_,rfl,λp u=>o p (qX.1 u).1⟩,s.grown⟩;unfold upd;by_cases c:y=x;(·subst c;rw[A_ rfl];exact⟨Maps.has_del_same,λz=>Maps.atKey_del_same z⟩);·rw[u_ c];(have j:K.kl y≠K.kl x:=λe=>c (K.inj _ _ a d e));exact⟨(Maps.has_del_other j).trans (i y a).1,λz=>(Maps.atKey_del_other j z).trans ((i y a).2 z)⟩
def t_.len{K:KK P k κ}{t e:T_}(h:t_ w K b n f)(q:P.underlying t=some (.map k e))(l:T_):∃m:Nat,(Builtin.len_ #[t] l #[.map (some b)]).run P w=.ok (.int .i64 m) w/\(m=0↔∀x,K.ok x->f x=none)/\m<=n:=by
 obtain⟨D,o,c,d,rfl,g⟩:=h;refine⟨_,o.len q l,?_,o.size_le⟩;rw[Maps.size_eq];constructor
 ·intro i x a
  have y:d=[]:=Hl i;subst y;have:=(c x a).1
  cases hf:f x with
  |none=>rfl
  |some u=>rw[hf]at this;cases this
 ·intro i
  match d,g,c with
  |[],_,_=>rfl
  |p::d,g,c=>
   obtain⟨x,a,r⟩:=g p S;have j:=(c x a).1;rw[i x a,ca_,List.any_cons,r]at j;(have s:(K.kl x).sameKey (K.kl x)=true:=by have v:=K.keyed.key (K.key x a);have:=cb_ (D:= .map []) ⟨_,rfl⟩ v (DataW.held (H:=V_) (.bool true));simpa[ca_,DataW.put,DataW.insert]using this);rw[s]at j;cases j
end
section
variable{P:Program}{k:T_}{κ:Type}[DecidableEq κ]
def iO(w:W_){c:Array Oper}{rest:List Oper}{o:Oper}{a:Act}{Q:Exit->Act->W_->Prop}(d:o.guard=none)(m x v:Operand)(t:T_)(r:o.op=Op.mapUpdate t m x v)(e:T_)(K:KK P k κ)(g:P.underlying t=some (.map k e))(b n:Nat)(f:κ->Option V_)(h:a.eval m=.map (some b))(A:t_ w K b n f)(i:n<m_)(y:κ)(j:K.ok y)(u:V_)(l:a.eval x=K.kv y)(hv:a.eval v=u)(p:∀w',t_ w' K b (n+1) (upd f y (some u))->w.grownBy w' (some b)->wpList P c Q rest (a.put o.dst undef) w'):wpList P c Q (o::rest) a w:=by(refine hb_ d λC s=>?_);obtain⟨w',B,r1,q⟩:=A.put g i j u;unfold Oper.wp;simp[execOp,r,h,l,hv,B,Result.andThen];exact s _ _ (p w' r1 q)
def Qq(w:W_){c:Array Oper}{rest:List Oper}{o:Oper}{a:Act}{Q:Exit->Act->W_->Prop}(d:o.guard=none)(m x:Operand)(t:T_)(q:o.op=Op.call {callee:=Callee.builtin Builtin.delete,args:= #[m,x],argTypes:= #[t,k]})(e:T_)(K:KK P k κ)(g:P.underlying t=some (.map k e))(b n:Nat)(f:κ->Option V_)(h:a.eval m=.map (some b))(s:t_ w K b n f)(y:κ)(i:K.ok y)(j:a.eval x=K.kv y)(l:∀w',t_ w' K b n (upd f y none)->w.grownBy w' (some b)->wpList P c Q rest (a.put o.dst (.tuple #[])) w'):wpList P c Q (o::rest) a w:=by(refine hb_ d λv r=>?_);obtain⟨w',u,r1,p⟩:=s.del g i o.type;unfold Oper.wp execOp;simp only[q,resolve,invoke,builtin,Sem.run_bind,Sem.run_pure,Result.andThen_ok,List.map_toArray,ZB,List.map_nil,h,j,u];exact r _ _ (l w' r1 p)
end
def oG(x:Int):Prop:=(Lit.int .i64 x).wf=true
def abd{P:Program}{k:T_}(hk:P.underlying k=some (.int .i64)):KK P k Int:=⟨λx=> .int .i64 x,λx=> .int .i64 x,oG,Maps.int_keyed hk,λ_ hx=>Maps.keyOf_int_mk hk hx,λx y _ _ h=>by injection h⟩
def abe{P:Program}{k:T_}(hk:P.underlying k=some .string):KK P k (List UInt8):=
 ⟨λs=> .string ⟨s.toArray⟩,λs=> .string s,λs=>s.length<=m_,Maps.string_keyed hk,λs hs=>by
  have:=WideMaps.keyOf_string_mk hk (s:=⟨s.toArray⟩) hs
  simpa using this,λx y _ _ h=>by injection h⟩
end
section
open Go.RowKit Tryz
def sO(u:V_)(o:Option Nat):Prop:=∀a n c,u=.slice (some a) n c->0<n->some a.block≠o
def sO.none(u:V_):sO u none:=λ_ _ _ _ _ h=>by cases h
section
variable{α:Type}{w w':W_}{enc:α->List V_}{k:Nat}{u v:V_}{l:List α}
abbrev Rd(w:W_)(enc:α->List V_)(k:Nat)(v:V_)(l:List α):Prop:=Sl w w.heap.size enc k v l
def Rd.up(h:Rd w enc k v l)(hb:G w w'):Rd w' enc k v l:=(Sl.below h hb).more hb.size
def Rd.block_lt(h:Rd w enc k u l){a:Addr}{n c:Nat}(e:u=.slice (some a) n c)(d:0<n):a.block<w.heap.size:=by obtain⟨A,m,hv,_,_,f⟩:=h;rw[e]at hv;injection hv with g i o;subst g i;obtain⟨b,p,hb,j,_⟩:=f d;injection hb with hb;rw[hb];exact j
def Rd.kept{row:Option Nat}(h:Rd w enc k u l)(d:w.grownBy w' row)(g:sO u row):Rd w' enc k u l:=by obtain⟨A,c,rfl,hc,m,n⟩:=h;refine⟨A,c,rfl,hc,m,λe=>?_⟩;obtain⟨b,f,rfl,hb,q⟩:=n e;refine⟨b,f,rfl,sK hb d.size,λi x hi j y o=>?_⟩;have p:some b≠row:=g _ _ _ rfl e;exact(He (w:=w) (a:=⟨b,f+i*k+j,Option.none⟩) (d.block b hb p)).trans (q i x hi j y o)
def Rd.form(h:Rd w enc k v l):∃A c,v=.slice A l.length c/\l.length<=c/\c<=m_/\(0<l.length->∃b a,A=some ⟨b,a,none⟩/\b<w.heap.size/\zD w enc k b a l):=h
def qy{base:Nat}{e:T_}(a:∀x,(enc x).length=k)(o:0<k)(h:w.ownsRow base e k v l.length (l.flatMap enc)):Rd w enc k v l:=by rcases h.2 with⟨rfl,c⟩|⟨g,cap,r,rfl,hb,d,m,f,p,q⟩;(·have:l=[]:=Hl c;subst this;exact Sl.nil _ _ _ _);·refine⟨_,_,rfl,m,f,λ_=>⟨g,0,rfl,(vR.1 d).1,λi x hi j y b=>?_⟩⟩;(have n:j<k:=by rw[<-a x];exact(iR.1 b).1);have:=h.cells (g:=g) rfl (i*k+j) y (by rw[oL enc k a l i j x hi n];exact b);rw[add_lit]at this;rw[show(0+i*k+j)=0+(i*k+j) by omega];exact this
end
section
variable{α:Type}{w w':W_}{base:Nat}{e:T_}{enc:α->List V_}{k:Nat}{v:V_}{ps:List (V_×List α)}
def sP(w:W_)(base:Nat)(e:T_)(enc:α->List V_)(k:Nat)(v:V_)(ps:List (V_×List α)):Prop:=w.ownsRow base e 1 v ps.length (ps.map (·.1))/\∀p∈ps,Rd w enc k p.1 p.2/\sO p.1 v.ownBlock
def sP.nil(w:W_)(base:Nat)(e:T_)(enc:α->List V_)(k:Nat):sP w base e enc k (.slice none 0 0) []:=⟨Ba _ _ _ _,λ_ h=>by cases h⟩
def sP.up(h:sP w base e enc k v ps)(hb:G w w'):sP w' base e enc k v ps:=⟨gB h.1 hb,λp a=>⟨(h.2 p a).1.up hb,(h.2 p a).2⟩⟩
def sP.alloc(h:sP w base e enc k v ps)(o:Obj):sP (w.alloc o) base e enc k v ps:=h.up ((fD _ _).alloc (fU _) _)
def sP.kept{row:Option Nat}(h:sP w base e enc k v ps)(b:w.grownBy w' row)(c:v.ownBlock=none\/v.ownBlock≠row)(d:∀p∈ps,sO p.1 row):sP w' base e enc k v ps:=⟨h.1.kept b c,λp a=>⟨(h.2 p a).1.kept b (d p a),(h.2 p a).2⟩⟩
def sP.snoc{v':V_}{u:V_}{l:List α}{n:Nat}{i:List V_}(h:sP w base e enc k v ps)(d:n=ps.length+1)(o:i=ps.map (·.1)++[u])(q:w'.ownsRow base e 1 v' n i)(m:w.grownBy w' v.ownBlock)(hb:v'.ownBlock=v.ownBlock\/v'.ownBlock=some w.heap.size)(f:Rd w enc k u l)(g:sO u v.ownBlock):sP w' base e enc k v' (ps++[(u,l)]):=by(have key:∀(u:V_)(l:List α),Rd w enc k u l->sO u v.ownBlock->Rd w' enc k u l/\sO u v'.ownBlock:=λu l f g=>by refine⟨f.kept m g,λa n c e d=>?_⟩;rcases hb with hb|hb;(·rw[hb];exact g a n c e d);·rw[hb];intro j;injection j with j;have:=f.block_lt e d;omega);refine⟨?_,λp b=>?_⟩;(·subst d o;simpa using q);·rcases gH.1 b with b|b;(·exact key _ _ (h.2 p b).1 (h.2 p b).2);·rw[gy.1 b];exact key _ _ f g
def Zp(w:W_)(enc:α->List V_)(k:Nat)(v:V_)(L:List (List α)):Prop:=∃ps:List (V_×List α),ps.map (·.2)=L/\S1 w (·.1) v ps/\∀p∈ps,Rd w enc k p.1 p.2
def sP.rd(h:sP w base e enc k v ps):Zp w enc k v (ps.map (·.2)):=⟨ps,rfl,iL h.1,λp a=>(h.2 p a).1⟩
def Zp.up{L:List (List α)}(h:Zp w enc k v L)(hb:G w w'):Zp w' enc k v L:=by obtain⟨ps,e,a,b⟩:=h;exact⟨ps,e,a.up hb,λp c=>(b p c).up hb⟩
def Zp.form{L:List (List α)}(h:Zp w enc k v L):∃A c,v=.slice A L.length c/\L.length<=c/\c<=m_/\ (0<L.length->∃b a,A=some ⟨b,a,none⟩/\b<w.heap.size/\∀i x,L[i]?=some x->∃u,N w b (a+i) u/\Rd w enc k u x):=by obtain⟨ps,rfl,f,g⟩:=h;obtain⟨A,c,rfl,hc,j,m⟩:=f.form;refine⟨A,c,S,Q hc,j,λn=>?_⟩;obtain⟨b,a,e,hb,o⟩:=m (Q n);refine⟨b,a,e,hb,λi x hi=>?_⟩;rw[Cx]at hi;obtain⟨p,d,rfl⟩:=M0.1 hi;exact⟨p.1,o i p d,g p (gM d)⟩
def E8{size n:Nat}{d:List V_}{u:V_}{B:Nat}(h:w.ownsRow B e size u n d){o:Option Nat}(f:∀g,o=some g->g<B):sO u o:=λa m c i p j=>by subst i;rcases h.2 with⟨b,_⟩|⟨g,cap,q,b,hb,_⟩;(·cases b);·injection b with b _ _;injection b with b;subst b;have:=f g j.symm;omega
end
end
section
open Tryz
def mF(sep:St):List St->St
 |[]=>[]
 |[a]=>a
 |a::b::l=>a++sep++mF sep (b::l)
mutual
def jc:Cn->St
 | .mk k n l h ps=>if k=1 then[101,118,101,114,121,116,104,105,110,103] else if k=2 then[110,111,116,104,105,110,103] else if k=3 then n else if k=4 then 123::n++[125]
   else if k=5 then mF [32,97,110,100,32] (Qr ps) else if k=6 then[115,111,109,101,32]++n++[32]++(Qr ps).headD []
   else n++[32,105,110,32]++Lib.itoa l++[32,116,111,32]++Lib.itoa h
def Qr:List Cn->List St
 |[]=>[]
 |c::l=>(if c.kind=5 then 40::jc c++[41] else jc c)::Qr l
end
def I_(c:Cn):St:=if c.kind=5 then 40::jc c++[41] else jc c
def jo:St:=[42]
def iE:St:=[33]
def lV(n:St):St:=123::n++[125]
def j_(c:Cn):St:=if c.kind=1 then jo else if c.kind=2 then iE else if c.kind=3 then c.name else if c.kind=4 then lV c.name else 60::jc c++[62]
structure Pc where
 kind:Int
 A:St
 B:St
 C:St
 R:St
 S:St
 T:St
 lo:Int
 hi:Int
 fA:Int
deriving DecidableEq
structure Fc where
 kind:Int
 A:St
 B:St
 R:St
 lo:Int
 hi:Int
deriving DecidableEq
def kP(a c:St):Pc:=⟨1,a,[],c,[],[],[],0,0,0⟩
def vL(a b c:St):Pc:=⟨2,a,b,c,[],[],[],0,0,0⟩
def ng(a r c:St):Pc:=⟨3,a,[],c,r,[],[],0,0,0⟩
def ni(r a c:St):Pc:=⟨4,a,[],c,r,[],[],0,0,0⟩
def rF(r t:St):Pc:=⟨5,[],[],[],r,[],t,0,0,0⟩
def jy(r s t:St):Pc:=⟨6,[],[],[],r,s,t,0,0,0⟩
def oP(r:St):Pc:=⟨7,[],[],[],r,[],[],0,0,0⟩
def Tk(a r:St)(lo hi:Int):Pc:=⟨8,a,[],[],r,[],[],lo,hi,0⟩
def zU(r:St)(lo hi:Int)(c:St):Pc:=⟨9,[],[],c,r,[],[],lo,hi,0⟩
def n_(a b:St):Fc:=⟨1,a,b,[],0,0⟩
def N_(a r b:St):Fc:=⟨2,a,b,r,0,0⟩
def Y_(a r:St)(lo hi:Int):Fc:=⟨3,a,[],r,lo,hi⟩
def wF(first:St)(done:List Cn):List Cn->List Pc
 |[]=>[]
 |p::l=>vL first (j_ p) (j_ (.mk 5 [] 0 0 (done++[p])))::wF (j_ (.mk 5 [] 0 0 (done++[p]))) (done++[p]) l
def headA(ps:List Cn):St:=match ps with|[]=>[]|p::_=>j_ p
mutual
def iF:Cn->List Pc
 | .mk k n l h ps=>if k=5 then iB ps++(match ps with|[]=>[]|p::r=>wF (j_ p) [p] r)
   else if k=6 then iB ps++[ni n (headA ps) (j_ (.mk k n l h ps))]
   else if k=7 then[zU n l h (j_ (.mk k n l h ps))] else[]
def iB:List Cn->List Pc|[]=>[]|c::l=>iF c++iB l
end
mutual
def fV:Cn->List Pc
 | .mk k n l h ps=>if k=5 then iA (j_ (.mk k n l h ps)) ps
   else if k=6 then ng (j_ (.mk k n l h ps)) n (headA ps)::lW ps
   else if k=7 then[Tk (j_ (.mk k n l h ps)) n l h] else[]
def iA(a:St):List Cn->List Pc|[]=>[]|c::l=>kP a (j_ c)::(fV c++iA a l)
def lW:List Cn->List Pc|[]=>[]|c::l=>fV c++lW l
end
def om(first t:St):List St->List Pc
 |[]=>[]
 |[s]=>[jy first s t]
 |s::r::l=>jy first s (first++46::s)::om (first++46::s) t (r::l)
def Bb(x:Ax):List Pc:=
 if x.kind=1 then iF x.left++fV x.right++[kP (j_ x.left) (j_ x.right)]
 else if x.kind=2 then iF x.left++fV x.right++[kP (j_ x.left) (j_ x.right)]++iF x.right++fV x.left++[kP (j_ x.right) (j_ x.left)]
 else if x.kind=3 then iF x.left++iF x.right++[vL (j_ x.left) (j_ x.right) iE]
 else if x.kind=4 then fV x.right++[ni x.role jo (j_ x.right)]
 else if x.kind=5 then[rF (x.roles.headD []) x.role]
 else if x.kind=6 then om (x.roles.headD []) x.role x.roles.tail
 else if x.kind=7 then[oP x.role]
 else if x.kind=8 then fV x.right++[kP (lV x.a) (j_ x.right)]
 else if x.kind=9 then[ng (lV x.a) x.role (lV x.b)] else[]
def qz(l:List Pc):List Pc:=l.foldl (λacc p=>if p∈acc then acc else acc++[p]) []
def h_(n:Int)(p:Pc):Pc:={p with fA:=n}
def iP:Nat->List Ax->List Pc
 |_,[]=>[]
 |n,x::l=>(qz (Bb x)).map (h_ n)++iP (n+1) l
def fu(l:List Ax):List Pc:=iP 0 l
def O_(a:St):Pc:=kP a jo
def yw(x:Ax):List Pc:=
 if x.kind=1 then[O_ (j_ x.left),O_ (j_ x.right)]++fV x.left++iF x.right
 else if x.kind=2 then[O_ (j_ x.left),O_ (j_ x.right)]++fV x.left++iF x.right++fV x.right++iF x.left
 else if x.kind=3 then let y:=60::I_ x.left++[32,97,110,100,32]++I_ x.right++[62]
  [O_ y,O_ iE,kP y (j_ x.left)]++fV x.left++[kP y (j_ x.right)]++fV x.right
 else if x.kind=4 then let y:=[60,115,111,109,101,32]++x.role++[32,101,118,101,114,121,116,104,105,110,103,62]
  [O_ y,O_ (j_ x.right),ng y x.role jo]++iF x.right
 else if x.kind=8 then[O_ (lV x.a),O_ (j_ x.right)]++iF x.right
 else if x.kind=9 then[O_ (lV x.a),O_ (lV x.b)] else[]
def yx(x:Ax):List Fc:=
 if x.kind=1 then[n_ (j_ x.left) (j_ x.right)]
 else if x.kind=2 then[n_ (j_ x.left) (j_ x.right),n_ (j_ x.right) (j_ x.left)]
 else if x.kind=3 then[n_ (60::I_ x.left++[32,97,110,100,32]++I_ x.right++[62]) iE]
 else if x.kind=4 then[n_ ([60,115,111,109,101,32]++x.role++[32,101,118,101,114,121,116,104,105,110,103,62]) (j_ x.right)]
 else if x.kind=8 then[n_ (lV x.a) (j_ x.right)]
 else if x.kind=9 then[N_ (lV x.a) x.role (lV x.b)] else[]
def lK(x:Ax):List Pc:=(qz (yw x)).map (h_ (-1))
def uE(x y:Fc):Int:=kM (gK x.kind y.kind) (kM (fJ x.A y.A) (kM (fJ x.B y.B) (kM (fJ x.R y.R) (kM (gK x.lo y.lo) (gK x.hi y.hi)))))
def Bq{x y:Fc}:uE x y=0↔x=y:=by unfold uE;simp only[zH,Bc,xD];obtain⟨a,b,c,d,e,f⟩:=x;obtain⟨g,h,i,d',j,k⟩:=y;simp only[Fc.mk.injEq]
def Nz(x y:Fc):uE y x= -uE x y:=by unfold uE;simp only[D9,<-EB,<-EC]
def Xg(x y z:Fc):EA (uE x y) (uE y z) (uE x z):=by unfold uE;exact(mq _ _ _).or λ_ _=>(nM _ _ _).or λ_ _=>(nM _ _ _).or λ_ _=>(nM _ _ _).or λ_ _=>(mq _ _ _).or λ_ _=>mq _ _ _
abbrev Qs(a b:Fc):Prop:=uE a b<0
def Jj{a b c:Fc}(d:Qs a b)(e:Qs b c):Qs a c:=(Xg a b c).1 d e
def Qt(a:Fc):¬Qs a a:=by unfold Qs;rw[Bq.2 rfl];decide
def sQ(P:List Pc)(q:Pc):Prop:=∃x∈P,h_ 0 x=q
def lM(P:List Pc)(s:St):Prop:=s=jo\/s=iE\/(s≠[]/\∃x∈P,x.A=s\/x.B=s\/x.C=s)
inductive jK(P:List Pc):Fc->Prop
 |refl {a:St}:lM P a->jK P (n_ a a)
 |top {a:St}:lM P a->jK P (n_ a jo)
 |loop {a r:St}:lM P a->sQ P (oP r)->jK P (N_ a r a)
 |sub {a b c:St}:jK P (n_ a b)->sQ P (kP b c)->jK P (n_ a c)
 |both {a b d c:St}:jK P (n_ a b)->jK P (n_ a d)->sQ P (vL b d c)->jK P (n_ a c)
 |some {a b r c:St}:jK P (n_ a b)->sQ P (ng b r c)->jK P (N_ a r c)
 |role {a r b t:St}:jK P (N_ a r b)->sQ P (rF r t)->jK P (N_ a t b)
 |chain {a r b s c t:St}:jK P (N_ a r b)->jK P (N_ b s c)->sQ P (jy r s t)->jK P (N_ a t c)
 |fill {a r b c d:St}:jK P (N_ a r b)->jK P (n_ b c)->sQ P (ni r c d)->jK P (n_ a d)
 |none {a r b:St}:jK P (N_ a r b)->jK P (n_ b iE)->jK P (n_ a iE)
 |value {a b r:St} {l h:Int}:jK P (n_ a b)->sQ P (Tk b r l h)->jK P (Y_ a r l h)
 |meet {a r:St} {l h l' h':Int}:jK P (Y_ a r l h)->jK P (Y_ a r l' h')->max l l'<=min h h'->jK P (Y_ a r (max l l') (min h h'))
 |apart {a r:St} {l h l' h':Int}:jK P (Y_ a r l h)->jK P (Y_ a r l' h')->min h h'<max l l'->jK P (n_ a iE)
 |out {a r c:St} {l h l' h':Int}:jK P (Y_ a r l h)->sQ P (zU r l' h' c)->l'<=l->h<=h'->jK P (n_ a c)
def NA{P Q:List Pc}(h:∀x∈P,∃y∈Q,h_ 0 y=h_ 0 x){s:St}(b:lM P s):lM Q s:=by rcases b with a|a|⟨c,x,d,a⟩;(·exact .inl a);(·exact .inr (.inl a));·obtain⟨y,f,e⟩:=h x d;have g:y.A=x.A:=(show(h_ 0 y).A=(h_ 0 x).A by rw[e]);have i:y.B=x.B:=(show(h_ 0 y).B=(h_ 0 x).B by rw[e]);have j:y.C=x.C:=(show(h_ 0 y).C=(h_ 0 x).C by rw[e]);exact .inr (.inr ⟨c,y,f,by rw[g,i,j];exact a⟩)
def jK.mono{P Q:List Pc}(h:∀x∈P,∃y∈Q,h_ 0 y=h_ 0 x){f:Fc}(hf:jK P f):jK Q f:=by
 (have d:∀{q:Pc},sQ P q->sQ Q q:=λ⟨x,j,e⟩=>by obtain⟨y,k,l⟩:=h x j;exact⟨y,k,l.trans e⟩);have i:=λ{s:St}(m:lM P s)=>NA h m
 induction hf with
 |refl g=>exact .refl (i g)
 |top g=>exact .top (i g)
 |loop g b=>exact .loop (i g) (d b)
 |sub _ b a=>exact .sub a (d b)
 |both _ _ c a i2=>exact .both a i2 (d c)
 |some _ b a=>exact .some a (d b)
 |role _ b a=>exact .role a (d b)
 |chain _ _ c a i2=>exact .chain a i2 (d c)
 |fill _ _ c a i2=>exact .fill a i2 (d c)
 |none _ _ a i2=>exact .none a i2
 |value _ b a=>exact .value a (d b)
 |meet _ _ c a i2=>exact .meet a i2 c
 |apart _ _ c a i2=>exact .apart a i2 c
 |out _ b c n a=>exact .out a (d b) c n
def ny(P:List Pc)(l:List Fc):Prop:=l.Pairwise Qs/\∀f,f∈l↔jK P f
def pU(P:List Pc)(n:Nat):Prop:=∃l:List Fc,l.Nodup/\(∀f∈l,jK P f)/\n<l.length
inductive wG(L:List Ax):St->St->Prop
 |refl (r:St):wG L r r
 |step {r s t:St} {x:Ax}:wG L r s->x∈L->x.kind=5->x.roles.headD []=s->x.role=t->wG L r t
def oH(x:Ax)(i:Nat):Bool:=
 if x.roles.getD i []≠x.role then false else
 let many:=x.roles.count x.role
 (many==1&&(i==0||i+1==x.roles.length))||(many==2&&x.roles.length==2)
def qA(L:List Ax)(r s:St)(strict:Bool):Prop:=
 (strict=false/\∃x∈L,x.kind=5/\x.roles.headD []=r/\x.role=s/\r≠s)\/
 (strict=true/\∃x∈L,x.kind=6/\x.role=s/\∃i,x.roles[i]?=some r/\oH x i=false)
inductive lN(L:List Ax):St->St->Bool->Prop
 |one {r s:St} {b:Bool}:qA L r s b->lN L r s b
 |more {r s t:St} {b c:Bool}:lN L r s b->qA L s t c->lN L r t (b||c)
def uF(L:List Ax):Prop:=∃r,lN L r r true
def qA.mono{L M:List Ax}(h:∀x∈L,x∈M){r s:St}{b:Bool}(e:qA L r s b):qA M r s b:=by rcases e with⟨a,x,c,d⟩|⟨a,x,c,d⟩;(·exact .inl ⟨a,x,h x c,d⟩);·exact .inr ⟨a,x,h x c,d⟩
def lN.mono{L M:List Ax}(h:∀x∈L,x∈M){r s:St}{b:Bool}(a:lN L r s b):lN M r s b:=by
 induction a with
 |one c=>exact .one (c.mono h)
 |more _ d e=>exact .more e (d.mono h)
def uF.mono{L M:List Ax}(h:∀x∈L,x∈M)(hc:uF L):uF M:=by obtain⟨r,a⟩:=hc;exact⟨r,a.mono h⟩
def wG.mono{L M:List Ax}(h:∀x∈L,x∈M){r s:St}(a:wG L r s):wG M r s:=by
 induction a with
 |refl=>exact .refl r
 |step _ b c d e f=>exact .step f (h _ b) c d e
inductive Item(L:List Ax)(w:List St):List St->Nat->Nat->Prop
 |at_ {i:Nat} {r:St}:w[i]?=some r->Item L w [r] i (i+1)
 |refl {x:Ax} {i:Nat}:x∈L->x.kind=7->i<=w.length->Item L w [x.role] i i
 |up {x:Ax} {f t:Nat}:x∈L->x.kind=5->Item L w [x.roles.headD []] f t->Item L w [x.role] f t
 |more {x:Ax} {k f m t:Nat} {r:St}:x∈L->x.kind=6->0<k->k+1<x.roles.length->x.roles[k]?=some r->Item L w (x.roles.take k) f m->Item L w [r] m t->Item L w (x.roles.take (k+1)) f t
 |whole {x:Ax} {k f m t:Nat} {r:St}:x∈L->x.kind=6->0<k->k+1=x.roles.length->x.roles[k]?=some r->Item L w (x.roles.take k) f m->Item L w [r] m t->Item L w [x.role] f t
def Item.mono{L M:List Ax}(h:∀x∈L,x∈M){w r:List St}{f t:Nat}(i:Item L w r f t):Item M w r f t:=by
 induction i with
 |at_ a=>exact .at_ a
 |refl a b c=>exact .refl (h _ a) b c
 |up a b _ j=>exact .up (h _ a) b j
 |more a b c d e _ _ g i2=>exact .more (h _ a) b c d e g i2
 |whole a b c d e _ _ g i2=>exact .whole (h _ a) b c d e g i2
def adI(L:List Ax)(w:List St)(r:St):Prop:=Item L w [r] 0 w.length
def lX(L:List Ax)(a:Ax):List Pc:=fu L++lK a
def Im(L:List Ax)(a:Ax):Prop:=
 if a.kind=5 then wG L (a.roles.headD []) a.role
 else if a.kind=6 then adI L a.roles a.role
 else if a.kind=7 then ∃x∈L,x.kind=7/\wG L x.role a.role
 else ∀f∈yx a,jK (lX L a) f\/jK (lX L a) (n_ f.A iE)
def nP{y:Pc}:∀{n:Nat}{L:List Ax},y∈iP n L↔∃i x,L[i]?=some x/\∃z∈qz (Bb x),y=h_ (n+i:Nat) z
 |n,[]=>by simp[iP]
 |n,x::l=>by
  rw[iP,gH,pY,nP];constructor;·rintro(⟨z,b,rfl⟩|⟨i,c,a,z,b,rfl⟩);(·exact⟨0,x,rfl,z,b,rfl⟩);·exact⟨i+1,c,Q a,z,b,by congr 2;omega⟩
  ·rintro⟨i,c,a,z,b,rfl⟩
   match i,a with
   |0,a=>simp at a;subst a;exact .inl ⟨z,b,rfl⟩
   |i+1,a=>exact .inr ⟨i,c,Q a,z,b,by congr 2;omega⟩
def wH{L M:List Ax}(h:∀x∈L,x∈M):∀y∈fu L,∃z∈fu M,h_ 0 z=h_ 0 y:=λy a=>by obtain⟨i,x,b,z,c,rfl⟩:=nP.1 a;obtain⟨j,d⟩:=Wz (h x (gM b));exact⟨_,nP.2 ⟨j,x,d,z,c,rfl⟩,rfl⟩
def zV{L M:List Ax}(h:∀x∈L,x∈M)(a:Ax):∀y∈lX L a,∃z∈lX M a,h_ 0 z=h_ 0 y:=λy b=>by rcases gH.1 b with b|b;(·obtain⟨z,c,e⟩:=wH h y b;exact⟨z,gH.2 (.inl c),e⟩);·exact⟨y,gH.2 (.inr b),rfl⟩
def Im.mono{L M:List Ax}(h:∀x∈L,x∈M){a:Ax}(hf:Im L a):Im M a:=by unfold Im at *;by_cases c:a.kind=5;(·rw[A_ c]at hf ⊢;exact hf.mono h);·by_cases d:a.kind=6;(·rw[u_ c,A_ d]at hf ⊢;exact Item.mono h hf);·by_cases e:a.kind=7;(·rw[u_ c,u_ d,A_ e]at hf ⊢;obtain⟨x,g,b,i⟩:=hf;exact⟨x,h x g,b,i.mono h⟩);·rw[u_ c,u_ d,u_ e]at hf ⊢;intro f j;rcases hf f j with b|b;(·exact .inl (b.mono (zV h a)));·exact .inr (b.mono (zV h a))
def pU.mono{P Q:List Pc}(h:∀x∈P,∃y∈Q,h_ 0 y=h_ 0 x){n:Nat}(a:pU P n):pU Q n:=by obtain⟨l,b,c,d⟩:=a;exact⟨l,b,λf hf=>(c f hf).mono h,d⟩
def Bad(L:List Ax):Prop:=∃f,jK (fu L) f/\f.kind=1/\f=n_ f.A iE/\(f.A=jo\/f.A.head?=some 123)
def Bad.mono{L M:List Ax}(h:∀x∈L,x∈M)(hb:Bad L):Bad M:=by obtain⟨f,a,b⟩:=hb;exact⟨f,a.mono (wH h),b⟩
end
section
open Go.RowKit Tryz
def DR{l:List St}{k:Nat}{r s:St}(h:l[k]?=some s):(l.take (k+1)).count r=(l.take k).count r+if s=r then 1 else 0:=by obtain⟨a,e⟩:=iR.1 h;rw[Ht a,List.count_append,e,List.count_singleton];by_cases b:s=r<;>simp[b]
def Qu(x:Ax)(i:Nat)(E F X:Option Addr)(H I y:Nat)(w:W_)(hi:i<x.roles.length)(Z:lg w (.slice X x.roles.length y) x.roles)(hl:x.roles.length<=1000000):z 135 #[.agg (gV x E H F I X y),i] w λe w'=>e=.returned (oH x i)/\G w w':=by
 obtain⟨ax,ay,ai,_,_,aa⟩:=S1.form Z;injection ai with aj _ ak;subst aj ak;obtain⟨b,g,rfl,hb,ah⟩:=aa U;obtain⟨s,K⟩:=g_ hi;have ac:N w b (g+i) s:=ah i s K;have r1:(0:Int)<=(i:Int):=U;have az:(i:Int)<(x.roles.length:Int):=U
 have A:oH x i=(if s≠x.role then false else(x.roles.count x.role==1&&(i==0||i+1==x.roles.length))||(x.roles.count x.role==2&&x.roles.length==2)):=(by
  unfold oH;have:x.roles.getD i []=s:=by rw[KH,K];rfl
  rw[this])
 generalize oH x i=f at *;clear Z aa;obtain⟨o,q⟩:∃o,w.alloc (.cells (gV x E H F I (some ⟨b,g,none⟩) y) 43)=o:=⟨_,rfl⟩;(have u:f_ o w.heap.size 43 (gV x E H F I (some ⟨b,g,none⟩) y):=by rw[<-q];exact f_.new _ _ _);have W:G w o:=(by rw[<-q];exact bA);have ag:N o b (g+i) s:=(W.cell (p:=⟨b,g+i,none⟩) hb).trans ac;unfold gV d_ at q u ⊢;have ao:=C_ u 12 rfl;have ap:=C_ u 13 rfl;have al:=G_ ag;have ad:=O u;clear u ac ag;go_in;go_wp2_with (rw[q]);clear q;refine gN (by kernel_rfl) (by kernel_rfl) ?_;(repeat quiet_step (fail));refine wpQuiet_nil ?_;rintro _ ⟨L,rfl⟩;have d:=(b_ W L.below);have ae:=(bk L.below ad.o);generalize L.at=am at *;clear ao ap al ad W;have aq:=ae.cell 12;have ar:=ae.cell 13;simp at aq ar;by_cases v:s=x.role;(·have hv:(s==x.role)=true:=Q v;rw[hv];have a:f=((x.roles.count x.role==1&&(i==0||i+1==x.roles.length))||(x.roles.count x.role==2&&x.roles.length==2)):=(by rw[A];simp[v]);clear A;go_wp2;go_loopw [6,23] (λm j wr=>∃k:Nat,k<=x.roles.length/\j=.int .i64 (k:Int)/\m=.int .i64 (((x.roles.take k).count x.role:Nat):Int)/\wr=am) (λ_ j _=>x.roles.length-(intOf j).toNat);exact⟨0,gL _,rfl,S,rfl⟩;obtain⟨k,an,rfl,rfl,rfl⟩:=hrel;by_cases af:k<x.roles.length;(·obtain⟨t,ab⟩:=g_ af;have aA:N wr b (g+k) t:=(d.cell (p:=⟨b,g+k,none⟩) hb).trans (ah k t ab);have l:=DR (r:=x.role) ab;have aB:(x.roles.take k).count x.role<=k:=gT List.count_le_length (by simp;omega);have q1:(0:Int)<=(k:Int):=U;have q2:(k:Int)<(x.roles.length:Int):=U;by_cases h:t=x.role;(·have au:(t==x.role)=true:=Q h;rw[A_ h]at l;have P:=O l;clear l h;go_wp2;go_roundw;exact⟨k+1,U,R,by rw[P.o];go_num,trivial⟩;exact M);·have au:(t==x.role)=false:=Q h;rw[u_ h]at l;have P:=O l;clear l h;go_wp2;go_roundw;exact⟨k+1,U,R,by rw[P.o];go_num,trivial⟩;exact M);·(obtain rfl:k=x.roles.length:=by omega);rw[jh];have aC:1<=x.roles.length:=U;generalize x.roles.count x.role=n at *;clear K v hb af an;by_cases n1:n=1;(·subst n1;by_cases i0:i=0;(·subst i0;have c:f=true:=(by rw[a];simp);clear a;go_wp2;go_ret;exact⟨ku c.symm,d⟩);·have aD:((i:Int)==0)=false:=Q i0;by_cases B:i+1=x.roles.length;(·have c:f=true:=(by rw[a];simp[B]);(have av:((i:Int)==(x.roles.length:Int)-1)=true:=by simp;omega);clear a i0 B;go_wp2;go_ret;exact⟨ku c.symm,d⟩);·have c:f=false:=(by rw[a];simp[B,i0]);(have av:((i:Int)==(x.roles.length:Int)-1)=false:=by simp;omega);clear a i0 B;go_wp2;go_ret;exact⟨ku c.symm,d⟩);·by_cases T:n=2;(·subst T;by_cases C:x.roles.length=2;(·have c:f=true:=(by rw[a];simp[C]);(have aw:((x.roles.length:Int)==2)=true:=by simp;omega);clear a C;go_wp2;go_ret;exact⟨ku c.symm,d⟩);·have c:f=false:=(by rw[a];simp[C]);(have aw:((x.roles.length:Int)==2)=false:=by simp;omega);clear a C;go_wp2;go_ret;exact⟨ku c.symm,d⟩);·have c:f=false:=(by rw[a];simp[n1,T]);(have aE:((n:Int)==1)=false:=by simp;omega);(have aF:((n:Int)==2)=false:=by simp;omega);clear a n1 T;go_wp2;go_ret;exact⟨ku c.symm,d⟩);·have hv:(s==x.role)=false:=Q v;rw[hv];have a:f=false:=(by rw[A];simp[v]);clear A;go_wp2;go_ret;exact⟨ku a.symm,d⟩
end
section
open Tryz
abbrev Stp:=St×St×Bool
def MX(x:Ax)(i:Nat):List Stp:=((List.range i).filter λj=> !oH x j).map λj=>(x.roles.getD j [],x.role,true)
def WB(x:Ax):List Stp:=
 if x.kind=5 then(if x.roles.headD []=x.role then[] else[(x.roles.headD [],x.role,false)])
 else if x.kind=6 then MX x x.roles.length else[]
def tr(L:List Ax):List Stp:=L.flatMap WB
def wI(F:St->St->Option Bool)(r s:St)(t:Bool):St->St->Option Bool:=λr' s'=>if r'=r/\s'=s then some ((F r s).getD false||t) else F r' s'
def rG(T:List Stp):St->St->Option Bool:=T.foldl (λF t=>wI F t.1 t.2.1 t.2.2) λ_ _=>none
def yZ(T:List Stp)(r s:St)(t:Bool):rG (T++[(r,s,t)])=wI (rG T) r s t:=by simp[rG]
def Xh(x:Ax):MX x 0=[]:=rfl
def ZU{x:Ax}{i:Nat}{r:St}(a:x.roles[i]?=some r)(h:oH x i=false):MX x (i+1)=MX x i++[(r,x.role,true)]:=by(have e:x.roles.getD i []=r:=by rw[KH,a];rfl);simp[MX,dr_,P9,h,a]
def abI{x:Ax}{i:Nat}(h:oH x i=true):MX x (i+1)=MX x i:=by simp[MX,dr_,P9,h]
def Ee{L:List Ax}{k:Nat}{x:Ax}(h:L[k]?=some x):tr (L.take (k+1))=tr (L.take k)++WB x:=by obtain⟨a,e⟩:=iR.1 h;rw[Ht a,e];simp[tr]
def Tm(x:Ax)(i:Nat):(MX x i).length<=i:=by unfold MX;rw[oD];exact gT (PY _ _) S
def ZV{x:Ax}(h:x.roles.length<=1000000):(WB x).length<=1000000:=by unfold WB;by_cases a:x.kind=5;(·rw[A_ a];split<;>simp);·rw[u_ a];by_cases b:x.kind=6;(·rw[A_ b];exact gT (Tm _ _) h);·rw[u_ b];simp
def Qv:∀{L:List Ax},(∀x∈L,x.roles.length<=1000000)->(tr L).length<=L.length*1000000
 |[],_=>by simp[tr]
 |x::l,h=>by
  have c:=ZV (h x S);(have a:=Qv (L:=l) λy b=>h y (by simp[b]));simp only[tr,M5,lG,p8]at a ⊢;omega
def Tn{x:Ax}{n:Nat}{r s:St}{t:Bool}(p:n<=x.roles.length):(r,s,t)∈MX x n↔t=true/\s=x.role/\∃i,i<n/\x.roles[i]?=some r/\oH x i=false:=by unfold MX;constructor;(·intro h;obtain⟨j,b,e⟩:=pY.1 h;obtain⟨c,d⟩:=qX.1 b;have m:j<n:=Q c;injection e with f a;injection a with a g;have o:j<x.roles.length:=U;refine⟨g.symm,a.symm,j,m,?_,Q d⟩;rw[<-f,KH,qY o];rfl);·rintro⟨rfl,rfl,i,hi,k,l⟩;refine pY.2 ⟨i,qX.2 ⟨Q hi,by simp[l]⟩,?_⟩;rw[KH,k];rfl
def E9{L:List Ax}{r s:St}{t:Bool}:(r,s,t)∈tr L↔qA L r s t:=by unfold tr qA;rw[gp_];constructor;(·rintro⟨x,a,h⟩;unfold WB at h;by_cases b:x.kind=5;(·rw[A_ b]at h;by_cases e:x.roles.headD []=x.role;(·rw[A_ e]at h;cases h);·rw[u_ e]at h;have:=gy.1 h;injection this with f d;injection d with d j;exact .inl ⟨j,x,a,b,f.symm,d.symm,by rw[f,d];exact e⟩);·rw[u_ b]at h;by_cases c:x.kind=6;(·rw[A_ c]at h;obtain⟨k,l,i,_,m,n⟩:=(Tn (fU _)).1 h;exact .inr ⟨k,x,a,c,l.symm,i,m,n⟩);·rw[u_ c]at h;cases h);·rintro(⟨rfl,x,a,b,rfl,rfl,p⟩|⟨rfl,x,a,c,rfl,i,g,o⟩);(·refine⟨x,a,?_⟩;unfold WB;rw[A_ b,u_ p];simp);·refine⟨x,a,?_⟩;unfold WB;rw[u_ U,A_ c];exact(Tn (fU _)).2 ⟨rfl,rfl,i,(iR.1 g).1,g,o⟩
def Ut{α:Type}{P:List α->Prop}(a:P [])(b:∀l x,P l->P (l++[x])):∀l,P l:=λl=>by
 rw[<-List.reverse_reverse l]
 induction l.reverse with
 |nil=>exact a
 |cons x r c=>rw[List.reverse_cons];exact b _ _ c
def uG:∀(T:List Stp)(r s:St)(b:Bool),rG T r s=some b↔(∃t,(r,s,t)∈T)/\(b=true↔(r,s,true)∈T):=by
 refine Ut ?_ ?_;·intro r s b;simp[rG]
 ·rintro T ⟨g,i,t⟩ a r s b
  rw[yZ];unfold wI;by_cases h:r=g/\s=i
  ·obtain⟨rfl,rfl⟩:=h
   rw[A_ ⟨rfl,rfl⟩]
   have key:(rG T r s).getD false=true↔(r,s,true)∈T:=by
    cases hf:rG T r s with
    |none=>
     constructor;(·intro h;cases h);·intro j;have:=(a r s true).2 ⟨⟨true,j⟩,by simp[j]⟩;rw[hf]at this;cases this
    |some c=>
     have:=(a r s c).1 hf;simpa using this.2
   constructor;(·intro e;injection e with e;refine⟨⟨t,S⟩,?_⟩;rw[<-e,Ug,key];simp[eq_comm]);·rintro⟨_,hb⟩;congr 1;rw[WA,hb,Ug,key];simp[eq_comm]
  ·rw[u_ h,a];(have:∀d,(r,s,d)∈T++[(g,i,t)]↔(r,s,d)∈T:=λd=>by simp only[gH,gy];constructor;(·rintro(k|e);(·exact k);·injection e with l f;injection f with f _;exact absurd ⟨l,f⟩ h);·exact .inl);simp only[this]
end
section
open Go.RowKit Tryz
structure Aw(X:Nat->Prop)(w w':W_):Prop where
 os:w'.os=w.os
 tape:w'.tape=w.tape
 output:w'.output=w.output
 size:w.heap.size<=w'.heap.size
 block:∀g,g<w.heap.size->¬X g->w'.heap[g]?=w.heap[g]?
section
variable{X Y:Nat->Prop}{w w' w'':W_}
def Aw.refl(X:Nat->Prop)(w:W_):Aw X w w:=⟨rfl,rfl,rfl,fU _,λ_ _ _=>rfl⟩
def Aw.trans(h:Aw X w w')(k:Aw Y w' w'')(c:∀g,g<w.heap.size->Y g->X g):Aw X w w'':=⟨k.os.trans h.os,k.tape.trans h.tape,k.output.trans h.output,gT h.size k.size,λg a b=>(k.block g (sK a h.size) (λd=>b (c g a d))).trans (h.block g a b)⟩
def Aw.mono(h:Aw X w w')(b:∀g,g<w.heap.size->X g->Y g):Aw Y w w':=⟨h.os,h.tape,h.output,h.size,λg a c=>h.block g a λd=>c (b g a d)⟩
def Aw.of(h:Below w.heap.size w w'):Aw X w w':=⟨h.os,h.tape,h.output,h.size,λg a _=>h.block g a⟩
def Aw.al(h:Aw X w w')(o:Obj):Aw X w (w'.alloc o):=h.trans (Y:=X) (.of (L_ (fD _ _) o)) λ_ _ h=>h
def Aw.then(h:Aw X w w')(k:Below w'.heap.size w' w''):Aw X w w'':=h.trans (Y:=X) (.of k) λ_ _ h=>h
def Aw.grown{b:Nat}(h:Aw X w w')(a:w'.grownBy w'' (some b))(hb:b<w.heap.size->X b):Aw X w w'':=h.trans (Y:=λg=>g=b) ⟨a.os,a.tape,a.output,a.size,λg c d=>a.block g c (Q d)⟩ λg c e=>by subst e;exact hb c
def Aw.below{B:Nat}(h:Aw X w w')(c:B<=w.heap.size)(a:∀g,g<B->¬X g):Below B w w':=⟨h.os,h.tape,h.output,h.size,λg b=>h.block g U (a g b)⟩
def Aw.blk{g:Nat}{t:T_}{a:Array V_}(h:Aw X w w')(hb:f_ w g t a)(b:¬X g):f_ w' g t a:=(h.block g hb.lt b).trans hb
def Aw.cell(h:Aw X w w'){b o:Nat}{u:V_}(hc:w.cell? ⟨b,o,none⟩=some u)(a:¬X b):w'.cell? ⟨b,o,none⟩=some u:=by have:=h.block b (zy w _ hc) a;rw[<-hc];simp only[World.cell?,this]
end
noncomputable def KT:KK prog 9 St:=abe underlying9
def Fa(R:St->Option Nat):St->Option V_:=λr=>(R r).map λb=> .map (some b)
def Uu(f:St->Option Bool):St->Option V_:=λs=>(f s).map .bool
structure M2(w:W_)(base bo n:Nat)(R:St->Option Nat)(F:St->St->Option Bool):Prop where
 lo:base<=bo
 out:t_ w KT bo n (Fa R)
 inn:∀r b,R r=some b->base<=b/\b≠bo/\t_ w KT b n (Uu (F r))
 inj:∀r s b,R r=some b->R s=some b->r=s
 non:∀r,R r=none->∀s,F r s=none
def Full(R:St->Option Nat)(F:St->St->Option Bool):Prop:=∀r b,R r=some b->∃s,s.length<=m_/\(F r s).isSome=true
def Br(R:St->Option Nat)(r:St)(b:Nat):St->Option Nat:=λy=>if y=r then some b else R y
section
variable{w w':W_}{base bo n:Nat}{R:St->Option Nat}{F:St->St->Option Bool}
def M2.up(h:M2 w base bo n R F)(hb:Below w.heap.size w w'):M2 w' base bo n R F:=⟨h.lo,h.out.up hb,λr b a=>⟨(h.inn r b a).1,(h.inn r b a).2.1,(h.inn r b a).2.2.up hb⟩,h.inj,h.non⟩
def M2.mono(h:M2 w base bo n R F){m:Nat}(c:n<=m):M2 w base bo m R F:=⟨h.lo,h.out.mono c,λr b a=>⟨(h.inn r b a).1,(h.inn r b a).2.1,(h.inn r b a).2.2.mono c⟩,h.inj,h.non⟩
def M2.new{r:St}(h:M2 w base bo n R F)(i:R r=none)(hb:base<=w.heap.size)(j:t_ w' KT bo (n+1) (upd (Fa R) r (some (.map (some w.heap.size)))))(f:(w.alloc (.map #[] 0)).grownBy w' (some bo)):M2 w' base bo (n+1) (Br R r w.heap.size) F:=by have m:bo<w.heap.size:=h.out.lt;refine⟨h.lo,j.congr λx _=>?_,λx b a=>?_,λx y b a c=>?_,λx a=>?_⟩;(·unfold upd Fa Br;by_cases e:x=r<;>simp[e]);(·unfold Br at a;by_cases e:x=r;(·rw[A_ e]at a;injection a with a;subst a;refine⟨hb,U,?_⟩;have:=((t_.made w KT).mono (n':=n+1) U).kept f (by intro e;injection e;omega);exact this.congr λy _=>by unfold Uu;rw[e,h.non r i];rfl);·rw[u_ e]at a;obtain⟨k,g,l⟩:=h.inn x b a;exact⟨k,g,((l.alloc _).kept f (by intro e;injection e;exact g ‹_›)).mono U⟩);(·unfold Br at a c;by_cases e:x=r<;>by_cases d:y=r;(·rw[e,d]);(·rw[A_ e]at a;rw[u_ d]at c;injection a with a;subst a;have:=(h.inn y _ c).2.2.lt;omega);(·rw[u_ e]at a;rw[A_ d]at c;injection c with c;subst c;have:=(h.inn x _ a).2.2.lt;omega);·rw[u_ e]at a;rw[u_ d]at c;exact h.inj x y b a c);·unfold Br at a;by_cases e:x=r;(·rw[A_ e]at a;cases a);·rw[u_ e]at a;exact h.non x a
def M2.put{r s:St}{t:Bool}{a:Nat}(h:M2 w base bo n R F)(d:R r=some a)(i:t_ w' KT a (n+1) (upd (Uu (F r)) s (some (.bool ((F r s).getD false||t)))))(g:w.grownBy w' (some a)):M2 w' base bo (n+1) R (wI F r s t):=by obtain⟨m,j,o⟩:=h.inn r a d;refine⟨h.lo,(h.out.kept g (by intro e;injection e;exact j (‹bo=a›).symm)).mono U,λx b c=>?_,h.inj,λx c y=>?_⟩;(·obtain⟨g1,k,g3⟩:=h.inn x b c;refine⟨g1,k,?_⟩;by_cases e:x=r;(·subst e;obtain rfl:a=b:=Dy (d.symm.trans c);exact i.congr λy _=>by unfold upd Uu wI;by_cases e:y=s<;>simp[e]);·(have l:some b≠some a:=λf=>e (h.inj x r b c (by injection f with f;rw[f];exact d)));exact((g3.kept g l).mono U).congr λy _=>by unfold Uu wI;simp[e]);·unfold wI;rw[u_ (by rintro⟨rfl,_⟩;rw[d]at c;cases c)];exact h.non x c y
def M2.look(h:M2 w base bo n R F){r:St}(hl:r.length<=m_):(Instr.lookup 137 (.map (some bo)) (.string ⟨r.toArray⟩) false).run prog w=.ok (.map (R r)) w:=by
 have:=h.out.look (K:=KT) underlying137 (zeroValue194 w) (x:=r) hl;unfold Fa at this
 cases a:R r with
 |none=>rw[a]at this;exact this
 |some b=>rw[a]at this;exact this
def M2.Xi(h:M2 w base bo n R F){r s:St}{b:Nat}(a:R r=some b)(hl:s.length<=m_):(Instr.lookup 194 (.map (some b)) (.string ⟨s.toArray⟩) false).run prog w=.ok (.bool ((F r s).getD false)) w:=by
 have:=(h.inn r b a).2.2.look (K:=KT) underlying194 (zeroValue4 w) (x:=s) hl;unfold Uu at this
 cases a:F r s with
 |none=>rw[a]at this;exact this
 |some b=>rw[a]at this;exact this
end
def Full.add{R:St->Option Nat}{F:St->St->Option Bool}(h:Full R F){r s:St}{t:Bool}(a:s.length<=m_):Full R (wI F r s t):=λx b c=>by by_cases e:x=r;(·subst e;exact⟨s,a,by unfold wI;simp⟩);·obtain⟨y,d,f⟩:=h x b c;exact⟨y,d,by unfold wI;simp[e,f]⟩
def Full.new{R:St->Option Nat}{F:St->St->Option Bool}(h:Full R F){r s:St}{t:Bool}(b:Nat)(c:s.length<=m_):Full (Br R r b) (wI F r s t):=λx b a=>by by_cases e:x=r;(·subst e;exact⟨s,c,by unfold wI;simp⟩);·unfold Br at a;rw[u_ e]at a;obtain⟨y,d,f⟩:=h x b a;exact⟨y,d,by unfold wI;simp[e,f]⟩
def La(r s:St)(t:Bool)(w:W_)(base bo n pc:Nat)(R:St->Option Nat)(F:St->St->Option Bool)(hb:base<=w.heap.size)(hc:w.cell? ⟨pc,0,none⟩=some (.map (some bo)))(i:M2 w base bo n R F)(v:Full R F)(ad:pc≠bo)(ae:∀r,R r≠some pc)(I:r.length<=m_)(j:s.length<=m_)(aj:n+2<=m_):Calls prog 134 #[d_ r,d_ s,.bool t,.pointer (some ⟨pc,0,none⟩)] w λe w'=>e=.returned (.tuple #[])/\∃K,M2 w' base bo (n+2) K (wI F r s t)/\Full K (wI F r s t)/\Aw (λg=>g=bo\/∃r,R r=some g) w w'/\∀r b,K r=some b->R r=some b\/w.heap.size<=b:=by
 unfold d_;have u:=i.look I;(have ak:=λ(m:Option Nat) W=>run_eql_map_nil (P:=prog) W 194 _ _ m underlying194);have am:= @run_makeMap prog
 cases k:R r with
 |none=>
  rw[k]at u;have af:t_ (w.alloc (.map #[] 0)) KT bo n (Fa R):=(i.out.alloc _);have y:=K_ i;have A:=K_ v;clear i v;go_in;go_wp2_with (at_mapUpdate;refine iO _ rfl _ _ _ 137 rfl 194 KT underlying137 bo n _ rfl af ?c1 r I (.map (some w.heap.size)) rfl rfl ?_);(case c1=>omega);intro B aa T;have E:M2 B base bo (n+1) (Br R r w.heap.size) F:=(y.out.new k hb aa T);have ab:Aw (λg=>g=bo\/∃r,R r=some g) w B:=((Aw.refl _ w).al _).grown T (λ_=> .inl rfl);have ag:B.cell? ⟨pc,0,none⟩=some (.map (some bo)):=ab.cell hc (λh=>h.elim ad λ⟨r,e⟩=>ae r e);have H:Br R r w.heap.size r=some w.heap.size:=A_ rfl;have ac:=E.look I;rw[H]at ac;have o:=E.Xi H j;have C:t_ B KT w.heap.size (n+1) (Uu (F r)):=(E.inn r _ H).2.2;(have hv:(F r s).getD false=false:=by rw[y.out.non r k s];rfl);have L:(F r s).getD false=false:=hv;rw[hv]at o;clear hv aa T u;go_wp2_with (at_mapUpdate;refine iO _ rfl _ _ _ 194 rfl 4 KT underlying194 w.heap.size (n+1) _ rfl C ?c2 s j (.bool t) rfl rfl ?_);(case c2=>omega);intro d f a;have ah:M2 d base bo (n+2) (Br R r w.heap.size) (wI F r s t):=(E.put H (by rw[L];exact f) a);have ai:=(ab.grown a (λh=>absurd h (fw_ _)));clear f a ac o ag;go_wp2;go_end0;refine⟨rfl,_,ah,A.out.new _ j,ai,λx b l=>?_⟩;unfold Br at l;by_cases e:x=r;(·rw[A_ e]at l;injection l with l;exact .inr U);·rw[u_ e]at l;exact .inl l
 |some p=>
  rw[k]at u;have o:=i.Xi k j;have C:t_ w KT p n (Uu (F r)):=(i.inn r _ k).2.2;have y:=K_ i;have A:=K_ v;clear i v;obtain⟨c,hv⟩:=e_ ((F r s).getD false);have L:(F r s).getD false=c:=hv;rw[hv]at o;clear hv;(have Z:∀d,t_ d KT p (n+1) (upd (Uu (F r)) s (some (.bool (c||t))))->w.grownBy d (some p)->M2 d base bo (n+2) R (wI F r s t)/\Aw (λg=>g=bo\/∃r,R r=some g) w d:=λd f a=>⟨(y.out.put k (by rw[L];exact f) a).mono U,(Aw.refl _ w).grown a (λ_=> .inr ⟨r,k⟩)⟩);cases c;(·go_in;go_wp2_with (at_mapUpdate;refine iO _ rfl _ _ _ 194 rfl 4 KT underlying194 p n _ rfl C ?c2 s j (.bool t) rfl rfl ?_);(case c2=>omega);intro d f a;have q:=Z d f a;clear f a u o;go_wp2;go_end0;exact⟨rfl,_,q.1,A.out.add j,q.2,λ_ _ h=> .inl h⟩);·go_in;go_wp2_with (at_mapUpdate;refine iO _ rfl _ _ _ 194 rfl 4 KT underlying194 p n _ rfl C ?c2 s j (.bool true) rfl rfl ?_);(case c2=>omega);intro d f a;have q:=Z d f a;clear f a u o;go_wp2;go_end0;exact⟨rfl,_,q.1,A.out.add j,q.2,λ_ _ h=> .inl h⟩
end
section
open Go.RowKit Go.ChangeMaps Tryz
open Go.Maps (Keyed)
section
variable{P:Program}{k:T_}{κ:Type}{w w':W_}{b n:Nat}{f:κ->Option V_}
def Uv{d:List MapEntry}(h:(d.map (·.key)).Nodup){a c:MapEntry}(j:a∈d)(hc:c∈d)(e:a.key=c.key):a=c:=by
 induction d with
 |nil=>cases j
 |cons x l p=>
  rw[ZB,du_]at h;rcases jU.1 j with m|o;(·rcases jU.1 hc with g|i;(·exact m.trans g.symm);·exact absurd (pY.2 ⟨c,i,by rw[<-e,m]⟩) h.1);·rcases jU.1 hc with g|i;(·exact absurd (pY.2 ⟨a,o,by rw[e,g]⟩) h.1);·exact p h.2 o i
def t_.pz{K:KK P k κ}(h:t_ w K b n f)(a:w'.heap[b]?=w.heap[b]?):t_ w' K b n f:=by obtain⟨D,⟨c,e,hb,r⟩,d⟩:=h;exact⟨D,⟨c,e,a.trans hb,r⟩,d⟩
def t_.entry[DecidableEq κ]{K:KK P k κ}{t e:T_}(hl:WideMaps.KeyLaw P k)(h:t_ w K b n f)(d:P.underlying t=some (.map k e)){z:V_}(o:∀u:W_,(zeroValue e).run P u=.ok z u)(H:n<m_){x:κ}(g:K.ok x):∃(st:Nat)(i:W_),(Instr.mapEntry t (.map (some b)) (K.kv x)).run P w=.ok (.tuple #[(f x).getD z,goInt st]) i/\w.grownBy i (some b)/\i.heap.size=w.heap.size/\ ∀(c:W_)(u:V_),c.heap[b]?=i.heap[b]? ->∃p,(Instr.entryStore t (.map (some b)) (goInt st) u).run P c=.ok () p/\t_ p K b (n+1) (upd f x (some u))/\c.grownBy p (some b):=by have I:=h;have B:=h.look d (o w) g;obtain⟨D,⟨L,ag,hb,F,ai,aj⟩,ak,al⟩:=h;obtain⟨v0,st,j,m,T,hv,Z⟩:=WideElems.entry_then_store hl d o hb F (K.key x g);(have aa:v0=(f x).getD z:=by rcases Maps.fit_look false K.keyed d (o w) hb F (K.key x g) with⟨a,q,_⟩|⟨W,y,C,E,a,_⟩;(·rw[B]at a;injection a with a _;rcases hv with⟨A,r,s,_⟩|⟨_,rfl⟩;(·exact absurd s (q A r));·exact a.symm);·rw[B]at a;injection a with a _;rcases hv with⟨A,r,s,rfl⟩|⟨q,_⟩;(·rw[Uv F.stamped.2.2 r C (s.trans E.symm)];exact a.symm);·exact absurd E (q W C));have X:w.grownBy (setBlock w b (.map j m)) (some b):=World.mapTurned.grown ⟨L,ag,j,m,hb,rfl⟩;refine⟨st,_,by rw[T,aa],X,by simp[setBlock],λc u ab=>?_⟩;have v:c.heap[b]?=some (.map j m):=ab.trans (heap_setBlock_same hb _);obtain⟨ac,ah,ad,ae⟩:=Z c u v;obtain⟨am,l,af,an⟩:=I.put d H g u;rw[ae]at l;injection l with _ l;subst l;exact⟨_,ad,af.pz ((heap_setBlock_same v _).trans (heap_setBlock_same hb _).symm),World.mapTurned.grown ⟨j,m,ac,ah,v,rfl⟩⟩
def nQ(w:W_)(K:KK P k κ)(b n:Nat)(f:κ->Option V_):Prop:=∃D:DataW V_,w.ownsMap P k zS b n D/\(∀x,K.ok x->(Maps.has D (K.kl x)=(f x).isSome/\∀z,D.atKey (K.kl x) z=match f x with|some u=> .held u|none=>z))/\ (∃es,D=.map es/\∀p∈es,∃x,K.ok x/\p.1=K.kl x)/\Maps.size D=n
def nQ.toF{K:KK P k κ}(h:nQ w K b n f):t_ w K b n f:=by obtain⟨D,a,c,d,_⟩:=h;exact⟨D,a,c,d⟩
def nQ.lt{K:KK P k κ}(h:nQ w K b n f):b<w.heap.size:=h.toF.lt
def nQ.made(w:W_)(K:KK P k κ):nQ (w.alloc (.map #[] 0)) K w.heap.size 0 (λ_=>none):=⟨.map [],World.ownsMap_made w P k zS,λ_ _=>⟨rfl,λ_=>rfl⟩,⟨[],rfl,λ_ h=>by cases h⟩,rfl⟩
def nQ.pz{K:KK P k κ}(h:nQ w K b n f)(a:w'.heap[b]?=w.heap[b]?):nQ w' K b n f:=by obtain⟨D,⟨c,e,hb,r⟩,d⟩:=h;exact⟨D,⟨c,e,a.trans hb,r⟩,d⟩
def nQ.congr{K:KK P k κ}{g:κ->Option V_}(h:nQ w K b n f)(e:∀x,K.ok x->f x=g x):nQ w K b n g:=by obtain⟨D,c,d,i⟩:=h;exact⟨D,c,λx a=>by rw[<-e x a];exact d x a,i⟩
def nQ.put[DecidableEq κ]{K:KK P k κ}{t e:T_}(h:nQ w K b n f)(r:P.underlying t=some (.map k e))(s:n<m_){x:κ}(a:K.ok x)(hf:f x=none)(u:V_):∃w',(Instr.mapUpdate t (.map (some b)) (K.kv x) u).run P w=.ok () w'/\nQ w' K b (n+1) (upd f x (some u))/\w.grownBy w' (some b):=by obtain⟨D,l,c,⟨F,rfl,v⟩,A⟩:=h;obtain⟨w',B,C,E⟩:=l.update K.keyed r s (val:=u) (d:= .held u) (ps:=[]) (K.key x a) rfl;refine⟨w',B,⟨_,C,λy g=>?_,⟨_,rfl,λp i=>?_⟩,?_⟩,E⟩;(·have m:=K.keyed.key (K.key x a);unfold upd;by_cases j:y=x;(·subst j;rw[A_ rfl];exact⟨cb_ ⟨_,rfl⟩ m _,λz=>Maps.atKey_put_same ⟨_,rfl⟩ m _ z⟩);·rw[u_ j];(have q:K.kl y≠K.kl x:=λe=>j (K.inj _ _ g a e));exact⟨(Maps.has_put_other q _).trans (c y g).1,λz=>(Maps.atKey_put_other q _ z).trans ((c y g).2 z)⟩);(·rcases mem_insert _ _ _ i with rfl|i;(·exact⟨x,a,rfl⟩);·exact v p (qX.1 i).1);·have o:=Maps.size_put (k:=K.kl x) (l.tidy K.keyed) (DataW.held u);rw[(c x a).1,hf,A]at o;simpa using o
def nQ.len{K:KK P k κ}{t e:T_}(h:nQ w K b n f)(c:P.underlying t=some (.map k e))(a:T_):(Builtin.len_ #[t] a #[.map (some b)]).run P w=.ok (.int .i64 n) w:=by obtain⟨D,d,_,_,g⟩:=h;rw[d.len c a,g]
end
def nK{κ α:Type}(vf:κ->V_)(g:κ->List α):κ->Option V_:=λr=>match g r with|[]=>none|_=>some (vf r)
section
variable{ι:Type}{w w':W_}{X:Nat->Prop}{base:Nat}{e k:ι->Nat}{vf:ι->V_}{C:ι->List (List V_)}
structure RF(w:W_)(X:Nat->Prop)(base:Nat)(e k:ι->Nat)(vf:ι->V_)(C:ι->List (List V_)):Prop where
 own:∀i,w.ownsRow base (e i) (k i) (vf i) (C i).length (C i).flatten
 ap:∀i j,i≠j->(vf i).ownBlock=none\/(vf i).ownBlock≠(vf j).ownBlock
 nil:∀i,C i=[]->vf i=.slice none 0 0
 fx:∀i g,(vf i).ownBlock=some g->¬X g
def j6[DecidableEq ι]{α:Type}(f:ι->α)(i:ι)(a:α):ι->α:=λj=>if j=i then a else f j
def lZ[DecidableEq ι]{α:Type}(f:ι->α)(i:ι)(a:α):j6 f i a i=a:=by unfold j6;rw[A_ rfl]
def ko[DecidableEq ι]{α:Type}(f:ι->α){i j:ι}(a:α)(h:j≠i):j6 f i a j=f j:=by unfold j6;rw[u_ h]
def RF.begin(w:W_)(X:Nat->Prop)(base:Nat)(e k:ι->Nat):RF w X base e k (λ_=> .slice none 0 0) (λ_=>[]):=⟨λ_=>Ba _ _ _ _,λ_ _ _=> .inl rfl,λ_ _=>rfl,λ_ _ h=>by cases h⟩
def RF.lt(h:RF w X base e k vf C){i:ι}{g:Nat}(a:(vf i).ownBlock=some g):base<=g/\g<w.heap.size:=(h.own i).lt g a
def RF.at(h:RF w X base e k vf C)(hb:∀i g,(vf i).ownBlock=some g->w'.heap[g]?=w.heap[g]?):RF w' X base e k vf C:=by refine⟨λi=>?_,h.ap,h.nil,h.fx⟩;refine⟨(h.own i).1,?_⟩;rcases(h.own i).2 with a|⟨g,c,l,a,d,j,r⟩;(·exact .inl a);·exact .inr ⟨g,c,l,a,d,(hb i g (by rw[a];rfl)).trans j,r⟩
def RF.kept(h:RF w X base e k vf C){b:Nat}(a:w.grownBy w' (some b))(hb:X b):RF w' X base e k vf C:=h.at λi g hi=>a.block g (h.lt hi).2 λe=>by injection e with e;subst e;exact h.fx i _ hi hb
def RF.more{Y:Nat->Prop}(h:RF w X base e k vf C)(a:∀i g,(vf i).ownBlock=some g->¬Y g):RF w Y base e k vf C:=⟨h.own,h.ap,h.nil,a⟩
def RF.add[DecidableEq ι](h:RF w X base e k vf C){i:ι}{v':V_}{c:List V_}{n:Nat}{s:List V_}(B:w'.ownsRow base (e i) (k i) v' n s)(t:n=(C i).length+1)(v:s=(C i).flatten++c)(q:w.grownBy w' (vf i).ownBlock)(r:v'.ownBlock=(vf i).ownBlock\/v'.ownBlock=some w.heap.size)(u:∀g,X g->g<w.heap.size):RF w' X base e k (j6 vf i v') (j6 C i (C i++[c])):=by subst t v;(have lt:∀x g,(vf x).ownBlock=some g->g<w.heap.size:=λx g q=>(h.lt q).2);refine⟨λj=>?_,λx y p=>?_,λx d=>?_,λx g d=>?_⟩;(·by_cases a:j=i;(·subst a;rw[lZ,lZ];simpa using B);·rw[ko _ _ a,ko _ _ a];exact(h.own j).kept q (h.ap j i a));(·by_cases a:x=i<;>by_cases o:y=i;(·exact absurd (a.trans o.symm) p);(·subst a;rw[lZ,ko _ _ o];rcases r with l|l;(·rw[l];exact h.ap x y p);·(refine .inr λm=>?_);rw[l]at m;have:=lt y _ m.symm;omega);(·subst o;rw[lZ,ko _ _ a];rcases r with l|l;(·rw[l];exact h.ap x y p);·(refine .inr λm=>?_);rw[l]at m;have:=lt x _ m;omega);·rw[ko _ _ a,ko _ _ o];exact h.ap x y p);(·by_cases a:x=i;(·subst a;rw[lZ]at d;simp at d);·rw[ko _ _ a]at d ⊢;exact h.nil x d);·by_cases a:x=i;(·subst a;rw[lZ]at d;rcases r with l|l;(·rw[l]at d;exact h.fx x g d);·rw[l]at d;injection d with d;intro A;have:=u g A;omega);·rw[ko _ _ a]at d;exact h.fx x g d
end
end
section
open Go.Maps Go.RowKit Tryz
def laidOut:laidOutB prog=true:=by kernel_rfl
def kl9(m:Nat)(s:St)(h:s.length<=m_):prog.keyLits (m+1) 9 [d_ s]=some [.string s]:=by unfold Program.keyLits;rw[underlying9];simp only[];rw[A_ (by show s.toArray.size<=m_;rw[Zg];exact h)]
def kl3(m:Nat)(x:Int)(h:(Lit.int .i64 x).wf=true):prog.keyLits (m+1) 3 [.int .i64 x]=some [.int .i64 x]:=by unfold Program.keyLits;rw[underlying3];simp only[];rw[A_ (by first|exact⟨rfl,h⟩|exact⟨trivial,h⟩|simpa using h)]
def abJ:prog.cellsOf 9=1:=by kernel_rfl
def cells3:prog.cellsOf 3=1:=by kernel_rfl
def afv{P:Program}{m:Nat}{fs:List Field}{a:List V_}{ls:List Lit}(h:fs.length=ls.length)(b:∀(i:Nat) f l,fs[i]?=some f->ls[i]?=some l->P.keyLits m f.type ((a.drop f.offset).take (P.cellsOf f.type))=some [l]):(fs.mapM λf=>P.keyLits m f.type ((a.drop f.offset).take (P.cellsOf f.type)))=some (ls.map λl=>[l]):=by
 induction fs generalizing ls with
 |nil=>cases ls with
  |nil=>rfl
  |cons _ _=>cases h
 |cons f fs c=>cases ls with
  |nil=>cases h
  |cons l ls=>
   rw[List.mapM_cons,b 0 f l rfl rfl,c (Q h) λi g k d hl=>b (i+1) g k (Q d) (Q hl)];rfl
def Xj(ls:List Lit):(ls.map λl=>[l]).flatten=ls:=by
 induction ls with
 |nil=>rfl
 |cons a l b=>simp[b]
def FOk:Nat->List Field->List V_->List Lit->Prop
 |_,[],[],[]=>True
 |i,f::fs,v::vs,x::ls=>f.offset=i/\((f.type=9/\∃s:St,v=d_ s/\x=.string s/\s.length<=m_)\/(f.type=3/\∃n,v=.int .i64 n/\x=.int .i64 n/\x.wf=true))/\FOk (i+1) fs vs ls
 |_,_,_,_=>False
def FOk.len:∀{i:Nat}{fs:List Field}{vs:List V_}{ls:List Lit},FOk i fs vs ls->fs.length=ls.length/\vs.length=ls.length
 |_,[],[],[],_=>⟨rfl,rfl⟩
 |_,_::_,_::_,_::_,h=>by have:=h.2.2.len;simp[this]
def FOk.at:∀{n:Nat}{fs:List Field}{vs:List V_}{ls:List Lit},FOk n fs vs ls->∀(m i:Nat) f l,fs[i]?=some f->ls[i]?=some l->f.offset=n+i/\prog.keyLits (m+1) f.type ((vs.drop i).take (prog.cellsOf f.type))=some [l]
 |n,f::fs,v::vs,x::ls,h,m,i,g,l,hg,hl=>by
  match i with
  |0=>
   simp at hg hl;subst hg hl;refine⟨h.1,?_⟩;rcases h.2.1 with⟨e,s,rfl,rfl,a⟩|⟨e,s,rfl,rfl,a⟩;(·rw[e,abJ];exact kl9 m s a);·rw[e,cells3];exact kl3 m s a
  |i+1=>
   have:=h.2.2.at m i g l (Q hg) (Q hl);exact⟨U,Q this.2⟩
structure TK(t:T_)(n:Nat):Prop where
 row:t<prog.types.size
 kt:prog.keyTypeAt 2 t=true
 ktt:prog.keyType t=true
 wide:(match prog.underlying t with|some (.array _ _)|some (.struct _)=>true|_=>false)=true
 cells:prog.cellsOf t=n
def TK.law{t:T_}{n:Nat}(h:TK t n):WideMaps.KeyLaw prog t:=by obtain⟨a,b,_,c,_⟩:=h;have d:=laidOut;generalize prog=P at *;exact deep_law_laid d (m:=2) U a b c
def TK.key{t:T_}{n:Nat}{fs:Array Field}{vs:Array V_}{ls:List Lit}(h:TK t n)(a:prog.underlying t=some (.struct fs))(b:ls.length=n)(hb:fs.all (λf=>f.name != "_")=true)(c:FOk 0 fs.toList vs.toList ls):keyOf prog t (.agg vs)=some (.string (keyBytes ls)):=by obtain⟨p,_,k,_,hc⟩:=h;have o:=c.at;obtain⟨e,g⟩:=c.len;have d:vs.size=ls.length:=Q_ g;generalize prog=Q at *;obtain⟨m,j⟩:∃m,Q.types.size=m+1:=⟨Q.types.size-1,(Nat.sub_add_cancel (Nat.zero_lt_of_lt p)).symm⟩;(have hf:(Value.agg vs).formed Q t=true:=by unfold Value.formed;rw[a];simp[hc,d,b]);(have hl:Q.keyLits (m+1+1) t vs.toList=some ls:=by unfold Program.keyLits;rw[a];simp only[];rw[A_ ⟨by simp[hc,d,b],Q_ hb⟩];rw[afv (ls:=ls) e λi f l hf hl=>?_];(·rw[ih_,Xj]);·have:=o m i f l hf hl;rw[this.1,IZ];exact this.2);unfold keyOf;rw[a];simp only[];rw[A_ (by rw[k,hf];rfl),j,Value.cells,hl];rfl
def TK.inj{t:T_}{n:Nat}{a v2:Array V_}{b c:List Lit}(h:TK t n)(d:keyOf prog t (.agg a)=some (.string (keyBytes b)))(f:keyOf prog t (.agg v2)=some (.string (keyBytes c)))(e:Lit.string (keyBytes b)=Lit.string (keyBytes c)):a=v2:=by have g:=(ii_ h.law).inj (d.trans (qQ some e)) f;injection g
abbrev vP(p:Pc):Array V_:= #[p.kind,d_ p.A,d_ p.B,d_ p.C,d_ p.R,d_ p.S,d_ p.T,p.lo,p.hi,p.fA]
def lP(p:Pc):List Lit:=[.int .i64 p.kind,.string p.A,.string p.B,.string p.C,.string p.R,.string p.S,.string p.T,.int .i64 p.lo,.int .i64 p.hi,.int .i64 p.fA]
def WC(p:Pc):Prop:=(Lit.int .i64 p.kind).wf=true/\p.A.length<=m_/\p.B.length<=m_/\p.C.length<=m_/\p.R.length<=m_/\p.S.length<=m_/\p.T.length<=m_/\(Lit.int .i64 p.lo).wf=true/\(Lit.int .i64 p.hi).wf=true/\(Lit.int .i64 p.fA).wf=true
def tP:TK 146 10:=⟨I4 (by kernel_rfl),by kernel_rfl,by kernel_rfl,by kernel_rfl,by kernel_rfl⟩
def afw:WideMaps.KeyLaw prog 146:=tP.law
def Qw(p:Pc)(a:WC p):keyOf prog 146 (.agg (vP p))=some (.string (keyBytes (lP p))):=tP.key underlying146 rfl S ⟨rfl,.inr ⟨rfl,_,rfl,rfl,a.1⟩,rfl,.inl ⟨rfl,_,rfl,rfl,a.2.1⟩,rfl,.inl ⟨rfl,_,rfl,rfl,a.2.2.1⟩,rfl,.inl ⟨rfl,_,rfl,rfl,a.2.2.2.1⟩,rfl,.inl ⟨rfl,_,rfl,rfl,a.2.2.2.2.1⟩,rfl,.inl ⟨rfl,_,rfl,rfl,a.2.2.2.2.2.1⟩,rfl,.inl ⟨rfl,_,rfl,rfl,a.2.2.2.2.2.2.1⟩,rfl,.inr ⟨rfl,_,rfl,rfl,a.2.2.2.2.2.2.2.1⟩,rfl,.inr ⟨rfl,_,rfl,rfl,a.2.2.2.2.2.2.2.2.1⟩,rfl,.inr ⟨rfl,_,rfl,rfl,a.2.2.2.2.2.2.2.2.2⟩,trivial⟩
noncomputable def KP:KK prog 146 Pc:=⟨λp=> .agg (vP p),λp=> .string (keyBytes (lP p)),WC,ii_ afw,Qw,λx y hx hy e=>by
 have h:=tP.inj (Qw x hx) (Qw y hy) e;cases x;cases y;simp at h
 simp[h]⟩
abbrev vF(p:Fc):Array V_:= #[p.kind,d_ p.A,d_ p.B,d_ p.R,p.lo,p.hi]
def lF(p:Fc):List Lit:=[.int .i64 p.kind,.string p.A,.string p.B,.string p.R,.int .i64 p.lo,.int .i64 p.hi]
def okF(p:Fc):Prop:=(Lit.int .i64 p.kind).wf=true/\p.A.length<=m_/\p.B.length<=m_/\p.R.length<=m_/\(Lit.int .i64 p.lo).wf=true/\(Lit.int .i64 p.hi).wf=true
def tF:TK 148 6:=⟨I4 (by kernel_rfl),by kernel_rfl,by kernel_rfl,by kernel_rfl,by kernel_rfl⟩
def afx:WideMaps.KeyLaw prog 148:=tF.law
def Qx(p:Fc)(a:okF p):keyOf prog 148 (.agg (vF p))=some (.string (keyBytes (lF p))):=tF.key underlying148 rfl S ⟨rfl,.inr ⟨rfl,_,rfl,rfl,a.1⟩,rfl,.inl ⟨rfl,_,rfl,rfl,a.2.1⟩,rfl,.inl ⟨rfl,_,rfl,rfl,a.2.2.1⟩,rfl,.inl ⟨rfl,_,rfl,rfl,a.2.2.2.1⟩,rfl,.inr ⟨rfl,_,rfl,rfl,a.2.2.2.2.1⟩,rfl,.inr ⟨rfl,_,rfl,rfl,a.2.2.2.2.2⟩,trivial⟩
noncomputable def KF:KK prog 148 Fc:=⟨λp=> .agg (vF p),λp=> .string (keyBytes (lF p)),okF,ii_ afx,Qx,λx y hx hy e=>by
 have h:=tF.inj (Qx x hx) (Qx y hy) e;cases x;cases y;simp at h
 simp[h]⟩
structure Rl where
 first:St
 second:St
 role:St
deriving DecidableEq
def lR(p:Rl):List Lit:=[.string p.first,.string p.second,.string p.role]
structure Ky where
 kind:Int
 role:St
 atom:St
deriving DecidableEq
abbrev vY(p:Ky):Array V_:= #[p.kind,d_ p.role,d_ p.atom]
def lY(p:Ky):List Lit:=[.int .i64 p.kind,.string p.role,.string p.atom]
def okY(p:Ky):Prop:=(Lit.int .i64 p.kind).wf=true/\p.role.length<=m_/\p.atom.length<=m_
def tY:TK 315 3:=⟨I4 (by kernel_rfl),by kernel_rfl,by kernel_rfl,by kernel_rfl,by kernel_rfl⟩
def adK:WideMaps.KeyLaw prog 315:=tY.law
def Qy(p:Ky)(a:okY p):keyOf prog 315 (.agg (vY p))=some (.string (keyBytes (lY p))):=tY.key underlying315 rfl S ⟨rfl,.inr ⟨rfl,_,rfl,rfl,a.1⟩,rfl,.inl ⟨rfl,_,rfl,rfl,a.2.1⟩,rfl,.inl ⟨rfl,_,rfl,rfl,a.2.2⟩,trivial⟩
noncomputable def KY:KK prog 315 Ky:=⟨λp=> .agg (vY p),λp=> .string (keyBytes (lY p)),okY,ii_ adK,Qy,λx y hx hy e=>by
 have h:=tY.inj (Qy x hx) (Qy y hy) e;cases x;cases y;simp at h
 simp[h]⟩
structure Sp where
 atom:St
 role:St
deriving DecidableEq
abbrev vS(p:Sp):Array V_:= #[d_ p.atom,d_ p.role]
def lS(p:Sp):List Lit:=[.string p.atom,.string p.role]
def Zq(p:Sp):Prop:=p.atom.length<=m_/\p.role.length<=m_
def tS:TK 273 2:=⟨I4 (by kernel_rfl),by kernel_rfl,by kernel_rfl,by kernel_rfl,by kernel_rfl⟩
def Xk:WideMaps.KeyLaw prog 273:=tS.law
def Qz(p:Sp)(a:Zq p):keyOf prog 273 (.agg (vS p))=some (.string (keyBytes (lS p))):=tS.key underlying273 rfl S ⟨rfl,.inl ⟨rfl,_,rfl,rfl,a.1⟩,rfl,.inl ⟨rfl,_,rfl,rfl,a.2⟩,trivial⟩
noncomputable def KS:KK prog 273 Sp:=⟨λp=> .agg (vS p),λp=> .string (keyBytes (lS p)),Zq,ii_ Xk,Qz,λx y hx hy e=>by
 have h:=tS.inj (Qz x hx) (Qz y hy) e;cases x;cases y;simp at h
 simp[h]⟩
end
section
open Go.RowKit Tryz
def jd{κ α:Type}[DecidableEq κ](l:List (κ×α))(k:κ):List α:=l.filterMap λq=>if q.1=k then some q.2 else none
def jl{c α:Type}[DecidableEq c]{l:List (c×α)}{k:c}{a:α}:a∈jd l k↔(k,a)∈l:=by unfold jd;rw[List.mem_filterMap];constructor;(·rintro⟨⟨f,g⟩,d,b⟩;split at b;(·rename_i e;injection b with b;simp only at e b;rw[<-e,<-b];exact d);·cases b);·exact λh=>⟨_,h,S⟩
def Fb{c α:Type}[DecidableEq c](l:List (c×α))(b:c)(a:α):jd (l++[(b,a)])=j6 (jd l) b (jd l b++[a]):=by funext k;unfold jd j6;rw[fo_];by_cases e:k=b;(·subst e;simp);·rw[u_ e];simp[Zl e]
def rH{a α:Type}[DecidableEq a](l:List (a×α))(k:a):(jd l k).length<=l.length:=fp_ _ _
def iG(x:Pc):List Ky:=
 if x.kind=1\/x.kind=3\/x.kind=8 then[⟨x.kind,[],x.A⟩]
 else if x.kind=2 then(if x.B≠x.A then[⟨2,[],x.A⟩,⟨2,[],x.B⟩] else[⟨2,[],x.A⟩])
 else if x.kind=4 then[⟨4,[],x.A⟩,⟨4,x.R,x.A⟩]
 else if x.kind=5\/x.kind=9 then[⟨x.kind,x.R,[]⟩]
 else if x.kind=6 then[⟨6,x.R,[]⟩,⟨6,[],x.S⟩] else[]
def Canon(x:Pc):Prop:=
 (x.kind=1/\x=kP x.A x.C)\/(x.kind=2/\x=vL x.A x.B x.C)\/(x.kind=3/\x=ng x.A x.R x.C/\x.R≠[])\/(x.kind=4/\x=ni x.R x.A x.C/\x.R≠[])\/(x.kind=5/\x=rF x.R x.T/\x.R≠[]/\x.T≠[])\/
 (x.kind=6/\x=jy x.R x.S x.T/\x.R≠[]/\x.S≠[]/\x.T≠[])\/(x.kind=7/\x=oP x.R/\x.R≠[])\/(x.kind=8/\x=Tk x.A x.R x.lo x.hi/\x.R≠[])\/(x.kind=9/\x=zU x.R x.lo x.hi x.C/\x.R≠[])
structure SmF(f:Fc):Prop where
 k:1<=f.kind/\f.kind<=3
 a:f.A.length<=100000
 b:f.B.length<=100000
 r:f.R.length<=100000
 lo: -1099511627776<=f.lo/\f.lo<=1099511627776
 hi: -1099511627776<=f.hi/\f.hi<=1099511627776
structure ZW(p:Pc):Prop where
 a:p.A.length<=100000
 b:p.B.length<=100000
 c:p.C.length<=100000
 r:p.R.length<=100000
 s:p.S.length<=100000
 t:p.T.length<=100000
 lo: -1099511627776<=p.lo/\p.lo<=1099511627776
 hi: -1099511627776<=p.hi/\p.hi<=1099511627776
structure vM(P:List Pc):Prop where
 can:∀x,sQ P x->Canon x
 sm:∀x,sQ P x->ZW x
 rng:∀x,sQ P x->x.kind=8\/x.kind=9->x.lo<=x.hi
section
variable{P:List Pc}
def Xl(b:vM P){f:Fc}(h:jK P f):f.kind=2->f.R≠[]:=by
 have key:∀{x:Pc},sQ P x->Canon x:=λh=>b.can _ h
 induction h with
 |refl _=>intro h;cases h
 |top _=>intro h;cases h
 |loop _ a=>intro _;have:=key a;simp[Canon,oP]at this;exact this
 |sub _ _ _=>intro h;cases h
 |both _ _ _ _ _=>intro h;cases h
 |some _ a _=>intro _;have:=key a;simp[Canon,ng]at this;exact this
 |role _ a _=>intro _;have:=key a;simp[Canon,rF]at this;exact this.2
 |chain _ _ c _ _=>intro _;have:=key c;simp[Canon,jy]at this;exact this.2.2
 |fill _ _ _ _ _=>intro h;cases h
 |none _ _ _ _=>intro h;cases h
 |value _ _ _=>intro h;cases h
 |meet _ _ _ _ _=>intro h;cases h
 |apart _ _ _ _ _=>intro h;cases h
 |out _ _ _ _ _=>intro h;cases h
def Fe{f:Fc}(h:jK P f):f=n_ f.A f.B\/f=N_ f.A f.R f.B\/f=Y_ f.A f.R f.lo f.hi:=by cases h<;>first|exact .inl rfl|exact .inr (.inl rfl)|exact .inr (.inr rfl)
def Lb(e:vM P){s:St}(h:lM P s):s.length<=100000:=by rcases h with rfl|rfl|⟨_,x,f,h⟩;(·decide);(·decide);·have d:=e.sm _ ⟨x,f,rfl⟩;rcases h with rfl|rfl|rfl;(·exact d.a);(·exact d.b);·exact d.c
def rZ(e:vM P){f:Fc}(h:jK P f):SmF f:=by
 (have key:∀{x:Pc},sQ P x->ZW x:=λh=>e.sm _ h);have z:(-1099511627776:Int)<=0/\(0:Int)<=1099511627776:=U;have n:([]:St).length<=100000:=S;have tp:jo.length<=100000:=D;have k:iE.length<=100000:=D
 induction h with
 |refl h=>have:=Lb e h;exact⟨by simp[n_],this,this,n,z,z⟩
 |top h=>have:=Lb e h;exact⟨by simp[n_],this,tp,n,z,z⟩
 |loop h d=>have:=Lb e h;exact⟨by simp[N_],this,this,(key d).r,z,z⟩
 |sub _ d i=>exact⟨by simp[n_],i.a,(key d).c,n,z,z⟩
 |both _ _ h i _=>exact⟨by simp[n_],i.a,(key h).c,n,z,z⟩
 |some _ h i=>exact⟨by simp[N_],i.a,(key h).c,(key h).r,z,z⟩
 |role _ h i=>exact⟨by simp[N_],i.a,i.b,(key h).t,z,z⟩
 |chain _ _ h i j=>exact⟨by simp[N_],i.a,j.b,(key h).t,z,z⟩
 |fill _ _ h i j=>exact⟨by simp[n_],i.a,(key h).c,n,z,z⟩
 |none _ _ i _=>exact⟨by simp[n_],i.a,k,n,z,z⟩
 |value _ h i=>exact⟨by simp[Y_],i.a,n,(key h).r,(key h).lo,(key h).hi⟩
 |meet _ _ _ i j=>
  refine⟨by simp[Y_],i.a,n,i.r,?_,?_⟩;(·have g:=i.lo;have d:=j.lo;simp only[Y_]at g d ⊢;omega);·have g:=i.hi;have d:=j.hi;simp only[Y_]at g d ⊢;omega
 |apart _ _ _ i _=>exact⟨by simp[n_],i.a,k,n,z,z⟩
 |out _ h _ _ i=>exact⟨by simp[n_],i.a,(key h).c,n,z,z⟩
def abL(a:vM P){f:Fc}(h:jK P f):f.kind=3->f.lo<=f.hi:=by
 cases h with
 |value _ b=>intro _;exact a.rng _ b (.inl rfl)
 |meet _ _ h=>intro _;exact h
 |refl _=>intro h;cases h
 |top _=>intro h;cases h
 |loop _ _=>intro h;cases h
 |sub _ _=>intro h;cases h
 |both _ _ _=>intro h;cases h
 |some _ _=>intro h;cases h
 |role _ _=>intro h;cases h
 |chain _ _ _=>intro h;cases h
 |fill _ _ _=>intro h;cases h
 |none _ _=>intro h;cases h
 |apart _ _ _=>intro h;cases h
 |out _ _ _ _=>intro h;cases h
end
inductive pE(F:Fc->Prop)(a r:St):Int->Int->Prop
 |one {l h:Int}:F (Y_ a r l h)->pE F a r l h
 |meet {l h l' h':Int}:pE F a r l h->F (Y_ a r l' h')->max l l'<=min h h'->pE F a r (max l l') (min h h')
def pE.mono{F G:Fc->Prop}{a r:St}{l h:Int}(hi:pE F a r l h)(b:∀f,F f->G f):pE G a r l h:=by
 induction hi with
 |one c=>exact .one (b _ c)
 |meet _ d e g=>exact .meet g (b _ d) e
structure ES where
 pu:List (Ky×Pc)
 lp:List St
 D:List Fc
 fm:List Fc
 ix:List Fc
 ab:List (St×St)
 un:List (St×St)
 fr:List (Sp×St)
 it:List (Sp×St)
 ra:List (Sp×Fc)
 fi:List (Sp×Fc)
structure Inv(P:List Pc)(most:Nat)(s:ES):Prop where
 pu:∀k x,(k,x)∈s.pu↔sQ P x/\k∈iG x
 lp:∀r,r∈s.lp↔sQ P (oP r)
 nd:s.D.Nodup
 CO:∀f∈s.D,jK P f
 len:s.D.length<=most+1
 Bt:∀f∈s.ix,f∈s.D
 ab:∀a b,(a,b)∈s.ab↔n_ a b∈s.ix
 un:∀b a,(b,a)∈s.un↔∃r,N_ a r b∈s.ix
 fr:∀a r b,(⟨a,r⟩,b)∈s.fr↔N_ a r b∈s.ix
 it:∀a r b,(⟨b,r⟩,a)∈s.it↔N_ a r b∈s.ix
 ra:∀p x,(p,x)∈s.ra↔x∈s.ix/\x=Y_ p.atom p.role x.lo x.hi
 fi:∀p x,(p,x)∈s.fi↔(x∈s.ix/\x=Y_ p.atom p.role x.lo x.hi)/\x∈s.fm
 fm:∀x∈s.fm,x∈s.D\/most<s.D.length
 fmd:∀x∈s.fm,jK P x
 is:∀x∈s.D,x.kind=3->pE (·∈s.fm) x.A x.R x.lo x.hi
 fmb:s.D.length<=most->s.fm.length<=s.D.length
 pul:s.pu.length<=1000000
 ln:s.ix.length<=s.D.length/\s.ab.length<=s.ix.length/\s.un.length<=s.ix.length/\s.fr.length<=s.ix.length/\s.it.length<=s.ix.length/\s.ra.length<=s.ix.length/\s.fi.length<=s.ix.length
structure To(P:List Pc)(most:Nat)(s s':ES)(Q:Fc->Prop):Prop where
 inv:Inv P most s'
 d:∃t,s'.D=s.D++t
 fm:∃t,s'.fm=s.fm++t
 fmn:∀x∈s.D,x∈s'.fm->x∈s.fm
 pu:s'.pu=s.pu
 lp:s'.lp=s.lp
 ix:s'.ix=s.ix
 ab:s'.ab=s.ab
 un:s'.un=s.un
 fr:s'.fr=s.fr
 it:s'.it=s.it
 ra:s'.ra=s.ra
 fi:s'.fi=s.fi
 all:∀c,Q c->c∈s'.D\/most<s'.D.length
section
variable{P:List Pc}{most:Nat}{s s' s'':ES}{Q R:Fc->Prop}
def To.refl(h:Inv P most s):To P most s s (λ_=>False):=⟨h,⟨[],S⟩,⟨[],S⟩,λ_ _ h=>h,rfl,rfl,rfl,rfl,rfl,rfl,rfl,rfl,rfl,λ_ h=>h.elim⟩
def To.mem(h:To P most s s' Q){c:Fc}(hc:c∈s.D):c∈s'.D:=by obtain⟨t,e⟩:=h.d;rw[e];exact P7 _ hc
def To.le(h:To P most s s' Q):s.D.length<=s'.D.length:=by obtain⟨t,e⟩:=h.d;rw[e];simp
def To.trans(h:To P most s s' Q)(k:To P most s' s'' R):To P most s s'' (λc=>Q c\/R c):=by refine⟨k.inv,?_,?_,λx f g=>h.fmn x f (k.fmn x (h.mem f) g),k.pu.trans h.pu,k.lp.trans h.lp,k.ix.trans h.ix,k.ab.trans h.ab,k.un.trans h.un,k.fr.trans h.fr,k.it.trans h.it,k.ra.trans h.ra,k.fi.trans h.fi,λc hc=>?_⟩;(·obtain⟨t,e⟩:=h.d;obtain⟨u,a⟩:=k.d;exact⟨t++u,by rw[a,e,Ho]⟩);(·obtain⟨t,e⟩:=h.fm;obtain⟨u,a⟩:=k.fm;exact⟨t++u,by rw[a,e,Ho]⟩);·rcases hc with hc|hc;(·rcases h.all c hc with b|b;(·exact .inl (k.mem b));·exact .inr (sK b k.le));·exact k.all c hc
def To.weak(h:To P most s s' Q)(a:∀c,R c->Q c):To P most s s' R:=⟨h.inv,h.d,h.fm,h.fmn,h.pu,h.lp,h.ix,h.ab,h.un,h.fr,h.it,h.ra,h.fi,λc hc=>h.all c (a c hc)⟩
def iW(most:Nat)(D:List Fc)(c:Fc):List Fc:=if D.length<=most/\c∉D then D++[c] else D
def Bu(D:List Fc)(c:Fc):c∈iW most D c\/most<(iW most D c).length:=by unfold iW;by_cases b:D.length<=most;(·by_cases a:c∈D;(·rw[u_ (λh=>h.2 a)];exact .inl a);·rw[A_ ⟨b,a⟩];exact .inl S);·rw[u_ (λh=>b h.1)];exact .inr U
def To.emit(h:Inv P most s){c:Fc}(n:jK P c)(o:c.kind=3->pE (·∈s.fm) c.A c.R c.lo c.hi):To P most s {s with D:=iW most s.D c} (λx=>x=c):=by(have l:∀x∈s.D,x∈iW most s.D c:=λx d=>by unfold iW;split;(·exact P7 _ d);·exact d);(have m:∀x∈iW most s.D c,x∈s.D\/x=c:=λx d=>by unfold iW at d;split at d;(·rcases gH.1 d with d|d;(·exact .inl d);·exact .inr (gy.1 d));·exact .inl d);(have g:s.D.length<=(iW most s.D c).length:=by unfold iW;split;(·simp);·exact fU _);refine⟨⟨h.pu,h.lp,?_,λf hf=>?_,?_,λf hf=>l f (h.Bt f hf),h.ab,h.un,h.fr,h.it,h.ra,h.fi,λx d=>?_,h.fmd,λx d j=>?_,λq=>?_,h.pul,⟨gT h.ln.1 g,h.ln.2⟩⟩,?_,⟨[],S⟩,λ_ _ h=>h,rfl,rfl,rfl,rfl,rfl,rfl,rfl,rfl,rfl,λx d=>by rw[d];exact Bu _ _⟩;(·show(iW most s.D c).Nodup;unfold iW;split;(·rename_i e;exact fq_.2 ⟨h.nd,S,λa p b hb k=>e.2 (by rw[gy.1 hb]at k;rw[<-k];exact p)⟩);·exact h.nd);(·rcases m f hf with hf|rfl;(·exact h.CO f hf);·exact n);(·show(iW most s.D c).length<=_;unfold iW;split;(·rename_i e;simp;exact e.1);·exact h.len);(·rcases h.fm x d with i|i;(·exact .inl (l x i));·exact .inr (sK i g));(·rcases m x d with d|rfl;(·exact h.is x d j);·exact o j);(·exact gT (h.fmb (gT g q)) g);·show ∃t,iW most s.D c=s.D++t;unfold iW;split;(·exact⟨_,rfl⟩);·exact⟨[],S⟩
def To.afy(h:Inv P most s){c:Fc}(k:jK P c)(hc:c=Y_ c.A c.R c.lo c.hi)(l:c∉s.D):To P most s {s with fm:=s.fm++[c],D:=iW most s.D c} (λx=>x=c):=by have m:(λx=>x∈s.fm) c\/True:= .inr trivial;have i:=To.emit (most:=most) h (c:=c) k;(have q:∀x∈s.D,x∈iW most s.D c:=λx d=>by unfold iW;split;(·exact P7 _ d);·exact d);(have r:∀x∈iW most s.D c,x∈s.D\/x=c:=λx d=>by unfold iW at d;split at d;(·rcases gH.1 d with d|d;(·exact .inl d);·exact .inr (gy.1 d));·exact .inl d);(have j:s.D.length<=(iW most s.D c).length:=by unfold iW;split;(·simp);·exact fU _);(have up:∀x,x∈s.fm->x∈s.fm++[c]:=λx d=>P7 _ d);refine⟨⟨h.pu,h.lp,?_,λf hf=>?_,?_,λf hf=>q f (h.Bt f hf),h.ab,h.un,h.fr,h.it,h.ra,λp x=>?_,λx d=>?_,λx d=>?_,λx d m=>?_,λo=>?_,h.pul,⟨gT h.ln.1 j,h.ln.2⟩⟩,?_,⟨[c],rfl⟩,λx d g=>?_,rfl,rfl,rfl,rfl,rfl,rfl,rfl,rfl,rfl,λx d=>by rw[d];exact Bu _ _⟩;(·show(iW most s.D c).Nodup;unfold iW;split;(·rename_i e;exact fq_.2 ⟨h.nd,S,λa u b hb n=>e.2 (by rw[gy.1 hb]at n;rw[<-n];exact u)⟩);·exact h.nd);(·rcases r f hf with hf|rfl;(·exact h.CO f hf);·exact k);(·show(iW most s.D c).length<=_;unfold iW;split;(·rename_i e;simp;exact e.1);·exact h.len);(·rw[h.fi p x];constructor;(·exact λ⟨a,b⟩=>⟨a,up x b⟩);·rintro⟨a,b⟩;refine⟨a,?_⟩;rcases gH.1 b with b|b;(·exact b);·rw[gy.1 b]at a;exact absurd (h.Bt _ a.1) l);(·rcases gH.1 d with d|d;(·rcases h.fm x d with i|i;(·exact .inl (q x i));·exact .inr (sK i j));·rw[gy.1 d];exact Bu _ _);(·rcases gH.1 d with d|d;(·exact h.fmd x d);·rw[gy.1 d];exact k);(·rcases r x d with d|rfl;(·exact(h.is x d m).mono up);·refine .one ?_;show Y_ x.A x.R x.lo x.hi∈_;rw[<-hc];simp);(·have w:=h.fmb (gT j o);have v:s.D.length<=most:=gT j o;show(s.fm++[c]).length<=(iW most s.D c).length;unfold iW;rw[A_ ⟨v,l⟩];simp;omega);(·show ∃t,iW most s.D c=s.D++t;unfold iW;split;(·exact⟨_,rfl⟩);·exact⟨[],S⟩);·rcases gH.1 g with g|g;(·exact g);·rw[gy.1 g]at d;exact absurd d l
end
inductive Cq(P:List Pc)(F I:Fc->Prop):Fc->Fc->Prop
 |contain {a b c:St}:sQ P (kP b c)->Cq P F I (n_ a b) (n_ a c)
 |both {a b d c:St} {f:Fc}:sQ P (vL b d c)->I (n_ a b)->I (n_ a d)->f=n_ a b\/f=n_ a d->Cq P F I f (n_ a c)
 |some {a b r c:St}:sQ P (ng b r c)->Cq P F I (n_ a b) (N_ a r c)
 |Tp {a b r x d:St}:sQ P (ni r b d)->I (N_ a r x)->Cq P F I (n_ x b) (n_ a d)
 |Lc {a r x:St}:I (N_ a r x)->Cq P F I (n_ x iE) (n_ a iE)
 |value {a b r:St} {l h:Int}:sQ P (Tk b r l h)->Cq P F I (n_ a b) (Y_ a r l h)
 |role {a r b t:St}:sQ P (rF r t)->Cq P F I (N_ a r b) (N_ a t b)
 |Ld {a r b s c t:St}:sQ P (jy r s t)->I (N_ b s c)->Cq P F I (N_ a r b) (N_ a t c)
 |Le {a r b s c t:St}:sQ P (jy r s t)->I (N_ a r b)->Cq P F I (N_ b s c) (N_ a t c)
 |Tt {a r b c d:St}:sQ P (ni r c d)->I (n_ b c)->Cq P F I (N_ a r b) (n_ a d)
 |Lf {a r b:St}:I (n_ b iE)->Cq P F I (N_ a r b) (n_ a iE)
 |meet {a r:St} {l h l' h':Int}:I (Y_ a r l' h')->F (Y_ a r l h)\/F (Y_ a r l' h')->max l l'<=min h h'->Cq P F I (Y_ a r l h) (Y_ a r (max l l') (min h h'))
 |apart {a r:St} {l h l' h':Int}:I (Y_ a r l' h')->F (Y_ a r l h)\/F (Y_ a r l' h')->min h h'<max l l'->Cq P F I (Y_ a r l h) (n_ a iE)
 |out {a r c:St} {l h l' h':Int}:sQ P (zU r l' h' c)->l'<=l->h<=h'->Cq P F I (Y_ a r l h) (n_ a c)
def saturated{P:List Pc}{D:List Fc}{F:Fc->Prop}(ad:∀f∈D,jK P f)(T:∀x,F x->x∈D)(hb:∀a,lM P a->n_ a a∈D/\n_ a jo∈D/\∀r,sQ P (oP r)->N_ a r a∈D)(W:∀x∈D,x.kind=3->pE F x.A x.R x.lo x.hi)(H:∀n f,D[n]?=some f->∀c,Cq P F (·∈D.take (n+1)) f c->c∈D){f:Fc}(h:jK P f):f∈D:=by
 (have t:∀x y,x∈D->y∈D->∀c,((∀I:Fc->Prop,I x->I y->Cq P F I x c))->((∀I:Fc->Prop,I x->I y->Cq P F I y c))->c∈D:=λx y u q c p g=>by obtain⟨i,hi⟩:=Wz u;obtain⟨j,B⟩:=Wz q;(have v:∀(n m:Nat)(z:Fc),D[n]?=some z->n<=m->z∈D.take (m+1):=λn m z C ac=>gM (i:=n) (by rw[MW,A_ U];exact C));rcases Nat.le_total i j with E|E;(·exact H j y B c (g _ (v i j x hi E) (v j j y B (fU _))));·exact H i x hi c (p _ (v i i x hi (fU _)) (v j i y B E)));(have one:∀x,x∈D->∀c,(∀I:Fc->Prop,Cq P F I x c)->c∈D:=λx u c p=>t x x u u c (λI _ _=>p I) (λI _ _=>p I));have K:∀a r l h b d,F (Y_ a r l h)->Y_ a r b d∈D->(max l b<=min h d->Y_ a r (max l b) (min h d)∈D)/\(min h d<max l b->n_ a iE∈D):=λa r l h b d o q=>by refine⟨λX=>t _ _ (T _ o) q _ (λI _ i2=> .meet i2 (.inl o) X) (λI e _=>?_),λab=>t _ _ (T _ o) q _ (λI _ i2=> .apart i2 (.inl o) ab) (λI e _=> .apart e (.inr o) U)⟩;have:=Cq.meet (P:=P) (F:=F) (I:=I) (l:=b) (h:=d) e (.inr o) U;rw[show max b l=max l b by omega,show min d h=min h d by omega]at this;exact this
 have M2:∀a r l h,pE F a r l h->∀b d,Y_ a r b d∈D->(max l b<=min h d->Y_ a r (max l b) (min h d)∈D)/\(min h d<max l b->n_ a iE∈D):=λa r l h Z=>by
  induction Z with
  |one o=>exact λb d q=>K a r _ _ b d o q
  | @meet L p w g _ o X aa=>
    intro b d q;have m:=K a r w g b d o q;by_cases C:max w b<=min g d;(·have k:=aa _ _ (m.1 C);rw[show max L (max w b)=max (max L w) b by omega,show min p (min g d)=min (min p g) d by omega]at k;exact k);·exact⟨λh=>U,λ_=>m.2 U⟩
 induction h with
 |refl h=>exact(hb _ h).1
 |top h=>exact(hb _ h).2.1
 |loop h g=>exact(hb _ h).2.2 _ g
 |sub _ g i=>exact one _ i _ λI=> .contain g
 |both _ _ h i j=>exact t _ _ i j _ (λI e i2=> .both h e i2 (.inl rfl)) (λI e i2=> .both h e i2 (.inr rfl))
 |some _ h i=>exact one _ i _ λI=> .some h
 |role _ h i=>exact one _ i _ λI=> .role h
 |chain _ _ h i j=>exact t _ _ i j _ (λI _ i2=> .Ld h i2) (λI e _=> .Le h e)
 |fill _ _ h i j=>exact t _ _ i j _ (λI _ i2=> .Tt h i2) (λI e _=> .Tp h e)
 |none _ _ i j=>exact t _ _ i j _ (λI _ i2=> .Lf i2) (λI e _=> .Lc e)
 |value _ h i=>exact one _ i _ λI=> .value h
 |meet _ _ h i j=>exact(M2 _ _ _ _ (W _ i rfl) _ _ j).1 h
 |apart _ _ h i j=>exact(M2 _ _ _ _ (W _ i rfl) _ _ j).2 h
 |out _ h p g i=>exact one _ i _ λI=> .out h p g
end
end Go.Proofs.YtjmbkfjklemmpaaGreatDoor
